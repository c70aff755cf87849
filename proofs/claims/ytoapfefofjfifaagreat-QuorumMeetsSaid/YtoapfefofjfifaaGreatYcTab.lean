/- A part of the proof of statements of this seat: lemmas, no statement of their own. -/
import Derived.Test.YtoapfefofjfifaaGreatQArr
import Derived.Test.YtoapfefofjfifaaGreatQStr
import Derived.Test.YtoapfefofjfifaaGreatProg
set_option maxRecDepth 100000
namespace Go.Q.Yc
structure S_runtime_boundsError where
  f_x : Int
  f_y : Int
  f_signed : Bool
  f_code : Int
def S_runtime_boundsError.cs (x : S_runtime_boundsError) : List Value := [.int .i64 x.f_x, .int .i64 x.f_y, .bool x.f_signed, .int .u8 x.f_code]

structure S_runtime_errorAddressString where
  f_msg : ByteArray
  f_addr : Int
def S_runtime_errorAddressString.cs (x : S_runtime_errorAddressString) : List Value := [.string x.f_msg, .int .u64 x.f_addr]

structure S_internal_runtime_maps_unhashableTypeError where
  f_typ : Option Addr
def S_internal_runtime_maps_unhashableTypeError.cs (x : S_internal_runtime_maps_unhashableTypeError) : List Value := [.pointer x.f_typ]

structure S_api_Query where
  f_Select : ByteArray
  f_From : Int
  f_To : Int
  f_Agg : Int
  f_Step : Int
def S_api_Query.cs (x : S_api_Query) : List Value := [.string x.f_Select, .int .i64 x.f_From, .int .i64 x.f_To, .int .i64 x.f_Agg, .int .i64 x.f_Step]

structure S_api_Command where
  f_Kind : Int
  f_Tenant : ByteArray
  f_Epoch : Int
  f_Nonce : List Int
  f_Wrapped : Slc
  f_Horizon : Int
def S_api_Command.cs (x : S_api_Command) : List Value := [.int .i64 x.f_Kind, .string x.f_Tenant, .int .u32 x.f_Epoch] ++ (arr 12 .u8 x.f_Nonce) ++ [Slc.v x.f_Wrapped, .int .i64 x.f_Horizon]

structure S_api_Op where
  f_N : Int
  f_Kind : Int
  f_Tenant : ByteArray
  f_Pieces : Slc
  f_Q : S_api_Query
  f_Cmd : S_api_Command
  f_Low : Int
  f_Nodes : Slc
  f_Yes : Slc
  f_Age : Int
  f_Done : Bool
  f_E : Int
  f_Rows : Slc
def S_api_Op.cs (x : S_api_Op) : List Value := [.int .u64 x.f_N, .int .i64 x.f_Kind, .string x.f_Tenant, Slc.v x.f_Pieces] ++ (S_api_Query.cs x.f_Q) ++ (S_api_Command.cs x.f_Cmd) ++ [.int .i64 x.f_Low, Slc.v x.f_Nodes, Slc.v x.f_Yes, .int .i64 x.f_Age, .bool x.f_Done, .int .i64 x.f_E, Slc.v x.f_Rows]

structure S_quaestorlaw31_Act where
  f_Kind : Int
  f_O : S_api_Op
  f_N : Int
  f_Node : Int
  f_L : Slc
  f_E : Int
def S_quaestorlaw31_Act.cs (x : S_quaestorlaw31_Act) : List Value := [.int .i64 x.f_Kind] ++ (S_api_Op.cs x.f_O) ++ [.int .u64 x.f_N, .int .i64 x.f_Node, Slc.v x.f_L, .int .i64 x.f_E]

structure S_quorum_Desk where
  f_ops : Option Nat
def S_quorum_Desk.cs (x : S_quorum_Desk) : List Value := [.map x.f_ops]

structure S_api_Want where
  f_N : Int
  f_Node : Int
def S_api_Want.cs (x : S_api_Want) : List Value := [.int .u64 x.f_N, .int .i64 x.f_Node]

structure S_api_Id where
  f_N : Int
  f_Node : Int
def S_api_Id.cs (x : S_api_Id) : List Value := [.int .u64 x.f_N, .int .u16 x.f_Node]

structure S_api_Piece where
  f_Series : ByteArray
  f_T : Int
  f_V : Int
  f_Id : S_api_Id
def S_api_Piece.cs (x : S_api_Piece) : List Value := [.string x.f_Series, .int .i64 x.f_T, .int .i64 x.f_V] ++ (S_api_Id.cs x.f_Id)

structure S_api_Wide where
  f_Hi : Int
  f_Lo : Int
def S_api_Wide.cs (x : S_api_Wide) : List Value := [.int .i64 x.f_Hi, .int .u64 x.f_Lo]

structure S_api_Row where
  f_Series : ByteArray
  f_T : Int
  f_W : S_api_Wide
def S_api_Row.cs (x : S_api_Row) : List Value := [.string x.f_Series, .int .i64 x.f_T] ++ (S_api_Wide.cs x.f_W)

structure S_piece_place where
  f_series : ByteArray
  f_t : Int
def S_piece_place.cs (x : S_piece_place) : List Value := [.string x.f_series, .int .i64 x.f_t]

structure S_api_Selector where
  f_Name : ByteArray
  f_L : Slc
def S_api_Selector.cs (x : S_api_Selector) : List Value := [.string x.f_Name, Slc.v x.f_L]

structure S_api_Series where
  f_Name : ByteArray
  f_Labels : Slc
def S_api_Series.cs (x : S_api_Series) : List Value := [.string x.f_Name, Slc.v x.f_Labels]

structure S_api_Question where
  f_Name : ByteArray
  f_Sign : Int
  f_Value : ByteArray
def S_api_Question.cs (x : S_api_Question) : List Value := [.string x.f_Name, .int .i64 x.f_Sign, .string x.f_Value]

structure S_api_Label where
  f_Name : ByteArray
  f_Value : ByteArray
def S_api_Label.cs (x : S_api_Label) : List Value := [.string x.f_Name, .string x.f_Value]

structure S_runtime_TypeAssertionError where
  f__interface : Option Addr
  f_concrete : Option Addr
  f_asserted : Option Addr
  f_missingMethod : ByteArray
def S_runtime_TypeAssertionError.cs (x : S_runtime_TypeAssertionError) : List Value := [.pointer x.f__interface, .pointer x.f_concrete, .pointer x.f_asserted, .string x.f_missingMethod]

structure S_runtime_PanicNilError where
  f__ : List Value
def S_runtime_PanicNilError.cs (x : S_runtime_PanicNilError) : List Value := (x.f__)

structure S_internal_abi_Type where
  f_Size_ : Int
  f_PtrBytes : Int
  f_Hash : Int
  f_TFlag : Int
  f_Align_ : Int
  f_FieldAlign_ : Int
  f_Kind_ : Int
  f_Equal : Value
  f_GCData : Option Addr
  f_Str : Int
  f_PtrToThis : Int
def S_internal_abi_Type.cs (x : S_internal_abi_Type) : List Value := [.int .u64 x.f_Size_, .int .u64 x.f_PtrBytes, .int .u32 x.f_Hash, .int .u8 x.f_TFlag, .int .u8 x.f_Align_, .int .u8 x.f_FieldAlign_, .int .u8 x.f_Kind_, x.f_Equal, .pointer x.f_GCData, .int .i32 x.f_Str, .int .i32 x.f_PtrToThis]
def tab : Tab := [
  (1, ⟨.func, 1, 8, [.nilFunc]⟩),
  (2, ⟨.int .i64, 1, 8, [.int .i64 0]⟩),
  (3, ⟨.int .i64, 1, 8, [.int .i64 0]⟩),
  (4, ⟨.bool, 1, 1, [.bool false]⟩),
  (5, ⟨.int .u8, 1, 1, [.int .u8 0]⟩),
  (6, ⟨.int .u8, 1, 1, [.int .u8 0]⟩),
  (7, ⟨.struct [(2, 0), (3, 1), (4, 2), (6, 3)], 4, 24, [.int .i64 0, .int .i64 0, .bool false, .int .u8 0]⟩),
  (8, ⟨.struct [(2, 0), (3, 1), (4, 2), (6, 3)], 4, 24, [.int .i64 0, .int .i64 0, .bool false, .int .u8 0]⟩),
  (9, ⟨.string, 1, 16, [.string ByteArray.empty]⟩),
  (10, ⟨.string, 1, 16, [.string ByteArray.empty]⟩),
  (11, ⟨.string, 1, 16, [.string ByteArray.empty]⟩),
  (12, ⟨.int .u64, 1, 8, [.int .u64 0]⟩),
  (13, ⟨.struct [(9, 0), (12, 1)], 2, 24, [.string ByteArray.empty, .int .u64 0]⟩),
  (14, ⟨.struct [(9, 0), (12, 1)], 2, 24, [.string ByteArray.empty, .int .u64 0]⟩),
  (15, ⟨.pointer 209, 1, 8, [.pointer none]⟩),
  (16, ⟨.pointer 212, 1, 8, [.pointer none]⟩),
  (17, ⟨.pointer 221, 1, 8, [.pointer none]⟩),
  (18, ⟨.struct [(17, 0)], 1, 8, [.pointer none]⟩),
  (19, ⟨.struct [(17, 0)], 1, 8, [.pointer none]⟩),
  (20, ⟨.iface, 1, 16, [.nilIface]⟩),
  (21, ⟨.int .i32, 1, 4, [.int .i32 0]⟩),
  (22, ⟨.slice 5, 1, 24, [.slice none 0 0]⟩),
  (23, ⟨.func, 1, 8, [.nilFunc]⟩),
  (24, ⟨.pointer 53, 1, 8, [.pointer none]⟩),
  (25, ⟨.func, 1, 8, [.nilFunc]⟩),
  (26, ⟨.slice 3, 1, 24, [.slice none 0 0]⟩),
  (27, ⟨.int .i64, 1, 8, [.int .i64 0]⟩),
  (28, ⟨.func, 1, 8, [.nilFunc]⟩),
  (29, ⟨.int .u64, 1, 8, [.int .u64 0]⟩),
  (30, ⟨.slice 75, 1, 24, [.slice none 0 0]⟩),
  (31, ⟨.struct [(9, 0), (2, 1), (2, 2), (3, 3), (2, 4)], 5, 48, [.string ByteArray.empty, .int .i64 0, .int .i64 0, .int .i64 0, .int .i64 0]⟩),
  (32, ⟨.struct [(9, 0), (2, 1), (2, 2), (3, 3), (2, 4)], 5, 48, [.string ByteArray.empty, .int .i64 0, .int .i64 0, .int .i64 0, .int .i64 0]⟩),
  (33, ⟨.int .u32, 1, 4, [.int .u32 0]⟩),
  (34, ⟨.array 12 5, 12, 12, [.int .u8 0, .int .u8 0, .int .u8 0, .int .u8 0, .int .u8 0, .int .u8 0, .int .u8 0, .int .u8 0, .int .u8 0, .int .u8 0, .int .u8 0, .int .u8 0]⟩),
  (35, ⟨.array 12 5, 12, 12, [.int .u8 0, .int .u8 0, .int .u8 0, .int .u8 0, .int .u8 0, .int .u8 0, .int .u8 0, .int .u8 0, .int .u8 0, .int .u8 0, .int .u8 0, .int .u8 0]⟩),
  (36, ⟨.struct [(3, 0), (9, 1), (33, 2), (35, 3), (22, 15), (2, 16)], 17, 72, [.int .i64 0, .string ByteArray.empty, .int .u32 0, .int .u8 0, .int .u8 0, .int .u8 0, .int .u8 0, .int .u8 0, .int .u8 0, .int .u8 0, .int .u8 0, .int .u8 0, .int .u8 0, .int .u8 0, .int .u8 0, .slice none 0 0, .int .i64 0]⟩),
  (37, ⟨.struct [(3, 0), (9, 1), (33, 2), (35, 3), (22, 15), (2, 16)], 17, 72, [.int .i64 0, .string ByteArray.empty, .int .u32 0, .int .u8 0, .int .u8 0, .int .u8 0, .int .u8 0, .int .u8 0, .int .u8 0, .int .u8 0, .int .u8 0, .int .u8 0, .int .u8 0, .int .u8 0, .int .u8 0, .slice none 0 0, .int .i64 0]⟩),
  (38, ⟨.slice 81, 1, 24, [.slice none 0 0]⟩),
  (39, ⟨.struct [(29, 0), (3, 1), (9, 2), (30, 3), (32, 4), (37, 9), (2, 26), (26, 27), (26, 28), (3, 29), (4, 30), (27, 31), (38, 32)], 33, 280, [.int .u64 0, .int .i64 0, .string ByteArray.empty, .slice none 0 0, .string ByteArray.empty, .int .i64 0, .int .i64 0, .int .i64 0, .int .i64 0, .int .i64 0, .string ByteArray.empty, .int .u32 0, .int .u8 0, .int .u8 0, .int .u8 0, .int .u8 0, .int .u8 0, .int .u8 0, .int .u8 0, .int .u8 0, .int .u8 0, .int .u8 0, .int .u8 0, .int .u8 0, .slice none 0 0, .int .i64 0, .int .i64 0, .slice none 0 0, .slice none 0 0, .int .i64 0, .bool false, .int .i64 0, .slice none 0 0]⟩),
  (40, ⟨.struct [(29, 0), (3, 1), (9, 2), (30, 3), (32, 4), (37, 9), (2, 26), (26, 27), (26, 28), (3, 29), (4, 30), (27, 31), (38, 32)], 33, 280, [.int .u64 0, .int .i64 0, .string ByteArray.empty, .slice none 0 0, .string ByteArray.empty, .int .i64 0, .int .i64 0, .int .i64 0, .int .i64 0, .int .i64 0, .string ByteArray.empty, .int .u32 0, .int .u8 0, .int .u8 0, .int .u8 0, .int .u8 0, .int .u8 0, .int .u8 0, .int .u8 0, .int .u8 0, .int .u8 0, .int .u8 0, .int .u8 0, .int .u8 0, .slice none 0 0, .int .i64 0, .int .i64 0, .slice none 0 0, .slice none 0 0, .int .i64 0, .bool false, .int .i64 0, .slice none 0 0]⟩),
  (41, ⟨.func, 1, 8, [.nilFunc]⟩),
  (43, ⟨.func, 1, 8, [.nilFunc]⟩),
  (44, ⟨.func, 1, 8, [.nilFunc]⟩),
  (45, ⟨.struct [(3, 0), (40, 1), (29, 34), (3, 35), (30, 36), (27, 37)], 38, 336, [.int .i64 0, .int .u64 0, .int .i64 0, .string ByteArray.empty, .slice none 0 0, .string ByteArray.empty, .int .i64 0, .int .i64 0, .int .i64 0, .int .i64 0, .int .i64 0, .string ByteArray.empty, .int .u32 0, .int .u8 0, .int .u8 0, .int .u8 0, .int .u8 0, .int .u8 0, .int .u8 0, .int .u8 0, .int .u8 0, .int .u8 0, .int .u8 0, .int .u8 0, .int .u8 0, .slice none 0 0, .int .i64 0, .int .i64 0, .slice none 0 0, .slice none 0 0, .int .i64 0, .bool false, .int .i64 0, .slice none 0 0, .int .u64 0, .int .i64 0, .slice none 0 0, .int .i64 0]⟩),
  (46, ⟨.struct [(3, 0), (40, 1), (29, 34), (3, 35), (30, 36), (27, 37)], 38, 336, [.int .i64 0, .int .u64 0, .int .i64 0, .string ByteArray.empty, .slice none 0 0, .string ByteArray.empty, .int .i64 0, .int .i64 0, .int .i64 0, .int .i64 0, .int .i64 0, .string ByteArray.empty, .int .u32 0, .int .u8 0, .int .u8 0, .int .u8 0, .int .u8 0, .int .u8 0, .int .u8 0, .int .u8 0, .int .u8 0, .int .u8 0, .int .u8 0, .int .u8 0, .int .u8 0, .slice none 0 0, .int .i64 0, .int .i64 0, .slice none 0 0, .slice none 0 0, .int .i64 0, .bool false, .int .i64 0, .slice none 0 0, .int .u64 0, .int .i64 0, .slice none 0 0, .int .i64 0]⟩),
  (47, ⟨.func, 1, 8, [.nilFunc]⟩),
  (48, ⟨.func, 1, 8, [.nilFunc]⟩),
  (49, ⟨.slice 69, 1, 24, [.slice none 0 0]⟩),
  (50, ⟨.func, 1, 8, [.nilFunc]⟩),
  (51, ⟨.map 29 56, 1, 8, [.map none]⟩),
  (52, ⟨.struct [(51, 0)], 1, 8, [.map none]⟩),
  (53, ⟨.struct [(51, 0)], 1, 8, [.map none]⟩),
  (54, ⟨.func, 1, 8, [.nilFunc]⟩),
  (55, ⟨.func, 1, 8, [.nilFunc]⟩),
  (56, ⟨.pointer 40, 1, 8, [.pointer none]⟩),
  (58, ⟨.func, 1, 8, [.nilFunc]⟩),
  (59, ⟨.func, 1, 8, [.nilFunc]⟩),
  (60, ⟨.func, 1, 8, [.nilFunc]⟩),
  (61, ⟨.func, 1, 8, [.nilFunc]⟩),
  (63, ⟨.func, 1, 8, [.nilFunc]⟩),
  (64, ⟨.func, 1, 8, [.nilFunc]⟩),
  (65, ⟨.slice 29, 1, 24, [.slice none 0 0]⟩),
  (66, ⟨.func, 1, 8, [.nilFunc]⟩),
  (67, ⟨.func, 1, 8, [.nilFunc]⟩),
  (68, ⟨.struct [(29, 0), (3, 1)], 2, 16, [.int .u64 0, .int .i64 0]⟩),
  (69, ⟨.struct [(29, 0), (3, 1)], 2, 16, [.int .u64 0, .int .i64 0]⟩),
  (70, ⟨.func, 1, 8, [.nilFunc]⟩),
  (71, ⟨.int .u16, 1, 2, [.int .u16 0]⟩),
  (72, ⟨.struct [(29, 0), (71, 1)], 2, 16, [.int .u64 0, .int .u16 0]⟩),
  (73, ⟨.struct [(29, 0), (71, 1)], 2, 16, [.int .u64 0, .int .u16 0]⟩),
  (74, ⟨.struct [(9, 0), (2, 1), (2, 2), (73, 3)], 5, 48, [.string ByteArray.empty, .int .i64 0, .int .i64 0, .int .u64 0, .int .u16 0]⟩),
  (75, ⟨.struct [(9, 0), (2, 1), (2, 2), (73, 3)], 5, 48, [.string ByteArray.empty, .int .i64 0, .int .i64 0, .int .u64 0, .int .u16 0]⟩),
  (76, ⟨.func, 1, 8, [.nilFunc]⟩),
  (77, ⟨.func, 1, 8, [.nilFunc]⟩),
  (78, ⟨.struct [(2, 0), (29, 1)], 2, 16, [.int .i64 0, .int .u64 0]⟩),
  (79, ⟨.struct [(2, 0), (29, 1)], 2, 16, [.int .i64 0, .int .u64 0]⟩),
  (80, ⟨.struct [(9, 0), (2, 1), (79, 2)], 4, 40, [.string ByteArray.empty, .int .i64 0, .int .i64 0, .int .u64 0]⟩),
  (81, ⟨.struct [(9, 0), (2, 1), (79, 2)], 4, 40, [.string ByteArray.empty, .int .i64 0, .int .i64 0, .int .u64 0]⟩),
  (82, ⟨.func, 1, 8, [.nilFunc]⟩),
  (83, ⟨.func, 1, 8, [.nilFunc]⟩),
  (84, ⟨.slice 30, 1, 24, [.slice none 0 0]⟩),
  (85, ⟨.map 88 75, 1, 8, [.map none]⟩),
  (86, ⟨.func, 1, 8, [.nilFunc]⟩),
  (87, ⟨.struct [(9, 0), (2, 1)], 2, 24, [.string ByteArray.empty, .int .i64 0]⟩),
  (88, ⟨.struct [(9, 0), (2, 1)], 2, 24, [.string ByteArray.empty, .int .i64 0]⟩),
  (90, ⟨.func, 1, 8, [.nilFunc]⟩),
  (91, ⟨.func, 1, 8, [.nilFunc]⟩),
  (92, ⟨.func, 1, 8, [.nilFunc]⟩),
  (93, ⟨.func, 1, 8, [.nilFunc]⟩),
  (94, ⟨.func, 1, 8, [.nilFunc]⟩),
  (95, ⟨.func, 1, 8, [.nilFunc]⟩),
  (96, ⟨.func, 1, 8, [.nilFunc]⟩),
  (97, ⟨.func, 1, 8, [.nilFunc]⟩),
  (99, ⟨.func, 1, 8, [.nilFunc]⟩),
  (100, ⟨.func, 1, 8, [.nilFunc]⟩),
  (101, ⟨.func, 1, 8, [.nilFunc]⟩),
  (102, ⟨.func, 1, 8, [.nilFunc]⟩),
  (103, ⟨.func, 1, 8, [.nilFunc]⟩),
  (104, ⟨.func, 1, 8, [.nilFunc]⟩),
  (105, ⟨.func, 1, 8, [.nilFunc]⟩),
  (106, ⟨.func, 1, 8, [.nilFunc]⟩),
  (107, ⟨.func, 1, 8, [.nilFunc]⟩),
  (108, ⟨.func, 1, 8, [.nilFunc]⟩),
  (109, ⟨.func, 1, 8, [.nilFunc]⟩),
  (110, ⟨.func, 1, 8, [.nilFunc]⟩),
  (111, ⟨.func, 1, 8, [.nilFunc]⟩),
  (112, ⟨.func, 1, 8, [.nilFunc]⟩),
  (113, ⟨.func, 1, 8, [.nilFunc]⟩),
  (114, ⟨.slice 147, 1, 24, [.slice none 0 0]⟩),
  (115, ⟨.struct [(9, 0), (114, 1)], 2, 40, [.string ByteArray.empty, .slice none 0 0]⟩),
  (116, ⟨.struct [(9, 0), (114, 1)], 2, 40, [.string ByteArray.empty, .slice none 0 0]⟩),
  (118, ⟨.func, 1, 8, [.nilFunc]⟩),
  (119, ⟨.map 9 4, 1, 8, [.map none]⟩),
  (120, ⟨.func, 1, 8, [.nilFunc]⟩),
  (122, ⟨.slice 151, 1, 24, [.slice none 0 0]⟩),
  (123, ⟨.struct [(9, 0), (122, 1)], 2, 40, [.string ByteArray.empty, .slice none 0 0]⟩),
  (124, ⟨.struct [(9, 0), (122, 1)], 2, 40, [.string ByteArray.empty, .slice none 0 0]⟩),
  (126, ⟨.func, 1, 8, [.nilFunc]⟩),
  (127, ⟨.func, 1, 8, [.nilFunc]⟩),
  (128, ⟨.func, 1, 8, [.nilFunc]⟩),
  (129, ⟨.func, 1, 8, [.nilFunc]⟩),
  (130, ⟨.func, 1, 8, [.nilFunc]⟩),
  (132, ⟨.func, 1, 8, [.nilFunc]⟩),
  (133, ⟨.func, 1, 8, [.nilFunc]⟩),
  (134, ⟨.func, 1, 8, [.nilFunc]⟩),
  (135, ⟨.func, 1, 8, [.nilFunc]⟩),
  (136, ⟨.func, 1, 8, [.nilFunc]⟩),
  (137, ⟨.func, 1, 8, [.nilFunc]⟩),
  (138, ⟨.func, 1, 8, [.nilFunc]⟩),
  (139, ⟨.func, 1, 8, [.nilFunc]⟩),
  (140, ⟨.int .u64, 1, 8, [.int .u64 0]⟩),
  (141, ⟨.func, 1, 8, [.nilFunc]⟩),
  (143, ⟨.func, 1, 8, [.nilFunc]⟩),
  (145, ⟨.func, 1, 8, [.nilFunc]⟩),
  (146, ⟨.struct [(9, 0), (3, 1), (9, 2)], 3, 40, [.string ByteArray.empty, .int .i64 0, .string ByteArray.empty]⟩),
  (147, ⟨.struct [(9, 0), (3, 1), (9, 2)], 3, 40, [.string ByteArray.empty, .int .i64 0, .string ByteArray.empty]⟩),
  (149, ⟨.func, 1, 8, [.nilFunc]⟩),
  (150, ⟨.struct [(9, 0), (9, 1)], 2, 32, [.string ByteArray.empty, .string ByteArray.empty]⟩),
  (151, ⟨.struct [(9, 0), (9, 1)], 2, 32, [.string ByteArray.empty, .string ByteArray.empty]⟩),
  (152, ⟨.func, 1, 8, [.nilFunc]⟩),
  (153, ⟨.func, 1, 8, [.nilFunc]⟩),
  (154, ⟨.func, 1, 8, [.nilFunc]⟩),
  (155, ⟨.func, 1, 8, [.nilFunc]⟩),
  (157, ⟨.func, 1, 8, [.nilFunc]⟩),
  (159, ⟨.func, 1, 8, [.nilFunc]⟩),
  (160, ⟨.func, 1, 8, [.nilFunc]⟩),
  (161, ⟨.func, 1, 8, [.nilFunc]⟩),
  (162, ⟨.func, 1, 8, [.nilFunc]⟩),
  (163, ⟨.func, 1, 8, [.nilFunc]⟩),
  (164, ⟨.int .i64, 1, 8, [.int .i64 0]⟩),
  (166, ⟨.func, 1, 8, [.nilFunc]⟩),
  (167, ⟨.func, 1, 8, [.nilFunc]⟩),
  (168, ⟨.func, 1, 8, [.nilFunc]⟩),
  (170, ⟨.func, 1, 8, [.nilFunc]⟩),
  (171, ⟨.func, 1, 8, [.nilFunc]⟩),
  (172, ⟨.func, 1, 8, [.nilFunc]⟩),
  (173, ⟨.func, 1, 8, [.nilFunc]⟩),
  (174, ⟨.slice 9, 1, 24, [.slice none 0 0]⟩),
  (175, ⟨.func, 1, 8, [.nilFunc]⟩),
  (176, ⟨.func, 1, 8, [.nilFunc]⟩),
  (177, ⟨.func, 1, 8, [.nilFunc]⟩),
  (178, ⟨.func, 1, 8, [.nilFunc]⟩),
  (179, ⟨.func, 1, 8, [.nilFunc]⟩),
  (180, ⟨.func, 1, 8, [.nilFunc]⟩),
  (182, ⟨.func, 1, 8, [.nilFunc]⟩),
  (183, ⟨.func, 1, 8, [.nilFunc]⟩),
  (184, ⟨.func, 1, 8, [.nilFunc]⟩),
  (185, ⟨.func, 1, 8, [.nilFunc]⟩),
  (186, ⟨.func, 1, 8, [.nilFunc]⟩),
  (187, ⟨.func, 1, 8, [.nilFunc]⟩),
  (188, ⟨.func, 1, 8, [.nilFunc]⟩),
  (189, ⟨.int .u64, 1, 8, [.int .u64 0]⟩),
  (190, ⟨.func, 1, 8, [.nilFunc]⟩),
  (191, ⟨.func, 1, 8, [.nilFunc]⟩),
  (192, ⟨.func, 1, 8, [.nilFunc]⟩),
  (193, ⟨.pointer 3, 1, 8, [.pointer none]⟩),
  (194, ⟨.func, 1, 8, [.nilFunc]⟩),
  (195, ⟨.func, 1, 8, [.nilFunc]⟩),
  (196, ⟨.func, 1, 8, [.nilFunc]⟩),
  (197, ⟨.func, 1, 8, [.nilFunc]⟩),
  (198, ⟨.func, 1, 8, [.nilFunc]⟩),
  (199, ⟨.func, 1, 8, [.nilFunc]⟩),
  (200, ⟨.pointer 189, 1, 8, [.pointer none]⟩),
  (202, ⟨.func, 1, 8, [.nilFunc]⟩),
  (203, ⟨.func, 1, 8, [.nilFunc]⟩),
  (204, ⟨.func, 1, 8, [.nilFunc]⟩),
  (206, ⟨.func, 1, 8, [.nilFunc]⟩),
  (207, ⟨.func, 1, 8, [.nilFunc]⟩),
  (208, ⟨.struct [(17, 0), (17, 1), (17, 2), (9, 3)], 4, 40, [.pointer none, .pointer none, .pointer none, .string ByteArray.empty]⟩),
  (209, ⟨.struct [(17, 0), (17, 1), (17, 2), (9, 3)], 4, 40, [.pointer none, .pointer none, .pointer none, .string ByteArray.empty]⟩),
  (210, ⟨.array 0 16, 0, 0, []⟩),
  (211, ⟨.struct [(210, 0)], 0, 0, []⟩),
  (212, ⟨.struct [(210, 0)], 0, 0, []⟩),
  (213, ⟨.func, 1, 8, [.nilFunc]⟩),
  (214, ⟨.int .u8, 1, 1, [.int .u8 0]⟩),
  (215, ⟨.int .u8, 1, 1, [.int .u8 0]⟩),
  (216, ⟨.func, 1, 8, [.nilFunc]⟩),
  (217, ⟨.pointer 5, 1, 8, [.pointer none]⟩),
  (218, ⟨.int .i32, 1, 4, [.int .i32 0]⟩),
  (219, ⟨.int .i32, 1, 4, [.int .i32 0]⟩),
  (220, ⟨.struct [(12, 0), (12, 1), (33, 2), (214, 3), (5, 4), (5, 5), (215, 6), (216, 7), (217, 8), (218, 9), (219, 10)], 11, 48, [.int .u64 0, .int .u64 0, .int .u32 0, .int .u8 0, .int .u8 0, .int .u8 0, .int .u8 0, .nilFunc, .pointer none, .int .i32 0, .int .i32 0]⟩),
  (221, ⟨.struct [(12, 0), (12, 1), (33, 2), (214, 3), (5, 4), (5, 5), (215, 6), (216, 7), (217, 8), (218, 9), (219, 10)], 11, 48, [.int .u64 0, .int .u64 0, .int .u32 0, .int .u8 0, .int .u8 0, .int .u8 0, .int .u8 0, .nilFunc, .pointer none, .int .i32 0, .int .i32 0]⟩)]
theorem tok : TOk Go.Proofs.Tryz.prog tab := TOk_of (by kernel_rfl)
end Go.Q.Yc
