/- A part of the proof of statements of this seat: lemmas, no statement of their own. -/
import Derived.Test.YtidhlagdagbggaaGreatQArr
import Derived.Test.YtidhlagdagbggaaGreatQStr
import Derived.Test.YtidhlagdagbggaaGreatProg
set_option maxRecDepth 100000
namespace Go.Q.Yz
structure S_runtime_boundsError where
  f_x : Int
  f_y : Int
  f_signed : Bool
  f_code : Int
def S_runtime_boundsError.cs (x : S_runtime_boundsError) : List Value := [.int .i64 x.f_x, .int .i64 x.f_y, .bool x.f_signed, .int .u8 x.f_code]

structure S_runtime_errorAddressString where
  f_msg : ByteArray
  f_addr : Int
def S_runtime_errorAddressString.cs (x : S_runtime_errorAddressString) : List Value := [.string x.f_msg, .int .u64 x.f_addr]

structure S_internal_runtime_maps_unhashableTypeError where
  f_typ : Option Addr
def S_internal_runtime_maps_unhashableTypeError.cs (x : S_internal_runtime_maps_unhashableTypeError) : List Value := [.pointer x.f_typ]

structure S_api_Query where
  f_Select : ByteArray
  f_From : Int
  f_To : Int
  f_Agg : Int
  f_Step : Int
def S_api_Query.cs (x : S_api_Query) : List Value := [.string x.f_Select, .int .i64 x.f_From, .int .i64 x.f_To, .int .i64 x.f_Agg, .int .i64 x.f_Step]

structure S_api_Id where
  f_N : Int
  f_Node : Int
def S_api_Id.cs (x : S_api_Id) : List Value := [.int .u64 x.f_N, .int .u16 x.f_Node]

structure S_api_Piece where
  f_Series : ByteArray
  f_T : Int
  f_V : Int
  f_Id : S_api_Id
def S_api_Piece.cs (x : S_api_Piece) : List Value := [.string x.f_Series, .int .i64 x.f_T, .int .i64 x.f_V] ++ (S_api_Id.cs x.f_Id)

structure S_api_Wide where
  f_Hi : Int
  f_Lo : Int
def S_api_Wide.cs (x : S_api_Wide) : List Value := [.int .i64 x.f_Hi, .int .u64 x.f_Lo]

structure S_api_Row where
  f_Series : ByteArray
  f_T : Int
  f_W : S_api_Wide
def S_api_Row.cs (x : S_api_Row) : List Value := [.string x.f_Series, .int .i64 x.f_T] ++ (S_api_Wide.cs x.f_W)

structure S_api_Selector where
  f_Name : ByteArray
  f_L : Slc
def S_api_Selector.cs (x : S_api_Selector) : List Value := [.string x.f_Name, Slc.v x.f_L]

structure S_api_Series where
  f_Name : ByteArray
  f_Labels : Slc
def S_api_Series.cs (x : S_api_Series) : List Value := [.string x.f_Name, Slc.v x.f_Labels]

structure S_api_Question where
  f_Name : ByteArray
  f_Sign : Int
  f_Value : ByteArray
def S_api_Question.cs (x : S_api_Question) : List Value := [.string x.f_Name, .int .i64 x.f_Sign, .string x.f_Value]

structure S_piece_place where
  f_series : ByteArray
  f_t : Int
def S_piece_place.cs (x : S_piece_place) : List Value := [.string x.f_series, .int .i64 x.f_t]

structure S_api_Label where
  f_Name : ByteArray
  f_Value : ByteArray
def S_api_Label.cs (x : S_api_Label) : List Value := [.string x.f_Name, .string x.f_Value]

structure S_runtime_TypeAssertionError where
  f__interface : Option Addr
  f_concrete : Option Addr
  f_asserted : Option Addr
  f_missingMethod : ByteArray
def S_runtime_TypeAssertionError.cs (x : S_runtime_TypeAssertionError) : List Value := [.pointer x.f__interface, .pointer x.f_concrete, .pointer x.f_asserted, .string x.f_missingMethod]

structure S_runtime_PanicNilError where
  f__ : List Value
def S_runtime_PanicNilError.cs (x : S_runtime_PanicNilError) : List Value := (x.f__)

structure S_internal_abi_Type where
  f_Size_ : Int
  f_PtrBytes : Int
  f_Hash : Int
  f_TFlag : Int
  f_Align_ : Int
  f_FieldAlign_ : Int
  f_Kind_ : Int
  f_Equal : Value
  f_GCData : Option Addr
  f_Str : Int
  f_PtrToThis : Int
def S_internal_abi_Type.cs (x : S_internal_abi_Type) : List Value := [.int .u64 x.f_Size_, .int .u64 x.f_PtrBytes, .int .u32 x.f_Hash, .int .u8 x.f_TFlag, .int .u8 x.f_Align_, .int .u8 x.f_FieldAlign_, .int .u8 x.f_Kind_, x.f_Equal, .pointer x.f_GCData, .int .i32 x.f_Str, .int .i32 x.f_PtrToThis]
def tab : Tab := [
  (1, ⟨.func, 1, 8, [.nilFunc]⟩),
  (2, ⟨.int .i64, 1, 8, [.int .i64 0]⟩),
  (3, ⟨.int .i64, 1, 8, [.int .i64 0]⟩),
  (4, ⟨.bool, 1, 1, [.bool false]⟩),
  (5, ⟨.int .u8, 1, 1, [.int .u8 0]⟩),
  (6, ⟨.int .u8, 1, 1, [.int .u8 0]⟩),
  (7, ⟨.struct [(2, 0), (3, 1), (4, 2), (6, 3)], 4, 24, [.int .i64 0, .int .i64 0, .bool false, .int .u8 0]⟩),
  (8, ⟨.struct [(2, 0), (3, 1), (4, 2), (6, 3)], 4, 24, [.int .i64 0, .int .i64 0, .bool false, .int .u8 0]⟩),
  (9, ⟨.string, 1, 16, [.string ByteArray.empty]⟩),
  (10, ⟨.string, 1, 16, [.string ByteArray.empty]⟩),
  (11, ⟨.string, 1, 16, [.string ByteArray.empty]⟩),
  (12, ⟨.int .u64, 1, 8, [.int .u64 0]⟩),
  (13, ⟨.struct [(9, 0), (12, 1)], 2, 24, [.string ByteArray.empty, .int .u64 0]⟩),
  (14, ⟨.struct [(9, 0), (12, 1)], 2, 24, [.string ByteArray.empty, .int .u64 0]⟩),
  (15, ⟨.pointer 176, 1, 8, [.pointer none]⟩),
  (16, ⟨.pointer 179, 1, 8, [.pointer none]⟩),
  (17, ⟨.pointer 188, 1, 8, [.pointer none]⟩),
  (18, ⟨.struct [(17, 0)], 1, 8, [.pointer none]⟩),
  (19, ⟨.struct [(17, 0)], 1, 8, [.pointer none]⟩),
  (20, ⟨.iface, 1, 16, [.nilIface]⟩),
  (21, ⟨.int .i32, 1, 4, [.int .i32 0]⟩),
  (22, ⟨.struct [(9, 0), (2, 1), (2, 2), (3, 3), (2, 4)], 5, 48, [.string ByteArray.empty, .int .i64 0, .int .i64 0, .int .i64 0, .int .i64 0]⟩),
  (23, ⟨.struct [(9, 0), (2, 1), (2, 2), (3, 3), (2, 4)], 5, 48, [.string ByteArray.empty, .int .i64 0, .int .i64 0, .int .i64 0, .int .i64 0]⟩),
  (24, ⟨.slice 46, 1, 24, [.slice none 0 0]⟩),
  (25, ⟨.func, 1, 8, [.nilFunc]⟩),
  (26, ⟨.func, 1, 8, [.nilFunc]⟩),
  (27, ⟨.int .i64, 1, 8, [.int .i64 0]⟩),
  (28, ⟨.func, 1, 8, [.nilFunc]⟩),
  (30, ⟨.func, 1, 8, [.nilFunc]⟩),
  (31, ⟨.slice 50, 1, 24, [.slice none 0 0]⟩),
  (33, ⟨.func, 1, 8, [.nilFunc]⟩),
  (35, ⟨.func, 1, 8, [.nilFunc]⟩),
  (36, ⟨.func, 1, 8, [.nilFunc]⟩),
  (37, ⟨.func, 1, 8, [.nilFunc]⟩),
  (38, ⟨.func, 1, 8, [.nilFunc]⟩),
  (39, ⟨.func, 1, 8, [.nilFunc]⟩),
  (40, ⟨.func, 1, 8, [.nilFunc]⟩),
  (41, ⟨.int .u64, 1, 8, [.int .u64 0]⟩),
  (42, ⟨.int .u16, 1, 2, [.int .u16 0]⟩),
  (43, ⟨.struct [(41, 0), (42, 1)], 2, 16, [.int .u64 0, .int .u16 0]⟩),
  (44, ⟨.struct [(41, 0), (42, 1)], 2, 16, [.int .u64 0, .int .u16 0]⟩),
  (45, ⟨.struct [(9, 0), (2, 1), (2, 2), (44, 3)], 5, 48, [.string ByteArray.empty, .int .i64 0, .int .i64 0, .int .u64 0, .int .u16 0]⟩),
  (46, ⟨.struct [(9, 0), (2, 1), (2, 2), (44, 3)], 5, 48, [.string ByteArray.empty, .int .i64 0, .int .i64 0, .int .u64 0, .int .u16 0]⟩),
  (47, ⟨.struct [(2, 0), (41, 1)], 2, 16, [.int .i64 0, .int .u64 0]⟩),
  (48, ⟨.struct [(2, 0), (41, 1)], 2, 16, [.int .i64 0, .int .u64 0]⟩),
  (49, ⟨.struct [(9, 0), (2, 1), (48, 2)], 4, 40, [.string ByteArray.empty, .int .i64 0, .int .i64 0, .int .u64 0]⟩),
  (50, ⟨.struct [(9, 0), (2, 1), (48, 2)], 4, 40, [.string ByteArray.empty, .int .i64 0, .int .i64 0, .int .u64 0]⟩),
  (51, ⟨.slice 86, 1, 24, [.slice none 0 0]⟩),
  (52, ⟨.struct [(9, 0), (51, 1)], 2, 40, [.string ByteArray.empty, .slice none 0 0]⟩),
  (53, ⟨.struct [(9, 0), (51, 1)], 2, 40, [.string ByteArray.empty, .slice none 0 0]⟩),
  (55, ⟨.func, 1, 8, [.nilFunc]⟩),
  (56, ⟨.map 9 4, 1, 8, [.map none]⟩),
  (57, ⟨.func, 1, 8, [.nilFunc]⟩),
  (58, ⟨.func, 1, 8, [.nilFunc]⟩),
  (60, ⟨.slice 103, 1, 24, [.slice none 0 0]⟩),
  (61, ⟨.struct [(9, 0), (60, 1)], 2, 40, [.string ByteArray.empty, .slice none 0 0]⟩),
  (62, ⟨.struct [(9, 0), (60, 1)], 2, 40, [.string ByteArray.empty, .slice none 0 0]⟩),
  (64, ⟨.func, 1, 8, [.nilFunc]⟩),
  (65, ⟨.func, 1, 8, [.nilFunc]⟩),
  (66, ⟨.slice 24, 1, 24, [.slice none 0 0]⟩),
  (67, ⟨.func, 1, 8, [.nilFunc]⟩),
  (68, ⟨.func, 1, 8, [.nilFunc]⟩),
  (70, ⟨.func, 1, 8, [.nilFunc]⟩),
  (71, ⟨.func, 1, 8, [.nilFunc]⟩),
  (72, ⟨.func, 1, 8, [.nilFunc]⟩),
  (74, ⟨.func, 1, 8, [.nilFunc]⟩),
  (76, ⟨.func, 1, 8, [.nilFunc]⟩),
  (77, ⟨.func, 1, 8, [.nilFunc]⟩),
  (79, ⟨.func, 1, 8, [.nilFunc]⟩),
  (81, ⟨.func, 1, 8, [.nilFunc]⟩),
  (82, ⟨.func, 1, 8, [.nilFunc]⟩),
  (84, ⟨.func, 1, 8, [.nilFunc]⟩),
  (85, ⟨.struct [(9, 0), (3, 1), (9, 2)], 3, 40, [.string ByteArray.empty, .int .i64 0, .string ByteArray.empty]⟩),
  (86, ⟨.struct [(9, 0), (3, 1), (9, 2)], 3, 40, [.string ByteArray.empty, .int .i64 0, .string ByteArray.empty]⟩),
  (88, ⟨.func, 1, 8, [.nilFunc]⟩),
  (89, ⟨.map 92 46, 1, 8, [.map none]⟩),
  (90, ⟨.func, 1, 8, [.nilFunc]⟩),
  (91, ⟨.struct [(9, 0), (2, 1)], 2, 24, [.string ByteArray.empty, .int .i64 0]⟩),
  (92, ⟨.struct [(9, 0), (2, 1)], 2, 24, [.string ByteArray.empty, .int .i64 0]⟩),
  (94, ⟨.func, 1, 8, [.nilFunc]⟩),
  (95, ⟨.func, 1, 8, [.nilFunc]⟩),
  (96, ⟨.func, 1, 8, [.nilFunc]⟩),
  (97, ⟨.func, 1, 8, [.nilFunc]⟩),
  (98, ⟨.func, 1, 8, [.nilFunc]⟩),
  (99, ⟨.func, 1, 8, [.nilFunc]⟩),
  (100, ⟨.func, 1, 8, [.nilFunc]⟩),
  (101, ⟨.func, 1, 8, [.nilFunc]⟩),
  (102, ⟨.struct [(9, 0), (9, 1)], 2, 32, [.string ByteArray.empty, .string ByteArray.empty]⟩),
  (103, ⟨.struct [(9, 0), (9, 1)], 2, 32, [.string ByteArray.empty, .string ByteArray.empty]⟩),
  (104, ⟨.func, 1, 8, [.nilFunc]⟩),
  (105, ⟨.func, 1, 8, [.nilFunc]⟩),
  (106, ⟨.func, 1, 8, [.nilFunc]⟩),
  (107, ⟨.func, 1, 8, [.nilFunc]⟩),
  (108, ⟨.func, 1, 8, [.nilFunc]⟩),
  (109, ⟨.func, 1, 8, [.nilFunc]⟩),
  (111, ⟨.func, 1, 8, [.nilFunc]⟩),
  (112, ⟨.func, 1, 8, [.nilFunc]⟩),
  (113, ⟨.slice 41, 1, 24, [.slice none 0 0]⟩),
  (114, ⟨.func, 1, 8, [.nilFunc]⟩),
  (115, ⟨.slice 9, 1, 24, [.slice none 0 0]⟩),
  (117, ⟨.func, 1, 8, [.nilFunc]⟩),
  (118, ⟨.func, 1, 8, [.nilFunc]⟩),
  (119, ⟨.func, 1, 8, [.nilFunc]⟩),
  (120, ⟨.func, 1, 8, [.nilFunc]⟩),
  (121, ⟨.func, 1, 8, [.nilFunc]⟩),
  (122, ⟨.func, 1, 8, [.nilFunc]⟩),
  (123, ⟨.slice 3, 1, 24, [.slice none 0 0]⟩),
  (124, ⟨.func, 1, 8, [.nilFunc]⟩),
  (125, ⟨.func, 1, 8, [.nilFunc]⟩),
  (126, ⟨.func, 1, 8, [.nilFunc]⟩),
  (127, ⟨.func, 1, 8, [.nilFunc]⟩),
  (128, ⟨.func, 1, 8, [.nilFunc]⟩),
  (129, ⟨.func, 1, 8, [.nilFunc]⟩),
  (130, ⟨.func, 1, 8, [.nilFunc]⟩),
  (131, ⟨.func, 1, 8, [.nilFunc]⟩),
  (132, ⟨.func, 1, 8, [.nilFunc]⟩),
  (133, ⟨.func, 1, 8, [.nilFunc]⟩),
  (134, ⟨.func, 1, 8, [.nilFunc]⟩),
  (135, ⟨.int .u64, 1, 8, [.int .u64 0]⟩),
  (137, ⟨.func, 1, 8, [.nilFunc]⟩),
  (139, ⟨.func, 1, 8, [.nilFunc]⟩),
  (140, ⟨.func, 1, 8, [.nilFunc]⟩),
  (141, ⟨.func, 1, 8, [.nilFunc]⟩),
  (142, ⟨.func, 1, 8, [.nilFunc]⟩),
  (143, ⟨.func, 1, 8, [.nilFunc]⟩),
  (144, ⟨.func, 1, 8, [.nilFunc]⟩),
  (145, ⟨.func, 1, 8, [.nilFunc]⟩),
  (146, ⟨.func, 1, 8, [.nilFunc]⟩),
  (147, ⟨.func, 1, 8, [.nilFunc]⟩),
  (148, ⟨.func, 1, 8, [.nilFunc]⟩),
  (150, ⟨.func, 1, 8, [.nilFunc]⟩),
  (151, ⟨.func, 1, 8, [.nilFunc]⟩),
  (152, ⟨.func, 1, 8, [.nilFunc]⟩),
  (153, ⟨.int .i64, 1, 8, [.int .i64 0]⟩),
  (155, ⟨.func, 1, 8, [.nilFunc]⟩),
  (156, ⟨.func, 1, 8, [.nilFunc]⟩),
  (157, ⟨.func, 1, 8, [.nilFunc]⟩),
  (159, ⟨.func, 1, 8, [.nilFunc]⟩),
  (160, ⟨.func, 1, 8, [.nilFunc]⟩),
  (161, ⟨.int .u32, 1, 4, [.int .u32 0]⟩),
  (162, ⟨.func, 1, 8, [.nilFunc]⟩),
  (164, ⟨.func, 1, 8, [.nilFunc]⟩),
  (165, ⟨.int .u64, 1, 8, [.int .u64 0]⟩),
  (166, ⟨.func, 1, 8, [.nilFunc]⟩),
  (167, ⟨.func, 1, 8, [.nilFunc]⟩),
  (168, ⟨.func, 1, 8, [.nilFunc]⟩),
  (169, ⟨.pointer 3, 1, 8, [.pointer none]⟩),
  (170, ⟨.func, 1, 8, [.nilFunc]⟩),
  (171, ⟨.pointer 165, 1, 8, [.pointer none]⟩),
  (173, ⟨.func, 1, 8, [.nilFunc]⟩),
  (174, ⟨.func, 1, 8, [.nilFunc]⟩),
  (175, ⟨.struct [(17, 0), (17, 1), (17, 2), (9, 3)], 4, 40, [.pointer none, .pointer none, .pointer none, .string ByteArray.empty]⟩),
  (176, ⟨.struct [(17, 0), (17, 1), (17, 2), (9, 3)], 4, 40, [.pointer none, .pointer none, .pointer none, .string ByteArray.empty]⟩),
  (177, ⟨.array 0 16, 0, 0, []⟩),
  (178, ⟨.struct [(177, 0)], 0, 0, []⟩),
  (179, ⟨.struct [(177, 0)], 0, 0, []⟩),
  (180, ⟨.func, 1, 8, [.nilFunc]⟩),
  (181, ⟨.int .u8, 1, 1, [.int .u8 0]⟩),
  (182, ⟨.int .u8, 1, 1, [.int .u8 0]⟩),
  (183, ⟨.func, 1, 8, [.nilFunc]⟩),
  (184, ⟨.pointer 5, 1, 8, [.pointer none]⟩),
  (185, ⟨.int .i32, 1, 4, [.int .i32 0]⟩),
  (186, ⟨.int .i32, 1, 4, [.int .i32 0]⟩),
  (187, ⟨.struct [(12, 0), (12, 1), (161, 2), (181, 3), (5, 4), (5, 5), (182, 6), (183, 7), (184, 8), (185, 9), (186, 10)], 11, 48, [.int .u64 0, .int .u64 0, .int .u32 0, .int .u8 0, .int .u8 0, .int .u8 0, .int .u8 0, .nilFunc, .pointer none, .int .i32 0, .int .i32 0]⟩),
  (188, ⟨.struct [(12, 0), (12, 1), (161, 2), (181, 3), (5, 4), (5, 5), (182, 6), (183, 7), (184, 8), (185, 9), (186, 10)], 11, 48, [.int .u64 0, .int .u64 0, .int .u32 0, .int .u8 0, .int .u8 0, .int .u8 0, .int .u8 0, .nilFunc, .pointer none, .int .i32 0, .int .i32 0]⟩)]
theorem tok : TOk Go.Proofs.Tryz.prog tab := TOk_of (by kernel_rfl)
end Go.Q.Yz
