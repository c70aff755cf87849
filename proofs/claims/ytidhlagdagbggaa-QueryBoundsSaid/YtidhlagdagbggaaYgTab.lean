/- A part of the proof of statements of this seat: lemmas, no statement of their own. -/
import Derived.Test.YtidhlagdagbggaaQArr
import Derived.Test.YtidhlagdagbggaaQStr
import Derived.Test.YtidhlagdagbggaaProg
set_option maxRecDepth 100000
namespace Go.Q.Yg
structure S_runtime_boundsError where
  f_x : Int
  f_y : Int
  f_signed : Bool
  f_code : Int
def S_runtime_boundsError.cs (x : S_runtime_boundsError) : List Value := [.int .i64 x.f_x, .int .i64 x.f_y, .bool x.f_signed, .int .u8 x.f_code]

structure S_runtime_errorAddressString where
  f_msg : ByteArray
  f_addr : Int
def S_runtime_errorAddressString.cs (x : S_runtime_errorAddressString) : List Value := [.string x.f_msg, .int .u64 x.f_addr]

structure S_internal_runtime_maps_unhashableTypeError where
  f_typ : Option Addr
def S_internal_runtime_maps_unhashableTypeError.cs (x : S_internal_runtime_maps_unhashableTypeError) : List Value := [.pointer x.f_typ]

structure S_api_Msg where
  f_Kind : Int
  f_Term : Int
  f_Index : Int
  f_LogTerm : Int
  f_Commit : Int
  f_Yes : Bool
  f_Entries : Slc
  f_Snap : Slc
def S_api_Msg.cs (x : S_api_Msg) : List Value := [.int .i64 x.f_Kind, .int .u64 x.f_Term, .int .u64 x.f_Index, .int .u64 x.f_LogTerm, .int .u64 x.f_Commit, .bool x.f_Yes, Slc.v x.f_Entries, Slc.v x.f_Snap]

structure S_api_Query where
  f_Select : ByteArray
  f_From : Int
  f_To : Int
  f_Agg : Int
  f_Step : Int
def S_api_Query.cs (x : S_api_Query) : List Value := [.string x.f_Select, .int .i64 x.f_From, .int .i64 x.f_To, .int .i64 x.f_Agg, .int .i64 x.f_Step]

structure S_api_Wide where
  f_Hi : Int
  f_Lo : Int
def S_api_Wide.cs (x : S_api_Wide) : List Value := [.int .i64 x.f_Hi, .int .u64 x.f_Lo]

structure S_api_Row where
  f_Series : ByteArray
  f_T : Int
  f_W : S_api_Wide
def S_api_Row.cs (x : S_api_Row) : List Value := [.string x.f_Series, .int .i64 x.f_T] ++ (S_api_Wide.cs x.f_W)

structure S_api_Entry where
  f_Term : Int
  f_Cmd : Slc
def S_api_Entry.cs (x : S_api_Entry) : List Value := [.int .u64 x.f_Term, Slc.v x.f_Cmd]

structure S_raft_reader where
  f_b : Slc
  f_bad : Bool
def S_raft_reader.cs (x : S_raft_reader) : List Value := [Slc.v x.f_b, .bool x.f_bad]

structure S_api_Id where
  f_N : Int
  f_Node : Int
def S_api_Id.cs (x : S_api_Id) : List Value := [.int .u64 x.f_N, .int .u16 x.f_Node]

structure S_api_Piece where
  f_Series : ByteArray
  f_T : Int
  f_V : Int
  f_Id : S_api_Id
def S_api_Piece.cs (x : S_api_Piece) : List Value := [.string x.f_Series, .int .i64 x.f_T, .int .i64 x.f_V] ++ (S_api_Id.cs x.f_Id)

structure S_raft_Raft where
  f_me : Int
  f_n : Int
  f_term : Int
  f_vote : Int
  f_log : Option Addr
  f_snap : Slc
  f_commit : Int
  f_role : Int
  f_leader : Int
  f_ticks : Int
  f_ballot : Option Addr
  f_next : Slc
  f_has : Slc
  f_keeps : Slc
def S_raft_Raft.cs (x : S_raft_Raft) : List Value := [.int .i64 x.f_me, .int .i64 x.f_n, .int .u64 x.f_term, .int .i64 x.f_vote, .pointer x.f_log, Slc.v x.f_snap, .int .u64 x.f_commit, .int .i64 x.f_role, .int .i64 x.f_leader, .int .i64 x.f_ticks, .pointer x.f_ballot, Slc.v x.f_next, Slc.v x.f_has, Slc.v x.f_keeps]

structure S_api_Selector where
  f_Name : ByteArray
  f_L : Slc
def S_api_Selector.cs (x : S_api_Selector) : List Value := [.string x.f_Name, Slc.v x.f_L]

structure S_api_Series where
  f_Name : ByteArray
  f_Labels : Slc
def S_api_Series.cs (x : S_api_Series) : List Value := [.string x.f_Name, Slc.v x.f_Labels]

structure S_api_Keep where
  f_Kind : Int
  f_Term : Int
  f_Vote : Int
  f_Index : Int
  f_Entries : Slc
  f_Snap : Slc
def S_api_Keep.cs (x : S_api_Keep) : List Value := [.int .i64 x.f_Kind, .int .u64 x.f_Term, .int .i64 x.f_Vote, .int .u64 x.f_Index, Slc.v x.f_Entries, Slc.v x.f_Snap]

structure S_rlog_Log where
  f_index : Int
  f_term : Int
  f_l : Slc
def S_rlog_Log.cs (x : S_rlog_Log) : List Value := [.int .u64 x.f_index, .int .u64 x.f_term, Slc.v x.f_l]

structure S_api_Question where
  f_Name : ByteArray
  f_Sign : Int
  f_Value : ByteArray
def S_api_Question.cs (x : S_api_Question) : List Value := [.string x.f_Name, .int .i64 x.f_Sign, .string x.f_Value]

structure S_piece_place where
  f_series : ByteArray
  f_t : Int
def S_piece_place.cs (x : S_piece_place) : List Value := [.string x.f_series, .int .i64 x.f_t]

structure S_api_Label where
  f_Name : ByteArray
  f_Value : ByteArray
def S_api_Label.cs (x : S_api_Label) : List Value := [.string x.f_Name, .string x.f_Value]

structure S_api_Mail where
  f_Node : Int
  f_M : S_api_Msg
def S_api_Mail.cs (x : S_api_Mail) : List Value := [.int .i64 x.f_Node] ++ (S_api_Msg.cs x.f_M)

structure S_vote_Ballot where
  f_n : Int
  f_yes : Int
def S_vote_Ballot.cs (x : S_vote_Ballot) : List Value := [.int .i64 x.f_n, .int .u64 x.f_yes]

structure S_runtime_TypeAssertionError where
  f__interface : Option Addr
  f_concrete : Option Addr
  f_asserted : Option Addr
  f_missingMethod : ByteArray
def S_runtime_TypeAssertionError.cs (x : S_runtime_TypeAssertionError) : List Value := [.pointer x.f__interface, .pointer x.f_concrete, .pointer x.f_asserted, .string x.f_missingMethod]

structure S_runtime_PanicNilError where
  f__ : List Value
def S_runtime_PanicNilError.cs (x : S_runtime_PanicNilError) : List Value := (x.f__)

structure S_internal_abi_Type where
  f_Size_ : Int
  f_PtrBytes : Int
  f_Hash : Int
  f_TFlag : Int
  f_Align_ : Int
  f_FieldAlign_ : Int
  f_Kind_ : Int
  f_Equal : Value
  f_GCData : Option Addr
  f_Str : Int
  f_PtrToThis : Int
def S_internal_abi_Type.cs (x : S_internal_abi_Type) : List Value := [.int .u64 x.f_Size_, .int .u64 x.f_PtrBytes, .int .u32 x.f_Hash, .int .u8 x.f_TFlag, .int .u8 x.f_Align_, .int .u8 x.f_FieldAlign_, .int .u8 x.f_Kind_, x.f_Equal, .pointer x.f_GCData, .int .i32 x.f_Str, .int .i32 x.f_PtrToThis]
def tab : Tab := [
  (1, ⟨.func, 1, 8, [.nilFunc]⟩),
  (2, ⟨.int .i64, 1, 8, [.int .i64 0]⟩),
  (3, ⟨.int .i64, 1, 8, [.int .i64 0]⟩),
  (4, ⟨.bool, 1, 1, [.bool false]⟩),
  (5, ⟨.int .u8, 1, 1, [.int .u8 0]⟩),
  (6, ⟨.int .u8, 1, 1, [.int .u8 0]⟩),
  (7, ⟨.struct [(2, 0), (3, 1), (4, 2), (6, 3)], 4, 24, [.int .i64 0, .int .i64 0, .bool false, .int .u8 0]⟩),
  (8, ⟨.struct [(2, 0), (3, 1), (4, 2), (6, 3)], 4, 24, [.int .i64 0, .int .i64 0, .bool false, .int .u8 0]⟩),
  (9, ⟨.string, 1, 16, [.string ByteArray.empty]⟩),
  (10, ⟨.string, 1, 16, [.string ByteArray.empty]⟩),
  (11, ⟨.string, 1, 16, [.string ByteArray.empty]⟩),
  (12, ⟨.int .u64, 1, 8, [.int .u64 0]⟩),
  (13, ⟨.struct [(9, 0), (12, 1)], 2, 24, [.string ByteArray.empty, .int .u64 0]⟩),
  (14, ⟨.struct [(9, 0), (12, 1)], 2, 24, [.string ByteArray.empty, .int .u64 0]⟩),
  (15, ⟨.pointer 245, 1, 8, [.pointer none]⟩),
  (16, ⟨.pointer 248, 1, 8, [.pointer none]⟩),
  (17, ⟨.pointer 256, 1, 8, [.pointer none]⟩),
  (18, ⟨.struct [(17, 0)], 1, 8, [.pointer none]⟩),
  (19, ⟨.struct [(17, 0)], 1, 8, [.pointer none]⟩),
  (20, ⟨.iface, 1, 16, [.nilIface]⟩),
  (21, ⟨.int .i32, 1, 4, [.int .i32 0]⟩),
  (22, ⟨.int .u64, 1, 8, [.int .u64 0]⟩),
  (23, ⟨.slice 63, 1, 24, [.slice none 0 0]⟩),
  (24, ⟨.slice 5, 1, 24, [.slice none 0 0]⟩),
  (25, ⟨.struct [(3, 0), (22, 1), (22, 2), (22, 3), (22, 4), (4, 5), (23, 6), (24, 7)], 8, 96, [.int .i64 0, .int .u64 0, .int .u64 0, .int .u64 0, .int .u64 0, .bool false, .slice none 0 0, .slice none 0 0]⟩),
  (26, ⟨.struct [(3, 0), (22, 1), (22, 2), (22, 3), (22, 4), (4, 5), (23, 6), (24, 7)], 8, 96, [.int .i64 0, .int .u64 0, .int .u64 0, .int .u64 0, .int .u64 0, .bool false, .slice none 0 0, .slice none 0 0]⟩),
  (27, ⟨.func, 1, 8, [.nilFunc]⟩),
  (28, ⟨.func, 1, 8, [.nilFunc]⟩),
  (29, ⟨.func, 1, 8, [.nilFunc]⟩),
  (30, ⟨.int .i64, 1, 8, [.int .i64 0]⟩),
  (32, ⟨.func, 1, 8, [.nilFunc]⟩),
  (33, ⟨.func, 1, 8, [.nilFunc]⟩),
  (34, ⟨.func, 1, 8, [.nilFunc]⟩),
  (35, ⟨.struct [(9, 0), (2, 1), (2, 2), (3, 3), (2, 4)], 5, 48, [.string ByteArray.empty, .int .i64 0, .int .i64 0, .int .i64 0, .int .i64 0]⟩),
  (36, ⟨.struct [(9, 0), (2, 1), (2, 2), (3, 3), (2, 4)], 5, 48, [.string ByteArray.empty, .int .i64 0, .int .i64 0, .int .i64 0, .int .i64 0]⟩),
  (37, ⟨.slice 80, 1, 24, [.slice none 0 0]⟩),
  (38, ⟨.func, 1, 8, [.nilFunc]⟩),
  (39, ⟨.func, 1, 8, [.nilFunc]⟩),
  (40, ⟨.slice 54, 1, 24, [.slice none 0 0]⟩),
  (42, ⟨.func, 1, 8, [.nilFunc]⟩),
  (43, ⟨.func, 1, 8, [.nilFunc]⟩),
  (44, ⟨.func, 1, 8, [.nilFunc]⟩),
  (45, ⟨.slice 3, 1, 24, [.slice none 0 0]⟩),
  (46, ⟨.struct [(2, 0), (22, 1)], 2, 16, [.int .i64 0, .int .u64 0]⟩),
  (47, ⟨.struct [(2, 0), (22, 1)], 2, 16, [.int .i64 0, .int .u64 0]⟩),
  (49, ⟨.func, 1, 8, [.nilFunc]⟩),
  (50, ⟨.func, 1, 8, [.nilFunc]⟩),
  (51, ⟨.func, 1, 8, [.nilFunc]⟩),
  (52, ⟨.func, 1, 8, [.nilFunc]⟩),
  (53, ⟨.struct [(9, 0), (2, 1), (47, 2)], 4, 40, [.string ByteArray.empty, .int .i64 0, .int .i64 0, .int .u64 0]⟩),
  (54, ⟨.struct [(9, 0), (2, 1), (47, 2)], 4, 40, [.string ByteArray.empty, .int .i64 0, .int .i64 0, .int .u64 0]⟩),
  (55, ⟨.func, 1, 8, [.nilFunc]⟩),
  (56, ⟨.func, 1, 8, [.nilFunc]⟩),
  (57, ⟨.func, 1, 8, [.nilFunc]⟩),
  (58, ⟨.pointer 94, 1, 8, [.pointer none]⟩),
  (59, ⟨.func, 1, 8, [.nilFunc]⟩),
  (61, ⟨.func, 1, 8, [.nilFunc]⟩),
  (62, ⟨.struct [(22, 0), (24, 1)], 2, 32, [.int .u64 0, .slice none 0 0]⟩),
  (63, ⟨.struct [(22, 0), (24, 1)], 2, 32, [.int .u64 0, .slice none 0 0]⟩),
  (65, ⟨.func, 1, 8, [.nilFunc]⟩),
  (66, ⟨.func, 1, 8, [.nilFunc]⟩),
  (67, ⟨.func, 1, 8, [.nilFunc]⟩),
  (68, ⟨.slice 22, 1, 24, [.slice none 0 0]⟩),
  (69, ⟨.func, 1, 8, [.nilFunc]⟩),
  (70, ⟨.func, 1, 8, [.nilFunc]⟩),
  (71, ⟨.pointer 73, 1, 8, [.pointer none]⟩),
  (72, ⟨.struct [(24, 0), (4, 1)], 2, 32, [.slice none 0 0, .bool false]⟩),
  (73, ⟨.struct [(24, 0), (4, 1)], 2, 32, [.slice none 0 0, .bool false]⟩),
  (74, ⟨.func, 1, 8, [.nilFunc]⟩),
  (75, ⟨.func, 1, 8, [.nilFunc]⟩),
  (76, ⟨.int .u16, 1, 2, [.int .u16 0]⟩),
  (77, ⟨.struct [(22, 0), (76, 1)], 2, 16, [.int .u64 0, .int .u16 0]⟩),
  (78, ⟨.struct [(22, 0), (76, 1)], 2, 16, [.int .u64 0, .int .u16 0]⟩),
  (79, ⟨.struct [(9, 0), (2, 1), (2, 2), (78, 3)], 5, 48, [.string ByteArray.empty, .int .i64 0, .int .i64 0, .int .u64 0, .int .u16 0]⟩),
  (80, ⟨.struct [(9, 0), (2, 1), (2, 2), (78, 3)], 5, 48, [.string ByteArray.empty, .int .i64 0, .int .i64 0, .int .u64 0, .int .u16 0]⟩),
  (82, ⟨.func, 1, 8, [.nilFunc]⟩),
  (83, ⟨.slice 37, 1, 24, [.slice none 0 0]⟩),
  (84, ⟨.func, 1, 8, [.nilFunc]⟩),
  (85, ⟨.func, 1, 8, [.nilFunc]⟩),
  (86, ⟨.func, 1, 8, [.nilFunc]⟩),
  (87, ⟨.func, 1, 8, [.nilFunc]⟩),
  (88, ⟨.slice 170, 1, 24, [.slice none 0 0]⟩),
  (89, ⟨.func, 1, 8, [.nilFunc]⟩),
  (90, ⟨.pointer 135, 1, 8, [.pointer none]⟩),
  (91, ⟨.pointer 192, 1, 8, [.pointer none]⟩),
  (92, ⟨.slice 133, 1, 24, [.slice none 0 0]⟩),
  (93, ⟨.struct [(3, 0), (3, 1), (22, 2), (3, 3), (90, 4), (24, 5), (22, 6), (3, 7), (3, 8), (3, 9), (91, 10), (68, 11), (68, 12), (92, 13)], 14, 176, [.int .i64 0, .int .i64 0, .int .u64 0, .int .i64 0, .pointer none, .slice none 0 0, .int .u64 0, .int .i64 0, .int .i64 0, .int .i64 0, .pointer none, .slice none 0 0, .slice none 0 0, .slice none 0 0]⟩),
  (94, ⟨.struct [(3, 0), (3, 1), (22, 2), (3, 3), (90, 4), (24, 5), (22, 6), (3, 7), (3, 8), (3, 9), (91, 10), (68, 11), (68, 12), (92, 13)], 14, 176, [.int .i64 0, .int .i64 0, .int .u64 0, .int .i64 0, .pointer none, .slice none 0 0, .int .u64 0, .int .i64 0, .int .i64 0, .int .i64 0, .pointer none, .slice none 0 0, .slice none 0 0, .slice none 0 0]⟩),
  (95, ⟨.func, 1, 8, [.nilFunc]⟩),
  (97, ⟨.func, 1, 8, [.nilFunc]⟩),
  (98, ⟨.func, 1, 8, [.nilFunc]⟩),
  (99, ⟨.int .u64, 1, 8, [.int .u64 0]⟩),
  (101, ⟨.func, 1, 8, [.nilFunc]⟩),
  (102, ⟨.func, 1, 8, [.nilFunc]⟩),
  (103, ⟨.slice 143, 1, 24, [.slice none 0 0]⟩),
  (104, ⟨.struct [(9, 0), (103, 1)], 2, 40, [.string ByteArray.empty, .slice none 0 0]⟩),
  (105, ⟨.struct [(9, 0), (103, 1)], 2, 40, [.string ByteArray.empty, .slice none 0 0]⟩),
  (107, ⟨.func, 1, 8, [.nilFunc]⟩),
  (108, ⟨.map 9 4, 1, 8, [.map none]⟩),
  (109, ⟨.func, 1, 8, [.nilFunc]⟩),
  (110, ⟨.func, 1, 8, [.nilFunc]⟩),
  (112, ⟨.slice 159, 1, 24, [.slice none 0 0]⟩),
  (113, ⟨.struct [(9, 0), (112, 1)], 2, 40, [.string ByteArray.empty, .slice none 0 0]⟩),
  (114, ⟨.struct [(9, 0), (112, 1)], 2, 40, [.string ByteArray.empty, .slice none 0 0]⟩),
  (116, ⟨.func, 1, 8, [.nilFunc]⟩),
  (117, ⟨.func, 1, 8, [.nilFunc]⟩),
  (118, ⟨.func, 1, 8, [.nilFunc]⟩),
  (119, ⟨.func, 1, 8, [.nilFunc]⟩),
  (120, ⟨.func, 1, 8, [.nilFunc]⟩),
  (121, ⟨.func, 1, 8, [.nilFunc]⟩),
  (123, ⟨.func, 1, 8, [.nilFunc]⟩),
  (124, ⟨.func, 1, 8, [.nilFunc]⟩),
  (126, ⟨.func, 1, 8, [.nilFunc]⟩),
  (127, ⟨.func, 1, 8, [.nilFunc]⟩),
  (128, ⟨.func, 1, 8, [.nilFunc]⟩),
  (129, ⟨.func, 1, 8, [.nilFunc]⟩),
  (130, ⟨.func, 1, 8, [.nilFunc]⟩),
  (131, ⟨.func, 1, 8, [.nilFunc]⟩),
  (132, ⟨.struct [(3, 0), (22, 1), (3, 2), (22, 3), (23, 4), (24, 5)], 6, 80, [.int .i64 0, .int .u64 0, .int .i64 0, .int .u64 0, .slice none 0 0, .slice none 0 0]⟩),
  (133, ⟨.struct [(3, 0), (22, 1), (3, 2), (22, 3), (23, 4), (24, 5)], 6, 80, [.int .i64 0, .int .u64 0, .int .i64 0, .int .u64 0, .slice none 0 0, .slice none 0 0]⟩),
  (134, ⟨.struct [(22, 0), (22, 1), (23, 2)], 3, 40, [.int .u64 0, .int .u64 0, .slice none 0 0]⟩),
  (135, ⟨.struct [(22, 0), (22, 1), (23, 2)], 3, 40, [.int .u64 0, .int .u64 0, .slice none 0 0]⟩),
  (136, ⟨.func, 1, 8, [.nilFunc]⟩),
  (138, ⟨.func, 1, 8, [.nilFunc]⟩),
  (139, ⟨.func, 1, 8, [.nilFunc]⟩),
  (141, ⟨.func, 1, 8, [.nilFunc]⟩),
  (142, ⟨.struct [(9, 0), (3, 1), (9, 2)], 3, 40, [.string ByteArray.empty, .int .i64 0, .string ByteArray.empty]⟩),
  (143, ⟨.struct [(9, 0), (3, 1), (9, 2)], 3, 40, [.string ByteArray.empty, .int .i64 0, .string ByteArray.empty]⟩),
  (145, ⟨.func, 1, 8, [.nilFunc]⟩),
  (146, ⟨.map 149 80, 1, 8, [.map none]⟩),
  (147, ⟨.func, 1, 8, [.nilFunc]⟩),
  (148, ⟨.struct [(9, 0), (2, 1)], 2, 24, [.string ByteArray.empty, .int .i64 0]⟩),
  (149, ⟨.struct [(9, 0), (2, 1)], 2, 24, [.string ByteArray.empty, .int .i64 0]⟩),
  (151, ⟨.func, 1, 8, [.nilFunc]⟩),
  (152, ⟨.func, 1, 8, [.nilFunc]⟩),
  (153, ⟨.func, 1, 8, [.nilFunc]⟩),
  (154, ⟨.func, 1, 8, [.nilFunc]⟩),
  (155, ⟨.func, 1, 8, [.nilFunc]⟩),
  (156, ⟨.func, 1, 8, [.nilFunc]⟩),
  (157, ⟨.func, 1, 8, [.nilFunc]⟩),
  (158, ⟨.struct [(9, 0), (9, 1)], 2, 32, [.string ByteArray.empty, .string ByteArray.empty]⟩),
  (159, ⟨.struct [(9, 0), (9, 1)], 2, 32, [.string ByteArray.empty, .string ByteArray.empty]⟩),
  (160, ⟨.func, 1, 8, [.nilFunc]⟩),
  (161, ⟨.func, 1, 8, [.nilFunc]⟩),
  (162, ⟨.func, 1, 8, [.nilFunc]⟩),
  (163, ⟨.func, 1, 8, [.nilFunc]⟩),
  (165, ⟨.func, 1, 8, [.nilFunc]⟩),
  (167, ⟨.func, 1, 8, [.nilFunc]⟩),
  (168, ⟨.func, 1, 8, [.nilFunc]⟩),
  (169, ⟨.struct [(3, 0), (26, 1)], 9, 104, [.int .i64 0, .int .i64 0, .int .u64 0, .int .u64 0, .int .u64 0, .int .u64 0, .bool false, .slice none 0 0, .slice none 0 0]⟩),
  (170, ⟨.struct [(3, 0), (26, 1)], 9, 104, [.int .i64 0, .int .i64 0, .int .u64 0, .int .u64 0, .int .u64 0, .int .u64 0, .bool false, .slice none 0 0, .slice none 0 0]⟩),
  (171, ⟨.func, 1, 8, [.nilFunc]⟩),
  (172, ⟨.func, 1, 8, [.nilFunc]⟩),
  (173, ⟨.func, 1, 8, [.nilFunc]⟩),
  (174, ⟨.func, 1, 8, [.nilFunc]⟩),
  (175, ⟨.func, 1, 8, [.nilFunc]⟩),
  (176, ⟨.slice 9, 1, 24, [.slice none 0 0]⟩),
  (177, ⟨.func, 1, 8, [.nilFunc]⟩),
  (178, ⟨.func, 1, 8, [.nilFunc]⟩),
  (179, ⟨.func, 1, 8, [.nilFunc]⟩),
  (180, ⟨.func, 1, 8, [.nilFunc]⟩),
  (181, ⟨.func, 1, 8, [.nilFunc]⟩),
  (182, ⟨.func, 1, 8, [.nilFunc]⟩),
  (183, ⟨.func, 1, 8, [.nilFunc]⟩),
  (184, ⟨.func, 1, 8, [.nilFunc]⟩),
  (185, ⟨.func, 1, 8, [.nilFunc]⟩),
  (186, ⟨.func, 1, 8, [.nilFunc]⟩),
  (187, ⟨.func, 1, 8, [.nilFunc]⟩),
  (188, ⟨.func, 1, 8, [.nilFunc]⟩),
  (189, ⟨.func, 1, 8, [.nilFunc]⟩),
  (190, ⟨.func, 1, 8, [.nilFunc]⟩),
  (191, ⟨.struct [(3, 0), (22, 1)], 2, 16, [.int .i64 0, .int .u64 0]⟩),
  (192, ⟨.struct [(3, 0), (22, 1)], 2, 16, [.int .i64 0, .int .u64 0]⟩),
  (193, ⟨.func, 1, 8, [.nilFunc]⟩),
  (194, ⟨.func, 1, 8, [.nilFunc]⟩),
  (195, ⟨.func, 1, 8, [.nilFunc]⟩),
  (196, ⟨.func, 1, 8, [.nilFunc]⟩),
  (197, ⟨.func, 1, 8, [.nilFunc]⟩),
  (198, ⟨.func, 1, 8, [.nilFunc]⟩),
  (199, ⟨.func, 1, 8, [.nilFunc]⟩),
  (200, ⟨.func, 1, 8, [.nilFunc]⟩),
  (201, ⟨.func, 1, 8, [.nilFunc]⟩),
  (202, ⟨.func, 1, 8, [.nilFunc]⟩),
  (203, ⟨.func, 1, 8, [.nilFunc]⟩),
  (204, ⟨.func, 1, 8, [.nilFunc]⟩),
  (205, ⟨.func, 1, 8, [.nilFunc]⟩),
  (206, ⟨.func, 1, 8, [.nilFunc]⟩),
  (208, ⟨.func, 1, 8, [.nilFunc]⟩),
  (209, ⟨.func, 1, 8, [.nilFunc]⟩),
  (210, ⟨.func, 1, 8, [.nilFunc]⟩),
  (211, ⟨.int .i64, 1, 8, [.int .i64 0]⟩),
  (213, ⟨.func, 1, 8, [.nilFunc]⟩),
  (214, ⟨.func, 1, 8, [.nilFunc]⟩),
  (215, ⟨.func, 1, 8, [.nilFunc]⟩),
  (217, ⟨.func, 1, 8, [.nilFunc]⟩),
  (218, ⟨.func, 1, 8, [.nilFunc]⟩),
  (219, ⟨.int .u32, 1, 4, [.int .u32 0]⟩),
  (220, ⟨.func, 1, 8, [.nilFunc]⟩),
  (222, ⟨.func, 1, 8, [.nilFunc]⟩),
  (223, ⟨.func, 1, 8, [.nilFunc]⟩),
  (224, ⟨.func, 1, 8, [.nilFunc]⟩),
  (225, ⟨.func, 1, 8, [.nilFunc]⟩),
  (226, ⟨.func, 1, 8, [.nilFunc]⟩),
  (227, ⟨.int .u64, 1, 8, [.int .u64 0]⟩),
  (228, ⟨.func, 1, 8, [.nilFunc]⟩),
  (229, ⟨.func, 1, 8, [.nilFunc]⟩),
  (230, ⟨.pointer 3, 1, 8, [.pointer none]⟩),
  (231, ⟨.func, 1, 8, [.nilFunc]⟩),
  (232, ⟨.func, 1, 8, [.nilFunc]⟩),
  (233, ⟨.func, 1, 8, [.nilFunc]⟩),
  (234, ⟨.func, 1, 8, [.nilFunc]⟩),
  (235, ⟨.func, 1, 8, [.nilFunc]⟩),
  (236, ⟨.func, 1, 8, [.nilFunc]⟩),
  (237, ⟨.pointer 227, 1, 8, [.pointer none]⟩),
  (239, ⟨.func, 1, 8, [.nilFunc]⟩),
  (240, ⟨.func, 1, 8, [.nilFunc]⟩),
  (241, ⟨.func, 1, 8, [.nilFunc]⟩),
  (242, ⟨.func, 1, 8, [.nilFunc]⟩),
  (243, ⟨.func, 1, 8, [.nilFunc]⟩),
  (244, ⟨.struct [(17, 0), (17, 1), (17, 2), (9, 3)], 4, 40, [.pointer none, .pointer none, .pointer none, .string ByteArray.empty]⟩),
  (245, ⟨.struct [(17, 0), (17, 1), (17, 2), (9, 3)], 4, 40, [.pointer none, .pointer none, .pointer none, .string ByteArray.empty]⟩),
  (246, ⟨.array 0 16, 0, 0, []⟩),
  (247, ⟨.struct [(246, 0)], 0, 0, []⟩),
  (248, ⟨.struct [(246, 0)], 0, 0, []⟩),
  (249, ⟨.int .u8, 1, 1, [.int .u8 0]⟩),
  (250, ⟨.int .u8, 1, 1, [.int .u8 0]⟩),
  (251, ⟨.func, 1, 8, [.nilFunc]⟩),
  (252, ⟨.pointer 5, 1, 8, [.pointer none]⟩),
  (253, ⟨.int .i32, 1, 4, [.int .i32 0]⟩),
  (254, ⟨.int .i32, 1, 4, [.int .i32 0]⟩),
  (255, ⟨.struct [(12, 0), (12, 1), (219, 2), (249, 3), (5, 4), (5, 5), (250, 6), (251, 7), (252, 8), (253, 9), (254, 10)], 11, 48, [.int .u64 0, .int .u64 0, .int .u32 0, .int .u8 0, .int .u8 0, .int .u8 0, .int .u8 0, .nilFunc, .pointer none, .int .i32 0, .int .i32 0]⟩),
  (256, ⟨.struct [(12, 0), (12, 1), (219, 2), (249, 3), (5, 4), (5, 5), (250, 6), (251, 7), (252, 8), (253, 9), (254, 10)], 11, 48, [.int .u64 0, .int .u64 0, .int .u32 0, .int .u8 0, .int .u8 0, .int .u8 0, .int .u8 0, .nilFunc, .pointer none, .int .i32 0, .int .i32 0]⟩)]
theorem tok : TOk Go.Proofs.Try.prog tab := TOk_of (by kernel_rfl)
end Go.Q.Yg
