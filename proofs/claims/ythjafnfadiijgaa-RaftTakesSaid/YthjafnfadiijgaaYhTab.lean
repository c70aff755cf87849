/- A part of the proof of statements of this seat: lemmas, no statement of their own. -/
import Derived.Test.YthjafnfadiijgaaQZa
import Derived.Test.YthjafnfadiijgaaProg
set_option maxRecDepth 100000
namespace Go.Q.Yh
structure S_runtime_boundsError where
  f_x : Int
  f_y : Int
  f_signed : Bool
  f_code : Int
def S_runtime_boundsError.cs (x : S_runtime_boundsError) : List Value := [.int .i64 x.f_x, .int .i64 x.f_y, .bool x.f_signed, .int .u8 x.f_code]

structure S_runtime_errorAddressString where
  f_msg : ByteArray
  f_addr : Int
def S_runtime_errorAddressString.cs (x : S_runtime_errorAddressString) : List Value := [.string x.f_msg, .int .u64 x.f_addr]

structure S_internal_runtime_maps_unhashableTypeError where
  f_typ : Option Addr
def S_internal_runtime_maps_unhashableTypeError.cs (x : S_internal_runtime_maps_unhashableTypeError) : List Value := [.pointer x.f_typ]

structure S_api_Msg where
  f_Kind : Int
  f_Term : Int
  f_Index : Int
  f_LogTerm : Int
  f_Commit : Int
  f_Yes : Bool
  f_Entries : Slc
  f_Snap : Slc
def S_api_Msg.cs (x : S_api_Msg) : List Value := [.int .i64 x.f_Kind, .int .u64 x.f_Term, .int .u64 x.f_Index, .int .u64 x.f_LogTerm, .int .u64 x.f_Commit, .bool x.f_Yes, Slc.v x.f_Entries, Slc.v x.f_Snap]

structure S_api_Mail where
  f_Node : Int
  f_M : S_api_Msg
def S_api_Mail.cs (x : S_api_Mail) : List Value := [.int .i64 x.f_Node] ++ (S_api_Msg.cs x.f_M)

structure S_quaestorlaw26_Act where
  f_Kind : Int
  f_N : Int
  f_At : Int
def S_quaestorlaw26_Act.cs (x : S_quaestorlaw26_Act) : List Value := [.int .i64 x.f_Kind, .int .i64 x.f_N, .int .i64 x.f_At]

structure S_quaestorlaw26_World where
  f_L : Slc
  f_Letters : Slc
  f_Known : Slc
  f_Leaders : Slc
  f_Bad : Bool
def S_quaestorlaw26_World.cs (x : S_quaestorlaw26_World) : List Value := [Slc.v x.f_L, Slc.v x.f_Letters, Slc.v x.f_Known, Slc.v x.f_Leaders, .bool x.f_Bad]

structure S_quaestorlaw26_Member where
  f_R : Option Addr
  f_S : Option Addr
def S_quaestorlaw26_Member.cs (x : S_quaestorlaw26_Member) : List Value := [.pointer x.f_R, .pointer x.f_S]

structure S_api_Entry where
  f_Term : Int
  f_Cmd : Slc
def S_api_Entry.cs (x : S_api_Entry) : List Value := [.int .u64 x.f_Term, Slc.v x.f_Cmd]

structure S_quaestorref26_Stored where
  f_Term : Int
  f_Vote : Int
  f_Log : Option Addr
  f_Snap : Slc
def S_quaestorref26_Stored.cs (x : S_quaestorref26_Stored) : List Value := [.int .u64 x.f_Term, .int .i64 x.f_Vote, .pointer x.f_Log, Slc.v x.f_Snap]

structure S_quaestorref23_Log where
  f_Index : Int
  f_Term : Int
  f_L : Slc
def S_quaestorref23_Log.cs (x : S_quaestorref23_Log) : List Value := [.int .u64 x.f_Index, .int .u64 x.f_Term, Slc.v x.f_L]

structure S_raft_reader where
  f_b : Slc
  f_bad : Bool
def S_raft_reader.cs (x : S_raft_reader) : List Value := [Slc.v x.f_b, .bool x.f_bad]

structure S_raft_Raft where
  f_me : Int
  f_n : Int
  f_term : Int
  f_vote : Int
  f_log : Option Addr
  f_snap : Slc
  f_commit : Int
  f_role : Int
  f_leader : Int
  f_ticks : Int
  f_ballot : Option Addr
  f_next : Slc
  f_has : Slc
  f_keeps : Slc
def S_raft_Raft.cs (x : S_raft_Raft) : List Value := [.int .i64 x.f_me, .int .i64 x.f_n, .int .u64 x.f_term, .int .i64 x.f_vote, .pointer x.f_log, Slc.v x.f_snap, .int .u64 x.f_commit, .int .i64 x.f_role, .int .i64 x.f_leader, .int .i64 x.f_ticks, .pointer x.f_ballot, Slc.v x.f_next, Slc.v x.f_has, Slc.v x.f_keeps]

structure S_api_Keep where
  f_Kind : Int
  f_Term : Int
  f_Vote : Int
  f_Index : Int
  f_Entries : Slc
  f_Snap : Slc
def S_api_Keep.cs (x : S_api_Keep) : List Value := [.int .i64 x.f_Kind, .int .u64 x.f_Term, .int .i64 x.f_Vote, .int .u64 x.f_Index, Slc.v x.f_Entries, Slc.v x.f_Snap]

structure S_quaestorlaw26_Letter where
  f_From : Int
  f_To : Int
  f_M : S_api_Msg
def S_quaestorlaw26_Letter.cs (x : S_quaestorlaw26_Letter) : List Value := [.int .i64 x.f_From, .int .i64 x.f_To] ++ (S_api_Msg.cs x.f_M)

structure S_rlog_Log where
  f_index : Int
  f_term : Int
  f_l : Slc
def S_rlog_Log.cs (x : S_rlog_Log) : List Value := [.int .u64 x.f_index, .int .u64 x.f_term, Slc.v x.f_l]

structure S_vote_Ballot where
  f_n : Int
  f_yes : Int
def S_vote_Ballot.cs (x : S_vote_Ballot) : List Value := [.int .i64 x.f_n, .int .u64 x.f_yes]

structure S_runtime_TypeAssertionError where
  f__interface : Option Addr
  f_concrete : Option Addr
  f_asserted : Option Addr
  f_missingMethod : ByteArray
def S_runtime_TypeAssertionError.cs (x : S_runtime_TypeAssertionError) : List Value := [.pointer x.f__interface, .pointer x.f_concrete, .pointer x.f_asserted, .string x.f_missingMethod]

structure S_runtime_PanicNilError where
  f__ : List Value
def S_runtime_PanicNilError.cs (x : S_runtime_PanicNilError) : List Value := (x.f__)

structure S_internal_abi_Type where
  f_Size_ : Int
  f_PtrBytes : Int
  f_Hash : Int
  f_TFlag : Int
  f_Align_ : Int
  f_FieldAlign_ : Int
  f_Kind_ : Int
  f_Equal : Value
  f_GCData : Option Addr
  f_Str : Int
  f_PtrToThis : Int
def S_internal_abi_Type.cs (x : S_internal_abi_Type) : List Value := [.int .u64 x.f_Size_, .int .u64 x.f_PtrBytes, .int .u32 x.f_Hash, .int .u8 x.f_TFlag, .int .u8 x.f_Align_, .int .u8 x.f_FieldAlign_, .int .u8 x.f_Kind_, x.f_Equal, .pointer x.f_GCData, .int .i32 x.f_Str, .int .i32 x.f_PtrToThis]
def tab : Tab := [
  (1, ⟨.func, 1, 8, [.nilFunc]⟩),
  (2, ⟨.int .i64, 1, 8, [.int .i64 0]⟩),
  (3, ⟨.int .i64, 1, 8, [.int .i64 0]⟩),
  (4, ⟨.bool, 1, 1, [.bool false]⟩),
  (5, ⟨.int .u8, 1, 1, [.int .u8 0]⟩),
  (6, ⟨.int .u8, 1, 1, [.int .u8 0]⟩),
  (7, ⟨.struct [(2, 0), (3, 1), (4, 2), (6, 3)], 4, 24, [.int .i64 0, .int .i64 0, .bool false, .int .u8 0]⟩),
  (8, ⟨.struct [(2, 0), (3, 1), (4, 2), (6, 3)], 4, 24, [.int .i64 0, .int .i64 0, .bool false, .int .u8 0]⟩),
  (9, ⟨.string, 1, 16, [.string ByteArray.empty]⟩),
  (10, ⟨.string, 1, 16, [.string ByteArray.empty]⟩),
  (11, ⟨.string, 1, 16, [.string ByteArray.empty]⟩),
  (12, ⟨.int .u64, 1, 8, [.int .u64 0]⟩),
  (13, ⟨.struct [(9, 0), (12, 1)], 2, 24, [.string ByteArray.empty, .int .u64 0]⟩),
  (14, ⟨.struct [(9, 0), (12, 1)], 2, 24, [.string ByteArray.empty, .int .u64 0]⟩),
  (15, ⟨.pointer 169, 1, 8, [.pointer none]⟩),
  (16, ⟨.pointer 172, 1, 8, [.pointer none]⟩),
  (17, ⟨.pointer 180, 1, 8, [.pointer none]⟩),
  (18, ⟨.struct [(17, 0)], 1, 8, [.pointer none]⟩),
  (19, ⟨.struct [(17, 0)], 1, 8, [.pointer none]⟩),
  (20, ⟨.iface, 1, 16, [.nilIface]⟩),
  (21, ⟨.int .i32, 1, 4, [.int .i32 0]⟩),
  (22, ⟨.int .u64, 1, 8, [.int .u64 0]⟩),
  (23, ⟨.slice 65, 1, 24, [.slice none 0 0]⟩),
  (24, ⟨.slice 5, 1, 24, [.slice none 0 0]⟩),
  (25, ⟨.struct [(3, 0), (22, 1), (22, 2), (22, 3), (22, 4), (4, 5), (23, 6), (24, 7)], 8, 96, [.int .i64 0, .int .u64 0, .int .u64 0, .int .u64 0, .int .u64 0, .bool false, .slice none 0 0, .slice none 0 0]⟩),
  (26, ⟨.struct [(3, 0), (22, 1), (22, 2), (22, 3), (22, 4), (4, 5), (23, 6), (24, 7)], 8, 96, [.int .i64 0, .int .u64 0, .int .u64 0, .int .u64 0, .int .u64 0, .bool false, .slice none 0 0, .slice none 0 0]⟩),
  (27, ⟨.func, 1, 8, [.nilFunc]⟩),
  (28, ⟨.func, 1, 8, [.nilFunc]⟩),
  (29, ⟨.func, 1, 8, [.nilFunc]⟩),
  (30, ⟨.int .i64, 1, 8, [.int .i64 0]⟩),
  (32, ⟨.func, 1, 8, [.nilFunc]⟩),
  (33, ⟨.func, 1, 8, [.nilFunc]⟩),
  (34, ⟨.func, 1, 8, [.nilFunc]⟩),
  (35, ⟨.slice 3, 1, 24, [.slice none 0 0]⟩),
  (36, ⟨.slice 26, 1, 24, [.slice none 0 0]⟩),
  (37, ⟨.pointer 94, 1, 8, [.pointer none]⟩),
  (38, ⟨.func, 1, 8, [.nilFunc]⟩),
  (39, ⟨.slice 45, 1, 24, [.slice none 0 0]⟩),
  (40, ⟨.func, 1, 8, [.nilFunc]⟩),
  (41, ⟨.func, 1, 8, [.nilFunc]⟩),
  (42, ⟨.func, 1, 8, [.nilFunc]⟩),
  (43, ⟨.func, 1, 8, [.nilFunc]⟩),
  (44, ⟨.struct [(3, 0), (26, 1)], 9, 104, [.int .i64 0, .int .i64 0, .int .u64 0, .int .u64 0, .int .u64 0, .int .u64 0, .bool false, .slice none 0 0, .slice none 0 0]⟩),
  (45, ⟨.struct [(3, 0), (26, 1)], 9, 104, [.int .i64 0, .int .i64 0, .int .u64 0, .int .u64 0, .int .u64 0, .int .u64 0, .bool false, .slice none 0 0, .slice none 0 0]⟩),
  (46, ⟨.func, 1, 8, [.nilFunc]⟩),
  (47, ⟨.slice 52, 1, 24, [.slice none 0 0]⟩),
  (48, ⟨.pointer 56, 1, 8, [.pointer none]⟩),
  (49, ⟨.func, 1, 8, [.nilFunc]⟩),
  (50, ⟨.func, 1, 8, [.nilFunc]⟩),
  (51, ⟨.struct [(3, 0), (3, 1), (3, 2)], 3, 24, [.int .i64 0, .int .i64 0, .int .i64 0]⟩),
  (52, ⟨.struct [(3, 0), (3, 1), (3, 2)], 3, 24, [.int .i64 0, .int .i64 0, .int .i64 0]⟩),
  (53, ⟨.slice 60, 1, 24, [.slice none 0 0]⟩),
  (54, ⟨.slice 109, 1, 24, [.slice none 0 0]⟩),
  (55, ⟨.struct [(53, 0), (54, 1), (23, 2), (35, 3), (4, 4)], 5, 104, [.slice none 0 0, .slice none 0 0, .slice none 0 0, .slice none 0 0, .bool false]⟩),
  (56, ⟨.struct [(53, 0), (54, 1), (23, 2), (35, 3), (4, 4)], 5, 104, [.slice none 0 0, .slice none 0 0, .slice none 0 0, .slice none 0 0, .bool false]⟩),
  (57, ⟨.func, 1, 8, [.nilFunc]⟩),
  (58, ⟨.pointer 73, 1, 8, [.pointer none]⟩),
  (59, ⟨.struct [(37, 0), (58, 1)], 2, 16, [.pointer none, .pointer none]⟩),
  (60, ⟨.struct [(37, 0), (58, 1)], 2, 16, [.pointer none, .pointer none]⟩),
  (62, ⟨.func, 1, 8, [.nilFunc]⟩),
  (63, ⟨.func, 1, 8, [.nilFunc]⟩),
  (64, ⟨.struct [(22, 0), (24, 1)], 2, 32, [.int .u64 0, .slice none 0 0]⟩),
  (65, ⟨.struct [(22, 0), (24, 1)], 2, 32, [.int .u64 0, .slice none 0 0]⟩),
  (67, ⟨.func, 1, 8, [.nilFunc]⟩),
  (68, ⟨.func, 1, 8, [.nilFunc]⟩),
  (70, ⟨.func, 1, 8, [.nilFunc]⟩),
  (71, ⟨.pointer 75, 1, 8, [.pointer none]⟩),
  (72, ⟨.struct [(22, 0), (3, 1), (71, 2), (24, 3)], 4, 48, [.int .u64 0, .int .i64 0, .pointer none, .slice none 0 0]⟩),
  (73, ⟨.struct [(22, 0), (3, 1), (71, 2), (24, 3)], 4, 48, [.int .u64 0, .int .i64 0, .pointer none, .slice none 0 0]⟩),
  (74, ⟨.struct [(22, 0), (22, 1), (23, 2)], 3, 40, [.int .u64 0, .int .u64 0, .slice none 0 0]⟩),
  (75, ⟨.struct [(22, 0), (22, 1), (23, 2)], 3, 40, [.int .u64 0, .int .u64 0, .slice none 0 0]⟩),
  (77, ⟨.func, 1, 8, [.nilFunc]⟩),
  (78, ⟨.func, 1, 8, [.nilFunc]⟩),
  (79, ⟨.func, 1, 8, [.nilFunc]⟩),
  (80, ⟨.func, 1, 8, [.nilFunc]⟩),
  (81, ⟨.slice 22, 1, 24, [.slice none 0 0]⟩),
  (82, ⟨.func, 1, 8, [.nilFunc]⟩),
  (83, ⟨.func, 1, 8, [.nilFunc]⟩),
  (84, ⟨.pointer 86, 1, 8, [.pointer none]⟩),
  (85, ⟨.struct [(24, 0), (4, 1)], 2, 32, [.slice none 0 0, .bool false]⟩),
  (86, ⟨.struct [(24, 0), (4, 1)], 2, 32, [.slice none 0 0, .bool false]⟩),
  (87, ⟨.func, 1, 8, [.nilFunc]⟩),
  (88, ⟨.func, 1, 8, [.nilFunc]⟩),
  (89, ⟨.pointer 117, 1, 8, [.pointer none]⟩),
  (90, ⟨.func, 1, 8, [.nilFunc]⟩),
  (91, ⟨.pointer 123, 1, 8, [.pointer none]⟩),
  (92, ⟨.slice 107, 1, 24, [.slice none 0 0]⟩),
  (93, ⟨.struct [(3, 0), (3, 1), (22, 2), (3, 3), (89, 4), (24, 5), (22, 6), (3, 7), (3, 8), (3, 9), (91, 10), (81, 11), (81, 12), (92, 13)], 14, 176, [.int .i64 0, .int .i64 0, .int .u64 0, .int .i64 0, .pointer none, .slice none 0 0, .int .u64 0, .int .i64 0, .int .i64 0, .int .i64 0, .pointer none, .slice none 0 0, .slice none 0 0, .slice none 0 0]⟩),
  (94, ⟨.struct [(3, 0), (3, 1), (22, 2), (3, 3), (89, 4), (24, 5), (22, 6), (3, 7), (3, 8), (3, 9), (91, 10), (81, 11), (81, 12), (92, 13)], 14, 176, [.int .i64 0, .int .i64 0, .int .u64 0, .int .i64 0, .pointer none, .slice none 0 0, .int .u64 0, .int .i64 0, .int .i64 0, .int .i64 0, .pointer none, .slice none 0 0, .slice none 0 0, .slice none 0 0]⟩),
  (95, ⟨.func, 1, 8, [.nilFunc]⟩),
  (96, ⟨.func, 1, 8, [.nilFunc]⟩),
  (97, ⟨.func, 1, 8, [.nilFunc]⟩),
  (98, ⟨.func, 1, 8, [.nilFunc]⟩),
  (99, ⟨.func, 1, 8, [.nilFunc]⟩),
  (100, ⟨.func, 1, 8, [.nilFunc]⟩),
  (101, ⟨.func, 1, 8, [.nilFunc]⟩),
  (102, ⟨.func, 1, 8, [.nilFunc]⟩),
  (103, ⟨.func, 1, 8, [.nilFunc]⟩),
  (104, ⟨.func, 1, 8, [.nilFunc]⟩),
  (105, ⟨.func, 1, 8, [.nilFunc]⟩),
  (106, ⟨.struct [(3, 0), (22, 1), (3, 2), (22, 3), (23, 4), (24, 5)], 6, 80, [.int .i64 0, .int .u64 0, .int .i64 0, .int .u64 0, .slice none 0 0, .slice none 0 0]⟩),
  (107, ⟨.struct [(3, 0), (22, 1), (3, 2), (22, 3), (23, 4), (24, 5)], 6, 80, [.int .i64 0, .int .u64 0, .int .i64 0, .int .u64 0, .slice none 0 0, .slice none 0 0]⟩),
  (108, ⟨.struct [(3, 0), (3, 1), (26, 2)], 10, 112, [.int .i64 0, .int .i64 0, .int .i64 0, .int .u64 0, .int .u64 0, .int .u64 0, .int .u64 0, .bool false, .slice none 0 0, .slice none 0 0]⟩),
  (109, ⟨.struct [(3, 0), (3, 1), (26, 2)], 10, 112, [.int .i64 0, .int .i64 0, .int .i64 0, .int .u64 0, .int .u64 0, .int .u64 0, .int .u64 0, .bool false, .slice none 0 0, .slice none 0 0]⟩),
  (110, ⟨.func, 1, 8, [.nilFunc]⟩),
  (112, ⟨.func, 1, 8, [.nilFunc]⟩),
  (113, ⟨.int .u64, 1, 8, [.int .u64 0]⟩),
  (115, ⟨.func, 1, 8, [.nilFunc]⟩),
  (116, ⟨.struct [(22, 0), (22, 1), (23, 2)], 3, 40, [.int .u64 0, .int .u64 0, .slice none 0 0]⟩),
  (117, ⟨.struct [(22, 0), (22, 1), (23, 2)], 3, 40, [.int .u64 0, .int .u64 0, .slice none 0 0]⟩),
  (118, ⟨.func, 1, 8, [.nilFunc]⟩),
  (119, ⟨.func, 1, 8, [.nilFunc]⟩),
  (120, ⟨.func, 1, 8, [.nilFunc]⟩),
  (121, ⟨.func, 1, 8, [.nilFunc]⟩),
  (122, ⟨.struct [(3, 0), (22, 1)], 2, 16, [.int .i64 0, .int .u64 0]⟩),
  (123, ⟨.struct [(3, 0), (22, 1)], 2, 16, [.int .i64 0, .int .u64 0]⟩),
  (124, ⟨.func, 1, 8, [.nilFunc]⟩),
  (125, ⟨.func, 1, 8, [.nilFunc]⟩),
  (126, ⟨.func, 1, 8, [.nilFunc]⟩),
  (127, ⟨.func, 1, 8, [.nilFunc]⟩),
  (129, ⟨.func, 1, 8, [.nilFunc]⟩),
  (130, ⟨.func, 1, 8, [.nilFunc]⟩),
  (131, ⟨.func, 1, 8, [.nilFunc]⟩),
  (132, ⟨.func, 1, 8, [.nilFunc]⟩),
  (134, ⟨.func, 1, 8, [.nilFunc]⟩),
  (135, ⟨.func, 1, 8, [.nilFunc]⟩),
  (136, ⟨.func, 1, 8, [.nilFunc]⟩),
  (137, ⟨.int .u32, 1, 4, [.int .u32 0]⟩),
  (139, ⟨.func, 1, 8, [.nilFunc]⟩),
  (140, ⟨.func, 1, 8, [.nilFunc]⟩),
  (141, ⟨.func, 1, 8, [.nilFunc]⟩),
  (142, ⟨.func, 1, 8, [.nilFunc]⟩),
  (143, ⟨.func, 1, 8, [.nilFunc]⟩),
  (144, ⟨.func, 1, 8, [.nilFunc]⟩),
  (145, ⟨.func, 1, 8, [.nilFunc]⟩),
  (146, ⟨.func, 1, 8, [.nilFunc]⟩),
  (147, ⟨.func, 1, 8, [.nilFunc]⟩),
  (148, ⟨.func, 1, 8, [.nilFunc]⟩),
  (149, ⟨.func, 1, 8, [.nilFunc]⟩),
  (150, ⟨.func, 1, 8, [.nilFunc]⟩),
  (151, ⟨.int .i64, 1, 8, [.int .i64 0]⟩),
  (153, ⟨.func, 1, 8, [.nilFunc]⟩),
  (154, ⟨.func, 1, 8, [.nilFunc]⟩),
  (155, ⟨.func, 1, 8, [.nilFunc]⟩),
  (157, ⟨.func, 1, 8, [.nilFunc]⟩),
  (158, ⟨.func, 1, 8, [.nilFunc]⟩),
  (159, ⟨.int .u64, 1, 8, [.int .u64 0]⟩),
  (160, ⟨.func, 1, 8, [.nilFunc]⟩),
  (161, ⟨.func, 1, 8, [.nilFunc]⟩),
  (162, ⟨.pointer 3, 1, 8, [.pointer none]⟩),
  (163, ⟨.func, 1, 8, [.nilFunc]⟩),
  (164, ⟨.pointer 159, 1, 8, [.pointer none]⟩),
  (166, ⟨.func, 1, 8, [.nilFunc]⟩),
  (167, ⟨.func, 1, 8, [.nilFunc]⟩),
  (168, ⟨.struct [(17, 0), (17, 1), (17, 2), (9, 3)], 4, 40, [.pointer none, .pointer none, .pointer none, .string ByteArray.empty]⟩),
  (169, ⟨.struct [(17, 0), (17, 1), (17, 2), (9, 3)], 4, 40, [.pointer none, .pointer none, .pointer none, .string ByteArray.empty]⟩),
  (170, ⟨.array 0 16, 0, 0, []⟩),
  (171, ⟨.struct [(170, 0)], 0, 0, []⟩),
  (172, ⟨.struct [(170, 0)], 0, 0, []⟩),
  (173, ⟨.int .u8, 1, 1, [.int .u8 0]⟩),
  (174, ⟨.int .u8, 1, 1, [.int .u8 0]⟩),
  (175, ⟨.func, 1, 8, [.nilFunc]⟩),
  (176, ⟨.pointer 5, 1, 8, [.pointer none]⟩),
  (177, ⟨.int .i32, 1, 4, [.int .i32 0]⟩),
  (178, ⟨.int .i32, 1, 4, [.int .i32 0]⟩),
  (179, ⟨.struct [(12, 0), (12, 1), (137, 2), (173, 3), (5, 4), (5, 5), (174, 6), (175, 7), (176, 8), (177, 9), (178, 10)], 11, 48, [.int .u64 0, .int .u64 0, .int .u32 0, .int .u8 0, .int .u8 0, .int .u8 0, .int .u8 0, .nilFunc, .pointer none, .int .i32 0, .int .i32 0]⟩),
  (180, ⟨.struct [(12, 0), (12, 1), (137, 2), (173, 3), (5, 4), (5, 5), (174, 6), (175, 7), (176, 8), (177, 9), (178, 10)], 11, 48, [.int .u64 0, .int .u64 0, .int .u32 0, .int .u8 0, .int .u8 0, .int .u8 0, .int .u8 0, .nilFunc, .pointer none, .int .i32 0, .int .i32 0]⟩)]
theorem tok : TOk Go.Proofs.Try.prog tab := TOk_of (by kernel_rfl)
end Go.Q.Yh
