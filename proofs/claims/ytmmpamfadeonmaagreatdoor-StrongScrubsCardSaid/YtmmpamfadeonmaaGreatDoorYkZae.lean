/- A part of the proof of statements of this seat: lemmas, no statement of their own. -/
import Derived.Test.YtmmpamfadeonmaaGreatDoorYkZab
import Derived.Test.YtmmpamfadeonmaaGreatDoorYkZad
import Derived.Test.YtmmpamfadeonmaaGreatDoorProg
import Derived.Test.YtmmpamfadeonmaaGreatDoorYkZac
set_option linter.unusedVariables false
set_option linter.unusedSimpArgs false
section
set_option maxRecDepth 100000
namespace Go.Q.Yk
structure S_api_Share where
 f_X:Int
 f_Y:List Int
def S_api_Share.cs (x:S_api_Share):List Value:=[.int .u8 x.f_X] ++ (arr 32 .u8 x.f_Y)
structure S_api_Mem where
 f_Node:Int
 f_N:Int
 f_T:Int
 f_Boot:Int
 f_Lease:Int
 f_Share:S_api_Share
 f_Proof:List Int
 f_Term:Int
 f_Vote:Int
 f_Base:Int
 f_BaseTerm:Int
 f_Snap:Slc
 f_Entries:Slc
 f_Chains:Slc
 f_Boxes:Slc
 f_Clean:Int
def S_api_Mem.cs (x:S_api_Mem):List Value:=[.int .i64 x.f_Node,.int .i64 x.f_N,.int .i64 x.f_T,.int .u64 x.f_Boot,.int .u64 x.f_Lease] ++ (S_api_Share.cs x.f_Share) ++ (arr 32 .u8 x.f_Proof) ++ [.int .u64 x.f_Term,.int .i64 x.f_Vote,.int .u64 x.f_Base,.int .u64 x.f_BaseTerm,Slc.v x.f_Snap,Slc.v x.f_Entries,Slc.v x.f_Chains,Slc.v x.f_Boxes,.int .u64 x.f_Clean]
structure S_api_Chain where
 f_Index:Int
 f_Key:List Int
def S_api_Chain.cs (x:S_api_Chain):List Value:=[.int .u64 x.f_Index] ++ (arr 32 .u8 x.f_Key)
structure S_api_Keep where
 f_Kind:Int
 f_Term:Int
 f_Vote:Int
 f_Index:Int
 f_Entries:Slc
 f_Snap:Slc
def S_api_Keep.cs (x:S_api_Keep):List Value:=[.int .i64 x.f_Kind,.int .u64 x.f_Term,.int .i64 x.f_Vote,.int .u64 x.f_Index,Slc.v x.f_Entries,Slc.v x.f_Snap]
structure S_api_Change where
 f_Kind:Int
 f_N:Int
 f_Node:Int
 f_Chain:S_api_Chain
 f_Keep:S_api_Keep
 f_Gone:Slc
 f_Boxes:Slc
 f_Tenant:ByteArray
def S_api_Change.cs (x:S_api_Change):List Value:=[.int .i64 x.f_Kind,.int .u64 x.f_N,.int .i64 x.f_Node] ++ (S_api_Chain.cs x.f_Chain) ++ (S_api_Keep.cs x.f_Keep) ++ [Slc.v x.f_Gone,Slc.v x.f_Boxes,.string x.f_Tenant]
structure S_api_Box where
 f_Tenant:ByteArray
 f_Epoch:Int
 f_Nonce:List Int
 f_Body:Slc
def S_api_Box.cs (x:S_api_Box):List Value:=[.string x.f_Tenant,.int .u32 x.f_Epoch] ++ (arr 12 .u8 x.f_Nonce) ++ [Slc.v x.f_Body]
structure S_strong_reader where
 f_b:Slc
 f_bad:Bool
def S_strong_reader.cs (x:S_strong_reader):List Value:=[Slc.v x.f_b,.bool x.f_bad]
structure S_disk_Disk where
 f_now:Option Nat
 f_safe:Option Nat
 f_fuse:Int
 f_dead:Bool
 f_ops:Int
def S_disk_Disk.cs (x:S_disk_Disk):List Value:=[.map x.f_now,.map x.f_safe,.int .i64 x.f_fuse,.bool x.f_dead,.int .i64 x.f_ops]
structure S_strong_Store where
 f_j:Option Addr
 f_m:S_api_Mem
def S_strong_Store.cs (x:S_strong_Store):List Value:=[.pointer x.f_j] ++ (S_api_Mem.cs x.f_m)
structure S_disk_sector where
 f_b:List Int
 f_torn:Bool
def S_disk_sector.cs (x:S_disk_sector):List Value:=(arr 128 .u8 x.f_b) ++ [.bool x.f_torn]
structure S_api_Entry where
 f_Term:Int
 f_Cmd:Slc
def S_api_Entry.cs (x:S_api_Entry):List Value:=[.int .u64 x.f_Term,Slc.v x.f_Cmd]
structure S_journal_Store where
 f_d:Option Addr
 f_pair:Option Addr
 f_fresh:Bool
 f_epoch:Int
 f_next:Int
 f_at:Int
def S_journal_Store.cs (x:S_journal_Store):List Value:=[.pointer x.f_d,.pointer x.f_pair,.bool x.f_fresh,.int .u64 x.f_epoch,.int .u64 x.f_next,.int .i64 x.f_at]
structure S_journal_head where
 f_epoch:Int
 f_number:Int
 f_part:Int
 f_parts:Int
 f_size:Int
def S_journal_head.cs (x:S_journal_head):List Value:=[.int .u64 x.f_epoch,.int .u64 x.f_number,.int .i64 x.f_part,.int .i64 x.f_parts,.int .i64 x.f_size]
structure S_anon165 where
def S_anon165.cs (x:S_anon165):List Value:=[]
structure S_box_reader where
 f_b:Slc
 f_at:Int
 f_e:Int
def S_box_reader.cs (x:S_box_reader):List Value:=[Slc.v x.f_b,.int .i64 x.f_at,.int .i64 x.f_e]
structure S_slot_Pair where
 f_d:Option Addr
 f_from:Int
 f_k:Int
def S_slot_Pair.cs (x:S_slot_Pair):List Value:=[.pointer x.f_d,.int .i64 x.f_from,.int .i64 x.f_k]
structure S_rlog_Log where
 f_index:Int
 f_term:Int
 f_l:Slc
def S_rlog_Log.cs (x:S_rlog_Log):List Value:=[.int .u64 x.f_index,.int .u64 x.f_term,Slc.v x.f_l]
structure S_slot_head where
 f_n:Int
 f_part:Int
 f_parts:Int
 f_size:Int
 f_sum:Int
def S_slot_head.cs (x:S_slot_head):List Value:=[.int .u64 x.f_n,.int .i64 x.f_part,.int .i64 x.f_parts,.int .i64 x.f_size,.int .u64 x.f_sum]
def tab:Tab:=[
 (1,⟨.func,1,8,[.nilFunc]⟩),
 (2,⟨.int .i64,1,8,[.int .i64 0]⟩),
 (3,⟨.int .i64,1,8,[.int .i64 0]⟩),
 (4,⟨.bool,1,1,[.bool false]⟩),
 (5,⟨.int .u8,1,1,[.int .u8 0]⟩),
 (6,⟨.int .u8,1,1,[.int .u8 0]⟩),
 (7,⟨.struct [(2,0),(3,1),(4,2),(6,3)],4,24,[.int .i64 0,.int .i64 0,.bool false,.int .u8 0]⟩),
 (8,⟨.struct [(2,0),(3,1),(4,2),(6,3)],4,24,[.int .i64 0,.int .i64 0,.bool false,.int .u8 0]⟩),
 (9,⟨.string,1,16,[.string ByteArray.empty]⟩),
 (10,⟨.string,1,16,[.string ByteArray.empty]⟩),
 (11,⟨.string,1,16,[.string ByteArray.empty]⟩),
 (12,⟨.int .u64,1,8,[.int .u64 0]⟩),
 (13,⟨.struct [(9,0),(12,1)],2,24,[.string ByteArray.empty,.int .u64 0]⟩),
 (14,⟨.struct [(9,0),(12,1)],2,24,[.string ByteArray.empty,.int .u64 0]⟩),
 (15,⟨.pointer 239,1,8,[.pointer none]⟩),
 (16,⟨.pointer 242,1,8,[.pointer none]⟩),
 (17,⟨.pointer 250,1,8,[.pointer none]⟩),
 (18,⟨.struct [(17,0)],1,8,[.pointer none]⟩),
 (19,⟨.struct [(17,0)],1,8,[.pointer none]⟩),
 (20,⟨.iface,1,16,[.nilIface]⟩),
 (21,⟨.int .i32,1,4,[.int .i32 0]⟩),
 (22,⟨.int .u64,1,8,[.int .u64 0]⟩),
 (23,⟨.array 32 5,32,32,List.replicate 32 (.int .u8 0)⟩),
 (24,⟨.array 32 5,32,32,List.replicate 32 (.int .u8 0)⟩),
 (25,⟨.struct [(5,0),(24,1)],33,33,List.replicate 33 (.int .u8 0)⟩),
 (26,⟨.struct [(5,0),(24,1)],33,33,List.replicate 33 (.int .u8 0)⟩),
 (27,⟨.array 32 5,32,32,List.replicate 32 (.int .u8 0)⟩),
 (28,⟨.slice 5,1,24,[.slice none 0 0]⟩),
 (29,⟨.slice 117,1,24,[.slice none 0 0]⟩),
 (30,⟨.slice 35,1,24,[.slice none 0 0]⟩),
 (31,⟨.slice 76,1,24,[.slice none 0 0]⟩),
 (32,⟨.struct [(3,0),(3,1),(3,2),(22,3),(22,4),(26,5),(27,38),(22,70),(3,71),(22,72),(22,73),(28,74),(29,75),(30,76),(31,77),(22,78)],79,248,[.int .i64 0,.int .i64 0,.int .i64 0,.int .u64 0,.int .u64 0,.int .u8 0,.int .u8 0,.int .u8 0,.int .u8 0,.int .u8 0,.int .u8 0,.int .u8 0,.int .u8 0,.int .u8 0,.int .u8 0,.int .u8 0,.int .u8 0,.int .u8 0,.int .u8 0,.int .u8 0,.int .u8 0,.int .u8 0,.int .u8 0,.int .u8 0,.int .u8 0,.int .u8 0,.int .u8 0,.int .u8 0,.int .u8 0,.int .u8 0,.int .u8 0,.int .u8 0,.int .u8 0,.int .u8 0,.int .u8 0,.int .u8 0,.int .u8 0,.int .u8 0,.int .u8 0,.int .u8 0,.int .u8 0,.int .u8 0,.int .u8 0,.int .u8 0,.int .u8 0,.int .u8 0,.int .u8 0,.int .u8 0,.int .u8 0,.int .u8 0,.int .u8 0,.int .u8 0,.int .u8 0,.int .u8 0,.int .u8 0,.int .u8 0,.int .u8 0,.int .u8 0,.int .u8 0,.int .u8 0,.int .u8 0,.int .u8 0,.int .u8 0,.int .u8 0,.int .u8 0,.int .u8 0,.int .u8 0,.int .u8 0,.int .u8 0,.int .u8 0,.int .u64 0,.int .i64 0,.int .u64 0,.int .u64 0,.slice none 0 0,.slice none 0 0,.slice none 0 0,.slice none 0 0,.int .u64 0]⟩),
 (33,⟨.struct [(3,0),(3,1),(3,2),(22,3),(22,4),(26,5),(27,38),(22,70),(3,71),(22,72),(22,73),(28,74),(29,75),(30,76),(31,77),(22,78)],79,248,[.int .i64 0,.int .i64 0,.int .i64 0,.int .u64 0,.int .u64 0,.int .u8 0,.int .u8 0,.int .u8 0,.int .u8 0,.int .u8 0,.int .u8 0,.int .u8 0,.int .u8 0,.int .u8 0,.int .u8 0,.int .u8 0,.int .u8 0,.int .u8 0,.int .u8 0,.int .u8 0,.int .u8 0,.int .u8 0,.int .u8 0,.int .u8 0,.int .u8 0,.int .u8 0,.int .u8 0,.int .u8 0,.int .u8 0,.int .u8 0,.int .u8 0,.int .u8 0,.int .u8 0,.int .u8 0,.int .u8 0,.int .u8 0,.int .u8 0,.int .u8 0,.int .u8 0,.int .u8 0,.int .u8 0,.int .u8 0,.int .u8 0,.int .u8 0,.int .u8 0,.int .u8 0,.int .u8 0,.int .u8 0,.int .u8 0,.int .u8 0,.int .u8 0,.int .u8 0,.int .u8 0,.int .u8 0,.int .u8 0,.int .u8 0,.int .u8 0,.int .u8 0,.int .u8 0,.int .u8 0,.int .u8 0,.int .u8 0,.int .u8 0,.int .u8 0,.int .u8 0,.int .u8 0,.int .u8 0,.int .u8 0,.int .u8 0,.int .u8 0,.int .u64 0,.int .i64 0,.int .u64 0,.int .u64 0,.slice none 0 0,.slice none 0 0,.slice none 0 0,.slice none 0 0,.int .u64 0]⟩),
 (34,⟨.struct [(22,0),(24,1)],33,40,[.int .u64 0,.int .u8 0,.int .u8 0,.int .u8 0,.int .u8 0,.int .u8 0,.int .u8 0,.int .u8 0,.int .u8 0,.int .u8 0,.int .u8 0,.int .u8 0,.int .u8 0,.int .u8 0,.int .u8 0,.int .u8 0,.int .u8 0,.int .u8 0,.int .u8 0,.int .u8 0,.int .u8 0,.int .u8 0,.int .u8 0,.int .u8 0,.int .u8 0,.int .u8 0,.int .u8 0,.int .u8 0,.int .u8 0,.int .u8 0,.int .u8 0,.int .u8 0,.int .u8 0]⟩),
 (35,⟨.struct [(22,0),(24,1)],33,40,[.int .u64 0,.int .u8 0,.int .u8 0,.int .u8 0,.int .u8 0,.int .u8 0,.int .u8 0,.int .u8 0,.int .u8 0,.int .u8 0,.int .u8 0,.int .u8 0,.int .u8 0,.int .u8 0,.int .u8 0,.int .u8 0,.int .u8 0,.int .u8 0,.int .u8 0,.int .u8 0,.int .u8 0,.int .u8 0,.int .u8 0,.int .u8 0,.int .u8 0,.int .u8 0,.int .u8 0,.int .u8 0,.int .u8 0,.int .u8 0,.int .u8 0,.int .u8 0,.int .u8 0]⟩),
 (36,⟨.struct [(3,0),(22,1),(3,2),(22,3),(29,4),(28,5)],6,80,[.int .i64 0,.int .u64 0,.int .i64 0,.int .u64 0,.slice none 0 0,.slice none 0 0]⟩),
 (37,⟨.struct [(3,0),(22,1),(3,2),(22,3),(29,4),(28,5)],6,80,[.int .i64 0,.int .u64 0,.int .i64 0,.int .u64 0,.slice none 0 0,.slice none 0 0]⟩),
 (38,⟨.slice 74,1,24,[.slice none 0 0]⟩),
 (39,⟨.struct [(3,0),(22,1),(3,2),(35,3),(37,36),(38,42),(31,43),(9,44)],45,208,[.int .i64 0,.int .u64 0,.int .i64 0,.int .u64 0,.int .u8 0,.int .u8 0,.int .u8 0,.int .u8 0,.int .u8 0,.int .u8 0,.int .u8 0,.int .u8 0,.int .u8 0,.int .u8 0,.int .u8 0,.int .u8 0,.int .u8 0,.int .u8 0,.int .u8 0,.int .u8 0,.int .u8 0,.int .u8 0,.int .u8 0,.int .u8 0,.int .u8 0,.int .u8 0,.int .u8 0,.int .u8 0,.int .u8 0,.int .u8 0,.int .u8 0,.int .u8 0,.int .u8 0,.int .u8 0,.int .u8 0,.int .u8 0,.int .i64 0,.int .u64 0,.int .i64 0,.int .u64 0,.slice none 0 0,.slice none 0 0,.slice none 0 0,.slice none 0 0,.string ByteArray.empty]⟩),
 (40,⟨.struct [(3,0),(22,1),(3,2),(35,3),(37,36),(38,42),(31,43),(9,44)],45,208,[.int .i64 0,.int .u64 0,.int .i64 0,.int .u64 0,.int .u8 0,.int .u8 0,.int .u8 0,.int .u8 0,.int .u8 0,.int .u8 0,.int .u8 0,.int .u8 0,.int .u8 0,.int .u8 0,.int .u8 0,.int .u8 0,.int .u8 0,.int .u8 0,.int .u8 0,.int .u8 0,.int .u8 0,.int .u8 0,.int .u8 0,.int .u8 0,.int .u8 0,.int .u8 0,.int .u8 0,.int .u8 0,.int .u8 0,.int .u8 0,.int .u8 0,.int .u8 0,.int .u8 0,.int .u8 0,.int .u8 0,.int .u8 0,.int .i64 0,.int .u64 0,.int .i64 0,.int .u64 0,.slice none 0 0,.slice none 0 0,.slice none 0 0,.slice none 0 0,.string ByteArray.empty]⟩),
 (41,⟨.func,1,8,[.nilFunc]⟩),
 (42,⟨.func,1,8,[.nilFunc]⟩),
 (43,⟨.func,1,8,[.nilFunc]⟩),
 (44,⟨.func,1,8,[.nilFunc]⟩),
 (45,⟨.func,1,8,[.nilFunc]⟩),
 (46,⟨.int .i64,1,8,[.int .i64 0]⟩),
 (47,⟨.func,1,8,[.nilFunc]⟩),
 (48,⟨.func,1,8,[.nilFunc]⟩),
 (49,⟨.func,1,8,[.nilFunc]⟩),
 (51,⟨.func,1,8,[.nilFunc]⟩),
 (52,⟨.func,1,8,[.nilFunc]⟩),
 (54,⟨.func,1,8,[.nilFunc]⟩),
 (55,⟨.func,1,8,[.nilFunc]⟩),
 (56,⟨.func,1,8,[.nilFunc]⟩),
 (57,⟨.func,1,8,[.nilFunc]⟩),
 (58,⟨.slice 40,1,24,[.slice none 0 0]⟩),
 (59,⟨.pointer 100,1,8,[.pointer none]⟩),
 (60,⟨.func,1,8,[.nilFunc]⟩),
 (61,⟨.func,1,8,[.nilFunc]⟩),
 (62,⟨.pointer 110,1,8,[.pointer none]⟩),
 (64,⟨.func,1,8,[.nilFunc]⟩),
 (65,⟨.func,1,8,[.nilFunc]⟩),
 (66,⟨.func,1,8,[.nilFunc]⟩),
 (67,⟨.func,1,8,[.nilFunc]⟩),
 (68,⟨.func,1,8,[.nilFunc]⟩),
 (69,⟨.func,1,8,[.nilFunc]⟩),
 (70,⟨.func,1,8,[.nilFunc]⟩),
 (71,⟨.func,1,8,[.nilFunc]⟩),
 (72,⟨.int .u32,1,4,[.int .u32 0]⟩),
 (73,⟨.array 12 5,12,12,[.int .u8 0,.int .u8 0,.int .u8 0,.int .u8 0,.int .u8 0,.int .u8 0,.int .u8 0,.int .u8 0,.int .u8 0,.int .u8 0,.int .u8 0,.int .u8 0]⟩),
 (74,⟨.array 12 5,12,12,[.int .u8 0,.int .u8 0,.int .u8 0,.int .u8 0,.int .u8 0,.int .u8 0,.int .u8 0,.int .u8 0,.int .u8 0,.int .u8 0,.int .u8 0,.int .u8 0]⟩),
 (75,⟨.struct [(9,0),(72,1),(74,2),(28,14)],15,56,[.string ByteArray.empty,.int .u32 0,.int .u8 0,.int .u8 0,.int .u8 0,.int .u8 0,.int .u8 0,.int .u8 0,.int .u8 0,.int .u8 0,.int .u8 0,.int .u8 0,.int .u8 0,.int .u8 0,.slice none 0 0]⟩),
 (76,⟨.struct [(9,0),(72,1),(74,2),(28,14)],15,56,[.string ByteArray.empty,.int .u32 0,.int .u8 0,.int .u8 0,.int .u8 0,.int .u8 0,.int .u8 0,.int .u8 0,.int .u8 0,.int .u8 0,.int .u8 0,.int .u8 0,.int .u8 0,.int .u8 0,.slice none 0 0]⟩),
 (77,⟨.func,1,8,[.nilFunc]⟩),
 (78,⟨.func,1,8,[.nilFunc]⟩),
 (79,⟨.func,1,8,[.nilFunc]⟩),
 (80,⟨.func,1,8,[.nilFunc]⟩),
 (81,⟨.func,1,8,[.nilFunc]⟩),
 (82,⟨.func,1,8,[.nilFunc]⟩),
 (83,⟨.func,1,8,[.nilFunc]⟩),
 (84,⟨.func,1,8,[.nilFunc]⟩),
 (85,⟨.func,1,8,[.nilFunc]⟩),
 (86,⟨.slice 22,1,24,[.slice none 0 0]⟩),
 (87,⟨.func,1,8,[.nilFunc]⟩),
 (88,⟨.func,1,8,[.nilFunc]⟩),
 (89,⟨.func,1,8,[.nilFunc]⟩),
 (90,⟨.pointer 92,1,8,[.pointer none]⟩),
 (91,⟨.struct [(28,0),(4,1)],2,32,[.slice none 0 0,.bool false]⟩),
 (92,⟨.struct [(28,0),(4,1)],2,32,[.slice none 0 0,.bool false]⟩),
 (93,⟨.func,1,8,[.nilFunc]⟩),
 (94,⟨.func,1,8,[.nilFunc]⟩),
 (95,⟨.func,1,8,[.nilFunc]⟩),
 (96,⟨.func,1,8,[.nilFunc]⟩),
 (97,⟨.func,1,8,[.nilFunc]⟩),
 (98,⟨.map 3 115,1,8,[.map none]⟩),
 (99,⟨.struct [(98,0),(98,1),(3,2),(4,3),(3,4)],5,40,[.map none,.map none,.int .i64 0,.bool false,.int .i64 0]⟩),
 (100,⟨.struct [(98,0),(98,1),(3,2),(4,3),(3,4)],5,40,[.map none,.map none,.int .i64 0,.bool false,.int .i64 0]⟩),
 (101,⟨.pointer 137,1,8,[.pointer none]⟩),
 (103,⟨.func,1,8,[.nilFunc]⟩),
 (104,⟨.slice 28,1,24,[.slice none 0 0]⟩),
 (106,⟨.func,1,8,[.nilFunc]⟩),
 (107,⟨.func,1,8,[.nilFunc]⟩),
 (108,⟨.func,1,8,[.nilFunc]⟩),
 (109,⟨.struct [(101,0),(33,1)],80,256,[.pointer none,.int .i64 0,.int .i64 0,.int .i64 0,.int .u64 0,.int .u64 0,.int .u8 0,.int .u8 0,.int .u8 0,.int .u8 0,.int .u8 0,.int .u8 0,.int .u8 0,.int .u8 0,.int .u8 0,.int .u8 0,.int .u8 0,.int .u8 0,.int .u8 0,.int .u8 0,.int .u8 0,.int .u8 0,.int .u8 0,.int .u8 0,.int .u8 0,.int .u8 0,.int .u8 0,.int .u8 0,.int .u8 0,.int .u8 0,.int .u8 0,.int .u8 0,.int .u8 0,.int .u8 0,.int .u8 0,.int .u8 0,.int .u8 0,.int .u8 0,.int .u8 0,.int .u8 0,.int .u8 0,.int .u8 0,.int .u8 0,.int .u8 0,.int .u8 0,.int .u8 0,.int .u8 0,.int .u8 0,.int .u8 0,.int .u8 0,.int .u8 0,.int .u8 0,.int .u8 0,.int .u8 0,.int .u8 0,.int .u8 0,.int .u8 0,.int .u8 0,.int .u8 0,.int .u8 0,.int .u8 0,.int .u8 0,.int .u8 0,.int .u8 0,.int .u8 0,.int .u8 0,.int .u8 0,.int .u8 0,.int .u8 0,.int .u8 0,.int .u8 0,.int .u64 0,.int .i64 0,.int .u64 0,.int .u64 0,.slice none 0 0,.slice none 0 0,.slice none 0 0,.slice none 0 0,.int .u64 0]⟩),
 (110,⟨.struct [(101,0),(33,1)],80,256,[.pointer none,.int .i64 0,.int .i64 0,.int .i64 0,.int .u64 0,.int .u64 0,.int .u8 0,.int .u8 0,.int .u8 0,.int .u8 0,.int .u8 0,.int .u8 0,.int .u8 0,.int .u8 0,.int .u8 0,.int .u8 0,.int .u8 0,.int .u8 0,.int .u8 0,.int .u8 0,.int .u8 0,.int .u8 0,.int .u8 0,.int .u8 0,.int .u8 0,.int .u8 0,.int .u8 0,.int .u8 0,.int .u8 0,.int .u8 0,.int .u8 0,.int .u8 0,.int .u8 0,.int .u8 0,.int .u8 0,.int .u8 0,.int .u8 0,.int .u8 0,.int .u8 0,.int .u8 0,.int .u8 0,.int .u8 0,.int .u8 0,.int .u8 0,.int .u8 0,.int .u8 0,.int .u8 0,.int .u8 0,.int .u8 0,.int .u8 0,.int .u8 0,.int .u8 0,.int .u8 0,.int .u8 0,.int .u8 0,.int .u8 0,.int .u8 0,.int .u8 0,.int .u8 0,.int .u8 0,.int .u8 0,.int .u8 0,.int .u8 0,.int .u8 0,.int .u8 0,.int .u8 0,.int .u8 0,.int .u8 0,.int .u8 0,.int .u8 0,.int .u8 0,.int .u64 0,.int .i64 0,.int .u64 0,.int .u64 0,.slice none 0 0,.slice none 0 0,.slice none 0 0,.slice none 0 0,.int .u64 0]⟩),
 (111,⟨.func,1,8,[.nilFunc]⟩),
 (112,⟨.func,1,8,[.nilFunc]⟩),
 (113,⟨.array 128 5,128,128,List.replicate 128 (.int .u8 0)⟩),
 (114,⟨.struct [(113,0),(4,128)],129,129,[.int .u8 0,.int .u8 0,.int .u8 0,.int .u8 0,.int .u8 0,.int .u8 0,.int .u8 0,.int .u8 0,.int .u8 0,.int .u8 0,.int .u8 0,.int .u8 0,.int .u8 0,.int .u8 0,.int .u8 0,.int .u8 0,.int .u8 0,.int .u8 0,.int .u8 0,.int .u8 0,.int .u8 0,.int .u8 0,.int .u8 0,.int .u8 0,.int .u8 0,.int .u8 0,.int .u8 0,.int .u8 0,.int .u8 0,.int .u8 0,.int .u8 0,.int .u8 0,.int .u8 0,.int .u8 0,.int .u8 0,.int .u8 0,.int .u8 0,.int .u8 0,.int .u8 0,.int .u8 0,.int .u8 0,.int .u8 0,.int .u8 0,.int .u8 0,.int .u8 0,.int .u8 0,.int .u8 0,.int .u8 0,.int .u8 0,.int .u8 0,.int .u8 0,.int .u8 0,.int .u8 0,.int .u8 0,.int .u8 0,.int .u8 0,.int .u8 0,.int .u8 0,.int .u8 0,.int .u8 0,.int .u8 0,.int .u8 0,.int .u8 0,.int .u8 0,.int .u8 0,.int .u8 0,.int .u8 0,.int .u8 0,.int .u8 0,.int .u8 0,.int .u8 0,.int .u8 0,.int .u8 0,.int .u8 0,.int .u8 0,.int .u8 0,.int .u8 0,.int .u8 0,.int .u8 0,.int .u8 0,.int .u8 0,.int .u8 0,.int .u8 0,.int .u8 0,.int .u8 0,.int .u8 0,.int .u8 0,.int .u8 0,.int .u8 0,.int .u8 0,.int .u8 0,.int .u8 0,.int .u8 0,.int .u8 0,.int .u8 0,.int .u8 0,.int .u8 0,.int .u8 0,.int .u8 0,.int .u8 0,.int .u8 0,.int .u8 0,.int .u8 0,.int .u8 0,.int .u8 0,.int .u8 0,.int .u8 0,.int .u8 0,.int .u8 0,.int .u8 0,.int .u8 0,.int .u8 0,.int .u8 0,.int .u8 0,.int .u8 0,.int .u8 0,.int .u8 0,.int .u8 0,.int .u8 0,.int .u8 0,.int .u8 0,.int .u8 0,.int .u8 0,.int .u8 0,.int .u8 0,.int .u8 0,.int .u8 0,.int .u8 0,.bool false]⟩),
 (115,⟨.struct [(113,0),(4,128)],129,129,[.int .u8 0,.int .u8 0,.int .u8 0,.int .u8 0,.int .u8 0,.int .u8 0,.int .u8 0,.int .u8 0,.int .u8 0,.int .u8 0,.int .u8 0,.int .u8 0,.int .u8 0,.int .u8 0,.int .u8 0,.int .u8 0,.int .u8 0,.int .u8 0,.int .u8 0,.int .u8 0,.int .u8 0,.int .u8 0,.int .u8 0,.int .u8 0,.int .u8 0,.int .u8 0,.int .u8 0,.int .u8 0,.int .u8 0,.int .u8 0,.int .u8 0,.int .u8 0,.int .u8 0,.int .u8 0,.int .u8 0,.int .u8 0,.int .u8 0,.int .u8 0,.int .u8 0,.int .u8 0,.int .u8 0,.int .u8 0,.int .u8 0,.int .u8 0,.int .u8 0,.int .u8 0,.int .u8 0,.int .u8 0,.int .u8 0,.int .u8 0,.int .u8 0,.int .u8 0,.int .u8 0,.int .u8 0,.int .u8 0,.int .u8 0,.int .u8 0,.int .u8 0,.int .u8 0,.int .u8 0,.int .u8 0,.int .u8 0,.int .u8 0,.int .u8 0,.int .u8 0,.int .u8 0,.int .u8 0,.int .u8 0,.int .u8 0,.int .u8 0,.int .u8 0,.int .u8 0,.int .u8 0,.int .u8 0,.int .u8 0,.int .u8 0,.int .u8 0,.int .u8 0,.int .u8 0,.int .u8 0,.int .u8 0,.int .u8 0,.int .u8 0,.int .u8 0,.int .u8 0,.int .u8 0,.int .u8 0,.int .u8 0,.int .u8 0,.int .u8 0,.int .u8 0,.int .u8 0,.int .u8 0,.int .u8 0,.int .u8 0,.int .u8 0,.int .u8 0,.int .u8 0,.int .u8 0,.int .u8 0,.int .u8 0,.int .u8 0,.int .u8 0,.int .u8 0,.int .u8 0,.int .u8 0,.int .u8 0,.int .u8 0,.int .u8 0,.int .u8 0,.int .u8 0,.int .u8 0,.int .u8 0,.int .u8 0,.int .u8 0,.int .u8 0,.int .u8 0,.int .u8 0,.int .u8 0,.int .u8 0,.int .u8 0,.int .u8 0,.int .u8 0,.int .u8 0,.int .u8 0,.int .u8 0,.int .u8 0,.int .u8 0,.bool false]⟩),
 (116,⟨.struct [(22,0),(28,1)],2,32,[.int .u64 0,.slice none 0 0]⟩),
 (117,⟨.struct [(22,0),(28,1)],2,32,[.int .u64 0,.slice none 0 0]⟩),
 (118,⟨.slice 3,1,24,[.slice none 0 0]⟩),
 (119,⟨.func,1,8,[.nilFunc]⟩),
 (120,⟨.func,1,8,[.nilFunc]⟩),
 (121,⟨.func,1,8,[.nilFunc]⟩),
 (122,⟨.func,1,8,[.nilFunc]⟩),
 (123,⟨.int .u64,1,8,[.int .u64 0]⟩),
 (124,⟨.func,1,8,[.nilFunc]⟩),
 (125,⟨.func,1,8,[.nilFunc]⟩),
 (126,⟨.func,1,8,[.nilFunc]⟩),
 (127,⟨.func,1,8,[.nilFunc]⟩),
 (129,⟨.func,1,8,[.nilFunc]⟩),
 (130,⟨.func,1,8,[.nilFunc]⟩),
 (132,⟨.func,1,8,[.nilFunc]⟩),
 (133,⟨.pointer 174,1,8,[.pointer none]⟩),
 (135,⟨.func,1,8,[.nilFunc]⟩),
 (136,⟨.struct [(59,0),(133,1),(4,2),(22,3),(22,4),(3,5)],6,48,[.pointer none,.pointer none,.bool false,.int .u64 0,.int .u64 0,.int .i64 0]⟩),
 (137,⟨.struct [(59,0),(133,1),(4,2),(22,3),(22,4),(3,5)],6,48,[.pointer none,.pointer none,.bool false,.int .u64 0,.int .u64 0,.int .i64 0]⟩),
 (139,⟨.func,1,8,[.nilFunc]⟩),
 (141,⟨.func,1,8,[.nilFunc]⟩),
 (142,⟨.func,1,8,[.nilFunc]⟩),
 (144,⟨.func,1,8,[.nilFunc]⟩),
 (145,⟨.func,1,8,[.nilFunc]⟩),
 (146,⟨.func,1,8,[.nilFunc]⟩),
 (147,⟨.func,1,8,[.nilFunc]⟩),
 (148,⟨.func,1,8,[.nilFunc]⟩),
 (149,⟨.func,1,8,[.nilFunc]⟩),
 (150,⟨.pointer 33,1,8,[.pointer none]⟩),
 (151,⟨.struct [(22,0),(22,1),(3,2),(3,3),(3,4)],5,40,[.int .u64 0,.int .u64 0,.int .i64 0,.int .i64 0,.int .i64 0]⟩),
 (152,⟨.struct [(22,0),(22,1),(3,2),(3,3),(3,4)],5,40,[.int .u64 0,.int .u64 0,.int .i64 0,.int .i64 0,.int .i64 0]⟩),
 (153,⟨.func,1,8,[.nilFunc]⟩),
 (154,⟨.func,1,8,[.nilFunc]⟩),
 (156,⟨.func,1,8,[.nilFunc]⟩),
 (157,⟨.pointer 191,1,8,[.pointer none]⟩),
 (158,⟨.func,1,8,[.nilFunc]⟩),
 (159,⟨.func,1,8,[.nilFunc]⟩),
 (160,⟨.func,1,8,[.nilFunc]⟩),
 (161,⟨.func,1,8,[.nilFunc]⟩),
 (162,⟨.func,1,8,[.nilFunc]⟩),
 (163,⟨.func,1,8,[.nilFunc]⟩),
 (164,⟨.map 74 165,1,8,[.map none]⟩),
 (165,⟨.struct [],0,0,[]⟩),
 (167,⟨.func,1,8,[.nilFunc]⟩),
 (168,⟨.func,1,8,[.nilFunc]⟩),
 (169,⟨.pointer 171,1,8,[.pointer none]⟩),
 (170,⟨.struct [(28,0),(3,1),(46,2)],3,40,[.slice none 0 0,.int .i64 0,.int .i64 0]⟩),
 (171,⟨.struct [(28,0),(3,1),(46,2)],3,40,[.slice none 0 0,.int .i64 0,.int .i64 0]⟩),
 (172,⟨.func,1,8,[.nilFunc]⟩),
 (173,⟨.struct [(59,0),(3,1),(3,2)],3,24,[.pointer none,.int .i64 0,.int .i64 0]⟩),
 (174,⟨.struct [(59,0),(3,1),(3,2)],3,24,[.pointer none,.int .i64 0,.int .i64 0]⟩),
 (176,⟨.func,1,8,[.nilFunc]⟩),
 (177,⟨.func,1,8,[.nilFunc]⟩),
 (178,⟨.func,1,8,[.nilFunc]⟩),
 (179,⟨.func,1,8,[.nilFunc]⟩),
 (180,⟨.func,1,8,[.nilFunc]⟩),
 (181,⟨.func,1,8,[.nilFunc]⟩),
 (182,⟨.func,1,8,[.nilFunc]⟩),
 (183,⟨.func,1,8,[.nilFunc]⟩),
 (185,⟨.func,1,8,[.nilFunc]⟩),
 (186,⟨.func,1,8,[.nilFunc]⟩),
 (187,⟨.func,1,8,[.nilFunc]⟩),
 (188,⟨.func,1,8,[.nilFunc]⟩),
 (189,⟨.func,1,8,[.nilFunc]⟩),
 (190,⟨.struct [(22,0),(22,1),(29,2)],3,40,[.int .u64 0,.int .u64 0,.slice none 0 0]⟩),
 (191,⟨.struct [(22,0),(22,1),(29,2)],3,40,[.int .u64 0,.int .u64 0,.slice none 0 0]⟩),
 (192,⟨.func,1,8,[.nilFunc]⟩),
 (193,⟨.func,1,8,[.nilFunc]⟩),
 (194,⟨.func,1,8,[.nilFunc]⟩),
 (196,⟨.func,1,8,[.nilFunc]⟩),
 (197,⟨.func,1,8,[.nilFunc]⟩),
 (198,⟨.func,1,8,[.nilFunc]⟩),
 (199,⟨.func,1,8,[.nilFunc]⟩),
 (200,⟨.struct [(22,0),(3,1),(3,2),(3,3),(22,4)],5,40,[.int .u64 0,.int .i64 0,.int .i64 0,.int .i64 0,.int .u64 0]⟩),
 (201,⟨.struct [(22,0),(3,1),(3,2),(3,3),(22,4)],5,40,[.int .u64 0,.int .i64 0,.int .i64 0,.int .i64 0,.int .u64 0]⟩),
 (202,⟨.func,1,8,[.nilFunc]⟩),
 (203,⟨.func,1,8,[.nilFunc]⟩),
 (204,⟨.func,1,8,[.nilFunc]⟩),
 (205,⟨.func,1,8,[.nilFunc]⟩),
 (206,⟨.int .i64,1,8,[.int .i64 0]⟩),
 (208,⟨.func,1,8,[.nilFunc]⟩),
 (209,⟨.func,1,8,[.nilFunc]⟩),
 (210,⟨.func,1,8,[.nilFunc]⟩),
 (211,⟨.func,1,8,[.nilFunc]⟩),
 (213,⟨.func,1,8,[.nilFunc]⟩),
 (214,⟨.func,1,8,[.nilFunc]⟩),
 (215,⟨.func,1,8,[.nilFunc]⟩),
 (216,⟨.func,1,8,[.nilFunc]⟩),
 (217,⟨.array 8 72,8,32,[.int .u32 0,.int .u32 0,.int .u32 0,.int .u32 0,.int .u32 0,.int .u32 0,.int .u32 0,.int .u32 0]⟩),
 (218,⟨.array 8 72,8,32,[.int .u32 0,.int .u32 0,.int .u32 0,.int .u32 0,.int .u32 0,.int .u32 0,.int .u32 0,.int .u32 0]⟩),
 (219,⟨.func,1,8,[.nilFunc]⟩),
 (220,⟨.func,1,8,[.nilFunc]⟩),
 (222,⟨.func,1,8,[.nilFunc]⟩),
 (223,⟨.int .u64,1,8,[.int .u64 0]⟩),
 (224,⟨.func,1,8,[.nilFunc]⟩),
 (225,⟨.func,1,8,[.nilFunc]⟩),
 (226,⟨.pointer 3,1,8,[.pointer none]⟩),
 (227,⟨.func,1,8,[.nilFunc]⟩),
 (228,⟨.func,1,8,[.nilFunc]⟩),
 (229,⟨.array 64 72,64,256,List.replicate 64 (.int .u32 0)⟩),
 (230,⟨.func,1,8,[.nilFunc]⟩),
 (231,⟨.func,1,8,[.nilFunc]⟩),
 (232,⟨.slice 72,1,24,[.slice none 0 0]⟩),
 (233,⟨.pointer 223,1,8,[.pointer none]⟩),
 (235,⟨.func,1,8,[.nilFunc]⟩),
 (236,⟨.func,1,8,[.nilFunc]⟩),
 (237,⟨.func,1,8,[.nilFunc]⟩),
 (238,⟨.struct [(17,0),(17,1),(17,2),(9,3)],4,40,[.pointer none,.pointer none,.pointer none,.string ByteArray.empty]⟩),
 (239,⟨.struct [(17,0),(17,1),(17,2),(9,3)],4,40,[.pointer none,.pointer none,.pointer none,.string ByteArray.empty]⟩),
 (240,⟨.array 0 16,0,0,[]⟩),
 (241,⟨.struct [(240,0)],0,0,[]⟩),
 (242,⟨.struct [(240,0)],0,0,[]⟩),
 (243,⟨.int .u8,1,1,[.int .u8 0]⟩),
 (244,⟨.int .u8,1,1,[.int .u8 0]⟩),
 (245,⟨.func,1,8,[.nilFunc]⟩),
 (246,⟨.pointer 5,1,8,[.pointer none]⟩),
 (247,⟨.int .i32,1,4,[.int .i32 0]⟩),
 (248,⟨.int .i32,1,4,[.int .i32 0]⟩),
 (249,⟨.struct [(12,0),(12,1),(72,2),(243,3),(5,4),(5,5),(244,6),(245,7),(246,8),(247,9),(248,10)],11,48,[.int .u64 0,.int .u64 0,.int .u32 0,.int .u8 0,.int .u8 0,.int .u8 0,.int .u8 0,.nilFunc,.pointer none,.int .i32 0,.int .i32 0]⟩),
 (250,⟨.struct [(12,0),(12,1),(72,2),(243,3),(5,4),(5,5),(244,6),(245,7),(246,8),(247,9),(248,10)],11,48,[.int .u64 0,.int .u64 0,.int .u32 0,.int .u8 0,.int .u8 0,.int .u8 0,.int .u8 0,.nilFunc,.pointer none,.int .i32 0,.int .i32 0]⟩)]
theorem tok:TOk Go.Proofs.Tryz.prog tab:=TOk_of (by kernel_rfl)
end Go.Q.Yk
end
section
/- Effects that have no order among themselves: whichever comes first. -/
namespace Go.Q
section
variable {c:Cx} {lops:List Oper} {Q:Exit->Act->World->Prop} {done dead:List Nat} {pend D:List Pn} {e:Env} {h:Heap} {listed:Array Bool} {a:Act}
/-- operation i comes up -/
def SimI (c:Cx) (lops:List Oper) (Q:Exit->Act->World->Prop) (done dead:List Nat) (pend:List Pn) (e:Env) (h:Heap) (i:Nat):Prop :=
 ∀ fuel D listed a w,cnt listed<=fuel + 1->Inv c lops done dead pend e D listed a->WW c.D c.W0 h w->i ∉ done->un listed i->(∀ p,isPred lops p i=true->¬ un listed p) ->
  wpOp c.P lops.toArray Q i (wpAny c.P .any lops.toArray Q fuel (listed.setIfInBounds i true)) a w
def sideI (lops:List Oper) (done dead dead' A:List Nat) (i:Nat):Bool:=!mem done i && !mem dead i && ancOk lops i A && dead'.all fun x=>mem A x || mem dead x
def onlyL (lops:List Oper) (done L:List Nat):Bool :=
 (List.range lops.length).all fun j=>mem (L ++ done) j || (List.range j).any fun p=>isPred lops p j && !mem done p
theorem sim_ei (i:Nat) (A dead':List Nat) {o:Oper} {Φ:Value->Heap->Prop} {ei:Env} (hwf:wfR lops=true) (hp:PFs c lops h dead pend) (hside:sideI lops done dead dead' A i=true) (hs:Sub ei e) (hk:slotsOk lops done i ei=true)
  (ho:lops[i]? = some o) (hdk:dOk c.N o.dst=true) (hw:wnt lops ei o=some true) (hy:YE c.D c.P ei h o Φ)
  (H:∀ v h',Φ v h'->Sim c lops Q (i :: done) dead' pend (pu e o.dst v) h'):SimI c lops Q done dead pend e h i:=by
 simp only [wfR,Bool.and_eq_true] at hwf
 simp only [sideI,Bool.and_eq_true,Bool.not_eq_true',List.all_eq_true,Bool.or_eq_true] at hside
 obtain ⟨⟨⟨hi,hid⟩,hA⟩,hdd⟩:=hside
 have hlt:i < lops.length:=(List.getElem?_eq_some_iff.1 ho).1
 have hi':=not_mem hi
 intro fuel D listed a w hf I hww hj hu hpre
 have hjl:=hlt
 obtain ⟨j,hji⟩:∃ j,j=i:=⟨i,rfl⟩
 subst hji
 have av:Fr c.N ei a:=I.fr (x:=⟨j,undef,ei⟩) hu (I.look hwf.2 hs hk) hpre
 have hds:dst? lops j=o.dst:=by simp [dst?,ho]
 unfold wpOp
 simp only [List.getElem?_toArray,ho,wnt_spec hw av,if_true]
 left
 refine hy a w av.agr hww.heap _ _ fun v w' hw' hΦ=>?_
 have I1:=I.fix (v:=v) hwf.2 hi' (not_mem hid) hlt hs hk
 have I2:=I1.come hwf.2 (x:=⟨j,v,ei⟩) (by simp) hu hpre (by rw [hds]; exact hdk)
 rw [hds] at I2
 -- those that 'i' waited for have come up
 have anc:∀ n x,lops.length - x<=n->x∈A->¬ un listed x:=by
  intro n
  induction n with
  | zero =>
   intro x hx hxA
   simp only [ancOk,List.all_eq_true,List.any_eq_true] at hA
   obtain ⟨b,_,hb⟩:=hA x hxA
   have:=pred_lt hwf.1 hb
   omega
  | succ n ih =>
   intro x hx hxA
   have hA':=hA
   simp only [ancOk,List.all_eq_true,List.any_eq_true] at hA'
   obtain ⟨b,hbm,hb⟩:=hA' x hxA
   have hbl:=pred_lt hwf.1 hb
   rcases List.mem_cons.1 hbm with rfl | hbm
   ·exact hpre x hb
   ·exact I.dc b hbl.2 (ih b (by omega) hbm) x hb
 refine H v w'.heap hΦ fuel (⟨j,v,ei⟩ :: D) _ _ _ (by have:=cnt_set hu; omega) ?_ (hww.trans hw')
 have pl:∀ x∈(⟨j,v,ei⟩:Pn) :: D,un (listed.setIfInBounds j true) x.j->x∈pend/\x.j ∉ dead':=fun x hx hl=>by
  obtain ⟨h1,h3⟩:=I2.pd x hx hl
  have h2:=(un_set (un_lt hu)).1 hl
  rcases List.mem_cons.1 h1 with rfl | h1
  ·exact absurd rfl h2.2
  ·refine ⟨h1,fun hh=>?_⟩
   rcases hdd x.j hh with hA1 | hA1
   ·exact anc _ _ (Nat.le_refl _) (mem_iff.1 hA1) h2.1
   ·exact h3 (mem_iff.1 hA1)
 exact ⟨I2.sz,I2.d,I2.n,I2.jd,I2.dj,I2.uq,I2.dn,I2.dc,pl,fun x hx=>I2.pin x (List.mem_cons_of_mem _ hx),I2.val,I2.env,I2.ops⟩
/-- two effects, in either order -/
theorem sim_or (i j:Nat) {A B:Prop} (hwf:wfR lops=true) (hp:PFs c lops h dead pend) (honly:onlyL lops done [i,j]=true) (hi:(!mem done i && Nat.blt i lops.length)=true) (H:A/\B) (h1:A->SimI c lops Q done dead pend e h i) (h2:B->SimI c lops Q done dead pend e h j):Sim c lops Q done dead pend e h:=by
 simp only [wfR,Bool.and_eq_true] at hwf
 simp only [Bool.and_eq_true,Bool.not_eq_true',Nat.blt_eq] at hi
 refine sim_core hwf.1 hwf.2 hp (fun D listed a w I hw hn=>absurd (I.dn i hi.2 (hn i)) (not_mem hi.1)) fun fuel D listed a w x hf I hww hx hxl hu hpre=>?_
 simp only [onlyL,List.all_eq_true,List.mem_range,Bool.or_eq_true,List.any_eq_true,Bool.and_eq_true,Bool.not_eq_true'] at honly
 rcases honly x hxl with h3 | ⟨p,hpj,hp1,hp2⟩
 ·rcases List.mem_append.1 (mem_iff.1 h3) with h4 | h4
  ·simp only [List.mem_cons,List.not_mem_nil,or_false] at h4
   rcases h4 with rfl | rfl
   ·exact h1 H.1 fuel D listed a w hf I hww hx hu hpre
   ·exact h2 H.2 fuel D listed a w hf I hww hx hu hpre
  ·exact absurd h4 hx
 ·exact absurd (I.dn p (by omega) (hpre p hp1)) (not_mem hp2)
end
end Go.Q
end
section
/- A call of a function value in a region that draws its order. -/
namespace Go.Q
section
variable {c:Cx} {lops:List Oper} {Q:Exit->Act->World->Prop} {done dead:List Nat} {pend:List Pn} {e:Env} {h:Heap}
end
end Go.Q
end
section
/- Short words for what the printed proofs say often. -/
namespace Go.Q
open Go.RowKit
abbrev ad (b:Nat):Addr:=⟨b,0,none⟩
abbrev pt (b:Nat):Value:=.pointer (some ⟨b,0,none⟩)
section
variable {c:Cx} {lops:List Oper} {Q:Exit->Act->World->Prop} {done dead:List Nat} {pend D:List Pn} {e:Env} {h:Heap}
end
section
variable {c:Cx} {lops l:List Oper} {x:Code} {Q:Exit->Act->World->Prop} {K:Act->World->Prop} {e:Env} {h:Heap}
theorem xJ {α:Type} {E:α->Env} {Φ:α->Heap->Prop} (s:α) (H:Φ s h) (hs:Sub (E s) e:=by repeat (first | exact trivial | refine ⟨rfl,?_⟩)):gex c (Exit.then (Jn c E Φ) Q) .normal e h:=x_join s H hs
theorem wJ {α:Type} {E:α->Env} {Φ:α->Heap->Prop} (s:α) (H:Φ s h) (hs:Sub (E s) e:=by repeat (first | exact trivial | refine ⟨rfl,?_⟩)):gop c lops Q (Jn c E Φ) [] e h:=w_jn s H hs
end
end Go.Q
end
