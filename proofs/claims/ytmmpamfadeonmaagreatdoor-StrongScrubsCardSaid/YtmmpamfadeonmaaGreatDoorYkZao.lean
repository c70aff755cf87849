/- A part of the proof of statements of this seat: lemmas, no statement of their own. -/
import Derived.Test.YtmmpamfadeonmaaGreatDoorYkZae
import Derived.Test.YtmmpamfadeonmaaGreatDoorYkZaf
import Derived.Test.YtmmpamfadeonmaaGreatDoorYkZam
set_option linter.unusedVariables false
set_option linter.unusedSimpArgs false
section
set_option maxRecDepth 100000
set_option maxHeartbeats 1000000
namespace Go.Q.Yk
open Go.Proofs.Tryz
/-- (*quaestor strong.reader).take -/
def strong_reader_take (p0:Option Addr) (p1:Int) (p2:Int) (k:(Unit)->Heap->Prop) (h:Heap):Prop :=
  ∃ a1:Addr,p0=some a1/\(∃ v2:Bool,cellH h (a1.add 1)=some (.bool v2)/\(∃ h3:Heap,WrH h (a1.add 1)/\h3=setH h (a1.add 1) (.bool (v2 || (p2 != 0)))/\(∃ v4:Slc,cellH h3 a1=some (Slc.v v4)/\(∃ s5:Slc,(0:Int)<=p1/\(p1:Int)<=(v4.len:Int)/\((v4.len:Int):Int)<=(v4.cap:Int)/\(v4.cap:Int)<=(v4.cap:Int)/\s5=subS v4 1 p1.toNat (v4.len:Int).toNat (v4.cap:Int).toNat/\(∃ h6:Heap,WrH h3 a1/\h6=setH h3 a1 (Slc.v s5)/\(k () h6))))))
/-- (*quaestor strong.reader).bytes -/
def strong_reader_bytes_g1 (t0_1:Option Addr) (t1_1:Int) (t19_1:Bool) (k:(Slc)->Heap->Prop) (h_1:Heap):Prop :=
  if t19_1 then (∃ a3:Addr,t0_1=some a3/\(∃ h4:Heap,WrH h_1 (a3.add 1)/\h4=setH h_1 (a3.add 1) (.bool true)/\(k (⟨none,0,0⟩:Slc) h4))) else (∃ a5:Addr,t0_1=some a5/\(∃ v6:Slc,cellH h_1 a5=some (Slc.v v6)/\(∃ s7:Slc,(0:Int)<=0/\(0:Int)<=t1_1/\(t1_1:Int)<=(v6.cap:Int)/\(v6.cap:Int)<=(v6.cap:Int)/\s7=subS v6 1 (0:Int).toNat t1_1.toNat (v6.cap:Int).toNat/\(slices_Clone_byte_byte s7 (fun (r8:Slc) h9=>∃ v10:Slc,cellH h9 a5=some (Slc.v v10)/\(∃ s11:Slc,(0:Int)<=t1_1/\(t1_1:Int)<=(v10.len:Int)/\((v10.len:Int):Int)<=(v10.cap:Int)/\(v10.cap:Int)<=(v10.cap:Int)/\s11=subS v10 1 t1_1.toNat (v10.len:Int).toNat (v10.cap:Int).toNat/\(∃ h12:Heap,WrH h9 a5/\h12=setH h9 a5 (Slc.v s11)/\(k r8 h12)))) h_1))))
def strong_reader_bytes (p0:Option Addr) (p1:Int) (k:(Slc)->Heap->Prop) (h:Heap):Prop :=
  ∃ a1:Addr,p0=some a1/\(∃ v2:Bool,cellH h (a1.add 1)=some (.bool v2)/\(if v2 then (strong_reader_bytes_g1 p0 p1 true k h) else (∃ v13:Slc,cellH h a1=some (Slc.v v13)/\(strong_reader_bytes_g1 p0 p1 (decide (p1 > (IntKind.u64.wrap (v13.len:Int)))) k h))))
/-- (*quaestor strong.reader).short -/
def strong_reader_short (p0:Option Addr) (k:(Int)->Heap->Prop) (h:Heap):Prop :=
  ∃ a1:Addr,p0=some a1/\(∃ v2:Slc,cellH h a1=some (Slc.v v2)/\(num_GetShort v2 (fun (r3:Int × Int × Int) h4=>strong_reader_take p0 r3.2.1 r3.2.2 (fun (r5:Unit) h6=>k r3.1 h6) h4) h))
/-- (*quaestor strong.reader).count -/
def strong_reader_count (p0:Option Addr) (k:(Int)->Heap->Prop) (h:Heap):Prop :=
  strong_reader_short p0 (fun (r1:Int) h2=>∃ a3:Addr,p0=some a3/\(∃ v4:Bool,cellH h2 (a3.add 1)=some (.bool v4)/\(∃ h5:Heap,WrH h2 (a3.add 1)/\h5=setH h2 (a3.add 1) (.bool (v4 || (decide (r1 > 1048576))))/\(∃ x6:Int,x6=(IntKind.i64.wrap (bwAnd .u64 r1 1048575))/\(k x6 h5))))) h
/-- (*quaestor strong.reader).array -/
def strong_reader_array (p0:Option Addr) (p1:Slc) (k:(Unit)->Heap->Prop) (h:Heap):Prop :=
  strong_reader_bytes p0 (IntKind.u64.wrap (p1.len:Int)) (fun (r1:Slc) h2=>∃ l3:List Value,Cpy 1 h2 p1 r1 l3 (fun h4=>k () h4)) h
/-- (*quaestor strong.reader).text -/
def strong_reader_text (p0:Option Addr) (k:(Slc)->Heap->Prop) (h:Heap):Prop :=
  strong_reader_short p0 (fun (r1:Int) h2=>strong_reader_bytes p0 r1 (fun (r3:Slc) h4=>k r3 h4) h2) h
/-- (*quaestor strong.reader).entries -/
def strong_reader_entries_g2 (t0_2:Option Addr) (t3_2:Slc) (t4_2:Int) (t16_2:Bool) (k:(Slc)->Heap->Prop) (nx1:(Slc × Int)->Heap->Prop) (h_2:Heap):Prop :=
  if t16_2 then (strong_reader_short t0_2 (fun (r3:Int) h4=>∃ (b5:Nat) (h6:Heap),b5=h4.size/\h6=h4.push (.cells (S_api_Entry.cs (⟨0,(⟨none,0,0⟩:Slc)⟩:S_api_Entry)).toArray 117)/\(∃ h7:Heap,WrsAt h6 (⟨b5,0,none⟩:Addr) 2/\h7=setsH h6 (⟨b5,0,none⟩:Addr) 0 (S_api_Entry.cs (⟨r3,(⟨none,0,0⟩:Slc)⟩:S_api_Entry))/\(strong_reader_text t0_2 (fun (r8:Slc) h9=>∃ h10:Heap,WrH h9 ((⟨b5,0,none⟩:Addr).add 1)/\h10=setH h9 ((⟨b5,0,none⟩:Addr).add 1) (Slc.v r8)/\(∃ v11:S_api_Entry,CellsAt h10 (⟨b5,0,none⟩:Addr) (S_api_Entry.cs v11)/\(∃ (b12:Nat) (h13:Heap),b12=h10.size/\h13=h10.push (.cells ((S_api_Entry.cs v11)).toArray 117)/\(App 117 2 32 [.int .u64 0,.slice none 0 0] h13 t3_2 1 ((S_api_Entry.cs v11)) (fun s14 h15=>∃ x16:Int,x16=(IntKind.u64.wrap (t4_2 - 1))/\(nx1 (s14,x16) h15)))))) h7))) h_2) else (k t3_2 h_2)
def strong_reader_entries_l1b (t0_1:Option Addr) (t3_1:Slc) (t4_1:Int) (k:(Slc)->Heap->Prop) (nx1:(Slc × Int)->Heap->Prop) (h_1:Heap):Prop :=
  if (decide (t4_1 > 0)) then (∃ a17:Addr,t0_1=some a17/\(∃ v18:Bool,cellH h_1 (a17.add 1)=some (.bool v18)/\(strong_reader_entries_g2 t0_1 t3_1 t4_1 (!v18) k nx1 h_1))) else (strong_reader_entries_g2 t0_1 t3_1 t4_1 false k nx1 h_1)
def strong_reader_entries_l1 (t0_1:Option Addr) (i3:Slc) (i4:Int) (k:(Slc)->Heap->Prop) (h:Heap):Prop :=
  ∃ (I:(Slc × Int)->Heap->Prop) (μ:(Slc × Int)->Heap->Nat),I (i3,i4) h/\∀ (t3_1:Slc) (t4_1:Int) (h:Heap),I (t3_1,t4_1) h->strong_reader_entries_l1b t0_1 t3_1 t4_1 k (fun s h'=>I s h'/\μ s h' < μ (t3_1,t4_1) h) h
def strong_reader_entries (p0:Option Addr) (k:(Slc)->Heap->Prop) (h:Heap):Prop :=
  strong_reader_short p0 (fun (r1:Int) h2=>strong_reader_entries_l1 p0 (⟨none,0,0⟩:Slc) r1 k h2) h
/-- (*quaestor strong.reader).chain -/
def strong_reader_chain (p0:Option Addr) (k:(S_api_Chain)->Heap->Prop) (h:Heap):Prop :=
  ∃ (b1:Nat) (h2:Heap),b1=h.size/\h2=h.push (.cells (S_api_Chain.cs (⟨0,([]:List Int)⟩:S_api_Chain)).toArray 35)/\(strong_reader_short p0 (fun (r3:Int) h4=>∃ (b5:Nat) (h6:Heap),b5=h4.size/\h6=h4.push (.cells (S_api_Chain.cs (⟨0,([]:List Int)⟩:S_api_Chain)).toArray 35)/\(∃ h7:Heap,WrsAt h6 (⟨b5,0,none⟩:Addr) 33/\h7=setsH h6 (⟨b5,0,none⟩:Addr) 0 (S_api_Chain.cs (⟨r3,([]:List Int)⟩:S_api_Chain))/\(∃ s8:Slc,(0:Int)<=0/\0<=(32:Int)/\32<=(32:Int)/\s8=subS ⟨some ((⟨b5,0,none⟩:Addr).add 1),32,32⟩ 1 (0:Int).toNat (32:Int).toNat 32/\(strong_reader_array p0 s8 (fun (r9:Unit) h10=>∃ v11:S_api_Chain,CellsAt h10 (⟨b5,0,none⟩:Addr) (S_api_Chain.cs v11)/\(∃ h12:Heap,WrsAt h10 (⟨b1,0,none⟩:Addr) 33/\h12=setsH h10 (⟨b1,0,none⟩:Addr) 0 (S_api_Chain.cs v11)/\(∃ v13:S_api_Chain,CellsAt h12 (⟨b1,0,none⟩:Addr) (S_api_Chain.cs v13)/\k v13 h12))) h7)))) h2)
/-- (*quaestor strong.reader).several -/
def strong_reader_several_g2 (t0_2:Option Addr) (t3_2:Slc) (t4_2:Int) (t18_2:Bool) (k:(Slc)->Heap->Prop) (nx1:(Slc × Int)->Heap->Prop) (h_2:Heap):Prop :=
  if t18_2 then (∃ a3:Addr,t0_2=some a3/\(∃ v4:Slc,cellH h_2 a3=some (Slc.v v4)/\(box_Get v4 (fun (r5:S_api_Box × Int × Int) h6=>∃ (b7:Nat) (h8:Heap),b7=h6.size/\h8=h6.push (.cells (S_api_Box.cs (⟨ByteArray.empty,0,([]:List Int),(⟨none,0,0⟩:Slc)⟩:S_api_Box)).toArray 76)/\(∃ h9:Heap,WrsAt h8 (⟨b7,0,none⟩:Addr) 15/\h9=setsH h8 (⟨b7,0,none⟩:Addr) 0 (S_api_Box.cs r5.1)/\(strong_reader_take t0_2 r5.2.1 r5.2.2 (fun (r10:Unit) h11=>∃ v12:S_api_Box,CellsAt h11 (⟨b7,0,none⟩:Addr) (S_api_Box.cs v12)/\(∃ (b13:Nat) (h14:Heap),b13=h11.size/\h14=h11.push (.cells ((S_api_Box.cs v12)).toArray 76)/\(App 76 15 56 [.string ByteArray.empty,.int .u32 0,.int .u8 0,.int .u8 0,.int .u8 0,.int .u8 0,.int .u8 0,.int .u8 0,.int .u8 0,.int .u8 0,.int .u8 0,.int .u8 0,.int .u8 0,.int .u8 0,.slice none 0 0] h14 t3_2 1 ((S_api_Box.cs v12)) (fun s15 h16=>∃ x17:Int,x17=(IntKind.u64.wrap (t4_2 - 1))/\(nx1 (s15,x17) h16))))) h9))) h_2))) else (k t3_2 h_2)
def strong_reader_several_l1b (t0_1:Option Addr) (t3_1:Slc) (t4_1:Int) (k:(Slc)->Heap->Prop) (nx1:(Slc × Int)->Heap->Prop) (h_1:Heap):Prop :=
  if (decide (t4_1 > 0)) then (∃ a18:Addr,t0_1=some a18/\(∃ v19:Bool,cellH h_1 (a18.add 1)=some (.bool v19)/\(strong_reader_several_g2 t0_1 t3_1 t4_1 (!v19) k nx1 h_1))) else (strong_reader_several_g2 t0_1 t3_1 t4_1 false k nx1 h_1)
def strong_reader_several_l1 (t0_1:Option Addr) (i3:Slc) (i4:Int) (k:(Slc)->Heap->Prop) (h:Heap):Prop :=
  ∃ (I:(Slc × Int)->Heap->Prop) (μ:(Slc × Int)->Heap->Nat),I (i3,i4) h/\∀ (t3_1:Slc) (t4_1:Int) (h:Heap),I (t3_1,t4_1) h->strong_reader_several_l1b t0_1 t3_1 t4_1 k (fun s h'=>I s h'/\μ s h' < μ (t3_1,t4_1) h) h
def strong_reader_several (p0:Option Addr) (k:(Slc)->Heap->Prop) (h:Heap):Prop :=
  strong_reader_short p0 (fun (r1:Int) h2=>strong_reader_several_l1 p0 (⟨none,0,0⟩:Slc) r1 k h2) h
/-- quaestor strong.Get -/
def strong_Get_g3 (t2_3:Addr) (t5_3:Addr) (t6_3:Slc) (t88_3:Bool) (k:(S_api_Mem × Int)->Heap->Prop) (nx1:(Int)->Heap->Prop) (h_3:Heap):Prop :=
  if t88_3 then (∃ h63:Heap,WrsAt h_3 t2_3 79/\h63=setsH h_3 t2_3 0 (S_api_Mem.cs (⟨0,0,0,0,0,(⟨0,([]:List Int)⟩:S_api_Share),([]:List Int),0,0,0,0,(⟨none,0,0⟩:Slc),(⟨none,0,0⟩:Slc),(⟨none,0,0⟩:Slc),(⟨none,0,0⟩:Slc),0⟩:S_api_Mem))/\(∃ v64:S_api_Mem,CellsAt h63 t2_3 (S_api_Mem.cs v64)/\k (v64,4) h63)) else (∃ a65:Addr,t6_3.a=some a65/\(0:Int)<=0/\0 < (t6_3.len:Int)/\(∃ v66:Int,cellH h_3 (a65.add ((0:Int).toNat * 1))=some (.int .u8 v66)/\(∃ h67:Heap,WrH h_3 (t5_3.add 5)/\h67=setH h_3 (t5_3.add 5) (.int .u8 v66)/\(∃ v68:S_api_Mem,CellsAt h67 t5_3 (S_api_Mem.cs v68)/\(strong_Check v68 (fun (r69:Int) h70=>if (r69 != 0) then (∃ h71:Heap,WrsAt h70 t2_3 79/\h71=setsH h70 t2_3 0 (S_api_Mem.cs (⟨0,0,0,0,0,(⟨0,([]:List Int)⟩:S_api_Share),([]:List Int),0,0,0,0,(⟨none,0,0⟩:Slc),(⟨none,0,0⟩:Slc),(⟨none,0,0⟩:Slc),(⟨none,0,0⟩:Slc),0⟩:S_api_Mem))/\(∃ v72:S_api_Mem,CellsAt h71 t2_3 (S_api_Mem.cs v72)/\k (v72,4) h71)) else (∃ v73:S_api_Mem,CellsAt h70 t5_3 (S_api_Mem.cs v73)/\(∃ h74:Heap,WrsAt h70 t2_3 79/\h74=setsH h70 t2_3 0 (S_api_Mem.cs v73)/\(∃ v75:S_api_Mem,CellsAt h74 t2_3 (S_api_Mem.cs v75)/\k (v75,0) h74)))) h67)))))
def strong_Get_g2 (t2_2:Addr) (t4_2:Addr) (t5_2:Addr) (t6_2:Slc) (t7_2:Int) (t61_2:Bool) (k:(S_api_Mem × Int)->Heap->Prop) (nx1:(Int)->Heap->Prop) (h_2:Heap):Prop :=
  if t61_2 then (∃ v45:Slc,cellH h_2 (t5_2.add 76)=some (Slc.v v45)/\(strong_reader_chain (some t4_2) (fun (r46:S_api_Chain) h47=>cellH h47 (t5_2.add 76)=some (Slc.v v45)/\(∃ (b49:Nat) (h50:Heap),b49=h47.size/\h50=h47.push (.cells ((S_api_Chain.cs r46)).toArray 35)/\(cellH h50 (t5_2.add 76)=some (Slc.v v45)/\(App 35 33 40 [.int .u64 0,.int .u8 0,.int .u8 0,.int .u8 0,.int .u8 0,.int .u8 0,.int .u8 0,.int .u8 0,.int .u8 0,.int .u8 0,.int .u8 0,.int .u8 0,.int .u8 0,.int .u8 0,.int .u8 0,.int .u8 0,.int .u8 0,.int .u8 0,.int .u8 0,.int .u8 0,.int .u8 0,.int .u8 0,.int .u8 0,.int .u8 0,.int .u8 0,.int .u8 0,.int .u8 0,.int .u8 0,.int .u8 0,.int .u8 0,.int .u8 0,.int .u8 0,.int .u8 0] h50 v45 1 ((S_api_Chain.cs r46)) (fun s52 h53=>∃ h54:Heap,WrH h53 (t5_2.add 76)/\h54=setH h53 (t5_2.add 76) (Slc.v s52)/\(∃ x55:Int,x55=(IntKind.i64.wrap (t7_2 + 1))/\(nx1 x55 h54))))))) h_2)) else (strong_reader_several (some t4_2) (fun (r56:Slc) h57=>∃ h58:Heap,WrH h57 (t5_2.add 77)/\h58=setH h57 (t5_2.add 77) (Slc.v r56)/\(strong_reader_short (some t4_2) (fun (r59:Int) h60=>∃ h61:Heap,WrH h60 (t5_2.add 78)/\h61=setH h60 (t5_2.add 78) (.int .u64 r59)/\(∃ v62:Bool,cellH h61 (t4_2.add 1)=some (.bool v62)/\(if v62 then (strong_Get_g3 t2_2 t5_2 t6_2 true k nx1 h61) else (∃ v76:Slc,cellH h61 t4_2=some (Slc.v v76)/\(strong_Get_g3 t2_2 t5_2 t6_2 (decide ((v76.len:Int) > 0)) k nx1 h61))))) h58)) h_2)
def strong_Get_l1b (t2_1:Addr) (t4_1:Addr) (t5_1:Addr) (t6_1:Slc) (t7_1:Int) (k:(S_api_Mem × Int)->Heap->Prop) (nx1:(Int)->Heap->Prop) (h_1:Heap):Prop :=
  ∃ v44:Int,cellH h_1 (t5_1.add 1)=some (.int .i64 v44)/\(if (decide (t7_1 < v44)) then (∃ v77:Bool,cellH h_1 (t4_1.add 1)=some (.bool v77)/\(strong_Get_g2 t2_1 t4_1 t5_1 t6_1 t7_1 (!v77) k nx1 h_1)) else (strong_Get_g2 t2_1 t4_1 t5_1 t6_1 t7_1 false k nx1 h_1))
def strong_Get_l1 (t2_1:Addr) (t4_1:Addr) (t5_1:Addr) (t6_1:Slc) (i7:Int) (k:(S_api_Mem × Int)->Heap->Prop) (h:Heap):Prop :=
  ∃ (I:Int->Heap->Prop) (μ:Int->Heap->Nat),I i7 h/\∀ (t7_1:Int) (h:Heap),I t7_1 h->strong_Get_l1b t2_1 t4_1 t5_1 t6_1 t7_1 k (fun s h'=>I s h'/\μ s h' < μ t7_1 h) h
def strong_Get (p0:Slc) (k:(S_api_Mem × Int)->Heap->Prop) (h:Heap):Prop :=
  ∃ (b1:Nat) (h2:Heap),b1=h.size/\h2=h.push (.cells (S_api_Mem.cs (⟨0,0,0,0,0,(⟨0,([]:List Int)⟩:S_api_Share),([]:List Int),0,0,0,0,(⟨none,0,0⟩:Slc),(⟨none,0,0⟩:Slc),(⟨none,0,0⟩:Slc),(⟨none,0,0⟩:Slc),0⟩:S_api_Mem)).toArray 33)/\(∃ (b3:Nat) (h4:Heap),b3=h2.size/\h4=h2.push (.cells (S_strong_reader.cs (⟨p0,false⟩:S_strong_reader)).toArray 92)/\(strong_reader_count (some (⟨b3,0,none⟩:Addr)) (fun (r5:Int) h6=>strong_reader_count (some (⟨b3,0,none⟩:Addr)) (fun (r7:Int) h8=>strong_reader_count (some (⟨b3,0,none⟩:Addr)) (fun (r9:Int) h10=>strong_reader_short (some (⟨b3,0,none⟩:Addr)) (fun (r11:Int) h12=>strong_reader_short (some (⟨b3,0,none⟩:Addr)) (fun (r13:Int) h14=>∃ (b15:Nat) (h16:Heap),b15=h14.size/\h16=h14.push (.cells (S_api_Mem.cs (⟨0,0,0,0,0,(⟨0,([]:List Int)⟩:S_api_Share),([]:List Int),0,0,0,0,(⟨none,0,0⟩:Slc),(⟨none,0,0⟩:Slc),(⟨none,0,0⟩:Slc),(⟨none,0,0⟩:Slc),0⟩:S_api_Mem)).toArray 33)/\(∃ h17:Heap,WrsAt h16 (⟨b15,0,none⟩:Addr) 79/\h17=setsH h16 (⟨b15,0,none⟩:Addr) 0 (S_api_Mem.cs (⟨r5,r7,r9,r11,r13,(⟨0,([]:List Int)⟩:S_api_Share),([]:List Int),0,0,0,0,(⟨none,0,0⟩:Slc),(⟨none,0,0⟩:Slc),(⟨none,0,0⟩:Slc),(⟨none,0,0⟩:Slc),0⟩:S_api_Mem))/\(strong_reader_bytes (some (⟨b3,0,none⟩:Addr)) 1 (fun (r18:Slc) h19=>∃ s20:Slc,(0:Int)<=0/\0<=(32:Int)/\32<=(32:Int)/\s20=subS ⟨some (((⟨b15,0,none⟩:Addr).add 5).add 1),32,32⟩ 1 (0:Int).toNat (32:Int).toNat 32/\(strong_reader_array (some (⟨b3,0,none⟩:Addr)) s20 (fun (r21:Unit) h22=>∃ s23:Slc,(0:Int)<=0/\0<=(32:Int)/\32<=(32:Int)/\s23=subS ⟨some ((⟨b15,0,none⟩:Addr).add 38),32,32⟩ 1 (0:Int).toNat (32:Int).toNat 32/\(strong_reader_array (some (⟨b3,0,none⟩:Addr)) s23 (fun (r24:Unit) h25=>strong_reader_short (some (⟨b3,0,none⟩:Addr)) (fun (r26:Int) h27=>strong_reader_count (some (⟨b3,0,none⟩:Addr)) (fun (r28:Int) h29=>∃ h30:Heap,WrH h29 ((⟨b15,0,none⟩:Addr).add 70)/\h30=setH h29 ((⟨b15,0,none⟩:Addr).add 70) (.int .u64 r26)/\(∃ h31:Heap,WrH h30 ((⟨b15,0,none⟩:Addr).add 71)/\h31=setH h30 ((⟨b15,0,none⟩:Addr).add 71) (.int .i64 r28)/\(strong_reader_short (some (⟨b3,0,none⟩:Addr)) (fun (r32:Int) h33=>strong_reader_short (some (⟨b3,0,none⟩:Addr)) (fun (r34:Int) h35=>∃ h36:Heap,WrH h35 ((⟨b15,0,none⟩:Addr).add 72)/\h36=setH h35 ((⟨b15,0,none⟩:Addr).add 72) (.int .u64 r32)/\(∃ h37:Heap,WrH h36 ((⟨b15,0,none⟩:Addr).add 73)/\h37=setH h36 ((⟨b15,0,none⟩:Addr).add 73) (.int .u64 r34)/\(strong_reader_text (some (⟨b3,0,none⟩:Addr)) (fun (r38:Slc) h39=>∃ h40:Heap,WrH h39 ((⟨b15,0,none⟩:Addr).add 74)/\h40=setH h39 ((⟨b15,0,none⟩:Addr).add 74) (Slc.v r38)/\(strong_reader_entries (some (⟨b3,0,none⟩:Addr)) (fun (r41:Slc) h42=>∃ h43:Heap,WrH h42 ((⟨b15,0,none⟩:Addr).add 75)/\h43=setH h42 ((⟨b15,0,none⟩:Addr).add 75) (Slc.v r41)/\(strong_Get_l1 (⟨b1,0,none⟩:Addr) (⟨b3,0,none⟩:Addr) (⟨b15,0,none⟩:Addr) r18 0 k h43)) h40)) h37))) h33) h31))) h27) h25) h22)) h19)) h17))) h12) h10) h8) h6) h4))
/-- quaestor strong.GetChange -/
def strong_GetChange_g3 (t2_3:Addr) (t5_3:Slc) (t6_3:Addr) (t79_3:Bool) (k:(S_api_Change × Int)->Heap->Prop) (nx1:(Int)->Heap->Prop) (h_3:Heap):Prop :=
  if t79_3 then (∃ h54:Heap,WrsAt h_3 t2_3 45/\h54=setsH h_3 t2_3 0 (S_api_Change.cs (⟨0,0,0,(⟨0,([]:List Int)⟩:S_api_Chain),(⟨0,0,0,0,(⟨none,0,0⟩:Slc),(⟨none,0,0⟩:Slc)⟩:S_api_Keep),(⟨none,0,0⟩:Slc),(⟨none,0,0⟩:Slc),ByteArray.empty⟩:S_api_Change))/\(∃ v55:S_api_Change,CellsAt h54 t2_3 (S_api_Change.cs v55)/\k (v55,4) h54)) else (∃ a56:Addr,t5_3.a=some a56/\(0:Int)<=0/\0 < (t5_3.len:Int)/\(∃ v57:Int,cellH h_3 (a56.add ((0:Int).toNat * 1))=some (.int .u8 v57)/\(∃ h58:Heap,WrH h_3 t6_3/\h58=setH h_3 t6_3 (.int .i64 (IntKind.i64.wrap v57))/\(∃ v59:S_api_Change,CellsAt h58 t6_3 (S_api_Change.cs v59)/\(∃ h60:Heap,WrsAt h58 t2_3 45/\h60=setsH h58 t2_3 0 (S_api_Change.cs v59)/\(∃ v61:S_api_Change,CellsAt h60 t2_3 (S_api_Change.cs v61)/\k (v61,0) h60))))))
def strong_GetChange_g2 (t2_2:Addr) (t4_2:Addr) (t5_2:Slc) (t6_2:Addr) (t7_2:Int) (t49_2:Bool) (k:(S_api_Change × Int)->Heap->Prop) (nx1:(Int)->Heap->Prop) (h_2:Heap):Prop :=
  if t49_2 then (∃ (b33:Nat) (h34:Heap),b33=h_2.size/\h34=h_2.push (.cells (arr 12 .u8 ([]:List Int)).toArray 74)/\(∃ s35:Slc,(0:Int)<=0/\0<=(12:Int)/\12<=(12:Int)/\s35=subS ⟨some (⟨b33,0,none⟩:Addr),12,12⟩ 1 (0:Int).toNat (12:Int).toNat 12/\(strong_reader_array (some t4_2) s35 (fun (r36:Unit) h37=>∃ v38:Slc,cellH h37 (t6_2.add 42)=some (Slc.v v38)/\(∃ v39:List Int,CellsAt h37 (⟨b33,0,none⟩:Addr) (arr 12 .u8 v39)/\(∃ (b40:Nat) (h41:Heap),b40=h37.size/\h41=h37.push (.cells ((arr 12 .u8 v39)).toArray 74)/\(App 74 12 12 [.int .u8 0,.int .u8 0,.int .u8 0,.int .u8 0,.int .u8 0,.int .u8 0,.int .u8 0,.int .u8 0,.int .u8 0,.int .u8 0,.int .u8 0,.int .u8 0] h41 v38 1 ((arr 12 .u8 v39)) (fun s42 h43=>∃ h44:Heap,WrH h43 (t6_2.add 42)/\h44=setH h43 (t6_2.add 42) (Slc.v s42)/\(∃ x45:Int,x45=(IntKind.u64.wrap (t7_2 - 1))/\(nx1 x45 h44))))))) h34))) else (strong_reader_several (some t4_2) (fun (r46:Slc) h47=>∃ h48:Heap,WrH h47 (t6_2.add 43)/\h48=setH h47 (t6_2.add 43) (Slc.v r46)/\(strong_reader_text (some t4_2) (fun (r49:Slc) h50=>∃ l51:List Int,l51.length=r49.len/\SlcAt h50 r49 (b8 l51)/\(∃ h52:Heap,WrH h50 (t6_2.add 44)/\h52=setH h50 (t6_2.add 44) (.string (bsOf l51))/\(∃ v53:Bool,cellH h52 (t4_2.add 1)=some (.bool v53)/\(if v53 then (strong_GetChange_g3 t2_2 t5_2 t6_2 true k nx1 h52) else (∃ v62:Slc,cellH h52 t4_2=some (Slc.v v62)/\(strong_GetChange_g3 t2_2 t5_2 t6_2 (decide ((v62.len:Int) > 0)) k nx1 h52)))))) h48)) h_2)
def strong_GetChange_l1b (t2_1:Addr) (t4_1:Addr) (t5_1:Slc) (t6_1:Addr) (t7_1:Int) (k:(S_api_Change × Int)->Heap->Prop) (nx1:(Int)->Heap->Prop) (h_1:Heap):Prop :=
  if (decide (t7_1 > 0)) then (∃ v63:Bool,cellH h_1 (t4_1.add 1)=some (.bool v63)/\(strong_GetChange_g2 t2_1 t4_1 t5_1 t6_1 t7_1 (!v63) k nx1 h_1)) else (strong_GetChange_g2 t2_1 t4_1 t5_1 t6_1 t7_1 false k nx1 h_1)
def strong_GetChange_l1 (t2_1:Addr) (t4_1:Addr) (t5_1:Slc) (t6_1:Addr) (i7:Int) (k:(S_api_Change × Int)->Heap->Prop) (h:Heap):Prop :=
  ∃ (I:Int->Heap->Prop) (μ:Int->Heap->Nat),I i7 h/\∀ (t7_1:Int) (h:Heap),I t7_1 h->strong_GetChange_l1b t2_1 t4_1 t5_1 t6_1 t7_1 k (fun s h'=>I s h'/\μ s h' < μ t7_1 h) h
def strong_GetChange (p0:Slc) (k:(S_api_Change × Int)->Heap->Prop) (h:Heap):Prop :=
  ∃ (b1:Nat) (h2:Heap),b1=h.size/\h2=h.push (.cells (S_api_Change.cs (⟨0,0,0,(⟨0,([]:List Int)⟩:S_api_Chain),(⟨0,0,0,0,(⟨none,0,0⟩:Slc),(⟨none,0,0⟩:Slc)⟩:S_api_Keep),(⟨none,0,0⟩:Slc),(⟨none,0,0⟩:Slc),ByteArray.empty⟩:S_api_Change)).toArray 40)/\(∃ (b3:Nat) (h4:Heap),b3=h2.size/\h4=h2.push (.cells (S_strong_reader.cs (⟨p0,false⟩:S_strong_reader)).toArray 92)/\(strong_reader_bytes (some (⟨b3,0,none⟩:Addr)) 1 (fun (r5:Slc) h6=>strong_reader_short (some (⟨b3,0,none⟩:Addr)) (fun (r7:Int) h8=>strong_reader_count (some (⟨b3,0,none⟩:Addr)) (fun (r9:Int) h10=>strong_reader_chain (some (⟨b3,0,none⟩:Addr)) (fun (r11:S_api_Chain) h12=>∃ (b13:Nat) (h14:Heap),b13=h12.size/\h14=h12.push (.cells (S_api_Change.cs (⟨0,0,0,(⟨0,([]:List Int)⟩:S_api_Chain),(⟨0,0,0,0,(⟨none,0,0⟩:Slc),(⟨none,0,0⟩:Slc)⟩:S_api_Keep),(⟨none,0,0⟩:Slc),(⟨none,0,0⟩:Slc),ByteArray.empty⟩:S_api_Change)).toArray 40)/\(∃ h15:Heap,WrsAt h14 (⟨b13,0,none⟩:Addr) 45/\h15=setsH h14 (⟨b13,0,none⟩:Addr) 0 (S_api_Change.cs (⟨0,r7,r9,r11,(⟨0,0,0,0,(⟨none,0,0⟩:Slc),(⟨none,0,0⟩:Slc)⟩:S_api_Keep),(⟨none,0,0⟩:Slc),(⟨none,0,0⟩:Slc),ByteArray.empty⟩:S_api_Change))/\(strong_reader_count (some (⟨b3,0,none⟩:Addr)) (fun (r16:Int) h17=>strong_reader_short (some (⟨b3,0,none⟩:Addr)) (fun (r18:Int) h19=>strong_reader_count (some (⟨b3,0,none⟩:Addr)) (fun (r20:Int) h21=>strong_reader_short (some (⟨b3,0,none⟩:Addr)) (fun (r22:Int) h23=>∃ h24:Heap,WrsAt h23 ((⟨b13,0,none⟩:Addr).add 36) 6/\h24=setsH h23 ((⟨b13,0,none⟩:Addr).add 36) 0 (S_api_Keep.cs (⟨r16,r18,r20,r22,(⟨none,0,0⟩:Slc),(⟨none,0,0⟩:Slc)⟩:S_api_Keep))/\(strong_reader_entries (some (⟨b3,0,none⟩:Addr)) (fun (r25:Slc) h26=>∃ h27:Heap,WrH h26 (((⟨b13,0,none⟩:Addr).add 36).add 4)/\h27=setH h26 (((⟨b13,0,none⟩:Addr).add 36).add 4) (Slc.v r25)/\(strong_reader_text (some (⟨b3,0,none⟩:Addr)) (fun (r28:Slc) h29=>∃ h30:Heap,WrH h29 (((⟨b13,0,none⟩:Addr).add 36).add 5)/\h30=setH h29 (((⟨b13,0,none⟩:Addr).add 36).add 5) (Slc.v r28)/\(strong_reader_short (some (⟨b3,0,none⟩:Addr)) (fun (r31:Int) h32=>strong_GetChange_l1 (⟨b1,0,none⟩:Addr) (⟨b3,0,none⟩:Addr) r5 (⟨b13,0,none⟩:Addr) r31 k h32) h30)) h27)) h24)) h21) h19) h17) h15))) h10) h8) h6) h4))
theorem O71:CallOk prog 71:=ck func71
theorem R71 (p0 p1 p2 k h) (H:strong_reader_take p0 p1 p2 k h):CallsH prog 71 #[.pointer p0,.int .i64 p1,.int .i64 p2] h (fun v h'=>∃ r:Unit,v = .tuple #[]/\k r h'):=by
 refine fE func71 fun w0=>?_
 refine zF [0,1,2] (zQ ?_)
 refine w2 tok ?_
 refine wN H fun a1 ha1 H=>?_
 refine w1 tok ?_
 refine wL tok H fun v2 H=>?_
 refine w1 tok ?_
 refine vU 3 [0,1,6] [(14,.bool (v2 || (p2 != 0)))] ?_ ?_
 refine wY (y_nil' rfl rfl ha1) ?_
 refine w1 tok ?_
 refine wT tok H fun h3 H=>?_
 refine zE (zR (w2 tok ?_))
 refine wY (y_nil' rfl rfl ha1) ?_
 refine w1 tok ?_
 refine wL tok H fun v4 H=>?_
 refine w1 tok ?_
 obtain ⟨s5,ps5,qs5,rs5,ts5,es5,H⟩:=H
 refine wYe (y_sl (s:=v4) (L:=p1) (H:=(v4.len:Int)) (M:=(v4.cap:Int)) tok rfl rfl rfl rfl rfl rfl rfl (by simp) ps5 qs5 rs5 ts5) (congrArg Slc.v es5) ?_
 refine wY (y_nil' rfl rfl ha1) ?_
 refine w1 tok ?_
 refine wT tok H fun h6 H=>?_
 refine zW ?_
 exact x_end _ rfl _ rfl ⟨(),rfl,H⟩
 refine vG (d:=11) (fun hb=>?_) (fun hb=>?_)
 refine wS (wS (w1 tok ?_))
 refine vK ?_
 exact congrArg (fun b=>some (Value.bool b)) (or_t hb)
 refine w3 tok ?_
 refine vK ?_
 exact congrArg (fun b=>some (Value.bool b)) (or_f hb)
theorem O47:CallOk prog 47:=ck func47
theorem R47 (p0 p1 k h) (H:strong_reader_bytes p0 p1 k h):CallsH prog 47 #[.pointer p0,.int .u64 p1] h (fun v h'=>∃ r:Slc,v=Slc.v r/\k r h'):=by
 refine fE func47 fun w0=>?_
 refine zF [0,1] (zQ ?_)
 refine w1 tok (zE (zS (zQ ?_)))
 refine w1 tok ?_
 refine wN H fun a1 ha1 H=>?_
 refine w1 tok ?_
 refine wL tok H fun v2 H=>?_
 refine w1 tok ?_
 refine vJ 9 (α:=Bool) [0,1] (fun (s:Bool)=>[(19,.bool s)]) (fun (s:Bool) h=>strong_reader_bytes_g1 p0 p1 s k h) ?_ ?_
 rintro t19_1 h_1 H
 refine vF [19,0,1] (zE ?_)
 refine zI H ?_ ?_ <;> intro H
 refine zQ (w1 tok ?_)
 refine wN H fun a3 _ H=>?_
 refine w1 tok ?_
 refine wT tok H fun h4 H=>?_
 refine zE (zQ (w1 tok (zE (zT (yT ?_)))))
 exact x_ret _ rfl _ rfl ⟨(⟨none,0,0⟩:Slc),rfl,H⟩
 refine zK (zX (zQ (w1 tok ?_)))
 refine wN H fun a5 ha5 H=>?_
 refine w1 tok ?_
 refine wL tok H fun v6 H=>?_
 refine w1 tok ?_
 obtain ⟨s7,ps7,qs7,rs7,ts7,es7,H⟩:=H
 refine wYe (y_sl (s:=v6) (L:=0) (H:=p1) (M:=(v6.cap:Int)) tok rfl rfl rfl rfl rfl rfl rfl (by simp) ps7 qs7 rs7 ts7) (congrArg Slc.v es7) ?_
 refine wC O64 (R64 _ _ _ H) fun r8 h9 H=>?_
 refine w1 tok (zE (zF [0,1,5] (zQ ?_)))
 refine w2 tok ?_
 refine wY (y_nil' rfl rfl ha5) ?_
 refine w1 tok ?_
 refine wL tok H fun v10 H=>?_
 refine w1 tok ?_
 obtain ⟨s11,ps11,qs11,rs11,ts11,es11,H⟩:=H
 refine wYe (y_sl (s:=v10) (L:=p1) (H:=(v10.len:Int)) (M:=(v10.cap:Int)) tok rfl rfl rfl rfl rfl rfl rfl (by simp) ps11 qs11 rs11 ts11) (congrArg Slc.v es11) ?_
 refine wY (y_nil' rfl rfl ha5) ?_
 refine w1 tok ?_
 refine wT tok H fun h12 H=>?_
 refine zE (zF [5] (zQ ?_))
 refine w2 tok (zE (zT ?_))
 exact x_ret _ rfl _ rfl ⟨r8,rfl,H⟩
 refine vI 10 H ?_ ?_ <;> intro H
 refine wS (wS (wS (wS (wS (wS (wS (wS (w1 tok ?_))))))))
 exact wJ true H
 refine w2 tok ?_
 refine wY (y_nil' rfl rfl ha1) ?_
 refine w1 tok ?_
 refine wL tok H fun v13 H=>?_
 refine w4 tok ?_
 exact wJ (decide (p1 > (IntKind.u64.wrap (v13.len:Int)))) H
theorem O46:CallOk prog 46:=ck func46
theorem R46 (p0 k h) (H:strong_reader_short p0 k h):CallsH prog 46 #[.pointer p0] h (fun v h'=>∃ r:Int,v = .int .u64 r/\k r h'):=by
 refine fE func46 fun w0=>?_
 refine zF [0] (zQ ?_)
 refine w1 tok (zE (zQ ?_))
 refine w1 tok ?_
 refine wN H fun a1 _ H=>?_
 refine w1 tok ?_
 refine wL tok H fun v2 H=>?_
 refine wC O70 (R70 _ _ _ H) fun r3 h4 H=>?_
 refine w6 tok ?_
 refine w1 tok (zE (zF [0,3,4,5] (zQ ?_)))
 refine w3 tok ?_
 refine wC O71 (R71 _ _ _ _ _ H) fun r5 h6 H=>?_
 refine zE (zF [3] (zQ ?_))
 refine w2 tok (zE (zT ?_))
 exact x_ret _ rfl _ rfl ⟨r3.1,rfl,H⟩
theorem O45:CallOk prog 45:=ck func45
theorem R45 (p0 k h) (H:strong_reader_count p0 k h):CallsH prog 45 #[.pointer p0] h (fun v h'=>∃ r:Int,v = .int .i64 r/\k r h'):=by
 refine fE func45 fun w0=>?_
 refine zF [0] (zQ ?_)
 refine w1 tok (zE (zQ ?_))
 refine w1 tok ?_
 refine wC O46 (R46 _ _ _ H) fun r1 h2 H=>?_
 refine w1 tok (zE (zQ ?_))
 refine w2 tok ?_
 refine wN H fun a3 ha3 H=>?_
 refine w1 tok ?_
 refine wL tok H fun v4 H=>?_
 refine w1 tok ?_
 refine vU 3 [3,6] [(14,.bool (v4 || (decide (r1 > 1048576))))] ?_ ?_
 refine wY (y_nil' rfl rfl ha3) ?_
 refine w1 tok ?_
 refine wT tok H fun h5 H=>?_
 refine zE (zQ (w3 tok ?_))
 obtain ⟨x6,ex6,H⟩:=H
 refine w_pe tok rfl (congrArg (fun z=>(.int .i64 z:Value)) ex6) rfl rfl ?_
 refine zE (zF [2] (zT ?_))
 exact x_ret _ rfl _ rfl ⟨x6,rfl,H⟩
 refine vG (d:=11) (fun hb=>?_) (fun hb=>?_)
 refine wS (wS (w1 tok ?_))
 refine vK ?_
 exact congrArg (fun b=>some (Value.bool b)) (or_t hb)
 refine w3 tok ?_
 refine vK ?_
 exact congrArg (fun b=>some (Value.bool b)) (or_f hb)
theorem O48:CallOk prog 48:=ck func48
theorem R48 (p0 p1 k h) (H:strong_reader_array p0 p1 k h):CallsH prog 48 #[.pointer p0,Slc.v p1] h (fun v h'=>∃ r:Unit,v = .tuple #[]/\k r h'):=by
 refine fE func48 fun w0=>?_
 refine zF [0,1] (zR ?_)
 refine w5 tok ?_
 refine wC O47 (R47 _ _ _ _ H) fun r1 h2 H=>?_
 obtain ⟨l3,H⟩:=H
 refine wA (a_cpy (d:=p1) (s:=r1) tok rfl rfl rfl rfl rfl H) ?_
 rintro _ h4 ⟨rfl,H⟩
 refine zW ?_
 exact x_end _ rfl _ rfl ⟨(),rfl,H⟩
theorem O49:CallOk prog 49:=ck func49
theorem R49 (p0 k h) (H:strong_reader_text p0 k h):CallsH prog 49 #[.pointer p0] h (fun v h'=>∃ r:Slc,v=Slc.v r/\k r h'):=by
 refine fE func49 fun w0=>?_
 refine zF [0] (zQ ?_)
 refine w1 tok (zE (zQ ?_))
 refine w2 tok ?_
 refine wC O46 (R46 _ _ _ H) fun r1 h2 H=>?_
 refine wC O47 (R47 _ _ _ _ H) fun r3 h4 H=>?_
 refine w1 tok (zE (zT ?_))
 exact x_ret _ rfl _ rfl ⟨r3,rfl,H⟩
theorem O50:CallOk prog 50:=ck func50
theorem R50 (p0 k h) (H:strong_reader_entries p0 k h):CallsH prog 50 #[.pointer p0] h (fun v h'=>∃ r:Slc,v=Slc.v r/\k r h'):=by
 refine fE func50 fun w0=>?_
 refine zF [0] (zQ ?_)
 refine w1 tok (zE (zQ ?_))
 refine w1 tok (zE (zS (zQ ?_)))
 refine w1 tok ?_
 refine wC O46 (R46 _ _ _ H) fun r1 h2 H=>?_
 refine w1 tok (zE (zB ?_))
 obtain ⟨I1,μ1,H0,HI⟩:=H
 refine zO (σ:=Slc × Int) [0] (fun (s:Slc × Int)=>[(3,Slc.v s.1),(4,.int .u64 s.2)]) I1 μ1 ((⟨none,0,0⟩:Slc),r1) H0 ?_
 rintro ⟨t3_1,t4_1⟩ h_1 H
 replace H:=HI t3_1 t4_1 h_1 H
 refine zF [3,4,0] (zS (zQ ?_))
 refine w3 tok ?_
 refine vJ 6 (α:=Bool) [0,3,4] (fun (s:Bool)=>[(16,.bool s)]) (fun (s:Bool) h=>strong_reader_entries_g2 p0 t3_1 t4_1 s k (fun s h'=>I1 s h'/\μ1 s h' < μ1 (t3_1,t4_1) h_1) h) ?_ ?_
 rintro t16_2 h_2 H
 refine vF [16,0,3,4] (zE ?_)
 refine zI H ?_ ?_ <;> intro H
 refine zK (zX (zS (zB (zQ (w1 tok ?_)))))
 refine wC O46 (R46 _ _ _ H) fun r3 h4 H=>?_
 refine wY (y_build tok rfl rfl rfl rfl rfl) ?_
 refine wB tok H fun b5 h6 H=>?_
 refine wTa tok H fun h7 H=>?_
 refine zE (zQ (w1 tok ?_))
 refine wC O49 (R49 _ _ _ H) fun r8 h9 H=>?_
 refine w1 tok ?_
 refine wT tok H fun h10 H=>?_
 refine zE (zF [0,3,4,5] (zR ?_))
 refine w1 tok ?_
 refine wLa tok H fun v11 H=>?_
 obtain ⟨b12,h13,eb12,eh13,H⟩:=H
 refine wH (h_bs tok rfl rfl rfl rfl rfl rfl rfl eb12 eh13) ?_
 refine wA (a_app (s:=t3_1) (r:=(⟨some ⟨b12,0,none⟩,1,1⟩:Slc)) tok rfl rfl rfl rfl rfl (slcAt_push eb12 eh13) H) ?_
 rintro _ h15 ⟨s14,rfl,H⟩
 refine w1 tok (zL (zX (zR ?_)))
 refine w2 tok ?_
 obtain ⟨x16,ex16,H⟩:=H
 refine w_pe tok rfl (congrArg (fun z=>(.int .u64 z:Value)) ex16) rfl rfl ?_
 refine zW ?_
 exact xJ (s14,x16) H
 refine zY (yE (yE (yH (zX (zQ (w2 tok (zE (zT ?_))))))))
 exact x_ret _ rfl _ rfl ⟨t3_1,rfl,H⟩
 refine vI 10 H ?_ ?_ <;> intro H
 refine w1 tok ?_
 refine wN H fun a17 _ H=>?_
 refine w1 tok ?_
 refine wL tok H fun v18 H=>?_
 refine w2 tok ?_
 exact wJ (!v18) H
 refine wS (wS (wS (wS (wS (w1 tok ?_)))))
 exact wJ false H
theorem O51:CallOk prog 51:=ck func51
theorem R51 (p0 k h) (H:strong_reader_chain p0 k h):CallsH prog 51 #[.pointer p0] h (fun v h'=>∃ r:S_api_Chain,v = .agg (S_api_Chain.cs r).toArray/\k r h'):=by
 refine fE func51 fun w0=>?_
 refine zF [0] (zQ ?_)
 refine wB tok H fun b1 h2 H=>?_
 refine zE (zQ (w1 tok ?_))
 refine wC O46 (R46 _ _ _ H) fun r3 h4 H=>?_
 refine wY (y_build tok rfl rfl rfl rfl rfl) ?_
 refine wB tok H fun b5 h6 H=>?_
 refine wTa tok H fun h7 H=>?_
 refine zE (zQ (w2 tok ?_))
 obtain ⟨s8,ps8,qs8,rs8,es8,H⟩:=H
 refine wYe (y_sla (L:=0) (H:=32) tok rfl rfl rfl rfl rfl rfl ps8 qs8 rs8) (congrArg Slc.v es8) ?_
 refine wC O48 (R48 _ _ _ _ H) fun r9 h10 H=>?_
 refine zE (zF [2,3] (zQ ?_))
 refine wLa tok H fun v11 H=>?_
 refine wTa tok H fun h12 H=>?_
 refine zE (zT ?_)
 obtain ⟨v13,hv13,H⟩:=H
 exact x_retc tok _ rfl [.agg (S_api_Chain.cs v13).toArray] ⟨⟨_,_,rfl,rfl,.inr ⟨rfl,_,rfl,rfl,hv13⟩⟩,trivial⟩ ⟨v13,rfl,H⟩
theorem O52:CallOk prog 52:=ck func52
theorem R52 (p0 k h) (H:strong_reader_several p0 k h):CallsH prog 52 #[.pointer p0] h (fun v h'=>∃ r:Slc,v=Slc.v r/\k r h'):=by
 refine fE func52 fun w0=>?_
 refine zF [0] (zQ ?_)
 refine w1 tok (zE (zQ ?_))
 refine w1 tok (zE (zS (zQ ?_)))
 refine w1 tok ?_
 refine wC O46 (R46 _ _ _ H) fun r1 h2 H=>?_
 refine w1 tok (zE (zB ?_))
 obtain ⟨I1,μ1,H0,HI⟩:=H
 refine zO (σ:=Slc × Int) [0] (fun (s:Slc × Int)=>[(3,Slc.v s.1),(4,.int .u64 s.2)]) I1 μ1 ((⟨none,0,0⟩:Slc),r1) H0 ?_
 rintro ⟨t3_1,t4_1⟩ h_1 H
 replace H:=HI t3_1 t4_1 h_1 H
 refine zF [3,4,0] (zS (zQ ?_))
 refine w3 tok ?_
 refine vJ 6 (α:=Bool) [0,3,4] (fun (s:Bool)=>[(18,.bool s)]) (fun (s:Bool) h=>strong_reader_several_g2 p0 t3_1 t4_1 s k (fun s h'=>I1 s h'/\μ1 s h' < μ1 (t3_1,t4_1) h_1) h) ?_ ?_
 rintro t18_2 h_2 H
 refine vF [18,0,3,4] (zE ?_)
 refine zI H ?_ ?_ <;> intro H
 refine zK (zX (zS (zB (zQ (w1 tok ?_)))))
 refine wN H fun a3 _ H=>?_
 refine w1 tok ?_
 refine wL tok H fun v4 H=>?_
 refine wC O72 (R72 _ _ _ H) fun r5 h6 H=>?_
 refine w4 tok ?_
 refine wB tok H fun b7 h8 H=>?_
 refine wTa tok H fun h9 H=>?_
 refine w2 tok (zE (zF [0,3,4,5,6,7] (zQ ?_)))
 refine w3 tok ?_
 refine wC O71 (R71 _ _ _ _ _ H) fun r10 h11 H=>?_
 refine zE (zR (w1 tok ?_))
 refine wLa tok H fun v12 H=>?_
 obtain ⟨b13,h14,eb13,eh14,H⟩:=H
 refine wH (h_bs tok rfl rfl rfl rfl rfl rfl rfl eb13 eh14) ?_
 refine wA (a_app (s:=t3_1) (r:=(⟨some ⟨b13,0,none⟩,1,1⟩:Slc)) tok rfl rfl rfl rfl rfl (slcAt_push eb13 eh14) H) ?_
 rintro _ h16 ⟨s15,rfl,H⟩
 refine w1 tok (zL (zX (zF [0,3,4] (zR ?_))))
 refine w2 tok ?_
 obtain ⟨x17,ex17,H⟩:=H
 refine w_pe tok rfl (congrArg (fun z=>(.int .u64 z:Value)) ex17) rfl rfl ?_
 refine zW ?_
 exact xJ (s15,x17) H
 refine zY (yE (yE (yH (zX (zQ (w2 tok (zE (zT ?_))))))))
 exact x_ret _ rfl _ rfl ⟨t3_1,rfl,H⟩
 refine vI 12 H ?_ ?_ <;> intro H
 refine w1 tok ?_
 refine wN H fun a18 _ H=>?_
 refine w1 tok ?_
 refine wL tok H fun v19 H=>?_
 refine w2 tok ?_
 exact wJ (!v19) H
 refine wS (wS (wS (wS (wS (w1 tok ?_)))))
 exact wJ false H
theorem O16:CallOk prog 16:=ck func16
theorem R16 (p0 k h) (H:strong_Get p0 k h):CallsH prog 16 #[Slc.v p0] h (fun v h'=>∃ r:S_api_Mem × Int,v = .tuple #[.agg (S_api_Mem.cs r.1).toArray,.int .i64 r.2]/\k r h'):=by
 refine fE func16 fun w0=>?_
 refine zF [0] (zQ ?_)
 refine wB tok H fun b1 h2 H=>?_
 refine w1 tok (zE (zQ ?_))
 refine w1 tok ?_
 refine wY (y_build tok rfl rfl rfl rfl rfl) ?_
 refine wX H fun b3 h4 H=>?_
 refine w1 tok (zE (zQ ?_))
 refine w1 tok ?_
 refine wC O45 (R45 _ _ _ H) fun r5 h6 H=>?_
 refine w1 tok ?_
 refine wC O45 (R45 _ _ _ H) fun r7 h8 H=>?_
 refine w1 tok ?_
 refine wC O45 (R45 _ _ _ H) fun r9 h10 H=>?_
 refine w1 tok ?_
 refine wC O46 (R46 _ _ _ H) fun r11 h12 H=>?_
 refine w1 tok ?_
 refine wC O46 (R46 _ _ _ H) fun r13 h14 H=>?_
 refine wY (y_build tok rfl rfl rfl rfl rfl) ?_
 refine wB tok H fun b15 h16 H=>?_
 refine wTa tok H fun h17 H=>?_
 refine zE (zF [2,4,5] (zQ ?_))
 refine w1 tok ?_
 refine wC O47 (R47 _ _ _ _ H) fun r18 h19 H=>?_
 refine w1 tok (zE (zQ ?_))
 refine w3 tok ?_
 obtain ⟨s20,ps20,qs20,rs20,es20,H⟩:=H
 refine wYe (y_sla (L:=0) (H:=32) tok rfl rfl rfl rfl rfl rfl ps20 qs20 rs20) (congrArg Slc.v es20) ?_
 refine wC O48 (R48 _ _ _ _ H) fun r21 h22 H=>?_
 refine zE (zF [2,4,5,6] (zQ ?_))
 refine w2 tok ?_
 obtain ⟨s23,ps23,qs23,rs23,es23,H⟩:=H
 refine wYe (y_sla (L:=0) (H:=32) tok rfl rfl rfl rfl rfl rfl ps23 qs23 rs23) (congrArg Slc.v es23) ?_
 refine wC O48 (R48 _ _ _ _ H) fun r24 h25 H=>?_
 refine zE (zQ (w1 tok ?_))
 refine wC O46 (R46 _ _ _ H) fun r26 h27 H=>?_
 refine w1 tok ?_
 refine wC O45 (R45 _ _ _ H) fun r28 h29 H=>?_
 refine w1 tok ?_
 refine wT tok H fun h30 H=>?_
 refine w1 tok ?_
 refine wT tok H fun h31 H=>?_
 refine zE (zF [2,4,5,6] (zQ ?_))
 refine w1 tok ?_
 refine wC O46 (R46 _ _ _ H) fun r32 h33 H=>?_
 refine w1 tok ?_
 refine wC O46 (R46 _ _ _ H) fun r34 h35 H=>?_
 refine w1 tok ?_
 refine wT tok H fun h36 H=>?_
 refine w1 tok ?_
 refine wT tok H fun h37 H=>?_
 refine zE (zQ (w1 tok ?_))
 refine wC O49 (R49 _ _ _ H) fun r38 h39 H=>?_
 refine w1 tok ?_
 refine wT tok H fun h40 H=>?_
 refine zE (zF [2,4,5,6] (zQ ?_))
 refine w1 tok ?_
 refine wC O50 (R50 _ _ _ H) fun r41 h42 H=>?_
 refine w1 tok ?_
 refine wT tok H fun h43 H=>?_
 refine zE (zS (zQ (w1 tok (zE (zB ?_)))))
 obtain ⟨I1,μ1,H0,HI⟩:=H
 refine zO (σ:=Int) [2,4,5,6] (fun (s:Int)=>[(7,.int .i64 s)]) I1 μ1 0 H0 ?_
 rintro t7_1 h_1 H
 replace H:=HI t7_1 h_1 H
 refine zF [7,2,4,5,6] (zS (zQ ?_))
 refine w2 tok ?_
 refine wL tok H fun v44 H=>?_
 refine w2 tok ?_
 refine vJ 6 (α:=Bool) [2,4,5,6,7] (fun (s:Bool)=>[(61,.bool s)]) (fun (s:Bool) h=>strong_Get_g2 (ad b1) (ad b3) (ad b15) r18 t7_1 s k (fun s h'=>I1 s h'/\μ1 s h' < μ1 t7_1 h_1) h) ?_ ?_
 rintro t61_2 h_2 H
 refine vF [61,2,4,5,6,7] (zE ?_)
 refine zI H ?_ ?_ <;> intro H
 refine zK (zX (zS (zB ?_)))
 refine gB [2,4,5,6,7] ?_
 refine gT 0 [5] tok ?_
 obtain ⟨v45,hv45,H⟩:=H
 refine gL 1 [64] rfl (y_ld tok rfl rfl rfl rfl hv45) ?_
 refine gT 2 [4] tok ?_
 refine gCr 3 [66] O51 (R51 _ _ _ H) fun r46 h47 H=>?_
 obtain ⟨hy48,H⟩:=H
 refine gR rfl (y_ld tok rfl rfl rfl rfl hy48) ?_
 refine gZ0 ?_
 obtain ⟨b49,h50,eb49,eh50,H⟩:=H
 refine gHr 4 [67] rfl (h_bs tok rfl rfl rfl rfl rfl rfl rfl eb49 eh50) ?_
 obtain ⟨hy51,H⟩:=H
 refine gR rfl (y_ld tok rfl rfl rfl rfl hy51) ?_
 refine gZ0 ?_
 refine gA 5 [65,68] rfl (a_app (s:=v45) (r:=(⟨some ⟨b49,0,none⟩,1,1⟩:Slc)) tok rfl rfl rfl rfl rfl (slcAt_push eb49 eh50) H) ?_
 rintro _ h53 ⟨s52,rfl,H⟩
 refine gT 6 [5] tok ?_
 obtain ⟨h54,wh54,eh54,H⟩:=H
 refine gH 7 [69,70] rfl (h_st tok rfl rfl rfl rfl rfl rfl wh54 eh54) ?_
 refine gZ ?_
 refine yL (zX (zF [2,4,5,6,7] (zR ?_)))
 refine w2 tok ?_
 obtain ⟨x55,ex55,H⟩:=H
 refine w_pe tok rfl (congrArg (fun z=>(.int .i64 z:Value)) ex55) rfl rfl ?_
 refine zW ?_
 exact xJ x55 H
 refine zY (yE (yE (yH (zX (zQ (w1 tok ?_))))))
 refine wC O52 (R52 _ _ _ H) fun r56 h57 H=>?_
 refine w1 tok ?_
 refine wT tok H fun h58 H=>?_
 refine zE (zQ (w1 tok ?_))
 refine wC O46 (R46 _ _ _ H) fun r59 h60 H=>?_
 refine w1 tok ?_
 refine wT tok H fun h61 H=>?_
 refine zE (zF [2,4,5,6] (zS (zQ ?_)))
 refine w1 tok ?_
 refine wY (y_nil rfl rfl) ?_
 refine w1 tok ?_
 refine wL tok H fun v62 H=>?_
 refine w1 tok ?_
 refine vJ 7 (α:=Bool) [2,5,6] (fun (s:Bool)=>[(88,.bool s)]) (fun (s:Bool) h=>strong_Get_g3 (ad b1) (ad b15) r18 s k (fun s h'=>I1 s h'/\μ1 s h' < μ1 t7_1 h_1) h) ?_ ?_
 rintro t88_3 h_3 H
 refine vF [88,2,5,6] (zE ?_)
 refine zI H ?_ ?_ <;> intro H
 refine zQ ?_
 refine wY (y_build tok rfl rfl rfl rfl rfl) ?_
 refine wTa tok H fun h63 H=>?_
 refine w1 tok (zE (zT (yT ?_)))
 obtain ⟨v64,hv64,H⟩:=H
 exact x_retc tok _ rfl [.agg (S_api_Mem.cs v64).toArray,.int .i64 4] ⟨⟨_,_,rfl,rfl,.inr ⟨rfl,_,rfl,rfl,hv64⟩⟩,rfl,trivial⟩ ⟨(v64,4),rfl,H⟩
 refine zK (zX (zQ (w1 tok ?_)))
 refine wD tok H fun a65 _ H=>?_
 refine wL tok H fun v66 H=>?_
 refine w2 tok ?_
 refine wT tok H fun h67 H=>?_
 refine zE (zF [2,5] (zS (zQ ?_)))
 refine wLa tok H fun v68 H=>?_
 refine wC O11 (R11 _ _ _ H) fun r69 h70 H=>?_
 refine w1 tok (zE ?_)
 refine zI H ?_ ?_ <;> intro H
 refine zQ ?_
 refine wY (y_build tok rfl rfl rfl rfl rfl) ?_
 refine wTa tok H fun h71 H=>?_
 refine w1 tok (zE (zT (yT ?_)))
 obtain ⟨v72,hv72,H⟩:=H
 exact x_retc tok _ rfl [.agg (S_api_Mem.cs v72).toArray,.int .i64 4] ⟨⟨_,_,rfl,rfl,.inr ⟨rfl,_,rfl,rfl,hv72⟩⟩,rfl,trivial⟩ ⟨(v72,4),rfl,H⟩
 refine zK (zX (zQ ?_))
 refine wLa tok H fun v73 H=>?_
 refine wTa tok H fun h74 H=>?_
 refine w1 tok (zE (zT ?_))
 obtain ⟨v75,hv75,H⟩:=H
 exact x_retc tok _ rfl [.agg (S_api_Mem.cs v75).toArray,.int .i64 0] ⟨⟨_,_,rfl,rfl,.inr ⟨rfl,_,rfl,rfl,hv75⟩⟩,rfl,trivial⟩ ⟨(v75,0),rfl,H⟩
 refine vI 81 H ?_ ?_ <;> intro H
 refine wS (wS (wS (wS (wS (wS (w1 tok ?_))))))
 exact wJ true H
 refine w1 tok ?_
 refine wY (y_nil rfl rfl) ?_
 refine w1 tok ?_
 refine wL tok H fun v76 H=>?_
 refine w3 tok ?_
 exact wJ (decide ((v76.len:Int) > 0)) H
 refine vI 55 H ?_ ?_ <;> intro H
 refine w1 tok ?_
 refine wY (y_nil rfl rfl) ?_
 refine w1 tok ?_
 refine wL tok H fun v77 H=>?_
 refine w2 tok ?_
 exact wJ (!v77) H
 refine wS (wS (wS (wS (wS (w1 tok ?_)))))
 exact wJ false H
theorem O18:CallOk prog 18:=ck func18
theorem R18 (p0 k h) (H:strong_GetChange p0 k h):CallsH prog 18 #[Slc.v p0] h (fun v h'=>∃ r:S_api_Change × Int,v = .tuple #[.agg (S_api_Change.cs r.1).toArray,.int .i64 r.2]/\k r h'):=by
 refine fE func18 fun w0=>?_
 refine zF [0] (zQ ?_)
 refine wB tok H fun b1 h2 H=>?_
 refine w1 tok (zE (zQ ?_))
 refine w1 tok ?_
 refine wY (y_build tok rfl rfl rfl rfl rfl) ?_
 refine wX H fun b3 h4 H=>?_
 refine w1 tok (zE (zQ ?_))
 refine w1 tok ?_
 refine wC O47 (R47 _ _ _ _ H) fun r5 h6 H=>?_
 refine w1 tok (zE (zF [2,4,5] (zQ ?_)))
 refine w1 tok ?_
 refine wC O46 (R46 _ _ _ H) fun r7 h8 H=>?_
 refine w1 tok ?_
 refine wC O45 (R45 _ _ _ H) fun r9 h10 H=>?_
 refine w1 tok ?_
 refine wC O51 (R51 _ _ _ H) fun r11 h12 H=>?_
 refine wY (y_build tok rfl rfl rfl rfl rfl) ?_
 refine wB tok H fun b13 h14 H=>?_
 refine wTa tok H fun h15 H=>?_
 refine zE (zF [2,4,5,6] (zQ ?_))
 refine w1 tok ?_
 refine wC O45 (R45 _ _ _ H) fun r16 h17 H=>?_
 refine w1 tok ?_
 refine wC O46 (R46 _ _ _ H) fun r18 h19 H=>?_
 refine w1 tok ?_
 refine wC O45 (R45 _ _ _ H) fun r20 h21 H=>?_
 refine w1 tok ?_
 refine wC O46 (R46 _ _ _ H) fun r22 h23 H=>?_
 refine wY (y_build tok rfl rfl rfl rfl rfl) ?_
 refine w1 tok ?_
 refine wTa tok H fun h24 H=>?_
 refine zE (zF [2,4,5,6] (zQ ?_))
 refine w1 tok ?_
 refine wC O50 (R50 _ _ _ H) fun r25 h26 H=>?_
 refine w2 tok ?_
 refine wT tok H fun h27 H=>?_
 refine zE (zQ (w1 tok ?_))
 refine wC O49 (R49 _ _ _ H) fun r28 h29 H=>?_
 refine w2 tok ?_
 refine wT tok H fun h30 H=>?_
 refine zE (zF [2,4,5,6] (zS (zQ ?_)))
 refine w1 tok ?_
 refine wC O46 (R46 _ _ _ H) fun r31 h32 H=>?_
 refine w1 tok (zE (zB ?_))
 obtain ⟨I1,μ1,H0,HI⟩:=H
 refine zO (σ:=Int) [2,4,5,6] (fun (s:Int)=>[(7,.int .u64 s)]) I1 μ1 r31 H0 ?_
 rintro t7_1 h_1 H
 replace H:=HI t7_1 h_1 H
 refine zF [7,2,4,5,6] (zS (zQ ?_))
 refine w3 tok ?_
 refine vJ 6 (α:=Bool) [2,4,5,6,7] (fun (s:Bool)=>[(49,.bool s)]) (fun (s:Bool) h=>strong_GetChange_g2 (ad b1) (ad b3) r5 (ad b13) t7_1 s k (fun s h'=>I1 s h'/\μ1 s h' < μ1 t7_1 h_1) h) ?_ ?_
 rintro t49_2 h_2 H
 refine vF [49,2,4,5,6,7] (zE ?_)
 refine zI H ?_ ?_ <;> intro H
 refine zK (zX (zS (zB (zQ ?_))))
 refine wB tok H fun b33 h34 H=>?_
 refine zE (zQ (w1 tok ?_))
 obtain ⟨s35,ps35,qs35,rs35,es35,H⟩:=H
 refine wYe (y_sla (L:=0) (H:=12) tok rfl rfl rfl rfl rfl rfl ps35 qs35 rs35) (congrArg Slc.v es35) ?_
 refine wC O48 (R48 _ _ _ _ H) fun r36 h37 H=>?_
 refine zE (zR (w1 tok ?_))
 refine wL tok H fun v38 H=>?_
 refine wLa tok H fun v39 H=>?_
 obtain ⟨b40,h41,eb40,eh41,H⟩:=H
 refine wH (h_bs tok rfl rfl rfl rfl rfl rfl rfl eb40 eh41) ?_
 refine wA (a_app (s:=v38) (r:=(⟨some ⟨b40,0,none⟩,1,1⟩:Slc)) tok rfl rfl rfl rfl rfl (slcAt_push eb40 eh41) H) ?_
 rintro _ h43 ⟨s42,rfl,H⟩
 refine w1 tok ?_
 refine wT tok H fun h44 H=>?_
 refine zL (zX (zF [2,4,5,6,7] (zR ?_)))
 refine w2 tok ?_
 obtain ⟨x45,ex45,H⟩:=H
 refine w_pe tok rfl (congrArg (fun z=>(.int .u64 z:Value)) ex45) rfl rfl ?_
 refine zW ?_
 exact xJ x45 H
 refine zY (yE (yE (yH (zX (zQ (w1 tok ?_))))))
 refine wC O52 (R52 _ _ _ H) fun r46 h47 H=>?_
 refine w1 tok ?_
 refine wT tok H fun h48 H=>?_
 refine zE (zQ (w1 tok ?_))
 refine wC O49 (R49 _ _ _ H) fun r49 h50 H=>?_
 obtain ⟨l51,ll51,hl51,H⟩:=H
 refine wY (y_b2s (s:=r49) (l:=l51) tok rfl rfl rfl rfl rfl ll51 hl51) ?_
 refine w1 tok ?_
 refine wT tok H fun h52 H=>?_
 refine zE (zF [2,4,5,6] (zS (zQ ?_)))
 refine w1 tok ?_
 refine wY (y_nil rfl rfl) ?_
 refine w1 tok ?_
 refine wL tok H fun v53 H=>?_
 refine w1 tok ?_
 refine vJ 7 (α:=Bool) [2,5,6] (fun (s:Bool)=>[(79,.bool s)]) (fun (s:Bool) h=>strong_GetChange_g3 (ad b1) r5 (ad b13) s k (fun s h'=>I1 s h'/\μ1 s h' < μ1 t7_1 h_1) h) ?_ ?_
 rintro t79_3 h_3 H
 refine vF [79,2,5,6] (zE ?_)
 refine zI H ?_ ?_ <;> intro H
 refine zQ ?_
 refine wY (y_build tok rfl rfl rfl rfl rfl) ?_
 refine wTa tok H fun h54 H=>?_
 refine w1 tok (zE (zT (yT ?_)))
 obtain ⟨v55,hv55,H⟩:=H
 exact x_retc tok _ rfl [.agg (S_api_Change.cs v55).toArray,.int .i64 4] ⟨⟨_,_,rfl,rfl,.inr ⟨rfl,_,rfl,rfl,hv55⟩⟩,rfl,trivial⟩ ⟨(v55,4),rfl,H⟩
 refine zK (zX (zQ (w1 tok ?_)))
 refine wD tok H fun a56 _ H=>?_
 refine wL tok H fun v57 H=>?_
 refine w2 tok ?_
 refine wT tok H fun h58 H=>?_
 refine zE (zF [2,6] (zQ ?_))
 refine wLa tok H fun v59 H=>?_
 refine wTa tok H fun h60 H=>?_
 refine w1 tok (zE (zT ?_))
 obtain ⟨v61,hv61,H⟩:=H
 exact x_retc tok _ rfl [.agg (S_api_Change.cs v61).toArray,.int .i64 0] ⟨⟨_,_,rfl,rfl,.inr ⟨rfl,_,rfl,rfl,hv61⟩⟩,rfl,trivial⟩ ⟨(v61,0),rfl,H⟩
 refine vI 72 H ?_ ?_ <;> intro H
 refine wS (wS (wS (wS (wS (wS (w1 tok ?_))))))
 exact wJ true H
 refine w1 tok ?_
 refine wY (y_nil rfl rfl) ?_
 refine w1 tok ?_
 refine wL tok H fun v62 H=>?_
 refine w3 tok ?_
 exact wJ (decide ((v62.len:Int) > 0)) H
 refine vI 43 H ?_ ?_ <;> intro H
 refine w1 tok ?_
 refine wY (y_nil rfl rfl) ?_
 refine w1 tok ?_
 refine wL tok H fun v63 H=>?_
 refine w2 tok ?_
 exact wJ (!v63) H
 refine wS (wS (wS (wS (wS (w1 tok ?_)))))
 exact wJ false H
end Go.Q.Yk
end
