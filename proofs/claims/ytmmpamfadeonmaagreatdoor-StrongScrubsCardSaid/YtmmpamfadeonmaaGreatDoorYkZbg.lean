/- A part of the proof of statements of this seat: lemmas, no statement of their own. -/
import Derived.Test.YtmmpamfadeonmaaGreatDoorYkZae
import Derived.Test.YtmmpamfadeonmaaGreatDoorYkZaf
import Derived.Test.YtmmpamfadeonmaaGreatDoorYkZam
import Derived.Test.YtmmpamfadeonmaaGreatDoorYkZat
set_option linter.unusedVariables false
set_option linter.unusedSimpArgs false
section
set_option maxRecDepth 100000
set_option maxHeartbeats 1000000
namespace Go.Q.Yk
open Go.Proofs.Tryz
/-- quaestor quaestorref01.Short -/
def ref01_Short_l1b (t0_1:Int) (t3_1:Slc) (k:(Slc)->Heap->Prop) (nx1:(Int × Slc)->Heap->Prop) (h_1:Heap):Prop :=
  if (decide (t0_1>=128)) then (∃ (b1:Nat) (h2:Heap),b1=h_1.size/\h2=h_1.push (.cells ([.int .u8 (IntKind.u8.wrap ((IntKind.u8.wrap (Int.tmod t0_1 128)) + 128))]).toArray 5)/\(App 5 1 1 [.int .u8 0] h2 t3_1 1 ([.int .u8 (IntKind.u8.wrap ((IntKind.u8.wrap (Int.tmod t0_1 128)) + 128))]) (fun s3 h4=>∃ x5:Int,x5=(IntKind.u64.wrap (Int.tdiv t0_1 128))/\(nx1 (x5,s3) h4)))) else (∃ (b6:Nat) (h7:Heap),b6=h_1.size/\h7=h_1.push (.cells ([.int .u8 (IntKind.u8.wrap t0_1)]).toArray 5)/\(App 5 1 1 [.int .u8 0] h7 t3_1 1 ([.int .u8 (IntKind.u8.wrap t0_1)]) (fun s8 h9=>k s8 h9)))
def ref01_Short_l1 (i0:Int) (i3:Slc) (k:(Slc)->Heap->Prop) (h:Heap):Prop :=
  ∃ (I:(Int × Slc)->Heap->Prop) (μ:(Int × Slc)->Heap->Nat),I (i0,i3) h/\∀ (t0_1:Int) (t3_1:Slc) (h:Heap),I (t0_1,t3_1) h->ref01_Short_l1b t0_1 t3_1 k (fun s h'=>I s h'/\μ s h' < μ (t0_1,t3_1) h) h
def ref01_Short (p0:Int) (k:(Slc)->Heap->Prop) (h:Heap):Prop :=
  ref01_Short_l1 p0 (⟨none,0,0⟩:Slc) k h
/-- quaestor quaestorref01.Form -/
def ref01_Form_l1b (t1_1:Int) (t0_1:Int) (t5_1:Slc) (t6_1:Int) (k:(Slc)->Heap->Prop) (nx1:(Int × Slc × Int)->Heap->Prop) (h_1:Heap):Prop :=
  if (decide (t6_1 < t1_1)) then (∃ (b1:Nat) (h2:Heap),b1=h_1.size/\h2=h_1.push (.cells ([.int .u8 (IntKind.u8.wrap (Int.tmod t0_1 256))]).toArray 5)/\(App 5 1 1 [.int .u8 0] h2 t5_1 1 ([.int .u8 (IntKind.u8.wrap (Int.tmod t0_1 256))]) (fun s3 h4=>∃ x5:Int,x5=(IntKind.u64.wrap (Int.tdiv t0_1 256))/\(∃ x6:Int,x6=(IntKind.i64.wrap (t6_1 + 1))/\(nx1 (x5,s3,x6) h4))))) else (k t5_1 h_1)
def ref01_Form_l1 (t1_1:Int) (i0:Int) (i5:Slc) (i6:Int) (k:(Slc)->Heap->Prop) (h:Heap):Prop :=
  ∃ (I:(Int × Slc × Int)->Heap->Prop) (μ:(Int × Slc × Int)->Heap->Nat),I (i0,i5,i6) h/\∀ (t0_1:Int) (t5_1:Slc) (t6_1:Int) (h:Heap),I (t0_1,t5_1,t6_1) h->ref01_Form_l1b t1_1 t0_1 t5_1 t6_1 k (fun s h'=>I s h'/\μ s h' < μ (t0_1,t5_1,t6_1) h) h
def ref01_Form (p0:Int) (p1:Int) (k:(Slc)->Heap->Prop) (h:Heap):Prop :=
  ref01_Form_l1 p1 p0 (⟨none,0,0⟩:Slc) 0 k h
/-- quaestor quaestorref23.Great -/
def ref23_Great_l1b (t0_1:Slc) (t3_1:Int) (k:(Bool)->Heap->Prop) (nx1:(Int)->Heap->Prop) (h_1:Heap):Prop :=
  if ((decide (t3_1 < (t0_1.len:Int))) && (decide (t3_1 < 100))) then (∃ a1:Addr,t0_1.a=some a1/\(0:Int)<=t3_1/\t3_1 < (t0_1.len:Int)/\(∃ v2:Slc,cellH h_1 ((a1.add (t3_1.toNat * 2)).add 1)=some (Slc.v v2)/\(if (decide ((v2.len:Int) > 300)) then (k true h_1) else (∃ x3:Int,x3=(IntKind.i64.wrap (t3_1 + 1))/\(nx1 x3 h_1))))) else (k (decide ((t0_1.len:Int) > 100)) h_1)
def ref23_Great_l1 (t0_1:Slc) (i3:Int) (k:(Bool)->Heap->Prop) (h:Heap):Prop :=
  ∃ (I:Int->Heap->Prop) (μ:Int->Heap->Nat),I i3 h/\∀ (t3_1:Int) (h:Heap),I t3_1 h->ref23_Great_l1b t0_1 t3_1 k (fun s h'=>I s h'/\μ s h' < μ t3_1 h) h
def ref23_Great (p0:Slc) (k:(Bool)->Heap->Prop) (h:Heap):Prop :=
  ref23_Great_l1 p0 0 k h
/-- quaestor quaestorref16.Name -/
def ref16_Name_l1b (t0_1:ByteArray) (t3_1:Int) (k:(Bool)->Heap->Prop) (nx1:(Int)->Heap->Prop) (h_1:Heap):Prop :=
  if (decide (t3_1 < (t0_1.size:Int))) then (∃ v1:Int,(0:Int)<=t3_1/\StrAt t0_1 t3_1 v1/\(if (((!((decide (v1>=97)) && (decide (v1<=122)))) && (!((decide (v1>=48)) && (decide (v1<=57))))) && (v1 != 45)) then (k false h_1) else (∃ x2:Int,x2=(IntKind.i64.wrap (t3_1 + 1))/\(nx1 x2 h_1)))) else (k ((decide ((t0_1.size:Int)>=1)) && (decide ((t0_1.size:Int)<=24))) h_1)
def ref16_Name_l1 (t0_1:ByteArray) (i3:Int) (k:(Bool)->Heap->Prop) (h:Heap):Prop :=
  ∃ (I:Int->Heap->Prop) (μ:Int->Heap->Nat),I i3 h/\∀ (t3_1:Int) (h:Heap),I t3_1 h->ref16_Name_l1b t0_1 t3_1 k (fun s h'=>I s h'/\μ s h' < μ t3_1 h) h
def ref16_Name (p0:ByteArray) (k:(Bool)->Heap->Prop) (h:Heap):Prop :=
  ref16_Name_l1 p0 0 k h
/-- quaestor quaestorref16.Check -/
def ref16_Check_g2 (t17_2:Bool) (k:(Bool)->Heap->Prop) (h_2:Heap):Prop :=
  k t17_2 h_2
def ref16_Check_g1 (t1_1:Addr) (t11_1:Bool) (k:(Bool)->Heap->Prop) (h_1:Heap):Prop :=
  if t11_1 then (∃ v6:Slc,cellH h_1 (t1_1.add 14)=some (Slc.v v6)/\(ref16_Check_g2 (decide ((v6.len:Int)<=4112)) k h_1)) else (ref16_Check_g2 false k h_1)
def ref16_Check (p0:S_api_Box) (k:(Bool)->Heap->Prop) (h:Heap):Prop :=
  ∃ (b1:Nat) (h2:Heap),b1=h.size/\h2=h.push (.cells (S_api_Box.cs p0).toArray 76)/\(∃ v3:ByteArray,cellH h2 (⟨b1,0,none⟩:Addr)=some (.string v3)/\(ref16_Name v3 (fun (r4:Bool) h5=>if r4 then (∃ v7:Slc,cellH h5 ((⟨b1,0,none⟩:Addr).add 14)=some (Slc.v v7)/\(ref16_Check_g1 (⟨b1,0,none⟩:Addr) (decide ((v7.len:Int)>=16)) k h5)) else (ref16_Check_g1 (⟨b1,0,none⟩:Addr) false k h5)) h2))
/-- quaestor quaestorref16.Form -/
def ref16_Form (p0:S_api_Box) (k:(Slc)->Heap->Prop) (h:Heap):Prop :=
  ∃ (b1:Nat) (h2:Heap),b1=h.size/\h2=h.push (.cells (S_api_Box.cs p0).toArray 76)/\(∃ v3:ByteArray,cellH h2 (⟨b1,0,none⟩:Addr)=some (.string v3)/\(∃ v4:ByteArray,cellH h2 (⟨b1,0,none⟩:Addr)=some (.string v4)/\(ref01_Short (IntKind.u64.wrap (v3.size:Int)) (fun (r5:Slc) h6=>cellH h6 (⟨b1,0,none⟩:Addr)=some (.string v4)/\(App 5 1 1 [.int .u8 0] h6 r5 v4.size (b8 (sB v4)) (fun s8 h9=>∃ v10:Int,cellH h9 ((⟨b1,0,none⟩:Addr).add 1)=some (.int .u32 v10)/\(ref01_Form (IntKind.u64.wrap v10) 4 (fun (r11:Slc) h12=>∃ l15:List Value,SlcAt h12 r11 l15/\App 5 1 1 [.int .u8 0] h12 s8 r11.len l15 (fun s13 h14=>∃ s16:Slc,(0:Int)<=0/\0<=(12:Int)/\12<=(12:Int)/\s16=subS ⟨some ((⟨b1,0,none⟩:Addr).add 2),12,12⟩ 1 (0:Int).toNat (12:Int).toNat 12/\(∃ l19:List Value,SlcAt h14 s16 l19/\App 5 1 1 [.int .u8 0] h14 s13 s16.len l19 (fun s17 h18=>∃ v20:Slc,cellH h18 ((⟨b1,0,none⟩:Addr).add 14)=some (Slc.v v20)/\(ref01_Short (IntKind.u64.wrap (v20.len:Int)) (fun (r21:Slc) h22=>∃ l25:List Value,SlcAt h22 r21 l25/\App 5 1 1 [.int .u8 0] h22 s17 r21.len l25 (fun s23 h24=>∃ v26:Slc,cellH h24 ((⟨b1,0,none⟩:Addr).add 14)=some (Slc.v v26)/\(∃ l29:List Value,SlcAt h24 v26 l29/\App 5 1 1 [.int .u8 0] h24 s23 v26.len l29 (fun s27 h28=>k s27 h28)))) h18))))) h9)))) h2)))
/-- quaestor quaestorref28.text -/
def ref28_text (p0:Slc) (k:(Slc)->Heap->Prop) (h:Heap):Prop :=
  ref01_Short (IntKind.u64.wrap (p0.len:Int)) (fun (r1:Slc) h2=>∃ l5:List Value,SlcAt h2 p0 l5/\App 5 1 1 [.int .u8 0] h2 r1 p0.len l5 (fun s3 h4=>k s3 h4)) h
/-- quaestor quaestorref28.entries -/
def ref28_entries_l1b (t0_1:Slc) (t3_1:Slc) (t4_1:Int) (k:(Slc)->Heap->Prop) (nx1:(Slc × Int)->Heap->Prop) (h_1:Heap):Prop :=
  if (decide (t4_1 < (t0_1.len:Int))) then (∃ a3:Addr,t0_1.a=some a3/\(0:Int)<=t4_1/\t4_1 < (t0_1.len:Int)/\(∃ v4:Int,cellH h_1 (a3.add (t4_1.toNat * 2))=some (.int .u64 v4)/\(ref01_Short v4 (fun (r5:Slc) h6=>∃ l9:List Value,SlcAt h6 r5 l9/\App 5 1 1 [.int .u8 0] h6 t3_1 r5.len l9 (fun s7 h8=>∃ a10:Addr,t0_1.a=some a10/\(0:Int)<=t4_1/\t4_1 < (t0_1.len:Int)/\(∃ v11:Slc,cellH h8 ((a10.add (t4_1.toNat * 2)).add 1)=some (Slc.v v11)/\(ref28_text v11 (fun (r12:Slc) h13=>∃ l16:List Value,SlcAt h13 r12 l16/\App 5 1 1 [.int .u8 0] h13 s7 r12.len l16 (fun s14 h15=>∃ x17:Int,x17=(IntKind.i64.wrap (t4_1 + 1))/\(nx1 (s14,x17) h15))) h8)))) h_1))) else (k t3_1 h_1)
def ref28_entries_l1 (t0_1:Slc) (i3:Slc) (i4:Int) (k:(Slc)->Heap->Prop) (h:Heap):Prop :=
  ∃ (I:(Slc × Int)->Heap->Prop) (μ:(Slc × Int)->Heap->Nat),I (i3,i4) h/\∀ (t3_1:Slc) (t4_1:Int) (h:Heap),I (t3_1,t4_1) h->ref28_entries_l1b t0_1 t3_1 t4_1 k (fun s h'=>I s h'/\μ s h' < μ (t3_1,t4_1) h) h
def ref28_entries (p0:Slc) (k:(Slc)->Heap->Prop) (h:Heap):Prop :=
  ref01_Short (IntKind.u64.wrap (p0.len:Int)) (fun (r1:Slc) h2=>ref28_entries_l1 p0 r1 0 k h2) h
/-- quaestor quaestorref28.boxes -/
def ref28_boxes_j2 (t0_2:Slc) (t4_2:Int) (t3_2:Slc) (k:(Slc)->Heap->Prop) (nx1:(Slc × Int)->Heap->Prop) (h_2:Heap):Prop :=
  ∃ x3:Int,x3=(IntKind.i64.wrap (t4_2 + 1))/\(nx1 (t3_2,x3) h_2)
def ref28_boxes_l1b (t0_1:Slc) (t3_1:Slc) (t4_1:Int) (k:(Slc)->Heap->Prop) (nx1:(Slc × Int)->Heap->Prop) (h_1:Heap):Prop :=
  if (decide (t4_1 < (t0_1.len:Int))) then (∃ a4:Addr,t0_1.a=some a4/\(0:Int)<=t4_1/\t4_1 < (t0_1.len:Int)/\(∃ v5:S_api_Box,CellsAt h_1 (a4.add (t4_1.toNat * 15)) (S_api_Box.cs v5)/\(ref16_Check v5 (fun (r6:Bool) h7=>if r6 then (∃ a8:Addr,t0_1.a=some a8/\(0:Int)<=t4_1/\t4_1 < (t0_1.len:Int)/\(∃ v9:S_api_Box,CellsAt h7 (a8.add (t4_1.toNat * 15)) (S_api_Box.cs v9)/\(ref16_Form v9 (fun (r10:Slc) h11=>∃ l14:List Value,SlcAt h11 r10 l14/\App 5 1 1 [.int .u8 0] h11 t3_1 r10.len l14 (fun s12 h13=>ref28_boxes_j2 t0_1 t4_1 s12 k nx1 h13)) h7))) else (ref28_boxes_j2 t0_1 t4_1 t3_1 k nx1 h7)) h_1))) else (k t3_1 h_1)
def ref28_boxes_l1 (t0_1:Slc) (i3:Slc) (i4:Int) (k:(Slc)->Heap->Prop) (h:Heap):Prop :=
  ∃ (I:(Slc × Int)->Heap->Prop) (μ:(Slc × Int)->Heap->Nat),I (i3,i4) h/\∀ (t3_1:Slc) (t4_1:Int) (h:Heap),I (t3_1,t4_1) h->ref28_boxes_l1b t0_1 t3_1 t4_1 k (fun s h'=>I s h'/\μ s h' < μ (t3_1,t4_1) h) h
def ref28_boxes (p0:Slc) (k:(Slc)->Heap->Prop) (h:Heap):Prop :=
  ref01_Short (IntKind.u64.wrap (p0.len:Int)) (fun (r1:Slc) h2=>ref28_boxes_l1 p0 r1 0 k h2) h
/-- quaestor quaestorref28.shorts -/
def ref28_shorts_l1b (t0_1:Slc) (t3_1:Slc) (t4_1:Int) (k:(Slc)->Heap->Prop) (nx1:(Slc × Int)->Heap->Prop) (h_1:Heap):Prop :=
  if (decide (t4_1 < (t0_1.len:Int))) then (∃ a1:Addr,t0_1.a=some a1/\(0:Int)<=t4_1/\t4_1 < (t0_1.len:Int)/\(∃ v2:Int,cellH h_1 (a1.add (t4_1.toNat * 1))=some (.int .u64 v2)/\(ref01_Short v2 (fun (r3:Slc) h4=>∃ l7:List Value,SlcAt h4 r3 l7/\App 5 1 1 [.int .u8 0] h4 t3_1 r3.len l7 (fun s5 h6=>∃ x8:Int,x8=(IntKind.i64.wrap (t4_1 + 1))/\(nx1 (s5,x8) h6))) h_1))) else (k t3_1 h_1)
def ref28_shorts_l1 (t0_1:Slc) (i3:Slc) (i4:Int) (k:(Slc)->Heap->Prop) (h:Heap):Prop :=
  ∃ (I:(Slc × Int)->Heap->Prop) (μ:(Slc × Int)->Heap->Nat),I (i3,i4) h/\∀ (t3_1:Slc) (t4_1:Int) (h:Heap),I (t3_1,t4_1) h->ref28_shorts_l1b t0_1 t3_1 t4_1 k (fun s h'=>I s h'/\μ s h' < μ (t3_1,t4_1) h) h
def ref28_shorts (p0:Slc) (k:(Slc)->Heap->Prop) (h:Heap):Prop :=
  ref28_shorts_l1 p0 (⟨none,0,0⟩:Slc) 0 k h
/-- quaestor quaestorref28.Form -/
def ref28_Form_l1b (t1_1:Addr) (t3_1:Slc) (t4_1:Int) (k:(Slc)->Heap->Prop) (nx1:(Slc × Int)->Heap->Prop) (h_1:Heap):Prop :=
  ∃ v48:Slc,cellH h_1 (t1_1.add 76)=some (Slc.v v48)/\(if (decide (t4_1 < (v48.len:Int))) then (∃ v49:Slc,cellH h_1 (t1_1.add 76)=some (Slc.v v49)/\(∃ a50:Addr,v49.a=some a50/\(0:Int)<=t4_1/\t4_1 < (v49.len:Int)/\(∃ v51:Int,cellH h_1 (a50.add (t4_1.toNat * 33))=some (.int .u64 v51)/\(ref01_Short v51 (fun (r52:Slc) h53=>∃ l56:List Value,SlcAt h53 r52 l56/\App 5 1 1 [.int .u8 0] h53 t3_1 r52.len l56 (fun s54 h55=>∃ v57:Slc,cellH h55 (t1_1.add 76)=some (Slc.v v57)/\(∃ a58:Addr,v57.a=some a58/\(0:Int)<=t4_1/\t4_1 < (v57.len:Int)/\(∃ s59:Slc,(0:Int)<=0/\0<=(32:Int)/\32<=(32:Int)/\s59=subS ⟨some ((a58.add (t4_1.toNat * 33)).add 1),32,32⟩ 1 (0:Int).toNat (32:Int).toNat 32/\(∃ l62:List Value,SlcAt h55 s59 l62/\App 5 1 1 [.int .u8 0] h55 s54 s59.len l62 (fun s60 h61=>∃ x63:Int,x63=(IntKind.i64.wrap (t4_1 + 1))/\(nx1 (s60,x63) h61))))))) h_1)))) else (∃ v64:Slc,cellH h_1 (t1_1.add 77)=some (Slc.v v64)/\(ref28_boxes v64 (fun (r65:Slc) h66=>∃ l69:List Value,SlcAt h66 r65 l69/\App 5 1 1 [.int .u8 0] h66 t3_1 r65.len l69 (fun s67 h68=>∃ v70:Int,cellH h68 (t1_1.add 78)=some (.int .u64 v70)/\(ref01_Short v70 (fun (r71:Slc) h72=>∃ l75:List Value,SlcAt h72 r71 l75/\App 5 1 1 [.int .u8 0] h72 s67 r71.len l75 (fun s73 h74=>k s73 h74)) h68))) h_1)))
def ref28_Form_l1 (t1_1:Addr) (i3:Slc) (i4:Int) (k:(Slc)->Heap->Prop) (h:Heap):Prop :=
  ∃ (I:(Slc × Int)->Heap->Prop) (μ:(Slc × Int)->Heap->Nat),I (i3,i4) h/\∀ (t3_1:Slc) (t4_1:Int) (h:Heap),I (t3_1,t4_1) h->ref28_Form_l1b t1_1 t3_1 t4_1 k (fun s h'=>I s h'/\μ s h' < μ (t3_1,t4_1) h) h
def ref28_Form (p0:S_api_Mem) (k:(Slc)->Heap->Prop) (h:Heap):Prop :=
  ∃ (b1:Nat) (h2:Heap),b1=h.size/\h2=h.push (.cells (S_api_Mem.cs p0).toArray 33)/\(∃ v3:Int,cellH h2 (⟨b1,0,none⟩:Addr)=some (.int .i64 v3)/\(∃ v4:Int,cellH h2 ((⟨b1,0,none⟩:Addr).add 1)=some (.int .i64 v4)/\(∃ v5:Int,cellH h2 ((⟨b1,0,none⟩:Addr).add 2)=some (.int .i64 v5)/\(∃ v6:Int,cellH h2 ((⟨b1,0,none⟩:Addr).add 3)=some (.int .u64 v6)/\(∃ v7:Int,cellH h2 ((⟨b1,0,none⟩:Addr).add 4)=some (.int .u64 v7)/\(∃ (b8:Nat) (h9:Heap),b8=h2.size/\h9=h2.push (.cells ([.int .u64 (IntKind.u64.wrap v3),.int .u64 (IntKind.u64.wrap v4),.int .u64 (IntKind.u64.wrap v5),.int .u64 v6,.int .u64 v7]).toArray 22)/\(ref28_shorts (⟨some ⟨b8,0,none⟩,5,5⟩:Slc) (fun (r10:Slc) h11=>∃ v12:Int,cellH h11 ((⟨b1,0,none⟩:Addr).add 5)=some (.int .u8 v12)/\(∃ (b13:Nat) (h14:Heap),b13=h11.size/\h14=h11.push (.cells ([.int .u8 v12]).toArray 5)/\(App 5 1 1 [.int .u8 0] h14 r10 1 ([.int .u8 v12]) (fun s15 h16=>∃ s17:Slc,(0:Int)<=0/\0<=(32:Int)/\32<=(32:Int)/\s17=subS ⟨some (((⟨b1,0,none⟩:Addr).add 5).add 1),32,32⟩ 1 (0:Int).toNat (32:Int).toNat 32/\(∃ l20:List Value,SlcAt h16 s17 l20/\App 5 1 1 [.int .u8 0] h16 s15 s17.len l20 (fun s18 h19=>∃ s21:Slc,(0:Int)<=0/\0<=(32:Int)/\32<=(32:Int)/\s21=subS ⟨some ((⟨b1,0,none⟩:Addr).add 38),32,32⟩ 1 (0:Int).toNat (32:Int).toNat 32/\(∃ l24:List Value,SlcAt h19 s21 l24/\App 5 1 1 [.int .u8 0] h19 s18 s21.len l24 (fun s22 h23=>∃ v25:Int,cellH h23 ((⟨b1,0,none⟩:Addr).add 70)=some (.int .u64 v25)/\(∃ v26:Int,cellH h23 ((⟨b1,0,none⟩:Addr).add 71)=some (.int .i64 v26)/\(∃ v27:Int,cellH h23 ((⟨b1,0,none⟩:Addr).add 72)=some (.int .u64 v27)/\(∃ v28:Int,cellH h23 ((⟨b1,0,none⟩:Addr).add 73)=some (.int .u64 v28)/\(∃ (b29:Nat) (h30:Heap),b29=h23.size/\h30=h23.push (.cells ([.int .u64 v25,.int .u64 (IntKind.u64.wrap v26),.int .u64 v27,.int .u64 v28]).toArray 22)/\(ref28_shorts (⟨some ⟨b29,0,none⟩,4,4⟩:Slc) (fun (r31:Slc) h32=>∃ l35:List Value,SlcAt h32 r31 l35/\App 5 1 1 [.int .u8 0] h32 s22 r31.len l35 (fun s33 h34=>∃ v36:Slc,cellH h34 ((⟨b1,0,none⟩:Addr).add 74)=some (Slc.v v36)/\(ref28_text v36 (fun (r37:Slc) h38=>∃ l41:List Value,SlcAt h38 r37 l41/\App 5 1 1 [.int .u8 0] h38 s33 r37.len l41 (fun s39 h40=>∃ v42:Slc,cellH h40 ((⟨b1,0,none⟩:Addr).add 75)=some (Slc.v v42)/\(ref28_entries v42 (fun (r43:Slc) h44=>∃ l47:List Value,SlcAt h44 r43 l47/\App 5 1 1 [.int .u8 0] h44 s39 r43.len l47 (fun s45 h46=>ref28_Form_l1 (⟨b1,0,none⟩:Addr) s45 0 k h46)) h40))) h34))) h30))))))))))))) h9)))))))
/-- quaestor quaestorref28.FormChange -/
def ref28_FormChange_l2b (t1_2:Addr) (t3_2:Slc) (t4_2:Int) (k:(Slc)->Heap->Prop) (nx2:(Slc × Int)->Heap->Prop) (h_2:Heap):Prop :=
  ∃ v36:Slc,cellH h_2 (t1_2.add 42)=some (Slc.v v36)/\(if (decide (t4_2 < (v36.len:Int))) then (∃ v37:Slc,cellH h_2 (t1_2.add 42)=some (Slc.v v37)/\(∃ a38:Addr,v37.a=some a38/\(0:Int)<=t4_2/\t4_2 < (v37.len:Int)/\(∃ s39:Slc,(0:Int)<=0/\0<=(12:Int)/\12<=(12:Int)/\s39=subS ⟨some (a38.add (t4_2.toNat * 12)),12,12⟩ 1 (0:Int).toNat (12:Int).toNat 12/\(∃ l42:List Value,SlcAt h_2 s39 l42/\App 5 1 1 [.int .u8 0] h_2 t3_2 s39.len l42 (fun s40 h41=>∃ x43:Int,x43=(IntKind.i64.wrap (t4_2 + 1))/\(nx2 (s40,x43) h41)))))) else (∃ v44:Slc,cellH h_2 (t1_2.add 43)=some (Slc.v v44)/\(ref28_boxes v44 (fun (r45:Slc) h46=>∃ l49:List Value,SlcAt h46 r45 l49/\App 5 1 1 [.int .u8 0] h46 t3_2 r45.len l49 (fun s47 h48=>∃ v50:ByteArray,cellH h48 (t1_2.add 44)=some (.string v50)/\(v50.size<=maxLen/\S2B 5 h48 v50 (fun s51 h52=>ref28_text s51 (fun (r53:Slc) h54=>∃ l57:List Value,SlcAt h54 r53 l57/\App 5 1 1 [.int .u8 0] h54 s47 r53.len l57 (fun s55 h56=>k s55 h56)) h52)))) h_2)))
def ref28_FormChange_l2 (t1_2:Addr) (i3:Slc) (i4:Int) (k:(Slc)->Heap->Prop) (h:Heap):Prop :=
  ∃ (I:(Slc × Int)->Heap->Prop) (μ:(Slc × Int)->Heap->Nat),I (i3,i4) h/\∀ (t3_2:Slc) (t4_2:Int) (h:Heap),I (t3_2,t4_2) h->ref28_FormChange_l2b t1_2 t3_2 t4_2 k (fun s h'=>I s h'/\μ s h' < μ (t3_2,t4_2) h) h
def ref28_FormChange_j1 (t1_1:Addr) (t3_1:Slc) (k:(Slc)->Heap->Prop) (h_1:Heap):Prop :=
  ∃ s3:Slc,(0:Int)<=0/\0<=(32:Int)/\32<=(32:Int)/\s3=subS ⟨some ((t1_1.add 3).add 1),32,32⟩ 1 (0:Int).toNat (32:Int).toNat 32/\(∃ l6:List Value,SlcAt h_1 s3 l6/\App 5 1 1 [.int .u8 0] h_1 t3_1 s3.len l6 (fun s4 h5=>∃ v7:Int,cellH h5 (t1_1.add 36)=some (.int .i64 v7)/\(∃ v8:Int,cellH h5 ((t1_1.add 36).add 1)=some (.int .u64 v8)/\(∃ v9:Int,cellH h5 ((t1_1.add 36).add 2)=some (.int .i64 v9)/\(∃ v10:Int,cellH h5 ((t1_1.add 36).add 3)=some (.int .u64 v10)/\(∃ (b11:Nat) (h12:Heap),b11=h5.size/\h12=h5.push (.cells ([.int .u64 (IntKind.u64.wrap v7),.int .u64 v8,.int .u64 (IntKind.u64.wrap v9),.int .u64 v10]).toArray 22)/\(ref28_shorts (⟨some ⟨b11,0,none⟩,4,4⟩:Slc) (fun (r13:Slc) h14=>∃ l17:List Value,SlcAt h14 r13 l17/\App 5 1 1 [.int .u8 0] h14 s4 r13.len l17 (fun s15 h16=>∃ v18:Slc,cellH h16 ((t1_1.add 36).add 4)=some (Slc.v v18)/\(ref28_entries v18 (fun (r19:Slc) h20=>∃ l23:List Value,SlcAt h20 r19 l23/\App 5 1 1 [.int .u8 0] h20 s15 r19.len l23 (fun s21 h22=>∃ v24:Slc,cellH h22 ((t1_1.add 36).add 5)=some (Slc.v v24)/\(ref28_text v24 (fun (r25:Slc) h26=>∃ l29:List Value,SlcAt h26 r25 l29/\App 5 1 1 [.int .u8 0] h26 s21 r25.len l29 (fun s27 h28=>∃ v30:Slc,cellH h28 (t1_1.add 42)=some (Slc.v v30)/\(ref01_Short (IntKind.u64.wrap (v30.len:Int)) (fun (r31:Slc) h32=>∃ l35:List Value,SlcAt h32 r31 l35/\App 5 1 1 [.int .u8 0] h32 s27 r31.len l35 (fun s33 h34=>ref28_FormChange_l2 t1_1 s33 0 k h34)) h28))) h22))) h16))) h12)))))))
def ref28_FormChange (p0:S_api_Change) (k:(Slc)->Heap->Prop) (h:Heap):Prop :=
  ∃ (b1:Nat) (h2:Heap),b1=h.size/\h2=h.push (.cells (S_api_Change.cs p0).toArray 40)/\(∃ v58:Int,cellH h2 (⟨b1,0,none⟩:Addr)=some (.int .i64 v58)/\(∃ v59:Int,cellH h2 ((⟨b1,0,none⟩:Addr).add 1)=some (.int .u64 v59)/\(∃ v60:Int,cellH h2 ((⟨b1,0,none⟩:Addr).add 2)=some (.int .i64 v60)/\(∃ v61:Int,cellH h2 ((⟨b1,0,none⟩:Addr).add 3)=some (.int .u64 v61)/\((∃ (b62:Nat) (h63:Heap),b62=h2.size/\h63=h2.push (.cells ([.int .u8 (IntKind.u8.wrap v58)]).toArray 5)/\(cellH h63 ((⟨b1,0,none⟩:Addr).add 3)=some (.int .u64 v61)/\cellH h63 ((⟨b1,0,none⟩:Addr).add 2)=some (.int .i64 v60)/\cellH h63 ((⟨b1,0,none⟩:Addr).add 1)=some (.int .u64 v59)/\(∃ (b67:Nat) (h68:Heap),b67=h63.size/\h68=h63.push (.cells ([.int .u64 v59,.int .u64 (IntKind.u64.wrap v60),.int .u64 v61]).toArray 22)/\(ref28_shorts (⟨some ⟨b67,0,none⟩,3,3⟩:Slc) (fun (r69:Slc) h70=>∃ l73:List Value,SlcAt h70 r69 l73/\App 5 1 1 [.int .u8 0] h70 (⟨some ⟨b62,0,none⟩,1,1⟩:Slc) r69.len l73 (fun s71 h72=>ref28_FormChange_j1 (⟨b1,0,none⟩:Addr) s71 k h72)) h68))))/\(∃ (b74:Nat) (h75:Heap),b74=h2.size/\h75=h2.push (.cells ([.int .u64 v59,.int .u64 (IntKind.u64.wrap v60),.int .u64 v61]).toArray 22)/\(cellH h75 (⟨b1,0,none⟩:Addr)=some (.int .i64 v58)/\((∃ (b77:Nat) (h78:Heap),b77=h75.size/\h78=h75.push (.cells ([.int .u8 (IntKind.u8.wrap v58)]).toArray 5)/\(ref28_shorts (⟨some ⟨b74,0,none⟩,3,3⟩:Slc) (fun (r79:Slc) h80=>∃ l83:List Value,SlcAt h80 r79 l83/\App 5 1 1 [.int .u8 0] h80 (⟨some ⟨b77,0,none⟩,1,1⟩:Slc) r79.len l83 (fun s81 h82=>ref28_FormChange_j1 (⟨b1,0,none⟩:Addr) s81 k h82)) h78))/\(ref28_shorts (⟨some ⟨b74,0,none⟩,3,3⟩:Slc) (fun (r84:Slc) h85=>cellH h85 (⟨b1,0,none⟩:Addr)=some (.int .i64 v58)/\(∃ (b87:Nat) (h88:Heap),b87=h85.size/\h88=h85.push (.cells ([.int .u8 (IntKind.u8.wrap v58)]).toArray 5)/\(∃ l91:List Value,SlcAt h88 r84 l91/\App 5 1 1 [.int .u8 0] h88 (⟨some ⟨b87,0,none⟩,1,1⟩:Slc) r84.len l91 (fun s89 h90=>ref28_FormChange_j1 (⟨b1,0,none⟩:Addr) s89 k h90)))) h75)))))))))
/-- quaestor quaestorref28.check -/
def ref28_check_l11b (t1_11:Addr) (t3_11:Int) (t4_11:Int) (k:(Int)->Heap->Prop) (nx10:(Int)->Heap->Prop) (nx11:(Int)->Heap->Prop) (h_11:Heap):Prop :=
  if (decide (t4_11 < t3_11)) then (∃ v11:Slc,cellH h_11 (t1_11.add 77)=some (Slc.v v11)/\(∃ a12:Addr,v11.a=some a12/\(0:Int)<=t4_11/\t4_11 < (v11.len:Int)/\(∃ v13:List Int,CellsAt h_11 ((a12.add (t4_11.toNat * 15)).add 2) (arr 12 .u8 v13)/\(∃ v14:Slc,cellH h_11 (t1_11.add 77)=some (Slc.v v14)/\(∃ a15:Addr,v14.a=some a15/\(0:Int)<=t3_11/\t3_11 < (v14.len:Int)/\(∃ v16:List Int,CellsAt h_11 ((a15.add (t3_11.toNat * 15)).add 2) (arr 12 .u8 v16)/\(if (if BinOp.eql = .eql then (nrm 12 v13 == nrm 12 v16) else !(nrm 12 v13 == nrm 12 v16)) then (k 7 h_11) else (∃ x18:Int,x18=(IntKind.i64.wrap (t4_11 + 1))/\(nx11 x18 h_11))))))))) else (∃ x19:Int,x19=(IntKind.i64.wrap (t3_11 + 1))/\(nx10 x19 h_11))
def ref28_check_l11 (t1_11:Addr) (t3_11:Int) (i4:Int) (k:(Int)->Heap->Prop) (nx10:(Int)->Heap->Prop) (h:Heap):Prop :=
  ∃ (I:Int->Heap->Prop) (μ:Int->Heap->Nat),I i4 h/\∀ (t4_11:Int) (h:Heap),I t4_11 h->ref28_check_l11b t1_11 t3_11 t4_11 k nx10 (fun s h'=>I s h'/\μ s h' < μ t4_11 h) h
def ref28_check_l10b (t1_10:Addr) (t3_10:Int) (k:(Int)->Heap->Prop) (nx10:(Int)->Heap->Prop) (h_10:Heap):Prop :=
  ∃ v5:Slc,cellH h_10 (t1_10.add 77)=some (Slc.v v5)/\(if (decide (t3_10 < (v5.len:Int))) then (∃ v6:Slc,cellH h_10 (t1_10.add 77)=some (Slc.v v6)/\(∃ a7:Addr,v6.a=some a7/\(0:Int)<=t3_10/\t3_10 < (v6.len:Int)/\(∃ v8:S_api_Box,CellsAt h_10 (a7.add (t3_10.toNat * 15)) (S_api_Box.cs v8)/\(ref16_Check v8 (fun (r9:Bool) h10=>if (!r9) then (k 1 h10) else (ref28_check_l11 t1_10 t3_10 0 k nx10 h10)) h_10)))) else (∃ v20:S_api_Mem,CellsAt h_10 t1_10 (S_api_Mem.cs v20)/\(ref28_Form v20 (fun (r21:Slc) h22=>if (decide ((r21.len:Int) > 26624)) then (k 3 h22) else (k 0 h22)) h_10)))
def ref28_check_l10 (t1_10:Addr) (i3:Int) (k:(Int)->Heap->Prop) (h:Heap):Prop :=
  ∃ (I:Int->Heap->Prop) (μ:Int->Heap->Nat),I i3 h/\∀ (t3_10:Int) (h:Heap),I t3_10 h->ref28_check_l10b t1_10 t3_10 k (fun s h'=>I s h'/\μ s h' < μ t3_10 h) h
def ref28_check_g9 (t1_9:Addr) (t66_9:Bool) (k:(Int)->Heap->Prop) (h_9:Heap):Prop :=
  if t66_9 then (k 3 h_9) else (ref28_check_l10 t1_9 0 k h_9)
def ref28_check_g8 (t1_8:Addr) (t56_8:Bool) (k:(Int)->Heap->Prop) (h_8:Heap):Prop :=
  if t56_8 then (k 1 h_8) else (∃ v4:Slc,cellH h_8 (t1_8.add 75)=some (Slc.v v4)/\(if (decide ((v4.len:Int) > 64)) then (ref28_check_g9 t1_8 true k h_8) else (∃ v23:Slc,cellH h_8 (t1_8.add 77)=some (Slc.v v23)/\(ref28_check_g9 t1_8 (decide ((v23.len:Int) > 64)) k h_8))))
def ref28_check_g7 (t1_7:Addr) (t48_7:Bool) (k:(Int)->Heap->Prop) (h_7:Heap):Prop :=
  if t48_7 then (ref28_check_g8 t1_7 true k h_7) else (∃ v24:Slc,cellH h_7 (t1_7.add 76)=some (Slc.v v24)/\(∃ v25:Int,cellH h_7 (t1_7.add 1)=some (.int .i64 v25)/\(ref28_check_g8 t1_7 ((v24.len:Int) != v25) k h_7)))
def ref28_check_g6 (t1_6:Addr) (t41_6:Bool) (k:(Int)->Heap->Prop) (h_6:Heap):Prop :=
  if t41_6 then (ref28_check_g7 t1_6 true k h_6) else (∃ v26:Int,cellH h_6 (t1_6.add 71)=some (.int .i64 v26)/\(∃ v27:Int,cellH h_6 (t1_6.add 1)=some (.int .i64 v27)/\(ref28_check_g7 t1_6 (decide (v26 > v27)) k h_6)))
def ref28_check_g5 (t1_5:Addr) (t36_5:Bool) (k:(Int)->Heap->Prop) (h_5:Heap):Prop :=
  if t36_5 then (ref28_check_g6 t1_5 true k h_5) else (∃ v28:Int,cellH h_5 (t1_5.add 71)=some (.int .i64 v28)/\(ref28_check_g6 t1_5 (decide (v28 < 0)) k h_5))
def ref28_check_g4 (t1_4:Addr) (t29_4:Bool) (k:(Int)->Heap->Prop) (h_4:Heap):Prop :=
  if t29_4 then (ref28_check_g5 t1_4 true k h_4) else (∃ v29:Int,cellH h_4 (t1_4.add 2)=some (.int .i64 v29)/\(∃ v30:Int,cellH h_4 (t1_4.add 1)=some (.int .i64 v30)/\(ref28_check_g5 t1_4 (decide (v29 > v30)) k h_4)))
def ref28_check_g3 (t1_3:Addr) (t24_3:Bool) (k:(Int)->Heap->Prop) (h_3:Heap):Prop :=
  if t24_3 then (ref28_check_g4 t1_3 true k h_3) else (∃ v31:Int,cellH h_3 (t1_3.add 2)=some (.int .i64 v31)/\(ref28_check_g4 t1_3 (decide (v31 < 1)) k h_3))
def ref28_check_g2 (t1_2:Addr) (t17_2:Bool) (k:(Int)->Heap->Prop) (h_2:Heap):Prop :=
  if t17_2 then (ref28_check_g3 t1_2 true k h_2) else (∃ v32:Int,cellH h_2 t1_2=some (.int .i64 v32)/\(∃ v33:Int,cellH h_2 (t1_2.add 1)=some (.int .i64 v33)/\(ref28_check_g3 t1_2 (decide (v32>=v33)) k h_2)))
def ref28_check_g1 (t1_1:Addr) (t12_1:Bool) (k:(Int)->Heap->Prop) (h_1:Heap):Prop :=
  if t12_1 then (ref28_check_g2 t1_1 true k h_1) else (∃ v34:Int,cellH h_1 t1_1=some (.int .i64 v34)/\(ref28_check_g2 t1_1 (decide (v34 < 0)) k h_1))
def ref28_check (p0:S_api_Mem) (k:(Int)->Heap->Prop) (h:Heap):Prop :=
  ∃ (b1:Nat) (h2:Heap),b1=h.size/\h2=h.push (.cells (S_api_Mem.cs p0).toArray 33)/\(∃ v3:Int,cellH h2 ((⟨b1,0,none⟩:Addr).add 1)=some (.int .i64 v3)/\(if (decide (v3 < 1)) then (ref28_check_g1 (⟨b1,0,none⟩:Addr) true k h2) else (∃ v35:Int,cellH h2 ((⟨b1,0,none⟩:Addr).add 1)=some (.int .i64 v35)/\(ref28_check_g1 (⟨b1,0,none⟩:Addr) (decide (v35 > 32)) k h2))))
/-- quaestor quaestorref28.Check -/
def ref28_Check (p0:S_api_Mem) (k:(Int)->Heap->Prop) (h:Heap):Prop :=
  ∃ (b1:Nat) (h2:Heap),b1=h.size/\h2=h.push (.cells (S_api_Mem.cs p0).toArray 33)/\(∃ v3:S_api_Mem,CellsAt h2 (⟨b1,0,none⟩:Addr) (S_api_Mem.cs v3)/\(ref28_check v3 (fun (r4:Int) h5=>if (r4 == 7) then (k 1 h5) else (k r4 h5)) h2))
/-- quaestor quaestorref28.Same -/
def ref28_Same (p0:S_api_Mem) (p1:S_api_Mem) (k:(Bool)->Heap->Prop) (h:Heap):Prop :=
  ∃ (b1:Nat) (h2:Heap),b1=h.size/\h2=h.push (.cells (S_api_Mem.cs p0).toArray 33)/\(∃ (b3:Nat) (h4:Heap),b3=h2.size/\h4=h2.push (.cells (S_api_Mem.cs p1).toArray 33)/\(∃ v5:S_api_Mem,CellsAt h4 (⟨b1,0,none⟩:Addr) (S_api_Mem.cs v5)/\(∃ v6:S_api_Mem,CellsAt h4 (⟨b3,0,none⟩:Addr) (S_api_Mem.cs v6)/\(ref28_Form v5 (fun (r7:Slc) h8=>CellsAt h8 (⟨b3,0,none⟩:Addr) (S_api_Mem.cs v6)/\(ref28_Form v6 (fun (r10:Slc) h11=>ref01_Same r7 r10 (fun (r12:Bool) h13=>k r12 h13) h11) h8)) h4))))
/-- quaestor quaestorref28.Great -/
def ref28_Great_g5 (t1_5:Addr) (t3_5:Int) (t49_5:Bool) (k:(Bool)->Heap->Prop) (nx4:(Int)->Heap->Prop) (h_5:Heap):Prop :=
  if t49_5 then (k true h_5) else (∃ x10:Int,x10=(IntKind.i64.wrap (t3_5 + 1))/\(nx4 x10 h_5))
def ref28_Great_l4b (t1_4:Addr) (t3_4:Int) (k:(Bool)->Heap->Prop) (nx4:(Int)->Heap->Prop) (h_4:Heap):Prop :=
  ∃ v6:Slc,cellH h_4 (t1_4.add 77)=some (Slc.v v6)/\(if (decide (t3_4 < (v6.len:Int))) then (∃ v7:Slc,cellH h_4 (t1_4.add 77)=some (Slc.v v7)/\(∃ a8:Addr,v7.a=some a8/\(0:Int)<=t3_4/\t3_4 < (v7.len:Int)/\(∃ v9:Slc,cellH h_4 ((a8.add (t3_4.toNat * 15)).add 14)=some (Slc.v v9)/\(if (decide ((v9.len:Int) > 4200)) then (ref28_Great_g5 t1_4 t3_4 true k nx4 h_4) else (∃ v11:Slc,cellH h_4 (t1_4.add 77)=some (Slc.v v11)/\(∃ a12:Addr,v11.a=some a12/\(0:Int)<=t3_4/\t3_4 < (v11.len:Int)/\(∃ v13:ByteArray,cellH h_4 (a12.add (t3_4.toNat * 15))=some (.string v13)/\(ref28_Great_g5 t1_4 t3_4 (decide ((v13.size:Int) > 100)) k nx4 h_4)))))))) else (k false h_4))
def ref28_Great_l4 (t1_4:Addr) (i3:Int) (k:(Bool)->Heap->Prop) (h:Heap):Prop :=
  ∃ (I:Int->Heap->Prop) (μ:Int->Heap->Nat),I i3 h/\∀ (t3_4:Int) (h:Heap),I t3_4 h->ref28_Great_l4b t1_4 t3_4 k (fun s h'=>I s h'/\μ s h' < μ t3_4 h) h
def ref28_Great_g3 (t1_3:Addr) (t24_3:Bool) (k:(Bool)->Heap->Prop) (h_3:Heap):Prop :=
  if t24_3 then (k true h_3) else (ref28_Great_l4 t1_3 0 k h_3)
def ref28_Great_g2 (t1_2:Addr) (t18_2:Bool) (k:(Bool)->Heap->Prop) (h_2:Heap):Prop :=
  if t18_2 then (ref28_Great_g3 t1_2 true k h_2) else (∃ v14:Slc,cellH h_2 (t1_2.add 77)=some (Slc.v v14)/\(ref28_Great_g3 t1_2 (decide ((v14.len:Int) > 70)) k h_2))
def ref28_Great_g1 (t1_1:Addr) (t12_1:Bool) (k:(Bool)->Heap->Prop) (h_1:Heap):Prop :=
  if t12_1 then (ref28_Great_g2 t1_1 true k h_1) else (∃ v15:Slc,cellH h_1 (t1_1.add 76)=some (Slc.v v15)/\(ref28_Great_g2 t1_1 (decide ((v15.len:Int) > 40)) k h_1))
def ref28_Great (p0:S_api_Mem) (k:(Bool)->Heap->Prop) (h:Heap):Prop :=
  ∃ (b1:Nat) (h2:Heap),b1=h.size/\h2=h.push (.cells (S_api_Mem.cs p0).toArray 33)/\(∃ v3:Slc,cellH h2 ((⟨b1,0,none⟩:Addr).add 75)=some (Slc.v v3)/\(ref23_Great v3 (fun (r4:Bool) h5=>if r4 then (ref28_Great_g1 (⟨b1,0,none⟩:Addr) true k h5) else (∃ v16:Slc,cellH h5 ((⟨b1,0,none⟩:Addr).add 74)=some (Slc.v v16)/\(ref28_Great_g1 (⟨b1,0,none⟩:Addr) (decide ((v16.len:Int) > 1500)) k h5))) h2))
/-- quaestor quaestorref28.GreatChange -/
def ref28_GreatChange_g4 (t31_4:Bool) (k:(Bool)->Heap->Prop) (h_4:Heap):Prop :=
  k t31_4 h_4
def ref28_GreatChange_g3 (t1_3:Addr) (t25_3:Bool) (k:(Bool)->Heap->Prop) (h_3:Heap):Prop :=
  if t25_3 then (ref28_GreatChange_g4 true k h_3) else (∃ v6:Slc,cellH h_3 (t1_3.add 43)=some (Slc.v v6)/\(ref28_Great (⟨0,0,0,0,0,(⟨0,([]:List Int)⟩:S_api_Share),([]:List Int),0,0,0,0,(⟨none,0,0⟩:Slc),(⟨none,0,0⟩:Slc),(⟨none,0,0⟩:Slc),v6,0⟩:S_api_Mem) (fun (r7:Bool) h8=>ref28_GreatChange_g4 r7 k h8) h_3))
def ref28_GreatChange_g2 (t1_2:Addr) (t19_2:Bool) (k:(Bool)->Heap->Prop) (h_2:Heap):Prop :=
  if t19_2 then (ref28_GreatChange_g3 t1_2 true k h_2) else (∃ v9:ByteArray,cellH h_2 (t1_2.add 44)=some (.string v9)/\(ref28_GreatChange_g3 t1_2 (decide ((v9.size:Int) > 100)) k h_2))
def ref28_GreatChange_g1 (t1_1:Addr) (t13_1:Bool) (k:(Bool)->Heap->Prop) (h_1:Heap):Prop :=
  if t13_1 then (ref28_GreatChange_g2 t1_1 true k h_1) else (∃ v10:Slc,cellH h_1 (t1_1.add 42)=some (Slc.v v10)/\(ref28_GreatChange_g2 t1_1 (decide ((v10.len:Int) > 80)) k h_1))
def ref28_GreatChange (p0:S_api_Change) (k:(Bool)->Heap->Prop) (h:Heap):Prop :=
  ∃ (b1:Nat) (h2:Heap),b1=h.size/\h2=h.push (.cells (S_api_Change.cs p0).toArray 40)/\(∃ v3:Slc,cellH h2 (((⟨b1,0,none⟩:Addr).add 36).add 4)=some (Slc.v v3)/\(ref23_Great v3 (fun (r4:Bool) h5=>if r4 then (ref28_GreatChange_g1 (⟨b1,0,none⟩:Addr) true k h5) else (∃ v11:Slc,cellH h5 (((⟨b1,0,none⟩:Addr).add 36).add 5)=some (Slc.v v11)/\(ref28_GreatChange_g1 (⟨b1,0,none⟩:Addr) (decide ((v11.len:Int) > 1500)) k h5))) h2))
theorem O42:CallOk prog 42:=ck func42
theorem R42 (p0 k h) (H:ref01_Short p0 k h):CallsH prog 42 #[.int .u64 p0] h (fun v h'=>∃ r:Slc,v=Slc.v r/\k r h'):=by
 refine fE func42 fun w0=>?_
 refine zF [0] (zQ ?_)
 refine w1 tok (zE (zQ ?_))
 refine w1 tok (zE (zS (zB ?_)))
 obtain ⟨I1,μ1,H0,HI⟩:=H
 refine zO (σ:=Int × Slc) [] (fun (s:Int × Slc)=>[(0,.int .u64 s.1),(3,Slc.v s.2)]) I1 μ1 (p0,(⟨none,0,0⟩:Slc)) H0 ?_
 rintro ⟨t0_1,t3_1⟩ h_1 H
 replace H:=HI t0_1 t3_1 h_1 H
 refine zF [0,3] (zS (zQ ?_))
 refine w2 tok (zE ?_)
 refine zI H ?_ ?_ <;> intro H
 refine zK (zX (zB (zQ (w5 tok ?_))))
 obtain ⟨b1,h2,eb1,eh2,H⟩:=H
 refine wH (h_bs tok rfl rfl rfl rfl rfl rfl rfl eb1 eh2) ?_
 refine wA (a_app (s:=t3_1) (r:=(⟨some ⟨b1,0,none⟩,1,1⟩:Slc)) tok rfl rfl rfl rfl rfl (slcAt_push eb1 eh2) H) ?_
 rintro _ h4 ⟨s3,rfl,H⟩
 refine w1 tok (zE (zF [0,3] (zR ?_)))
 refine w2 tok ?_
 obtain ⟨x5,ex5,H⟩:=H
 refine w_pe tok rfl (congrArg (fun z=>(.int .u64 z:Value)) ex5) rfl rfl ?_
 refine zL ?_
 exact xJ (x5,s3) H
 refine zY (yE (yE (yH (zX (zQ (w3 tok ?_))))))
 obtain ⟨b6,h7,eb6,eh7,H⟩:=H
 refine wH (h_bs tok rfl rfl rfl rfl rfl rfl rfl eb6 eh7) ?_
 refine wA (a_app (s:=t3_1) (r:=(⟨some ⟨b6,0,none⟩,1,1⟩:Slc)) tok rfl rfl rfl rfl rfl (slcAt_push eb6 eh7) H) ?_
 rintro _ h9 ⟨s8,rfl,H⟩
 refine w1 tok (zE (zF [2] (zT ?_)))
 exact x_ret _ rfl _ rfl ⟨s8,rfl,H⟩
theorem O101:CallOk prog 101:=ck func101
theorem R101 (p0 p1 k h) (H:ref01_Form p0 p1 k h):CallsH prog 101 #[.int .u64 p0,.int .i64 p1] h (fun v h'=>∃ r:Slc,v=Slc.v r/\k r h'):=by
 refine fE func101 fun w0=>?_
 refine zF [0,1] (zQ ?_)
 refine w1 tok (zE (zQ ?_))
 refine w1 tok (zE (zS (zQ ?_)))
 refine w1 tok (zE (zB ?_))
 obtain ⟨I1,μ1,H0,HI⟩:=H
 refine zO (σ:=Int × Slc × Int) [1] (fun (s:Int × Slc × Int)=>[(0,.int .u64 s.1),(5,Slc.v s.2.1),(6,.int .i64 s.2.2)]) I1 μ1 (p0,(⟨none,0,0⟩:Slc),0) H0 ?_
 rintro ⟨t0_1,t5_1,t6_1⟩ h_1 H
 replace H:=HI t0_1 t5_1 t6_1 h_1 H
 refine zF [0,5,6,1] (zS (zQ ?_))
 refine w3 tok (zE ?_)
 refine zI H ?_ ?_ <;> intro H
 refine zK (zX (zS (zB (zQ (w4 tok ?_)))))
 obtain ⟨b1,h2,eb1,eh2,H⟩:=H
 refine wH (h_bs tok rfl rfl rfl rfl rfl rfl rfl eb1 eh2) ?_
 refine wA (a_app (s:=t5_1) (r:=(⟨some ⟨b1,0,none⟩,1,1⟩:Slc)) tok rfl rfl rfl rfl rfl (slcAt_push eb1 eh2) H) ?_
 rintro _ h4 ⟨s3,rfl,H⟩
 refine w1 tok (zE (zF [0,5,6,1] (zR ?_)))
 refine w2 tok ?_
 obtain ⟨x5,ex5,H⟩:=H
 refine w_pe tok rfl (congrArg (fun z=>(.int .u64 z:Value)) ex5) rfl rfl ?_
 refine zL (zX (zR (w2 tok ?_)))
 obtain ⟨x6,ex6,H⟩:=H
 refine w_pe tok rfl (congrArg (fun z=>(.int .i64 z:Value)) ex6) rfl rfl ?_
 refine zW ?_
 exact xJ (x5,s3,x6) H
 refine zY (yE (yE (yH (zX (zQ (w2 tok (zE (zF [4] (zT ?_)))))))))
 exact x_ret _ rfl _ rfl ⟨t5_1,rfl,H⟩
theorem O29:CallOk prog 29:=ck func29
theorem R29 (p0 k h) (H:ref23_Great p0 k h):CallsH prog 29 #[Slc.v p0] h (fun v h'=>∃ r:Bool,v = .bool r/\k r h'):=by
 refine fE func29 fun w0=>?_
 refine zF [0] (zQ ?_)
 refine w1 tok (zE (zS (zQ ?_)))
 refine w1 tok (zE (zB ?_))
 obtain ⟨I1,μ1,H0,HI⟩:=H
 refine zO (σ:=Int) [0] (fun (s:Int)=>[(3,.int .i64 s)]) I1 μ1 0 H0 ?_
 rintro t3_1 h_1 H
 replace H:=HI t3_1 h_1 H
 refine zF [3,0] (zS (zQ ?_))
 refine w5 tok ?_
 refine vU 3 [0,3] [(11,.bool ((decide (t3_1 < (p0.len:Int))) && (decide (t3_1 < 100))))] ?_ ?_
 refine zE ?_
 refine zI H ?_ ?_ <;> intro H
 refine zK (zX (zS (zB (zQ (w2 tok ?_)))))
 refine wD tok H fun a1 _ H=>?_
 refine w1 tok ?_
 refine wL tok H fun v2 H=>?_
 refine w2 tok (zE (zF [0,3,20] ?_))
 refine zI H ?_ ?_ <;> intro H
 refine zQ (w1 tok (zE (zT (yB (yT (yT (yB (yT ?_))))))))
 exact x_ret _ rfl _ rfl ⟨true,rfl,H⟩
 refine zK (yL (zX (zR (w2 tok ?_))))
 obtain ⟨x3,ex3,H⟩:=H
 refine w_pe tok rfl (congrArg (fun z=>(.int .i64 z:Value)) ex3) rfl rfl ?_
 refine zW ?_
 exact xJ x3 H
 refine zY (yE (yE (yH (zX (zQ (w4 tok (zE (zT ?_))))))))
 exact x_ret _ rfl _ rfl ⟨(decide ((p0.len:Int) > 100)),rfl,H⟩
 refine vG (d:=8) (fun hb=>?_) (fun hb=>?_)
 refine w3 tok ?_
 refine vK ?_
 exact congrArg (fun b=>some (Value.bool b)) (and_t hb)
 refine wS (wS (w1 tok ?_))
 refine vK ?_
 exact congrArg (fun b=>some (Value.bool b)) (and_f hb)
theorem O100:CallOk prog 100:=ck func100
theorem R100 (p0 k h) (H:ref16_Name p0 k h):CallsH prog 100 #[.string p0] h (fun v h'=>∃ r:Bool,v = .bool r/\k r h'):=by
 refine fE func100 fun w0=>?_
 refine zF [0] (zQ ?_)
 refine w1 tok (zE (zS (zQ ?_)))
 refine w1 tok (zE (zB ?_))
 obtain ⟨I1,μ1,H0,HI⟩:=H
 refine zO (σ:=Int) [0] (fun (s:Int)=>[(3,.int .i64 s)]) I1 μ1 0 H0 ?_
 rintro t3_1 h_1 H
 replace H:=HI t3_1 h_1 H
 refine zF [3,0] (zS (zQ ?_))
 refine w4 tok (zE ?_)
 refine zI H ?_ ?_ <;> intro H
 refine zK (zX (zS (zB (zQ (w2 tok ?_)))))
 obtain ⟨v1,lv1,hv1,H⟩:=H
 refine wY (y_ixs' tok rfl rfl rfl rfl lv1 hv1) ?_
 refine w1 tok (zE (zF [3,0,4] (zQ ?_)))
 refine w3 tok ?_
 refine vU 3 [0,3,4] [(19,.bool ((decide (v1>=97)) && (decide (v1<=122))))] ?_ ?_
 refine w2 tok ?_
 refine vU 8 [0,3,4] [(29,.bool ((!((decide (v1>=97)) && (decide (v1<=122)))) && (!((decide (v1>=48)) && (decide (v1<=57))))))] ?_ ?_
 refine w1 tok ?_
 refine vU 3 [0,3] [(33,.bool (((!((decide (v1>=97)) && (decide (v1<=122)))) && (!((decide (v1>=48)) && (decide (v1<=57))))) && (v1 != 45)))] ?_ ?_
 refine zE ?_
 refine zI H ?_ ?_ <;> intro H
 refine zQ (w1 tok (zE (zT (yB (yT (yT (yB (yT ?_))))))))
 exact x_ret _ rfl _ rfl ⟨false,rfl,H⟩
 refine zK (yL (zX (zR (w2 tok ?_))))
 obtain ⟨x2,ex2,H⟩:=H
 refine w_pe tok rfl (congrArg (fun z=>(.int .i64 z:Value)) ex2) rfl rfl ?_
 refine zW ?_
 exact xJ x2 H
 refine vG (d:=30) (fun hb=>?_) (fun hb=>?_)
 refine w3 tok ?_
 refine vK ?_
 exact congrArg (fun b=>some (Value.bool b)) (and_t hb)
 refine wS (wS (w1 tok ?_))
 refine vK ?_
 exact congrArg (fun b=>some (Value.bool b)) (and_f hb)
 refine vG (d:=21) (fun hb=>?_) (fun hb=>?_)
 refine w3 tok ?_
 refine vU 3 [0,3,4,21] [(27,.bool ((decide (v1>=48)) && (decide (v1<=57))))] ?_ ?_
 refine w2 tok ?_
 refine vK ?_
 exact congrArg (fun b=>some (Value.bool b)) (and_t hb)
 refine vG (d:=24) (fun hb=>?_) (fun hb=>?_)
 refine w3 tok ?_
 refine vK ?_
 exact congrArg (fun b=>some (Value.bool b)) (and_t hb)
 refine wS (wS (w1 tok ?_))
 refine vK ?_
 exact congrArg (fun b=>some (Value.bool b)) (and_f hb)
 refine wS (wS (wS (wS (wS (wS (wS (w1 tok ?_)))))))
 refine vK ?_
 exact congrArg (fun b=>some (Value.bool b)) (and_f hb)
 refine vG (d:=16) (fun hb=>?_) (fun hb=>?_)
 refine w3 tok ?_
 refine vK ?_
 exact congrArg (fun b=>some (Value.bool b)) (and_t hb)
 refine wS (wS (w1 tok ?_))
 refine vK ?_
 exact congrArg (fun b=>some (Value.bool b)) (and_f hb)
 refine zY (yE (yE (yH (zX (zQ (w4 tok ?_))))))
 refine vU 4 [] [(41,.bool ((decide ((p0.size:Int)>=1)) && (decide ((p0.size:Int)<=24))))] ?_ ?_
 refine w1 tok (zE (zT ?_))
 exact x_ret _ rfl _ rfl ⟨((decide ((p0.size:Int)>=1)) && (decide ((p0.size:Int)<=24))),rfl,H⟩
 refine vG (d:=37) (fun hb=>?_) (fun hb=>?_)
 refine w4 tok ?_
 refine vK ?_
 exact congrArg (fun b=>some (Value.bool b)) (and_t hb)
 refine wS (wS (wS (w1 tok ?_)))
 refine vK ?_
 exact congrArg (fun b=>some (Value.bool b)) (and_f hb)
theorem O68:CallOk prog 68:=ck func68
theorem R68 (p0 k h) (H:ref16_Check p0 k h):CallsH prog 68 #[.agg (S_api_Box.cs p0).toArray] h (fun v h'=>∃ r:Bool,v = .bool r/\k r h'):=by
 refine fE func68 fun w0=>?_
 refine zF [0] (zQ ?_)
 refine wX H fun b1 h2 H=>?_
 refine w1 tok (zE (zQ ?_))
 refine w1 tok ?_
 refine wL tok H fun v3 H=>?_
 refine wC O100 (R100 _ _ _ H) fun r4 h5 H=>?_
 refine w1 tok ?_
 refine vJ 5 (α:=Bool) [1] (fun (s:Bool)=>[(11,.bool s)]) (fun (s:Bool) h=>ref16_Check_g1 (ad b1) s k h) ?_ ?_
 rintro t11_1 h_1 H
 refine vF [11,1] ?_
 refine w1 tok ?_
 refine vJ 5 (α:=Bool) [] (fun (s:Bool)=>[(17,.bool s)]) (fun (s:Bool) h=>ref16_Check_g2 s k h) ?_ ?_
 rintro t17_2 h_2 H
 refine vF [17] ?_
 refine w1 tok (zE (zT ?_))
 exact x_ret _ rfl _ rfl ⟨t17_2,rfl,H⟩
 refine vI 12 H ?_ ?_ <;> intro H
 refine w1 tok ?_
 refine wL tok H fun v6 H=>?_
 refine w3 tok ?_
 exact wJ (decide ((v6.len:Int)<=4112)) H
 refine wS (wS (wS (wS (w1 tok ?_))))
 exact wJ false H
 refine vI 6 H ?_ ?_ <;> intro H
 refine w1 tok ?_
 refine wL tok H fun v7 H=>?_
 refine w3 tok ?_
 exact wJ (decide ((v7.len:Int)>=16)) H
 refine wS (wS (wS (wS (w1 tok ?_))))
 exact wJ false H
theorem O69:CallOk prog 69:=ck func69
theorem R69 (p0 k h) (H:ref16_Form p0 k h):CallsH prog 69 #[.agg (S_api_Box.cs p0).toArray] h (fun v h'=>∃ r:Slc,v=Slc.v r/\k r h'):=by
 refine fE func69 fun w0=>?_
 refine zF [0] (zQ ?_)
 refine wX H fun b1 h2 H=>?_
 refine w1 tok (zE (zS ?_))
 refine gB [1] ?_
 refine gT 0 [1] tok ?_
 obtain ⟨v3,hv3,H⟩:=H
 refine gL 1 [4] rfl (y_ld tok rfl rfl rfl rfl hv3) ?_
 refine gT 2 [5] tok ?_
 refine gT 3 [6] tok ?_
 refine gT 5 [1] tok ?_
 obtain ⟨v4,hv4,H⟩:=H
 refine gL 6 [9] rfl (y_ld tok rfl rfl rfl rfl hv4) ?_
 refine gCr 4 [7] O42 (R42 _ _ _ H) fun r5 h6 H=>?_
 obtain ⟨hy7,H⟩:=H
 refine gR rfl (y_ld tok rfl rfl rfl rfl hy7) ?_
 refine gZ0 ?_
 refine gA 7 [8,10] rfl (a_apps (s:=r5) (str:=v4) tok rfl rfl rfl rfl rfl rfl H) ?_
 rintro _ h9 ⟨s8,rfl,H⟩
 refine gT 8 [11] tok ?_
 refine gZ ?_
 refine zX (zF [1,3] (zQ ?_))
 refine w2 tok ?_
 refine wL tok H fun v10 H=>?_
 refine w1 tok ?_
 refine wC O101 (R101 _ _ _ _ H) fun r11 h12 H=>?_
 obtain ⟨l15,hl15,H⟩:=H
 refine wA (a_app (s:=s8) (r:=r11) tok rfl rfl rfl rfl rfl hl15 H) ?_
 rintro _ h14 ⟨s13,rfl,H⟩
 refine w1 tok (zE (zQ ?_))
 refine w2 tok ?_
 obtain ⟨s16,ps16,qs16,rs16,es16,H⟩:=H
 refine wYe (y_sla (L:=0) (H:=12) tok rfl rfl rfl rfl rfl rfl ps16 qs16 rs16) (congrArg Slc.v es16) ?_
 obtain ⟨l19,hl19,H⟩:=H
 refine wA (a_app (s:=s13) (r:=s16) tok rfl rfl rfl rfl rfl hl19 H) ?_
 rintro _ h18 ⟨s17,rfl,H⟩
 refine w1 tok (zE (zF [1,3] (zQ ?_)))
 refine w2 tok ?_
 refine wL tok H fun v20 H=>?_
 refine w2 tok ?_
 refine wC O42 (R42 _ _ _ H) fun r21 h22 H=>?_
 obtain ⟨l25,hl25,H⟩:=H
 refine wA (a_app (s:=s17) (r:=r21) tok rfl rfl rfl rfl rfl hl25 H) ?_
 rintro _ h24 ⟨s23,rfl,H⟩
 refine w1 tok (zE (zF [1,3] (zQ ?_)))
 refine w2 tok ?_
 refine wL tok H fun v26 H=>?_
 obtain ⟨l29,hl29,H⟩:=H
 refine wA (a_app (s:=s23) (r:=v26) tok rfl rfl rfl rfl rfl hl29 H) ?_
 rintro _ h28 ⟨s27,rfl,H⟩
 refine w1 tok (zE (zT ?_))
 exact x_ret _ rfl _ rfl ⟨s27,rfl,H⟩
theorem O40:CallOk prog 40:=ck func40
theorem R40 (p0 k h) (H:ref28_text p0 k h):CallsH prog 40 #[Slc.v p0] h (fun v h'=>∃ r:Slc,v=Slc.v r/\k r h'):=by
 refine fE func40 fun w0=>?_
 refine zF [0] (zQ ?_)
 refine w1 tok (zE (zQ ?_))
 refine w3 tok ?_
 refine wC O42 (R42 _ _ _ H) fun r1 h2 H=>?_
 refine w1 tok ?_
 obtain ⟨l5,hl5,H⟩:=H
 refine wA (a_app (s:=r1) (r:=p0) tok rfl rfl rfl rfl rfl hl5 H) ?_
 rintro _ h4 ⟨s3,rfl,H⟩
 refine w1 tok (zE (zF [2] (zT ?_)))
 exact x_ret _ rfl _ rfl ⟨s3,rfl,H⟩
theorem O41:CallOk prog 41:=ck func41
theorem R41 (p0 k h) (H:ref28_entries p0 k h):CallsH prog 41 #[Slc.v p0] h (fun v h'=>∃ r:Slc,v=Slc.v r/\k r h'):=by
 refine fE func41 fun w0=>?_
 refine zF [0] (zQ ?_)
 refine w1 tok (zE (zQ ?_))
 refine w3 tok ?_
 refine wC O42 (R42 _ _ _ H) fun r1 h2 H=>?_
 refine w1 tok (zE (zS (zQ ?_)))
 refine w1 tok (zE (zB ?_))
 obtain ⟨I1,μ1,H0,HI⟩:=H
 refine zO (σ:=Slc × Int) [0] (fun (s:Slc × Int)=>[(3,Slc.v s.1),(4,.int .i64 s.2)]) I1 μ1 (r1,0) H0 ?_
 rintro ⟨t3_1,t4_1⟩ h_1 H
 replace H:=HI t3_1 t4_1 h_1 H
 refine zF [3,4,0] (zS (zQ ?_))
 refine w4 tok (zE ?_)
 refine zI H ?_ ?_ <;> intro H
 refine zK (zX (zS (zB (zQ (w3 tok ?_)))))
 refine wD tok H fun a3 _ H=>?_
 refine w1 tok ?_
 refine wL tok H fun v4 H=>?_
 refine wC O42 (R42 _ _ _ H) fun r5 h6 H=>?_
 obtain ⟨l9,hl9,H⟩:=H
 refine wA (a_app (s:=t3_1) (r:=r5) tok rfl rfl rfl rfl rfl hl9 H) ?_
 rintro _ h8 ⟨s7,rfl,H⟩
 refine w1 tok (zE (zF [3,4,0] (zR ?_)))
 refine w3 tok ?_
 refine wD tok H fun a10 _ H=>?_
 refine w1 tok ?_
 refine wL tok H fun v11 H=>?_
 refine wC O40 (R40 _ _ _ H) fun r12 h13 H=>?_
 obtain ⟨l16,hl16,H⟩:=H
 refine wA (a_app (s:=s7) (r:=r12) tok rfl rfl rfl rfl rfl hl16 H) ?_
 rintro _ h15 ⟨s14,rfl,H⟩
 refine w1 tok (zL (zX (zF [3,4,0] (zR ?_))))
 refine w2 tok ?_
 obtain ⟨x17,ex17,H⟩:=H
 refine w_pe tok rfl (congrArg (fun z=>(.int .i64 z:Value)) ex17) rfl rfl ?_
 refine zW ?_
 exact xJ (s14,x17) H
 refine zY (yE (yE (yH (zX (zQ (w2 tok (zE (zF [2] (zT ?_)))))))))
 exact x_ret _ rfl _ rfl ⟨t3_1,rfl,H⟩
theorem O43:CallOk prog 43:=ck func43
theorem R43 (p0 k h) (H:ref28_boxes p0 k h):CallsH prog 43 #[Slc.v p0] h (fun v h'=>∃ r:Slc,v=Slc.v r/\k r h'):=by
 refine fE func43 fun w0=>?_
 refine zF [0] (zQ ?_)
 refine w1 tok (zE (zQ ?_))
 refine w3 tok ?_
 refine wC O42 (R42 _ _ _ H) fun r1 h2 H=>?_
 refine w1 tok (zE (zS (zQ ?_)))
 refine w1 tok (zE (zB ?_))
 obtain ⟨I1,μ1,H0,HI⟩:=H
 refine zO (σ:=Slc × Int) [0] (fun (s:Slc × Int)=>[(3,Slc.v s.1),(4,.int .i64 s.2)]) I1 μ1 (r1,0) H0 ?_
 rintro ⟨t3_1,t4_1⟩ h_1 H
 replace H:=HI t3_1 t4_1 h_1 H
 refine zF [3,4,0] (zS (zQ ?_))
 refine w4 tok (zE ?_)
 refine zI H ?_ ?_ <;> intro H
 refine zK (zX ?_)
 refine zJ (α:=Slc) [0,4] (fun (s:Slc)=>[(3,Slc.v s)]) (fun (s:Slc) h=>ref28_boxes_j2 p0 t4_1 s k (fun s h'=>I1 s h'/\μ1 s h' < μ1 (t3_1,t4_1) h_1) h) ?_ ?_
 rintro t3_2 h_2 H
 refine zF [3,0,4] (zR ?_)
 refine w2 tok ?_
 obtain ⟨x3,ex3,H⟩:=H
 refine w_pe tok rfl (congrArg (fun z=>(.int .i64 z:Value)) ex3) rfl rfl ?_
 refine zW ?_
 exact xJ (t3_2,x3) H
 refine zB (zQ (w2 tok ?_))
 refine wD tok H fun a4 _ H=>?_
 refine wLa tok H fun v5 H=>?_
 refine wC O68 (R68 _ _ _ H) fun r6 h7 H=>?_
 refine zE (zF [3,4,0,19] ?_)
 refine zI H ?_ ?_ <;> intro H
 refine zR (w3 tok ?_)
 refine wD tok H fun a8 _ H=>?_
 refine wLa tok H fun v9 H=>?_
 refine wC O69 (R69 _ _ _ H) fun r10 h11 H=>?_
 obtain ⟨l14,hl14,H⟩:=H
 refine wA (a_app (s:=t3_1) (r:=r10) tok rfl rfl rfl rfl rfl hl14 H) ?_
 rintro _ h13 ⟨s12,rfl,H⟩
 refine w1 tok (zL ?_)
 exact xJ s12 H
 refine zK (yL ?_)
 exact xJ t3_1 H
 refine zY (yE (yE (yH (zX (zQ (w2 tok (zE (zF [2] (zT ?_)))))))))
 exact x_ret _ rfl _ rfl ⟨t3_1,rfl,H⟩
theorem O39:CallOk prog 39:=ck func39
theorem R39 (p0 k h) (H:ref28_shorts p0 k h):CallsH prog 39 #[Slc.v p0] h (fun v h'=>∃ r:Slc,v=Slc.v r/\k r h'):=by
 refine fE func39 fun w0=>?_
 refine zF [0] (zQ ?_)
 refine w1 tok (zE (zQ ?_))
 refine w1 tok (zE (zS (zQ ?_)))
 refine w1 tok (zE (zB ?_))
 obtain ⟨I1,μ1,H0,HI⟩:=H
 refine zO (σ:=Slc × Int) [0] (fun (s:Slc × Int)=>[(3,Slc.v s.1),(4,.int .i64 s.2)]) I1 μ1 ((⟨none,0,0⟩:Slc),0) H0 ?_
 rintro ⟨t3_1,t4_1⟩ h_1 H
 replace H:=HI t3_1 t4_1 h_1 H
 refine zF [3,4,0] (zS (zQ ?_))
 refine w4 tok (zE ?_)
 refine zI H ?_ ?_ <;> intro H
 refine zK (zX (zS (zB (zR (w3 tok ?_)))))
 refine wD tok H fun a1 _ H=>?_
 refine wL tok H fun v2 H=>?_
 refine wC O42 (R42 _ _ _ H) fun r3 h4 H=>?_
 obtain ⟨l7,hl7,H⟩:=H
 refine wA (a_app (s:=t3_1) (r:=r3) tok rfl rfl rfl rfl rfl hl7 H) ?_
 rintro _ h6 ⟨s5,rfl,H⟩
 refine w1 tok (zL (zX (zF [3,4,0] (zR ?_))))
 refine w2 tok ?_
 obtain ⟨x8,ex8,H⟩:=H
 refine w_pe tok rfl (congrArg (fun z=>(.int .i64 z:Value)) ex8) rfl rfl ?_
 refine zW ?_
 exact xJ (s5,x8) H
 refine zY (yE (yE (yH (zX (zQ (w2 tok (zE (zF [2] (zT ?_)))))))))
 exact x_ret _ rfl _ rfl ⟨t3_1,rfl,H⟩
theorem O13:CallOk prog 13:=ck func13
theorem R13 (p0 k h) (H:ref28_Form p0 k h):CallsH prog 13 #[.agg (S_api_Mem.cs p0).toArray] h (fun v h'=>∃ r:Slc,v=Slc.v r/\k r h'):=by
 refine fE func13 fun w0=>?_
 refine zF [0] (zQ ?_)
 refine wX H fun b1 h2 H=>?_
 refine w1 tok (zE (zQ ?_))
 refine w1 tok ?_
 refine wL tok H fun v3 H=>?_
 refine w2 tok ?_
 refine wL tok H fun v4 H=>?_
 refine w2 tok ?_
 refine wL tok H fun v5 H=>?_
 refine w2 tok ?_
 refine wL tok H fun v6 H=>?_
 refine w1 tok ?_
 refine wL tok H fun v7 H=>?_
 obtain ⟨b8,h9,eb8,eh9,H⟩:=H
 refine wH (h_bs tok rfl rfl rfl rfl rfl rfl rfl eb8 eh9) ?_
 refine wC O39 (R39 _ _ _ H) fun r10 h11 H=>?_
 refine w1 tok (zE (zF [1,3] (zQ ?_)))
 refine w3 tok ?_
 refine wL tok H fun v12 H=>?_
 obtain ⟨b13,h14,eb13,eh14,H⟩:=H
 refine wH (h_bs tok rfl rfl rfl rfl rfl rfl rfl eb13 eh14) ?_
 refine wA (a_app (s:=r10) (r:=(⟨some ⟨b13,0,none⟩,1,1⟩:Slc)) tok rfl rfl rfl rfl rfl (slcAt_push eb13 eh14) H) ?_
 rintro _ h16 ⟨s15,rfl,H⟩
 refine w1 tok (zE (zQ ?_))
 refine w3 tok ?_
 obtain ⟨s17,ps17,qs17,rs17,es17,H⟩:=H
 refine wYe (y_sla (L:=0) (H:=32) tok rfl rfl rfl rfl rfl rfl ps17 qs17 rs17) (congrArg Slc.v es17) ?_
 obtain ⟨l20,hl20,H⟩:=H
 refine wA (a_app (s:=s15) (r:=s17) tok rfl rfl rfl rfl rfl hl20 H) ?_
 rintro _ h19 ⟨s18,rfl,H⟩
 refine w1 tok (zE (zF [1,3] (zQ ?_)))
 refine w2 tok ?_
 obtain ⟨s21,ps21,qs21,rs21,es21,H⟩:=H
 refine wYe (y_sla (L:=0) (H:=32) tok rfl rfl rfl rfl rfl rfl ps21 qs21 rs21) (congrArg Slc.v es21) ?_
 obtain ⟨l24,hl24,H⟩:=H
 refine wA (a_app (s:=s18) (r:=s21) tok rfl rfl rfl rfl rfl hl24 H) ?_
 rintro _ h23 ⟨s22,rfl,H⟩
 refine w1 tok (zE (zQ ?_))
 refine w2 tok ?_
 refine wL tok H fun v25 H=>?_
 refine w1 tok ?_
 refine wL tok H fun v26 H=>?_
 refine w2 tok ?_
 refine wL tok H fun v27 H=>?_
 refine w1 tok ?_
 refine wL tok H fun v28 H=>?_
 obtain ⟨b29,h30,eb29,eh30,H⟩:=H
 refine wH (h_bs tok rfl rfl rfl rfl rfl rfl rfl eb29 eh30) ?_
 refine wC O39 (R39 _ _ _ H) fun r31 h32 H=>?_
 obtain ⟨l35,hl35,H⟩:=H
 refine wA (a_app (s:=s22) (r:=r31) tok rfl rfl rfl rfl rfl hl35 H) ?_
 rintro _ h34 ⟨s33,rfl,H⟩
 refine w1 tok (zE (zF [1,3] (zQ ?_)))
 refine w2 tok ?_
 refine wL tok H fun v36 H=>?_
 refine wC O40 (R40 _ _ _ H) fun r37 h38 H=>?_
 obtain ⟨l41,hl41,H⟩:=H
 refine wA (a_app (s:=s33) (r:=r37) tok rfl rfl rfl rfl rfl hl41 H) ?_
 rintro _ h40 ⟨s39,rfl,H⟩
 refine w1 tok (zE (zQ ?_))
 refine w2 tok ?_
 refine wL tok H fun v42 H=>?_
 refine wC O41 (R41 _ _ _ H) fun r43 h44 H=>?_
 obtain ⟨l47,hl47,H⟩:=H
 refine wA (a_app (s:=s39) (r:=r43) tok rfl rfl rfl rfl rfl hl47 H) ?_
 rintro _ h46 ⟨s45,rfl,H⟩
 refine w1 tok (zE (zF [1,3] (zS (zQ ?_))))
 refine w1 tok (zE (zB ?_))
 obtain ⟨I1,μ1,H0,HI⟩:=H
 refine zO (σ:=Slc × Int) [1] (fun (s:Slc × Int)=>[(3,Slc.v s.1),(4,.int .i64 s.2)]) I1 μ1 (s45,0) H0 ?_
 rintro ⟨t3_1,t4_1⟩ h_1 H
 replace H:=HI t3_1 t4_1 h_1 H
 refine zF [3,4,1] (zS (zQ ?_))
 refine w2 tok ?_
 refine wL tok H fun v48 H=>?_
 refine w2 tok (zE ?_)
 refine zI H ?_ ?_ <;> intro H
 refine zK (zX (zS (zB (zQ (w2 tok ?_)))))
 refine wL tok H fun v49 H=>?_
 refine w1 tok ?_
 refine wD tok H fun a50 _ H=>?_
 refine w1 tok ?_
 refine wL tok H fun v51 H=>?_
 refine wC O42 (R42 _ _ _ H) fun r52 h53 H=>?_
 obtain ⟨l56,hl56,H⟩:=H
 refine wA (a_app (s:=t3_1) (r:=r52) tok rfl rfl rfl rfl rfl hl56 H) ?_
 rintro _ h55 ⟨s54,rfl,H⟩
 refine w1 tok (zE (zF [3,4,1] (zR ?_)))
 refine w2 tok ?_
 refine wL tok H fun v57 H=>?_
 refine w1 tok ?_
 refine wD tok H fun a58 _ H=>?_
 refine w1 tok ?_
 obtain ⟨s59,ps59,qs59,rs59,es59,H⟩:=H
 refine wYe (y_sla (L:=0) (H:=32) tok rfl rfl rfl rfl rfl rfl ps59 qs59 rs59) (congrArg Slc.v es59) ?_
 obtain ⟨l62,hl62,H⟩:=H
 refine wA (a_app (s:=s54) (r:=s59) tok rfl rfl rfl rfl rfl hl62 H) ?_
 rintro _ h61 ⟨s60,rfl,H⟩
 refine w1 tok (zL (zX (zF [3,4,1] (zR ?_))))
 refine w2 tok ?_
 obtain ⟨x63,ex63,H⟩:=H
 refine w_pe tok rfl (congrArg (fun z=>(.int .i64 z:Value)) ex63) rfl rfl ?_
 refine zW ?_
 exact xJ (s60,x63) H
 refine zY (yE (yE (yH (zX (zQ (w2 tok ?_))))))
 refine wL tok H fun v64 H=>?_
 refine wC O43 (R43 _ _ _ H) fun r65 h66 H=>?_
 obtain ⟨l69,hl69,H⟩:=H
 refine wA (a_app (s:=t3_1) (r:=r65) tok rfl rfl rfl rfl rfl hl69 H) ?_
 rintro _ h68 ⟨s67,rfl,H⟩
 refine w1 tok (zE (zF [3,1] (zQ ?_)))
 refine w2 tok ?_
 refine wL tok H fun v70 H=>?_
 refine wC O42 (R42 _ _ _ H) fun r71 h72 H=>?_
 obtain ⟨l75,hl75,H⟩:=H
 refine wA (a_app (s:=s67) (r:=r71) tok rfl rfl rfl rfl rfl hl75 H) ?_
 rintro _ h74 ⟨s73,rfl,H⟩
 refine w1 tok (zE (zF [2] (zT ?_)))
 exact x_ret _ rfl _ rfl ⟨s73,rfl,H⟩
theorem R14 (p0 k h) (H:ref28_FormChange p0 k h):CallsH prog 14 #[.agg (S_api_Change.cs p0).toArray] h (fun v h'=>∃ r:Slc,v=Slc.v r/\k r h'):=by
 refine fE func14 fun w0=>?_
 refine zF [0] (zQ ?_)
 refine wX H fun b1 h2 H=>?_
 refine w1 tok (zE ?_)
 refine zJ (α:=Slc) [1] (fun (s:Slc)=>[(3,Slc.v s)]) (fun (s:Slc) h=>ref28_FormChange_j1 (ad b1) s k h) ?_ ?_
 rintro t3_1 h_1 H
 refine zF [3,1] (zQ ?_)
 refine w3 tok ?_
 obtain ⟨s3,ps3,qs3,rs3,es3,H⟩:=H
 refine wYe (y_sla (L:=0) (H:=32) tok rfl rfl rfl rfl rfl rfl ps3 qs3 rs3) (congrArg Slc.v es3) ?_
 obtain ⟨l6,hl6,H⟩:=H
 refine wA (a_app (s:=t3_1) (r:=s3) tok rfl rfl rfl rfl rfl hl6 H) ?_
 rintro _ h5 ⟨s4,rfl,H⟩
 refine w1 tok (zE (zQ ?_))
 refine w3 tok ?_
 refine wL tok H fun v7 H=>?_
 refine w3 tok ?_
 refine wL tok H fun v8 H=>?_
 refine w2 tok ?_
 refine wL tok H fun v9 H=>?_
 refine w3 tok ?_
 refine wL tok H fun v10 H=>?_
 obtain ⟨b11,h12,eb11,eh12,H⟩:=H
 refine wH (h_bs tok rfl rfl rfl rfl rfl rfl rfl eb11 eh12) ?_
 refine wC O39 (R39 _ _ _ H) fun r13 h14 H=>?_
 obtain ⟨l17,hl17,H⟩:=H
 refine wA (a_app (s:=s4) (r:=r13) tok rfl rfl rfl rfl rfl hl17 H) ?_
 rintro _ h16 ⟨s15,rfl,H⟩
 refine w1 tok (zE (zF [3,1] (zQ ?_)))
 refine w3 tok ?_
 refine wL tok H fun v18 H=>?_
 refine wC O41 (R41 _ _ _ H) fun r19 h20 H=>?_
 obtain ⟨l23,hl23,H⟩:=H
 refine wA (a_app (s:=s15) (r:=r19) tok rfl rfl rfl rfl rfl hl23 H) ?_
 rintro _ h22 ⟨s21,rfl,H⟩
 refine w1 tok (zE (zQ ?_))
 refine w3 tok ?_
 refine wL tok H fun v24 H=>?_
 refine wC O40 (R40 _ _ _ H) fun r25 h26 H=>?_
 obtain ⟨l29,hl29,H⟩:=H
 refine wA (a_app (s:=s21) (r:=r25) tok rfl rfl rfl rfl rfl hl29 H) ?_
 rintro _ h28 ⟨s27,rfl,H⟩
 refine w1 tok (zE (zF [3,1] (zQ ?_)))
 refine w2 tok ?_
 refine wL tok H fun v30 H=>?_
 refine w2 tok ?_
 refine wC O42 (R42 _ _ _ H) fun r31 h32 H=>?_
 obtain ⟨l35,hl35,H⟩:=H
 refine wA (a_app (s:=s27) (r:=r31) tok rfl rfl rfl rfl rfl hl35 H) ?_
 rintro _ h34 ⟨s33,rfl,H⟩
 refine w1 tok (zE (zF [3,1] (zS (zQ ?_))))
 refine w1 tok (zE (zB ?_))
 obtain ⟨I2,μ2,H0,HI⟩:=H
 refine zO (σ:=Slc × Int) [1] (fun (s:Slc × Int)=>[(3,Slc.v s.1),(4,.int .i64 s.2)]) I2 μ2 (s33,0) H0 ?_
 rintro ⟨t3_2,t4_2⟩ h_2 H
 replace H:=HI t3_2 t4_2 h_2 H
 refine zF [3,4,1] (zS (zQ ?_))
 refine w2 tok ?_
 refine wL tok H fun v36 H=>?_
 refine w2 tok (zE ?_)
 refine zI H ?_ ?_ <;> intro H
 refine zK (zX (zS (zB (zR (w2 tok ?_)))))
 refine wL tok H fun v37 H=>?_
 refine w1 tok ?_
 refine wD tok H fun a38 _ H=>?_
 obtain ⟨s39,ps39,qs39,rs39,es39,H⟩:=H
 refine wYe (y_sla (L:=0) (H:=12) tok rfl rfl rfl rfl rfl rfl ps39 qs39 rs39) (congrArg Slc.v es39) ?_
 obtain ⟨l42,hl42,H⟩:=H
 refine wA (a_app (s:=t3_2) (r:=s39) tok rfl rfl rfl rfl rfl hl42 H) ?_
 rintro _ h41 ⟨s40,rfl,H⟩
 refine w1 tok (zL (zX (zF [3,4,1] (zR ?_))))
 refine w2 tok ?_
 obtain ⟨x43,ex43,H⟩:=H
 refine w_pe tok rfl (congrArg (fun z=>(.int .i64 z:Value)) ex43) rfl rfl ?_
 refine zW ?_
 exact xJ (s40,x43) H
 refine zY (yE (yE (yH (zX (zQ (w2 tok ?_))))))
 refine wL tok H fun v44 H=>?_
 refine wC O43 (R43 _ _ _ H) fun r45 h46 H=>?_
 obtain ⟨l49,hl49,H⟩:=H
 refine wA (a_app (s:=t3_2) (r:=r45) tok rfl rfl rfl rfl rfl hl49 H) ?_
 rintro _ h48 ⟨s47,rfl,H⟩
 refine w1 tok (zE (zF [3,1] (zQ ?_)))
 refine w2 tok ?_
 refine wL tok H fun v50 H=>?_
 obtain ⟨ms51,H⟩:=H
 refine wA (a_s2b (s:=v50) tok rfl rfl rfl rfl rfl ms51 H) ?_
 rintro _ h52 ⟨s51,rfl,H⟩
 refine wC O40 (R40 _ _ _ H) fun r53 h54 H=>?_
 obtain ⟨l57,hl57,H⟩:=H
 refine wA (a_app (s:=s47) (r:=r53) tok rfl rfl rfl rfl rfl hl57 H) ?_
 rintro _ h56 ⟨s55,rfl,H⟩
 refine w1 tok (zE (zF [2] (zT ?_)))
 exact x_ret _ rfl _ rfl ⟨s55,rfl,H⟩
 refine gB [1] ?_
 refine gT 0 [1] tok ?_
 obtain ⟨v58,hv58,H⟩:=H
 refine gL 1 [5] rfl (y_ld tok rfl rfl rfl rfl hv58) ?_
 refine gT 2 [6] tok ?_
 refine gT 4 [1] tok ?_
 obtain ⟨v59,hv59,H⟩:=H
 refine gL 5 [9] rfl (y_ld tok rfl rfl rfl rfl hv59) ?_
 refine gT 6 [1] tok ?_
 obtain ⟨v60,hv60,H⟩:=H
 refine gL 7 [11] rfl (y_ld tok rfl rfl rfl rfl hv60) ?_
 refine gT 8 [12] tok ?_
 refine gT 9 [1] tok ?_
 refine gT 10 [14] tok ?_
 obtain ⟨v61,hv61,H⟩:=H
 refine gL 11 [15] rfl (y_ld tok rfl rfl rfl rfl hv61) ?_
 refine gO 3 12 H (fun H=>?_) (fun H=>?_)
 obtain ⟨b62,h63,eb62,eh63,H⟩:=H
 refine gHrI 3 [7] rfl (h_bs tok rfl rfl rfl rfl rfl rfl rfl eb62 eh63) ?_
 obtain ⟨hy64,hy65,hy66,H⟩:=H
 refine gR rfl (y_ld tok rfl rfl rfl rfl hy64) ?_
 refine gR rfl (y_ld tok rfl rfl rfl rfl hy65) ?_
 refine gR rfl (y_ld tok rfl rfl rfl rfl hy66) ?_
 refine gZ0 ?_
 obtain ⟨b67,h68,eb67,eh68,H⟩:=H
 refine gH 12 [10,13,16] rfl (h_bs tok rfl rfl rfl rfl rfl rfl rfl eb67 eh68) ?_
 refine gC 13 [17] O39 (R39 _ _ _ H) fun r69 h70 H=>?_
 obtain ⟨l73,hl73,H⟩:=H
 refine gA 14 [8,18] rfl (a_app (s:=(⟨some ⟨b62,0,none⟩,1,1⟩:Slc)) (r:=r69) tok rfl rfl rfl rfl rfl hl73 H) ?_
 rintro _ h72 ⟨s71,rfl,H⟩
 refine gT 15 [19] tok ?_
 refine gZ ?_
 exact xJ s71 H
 obtain ⟨b74,h75,eb74,eh75,H⟩:=H
 refine gHrI 12 [10,13,16] rfl (h_bs tok rfl rfl rfl rfl rfl rfl rfl eb74 eh75) ?_
 obtain ⟨hy76,H⟩:=H
 refine gR rfl (y_ld tok rfl rfl rfl rfl hy76) ?_
 refine gZ0 ?_
 refine gO 3 13 H (fun H=>?_) (fun H=>?_)
 obtain ⟨b77,h78,eb77,eh78,H⟩:=H
 refine gHI 3 [7] rfl (h_bs tok rfl rfl rfl rfl rfl rfl rfl eb77 eh78) ?_
 refine gC 13 [17] O39 (R39 _ _ _ H) fun r79 h80 H=>?_
 obtain ⟨l83,hl83,H⟩:=H
 refine gA 14 [8,18] rfl (a_app (s:=(⟨some ⟨b77,0,none⟩,1,1⟩:Slc)) (r:=r79) tok rfl rfl rfl rfl rfl hl83 H) ?_
 rintro _ h82 ⟨s81,rfl,H⟩
 refine gT 15 [19] tok ?_
 refine gZ ?_
 exact xJ s81 H
 refine gCrI 13 [17] O39 (R39 _ _ _ H) fun r84 h85 H=>?_
 obtain ⟨hy86,H⟩:=H
 refine gR rfl (y_ld tok rfl rfl rfl rfl hy86) ?_
 refine gZ0 ?_
 obtain ⟨b87,h88,eb87,eh88,H⟩:=H
 refine gH 3 [7] rfl (h_bs tok rfl rfl rfl rfl rfl rfl rfl eb87 eh88) ?_
 obtain ⟨l91,hl91,H⟩:=H
 refine gA 14 [8,18] rfl (a_app (s:=(⟨some ⟨b87,0,none⟩,1,1⟩:Slc)) (r:=r84) tok rfl rfl rfl rfl rfl hl91 H) ?_
 rintro _ h90 ⟨s89,rfl,H⟩
 refine gT 15 [19] tok ?_
 refine gZ ?_
 exact xJ s89 H
theorem O44:CallOk prog 44:=ck func44
theorem R44 (p0 k h) (H:ref28_check p0 k h):CallsH prog 44 #[.agg (S_api_Mem.cs p0).toArray] h (fun v h'=>∃ r:Int,v = .int .i64 r/\k r h'):=by
 refine fE func44 fun w0=>?_
 refine zF [0] (zQ ?_)
 refine wX H fun b1 h2 H=>?_
 refine w1 tok (zE (zS (zQ ?_)))
 refine w1 tok ?_
 refine wL tok H fun v3 H=>?_
 refine w2 tok ?_
 refine vJ 4 (α:=Bool) [1] (fun (s:Bool)=>[(12,.bool s)]) (fun (s:Bool) h=>ref28_check_g1 (ad b1) s k h) ?_ ?_
 rintro t12_1 h_1 H
 refine vF [12,1] ?_
 refine w1 tok ?_
 refine vJ 4 (α:=Bool) [1] (fun (s:Bool)=>[(17,.bool s)]) (fun (s:Bool) h=>ref28_check_g2 (ad b1) s k h) ?_ ?_
 rintro t17_2 h_2 H
 refine vF [17,1] ?_
 refine w1 tok ?_
 refine vJ 6 (α:=Bool) [1] (fun (s:Bool)=>[(24,.bool s)]) (fun (s:Bool) h=>ref28_check_g3 (ad b1) s k h) ?_ ?_
 rintro t24_3 h_3 H
 refine vF [24,1] ?_
 refine w1 tok ?_
 refine vJ 4 (α:=Bool) [1] (fun (s:Bool)=>[(29,.bool s)]) (fun (s:Bool) h=>ref28_check_g4 (ad b1) s k h) ?_ ?_
 rintro t29_4 h_4 H
 refine vF [29,1] ?_
 refine w1 tok ?_
 refine vJ 6 (α:=Bool) [1] (fun (s:Bool)=>[(36,.bool s)]) (fun (s:Bool) h=>ref28_check_g5 (ad b1) s k h) ?_ ?_
 rintro t36_5 h_5 H
 refine vF [36,1] ?_
 refine w1 tok ?_
 refine vJ 4 (α:=Bool) [1] (fun (s:Bool)=>[(41,.bool s)]) (fun (s:Bool) h=>ref28_check_g6 (ad b1) s k h) ?_ ?_
 rintro t41_6 h_6 H
 refine vF [41,1] ?_
 refine w1 tok ?_
 refine vJ 6 (α:=Bool) [1] (fun (s:Bool)=>[(48,.bool s)]) (fun (s:Bool) h=>ref28_check_g7 (ad b1) s k h) ?_ ?_
 rintro t48_7 h_7 H
 refine vF [48,1] ?_
 refine w1 tok ?_
 refine vJ 7 (α:=Bool) [1] (fun (s:Bool)=>[(56,.bool s)]) (fun (s:Bool) h=>ref28_check_g8 (ad b1) s k h) ?_ ?_
 rintro t56_8 h_8 H
 refine vF [56,1] (zE ?_)
 refine zI H ?_ ?_ <;> intro H
 refine zQ (w1 tok (zE (zT (yT ?_))))
 exact x_ret _ rfl _ rfl ⟨1,rfl,H⟩
 refine zK (zX (zS (zQ (w1 tok ?_))))
 refine wL tok H fun v4 H=>?_
 refine w3 tok ?_
 refine vJ 5 (α:=Bool) [1] (fun (s:Bool)=>[(66,.bool s)]) (fun (s:Bool) h=>ref28_check_g9 (ad b1) s k h) ?_ ?_
 rintro t66_9 h_9 H
 refine vF [66,1] (zE ?_)
 refine zI H ?_ ?_ <;> intro H
 refine zQ (w1 tok (zE (zT (yT ?_))))
 exact x_ret _ rfl _ rfl ⟨3,rfl,H⟩
 refine zK (zX (zS (zQ (w1 tok (zE (zB ?_))))))
 obtain ⟨I10,μ10,H0,HI⟩:=H
 refine zO (σ:=Int) [1] (fun (s:Int)=>[(3,.int .i64 s)]) I10 μ10 0 H0 ?_
 rintro t3_10 h_10 H
 replace H:=HI t3_10 h_10 H
 refine zF [3,1] (zS (zQ ?_))
 refine w2 tok ?_
 refine wL tok H fun v5 H=>?_
 refine w2 tok (zE ?_)
 refine zI H ?_ ?_ <;> intro H
 refine zK (zX (zS (zB (zS (zQ (w1 tok ?_))))))
 refine wL tok H fun v6 H=>?_
 refine w1 tok ?_
 refine wD tok H fun a7 _ H=>?_
 refine wLa tok H fun v8 H=>?_
 refine wC O68 (R68 _ _ _ H) fun r9 h10 H=>?_
 refine w1 tok (zE (zF [3,1,80] ?_))
 refine zI H ?_ ?_ <;> intro H
 refine zQ (w1 tok (zE (zT (yT (yB (yT (yT (yB (yT ?_)))))))))
 exact x_ret _ rfl _ rfl ⟨1,rfl,H⟩
 refine zK (zX (zQ (w1 tok (zE (zB ?_)))))
 obtain ⟨I11,μ11,H0,HI⟩:=H
 refine zO (σ:=Int) [1,3] (fun (s:Int)=>[(4,.int .i64 s)]) I11 μ11 0 H0 ?_
 rintro t4_11 h_11 H
 replace H:=HI t4_11 h_11 H
 refine zF [4,1,3] (zS (zQ ?_))
 refine w3 tok (zE ?_)
 refine zI H ?_ ?_ <;> intro H
 refine zK (zX (zS (zB (zS ?_))))
 refine c_draw (by kernel_rfl) (by kernel_rfl) ?_
 refine q_p tok rfl rfl rfl ?_
 obtain ⟨v11,hv11,H⟩:=H
 refine q_y (y_ld tok rfl rfl rfl rfl hv11) rfl rfl ?_
 refine q_p tok rfl rfl rfl ?_
 obtain ⟨a12,ha12,la12,ua12,H⟩:=H
 refine q_y (y_ixa' tok rfl rfl ha12 rfl rfl rfl la12 ua12) rfl rfl ?_
 refine q_p tok rfl rfl rfl ?_
 obtain ⟨v13,hv13,H⟩:=H
 refine q_y (y_lda tok rfl rfl rfl rfl rfl hv13) rfl rfl ?_
 refine q_p tok rfl rfl rfl ?_
 obtain ⟨v14,hv14,H⟩:=H
 refine q_y (y_ld tok rfl rfl rfl rfl hv14) rfl rfl ?_
 refine q_p tok rfl rfl rfl ?_
 obtain ⟨a15,ha15,la15,ua15,H⟩:=H
 refine q_y (y_ixa' tok rfl rfl ha15 rfl rfl rfl la15 ua15) rfl rfl ?_
 refine q_p tok rfl rfl rfl ?_
 obtain ⟨v16,hv16,H⟩:=H
 refine q_y (y_lda tok rfl rfl rfl rfl rfl hv16) rfl rfl ?_
 refine q_y (y_eqr (xs:=v13) (ys:=v16) tok (.inl rfl) rfl rfl rfl rfl rfl rfl (by kernel_rfl)) rfl rfl ?_
 refine q_end ?_
 refine zX (zF [4,1,3,98] ?_)
 refine zI H ?_ ?_ <;> intro H
 refine zQ (w1 tok (zE (zT (yB (yT (yT (yB (yB (yT (yT (yB (yT ?_))))))))))))
 exact x_ret _ rfl _ rfl ⟨7,rfl,H⟩
 refine zK (yL (zX (zR (w2 tok ?_))))
 obtain ⟨x18,ex18,H⟩:=H
 refine w_pe tok rfl (congrArg (fun z=>(.int .i64 z:Value)) ex18) rfl rfl ?_
 refine zW ?_
 exact xJ x18 H
 refine zY (yE (yE (yH (yL (zX (zR (w2 tok ?_)))))))
 obtain ⟨x19,ex19,H⟩:=H
 refine w_pe tok rfl (congrArg (fun z=>(.int .i64 z:Value)) ex19) rfl rfl ?_
 refine zW ?_
 exact xJ x19 H
 refine zY (yE (yE (yH (zX (zS (zQ ?_))))))
 refine wLa tok H fun v20 H=>?_
 refine wC O13 (R13 _ _ _ H) fun r21 h22 H=>?_
 refine w2 tok (zE (zF [102] ?_))
 refine zI H ?_ ?_ <;> intro H
 refine zQ (w1 tok (zE (zT (yT ?_))))
 exact x_ret _ rfl _ rfl ⟨3,rfl,H⟩
 refine zK (zX (zQ (w1 tok (zE (zT ?_)))))
 exact x_ret _ rfl _ rfl ⟨0,rfl,H⟩
 refine vI 61 H ?_ ?_ <;> intro H
 refine wS (wS (wS (wS (w1 tok ?_))))
 exact wJ true H
 refine w1 tok ?_
 refine wL tok H fun v23 H=>?_
 refine w3 tok ?_
 exact wJ (decide ((v23.len:Int) > 64)) H
 refine vI 49 H ?_ ?_ <;> intro H
 refine wS (wS (wS (wS (wS (wS (w1 tok ?_))))))
 exact wJ true H
 refine w1 tok ?_
 refine wL tok H fun v24 H=>?_
 refine w2 tok ?_
 refine wL tok H fun v25 H=>?_
 refine w2 tok ?_
 exact wJ ((v24.len:Int) != v25) H
 refine vI 42 H ?_ ?_ <;> intro H
 refine wS (wS (wS (wS (wS (w1 tok ?_)))))
 exact wJ true H
 refine w1 tok ?_
 refine wL tok H fun v26 H=>?_
 refine w1 tok ?_
 refine wL tok H fun v27 H=>?_
 refine w2 tok ?_
 exact wJ (decide (v26 > v27)) H
 refine vI 37 H ?_ ?_ <;> intro H
 refine wS (wS (wS (w1 tok ?_)))
 exact wJ true H
 refine w1 tok ?_
 refine wL tok H fun v28 H=>?_
 refine w2 tok ?_
 exact wJ (decide (v28 < 0)) H
 refine vI 30 H ?_ ?_ <;> intro H
 refine wS (wS (wS (wS (wS (w1 tok ?_)))))
 exact wJ true H
 refine w1 tok ?_
 refine wL tok H fun v29 H=>?_
 refine w1 tok ?_
 refine wL tok H fun v30 H=>?_
 refine w2 tok ?_
 exact wJ (decide (v29 > v30)) H
 refine vI 25 H ?_ ?_ <;> intro H
 refine wS (wS (wS (w1 tok ?_)))
 exact wJ true H
 refine w1 tok ?_
 refine wL tok H fun v31 H=>?_
 refine w2 tok ?_
 exact wJ (decide (v31 < 1)) H
 refine vI 18 H ?_ ?_ <;> intro H
 refine wS (wS (wS (wS (wS (w1 tok ?_)))))
 exact wJ true H
 refine w1 tok ?_
 refine wL tok H fun v32 H=>?_
 refine w1 tok ?_
 refine wL tok H fun v33 H=>?_
 refine w2 tok ?_
 exact wJ (decide (v32>=v33)) H
 refine vI 13 H ?_ ?_ <;> intro H
 refine wS (wS (wS (w1 tok ?_)))
 exact wJ true H
 refine w1 tok ?_
 refine wL tok H fun v34 H=>?_
 refine w2 tok ?_
 exact wJ (decide (v34 < 0)) H
 refine vI 8 H ?_ ?_ <;> intro H
 refine wS (wS (wS (w1 tok ?_)))
 exact wJ true H
 refine w1 tok ?_
 refine wL tok H fun v35 H=>?_
 refine w2 tok ?_
 exact wJ (decide (v35 > 32)) H
theorem O15:CallOk prog 15:=ck func15
theorem R15 (p0 k h) (H:ref28_Check p0 k h):CallsH prog 15 #[.agg (S_api_Mem.cs p0).toArray] h (fun v h'=>∃ r:Int,v = .int .i64 r/\k r h'):=by
 refine fE func15 fun w0=>?_
 refine zF [0] (zQ ?_)
 refine wX H fun b1 h2 H=>?_
 refine w1 tok (zE (zQ ?_))
 refine wLa tok H fun v3 H=>?_
 refine wC O44 (R44 _ _ _ H) fun r4 h5 H=>?_
 refine w1 tok (zE (zS (zQ ?_)))
 refine w2 tok (zE ?_)
 refine zI H ?_ ?_ <;> intro H
 refine zQ (w1 tok (zE (zF [2] (zT (yT ?_)))))
 exact x_ret _ rfl _ rfl ⟨1,rfl,H⟩
 refine zK (zX (zF [3] (zQ ?_)))
 refine w2 tok (zE (zT ?_))
 exact x_ret _ rfl _ rfl ⟨r4,rfl,H⟩
theorem O17:CallOk prog 17:=ck func17
theorem R17 (p0 p1 k h) (H:ref28_Same p0 p1 k h):CallsH prog 17 #[.agg (S_api_Mem.cs p0).toArray,.agg (S_api_Mem.cs p1).toArray] h (fun v h'=>∃ r:Bool,v = .bool r/\k r h'):=by
 refine fE func17 fun w0=>?_
 refine zF [0,1] (zQ ?_)
 refine wX H fun b1 h2 H=>?_
 refine wX H fun b3 h4 H=>?_
 refine w1 tok (zE (zS ?_))
 refine gB [2,3] ?_
 obtain ⟨v5,hv5,H⟩:=H
 refine gL 0 [2] rfl (y_lda tok rfl rfl rfl rfl rfl hv5) ?_
 obtain ⟨v6,hv6,H⟩:=H
 refine gL 2 [3] rfl (y_lda tok rfl rfl rfl rfl rfl hv6) ?_
 refine gCr 1 [5] O13 (R13 _ _ _ H) fun r7 h8 H=>?_
 obtain ⟨hy9,H⟩:=H
 refine gR rfl (y_lda tok rfl rfl rfl rfl rfl hy9) ?_
 refine gZ0 ?_
 refine gC 3 [7] O13 (R13 _ _ _ H) fun r10 h11 H=>?_
 refine gC 4 [6,8] O12 (R12 _ _ _ _ H) fun r12 h13 H=>?_
 refine gT 5 [9] tok ?_
 refine gZ ?_
 refine zX (zF [4] (zT ?_))
 exact x_ret _ rfl _ rfl ⟨r12,rfl,H⟩
theorem O6:CallOk prog 6:=ck func6
theorem R6 (p0 k h) (H:ref28_Great p0 k h):CallsH prog 6 #[.agg (S_api_Mem.cs p0).toArray] h (fun v h'=>∃ r:Bool,v = .bool r/\k r h'):=by
 refine fE func6 fun w0=>?_
 refine zF [0] (zQ ?_)
 refine wX H fun b1 h2 H=>?_
 refine w1 tok (zE (zS (zQ ?_)))
 refine w1 tok ?_
 refine wL tok H fun v3 H=>?_
 refine wC O29 (R29 _ _ _ H) fun r4 h5 H=>?_
 refine w1 tok ?_
 refine vJ 5 (α:=Bool) [1] (fun (s:Bool)=>[(12,.bool s)]) (fun (s:Bool) h=>ref28_Great_g1 (ad b1) s k h) ?_ ?_
 rintro t12_1 h_1 H
 refine vF [12,1] ?_
 refine w1 tok ?_
 refine vJ 5 (α:=Bool) [1] (fun (s:Bool)=>[(18,.bool s)]) (fun (s:Bool) h=>ref28_Great_g2 (ad b1) s k h) ?_ ?_
 rintro t18_2 h_2 H
 refine vF [18,1] ?_
 refine w1 tok ?_
 refine vJ 5 (α:=Bool) [1] (fun (s:Bool)=>[(24,.bool s)]) (fun (s:Bool) h=>ref28_Great_g3 (ad b1) s k h) ?_ ?_
 rintro t24_3 h_3 H
 refine vF [24,1] (zE ?_)
 refine zI H ?_ ?_ <;> intro H
 refine zQ (w1 tok (zE (zT (yT ?_))))
 exact x_ret _ rfl _ rfl ⟨true,rfl,H⟩
 refine zK (zX (zS (zQ (w1 tok (zE (zB ?_))))))
 obtain ⟨I4,μ4,H0,HI⟩:=H
 refine zO (σ:=Int) [1] (fun (s:Int)=>[(3,.int .i64 s)]) I4 μ4 0 H0 ?_
 rintro t3_4 h_4 H
 replace H:=HI t3_4 h_4 H
 refine zF [3,1] (zS (zQ ?_))
 refine w2 tok ?_
 refine wL tok H fun v6 H=>?_
 refine w2 tok (zE ?_)
 refine zI H ?_ ?_ <;> intro H
 refine zK (zX (zS (zB (zQ (w1 tok ?_)))))
 refine wL tok H fun v7 H=>?_
 refine w1 tok ?_
 refine wD tok H fun a8 _ H=>?_
 refine w1 tok ?_
 refine wL tok H fun v9 H=>?_
 refine w3 tok ?_
 refine vJ 9 (α:=Bool) [1,3] (fun (s:Bool)=>[(49,.bool s)]) (fun (s:Bool) h=>ref28_Great_g5 (ad b1) t3_4 s k (fun s h'=>I4 s h'/\μ4 s h' < μ4 t3_4 h_4) h) ?_ ?_
 rintro t49_5 h_5 H
 refine vF [49,1,3] (zE ?_)
 refine zI H ?_ ?_ <;> intro H
 refine zQ (w1 tok (zE (zT (yB (yT (yT (yB (yT ?_))))))))
 exact x_ret _ rfl _ rfl ⟨true,rfl,H⟩
 refine zK (yL (zX (zR (w2 tok ?_))))
 obtain ⟨x10,ex10,H⟩:=H
 refine w_pe tok rfl (congrArg (fun z=>(.int .i64 z:Value)) ex10) rfl rfl ?_
 refine zW ?_
 exact xJ x10 H
 refine vI 40 H ?_ ?_ <;> intro H
 refine wS (wS (wS (wS (wS (wS (wS (wS (w1 tok ?_))))))))
 exact wJ true H
 refine w1 tok ?_
 refine wL tok H fun v11 H=>?_
 refine w1 tok ?_
 refine wD tok H fun a12 _ H=>?_
 refine w1 tok ?_
 refine wL tok H fun v13 H=>?_
 refine w3 tok ?_
 exact wJ (decide ((v13.size:Int) > 100)) H
 refine zY (yE (yE (yH (zX (zF [] (zQ ?_))))))
 refine w1 tok (zE (zT ?_))
 exact x_ret _ rfl _ rfl ⟨false,rfl,H⟩
 refine vI 19 H ?_ ?_ <;> intro H
 refine wS (wS (wS (wS (w1 tok ?_))))
 exact wJ true H
 refine w1 tok ?_
 refine wL tok H fun v14 H=>?_
 refine w3 tok ?_
 exact wJ (decide ((v14.len:Int) > 70)) H
 refine vI 13 H ?_ ?_ <;> intro H
 refine wS (wS (wS (wS (w1 tok ?_))))
 exact wJ true H
 refine w1 tok ?_
 refine wL tok H fun v15 H=>?_
 refine w3 tok ?_
 exact wJ (decide ((v15.len:Int) > 40)) H
 refine vI 7 H ?_ ?_ <;> intro H
 refine wS (wS (wS (wS (w1 tok ?_))))
 exact wJ true H
 refine w1 tok ?_
 refine wL tok H fun v16 H=>?_
 refine w3 tok ?_
 exact wJ (decide ((v16.len:Int) > 1500)) H
theorem O7:CallOk prog 7:=ck func7
theorem R7 (p0 k h) (H:ref28_GreatChange p0 k h):CallsH prog 7 #[.agg (S_api_Change.cs p0).toArray] h (fun v h'=>∃ r:Bool,v = .bool r/\k r h'):=by
 refine fE func7 fun w0=>?_
 refine zF [0] (zQ ?_)
 refine wX H fun b1 h2 H=>?_
 refine w1 tok (zE (zQ ?_))
 refine w2 tok ?_
 refine wL tok H fun v3 H=>?_
 refine wC O29 (R29 _ _ _ H) fun r4 h5 H=>?_
 refine w1 tok ?_
 refine vJ 6 (α:=Bool) [1] (fun (s:Bool)=>[(13,.bool s)]) (fun (s:Bool) h=>ref28_GreatChange_g1 (ad b1) s k h) ?_ ?_
 rintro t13_1 h_1 H
 refine vF [13,1] ?_
 refine w1 tok ?_
 refine vJ 5 (α:=Bool) [1] (fun (s:Bool)=>[(19,.bool s)]) (fun (s:Bool) h=>ref28_GreatChange_g2 (ad b1) s k h) ?_ ?_
 rintro t19_2 h_2 H
 refine vF [19,1] ?_
 refine w1 tok ?_
 refine vJ 5 (α:=Bool) [1] (fun (s:Bool)=>[(25,.bool s)]) (fun (s:Bool) h=>ref28_GreatChange_g3 (ad b1) s k h) ?_ ?_
 rintro t25_3 h_3 H
 refine vF [25,1] ?_
 refine w1 tok ?_
 refine vJ 5 (α:=Bool) [] (fun (s:Bool)=>[(31,.bool s)]) (fun (s:Bool) h=>ref28_GreatChange_g4 s k h) ?_ ?_
 rintro t31_4 h_4 H
 refine vF [31] ?_
 refine w1 tok (zE (zT ?_))
 exact x_ret _ rfl _ rfl ⟨t31_4,rfl,H⟩
 refine vI 26 H ?_ ?_ <;> intro H
 refine wS (wS (wS (wS (w1 tok ?_))))
 exact wJ true H
 refine w1 tok ?_
 refine wL tok H fun v6 H=>?_
 refine wY (y_build tok rfl rfl rfl rfl rfl) ?_
 refine wC O6 (R6 _ _ _ H) fun r7 h8 H=>?_
 refine w1 tok ?_
 exact wJ r7 H
 refine vI 20 H ?_ ?_ <;> intro H
 refine wS (wS (wS (wS (w1 tok ?_))))
 exact wJ true H
 refine w1 tok ?_
 refine wL tok H fun v9 H=>?_
 refine w3 tok ?_
 exact wJ (decide ((v9.size:Int) > 100)) H
 refine vI 14 H ?_ ?_ <;> intro H
 refine wS (wS (wS (wS (w1 tok ?_))))
 exact wJ true H
 refine w1 tok ?_
 refine wL tok H fun v10 H=>?_
 refine w3 tok ?_
 exact wJ (decide ((v10.len:Int) > 80)) H
 refine vI 7 H ?_ ?_ <;> intro H
 refine wS (wS (wS (wS (wS (w1 tok ?_)))))
 exact wJ true H
 refine w2 tok ?_
 refine wL tok H fun v11 H=>?_
 refine w3 tok ?_
 exact wJ (decide ((v11.len:Int) > 1500)) H
end Go.Q.Yk
end
