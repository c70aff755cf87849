/- A part of the proof of statements of this seat: lemmas, no statement of their own. -/
import Derived.Test.YtgbbpanapnkdbaaGreatYqZad
import Derived.Test.YtgbbpanapnkdbaaGreatYqZae
set_option linter.unusedVariables false
set_option linter.unusedSimpArgs false
section
set_option maxRecDepth 100000
set_option maxHeartbeats 1000000
namespace Go.Q.Yq
/-- quaestor piece.Check -/
def piece_Check_g1 (t12_1:Bool) (k:(Int)->Heap->Prop) (h_1:Heap):Prop :=
 if t12_1 then (k 1 h_1) else (k 0 h_1)
def piece_Check (p0:S_api_Piece) (k:(Int)->Heap->Prop) (h:Heap):Prop :=
 ∃ (b1:Nat) (h2:Heap),b1=h.size/\h2=h.push (.cells (S_api_Piece.cs p0).toArray 89)/\(∃ v3:ByteArray,cellH h2 (⟨b1,0,none⟩:Addr)=some (.string v3)/\(if ((v3.size:Int) == 0) then (piece_Check_g1 true k h2) else (∃ v4:ByteArray,cellH h2 (⟨b1,0,none⟩:Addr)=some (.string v4)/\(piece_Check_g1 (decide ((v4.size:Int) > 200)) k h2))))
/-- cmp.isNaN int64  -/
def cmp_isNaN_int64 (p0:Int) (k:(Bool)->Heap->Prop) (h:Heap):Prop :=
 k (p0 != p0) h
/-- cmp.isNaN uint64  -/
def cmp_isNaN_uint64 (p0:Int) (k:(Bool)->Heap->Prop) (h:Heap):Prop :=
 k (p0 != p0) h
/-- cmp.isNaN uint16  -/
def cmp_isNaN_uint16 (p0:Int) (k:(Bool)->Heap->Prop) (h:Heap):Prop :=
 k (p0 != p0) h
/-- cmp.isNaN string  -/
def cmp_isNaN_string (p0:ByteArray) (k:(Bool)->Heap->Prop) (h:Heap):Prop :=
 k (!(p0.toList == p0.toList)) h
/-- cmp.Compare int64  -/
def cmp_Compare_int64 (p0:Int) (p1:Int) (k:(Int)->Heap->Prop) (h:Heap):Prop :=
 cmp_isNaN_int64 p0 (fun (r1:Bool) h2=>cmp_isNaN_int64 p1 (fun (r3:Bool) h4=>if r1 then (if r3 then (k 0 h4) else (∃ x5:Int,x5=(-1)/\(k x5 h4))) else (if r3 then (k 1 h4) else (if (decide (p0 < p1)) then (∃ x6:Int,x6=(-1)/\(k x6 h4)) else (if (decide (p0 > p1)) then (k 1 h4) else (k 0 h4))))) h2) h
/-- cmp.Compare uint64  -/
def cmp_Compare_uint64 (p0:Int) (p1:Int) (k:(Int)->Heap->Prop) (h:Heap):Prop :=
 cmp_isNaN_uint64 p0 (fun (r1:Bool) h2=>cmp_isNaN_uint64 p1 (fun (r3:Bool) h4=>if r1 then (if r3 then (k 0 h4) else (∃ x5:Int,x5=(-1)/\(k x5 h4))) else (if r3 then (k 1 h4) else (if (decide (p0 < p1)) then (∃ x6:Int,x6=(-1)/\(k x6 h4)) else (if (decide (p0 > p1)) then (k 1 h4) else (k 0 h4))))) h2) h
/-- cmp.Compare uint16  -/
def cmp_Compare_uint16 (p0:Int) (p1:Int) (k:(Int)->Heap->Prop) (h:Heap):Prop :=
 cmp_isNaN_uint16 p0 (fun (r1:Bool) h2=>cmp_isNaN_uint16 p1 (fun (r3:Bool) h4=>if r1 then (if r3 then (k 0 h4) else (∃ x5:Int,x5=(-1)/\(k x5 h4))) else (if r3 then (k 1 h4) else (if (decide (p0 < p1)) then (∃ x6:Int,x6=(-1)/\(k x6 h4)) else (if (decide (p0 > p1)) then (k 1 h4) else (k 0 h4))))) h2) h
/-- cmp.Compare string  -/
def cmp_Compare_string (p0:ByteArray) (p1:ByteArray) (k:(Int)->Heap->Prop) (h:Heap):Prop :=
 cmp_isNaN_string p0 (fun (r1:Bool) h2=>cmp_isNaN_string p1 (fun (r3:Bool) h4=>if r1 then (if r3 then (k 0 h4) else (∃ x5:Int,x5=(-1)/\(k x5 h4))) else (if r3 then (k 1 h4) else (if (Op.bytesLess p0.toList p1.toList) then (∃ x6:Int,x6=(-1)/\(k x6 h4)) else (if (!(Op.bytesLess p0.toList p1.toList || p0.toList == p1.toList)) then (k 1 h4) else (k 0 h4))))) h2) h
/-- cmp.Or int  -/
def cmp_Or_int_l1b (t3_1:Int) (t6_1:Slc) (t7_1:Int) (t8_1:Int) (k:(Int)->Heap->Prop) (nx1:(Int)->Heap->Prop) (h_1:Heap):Prop :=
 if (decide (t8_1 < t7_1)) then (∃ a1:Addr,t6_1.a=some a1/\(0:Int)<=t8_1/\t8_1 < (t6_1.len:Int)/\(∃ v2:Int,cellH h_1 (a1.add (t8_1.toNat * 1))=some (.int .i64 v2)/\(if (v2 != t3_1) then (k v2 h_1) else (nx1 (IntKind.i64.wrap (t8_1 + 1)) h_1)))) else (k t3_1 h_1)
def cmp_Or_int_l1 (t3_1:Int) (t6_1:Slc) (t7_1:Int) (i8:Int) (k:(Int)->Heap->Prop) (h:Heap):Prop :=
 ∃ (I:Int->Heap->Prop) (μ:Int->Heap->Nat),I i8 h/\∀ (t8_1:Int) (h:Heap),I t8_1 h->cmp_Or_int_l1b t3_1 t6_1 t7_1 t8_1 k (fun s h'=>I s h'/\μ s h' < μ t8_1 h) h
def cmp_Or_int (p0:Slc) (k:(Int)->Heap->Prop) (h:Heap):Prop :=
 cmp_Or_int_l1 0 p0 (p0.len:Int) 0 k h
/-- quaestor piece.ids -/
def piece_ids (p0:S_api_Id) (p1:S_api_Id) (k:(Int)->Heap->Prop) (h:Heap):Prop :=
 ∃ (b1:Nat) (h2:Heap),b1=h.size/\h2=h.push (.cells (S_api_Id.cs p0).toArray 87)/\(∃ (b3:Nat) (h4:Heap),b3=h2.size/\h4=h2.push (.cells (S_api_Id.cs p1).toArray 87)/\(∃ v5:Int,cellH h4 (⟨b1,0,none⟩:Addr)=some (.int .u64 v5)/\(∃ v6:Int,cellH h4 (⟨b3,0,none⟩:Addr)=some (.int .u64 v6)/\(∃ v7:Int,cellH h4 ((⟨b1,0,none⟩:Addr).add 1)=some (.int .u16 v7)/\(∃ v8:Int,cellH h4 ((⟨b3,0,none⟩:Addr).add 1)=some (.int .u16 v8)/\(cmp_Compare_uint64 v5 v6 (fun (r9:Int) h10=>cellH h10 ((⟨b3,0,none⟩:Addr).add 1)=some (.int .u16 v8)/\cellH h10 ((⟨b1,0,none⟩:Addr).add 1)=some (.int .u16 v7)/\(cmp_Compare_uint16 v7 v8 (fun (r13:Int) h14=>∃ (b15:Nat) (h16:Heap),b15=h14.size/\h16=h14.push (.cells ([.int .i64 r9,.int .i64 r13]).toArray 3)/\(cmp_Or_int (⟨some ⟨b15,0,none⟩,2,2⟩:Slc) (fun (r17:Int) h18=>k r17 h18) h16)) h10)) h4))))))
/-- quaestor piece.compare -/
def piece_compare (p0:S_api_Piece) (p1:S_api_Piece) (k:(Int)->Heap->Prop) (h:Heap):Prop :=
 ∃ (b1:Nat) (h2:Heap),b1=h.size/\h2=h.push (.cells (S_api_Piece.cs p0).toArray 89)/\(∃ (b3:Nat) (h4:Heap),b3=h2.size/\h4=h2.push (.cells (S_api_Piece.cs p1).toArray 89)/\(∃ v5:ByteArray,cellH h4 (⟨b1,0,none⟩:Addr)=some (.string v5)/\(∃ v6:ByteArray,cellH h4 (⟨b3,0,none⟩:Addr)=some (.string v6)/\(∃ v7:Int,cellH h4 ((⟨b1,0,none⟩:Addr).add 1)=some (.int .i64 v7)/\(∃ v8:Int,cellH h4 ((⟨b3,0,none⟩:Addr).add 1)=some (.int .i64 v8)/\(∃ v9:S_api_Id,CellsAt h4 ((⟨b1,0,none⟩:Addr).add 3) (S_api_Id.cs v9)/\(∃ v10:S_api_Id,CellsAt h4 ((⟨b3,0,none⟩:Addr).add 3) (S_api_Id.cs v10)/\(cmp_Compare_string v5 v6 (fun (r11:Int) h12=>CellsAt h12 ((⟨b3,0,none⟩:Addr).add 3) (S_api_Id.cs v10)/\CellsAt h12 ((⟨b1,0,none⟩:Addr).add 3) (S_api_Id.cs v9)/\cellH h12 ((⟨b3,0,none⟩:Addr).add 1)=some (.int .i64 v8)/\cellH h12 ((⟨b1,0,none⟩:Addr).add 1)=some (.int .i64 v7)/\(cmp_Compare_int64 v7 v8 (fun (r17:Int) h18=>CellsAt h18 ((⟨b3,0,none⟩:Addr).add 3) (S_api_Id.cs v10)/\CellsAt h18 ((⟨b1,0,none⟩:Addr).add 3) (S_api_Id.cs v9)/\(piece_ids v9 v10 (fun (r21:Int) h22=>∃ (b23:Nat) (h24:Heap),b23=h22.size/\h24=h22.push (.cells ([.int .i64 r11,.int .i64 r17,.int .i64 r21]).toArray 3)/\(cmp_Or_int (⟨some ⟨b23,0,none⟩,3,3⟩:Slc) (fun (r25:Int) h26=>k r25 h26) h24)) h18)) h12)) h4))))))))
/-- quaestor query.less -/
def query_less (p0:S_api_Piece) (p1:S_api_Piece) (k:(Int)->Heap->Prop) (h:Heap):Prop :=
 ∃ (b1:Nat) (h2:Heap),b1=h.size/\h2=h.push (.cells (S_api_Piece.cs p0).toArray 89)/\(∃ (b3:Nat) (h4:Heap),b3=h2.size/\h4=h2.push (.cells (S_api_Piece.cs p1).toArray 89)/\(∃ v5:Int,cellH h4 ((⟨b1,0,none⟩:Addr).add 2)=some (.int .i64 v5)/\(∃ v6:Int,cellH h4 ((⟨b3,0,none⟩:Addr).add 2)=some (.int .i64 v6)/\(if (decide (v5 < v6)) then (∃ x7:Int,x7=(-1)/\(k x7 h4)) else (∃ v8:Int,cellH h4 ((⟨b1,0,none⟩:Addr).add 2)=some (.int .i64 v8)/\(∃ v9:Int,cellH h4 ((⟨b3,0,none⟩:Addr).add 2)=some (.int .i64 v9)/\(if (decide (v8 > v9)) then (k 1 h4) else (k 0 h4))))))))
theorem piece_Check_ok:CallOk Go.Proofs.Tryz.prog 42:=⟨_,Go.Proofs.Tryz.func42,by kernel_rfl,by kernel_rfl⟩
theorem piece_Check_ref {D:Bool} (p0:S_api_Piece) (k:(Int)->Heap->Prop) (h:Heap) (H:piece_Check p0 k h):CallsHD D Go.Proofs.Tryz.prog 42 #[.agg (S_api_Piece.cs p0).toArray] h (fun v h'=>∃ r:Int,v = .int .i64 r/\k r h'):=by
 refine f_enter (N:=13) Go.Proofs.Tryz.func42 rfl rfl rfl (fun w0=>?_)
 unfold piece_Check at H
 refine c_weak [(0,.agg (S_api_Piece.cs p0).toArray)] ⟨rfl,trivial⟩ ?_
 refine c_seq ?_
 refine c_region ?_
 obtain ⟨b1,h2,eb1,eh2,H⟩:=H
 refine w_h (h_box rfl rfl eb1 eh2) rfl rfl ?_
 refine w_p tok rfl rfl rfl ?_
 refine w_end ?_
 refine x_seq ?_
 refine c_seq ?_
 refine c_seq ?_
 refine c_region ?_
 refine w_p tok rfl rfl rfl ?_
 obtain ⟨v3,hv3,H⟩:=H
 refine w_y (y_ld tok rfl rfl rfl rfl hv3) rfl rfl ?_
 refine w_p tok rfl rfl rfl ?_
 refine w_p tok rfl rfl rfl ?_
 refine w_p tok rfl rfl rfl ?_
 refine w_cut 5 (α:=Bool) (fun (s:Bool)=>[(12,.bool s)]) (fun (s:Bool) h=>piece_Check_g1 s k h) ?_ ?_
 ·
  rintro t12_1 h_1 H
  replace H:piece_Check_g1 t12_1 k h_1:=H
  unfold piece_Check_g1 at H
  refine w_weak [(12,.bool t12_1)] ⟨rfl,trivial⟩ ?_
  refine w_end ?_
  refine x_seq ?_
  refine c_if H rfl (fun H=>?_) (fun H=>?_)
  ·
   refine c_seq ?_
   refine c_region ?_
   refine w_p tok rfl rfl rfl ?_
   refine w_end ?_
   refine x_seq ?_
   refine c_ret ?_
   refine x_tr ?_
   exact x_ret _ rfl _ rfl ⟨1,rfl,H⟩
  ·
   refine c_skip ?_
   refine x_seq ?_
   refine c_seq ?_
   refine c_region ?_
   refine w_p tok rfl rfl rfl ?_
   refine w_end ?_
   refine x_seq ?_
   refine c_ret ?_
   exact x_ret _ rfl _ rfl ⟨0,rfl,H⟩
 ·
  refine w_gif (d:=7) H rfl (fun H=>?_) (fun H=>?_)
  ·
   refine w_skip rfl rfl ?_
   refine w_skip rfl rfl ?_
   refine w_skip rfl rfl ?_
   refine w_skip rfl rfl ?_
   refine w_p tok rfl rfl rfl ?_
   exact w_jn true H ⟨rfl,trivial⟩
  ·
   refine w_p tok rfl rfl rfl ?_
   obtain ⟨v4,hv4,H⟩:=H
   refine w_y (y_ld tok rfl rfl rfl rfl hv4) rfl rfl ?_
   refine w_p tok rfl rfl rfl ?_
   refine w_p tok rfl rfl rfl ?_
   refine w_p tok rfl rfl rfl ?_
   exact w_jn (decide ((v4.size:Int) > 200)) H ⟨rfl,trivial⟩
theorem cmp_isNaN_int64_ok:CallOk Go.Proofs.Tryz.prog 68:=⟨_,Go.Proofs.Tryz.func68,by kernel_rfl,by kernel_rfl⟩
theorem cmp_isNaN_int64_ref {D:Bool} (p0:Int) (k:(Bool)->Heap->Prop) (h:Heap) (H:cmp_isNaN_int64 p0 k h):CallsHD D Go.Proofs.Tryz.prog 68 #[.int .i64 p0] h (fun v h'=>∃ r:Bool,v = .bool r/\k r h'):=by
 refine f_enter (N:=6) Go.Proofs.Tryz.func68 rfl rfl rfl (fun w0=>?_)
 unfold cmp_isNaN_int64 at H
 refine c_weak [(0,.int .i64 p0)] ⟨rfl,trivial⟩ ?_
 refine c_seq ?_
 refine c_region ?_
 refine w_p tok rfl rfl rfl ?_
 refine w_end ?_
 refine x_seq ?_
 refine c_seq ?_
 refine c_region ?_
 refine w_p tok rfl rfl rfl ?_
 refine w_p tok rfl rfl rfl ?_
 refine w_p tok rfl rfl rfl ?_
 refine w_p tok rfl rfl rfl ?_
 refine w_end ?_
 refine x_seq ?_
 refine c_ret ?_
 exact x_ret _ rfl _ rfl ⟨(p0 != p0),rfl,H⟩
theorem cmp_isNaN_uint64_ok:CallOk Go.Proofs.Tryz.prog 92:=⟨_,Go.Proofs.Tryz.func92,by kernel_rfl,by kernel_rfl⟩
theorem cmp_isNaN_uint64_ref {D:Bool} (p0:Int) (k:(Bool)->Heap->Prop) (h:Heap) (H:cmp_isNaN_uint64 p0 k h):CallsHD D Go.Proofs.Tryz.prog 92 #[.int .u64 p0] h (fun v h'=>∃ r:Bool,v = .bool r/\k r h'):=by
 refine f_enter (N:=6) Go.Proofs.Tryz.func92 rfl rfl rfl (fun w0=>?_)
 unfold cmp_isNaN_uint64 at H
 refine c_weak [(0,.int .u64 p0)] ⟨rfl,trivial⟩ ?_
 refine c_seq ?_
 refine c_region ?_
 refine w_p tok rfl rfl rfl ?_
 refine w_end ?_
 refine x_seq ?_
 refine c_seq ?_
 refine c_region ?_
 refine w_p tok rfl rfl rfl ?_
 refine w_p tok rfl rfl rfl ?_
 refine w_p tok rfl rfl rfl ?_
 refine w_p tok rfl rfl rfl ?_
 refine w_end ?_
 refine x_seq ?_
 refine c_ret ?_
 exact x_ret _ rfl _ rfl ⟨(p0 != p0),rfl,H⟩
theorem cmp_isNaN_uint16_ok:CallOk Go.Proofs.Tryz.prog 93:=⟨_,Go.Proofs.Tryz.func93,by kernel_rfl,by kernel_rfl⟩
theorem cmp_isNaN_uint16_ref {D:Bool} (p0:Int) (k:(Bool)->Heap->Prop) (h:Heap) (H:cmp_isNaN_uint16 p0 k h):CallsHD D Go.Proofs.Tryz.prog 93 #[.int .u16 p0] h (fun v h'=>∃ r:Bool,v = .bool r/\k r h'):=by
 refine f_enter (N:=6) Go.Proofs.Tryz.func93 rfl rfl rfl (fun w0=>?_)
 unfold cmp_isNaN_uint16 at H
 refine c_weak [(0,.int .u16 p0)] ⟨rfl,trivial⟩ ?_
 refine c_seq ?_
 refine c_region ?_
 refine w_p tok rfl rfl rfl ?_
 refine w_end ?_
 refine x_seq ?_
 refine c_seq ?_
 refine c_region ?_
 refine w_p tok rfl rfl rfl ?_
 refine w_p tok rfl rfl rfl ?_
 refine w_p tok rfl rfl rfl ?_
 refine w_p tok rfl rfl rfl ?_
 refine w_end ?_
 refine x_seq ?_
 refine c_ret ?_
 exact x_ret _ rfl _ rfl ⟨(p0 != p0),rfl,H⟩
theorem cmp_isNaN_string_ok:CallOk Go.Proofs.Tryz.prog 97:=⟨_,Go.Proofs.Tryz.func97,by kernel_rfl,by kernel_rfl⟩
theorem cmp_isNaN_string_ref {D:Bool} (p0:ByteArray) (k:(Bool)->Heap->Prop) (h:Heap) (H:cmp_isNaN_string p0 k h):CallsHD D Go.Proofs.Tryz.prog 97 #[.string p0] h (fun v h'=>∃ r:Bool,v = .bool r/\k r h'):=by
 refine f_enter (N:=6) Go.Proofs.Tryz.func97 rfl rfl rfl (fun w0=>?_)
 unfold cmp_isNaN_string at H
 refine c_weak [(0,.string p0)] ⟨rfl,trivial⟩ ?_
 refine c_seq ?_
 refine c_region ?_
 refine w_p tok rfl rfl rfl ?_
 refine w_end ?_
 refine x_seq ?_
 refine c_seq ?_
 refine c_region ?_
 refine w_p tok rfl rfl rfl ?_
 refine w_p tok rfl rfl rfl ?_
 refine w_p tok rfl rfl rfl ?_
 refine w_p tok rfl rfl rfl ?_
 refine w_end ?_
 refine x_seq ?_
 refine c_ret ?_
 exact x_ret _ rfl _ rfl ⟨(!(p0.toList == p0.toList)),rfl,H⟩
theorem cmp_Compare_int64_ok:CallOk Go.Proofs.Tryz.prog 45:=⟨_,Go.Proofs.Tryz.func45,by kernel_rfl,by kernel_rfl⟩
theorem cmp_Compare_int64_ref {D:Bool} (p0:Int) (p1:Int) (k:(Int)->Heap->Prop) (h:Heap) (H:cmp_Compare_int64 p0 p1 k h):CallsHD D Go.Proofs.Tryz.prog 45 #[.int .i64 p0,.int .i64 p1] h (fun v h'=>∃ r:Int,v = .int .i64 r/\k r h'):=by
 refine f_enter (N:=20) Go.Proofs.Tryz.func45 rfl rfl rfl (fun w0=>?_)
 unfold cmp_Compare_int64 at H
 refine c_weak [(0,.int .i64 p0),(1,.int .i64 p1)] ⟨rfl,rfl,trivial⟩ ?_
 refine c_seq ?_
 refine c_region ?_
 refine w_p tok rfl rfl rfl ?_
 refine w_end ?_
 refine x_seq ?_
 refine c_seq ?_
 refine c_region ?_
 refine w_p tok rfl rfl rfl ?_
 refine w_call cmp_isNaN_int64_ok (cmp_isNaN_int64_ref _ _ _ H) rfl rfl rfl rfl ?_
 rintro _ h2 ⟨r1,rfl,H⟩
 refine w_p tok rfl rfl rfl ?_
 refine w_end ?_
 refine x_seq ?_
 refine c_seq ?_
 refine c_region ?_
 refine w_p tok rfl rfl rfl ?_
 refine w_call cmp_isNaN_int64_ok (cmp_isNaN_int64_ref _ _ _ H) rfl rfl rfl rfl ?_
 rintro _ h4 ⟨r3,rfl,H⟩
 refine w_p tok rfl rfl rfl ?_
 refine w_end ?_
 refine x_seq ?_
 refine c_seq ?_
 refine c_seq ?_
 refine c_region ?_
 refine w_p tok rfl rfl rfl ?_
 refine w_end ?_
 refine x_seq ?_
 refine c_if H rfl (fun H=>?_) (fun H=>?_)
 ·
  refine c_seq ?_
  refine c_seq ?_
  refine c_region ?_
  refine w_p tok rfl rfl rfl ?_
  refine w_end ?_
  refine x_seq ?_
  refine c_weak [(12,.bool r3)] ⟨rfl,trivial⟩ ?_
  refine c_if H rfl (fun H=>?_) (fun H=>?_)
  ·
   refine c_seq ?_
   refine c_region ?_
   refine w_p tok rfl rfl rfl ?_
   refine w_end ?_
   refine x_seq ?_
   refine c_ret ?_
   refine x_tr ?_
   refine x_tr ?_
   exact x_ret _ rfl _ rfl ⟨0,rfl,H⟩
  ·
   refine c_skip ?_
   refine x_seq ?_
   refine c_seq ?_
   refine c_region ?_
   obtain ⟨x5,ex5,H⟩:=H
   refine w_pe tok rfl (congrArg (fun z=>(.int .i64 z:Value)) ex5) rfl rfl ?_
   refine w_end ?_
   refine x_seq ?_
   refine c_ret ?_
   refine x_tr ?_
   exact x_ret _ rfl _ rfl ⟨x5,rfl,H⟩
 ·
  refine c_skip ?_
  refine x_seq ?_
  refine c_weak [(0,.int .i64 p0),(1,.int .i64 p1),(6,.bool r3)] ⟨rfl,rfl,rfl,trivial⟩ ?_
  refine c_seq ?_
  refine c_seq ?_
  refine c_region ?_
  refine w_p tok rfl rfl rfl ?_
  refine w_end ?_
  refine x_seq ?_
  refine c_if H rfl (fun H=>?_) (fun H=>?_)
  ·
   refine c_seq ?_
   refine c_region ?_
   refine w_p tok rfl rfl rfl ?_
   refine w_end ?_
   refine x_seq ?_
   refine c_ret ?_
   refine x_tr ?_
   exact x_ret _ rfl _ rfl ⟨1,rfl,H⟩
  ·
   refine c_skip ?_
   refine x_seq ?_
   refine c_seq ?_
   refine c_seq ?_
   refine c_region ?_
   refine w_p tok rfl rfl rfl ?_
   refine w_p tok rfl rfl rfl ?_
   refine w_p tok rfl rfl rfl ?_
   refine w_end ?_
   refine x_seq ?_
   refine c_if H rfl (fun H=>?_) (fun H=>?_)
   ·
    refine c_seq ?_
    refine c_region ?_
    obtain ⟨x6,ex6,H⟩:=H
    refine w_pe tok rfl (congrArg (fun z=>(.int .i64 z:Value)) ex6) rfl rfl ?_
    refine w_end ?_
    refine x_seq ?_
    refine c_weak [(4,.int .i64 x6)] ⟨rfl,trivial⟩ ?_
    refine c_ret ?_
    refine x_tr ?_
    exact x_ret _ rfl _ rfl ⟨x6,rfl,H⟩
   ·
    refine c_skip ?_
    refine x_seq ?_
    refine c_seq ?_
    refine c_seq ?_
    refine c_region ?_
    refine w_p tok rfl rfl rfl ?_
    refine w_p tok rfl rfl rfl ?_
    refine w_p tok rfl rfl rfl ?_
    refine w_end ?_
    refine x_seq ?_
    refine c_weak [(19,.bool (decide (p0 > p1)))] ⟨rfl,trivial⟩ ?_
    refine c_if H rfl (fun H=>?_) (fun H=>?_)
    ·
     refine c_seq ?_
     refine c_region ?_
     refine w_p tok rfl rfl rfl ?_
     refine w_end ?_
     refine x_seq ?_
     refine c_ret ?_
     refine x_tr ?_
     exact x_ret _ rfl _ rfl ⟨1,rfl,H⟩
    ·
     refine c_skip ?_
     refine x_seq ?_
     refine c_seq ?_
     refine c_region ?_
     refine w_p tok rfl rfl rfl ?_
     refine w_end ?_
     refine x_seq ?_
     refine c_ret ?_
     exact x_ret _ rfl _ rfl ⟨0,rfl,H⟩
theorem cmp_Compare_uint64_ok:CallOk Go.Proofs.Tryz.prog 66:=⟨_,Go.Proofs.Tryz.func66,by kernel_rfl,by kernel_rfl⟩
theorem cmp_Compare_uint64_ref {D:Bool} (p0:Int) (p1:Int) (k:(Int)->Heap->Prop) (h:Heap) (H:cmp_Compare_uint64 p0 p1 k h):CallsHD D Go.Proofs.Tryz.prog 66 #[.int .u64 p0,.int .u64 p1] h (fun v h'=>∃ r:Int,v = .int .i64 r/\k r h'):=by
 refine f_enter (N:=20) Go.Proofs.Tryz.func66 rfl rfl rfl (fun w0=>?_)
 unfold cmp_Compare_uint64 at H
 refine c_weak [(0,.int .u64 p0),(1,.int .u64 p1)] ⟨rfl,rfl,trivial⟩ ?_
 refine c_seq ?_
 refine c_region ?_
 refine w_p tok rfl rfl rfl ?_
 refine w_end ?_
 refine x_seq ?_
 refine c_seq ?_
 refine c_region ?_
 refine w_p tok rfl rfl rfl ?_
 refine w_call cmp_isNaN_uint64_ok (cmp_isNaN_uint64_ref _ _ _ H) rfl rfl rfl rfl ?_
 rintro _ h2 ⟨r1,rfl,H⟩
 refine w_p tok rfl rfl rfl ?_
 refine w_end ?_
 refine x_seq ?_
 refine c_seq ?_
 refine c_region ?_
 refine w_p tok rfl rfl rfl ?_
 refine w_call cmp_isNaN_uint64_ok (cmp_isNaN_uint64_ref _ _ _ H) rfl rfl rfl rfl ?_
 rintro _ h4 ⟨r3,rfl,H⟩
 refine w_p tok rfl rfl rfl ?_
 refine w_end ?_
 refine x_seq ?_
 refine c_seq ?_
 refine c_seq ?_
 refine c_region ?_
 refine w_p tok rfl rfl rfl ?_
 refine w_end ?_
 refine x_seq ?_
 refine c_if H rfl (fun H=>?_) (fun H=>?_)
 ·
  refine c_seq ?_
  refine c_seq ?_
  refine c_region ?_
  refine w_p tok rfl rfl rfl ?_
  refine w_end ?_
  refine x_seq ?_
  refine c_weak [(12,.bool r3)] ⟨rfl,trivial⟩ ?_
  refine c_if H rfl (fun H=>?_) (fun H=>?_)
  ·
   refine c_seq ?_
   refine c_region ?_
   refine w_p tok rfl rfl rfl ?_
   refine w_end ?_
   refine x_seq ?_
   refine c_ret ?_
   refine x_tr ?_
   refine x_tr ?_
   exact x_ret _ rfl _ rfl ⟨0,rfl,H⟩
  ·
   refine c_skip ?_
   refine x_seq ?_
   refine c_seq ?_
   refine c_region ?_
   obtain ⟨x5,ex5,H⟩:=H
   refine w_pe tok rfl (congrArg (fun z=>(.int .i64 z:Value)) ex5) rfl rfl ?_
   refine w_end ?_
   refine x_seq ?_
   refine c_ret ?_
   refine x_tr ?_
   exact x_ret _ rfl _ rfl ⟨x5,rfl,H⟩
 ·
  refine c_skip ?_
  refine x_seq ?_
  refine c_weak [(0,.int .u64 p0),(1,.int .u64 p1),(6,.bool r3)] ⟨rfl,rfl,rfl,trivial⟩ ?_
  refine c_seq ?_
  refine c_seq ?_
  refine c_region ?_
  refine w_p tok rfl rfl rfl ?_
  refine w_end ?_
  refine x_seq ?_
  refine c_if H rfl (fun H=>?_) (fun H=>?_)
  ·
   refine c_seq ?_
   refine c_region ?_
   refine w_p tok rfl rfl rfl ?_
   refine w_end ?_
   refine x_seq ?_
   refine c_ret ?_
   refine x_tr ?_
   exact x_ret _ rfl _ rfl ⟨1,rfl,H⟩
  ·
   refine c_skip ?_
   refine x_seq ?_
   refine c_seq ?_
   refine c_seq ?_
   refine c_region ?_
   refine w_p tok rfl rfl rfl ?_
   refine w_p tok rfl rfl rfl ?_
   refine w_p tok rfl rfl rfl ?_
   refine w_end ?_
   refine x_seq ?_
   refine c_if H rfl (fun H=>?_) (fun H=>?_)
   ·
    refine c_seq ?_
    refine c_region ?_
    obtain ⟨x6,ex6,H⟩:=H
    refine w_pe tok rfl (congrArg (fun z=>(.int .i64 z:Value)) ex6) rfl rfl ?_
    refine w_end ?_
    refine x_seq ?_
    refine c_weak [(4,.int .i64 x6)] ⟨rfl,trivial⟩ ?_
    refine c_ret ?_
    refine x_tr ?_
    exact x_ret _ rfl _ rfl ⟨x6,rfl,H⟩
   ·
    refine c_skip ?_
    refine x_seq ?_
    refine c_seq ?_
    refine c_seq ?_
    refine c_region ?_
    refine w_p tok rfl rfl rfl ?_
    refine w_p tok rfl rfl rfl ?_
    refine w_p tok rfl rfl rfl ?_
    refine w_end ?_
    refine x_seq ?_
    refine c_weak [(19,.bool (decide (p0 > p1)))] ⟨rfl,trivial⟩ ?_
    refine c_if H rfl (fun H=>?_) (fun H=>?_)
    ·
     refine c_seq ?_
     refine c_region ?_
     refine w_p tok rfl rfl rfl ?_
     refine w_end ?_
     refine x_seq ?_
     refine c_ret ?_
     refine x_tr ?_
     exact x_ret _ rfl _ rfl ⟨1,rfl,H⟩
    ·
     refine c_skip ?_
     refine x_seq ?_
     refine c_seq ?_
     refine c_region ?_
     refine w_p tok rfl rfl rfl ?_
     refine w_end ?_
     refine x_seq ?_
     refine c_ret ?_
     exact x_ret _ rfl _ rfl ⟨0,rfl,H⟩
theorem cmp_Compare_uint16_ok:CallOk Go.Proofs.Tryz.prog 67:=⟨_,Go.Proofs.Tryz.func67,by kernel_rfl,by kernel_rfl⟩
theorem cmp_Compare_uint16_ref {D:Bool} (p0:Int) (p1:Int) (k:(Int)->Heap->Prop) (h:Heap) (H:cmp_Compare_uint16 p0 p1 k h):CallsHD D Go.Proofs.Tryz.prog 67 #[.int .u16 p0,.int .u16 p1] h (fun v h'=>∃ r:Int,v = .int .i64 r/\k r h'):=by
 refine f_enter (N:=20) Go.Proofs.Tryz.func67 rfl rfl rfl (fun w0=>?_)
 unfold cmp_Compare_uint16 at H
 refine c_weak [(0,.int .u16 p0),(1,.int .u16 p1)] ⟨rfl,rfl,trivial⟩ ?_
 refine c_seq ?_
 refine c_region ?_
 refine w_p tok rfl rfl rfl ?_
 refine w_end ?_
 refine x_seq ?_
 refine c_seq ?_
 refine c_region ?_
 refine w_p tok rfl rfl rfl ?_
 refine w_call cmp_isNaN_uint16_ok (cmp_isNaN_uint16_ref _ _ _ H) rfl rfl rfl rfl ?_
 rintro _ h2 ⟨r1,rfl,H⟩
 refine w_p tok rfl rfl rfl ?_
 refine w_end ?_
 refine x_seq ?_
 refine c_seq ?_
 refine c_region ?_
 refine w_p tok rfl rfl rfl ?_
 refine w_call cmp_isNaN_uint16_ok (cmp_isNaN_uint16_ref _ _ _ H) rfl rfl rfl rfl ?_
 rintro _ h4 ⟨r3,rfl,H⟩
 refine w_p tok rfl rfl rfl ?_
 refine w_end ?_
 refine x_seq ?_
 refine c_seq ?_
 refine c_seq ?_
 refine c_region ?_
 refine w_p tok rfl rfl rfl ?_
 refine w_end ?_
 refine x_seq ?_
 refine c_if H rfl (fun H=>?_) (fun H=>?_)
 ·
  refine c_seq ?_
  refine c_seq ?_
  refine c_region ?_
  refine w_p tok rfl rfl rfl ?_
  refine w_end ?_
  refine x_seq ?_
  refine c_weak [(12,.bool r3)] ⟨rfl,trivial⟩ ?_
  refine c_if H rfl (fun H=>?_) (fun H=>?_)
  ·
   refine c_seq ?_
   refine c_region ?_
   refine w_p tok rfl rfl rfl ?_
   refine w_end ?_
   refine x_seq ?_
   refine c_ret ?_
   refine x_tr ?_
   refine x_tr ?_
   exact x_ret _ rfl _ rfl ⟨0,rfl,H⟩
  ·
   refine c_skip ?_
   refine x_seq ?_
   refine c_seq ?_
   refine c_region ?_
   obtain ⟨x5,ex5,H⟩:=H
   refine w_pe tok rfl (congrArg (fun z=>(.int .i64 z:Value)) ex5) rfl rfl ?_
   refine w_end ?_
   refine x_seq ?_
   refine c_ret ?_
   refine x_tr ?_
   exact x_ret _ rfl _ rfl ⟨x5,rfl,H⟩
 ·
  refine c_skip ?_
  refine x_seq ?_
  refine c_weak [(0,.int .u16 p0),(1,.int .u16 p1),(6,.bool r3)] ⟨rfl,rfl,rfl,trivial⟩ ?_
  refine c_seq ?_
  refine c_seq ?_
  refine c_region ?_
  refine w_p tok rfl rfl rfl ?_
  refine w_end ?_
  refine x_seq ?_
  refine c_if H rfl (fun H=>?_) (fun H=>?_)
  ·
   refine c_seq ?_
   refine c_region ?_
   refine w_p tok rfl rfl rfl ?_
   refine w_end ?_
   refine x_seq ?_
   refine c_ret ?_
   refine x_tr ?_
   exact x_ret _ rfl _ rfl ⟨1,rfl,H⟩
  ·
   refine c_skip ?_
   refine x_seq ?_
   refine c_seq ?_
   refine c_seq ?_
   refine c_region ?_
   refine w_p tok rfl rfl rfl ?_
   refine w_p tok rfl rfl rfl ?_
   refine w_p tok rfl rfl rfl ?_
   refine w_end ?_
   refine x_seq ?_
   refine c_if H rfl (fun H=>?_) (fun H=>?_)
   ·
    refine c_seq ?_
    refine c_region ?_
    obtain ⟨x6,ex6,H⟩:=H
    refine w_pe tok rfl (congrArg (fun z=>(.int .i64 z:Value)) ex6) rfl rfl ?_
    refine w_end ?_
    refine x_seq ?_
    refine c_weak [(4,.int .i64 x6)] ⟨rfl,trivial⟩ ?_
    refine c_ret ?_
    refine x_tr ?_
    exact x_ret _ rfl _ rfl ⟨x6,rfl,H⟩
   ·
    refine c_skip ?_
    refine x_seq ?_
    refine c_seq ?_
    refine c_seq ?_
    refine c_region ?_
    refine w_p tok rfl rfl rfl ?_
    refine w_p tok rfl rfl rfl ?_
    refine w_p tok rfl rfl rfl ?_
    refine w_end ?_
    refine x_seq ?_
    refine c_weak [(19,.bool (decide (p0 > p1)))] ⟨rfl,trivial⟩ ?_
    refine c_if H rfl (fun H=>?_) (fun H=>?_)
    ·
     refine c_seq ?_
     refine c_region ?_
     refine w_p tok rfl rfl rfl ?_
     refine w_end ?_
     refine x_seq ?_
     refine c_ret ?_
     refine x_tr ?_
     exact x_ret _ rfl _ rfl ⟨1,rfl,H⟩
    ·
     refine c_skip ?_
     refine x_seq ?_
     refine c_seq ?_
     refine c_region ?_
     refine w_p tok rfl rfl rfl ?_
     refine w_end ?_
     refine x_seq ?_
     refine c_ret ?_
     exact x_ret _ rfl _ rfl ⟨0,rfl,H⟩
theorem cmp_Compare_string_ok:CallOk Go.Proofs.Tryz.prog 72:=⟨_,Go.Proofs.Tryz.func72,by kernel_rfl,by kernel_rfl⟩
theorem cmp_Compare_string_ref {D:Bool} (p0:ByteArray) (p1:ByteArray) (k:(Int)->Heap->Prop) (h:Heap) (H:cmp_Compare_string p0 p1 k h):CallsHD D Go.Proofs.Tryz.prog 72 #[.string p0,.string p1] h (fun v h'=>∃ r:Int,v = .int .i64 r/\k r h'):=by
 refine f_enter (N:=20) Go.Proofs.Tryz.func72 rfl rfl rfl (fun w0=>?_)
 unfold cmp_Compare_string at H
 refine c_weak [(0,.string p0),(1,.string p1)] ⟨rfl,rfl,trivial⟩ ?_
 refine c_seq ?_
 refine c_region ?_
 refine w_p tok rfl rfl rfl ?_
 refine w_end ?_
 refine x_seq ?_
 refine c_seq ?_
 refine c_region ?_
 refine w_p tok rfl rfl rfl ?_
 refine w_call cmp_isNaN_string_ok (cmp_isNaN_string_ref _ _ _ H) rfl rfl rfl rfl ?_
 rintro _ h2 ⟨r1,rfl,H⟩
 refine w_p tok rfl rfl rfl ?_
 refine w_end ?_
 refine x_seq ?_
 refine c_seq ?_
 refine c_region ?_
 refine w_p tok rfl rfl rfl ?_
 refine w_call cmp_isNaN_string_ok (cmp_isNaN_string_ref _ _ _ H) rfl rfl rfl rfl ?_
 rintro _ h4 ⟨r3,rfl,H⟩
 refine w_p tok rfl rfl rfl ?_
 refine w_end ?_
 refine x_seq ?_
 refine c_seq ?_
 refine c_seq ?_
 refine c_region ?_
 refine w_p tok rfl rfl rfl ?_
 refine w_end ?_
 refine x_seq ?_
 refine c_if H rfl (fun H=>?_) (fun H=>?_)
 ·
  refine c_seq ?_
  refine c_seq ?_
  refine c_region ?_
  refine w_p tok rfl rfl rfl ?_
  refine w_end ?_
  refine x_seq ?_
  refine c_weak [(12,.bool r3)] ⟨rfl,trivial⟩ ?_
  refine c_if H rfl (fun H=>?_) (fun H=>?_)
  ·
   refine c_seq ?_
   refine c_region ?_
   refine w_p tok rfl rfl rfl ?_
   refine w_end ?_
   refine x_seq ?_
   refine c_ret ?_
   refine x_tr ?_
   refine x_tr ?_
   exact x_ret _ rfl _ rfl ⟨0,rfl,H⟩
  ·
   refine c_skip ?_
   refine x_seq ?_
   refine c_seq ?_
   refine c_region ?_
   obtain ⟨x5,ex5,H⟩:=H
   refine w_pe tok rfl (congrArg (fun z=>(.int .i64 z:Value)) ex5) rfl rfl ?_
   refine w_end ?_
   refine x_seq ?_
   refine c_ret ?_
   refine x_tr ?_
   exact x_ret _ rfl _ rfl ⟨x5,rfl,H⟩
 ·
  refine c_skip ?_
  refine x_seq ?_
  refine c_weak [(0,.string p0),(1,.string p1),(6,.bool r3)] ⟨rfl,rfl,rfl,trivial⟩ ?_
  refine c_seq ?_
  refine c_seq ?_
  refine c_region ?_
  refine w_p tok rfl rfl rfl ?_
  refine w_end ?_
  refine x_seq ?_
  refine c_if H rfl (fun H=>?_) (fun H=>?_)
  ·
   refine c_seq ?_
   refine c_region ?_
   refine w_p tok rfl rfl rfl ?_
   refine w_end ?_
   refine x_seq ?_
   refine c_ret ?_
   refine x_tr ?_
   exact x_ret _ rfl _ rfl ⟨1,rfl,H⟩
  ·
   refine c_skip ?_
   refine x_seq ?_
   refine c_seq ?_
   refine c_seq ?_
   refine c_region ?_
   refine w_p tok rfl rfl rfl ?_
   refine w_p tok rfl rfl rfl ?_
   refine w_p tok rfl rfl rfl ?_
   refine w_end ?_
   refine x_seq ?_
   refine c_if H rfl (fun H=>?_) (fun H=>?_)
   ·
    refine c_seq ?_
    refine c_region ?_
    obtain ⟨x6,ex6,H⟩:=H
    refine w_pe tok rfl (congrArg (fun z=>(.int .i64 z:Value)) ex6) rfl rfl ?_
    refine w_end ?_
    refine x_seq ?_
    refine c_weak [(4,.int .i64 x6)] ⟨rfl,trivial⟩ ?_
    refine c_ret ?_
    refine x_tr ?_
    exact x_ret _ rfl _ rfl ⟨x6,rfl,H⟩
   ·
    refine c_skip ?_
    refine x_seq ?_
    refine c_seq ?_
    refine c_seq ?_
    refine c_region ?_
    refine w_p tok rfl rfl rfl ?_
    refine w_p tok rfl rfl rfl ?_
    refine w_p tok rfl rfl rfl ?_
    refine w_end ?_
    refine x_seq ?_
    refine c_weak [(19,.bool (!(Op.bytesLess p0.toList p1.toList || p0.toList == p1.toList)))] ⟨rfl,trivial⟩ ?_
    refine c_if H rfl (fun H=>?_) (fun H=>?_)
    ·
     refine c_seq ?_
     refine c_region ?_
     refine w_p tok rfl rfl rfl ?_
     refine w_end ?_
     refine x_seq ?_
     refine c_ret ?_
     refine x_tr ?_
     exact x_ret _ rfl _ rfl ⟨1,rfl,H⟩
    ·
     refine c_skip ?_
     refine x_seq ?_
     refine c_seq ?_
     refine c_region ?_
     refine w_p tok rfl rfl rfl ?_
     refine w_end ?_
     refine x_seq ?_
     refine c_ret ?_
     exact x_ret _ rfl _ rfl ⟨0,rfl,H⟩
theorem cmp_Or_int_ok:CallOk Go.Proofs.Tryz.prog 43:=⟨_,Go.Proofs.Tryz.func43,by kernel_rfl,by kernel_rfl⟩
theorem cmp_Or_int_ref {D:Bool} (p0:Slc) (k:(Int)->Heap->Prop) (h:Heap) (H:cmp_Or_int p0 k h):CallsHD D Go.Proofs.Tryz.prog 43 #[Slc.v p0] h (fun v h'=>∃ r:Int,v = .int .i64 r/\k r h'):=by
 refine f_enter (N:=18) Go.Proofs.Tryz.func43 rfl rfl rfl (fun w0=>?_)
 unfold cmp_Or_int at H
 refine c_weak [(0,Slc.v p0)] ⟨rfl,trivial⟩ ?_
 refine c_seq ?_
 refine c_region ?_
 refine w_p tok rfl rfl rfl ?_
 refine w_end ?_
 refine x_seq ?_
 refine c_seq ?_
 refine c_region ?_
 refine w_p tok rfl rfl rfl ?_
 refine w_end ?_
 refine x_seq ?_
 refine c_seq ?_
 refine c_seq ?_
 refine c_region ?_
 refine w_p tok rfl rfl rfl ?_
 refine w_p tok rfl rfl rfl ?_
 refine w_p tok rfl rfl rfl ?_
 refine w_end ?_
 refine x_seq ?_
 refine c_block ?_
 obtain ⟨I1,μ1,H0,HI⟩:=H
 refine c_loop (σ:=Int) (fun (s:Int)=>[(8,.int .i64 s),(3,.int .i64 0),(6,Slc.v p0),(7,.int .i64 (p0.len:Int))]) I1 μ1 0 H0 ⟨rfl,rfl,rfl,rfl,trivial⟩ ?_
 rintro t8_1 h_1 H
 replace H:=HI t8_1 h_1 H
 unfold cmp_Or_int_l1b at H
 refine c_weak [(8,.int .i64 t8_1),(3,.int .i64 0),(6,Slc.v p0),(7,.int .i64 (p0.len:Int))] ⟨rfl,rfl,rfl,rfl,trivial⟩ ?_
 refine c_seq ?_
 refine c_region ?_
 refine w_p tok rfl rfl rfl ?_
 refine w_end ?_
 refine x_seq ?_
 refine c_seq ?_
 refine c_if H rfl (fun H=>?_) (fun H=>?_)
 ·
  refine c_skip ?_
  refine x_seq ?_
  refine c_seq ?_
  refine c_block ?_
  refine c_seq ?_
  refine c_region ?_
  obtain ⟨a1,ha1,la1,ua1,H⟩:=H
  refine w_y (y_ixa' tok rfl rfl ha1 rfl rfl rfl la1 ua1) rfl rfl ?_
  obtain ⟨v2,hv2,H⟩:=H
  refine w_y (y_ld tok rfl rfl rfl rfl hv2) rfl rfl ?_
  refine w_p tok rfl rfl rfl ?_
  refine w_end ?_
  refine x_seq ?_
  refine c_seq ?_
  refine c_region ?_
  refine w_p tok rfl rfl rfl ?_
  refine w_p tok rfl rfl rfl ?_
  refine w_p tok rfl rfl rfl ?_
  refine w_end ?_
  refine x_seq ?_
  refine c_if H rfl (fun H=>?_) (fun H=>?_)
  ·
   refine c_seq ?_
   refine c_region ?_
   refine w_p tok rfl rfl rfl ?_
   refine w_p tok rfl rfl rfl ?_
   refine w_end ?_
   refine x_seq ?_
   refine c_weak [(2,.int .i64 v2)] ⟨rfl,trivial⟩ ?_
   refine c_ret ?_
   refine x_br ?_
   refine x_tr ?_
   refine x_tr ?_
   refine x_br ?_
   refine x_tr ?_
   exact x_ret _ rfl _ rfl ⟨v2,rfl,H⟩
  ·
   refine c_skip ?_
   refine x_blk ?_
   refine x_seq ?_
   refine c_weak [(8,.int .i64 t8_1),(3,.int .i64 0),(6,Slc.v p0),(7,.int .i64 (p0.len:Int))] ⟨rfl,rfl,rfl,rfl,trivial⟩ ?_
   refine c_region ?_
   refine w_p tok rfl rfl rfl ?_
   refine w_p tok rfl rfl rfl ?_
   refine w_end ?_
   exact x_join (IntKind.i64.wrap (t8_1 + 1)) H ⟨rfl,rfl,rfl,rfl,trivial⟩
 ·
  refine c_exit ?_
  refine x_te ?_
  refine x_te ?_
  refine x_bh ?_
  refine x_seq ?_
  refine c_seq ?_
  refine c_region ?_
  refine w_p tok rfl rfl rfl ?_
  refine w_p tok rfl rfl rfl ?_
  refine w_end ?_
  refine x_seq ?_
  refine c_ret ?_
  exact x_ret _ rfl _ rfl ⟨0,rfl,H⟩
theorem piece_ids_ok:CallOk Go.Proofs.Tryz.prog 44:=⟨_,Go.Proofs.Tryz.func44,by kernel_rfl,by kernel_rfl⟩
theorem piece_ids_ref {D:Bool} (p0:S_api_Id) (p1:S_api_Id) (k:(Int)->Heap->Prop) (h:Heap) (H:piece_ids p0 p1 k h):CallsHD D Go.Proofs.Tryz.prog 44 #[.agg (S_api_Id.cs p0).toArray,.agg (S_api_Id.cs p1).toArray] h (fun v h'=>∃ r:Int,v = .int .i64 r/\k r h'):=by
 refine f_enter (N:=17) Go.Proofs.Tryz.func44 rfl rfl rfl (fun w0=>?_)
 unfold piece_ids at H
 refine c_weak [(0,.agg (S_api_Id.cs p0).toArray),(1,.agg (S_api_Id.cs p1).toArray)] ⟨rfl,rfl,trivial⟩ ?_
 refine c_seq ?_
 refine c_region ?_
 obtain ⟨b1,h2,eb1,eh2,H⟩:=H
 refine w_h (h_box rfl rfl eb1 eh2) rfl rfl ?_
 obtain ⟨b3,h4,eb3,eh4,H⟩:=H
 refine w_h (h_box rfl rfl eb3 eh4) rfl rfl ?_
 refine w_p tok rfl rfl rfl ?_
 refine w_end ?_
 refine x_seq ?_
 refine c_seq ?_
 refine c_sim [(2,.pointer (some (⟨b1,0,none⟩:Addr))),(3,.pointer (some (⟨b3,0,none⟩:Addr)))] (by kernel_rfl) (by kernel_rfl) ⟨rfl,rfl,trivial⟩ (fun wf=>?_)
 refine sP 0 [(2,.pointer (some (⟨b1,0,none⟩:Addr)))] (some 5) wf ⟨rfl,trivial⟩ (fun _=>pf_p tok rfl rfl rfl rfl) (fun P_0=>?_)
 obtain ⟨v5,hv5,H⟩:=H
 refine sL 1 [(5,.pointer (some (⟨b1,0,none⟩:Addr)))] (some 6) wf ⟨rfl,trivial⟩ (pf_y rfl rfl rfl (y_ld tok rfl rfl rfl rfl hv5)) (fun P_1=>?_)
 refine sP 2 [(3,.pointer (some (⟨b3,0,none⟩:Addr)))] (some 7) wf ⟨rfl,trivial⟩ (fun _=>pf_p tok rfl rfl rfl rfl) (fun P_2=>?_)
 obtain ⟨v6,hv6,H⟩:=H
 refine sL 3 [(7,.pointer (some (⟨b3,0,none⟩:Addr)))] (some 8) wf ⟨rfl,trivial⟩ (pf_y rfl rfl rfl (y_ld tok rfl rfl rfl rfl hv6)) (fun P_3=>?_)
 refine sP 5 [(2,.pointer (some (⟨b1,0,none⟩:Addr)))] (some 10) wf ⟨rfl,trivial⟩ (fun _=>pf_p tok rfl rfl rfl rfl) (fun P_5=>?_)
 obtain ⟨v7,hv7,H⟩:=H
 refine sL 6 [(10,.pointer (some ((⟨b1,0,none⟩:Addr).add 1)))] (some 11) wf ⟨rfl,trivial⟩ (pf_y rfl rfl rfl (y_ld tok rfl rfl rfl rfl hv7)) (fun P_6=>?_)
 refine sP 7 [(3,.pointer (some (⟨b3,0,none⟩:Addr)))] (some 12) wf ⟨rfl,trivial⟩ (fun _=>pf_p tok rfl rfl rfl rfl) (fun P_7=>?_)
 obtain ⟨v8,hv8,H⟩:=H
 refine sL 8 [(12,.pointer (some ((⟨b3,0,none⟩:Addr).add 1)))] (some 13) wf ⟨rfl,trivial⟩ (pf_y rfl rfl rfl (y_ld tok rfl rfl rfl rfl hv8)) (fun P_8=>?_)
 refine sim_c 4 [0,1,2,3] [0,1,2,3] (ei:=[(6,.int .u64 v5),(8,.int .u64 v6)]) cmp_Compare_uint64_ok (cmp_Compare_uint64_ref _ _ _ _ H) wf ⟨P_8,P_7 _,P_6,P_5 _,P_3,P_2 _,P_1,P_0 _,trivial⟩ (by kernel_rfl) ⟨rfl,rfl,trivial⟩ (by kernel_rfl) rfl rfl rfl rfl rfl ?_
 rintro _ h10 ⟨r9,rfl,H⟩
 obtain ⟨hy11,hy12,H⟩:=H
 refine sim_re (x:=⟨8,.int .u16 v8,[(12,.pointer (some ((⟨b3,0,none⟩:Addr).add 1)))]⟩) (pf_y rfl rfl rfl (y_ld tok rfl rfl rfl rfl hy11)) (fun P_8=>?_)
 refine sim_re (x:=⟨6,.int .u16 v7,[(10,.pointer (some ((⟨b1,0,none⟩:Addr).add 1)))]⟩) (pf_y rfl rfl rfl (y_ld tok rfl rfl rfl rfl hy12)) (fun P_6=>?_)
 refine sim_c 9 [0,1,2,3,4,5,6,7,8] [0,1,2,3,5,6,7,8] (ei:=[(11,.int .u16 v7),(13,.int .u16 v8)]) cmp_Compare_uint16_ok (cmp_Compare_uint16_ref _ _ _ _ H) wf ⟨P_8,P_7 _,P_6,P_5 _,trivial,trivial,trivial,trivial,trivial⟩ (by kernel_rfl) ⟨rfl,rfl,trivial⟩ (by kernel_rfl) rfl rfl rfl rfl rfl ?_
 rintro _ h14 ⟨r13,rfl,H⟩
 obtain ⟨b15,h16,eb15,eh16,H⟩:=H
 refine sim_h 10 [0,1,2,3,4,5,6,7,8,9] [0,1,2,3,5,6,7,8] (ei:=[(9,.int .i64 r9),(14,.int .i64 r13)]) wf ⟨trivial,trivial,trivial,trivial,trivial,trivial,trivial,trivial,trivial⟩ (by kernel_rfl) ⟨rfl,rfl,trivial⟩ (by kernel_rfl) rfl rfl rfl (h_bs tok rfl rfl rfl rfl rfl rfl rfl eb15 eh16) ?_
 refine sim_c 11 [0,1,2,3,4,5,6,7,8,9,10] [0,1,2,3,5,6,7,8] (ei:=[(15,Slc.v (⟨some ⟨b15,0,none⟩,2,2⟩:Slc))]) cmp_Or_int_ok (cmp_Or_int_ref _ _ _ H) wf ⟨trivial,trivial,trivial,trivial,trivial,trivial,trivial,trivial,trivial⟩ (by kernel_rfl) ⟨rfl,trivial⟩ (by kernel_rfl) rfl rfl rfl rfl rfl ?_
 rintro _ h18 ⟨r17,rfl,H⟩
 refine sP 12 [(16,.int .i64 r17)] (some 4) wf ⟨rfl,trivial⟩ (fun _=>pf_p tok rfl rfl rfl rfl) (fun P_12=>?_)
 refine sim_end wf ⟨P_12 _,trivial,trivial,trivial,trivial,trivial,trivial,trivial,trivial,trivial⟩ (by kernel_rfl) ?_
 clear wf P_0 P_1 P_12 P_2 P_3 P_5 P_6 P_7 P_8
 refine x_seq ?_
 refine c_weak [(4,.int .i64 r17)] ⟨rfl,trivial⟩ ?_
 refine c_ret ?_
 exact x_ret _ rfl _ rfl ⟨r17,rfl,H⟩
theorem piece_compare_ref {D:Bool} (p0:S_api_Piece) (p1:S_api_Piece) (k:(Int)->Heap->Prop) (h:Heap) (H:piece_compare p0 p1 k h):CallsHD D Go.Proofs.Tryz.prog 48 #[.agg (S_api_Piece.cs p0).toArray,.agg (S_api_Piece.cs p1).toArray] h (fun v h'=>∃ r:Int,v = .int .i64 r/\k r h'):=by
 refine f_enter (N:=22) Go.Proofs.Tryz.func48 rfl rfl rfl (fun w0=>?_)
 unfold piece_compare at H
 refine c_weak [(0,.agg (S_api_Piece.cs p0).toArray),(1,.agg (S_api_Piece.cs p1).toArray)] ⟨rfl,rfl,trivial⟩ ?_
 refine c_seq ?_
 refine c_region ?_
 obtain ⟨b1,h2,eb1,eh2,H⟩:=H
 refine w_h (h_box rfl rfl eb1 eh2) rfl rfl ?_
 obtain ⟨b3,h4,eb3,eh4,H⟩:=H
 refine w_h (h_box rfl rfl eb3 eh4) rfl rfl ?_
 refine w_p tok rfl rfl rfl ?_
 refine w_end ?_
 refine x_seq ?_
 refine c_seq ?_
 refine c_sim [(2,.pointer (some (⟨b1,0,none⟩:Addr))),(3,.pointer (some (⟨b3,0,none⟩:Addr)))] (by kernel_rfl) (by kernel_rfl) ⟨rfl,rfl,trivial⟩ (fun wf=>?_)
 refine sP 0 [(2,.pointer (some (⟨b1,0,none⟩:Addr)))] (some 5) wf ⟨rfl,trivial⟩ (fun _=>pf_p tok rfl rfl rfl rfl) (fun P_0=>?_)
 obtain ⟨v5,hv5,H⟩:=H
 refine sL 1 [(5,.pointer (some (⟨b1,0,none⟩:Addr)))] (some 6) wf ⟨rfl,trivial⟩ (pf_y rfl rfl rfl (y_ld tok rfl rfl rfl rfl hv5)) (fun P_1=>?_)
 refine sP 2 [(3,.pointer (some (⟨b3,0,none⟩:Addr)))] (some 7) wf ⟨rfl,trivial⟩ (fun _=>pf_p tok rfl rfl rfl rfl) (fun P_2=>?_)
 obtain ⟨v6,hv6,H⟩:=H
 refine sL 3 [(7,.pointer (some (⟨b3,0,none⟩:Addr)))] (some 8) wf ⟨rfl,trivial⟩ (pf_y rfl rfl rfl (y_ld tok rfl rfl rfl rfl hv6)) (fun P_3=>?_)
 refine sP 5 [(2,.pointer (some (⟨b1,0,none⟩:Addr)))] (some 10) wf ⟨rfl,trivial⟩ (fun _=>pf_p tok rfl rfl rfl rfl) (fun P_5=>?_)
 obtain ⟨v7,hv7,H⟩:=H
 refine sL 6 [(10,.pointer (some ((⟨b1,0,none⟩:Addr).add 1)))] (some 11) wf ⟨rfl,trivial⟩ (pf_y rfl rfl rfl (y_ld tok rfl rfl rfl rfl hv7)) (fun P_6=>?_)
 refine sP 7 [(3,.pointer (some (⟨b3,0,none⟩:Addr)))] (some 12) wf ⟨rfl,trivial⟩ (fun _=>pf_p tok rfl rfl rfl rfl) (fun P_7=>?_)
 obtain ⟨v8,hv8,H⟩:=H
 refine sL 8 [(12,.pointer (some ((⟨b3,0,none⟩:Addr).add 1)))] (some 13) wf ⟨rfl,trivial⟩ (pf_y rfl rfl rfl (y_ld tok rfl rfl rfl rfl hv8)) (fun P_8=>?_)
 refine sP 10 [(2,.pointer (some (⟨b1,0,none⟩:Addr)))] (some 15) wf ⟨rfl,trivial⟩ (fun _=>pf_p tok rfl rfl rfl rfl) (fun P_10=>?_)
 obtain ⟨v9,hv9,H⟩:=H
 refine sL 11 [(15,.pointer (some ((⟨b1,0,none⟩:Addr).add 3)))] (some 16) wf ⟨rfl,trivial⟩ (pf_y rfl rfl rfl (y_lda tok rfl rfl rfl rfl rfl hv9)) (fun P_11=>?_)
 refine sP 12 [(3,.pointer (some (⟨b3,0,none⟩:Addr)))] (some 17) wf ⟨rfl,trivial⟩ (fun _=>pf_p tok rfl rfl rfl rfl) (fun P_12=>?_)
 obtain ⟨v10,hv10,H⟩:=H
 refine sL 13 [(17,.pointer (some ((⟨b3,0,none⟩:Addr).add 3)))] (some 18) wf ⟨rfl,trivial⟩ (pf_y rfl rfl rfl (y_lda tok rfl rfl rfl rfl rfl hv10)) (fun P_13=>?_)
 refine sim_c 4 [0,1,2,3] [0,1,2,3] (ei:=[(6,.string v5),(8,.string v6)]) cmp_Compare_string_ok (cmp_Compare_string_ref _ _ _ _ H) wf ⟨P_13,P_12 _,P_11,P_10 _,P_8,P_7 _,P_6,P_5 _,P_3,P_2 _,P_1,P_0 _,trivial⟩ (by kernel_rfl) ⟨rfl,rfl,trivial⟩ (by kernel_rfl) rfl rfl rfl rfl rfl ?_
 rintro _ h12 ⟨r11,rfl,H⟩
 obtain ⟨hy13,hy14,hy15,hy16,H⟩:=H
 refine sim_re (x:=⟨13,.agg (S_api_Id.cs v10).toArray,[(17,.pointer (some ((⟨b3,0,none⟩:Addr).add 3)))]⟩) (pf_y rfl rfl rfl (y_lda tok rfl rfl rfl rfl rfl hy13)) (fun P_13=>?_)
 refine sim_re (x:=⟨11,.agg (S_api_Id.cs v9).toArray,[(15,.pointer (some ((⟨b1,0,none⟩:Addr).add 3)))]⟩) (pf_y rfl rfl rfl (y_lda tok rfl rfl rfl rfl rfl hy14)) (fun P_11=>?_)
 refine sim_re (x:=⟨8,.int .i64 v8,[(12,.pointer (some ((⟨b3,0,none⟩:Addr).add 1)))]⟩) (pf_y rfl rfl rfl (y_ld tok rfl rfl rfl rfl hy15)) (fun P_8=>?_)
 refine sim_re (x:=⟨6,.int .i64 v7,[(10,.pointer (some ((⟨b1,0,none⟩:Addr).add 1)))]⟩) (pf_y rfl rfl rfl (y_ld tok rfl rfl rfl rfl hy16)) (fun P_6=>?_)
 refine sim_c 9 [0,1,2,3,4,5,6,7,8] [0,1,2,3,5,6,7,8] (ei:=[(11,.int .i64 v7),(13,.int .i64 v8)]) cmp_Compare_int64_ok (cmp_Compare_int64_ref _ _ _ _ H) wf ⟨P_13,P_12 _,P_11,P_10 _,P_8,P_7 _,P_6,P_5 _,trivial,trivial,trivial,trivial,trivial⟩ (by kernel_rfl) ⟨rfl,rfl,trivial⟩ (by kernel_rfl) rfl rfl rfl rfl rfl ?_
 rintro _ h18 ⟨r17,rfl,H⟩
 obtain ⟨hy19,hy20,H⟩:=H
 refine sim_re (x:=⟨13,.agg (S_api_Id.cs v10).toArray,[(17,.pointer (some ((⟨b3,0,none⟩:Addr).add 3)))]⟩) (pf_y rfl rfl rfl (y_lda tok rfl rfl rfl rfl rfl hy19)) (fun P_13=>?_)
 refine sim_re (x:=⟨11,.agg (S_api_Id.cs v9).toArray,[(15,.pointer (some ((⟨b1,0,none⟩:Addr).add 3)))]⟩) (pf_y rfl rfl rfl (y_lda tok rfl rfl rfl rfl rfl hy20)) (fun P_11=>?_)
 refine sim_c 14 [0,1,2,3,4,5,6,7,8,9,10,11,12,13] [0,1,2,3,5,6,7,8,10,11,12,13] (ei:=[(16,.agg (S_api_Id.cs v9).toArray),(18,.agg (S_api_Id.cs v10).toArray)]) piece_ids_ok (piece_ids_ref _ _ _ _ H) wf ⟨P_13,P_12 _,P_11,P_10 _,trivial,trivial,trivial,trivial,trivial,trivial,trivial,trivial,trivial⟩ (by kernel_rfl) ⟨rfl,rfl,trivial⟩ (by kernel_rfl) rfl rfl rfl rfl rfl ?_
 rintro _ h22 ⟨r21,rfl,H⟩
 obtain ⟨b23,h24,eb23,eh24,H⟩:=H
 refine sim_h 15 [0,1,2,3,4,5,6,7,8,9,10,11,12,13,14] [0,1,2,3,5,6,7,8,10,11,12,13] (ei:=[(9,.int .i64 r11),(14,.int .i64 r17),(19,.int .i64 r21)]) wf ⟨trivial,trivial,trivial,trivial,trivial,trivial,trivial,trivial,trivial,trivial,trivial,trivial,trivial⟩ (by kernel_rfl) ⟨rfl,rfl,rfl,trivial⟩ (by kernel_rfl) rfl rfl rfl (h_bs tok rfl rfl rfl rfl rfl rfl rfl eb23 eh24) ?_
 refine sim_c 16 [0,1,2,3,4,5,6,7,8,9,10,11,12,13,14,15] [0,1,2,3,5,6,7,8,10,11,12,13] (ei:=[(20,Slc.v (⟨some ⟨b23,0,none⟩,3,3⟩:Slc))]) cmp_Or_int_ok (cmp_Or_int_ref _ _ _ H) wf ⟨trivial,trivial,trivial,trivial,trivial,trivial,trivial,trivial,trivial,trivial,trivial,trivial,trivial⟩ (by kernel_rfl) ⟨rfl,trivial⟩ (by kernel_rfl) rfl rfl rfl rfl rfl ?_
 rintro _ h26 ⟨r25,rfl,H⟩
 refine sP 17 [(21,.int .i64 r25)] (some 4) wf ⟨rfl,trivial⟩ (fun _=>pf_p tok rfl rfl rfl rfl) (fun P_17=>?_)
 refine sim_end wf ⟨P_17 _,trivial,trivial,trivial,trivial,trivial,trivial,trivial,trivial,trivial,trivial,trivial,trivial,trivial⟩ (by kernel_rfl) ?_
 clear wf P_0 P_1 P_10 P_11 P_12 P_13 P_17 P_2 P_3 P_5 P_6 P_7 P_8
 refine x_seq ?_
 refine c_weak [(4,.int .i64 r25)] ⟨rfl,trivial⟩ ?_
 refine c_ret ?_
 exact x_ret _ rfl _ rfl ⟨r25,rfl,H⟩
theorem query_less_ok:CallOk Go.Proofs.Tryz.prog 81:=⟨_,Go.Proofs.Tryz.func81,by kernel_rfl,by kernel_rfl⟩
theorem query_less_ref {D:Bool} (p0:S_api_Piece) (p1:S_api_Piece) (k:(Int)->Heap->Prop) (h:Heap) (H:query_less p0 p1 k h):CallsHD D Go.Proofs.Tryz.prog 81 #[.agg (S_api_Piece.cs p0).toArray,.agg (S_api_Piece.cs p1).toArray] h (fun v h'=>∃ r:Int,v = .int .i64 r/\k r h'):=by
 refine f_enter (N:=17) Go.Proofs.Tryz.func81 rfl rfl rfl (fun w0=>?_)
 unfold query_less at H
 refine c_weak [(0,.agg (S_api_Piece.cs p0).toArray),(1,.agg (S_api_Piece.cs p1).toArray)] ⟨rfl,rfl,trivial⟩ ?_
 refine c_seq ?_
 refine c_region ?_
 obtain ⟨b1,h2,eb1,eh2,H⟩:=H
 refine w_h (h_box rfl rfl eb1 eh2) rfl rfl ?_
 obtain ⟨b3,h4,eb3,eh4,H⟩:=H
 refine w_h (h_box rfl rfl eb3 eh4) rfl rfl ?_
 refine w_p tok rfl rfl rfl ?_
 refine w_end ?_
 refine x_seq ?_
 refine c_seq ?_
 refine c_block ?_
 refine c_seq ?_
 refine c_region ?_
 refine w_p tok rfl rfl rfl ?_
 obtain ⟨v5,hv5,H⟩:=H
 refine w_y (y_ld tok rfl rfl rfl rfl hv5) rfl rfl ?_
 refine w_p tok rfl rfl rfl ?_
 obtain ⟨v6,hv6,H⟩:=H
 refine w_y (y_ld tok rfl rfl rfl rfl hv6) rfl rfl ?_
 refine w_p tok rfl rfl rfl ?_
 refine w_p tok rfl rfl rfl ?_
 refine w_end ?_
 refine x_seq ?_
 refine c_weak [(2,.pointer (some (⟨b1,0,none⟩:Addr))),(3,.pointer (some (⟨b3,0,none⟩:Addr))),(5,.bool (decide (v5 < v6)))] ⟨rfl,rfl,rfl,trivial⟩ ?_
 refine c_if H rfl (fun H=>?_) (fun H=>?_)
 ·
  refine c_seq ?_
  refine c_region ?_
  obtain ⟨x7,ex7,H⟩:=H
  refine w_pe tok rfl (congrArg (fun z=>(.int .i64 z:Value)) ex7) rfl rfl ?_
  refine w_end ?_
  refine x_seq ?_
  refine c_ret ?_
  refine x_br ?_
  refine x_tr ?_
  exact x_ret _ rfl _ rfl ⟨x7,rfl,H⟩
 ·
  refine c_seq ?_
  refine c_region ?_
  refine w_p tok rfl rfl rfl ?_
  obtain ⟨v8,hv8,H⟩:=H
  refine w_y (y_ld tok rfl rfl rfl rfl hv8) rfl rfl ?_
  refine w_p tok rfl rfl rfl ?_
  obtain ⟨v9,hv9,H⟩:=H
  refine w_y (y_ld tok rfl rfl rfl rfl hv9) rfl rfl ?_
  refine w_p tok rfl rfl rfl ?_
  refine w_p tok rfl rfl rfl ?_
  refine w_end ?_
  refine x_seq ?_
  refine c_weak [(11,.bool (decide (v8 > v9)))] ⟨rfl,trivial⟩ ?_
  refine c_if H rfl (fun H=>?_) (fun H=>?_)
  ·
   refine c_seq ?_
   refine c_region ?_
   refine w_p tok rfl rfl rfl ?_
   refine w_end ?_
   refine x_seq ?_
   refine c_ret ?_
   refine x_br ?_
   refine x_tr ?_
   exact x_ret _ rfl _ rfl ⟨1,rfl,H⟩
  ·
   refine c_skip ?_
   refine x_blk ?_
   refine x_seq ?_
   refine c_seq ?_
   refine c_region ?_
   refine w_p tok rfl rfl rfl ?_
   refine w_end ?_
   refine x_seq ?_
   refine c_ret ?_
   exact x_ret _ rfl _ rfl ⟨0,rfl,H⟩
end Go.Q.Yq
end
