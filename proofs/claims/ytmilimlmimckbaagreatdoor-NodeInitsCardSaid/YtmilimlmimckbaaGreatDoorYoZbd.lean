/- A part of the proof of statements of this seat: lemmas, no statement of their own. -/
import Derived.Test.YtmilimlmimckbaaGreatDoorYoZba
import Derived.Test.YtmilimlmimckbaaGreatDoorYoZas
import Derived.Test.YtmilimlmimckbaaGreatDoorYoZaz
import Derived.Test.YtmilimlmimckbaaGreatDoorYoZbc
set_option linter.unusedVariables false
set_option linter.unusedSimpArgs false
set_option maxRecDepth 100000
section
namespace Go.Q.Yo
open Go.Q.Sg
theorem qm2 (n:Int):IntKind.u64.wrap n=n % 18446744073709551616:=by
 unfold IntKind.wrap;simp only [IntKind.signed,IntKind.bits,Bool.false_eq_true,if_false];rfl
theorem qbp {h:zaa} {a:Addr} {vs ys:List Value} {i:Nat} (c:CellsAt h a vs) (hd:(vs.drop i).take ys.length=ys):CellsAt h (a.add i) ys:=fun j v hj=>by
 rw [Go.Q.Rw.add_add2];refine c (i+j) v ?_;have hl:=(List.getElem?_eq_some_iff.1 hj).1;rw [← hd,List.getElem?_take,if_pos hl,List.getElem?_drop] at hj;exact hj
theorem zvk {h:zaa} {a:Addr} {n:Nat} {y:List Int} (c:CellsAt h a (arr n .u8 y)) (hy:y.length=n):SlcAt h ⟨some a,n,n⟩ (b8 y):=by
 rw [show arr n .u8 y=b8 y from zcq hy] at c;exact⟨(fun q=>by cases q),fun a' ha j x hj=>by cases ha;exact c j x hj⟩
section
variable {h:zaa} {v:S_api_Mem} {m:MemV}
theorem ztp {k:Slc->zaa->Prop} (M:MemAt h v m) (w:WfM m) (H:zk2 h (memC.put m.tup) k):zgl v k h:=by
 unfold zgl;refine bx0 fun h2 P2 X2=>⟨v.f_Node,P2.cl0 rfl,v.f_N,P2.cl rfl,v.f_T,P2.cl rfl,v.f_Boot,P2.cl rfl,v.f_Lease,P2.cl rfl,?_⟩
 have z2:=X2.size;have M2:=M.ext X2;rw [qm2,qm2,qm2,M.node,M.n,M.t,M.boot,M.lease];refine bx0 fun h3 P3 X3=>?_;have z3:=X3.size;have md:∀ x:Int,u64 (x % 18446744073709551616):=fun x=>zm5 x
 refine zo2 (ns:=[m.node % 18446744073709551616,m.n % 18446744073709551616,m.t % 18446744073709551616,m.boot,m.lease]) P3 rfl (by omega) (fun x hx=>by
  simp only [List.mem_cons,List.not_mem_nil,or_false] at hx;rcases hx with rfl | rfl | rfl | rfl | rfl
  ·exact md _
  ·exact md _
  ·exact md _
  ·exact w.boot
  ·exact w.lease) fun r4 h4 R4 X4=>?_
 have A4:Ac h2 h4 r4 _:=⟨X3.trans (X4.mono z3),R4.mono z3⟩
 have l4:(([m.node % 18446744073709551616,m.n % 18446744073709551616,m.t % 18446744073709551616,m.boot,m.lease]:List Int).flatMap zam).length<=50:=fm_le (fun x _=>zae x);have PX:∀ {h':zaa} {s:Slc} {l:List Int},Ac h2 h' s l->Blk h' h.size (S_api_Mem.cs v) 34:=fun A=>P2.ext A.X P2.lt;have MX:∀ {h':zaa} {s:Slc} {l:List Int},Ac h2 h' s l->MemAt h' v m:=fun A=>M2.ext A.X;refine⟨v.f_Share.f_X,(PX A4).cl rfl,A4.one (by omega) fun s5 h5 l5 e5 n5 A5=>?_⟩;rw [qqn];have S6:=Blk.arrS (PX A5) (i:=6) (n:=32) (y:=v.f_Share.f_Y) rfl (by rw [M.y];exact w.yl);refine⟨_,by omega,by omega,by omega,rfl,?_⟩;rw [show zcb ⟨some ((⟨h.size,0,none⟩:Addr).add (5+1)),32,32⟩ 1 (0:Int).toNat (32:Int).toNat 32=⟨some ((⟨h.size,0,none⟩:Addr).add (5+1)),32,32⟩ from qgz];rw [M.y] at S6;refine A5.bytes (v:=m.y) (c:=32) S6 (by show 32=_;rw [w.yl]) (by rw [w.yl];exact Nat.le_refl _) (by rw [w.yl];omega) fun s6 h6 l6 e6 n6 A6=>?_;have S7:=Blk.arrS (PX A6) (i:=38) (n:=32) (y:=v.f_Proof) rfl (by rw [M.p];exact w.pl);refine⟨_,by omega,by omega,by omega,rfl,?_⟩;rw [show zcb ⟨some ((⟨h.size,0,none⟩:Addr).add 38),32,32⟩ 1 (0:Int).toNat (32:Int).toNat 32=⟨some ((⟨h.size,0,none⟩:Addr).add 38),32,32⟩ from qgz];rw [M.p] at S7;refine A6.bytes (v:=m.p) (c:=32) S7 (by show 32=_;rw [w.pl]) (by rw [w.pl];exact Nat.le_refl _) (by rw [w.pl];omega) fun s7 h7 l7 e7 n7 A7=>?_;refine⟨v.f_Term,(PX A7).cl rfl,v.f_Vote,(PX A7).cl rfl,v.f_Base,(PX A7).cl rfl,v.f_BaseTerm,(PX A7).cl rfl,?_⟩;rw [qm2,M.term,M.vote,M.base,M.bterm];refine bx0 fun h8 P8 X8=>?_;have l8:(([m.term,m.vote % 18446744073709551616,m.base,m.bterm]:List Int).flatMap zam).length<=40:=fm_le (fun x _=>zae x)
 refine zo2 (ns:=[m.term,m.vote % 18446744073709551616,m.base,m.bterm]) P8 rfl (by omega) (fun x hx=>by
  simp only [List.mem_cons,List.not_mem_nil,or_false] at hx;rcases hx with rfl | rfl | rfl | rfl
  ·exact w.term
  ·exact md _
  ·exact w.base
  ·exact w.bterm) fun r9 h9 R9 X9=>(A7.ext X8).row R9 X9 l8 (by omega) fun s10 h10 l10 e10 n10 A10=>?_
 have sl:=w.snapl;refine⟨v.f_Snap,(PX A10).cl rfl,A10.text (MX A10).snap (MX A10).snapl sl (by omega) fun s11 h11 l11 e11 n11 A11=>?_⟩;obtain⟨es,E1,E2⟩:=(MX A11).ents
 have el:((zhy entC).put m.ents).length<=1000021000000:=by
  show (zam _++_).length<=_
  rw [List.length_append];have:=fm_le (fun e he=>zqa (w.ents e he).2.2) (xs:=m.ents) (f:=entC.put);have:=Nat.mul_le_mul_right 1000020 w.entsl;have:=zae (m.ents.length:Int);omega
 refine⟨v.f_Entries,(PX A11).cl rfl,qac E1 E2 w.entsl w.ents fun r12 h12 R12 X12=>A11.row R12 X12 el (by omega) fun s13 h13 l13 e13 n13 A13=>?_⟩;have l13b:l13.length<=1000022001000:=by omega
 unfold zla;have cl:=w.chainsl;refine⟨fun q h'=>0<=q.2/\q.2<=m.chains.length/\Ac h2 h' q.1 (l13++(m.chains.take q.2.toNat).flatMap chC.put),fun q _=>(m.chains.length-q.2).toNat,⟨by dsimp only;omega,by dsimp only;omega,by simpa using A13⟩,?_⟩;rintro out i h14 ⟨i0,i1,A⟩;dsimp only at i0 i1 A
 have la:(l13++(m.chains.take i.toNat).flatMap chC.put).length<=1000064001000:=by
  rw [List.length_append];have:=zdi (fun c hc=>ch_len (w.chains c hc).2.2) i.toNat (xs:=m.chains) (f:=chC.put);have:=Nat.mul_le_mul_right 42 cl;omega
 obtain⟨cs,C0,C2⟩:=M2.chains;have C1:=C0.ext A.X;have ccl:=C1.l;have cml:=C2.l;unfold zjq;refine⟨v.f_Chains,(PX A).cl rfl,?_⟩;by_cases c:i<m.chains.length
 ·rw [if_pos (by rw [decide_eq_true_eq];omega)]
  obtain⟨a,u,ha,_,hlt,hu,hc⟩:=C1.it i0 (by omega);obtain⟨e,he⟩:∃ e,m.chains[i.toNat]? = some e:=⟨_,List.getElem?_eq_getElem (by omega)⟩
  have E:=C2.r _ _ _ hu he;have we:=w.chains e (List.mem_of_getElem? he);refine⟨v.f_Chains,(PX A).cl rfl,a,ha,i0,hlt,u.f_Index,qpp hc rfl,A.short (by rw [E.i];exact we.1.1) (by rw [E.i];exact we.1.2) (by omega) fun s15 h15 l15 e15 n15 A15=>?_⟩
  have hc15:CellsAt h15 (a.add (i.toNat*33)) (S_api_Chain.cs u):=by
   obtain⟨a',u',ha',_,_,hu',hc'⟩:=(C0.ext A15.X).it i0 (by omega);rw [hu] at hu';cases hu';rw [ha] at ha';cases ha';exact hc'
  have S15:=zvk (qbp hc15 (i:=1) (ys:=arr 32 .u8 u.f_Key) rfl) (by rw [E.k];exact we.2.2);rw [E.k] at S15;refine⟨v.f_Chains,(PX A15).cl rfl,a,ha,i0,hlt,_,by omega,by omega,by omega,rfl,?_⟩;rw [show zcb ⟨some ((a.add (i.toNat*33)).add 1),32,32⟩ 1 (0:Int).toNat (32:Int).toNat 32=⟨some ((a.add (i.toNat*33)).add 1),32,32⟩ from qgz];refine A15.bytes (v:=e.2) (c:=32) S15 (by show 32=_;rw [we.2.2]) (by rw [we.2.2];exact Nat.le_refl _) (by rw [we.2.2];omega) fun s16 h16 l16 e16 n16 A16=>?_;rw [zac (x:=i+1) (by omega) (by omega)];refine⟨_,rfl,⟨by dsimp only;omega,by dsimp only;omega,?_⟩,by dsimp only;omega⟩;dsimp only;rw [show (i+1).toNat=i.toNat+1 from by omega,List.take_add_one,he,List.flatMap_append];subst e16;subst e15;rw [E.i] at A16;simpa [chC,PC.bind,shortC,zl1] using A16
 ·rw [if_neg (by rw [decide_eq_true_eq];omega)]
  rw [show i.toNat=m.chains.length from by omega,List.take_length] at A la;obtain⟨bs,B1,B2⟩:=(MX A).boxes
  have bl:((zhy boxC).put m.boxes).length<=2000037000000:=by
   show (zam _++_).length<=_
   rw [List.length_append];have:=fm_le (fun b hb=>zni (w.boxes b hb)) (xs:=m.boxes) (f:=boxC.put);have:=Nat.mul_le_mul_right 2000036 w.boxesl;have:=zae (m.boxes.length:Int);omega
  refine⟨v.f_Boxes,(PX A).cl rfl,zx0 B1 B2 w.boxesl w.boxes fun r17 h17 R17 X17=>A.row R17 X17 bl (by omega) fun s18 h18 l18 e18 n18 A18=>?_⟩;refine⟨v.f_Clean,(PX A18).cl rfl,A18.short (by rw [M.clean];exact w.clean.1) (by rw [M.clean];exact w.clean.2) (by omega) fun s19 h19 l19 e19 n19 A19=>?_⟩;refine H s19 h19 ?_ (X2.trans (A19.X.mono z2))
  have e:memC.put m.tup=l19:=by
   subst e19;subst e18;subst e13;subst e11;subst e10;subst e7;subst e6;subst e5;rw [M.clean];have hx:=M.x;simp [memC,PC.bind,shortC,cntC,zl1,txC,qjv,MemV.tup,← hx]
  rw [e];exact A19.R.mono z2
end
end Go.Q.Yo
end
section
namespace Go.Q.Yo
theorem qb0 {p0 p1:Slc} {l m:List Int} {k:Bool->zaa->Prop} {h:zaa} (h0:SlcAt h p0 (b8 l)) (l0:p0.len=l.length) (h1:SlcAt h p1 (b8 m)) (l1:p1.len=m.length) (hb:l.length<=4611686018427387904) (H:k (decide (l=m)) h):zja p0 p1 k h:=by
 unfold zja;by_cases hlm:l.length=m.length
 ·rw [if_neg (by simp [l0,l1,hlm])]
  refine⟨fun i h'=>0<=i/\i<=l.length/\l.take i.toNat=m.take i.toNat/\h'=h,fun i _=>(l.length-i).toNat,⟨by omega,by omega,by simp,rfl⟩,?_⟩;rintro i h' ⟨i0,i1,he,rfl⟩;unfold zjp;by_cases hi:i<l.length
  ·rw [if_pos (by simp [l0];omega)]
   have n0:p0.a≠none:=fun hn=>by have:=h0.1 hn;simp at this;simp [this] at hi;omega
   have n1:p1.a≠none:=fun hn=>by have:=h1.1 hn;simp at this;simp [this] at hlm;simp [hlm] at hi;omega
   obtain⟨a,ha⟩:=Option.ne_none_iff_exists'.1 n0;obtain⟨b,hb'⟩:=Option.ne_none_iff_exists'.1 n1;have hla:i.toNat<l.length:=by omega
   have hma:i.toNat<m.length:=by omega
   refine⟨a,ha,i0,by omega,l[i.toNat],?_,b,hb',i0,by omega,m[i.toNat],?_,?_⟩
   ·rw [Nat.mul_one];exact h0.2 a ha i.toNat _ (by simp [hla])
   ·rw [Nat.mul_one];exact h1.2 b hb' i.toNat _ (by simp [hma])
   ·by_cases hv:l[i.toNat]=m[i.toNat]
    ·rw [if_neg (by simp [hv]),zac (by omega) (by omega)]
     refine⟨_,rfl,⟨by omega,by omega,?_,rfl⟩,by dsimp only;omega⟩;rw [show (i+1).toNat=i.toNat+1 from by omega,List.take_succ_eq_append_getElem hla,List.take_succ_eq_append_getElem hma,he,hv]
    ·rw [if_pos (by simpa using hv)]
     have:decide (l=m)=false:=by
      rw [decide_eq_false_iff_not];rintro rfl;exact hv rfl
     rw [← this];exact H
  ·rw [if_neg (by simp [l0];omega)]
   have:l=m:=by
    have e1:l.take i.toNat=l:=List.take_of_length_le (by omega);have e2:m.take i.toNat=m:=List.take_of_length_le (by omega);rw [e1,e2] at he;exact he
   simpa [this] using H
 ·rw [if_pos (by simp [l0,l1];omega)]
  have:decide (l=m)=false:=by rw [decide_eq_false_iff_not];rintro rfl;exact hlm rfl
  rw [← this];exact H
end Go.Q.Yo
end
section
namespace Go.Q.Yo
open Go.Q.Sg
section
variable {h:zaa} {v:S_api_Mem} {m:MemV}
theorem qoj {p:Prop} [Decidable p] (h:p):decide p=true:=decide_eq_true h
end
end Go.Q.Yo
end
section
namespace Go.Q.Yo
open Go.Q.Sg
section
variable {h:zaa}
theorem zyb {v:S_api_Mem} {m:MemV} {k:Bool->zaa->Prop} (M:MemAt h v m) (H:∀ h',Ext h.size h h'->k (decide (zol m)) h'):zex v k h:=by
 unfold zex;refine bx0 fun h2 P X=>?_;have H:=H h2 X;have cl:v.f_Chains.len=m.chains.length:=by obtain⟨vs,a,b⟩:=M.chains;have:=a.l;have:=b.l;omega
 have f8:∀ {a:Addr},k false h2->zbo a false k h2:=fun H=>by unfold zbo;rw [if_neg (by simp)];exact H
 have f7:∀ {a:Addr},k false h2->zbr a false k h2:=fun H=>by unfold zbr;rw [if_neg (by simp)];exact f8 H
 have f6:∀ {a:Addr},k false h2->zbp a false k h2:=fun H=>by unfold zbp;rw [if_neg (by simp)];exact f7 H
 have f5:∀ {a:Addr},k false h2->zbt a false k h2:=fun H=>by unfold zbt;rw [if_neg (by simp)];exact f6 H
 have f4:∀ {a:Addr},k false h2->zbn a false k h2:=fun H=>by unfold zbn;rw [if_neg (by simp)];exact f5 H
 have f3:∀ {a:Addr},k false h2->zbm a false k h2:=fun H=>by unfold zbm;rw [if_neg (by simp)];exact f4 H
 have f2:∀ {a:Addr},k false h2->zbs a false k h2:=fun H=>by unfold zbs;rw [if_neg (by simp)];exact f3 H
 have no:¬ zol m->k false h2:=fun q=>by rw [show decide (zol m)=false from by simpa using q] at H;exact H
 refine⟨v.f_N,P.cl rfl,?_⟩;rw [M.n];by_cases c1:1<=m.n
 rotate_left
 ·rw [if_neg (by rw [decide_eq_true_eq];omega)];exact f2 (no fun q=>c1 q.1)
 rw [if_pos (by rw [decide_eq_true_eq];omega)];refine⟨v.f_N,P.cl rfl,?_⟩;rw [M.n];by_cases c2:m.n<=32
 rotate_left
 ·rw [show decide (m.n<=32)=false from by simpa using c2];exact f2 (no fun q=>c2 q.2.1)
 rw [show decide (m.n<=32)=true from by simpa using c2];unfold zbs;rw [if_pos rfl];refine⟨v.f_Node,P.cl0 rfl,?_⟩;rw [M.node];by_cases c3:0<=m.node
 rotate_left
 ·rw [show decide (m.node>=0)=false from by simpa using c3];exact f3 (no fun q=>c3 q.2.2.1)
 rw [show decide (m.node>=0)=true from by simpa using c3];unfold zbm;rw [if_pos rfl];refine⟨v.f_Node,P.cl0 rfl,v.f_N,P.cl rfl,?_⟩;rw [M.node,M.n];by_cases c4:m.node<m.n
 rotate_left
 ·rw [show decide (m.node<m.n)=false from by simpa using c4];exact f4 (no fun q=>c4 q.2.2.2.1)
 rw [show decide (m.node<m.n)=true from by simpa using c4];unfold zbn;rw [if_pos rfl];refine⟨v.f_T,P.cl rfl,?_⟩;rw [M.t];by_cases c5:1<=m.t
 rotate_left
 ·rw [show decide (m.t>=1)=false from by simpa using c5];exact f5 (no fun q=>c5 q.2.2.2.2.1)
 rw [show decide (m.t>=1)=true from by simpa using c5];unfold zbt;rw [if_pos rfl];refine⟨v.f_T,P.cl rfl,v.f_N,P.cl rfl,?_⟩;rw [M.t,M.n];by_cases c6:m.t<=m.n
 rotate_left
 ·rw [show decide (m.t<=m.n)=false from by simpa using c6];exact f6 (no fun q=>c6 q.2.2.2.2.2.1)
 rw [show decide (m.t<=m.n)=true from by simpa using c6];unfold zbp;rw [if_pos rfl];refine⟨v.f_Vote,P.cl rfl,?_⟩;rw [M.vote];by_cases c7:0<=m.vote
 rotate_left
 ·rw [show decide (m.vote>=0)=false from by simpa using c7];exact f7 (no fun q=>c7 q.2.2.2.2.2.2.1)
 rw [show decide (m.vote>=0)=true from by simpa using c7];unfold zbr;rw [if_pos rfl];refine⟨v.f_Vote,P.cl rfl,v.f_N,P.cl rfl,?_⟩;rw [M.vote,M.n];by_cases c8:m.vote<=m.n
 rotate_left
 ·rw [show decide (m.vote<=m.n)=false from by simpa using c8];exact f8 (no fun q=>c8 q.2.2.2.2.2.2.2.1)
 rw [show decide (m.vote<=m.n)=true from by simpa using c8];unfold zbo;rw [if_pos rfl];refine⟨v.f_Chains,P.cl rfl,v.f_N,P.cl rfl,?_⟩;rw [M.n,cl];unfold zdb
 rw [show ((m.chains.length:Int)==m.n)=decide (zol m) from by
  rw [Bool.eq_iff_iff,beq_iff_eq,decide_eq_true_eq]
  exact⟨fun q=>⟨c1,c2,c3,c4,c5,c6,c7,c8,q⟩,fun q=>q.2.2.2.2.2.2.2.2⟩]
 exact H
theorem zud {K V:Type} [DecidableEq K] (k:K):∀ l:List (K × V),(zi5 l k).isSome=decide (k∈l.map (·.1))
 | []=>rfl
 | p :: r=>by
  have ih:=zud k r;unfold zi5;by_cases hp:p.1=k
  ·rw [if_pos hp];simp [hp]
  ·rw [if_neg hp,ih]
   simp [Ne.symm hp]
theorem qb1 {s:Slc} {vs:List S_api_Box} {bs:List zpo} {k:Int->zaa->Prop} (L:LsAt S_api_Box.cs 15 h s vs) (M:Many (BoxAt h) vs bs) (w:∀ b∈bs,WfB b) (wl:bs.length<=1000000)
  (H:∀ h',Ext h.size h h'->k (zz3 [] bs) h'):zfq s k h:=by
 unfold zfq;have vl:=L.l;have ml:=M.l;refine⟨_,_,rfl,rfl,?_⟩;have X0:=Ext.push h (.map #[] 0) (Nat.le_refl _);have M0:=MapSt.mk0 (kf:=fun v:zrq 12=>Value.agg (v.1.map (Value.int .u8)).toArray) (vf:=fun v:S_anon281=>Value.agg (S_anon281.cs v).toArray) h;generalize h.push (.map #[] 0)=h1 at *;refine⟨fun i h'=>0<=i/\i<=bs.length/\Ext h.size h h'/\(∃ lst,MapSt (fun v:zrq 12=>Value.agg (v.1.map (Value.int .u8)).toArray) (fun v:S_anon281=>Value.agg (S_anon281.cs v).toArray) h' h.size lst/\lst.map (fun p=>p.1.1)=(bs.take i.toNat).map (fun b=>b.2.2.1))/\zz3 [] bs=zz3 ((bs.take i.toNat).map (fun b=>b.2.2.1)) (bs.drop i.toNat),fun i _=>(bs.length-i).toNat,⟨by omega,by omega,X0,⟨[],M0,rfl⟩,rfl⟩,?_⟩;rintro i h2 ⟨i0,i1,X2,⟨lst,MS,hk⟩,hb⟩;unfold zhn;by_cases c:i<bs.length
 rotate_left
 ·rw [if_neg (by rw [decide_eq_true_eq];omega)]
  rw [show i.toNat=bs.length from by omega,List.drop_length,zz3] at hb;have:=H h2 X2;rw [hb] at this;exact this
 rw [if_pos (by rw [decide_eq_true_eq];omega)];obtain⟨b,hbx⟩:∃ b,bs[i.toNat]? = some b:=⟨_,List.getElem?_eq_getElem (by omega)⟩
 obtain⟨a,v,ha,_,hlt,hv,hc⟩:=(L.ext X2).it i0 (by omega);have E:=(M.r _ _ _ hv hbx).ext X2;have wb:=w b (List.mem_of_getElem? hbx)
 have dr:bs.drop i.toNat=b :: bs.drop (i+1).toNat:=by
  rw [show (i+1).toNat=i.toNat+1 from by omega];have:=List.drop_eq_getElem_cons (l:=bs) (i:=i.toNat) (by omega);rw [this];congr 1;have:=(List.getElem?_eq_some_iff.1 hbx).2;exact this
 rw [dr,zz3] at hb;refine⟨a,ha,i0,hlt,v,hc,bx (cs:=S_api_Box.cs v) rfl (by show 15<=15;omega) fun h3 P3 X3=>⟨v,CellsAt.of_blk P3,zue (E.ext X3) wb fun h4 X4=>?_⟩⟩;have z2:=X2.size;have z3:=X3.size;have z4:=X4.size;have X04:=X2.trans ((X3.mono z2).trans (X4.mono (by omega)));have rl:=MS.lt;have MS4:=(MS.ext X3 rl).ext X4 (by omega);by_cases ok:zjg b=true
 rotate_left
 ·rw [if_neg ok] at hb ⊢
  rw [if_pos (by simp)];have:=H h4 X04;rw [hb] at this;exact this
 rw [if_pos ok] at hb ⊢;rw [if_neg (by simp)];have P4:=P3.ext X4 P3.lt;have nl:v.f_Nonce.length=12:=by rw [E.n];exact wb.nl
 refine⟨v.f_Nonce,P4.cls rfl,lst,MS4,bx (cs:=S_anon281.cs ((zi5 lst (arK 12 v.f_Nonce)).getD ⟨⟩)) rfl (by show 0<=0;omega) fun h5 P5 X5=>?_⟩;have z5:=X5.size;have X05:=X04.trans (X5.mono (by omega))
 have eq:(zi5 lst (arK 12 v.f_Nonce)).isSome=decide (b.2.2.1∈(bs.take i.toNat).map (fun b=>b.2.2.1)):=by
  rw [zud,zzd nl,← hk];refine decide_eq_decide.2 ⟨fun q=>?_,fun q=>?_⟩
  ·obtain⟨p,hp,e⟩:=List.mem_map.1 q
   exact List.mem_map.2 ⟨p,hp,by rw [e];exact E.n⟩
  ·obtain⟨p,hp,e⟩:=List.mem_map.1 q
   exact List.mem_map.2 ⟨p,hp,Subtype.ext (by rw [e];exact E.n.symm)⟩
 rw [eq];by_cases ci:b.2.2.1∈(bs.take i.toNat).map (fun b=>b.2.2.1)
 ·rw [if_pos ci] at hb
  rw [if_pos (by simpa using ci)];have:=H h5 X05;rw [hb] at this;exact this
 ·rw [if_neg ci] at hb
  rw [if_neg (by simpa using ci)];have MS5:=MS4.ext X5 (by omega);refine⟨v.f_Nonce,(P4.ext X5 (Nat.lt_of_lt_of_le P3.lt z4)).cls rfl,h.size,lst,_,rfl,MS5,rfl,?_⟩;rw [zac (x:=i+1) (by omega) (by omega)];have MS6:=MS5.put zrw (arK 12 v.f_Nonce) (⟨⟩:S_anon281);refine⟨⟨by omega,by omega,X05.trans (Ext.setM _ _ _ (Nat.le_refl _)),⟨_,MS6,?_⟩,?_⟩,by dsimp only;omega⟩
  ·have nm:∀ p∈lst,p.1≠arK 12 v.f_Nonce:=fun p hp q=>ci (by
    rw [← hk]
    exact List.mem_map.2 ⟨p,hp,by rw [q,zzd nl];exact E.n⟩)
   rw [zkt nm,List.map_append,hk,show (i+1).toNat=i.toNat+1 from by omega,List.take_add_one,hbx,List.map_append,zzd nl];show _++[v.f_Nonce]=_++[b.2.2.1];rw [E.n]
  ·rw [hb,show (i+1).toNat=i.toNat+1 from by omega,List.take_add_one,hbx,List.map_append]
   rfl
theorem qj4 {v:S_api_Mem} {m:MemV} {k:Int->zaa->Prop} (M:MemAt h v m) (w:WfM m) (H:∀ h',Ext h.size h h'->k (qbw m) h'):zf1 v k h:=by
 unfold zf1;refine bx0 fun h2 P X2=>⟨v,CellsAt.of_blk P,zyb (M.ext X2) fun h3 X3=>?_⟩
 have X03:=X2.trans (X3.mono X2.size);have P3:=P.ext X3 P.lt;have M3:=M.ext X03;unfold qbw at H;by_cases c:zol m
 rotate_left
 ·rw [if_pos (by simpa using c)]
  have:=H h3 X03;rw [if_neg c] at this;exact this
 rw [if_neg (by simpa using c)];rw [if_pos c] at H;obtain⟨es,e1,e2⟩:=M3.ents;obtain⟨bs,b1,b2⟩:=M3.boxes;have el:v.f_Entries.len=m.ents.length:=by have:=e1.l;have:=e2.l;omega
 have bl:v.f_Boxes.len=m.boxes.length:=by have:=b1.l;have:=b2.l;omega
 have long:(64<m.ents.length∨64<m.boxes.length)->zb8 (⟨h.size,0,none⟩:Addr) true k h3:=fun q=>by
  unfold zb8;rw [if_pos rfl];have:=H h3 X03;rw [if_pos q] at this;exact this
 refine⟨v.f_Entries,P3.cl rfl,?_⟩;by_cases ce:64<m.ents.length
 ·rw [if_pos (by rw [decide_eq_true_eq];omega)]
  exact long (.inl ce)
 rw [if_neg (by rw [decide_eq_true_eq];omega)];refine⟨v.f_Boxes,P3.cl rfl,?_⟩;by_cases cb:64<m.boxes.length
 ·rw [show decide ((v.f_Boxes.len:Int) > 64)=true from by rw [decide_eq_true_eq];omega]
  exact long (.inr cb)
 rw [show decide ((v.f_Boxes.len:Int) > 64)=false from by rw [decide_eq_false_iff_not];omega];unfold zb8;rw [if_neg (by simp)];rw [if_neg (by omega)] at H;refine⟨v.f_Boxes,P3.cl rfl,qb1 b1 b2 w.boxes w.boxesl fun h4 X4=>?_⟩;have X04:=X03.trans (X4.mono X03.size);by_cases cz:zz3 [] m.boxes=0
 rotate_left
 ·rw [if_pos (by simpa using cz)]
  have:=H h4 X04;rw [if_pos cz] at this;exact this
 rw [if_neg (by simpa using cz)];rw [if_neg (by simpa using cz)] at H;refine⟨v,CellsAt.of_blk (P3.ext X4 P3.lt),qfe (M.ext X04) w fun s h5 R X5=>?_⟩;have X05:=X04.trans (X5.mono X04.size);have:=H h5 X05;rw [Row.pb R];by_cases cl:26624<(memC.put m.tup).length
 ·rw [if_pos cl] at this
  rw [if_pos (by rw [decide_eq_true_eq];omega)];exact this
 ·rw [if_neg cl] at this
  rw [if_neg (by rw [decide_eq_true_eq];omega)];exact this
theorem qeq {v:S_api_Mem} {m:MemV} {k:Int->zaa->Prop} (M:MemAt h v m) (w:WfM m) (H:∀ h',Ext h.size h h'->k (qiq m) h'):zfp v k h:=by
 unfold zfp;refine bx0 fun h2 P X2=>⟨v,CellsAt.of_blk P,qj4 (M.ext X2) w fun h3 X3=>?_⟩
 have X03:=X2.trans (X3.mono X2.size);have:=H h3 X03;unfold qiq at this;by_cases c:qbw m=7
 ·rw [if_pos c] at this
  rw [if_pos (by simpa using c)];exact this
 ·rw [if_neg c] at this
  rw [if_neg (by simpa using c)];exact this
end
end Go.Q.Yo
end
section
namespace Go.Q.Yo
open Go.Q.Sg
abbrev z32:List Int:=List.replicate 32 0
abbrev zj8:Slc:=⟨none,0,0⟩
def zio (me n t x:Int) (y p:List Int) (s:Slc):S_api_Mem:=⟨me,n,t,0,0,⟨x,y⟩,p,0,0,0,0,zj8,zj8,s,zj8,0⟩
def zvz (me n t x:Int) (y p:List Int) (c:List (Int × List Int)):MemV:=⟨me,n,t,0,0,[x],y,p,0,0,0,0,[],[],c,[],0⟩
def tl (s:Slc):List Value:=[.int .u64 0,.int .i64 0,.int .u64 0,.int .u64 0,Slc.v zj8,Slc.v zj8,Slc.v s,Slc.v zj8,.int .u64 0]
theorem zhp (me n t x:Int) (y p:List Int) (s:Slc):S_api_Mem.cs (zio me n t x y p s)=[.int .i64 me,.int .i64 n,.int .i64 t,.int .u64 0,.int .u64 0]++(S_api_Share.cs ⟨x,y⟩++(arr 32 .u8 p++tl s)):=by
 unfold S_api_Mem.cs zio;simp only [List.append_assoc];rfl
theorem zb0 (me n t x:Int) (y p:List Int) (s:Slc):(S_api_Mem.cs (zio me n t x y p s)).length=79:=by
 rw [zhp,List.length_append,List.length_append,List.length_append,zbi,zaj];rfl
theorem qk3 (me n t x:Int) (y p:List Int) (s:Slc) (i:Nat):(S_api_Mem.cs (zio me n t x y p s))[70+i]? = (tl s)[i]?:=by
 rw [zhp,List.getElem?_append_right (by simp;omega),List.getElem?_append_right (by rw [zbi];simp;omega),List.getElem?_append_right (by rw [zaj,zbi];simp;omega),zbi,zaj];congr 1;simp;omega
theorem qld (me n t x:Int) (y p:List Int) (s s':Slc):(S_api_Mem.cs (zio me n t x y p s)).set 76 (Slc.v s')=S_api_Mem.cs (zio me n t x y p s'):=by
 rw [zhp,zhp,List.set_append_right _ _ (by simp),List.set_append_right _ _ (by rw [zbi];simp),List.set_append_right _ _ (by rw [zbi,zaj];simp),zbi,zaj];rfl
theorem tk5 {A B:List Value} {n:Nat} (h:A.length=n):(A++B).take n=A:=List.take_left' h
theorem dr5 {A B:List Value} {n:Nat} (h:A.length=n):(A++B).drop n=B:=List.drop_left' h
theorem qds (me n t x:Int) (y p:List Int) (s:Slc) (v:S_api_Share):(S_api_Mem.cs (zio me n t x y p s)).take 5++S_api_Share.cs v++(S_api_Mem.cs (zio me n t x y p s)).drop (5+(S_api_Share.cs v).length)=S_api_Mem.cs (zio me n t v.f_X v.f_Y p s):=by
 rw [zbi,zhp,zhp];have e1:=@tk5 [.int .i64 me,.int .i64 n,.int .i64 t,.int .u64 0,.int .u64 0] (S_api_Share.cs ⟨x,y⟩++(arr 32 .u8 p++tl s)) 5 rfl;have e2:=@dr5 ([.int .i64 me,.int .i64 n,.int .i64 t,.int .u64 0,.int .u64 0]++S_api_Share.cs ⟨x,y⟩) (arr 32 .u8 p++tl s) (5+33) (by rw [List.length_append,zbi];rfl);rw [List.append_assoc] at e2;rw [e1,e2,List.append_assoc]
theorem qmq {D:List Int} (lD:D.length=32) (me n t x:Int) (y:List Int) (s:Slc) {i:Nat} (hi:i<32):(S_api_Mem.cs (zio me n t x y (D.take i) s)).set (38+i) (.int .u8 (D.getD i 0))=S_api_Mem.cs (zio me n t x y (D.take (i+1)) s):=by
 rw [zhp,zhp,List.set_append_right _ _ (by simp;omega),List.set_append_right _ _ (by rw [zbi];simp;omega),zbi,show 38+i-([Value.int IntKind.i64 me,Value.int IntKind.i64 n,Value.int IntKind.i64 t,Value.int IntKind.u64 0,Value.int IntKind.u64 0]:List Value).length-33=i from by simp;omega,
  List.set_append_left _ _ (by rw [zaj];exact hi),zpj lD hi]
theorem ch_len (v:S_api_Chain):(S_api_Chain.cs v).length=33:=by unfold S_api_Chain.cs;rw [List.length_append,zaj];rfl
theorem qjn (v:S_api_Chain):∀ x∈S_api_Chain.cs v,x.oneCell'=true:=by
 intro x hx;unfold S_api_Chain.cs at hx;rcases List.mem_append.1 hx with hx | hx
 ·rw [List.mem_singleton] at hx;subst hx;rfl
 ·rw [zde] at hx
  obtain⟨y,_,rfl⟩:=List.mem_map.1 hx;rfl
structure Sid (B b:Nat) (h h':zaa):Prop where
 size:h.size<=h'.size
 block:∀ i,i<B->i≠b->h'[i]? = h[i]?
theorem Sid.refl (B b:Nat) (h:zaa):Sid B b h h:=⟨Nat.le_refl _,fun _ _ _=>rfl⟩
theorem Sid.trans {B b:Nat} {x y z:zaa} (p:Sid B b x y) (q:Sid B b y z):Sid B b x z:=⟨Nat.le_trans p.size q.size,fun i h1 h2=>(q.block i h1 h2).trans (p.block i h1 h2)⟩
theorem Sid.of_ext {B b:Nat} {x y:zaa} (p:Ext B x y):Sid B b x y:=⟨p.size,fun i h1 _=>p.block i h1⟩
theorem Sid.of_upd {B b:Nat} {x y:zaa} (p:Upd b x y) (hB:B<=x.size):Sid B b x y:=⟨p.size,fun i h1 h2=>p.block i (by omega) h2⟩
theorem Sid.blk {B b c E:Nat} {h h':zaa} {cs:List Value} (p:Sid B b h h') (k:Blk h c cs E) (hc:c≠b) (hB:c<B):Blk h' c cs E:=k.old (p.block c hB hc)
abbrev zch:List Value:=[.int .u64 0,.int .u8 0,.int .u8 0,.int .u8 0,.int .u8 0,.int .u8 0,.int .u8 0,.int .u8 0,.int .u8 0,.int .u8 0,.int .u8 0,.int .u8 0,.int .u8 0,.int .u8 0,.int .u8 0,.int .u8 0,.int .u8 0,.int .u8 0,.int .u8 0,.int .u8 0,.int .u8 0,.int .u8 0,.int .u8 0,.int .u8 0,.int .u8 0,.int .u8 0,.int .u8 0,.int .u8 0,.int .u8 0,.int .u8 0,.int .u8 0,.int .u8 0,.int .u8 0]
theorem qau {B b bc:Nat} {h:zaa} {me n t x:Int} {y p:List Int} {s:Slc} {vs:List S_api_Chain} {c:S_api_Chain} {K:zaa->Prop} (P:Blk h b (S_api_Mem.cs (zio me n t x y p s)) 34) (hb:b<B) (hB:B<=h.size)
  (R:Row B h 69 33 s (vs.flatMap S_api_Chain.cs)) (ls:s.len=vs.length) (hl:vs.length<=1000) (L:Blk h bc (S_api_Chain.cs c) 69)
  (H:∀ s' h',Blk h' b (S_api_Mem.cs (zio me n t x y p s')) 34->Row B h' 69 33 s' ((vs++[c]).flatMap S_api_Chain.cs)->s'.len=(vs++[c]).length->Sid B b h h'->K h') :
  ∃ v16:Slc,zab h ((⟨b,0,none⟩:Addr).add 76)=some (Slc.v v16)/\(∃ v17:S_api_Chain,CellsAt h (⟨bc,0,none⟩:Addr) (S_api_Chain.cs v17)/\(∃(b18:Nat) (h19:zaa),b18=h.size/\h19=h.push (.cells ((S_api_Chain.cs v17)).toArray 69) /\
   (App 69 33 40 zch h19 v16 1 ((S_api_Chain.cs v17)) (fun s20 h21=>∃ h22:zaa,WrH h21 ((⟨b,0,none⟩:Addr).add 76)/\h22=zd7 h21 ((⟨b,0,none⟩:Addr).add 76) (Slc.v s20)/\K h22)))):=by
 refine⟨s,P.cl (qk3 me n t x y p s 6),c,CellsAt.of_blk L,?_⟩;refine bx0 fun h2 P2 X2=>?_;have z2:=X2.size;have R2:=R.ext X2 fun g hg=>(R.bd hg).2;have Q2:=P.ext X2 P.lt;refine App.row R2 (by omega) rfl (by rw [ch_len]) (qjn c) (by omega) (by simp only [maxLen];omega) fun s' h3 R3 l3 z3 ho hb3=>?_;have X3:Ext B h2 h3:=⟨z3,fun i hi=>ho i (by omega) fun e=>by have:=(R2.bd e).1;omega⟩
 have Q3:=Q2.ext X3 hb;refine zn9 Q3 (by rw [zb0];omega) fun h4 Q4 U4=>?_;rw [qld] at Q4;have ef:(vs.flatMap S_api_Chain.cs)++S_api_Chain.cs c=(vs++[c]).flatMap S_api_Chain.cs:=by rw [List.flatMap_append];simp
 rw [ef] at R3;have R4:Row B h4 69 33 s' ((vs++[c]).flatMap S_api_Chain.cs):=R3.keep fun g hg=>U4.block g (R3.bd hg).2 (by have:=(R3.bd hg).1;omega);refine H s' h4 Q4 R4 (by rw [l3,ls,List.length_append];rfl) ?_;exact(Sid.of_ext (X2.mono (by omega))).trans ((Sid.of_ext X3).trans (Sid.of_upd U4 (by omega)))
def chs (me:Int) (p5:List Int) (lab:List Int) (f:Int->Int) (N:Nat):List S_api_Chain:=(List.range N).map fun i:Nat=>⟨0,if (i:Int)=me then z32 else zro p5 lab (f i)⟩
theorem zcg (me:Int) (p5 lab:List Int) (f:Int->Int) (N:Nat):(chs me p5 lab f N).length=N:=by simp [chs]
theorem zmt (me:Int) (p5 lab:List Int) (f:Int->Int) (N:Nat):chs me p5 lab f (N+1)=chs me p5 lab f N++[⟨0,if (N:Int)=me then z32 else zro p5 lab (f N)⟩]:=by
 unfold chs;rw [List.range_succ,List.map_append];rfl
abbrev chT (vs:List S_api_Chain):List (Int × List Int):=vs.map fun v=>(v.f_Index,v.f_Key)
theorem qiy (key lab:List Int) (n:Int):isB (zro key lab n):=zze _
theorem qbl:isB z32:=fun b hb=>by have:=List.eq_of_mem_replicate hb;subst this;decide
theorem u0:u64 0:=by unfold u64;decide
theorem qea {me:Int} {p5 lab:List Int} {f:Int->Int} {N:Nat}:∀ c∈chT (chs me p5 lab f N),u64 c.1/\isB c.2/\c.2.length=32:=by
 intro c hc;obtain⟨v,hv,rfl⟩:=List.mem_map.1 hc;obtain⟨i,hi,rfl⟩:=List.mem_map.1 hv;refine⟨u0,?_⟩;dsimp only;split
 ·exact⟨qbl,by decide⟩
 ·exact⟨qiy _ _ _,zp4 _ _ _⟩
theorem zxf {me n t x:Int} {y p:List Int} {c:List (Int × List Int)} (hm:-9223372036854775808<=me/\me<9223372036854775808) (hn:-9223372036854775808<=n/\n<9223372036854775808) (ht:-9223372036854775808<=t/\t<9223372036854775808)
  (hx:0<=x/\x<256) (hy:isB y) (ly:y.length=32) (hp:isB p) (lp:p.length=32) (hc:∀ q∈c,u64 q.1/\isB q.2/\q.2.length=32) (lc:c.length<=1000):WfM (zvz me n t x y p c) where
 node:=hm
 n:=hn
 t:=ht
 vote:=(show (-9223372036854775808:Int)<=0/\(0:Int)<9223372036854775808 from by decide)
 boot:=u0
 lease:=u0
 x:=fun b hb=>by have:=List.mem_singleton.1 hb;subst this;exact hx
 xl:=rfl
 y:=hy
 yl:=ly
 p:=hp
 pl:=lp
 term:=u0
 base:=u0
 bterm:=u0
 snap:=qnz
 snapl:=(show 0<=1000000 from by decide)
 ents:=fun e he=>by cases he
 entsl:=(show 0<=1000000 from by decide)
 chains:=hc
 chainsl:=by show c.length<=_;omega
 boxes:=fun e he=>by cases he
 boxesl:=(show 0<=1000000 from by decide)
 clean:=u0
theorem ztg {h:zaa} {me n t x:Int} {y p:List Int} {s:Slc} {vs:List S_api_Chain} (L:LsAt S_api_Chain.cs 33 h s vs):MemAt h (zio me n t x y p s) (zvz me n t x y p (chT vs)) where
 node:=rfl
 n:=rfl
 t:=rfl
 boot:=rfl
 lease:=rfl
 x:=rfl
 y:=rfl
 p:=rfl
 term:=rfl
 vote:=rfl
 base:=rfl
 bterm:=rfl
 snap:=⟨fun _=>rfl,fun a ha=>by cases ha⟩
 snapl:=rfl
 ents:=⟨[],⟨rfl,fun i x hx=>by simp at hx⟩,Many.nil⟩
 chains:=⟨vs,L,⟨by show vs.length=(chT vs).length;rw [List.length_map],fun i v c hv hc=>by
  have e:(chT vs)[i]? = some (v.f_Index,v.f_Key):=by rw [List.getElem?_map,hv];rfl
  have hc':(chT vs)[i]? = some c:=hc;rw [e] at hc'
  cases hc'
  exact⟨rfl,rfl⟩⟩⟩
 boxes:=⟨[],⟨rfl,fun i x hx=>by simp at hx⟩,Many.nil⟩
 clean:=rfl
theorem fm_le {c:List (Int × List Int)} (hc:∀ q∈c,u64 q.1/\isB q.2/\q.2.length=32):(c.flatMap chC.put).length<=42*c.length:=by
 induction c with
 | nil=>exact Nat.le_refl _
 | cons q c ih =>
  have h1:=ih fun r hr=>hc r (List.mem_cons_of_mem _ hr);have h2:=(hc q (List.mem_cons_self ..)).2.2;have h3:=zae q.1;rw [List.flatMap_cons,List.length_append,List.length_cons]
  have h4:(chC.put q).length=(zam q.1).length+q.2.length:=by
   show (zam q.1++q.2).length=_
   rw [List.length_append]
  omega
theorem la {l m:List Int} {a b:Nat} (h:l.length<=a) (k:m.length<=b):(l++m).length<=a+b:=by rw [List.length_append];omega
theorem zt0 (v:Int):(cntC.put v).length<=10:=zae _
theorem qfs (m:MemV):memC.put m.tup=cntC.put m.node++(cntC.put m.n++(cntC.put m.t++(zam m.boot++(zam m.lease++(m.x++(m.y++(m.p++(zam m.term++(cntC.put m.vote++(zam m.base++(zam m.bterm++(tx m.snap++((zhy entC).put m.ents++(m.chains.flatMap chC.put++((zhy boxC).put m.boxes++zam m.clean))))))))))))))):=rfl
theorem tx0:(tx []).length<=10:=by unfold tx;rw [List.append_nil];exact zae _
theorem mn0 {α:Type} (A:PC α):((zhy A).put []).length<=10:=by
 show (zam _++[]).length<=10
 rw [List.append_nil];exact zae _
theorem qi9 {m:MemV} (w:WfM m) (hs:m.snap=[]) (he:m.ents=[]) (hb:m.boxes=[]) (lc:m.chains.length<=32):(memC.put m.tup).length<=26624:=by
 have b4:(tx m.snap).length<=10:=by rw [hs];exact tx0
 have b5:((zhy entC).put m.ents).length<=10:=by rw [he];exact mn0 _
 have b6:((zhy boxC).put m.boxes).length<=10:=by rw [hb];exact mn0 _
 rw [qfs];simp only [List.length_append]
 refine Nat.le_trans (Nat.add_le_add (zt0 m.node) (Nat.add_le_add (zt0 m.n) (Nat.add_le_add (zt0 m.t) (Nat.add_le_add (zae m.boot) (Nat.add_le_add (zae m.lease) (Nat.add_le_add (Nat.le_of_eq w.xl) (Nat.add_le_add (Nat.le_of_eq w.yl) (Nat.add_le_add (Nat.le_of_eq w.pl)
  (Nat.add_le_add (zae m.term) (Nat.add_le_add (zt0 m.vote) (Nat.add_le_add (zae m.base) (Nat.add_le_add (zae m.bterm) (Nat.add_le_add b4 (Nat.add_le_add b5 (Nat.add_le_add (fm_le w.chains) (Nat.add_le_add b6 (zae m.clean))))))))))))))))) ?_
 omega
theorem zsq {me n t x:Int} {y p:List Int} {c:List (Int × List Int)} (w:WfM (zvz me n t x y p c)) (lc:c.length<=32):(memC.put (zvz me n t x y p c).tup).length<=26624 :=
 qi9 w rfl rfl rfl lc
theorem qhl {me n t x:Int} {y p:List Int} {c:List (Int × List Int)} (hb:¬(1<=n/\0<=me/\me<n/\1<=t/\t<=n)):qiq (zvz me n t x y p c)=1:=by
 have:¬ zol (zvz me n t x y p c):=fun⟨a,_,b,d,e,f,_⟩=>hb ⟨a,b,d,e,f⟩;have e:qbw (zvz me n t x y p c)=1:=by unfold qbw;rw [if_neg this]
 unfold qiq;rw [e];rfl
theorem qbe {me n t x:Int} {y p:List Int} {c:List (Int × List Int)} (w:WfM (zvz me n t x y p c)) (hb:1<=n/\0<=me/\me<n/\1<=t/\t<=n) (n8:n<=32) (lc:(c.length:Int)=n):qiq (zvz me n t x y p c)=0:=by
 obtain⟨a,b,d,e,f⟩:=hb;have:zol (zvz me n t x y p c):=⟨a,n8,b,d,e,f,Int.le_refl _,by show (0:Int)<=n;omega,lc⟩
 have pl:=zsq w (by omega)
 have e:qbw (zvz me n t x y p c)=0:=by
  unfold qbw;rw [if_pos this,if_neg (by show ¬(64<([]:List Ent).length∨64<([]:List zpo).length);decide),if_neg (by show ¬(zz3 [] []≠0);decide),if_neg (by omega)]
 unfold qiq;rw [e];rfl
section
variable {h:zaa} {v v' u u':S_api_Mem} {m:MemV}
theorem qd4 {k:Bool->zaa->Prop} (eu:S_api_Mem.cs u=S_api_Mem.cs v) (eu':S_api_Mem.cs u'=S_api_Mem.cs v') (M:MemAt h v m) (M':MemAt h v' m) (w:WfM m) (pl:(memC.put m.tup).length<=26624) (H:∀ h',Ext h.size h h'->k true h'):zgo u u' k h:=by
 unfold zgo;rw [eu,eu'];refine bx0 fun h2 P2 X2=>bx0 fun h3 P3 X3=>?_;have z2:=X2.size;have z3:=X3.size;have X03:=X2.trans (X3.mono z2);refine⟨v,CellsAt.of_blk (P2.ext X3 P2.lt),v',CellsAt.of_blk P3,ztp (M.ext X03) w fun s4 h4 R4 X4=>⟨CellsAt.of_blk (P3.ext X4 P3.lt),?_⟩⟩;have z4:=X4.size;have X04:=X03.trans (X4.mono (by omega));refine ztp (M'.ext X04) w fun s5 h5 R5 X5=>?_;have z5:=X5.size;have hl:=R4.2.1;have l4:s4.len=(memC.put m.tup).length:=rpb R4;have c4:=R4.cap;refine qb0 (R4.ext X5 fun g hg=>(R4.bd hg).2).slc l4 R5.slc (rpb R5) (by omega) ?_;rw [qoj rfl];exact H h5 (X04.trans (X5.mono (by omega)))
end
end Go.Q.Yo
end
