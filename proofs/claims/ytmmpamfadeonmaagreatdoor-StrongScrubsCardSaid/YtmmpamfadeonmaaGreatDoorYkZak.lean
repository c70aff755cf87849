/- A part of the proof of statements of this seat: lemmas, no statement of their own. -/
import Derived.Test.YtmmpamfadeonmaaGreatDoorYkZah
import Derived.Test.YtmmpamfadeonmaaGreatDoorYkZad
import Derived.Test.YtmmpamfadeonmaaGreatDoorYkZaj
set_option linter.unusedVariables false
set_option linter.unusedSimpArgs false
section
/- Rows of structs. -/
namespace Go.Q.Rw
theorem slc_get {h:Heap} {s:Slc} {vs:List Value} (S:SlcAt h s vs) {i:Nat} {v:Value} (hv:vs[i]? = some v):∃ a,s.a=some a/\cellH h (a.add i)=some v:=by
 cases ha:s.a with
 | none=>have:=S.1 ha; subst this; simp at hv
 | some a=>exact ⟨a,rfl,S.2 a ha i v hv⟩
theorem add_add2 (b:Addr) (m n:Nat):(b.add m).add n=b.add (m + n):=by
 unfold Addr.add
 by_cases h0:m=0 <;> by_cases h1:n=0 <;> simp [h0,h1,Nat.add_assoc]
section
variable {α:Type} {cs:α->List Value} {w:Nat}
theorem fm_len (hc:∀ x,(cs x).length=w) (xs:List α):(xs.flatMap cs).length=xs.length * w:=by
 induction xs with
 | nil=>simp
 | cons x xs ih=>simp only [List.flatMap_cons,List.length_append,ih,hc,List.length_cons,Nat.add_mul]; omega
theorem fm_get (hc:∀ x,(cs x).length=w):∀ (xs:List α) (i j:Nat),j < w->(xs.flatMap cs)[i * w + j]? = (xs[i]?).bind fun x=>(cs x)[j]?
 | [],i,j,h=>by simp
 | x :: r,0,j,h=>by
  simp only [List.flatMap_cons,Nat.zero_mul,Nat.zero_add,List.getElem?_cons_zero,Option.bind_some]
  rw [List.getElem?_append_left (by rw [hc]; exact h)]
 | x :: r,i + 1,j,h=>by
  simp only [List.flatMap_cons,List.getElem?_cons_succ]
  rw [List.getElem?_append_right (by rw [hc,Nat.add_mul]; omega)]
  have:=fm_get hc r i j h
  rw [← this,hc]
  congr 1
  rw [Nat.add_mul]; omega
end
/-- a row of structs of one's own: one of them is written -/
theorem fm_sets {α:Type} {cs:α->List Value} {w:Nat} (hc:∀ x,(cs x).length=w):∀ (xs:List α) (i:Nat) (x:α),i < xs.length->(xs.flatMap cs).take (i * w) ++ cs x ++ (xs.flatMap cs).drop ((i + 1) * w)=(xs.set i x).flatMap cs
 | [],i,x,h=>by simp at h
 | y :: r,0,x,h=>by
  simp only [Nat.zero_mul,List.take_zero,List.nil_append,List.flatMap_cons,List.set_cons_zero,Nat.zero_add,Nat.one_mul]
  rw [List.drop_append_of_le_length (by rw [hc]; exact Nat.le_refl _),List.drop_of_length_le (by rw [hc]; exact Nat.le_refl _),List.nil_append]
 | y :: r,i + 1,x,h=>by
  simp only [List.flatMap_cons,List.set_cons_succ]
  rw [← fm_sets hc r i x (by simpa using h)]
  rw [List.take_append,hc,List.take_of_length_le (by rw [hc,Nat.add_mul]; omega),List.drop_append,hc,List.drop_of_length_le (by rw [hc,Nat.add_mul]; omega)]
  rw [show (i + 1) * w - w=i * w from by rw [Nat.add_mul]; omega,show (i + 1 + 1) * w - w=(i + 1) * w from by rw [Nat.add_mul (i + 1)]; omega]
  simp only [List.append_assoc,List.nil_append]
theorem tk_sets (cur v:List Value) (a n:Nat) (h:a + v.length<=n) (hn:n<=cur.length):(cur.take a ++ v ++ cur.drop (a + v.length)).take n=(cur.take n).take a ++ v ++ (cur.take n).drop (a + v.length):=by
 have hl:(cur.take a ++ v).length=a + v.length:=by rw [List.length_append,List.length_take]; omega
 rw [List.take_append,hl,List.take_of_length_le (by omega),List.take_take,Nat.min_eq_left (by omega),List.drop_take]
theorem row_setS {α:Type} {cs:α->List Value} {B E w:Nat} {h:Heap} {s:Slc} {xs:List α} (hc:∀ x,(cs x).length=w) (R:Row B h E w s (xs.flatMap cs)) (hl:s.len=xs.length) {i:Nat} (hi:i < xs.length) (x:α) {a:Addr} (ha:s.a=some a) :
  WrsAt h (a.add (i * w)) w/\Row B (setsH h (a.add (i * w)) 0 (cs x)) E w s ((xs.set i x).flatMap cs)/\B<=a.block:=by
 rcases R.2.2 with ⟨k,_⟩ | ⟨g,cur,a1,a2,a3,a4,a5,a6⟩
 ·rw [k] at ha; cases ha
 ·rw [ha] at a1; cases a1
  have hiw:i * w + w<=s.len * w:=by
   have:(i + 1) * w<=s.len * w:=Nat.mul_le_mul_right _ (by omega)
   rw [Nat.add_mul] at this; omega
  have hcap:s.len * w<=s.cap * w:=Nat.mul_le_mul_right _ a4
  rw [add_mk,Nat.zero_add]
  refine ⟨fun j hj=>by rw [add_mk]; exact a3.wr (by omega),⟨by rw [fm_len hc,List.length_set,hl],R.2.1,.inr ⟨g,_,ha,a2,a3.sets (cs x) (i * w) 0 (by rw [hc]; omega),a4,?_,?_⟩⟩,a2⟩
  ·simp only [List.length_append,List.length_take,List.length_drop,hc]; omega
  ·rw [← fm_sets hc xs i x hi,← a6,tk_sets cur (cs x) (i * w + 0) (s.len * w) (by rw [hc]; omega) (by omega),hc,Nat.add_zero,show (i + 1) * w=i * w + w from by rw [Nat.add_mul,Nat.one_mul]]
theorem fm_take {α:Type} {cs:α->List Value} {w:Nat} (hc:∀ x,(cs x).length=w):∀ (xs:List α) (i:Nat),(xs.flatMap cs).take (i * w)=(xs.take i).flatMap cs
 | [],i=>by simp
 | y :: r,0=>by simp
 | y :: r,i + 1=>by
  simp only [List.flatMap_cons,List.take_succ_cons]
  rw [List.take_append,hc,List.take_of_length_le (by rw [hc,Nat.add_mul]; omega),← fm_take hc r i,show (i + 1) * w - w=i * w from by rw [Nat.add_mul]; omega]
end Go.Q.Rw
end
section
/- Blocks laid and filled at once; items of slices of structs. -/
namespace Go.Q
/-- a block that is laid with these cells -/
theorem bx0 {cs:List Value} {E:Nat} {h:Heap} {K:Nat->Heap->Prop} (H:∀ h',Blk h' h.size cs E->Ext h.size h h'->K h.size h') :
  ∃ (b:Nat) (h2:Heap),b=h.size/\h2=h.push (.cells cs.toArray E)/\K b h2 :=
 ⟨_,_,rfl,rfl,H _ (Blk.push h cs E) (Ext.push h _ (Nat.le_refl _))⟩
/-- a block that is laid and filled -/
theorem bx {cs z:List Value} {E n:Nat} {h:Heap} {K:Nat->Heap->Prop} (hl:cs.length=z.length) (hn:n<=z.length) (H:∀ h',Blk h' h.size cs E->Ext h.size h h'->K h.size h') :
  ∃ (b:Nat) (h2:Heap),b=h.size/\h2=h.push (.cells z.toArray E)/\(∃ h3:Heap,WrsAt h2 (⟨b,0,none⟩:Addr) n/\h3=setsH h2 (⟨b,0,none⟩:Addr) 0 cs/\K b h3) :=
 have P:=Blk.push h z E
 ⟨_,_,rfl,rfl,_,WrsAt.of_blk P hn,rfl,H _ (P.sets_all hl) ((Ext.push h _ (Nat.le_refl _)).trans (Ext.sets _ 0 cs (by show h.size<=h.size; exact Nat.le_refl _)))⟩
/-- a block that is filled anew -/
theorem bset {cs z:List Value} {E n b:Nat} {h:Heap} {K:Heap->Prop} (P:Blk h b z E) (hl:cs.length=z.length) (hn:n<=z.length) (H:∀ h',Blk h' b cs E->Upd b h h'->K h') :
  ∃ h3:Heap,WrsAt h (⟨b,0,none⟩:Addr) n/\h3=setsH h (⟨b,0,none⟩:Addr) 0 cs/\K h3 :=
 ⟨_,WrsAt.of_blk P hn,rfl,H _ (P.sets_all hl) ⟨by rw [setsH_size]; exact Nat.le_refl _,fun i _ hi=>setsH_other _ _ hi⟩⟩
/-- a cell of a block's -/
theorem Blk.cl {h:Heap} {b E i:Nat} {cs:List Value} {v:Value} (k:Blk h b cs E) (hv:cs[i]? = some v):cellH h ((⟨b,0,none⟩:Addr).add i)=some v:=by rw [add_mk,Nat.zero_add,k.cell]; exact hv
theorem Blk.cl0 {h:Heap} {b E:Nat} {cs:List Value} {v:Value} (k:Blk h b cs E) (hv:cs[0]? = some v):cellH h (⟨b,0,none⟩:Addr)=some v:=by rw [k.cell]; exact hv
/-- cells within a block -/
theorem Blk.cls {h:Heap} {b E i:Nat} {cs ys:List Value} (k:Blk h b cs E) (hd:(cs.drop i).take ys.length=ys):CellsAt h ((⟨b,0,none⟩:Addr).add i) ys:=by
 rw [add_mk,Nat.zero_add]; exact k.part hd
theorem zcls {h:Heap} {a:Addr} {vs:List Value} {i:Nat} (c:CellsAt h a vs) {v:Value} (hv:vs[i]? = some v):cellH h (a.add i)=some v:=c i v hv
theorem cls0 {h:Heap} {a:Addr} {vs:List Value} (c:CellsAt h a vs) {v:Value} (hv:vs[0]? = some v):cellH h a=some v:=by have:=c 0 v hv; rwa [show a.add 0=a from by simp [Addr.add]] at this
section
variable {α:Type} {cs:α->List Value} {w:Nat} {h:Heap} {s:Slc} {xs:List α}
/-- an item of a slice -/
theorem LsAt.it (L:LsAt cs w h s xs) {i:Int} (h0:0<=i) (h1:i < (xs.length:Int)):∃ (a:Addr) (x:α),s.a=some a/\(0:Int)<=i/\i < (s.len:Int)/\xs[i.toNat]? = some x/\CellsAt h (a.add (i.toNat * w)) (cs x):=by
 obtain ⟨x,hx⟩:∃ x,xs[i.toNat]? = some x:=⟨_,List.getElem?_eq_getElem (by omega)⟩
 obtain ⟨a,ha,hc⟩:=L.at' _ _ hx
 exact ⟨a,x,ha,h0,by rw [L.l]; exact h1,hx,hc⟩
end
/-- a part of a block is filled anew -/
theorem bsetp {vs z:List Value} {E n o b:Nat} {h:Heap} {K:Heap->Prop} (P:Blk h b z E) (hn:n=vs.length) (ho:o + vs.length<=z.length) (H:∀ h',Blk h' b (z.take o ++ vs ++ z.drop (o + vs.length)) E->Upd b h h'->K h') :
  ∃ h3:Heap,WrsAt h ((⟨b,0,none⟩:Addr).add o) n/\h3=setsH h ((⟨b,0,none⟩:Addr).add o) 0 vs/\K h3:=by
 rw [add_mk,Nat.zero_add]
 exact ⟨_,fun j hj=>by rw [add_mk]; exact P.wr (by omega),rfl,H _ (P.sets vs o 0 (by omega)) ⟨by rw [setsH_size]; exact Nat.le_refl _,fun i _ hi=>setsH_other _ _ hi⟩⟩
/-- one cell of a block is written -/
theorem bset1 {v:Value} {z:List Value} {E i b:Nat} {h:Heap} {K:Heap->Prop} (P:Blk h b z E) (hi:i < z.length) (H:∀ h',Blk h' b (z.set i v) E->Upd b h h'->K h') :
  ∃ h3:Heap,WrH h ((⟨b,0,none⟩:Addr).add i)/\h3=setH h ((⟨b,0,none⟩:Addr).add i) v/\K h3:=by
 rw [add_mk,Nat.zero_add]
 exact ⟨_,P.wr hi,rfl,H _ P.set ⟨by rw [setH_size]; exact Nat.le_refl _,fun i _ hi=>setH_other hi⟩⟩
/-- a part of a slice of structs -/
theorem LsAt.sub {α:Type} {cs:α->List Value} {w:Nat} {h:Heap} {s:Slc} {xs:List α} (L:LsAt cs w h s xs) {a b m:Nat} (h1:a<=b) (h2:b<=s.len) (h3:b<=m):LsAt cs w h (subS s w a b m) ((xs.take b).drop a):=by
 have hl:=L.l
 refine ⟨by simp only [subS,List.length_drop,List.length_take]; omega,fun i x hx=>?_⟩
 rw [List.getElem?_drop,List.getElem?_take] at hx
 split at hx
 ·obtain ⟨a',ha,hc⟩:=L.at' _ _ hx
  refine ⟨a'.add (a * w),?_,?_⟩
  ·simp only [subS]
   rw [if_neg (by omega),ha]; rfl
  ·rw [show (a'.add (a * w)).add (i * w)=a'.add ((a + i) * w) from by rw [Rw.add_add2,Nat.add_mul]]; exact hc
 ·cases hx
/-- a part of a row of one's own is written -/
theorem row_setp {B E w o:Nat} {h:Heap} {s:Slc} {xs vs:List Value} (R:Row B h E w s xs) (ho:o + vs.length<=s.len * w) (hv:0 < vs.length) {a:Addr} (ha:s.a=some a) :
  WrsAt h (a.add o) vs.length/\Row B (setsH h (a.add o) 0 vs) E w s (xs.take o ++ vs ++ xs.drop (o + vs.length))/\B<=a.block:=by
 rcases R.2.2 with ⟨k,_⟩ | ⟨g,cur,a1,a2,a3,a4,a5,a6⟩
 ·rw [k] at ha; cases ha
 ·rw [ha] at a1; cases a1
  have hcap:s.len * w<=s.cap * w:=Nat.mul_le_mul_right _ a4
  have hx:=R.1
  rw [add_mk,Nat.zero_add]
  refine ⟨fun j hj=>by rw [add_mk]; exact a3.wr (by omega),⟨by simp only [List.length_append,List.length_take,List.length_drop]; omega,R.2.1,.inr ⟨g,_,ha,a2,a3.sets vs o 0 (by omega),a4,?_,?_⟩⟩,a2⟩
  ·simp only [List.length_append,List.length_take,List.length_drop]; omega
  ·rw [Rw.tk_sets cur vs (o + 0) (s.len * w) (by omega) (by omega),a6,Nat.add_zero]
/-- the cells of a slice of structs -/
theorem LsAt.slcs {α:Type} {cs:α->List Value} {w:Nat} (hc:∀ x,(cs x).length=w) (hw:0 < w) {h:Heap} {s:Slc} {xs:List α} (L:LsAt cs w h s xs):SlcAt h s (xs.flatMap cs):=by
 refine ⟨fun hn=>?_,fun a ha j v hj=>?_⟩
 ·cases xs with
  | nil=>rfl
  | cons x r=>obtain ⟨a,ha,_⟩:=L.at' 0 x rfl; rw [hn] at ha; cases ha
 ·have hl:j < (xs.flatMap cs).length:=(List.getElem?_eq_some_iff.1 hj).1
  rw [Rw.fm_len hc] at hl
  have h1:j / w < xs.length:=(Nat.div_lt_iff_lt_mul hw).2 hl
  have dm:j / w * w + j % w=j:=by rw [Nat.mul_comm]; exact Nat.div_add_mod j w
  have e:=Rw.fm_get hc xs (j / w) (j % w) (Nat.mod_lt _ hw)
  rw [dm,hj] at e
  obtain ⟨x,hx⟩:∃ x,xs[j / w]? = some x:=⟨_,List.getElem?_eq_getElem h1⟩
  rw [hx] at e
  obtain ⟨a',ha',hc2⟩:=L.at' _ _ hx
  rw [ha] at ha'; cases ha'
  have:=hc2 (j % w) v e.symm
  rwa [Rw.add_add2,dm] at this
end Go.Q
end
section
/- Strong, plainly: forms that are laid and read. -/
namespace Go.Q.Sg
def shortF:Nat->Int->List Int
 | 0,_=>[]
 | f + 1,n=>if n < 128 then [n] else (n % 128 + 128) :: shortF f (n / 128)
/-- the short form of a number -/
def shortL (n:Int):List Int:=shortF 10 n
theorem shortF_len:∀ (f:Nat) (n:Int),(shortF f n).length<=f
 | 0,_=>by simp [shortF]
 | f + 1,n=>by
  have:=shortF_len f (n / 128)
  unfold shortF; split <;> simp <;> omega
theorem shortL_len (n:Int):(shortL n).length<=10:=shortF_len 10 n
theorem shortF_B:∀ (f:Nat) (n:Int),0<=n->isB (shortF f n)
 | 0,_,_=>by intro b hb; simp [shortF] at hb
 | f + 1,n,h=>by
  have:=shortF_B f (n / 128) (by omega)
  unfold shortF; split
  ·intro b hb; simp at hb; omega
  ·intro b hb
   rcases List.mem_cons.1 hb with hb | hb
   ·omega
   ·exact this b hb
theorem shortL_B {n:Int} (h:0<=n):isB (shortL n):=shortF_B 10 n h
theorem isB_app {l m:List Int} (h:isB l) (k:isB m):isB (l ++ m):=fun b hb=>(List.mem_append.1 hb).elim (h b) (k b)
theorem isB_right {l m:List Int} (h:isB (l ++ m)):isB m:=fun b hb=>h b (List.mem_append_right _ hb)
/-- a number is read -/
def gs:Nat->List Int->Option (Int × List Int)
 | _,[]=>none
 | i,c :: r=>if i=9/\1 < c then none else if 128<=c then (gs (i + 1) r).map fun q=>(c - 128 + 128 * q.1,q.2) else if c=0/\0 < i then none else some (c,r)
def getS (l:List Int):Option (Int × List Int):=gs 0 l
theorem gs_rt (l:List Int):∀ (f i:Nat) (v:Int),f + i=10->1<=f->0<=v->v < 2 * 128 ^ (f - 1)->(0 < i->v≠0)->gs i (shortF f v ++ l)=some (v,l)
 | 0,_,_,_,h,_,_,_=>by omega
 | f + 1,i,v,hf,_,v0,v1,hv=>by
  rw [Nat.add_sub_cancel] at v1
  unfold shortF
  by_cases c:v < 128
  ·rw [if_pos c,List.singleton_append,gs,if_neg (fun q=>by
    have:f=0:=by omega
    subst this
    simp at v1; omega),if_neg (by omega),if_neg (fun q=>hv q.2 q.1)]
  ·obtain ⟨g,rfl⟩:∃ g,f=g + 1:=⟨f - 1,by
    rcases Nat.eq_zero_or_pos f with q | q
    ·subst q; simp at v1; omega
    ·omega⟩
   rw [if_neg c,List.cons_append,gs,if_neg (by omega),if_pos (by omega),gs_rt l (g + 1) (i + 1) (v / 128) (by omega) (by omega) (by omega) (by
    rw [Nat.add_sub_cancel]
    rw [Int.pow_succ] at v1
    exact Int.ediv_lt_of_lt_mul (by omega) (by rw [Int.mul_assoc]; exact v1)) (fun _=>by omega)]
   show some (v % 128 + 128 - 128 + 128 * (v / 128),l)=some (v,l)
   rw [show v % 128 + 128 - 128 + 128 * (v / 128)=v from by omega]
theorem gs_sd (l':List Int):∀ (l:List Int) (i:Nat) (v:Int),isB l->i<=9->gs i l=some (v,l')->l=shortF (10 - i) v ++ l'/\0<=v/\v < 2 * 128 ^ (9 - i)/\(0 < i->v≠0)
 | [],_,_,_,_,e=>by simp [gs] at e
 | c :: r,i,v,hB,hi,e=>by
  have cb:=hB c (by simp)
  have hp:(1:Int)<=128 ^ (9 - i):=by have:(0:Int) < 128 ^ (9 - i):=Int.pow_pos (by omega); omega
  rw [gs] at e
  split at e
  ·cases e
  ·rename_i n9
   split at e
   ·rename_i c8
    obtain ⟨q,eq,ev⟩:=Option.map_eq_some_iff.1 e
    obtain ⟨w,l2⟩:=q
    have ew:c - 128 + 128 * w=v:=congrArg Prod.fst ev
    have el:l2=l':=congrArg Prod.snd ev
    subst el
    have i8:i<=8:=by omega
    obtain ⟨a,b,b',d⟩:=gs_sd l2 r (i + 1) w (fun x hx=>hB x (List.mem_cons_of_mem _ hx)) (by omega) eq
    have d:=d (by omega)
    refine ⟨?_,by omega,?_,fun _=>by omega⟩
    ·rw [show 10 - i=(10 - (i + 1)) + 1 from by omega,shortF,if_neg (by omega),show v / 128=w from by omega,show v % 128 + 128=c from by omega,List.cons_append,← a]
    ·rw [show 9 - i=(9 - (i + 1)) + 1 from by omega,Int.pow_succ]
     generalize (128:Int) ^ (9 - (i + 1))=P at *
     omega
   ·split at e
    ·cases e
    ·rename_i c7 cz
     have e:=Option.some.inj e
     have ev:c=v:=congrArg Prod.fst e
     have el:r=l':=congrArg Prod.snd e
     subst ev; subst el
     refine ⟨?_,cb.1,?_,fun q h0=>cz ⟨h0,q⟩⟩
     ·rw [show 10 - i=(9 - i) + 1 from by omega,shortF,if_pos (by omega)]; rfl
     ·rcases Nat.lt_or_ge i 9 with q | q
      ·rw [show 9 - i=(8 - i) + 1 from by omega,Int.pow_succ]
       have:(0:Int) < 128 ^ (8 - i):=Int.pow_pos (by omega)
       generalize (128:Int) ^ (8 - i)=P at *
       omega
      ·have:i=9:=by omega
       subst this
       simp; omega
theorem gs_le (l':List Int):∀ (l:List Int) (i:Nat) (v:Int),gs i l=some (v,l')->l'.length < l.length/\l'=l.drop (l.length - l'.length)
 | [],_,_,e=>by simp [gs] at e
 | c :: r,i,v,e=>by
  rw [gs] at e
  split at e
  ·cases e
  ·split at e
   ·obtain ⟨q,eq,ev⟩:=Option.map_eq_some_iff.1 e
    obtain ⟨w,l2⟩:=q
    have el:l2=l':=congrArg Prod.snd ev
    subst el
    obtain ⟨a,b⟩:=gs_le l2 r (i + 1) w eq
    refine ⟨by rw [List.length_cons]; omega,?_⟩
    rw [List.length_cons,show r.length + 1 - l2.length=(r.length - l2.length) + 1 from by omega,List.drop_succ_cons]
    exact b
   ·split at e
    ·cases e
    ·have el:r=l':=congrArg Prod.snd (Option.some.inj e)
     subst el
     exact ⟨by simp,by rw [List.length_cons,show r.length + 1 - r.length=1 from by omega]; rfl⟩
def valS:List Int->Int
 | []=>0
 | b :: r=>(b - 128) + 128 * valS r
theorem valS_snoc (c:Int):∀ p:List Int,valS (p ++ [c])=valS p + (c - 128) * 128 ^ p.length
 | []=>by simp [valS]
 | b :: r=>by
  simp only [List.cons_append,valS,valS_snoc c r,List.length_cons,Int.pow_succ]
  rw [Int.mul_add,← Int.mul_assoc,Int.mul_comm 128 (c - 128),Int.mul_assoc,Int.mul_comm 128 (128 ^ r.length)]
  omega
theorem valS_bd:∀ {p:List Int},(∀ b∈p,128<=b/\b < 256)->0<=valS p/\valS p < 128 ^ p.length
 | [],_=>by simp [valS]
 | b :: r,h=>by
  have h1:=h b (by simp)
  have h2:=valS_bd (p:=r) fun x hx=>h x (List.mem_cons_of_mem _ hx)
  simp only [valS,List.length_cons,Int.pow_succ]; omega
/-- what may be laid and read -/
structure PC (α:Type) where
 get:List Int->Option (α × List Int)
 put:α->List Int
 ok:α->Prop
 rt:∀ a l,ok a->get (put a ++ l)=some (a,l)
 sd:∀ l a l',isB l->get l=some (a,l')->l=put a ++ l'/\ok a
 le:∀ l a l',get l=some (a,l')->l'.length<=l.length
def Eat {α:Type} (A:PC α):Prop:=∀ l a l',A.get l=some (a,l')->l'.length < l.length
def shortC:PC Int where
 get:=getS
 put:=shortL
 ok v:=0<=v/\v < 18446744073709551616
 rt v l h:=gs_rt l 10 0 v rfl (by omega) h.1 (by simpa using h.2) (by omega)
 sd l v l' hB e:=by
  obtain ⟨a,b,c,_⟩:=gs_sd l' l 0 v hB (by omega) e
  exact ⟨a,b,by simpa using c⟩
 le l v l' e:=by have:=(gs_le l' l 0 v e).1; omega
theorem getS_rt {v:Int} (l:List Int) (h0:0<=v) (h1:v < 18446744073709551616):getS (shortL v ++ l)=some (v,l):=shortC.rt v l ⟨h0,h1⟩
theorem eat_short:Eat shortC:=fun l v l' e=>(gs_le l' l 0 v e).1
def PC.bind {α β:Type} (A:PC α) (B:α->PC β):PC (α × β) where
 get l:=(A.get l).bind fun q=>((B q.1).get q.2).map fun r=>((q.1,r.1),r.2)
 put a:=A.put a.1 ++ (B a.1).put a.2
 ok a:=A.ok a.1/\(B a.1).ok a.2
 rt a l h:=by
  rw [List.append_assoc,A.rt _ _ h.1]
  show Option.map _ ((B a.1).get ((B a.1).put a.2 ++ l))=_
  rw [(B a.1).rt _ _ h.2]
  rfl
 sd l a l' hB e:=by
  obtain ⟨q,e1,e2⟩:=Option.bind_eq_some_iff.1 e
  obtain ⟨r,e3,e4⟩:=Option.map_eq_some_iff.1 e2
  obtain ⟨q1,q2⟩:=q
  obtain ⟨r1,r2⟩:=r
  dsimp only at e3 e4
  cases e4
  obtain ⟨p1,p2⟩:=A.sd _ _ _ hB e1
  obtain ⟨p3,p4⟩:=(B q1).sd _ _ _ (isB_right (by rw [← p1]; exact hB)) e3
  exact ⟨by rw [List.append_assoc,← p3]; exact p1,p2,p4⟩
 le l a l' e:=by
  obtain ⟨q,e1,e2⟩:=Option.bind_eq_some_iff.1 e
  obtain ⟨r,e3,e4⟩:=Option.map_eq_some_iff.1 e2
  have a:=A.le _ _ _ e1
  have b:=(B q.1).le _ _ _ e3
  have:r.2=l':=congrArg Prod.snd e4
  rw [← this]; omega
theorem eat_bind {α β:Type} {A:PC α} {B:α->PC β} (h:Eat A):Eat (A.bind B):=fun l a l' e=>by
 obtain ⟨q,e1,e2⟩:=Option.bind_eq_some_iff.1 e
 obtain ⟨r,e3,e4⟩:=Option.map_eq_some_iff.1 e2
 have a:=h _ _ _ e1
 have b:=(B q.1).le _ _ _ e3
 have:r.2=l':=congrArg Prod.snd e4
 rw [← this]; omega
/-- a number that is small -/
def cntC:PC Int where
 get l:=(getS l).bind fun q=>if 1048576 < q.1 then none else some q
 put v:=shortL (v % 18446744073709551616)
 ok v:=0<=v/\v<=1048576
 rt v l h:=by
  have:=shortC.rt v l ⟨h.1,by omega⟩
  rw [Int.emod_eq_of_lt h.1 (by omega)]
  show Option.bind (shortC.get (shortC.put v ++ l)) _=_
  rw [this]
  exact if_neg (by dsimp only; omega)
 sd l v l' hB e:=by
  obtain ⟨q,e1,e2⟩:=Option.bind_eq_some_iff.1 e
  split at e2
  ·cases e2
  ·cases e2
   obtain ⟨a,b⟩:=shortC.sd l v l' hB e1
   obtain ⟨b0,b1⟩:=b
   rw [Int.emod_eq_of_lt b0 b1]
   exact ⟨a,b0,by omega⟩
 le l v l' e:=by
  obtain ⟨q,e1,e2⟩:=Option.bind_eq_some_iff.1 e
  split at e2
  ·cases e2
  ·cases e2
   exact shortC.le _ _ _ e1
def bytesC (n:Nat):PC (List Int) where
 get l:=if n<=l.length then some (l.take n,l.drop n) else none
 put a:=a
 ok a:=a.length=n
 rt a l h:=by rw [if_pos (by rw [List.length_append]; omega),← h,List.take_left,List.drop_left]
 sd l a l' _ e:=by
  split at e
  ·cases e; exact ⟨(List.take_append_drop _ _).symm,by rw [List.length_take]; omega⟩
  ·cases e
 le l a l' e:=by
  split at e
  ·cases e; rw [List.length_drop]; omega
  ·cases e
def tx (l:List Int):List Int:=shortL l.length ++ l
/-- a text, with how long it is -/
def txC:PC (List Int) where
 get l:=(getS l).bind fun q=>if q.1<=(q.2.length:Int) then some (q.2.take q.1.toNat,q.2.drop q.1.toNat) else none
 put:=tx
 ok a:=(a.length:Int) < 18446744073709551616
 rt a l h:=by
  unfold tx
  rw [List.append_assoc,getS_rt _ (by omega) h,Option.bind_some]
  dsimp only
  rw [if_pos (by rw [List.length_append]; omega),Int.toNat_natCast,List.take_left,List.drop_left]
 sd l a l' hB e:=by
  obtain ⟨q,e1,e2⟩:=Option.bind_eq_some_iff.1 e
  obtain ⟨n,l1⟩:=q
  dsimp only at e2
  obtain ⟨p1,p2,p3⟩:=shortC.sd _ _ _ hB e1
  split at e2
  ·cases e2
   have ll:(List.take n.toNat l1).length=n.toNat:=by rw [List.length_take]; omega
   refine ⟨?_,by rw [ll]; omega⟩
   unfold tx
   rw [ll,show ((n.toNat:Nat):Int)=n from by omega,List.append_assoc,List.take_append_drop]
   exact p1
  ·cases e2
 le l a l' e:=by
  obtain ⟨q,e1,e2⟩:=Option.bind_eq_some_iff.1 e
  have:=shortC.le _ _ _ e1
  split at e2
  ·cases e2; rw [List.length_drop]; omega
  ·cases e2
/-- so many -/
def getN {α:Type} (A:PC α):Nat->List Int->Option (List α × List Int)
 | 0,l=>some ([],l)
 | n + 1,l=>(A.get l).bind fun q=>(getN A n q.2).map fun r=>(q.1 :: r.1,r.2)
theorem getN_rt {α:Type} (A:PC α) (l:List Int):∀ xs:List α,(∀ a∈xs,A.ok a)->getN A xs.length (xs.flatMap A.put ++ l)=some (xs,l)
 | [],_=>rfl
 | x :: xs,h=>by
  rw [List.flatMap_cons,List.append_assoc,List.length_cons,getN,A.rt _ _ (h x (by simp))]
  show Option.map _ (getN A xs.length _)=_
  rw [getN_rt A l xs fun a ha=>h a (List.mem_cons_of_mem _ ha)]
  rfl
theorem getN_sd {α:Type} (A:PC α):∀ (n:Nat) (l:List Int) (xs:List α) (l':List Int),isB l->getN A n l=some (xs,l')->l=xs.flatMap A.put ++ l'/\xs.length=n/\∀ a∈xs,A.ok a
 | 0,l,xs,l',_,e=>by cases e; exact ⟨rfl,rfl,fun a ha=>by cases ha⟩
 | n + 1,l,xs,l',hB,e=>by
  rw [getN] at e
  obtain ⟨q,e1,e2⟩:=Option.bind_eq_some_iff.1 e
  obtain ⟨r,e3,e4⟩:=Option.map_eq_some_iff.1 e2
  obtain ⟨x,l1⟩:=q
  obtain ⟨ys,l2⟩:=r
  cases e4
  obtain ⟨p1,p2⟩:=A.sd _ _ _ hB e1
  obtain ⟨p3,p4,p5⟩:=getN_sd A n l1 ys l2 (isB_right (by rw [← p1]; exact hB)) e3
  refine ⟨by rw [List.flatMap_cons,List.append_assoc,← p3]; exact p1,by rw [List.length_cons,p4],fun a ha=>?_⟩
  rcases List.mem_cons.1 ha with q | q
  ·subst q; exact p2
  ·exact p5 a q
theorem getN_le {α:Type} (A:PC α):∀ (n:Nat) (l:List Int) (xs:List α) (l':List Int),getN A n l=some (xs,l')->l'.length<=l.length
 | 0,l,xs,l',e=>by cases e; exact Nat.le_refl _
 | n + 1,l,xs,l',e=>by
  rw [getN] at e
  obtain ⟨q,e1,e2⟩:=Option.bind_eq_some_iff.1 e
  obtain ⟨r,e3,e4⟩:=Option.map_eq_some_iff.1 e2
  have a:=A.le _ _ _ e1
  have b:=getN_le A n q.2 r.1 r.2 e3
  have:r.2=l':=congrArg Prod.snd e4
  rw [← this]; omega
def listC {α:Type} (n:Nat) (A:PC α):PC (List α) where
 get:=getN A n
 put xs:=xs.flatMap A.put
 ok xs:=xs.length=n/\∀ a∈xs,A.ok a
 rt xs l h:=by rw [← h.1]; exact getN_rt A l xs h.2
 sd l xs l' hB e:=getN_sd A n l xs l' hB e
 le l xs l' e:=getN_le A n l xs l' e
def manyC {α:Type} (A:PC α):PC (List α) where
 get l:=(getS l).bind fun q=>getN A q.1.toNat q.2
 put xs:=shortL xs.length ++ xs.flatMap A.put
 ok xs:=(xs.length:Int) < 18446744073709551616/\∀ a∈xs,A.ok a
 rt xs l h:=by
  rw [List.append_assoc,getS_rt _ (by omega) h.1,Option.bind_some]
  dsimp only
  rw [Int.toNat_natCast]
  exact getN_rt A l xs h.2
 sd l xs l' hB e:=by
  obtain ⟨q,e1,e2⟩:=Option.bind_eq_some_iff.1 e
  obtain ⟨n,l1⟩:=q
  dsimp only at e2
  obtain ⟨p1,p2,p3⟩:=shortC.sd _ _ _ hB e1
  obtain ⟨a,b,c⟩:=getN_sd A n.toNat l1 xs l' (isB_right (by rw [← p1]; exact hB)) e2
  refine ⟨?_,by omega,c⟩
  rw [List.append_assoc,← a,show (xs.length:Int)=n from by omega]
  exact p1
 le l xs l' e:=by
  obtain ⟨q,e1,e2⟩:=Option.bind_eq_some_iff.1 e
  have a:=shortC.le _ _ _ e1
  have b:=getN_le A _ _ _ _ e2
  omega
theorem formL_num:∀ {l:List Int},isB l->formL (numL l) l.length=l
 | [],_=>rfl
 | b :: r,h=>by
  have h1:=h b (by simp)
  have h2:=formL_num (l:=r) fun x hx=>h x (List.mem_cons_of_mem _ hx)
  simp only [numL,List.length_cons,formL]
  rw [show (b + 256 * numL r) % 256=b from by omega,show (b + 256 * numL r) / 256=numL r from by omega,h2]
theorem numL_bd:∀ {l:List Int},isB l->0<=numL l/\numL l < 256 ^ l.length
 | [],_=>by simp [numL]
 | b :: r,h=>by
  have h1:=h b (by simp)
  have h2:=numL_bd (l:=r) fun x hx=>h x (List.mem_cons_of_mem _ hx)
  simp only [numL,List.length_cons,Int.pow_succ]
  omega
theorem num_formL:∀ (w:Nat) (v:Int),0<=v->v < 256 ^ w->numL (formL v w)=v
 | 0,v,h,h'=>by simp at h'; simp [formL,numL]; omega
 | w + 1,v,h,h'=>by
  rw [Int.pow_succ] at h'
  rw [formL,numL,num_formL w (v / 256) (by omega) (Int.ediv_lt_of_lt_mul (by omega) h')]
  omega
theorem formL_len':∀ (w:Nat) (v:Int),(formL v w).length=w
 | 0,v=>rfl
 | w + 1,v=>by rw [formL,List.length_cons,formL_len' w]
/-- a number of a width -/
def fixC (w:Nat):PC Int where
 get l:=if w<=l.length then some (numL (l.take w),l.drop w) else none
 put v:=formL v w
 ok v:=0<=v/\v < 256 ^ w
 rt v l h:=by
  have e:=formL_len' w v
  rw [if_pos (by rw [List.length_append,e]; omega)]
  have a:List.take w (formL v w ++ l)=formL v w:=by rw [List.take_append_of_le_length (by omega),List.take_of_length_le (by omega)]
  have b:List.drop w (formL v w ++ l)=l:=by have:=List.drop_left (l₁:=formL v w) (l₂:=l); rwa [e] at this
  rw [a,b,num_formL w v h.1 h.2]
 sd l v l' hB e:=by
  split at e
  ·cases e
   have tb:isB (l.take w):=fun x hx=>hB x (List.mem_of_mem_take hx)
   have tl:(l.take w).length=w:=by rw [List.length_take]; omega
   have a:=formL_num tb
   have b:=numL_bd tb
   rw [tl] at a b
   exact ⟨by rw [a,List.take_append_drop],b⟩
  ·cases e
 le l v l' e:=by
  split at e
  ·cases e; rw [List.length_drop]; omega
  ·cases e
/-- just what may be -/
def guardC {α:Type} (A:PC α) (p:α->Bool):PC α where
 get l:=(A.get l).bind fun q=>if p q.1 then some q else none
 put a:=if p a then A.put a else []
 ok a:=A.ok a/\p a=true
 rt a l h:=by
  rw [if_pos h.2,A.rt _ _ h.1]
  show (if p a then _ else _)=_
  rw [if_pos h.2]
 sd l a l' hB e:=by
  obtain ⟨q,e1,e2⟩:=Option.bind_eq_some_iff.1 e
  split at e2
  ·cases e2
   rename_i hp
   obtain ⟨a,b⟩:=A.sd _ _ _ hB e1
   dsimp only at hp
   rw [if_pos hp]
   exact ⟨a,b,hp⟩
  ·cases e2
 le l a l' e:=by
  obtain ⟨q,e1,e2⟩:=Option.bind_eq_some_iff.1 e
  split at e2
  ·cases e2; exact A.le _ _ _ e1
  ·cases e2
theorem eat_guard {α:Type} {A:PC α} {p:α->Bool} (h:Eat A):Eat (guardC A p):=fun l a l' e=>by
 obtain ⟨q,e1,e2⟩:=Option.bind_eq_some_iff.1 e
 split at e2
 ·cases e2; exact h _ _ _ e1
 ·cases e2
theorem eat_tx:Eat txC:=fun l a l' e=>by
 obtain ⟨q,e1,e2⟩:=Option.bind_eq_some_iff.1 e
 have:=eat_short _ _ _ e1
 split at e2
 ·cases e2; rw [List.length_drop]; omega
 ·cases e2
/-- a step of a reader: none is one that is bad -/
def RdStep {α:Type} (A:PC α) (o:Option (List Int)) (v:α) (o':Option (List Int)):Prop :=
 (∃ l',o.bind A.get=some (v,l')/\o'=some l')∨(o.bind A.get=none/\o'=none)
theorem RdStep.bad {α:Type} {A:PC α} {v:α} {o':Option (List Int)} (h:RdStep A none v o'):o'=none:=by
 rcases h with ⟨l',a,_⟩ | ⟨_,b⟩
 ·cases a
 ·exact b
theorem RdStep.nil {α:Type} {A:PC α} {v:α}:RdStep A Option.none v Option.none:=.inr ⟨rfl,rfl⟩
theorem RdStep.fail {α:Type} {A:PC α} {v:α} {l:List Int} (h:A.get l=Option.none):RdStep A (some l) v Option.none:=.inr ⟨h,rfl⟩
theorem RdStep.good {α:Type} {A:PC α} {v:α} {l l':List Int} (h:A.get l=some (v,l')):RdStep A (some l) v (some l'):=.inl ⟨l',h,rfl⟩
theorem RdStep.to {α:Type} {A:PC α} {v:α} {o:Option (List Int)} {l':List Int} (h:RdStep A o v (some l')):∃ l,o=some l/\A.get l=some (v,l'):=by
 rcases h with ⟨l2,a,b⟩ | ⟨_,b⟩
 ·cases b
  obtain ⟨l,e1,e2⟩:=Option.bind_eq_some_iff.1 a
  exact ⟨l,e1,e2⟩
 ·cases b
theorem RdStep.bind {α β:Type} {A:PC α} {B:α->PC β} {o o1 o2:Option (List Int)} {a:α} {b:β} (h1:RdStep A o a o1) (h2:RdStep (B a) o1 b o2):RdStep (A.bind B) o (a,b) o2:=by
 cases o with
 | none=>have:=h1.bad; subst this; have:=h2.bad; subst this; exact .nil
 | some l =>
  rcases h1 with ⟨l1,e1,rfl⟩ | ⟨e1,rfl⟩
  ·have e1:A.get l=some (a,l1):=e1
   rcases h2 with ⟨l2,e2,rfl⟩ | ⟨e2,rfl⟩
   ·have e2:(B a).get l1=some (b,l2):=e2
    refine .good ?_
    show Option.bind (A.get l) _=_
    rw [e1]
    show Option.map _ ((B a).get l1)=_
    rw [e2]; rfl
   ·have e2:(B a).get l1=Option.none:=e2
    refine .fail ?_
    show Option.bind (A.get l) _=_
    rw [e1]
    show Option.map _ ((B a).get l1)=_
    rw [e2]; rfl
  ·have:=h2.bad; subst this
   have e1:A.get l=Option.none:=e1
   refine .fail ?_
   show Option.bind (A.get l) _=_
   rw [e1]; rfl
end Go.Q.Sg
end
section
set_option maxRecDepth 100000
/- Strong: short forms are laid and read. -/
namespace Go.Q.Yk
open Go.Q.Sg
theorem bwOr8_128 {n:Int} (h:0<=n):bwOr .u8 (IntKind.u8.wrap n) 128=n % 128 + 128:=by
 rw [wU8]
 have key:(List.range 256).all (fun m=>bwOr .u8 (m:Int) 128 == (m:Int) % 128 + 128)=true:=by decide +kernel
 have:=List.all_eq_true.1 key (n % 256).toNat (by simp; omega)
 rw [beq_iff_eq,show ((n % 256).toNat:Int)=n % 256 from by omega] at this
 rw [this]; omega
theorem shr64 (n:Int):shr .u64 n (7:Int).toNat=n / 128:=by
 unfold shr
 rw [show (2:Int) ^ (min (7:Int).toNat IntKind.u64.bits)=128 from rfl,Int.fdiv_eq_ediv_of_nonneg _ (by omega)]
theorem PutShort_ok {p0:Slc} {l:List Int} {n:Int} {k:Slc->Heap->Prop} {h:Heap} (hl:p0.len=l.length) (hs:SlcAt h p0 (b8 l)) (hsz:l.length<=35184372088832) (n0:0<=n) (n1:n < 18446744073709551616)
  (H:Lays' h (l ++ shortL n) k):num_PutShort p0 n k h:=by
 unfold num_PutShort
 refine Clone_ok hl hs (by omega) fun s1 h1 R1 X1=>?_
 refine ⟨fun q h'=>∃ (cur:List Int) (f:Nat),Row h.size h' 5 1 q.2 (b8 cur)/\cur ++ shortF f q.1=l ++ shortL n/\0<=q.1/\q.1 < 128 ^ f/\1<=f/\f<=10/\cur.length + f<=l.length + 10/\Ext h.size h h',fun q _=>q.1.toNat,⟨l,10,R1,rfl,n0,by omega,by omega,by omega,by omega,X1⟩,?_⟩
 rintro m s h2 ⟨cur,f,R,hc,m0,m1,f1,f10,lc,X⟩
 dsimp only at R hc m0 m1
 have z:=X.size
 obtain ⟨f,rfl⟩:∃ g,f=g + 1:=⟨f - 1,by omega⟩
 unfold num_PutShort_l1b
 by_cases hm:m>=128
 ·rw [if_pos (by simpa using hm),bwOr8_128 m0,shr64]
  refine ⟨_,_,rfl,rfl,?_⟩
  have hf:1<=f:=by
   rcases Nat.eq_zero_or_pos f with h0 | h0
   ·subst h0; simp at m1; omega
   ·exact h0
  refine AppB (m:=[m % 128 + 128]) (R.pushed _) (by simp; omega) rfl (by simp; omega) fun s' h3 R3 X3=>?_
  have hlt:m / 128 < 128 ^ f:=Int.ediv_lt_of_lt_mul (by omega) (by rw [Int.pow_succ] at m1; exact m1)
  refine ⟨_,rfl,⟨_,f,R3,?_,by dsimp only; omega,hlt,hf,by omega,by simp; omega,X.trans ((Ext.push h2 _ z).trans X3)⟩,by dsimp only; omega⟩
  dsimp only
  rw [← hc,shortF,if_neg (by omega)]
  simp
 ·rw [if_neg (by simpa using hm),wU8,show m % 256=m from by omega]
  refine ⟨_,_,rfl,rfl,?_⟩
  refine AppB (m:=[m]) (R.pushed _) (by simp; omega) rfl (by simp; omega) fun s' h3 R3 X3=>?_
  refine H s' h3 ?_ (X.trans ((Ext.push h2 _ z).trans X3))
  rw [← hc,shortF,if_pos (by omega)]
  exact R3
theorem and127 {v:Int} (h:0<=v/\v < 256):bwAnd .u8 v 127=v % 128:=by
 have key:(List.range 256).all (fun m=>bwAnd .u8 (m:Int) 127 == (m:Int) % 128)=true:=by decide +kernel
 have:=List.all_eq_true.1 key v.toNat (by simp; omega)
 rw [beq_iff_eq,show ((v.toNat:Nat):Int)=v from by omega] at this
 exact this
theorem or_shift {n c:Int} {i:Nat} (hi:i<=9) (n0:0<=n) (n1:n < 128 ^ i) (c0:0<=c) (c1:c < 128) (c9:i=9->c<=1):bwOr .u64 n (shl .u64 c (7 * i))=n + c * 128 ^ i/\n + c * 128 ^ i < 18446744073709551616/\0<=n + c * 128 ^ i:=by
 have hp:(128:Int) ^ i=2 ^ (7 * i):=by rw [show (128:Int)=2 ^ 7 from rfl,← Int.pow_mul]
 have fit:c * 128 ^ i + 128 ^ i<=18446744073709551616/\(128:Int) ^ i<=9223372036854775808/\0<=c * 128 ^ i:=by
  have:i=0∨i=1∨i=2∨i=3∨i=4∨i=5∨i=6∨i=7∨i=8∨i=9:=by omega
  rcases this with rfl | rfl | rfl | rfl | rfl | rfl | rfl | rfl | rfl | rfl <;> (try have:=c9 rfl) <;> omega
 have es:shl .u64 c (7 * i)=c * 128 ^ i:=by
  unfold shl
  rw [show min (7 * i) IntKind.u64.bits=7 * i from by show min (7 * i) 64=7 * i; omega,← hp,wU64]
  have:c * 128 ^ i < 18446744073709551616:=by
   have:1<=(128:Int) ^ i:=by have:(0:Int) < 128 ^ i:=Int.pow_pos (by omega); omega
   omega
  exact Int.emod_eq_of_lt fit.2.2 this
 have hpn:(128:Int) ^ i=((2 ^ (7 * i):Nat):Int):=by rw [hp]; simp
 refine ⟨?_,by omega,by omega⟩
 rw [es]
 obtain ⟨a,rfl⟩:∃ a:Nat,n=a:=⟨n.toNat,by omega⟩
 obtain ⟨d,rfl⟩:∃ d:Nat,c=d:=⟨c.toNat,by omega⟩
 rw [hpn] at fit n1 ⊢
 have e:(d:Int) * ((2 ^ (7 * i):Nat):Int)=((d * 2 ^ (7 * i):Nat):Int):=by simp
 rw [e] at fit ⊢
 rw [bwOr64 (by omega) (by omega),Nat.or_comm,or_add (by omega)]
 omega
theorem GetShort_ok {s:Slc} {l:List Int} {k:Int × Int × Int->Heap->Prop} {h:Heap} (hs:SlcAt h s (b8 l)) (hl:s.len=l.length) (hB:isB l) (hz:l.length<=4611686018427387904)
  (H1:∀ v l' (u:Nat),getS l=some (v,l')->l'=l.drop u->u<=l.length->0<=v->v < 18446744073709551616->k (v,(u:Int),0) h) (H2:getS l=none->∀ e,e≠0->k (0,0,e) h):num_GetShort s k h:=by
 unfold num_GetShort
 refine ⟨fun q h'=>∃ p l',l=p ++ l'/\(∀ b∈p,128<=b/\b < 256)/\q.2=(p.length:Int)/\p.length<=9/\q.1=valS p/\getS l=(gs p.length l').map (fun r=>(valS p + r.1 * 128 ^ p.length,r.2))/\h'=h,fun q _=>(10 - q.2).toNat,⟨[],l,rfl,by simp,rfl,by simp,rfl,?_,rfl⟩,?_⟩
 ·show gs 0 l=_
  cases gs 0 l with
  | none=>rfl
  | some r=>simp [valS]
 rintro n i h' ⟨p,l',e,hp,hi,h9,hn,hg,hh⟩
 dsimp only at hi hn
 subst hh
 subst hi; subst hn
 unfold num_GetShort_l1b
 have ll:l.length=p.length + l'.length:=by rw [e,List.length_append]
 cases l' with
 | nil =>
  simp at ll
  rw [if_neg (by rw [decide_eq_true_eq]; omega)]
  exact H2 hg 2 (by decide)
 | cons c r =>
  simp at ll
  rw [if_pos (by rw [decide_eq_true_eq]; omega)]
  have hc:l[p.length]? = some c:=by rw [e]; simp
  have cb:=hB c (List.mem_of_getElem? hc)
  obtain ⟨a,ha,hv⟩:=slc_get hs (i:=p.length) (v:=.int .u8 c) (by rw [List.getElem?_map,hc]; rfl)
  refine ⟨a,ha,by omega,by omega,c,by rw [Int.toNat_natCast,Nat.mul_one]; exact hv,?_⟩
  rw [gs] at hg
  by_cases hbad:p.length=9/\c > 1
  ·rw [if_pos (by simp [hbad.1]; omega)]
   rw [if_pos ⟨hbad.1,hbad.2⟩] at hg
   exact H2 hg 4 (by decide)
  ·rw [if_neg (by
    simp only [Bool.and_eq_true,beq_iff_eq,decide_eq_true_eq]
    rintro ⟨h1,h2⟩; exact hbad ⟨by omega,h2⟩)]
   rw [if_neg hbad] at hg
   rw [wrapU64 (x:=(p.length:Int)) (by omega) (by omega),wrapU64 (x:=7 * (p.length:Int)) (by omega) (by omega),and127 cb,wrapU64 (x:=c % 128) (by omega) (by omega),show (7 * (p.length:Int)).toNat=7 * p.length from by omega]
   have vb:=valS_bd hp
   obtain ⟨o1,o2,o3⟩:=or_shift (n:=valS p) (c:=c % 128) h9 vb.1 vb.2 (by omega) (by omega) (fun h=>by omega)
   rw [o1,wrapI64 (by omega) (by omega)]
   refine ⟨by omega,_,rfl,?_⟩
   by_cases hm:c>=128
   ·rw [if_pos (by rw [decide_eq_true_eq]; omega)]
    rw [if_pos hm] at hg
    have h8:p.length<=8:=by omega
    refine ⟨⟨p ++ [c],r,by rw [e]; simp,fun b hb=>?_,by simp,by simp; omega,?_,?_,rfl⟩,by dsimp only; omega⟩
    ·rcases List.mem_append.1 hb with hb | hb
     ·exact hp b hb
     ·simp at hb; omega
    ·dsimp only
     rw [valS_snoc,show c % 128=c - 128 from by omega]
    ·rw [hg,List.length_append,List.length_singleton,valS_snoc]
     cases gs (p.length + 1) r with
     | none=>rfl
     | some q =>
      show some (_,q.2)=some (_,q.2)
      rw [Int.pow_succ]
      generalize (128:Int) ^ p.length=P
      have:(c - 128 + 128 * q.1) * P=(c - 128) * P + q.1 * (P * 128):=by
       rw [Int.add_mul,Int.mul_comm 128 q.1,Int.mul_assoc,Int.mul_comm 128 P]
      rw [this,Int.add_assoc]
   ·rw [if_neg (by rw [decide_eq_true_eq]; omega)]
    rw [if_neg hm] at hg
    by_cases hzr:c=0/\0 < p.length
    ·rw [if_pos (by simp [hzr.1]; omega)]
     rw [if_pos hzr] at hg
     exact H2 hg 4 (by decide)
    ·rw [if_neg (by
      simp only [Bool.and_eq_true,beq_iff_eq,decide_eq_true_eq]
      rintro ⟨h1,h2⟩; exact hzr ⟨h1,by omega⟩)]
     rw [if_neg hzr] at hg
     rw [show c % 128=c from by omega] at o2 o3 ⊢
     refine ⟨_,rfl,?_⟩
     exact H1 (valS p + c * 128 ^ p.length) r (p.length + 1) hg (by rw [e,List.drop_append]; simp) (by omega) o3 o2
end Go.Q.Yk
end
