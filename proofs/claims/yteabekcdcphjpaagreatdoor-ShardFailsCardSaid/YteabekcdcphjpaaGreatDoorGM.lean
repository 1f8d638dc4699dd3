/- Several texts in one: Gv1, Gv2, Gv3, Zs, Gx1, Gx2. -/
import Derived.Test.YteabekcdcphjpaaGreatDoorGN
import Derived.Test.YteabekcdcphjpaaGreatDoorGK
import Derived.Test.YteabekcdcphjpaaGreatDoorGH
import Derived.Test.YteabekcdcphjpaaGreatDoorGI
import Derived.Test.YteabekcdcphjpaaGreatDoorHSfRise
import Derived.Test.YteabekcdcphjpaaGreatDoorGL
set_option linter.unusedVariables false
set_option linter.unusedSimpArgs false
namespace Go.Proofs.YteabekcdcphjpaaGreatDoor
open Go.Se Go.RowKit
open Go.Maps Go.Sort Go.Shelf
structure Xb2 (s:Qbm) (N:Int):Prop where
 keys:s.Pairwise (fun x y=>x.1≠y.1)
 small:Qgt s N
 N0:0<=N
 sum:s.length*N<4611686018427387904
 len:s.length<1000000
theorem Qnz (s:Qbm) (key:ByteArray):(Qak s key).length<=s.length:=by
 unfold Qak;rw[List.length_map];exact List.length_filter_le _ _
theorem Q13 {s:Qbm} {N:Int} (ok:Xb2 s N) (key:ByteArray) (lo hi:Int) (row:List Int):0<=Q6y s key lo hi row/\Q6y s key lo hi row<=row.length*N:=by
 have hb:=Qdd (fun n:Int=>(Qe s (key,n)).getD 0) N (row.filter fun n=>decide (lo<=n)&&decide (n<hi)) fun x _=>by
  have:=Qf3 ok.small ok.N0 (key,x)
  exact⟨this.1,this.2.1⟩
 have hl:=List.length_filter_le (fun n:Int=>decide (lo<=n)&&decide (n<hi)) row;unfold Q6y
 exact⟨hb.1,Int.le_trans hb.2 (Int.mul_le_mul_of_nonneg_right (by omega) ok.N0)⟩
set_option maxHeartbeats 1000000 in
theorem Qks (w:World) (S:Nat->Prop) (p:Nat) (width n:Int) (s:Qbm) (h:Qo9 w S p width n s) (hw:1<=width/\width<=1099511627776) (N:Int) (ok:Xb2 s N) (key:ByteArray) (a b:Int) (ha:-4398046511104<=a/\a<=4398046511104) (hb:-4398046511104<=b/\b<=4398046511104) :
 Cal Tryz.prog 18 [.pointer (some ⟨p,0,none⟩),.string key,.int .i64 a,.int .i64 b] w fun r w'=>r = .int .i64 (paS s key (a/width) (b/width))/\w'=w:=by
 obtain⟨bs,br,L,R,h⟩:=h;have hh:=h.head;have hlo:=Qg0 hw.1 ha;have hhi:=Qg0 hw.1 hb;have hpb:=fun lo hi=>Q45 ok.small ok.N0 key lo hi
 have hsm:=ok.sum;have hrow:=(h.rows.own key).1.sl Qdr;have hlook:=h.rows.look Q21 Qae (e:=ty129) ty129_ok rfl key (cl := .same) Xb
 have hsl:∀ x,RdS Tryz.prog .same w (Instr.lookup 130 (.map (some bs)) (cel x) false) (vi ((Qe s x).getD 0)):=fun x=>by
  have:=Qcs Xbm Qv1 (e:=ty2) ty2_ok (cl := .same) Xb h.sums x;rw[show (Qe (Qas vi s) x).getD ty2.zero=vi ((Qe s x).getD 0) from Qb0 vi _ _ 0] at this
  exact this
 have hrl:=Qnz s key;have hlen:=ok.len;have hall:=Q8n ok.keys key (a/width) (b/width);have hrb:=Q13 ok key (a/width) (b/width);have hN0:=ok.N0;have hcell:=fun n=>Qf3 ok.small ok.N0 (key,n)
 generalize Qak s key=row at hrow hlook hrl hall;generalize (rowAt L key).1=A0 at hrow hlook;generalize (rowAt L key).2=c0 at hrow hlook;refine Fi Tryz.func18 rfl _ rfl rfl (Hh ?_);refine(Qh0 w p width n bs br hh hw a ⟨by omega,by omega⟩).mono ?_;rintro _ _ ⟨rfl,rfl⟩;conv=>whnf
 refine(Qh0 _ p width n bs br hh hw b ⟨by omega,by omega⟩).mono ?_;rintro _ w1 ⟨rfl,hw1⟩;subst hw1;generalize a/width=lo at *;generalize b/width=hi at *
 conv=>whnf
 refine⟨hi-lo,wrap_eq rfl ⟨by omega,by omega⟩,Hh ?_⟩;refine⟨.map (some br),hh.one rfl,Hh ?_⟩;refine⟨_,hlook,Hh ?_⟩;constructor
 . intro hc
   have hc:hi-lo<row.length/\0<=lo:=by simpa using hc
   conv=>whnf
   refine Qd Qa (fun(q:Nat×Int×Int) w'=>(q.1=0\/lo+q.1<=hi)/\q.2.1=lo+q.1/\q.2.2=paS s key lo (lo+q.1)/\w'=w1)
    (fun | (k,n,t) => [(0,.pointer (some ⟨p,0,none⟩)),(1,.string key),(10,.int .i64 hi),(11,.int .i64 t),(12,.int .i64 n)]) (fun q=>(hi-lo).toNat-q.1) (0,lo,0) ⟨.inl rfl,by simp,(Qnt (by simp)).symm,rfl⟩ Rr ?_
   rintro ⟨k,n,t⟩ w2 ⟨hk,hn,ht,hw2⟩;simp only at hk hn ht;subst hw2
   conv=>whnf
   constructor
   . intro hlt
     have hlt:n<hi:=by simpa using hlt
     have hst:=Q8a ok.keys key lo (lo+k) (by omega);have e1:lo+(k:Int)+1=lo+((k+1:Nat):Int):=by omega
     rw[e1,<- ht,<- hn] at hst;have hb1:=hpb lo (lo+((k+1:Nat):Int));have hb2:=hpb lo (lo+(k:Int));rw[<- ht] at hb2;rw[hst] at hb1
     conv=>whnf
     refine⟨.map (some bs),hh.one rfl,Hh ?_⟩;refine⟨_,hsl (key,n),Hh ?_⟩;refine⟨t+(Qe s (key,n)).getD 0,wrap_eq rfl ⟨by omega,by omega⟩,Hh ?_⟩;refine⟨n+1,wrap_eq rfl ⟨by omega,by omega⟩,Hh ?_⟩
     exact⟨(k+1,n+1,t+(Qe s (key,n)).getD 0),by simp only;omega,⟨.inr (by simp only;omega),by simp only;omega,hst.symm,rfl⟩,Rr⟩
   . intro hge
     have hge:hi<=n:=by simpa using hge
     conv=>whnf
     refine⟨?_,rfl⟩;rw[ht];rcases hk with rfl | hk
     . have h1:paS s key lo (lo+((0:Nat):Int))=0:=Qnt (by omega)
       have h2:paS s key lo hi=0:=Qnt (by omega);rw[h1,h2]
     . have:lo+(k:Int)=hi:=by omega
       rw[this]
 . intro _
   conv=>whnf
   refine⟨.map (some br),hh.one rfl,Hh ?_⟩;refine⟨_,hlook,Hh ?_⟩
   refine Qd Qa (fun(q:Nat×Int) w'=>q.1<=row.length/\q.2=Q6y s key lo hi (row.take q.1)/\w'=w1)
    (fun | (k,t) => [(0,.pointer (some ⟨p,0,none⟩)),(1,.string key),(9,.int .i64 lo),(10,.int .i64 hi),(11,.int .i64 t),(58,.slice A0 row.length c0),(59,.int .i64 row.length),(60,.int .i64 (k:Nat))]) (fun q=>row.length-q.1) (0,0) ⟨Nat.zero_le _,rfl,rfl⟩ Rr ?_
   rintro ⟨k,t⟩ w2 ⟨hk,ht,hw2⟩;simp only at hk ht;subst hw2
   conv=>whnf
   constructor
   . intro hlt
     have hlt:k<row.length:=by simpa using hlt
     obtain⟨a2,hA,hc2⟩:=hrow.get hlt;subst hA;have htk:Q6y s key lo hi (row.take (k+1))=t+if lo<=row[k]/\row[k]<hi then(Qe s (key,row[k])).getD 0 else 0:=by rw[ht,List.take_succ_eq_append_getElem hlt,Q5t]
     have hb1:=(hrb (row.take (k+1)));have hl1:((row.take (k+1)).length:Int)*N<=s.length*N:=Int.mul_le_mul_of_nonneg_right (by rw[List.length_take];omega) hN0;generalize row[k]=y at hc2 htk;refine Gg ?_;refine⟨a2,Ix,Gg ?_⟩;refine⟨.int .i64 y,Qp hc2,Gg ?_⟩;constructor
     . intro hc
       have hc:lo<=y/\y<hi:=by simpa using hc
       rw[if_pos hc] at htk;rw[htk] at hb1;refine Gg ?_;refine⟨.map (some bs),hh.one rfl,Gg ?_⟩;refine⟨_,hsl (key,y),Gg ?_⟩;refine⟨t+(Qe s (key,y)).getD 0,wrap_eq rfl ⟨by omega,by omega⟩,Gg ?_⟩;refine⟨_,wrap_succ (by omega),Gg ?_⟩
       exact⟨(k+1,t+(Qe s (key,y)).getD 0),by simp only;omega,⟨by simp only;omega,htk.symm,rfl⟩,Rr⟩
     . intro hc
       have hc:¬ (lo<=y/\y<hi):=by
        have hc:(decide (lo<=y)&&decide (y<hi))=false:=hc
        simpa using hc
       rw[if_neg hc,Int.add_zero] at htk;refine Gg ?_;refine⟨_,wrap_succ (by omega),Gg ?_⟩
       exact⟨(k+1,t),by simp only;omega,⟨by simp only;omega,htk.symm,rfl⟩,Rr⟩
   . intro hge
     have hge:row.length<=k:=by simpa using hge
     rw[List.take_of_length_le hge,hall] at ht;rw[ht]
     conv=>whnf
     exact⟨rfl,rfl⟩
def Ql0 (lo hi:Int) (x:Int):Bool:=decide (lo<=x)&&decide (x<hi)
theorem Q07 (bl bh:Nat) (lo hi x:Int) (w:World) (hl:At w bl 3 [.int .i64 lo]) (hh:At w bh 3 [.int .i64 hi]) :
 Cal Tryz.prog 91 [.int .i64 x,.pointer (some ⟨bl,0,none⟩),.pointer (some ⟨bh,0,none⟩)] w fun r w'=>r = .bool (Ql0 lo hi x)/\w'=w:=by
 refine Fi Tryz.func91 rfl _ rfl rfl (Hh ?_);refine⟨.int .i64 lo,hl.one0,Hh ?_⟩;refine⟨.int .i64 hi,fun _=>hh.one0,Hh ?_⟩
 exact⟨rfl,rfl⟩
theorem Q36 (bl bh:Nat) (lo hi:Int) (row:List Int) (A:Option Addr) (c:Nat) (w:World) (hs:Sl Qmc 1 w A row) (hlen:row.length<1000000) (hl:At w bl 3 [.int .i64 lo]) (hh:At w bh 3 [.int .i64 hi]) :
 Cal Tryz.prog 164 [.slice A row.length c,.func (.func 91) #[] #[.pointer (some ⟨bl,0,none⟩),.pointer (some ⟨bh,0,none⟩)]] w fun r w'=>(∃ i:Int,r = .int .i64 i /\ -1<=i/\(0<=i↔row.any (Ql0 lo hi)=true))/\w'=w:=by
 refine Fi Tryz.func164 rfl _ rfl rfl (Hh ?_)
 refine Qd Qa (fun(k:Nat) w'=>k<=row.length/\(row.take k).any (Ql0 lo hi)=false/\w'=w)
  (fun k => [(0,.slice A row.length c),(1,.func (.func 91) #[] #[.pointer (some ⟨bl,0,none⟩),.pointer (some ⟨bh,0,none⟩)]),(7,.int .i64 row.length),(8,.int .i64 (k:Nat))]) (fun k=>row.length-k) 0 ⟨Nat.zero_le _,rfl,rfl⟩ Rr ?_
 rintro k w2 ⟨hk,hno,hw2⟩;subst hw2
 conv=>whnf
 constructor
 . intro hlt
   have hlt:k<row.length:=by simpa using hlt
   obtain⟨a2,hA,hc2⟩:=hs.get hlt;subst hA;have htk:(row.take (k+1)).any (Ql0 lo hi)=Ql0 lo hi row[k]:=by rw[List.take_succ_eq_append_getElem hlt,List.any_append,hno];simp
   have hmem:row[k]∈row:=List.getElem_mem hlt;generalize row[k]=y at hc2 htk hmem
   conv=>whnf
   refine⟨a2,Ix,Hh ?_⟩;refine⟨.int .i64 y,Qp hc2,Hh ?_⟩;refine(Q07 bl bh lo hi y w2 hl hh).mono ?_;rintro _ _ ⟨rfl,rfl⟩;generalize hq:Ql0 lo hi y=q at htk ⊢
   conv=>whnf
   constructor
   . intro hc
     have hc:q=true:=hc
     conv=>whnf
     refine⟨⟨k,rfl,by omega,?_⟩,rfl⟩;simp only[Int.natCast_nonneg,true_iff,List.any_eq_true]
     exact⟨y,hmem,by rw[hq,hc]⟩
   . intro hc
     have hc:q=false:=hc
     conv=>whnf
     refine⟨_,wrap_succ (by omega),Hh ?_⟩
     exact⟨k+1,by omega,⟨by omega,by rw[htk,hc],rfl⟩,Rr⟩
 . intro hge
   have hge:row.length<=k:=by simpa using hge
   rw[List.take_of_length_le hge] at hno
   conv=>whnf
   exact⟨⟨-1,rfl,by omega,by rw[hno];simp⟩,rfl⟩
theorem Q32 (bl bh:Nat) (lo hi:Int) (row:List Int) (A:Option Addr) (c:Nat) (w:World) (hs:Sl Qmc 1 w A row) (hlen:row.length<1000000) (hl:At w bl 3 [.int .i64 lo]) (hh:At w bh 3 [.int .i64 hi]) :
 Cal Tryz.prog 90 [.slice A row.length c,.func (.func 91) #[] #[.pointer (some ⟨bl,0,none⟩),.pointer (some ⟨bh,0,none⟩)]] w fun r w'=>r = .bool (row.any (Ql0 lo hi))/\w'=w:=by
 refine Fi Tryz.func90 rfl _ rfl rfl (Hh ?_);refine(Q36 bl bh lo hi row A c w hs hlen hl hh).mono ?_;rintro _ _ ⟨⟨i,rfl,hi1,hi2⟩,rfl⟩
 conv=>whnf
 refine⟨?_,rfl⟩
 cases hq:row.any (Ql0 lo hi) with
 | true=>rw[decide_eq_true (hi2.2 hq)]
 | false=>rw[decide_eq_false (fun h=>by rw[hi2.1 h] at hq;cases hq)]
end Go.Proofs.YteabekcdcphjpaaGreatDoor
namespace Go.Proofs.YteabekcdcphjpaaGreatDoor
open Go.Se Go.RowKit
open Go.Maps Go.Sort Go.Shelf
def Qch (s:Qbm) (lo hi:Int):List ByteArray:=Qbp ((s.filter fun x=>Ql0 lo hi x.1.2).map (·.1.1))
theorem Qy2 {s:Qbm} {key:ByteArray} {lo hi:Int}:(Qak s key).any (Ql0 lo hi)=true↔∃ x∈s,x.1.1=key/\Ql0 lo hi x.1.2=true:=by
 unfold Qak;rw[List.any_eq_true];constructor
 . rintro ⟨y,hy,h⟩
   obtain⟨x,hx,rfl⟩:=List.mem_map.1 hy;obtain⟨h1,h2⟩:=List.mem_filter.1 hx
   exact⟨x,h1,by simpa using h2,h⟩
 . rintro ⟨x,hx,h1,h2⟩
   exact⟨x.1.2,List.mem_map.2 ⟨x,List.mem_filter.2 ⟨hx,by simpa using h1⟩,rfl⟩,h2⟩
theorem Qtp {s:Qbm} {key:ByteArray} {lo hi:Int}:key∈Qch s lo hi↔(Qak s key).any (Ql0 lo hi)=true:=by
 unfold Qch;rw[X7,Qy2,List.mem_map];constructor
 . rintro ⟨x,hx,rfl⟩
   obtain⟨h1,h2⟩:=List.mem_filter.1 hx
   exact⟨x,h1,rfl,h2⟩
 . rintro ⟨x,hx,h1,h2⟩
   exact⟨x,List.mem_filter.2 ⟨hx,h2⟩,h1⟩
theorem Qtq {s:Qbm} {N:Int} (h:Qgt s N) {key:ByteArray} {lo hi:Int}:key∈Qch s lo hi↔0<paS s key lo hi:=by
 rw[Qtp,Qy2]
 induction s with
 | nil=>simp[paS]
 | cons x s ih =>
   have ih:=ih fun y hy=>h y (by simp[hy])
   have hx:=(h x (by simp)).1;have h0:0<=paS s key lo hi:=(Qdd (fun y:PK×Int=>y.2) N _ fun y hy=>by have:=h y (by simp[(List.mem_filter.1 hy).1]);exact⟨by omega,this.2⟩).1;rw[Qrq];constructor
   . rintro ⟨y,hy,h1,h2⟩
     rcases List.mem_cons.1 hy with rfl | hy
     . have h2:lo<=y.1.2/\y.1.2<hi:=by simpa [Ql0] using h2
       rw[if_pos ⟨h1,h2⟩];omega
     . have:=ih.1 ⟨y,hy,h1,h2⟩
       split <;> omega
   . intro hp
     by_cases hc:x.1.1=key/\lo<=x.1.2/\x.1.2<hi
     . exact⟨x,by simp,hc.1,by simp[Ql0,hc.2]⟩
     . rw[if_neg hc,Int.zero_add] at hp
       obtain⟨y,hy,h1⟩:=ih.2 hp
       exact⟨y,by simp[hy],h1⟩
theorem Qxx (l:List ByteArray) {ss:List (List UInt8)} (hp:ss.Perm (l.map fun x=>x.data.toList)):(ss.mergeSort fun x y=>decide (x<=y)).map (fun x=>(⟨x.toArray⟩:ByteArray))=Qah l:=by
 apply Qc0
 . have h1:=(List.mergeSort_perm ss fun x y=>decide (x<=y)).trans hp
   have h2:=h1.map (fun x=>(⟨x.toArray⟩:ByteArray))
   simpa [List.map_map,Function.comp_def] using h2
 . unfold Srt
   rw[List.pairwise_map];have:=List.pairwise_mergeSort (le:=fun x y:List UInt8=>decide (x<=y)) (fun a b c h1 h2=>by simp only[decide_eq_true_eq] at *;exact List.le_trans h1 h2) (fun a b=>by simp only[Bool.or_eq_true,decide_eq_true_eq];exact List.le_total a b) ss;refine this.imp fun {a b} h => ?_
   simp only[decide_eq_true_eq] at h;unfold bLt;rw[ByteArray.toList_eq,ByteArray.toList_eq,bytesLess_eq]
   simpa using h
theorem Qln (l:List ByteArray) (A:Option Addr) (c base:Nat) (w:World) (hown:Own Qbg 1 9 base w A c l) (hl:l.length<1000000) :
 Cal Tryz.prog 92 [.slice A l.length c] w fun r w'=>r = .tuple #[]/\SlT w' A (Qah l)/\∀ w0,Ext w0 w->w0.heap.size<=base->Ext w0 w':=by
 have hok:Qqj Tryz.prog 92:=⟨_,Tryz.func92,rfl,rfl⟩
 by_cases h0:l = []
 . subst h0
   refine Qce hok (AnyM.slices_Sort_string_none Tryz.sort92 A c w) ?_;rintro w' rfl
   exact⟨rfl,by rw[Qjt];exact Sl.nil,fun w0 h _=>h⟩
 . have hsl:=hown.sl Qad
   have hpos:0<l.length:=List.length_pos_iff.2 h0;rcases hown.2 with⟨_,h1⟩ | ⟨g,cap,cur,hv,hb,hg,hc1,hc2,hc3,hc4⟩
   . omega
   injection hv with hA _ hcc;subst hA;subst hcc;obtain⟨ss,hss⟩:∃ ss,ss=l.map fun x=>x.data.toList:=⟨_,rfl⟩
   have hsl2:ss.length=l.length:=by rw[hss,List.length_map]
   have hH:Holds encStr w g 0 ss.toArray:=by
    intro j hj;have hj':j<l.length:=by rw[<- hsl2];simpa using hj
    obtain⟨a,ha,hca⟩:=hsl.get hj';have ha':a=⟨g,0,none⟩:=by simpa using ha.symm
    have hcell:=Qp hca;rw[ha',Ql4,Nat.mul_one] at hcell;refine⟨?_,by unfold World.frozen?;rw[hg];simp⟩;rw[Nat.zero_add,hcell]
    simp[hss,encStr,hj']
   have hbl:g<w.heap.size:=lt_of_block hg;have hcall:=AnyM.slices_Sort_string Tryz.sort92 g 0 c ss w hH hbl (by omega);rw[hsl2] at hcall;refine Qce hok hcall ?_;rintro w' ⟨k,os,rfl⟩;have hz:=Qxx l (ss:=ss) (by rw[hss]);have hml:(ss.mergeSort fun x y=>decide (x<=y)).length=ss.length:=List.length_mergeSort _;generalize (ss.mergeSort fun x y=>decide (x<=y))=ms at hz hml
   have hH2:Holds encStr (grow (putRow encStr (Go.Sort.ahead w k) g 0 ms.toArray) os) g 0 ms.toArray:=by
    refine holds_grow _ _ _ _ _ _ ?_ (holds_putRow _ _ _ _ ss.toArray _ (holds_ahead _ _ _ _ _ _ hH) (by simpa using hml));show g<((Go.Sort.ahead w k).heap.modify g _).size
    rw[Array.size_modify];exact hbl
   refine⟨rfl,?_,?_⟩
   . intro i x hi
     rw[<- hz,List.getElem?_map] at hi
     cases hq:ms[i]? with
     | none=>rw[hq] at hi;simp at hi
     | some y =>
       rw[hq] at hi
       simp at hi
       subst hi;have hil:i<ms.length:=(List.getElem?_eq_some_iff.1 hq).1;have:=(hH2 i (by simpa using hil)).1;refine⟨_,rfl,fun j v hj => ?_⟩
       have hj0:j=0:=by
        have:=(List.getElem?_eq_some_iff.1 hj).1
        simp[Qbg] at this
        exact this
       subst hj0
       have hyv:ms.toArray[i]! = y:=by
        have:=(List.getElem?_eq_some_iff.1 hq).2
        simp[hil,this]
       rw[hyv] at this;rw[Xz,Ql4,Nat.mul_one]
       simp[Qbg] at hj
       rw[<- hj];rw[Nat.zero_add] at this
       exact this
   . intro w0 h0 hb0
     have hx1:Ext w0 (putRow encStr (Go.Sort.ahead w k) g 0 ms.toArray):=by
      refine⟨h0.os,h0.tape,h0.output,?_,fun k' hk => ?_⟩
      . show w0.heap.size<=((Go.Sort.ahead w k).heap.modify g _).size
        rw[Array.size_modify];exact h0.size
      . have:(putRow encStr (Go.Sort.ahead w k) g 0 ms.toArray).heap[k']? = (Go.Sort.ahead w k).heap[k']? := Qfh _ _ _ _ (by omega)
        rw[this];exact h0.block k' hk
     exact hx1.trans (Qi6 _ os)
set_option maxHeartbeats 1000000 in
theorem Qt1 (w:World) (S:Nat->Prop) (p:Nat) (width n:Int) (s:Qbm) (h:Qo9 w S p width n s) (hw:1<=width/\width<=1099511627776) (N:Int) (ok:Xb2 s N) (a b:Int) (ha:-4398046511104<=a/\a<=4398046511104) (hb:-4398046511104<=b/\b<=4398046511104) :
 Cal Tryz.prog 26 [.pointer (some ⟨p,0,none⟩),.int .i64 a,.int .i64 b] w fun r w'=>∃ A c,r = .slice A (Qch s (a/width) (b/width)).length c/\SlT w' A (Qch s (a/width) (b/width))/\(∀ x,A=some x->w.heap.size<=x.block)/\Ext w w':=by
 obtain⟨bs,br,L,R,h⟩:=h;have hh:=h.head;have hm:=h.rows.map;have hlen:=ok.len
 have hLl:L.length<=s.length:=by
  have h1:(L.map (·.1)).Nodup:=Qau h.rows.keys
  have h2:∀ x∈L.map (·.1),x∈s.map (fun y=>y.1.1):=fun x hx=>by
   obtain⟨y,hy,rfl⟩:=List.mem_map.1 hx;have hne:=h.rows.ne y hy
   cases hq:Qak s y.1 with
   | nil=>exact absurd hq hne
   | cons n l =>
     have hn:n∈Qak s y.1:=by rw[hq];simp
     unfold Qak at hn;obtain⟨z,hz,_⟩:=List.mem_map.1 hn;obtain⟨h3,h4⟩:=List.mem_filter.1 hz
     exact List.mem_map.2 ⟨z,h3,by simpa using h4⟩
  have:=Qjx h1 h2
  simpa using this
 have hK:∀ out:List ByteArray,out.Perm ((L.map (·.1)).filter fun k=>(Qak s k).any (Ql0 (a/width) (b/width)))->Qah out=Qch s (a/width) (b/width):=fun out hp=>by
  refine Qhd ?_ fun x => ?_
  . exact hp.nodup_iff.2 ((Qau h.rows.keys).sublist List.filter_sublist)
  . rw[hp.mem_iff,List.mem_filter]
    have hm1:x∈((s.filter fun x=>Ql0 (a/width) (b/width) x.1.2).map (·.1.1))↔(Qak s x).any (Ql0 (a/width) (b/width))=true:=by
     rw[<- Qtp];unfold Qch;rw[X7]
    rw[hm1];constructor
    . exact fun hx=>hx.2
    . intro hx
      refine⟨?_,hx⟩;rw[Qjh]
      cases hq:Qe L x with
      | some v=>rfl
      | none =>
        have:=h.rows.all x hq;rw[this] at hx
        simp at hx
 have hlo:=Qg0 hw.1 ha;have hhi:=Qg0 hw.1 hb;refine Fi Tryz.func26 rfl _ rfl rfl (Hh ?_);refine(Qh0 w p width n bs br hh hw a ⟨by omega,by omega⟩).mono ?_;rintro _ _ ⟨rfl,rfl⟩;conv=>whnf
 refine(Qh0 _ p width n bs br hh hw b ⟨by omega,by omega⟩).mono ?_;rintro _ w1 ⟨rfl,hw1⟩;subst hw1;generalize a/width=lo at *;generalize b/width=hi at *
 conv=>whnf
 intro b3 w3 hn3;conv=>whnf
 intro b4 w4 hn4;conv=>whnf
 have e3:=hn3.block;have e4:=hn4.block;have s3:=hn3.size;refine Qg Qa (e:=ty3) rfl (hn3.At.ext hn4.ext) rfl rfl rfl (by simp[Qr,Value.oneCell']) fun w5 h5 ho5 => (Hh ?_)
 have h45:At w5 b4 3 [.int .i64 0]:=(ho5.block b4 (by omega)).trans hn4.At;refine Qg Qa (e:=ty3) rfl h45 rfl rfl rfl (by simp[Qr,Value.oneCell']) fun w6 h6 ho6 => ?_
 have hx6:Ext w1 w6:=ho6.ext (ho5.ext (hn3.ext.trans hn4.ext) (by omega)) (by omega);have h63:At w6 b3 3 [.int .i64 lo]:=(ho6.block b3 (by omega)).trans h5;have h64:At w6 b4 3 [.int .i64 hi]:=h6;clear h5 h45 h6 ho5 ho6 hn3 hn4
 conv=>whnf
 refine⟨.map (some br),(hh.ext hx6).one rfl,Hh ?_⟩;refine map_range Q21 (hm.ext hx6) fun w7 hi7 hx7 => ?_
 generalize hr:w6.heap.size=r at hi7 ⊢;have hx:=hx6.trans hx7;have h73:=h63.ext hx7;have h74:=h64.ext hx7;have l3:=h63.lt;have l4:=h64.lt;have s6:=hx6.size;have hbrlt:=hm.lt;have hr7:r<w7.heap.size:=hi7.lt
 conv=>whnf
 refine Qd Qa (fun(i:List (ByteArray×(Option Addr×Nat))×Option Addr×Nat×List ByteArray) w'=>Ext w1 w'/\w7.heap.size<=w'.heap.size/\At w' b3 3 [.int .i64 lo]/\At w' b4 3 [.int .i64 hi]/\Iter w' r br Value.string (toV (Qak s) L) (toV (Qak s) i.1)/\i.2.2.2=(i.1.map (·.1)).filter (fun k=>(Qak s k).any (Ql0 lo hi))/\Own Qbg 1 9 w7.heap.size w' i.2.1 i.2.2.1 i.2.2.2)
  (fun | (vs,A,d,F) => [(7,.pointer (some ⟨b3,0,none⟩)),(8,.pointer (some ⟨b4,0,none⟩)),(9,.slice A F.length d),(22,.pointer (some ⟨r,0,none⟩))]) (fun i=>L.length-i.1.length) ([],none,0,[]) ⟨hx,Nat.le_refl _,h73,h74,hi7,rfl,Own.nil⟩ Rr ?_
 clear hi7 h73 h74;rintro ⟨vs,A,d,F⟩ w8 ⟨hx8,z8,h83,h84,hi8,hF,hown8⟩;simp only at hi8 hF hown8
 have hFl:F.length<=vs.length:=by
  rw[hF];have:=List.length_filter_le (fun k=>(Qak s k).any (Ql0 lo hi)) (vs.map (·.1));rw[List.length_map] at this
  exact this
 conv=>whnf
 refine Qea hi8 (fun hp => ?_) (fun x w9 hin hnew hlt hi9 ho9 hen => ?_)
 . have hp1:(vs.map (·.1)).Perm (L.map (·.1)):=by
    have:=hp.map (·.1)
    simpa [toV,List.map_map,Function.comp_def] using this
   have hvl:vs.length=L.length:=by simpa using hp1.length_eq
   have hk:=hK F (by rw[hF];exact hp1.filter _)
   conv=>whnf
   constructor
   . intro hx;cases hx
   intro _
   conv=>whnf
   refine(Qln F A d w7.heap.size w8 hown8 (by omega)).mono ?_;rintro _ w9 ⟨rfl,hsl9,hx9⟩
   conv=>whnf
   have hl9:F.length=(Qch s lo hi).length:=by rw[<- hk,Qdc]
   refine⟨A,d,by rw[hl9],?_,fun x hx'=>by have:=(hown8.block hx').1;have:=hx.size;omega,hx9 w1 hx8 (by have:=hx.size;omega)⟩;rw[<- hk]
   exact hsl9
 . obtain⟨y,hy,rfl⟩:=List.mem_map.1 hin
   have hlt:vs.length<L.length:=by simpa [toV] using hlt
   have hvs:toV (Qak s) vs ++ [(y.1,Value.slice y.2.1 (Qak s y.1).length y.2.2)]=toV (Qak s) (vs ++ [y]):=by simp[toV]
   rw[hvs] at hi9;have s9:=ho9.size;have hx9:=ho9.ext hx8 (by omega);have hown9:=hown8.keep fun a ha=>ho9.block _ (fun e=>by have:=(hown8.block ha).1;have:=hx7.size;have:=hi8.lt;omega)
   have h93:=(ho9.block b3 (by omega)).trans h83;have h94:=(ho9.block b4 (by omega)).trans h84
   have hsn:((vs ++ [y]).map (·.1)).filter (fun k=>(Qak s k).any (Ql0 lo hi))=F++if(Qak s y.1).any (Ql0 lo hi)=true then [y.1] else []:=by
    rw[List.map_append,List.filter_append,hF]
    cases hq:(Qak s y.1).any (Ql0 lo hi) <;> simp[hq]
   have hrow:Sl Qmc 1 w9 y.2.1 (Qak s y.1):=by
    have hro:=h.rows.row y hy;refine Qct (hro.1.sl Qdr) fun a ha => ?_
    have hal:=(hro.1.block ha).2
    exact(ho9.block a.block (by omega)).trans (hx8.block a.block hal)
   have hrl:=Qnz s y.1;refine Gg ?_;constructor
   . intro _
     refine Gg ?_;refine Qa8 (hen w9 rfl rfl) ?_;generalize Qak s y.1=row at hrow hrl hsn ⊢;refine Gg ?_;refine(Q32 b3 b4 lo hi row y.2.1 y.2.2 w9 hrow (by omega) h93 h94).mono ?_;rintro _ w10 ⟨rfl,hw10⟩;subst hw10;generalize hq:row.any (Ql0 lo hi)=q at hsn;refine Gg ?_;constructor
     . intro hc
       have hc:q=true:=hc;rw[if_pos hc] at hsn;refine Gg ?_;intro b11 w11 hn11;refine Gg ?_;refine Qmx (l:=F) (news := [y.1]) (hown9.ext hn11.ext) (Qbf Qad (l := [y.1]) hn11) (by simp;omega) (by have:=hn11.size;omega) fun A' c' w12 hown12 hg12 hA12 => ?_
       have s11:=hn11.size;have s12:=hg12.size;have hx12:=Qh (hx9.trans hn11.ext) hg12 (fun k hk=>by have:=Qs hown9 k hk;have:=hx7.size;omega);have hbl:∀ k,k<w7.heap.size->w12.heap[k]? = w10.heap[k]? := fun k hk=>(hg12.block k (by omega) (fun e=>by have:=Qs hown9 k e.symm;omega)).trans (hn11.ext.block k (by omega))
       have hi12:=hi9.keep (hbl br (by have:=hx7.size;omega)) (hbl r hr7);have h123:=(hbl b3 (by have:=hx7.size;omega)).trans h93;have h124:=(hbl b4 (by have:=hx7.size;omega)).trans h94;generalize F ++ [y.1]=F1 at hown12 hsn ⊢;refine Gg ?_
       exact⟨(vs ++ [y],A',c',F1),by simp;omega,⟨hx12,by omega,h123,h124,hi12,hsn.symm,hown12⟩,Rr⟩
     . intro hc
       have hc:q=false:=hc;rw[hc] at hsn;simp only[Bool.false_eq_true,if_false,List.append_nil] at hsn;refine Gg ?_
       exact⟨(vs ++ [y],A,d,F),by simp;omega,⟨hx9,by omega,h93,h94,hi9,hsn.symm,hown9⟩,Rr⟩
   . intro h;cases h
end Go.Proofs.YteabekcdcphjpaaGreatDoor
namespace Go.Proofs.YteabekcdcphjpaaGreatDoor
open Go.Se Go.RowKit Go.Sort
abbrev Ri:=ByteArray×Int×Int
def Xdh (x:Ri):Prop:=(0<=x.2.1/\x.2.1<=10000000)/\(0<=x.2.2/\x.2.2<=10000000)
abbrev RiS:={ x:Ri // Xdh x }
instance:Inhabited RiS:=⟨⟨(⟨#[]⟩,0,0),by unfold Xdh;simp⟩⟩
end Go.Proofs.YteabekcdcphjpaaGreatDoor
namespace Go.Proofs.YteabekcdcphjpaaGreatDoor
open Go.Se Go.RowKit
theorem Qer (gap:Int) (L:List Ad3) (a:Ad3):allL gap (L ++ [a])=Qam gap (allL gap L) a:=by unfold allL;rw[List.foldl_append];rfl
theorem Qvq (gap:Int) (acc:List Sn) (a:Ad3):(Qam gap acc a).length<=acc.length+1:=by
 unfold Qam
 split
 . split
   . simp
   . simp
 . simp
theorem Q65 (gap:Int):∀ L:List Ad3,(allL gap L).length<=L.length:=by
 refine Xf (by simp[allL]) fun L a ih => ?_
 rw[Qer];have:=Qvq gap (allL gap L) a
 simp;omega
theorem Qj6 (gap:Int):∀ L:List Ad3,∀ q∈allL gap L,q.items.length<=L.length:=by
 refine Xf (fun q hq=>by simp[allL] at hq) fun L a ih q hq => ?_
 rw[Qer] at hq;rw[List.length_append,List.length_singleton];unfold Qam at hq
 split at hq
 . next g hg =>
   have hgm:g∈allL gap L:=List.mem_of_getLast? hg;have hgl:=ih g hgm
   split at hq
   . rcases List.mem_append.1 hq with hq | hq
     . have:=ih q (List.dropLast_subset _ hq);omega
     . rw[List.mem_singleton] at hq
       subst hq;have:=Qmb (lt:=bLt) a.2.2 g.items;simp only;omega
   . rcases List.mem_append.1 hq with hq | hq
     . have:=ih q hq;omega
     . rw[List.mem_singleton] at hq
       subst hq
       simp
 . rcases List.mem_append.1 hq with hq | hq
   . have:=ih q hq;omega
   . rw[List.mem_singleton] at hq
     subst hq
     simp
theorem Q9v (T:Int) (I:ByteArray):∀ m:Qe3,((Xr m T (Xr ((Qe m T).getD []) I true)).map fun x=>x.2.length).sum<=(m.map fun x=>x.2.length).sum+1
 | []=>by simp[Xr,Qe]
 | y :: m=>by
   have ih:=Q9v T I m;rw[Qpc];unfold Xr
   by_cases h:T=y.1
   . rw[if_pos h,if_pos h]
     have:=Qf4 I true y.2;simp only[Option.getD_some,List.map_cons,List.sum_cons];omega
   . rw[if_neg h,if_neg h]
     simp only[List.map_cons,List.sum_cons];omega
theorem Xcp:∀ l:List Ev,∀ p,((tks (Qh5 l) p).map fun x=>x.2.length).sum<=l.length:=by
 refine Xf (fun p=>by simp[Qh5,tks,Qe]) fun l e ih p => ?_
 rw[Qx2,Qmq,List.length_append,List.length_singleton]
 split
 . next h =>
   have h1:=Q9v e.at_ e.item (tks (Qh5 l) e.person);have h2:=ih e.person;omega
 . have:=ih p;omega
theorem Q6j {α:Type} [DecidableEq α] {V E:List α} (hn:V.Nodup) (hs:∀ x∈V,x∈E):V.length<=E.length:=Qjx hn hs
theorem Xdy (gap:Int) (hg:0<=gap) (l:List Ev) (hlm:∀ e∈l,Xp e=true/\wpB e=true) (hll:l.length<1000):Xcy gap (Qh5 l)/\Q3b (Qhf gap (Qh5 l))/\(Qhf gap (Qh5 l)).length<1000:=by
 have hsa:=Qk1 gap hg l;have hE:Qhf gap (Qh5 l)=allL gap (Qcn ahB (l.map adE)):=hsa.symm;have is:=Xba l;have hil:=Qfu (lt:=ahB) (l.map adE);rw[List.length_map] at hil
 have hname:∀ e∈l,e.person.size<=1000/\e.item.size<=1000:=fun e he=>by
  have h:=hlm e he;have hw:0<Qw e:=by simpa [wpB] using h.2
  have hn:=Qcv h.1 hw;have h1:=Qbl hn.1;have h2:=Qbl hn.2;omega
 have hper:(Qh5 l).length<=l.length:=by
  have:=Q6j (V:=(Qh5 l).map (·.1)) (E:=l.map (·.person)) (Qau is.keys) fun x hx=>by
   obtain⟨e,he,h⟩:=(is.person x).1 hx
   exact List.mem_map.2 ⟨e,he,h⟩
  simpa using this
 have htk:∀ p,(tks (Qh5 l) p).length<=l.length:=fun p=>by
  have:=Q6j (V:=(tks (Qh5 l) p).map (·.1)) (E:=l.map (·.at_)) (Qnk (is.ticks p)) fun x hx=>by
   obtain⟨e,he,_,h⟩:=(is.tick p x).1 hx
   exact List.mem_map.2 ⟨e,he,h⟩
  simpa using this
 refine⟨⟨fun x hx => ?_,fun p=>⟨fun x hx => ?_,fun x hx y hy => ?_,?_,?_⟩,by omega,fun ps hps => ?_⟩,fun q hq => ?_,?_⟩
 . obtain⟨e,he,h⟩:=(is.person x.1).1 (List.mem_map.2 ⟨x,hx,rfl⟩)
   rw[<- h]
   exact(hname e he).1
 . obtain⟨e,he,_,h⟩:=(is.tick p x.1).1 (List.mem_map.2 ⟨x,hx,rfl⟩)
   rw[<- h]
   exact(Qb1.1 (hlm e he).1).at_
 . have hl:=Qco (is.ticks p) (show (x.1,x.2)∈tks (Qh5 l) p from hx)
   have hy1:y.1∈X3 (tks (Qh5 l) p) x.1:=by
    unfold X3;rw[hl]
    exact List.mem_map.2 ⟨y,hy,rfl⟩
   obtain⟨e,he,_,_,h⟩:=(is.item p x.1 y.1).1 hy1;rw[<- h]
   exact(hname e he).2
 . have:=htk p
   show (tks (Qh5 l) p).length<_
   omega
 . have:=Xcp l p
   show ((tks (Qh5 l) p).map _).sum<_
   omega
 . have h1:ps.length<=l.length:=by
    have:=hps.length_le;rw[Qdc,List.length_map] at this;omega
   have h2:∀ ps:List ByteArray,(ps.flatMap (Qfz gap (Qh5 l))).length<=ps.length*l.length:=by
    intro ps
    induction ps with
    | nil=>simp
    | cons p ps ih =>
      rw[List.flatMap_cons,List.length_append,List.length_cons,Nat.succ_mul]
      have h3:(Qfz gap (Qh5 l) p).length<=l.length:=by
       unfold Qfz;rw[List.length_map];have:=Q7w gap ((Qe (Qh5 l) p).getD []);have:=htk p;unfold tks at this;omega
      omega
   have h3:=h2 ps;have h4:ps.length*l.length<=999*999:=Nat.mul_le_mul (by omega) (by omega);omega
 . have h1:=hq
   rw[hE] at hq;have h2:=Qj6 _ _ q hq;unfold Qhf at h1;obtain⟨p,_,hp⟩:=List.mem_flatMap.1 h1;unfold Qfz at hp;obtain⟨g,_,hgq⟩:=List.mem_map.1 hp
   exact⟨g.2.2,by rw[<- hgq];rfl,by omega⟩
 . rw[hE]
   have:=Q65 gap (Qcn ahB (l.map adE));omega
theorem Q88 (c:Cfg) (z:List Ev) (hm:∀ e∈z,Xp e=true) (hz:z.length<1000):Xdk c z:=by
 have hll:=List.length_filter_le wpB z;have h:=Xdy (Qvl c.gap) (by unfold Qvl;omega) (z.filter wpB) (fun e he=>⟨hm e (List.mem_filter.1 he).1,(List.mem_filter.1 he).2⟩) (by omega)
 exact⟨h.1,h.2.1,h.2.2⟩
theorem Qx7 {α:Type} (f:α->Nat) (M:Nat):∀ l:List α,(∀ x∈l,f x<=M)->(l.map f).sum<=l.length*M
 | [],_=>by simp
 | x :: l,h=>by
   have h1:=h x (by simp);have ih:=Qx7 f M l fun y hy=>h y (by simp[hy])
   rw[List.map_cons,List.sum_cons,List.length_cons,Nat.succ_mul];omega
theorem Qz2 (width:Int) (z:List Ev):(Ql width z).rs.length<=z.length:=by
 have h:=(Qeu width z).2;have h1:=congrArg List.length h;unfold evs at h1;rw[List.length_map] at h1;rw[h1]
 exact List.length_filter_le _ _
theorem Xcl (width:Int) {z:List Ev} (hm:∀ e∈z,Xp e=true) (hz:z.length<100000):Xb2 (Qgs width (z.filter wpB)) 10000000:=by
 have hc:=Qdq width z hm;have hps:=(Qb6 width z).2.1;have h1:=hc.ps;have h2:=hc.pl;rw[hps] at h1 h2
 exact⟨Q5j width _,Qei h1 (by omega),by omega,by omega,by omega⟩
end Go.Proofs.YteabekcdcphjpaaGreatDoor
