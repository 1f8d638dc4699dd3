import Derived.Test.YtpdonaienhociaaGreatDoorGK
import Derived.Test.YtpdonaienhociaaGreatDoorGL
set_option linter.all false
namespace Go.Proofs.YtpdonaienhociaaGreatDoor
open Go.Se Go.RowKit
open Go.Maps Go.Sort Go.Shelf
structure Xd9 (s:Qal) (N:Int):Prop where
 keys:s.Pairwise (fun x y=>x.1≠y.1)
 small:Qg3 s N
 N0:0<=N
 sum:s.length*N<4611686018427387904
 len:s.length<1000000
theorem Qv5 (s:Qal) (key:Bj):(Qa2 s key).length<=s.length:=by
 unfold Qa2;rw[Zf];exact Zc _ _
theorem Q4o {s:Qal} {N:Int} (ok:Xd9 s N) (key:Bj) (lo hi:Int) (row:List Int):0<=Xbl s key lo hi row/\Xbl s key lo hi row<=row.length*N:=by
 have hb:=Qep (fun n:Int=>(Qe s (key,n)).getD 0) N (row.filter fun n=>decide (lo<=n)&&decide (n<hi)) fun x _=>(by have:=Qgc ok.small ok.N0 (key,x);exact⟨this.1,this.2.1⟩)
 have hl:=Zc (fun n:Int=>decide (lo<=n)&&decide (n<hi)) row;unfold Xbl;exact⟨hb.1,Int.le_trans hb.2 (Zas Om ok.N0)⟩
set_option maxHeartbeats 1000000 in
theorem Qqv (w:World) (S:Nat->Prop) (p:Nat) (width n:Int) (s:Qal) (h:Qm5 w S p width n s) (hw:1<=width/\width<=1099511627776) (N:Int) (ok:Xd9 s N) (key:Bj) (a b:Int) (ha:-4398046511104<=a/\a<=4398046511104) (hb:-4398046511104<=b/\b<=4398046511104) :
 Cal Tryz.prog 295 [Pj p,.string key,Vj a,Vj b] w fun r w'=>r = Vj (paS s key (a/width) (b/width))/\w'=w:=by
 obtain⟨bs,br,L,R,h⟩:=h;have hh:=h.head;have hlo:=Qjh hw.1 ha;have hhi:=Qjh hw.1 hb;have hpb:=fun lo hi=>Qop ok.small ok.N0 key lo hi
 have hsm:=ok.sum;have hrow:=(h.rows.own key).1.sl X4;have hlook:=h.rows.look Xdy Xb (e:=ty289) ty289_ok rfl key (cl := .same) Qp;have hsl:∀ x,RdS Tryz.prog .same w (Instr.lookup 282 (.map (some bs)) (cel x) false) (vi ((Qe s x).getD 0)):=fun x=>(by have:=Xz Xgv Qxk (e:=ty2) ty2_ok (cl := .same) Qp h.sums x;rw[show (Qe (Xj vi s) x).getD ty2.zero=vi ((Qe s x).getD 0) from Xo vi _ _ 0] at this;exact this)
 have hrl:=Qv5 s key;have hlen:=ok.len;have hall:=Xdf ok.keys key (a/width) (b/width);have hrb:=Q4o ok key (a/width) (b/width);have hN0:=ok.N0;have hcell:=fun n=>Qgc ok.small ok.N0 (key,n)
 generalize Qa2 s key=row at hrow hlook hrl hall;generalize (rowAt L key).1=A0 at hrow hlook;generalize (rowAt L key).2=c0 at hrow hlook;refine Fi Tryz.func295 rfl _ rfl rfl (Hh ?_);refine(Qhz w p width n bs br hh hw a ⟨Om,Om⟩).mono ?_;rintro _ _ ⟨rfl,rfl⟩;refine Hh ?_;refine(Qhz _ p width n bs br hh hw b ⟨Om,Om⟩).mono ?_;rintro _ w1 ⟨rfl,hw1⟩;subst hw1;generalize a/width=lo at *;generalize b/width=hi at *;refine Hh ?_;refine⟨hi-lo,wrap_eq rfl ⟨Om,Om⟩,Hh ?_⟩;refine⟨.map (some br),hh.one rfl,Hh ?_⟩;refine⟨_,hlook,Hh ?_⟩;constructor
 . intro hc;have hc:hi-lo<row.length/\0<=lo:=Su hc;refine Hh ?_
   refine Qh Qb (fun(q:Nat×Int×Int) w'=>(q.1=0\/lo+q.1<=hi)/\q.2.1=lo+q.1/\q.2.2=paS s key lo (lo+q.1)/\w'=w1)
    (fun | (k,n,t) => [(0,Pj p),(1,.string key),(10,Vj hi),(11,Vj t),(12,Vj n)]) (fun q=>(hi-lo).toNat-q.1) (0,lo,0) ⟨.inl rfl,by simp,(Qoq (by simp)).symm,rfl⟩ Rr ?_
   rintro ⟨k,n,t⟩ w2 ⟨hk,hn,ht,hw2⟩;simp only at hk hn ht;subst hw2;refine Hh ?_;constructor
   . intro hlt;have hlt:n<hi:=Su hlt;have hst:=Xcz ok.keys key lo (lo+k) Om;have e1:lo+(k:Int)+1=lo+((k+1:Nat):Int):=Om;rw[e1,<- ht,<- hn] at hst;have hb1:=hpb lo (lo+((k+1:Nat):Int));have hb2:=hpb lo (lo+(k:Int));rw[<- ht] at hb2;rw[hst] at hb1;refine Hh ?_;refine⟨.map (some bs),hh.one rfl,Hh ?_⟩;refine⟨_,hsl (key,n),Hh ?_⟩;refine⟨t+(Qe s (key,n)).getD 0,wrap_eq rfl ⟨Om,Om⟩,Hh ?_⟩;refine⟨n+1,wrap_eq rfl ⟨Om,Om⟩,Hh ?_⟩;exact⟨(k+1,n+1,t+(Qe s (key,n)).getD 0),Sj,⟨.inr (Sj),Sj,hst.symm,rfl⟩,Rr⟩
   . intro hge;have hge:hi<=n:=Su hge;refine Hh ?_;refine⟨?_,rfl⟩;rw[ht];rcases hk with rfl | hk
     . have h1:paS s key lo (lo+((0:Nat):Int))=0:=Qoq Om;have h2:paS s key lo hi=0:=Qoq Om;rw[h1,h2]
     . have:lo+(k:Int)=hi:=Om;rw[this]
 . intro _;refine Hh ?_;refine⟨.map (some br),hh.one rfl,Hh ?_⟩;refine⟨_,hlook,Hh ?_⟩
   refine Qh Qb (fun(q:Nat×Int) w'=>q.1<=row.length/\q.2=Xbl s key lo hi (row.take q.1)/\w'=w1)
    (fun | (k,t) => [(0,Pj p),(1,.string key),(9,Vj lo),(10,Vj hi),(11,Vj t),(58,.slice A0 row.length c0),(59,Vj row.length),(60,Vj (k:Nat))]) (fun q=>row.length-q.1) (0,0) ⟨Zu _,rfl,rfl⟩ Rr ?_
   rintro ⟨k,t⟩ w2 ⟨hk,ht,hw2⟩;simp only at hk ht;subst hw2;refine Hh ?_;constructor
   . intro hlt;have hlt:k<row.length:=Su hlt;obtain⟨a2,hA,hc2⟩:=hrow.get hlt;subst hA;have htk:Xbl s key lo hi (row.take (k+1))=t+if lo<=row[k]/\row[k]<hi then(Qe s (key,row[k])).getD 0 else 0:=by rw[ht,Za hlt,Q9q]
     have hb1:=(hrb (row.take (k+1)));have hl1:((row.take (k+1)).length:Int)*N<=s.length*N:=Zas (by rw[Zn];omega) hN0;generalize row[k]=y at hc2 htk;refine Gg ?_;refine⟨a2,Ix,Gg ?_⟩;refine⟨Vj y,Qs hc2,Gg ?_⟩;constructor
     . intro hc;have hc:lo<=y/\y<hi:=Su hc;rw[if_pos hc] at htk;rw[htk] at hb1;refine Gg ?_;refine⟨.map (some bs),hh.one rfl,Gg ?_⟩;refine⟨_,hsl (key,y),Gg ?_⟩;refine⟨t+(Qe s (key,y)).getD 0,wrap_eq rfl ⟨Om,Om⟩,Gg ?_⟩;refine⟨_,wrap_succ Om,Gg ?_⟩;exact⟨(k+1,t+(Qe s (key,y)).getD 0),Sj,⟨Sj,htk.symm,rfl⟩,Rr⟩
     . intro hc;have hc:¬ (lo<=y/\y<hi):=(by have hc:(decide (lo<=y)&&decide (y<hi))=false:=hc;simpa using hc);rw[if_neg hc,Int.add_zero] at htk;refine Gg ?_;refine⟨_,wrap_succ Om,Gg ?_⟩;exact⟨(k+1,t),Sj,⟨Sj,htk.symm,rfl⟩,Rr⟩
   . intro hge;have hge:row.length<=k:=Su hge;rw[Zb hge,hall] at ht;rw[ht];refine Hh ?_;exact⟨rfl,rfl⟩
def Qmh (lo hi:Int) (x:Int):Bool:=decide (lo<=x)&&decide (x<hi)
theorem Q3k (bl bh:Nat) (lo hi x:Int) (w:World) (hl:At w bl 3 [Vj lo]) (hh:At w bh 3 [Vj hi]) :
 Cal Tryz.prog 349 [Vj x,Pj bl,Pj bh] w fun r w'=>r = .bool (Qmh lo hi x)/\w'=w:=by
 refine Fi Tryz.func349 rfl _ rfl rfl (Hh ?_);refine⟨Vj lo,hl.one0,Hh ?_⟩;refine⟨Vj hi,fun _=>hh.one0,Hh ?_⟩;exact⟨rfl,rfl⟩
theorem Q7r (bl bh:Nat) (lo hi:Int) (row:List Int) (A:Option Addr) (c:Nat) (w:World) (hs:Sl Qfu 1 w A row) (hlen:row.length<1000000) (hl:At w bl 3 [Vj lo]) (hh:At w bh 3 [Vj hi]) :
 Cal Tryz.prog 378 [.slice A row.length c,.func (.func 349) #[] #[Pj bl,Pj bh]] w fun r w'=>(∃ i:Int,r = Vj i /\ -1<=i/\(0<=i↔row.any (Qmh lo hi)=true))/\w'=w:=by
 refine Fi Tryz.func378 rfl _ rfl rfl (Hh ?_)
 refine Qh Qb (fun(k:Nat) w'=>k<=row.length/\(row.take k).any (Qmh lo hi)=false/\w'=w)
  (fun k => [(0,.slice A row.length c),(1,.func (.func 349) #[] #[Pj bl,Pj bh]),(7,Vj row.length),(8,Vj (k:Nat))]) (fun k=>row.length-k) 0 ⟨Zu _,rfl,rfl⟩ Rr ?_
 rintro k w2 ⟨hk,hno,hw2⟩;subst hw2;refine Hh ?_;constructor
 . intro hlt;have hlt:k<row.length:=Su hlt;obtain⟨a2,hA,hc2⟩:=hs.get hlt;subst hA;have htk:(row.take (k+1)).any (Qmh lo hi)=Qmh lo hi row[k]:=by rw[Za hlt,List.any_append,hno];simp
   have hmem:row[k]∈row:=Zx hlt;generalize row[k]=y at hc2 htk hmem;refine Hh ?_;refine⟨a2,Ix,Hh ?_⟩;refine⟨Vj y,Qs hc2,Hh ?_⟩;refine(Q3k bl bh lo hi y w2 hl hh).mono ?_;rintro _ _ ⟨rfl,rfl⟩;generalize hq:Qmh lo hi y=q at htk ⊢;refine Hh ?_;constructor
   . intro hc;have hc:q=true:=hc;refine Hh ?_;refine⟨⟨k,rfl,Om,?_⟩,rfl⟩;simp only[Int.natCast_nonneg,true_iff,Zcb];exact⟨y,hmem,by rw[hq,hc]⟩
   . intro hc;have hc:q=false:=hc;refine Hh ?_;refine⟨_,wrap_succ Om,Hh ?_⟩;exact⟨k+1,Om,⟨Om,by rw[htk,hc],rfl⟩,Rr⟩
 . intro hge;have hge:row.length<=k:=Su hge;rw[Zb hge] at hno;refine Hh ?_;exact⟨⟨-1,rfl,Om,by rw[hno];simp⟩,rfl⟩
theorem Q7k (bl bh:Nat) (lo hi:Int) (row:List Int) (A:Option Addr) (c:Nat) (w:World) (hs:Sl Qfu 1 w A row) (hlen:row.length<1000000) (hl:At w bl 3 [Vj lo]) (hh:At w bh 3 [Vj hi]) :
 Cal Tryz.prog 348 [.slice A row.length c,.func (.func 349) #[] #[Pj bl,Pj bh]] w fun r w'=>r = .bool (row.any (Qmh lo hi))/\w'=w:=by
 refine Fi Tryz.func348 rfl _ rfl rfl (Hh ?_);refine(Q7r bl bh lo hi row A c w hs hlen hl hh).mono ?_;rintro _ _ ⟨⟨i,rfl,hi1,hi2⟩,rfl⟩;refine Hh ?_;refine⟨?_,rfl⟩
 cases hq:row.any (Qmh lo hi) with
 | true=>rw[decide_eq_true (hi2.2 hq)]
 | false=>rw[decide_eq_false (fun h=>by rw[hi2.1 h] at hq;cases hq)]
end Go.Proofs.YtpdonaienhociaaGreatDoor
namespace Go.Proofs.YtpdonaienhociaaGreatDoor
open Go.Se Go.RowKit
open Go.Maps Go.Sort Go.Shelf
structure WC {α:Type} (c:α->α->Int):Prop where
 anti:∀ a b,c a b<0↔0<c b a
 le:∀ {a b d},c a b<=0->c b d<=0->c a d<=0
theorem WC.swo {α:Type} {c:α->α->Int} (h:WC c):Go.Sort.SWO (ltOf c) where
 irrefl a:=by
  have:=h.anti a a;simp only[ltOf,decide_eq_false_iff_not];omega
 trans a b d h1 h2:=by
  simp only[ltOf,decide_eq_true_eq] at *;have h3:=h.le (a:=a) (b:=b) (d:=d) Om Om;have h4:=(h.anti a b).1 h1;rcases Int.lt_or_le (c a d) 0 with h5 | h5
  . exact h5
  . exfalso;have h6:c d a<=0:=(by have:=(h.anti a d);omega);have h7:=h.le (a:=b) (b:=d) (d:=a) Om h6;omega
 ntrans a b d h1 h2:=by
  simp only[ltOf,decide_eq_false_iff_not] at *;have h3:c b a<=0:=by have:=h.anti a b;omega
  have h4:c d b<=0:=by have:=h.anti b d;omega
  have h5:=h.le h4 h3;have:=h.anti a d;omega
def Qt0 {α:Type} (c d:α->α->Int) (a b:α):Int:=if c a b≠0 then c a b else d a b
theorem WC.lex {α:Type} {c d:α->α->Int} (h:WC c) (k:WC d):WC (Qt0 c d) where
 anti a b:=by
  unfold Qt0;have h1:=h.anti a b;have h2:=h.anti b a;have k1:=k.anti a b
  by_cases h0:c a b=0
  . rw[if_neg Om,if_neg Om];exact k1
  . rw[if_pos h0,if_pos Om];exact h1
 le:=by
  intro a b e h1 h2;unfold Qt0 at *;have a1:=h.anti a b;have a2:=h.anti b a;have b1:=h.anti b e;have b2:=h.anti e b;have c1:=h.anti a e;have c2:=h.anti e a;have l1:c a b<=0:=by split at h1 <;> omega
  have l2:c b e<=0:=by split at h2 <;> omega
  have l3:=h.le l1 l2;split
  . exact l3
  . next h0 =>
    have h0:c a e=0:=Om;have m1:=h.le (a:=b) (b:=e) (d:=a) l2 Om;have m2:=h.le (a:=e) (b:=a) (d:=b) Om l1;rw[if_neg Om] at h1 h2;exact k.le h1 h2
theorem Q14 {α:Type} (f:α->Int):WC (fun a b=>Qcy (f a) (f b)) where
 anti a b:=by unfold Qcy;split <;> split <;> (try split) <;> (try split) <;> omega
 le:=by intro a b d h1 h2;unfold Qcy at *;split at h1 <;> split at h2 <;> (try split at h1) <;> (try split at h2) <;> split <;> (try split) <;> omega
theorem WC.flip {α:Type} {c:α->α->Int} (h:WC c):WC (fun a b=>c b a):=⟨fun a b=>h.anti b a,fun h1 h2=>h.le h2 h1⟩
theorem Qi1 {α:Type} (f:α->Bj):WC (fun a b=>Qch (f a) (f b)) where
 anti a b:=by
  unfold Qch;cases h1:bLt (f a) (f b) <;> cases h2:bLt (f b) (f a) <;> simp
  rw[Qdg h1] at h2;cases h2
 le:=by
  intro a b d h1 h2
  have k1:bLt (f b) (f a)=false:=by
   unfold Qch at h1;cases h3:bLt (f a) (f b) <;> cases h4:bLt (f b) (f a) <;> simp[h3,h4] at h1 ⊢
   rw[Qdg h3] at h4;cases h4
  have k2:bLt (f d) (f b)=false:=by
   unfold Qch at h2;cases h3:bLt (f b) (f d) <;> cases h4:bLt (f d) (f b) <;> simp[h3,h4] at h2 ⊢
   rw[Qdg h3] at h4;cases h4
  have k3:bLt (f d) (f a)=false:=Qhq k2 k1;unfold Qch;cases h3:bLt (f a) (f d) <;> simp[k3]
theorem Xb0 {a b:Int×Int}:Qpj a b<0↔a.1*b.2<b.1*a.2:=by
 unfold Qpj;split
 . omega
 split
 . omega
 . omega
theorem Qrt {a b:Int×Int}:0<Qpj a b↔b.1*a.2<a.1*b.2:=by
 unfold Qpj;split
 . omega
 split
 . omega
 . omega
theorem Xbe {α:Type} (f:α->Int×Int) (hf:∀ a,0<(f a).2):WC (fun a b=>Qpj (f a) (f b)) where
 anti a b:=by rw[Xb0,Qrt]
 le:=by
  intro a b d h1 h2;have k1:¬ (f b).1*(f a).2<(f a).1*(f b).2:=fun h=>by have:=Qrt.2 h;omega
  have k2:¬ (f d).1*(f b).2<(f b).1*(f d).2:=fun h=>by have:=Qrt.2 h;omega
  have k3:¬ (f d).1*(f a).2<(f a).1*(f d).2:=by
   intro h;have e1:(f a).1*(f b).2*(f d).2<=(f b).1*(f a).2*(f d).2:=Zas Om (Int.le_of_lt (hf d));have e2:(f b).1*(f d).2*(f a).2<=(f d).1*(f b).2*(f a).2:=Zas Om (Int.le_of_lt (hf a));have e3:(f d).1*(f a).2*(f b).2<(f a).1*(f d).2*(f b).2:=Int.mul_lt_mul_of_pos_right h (hf b);have r1:(f a).1*(f b).2*(f d).2=(f a).1*(f d).2*(f b).2:=by rw[Int.mul_assoc,Int.mul_comm (f b).2,<- Int.mul_assoc]
   have r2:(f b).1*(f a).2*(f d).2=(f b).1*(f d).2*(f a).2:=by rw[Int.mul_assoc,Int.mul_comm (f a).2,<- Int.mul_assoc]
   have r3:(f d).1*(f b).2*(f a).2=(f d).1*(f a).2*(f b).2:=by rw[Int.mul_assoc,Int.mul_comm (f b).2,<- Int.mul_assoc]
   omega
  rcases Int.lt_or_le 0 (Qpj (f a) (f d)) with h | h
  . exact absurd (Qrt.1 h) k3
  . exact h
def Qcv (s:Qal) (lo hi:Int):List Bj:=Qcc ((s.filter fun x=>Qmh lo hi x.1.2).map (·.1.1))
theorem Q0c {s:Qal} {key:Bj} {lo hi:Int}:(Qa2 s key).any (Qmh lo hi)=true↔∃ x∈s,x.1.1=key/\Qmh lo hi x.1.2=true:=by
 unfold Qa2;rw[Zcb];constructor
 . rintro ⟨y,hy,h⟩;obtain⟨x,hx,rfl⟩:=Zh.1 hy;obtain⟨h1,h2⟩:=Ze.1 hx;exact⟨x,h1,Su h2,h⟩
 . rintro ⟨x,hx,h1,h2⟩;exact⟨x.1.2,Zh.2 ⟨x,Ze.2 ⟨hx,Su h1⟩,rfl⟩,h2⟩
theorem Qvf {s:Qal} {key:Bj} {lo hi:Int}:key∈Qcv s lo hi↔(Qa2 s key).any (Qmh lo hi)=true:=by
 unfold Qcv;rw[X5,Q0c,Zh];constructor
 . rintro ⟨x,hx,rfl⟩;obtain⟨h1,h2⟩:=Ze.1 hx;exact⟨x,h1,rfl,h2⟩
 . rintro ⟨x,hx,h1,h2⟩;exact⟨x,Ze.2 ⟨hx,h2⟩,h1⟩
theorem Q71 {s:Qal} {N:Int} (h:Qg3 s N) {key:Bj} {lo hi:Int}:key∈Qcv s lo hi↔0<paS s key lo hi:=by
 rw[Qvf,Q0c]
 induction s with
 | nil=>simp[paS]
 | cons x s ih =>
   have ih:=ih fun y hy=>h y (by simp[hy])
   have hx:=(h x (by simp)).1;have h0:0<=paS s key lo hi:=(Qep (fun y:PK×Int=>y.2) N _ fun y hy=>by have:=h y (by simp[(Ze.1 hy).1]);exact⟨Om,this.2⟩).1;rw[Qs1];constructor
   . rintro ⟨y,hy,h1,h2⟩;rcases Zr.1 hy with rfl | hy
     . have h2:lo<=y.1.2/\y.1.2<hi:=by simpa [Qmh] using h2
       rw[if_pos ⟨h1,h2⟩];omega
     . have:=ih.1 ⟨y,hy,h1,h2⟩;split <;> omega
   . intro hp
     by_cases hc:x.1.1=key/\lo<=x.1.2/\x.1.2<hi
     . exact⟨x,by simp,hc.1,by simp[Qmh,hc.2]⟩
     . rw[if_neg hc,Int.zero_add] at hp;obtain⟨y,hy,h1⟩:=ih.2 hp;exact⟨y,by simp[hy],h1⟩
theorem Qn9 (s:Qal) (lo hi:Int):(Qcv s lo hi).length<=s.length:=by
 unfold Qcv;have h1:=Qmu ((s.filter fun x=>Qmh lo hi x.1.2).map (·.1.1));have h2:=Zc (fun x:PK×Int=>Qmh lo hi x.1.2) s;rw[Zf] at h1;omega
theorem Qzc (l:List Bj) {ss:List (List UInt8)} (hp:ss.Perm (l.map fun x=>x.data.toList)):(ss.mergeSort fun x y=>decide (x<=y)).map (fun x=>(⟨x.toArray⟩:Bj))=Xi l:=by
 apply Qct
 . have h1:=(Zbs ss fun x y=>decide (x<=y)).trans hp;have h2:=h1.map (fun x=>(⟨x.toArray⟩:Bj));simpa [Zy,Function.comp_def] using h2
 . unfold Srt;rw[Z7];have:=Za8 (le:=fun x y:List UInt8=>decide (x<=y)) (fun a b c h1 h2=>by simp only[decide_eq_true_eq] at *;exact List.le_trans h1 h2) (fun a b=>by simp only[Zbi,decide_eq_true_eq];exact List.le_total a b) ss;refine this.imp fun {a b} h => ?_
   simp only[decide_eq_true_eq] at h;unfold bLt;rw[ByteArray.toList_eq,ByteArray.toList_eq,bytesLess_eq];simpa using h
theorem Qly (l:List Bj) (A:Option Addr) (c base:Nat) (w:World) (hown:Own Qab 1 9 base w A c l) (hl:l.length<1000000) :
 Cal Tryz.prog 94 [.slice A l.length c] w fun r w'=>r = .tuple #[]/\SlT w' A (Xi l)/\∀ w0,Ext w0 w->w0.heap.size<=base->Ext w0 w':=by
 have hok:Qtv Tryz.prog 94:=⟨_,Tryz.func94,rfl,rfl⟩
 by_cases h0:l = []
 . subst h0;refine Qa9 hok (AnyM.slices_Sort_string_none Tryz.sort94 A c w) ?_;rintro w' rfl;exact⟨rfl,by rw[Qf5];exact Sl.nil,fun w0 h _=>h⟩
 . have hsl:=hown.sl Qw;have hpos:0<l.length:=Zac.2 h0;rcases hown.2 with⟨_,h1⟩ | ⟨g,cap,cur,hv,hb,hg,hc1,hc2,hc3,hc4⟩
   . omega
   injection hv with hA _ hcc;subst hA;subst hcc;obtain⟨ss,hss⟩:∃ ss,ss=l.map fun x=>x.data.toList:=⟨_,rfl⟩
   have hsl2:ss.length=l.length:=by rw[hss,Zf]
   have hH:Holds encStr w g 0 ss.toArray:=by
    intro j hj;have hj':j<l.length:=by rw[<- hsl2];simpa using hj
    obtain⟨a,ha,hca⟩:=hsl.get hj';have ha':a=⟨g,0,none⟩:=Su ha.symm;have hcell:=Qs hca;rw[ha',Qey,Zbh] at hcell;refine⟨?_,by unfold World.frozen?;rw[hg];simp⟩;rw[Zbg,hcell];simp[hss,encStr,hj']
   have hbl:g<w.heap.size:=lt_of_block hg;have hcall:=AnyM.slices_Sort_string Tryz.sort94 g 0 c ss w hH hbl Om;rw[hsl2] at hcall;refine Qa9 hok hcall ?_;rintro w' ⟨k,os,rfl⟩;have hz:=Qzc l (ss:=ss) (by rw[hss]);have hml:(ss.mergeSort fun x y=>decide (x<=y)).length=ss.length:=List.length_mergeSort _;generalize (ss.mergeSort fun x y=>decide (x<=y))=ms at hz hml
   have hH2:Holds encStr (grow (putRow encStr (Go.Sort.ahead w k) g 0 ms.toArray) os) g 0 ms.toArray:=by
    refine holds_grow _ _ _ _ _ _ ?_ (holds_putRow _ _ _ _ ss.toArray _ (holds_ahead _ _ _ _ _ _ hH) (Su hml));show g<((Go.Sort.ahead w k).heap.modify g _).size
    rw[Zcf];exact hbl
   refine⟨rfl,?_,?_⟩
   . intro i x hi;rw[<- hz,Zaq] at hi
     cases hq:ms[i]? with
     | none=>rw[hq] at hi;simp at hi
     | some y =>
       rw[hq] at hi;simp at hi;subst hi;have hil:i<ms.length:=(Zi.1 hq).1;have:=(hH2 i (Su hil)).1;refine⟨_,rfl,fun j v hj => ?_⟩;have hj0:j=0:=(by have:=(Zi.1 hj).1;simp[Qab] at this;exact this);subst hj0;have hyv:ms.toArray[i]! = y:=(by have:=(Zi.1 hq).2;simp[hil,this]);rw[hyv] at this;rw[Xf,Qey,Zbh];simp[Qab] at hj;rw[<- hj];rw[Zbg] at this;exact this
   . intro w0 h0 hb0
     have hx1:Ext w0 (putRow encStr (Go.Sort.ahead w k) g 0 ms.toArray):=by
      refine⟨h0.os,h0.tape,h0.output,?_,fun k' hk => ?_⟩
      . show w0.heap.size<=((Go.Sort.ahead w k).heap.modify g _).size
        rw[Zcf];exact h0.size
      . have:(putRow encStr (Go.Sort.ahead w k) g 0 ms.toArray).heap[k']? = (Go.Sort.ahead w k).heap[k']? := Qfj _ _ _ _ Om;rw[this];exact h0.block k' hk
     exact hx1.trans (Qdz _ os)
set_option maxHeartbeats 1000000 in
theorem Qvu (w:World) (S:Nat->Prop) (p:Nat) (width n:Int) (s:Qal) (h:Qm5 w S p width n s) (hw:1<=width/\width<=1099511627776) (N:Int) (ok:Xd9 s N) (a b:Int) (ha:-4398046511104<=a/\a<=4398046511104) (hb:-4398046511104<=b/\b<=4398046511104) :
 Cal Tryz.prog 294 [Pj p,Vj a,Vj b] w fun r w'=>∃ A c,r = .slice A (Qcv s (a/width) (b/width)).length c/\SlT w' A (Qcv s (a/width) (b/width))/\(∀ x,A=some x->w.heap.size<=x.block)/\Ext w w':=by
 obtain⟨bs,br,L,R,h⟩:=h;have hh:=h.head;have hm:=h.rows.map;have hlen:=ok.len
 have hLl:L.length<=s.length:=by
  have h1:(L.map (·.1)).Nodup:=Qam h.rows.keys
  have h2:∀ x∈L.map (·.1),x∈s.map (fun y=>y.1.1):=fun x hx=>by
   obtain⟨y,hy,rfl⟩:=Zh.1 hx;have hne:=h.rows.ne y hy
   cases hq:Qa2 s y.1 with
   | nil=>exact absurd hq hne
   | cons n l =>
     have hn:n∈Qa2 s y.1:=by rw[hq];simp
     unfold Qa2 at hn;obtain⟨z,hz,_⟩:=Zh.1 hn;obtain⟨h3,h4⟩:=Ze.1 hz;exact Zh.2 ⟨z,h3,Su h4⟩
  have:=Qd3 h1 h2;simpa using this
 have hK:∀ out:List Bj,out.Perm ((L.map (·.1)).filter fun k=>(Qa2 s k).any (Qmh (a/width) (b/width)))->Xi out=Qcv s (a/width) (b/width):=fun out hp=>by
  refine Qiz ?_ fun x => ?_
  . exact hp.nodup_iff.2 ((Qam h.rows.keys).sublist Zaw)
  . rw[hp.mem_iff,Ze];have hm1:x∈((s.filter fun x=>Qmh (a/width) (b/width) x.1.2).map (·.1.1))↔(Qa2 s x).any (Qmh (a/width) (b/width))=true:=(by rw[<- Qvf];unfold Qcv;rw[X5]);rw[hm1];constructor
    . exact fun hx=>hx.2
    . intro hx;refine⟨?_,hx⟩;rw[Qmr]
      cases hq:Qe L x with
      | some v=>rfl
      | none =>
        have:=h.rows.all x hq;rw[this] at hx;simp at hx
 have hlo:=Qjh hw.1 ha;have hhi:=Qjh hw.1 hb;refine Fi Tryz.func294 rfl _ rfl rfl (Hh ?_);refine(Qhz w p width n bs br hh hw a ⟨Om,Om⟩).mono ?_;rintro _ _ ⟨rfl,rfl⟩;refine Hh ?_;refine(Qhz _ p width n bs br hh hw b ⟨Om,Om⟩).mono ?_;rintro _ w1 ⟨rfl,hw1⟩;subst hw1;generalize a/width=lo at *;generalize b/width=hi at *;refine Hh ?_;intro b3 w3 hn3;refine Hh ?_;intro b4 w4 hn4;refine Hh ?_;have e3:=hn3.block;have e4:=hn4.block;have s3:=hn3.size;refine Qc Qb (e:=ty3) rfl (hn3.At.ext hn4.ext) rfl rfl rfl Oj fun w5 h5 ho5 => (Hh ?_)
 have h45:At w5 b4 3 [Vj 0]:=(ho5.block b4 Om).trans hn4.At;refine Qc Qb (e:=ty3) rfl h45 rfl rfl rfl Oj fun w6 h6 ho6 => ?_
 have hx6:Ext w1 w6:=ho6.ext (ho5.ext (hn3.ext.trans hn4.ext) Om) Om;have h63:At w6 b3 3 [Vj lo]:=(ho6.block b3 Om).trans h5;have h64:At w6 b4 3 [Vj hi]:=h6;clear h5 h45 h6 ho5 ho6 hn3 hn4;refine Hh ?_;refine⟨.map (some br),(hh.ext hx6).one rfl,Hh ?_⟩;refine map_range Xdy (hm.ext hx6) fun w7 hi7 hx7 => ?_
 generalize hr:w6.heap.size=r at hi7 ⊢;have hx:=hx6.trans hx7;have h73:=h63.ext hx7;have h74:=h64.ext hx7;have l3:=h63.lt;have l4:=h64.lt;have s6:=hx6.size;have hbrlt:=hm.lt;have hr7:r<w7.heap.size:=hi7.lt;refine Hh ?_
 refine Qh Qb (fun(i:List (Bj×(Option Addr×Nat))×Option Addr×Nat×List Bj) w'=>Ext w1 w'/\w7.heap.size<=w'.heap.size/\At w' b3 3 [Vj lo]/\At w' b4 3 [Vj hi]/\Iter w' r br Value.string (toV (Qa2 s) L) (toV (Qa2 s) i.1)/\i.2.2.2=(i.1.map (·.1)).filter (fun k=>(Qa2 s k).any (Qmh lo hi))/\Own Qab 1 9 w7.heap.size w' i.2.1 i.2.2.1 i.2.2.2)
  (fun | (vs,A,d,F) => [(7,Pj b3),(8,Pj b4),(9,.slice A F.length d),(22,Pj r)]) (fun i=>L.length-i.1.length) ([],none,0,[]) ⟨hx,Zg _,h73,h74,hi7,rfl,Own.nil⟩ Rr ?_
 clear hi7 h73 h74;rintro ⟨vs,A,d,F⟩ w8 ⟨hx8,z8,h83,h84,hi8,hF,hown8⟩;simp only at hi8 hF hown8;have hFl:F.length<=vs.length:=(by rw[hF];have:=Zc (fun k=>(Qa2 s k).any (Qmh lo hi)) (vs.map (·.1));rw[Zf] at this;exact this);refine Hh ?_;refine Qe9 hi8 (fun hp => ?_) (fun x w9 hin hnew hlt hi9 ho9 hen => ?_)
 . have hp1:(vs.map (·.1)).Perm (L.map (·.1)):=(by have:=hp.map (·.1);simpa [toV,Zy,Function.comp_def] using this);have hvl:vs.length=L.length:=Su hp1.length_eq;have hk:=hK F (by rw[hF];exact hp1.filter _);refine Hh ?_;constructor
   . intro hx;cases hx
   intro _;refine Hh ?_;refine(Qly F A d w7.heap.size w8 hown8 Om).mono ?_;rintro _ w9 ⟨rfl,hsl9,hx9⟩;refine Hh ?_;have hl9:F.length=(Qcv s lo hi).length:=by rw[<- hk,Qcf]
   refine⟨A,d,by rw[hl9],?_,fun x hx'=>by have:=(hown8.block hx').1;have:=hx.size;omega,hx9 w1 hx8 (by have:=hx.size;omega)⟩;rw[<- hk];exact hsl9
 . obtain⟨y,hy,rfl⟩:=Zh.1 hin;have hlt:vs.length<L.length:=by simpa [toV] using hlt
   have hvs:toV (Qa2 s) vs ++ [(y.1,Value.slice y.2.1 (Qa2 s y.1).length y.2.2)]=toV (Qa2 s) (vs ++ [y]):=by simp[toV]
   rw[hvs] at hi9;have s9:=ho9.size;have hx9:=ho9.ext hx8 Om;have hown9:=hown8.keep fun a ha=>ho9.block _ (fun e=>by have:=(hown8.block ha).1;have:=hx7.size;have:=hi8.lt;omega)
   have h93:=(ho9.block b3 Om).trans h83;have h94:=(ho9.block b4 Om).trans h84;have hsn:((vs ++ [y]).map (·.1)).filter (fun k=>(Qa2 s k).any (Qmh lo hi))=F++if(Qa2 s y.1).any (Qmh lo hi)=true then [y.1] else []:=(by rw[Zp,Zq,hF];cases hq:(Qa2 s y.1).any (Qmh lo hi) <;> simp[hq])
   have hrow:Sl Qfu 1 w9 y.2.1 (Qa2 s y.1):=by
    have hro:=h.rows.row y hy;refine Qa8 (hro.1.sl X4) fun a ha => ?_
    have hal:=(hro.1.block ha).2;exact(ho9.block a.block Om).trans (hx8.block a.block hal)
   have hrl:=Qv5 s y.1;refine Gg ?_;constructor
   . intro _;refine Gg ?_;refine Qaw (hen w9 rfl rfl) ?_;generalize Qa2 s y.1=row at hrow hrl hsn ⊢;refine Gg ?_;refine(Q7k b3 b4 lo hi row y.2.1 y.2.2 w9 hrow Om h93 h94).mono ?_;rintro _ w10 ⟨rfl,hw10⟩;subst hw10;generalize hq:row.any (Qmh lo hi)=q at hsn;refine Gg ?_;constructor
     . intro hc;have hc:q=true:=hc;rw[if_pos hc] at hsn;refine Gg ?_;intro b11 w11 hn11;refine Gg ?_;refine Qnb (l:=F) (news := [y.1]) (hown9.ext hn11.ext) (Qak Qw (l := [y.1]) hn11) (by simp;omega) (by have:=hn11.size;omega) fun A' c' w12 hown12 hg12 hA12 => ?_
       have s11:=hn11.size;have s12:=hg12.size;have hx12:=Qu (hx9.trans hn11.ext) hg12 (fun k hk=>by have:=Xq hown9 k hk;have:=hx7.size;omega);have hbl:∀ k,k<w7.heap.size->w12.heap[k]? = w10.heap[k]? := fun k hk=>(hg12.block k Om (fun e=>by have:=Xq hown9 k e.symm;omega)).trans (hn11.ext.block k Om)
       have hi12:=hi9.keep (hbl br (by have:=hx7.size;omega)) (hbl r hr7);have h123:=(hbl b3 (by have:=hx7.size;omega)).trans h93;have h124:=(hbl b4 (by have:=hx7.size;omega)).trans h94;generalize F ++ [y.1]=F1 at hown12 hsn ⊢;refine Gg ?_;exact⟨(vs ++ [y],A',c',F1),by simp;omega,⟨hx12,Om,h123,h124,hi12,hsn.symm,hown12⟩,Rr⟩
     . intro hc;have hc:q=false:=hc;rw[hc] at hsn;simp only[Zag,if_false,Zw] at hsn;refine Gg ?_;exact⟨(vs ++ [y],A,d,F),by simp;omega,⟨hx9,Om,h93,h94,hi9,hsn.symm,hown9⟩,Rr⟩
   . intro h;cases h
theorem Qyr (w:World) (S:Nat->Prop) (p:Nat) (width n:Int) (s:Qal) (h:Qm5 w S p width n s) (hw:1<=width/\width<=1099511627776) (N:Int) (ok:Xd9 s N) (a b:Int) (ha:-4398046511104<=a/\a<=4398046511104) (hb:-4398046511104<=b/\b<=4398046511104) :
 Cal Tryz.prog 294 [Pj p,Vj a,Vj b] w fun r w'=>∃ A c,r = .slice A (Qcv s (a/width) (b/width)).length c/\SlT w' A (Qcv s (a/width) (b/width))/\Ext w w' :=
 (Qvu w S p width n s h hw N ok a b ha hb).mono fun r w' ⟨A,c,h1,h2,_,h3⟩=>⟨A,c,h1,h2,h3⟩
end Go.Proofs.YtpdonaienhociaaGreatDoor
namespace Go.Proofs.YtpdonaienhociaaGreatDoor
open Go.Se Go.RowKit Go.Sort
abbrev Ri:=Bj×Int×Int
def riC (x:Ri):List Value := [.string x.1,Vj x.2.1,Vj x.2.2]
theorem Qyu (x:Ri):(riC x).length=3:=rfl
theorem Qs8 (x:Ri):∀ u∈riC x,u.oneCell'=true:=by simp[riC,Value.oneCell']
theorem Xde:Ql9 Tryz.prog 252 256 riC 3 32:=⟨by kernel_rfl,⟨_,ty256_ok,rfl,rfl⟩,by256,by decide,by decide,Qyu,Qs8⟩
def riR (x:Ri):Int×Int:=(x.2.1,x.2.2+1)
def Qrj (x:Ri):Prop:=(0<=x.2.1/\x.2.1<=10000000)/\(0<=x.2.2/\x.2.2<=10000000)
theorem Q9e {x:Ri} (h:Qrj x):Qki 100000000 (riR x):=by
 unfold Qrj at h;unfold Qki riR;simp only;omega
theorem Qsm {A B:Array Obj} {b:Nat} (hb:A.size<=b) (f:Obj->Obj):(A++B).modify b f=A++B.modify (b-A.size) f:=by
 apply Array.ext_getElem?;intro i;rw[Zb7,Array.getElem?_append,Array.getElem?_append,Zb7]
 by_cases h1:b=i
 . subst h1;rw[if_pos rfl,if_neg Om,if_neg Om,if_pos rfl]
 . rw[if_neg h1]
   by_cases h2:i<A.size
   . rw[if_pos h2,if_pos h2]
   . rw[if_neg h2,if_neg h2,if_neg Om]
theorem Xhq {w0 w:World} {b:Nat} {cs:Array Value} (h:Gr w0 w) (hb:w0.heap.size<=b):Gr w0 (w.setRow b cs):=by
 obtain⟨q,os,rfl⟩:=h;have key:=Qsm (A:=w0.heap) (B:=os) hb (fun | .cells _ elem frozen=>Obj.cells cs elem frozen | o=>o);exact⟨q,_,congrArg (fun h=>({ heap:=h,tape:=w0.tape,drawn:=w0.drawn+q,os:=w0.os,output:=w0.output }:World)) key⟩
theorem Xdj {P:Program} {T:Tab} (hT:Qbe P T) {t:TypeId} {e:TyE} (ht:Qif T t=some e) {w0 w:World} (hg:Gr w0 w) {R:Value->World->Prop} {b tb off:Nat} {l:List Value} {v:Value} {p:Addr} (h:At w b tb l) (hb:w0.heap.size<=b) (hp:p=⟨b,off,none⟩) (hn:(Qg v).length=e.size) (hle:Nat.ble (off+e.size) l.length=true) (hone:∀ u∈Qg v,u.oneCell'=true)
 (hk:∀ w',At w' b tb (spl l off (Qg v))->Gr w0 w'->R undef w'):Qxc P (Instr.storeAt t (.pointer (some p)) v) w R:=by
 subst hp;have hst:=run_storeCells_at P b off tb (Qg v) 0 l.toArray w h (by have:=Zbt hle;simp;omega) hone;have hvs:v.cells.size=e.size:=by rw[<- hn,<- Qan];simp
 refine⟨w.setRow b (spl l off (Qg v)).toArray,?_,hk _ ?_ (Xhq hg hb)⟩
 . simp[Instr.storeAt,Instr.sureAddr,storeVar,Qkf (hT.get ht),hvs,Qan];simpa [spl] using hst
 . have:=setRow_heap w b l.toArray (spl l off (Qg v)).toArray tb (0,0) h;simpa [Se.At,spl] using this
theorem Qiw (x:Ri) (h:Qrj x) (w:World):Cal Tryz.prog 248 [.agg (riC x).toArray] w fun r w'=>r=Qmt (riR x)/\Gr w w':=by
 obtain⟨h1,h2⟩:=h;refine Fi Tryz.func248 rfl _ rfl rfl (Hh ?_);intro b1 w1 hn1;refine Hh ?_;intro b2 w2 hn2;refine Hh ?_;have a1:At w2 b1 _ (riC x):=hn1.At.ext hn2.ext;have hg2:=(Qae hn1).trans (Qae hn2);have e2:=hn2.block;have s1:=hn1.ext.size;refine⟨Vj x.2.1,a1.one rfl,Hh ?_⟩;refine⟨Vj x.2.2,fun _=>a1.one rfl,Hh ?_⟩;refine⟨Vj x.2.2,fun _=>a1.one rfl,Hh ?_⟩;constructor
 . intro hc;exfalso;simp at hc;omega
 intro _;refine Hh ?_;refine⟨Vj x.2.1,a1.one rfl,Hh ?_⟩;refine⟨Vj x.2.2,a1.one rfl,Hh ?_⟩;refine⟨x.2.2+1,wrap_eq rfl ⟨Om,Om⟩,Hh ?_⟩;refine Xdj Qb (e:=ty242) rfl hg2 hn2.At Om rfl rfl rfl Oj fun w3 h3 hg3 => ?_
 refine Hh ?_;refine⟨Qlv (riR x),⟨rfl,h3.all⟩,Hh ?_⟩;exact⟨rfl,hg3⟩
def Xfh (a b:Ri):Int:=orL [Qpj (riR b) (riR a),Qcy b.2.1 a.2.1,Qch a.1 b.1]
theorem Q2w (a b:Ri) (ha:Qrj a) (hb:Qrj b) (w:World):Cal Tryz.prog 297 [.agg (riC a).toArray,.agg (riC b).toArray] w fun r w'=>r = Vj (Xfh a b)/\Gr w w':=by
 refine Fi Tryz.func297 rfl _ rfl rfl (Hh ?_);intro b1 w1 hn1;refine Hh ?_;intro b2 w2 hn2;have h1:At w2 b1 _ (riC a):=hn1.At.ext hn2.ext;have h2:At w2 b2 _ (riC b):=hn2.At;have hx:=(Qae hn1).trans ((Qae hn2).trans (Gr.drew w2));refine Hh ?_;refine Dr .ext [0,2,5,6,7,8,10,11,12,13,1,3,4,9] [14,15,16,17] (Hh ?_);replace h1:At w2.drew b1 _ _:=h1;replace h2:At w2.drew b2 _ _:=h2;generalize w2.drew=w3 at h1 h2 hx ⊢;refine⟨riC b,⟨rfl,h2.all⟩,Hh ?_⟩;refine⟨riC a,⟨rfl,h1.all⟩,Hh ?_⟩;refine⟨_,h2.one rfl,Hh ?_⟩;refine⟨_,h1.one rfl,Hh ?_⟩;refine⟨_,h1.one rfl,Hh ?_⟩;refine⟨_,h2.one rfl,Hh ?_⟩;refine(Qiw b hb w3).mono ?_;rintro _ w4 ⟨rfl,hg4⟩;refine⟨hg4.ext,Hh ?_⟩;refine(Qiw a ha w4).mono ?_;rintro _ w5 ⟨rfl,hg5⟩;refine⟨hg5.ext,Hh ?_⟩;refine(Qd2 Om (riR b) (riR a) (Q9e hb) (Q9e ha) w5).mono ?_;rintro _ w6 ⟨rfl,hg6⟩;refine⟨hg6.ext,Hh ?_⟩;refine(Qfn _ _ _).mono ?_;rintro _ w7 ⟨rfl,hw7⟩;subst hw7;refine⟨Ext.refl _,Hh ?_⟩;refine(Qac _ _ _).mono ?_;rintro _ w8 ⟨rfl,hw8⟩;subst hw8;refine Hh ?_;intro b9 w9 hn9;refine Hh ?_;refine(Qen [Qpj (riR b) (riR a),Qcy b.2.1 a.2.1,Qch a.1 b.1] _ _ _ (Qak (enc:=Qfu) X4 hn9) (by simp)).mono ?_;rintro _ w10 ⟨rfl,hw10⟩;subst hw10;refine Hh ?_;exact⟨rfl,(hx.trans (hg4.trans (hg5.trans hg6))).trans (Qae hn9)⟩
abbrev RiS:={ x:Ri // Qrj x }
instance:Inhabited RiS:=⟨⟨(⟨#[]⟩,0,0),by unfold Qrj;simp⟩⟩
def Qii (a b:RiS):Int:=Xfh a.1 b.1
theorem Qnm:Qii=Qt0 (fun a b:RiS=>Qpj (riR b.1) (riR a.1)) (Qt0 (fun a b:RiS=>Qcy b.1.2.1 a.1.2.1) (fun a b:RiS=>Qch a.1.1 b.1.1)):=by
 funext a b;unfold Qii Xfh Qt0 orL
 by_cases h1:Qpj (riR b.1) (riR a.1)=0
 . by_cases h2:Qcy b.1.2.1 a.1.2.1=0
   . by_cases h3:Qch a.1.1 b.1.1=0 <;> simp[h1,h2,h3]
   . simp[h1,h2]
 . simp[h1]
theorem Qur:SWO (ltOf Qii):=by
 rw[Qnm];refine(WC.lex (WC.flip (Xbe (fun x:RiS=>riR x.1) fun x => ?_)) (WC.lex (WC.flip (Q14 fun x:RiS=>x.1.2.1)) (Qi1 fun x:RiS=>x.1.1))).swo;have:=x.2.2.1;unfold riR;simp only;omega
theorem Qzb (l:List RiS) (A:Option Addr) (c base:Nat) (w:World) (hown:Own (fun x:RiS=>riC x.1) 3 256 base w A c l) (hl:l.length<1000000) :
 Cal Tryz.prog 296 [.slice A l.length c,.func (.func 297) #[] #[]] w fun r w'=>r = .tuple #[]/\∃ F:List RiS,F.Perm l/\Srt (ltOf Qii) F/\Sl (fun x:RiS=>riC x.1) 3 w' A F/\∀ w0,Ext w0 w->w0.heap.size<=base->Ext w0 w' :=
 Qf7 Tryz.sortRise (enc:=fun x:RiS=>riC x.1) (by decide) Tryz.isAgg256 Tryz.sizeOf256 (fun x=>Qyu x.1) (fun x=>Qs8 x.1) Qii Qur ⟨_,Tryz.func296,rfl,rfl⟩ (enters_of Tryz.func297 Kr rfl) l A c base w hown hl (fun x y w' _=>Q2w x.1 y.1 x.2 y.2 w') (cb := #[])
def Xc7 (s:Qal) (l1 l2 l3:Int) (key:Bj):Ri:=(key,paS s key l2 l3,paS s key l1 l2)
def Qce (s:Qal) (l1 l2 l3 floor:Int) (K:List Bj):List Ri:=(K.map (Xc7 s l1 l2 l3)).filter fun r=>decide (floor<=r.2.1)
theorem Quc {l:List Ri} (h:∀ x∈l,Qrj x):∃ L:List RiS,L.map (·.1)=l:=by
 induction l with
 | nil=>exact⟨[],rfl⟩
 | cons x l ih =>
   obtain⟨L,hL⟩:=ih fun y hy=>h y (by simp[hy])
   exact⟨⟨x,h x (by simp)⟩ :: L,by rw[Zm,hL]⟩
theorem Qyq {α β:Type} {enc:α->List Value} {sz:Nat} {te:TypeId} {base:Nat} {w:World} {A:Option Addr} {c:Nat} {f:β->α} {l:List β} (h:Own enc sz te base w A c (l.map f)):Own (fun x=>enc (f x)) sz te base w A c l:=by
 unfold Own at *;rw[Zf,List.flatMap_map] at h;exact h
theorem Q96 {α β:Type} {enc:α->List Value} {sz:Nat} {w:World} {A:Option Addr} {f:β->α} {l:List β} (h:Sl (fun x=>enc (f x)) sz w A l):Sl enc sz w A (l.map f):=by
 intro i x hi;rw[Zaq] at hi
 cases hq:l[i]? with
 | none=>rw[hq] at hi;simp at hi
 | some y =>
   rw[hq] at hi;simp at hi;subst hi;exact h i y hq
set_option maxHeartbeats 1000000 in
theorem Qlx (w:World) (S:Nat->Prop) (p:Nat) (width n:Int) (s:Qal) (h:Qm5 w S p width n s) (hw:1<=width/\width<=1099511627776) (ok:Xd9 s 10000000) (hsum:∀ key lo hi,paS s key lo hi<=10000000) (span now floor:Int) (hs:1<=span/\span<=1099511627776) (hd:span.tmod width=0) (hn:0<=now/\now<=1099511627776) :
 Cal Tryz.prog 217 [Pj p,Vj span,Vj now,Vj floor] w fun r w'=>∃ A c,∃ F:List RiS,r = .slice A F.length c/\(F.map (·.1)).Perm (Qce s ((now-now.tmod width-2*span)/width) ((now-now.tmod width-span)/width) ((now-now.tmod width)/width) floor (Qcv s ((now-now.tmod width-span)/width) ((now-now.tmod width)/width)))/\Srt (ltOf Qii) F/\Sl riC 3 w' A (F.map (·.1))/\F.length<=c/\Ext w w':=by
 have hm0:0<=now.tmod width:=Int.tmod_nonneg _ hn.1;have hm1:now.tmod width<width:=Int.tmod_lt_of_pos _ Om;have hlen:=ok.len;have hps:=fun key lo hi=>(Qop ok.small ok.N0 key lo hi).1
 refine Fi Tryz.func217 rfl _ rfl rfl (Hh ?_);refine⟨_,Qcd Xjg _ _ _,Hh ?_⟩;refine⟨Unit,fun _=>(Vj width),fun _ w'=>Ext w w',(),fun hg=>((Qlr w S p width n s h)).mono fun r w' h=>⟨(),h.1,h.2⟩,?_⟩;intro _ w1 h2
 have hx1:Ext w w1:=by
  rcases h2 with⟨_,h⟩ | ⟨_,h⟩
  . exact h
  . rw[h];exact Ext.refl _
 clear h2;refine Hh ?_;refine⟨span.tmod width,fun _=>⟨Om,rfl⟩,Hh ?_⟩;constructor
 . intro hc;exfalso;simp[hd] at hc;omega
 intro _;refine Hh ?_;refine(Qlr w1 S p width n s (h.ext hx1)).mono ?_;rintro _ w1b ⟨rfl,hx1b⟩;replace hx1:=hx1.trans hx1b;refine Hh ?_;refine⟨now.tmod width,⟨Om,rfl⟩,Hh ?_⟩;refine⟨now-now.tmod width,wrap_eq rfl ⟨Om,Om⟩,Hh ?_⟩;have hb1:0<=now-now.tmod width:=(by have:=Int.tmod_add_mul_tdiv now width;have h2:0<=now.tdiv width:=Int.tdiv_nonneg hn.1 Om;have h3:0<=width*now.tdiv width:=Zcv Om h2;omega);have hb2:now-now.tmod width<=1099511627776:=Om;generalize now-now.tmod width=b at hb1 hb2 ⊢;refine⟨b-span,wrap_eq rfl ⟨Om,Om⟩,Hh ?_⟩;refine(Qyr _ S p width n s (h.ext hx1) hw _ ok (b-span) b ⟨Om,Om⟩ ⟨Om,Om⟩).mono ?_;rintro _ w2 ⟨KA,Kc,rfl,hK,hx2⟩;have hKl:=Qn9 s ((b-span)/width) (b/width);generalize Qcv s ((b-span)/width) (b/width)=K at hK hKl ⊢;replace hx2:=hx1.trans hx2;have hrn:=fun k (hk:k<K.length)=>(Za hk)
 refine Hh ?_
 refine Qh Qb (fun(i:Nat×Option Addr×Nat×List Ri) w'=>i.1<=K.length/\Ext w2 w'/\i.2.2.2=Qce s ((b-2*span)/width) ((b-span)/width) (b/width) floor (K.take i.1)/\Own riC 3 256 w2.heap.size w' i.2.1 i.2.2.1 i.2.2.2)
  (fun | (k,A,d,F) => [(0,Pj p),(1,Vj span),(3,Vj floor),(9,Vj b),(10,.slice A F.length d),(50,.slice KA K.length Kc),(51,Vj K.length),(52,Vj (k:Nat))]) (fun i=>K.length-i.1) (0,none,0,[]) ⟨Zu _,Ext.refl _,rfl,Own.nil⟩ Rr ?_
 rintro ⟨k,A,d,F⟩ w3 ⟨hk,hx3,hF,hown3⟩;simp only at hk hF hown3;have hFl:F.length<=k:=(by rw[hF];unfold Qce;refine Zv (Zc _ _) ?_;rw[Zf,Zn];omega);refine Hh ?_;constructor
 . intro hlt;have hlt:k<K.length:=Su hlt;obtain⟨a2,hA,hc2⟩:=(hK.ext hx3).get hlt;subst hA
   have htk:Qce s ((b-2*span)/width) ((b-span)/width) (b/width) floor (K.take (k+1))=F++if floor<=(Xc7 s ((b-2*span)/width) ((b-span)/width) (b/width) K[k]).2.1 then [Xc7 s ((b-2*span)/width) ((b-span)/width) (b/width) K[k]] else []:=by
    rw[hF,Za hlt];unfold Qce;rw[Zp,Zq];congr 1
    by_cases hq:floor<=(Xc7 s ((b-2*span)/width) ((b-span)/width) (b/width) K[k]).2.1 <;> simp[hq]
   generalize K[k]=key at hc2 htk;refine Gg ?_;refine⟨a2,Ix,Gg ?_⟩;refine⟨.string key,Qs hc2,Gg ?_⟩;refine⟨b-span,wrap_eq rfl ⟨Om,Om⟩,Gg ?_⟩;have hP3:=h.ext (hx2.trans hx3);refine(Qqv w3 S p width n s hP3 hw _ ok key (b-span) b ⟨Om,Om⟩ ⟨Om,Om⟩).mono ?_;rintro _ w3' ⟨rfl,hw3⟩;subst hw3;refine Gg ?_;refine⟨2*span,wrap_eq rfl ⟨Om,Om⟩,Gg ?_⟩;refine⟨b-2*span,wrap_eq rfl ⟨Om,Om⟩,Gg ?_⟩;refine⟨b-span,wrap_eq rfl ⟨Om,Om⟩,Gg ?_⟩;refine(Qqv _ S p width n s hP3 hw _ ok key (b-2*span) (b-span) ⟨Om,Om⟩ ⟨Om,Om⟩).mono ?_;rintro _ w3'' ⟨rfl,hw3⟩;subst hw3;obtain⟨x,hx⟩:∃ x,x=Xc7 s ((b-2*span)/width) ((b-span)/width) (b/width) key:=⟨_,rfl⟩;rw[<- hx] at htk;have hx21:paS s key ((b-span)/width) (b/width)=x.2.1:=by rw[hx];rfl
   have hx22:paS s key ((b-2*span)/width) ((b-span)/width)=x.2.2:=by rw[hx];rfl
   have hx1':key=x.1:=by rw[hx];rfl
   rw[hx21,hx22,hx1'];clear hx hx21 hx22 hx1';refine Gg ?_;intro b4 w4 hn4;refine Gg ?_;refine Qc Qb (e:=ty256) rfl hn4.At rfl rfl rfl Oj fun w5 h5 ho5 => ?_
   have h5:At w5 b4 256 (riC x):=h5;have e4:=hn4.block;have s3:=hx3.size;have hx35:Ext w3'' w5:=ho5.ext hn4.ext Om;have hx5:=hx3.trans hx35;have hown5:=hown3.ext hx35;clear ho5 hn4;refine Gg ?_;refine⟨Vj x.2.1,h5.one rfl,Gg ?_⟩;constructor
   . intro hc;have hc:floor<=x.2.1:=Su hc;rw[if_pos hc] at htk;refine Gg ?_;refine⟨riC x,⟨rfl,h5.all⟩,Gg ?_⟩;intro b6 w6 hn6;refine Gg ?_;refine Qq Xde (l:=F) (news := [x]) rfl (hown5.ext hn6.ext) rfl (Xde.new1 (x:=x) hn6) (by simp;omega) ((hx5.trans hn6.ext).size) fun A' c' w7 hown7 hg7 hA7 => ?_
     have hx7:=Qu (hx5.trans hn6.ext) hg7 (Xq hown5);generalize F ++ [x]=F1 at hown7 htk ⊢;refine Gg ?_;refine⟨_,wrap_succ Om,Gg ?_⟩;exact⟨(k+1,A',c',F1),Sj,⟨Sj,hx7,htk.symm,hown7⟩,Rr⟩
   . intro hc;have hc:¬ floor<=x.2.1:=Su hc;rw[if_neg hc,Zw] at htk;refine Gg ?_;refine⟨_,wrap_succ Om,Gg ?_⟩;exact⟨(k+1,A,d,F),Sj,⟨Sj,hx5,htk.symm,hown5⟩,Rr⟩
 . intro hge;have hge:K.length<=k:=Su hge;rw[Zb hge] at hF;rw[<- hF];have hokF:∀ x∈F,Qrj x:=fun x hx=>(by rw[hF] at hx;unfold Qce at hx;obtain⟨y,_,rfl⟩:=Zh.1 (Ze.1 hx).1;exact⟨⟨hps _ _ _,hsum _ _ _⟩,⟨hps _ _ _,hsum _ _ _⟩⟩)
   obtain⟨L,hL⟩:=Quc hokF;have hLl:L.length=F.length:=by rw[<- hL,Zf]
   have hownL:Own (fun x:RiS=>riC x.1) 3 256 w2.heap.size w3 A d L:=Qyq (f:=fun x:RiS=>x.1) (by rw[hL];exact hown3);have hsort:=Qzb L A d w2.heap.size w3 hownL Om;rw[hLl] at hsort;refine Hh ?_;refine hsort.mono ?_;rintro _ w4 ⟨rfl,F4,hp4,hs4,hsl4,hx4⟩;refine Hh ?_;have hpF:=hp4.map (fun x:RiS=>x.1);rw[hL] at hpF;exact⟨A,d,F4,by rw[<- hpF.length_eq,Zf],hpF,hs4,Q96 hsl4,by rw[<- Zf (f:=fun x:RiS=>x.1),hpF.length_eq];exact hown3.le,hx4 w (hx2.trans hx3) hx2.size⟩
theorem Qyv (w:World) (S:Nat->Prop) (p:Nat) (width n:Int) (s:Qal) (h:Qm5 w S p width n s) (hw:1<=width/\width<=1099511627776) (ok:Xd9 s 10000000) (hsum:∀ key lo hi,paS s key lo hi<=10000000) (span now floor:Int) (hs:1<=span/\span<=1099511627776) (hd:span.tmod width=0) (hn:0<=now/\now<=1099511627776) :
 Cal Tryz.prog 217 [Pj p,Vj span,Vj now,Vj floor] w fun r w'=>∃ A c F,r = .slice A F.length c/\F.Perm (Qce s ((now-now.tmod width-2*span)/width) ((now-now.tmod width-span)/width) ((now-now.tmod width)/width) floor (Qcv s ((now-now.tmod width-span)/width) ((now-now.tmod width)/width)))/\Sl riC 3 w' A F/\Ext w w' :=
 (Qlx w S p width n s h hw ok hsum span now floor hs hd hn).mono fun r w' ⟨A,c,F,h1,h2,_,h3,_,h4⟩=>⟨A,c,F.map (·.1),by rw[Zf];exact h1,h2,h3,h4⟩
end Go.Proofs.YtpdonaienhociaaGreatDoor
namespace Go.Proofs.YtpdonaienhociaaGreatDoor
open Go.Se Go.RowKit
theorem Qi6 (gap:Int) (L:List Ad3) (a:Ad3):allL gap (L ++ [a])=Qbn gap (allL gap L) a:=by unfold allL;rw[Zt];rfl
theorem Qxe (gap:Int) (acc:List Sn) (a:Ad3):(Qbn gap acc a).length<=acc.length+1:=by
 unfold Qbn;split
 . split
   . simp
   . simp
 . simp
theorem Xbo (gap:Int):∀ L:List Ad3,(allL gap L).length<=L.length:=by
 refine Qv (by simp[allL]) fun L a ih => ?_
 rw[Qi6];have:=Qxe gap (allL gap L) a;simp;omega
theorem Q2b (gap:Int):∀ L:List Ad3,∀ q∈allL gap L,q.items.length<=L.length:=by
 refine Qv (fun q hq=>by simp[allL] at hq) fun L a ih q hq => ?_
 rw[Qi6] at hq;rw[Zo,Za0];unfold Qbn at hq;split at hq
 . next g hg =>
   have hgm:g∈allL gap L:=Zbn hg;have hgl:=ih g hgm;split at hq
   . rcases Zj.1 hq with hq | hq
     . have:=ih q (List.dropLast_subset _ hq);omega
     . rw[Zk] at hq;subst hq;have:=Qsa (lt:=bLt) a.2.2 g.items;simp only;omega
   . rcases Zj.1 hq with hq | hq
     . have:=ih q hq;omega
     . rw[Zk] at hq;subst hq;simp
 . rcases Zj.1 hq with hq | hq
   . have:=ih q hq;omega
   . rw[Zk] at hq;subst hq;simp
theorem Xev (T:Int) (I:Bj):∀ m:Qer,((Xc m T (Xc ((Qe m T).getD []) I true)).map fun x=>x.2.length).sum<=(m.map fun x=>x.2.length).sum+1
 | []=>by simp[Xc,Qe]
 | y :: m=>by
   have ih:=Xev T I m;rw[Qcn];unfold Xc
   by_cases h:T=y.1
   . rw[if_pos h,if_pos h];have:=Qb3 I true y.2;simp only[Zaj,Zm,Za9];omega
   . rw[if_neg h,if_neg h];simp only[Zm,Za9];omega
theorem Xik:∀ l:List Ev,∀ p,((tks (Qic l) p).map fun x=>x.2.length).sum<=l.length:=by
 refine Qv (fun p=>by simp[Qic,tks,Qe]) fun l e ih p => ?_
 rw[Qzi,Qm1,Zo,Za0];split
 . next h =>
   have h1:=Xev e.at_ e.item (tks (Qic l) e.person);have h2:=ih e.person;omega
 . have:=ih p;omega
theorem Xal {α:Type} [DecidableEq α] {V E:List α} (hn:V.Nodup) (hs:∀ x∈V,x∈E):V.length<=E.length:=Qd3 hn hs
theorem Xj1 (gap:Int) (hg:0<=gap) (l:List Ev) (hlm:∀ e∈l,X0 e=true/\wpB e=true) (hll:l.length<1000):Xi1 gap (Qic l)/\Q55 (Qj6 gap (Qic l))/\(Qj6 gap (Qic l)).length<1000:=by
 have hsa:=Xaa gap hg l;have hE:Qj6 gap (Qic l)=allL gap (Qft ahB (l.map adE)):=hsa.symm;have is:=Xgh l;have hil:=Q3i (lt:=ahB) (l.map adE);rw[Zf] at hil
 have hname:∀ e∈l,e.person.size<=1000/\e.item.size<=1000:=fun e he=>by
  have h:=hlm e he;have hw:0<Qy e:=by simpa [wpB] using h.2
  have hn:=Qeq h.1 hw;have h1:=Qds hn.1;have h2:=Qds hn.2;omega
 have hper:(Qic l).length<=l.length:=by
  have:=Xal (V:=(Qic l).map (·.1)) (E:=l.map (·.person)) (Qam is.keys) fun x hx=>(by obtain⟨e,he,h⟩:=(is.person x).1 hx;exact Zh.2 ⟨e,he,h⟩)
  simpa using this
 have htk:∀ p,(tks (Qic l) p).length<=l.length:=fun p=>by
  have:=Xal (V:=(tks (Qic l) p).map (·.1)) (E:=l.map (·.at_)) (Qn8 (is.ticks p)) fun x hx=>(by obtain⟨e,he,_,h⟩:=(is.tick p x).1 hx;exact Zh.2 ⟨e,he,h⟩)
  simpa using this
 refine⟨⟨fun x hx => ?_,fun p=>⟨fun x hx => ?_,fun x hx y hy => ?_,?_,?_⟩,Om,fun ps hps => ?_⟩,fun q hq => ?_,?_⟩
 . obtain⟨e,he,h⟩:=(is.person x.1).1 (Zh.2 ⟨x,hx,rfl⟩);rw[<- h];exact(hname e he).1
 . obtain⟨e,he,_,h⟩:=(is.tick p x.1).1 (Zh.2 ⟨x,hx,rfl⟩);rw[<- h];exact(Qb9.1 (hlm e he).1).at_
 . have hl:=Qdk (is.ticks p) (show (x.1,x.2)∈tks (Qic l) p from hx);have hy1:y.1∈Xt (tks (Qic l) p) x.1:=(by unfold Xt;rw[hl];exact Zh.2 ⟨y,hy,rfl⟩);obtain⟨e,he,_,_,h⟩:=(is.item p x.1 y.1).1 hy1;rw[<- h];exact(hname e he).2
 . have:=htk p;show (tks (Qic l) p).length<_
   omega
 . have:=Xik l p;show ((tks (Qic l) p).map _).sum<_
   omega
 . have h1:ps.length<=l.length:=(by have:=hps.length_le;rw[Qcf,Zf] at this;omega)
   have h2:∀ ps:List Bj,(ps.flatMap (Qf2 gap (Qic l))).length<=ps.length*l.length:=by
    intro ps
    induction ps with
    | nil=>simp
    | cons p ps ih =>
      rw[Zat,Zo,Z8,Zbv];have h3:(Qf2 gap (Qic l) p).length<=l.length:=(by unfold Qf2;rw[Zf];have:=Xce gap ((Qe (Qic l) p).getD []);have:=htk p;unfold tks at this;omega);omega
   have h3:=h2 ps;have h4:ps.length*l.length<=999*999:=Nat.mul_le_mul Om Om;omega
 . have h1:=hq;rw[hE] at hq;have h2:=Q2b _ _ q hq;unfold Qj6 at h1;obtain⟨p,_,hp⟩:=Zbb.1 h1;unfold Qf2 at hp;obtain⟨g,_,hgq⟩:=Zh.1 hp;exact⟨g.2.2,by rw[<- hgq];rfl,Om⟩
 . rw[hE];have:=Xbo gap (Qft ahB (l.map adE));omega
theorem Qz5 (c:Cfg) (z:List Ev) (hm:∀ e∈z,X0 e=true) (hz:z.length<1000):Xi2 c z:=by
 have hll:=Zc wpB z;have h:=Xj1 (Q7d c.gap) (by unfold Q7d;omega) (z.filter wpB) (fun e he=>⟨hm e (Ze.1 he).1,(Ze.1 he).2⟩) Om;exact⟨h.1,h.2.1,h.2.2⟩
theorem Qtj {w:World} {T:Nat->Prop} {p:Nat} {c:Cfg} {z:List Ev} {v:Value} (h:WQ w T p c z v) (person item:Bj) (now:Int) (hn:0<=now/\now<=1099511627776) :
 Cal Tryz.prog 170 [Pj p,.string person,.string item,Vj now] w fun r w'=>r = Vj (Q4f c z person item now 0)/\Ext w w':=by
 have hpm:=Xbf h.may;have hb:=Q84 hpm (Xd c.half) item now;have hl:=Zc wpB z;have hz:=h.len;refine Fi Tryz.func170 rfl _ rfl rfl (Hh ?_);refine(Qj1 h).mono ?_;rintro _ w1 ⟨pd,S,rfl,hc,hx1⟩;rw[(Qc0 c.width z).1] at hc;refine Hh ?_;refine(Qqb w1 S pd _ _ _ hc item now hn fun r hr x hx => ?_).mono ?_
 . obtain⟨e,he,h1,_⟩:=Q0q _ item r hr x hx;rw[<- h1];exact Qvn (hpm e he)
 rintro r w2 ⟨hr,hx2⟩;have hv:Qby (Qik (z.filter wpB)) (Xd c.half) item now=Xej (z.filter wpB) (Xd c.half) item now:=(by unfold Qby;rw[Xhm _ _ _ _ (fun e he=>(Ze.1 he).2)];exact(wrap_eq rfl ⟨Om,Om⟩).symm);rw[hv] at hr;subst hr;refine Hh ?_;refine(Qnz _ w2).mono ?_;rintro _ _ ⟨rfl,rfl⟩;refine Hh ?_;exact⟨rfl,hx1.trans hx2⟩
theorem Qj5 (c:Cfg) (z:List Ev) (h:Rise z) (item:Bj) (now:Int):(Xw (Ql z) item now).1=Qmd z item now:=by
 rw[Qee (Qda h)];rfl
theorem Qx6 (l:List Bj) (A:Option Addr) (c:Nat) (x:Bj) (w:World) (hs:SlT w A l) (hl:l.length<1000000) :
 Cal Tryz.prog 79 [.slice A l.length c,.string x] w fun r w'=>(∃ i:Int,r = Vj i /\ -1<=i/\(0<=i↔x∈l))/\w'=w:=by
 refine Fi Tryz.func79 rfl _ rfl rfl (Hh ?_)
 refine Qh Qb (fun(k:Nat) w'=>k<=l.length/\x∉l.take k/\w'=w)
  (fun k => [(0,.slice A l.length c),(1,.string x),(7,Vj l.length),(8,Vj (k:Nat))]) (fun k=>l.length-k) 0 ⟨Zu _,by simp,rfl⟩ Rr ?_
 rintro k w2 ⟨hk,hno,hw2⟩;subst hw2;refine Hh ?_;constructor
 . intro hlt;have hlt:k<l.length:=Su hlt;obtain⟨a2,hA,hc2⟩:=hs.get hlt;subst hA;have htk:x∈l.take (k+1)↔x=l[k]:=by rw[Za hlt,Zj,Zk];simp[hno]
   have hmem:l[k]∈l:=Zx hlt;generalize l[k]=y at hc2 htk hmem;refine Hh ?_;refine⟨a2,Ix,Hh ?_⟩;refine⟨.string y,Qs hc2,Hh ?_⟩;constructor
   . intro hc;have hc:x=y:=Su hc;refine Hh ?_;exact⟨⟨k,rfl,Om,by simp[hc,hmem]⟩,rfl⟩
   . intro hc;have hc:¬ x=y:=Su hc;refine Hh ?_;refine⟨_,wrap_succ Om,Hh ?_⟩;exact⟨k+1,Om,⟨Om,fun h=>hc (htk.1 h),rfl⟩,Rr⟩
 . intro hge;have hge:l.length<=k:=Su hge;rw[Zb hge] at hno;refine Hh ?_;exact⟨⟨-1,rfl,Om,by simp[hno]⟩,rfl⟩
theorem Qay (l:List Bj) (A:Option Addr) (c:Nat) (x:Bj) (w:World) (hs:SlT w A l) (hl:l.length<1000000) :
 Cal Tryz.prog 31 [.slice A l.length c,.string x] w fun r w'=>r = .bool (decide (x∈l))/\w'=w:=by
 refine Fi Tryz.func31 rfl _ rfl rfl (Hh ?_);refine(Qx6 l A c x w hs hl).mono ?_;rintro _ _ ⟨⟨i,rfl,hi1,hi2⟩,rfl⟩;refine Hh ?_;refine⟨?_,rfl⟩
 by_cases hq:x∈l
 . rw[decide_eq_true (hi2.2 hq),decide_eq_true hq]
 . rw[decide_eq_false (fun h=>hq (hi2.1 h)),decide_eq_false hq]
def Qwy (tags:List Bj) (F:List Ct):Int:=((F.filter fun x=>decide (x.1∈tags)).map (·.2)).sum
theorem Xba (tags:List Bj) (F:List Ct) (x:Ct):Qwy tags (F ++ [x])=Qwy tags F+if x.1∈tags then x.2 else 0:=by
 unfold Qwy;rw[Zq,Zp,Zbd]
 by_cases h:x.1∈tags <;> simp[h]
theorem Qtp {tags:List Bj}:∀ {F:List Ct},(∀ x∈F,0<=x.2)->0<=Qwy tags F
 | [],_=>by simp[Qwy]
 | x :: F,h=>by
   have ih:=Qtp (tags:=tags) (F:=F) fun y hy=>h y (by simp[hy])
   have:=h x (by simp);unfold Qwy at *;rw[Zar];split
   . rw[Zm,Za9];omega
   . exact ih
theorem Xa9 {tags:List Bj} {F:List Ct} (h:∀ x∈F,0<=x.2) (k:Nat):0<=Qwy tags (F.take k)/\Qwy tags (F.take k)<=Qwy tags F:=by
 refine⟨Qtp fun x hx=>h x (Zbo hx),?_⟩;have h1:0<=Qwy tags (F.drop k):=Qtp fun x hx=>h x (List.mem_of_mem_drop hx)
 have h2:Qwy tags F=Qwy tags (F.take k)+Qwy tags (F.drop k):=(by unfold Qwy;rw[<- Zbd,<- Zp,<- Zq,Zah]);omega
theorem Qzo {α:Type} (f:α->Nat) (M:Nat):∀ l:List α,(∀ x∈l,f x<=M)->(l.map f).sum<=l.length*M
 | [],_=>by simp
 | x :: l,h=>by
   have h1:=h x (by simp);have ih:=Qzo f M l fun y hy=>h y (by simp[hy])
   rw[Zm,Za9,Z8,Zbv];omega
theorem Qv7 (width:Int) (z:List Ev):(Qi width z).rs.length<=z.length:=by
 have h:=(Qbz width z).2;have h1:=congrArg List.length h;unfold evs at h1;rw[Zf] at h1;rw[h1];exact Zc _ _
theorem Q4p (R:List Row) (person:Bj):(rowsOf R person).length<=R.length:=Zc _ _
theorem Qwv (f:Bj->Int) (M:Int) (hM:0<=M) (tags:List Bj) (h8:tags.length<=8) (h:∀ t,0<=f t/\f t<=M):0<=Ql3 f tags/\Ql3 f tags<=8*M:=by
 have hb:=Qep f M tags fun x _=>h x
 unfold Ql3;refine⟨hb.1,Int.le_trans hb.2 (Zas Om hM)⟩
set_option maxHeartbeats 1000000 in
theorem Qzm {w:World} {T:Nat->Prop} {p:Nat} {c:Cfg} {z:List Ev} {v:Value} (h:WQ w T p c z v) (hg:Gl w) (hz:z.length<100000) (person item:Bj) (now:Int) (hn:0<=now/\now<=1099511627776) :
 Cal Tryz.prog 171 [Pj p,.string person,.string item,Vj now] w fun r w'=>r = Vj (Q4f c z person item now 1)/\Ext w w':=by
 have hit:=Qj5 c z h.rise item now;have htgo:=Qn5 item ((Ql z).filter (thQ item now)) fun y hy=>Qdp h.may y (Ze.1 hy).1
 have hrs:=Qeg c.width z h.rise h.may;have hrl:=Qv7 c.width z;have hrw:Q4f c z person item now 1=if(Qmd z item now).listed=true then min (Ql3 (Xew (Xd c.half) now (rowsOf (Qv6 z) person)) (Xg (Qgr (Qmd z item now).tags))) 1099511627776 else 0:=(by unfold Q4f;rw[if_neg (by decide),if_pos rfl])
 rw[hrw];have hts:Xew (Xd c.half) now (rowsOf (Qv6 z) person)=Q12 (Xd c.half) now (rowsOf (Qi c.width z).rs person):=(by funext t;exact(Xdv c.width (Xd c.half) now person t z h.rise h.may).symm);rw[hts];have htg:=Qfm (Ql z) (fun e he=>h.may e ((Ze.1 he).1)) item now;rw[hit] at htg;have htgo:Xe3 (Xg (Qgr (Qmd z item now).tags)):=htgo;refine Fi Tryz.func171 rfl _ rfl rfl (Hh ?_);refine(Xh h).mono ?_;rintro _ w1 ⟨pc,S,rfl,hcat,hx1⟩;refine Hh ?_;refine(Q7 _ S pc _ hcat item now h.rows).mono ?_;rintro _ w2 ⟨rfl,hx2⟩;rw[hit];generalize Qmd z item now=it at htg htgo ⊢;refine Hh ?_;intro b3 w3 hn3;refine Hh ?_;refine Qc Qb (e:=ty59) rfl hn3.At rfl rfl rfl (by simp[Qg,itC,Value.oneCell']) fun w4 h4 ho4 => ?_
 have e3:=hn3.block;have hx4:Ext w w4:=ho4.ext ((hx1.trans hx2).trans hn3.ext) (by have:=(hx1.trans hx2).size;omega);have h4:At w4 b3 59 (itC it):=h4;clear ho4;refine Hh ?_;refine⟨.bool it.listed,h4.one rfl,Hh ?_⟩;constructor
 . intro hl;have hl:it.listed=false:=Su hl;refine Hh ?_;exact⟨by rw[hl];rfl,hx4⟩
 intro hl;have hl:it.listed=true:=Su hl;rw[if_pos hl];refine Hh ?_;refine⟨.string it.tags,h4.one rfl,Hh ?_⟩;refine⟨sz2 (by decide) Om,Hh ?_⟩;refine(Qc7 (Qgr it.tags) w4 (hg.ext hx4) (by unfold Qgr;rw[Za5];have:(⟨#[59]⟩:Bj).size=1:=rfl;omega)).mono ?_;rintro _ w5 ⟨A5,c5,rfl,hs5,_,hx5⟩;generalize Xg (Qgr it.tags)=tg at hs5 htgo ⊢;refine Hh ?_;refine(X6 (h.ext (hx4.trans hx5))).mono ?_;rintro _ w6 ⟨pw,S6,rfl,hcr,hx6⟩;generalize (Qi c.width z).rs=rs at hcr hrs hrl ⊢;refine Hh ?_
 refine(Q5d w6 S6 pw _ rs hcr person now Om (fun r hr=>⟨(hrs r hr).1,(Qvn (hrs r hr).1).1⟩) (by
  have:=Qzo (fun r:Row=>r.2.length) 8 rs fun r hr=>(hrs r hr).2.2
  omega) Om).mono ?_
 rintro _ w7 ⟨A7,c7,F,rfl,hF,_,hs7,hx7⟩;have hrows:∀ r∈rowsOf rs person,X0 r.1=true/\r.2.Nodup:=fun r hr=>⟨(hrs r (Ze.1 hr).1).1,(hrs r (Ze.1 hr).1).2.1⟩
 have hrol:=Q4p rs person;have hts:=Xa1 hrows Om (htgo.2.1.nodup Qtl) hF;have hpos:∀ x∈F,0<=x.2:=fun x hx=>(by have:=(Ze.1 (hF.mem_iff.1 hx)).2;simp at this;omega)
 have hget:=fun t=>Xa8 (Xd c.half) now t (rowsOf rs person) hrows Om
 have hV:=Qwv (Q12 (Xd c.half) now (rowsOf rs person)) ((rowsOf rs person).length*5242880) Om tg htgo.2.2 fun t=>⟨(hget t).2.1,(hget t).2.2.1⟩
 have hparts:=fun k=>Xa9 (tags:=tg) hpos k
 have hFl:F.length<1000000:=by
  have h1:=hF.length_eq;have h2:(Xgr (Xd c.half) now (rowsOf rs person)).length<=(Qzz (Xd c.half) now (rowsOf rs person)).length:=Zc _ _;have h3:=Q11 (Xd c.half) now (rowsOf rs person);have h4:=Qzo (fun r:Row=>r.2.length) 8 (rowsOf rs person) fun r hr=>(hrs r (Ze.1 hr).1).2.2
  omega
 have hts:Qwy tg F=Ql3 (Q12 (Xd c.half) now (rowsOf rs person)) tg:=hts;rw[<- hts] at hV ⊢;clear hget hts hF;have h8:tg.length<=8:=htgo.2.2;have hs5':=hs5.ext (hx6.trans hx7);refine Hh ?_
 refine Qh Qb (fun(q:Nat×Int) w'=>q.1<=F.length/\q.2=Qwy tg (F.take q.1)/\Ext w7 w')
  (fun | (k,t) => [(11,.slice A5 tg.length c5),(12,Vj t),(34,.slice A7 F.length c7),(35,Vj F.length),(36,Vj (k:Nat))]) (fun q=>F.length-q.1) (0,0) ⟨Zu _,rfl,Ext.refl _⟩ Rr ?_
 rintro ⟨k,t⟩ w8 ⟨hk,ht,hx8⟩;simp only at hk ht;refine Hh ?_;constructor
 . intro hlt;have hlt:k<F.length:=Su hlt;obtain⟨a9,hA9,hc9⟩:=(hs7.ext hx8).get hlt;subst hA9;have htk:Qwy tg (F.take (k+1))=t+if F[k].1∈tg then F[k].2 else 0:=by rw[ht,Za hlt,Xba]
   have hp2:=hparts (k+1);generalize F[k]=x at hc9 htk;refine Gg ?_;refine⟨a9,Ix,Gg ?_⟩;refine⟨Qi3 x,⟨rfl,hc9⟩,Gg ?_⟩;intro b9 w9 hn9;refine Gg ?_;refine Qc Qb (e:=ty251) rfl hn9.At rfl rfl rfl (Qjf x) fun w10 h10 ho10 => ?_
   have h10:At w10 b9 251 (Qi3 x):=h10;have e9:=hn9.block;have hx810:Ext w8 w10:=ho10.ext hn9.ext Om;have hx10:=hx8.trans hx810;clear ho10 hn9;refine Gg ?_;refine⟨.string x.1,h10.one rfl,Gg ?_⟩;refine(Qay tg A5 c5 x.1 w10 (hs5'.ext hx10) Om).mono ?_;rintro _ w11 ⟨rfl,hw11⟩;subst hw11;refine Gg ?_;constructor
   . intro hc;have hc:x.1∈tg:=Su hc;rw[if_pos hc] at htk;rw[htk] at hp2;refine Gg ?_;refine⟨Vj x.2,h10.one rfl,Gg ?_⟩;refine⟨t+x.2,wrap_eq rfl ⟨Om,Om⟩,Gg ?_⟩;refine⟨_,wrap_succ Om,Gg ?_⟩;exact⟨(k+1,t+x.2),Sj,⟨Sj,htk.symm,hx10⟩,Rr⟩
   . intro hc;have hc:¬ x.1∈tg:=Su hc;rw[if_neg hc,Int.add_zero] at htk;refine Gg ?_;refine⟨_,wrap_succ Om,Gg ?_⟩;exact⟨(k+1,t),Sj,⟨Sj,htk.symm,hx10⟩,Rr⟩
 . intro hge;have hge:F.length<=k:=Su hge;rw[Zb hge] at ht;rw[<- ht];refine Hh ?_;refine(Qnz _ w8).mono ?_;rintro _ _ ⟨rfl,rfl⟩;refine Hh ?_;exact⟨rfl,(hx4.trans hx5).trans ((hx6.trans hx7).trans hx8)⟩
theorem Qv9 {w:World} {T:Nat->Prop} {p:Nat} {c:Cfg} {z:List Ev} {v:Value} (h:WQ w T p c z v) (person item:Bj) (now:Int) :
 Cal Tryz.prog 174 [Pj p,.string person,.string item,Vj now] w fun r w'=>r = Vj (Q4f c z person item now 4)/\Ext w w':=by
 have hit:=Qj5 c z h.rise item now;have hrs:=Qeg c.width z h.rise h.may;have hrl:=Qv7 c.width z;have hzl:=h.len;have hev:=(Qbz c.width z).2;have hrw:Q4f c z person item now 4=if(Qmd z item now).listed=true/\Q0t z person (Qmd z item now).maker=true then 1048576 else 0:=(by unfold Q4f;rw[if_neg (by decide),if_neg (by decide),if_neg (by decide),if_neg (by decide),if_pos rfl])
 have hfol:∀ maker,(decide (maker∈Xi ((Qav (Xk (Qi c.width z).rs).follows person (hist (evs (Qi c.width z).rs) person)).map (·.1))))=Q0t z person maker:=fun maker=>(by rw[Zbx,decide_eq_true_eq,Qf4,Q68,hev,Qqh])
 rw[hrw]
 have hfl:(Xi ((Qav (Xk (Qi c.width z).rs).follows person (hist (evs (Qi c.width z).rs) person)).map (·.1))).length<1000000:=by
  rw[Qcf,Zf]
  have h1:∀ (fl:List (LK×Bool)) (hh:List Ev),(Qav fl person hh).length<=hh.length:=fun fl=>by
   refine Qv (by simp[Qav]) fun hh e ih => ?_
   rw[Qeh];split
   . have:=Qb3 e.text true (Qav fl person hh);simp;omega
   . simp;omega
  have h2:=h1 (Xk (Qi c.width z).rs).follows (hist (evs (Qi c.width z).rs) person);have h3:(hist (evs (Qi c.width z).rs) person).length<=(evs (Qi c.width z).rs).length:=Zc _ _;have h4:(evs (Qi c.width z).rs).length=(Qi c.width z).rs.length:=Zf _;omega
 refine Fi Tryz.func174 rfl _ rfl rfl (Hh ?_);refine(Xh h).mono ?_;rintro _ w1 ⟨pc,S,rfl,hcat,hx1⟩;refine Hh ?_;refine(Q7 _ S pc _ hcat item now h.rows).mono ?_;rintro _ w2 ⟨rfl,hx2⟩;rw[hit];generalize Qmd z item now=it;refine Hh ?_;intro b3 w3 hn3;refine Hh ?_;refine Qc Qb (e:=ty59) rfl hn3.At rfl rfl rfl (by simp[Qg,itC,Value.oneCell']) fun w4 h4 ho4 => ?_
 have e3:=hn3.block;have hx4:Ext w w4:=ho4.ext ((hx1.trans hx2).trans hn3.ext) (by have:=(hx1.trans hx2).size;omega);have h4:At w4 b3 59 (itC it):=h4;clear ho4;refine Hh ?_
 repeat(refine Sg ?_;(conv=>whnf))
 refine Dr .ext [0,1,2,3,5,7,8,4,6] [9,10] (Hh ?_);refine⟨.bool it.listed,h4.one rfl,Hh ?_⟩;refine⟨.string it.maker,fun _=>h4.one rfl,Hh ?_⟩;replace hx4:=hx4.drew;refine⟨Nat,fun pw => Pj pw,fun pw w'=>(∃ S,X3 w' S pw (Xd c.half) (Qi c.width z).rs)/\Ext w4.drew w',0,fun _=>(X6 (h.ext hx4)).mono fun r w' hh => ?_,?_⟩
 . obtain⟨pw,S,h1,h2,h3⟩:=hh;exact⟨pw,h1,⟨S,h2⟩,h3⟩
 intro pw w5 h5
 have hx5:Ext w4.drew w5:=by
  rcases h5 with⟨_,hh⟩ | ⟨_,hh⟩
  . exact hh.2
  . rw[hh];exact Ext.refl _
 have hcr:it.listed=true->∃ S,X3 w5 S pw (Xd c.half) (Qi c.width z).rs:=fun hl=>by
  rcases h5 with⟨_,hh⟩ | ⟨hg,_⟩
  . exact hh.1
  . exact(hg ⟨hl,trivial⟩).elim
 clear h5;refine⟨hx5,?_⟩;have hmk:∀ (S:Nat->Prop),X3 w5 S pw (Xd c.half) (Qi c.width z).rs->_:=fun S hc=>Qio w5 S pw _ _ hc (fun r hr=>(hrs r hr).1) Om person
 generalize Xi ((Qav (Xk (Qi c.width z).rs).follows person (hist (evs (Qi c.width z).rs) person)).map (·.1))=M at hfol hfl hmk;refine Hh ?_;refine⟨Option Addr×Nat,fun q => .slice q.1 M.length q.2,fun q w'=>SlT w' q.1 M/\Ext w5 w',(none,0),fun hg => ?_,?_⟩
 . obtain⟨S,hc⟩:=hcr hg;refine(hmk S hc).mono ?_;rintro r w' ⟨A,c6,hr,ho,hx⟩;exact⟨(A,c6),hr,ho.sl Qw,hx⟩
 rintro ⟨A,c6⟩ w6 h6
 have hx6:Ext w5 w6:=by
  rcases h6 with⟨_,hh⟩ | ⟨_,hh⟩
  . exact hh.2
  . rw[hh];exact Ext.refl _
 have hs6:it.listed=true->SlT w6 A M:=fun hl=>by
  rcases h6 with⟨_,hh⟩ | ⟨hg,_⟩
  . exact hh.1
  . exact(hg ⟨hl,trivial⟩).elim
 clear h6;have hct:it.listed=true->Cal Tryz.prog 31 [.slice A M.length c6,.string it.maker] w6 fun r w'=>r = .bool (Q0t z person it.maker)/\Ext w6 w':=fun hl=>(Qay M A c6 it.maker w6 (hs6 hl) hfl).mono fun r w' hh=>⟨by rw[hh.1,hfol],by rw[hh.2];exact Ext.refl _⟩
 refine⟨hx6,?_⟩;refine Hh ?_;refine⟨Unit,fun _=>(.bool (Q0t z person it.maker)),fun _ w'=>Ext w6 w',(),fun hg=>((hct hg)).mono fun r w' h=>⟨(),h.1,h.2⟩,?_⟩;intro _ w7 h2
 have hx7:Ext w6 w7:=by
  rcases h2 with⟨_,h⟩ | ⟨_,h⟩
  . exact h
  . rw[h];exact Ext.refl _
 clear h2;refine Hh ?_;constructor
 . intro hc;have hc:it.listed=true/\Q0t z person it.maker=true:=Su hc;refine Hh ?_;exact⟨by rw[if_pos hc],(hx4.trans hx5).trans (hx6.trans hx7)⟩
 intro hc;have hc:¬ (it.listed=true/\Q0t z person it.maker=true):=(by have hc:(it.listed&&Q0t z person it.maker)=false:=hc;simpa using hc);refine Hh ?_;exact⟨by rw[if_neg hc],(hx4.trans hx5).trans (hx6.trans hx7)⟩
theorem Xh7 (width:Int) {z:List Ev} (hm:∀ e∈z,X0 e=true) (hz:z.length<100000):Xd9 (Qt1 width (z.filter wpB)) 10000000:=by
 have hc:=Qh7 width z hm;have hps:=(Qc0 width z).2.1;have h1:=hc.ps;have h2:=hc.pl;rw[hps] at h1 h2;exact⟨Xf9 width _,Qfy h1 Om,Om,Om,Om⟩
theorem Xh6 (width:Int) {z:List Ev} (hm:∀ e∈z,X0 e=true) (hz:z.length<100000) (key:Bj) (lo hi:Int):paS (Qt1 width (z.filter wpB)) key lo hi<=10000000:=by
 have hl:=Zc wpB z;rw[Xek width key lo hi _ fun e he=>(Ze.1 he).2];have:=(Xc0 (Xbf hm) width key lo hi).2;omega
set_option maxHeartbeats 1000000 in
theorem Qzg {w:World} {T:Nat->Prop} {p:Nat} {c:Cfg} {z:List Ev} {v:Value} (h:WQ w T p c z v) (hcf:Qw6 c=true) (hz:z.length<100000) (person item:Bj) (now:Int) (hn:0<=now/\now<=1099511627776) :
 Cal Tryz.prog 173 [Pj p,.string person,.string item,Vj now] w fun r w'=>r = Vj (Q4f c z person item now 3)/\Ext w w':=by
 obtain⟨c1,c2,c3,c4,c5,c6,c7⟩:=Xed hcf;have hwid:=Q7j c2;have ok:=Xh7 c.width h.may hz;have hle:=Xh6 c.width h.may hz;have hsum:=fun key lo hi=>Xek c.width key lo hi (z.filter wpB) fun e he=>(Ze.1 he).2
 have hrw:Q4f c z person item now 3=Q4k c (paE (z.filter wpB) c.width item ((Qis c now-c.span)/Xd c.width) (Qis c now/Xd c.width)) (paE (z.filter wpB) c.width item ((Qis c now-2*c.span)/Xd c.width) ((Qis c now-c.span)/Xd c.width)):=(by unfold Q4f;rw[if_neg (by decide),if_neg (by decide),if_neg (by decide),if_pos rfl]);rw[hrw,<- hsum,<- hsum];unfold Qis;refine Fi Tryz.func173 rfl _ rfl rfl (Hh ?_);refine(Qbc h).mono ?_;rintro _ w1 ⟨rfl,hx1⟩;refine Hh ?_;intro b2 w2 hn2;refine Hh ?_;refine Qc Qb (e:=ty25) rfl hn2.At rfl rfl rfl (by simp[Qg,Xec,Qrp,Value.oneCell']) fun w3 h3 ho3 => ?_
 have e2:=hn2.block;have hx3:Ext w w3:=ho3.ext (hx1.trans hn2.ext) (by have:=hx1.size;omega);have h3:At w3 b2 25 (Qrp c):=h3;clear ho3;refine Hh ?_;refine Dr .ext [0,2,3,4,5,6,9,1,7,8] [] (Hh ?_);refine⟨_,h3.one rfl,Hh ?_⟩;refine⟨_,h3.one rfl,Hh ?_⟩;replace hx3:=hx3.drew;refine(Qov (h.ext hx3)).mono ?_;rintro _ w4 ⟨pp,S,rfl,hpa,hx4⟩;rw[(Qc0 c.width z).2.1] at hpa;refine⟨hx4,Hh ?_⟩;refine(Qyv w4 S pp (Xd c.width) _ _ hpa Om ok hle c.span now c.floor c3 (by rw[hwid];exact c4) hn).mono ?_;rintro _ w5 ⟨A5,cc5,F,rfl,hF,hs5,hx5⟩;refine⟨hx5,?_⟩;have hps:=fun key lo hi=>(Qop ok.small ok.N0 key lo hi).1
 have hkp:=fun(lo hi:Int)=>Q71 ok.small (key:=item) (lo:=lo) (hi:=hi)
 have hKl:=fun lo hi=>Qn9 (Qt1 c.width (z.filter wpB)) lo hi
 have hslen:=ok.len;generalize Qt1 c.width (z.filter wpB)=s at *;generalize (now-now.tmod (Xd c.width)-2*c.span)/Xd c.width=l1 at *;generalize (now-now.tmod (Xd c.width)-c.span)/Xd c.width=l2 at *;generalize (now-now.tmod (Xd c.width))/Xd c.width=l3 at *;have hmem:∀ x∈F,Qrj x/\c.floor<=x.2.1/\x.1∈Qcv s l2 l3/\x=Xc7 s l1 l2 l3 x.1:=fun x hx=>(by have hx:=hF.mem_iff.1 hx;unfold Qce at hx;obtain⟨hx1,hx2⟩:=Ze.1 hx;obtain⟨key,hk,rfl⟩:=Zh.1 hx1;exact⟨⟨⟨hps _ _ _,hle _ _ _⟩,⟨hps _ _ _,hle _ _ _⟩⟩,Su hx2,hk,rfl⟩)
 have hin:item∈Qcv s l2 l3->c.floor<=paS s item l2 l3->Xc7 s l1 l2 l3 item∈F:=fun h1 h2=>(by refine hF.mem_iff.2 ?_;unfold Qce;exact Ze.2 ⟨Zh.2 ⟨item,h1,rfl⟩,decide_eq_true h2⟩)
 have hFl:F.length<1000000:=(by have h1:=hF.length_eq;have h2:(Qce s l1 l2 l3 c.floor (Qcv s l2 l3)).length<=(Qcv s l2 l3).length:=(by unfold Qce;refine Zv (Zc _ _) ?_;rw[Zf];exact Zg _);have h3:=hKl l2 l3;omega);clear hF hKl;refine Hh ?_;refine Qh Qb (fun(k:Nat) w'=>k<=F.length/\(∀ x∈F.take k,x.1≠item)/\Ext w5 w') (fun k => [(2,.string item),(24,.slice A5 F.length cc5),(25,Vj F.length),(26,Vj (k:Nat))]) (fun k=>F.length-k) 0 ⟨Zu _,by simp,Ext.refl _⟩ Rr ?_;rintro k w6 ⟨hk,hno,hx6⟩;have hx:=hx3.trans (hx4.trans (hx5.trans hx6));refine Hh ?_;constructor
 . intro hlt;have hlt:k<F.length:=Su hlt;obtain⟨a7,hA7,hc7⟩:=(hs5.ext hx6).get hlt;subst hA7
   have htk:∀ y∈F.take (k+1),y.1≠item\/y=F[k]:=fun y hy=>by
    rw[Za hlt] at hy;rcases Zj.1 hy with hy | hy
    . exact .inl (hno y hy)
    . exact .inr (Su hy)
   obtain⟨m1,m2,m3,m4⟩:=hmem F[k] (Zx hlt);generalize F[k]=x at hc7 htk m1 m2 m3 m4;refine Gg ?_;refine⟨a7,Ix,Gg ?_⟩;refine⟨riC x,⟨rfl,hc7⟩,Gg ?_⟩;intro b8 w8 hn8;refine Gg ?_;refine Qc Qb (e:=ty256) rfl hn8.At rfl rfl rfl (Qs8 x) fun w9 h9 ho9 => ?_
   have h9:At w9 b8 256 (riC x):=h9;have e8:=hn8.block;have hx69:Ext w6 w9:=ho9.ext hn8.ext Om;clear ho9 hn8;refine Gg ?_;refine⟨.string x.1,h9.one rfl,Gg ?_⟩;constructor
   . intro hc;have hc:x.1≠item:=Su hc;refine Gg ?_;refine⟨_,wrap_succ Om,Gg ?_⟩;refine⟨k+1,Om,⟨Om,fun y hy => ?_,hx6.trans hx69⟩,Rr⟩;rcases htk y hy with h | h
     . exact h
     . rw[h];exact hc
   . intro hc;have hc:x.1=item:=Su hc;have hpos:=(hkp l2 l3).1 (hc ▸ m3);have hx21:x.2.1=paS s item l2 l3:=by rw[m4,hc];rfl
     have hx22:x.2.2=paS s item l1 l2:=by rw[m4,hc];rfl
     have hval:Q4k c (paS s item l2 l3) (paS s item l1 l2)=min (1048576*(riR x).1/(riR x).2) 1099511627776:=(by unfold Q4k riR;simp only;rw[hx21] at m2;rw[if_neg Om,hx21,hx22,Int.mul_comm]);rw[hval];have hro:=Q9e m1;refine Gg ?_;refine⟨riC x,⟨rfl,h9.all⟩,Gg ?_⟩;refine(Qiw x m1 w9).mono ?_;rintro _ w10 ⟨rfl,hg10⟩;generalize riR x=q at hro;refine Gg ?_;intro b11 w11 hn11;refine Gg ?_;refine Qc Qb (e:=ty242) rfl hn11.At rfl rfl rfl (Qj2 q) fun w12 h12 ho12 => ?_
     have h12:At w12 b11 242 (Qlv q):=h12;have e11:=hn11.block;have hx12:Ext w10 w12:=ho12.ext hn11.ext Om;clear ho12 hn11;refine Gg ?_;refine⟨Vj q.1,h12.one rfl,Gg ?_⟩;refine⟨Vj q.2,h12.one rfl,Gg ?_⟩;refine(Qq6 (N:=100000000) Om 1048576 ⟨Om,Om⟩ q hro w12).mono ?_;rintro _ w13 ⟨rfl,hx13⟩;refine Gg ?_;constructor
     . intro hh;cases hh
     intro _;refine Gg ?_;refine(Qnz _ w13).mono ?_;rintro _ _ ⟨rfl,rfl⟩;refine Gg ?_;exact⟨rfl,hx.trans (hx69.trans (hg10.ext.trans (hx12.trans hx13)))⟩
 . intro hge;have hge:F.length<=k:=Su hge;rw[Zb hge] at hno
   have hval:Q4k c (paS s item l2 l3) (paS s item l1 l2)=0:=by
    unfold Q4k;rw[if_pos]
    by_cases h1:item∈Qcv s l2 l3
    . by_cases h2:c.floor<=paS s item l2 l3
      . exact absurd rfl (hno _ (hin h1 h2))
      . exact .inr Om
    . have:=hps item l2 l3;have h2:¬ 0<paS s item l2 l3:=fun h=>h1 ((hkp l2 l3).2 h)
      exact .inl Om
   rw[hval];refine Hh ?_;exact⟨rfl,hx⟩
def Xia (c:Cfg) (z:List Ev) (person item:Bj) (now x:Int):Int:=if 0<=x/\x<6/\0<=now/\now<=1099511627776 then Q4f c z person item now x.toNat else 0
theorem Q7v {z:List Ev} (hm:∀ e∈z,X0 e=true) (item:Bj) (now:Int):0<=(Qmd z item now).born/\(Qmd z item now).born<=1099511627776:=by
 have h:∀ es:List Ev,(∀ e∈es,X0 e=true)->0<=(Qpy item es).item.born/\(Qpy item es).item.born<=1099511627776:=by
  refine Qv (fun _=>by simp[Qpy,Qid,Qbt]) fun es e ih hm => ?_
  have ih:=ih fun x hx=>hm x (by simp[hx])
  have he:=Qvn (hm e (by simp));rw[Qh1];unfold Qb8;split
  . simp only;split
    . exact ih
    . exact he
  . split
    . exact ih
    . exact ih
 unfold Qmd Qtz;split
 . simp[Qbt]
 . exact h _ fun e he=>Qdp hm e (Ze.1 he).1
structure Qm7 (c:Cfg) (z:List Ev):Prop where
 cfg:Qw6 c=true
 len:z.length<1000
theorem Xag {w:World} {T:Nat->Prop} {p:Nat} {c:Cfg} {z:List Ev} (h:WT w T p c z) (hok:Qm7 c z) (hg:Gl w) (person item:Bj) (now x:Int) :
 Cal Tryz.prog 54 [Pj p,Vj x,.string person,.string item,Vj now] w fun r w'=>r = Vj (Xia c z person item now x)/\Mod T w w'/\∃ T',WT w' T' p c z/\∀ k,T' k->T k\/w.heap.size<=k:=by
 have hlen:=hok.len;obtain⟨v0,T0,hQ,hT0,_,_⟩:=id h;have hfin:∀ {w1:World},Ext w w1->Mod T w w1/\∃ T',WT w1 T' p c z/\∀ k,T' k->T k\/w.heap.size<=k:=fun hx=>⟨Mod.of_ext hx,T,h.ext hx,fun k hk => .inl hk⟩
 refine Fi Tryz.func54 rfl _ rfl rfl (Hh ?_);refine(Qzf w).mono ?_;rintro _ w1 ⟨rfl,hx1⟩;refine Hh ?_;intro b2 w2 hn2;refine Hh ?_;refine Qc Qb (e:=ty201) rfl hn2.At rfl rfl rfl (by simp[Qg,Xhn,Value.oneCell']) fun w3 h3 ho3 => ?_
 have h3:At w3 b2 201 Xhn:=h3;have e2:=hn2.block;have hx3:Ext w w3:=ho3.ext (hx1.trans hn2.ext) (by have:=hx1.size;omega);clear ho3 hn2;refine Hh ?_;constructor
 . intro hc;have hc:¬ (0<=x/\x<6/\0<=now/\now<=1099511627776):=(by simp at hc;omega);refine Hh ?_;exact⟨by unfold Xia;rw[if_neg hc],hfin hx3⟩
 intro hc;have hc:0<=x/\x<6/\0<=now/\now<=1099511627776:=(by simp at hc;omega);have hrx:Xia c z person item now x=Q4f c z person item now x.toNat:=by unfold Xia;rw[if_pos hc]
 rw[hrx];obtain⟨hx0,hx6,hnow⟩:=hc;refine Hh ?_;refine⟨⟨Om,Om⟩,Hh ?_⟩;obtain⟨k,rfl⟩:∃ k:Nat,x=k:=⟨x.toNat,Om⟩;rw[Za4];rcases k with _ | _ | _ | _ | _ | _ | k
 . refine⟨.func (.func 170) #[] #[],h3.one rfl,Hh ?_⟩;refine(Qtj (hQ.ext hx3) person item now hnow).mono ?_;rintro _ w4 ⟨rfl,hx4⟩;refine Hh ?_;exact⟨rfl,hfin (hx3.trans hx4)⟩
 . refine⟨.func (.func 171) #[] #[],h3.one rfl,Hh ?_⟩;refine(Qzm (hQ.ext hx3) (hg.ext hx3) Om person item now hnow).mono ?_;rintro _ w4 ⟨rfl,hx4⟩;refine Hh ?_;exact⟨rfl,hfin (hx3.trans hx4)⟩
 . refine⟨.func (.func 172) #[] #[],h3.one rfl,Hh ?_⟩;refine(Q8q (h.ext hx3) (Qz5 c z hQ.may hok.len) person item now).mono ?_;rintro _ w4 ⟨rfl,hM4,T',hW4,hT4⟩;refine Hh ?_;refine⟨?_,(Mod.of_ext hx3).trans hM4,T',hW4,fun k hk => ?_⟩
   . unfold Q4f;rw[if_neg (by decide),if_neg (by decide),if_pos rfl]
   . rcases hT4 k hk with h | h
     . exact .inl h
     . exact .inr (by have:=hx3.size;omega)
 . refine⟨.func (.func 173) #[] #[],h3.one rfl,Hh ?_⟩;refine(Qzg (hQ.ext hx3) hok.cfg Om person item now hnow).mono ?_;rintro _ w4 ⟨rfl,hx4⟩;refine Hh ?_;exact⟨rfl,hfin (hx3.trans hx4)⟩
 . refine⟨.func (.func 174) #[] #[],h3.one rfl,Hh ?_⟩;refine(Qv9 (hQ.ext hx3) person item now).mono ?_;rintro _ w4 ⟨rfl,hx4⟩;refine Hh ?_;exact⟨rfl,hfin (hx3.trans hx4)⟩
 . refine⟨.func (.func 175) #[] #[],h3.one rfl,Hh ?_⟩;have hb:=Q7v hQ.may item now;rw[<- Qj5 c z hQ.rise item now] at hb;refine(Q3e (hQ.ext hx3) person item now hnow hb).mono ?_;rintro _ w4 ⟨rfl,hx4⟩;refine Hh ?_;refine⟨?_,hfin (hx3.trans hx4)⟩;rw[Qj5 c z hQ.rise item now];rfl
 . omega
