import Derived.Test.YtnpacgccajekgaaGreatDoorGK
import Derived.Test.YtnpacgccajekgaaGreatDoorGJ
set_option linter.all false
namespace Go.Proofs.YtnpacgccajekgaaGreatDoor
open Go.Se Go.RowKit
open Go.Maps Go.Sort Go.Shelf
structure Xhb(s:Qar)(N:Int):Prop where
 keys:s.Pairwise (fun x y=>x.1≠y.1)
 small:Qhh s N
 N0:0<=N
 sum:s.length*N<4611686018427387904
 len:s.length<1000000
theorem Qxk(s key):(Qa9 s key).length<=s.length:=by
 unfold Qa9;rw[Zg];exact Zc _ _
theorem Q6g{s N}(ok:Xhb s N)(key lo hi row):0<=Xd6 s key lo hi row/\Xd6 s key lo hi row<=row.length*N:=by
 have a:=Qez (fun n:Int=>(Qe s (key,n)).getD 0) N (row.filter fun n=>decide (lo<=n)&&decide (n<hi)) fun x _=>(by have:=Qgn ok.small ok.N0 (key,x);exact⟨this.1,this.2.1⟩)
 have b:=Zc (fun n:Int=>decide (lo<=n)&&decide (n<hi)) row;unfold Xd6;exact⟨a.1,Int.le_trans a.2 (Zaw Om ok.N0)⟩
set_option maxHeartbeats 1000000 in
theorem Qr3(w S p width n s)(h:Qn3 w S p width n s)(B:1<=width/\width<=1099511627776)(N)(ok:Xhb s N)(key:Bj)(a b)(Z:-4398046511104<=a/\a<=4398046511104)(aa:-4398046511104<=b/\b<=4398046511104) :
 Cal Tryz.prog 354 [Pj p,.string key,Vj a,Vj b] w fun r w'=>r=Vj (paS s key (a/width) (b/width))/\w'=w:=by
 obtain⟨o,z,L,ah,h⟩:=h;have l:=h.head;have an:=Qj8 B.1 Z;have aj:=Qj8 B.1 aa;have J:=fun c d=>Qpq ok.small ok.N0 key c d
 have ao:=ok.sum;have A:=(h.rows.own key).1.sl X8;have v:=h.rows.look Xgy Xd (e:=ty52) ty52_ok rfl key (cl:= .same) Qs;have K:∀x,RdS Tryz.prog .same w (Instr.lookup 271 (.map (some o)) (cel x) false) (vi ((Qe s x).getD 0)):=fun x=>(by have:=X5 Xkh Qy3 (e:=ty2) ty2_ok (cl:= .same) Qs h.sums x;rw[show (Qe (Xj vi s) x).getD ty2.zero=vi ((Qe s x).getD 0) from Xt vi _ _ 0]at this;exact this)
 have ae:=Qxk s key;have al:=ok.len;have F:=Xgd ok.keys key (a/width) (b/width);have ac:=Q6g ok key (a/width) (b/width);have Y:=ok.N0;have ai:=fun n=>Qgn ok.small ok.N0 (key,n)
 generalize Qa9 s key=row at A v ae F;generalize (rowAt L key).1=O at A v;generalize (rowAt L key).2=P at A v;refine Fi Tryz.func354 rfl _ rfl rfl (Hh ?_);refine(Qim w p width n o z l B a ⟨Om,Om⟩).mono ?_;rintro _ _ ⟨rfl,rfl⟩;refine Hh ?_;refine(Qim _ p width n o z l B b ⟨Om,Om⟩).mono ?_;rintro _ M ⟨rfl,af⟩;subst af;generalize a/width=c at*;generalize b/width=d at*;refine Hh ?_;refine⟨d-c,wrap_eq rfl ⟨Om,Om⟩,Hh ?_⟩;refine⟨.map (some z),l.one rfl,Hh ?_⟩;refine⟨_,v,Hh ?_⟩;constructor
 .intro f;have f:d-c<row.length/\0<=c:=Su f;refine Hh ?_
  refine Qh Qb (fun(q:Nat×Int×Int) w'=>(q.1=0\/c+q.1<=d)/\q.2.1=c+q.1/\q.2.2=paS s key c (c+q.1)/\w'=M)
   (fun|(k,n,t)=>[(0,Pj p),(1,.string key),(10,Vj d),(11,Vj t),(12,Vj n)]) (fun q=>(d-c).toNat-q.1) (0,c,0) ⟨.inl rfl,by simp,(Qpr (by simp)).symm,rfl⟩ Rr ?_
  rintro ⟨k,n,t⟩ ag ⟨u,I,g,E⟩;simp only at u I g;subst E;refine Hh ?_;constructor
  .intro i;have i:n<d:=Su i;have D:=Xfv ok.keys key c (c+k) Om;have R:c+(k:Int)+1=c+((k+1:Nat):Int):=Om;rw[R,<- g,<- I]at D;have C:=J c (c+((k+1:Nat):Int));have ab:=J c (c+(k:Int));rw[<- g]at ab;rw[D]at C;refine Hh ?_;refine⟨.map (some o),l.one rfl,Hh ?_⟩;refine⟨_,K (key,n),Hh ?_⟩;refine⟨t+(Qe s (key,n)).getD 0,wrap_eq rfl ⟨Om,Om⟩,Hh ?_⟩;refine⟨n+1,wrap_eq rfl ⟨Om,Om⟩,Hh ?_⟩;exact⟨(k+1,n+1,t+(Qe s (key,n)).getD 0),Sj,⟨.inr (Sj),Sj,D.symm,rfl⟩,Rr⟩
  .intro j;have j:d<=n:=Su j;refine Hh ?_;refine⟨?_,rfl⟩;rw[g];rcases u with rfl|u
   .have U:paS s key c (c+((0:Nat):Int))=0:=Qpr Om;have V:paS s key c d=0:=Qpr Om;rw[U,V]
   .have:c+(k:Int)=d:=Om;rw[this]
 .intro _;refine Hh ?_;refine⟨.map (some z),l.one rfl,Hh ?_⟩;refine⟨_,v,Hh ?_⟩
  refine Qh Qb (fun(q:Nat×Int) w'=>q.1<=row.length/\q.2=Xd6 s key c d (row.take q.1)/\w'=M)
   (fun|(k,t)=>[(0,Pj p),(1,.string key),(9,Vj c),(10,Vj d),(11,Vj t),(58,.slice O row.length P),(59,Vj row.length),(60,Vj (k:Nat))]) (fun q=>row.length-q.1) (0,0) ⟨Zt _,rfl,rfl⟩ Rr ?_
  rintro ⟨k,t⟩ ag ⟨u,g,E⟩;simp only at u g;subst E;refine Hh ?_;constructor
  .intro i;have i:k<row.length:=Su i;obtain⟨a2,W,H⟩:=A.get i;subst W;have m:Xd6 s key c d (row.take (k+1))=t+if c<=row[k]/\row[k]<d then(Qe s (key,row[k])).getD 0 else 0:=by rw[g,Za i,Xb9]
   have C:=(ac (row.take (k+1)));have ak:((row.take (k+1)).length:Int)*N<=s.length*N:=Zaw (by rw[Zn];omega) Y;generalize row[k]=y at H m;refine Gg ?_;refine⟨a2,Ix,Gg ?_⟩;refine⟨Vj y,Qp H,Gg ?_⟩;constructor
   .intro f;have f:c<=y/\y<d:=Su f;rw[if_pos f]at m;rw[m]at C;refine Gg ?_;refine⟨.map (some o),l.one rfl,Gg ?_⟩;refine⟨_,K (key,y),Gg ?_⟩;refine⟨t+(Qe s (key,y)).getD 0,wrap_eq rfl ⟨Om,Om⟩,Gg ?_⟩;refine⟨_,wrap_succ Om,Gg ?_⟩;exact⟨(k+1,t+(Qe s (key,y)).getD 0),Sj,⟨Sj,m.symm,rfl⟩,Rr⟩
   .intro f;have f:¬(c<=y/\y<d):=(by have f:(decide (c<=y)&&decide (y<d))=false:=f;simpa using f);rw[if_neg f,Int.add_zero]at m;refine Gg ?_;refine⟨_,wrap_succ Om,Gg ?_⟩;exact⟨(k+1,t),Sj,⟨Sj,m.symm,rfl⟩,Rr⟩
  .intro j;have j:row.length<=k:=Su j;rw[Zd j,F]at g;rw[g];refine Hh ?_;exact⟨rfl,rfl⟩
def Qng(lo hi:Int)(x:Int):Bool:=decide (lo<=x)&&decide (x<hi)
theorem Q5f(b a lo hi x w)(d:At w b 3 [Vj lo])(c:At w a 3 [Vj hi]) :
 Cal Tryz.prog 391 [Vj x,Pj b,Pj a] w fun r w'=>r=.bool (Qng lo hi x)/\w'=w:=by
 refine Fi Tryz.func391 rfl _ rfl rfl (Hh ?_);refine⟨Vj lo,d.one0,Hh ?_⟩;refine⟨Vj hi,fun _=>c.one0,Hh ?_⟩;exact⟨rfl,rfl⟩
theorem Q91(e d lo hi row A c w)(u:Sl Qf7 1 w A row)(B:row.length<1000000)(o:At w e 3 [Vj lo])(n:At w d 3 [Vj hi]) :
 Cal Tryz.prog 411 [.slice A row.length c,.func (.func 391) #[] #[Pj e,Pj d]] w fun r w'=>(∃i:Int,r=Vj i /\ -1<=i/\(0<=i↔row.any (Qng lo hi)=true))/\w'=w:=by
 refine Fi Tryz.func411 rfl _ rfl rfl (Hh ?_)
 refine Qh Qb (fun(k:Nat) w'=>k<=row.length/\(row.take k).any (Qng lo hi)=false/\w'=w)
  (fun k=>[(0,.slice A row.length c),(1,.func (.func 391) #[] #[Pj e,Pj d]),(7,Vj row.length),(8,Vj (k:Nat))]) (fun k=>row.length-k) 0 ⟨Zt _,rfl,rfl⟩ Rr ?_
 rintro k x ⟨z,g,v⟩;subst v;refine Hh ?_;constructor
 .intro b;have b:k<row.length:=Su b;obtain⟨a2,m,j⟩:=u.get b;subst m;have h:(row.take (k+1)).any (Qng lo hi)=Qng lo hi row[k]:=by rw[Za b,List.any_append,g];simp
  have l:row[k]∈row:=Zu b;generalize row[k]=y at j h l;refine Hh ?_;refine⟨a2,Ix,Hh ?_⟩;refine⟨Vj y,Qp j,Hh ?_⟩;refine(Q5f e d lo hi y x o n).mono ?_;rintro _ _ ⟨rfl,rfl⟩;generalize s:Qng lo hi y=q at h⊢;refine Hh ?_;constructor
  .intro a;have a:q=true:=a;refine Hh ?_;refine⟨⟨k,rfl,Om,?_⟩,rfl⟩;simp only[Int.natCast_nonneg,true_iff,Zb7];exact⟨y,l,by rw[s,a]⟩
  .intro a;have a:q=false:=a;refine Hh ?_;refine⟨_,wrap_succ Om,Hh ?_⟩;exact⟨k+1,Om,⟨Om,by rw[h,a],rfl⟩,Rr⟩
 .intro f;have f:row.length<=k:=Su f;rw[Zd f]at g;refine Hh ?_;exact⟨⟨-1,rfl,Om,by rw[g];simp⟩,rfl⟩
theorem Q9t(b a lo hi row A c w)(k:Sl Qf7 1 w A row)(j:row.length<1000000)(g:At w b 3 [Vj lo])(f:At w a 3 [Vj hi]) :
 Cal Tryz.prog 390 [.slice A row.length c,.func (.func 391) #[] #[Pj b,Pj a]] w fun r w'=>r=.bool (row.any (Qng lo hi))/\w'=w:=by
 refine Fi Tryz.func390 rfl _ rfl rfl (Hh ?_);refine(Q91 b a lo hi row A c w k j g f).mono ?_;rintro _ _ ⟨⟨i,rfl,l,e⟩,rfl⟩;refine Hh ?_;refine⟨?_,rfl⟩
 cases d:row.any (Qng lo hi) with
 |true=>rw[decide_eq_true (e.2 d)]
 |false=>rw[decide_eq_false (fun h=>by rw[e.1 h]at d;cases d)]
end Go.Proofs.YtnpacgccajekgaaGreatDoor
namespace Go.Proofs.YtnpacgccajekgaaGreatDoor
open Go.Se Go.RowKit
open Go.Maps Go.Sort Go.Shelf
structure WC{α:Type}(c:α->α->Int):Prop where
 anti:∀a b,c a b<0↔0<c b a
 le:∀{a b d},c a b<=0->c b d<=0->c a d<=0
theorem WC.swo{α:Type}{c:α->α->Int}(h:WC c):Go.Sort.SWO (ltOf c) where
 irrefl a:=by
  have:=h.anti a a;simp only[ltOf,decide_eq_false_iff_not];omega
 trans a b d f j:=by
  simp only[ltOf,decide_eq_true_eq]at*;have g:=h.le (a:=a) (b:=b) (d:=d) Om Om;have i:=(h.anti a b).1 f;rcases Int.lt_or_le (c a d) 0 with e|e
  .exact e
  .exfalso;have k:c d a<=0:=(by have:=(h.anti a d);omega);have l:=h.le (a:=b) (b:=d) (d:=a) Om k;omega
 ntrans a b d f j:=by
  simp only[ltOf,decide_eq_false_iff_not]at*;have g:c b a<=0:=by have:=h.anti a b;omega
  have i:c d b<=0:=by have:=h.anti b d;omega
  have e:=h.le i g;have:=h.anti a d;omega
def Qva{α:Type}(c d:α->α->Int)(a b:α):Int:=if c a b≠0 then c a b else d a b
theorem WC.lex{α:Type}{c d:α->α->Int}(h:WC c)(k:WC d):WC (Qva c d) where
 anti a b:=by
  unfold Qva;have f:=h.anti a b;have g:=h.anti b a;have m:=k.anti a b
  by_cases i:c a b=0
  .rw[if_neg Om,if_neg Om];exact m
  .rw[if_pos i,if_pos Om];exact f
 le:=by
  intro a b e f g;unfold Qva at*;have a1:=h.anti a b;have a2:=h.anti b a;have o:=h.anti b e;have r:=h.anti e b;have s:=h.anti a e;have u:=h.anti e a;have j:c a b<=0:=by split at f<;>omega
  have l:c b e<=0:=by split at g<;>omega
  have n:=h.le j l;split
  .exact n
  .next i =>
   have i:c a e=0:=Om;have v:=h.le (a:=b) (b:=e) (d:=a) l Om;have w:=h.le (a:=e) (b:=a) (d:=b) Om j;rw[if_neg Om]at f g;exact k.le f g
theorem Q3x{α:Type}(f:α->Int):WC (fun a b=>Qc5 (f a) (f b)) where
 anti a b:=by unfold Qc5;split<;>split<;>(try split)<;>(try split)<;>omega
 le:=by intro a b d c e;unfold Qc5 at*;split at c<;>split at e<;>(try split at c)<;>(try split at e)<;>split<;>(try split)<;>omega
theorem WC.flip{α:Type}{c:α->α->Int}(h:WC c):WC (fun a b=>c b a):=⟨fun a b=>h.anti b a,fun d e=>h.le e d⟩
theorem Qjt{α:Type}(f:α->Bj):WC (fun a b=>Qcp (f a) (f b)) where
 anti a b:=by
  unfold Qcp;cases h:bLt (f a) (f b)<;>cases g:bLt (f b) (f a)<;>simp
  rw[Qdq h]at g;cases g
 le:=by
  intro a b d h g
  have i:bLt (f b) (f a)=false:=by
   unfold Qcp at h;cases e:bLt (f a) (f b)<;>cases c:bLt (f b) (f a)<;>simp[e,c]at h⊢
   rw[Qdq e]at c;cases c
  have j:bLt (f d) (f b)=false:=by
   unfold Qcp at g;cases e:bLt (f b) (f d)<;>cases c:bLt (f d) (f b)<;>simp[e,c]at g⊢
   rw[Qdq e]at c;cases c
  have k:bLt (f d) (f a)=false:=Qic j i;unfold Qcp;cases e:bLt (f a) (f d)<;>simp[k]
theorem Xep{a b}:Qqo a b<0↔a.1*b.2<b.1*a.2:=by
 unfold Qqo;split
 .omega
 split
 .omega
 .omega
theorem Qs1{a b}:0<Qqo a b↔b.1*a.2<a.1*b.2:=by
 unfold Qqo;split
 .omega
 split
 .omega
 .omega
theorem Xdz{α:Type}(f:α->Int×Int)(c:∀a,0<(f a).2):WC (fun a b=>Qqo (f a) (f b)) where
 anti a b:=by rw[Xep,Qs1]
 le:=by
  intro a b d k l;have m:¬(f b).1*(f a).2<(f a).1*(f b).2:=fun h=>by have:=Qs1.2 h;omega
  have n:¬(f d).1*(f b).2<(f b).1*(f d).2:=fun h=>by have:=Qs1.2 h;omega
  have e:¬(f d).1*(f a).2<(f a).1*(f d).2:=by
   intro h;have g:(f a).1*(f b).2*(f d).2<=(f b).1*(f a).2*(f d).2:=Zaw Om (Int.le_of_lt (c d));have i:(f b).1*(f d).2*(f a).2<=(f d).1*(f b).2*(f a).2:=Zaw Om (Int.le_of_lt (c a));have j:(f d).1*(f a).2*(f b).2<(f a).1*(f d).2*(f b).2:=Int.mul_lt_mul_of_pos_right h (c b);have o:(f a).1*(f b).2*(f d).2=(f a).1*(f d).2*(f b).2:=by rw[Int.mul_assoc,Int.mul_comm (f b).2,<- Int.mul_assoc]
   have r:(f b).1*(f a).2*(f d).2=(f b).1*(f d).2*(f a).2:=by rw[Int.mul_assoc,Int.mul_comm (f a).2,<- Int.mul_assoc]
   have s:(f d).1*(f b).2*(f a).2=(f d).1*(f a).2*(f b).2:=by rw[Int.mul_assoc,Int.mul_comm (f b).2,<- Int.mul_assoc]
   omega
  rcases Int.lt_or_le 0 (Qqo (f a) (f d)) with h|h
  .exact absurd (Qs1.1 h) e
  .exact h
def Qc3(s:Qar)(lo hi:Int):List Bj:=Qci ((s.filter fun x=>Qng lo hi x.1.2).map (·.1.1))
theorem Q13{s key lo hi}:(Qa9 s key).any (Qng lo hi)=true↔∃x∈s,x.1.1=key/\Qng lo hi x.1.2=true:=by
 unfold Qa9;rw[Zb7];constructor
 .rintro ⟨y,c,h⟩;obtain⟨x,hx,rfl⟩:=Zh.1 c;obtain⟨a,b⟩:=Ze.1 hx;exact⟨x,a,Su b,h⟩
 .rintro ⟨x,hx,a,b⟩;exact⟨x.1.2,Zh.2 ⟨x,Ze.2 ⟨hx,Su a⟩,rfl⟩,b⟩
theorem Qwx{s key lo hi}:key∈Qc3 s lo hi↔(Qa9 s key).any (Qng lo hi)=true:=by
 unfold Qc3;rw[Qaa,Q13,Zh];constructor
 .rintro ⟨x,hx,rfl⟩;obtain⟨a,b⟩:=Ze.1 hx;exact⟨x,a,rfl,b⟩
 .rintro ⟨x,hx,a,b⟩;exact⟨x,Ze.2 ⟨hx,b⟩,a⟩
theorem Xad{s N}(h:Qhh s N){key lo hi}:key∈Qc3 s lo hi↔0<paS s key lo hi:=by
 rw[Qwx,Q13]
 induction s with
 |nil=>simp[paS]
 |cons x s d =>
  have d:=d fun y a=>h y (by simp[a])
  have hx:=(h x (by simp)).1;have g:0<=paS s key lo hi:=(Qez (fun y:PK×Int=>y.2) N _ fun y a=>by have:=h y (by simp[(Ze.1 a).1]);exact⟨Om,this.2⟩).1;rw[Que];constructor
  .rintro ⟨y,a,b,c⟩;rcases Zr.1 a with rfl|a
   .have c:lo<=y.1.2/\y.1.2<hi:=by simpa [Qng] using c
    rw[if_pos ⟨b,c⟩];omega
   .have:=d.1 ⟨y,a,b,c⟩;split<;>omega
  .intro f
   by_cases e:x.1.1=key/\lo<=x.1.2/\x.1.2<hi
   .exact⟨x,by simp,e.1,by simp[Qng,e.2]⟩
   .rw[if_neg e,Int.zero_add]at f;obtain⟨y,a,b⟩:=d.2 f;exact⟨y,by simp[a],b⟩
theorem Qo9(s lo hi):(Qc3 s lo hi).length<=s.length:=by
 unfold Qc3;have a:=Qnt ((s.filter fun x=>Qng lo hi x.1.2).map (·.1.1));have b:=Zc (fun x:PK×Int=>Qng lo hi x.1.2) s;rw[Zg]at a;omega
theorem Q00(l){ss:List (List UInt8)}(f:ss.Perm (l.map fun x=>x.data.toList)):(ss.mergeSort fun x y=>decide (x<=y)).map (fun x=>(⟨x.toArray⟩:Bj))=Xh l:=by
 apply Qc1
 .have d:=(Zby ss fun x y=>decide (x<=y)).trans f;have e:=d.map (fun x=>(⟨x.toArray⟩:Bj));simpa [Zz,Function.comp_def] using e
 .unfold Srt;rw[Z5];have:=Zbf (le:=fun x y:List UInt8=>decide (x<=y)) (fun a b c d e=>by simp only[decide_eq_true_eq]at*;exact List.le_trans d e) (fun a b=>by simp only[Zbg,decide_eq_true_eq];exact List.le_total a b) ss;refine this.imp fun {a b} h=>?_
  simp only[decide_eq_true_eq]at h;unfold bLt;rw[ByteArray.toList_eq,ByteArray.toList_eq,bytesLess_eq];simpa using h
theorem Qmz(l A c base w)(J:Own Qac 1 9 base w A c l)(ak:l.length<1000000) :
 Cal Tryz.prog 182 [.slice A l.length c] w fun r w'=>r=.tuple #[]/\SlT w' A (Xh l)/\∀e,Ext e w->e.heap.size<=base->Ext e w':=by
 have I:Qql Tryz.prog 182:=⟨_,Tryz.func182,rfl,rfl⟩
 by_cases b:l=[]
 .subst b;refine Qae I (AnyM.slices_Sort_string_none Tryz.sort182 A c w) ?_;rintro w' rfl;exact⟨rfl,by rw[Qgf];exact Sl.nil,fun e h _=>h⟩
 .have W:=J.sl Qv;have al:0<l.length:=Zad.2 b;rcases J.2 with⟨_,ac⟩|⟨g,cap,ab,Y,ae,D,ag,ah,ai,aj⟩
  .omega
  injection Y with M _ S;subst M;subst S;obtain⟨ss,o⟩:∃ss,ss=l.map fun x=>x.data.toList:=⟨_,rfl⟩
  have K:ss.length=l.length:=by rw[o,Zg]
  have u:Holds encStr w g 0 ss.toArray:=by
   intro j m;have F:j<l.length:=by rw[<- K];simpa using m
   obtain⟨a,O,R⟩:=W.get F;have P:a=⟨g,0,none⟩:=Su O.symm;have C:=Qp R;rw[P,Qe7,Zbl]at C;refine⟨?_,by unfold World.frozen?;rw[D];simp⟩;rw[Za6,C];simp[o,encStr,F]
  have z:g<w.heap.size:=lt_of_block D;have B:=AnyM.slices_Sort_string Tryz.sort182 g 0 c ss w u z Om;rw[K]at B;refine Qae I B ?_;rintro w' ⟨k,os,rfl⟩;have L:=Q00 l (ss:=ss) (by rw[o]);have H:(ss.mergeSort fun x y=>decide (x<=y)).length=ss.length:=List.length_mergeSort _;generalize (ss.mergeSort fun x y=>decide (x<=y))=d at L H
  have N:Holds encStr (grow (putRow encStr (Go.Sort.ahead w k) g 0 d.toArray) os) g 0 d.toArray:=by
   refine holds_grow _ _ _ _ _ _ ?_ (holds_putRow _ _ _ _ ss.toArray _ (holds_ahead _ _ _ _ _ _ u) (Su H));show g<((Go.Sort.ahead w k).heap.modify g _).size
   rw[Zcp];exact z
  refine⟨rfl,?_,?_⟩
  .intro i x f;rw[<- L,Zaf]at f
   cases n:d[i]? with
   |none=>rw[n]at f;simp at f
   |some y =>
    rw[n]at f;simp at f;subst f;have E:i<d.length:=(Zi.1 n).1;have:=(N i (Su E)).1;refine⟨_,rfl,fun j v m=>?_⟩;have U:j=0:=(by have:=(Zi.1 m).1;simp[Qac]at this;exact this);subst U;have aa:d.toArray[i]! = y:=(by have:=(Zi.1 n).2;simp[E,this]);rw[aa]at this;rw[Q9,Qe7,Zbl];simp[Qac]at m;rw[<- m];rw[Za6]at this;exact this
  .intro e b af
   have Z:Ext e (putRow encStr (Go.Sort.ahead w k) g 0 d.toArray):=by
    refine⟨b.os,b.tape,b.output,?_,fun s V=>?_⟩
    .show e.heap.size<=((Go.Sort.ahead w k).heap.modify g _).size
     rw[Zcp];exact b.size
    .have:(putRow encStr (Go.Sort.ahead w k) g 0 d.toArray).heap[s]?=(Go.Sort.ahead w k).heap[s]? := Qfu _ _ _ _ Om;rw[this];exact b.block s V
   exact Z.trans (Qdm _ os)
set_option maxHeartbeats 1000000 in
theorem Qxb(w S p width n s)(h:Qn3 w S p width n s)(aa:1<=width/\width<=1099511627776)(N)(ok:Xhb s N)(a b)(J:-4398046511104<=a/\a<=4398046511104)(bu:-4398046511104<=b/\b<=4398046511104) :
 Cal Tryz.prog 353 [Pj p,Vj a,Vj b] w fun r w'=>∃A c,r=.slice A (Qc3 s (a/width) (b/width)).length c/\SlT w' A (Qc3 s (a/width) (b/width))/\(∀x,A=some x->w.heap.size<=x.block)/\Ext w w':=by
 obtain⟨bs,I,L,cf,h⟩:=h;have aj:=h.head;have a5:=h.rows.map;have cq:=ok.len
 have cm:L.length<=s.length:=by
  have bi:(L.map (·.1)).Nodup:=Qah h.rows.keys
  have bl:∀x∈L.map (·.1),x∈s.map (fun y=>y.1.1):=fun x hx=>by
   obtain⟨y,ar,rfl⟩:=Zh.1 hx;have b1:=h.rows.ne y ar
   cases D:Qa9 s y.1 with
   |nil=>exact absurd D b1
   |cons n cx =>
    have a7:n∈Qa9 s y.1:=by rw[D];simp
    unfold Qa9 at a7;obtain⟨z,ca,_⟩:=Zh.1 a7;obtain⟨bm,bo⟩:=Ze.1 ca;exact Zh.2 ⟨z,bm,Su bo⟩
  have:=Qeg bi bl;simpa using this
 have br:∀out:List Bj,out.Perm ((L.map (·.1)).filter fun k=>(Qa9 s k).any (Qng (a/width) (b/width)))->Xh out=Qc3 s (a/width) (b/width):=fun out Z=>by
  refine Qh4 ?_ fun x=>?_
  .exact Z.nodup_iff.2 ((Qah h.rows.keys).sublist Zax)
  .rw[Z.mem_iff,Ze];have b0:x∈((s.filter fun x=>Qng (a/width) (b/width) x.1.2).map (·.1.1))↔(Qa9 s x).any (Qng (a/width) (b/width))=true:=(by rw[<- Qwx];unfold Qc3;rw[Qaa]);rw[b0];constructor
   .exact fun hx=>hx.2
   .intro hx;refine⟨?_,hx⟩;rw[Qnp]
    cases D:Qe L x with
    |some v=>rfl
    |none =>
     have:=h.rows.all x D;rw[this]at hx;simp at hx
 have cr:=Qj8 aa.1 J;have cp:=Qj8 aa.1 bu;refine Fi Tryz.func353 rfl _ rfl rfl (Hh ?_);refine(Qim w p width n bs I aj aa a ⟨Om,Om⟩).mono ?_;rintro _ _ ⟨rfl,rfl⟩;refine Hh ?_;refine(Qim _ p width n bs I aj aa b ⟨Om,Om⟩).mono ?_;rintro _ au ⟨rfl,b6⟩;subst b6;generalize a/width=j at*;generalize b/width=g at*;refine Hh ?_;intro B c6 M;refine Hh ?_;intro m c7 O;refine Hh ?_;have ch:=M.block;have cj:=O.block;have c2:=M.size;refine Qc Qb (e:=ty3) rfl (M.At.ext O.ext) rfl rfl rfl Oj fun w5 aw an=>(Hh ?_)
 have av:At w5 m 3 [Vj 0]:=(an.block m Om).trans O.At;refine Qc Qb (e:=ty3) rfl av rfl rfl rfl Oj fun ae ax ao=>?_
 have ab:Ext au ae:=ao.ext (an.ext (M.ext.trans O.ext) Om) Om;have ay:At ae B 3 [Vj j]:=(ao.block B Om).trans aw;have az:At ae m 3 [Vj g]:=ax;clear aw av ax an ao M O;refine Hh ?_;refine⟨.map (some I),(aj.ext ab).one rfl,Hh ?_⟩;refine map_range Xgy (a5.ext ab) fun R W u=>?_
 generalize cv:ae.heap.size=r at W⊢;have hx:=ab.trans u;have a0:=ay.ext u;have a3:=az.ext u;have cy:=ay.lt;have cz:=az.lt;have c3:=ab.size;have cn:=a5.lt;have b2:r<R.heap.size:=W.lt;refine Hh ?_
 refine Qh Qb (fun(i:List (Bj×(Option Addr×Nat))×Option Addr×Nat×List Bj) w'=>Ext au w'/\R.heap.size<=w'.heap.size/\At w' B 3 [Vj j]/\At w' m 3 [Vj g]/\Iter w' r I Value.string (toV (Qa9 s) L) (toV (Qa9 s) i.1)/\i.2.2.2=(i.1.map (·.1)).filter (fun k=>(Qa9 s k).any (Qng j g))/\Own Qac 1 9 R.heap.size w' i.2.1 i.2.2.1 i.2.2.2)
  (fun|(f,A,d,F)=>[(7,Pj B),(8,Pj m),(9,.slice A F.length d),(22,Pj r)]) (fun i=>L.length-i.1.length) ([],none,0,[]) ⟨hx,Zf _,a0,a3,W,rfl,Own.nil⟩ Rr ?_
 clear W a0 a3;rintro ⟨f,A,d,F⟩ cd ⟨aq,c8,bp,bq,ak,U,P⟩;simp only at ak U P;have cl:F.length<=f.length:=(by rw[U];have:=Zc (fun k=>(Qa9 s k).any (Qng j g)) (f.map (·.1));rw[Zg]at this;exact this);refine Hh ?_;refine Qff ak (fun Z=>?_) (fun x af bx cu a4 al H bv=>?_)
 .have a9:(f.map (·.1)).Perm (L.map (·.1)):=(by have:=Z.map (·.1);simpa [toV,Zz,Function.comp_def] using this);have cw:f.length=L.length:=Su a9.length_eq;have K:=br F (by rw[U];exact a9.filter _);refine Hh ?_;constructor
  .intro hx;cases hx
  intro _;refine Hh ?_;refine(Qmz F A d R.heap.size cd P Om).mono ?_;rintro _ af ⟨rfl,b4,ac⟩;refine Hh ?_;have bz:F.length=(Qc3 s j g).length:=by rw[<- K,Qcn]
  refine⟨A,d,by rw[bz],?_,fun x b8=>by have:=(P.block b8).1;have:=hx.size;omega,ac au aq (by have:=hx.size;omega)⟩;rw[<- K];exact b4
 .obtain⟨y,ar,rfl⟩:=Zh.1 bx;have a4:f.length<L.length:=by simpa [toV] using a4
  have b5:toV (Qa9 s) f++[(y.1,Value.slice y.2.1 (Qa9 s y.1).length y.2.2)]=toV (Qa9 s) (f++[y]):=by simp[toV]
  rw[b5]at al;have c4:=H.size;have ac:=H.ext aq Om;have Y:=P.keep fun a J=>H.block _ (fun e=>by have:=(P.block J).1;have:=u.size;have:=ak.lt;omega)
  have ag:=(H.block B Om).trans bp;have ah:=(H.block m Om).trans bq;have o:((f++[y]).map (·.1)).filter (fun k=>(Qa9 s k).any (Qng j g))=F++if(Qa9 s y.1).any (Qng j g)=true then [y.1] else []:=(by rw[Zp,Zq,U];cases D:(Qa9 s y.1).any (Qng j g)<;>simp[D])
  have bd:Sl Qf7 1 af y.2.1 (Qa9 s y.1):=by
   have bb:=h.rows.row y ar;refine Qa7 (bb.1.sl X8) fun a J=>?_
   have bt:=(bb.1.block J).2;exact(H.block a.block Om).trans (aq.block a.block bt)
  have b3:=Qxk s y.1;refine Gg ?_;constructor
  .intro _;refine Gg ?_;refine Qa1 (bv af rfl rfl) ?_;generalize Qa9 s y.1=row at bd b3 o⊢;refine Gg ?_;refine(Q9t B m j g row y.2.1 y.2.2 af bd Om ag ah).mono ?_;rintro _ cb ⟨rfl,b7⟩;subst b7;generalize D:row.any (Qng j g)=q at o;refine Gg ?_;constructor
   .intro C;have C:q=true:=C;rw[if_pos C]at o;refine Gg ?_;intro cg c5 E;refine Gg ?_;refine Qob (l:=F) (news:= [y.1]) (Y.ext E.ext) (Qai Qv (l:= [y.1]) E) (by simp;omega) (by have:=E.size;omega) fun be bh cc a8 ai ck=>?_
    have c0:=E.size;have c1:=ai.size;have b9:=Qu (ac.trans E.ext) ai (fun k K=>by have:=Xm Y k K;have:=u.size;omega);have V:∀k,k<R.heap.size->cc.heap[k]?=cb.heap[k]? := fun k K=>(ai.block k Om (fun e=>by have:=Xm Y k e.symm;omega)).trans (E.ext.block k Om)
    have bw:=al.keep (V I (by have:=u.size;omega)) (V r b2);have bj:=(V B (by have:=u.size;omega)).trans ag;have bk:=(V m (by have:=u.size;omega)).trans ah;generalize F++[y.1]=bg at a8 o⊢;refine Gg ?_;exact⟨(f++[y],be,bh,bg),by simp;omega,⟨b9,Om,bj,bk,bw,o.symm,a8⟩,Rr⟩
   .intro C;have C:q=false:=C;rw[C]at o;simp only[Zal,if_false,Z4]at o;refine Gg ?_;exact⟨(f++[y],A,d,F),by simp;omega,⟨ac,Om,ag,ah,al,o.symm,Y⟩,Rr⟩
  .intro h;cases h
theorem Q0e(w S p width n s)(h:Qn3 w S p width n s)(j:1<=width/\width<=1099511627776)(N)(ok:Xhb s N)(a b)(g:-4398046511104<=a/\a<=4398046511104)(i:-4398046511104<=b/\b<=4398046511104) :
 Cal Tryz.prog 353 [Pj p,Vj a,Vj b] w fun r w'=>∃A c,r=.slice A (Qc3 s (a/width) (b/width)).length c/\SlT w' A (Qc3 s (a/width) (b/width))/\Ext w w':=
 (Qxb w S p width n s h j N ok a b g i).mono fun r w' ⟨A,c,d,e,_,f⟩=>⟨A,c,d,e,f⟩
end Go.Proofs.YtnpacgccajekgaaGreatDoor
namespace Go.Proofs.YtnpacgccajekgaaGreatDoor
open Go.Se Go.RowKit Go.Sort
abbrev Ri:=Bj×Int×Int
def riC(x:Ri):List Value:= [.string x.1,Vj x.2.1,Vj x.2.2]
theorem Q0j(x):(riC x).length=3:=rfl
theorem Quk(x):∀u∈riC x,u.oneCell'=true:=by simp[riC,Value.oneCell']
theorem Xgc:Qle Tryz.prog 346 350 riC 3 32:=⟨by kernel_rfl,⟨_,ty350_ok,rfl,rfl⟩,by350,by decide,by decide,Q0j,Quk⟩
def riR(x:Ri):Int×Int:=(x.2.1,x.2.2+1)
def Qsq(x:Ri):Prop:=(0<=x.2.1/\x.2.1<=10000000)/\(0<=x.2.2/\x.2.2<=10000000)
theorem Xbz{x}(h:Qsq x):Qld 100000000 (riR x):=by
 unfold Qsq at h;unfold Qld riR;simp only;omega
theorem Qtv{A B:Array Obj}{b}(e:A.size<=b)(f):(A++B).modify b f=A++B.modify (b-A.size) f:=by
 apply Array.ext_getElem?;intro d;rw[Zce,Array.getElem?_append,Array.getElem?_append,Zce]
 by_cases c:b=d
 .subst c;rw[if_pos rfl,if_neg Om,if_neg Om,if_pos rfl]
 .rw[if_neg c]
  by_cases a:d<A.size
  .rw[if_pos a,if_pos a]
  .rw[if_neg a,if_neg a,if_neg Om]
theorem Xk9{a w b cs}(h:Gr a w)(c:a.heap.size<=b):Gr a (w.setRow b cs):=by
 obtain⟨q,os,rfl⟩:=h;have key:=Qtv (A:=a.heap) (B:=os) c (fun|.cells _ elem frozen=>Obj.cells cs elem frozen|d=>d);exact⟨q,_,congrArg (fun h=>({ heap:=h,tape:=a.tape,drawn:=a.drawn+q,os:=a.os,output:=a.output }:World)) key⟩
theorem Xgj{P T}(d:Qbl P T){t:TypeId}{e}(r:Qi6 T t=some e){c w}(g:Gr c w){R}{b a off:Nat}{l v p}(h:At w b a l)(f:c.heap.size<=b)(n:p=⟨b,off,none⟩)(k:(Qg v).length=e.size)(j:Nat.ble (off+e.size) l.length=true)(m:∀u∈Qg v,u.oneCell'=true)
 (i:∀w',At w' b a (spl l off (Qg v))->Gr c w'->R undef w'):Qys P (Instr.storeAt t (.pointer (some p)) v) w R:=by
 subst n;have o:=run_storeCells_at P b off a (Qg v) 0 l.toArray w h (by have:=Zbz j;simp;omega) m;have s:v.cells.size=e.size:=by rw[<- k,<- Qat];simp
 refine⟨w.setRow b (spl l off (Qg v)).toArray,?_,i _ ?_ (Xk9 g f)⟩
 .simp[Instr.storeAt,Instr.sureAddr,storeVar,Qk7 (d.get r),s,Qat];simpa [spl] using o
 .have:=setRow_heap w b l.toArray (spl l off (Qg v)).toArray a (0,0) h;simpa [Se.At,spl] using this
theorem Qjp(x)(h:Qsq x)(w):Cal Tryz.prog 330 [.agg (riC x).toArray] w fun r w'=>r=Qns (riR x)/\Gr w w':=by
 obtain⟨m,n⟩:=h;refine Fi Tryz.func330 rfl _ rfl rfl (Hh ?_);intro c s b;refine Hh ?_;intro k j a;refine Hh ?_;have a1:At j c _ (riC x):=b.At.ext a.ext;have g:=(Qam b).trans (Qam a);have l:=a.block;have o:=b.ext.size;refine⟨Vj x.2.1,a1.one rfl,Hh ?_⟩;refine⟨Vj x.2.2,fun _=>a1.one rfl,Hh ?_⟩;refine⟨Vj x.2.2,fun _=>a1.one rfl,Hh ?_⟩;constructor
 .intro f;exfalso;simp at f;omega
 intro _;refine Hh ?_;refine⟨Vj x.2.1,a1.one rfl,Hh ?_⟩;refine⟨Vj x.2.2,a1.one rfl,Hh ?_⟩;refine⟨x.2.2+1,wrap_eq rfl ⟨Om,Om⟩,Hh ?_⟩;refine Xgj Qb (e:=ty247) rfl g a.At Om rfl rfl rfl Oj fun u d i=>?_
 refine Hh ?_;refine⟨Qmv (riR x),⟨rfl,d.all⟩,Hh ?_⟩;exact⟨rfl,i⟩
def Xiv(a b:Ri):Int:=orL [Qqo (riR b) (riR a),Qc5 b.2.1 a.2.1,Qcp a.1 b.1]
theorem Q4r(a b)(i:Qsq a)(j:Qsq b)(w):Cal Tryz.prog 356 [.agg (riC a).toArray,.agg (riC b).toArray] w fun r w'=>r=Vj (Xiv a b)/\Gr w w':=by
 refine Fi Tryz.func356 rfl _ rfl rfl (Hh ?_);intro g A n;refine Hh ?_;intro h e f;have c:At e g _ (riC a):=n.At.ext f.ext;have d:At e h _ (riC b):=f.At;have hx:=(Qam n).trans ((Qam f).trans (Gr.drew e));refine Hh ?_;refine Dr .ext [0,2,5,6,7,8,10,11,12,13,1,3,4,9] [14,15,16,17] (Hh ?_);replace c:At e.drew g _ _:=c;replace d:At e.drew h _ _:=d;generalize e.drew=x at c d hx⊢;refine⟨riC b,⟨rfl,d.all⟩,Hh ?_⟩;refine⟨riC a,⟨rfl,c.all⟩,Hh ?_⟩;refine⟨_,d.one rfl,Hh ?_⟩;refine⟨_,c.one rfl,Hh ?_⟩;refine⟨_,c.one rfl,Hh ?_⟩;refine⟨_,d.one rfl,Hh ?_⟩;refine(Qjp b j x).mono ?_;rintro _ y ⟨rfl,k⟩;refine⟨k.ext,Hh ?_⟩;refine(Qjp a i y).mono ?_;rintro _ w5 ⟨rfl,l⟩;refine⟨l.ext,Hh ?_⟩;refine(Qef Om (riR b) (riR a) (Xbz j) (Xbz i) w5).mono ?_;rintro _ C ⟨rfl,m⟩;refine⟨m.ext,Hh ?_⟩;refine(Qfy _ _ _).mono ?_;rintro _ D ⟨rfl,u⟩;subst u;refine⟨Ext.refl _,Hh ?_⟩;refine(Qaj _ _ _).mono ?_;rintro _ E ⟨rfl,v⟩;subst v;refine Hh ?_;intro z F o;refine Hh ?_;refine(Qex [Qqo (riR b) (riR a),Qc5 b.2.1 a.2.1,Qcp a.1 b.1] _ _ _ (Qai (enc:=Qf7) X8 o) (by simp)).mono ?_;rintro _ B ⟨rfl,s⟩;subst s;refine Hh ?_;exact⟨rfl,(hx.trans (k.trans (l.trans m))).trans (Qam o)⟩
abbrev RiS:={ x:Ri // Qsq x }
instance:Inhabited RiS:=⟨⟨(⟨#[]⟩,0,0),by unfold Qsq;simp⟩⟩
def Qjc(a b:RiS):Int:=Xiv a.1 b.1
theorem Qol:Qjc=Qva (fun a b:RiS=>Qqo (riR b.1) (riR a.1)) (Qva (fun a b:RiS=>Qc5 b.1.2.1 a.1.2.1) (fun a b:RiS=>Qcp a.1.1 b.1.1)):=by
 funext a b;unfold Qjc Xiv Qva orL
 by_cases c:Qqo (riR b.1) (riR a.1)=0
 .by_cases d:Qc5 b.1.2.1 a.1.2.1=0
  .by_cases e:Qcp a.1.1 b.1.1=0<;>simp[c,d,e]
  .simp[c,d]
 .simp[c]
theorem Qv6:SWO (ltOf Qjc):=by
 rw[Qol];refine(WC.lex (WC.flip (Xdz (fun x:RiS=>riR x.1) fun x=>?_)) (WC.lex (WC.flip (Q3x fun x:RiS=>x.1.2.1)) (Qjt fun x:RiS=>x.1.1))).swo;have:=x.2.2.1;unfold riR;simp only;omega
theorem Q0z(l A c base w)(d:Own (fun x:RiS=>riC x.1) 3 350 base w A c l)(b:l.length<1000000) :
 Cal Tryz.prog 355 [.slice A l.length c,.func (.func 356) #[] #[]] w fun r w'=>r=.tuple #[]/\∃F:List RiS,F.Perm l/\Srt (ltOf Qjc) F/\Sl (fun x:RiS=>riC x.1) 3 w' A F/\∀a,Ext a w->a.heap.size<=base->Ext a w':=
 Qgh Tryz.sortRise (enc:=fun x:RiS=>riC x.1) (by decide) Tryz.isAgg350 Tryz.sizeOf350 (fun x=>Q0j x.1) (fun x=>Quk x.1) Qjc Qv6 ⟨_,Tryz.func355,rfl,rfl⟩ (enters_of Tryz.func356 Kr rfl) l A c base w d b (fun x y w' _=>Q4r x.1 y.1 x.2 y.2 w') (cb:= #[])
def Xf6(s:Qar)(a l2 b:Int)(key:Bj):Ri:=(key,paS s key l2 b,paS s key a l2)
def Qcm(s:Qar)(a l2 b floor:Int)(K:List Bj):List Ri:=(K.map (Xf6 s a l2 b)).filter fun c=>decide (floor<=c.2.1)
theorem Qvp{l}(h:∀x∈l,Qsq x):∃L:List RiS,L.map (·.1)=l:=by
 induction l with
 |nil=>exact⟨[],rfl⟩
 |cons x l c =>
  obtain⟨L,a⟩:=c fun y b=>h y (by simp[b])
  exact⟨⟨x,h x (by simp)⟩::L,by rw[Zm,a]⟩
theorem Q0d{α β:Type}{enc sz a base w A c}{f:β->α}{l}(h:Own enc sz a base w A c (l.map f)):Own (fun x=>enc (f x)) sz a base w A c l:=by
 unfold Own at*;rw[Zg,List.flatMap_map]at h;exact h
theorem Xcp{α β:Type}{enc sz w A}{f:β->α}{l}(h:Sl (fun x=>enc (f x)) sz w A l):Sl enc sz w A (l.map f):=by
 intro c x a;rw[Zaf]at a
 cases b:l[c]? with
 |none=>rw[b]at a;simp at a
 |some y =>
  rw[b]at a;simp at a;subst a;exact h c y b
set_option maxHeartbeats 1000000 in
theorem Qmy(w S p width n s)(h:Qn3 w S p width n s)(P:1<=width/\width<=1099511627776)(ok:Xhb s 10000000)(ag:∀key lo hi,paS s key lo hi<=10000000)(span now floor)(bw:1<=span/\span<=1099511627776)(a4:span.tmod width=0)(aa:0<=now/\now<=1099511627776) :
 Cal Tryz.prog 302 [Pj p,Vj span,Vj now,Vj floor] w fun r w'=>∃A c,∃F:List RiS,r=.slice A F.length c/\(F.map (·.1)).Perm (Qcm s ((now-now.tmod width-2*span)/width) ((now-now.tmod width-span)/width) ((now-now.tmod width)/width) floor (Qc3 s ((now-now.tmod width-span)/width) ((now-now.tmod width)/width)))/\Srt (ltOf Qjc) F/\Sl riC 3 w' A (F.map (·.1))/\F.length<=c/\Ext w w':=by
 have bt:0<=now.tmod width:=Int.tmod_nonneg _ aa.1;have bu:now.tmod width<width:=Int.tmod_lt_of_pos _ Om;have bs:=ok.len;have ae:=fun key lo hi=>(Qpq ok.small ok.N0 key lo hi).1
 refine Fi Tryz.func302 rfl _ rfl rfl (Hh ?_);refine⟨_,Qa4 Xm7 _ _ _,Hh ?_⟩;refine⟨Unit,fun _=>(Vj width),fun _ w'=>Ext w w',(),fun br=>((Qmr w S p width n s h)).mono fun r w' h=>⟨(),h.1,h.2⟩,?_⟩;intro _ al v
 have m:Ext w al:=by
  rcases v with⟨_,h⟩|⟨_,h⟩
  .exact h
  .rw[h];exact Ext.refl _
 clear v;refine Hh ?_;refine⟨span.tmod width,fun _=>⟨Om,rfl⟩,Hh ?_⟩;constructor
 .intro a;exfalso;simp[a4]at a;omega
 intro _;refine Hh ?_;refine(Qmr al S p width n s (h.ext m)).mono ?_;rintro _ bz ⟨rfl,bg⟩;replace m:=m.trans bg;refine Hh ?_;refine⟨now.tmod width,⟨Om,rfl⟩,Hh ?_⟩;refine⟨now-now.tmod width,wrap_eq rfl ⟨Om,Om⟩,Hh ?_⟩;have a0:0<=now-now.tmod width:=(by have:=Int.tmod_add_mul_tdiv now width;have v:0<=now.tdiv width:=Int.tdiv_nonneg aa.1 Om;have bo:0<=width*now.tdiv width:=Zc1 Om v;omega);have a3:now-now.tmod width<=1099511627776:=Om;generalize now-now.tmod width=b at a0 a3⊢;refine⟨b-span,wrap_eq rfl ⟨Om,Om⟩,Hh ?_⟩;refine(Q0e _ S p width n s (h.ext m) P _ ok (b-span) b ⟨Om,Om⟩ ⟨Om,Om⟩).mono ?_;rintro _ I ⟨ar,au,rfl,W,o⟩;have ay:=Qo9 s ((b-span)/width) (b/width);generalize Qc3 s ((b-span)/width) (b/width)=K at W ay⊢;replace o:=m.trans o;have bv:=fun k (N:k<K.length)=>(Za N)
 refine Hh ?_
 refine Qh Qb (fun(i:Nat×Option Addr×Nat×List Ri) w'=>i.1<=K.length/\Ext I w'/\i.2.2.2=Qcm s ((b-2*span)/width) ((b-span)/width) (b/width) floor (K.take i.1)/\Own riC 3 350 I.heap.size w' i.2.1 i.2.2.1 i.2.2.2)
  (fun|(k,A,d,F)=>[(0,Pj p),(1,Vj span),(3,Vj floor),(9,Vj b),(10,.slice A F.length d),(50,.slice ar K.length au),(51,Vj K.length),(52,Vj (k:Nat))]) (fun i=>K.length-i.1) (0,none,0,[]) ⟨Zt _,Ext.refl _,rfl,Own.nil⟩ Rr ?_
 rintro ⟨k,A,d,F⟩ V ⟨N,u,j,E⟩;simp only at N j E;have bq:F.length<=k:=(by rw[j];unfold Qcm;refine Zw (Zc _ _) ?_;rw[Zg,Zn];omega);refine Hh ?_;constructor
 .intro B;have B:k<K.length:=Su B;obtain⟨a2,ax,Z⟩:=(W.ext u).get B;subst ax
  have g:Qcm s ((b-2*span)/width) ((b-span)/width) (b/width) floor (K.take (k+1))=F++if floor<=(Xf6 s ((b-2*span)/width) ((b-span)/width) (b/width) K[k]).2.1 then [Xf6 s ((b-2*span)/width) ((b-span)/width) (b/width) K[k]] else []:=by
   rw[j,Za B];unfold Qcm;rw[Zp,Zq];congr 1
   by_cases bb:floor<=(Xf6 s ((b-2*span)/width) ((b-span)/width) (b/width) K[k]).2.1<;>simp[bb]
  generalize K[k]=key at Z g;refine Gg ?_;refine⟨a2,Ix,Gg ?_⟩;refine⟨.string key,Qp Z,Gg ?_⟩;refine⟨b-span,wrap_eq rfl ⟨Om,Om⟩,Gg ?_⟩;have Y:=h.ext (o.trans u);refine(Qr3 V S p width n s Y P _ ok key (b-span) b ⟨Om,Om⟩ ⟨Om,Om⟩).mono ?_;rintro _ b0 ⟨rfl,R⟩;subst R;refine Gg ?_;refine⟨2*span,wrap_eq rfl ⟨Om,Om⟩,Gg ?_⟩;refine⟨b-2*span,wrap_eq rfl ⟨Om,Om⟩,Gg ?_⟩;refine⟨b-span,wrap_eq rfl ⟨Om,Om⟩,Gg ?_⟩;refine(Qr3 _ S p width n s Y P _ ok key (b-2*span) (b-span) ⟨Om,Om⟩ ⟨Om,Om⟩).mono ?_;rintro _ bj ⟨rfl,R⟩;subst R;obtain⟨x,hx⟩:∃x,x=Xf6 s ((b-2*span)/width) ((b-span)/width) (b/width) key:=⟨_,rfl⟩;rw[<- hx]at g;have ai:paS s key ((b-span)/width) (b/width)=x.2.1:=by rw[hx];rfl
  have aj:paS s key ((b-2*span)/width) ((b-span)/width)=x.2.2:=by rw[hx];rfl
  have ah:key=x.1:=by rw[hx];rfl
  rw[ai,aj,ah];clear hx ai aj ah;refine Gg ?_;intro av bk C;refine Gg ?_;refine Qc Qb (e:=ty350) rfl C.At rfl rfl rfl Oj fun w5 z ab=>?_
  have z:At w5 av 350 (riC x):=z;have bm:=C.block;have bx:=u.size;have ak:Ext bj w5:=ab.ext C.ext Om;have U:=u.trans ak;have O:=E.ext ak;clear ab C;refine Gg ?_;refine⟨Vj x.2.1,z.one rfl,Gg ?_⟩;constructor
  .intro a;have a:floor<=x.2.1:=Su a;rw[if_pos a]at g;refine Gg ?_;refine⟨riC x,⟨rfl,z.all⟩,Gg ?_⟩;intro bl b1 D;refine Gg ?_;refine Qq Xgc (l:=F) (news:= [x]) rfl (O.ext D.ext) rfl (Xgc.new1 (x:=x) D) (by simp;omega) ((U.trans D.ext).size) fun an aw b2 ac a5 bp=>?_
   have bi:=Qu (U.trans D.ext) a5 (Xm O);generalize F++[x]=ao at ac g⊢;refine Gg ?_;refine⟨_,wrap_succ Om,Gg ?_⟩;exact⟨(k+1,an,aw,ao),Sj,⟨Sj,bi,g.symm,ac⟩,Rr⟩
  .intro a;have a:¬floor<=x.2.1:=Su a;rw[if_neg a,Z4]at g;refine Gg ?_;refine⟨_,wrap_succ Om,Gg ?_⟩;exact⟨(k+1,A,d,F),Sj,⟨Sj,U,g.symm,O⟩,Rr⟩
 .intro M;have M:K.length<=k:=Su M;rw[Zd M]at j;rw[<- j];have a7:∀x∈F,Qsq x:=fun x hx=>(by rw[j]at hx;unfold Qcm at hx;obtain⟨y,_,rfl⟩:=Zh.1 (Ze.1 hx).1;exact⟨⟨ae _ _ _,ag _ _ _⟩,⟨ae _ _ _,ag _ _ _⟩⟩)
  obtain⟨L,J⟩:=Qvp a7;have az:L.length=F.length:=by rw[<- J,Zg]
  have a8:Own (fun x:RiS=>riC x.1) 3 350 I.heap.size V A d L:=Q0d (f:=fun x:RiS=>x.1) (by rw[J];exact E);have af:=Q0z L A d I.heap.size V a8 Om;rw[az]at af;refine Hh ?_;refine af.mono ?_;rintro _ bk ⟨rfl,aq,a9,bd,be,bh⟩;refine Hh ?_;have H:=a9.map (fun x:RiS=>x.1);rw[J]at H;exact⟨A,d,aq,by rw[<- H.length_eq,Zg],H,bd,Xcp be,by rw[<- Zg (f:=fun x:RiS=>x.1),H.length_eq];exact E.le,bh w (o.trans u) o.size⟩
theorem Q0k(w S p width n s)(h:Qn3 w S p width n s)(k:1<=width/\width<=1099511627776)(ok:Xhb s 10000000)(j:∀key lo hi,paS s key lo hi<=10000000)(span now floor)(i:1<=span/\span<=1099511627776)(f:span.tmod width=0)(g:0<=now/\now<=1099511627776) :
 Cal Tryz.prog 302 [Pj p,Vj span,Vj now,Vj floor] w fun r w'=>∃A c F,r=.slice A F.length c/\F.Perm (Qcm s ((now-now.tmod width-2*span)/width) ((now-now.tmod width-span)/width) ((now-now.tmod width)/width) floor (Qc3 s ((now-now.tmod width-span)/width) ((now-now.tmod width)/width)))/\Sl riC 3 w' A F/\Ext w w':=
 (Qmy w S p width n s h k ok j span now floor i f g).mono fun r w' ⟨A,c,F,a,b,_,d,_,e⟩=>⟨A,c,F.map (·.1),by rw[Zg];exact a,b,d,e⟩
end Go.Proofs.YtnpacgccajekgaaGreatDoor
namespace Go.Proofs.YtnpacgccajekgaaGreatDoor
open Go.Se Go.RowKit
theorem Qjx(gap L a):allL gap (L++[a])=Qbv gap (allL gap L) a:=by unfold allL;rw[Zv];rfl
theorem Qyu(gap b a):(Qbv gap b a).length<=b.length+1:=by
 unfold Qbv;split
 .split
  .simp
  .simp
 .simp
theorem Xd9(gap):∀L:List Ad3,(allL gap L).length<=L.length:=by
 refine Qw (by simp[allL]) fun L a b=>?_
 rw[Qjx];have:=Qyu gap (allL gap L) a;simp;omega
theorem Q36(gap):∀L:List Ad3,∀q∈allL gap L,q.items.length<=L.length:=by
 refine Qw (fun q b=>by simp[allL]at b) fun L a c q b=>?_
 rw[Qjx]at b;rw[Zo,Zar];unfold Qbv at b;split at b
 .next g d =>
  have e:g∈allL gap L:=Zbu d;have f:=c g e;split at b
  .rcases Zj.1 b with b|b
   .have:=c q (List.dropLast_subset _ b);omega
   .rw[Zl]at b;subst b;have:=Qth (lt:=bLt) a.2.2 g.items;simp only;omega
  .rcases Zj.1 b with b|b
   .have:=c q b;omega
   .rw[Zl]at b;subst b;simp
 .rcases Zj.1 b with b|b
  .have:=c q b;omega
  .rw[Zl]at b;subst b;simp
theorem Xh2(T a):∀m:Qe1,((Xe m T (Xe ((Qe m T).getD []) a true)).map fun x=>x.2.length).sum<=(m.map fun x=>x.2.length).sum+1
 |[]=>by simp[Xe,Qe]
 |y::m=>by
  have b:=Xh2 T a m;rw[Qcx];unfold Xe
  by_cases h:T=y.1
  .rw[if_pos h,if_pos h];have:=Qcb a true y.2;simp only[Zas,Zm,Za8];omega
  .rw[if_neg h,if_neg h];simp only[Zm,Za8];omega
theorem Xl7:∀l:List Ev,∀p,((tks (Qi3 l) p).map fun x=>x.2.length).sum<=l.length:=by
 refine Qw (fun p=>by simp[Qi3,tks,Qe]) fun l e a p=>?_
 rw[Q06,Qn0,Zo,Zar];split
 .next h =>
  have b:=Xh2 e.at_ e.item (tks (Qi3 l) e.person);have c:=a e.person;omega
 .have:=a p;omega
theorem Xc5{α:Type}[DecidableEq α]{V E:List α}(a:V.Nodup)(b:∀x∈V,x∈E):V.length<=E.length:=Qeg a b
theorem Xnq(gap)(r:0<=gap)(l)(i:∀e∈l,Xy e=true/\wpB e=true)(F:l.length<1000):Xmp gap (Qi3 l)/\Q75 (Qky gap (Qi3 l))/\(Qky gap (Qi3 l)).length<1000:=by
 have z:=Xcu gap r l;have f:Qky gap (Qi3 l)=allL gap (Qf6 ahB (l.map adE)):=z.symm;have is:=Xj3 l;have u:=Q5c (lt:=ahB) (l.map adE);rw[Zg]at u
 have k:∀e∈l,e.person.size<=1000/\e.item.size<=1000:=fun e a=>by
  have h:=i e a;have A:0<Qz e:=by simpa [wpB] using h.2
  have j:=Qe0 h.1 A;have b:=Qcg j.1;have c:=Qcg j.2;omega
 have H:(Qi3 l).length<=l.length:=by
  have:=Xc5 (V:=(Qi3 l).map (·.1)) (E:=l.map (·.person)) (Qah is.keys) fun x hx=>(by obtain⟨e,a,h⟩:=(is.person x).1 hx;exact Zh.2 ⟨e,a,h⟩)
  simpa using this
 have n:∀p,(tks (Qi3 l) p).length<=l.length:=fun p=>by
  have:=Xc5 (V:=(tks (Qi3 l) p).map (·.1)) (E:=l.map (·.at_)) (Qo8 (is.ticks p)) fun x hx=>(by obtain⟨e,a,_,h⟩:=(is.tick p x).1 hx;exact Zh.2 ⟨e,a,h⟩)
  simpa using this
 refine⟨⟨fun x hx=>?_,fun p=>⟨fun x hx=>?_,fun x hx y B=>?_,?_,?_⟩,Om,fun ps w=>?_⟩,fun q d=>?_,?_⟩
 .obtain⟨e,a,h⟩:=(is.person x.1).1 (Zh.2 ⟨x,hx,rfl⟩);rw[<- h];exact(k e a).1
 .obtain⟨e,a,_,h⟩:=(is.tick p x.1).1 (Zh.2 ⟨x,hx,rfl⟩);rw[<- h];exact(Qcf.1 (i e a).1).at_
 .have v:=Qcl (is.ticks p) (show (x.1,x.2)∈tks (Qi3 l) p from hx);have C:y.1∈Xv (tks (Qi3 l) p) x.1:=(by unfold Xv;rw[v];exact Zh.2 ⟨y,B,rfl⟩);obtain⟨e,a,_,_,h⟩:=(is.item p x.1 y.1).1 C;rw[<- h];exact(k e a).2
 .have:=n p;show (tks (Qi3 l) p).length<_
  omega
 .have:=Xl7 l p;show ((tks (Qi3 l) p).map _).sum<_
  omega
 .have b:ps.length<=l.length:=(by have:=w.length_le;rw[Qcn,Zg]at this;omega)
  have c:∀ps:List Bj,(ps.flatMap (Qgc gap (Qi3 l))).length<=ps.length*l.length:=by
   intro ps
   induction ps with
   |nil=>simp
   |cons p ps I =>
    rw[Za0,Zo,Zx,Zbv];have o:(Qgc gap (Qi3 l) p).length<=l.length:=(by unfold Qgc;rw[Zg];have:=Xe8 gap ((Qe (Qi3 l) p).getD []);have:=n p;unfold tks at this;omega);omega
  have o:=c ps;have D:ps.length*l.length<=999*999:=Nat.mul_le_mul Om Om;omega
 .have b:=d;rw[f]at d;have c:=Q36 _ _ q d;unfold Qky at b;obtain⟨p,_,m⟩:=Zbh.1 b;unfold Qgc at m;obtain⟨g,_,s⟩:=Zh.1 m;exact⟨g.2.2,by rw[<- s];rfl,Om⟩
 .rw[f];have:=Xd9 gap (Qf6 ahB (l.map adE));omega
theorem Q7n(c z)(b:∀e∈z,Xy e=true)(f:z.length<1000):Xmq c z:=by
 have d:=Zc wpB z;have h:=Xnq (Q9m c.gap) (by unfold Q9m;omega) (z.filter wpB) (fun e a=>⟨b e (Ze.1 a).1,(Ze.1 a).2⟩) Om;exact⟨h.1,h.2.1,h.2.2⟩
theorem Quv{w T p c z v}(h:WQ w T p c z v)(person item:Bj)(now)(i:0<=now/\now<=1099511627776) :
 Cal Tryz.prog 248 [Pj p,.string person,.string item,Vj now] w fun r w'=>r=Vj (Q6b c z person item now 0)/\Ext w w':=by
 have f:=Xd0 h.may;have o:=Xbk f (Xf c.half) item now;have s:=Zc wpB z;have u:=h.len;refine Fi Tryz.func248 rfl _ rfl rfl (Hh ?_);refine(Qks h).mono ?_;rintro _ m ⟨pd,S,rfl,d,k⟩;rw[(Qc7 c.width z).1]at d;refine Hh ?_;refine(Qrj m S pd _ _ _ d item now i fun r a x hx=>?_).mono ?_
 .obtain⟨e,b,g,_⟩:=Q2i _ item r a x hx;rw[<- g];exact Qw3 (f e b)
 rintro r n ⟨a,l⟩;have j:Qb6 (Qje (z.filter wpB)) (Xf c.half) item now=Xhn (z.filter wpB) (Xf c.half) item now:=(by unfold Qb6;rw[Xk6 _ _ _ _ (fun e b=>(Ze.1 b).2)];exact(wrap_eq rfl ⟨Om,Om⟩).symm);rw[j]at a;subst a;refine Hh ?_;refine(Qoz _ n).mono ?_;rintro _ _ ⟨rfl,rfl⟩;refine Hh ?_;exact⟨rfl,k.trans l⟩
theorem Qkw(c:Cfg)(z)(h:Rise z)(item now):(Xz (Qm z) item now).1=Qnd z item now:=by
 rw[Qer (Qdk h)];rfl
theorem Qzs(l A c)(x:Bj)(w)(n:SlT w A l)(u:l.length<1000000) :
 Cal Tryz.prog 70 [.slice A l.length c,.string x] w fun r w'=>(∃i:Int,r=Vj i /\ -1<=i/\(0<=i↔x∈l))/\w'=w:=by
 refine Fi Tryz.func70 rfl _ rfl rfl (Hh ?_)
 refine Qh Qb (fun(k:Nat) w'=>k<=l.length/\x∉l.take k/\w'=w)
  (fun k=>[(0,.slice A l.length c),(1,.string x),(7,Vj l.length),(8,Vj (k:Nat))]) (fun k=>l.length-k) 0 ⟨Zt _,by simp,rfl⟩ Rr ?_
 rintro k v ⟨s,e,o⟩;subst o;refine Hh ?_;constructor
 .intro b;have b:k<l.length:=Su b;obtain⟨a2,m,f⟩:=n.get b;subst m;have j:x∈l.take (k+1)↔x=l[k]:=by rw[Za b,Zj,Zl];simp[e]
  have g:l[k]∈l:=Zu b;generalize l[k]=y at f j g;refine Hh ?_;refine⟨a2,Ix,Hh ?_⟩;refine⟨.string y,Qp f,Hh ?_⟩;constructor
  .intro a;have a:x=y:=Su a;refine Hh ?_;exact⟨⟨k,rfl,Om,by simp[a,g]⟩,rfl⟩
  .intro a;have a:¬x=y:=Su a;refine Hh ?_;refine⟨_,wrap_succ Om,Hh ?_⟩;exact⟨k+1,Om,⟨Om,fun h=>a (j.1 h),rfl⟩,Rr⟩
 .intro d;have d:l.length<=k:=Su d;rw[Zd d]at e;refine Hh ?_;exact⟨⟨-1,rfl,Om,by simp[e]⟩,rfl⟩
theorem Qa3(l A c)(x:Bj)(w)(e:SlT w A l)(d:l.length<1000000) :
 Cal Tryz.prog 29 [.slice A l.length c,.string x] w fun r w'=>r=.bool (decide (x∈l))/\w'=w:=by
 refine Fi Tryz.func29 rfl _ rfl rfl (Hh ?_);refine(Qzs l A c x w e d).mono ?_;rintro _ _ ⟨⟨g,rfl,f,b⟩,rfl⟩;refine Hh ?_;refine⟨?_,rfl⟩
 by_cases a:x∈l
 .rw[decide_eq_true (b.2 a),decide_eq_true a]
 .rw[decide_eq_false (fun h=>a (b.1 h)),decide_eq_false a]
def Qye(tags:List Bj)(F:List Ct):Int:=((F.filter fun x=>decide (x.1∈tags)).map (·.2)).sum
theorem Xdv(tags F x):Qye tags (F++[x])=Qye tags F+if x.1∈tags then x.2 else 0:=by
 unfold Qye;rw[Zq,Zp,Zbj]
 by_cases h:x.1∈tags<;>simp[h]
theorem Qu0{tags}:∀{F:List Ct},(∀x∈F,0<=x.2)->0<=Qye tags F
 |[],_=>by simp[Qye]
 |x::F,h=>by
  have b:=Qu0 (tags:=tags) (F:=F) fun y a=>h y (by simp[a])
  have:=h x (by simp);unfold Qye at*;rw[Zau];split
  .rw[Zm,Za8];omega
  .exact b
theorem Xdu{tags F}(h:∀x∈F,0<=x.2)(k):0<=Qye tags (F.take k)/\Qye tags (F.take k)<=Qye tags F:=by
 refine⟨Qu0 fun x hx=>h x (Zay hx),?_⟩;have a:0<=Qye tags (F.drop k):=Qu0 fun x hx=>h x (List.mem_of_mem_drop hx)
 have b:Qye tags F=Qye tags (F.take k)+Qye tags (F.drop k):=(by unfold Qye;rw[<- Zbj,<- Zp,<- Zq,Zag]);omega
theorem Q1d{α:Type}(f M):∀l:List α,(∀x∈l,f x<=M)->(l.map f).sum<=l.length*M
 |[],_=>by simp
 |x::l,h=>by
  have b:=h x (by simp);have c:=Q1d f M l fun y a=>h y (by simp[a])
  rw[Zm,Za8,Zx,Zbv];omega
theorem Qxm(width z):(Qi width z).rs.length<=z.length:=by
 have h:=(Qb7 width z).2;have a:=congrArg List.length h;unfold evs at a;rw[Zg]at a;rw[a];exact Zc _ _
theorem Q6h(R person):(rowsOf R person).length<=R.length:=Zc _ _
theorem Qyb(f M)(b:0<=M)(tags)(c:tags.length<=8)(h:∀t,0<=f t/\f t<=M):0<=Qm5 f tags/\Qm5 f tags<=8*M:=by
 have a:=Qez f M tags fun x _=>h x
 unfold Qm5;refine⟨a.1,Int.le_trans a.2 (Zaw Om b)⟩
set_option maxHeartbeats 1000000 in
theorem Q1a{w T p c z v}(h:WQ w T p c z v)(aq:Gl w)(bm:z.length<100000)(person item:Bj)(now)(bk:0<=now/\now<=1099511627776) :
 Cal Tryz.prog 249 [Pj p,.string person,.string item,Vj now] w fun r w'=>r=Vj (Q6b c z person item now 1)/\Ext w w':=by
 have hit:=Qkw c z h.rise item now;have i:=Qo6 item ((Qm z).filter (thQ item now)) fun y a5=>Qd2 h.may y (Ze.1 a5).1
 have g:=Qet c.width z h.rise h.may;have ax:=Qxm c.width z;have ay:Q6b c z person item now 1=if(Qnd z item now).listed=true then min (Qm5 (Xh3 (Xf c.half) now (rowsOf (Qxl z) person)) (Xg (Qg5 (Qnd z item now).tags))) 1099511627776 else 0:=(by unfold Q6b;rw[if_neg (by decide),if_pos rfl])
 rw[ay];have l:Xh3 (Xf c.half) now (rowsOf (Qxl z) person)=Q3w (Xf c.half) now (rowsOf (Qi c.width z).rs person):=(by funext t;exact(Xgv c.width (Xf c.half) now person t z h.rise h.may).symm);rw[l];have W:=Qid (Qm z) (fun e ao=>h.may e ((Ze.1 ao).1)) item now;rw[hit]at W;have i:Xic (Xg (Qg5 (Qnd z item now).tags)):=i;refine Fi Tryz.func249 rfl _ rfl rfl (Hh ?_);refine(Xo h).mono ?_;rintro _ bo ⟨pc,S,rfl,an,Y⟩;refine Hh ?_;refine(Xa _ S pc _ an item now h.rows).mono ?_;rintro _ bq ⟨rfl,Z⟩;rw[hit];generalize Qnd z item now=it at W i⊢;refine Hh ?_;intro ah br E;refine Hh ?_;refine Qc Qb (e:=ty152) rfl E.At rfl rfl rfl (by simp[Qg,itC,Value.oneCell']) fun K m R=>?_
 have bb:=E.block;have B:Ext w K:=R.ext ((Y.trans Z).trans E.ext) (by have:=(Y.trans Z).size;omega);have m:At K ah 152 (itC it):=m;clear R;refine Hh ?_;refine⟨.bool it.listed,m.one rfl,Hh ?_⟩;constructor
 .intro f;have f:it.listed=false:=Su f;refine Hh ?_;exact⟨by rw[f];rfl,B⟩
 intro f;have f:it.listed=true:=Su f;rw[if_pos f];refine Hh ?_;refine⟨.string it.tags,m.one rfl,Hh ?_⟩;refine⟨sz2 (by decide) Om,Hh ?_⟩;refine(Qdg (Qg5 it.tags) K (aq.ext B) (by unfold Qg5;rw[Zbd];have:(⟨#[59]⟩:Bj).size=1:=rfl;omega)).mono ?_;rintro _ w5 ⟨L,M,rfl,V,_,aa⟩;generalize Xg (Qg5 it.tags)=a at V i⊢;refine Hh ?_;refine(Qad (h.ext (B.trans aa))).mono ?_;rintro _ a7 ⟨pw,ag,rfl,O,ab⟩;generalize (Qi c.width z).rs=rs at O g ax⊢;refine Hh ?_
 refine(Q67 a7 ag pw _ rs O person now Om (fun r b=>⟨(g r b).1,(Qw3 (g r b).1).1⟩) (by
  have:=Q1d (fun r:Row=>r.2.length) 8 rs fun r b=>(g r b).2.2
  omega) Om).mono ?_
 rintro _ a8 ⟨af,aj,F,rfl,o,_,a0,ac⟩;have U:∀r∈rowsOf rs person,Xy r.1=true/\r.2.Nodup:=fun r b=>⟨(g r (Ze.1 b).1).1,(g r (Ze.1 b).1).2.1⟩
 have bl:=Q6h rs person;have l:=Xdl U Om (i.2.1.nodup Quw) o;have aw:∀x∈F,0<=x.2:=fun x hx=>(by have:=(Ze.1 (o.mem_iff.1 hx)).2;simp at this;omega)
 have D:=fun t=>Xdt (Xf c.half) now t (rowsOf rs person) U Om
 have al:=Qyb (Q3w (Xf c.half) now (rowsOf rs person)) ((rowsOf rs person).length*5242880) Om a i.2.2 fun t=>⟨(D t).2.1,(D t).2.2.1⟩
 have av:=fun k=>Xdu (tags:=a) aw k
 have bj:F.length<1000000:=by
  have be:=o.length_eq;have bg:(Xkd (Xf c.half) now (rowsOf rs person)).length<=(Q1o (Xf c.half) now (rowsOf rs person)).length:=Zc _ _;have bh:=Q3v (Xf c.half) now (rowsOf rs person);have m:=Q1d (fun r:Row=>r.2.length) 8 (rowsOf rs person) fun r b=>(g r (Ze.1 b).1).2.2
  omega
 have l:Qye a F=Qm5 (Q3w (Xf c.half) now (rowsOf rs person)) a:=l;rw[<- l]at al⊢;clear D l o;have bi:a.length<=8:=i.2.2;have az:=V.ext (ab.trans ac);refine Hh ?_
 refine Qh Qb (fun(q:Nat×Int) w'=>q.1<=F.length/\q.2=Qye a (F.take q.1)/\Ext a8 w')
  (fun|(k,t)=>[(11,.slice L a.length M),(12,Vj t),(34,.slice af F.length aj),(35,Vj F.length),(36,Vj (k:Nat))]) (fun q=>F.length-q.1) (0,0) ⟨Zt _,rfl,Ext.refl _⟩ Rr ?_
 rintro ⟨k,t⟩ ae ⟨ar,A,I⟩;simp only at ar A;refine Hh ?_;constructor
 .intro s;have s:k<F.length:=Su s;obtain⟨a9,ak,N⟩:=(a0.ext I).get s;subst ak;have j:Qye a (F.take (k+1))=t+if F[k].1∈a then F[k].2 else 0:=by rw[A,Za s,Xdv]
  have au:=av (k+1);generalize F[k]=x at N j;refine Gg ?_;refine⟨a9,Ix,Gg ?_⟩;refine⟨Qjv x,⟨rfl,N⟩,Gg ?_⟩;intro ai bs u;refine Gg ?_;refine Qc Qb (e:=ty345) rfl u.At rfl rfl rfl (Qj7 x) fun J n P=>?_
  have n:At J ai 345 (Qjv x):=n;have bd:=u.block;have a4:Ext ae J:=P.ext u.ext Om;have H:=I.trans a4;clear P u;refine Gg ?_;refine⟨.string x.1,n.one rfl,Gg ?_⟩;refine(Qa3 a L M x.1 J (az.ext H) Om).mono ?_;rintro _ bp ⟨rfl,a3⟩;subst a3;refine Gg ?_;constructor
  .intro d;have d:x.1∈a:=Su d;rw[if_pos d]at j;rw[j]at au;refine Gg ?_;refine⟨Vj x.2,n.one rfl,Gg ?_⟩;refine⟨t+x.2,wrap_eq rfl ⟨Om,Om⟩,Gg ?_⟩;refine⟨_,wrap_succ Om,Gg ?_⟩;exact⟨(k+1,t+x.2),Sj,⟨Sj,j.symm,H⟩,Rr⟩
  .intro d;have d:¬x.1∈a:=Su d;rw[if_neg d,Int.add_zero]at j;refine Gg ?_;refine⟨_,wrap_succ Om,Gg ?_⟩;exact⟨(k+1,t),Sj,⟨Sj,j.symm,H⟩,Rr⟩
 .intro C;have C:F.length<=k:=Su C;rw[Zd C]at A;rw[<- A];refine Hh ?_;refine(Qoz _ ae).mono ?_;rintro _ _ ⟨rfl,rfl⟩;refine Hh ?_;exact⟨rfl,(B.trans aa).trans ((ab.trans ac).trans I)⟩
theorem Qxo{w T p c z v}(h:WQ w T p c z v)(person item:Bj)(now) :
 Cal Tryz.prog 252 [Pj p,.string person,.string item,Vj now] w fun r w'=>r=Vj (Q6b c z person item now 4)/\Ext w w':=by
 have hit:=Qkw c z h.rise item now;have W:=Qet c.width z h.rise h.may;have ac:=Qxm c.width z;have ae:=h.len;have U:=(Qb7 c.width z).2;have Y:Q6b c z person item now 4=if(Qnd z item now).listed=true/\Q2m z person (Qnd z item now).maker=true then 1048576 else 0:=(by unfold Q6b;rw[if_neg (by decide),if_neg (by decide),if_neg (by decide),if_neg (by decide),if_pos rfl])
 have F:∀maker,(decide (maker∈Xh ((Qa0 (Xk (Qi c.width z).rs).follows person (hist (evs (Qi c.width z).rs) person)).map (·.1))))=Q2m z person maker:=fun maker=>(by rw[Zc7,decide_eq_true_eq,Qge,Q9h,U,Qrp])
 rw[Y]
 have E:(Xh ((Qa0 (Xk (Qi c.width z).rs).follows person (hist (evs (Qi c.width z).rs) person)).map (·.1))).length<1000000:=by
  rw[Qcn,Zg]
  have o:∀(n:List (LK×Bool)) (a:List Ev),(Qa0 n person a).length<=a.length:=fun n=>by
   refine Qw (by simp[Qa0]) fun a e af=>?_
   rw[Qeu];split
   .have:=Qcb e.text true (Qa0 n person a);simp;omega
   .simp;omega
  have g:=o (Xk (Qi c.width z).rs).follows (hist (evs (Qi c.width z).rs) person);have D:(hist (evs (Qi c.width z).rs) person).length<=(evs (Qi c.width z).rs).length:=Zc _ _;have i:(evs (Qi c.width z).rs).length=(Qi c.width z).rs.length:=Zg _;omega
 refine Fi Tryz.func252 rfl _ rfl rfl (Hh ?_);refine(Xo h).mono ?_;rintro _ ag ⟨pc,S,rfl,O,J⟩;refine Hh ?_;refine(Xa _ S pc _ O item now h.rows).mono ?_;rintro _ ah ⟨rfl,K⟩;rw[hit];generalize Qnd z item now=it;refine Hh ?_;intro N ai x;refine Hh ?_;refine Qc Qb (e:=ty152) rfl x.At rfl rfl rfl (by simp[Qg,itC,Value.oneCell']) fun m i I=>?_
 have ab:=x.block;have k:Ext w m:=I.ext ((J.trans K).trans x.ext) (by have:=(J.trans K).size;omega);have i:At m N 152 (itC it):=i;clear I;refine Hh ?_
 repeat(refine Sg ?_;(conv=>whnf))
 refine Dr .ext [0,1,2,3,5,7,8,4,6] [9,10] (Hh ?_);refine⟨.bool it.listed,i.one rfl,Hh ?_⟩;refine⟨.string it.maker,fun _=>i.one rfl,Hh ?_⟩;replace k:=k.drew;refine⟨Nat,fun pw=>Pj pw,fun pw w'=>(∃S,X7 w' S pw (Xf c.half) (Qi c.width z).rs)/\Ext m.drew w',0,fun _=>(Qad (h.ext k)).mono fun r w' a=>?_,?_⟩
 .obtain⟨pw,S,o,g,D⟩:=a;exact⟨pw,o,⟨S,g⟩,D⟩
 intro pw w5 s
 have B:Ext m.drew w5:=by
  rcases s with⟨_,a⟩|⟨_,a⟩
  .exact a.2
  .rw[a];exact Ext.refl _
 have P:it.listed=true->∃S,X7 w5 S pw (Xf c.half) (Qi c.width z).rs:=fun j=>by
  rcases s with⟨_,a⟩|⟨d,_⟩
  .exact a.1
  .exact(d ⟨j,trivial⟩).elim
 clear s;refine⟨B,?_⟩;have H:∀(S:Nat->Prop),X7 w5 S pw (Xf c.half) (Qi c.width z).rs->_:=fun S b=>Qji w5 S pw _ _ b (fun r y=>(W r y).1) Om person
 generalize Xh ((Qa0 (Xk (Qi c.width z).rs).follows person (hist (evs (Qi c.width z).rs) person)).map (·.1))=M at F E H;refine Hh ?_;refine⟨Option Addr×Nat,fun q=>.slice q.1 M.length q.2,fun q w'=>SlT w' q.1 M/\Ext w5 w',(none,0),fun d=>?_,?_⟩
 .obtain⟨S,b⟩:=P d;refine(H S b).mono ?_;rintro r w' ⟨A,l,y,V,hx⟩;exact⟨(A,l),y,V.sl Qv,hx⟩
 rintro ⟨A,l⟩ f u
 have C:Ext w5 f:=by
  rcases u with⟨_,a⟩|⟨_,a⟩
  .exact a.2
  .rw[a];exact Ext.refl _
 have Z:it.listed=true->SlT f A M:=fun j=>by
  rcases u with⟨_,a⟩|⟨d,_⟩
  .exact a.1
  .exact(d ⟨j,trivial⟩).elim
 clear u;have R:it.listed=true->Cal Tryz.prog 29 [.slice A M.length l,.string it.maker] f fun r w'=>r=.bool (Q2m z person it.maker)/\Ext f w':=fun j=>(Qa3 M A l it.maker f (Z j) E).mono fun r w' a=>⟨by rw[a.1,F],by rw[a.2];exact Ext.refl _⟩
 refine⟨C,?_⟩;refine Hh ?_;refine⟨Unit,fun _=>(.bool (Q2m z person it.maker)),fun _ w'=>Ext f w',(),fun d=>((R d)).mono fun r w' h=>⟨(),h.1,h.2⟩,?_⟩;intro _ aa g
 have L:Ext f aa:=by
  rcases g with⟨_,h⟩|⟨_,h⟩
  .exact h
  .rw[h];exact Ext.refl _
 clear g;refine Hh ?_;constructor
 .intro b;have b:it.listed=true/\Q2m z person it.maker=true:=Su b;refine Hh ?_;exact⟨by rw[if_pos b],(k.trans B).trans (C.trans L)⟩
 intro b;have b:¬(it.listed=true/\Q2m z person it.maker=true):=(by have b:(it.listed&&Q2m z person it.maker)=false:=b;simpa using b);refine Hh ?_;exact⟨by rw[if_neg b],(k.trans B).trans (C.trans L)⟩
theorem Xls(width){z:List Ev}(d:∀e∈z,Xy e=true)(g:z.length<100000):Xhb (Qvb width (z.filter wpB)) 10000000:=by
 have b:=Qiw width z d;have f:=(Qc7 width z).2.1;have a:=b.ps;have c:=b.pl;rw[f]at a c;exact⟨Xjt width _,Qga a Om,Om,Om,Om⟩
theorem Xlr(width){z:List Ev}(b:∀e∈z,Xy e=true)(d:z.length<100000)(key lo hi):paS (Qvb width (z.filter wpB)) key lo hi<=10000000:=by
 have c:=Zc wpB z;rw[Xho width key lo hi _ fun e a=>(Ze.1 a).2];have:=(Xfw (Xd0 b) width key lo hi).2;omega
set_option maxHeartbeats 1000000 in
theorem Q04{w T p c z v}(h:WQ w T p c z v)(a5:Qu7 c=true)(aq:z.length<100000)(person item:Bj)(now)(bg:0<=now/\now<=1099511627776) :
 Cal Tryz.prog 251 [Pj p,.string person,.string item,Vj now] w fun r w'=>r=Vj (Q6b c z person item now 3)/\Ext w w':=by
 obtain⟨bt,ay,az,a0,bu,bv,bw⟩:=Xhf a5;have bj:=Q9s ay;have ok:=Xls c.width h.may aq;have J:=Xlr c.width h.may aq;have ai:=fun key i g=>Xho c.width key i g (z.filter wpB) fun e a8=>(Ze.1 a8).2
 have bh:Q6b c z person item now 3=Q6d c (paE (z.filter wpB) c.width item ((Qjm c now-c.span)/Xf c.width) (Qjm c now/Xf c.width)) (paE (z.filter wpB) c.width item ((Qjm c now-2*c.span)/Xf c.width) ((Qjm c now-c.span)/Xf c.width)):=(by unfold Q6b;rw[if_neg (by decide),if_neg (by decide),if_neg (by decide),if_pos rfl]);rw[bh,<- ai,<- ai];unfold Qjm;refine Fi Tryz.func251 rfl _ rfl rfl (Hh ?_);refine(Qbi h).mono ?_;rintro _ b5 ⟨rfl,E⟩;refine Hh ?_;intro b2 b7 K;refine Hh ?_;refine Qc Qb (e:=ty26) rfl K.At rfl rfl rfl (by simp[Qg,Xhe,Qrg,Value.oneCell']) fun av n ae=>?_
 have bz:=K.block;have H:Ext w av:=ae.ext (E.trans K.ext) (by have:=E.size;omega);have n:At av b2 26 (Qrg c):=n;clear ae;refine Hh ?_;refine Dr .ext [0,2,3,4,5,6,9,1,7,8] [] (Hh ?_);refine⟨_,n.one rfl,Hh ?_⟩;refine⟨_,n.one rfl,Hh ?_⟩;replace H:=H.drew;refine(Qpw (h.ext H)).mono ?_;rintro _ br ⟨pp,S,rfl,ag,al⟩;rw[(Qc7 c.width z).2.1]at ag;refine⟨al,Hh ?_⟩;refine(Q0k br S pp (Xf c.width) _ _ ag Om ok J c.span now c.floor az (by rw[bj];exact a0) bg).mono ?_;rintro _ w5 ⟨aw,a3,F,rfl,B,bi,an⟩;refine⟨an,?_⟩;have M:=fun key i g=>(Qpq ok.small ok.N0 key i g).1
 have ab:=fun(i g:Int)=>Xad ok.small (key:=item) (lo:=i) (hi:=g)
 have Y:=fun i g=>Qo9 (Qvb c.width (z.filter wpB)) i g
 have b4:=ok.len;generalize Qvb c.width (z.filter wpB)=s at*;generalize (now-now.tmod (Xf c.width)-2*c.span)/Xf c.width=j at*;generalize (now-now.tmod (Xf c.width)-c.span)/Xf c.width=a at*;generalize (now-now.tmod (Xf c.width))/Xf c.width=b at*;have be:∀x∈F,Qsq x/\c.floor<=x.2.1/\x.1∈Qc3 s a b/\x=Xf6 s j a b x.1:=fun x hx=>(by have hx:=B.mem_iff.1 hx;unfold Qcm at hx;obtain⟨E,bm⟩:=Ze.1 hx;obtain⟨key,aa,rfl⟩:=Zh.1 E;exact⟨⟨⟨M _ _ _,J _ _ _⟩,⟨M _ _ _,J _ _ _⟩⟩,Su bm,aa,rfl⟩)
 have bd:item∈Qc3 s a b->c.floor<=paS s item a b->Xf6 s j a b item∈F:=fun l m=>(by refine B.mem_iff.2 ?_;unfold Qcm;exact Ze.2 ⟨Zh.2 ⟨item,l,rfl⟩,decide_eq_true m⟩)
 have b1:F.length<1000000:=(by have l:=B.length_eq;have m:(Qcm s j a b c.floor (Qc3 s a b)).length<=(Qc3 s a b).length:=(by unfold Qcm;refine Zw (Zc _ _) ?_;rw[Zg];exact Zf _);have n:=Y a b;omega);clear B Y;refine Hh ?_;refine Qh Qb (fun(k:Nat) w'=>k<=F.length/\(∀x∈F.take k,x.1≠item)/\Ext w5 w') (fun k=>[(2,.string item),(24,.slice aw F.length a3),(25,Vj F.length),(26,Vj (k:Nat))]) (fun k=>F.length-k) 0 ⟨Zt _,by simp,Ext.refl _⟩ Rr ?_;rintro k bs ⟨aa,L,P⟩;have hx:=H.trans (al.trans (an.trans P));refine Hh ?_;constructor
 .intro o;have o:k<F.length:=Su o;obtain⟨a7,a4,Z⟩:=(bi.ext P).get o;subst a4
  have aj:∀y∈F.take (k+1),y.1≠item\/y=F[k]:=fun y f=>by
   rw[Za o]at f;rcases Zj.1 f with f|f
   .exact .inl (L y f)
   .exact .inr (Su f)
  obtain⟨R,ar,au,U⟩:=be F[k] (Zu o);generalize F[k]=x at Z aj R ar au U;refine Gg ?_;refine⟨a7,Ix,Gg ?_⟩;refine⟨riC x,⟨rfl,Z⟩,Gg ?_⟩;intro b8 b9 D;refine Gg ?_;refine Qc Qb (e:=ty350) rfl D.At rfl rfl rfl (Quk x) fun W A af=>?_
  have A:At W b8 350 (riC x):=A;have b0:=D.block;have ao:Ext bs W:=af.ext D.ext Om;clear af D;refine Gg ?_;refine⟨.string x.1,A.one rfl,Gg ?_⟩;constructor
  .intro d;have d:x.1≠item:=Su d;refine Gg ?_;refine⟨_,wrap_succ Om,Gg ?_⟩;refine⟨k+1,Om,⟨Om,fun y f=>?_,P.trans ao⟩,Rr⟩;rcases aj y f with h|h
   .exact h
   .rw[h];exact d
  .intro d;have d:x.1=item:=Su d;have b3:=(ab a b).1 (d▸au);have ak:x.2.1=paS s item a b:=by rw[U,d];rfl
   have bo:x.2.2=paS s item j a:=by rw[U,d];rfl
   have O:Q6d c (paS s item a b) (paS s item j a)=min (1048576*(riR x).1/(riR x).2) 1099511627776:=(by unfold Q6d riR;simp only;rw[ak]at ar;rw[if_neg Om,ak,bo,Int.mul_comm]);rw[O];have ah:=Xbz R;refine Gg ?_;refine⟨riC x,⟨rfl,A.all⟩,Gg ?_⟩;refine(Qjp x R W).mono ?_;rintro _ bp ⟨rfl,a9⟩;generalize riR x=q at ah;refine Gg ?_;intro ax b6 C;refine Gg ?_;refine Qc Qb (e:=ty247) rfl C.At rfl rfl rfl (Qkt q) fun V u ac=>?_
   have u:At V ax 247 (Qmv q):=u;have bx:=C.block;have bk:Ext bp V:=ac.ext C.ext Om;clear ac C;refine Gg ?_;refine⟨Vj q.1,u.one rfl,Gg ?_⟩;refine⟨Vj q.2,u.one rfl,Gg ?_⟩;refine(Qsc (N:=100000000) Om 1048576 ⟨Om,Om⟩ q ah V).mono ?_;rintro _ bq ⟨rfl,bl⟩;refine Gg ?_;constructor
   .intro bb;cases bb
   intro _;refine Gg ?_;refine(Qoz _ bq).mono ?_;rintro _ _ ⟨rfl,rfl⟩;refine Gg ?_;exact⟨rfl,hx.trans (ao.trans (a9.ext.trans (bk.trans bl)))⟩
 .intro I;have I:F.length<=k:=Su I;rw[Zd I]at L
  have O:Q6d c (paS s item a b) (paS s item j a)=0:=by
   unfold Q6d;rw[if_pos]
   by_cases l:item∈Qc3 s a b
   .by_cases m:c.floor<=paS s item a b
    .exact absurd rfl (L _ (bd l m))
    .exact .inr Om
   .have:=M item a b;have m:¬0<paS s item a b:=fun h=>l ((ab a b).2 h)
    exact .inl Om
  rw[O];refine Hh ?_;exact⟨rfl,hx⟩
def Xlv(c:Cfg)(z:List Ev)(person item:Bj)(now x:Int):Int:=if 0<=x/\x<6/\0<=now/\now<=1099511627776 then Q6b c z person item now x.toNat else 0
theorem Q97{z}(b:∀e∈z,Xy e=true)(item now):0<=(Qnd z item now).born/\(Qnd z item now).born<=1099511627776:=by
 have h:∀es:List Ev,(∀e∈es,Xy e=true)->0<=(Qq3 item es).item.born/\(Qq3 item es).item.born<=1099511627776:=by
  refine Qw (fun _=>by simp[Qq3,Qi4,Qb0]) fun es e a b=>?_
  have a:=a fun x hx=>b x (by simp[hx])
  have c:=Qw3 (b e (by simp));rw[Qip];unfold Qce;split
  .simp only;split
   .exact a
   .exact c
  .split
   .exact a
   .exact a
 unfold Qnd Qu9;split
 .simp[Qb0]
 .exact h _ fun e c=>Qd2 b e (Ze.1 c).1
structure Qqm(c:Cfg)(z:List Ev):Prop where
 cfg:Qu7 c=true
 len:z.length<1000
theorem Xc0{w T p c z}(h:WT w T p c z)(s:Qqm c z)(F:Gl w)(person item:Bj)(now x) :
 Cal Tryz.prog 128 [Pj p,Vj x,.string person,.string item,Vj now] w fun r w'=>r=Vj (Xlv c z person item now x)/\Mod T w w'/\∃i,WT w' i p c z/\∀k,i k->T k\/w.heap.size<=k:=by
 have L:=s.len;obtain⟨v0,I,b,K,_,_⟩:=id h;have hfin:∀{n:World},Ext w n->Mod T w n/\∃i,WT n i p c z/\∀k,i k->T k\/w.heap.size<=k:=fun hx=>⟨Mod.of_ext hx,T,h.ext hx,fun k o=>.inl o⟩
 refine Fi Tryz.func128 rfl _ rfl rfl (Hh ?_);refine(Q03 w).mono ?_;rintro _ n ⟨rfl,y⟩;refine Hh ?_;intro B O l;refine Hh ?_;refine Qc Qb (e:=ty300) rfl l.At rfl rfl rfl (by simp[Qg,Xk7,Value.oneCell']) fun A f v=>?_
 have f:At A B 300 Xk7:=f;have J:=l.block;have a:Ext w A:=v.ext (y.trans l.ext) (by have:=y.size;omega);clear v l;refine Hh ?_;constructor
 .intro g;have g:¬(0<=x/\x<6/\0<=now/\now<=1099511627776):=(by simp at g;omega);refine Hh ?_;exact⟨by unfold Xlv;rw[if_neg g],hfin a⟩
 intro g;have g:0<=x/\x<6/\0<=now/\now<=1099511627776:=(by simp at g;omega);have H:Xlv c z person item now x=Q6b c z person item now x.toNat:=by unfold Xlv;rw[if_pos g]
 rw[H];obtain⟨M,N,m⟩:=g;refine Hh ?_;refine⟨⟨Om,Om⟩,Hh ?_⟩;obtain⟨k,rfl⟩:∃k:Nat,x=k:=⟨x.toNat,Om⟩;rw[Zbb];rcases k with _|_|_|_|_|_|k
 .refine⟨.func (.func 248) #[] #[],f.one rfl,Hh ?_⟩;refine(Quv (b.ext a) person item now m).mono ?_;rintro _ j ⟨rfl,d⟩;refine Hh ?_;exact⟨rfl,hfin (a.trans d)⟩
 .refine⟨.func (.func 249) #[] #[],f.one rfl,Hh ?_⟩;refine(Q1a (b.ext a) (F.ext a) Om person item now m).mono ?_;rintro _ j ⟨rfl,d⟩;refine Hh ?_;exact⟨rfl,hfin (a.trans d)⟩
 .refine⟨.func (.func 250) #[] #[],f.one rfl,Hh ?_⟩;refine(Xa4 (h.ext a) (Q7n c z b.may s.len) person item now).mono ?_;rintro _ j ⟨rfl,C,i,E,D⟩;refine Hh ?_;refine⟨?_,(Mod.of_ext a).trans C,i,E,fun k o=>?_⟩
  .unfold Q6b;rw[if_neg (by decide),if_neg (by decide),if_pos rfl]
  .rcases D k o with h|h
   .exact .inl h
   .exact .inr (by have:=a.size;omega)
 .refine⟨.func (.func 251) #[] #[],f.one rfl,Hh ?_⟩;refine(Q04 (b.ext a) s.cfg Om person item now m).mono ?_;rintro _ j ⟨rfl,d⟩;refine Hh ?_;exact⟨rfl,hfin (a.trans d)⟩
 .refine⟨.func (.func 252) #[] #[],f.one rfl,Hh ?_⟩;refine(Qxo (b.ext a) person item now).mono ?_;rintro _ j ⟨rfl,d⟩;refine Hh ?_;exact⟨rfl,hfin (a.trans d)⟩
 .refine⟨.func (.func 253) #[] #[],f.one rfl,Hh ?_⟩;have u:=Q97 b.may item now;rw[<- Qkw c z b.rise item now]at u;refine(Q47 (b.ext a) person item now m u).mono ?_;rintro _ j ⟨rfl,d⟩;refine Hh ?_;refine⟨?_,hfin (a.trans d)⟩;rw[Qkw c z b.rise item now];rfl
 .omega
def Qhf(z:List Ev)(e:Ev):List Ev:=z.takeWhile fun x=>Q5 x e
theorem Xfc(e):Q5 e e=false:=by
 rw[<- Zai,Qfc];rintro (h|⟨_,h|⟨_,h⟩⟩)
 .omega
 .rw[Xu]at h;cases h
 .omega
theorem Q8f{a l2 e}(h:Rise (a++e::l2)):Qhf (a++e::l2) e=a:=by
 unfold Qhf;rw[Zco fun x hx=>(Z7.1 h).2.2 x hx e (by simp),List.takeWhile_cons,Xfc];simp
theorem Qsu{z e x}(h:x∈Qhf z e):x∈z:=(Zcu _).mem h
def Qq5(z:List Ev)(e:Ev):List Bj:=Xg (Qg5 (Qu9 e.item ((Qm (Qhf z e)).filter (thQ e.item e.at_))).tags)
theorem Xfy{e}(h:peB e=true):thB e=false:=by
 unfold peB at h
 cases a:thB e with
 |false=>rfl
 |true=>rw[a]at h;simp at h
theorem Q1k{z}(h:Rise z){e}(d:e∈z)(i:thB e=false)(g:∀x∈Qm z,x.item=e.item->x.at_≠e.at_):(Qm z).filter (thQ e.item e.at_)=(Qm (Qhf z e)).filter (thQ e.item e.at_):=by
 obtain⟨k,j,rfl⟩:=List.append_of_mem d;rw[Q8f h];unfold Qm at*;rw[Zq,Zq]
 have:((e::j).filter thB).filter (thQ e.item e.at_)=[]:=by
  rw[Zct];intro x hx b;obtain⟨a,c⟩:=Ze.1 hx;have b:x.item=e.item/\x.at_<=e.at_:=by simpa [thQ] using b
  rcases Zr.1 a with rfl|a
  .rw[i]at c;cases c
  .have f:=(Zab.1 (Z7.1 h).2.1).1 x a;have:=Qz2 f;exact g x (Ze.2 ⟨by simp[a],c⟩) b.1 Om
 rw[this,Z4]
theorem Q8r(name t):∀cs:List Ev,t∈(Qy cs name).map (·.at_)↔∃x∈cs,x.item=name/\x.at_=t:=by
 refine Qw (by simp[Qy]) fun cs e b=>?_
 have hx:(∃x∈cs++[e],x.item=name/\x.at_=t)↔(∃x∈cs,x.item=name/\x.at_=t)\/(e.item=name/\e.at_=t):=by
  constructor
  .rintro ⟨x,hx,h⟩;rcases Zj.1 hx with hx|hx
   .exact .inl ⟨x,hx,h⟩
   .rw[Zl]at hx;subst hx;exact .inr h
  .rintro (⟨x,hx,h⟩|h)
   .exact⟨x,by simp[hx],h⟩
   .exact⟨e,by simp,h⟩
 rw[Qbg,hx,<- b];unfold Qfn Qm6
 by_cases a:name=e.item
 .subst a;rw[if_pos rfl,Zp,Zj,Zm,Zbk,Zl];have:(Qfj (Qy cs e.item) e).at_=e.at_:=Qgi _ _;rw[this];constructor
  .rintro (h|h)
   .exact .inl h
   .exact .inr ⟨rfl,h.symm⟩
  .rintro (h|⟨_,h⟩)
   .exact .inl h
   .exact .inr h.symm
 .rw[if_neg a];constructor
  .exact .inl
  .rintro (h|⟨h,_⟩)
   .exact h
   .exact absurd h.symm a
def Qz3(c:Cfg)(z:List Ev)(item:Bj)(tags:List Bj)(e:Ev):Bool:=decide (0<Qz e)&&((!decide (e.item=item)&&decide (0<(Qha (Qhd c z) e.item item).1))||(Qq5 z e).any fun t=>decide (t∈tags))
def Qzv(z:List Ev)(item:Bj)(now:Int):Bool:= !((Qm z).filter (thQ item now)).isEmpty
def Q1g(z:List Ev)(item:Bj)(now:Int):List Bj:=Xg (Qg5 (Qnd z item now).tags)
def Qi9(c:Cfg)(z:List Ev)(item:Bj)(now:Int)(e:Ev):Bool:=if e.kind=7\/e.kind=8 then Qzv z item now&&decide (e.text=(Qnd z item now).maker) else Qz3 c z item (Q1g z item now) e
def Xd5(c:Cfg)(z:List Ev)(person item:Bj)(now:Int):List Ev:=(Qfs z person).filter (Qi9 c z item now)
