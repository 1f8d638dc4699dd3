import Derived.Test.YtnpacgccajekgaaGreatDoorGI
import Derived.Test.YtnpacgccajekgaaGreatDoorGZK
set_option linter.all false
namespace Go.Proofs.YtnpacgccajekgaaGreatDoor
open Go.Se Go.RowKit Go.Sort
theorem Qgs(a:Bj)(w):Cal Tryz.prog 194 [.string a] w fun r w'=>r=.bool false/\w'=w:=by
 refine Fi Tryz.func194 rfl _ rfl rfl (Hh ?_);exact⟨by simp,rfl⟩
theorem Qaj(a b:Bj)(w):Cal Tryz.prog 138 [.string a,.string b] w fun r w'=>r=Vj (Qcp a b)/\w'=w:=by
 refine Fi Tryz.func138 rfl _ rfl rfl (Hh ?_);refine(Qgs a w).mono ?_;rintro _ _ ⟨rfl,rfl⟩;refine Hh ?_;refine(Qgs b _).mono ?_;rintro _ _ ⟨rfl,rfl⟩;refine Hh ?_;constructor
 .intro h;cases h
 intro _;refine Hh ?_;constructor
 .intro h;cases h
 intro _;refine Hh ?_;constructor
 .intro h;have h:bLt a b=true:=h;refine Hh ?_;exact⟨by unfold Qcp;rw[if_pos h],rfl⟩
 intro h;have h:bLt a b=false:=h;refine Hh ?_;constructor
 .intro k
  have k:bLt b a=true:=by
   have k:(!(bLt a b||decide (a=b)))=true:=k
   cases c:bLt b a with
   |true=>rfl
   |false =>
    have:=Qb4 h c;subst this;simp at k
  refine Hh ?_;exact⟨by unfold Qcp;rw[h,if_neg (by simp),if_pos k],rfl⟩
 intro k;have k:bLt b a=false:=(by have k:(!(bLt a b||decide (a=b)))=false:=k;rw[h]at k;have:a=b:=Su k;subst this;exact h);refine Hh ?_;exact⟨by unfold Qcp;rw[h,k,if_neg (by simp),if_neg (by simp)],rfl⟩
theorem Qo3(a w):Cal Tryz.prog 264 [Vj a] w fun r w'=>r=.bool false/\w'=w:=by
 refine Fi Tryz.func264 rfl _ rfl rfl (Hh ?_);exact⟨by simp,rfl⟩
theorem Qfy(a b w):Cal Tryz.prog 190 [Vj a,Vj b] w fun r w'=>r=Vj (Qc5 a b)/\w'=w:=by
 refine Fi Tryz.func190 rfl _ rfl rfl (Hh ?_);refine(Qo3 a w).mono ?_;rintro _ _ ⟨rfl,rfl⟩;refine Hh ?_;refine(Qo3 b _).mono ?_;rintro _ _ ⟨rfl,rfl⟩;refine Hh ?_;constructor
 .intro h;cases h
 intro _;refine Hh ?_;constructor
 .intro h;cases h
 intro _;refine Hh ?_;constructor
 .intro h;have h:a<b:=Su h;refine Hh ?_;exact⟨by unfold Qc5;rw[if_pos h],rfl⟩
 intro h;have h:¬a<b:=Su h;refine Hh ?_;constructor
 .intro k;have k:b<a:=Su k;refine Hh ?_;exact⟨by unfold Qc5;rw[if_neg h,if_pos k],rfl⟩
 intro k;have k:¬b<a:=Su k;refine Hh ?_;exact⟨by unfold Qc5;rw[if_neg h,if_neg k],rfl⟩
def Q4l(a b:Ct):Int:=orL [Qc5 b.2 a.2,Qcp a.1 b.1]
theorem Q4m(a b w):Cal Tryz.prog 372 [.agg (Qjv a).toArray,.agg (Qjv b).toArray] w fun r w'=>r=Vj (Q4l a b)/\Gr w w':=by
 refine Fi Tryz.func372 rfl _ rfl rfl (Hh ?_);intro i l g;refine Hh ?_;intro j e f;have c:=g.At.ext f.ext;have d:=f.At;have hx:=(Qam g).trans ((Qam f).trans (Gr.drew e));refine Hh ?_;refine Dr .ext [0,1,2,3,5,6,7,8,4] [9,10,11,12] (Hh ?_);replace c:At e.drew i _ _:=c;replace d:At e.drew j _ _:=d;generalize e.drew=m at c d hx⊢;refine⟨_,d.one rfl,Hh ?_⟩;refine⟨_,c.one rfl,Hh ?_⟩;refine⟨_,c.one rfl,Hh ?_⟩;refine⟨_,d.one rfl,Hh ?_⟩;refine(Qfy _ _ _).mono ?_;rintro _ _ ⟨rfl,rfl⟩;refine⟨Ext.refl _,Hh ?_⟩;refine(Qaj _ _ _).mono ?_;rintro _ _ ⟨rfl,rfl⟩;refine Hh ?_;intro k n h;refine Hh ?_;refine(Qex [Qc5 b.2 a.2,Qcp a.1 b.1] _ _ _ (Qai (enc:=Qf7) X8 h) (by simp)).mono ?_;rintro _ _ ⟨rfl,rfl⟩;refine Hh ?_;exact⟨rfl,hx.trans (Qam h)⟩
def Qmm(a b:Ct):Bool:=decide (b.2<a.2)||(decide (a.2=b.2)&&bLt a.1 b.1)
theorem Qlt:ltOf Q4l=Qmm:=by
 funext a b;unfold ltOf Q4l Qmm orL Qc5 Qcp;rcases Int.lt_trichotomy b.2 a.2 with h|h|h
 .simp[h]
 .rw[h];cases c:bLt a.1 b.1<;>cases d:bLt b.1 a.1<;>simp
 .have c:¬b.2<a.2:=Om;have d:¬a.2=b.2:=Om;simp[h,c,d]
theorem Q2w{a b}:Qmm a b=true↔b.2<a.2\/(a.2=b.2/\bLt a.1 b.1=true):=by simp[Qmm]
theorem Q2x{a b}:Qmm a b=false↔¬b.2<a.2/\(a.2=b.2->bLt a.1 b.1=false):=by
 rw[<- Zai,Q2w];constructor
 .intro h;refine⟨fun c=>h (.inl c),fun c=>?_⟩
  cases g:bLt a.1 b.1 with
  |false=>rfl
  |true=>exact absurd (.inr ⟨c,g⟩) h
 .rintro ⟨c,f⟩ (d|⟨d,e⟩)
  .exact c d
  .rw[f d]at e;cases e
theorem Qfd:Go.Sort.SWO Qmm where
 irrefl x:=by rw[Q2x];exact⟨Om,fun _=>Xu _⟩
 trans x y z h k:=by
  rw[Q2w]at*;rcases h with h|⟨h,a⟩<;>rcases k with k|⟨k,b⟩
  .exact .inl Om
  .exact .inl Om
  .exact .inl Om
  .exact .inr ⟨Om,Qb3 a b⟩
 ntrans x y z h k:=by
  rw[Q2x]at*;refine⟨Om,fun d=>?_⟩;have c:=h.1;have e:=k.1;exact Qic (h.2 Om) (k.2 Om)
theorem Q0w(l A c base w)(d:Own Qjv 2 345 base w A c l)(b:l.length<1000000) :
 Cal Tryz.prog 299 [.slice A l.length c,.func (.func 372) #[] #[]] w fun r w'=>r=.tuple #[]/\∃F,F.Perm l/\Srt Qmm F/\Sl Qjv 2 w' A F/\∀a,Ext a w->a.heap.size<=base->Ext a w':=by
 have:=Qgh Tryz.sortCount (by decide) Tryz.isAgg345 Tryz.sizeOf345 Qnl Qj7 Q4l (by rw[Qlt];exact Qfd) ⟨_,Tryz.func299,rfl,rfl⟩ (enters_of Tryz.func372 Kr rfl) l A c base w d b (fun x y w' _=>Q4m x y w') (cb:= #[]);rw[Qlt]at this;exact this
end Go.Proofs.YtnpacgccajekgaaGreatDoor
namespace Go.Proofs.YtnpacgccajekgaaGreatDoor
open Go.Se Go.RowKit
theorem Qyg:Tryz.prog.underlying 359=some (.map 9 2):=by kernel_rfl
theorem Xhi{α:Type}(f:α->Nat):∀{l:List α} {x:α},x∈l->f x<=(l.map f).sum
 |[],x,h=>by simp at h
 |a::l,x,h=>by
  simp only[Zm,Za8];rcases Zr.1 h with rfl|h
  .omega
  .have:=Xhi f h;omega
set_option maxHeartbeats 1000000 in
theorem Q1i(w S p half rs)(h:X7 w S p half rs)(person:Bj)(now)(c9:now<=9223372036854775807)(cc:∀r∈rs,Xy r.1=true/\0<=r.1.at_)(c4:(rs.map fun r=>r.2.length).sum<1000000)(c5:rs.length<1000000) :
 Cal Tryz.prog 328 [Pj p,.string person,Vj now] w fun r w'=>∃A c F,r=.slice A F.length c/\F.Perm (Xkd half now (rowsOf rs person))/\Srt Qmm F/\Sl Qjv 2 w' A F/\(∀a,A=some a->w.heap.size<=a.block)/\Ext w w':=by
 obtain⟨bp,b,D,L,cw,cx,h⟩:=h;have a7:=Qqd person h.tags;have ch:=(h.rows.own person).1;have cm:=ch.sl Qf1;have cd:∀r∈rowsOf rs person,Xy r.1=true/\0<=r.1.at_:=fun r bm=>cc r (Ze.1 bm).1
 have cp:((rowsOf rs person).map fun r=>r.2.length).sum<1000000:=by
  have:∀R:List Row,((rowsOf R person).map fun r=>r.2.length).sum<=(R.map fun r=>r.2.length).sum:=by
   intro R
   induction R with
   |nil=>simp[rowsOf]
   |cons a R dh =>
    unfold rowsOf at*;simp only[Zau];split
    .simp only[Zm,Za8];omega
    .simp only[Zm,Za8];omega
  have:=this rs;omega
 have db:(rowsOf rs person).length<=rs.length:=Zc _ _;refine Fi Tryz.func328 rfl _ rfl rfl (Hh ?_);intro f bt av;refine Gg ?_;have bg:MapAt bt f Value.string []:=MapAt.new av;have az:=av.ext;have cz:=av.block;have b7:=h.head;refine⟨.map (some bp),(h.head.ext az).one rfl,Gg ?_⟩;have bo:=h.rows.look Qgj Xd (e:=ty281) ty281_ok rfl person (cl:= .ext) (Qii h.rows.map.lt);refine⟨_,fun w' cr=>(by cases cr;exact bo bt az),Gg ?_⟩;clear bo;generalize rowsOf rs person=rows at*;generalize X3 D person=row at*;generalize (rowAt L person).1=A at*;generalize (rowAt L person).2=c at*;have c6:row.length=rows.length:=a7.len
 refine Qh Qb (fun(q:Nat×List (Bj×Int)) w'=>q.1<=row.length/\Ext w w'/\f<w'.heap.size/\q.2=Q1o half now (rows.take q.1)/\MapAt w' f Value.string (Xj vi q.2))
  (fun|(k,_)=>[(0,Pj p),(2,Vj now),(7,.map (some f)),(22,.slice A row.length c),(23,Vj row.length),(24,Vj k)]) (fun q=>row.length-q.1) (0,[]) ⟨by simp,az,bg.lt,rfl,bg⟩ Rr ?_
 rintro ⟨k,m⟩ a3 ⟨cb,ab,c3,J,ar⟩;simp only at cb J ar;refine Gg ?_;constructor
 .intro I;have I:k<row.length:=Su I;obtain⟨a,bz,a8⟩:=(cm.ext ab).get I;subst bz;obtain⟨ae,af,U,bs⟩:=a7.ev k row[k] (rows[k]'Om) (Zb _) (Zb _);have bh:=cd _ (Zu (show k<rows.length by omega));have cj:=Zbw (Xhi (fun r:Row=>r.2.length) (Zu (show k<rows.length by omega))) cp;have ay:Q1o half now (rows.take (k+1))=Qfw half now m (rows[k]'Om):=(by rw[Za Om,Qk6,J]);generalize rows[k]'Om=r at ae af U bh ay cj;generalize row[k]=d at a8 ae af U bs;obtain⟨cy,ai,dn,dc⟩:=d;simp only at ae af U bs;subst ae;subst af;refine Gg ?_;refine⟨a,Ix,Gg ?_⟩;refine⟨Qg8 (r.1,ai,r.2.length,dc),⟨rfl,a8⟩,Gg ?_⟩;intro b3 cv aw;refine Gg ?_;refine Qc Qb (e:=ty280) rfl aw.At rfl rfl rfl (Qf2 _) fun z o bi=>?_
  have a5:At z b3 280 ([]++(evC r.1++[.slice ai r.2.length dc])):=o;have c0:=aw.block;have br:Ext a3 z:=bi.ext aw.ext Om;have g:Ext w z:=ab.trans br;have s:=ar.ext br;clear bi;refine Gg ?_;refine⟨Vj r.1.at_,o.one rfl,Gg ?_⟩;constructor
  .intro B;have B:now<r.1.at_:=Su B;have aa:Qfw half now m r=m:=by unfold Qfw;rw[if_pos B]
   refine Gg ?_;refine⟨_,wrap_succ Om,Gg ?_⟩;exact⟨(k+1,m),Sj,⟨Sj,g,s.lt,by rw[ay,aa],s⟩,Rr⟩
  .intro B;have B:¬now<r.1.at_:=Su B;have aa:Qfw half now m r=r.2.foldl (Qdf (Qq6 half now r.1)) m:=by unfold Qfw;rw[if_neg B]
   have b4:=Qis (half:=half) (now:=now) bh.1;refine Gg ?_;refine Dr .ext [0,1,3,4,5,6,7,8,9,10,11,2] [12,13,14] (Hh ?_);refine⟨evC r.1,⟨rfl,At.sub a5⟩,Gg ?_⟩;refine⟨Vj r.1.at_,o.one rfl,Gg ?_⟩;refine⟨now-r.1.at_,wrap_eq rfl ⟨Om,Om⟩,Gg ?_⟩;refine⟨_,(b7.ext g).one rfl,Gg ?_⟩;replace g:=g.drew;replace o:At z.drew b3 _ _:=o;replace s:=s.ext (Ext.refl z).drew;refine(Qc2 r.1 z.drew).mono ?_;rintro _ w5 ⟨rfl,u⟩;refine⟨u,Gg ?_⟩;refine(Qg1 (now-r.1.at_) half ⟨Om,Om⟩ w5).mono ?_;rintro _ _ ⟨rfl,rfl⟩;refine Gg ?_;have bq:Qq6 half now r.1=IntKind.i64.wrap (Qz r.1*Qaw (now-r.1.at_) half):=(by rw[show Qz r.1*Qaw (now-r.1.at_) half=Qq6 half now r.1 from rfl];exact wrap_eq rfl ⟨Om,Om⟩);refine⟨Qq6 half now r.1,bq,Gg ?_⟩;clear bq;replace g:=g.trans u;replace o:=o.ext u;replace s:=s.ext u;refine⟨_,o.one rfl,Gg ?_⟩;have da:=U.ext g;generalize Qq6 half now r.1=n at b4 aa⊢
   refine Qh Qb (fun(q:Nat×List (Bj×Int)) w'=>q.1<=r.2.length/\Ext w w'/\q.2=(r.2.take q.1).foldl (Qdf n) m/\MapAt w' f Value.string (Xj vi q.2))
    (fun|(j,_)=>[(0,Pj p),(2,Vj now),(7,.map (some f)),(22,.slice (some a) row.length c),(23,Vj row.length),(24,Vj k),(10,Vj n),(48,.slice ai r.2.length dc),(49,Vj r.2.length),(50,Vj j)]) (fun q=>r.2.length-q.1) (0,m) ⟨by simp,g,rfl,s⟩ Rr ?_
   clear s o a5;rintro ⟨j,i⟩ bu ⟨ca,P,W,N⟩;simp only at ca W N;refine Gg ?_;constructor
   .intro V;have V:j<r.2.length:=Su V;obtain⟨a2,b0,a9⟩:=(U.ext P).get V;subst b0;have be:(r.2.take (j+1)).foldl (Qdf n) m=Qdf n i (r.2[j]):=(by rw[Za V,Q1q,W]);generalize r.2[j]=t at a9 be;refine Gg ?_;refine⟨a2,Ix,Gg ?_⟩;refine⟨.string t,Qp a9,Gg ?_⟩;refine⟨_,X5 Qyg (Qr Xd) (e:=ty2) ty2_ok Qs N t,?_⟩;have cu:(Qe (Xj vi i) t).getD (ty2).zero=vi ((Qe i t).getD 0):=(by unfold Xj;rw[Qdx];cases Qe i t<;>rfl);rw[cu];refine Gg ?_;refine⟨_,rfl,Gg ?_⟩;refine Qx Qyg (Qr Xd) N t _ fun ag au cg=>?_
    have a0:Ext w ag:=cg.ext P Om
    have au:MapAt ag f Value.string (Xj vi (Qdf n i t)):=by
     have e:Xe (Xj vi i) t (vi (IntKind.i64.wrap ((Qe i t).getD 0+n)))=Xj vi (Qdf n i t):=by unfold Qdf Xj;rw[Qec]
     rw[<- e];exact au
    refine Gg ?_;refine⟨_,wrap_succ Om,Gg ?_⟩;exact⟨(j+1,Qdf n i t),Sj,⟨Sj,a0,be.symm,au⟩,Rr⟩
   .intro al;have al:r.2.length<=j:=Su al;rw[Zd al]at W;refine Gg ?_;refine⟨_,wrap_succ Om,Gg ?_⟩;exact⟨(k+1,i),Sj,⟨Sj,P,N.lt,by rw[ay,aa,W],N⟩,Rr⟩
 .intro bb;have bb:row.length<=k:=Su bb;rw[Zd Om]at J;have c2:m.length<=(rows.map fun r=>r.2.length).sum:=by rw[J];exact Q3v half now rows
  unfold Xkd;rw[<- J];clear J;refine Gg ?_;refine map_range Qyg ar fun cv ao ac=>?_
  have dd:w.heap.size<=a3.heap.size:=ab.size;generalize bm:a3.heap.size=r at ao⊢;have ac:=ab.trans ac;refine Gg ?_
  refine Qh Qb (fun(q:List (Bj×Int)×Option Addr×Nat×List Ct) w'=>Ext w w'/\Iter w' r f Value.string (Xj vi m) (Xj vi q.1)/\q.2.2.2=q.1.filter (fun x=>decide (0<x.2))/\Own Qjv 2 345 w.heap.size w' q.2.1 q.2.2.1 q.2.2.2/\∀a,q.2.1=some a->a.block≠f/\a.block≠r)
   (fun|(_,A,c,F)=>[(62,Pj r),(13,.slice A F.length c)]) (fun q=>m.length-q.1.length) ([],none,0,[]) ⟨ac,ao,rfl,Own.nil,by simp⟩ Rr ?_
  clear ao ac;rintro ⟨v,H,ah,F⟩ z ⟨g,bd,K,Y,C⟩;simp only at bd K Y C;have c1:F.length<=v.length:=by rw[K];exact Zc _ _
  refine Gg ?_;refine Qff bd (fun Z=>?_) (fun x w5 b9 c8 I aq bj b5=>?_)
  .have Z:v.Perm m:=(by have bx:=Z.map (fun x:Bj×Value=>(x.1,match x.2 with|.int _ n=>n|_=>0));simpa [Xj,Zz,Function.comp_def,vi] using bx);have de:=Z.length_eq;refine Gg ?_;constructor
   .intro an;cases an
   intro _;refine Gg ?_;refine(Q0w F H ah w.heap.size z Y Om).mono ?_;rintro _ bu ⟨rfl,bw,bl,ck,cn,P⟩;refine Gg ?_;refine⟨H,ah,bw,by rw[bl.length_eq],bl.trans ?_,ck,cn,fun a aj=>(Y.block aj).1,P w g (Zf _)⟩;rw[K];exact Z.filter _
  .obtain⟨y,df,rfl⟩:=Zh.1 b9;have I:v.length<m.length:=by simpa [Xj] using I
   have cq:Xj vi v++[(y.1,vi y.2)]=Xj vi (v++[y]):=by simp[Xj]
   rw[cq]at aq;have u:=bj.ext g Om;have ax:=Y.keep (w':=w5) fun a aj=>bj.block a.block (C a aj).2
   refine Gg ?_;constructor
   .intro _;refine Gg ?_;refine Qa1 (b5 w5 rfl rfl) ?_;refine Gg ?_;constructor
    .intro E;have E:0<y.2:=Su E;refine Gg ?_;intro b6 bu O;refine Gg ?_;refine Qq Xga (l:=F) (news:= [y]) rfl (ax.ext O.ext) rfl (Xga.new1 (x:=y) O) (by simp;omega) (Zw u.size O.ext.size) fun a4 c7 ag bk ak b1=>?_
     have a0:=Qu (u.trans O.ext) ak (Xm ax);have M:=aq.ext O.ext
     have b8:Iter ag r f Value.string (Xj vi m) (Xj vi (v++[y])):=M.keep (ak.block f M.map.lt fun e=>by
      cases H with
      |none=>simp at e
      |some x=>simp at e;exact(C x rfl).1 e.symm) (ak.block r M.lt fun e=>by
      cases H with
      |none=>simp at e
      |some x=>simp at e;exact(C x rfl).2 e.symm)
     have cf:∀a,a4=some a->a.block≠f/\a.block≠r:=by
      intro x hx;subst hx;rcases b1 with h|h|h
      .exact C x h.symm
      .cases H with
       |none=>simp at h
       |some y=>simp at h;rw[h];exact C y rfl
      .simp at h;have:=M.map.lt;have:=M.lt;omega
     generalize b2:F++[y]=bv at bk⊢;refine Gg ?_;exact⟨(v++[y],a4,c7,bv),by simp;omega,⟨a0,b8,by simp only;rw[<- b2,K];simp[E],bk,cf⟩,Rr⟩
    .intro E;have E:¬0<y.2:=Su E;refine Gg ?_;exact⟨(v++[y],H,ah,F),by simp;omega,⟨u,aq,by simp only;rw[K];simp[E],ax,C⟩,Rr⟩
   .intro an;cases an
theorem Q67(w S p half rs)(h:X7 w S p half rs)(person:Bj)(now)(k:now<=9223372036854775807)(j:∀r∈rs,Xy r.1=true/\0<=r.1.at_)(g:(rs.map fun r=>r.2.length).sum<1000000)(i:rs.length<1000000) :
 Cal Tryz.prog 328 [Pj p,.string person,Vj now] w fun r w'=>∃A c F,r=.slice A F.length c/\F.Perm (Xkd half now (rowsOf rs person))/\Srt Qmm F/\Sl Qjv 2 w' A F/\Ext w w':=
 (Q1i w S p half rs h person now k j g i).mono fun r w' ⟨A,c,F,a,b,d,e,_,f⟩=>⟨A,c,F,a,b,d,e,f⟩
theorem Qji(w S p half rs)(h:X7 w S p half rs)(ar:∀r∈rs,Xy r.1=true)(bj:rs.length<1000000)(person:Bj) :
 Cal Tryz.prog 185 [Pj p,.string person] w fun r w'=>∃A c,r=.slice A (Xh ((Qa0 (Xk rs).follows person (hist (evs rs) person)).map (·.1))).length c/\Own Qac 1 9 w.heap.size w' A c (Xh ((Qa0 (Xk rs).follows person (hist (evs rs) person)).map (·.1)))/\Ext w w':=by
 obtain⟨ah,b,D,L,bd,be,h⟩:=h;have H:=Qlo h.tags person;have ay:=(h.rows.own person).1;have a0:=ay.sl Qf1;have an:=h.maps.follows;have bi:(X3 D person).length<=rs.length:=(by rw[<- h.tags.len];exact Zc _ _);have aw:∀e∈hist (evs rs) person,Xy e=true:=fun e E=>(by obtain⟨r,az,rfl⟩:=Zh.1 (Ze.1 E).1;exact ar r az)
 have av:∀d∈X3 D person,Xy d.1=true:=fun d C=>aw _ (by rw[<- H];exact Zh.2 ⟨d,C,rfl⟩)
 rw[<- H];refine Fi Tryz.func185 rfl _ rfl rfl (Hh ?_);refine⟨.map (some b.follows),h.head.one rfl,Gg ?_⟩;refine Cal.mono (R:=fun r w'=>∃A c,r=.slice A (Xh ((Qa0 (Xk rs).follows person ((X3 D person).map (·.1))).map (·.1))).length c/\Own Qac 1 9 w.heap.size w' A c (Xh ((Qa0 (Xk rs).follows person ((X3 D person).map (·.1))).map (·.1)))/\Ext w w') ?_ ?_
 rotate_left
 .rintro _ O ⟨A,c,rfl,aj,B⟩;refine Gg ?_;exact⟨A,c,rfl,aj,B⟩
 refine Fi Tryz.func186 rfl _ rfl rfl (Hh ?_);intro n O K;refine Gg ?_;have au:MapAt O n Value.string []:=MapAt.new K;have l:=K.ext;have bg:=K.block;refine⟨.map (some ah),(h.head.ext l).one rfl,Gg ?_⟩;have Z:=h.rows.look Qgj Xd (e:=ty281) ty281_ok rfl person (cl:= .ext) (Qii h.rows.map.lt);refine⟨_,fun w' a4=>(by cases a4;exact Z O l),Gg ?_⟩;clear Z H;generalize (Xk rs).follows=f at*;generalize X3 D person=row at*;generalize (rowAt L person).1=A at*;generalize (rowAt L person).2=c at*
 refine Qh Qb (fun(q:Nat×List (Bj×Bool)) w'=>q.1<=row.length/\Ext w w'/\q.2=Qa0 f person ((row.take q.1).map (·.1))/\MapAt w' n Value.string (Xj Value.bool q.2))
  (fun|(k,_)=>[(1,.string person),(2,Vj 7),(3,.map (some b.follows)),(9,.map (some n)),(18,.slice A row.length c),(19,Vj row.length),(20,Vj k)]) (fun q=>row.length-q.1) (0,[]) ⟨by simp,l,rfl,au⟩ Rr ?_
 rintro ⟨k,m⟩ ac ⟨ao,v,i,I⟩;simp only at ao i I;refine Gg ?_;constructor
 .intro u;have u:k<row.length:=Su u;obtain⟨a,ak,P⟩:=(a0.ext v).get u;subst ak;have j:Qa0 f person ((row.take (k+1)).map (·.1))=if(row[k]).1.kind=7/\(Qe f (person,(row[k]).1.text)).getD false=true then Xe m (row[k]).1.text true else m:=(by rw[Za u,Zp,Zm,Zbk,Qeu,<- i])
  generalize row[k]=d at P j;refine Gg ?_;refine⟨a,Ix,Gg ?_⟩;refine⟨Qg8 d,⟨rfl,P⟩,Gg ?_⟩;intro ag bb M;refine Gg ?_;refine Qc Qb (e:=ty280) rfl M.At rfl rfl rfl (Qf2 _) fun z o Y=>?_
  have bh:=M.block;have ab:Ext ac z:=Y.ext M.ext Om;have s:Ext w z:=v.trans ab;have V:=I.ext ab;have o:At z ag 280 (Qg8 d):=o;clear Y;refine Gg ?_;refine⟨Vj d.1.kind,o.one rfl,Gg ?_⟩;refine⟨.string d.1.text,fun _=>o.one rfl,Gg ?_⟩;have U:=X5 Qiu Qbe (e:=ty4) ty4_ok (cl:= .same) Qs (an.ext s) ((person,d.1.text):LK);have a8:(Qe (Xj Value.bool f) ((person,d.1.text):LK)).getD (ty4).zero=.bool ((Qe f (person,d.1.text)).getD false):=(by unfold Xj;rw[Qdx];cases Qe f (person,d.1.text)<;>rfl);rw[a8]at U;refine⟨_,fun _=>U,?_⟩;generalize (Qe f (person,d.1.text)).getD false=aa at j⊢;refine Gg ?_;constructor
  .intro g;have g:d.1.kind=7/\aa=true:=Su g;rw[if_pos g]at j;refine Gg ?_;refine⟨.string d.1.text,o.one rfl,Gg ?_⟩;refine Qx Qqh (Qr Xd) V d.1.text _ fun ae J ax=>?_
   have a5:Ext w ae:=ax.ext s Om
   have J:MapAt ae n Value.string (Xj Value.bool (Xe m d.1.text true)):=by
    have e:Xe (Xj Value.bool m) d.1.text (.bool true)=Xj Value.bool (Xe m d.1.text true):=by unfold Xj;rw[Qec]
    rw[<- e];exact J
   refine Gg ?_;refine⟨_,wrap_succ Om,Gg ?_⟩;exact⟨(k+1,Xe m d.1.text true),Sj,⟨Sj,a5,j.symm,J⟩,Rr⟩
  .intro g;have g:¬(d.1.kind=7/\aa=true):=Su g;rw[if_neg g]at j;refine Gg ?_;refine⟨_,wrap_succ Om,Gg ?_⟩;exact⟨(k+1,m),Sj,⟨Sj,s,j.symm,V⟩,Rr⟩
 .intro F;have F:row.length<=k:=Su F;rw[Zd F]at i;have aq:∀x∈m,x.1.size<=1000000:=(by intro x hx;have l:x.1∈m.map (·.1):=Zh.2 ⟨x,hx,rfl⟩;rw[i,Qro]at l;obtain⟨e,E,_,B,_⟩:=l;obtain⟨d,C,rfl⟩:=Zh.1 E;have:=Qdn (av d C);rw[<- B];omega)
  have bk:m.length<=row.length:=by
   have:∀h:List Ev,(Qa0 f person h).length<=h.length:=by
    refine Qw (by simp[Qa0]) fun a9 e bl=>?_
    rw[Qeu];have:=Qcb e.text true (Qa0 f person a9);split<;>simp<;>omega
   have:=this (row.map (·.1));rw[<- i]at this;simpa using this
  rw[<- i];have a3:(Xj Value.bool m).map (·.1)=m.map (·.1):=by simp[Xj]
  refine Gg ?_;refine(Qlq (some n) ac).mono ?_;rintro _ bb ⟨rfl,al,N⟩;refine Gg ?_;refine(Qh8 al (I.ext N) (by intro x hx;obtain⟨y,a7,rfl⟩:=Zh.1 hx;exact aq y a7) (by simp[Xj];omega)).mono ?_;rintro _ z ⟨af,ai,rfl,W,s⟩;rw[a3]at W⊢;refine Gg ?_;exact⟨af,ai,rfl,Qhk W (Zw v.size N.size),v.trans (N.trans s)⟩
open Go.Maps Go.Sort Go.Shelf
theorem Qim(w p width n i g)(d:At w p 274 [vi width,vi n,.map (some i),.map (some g)])(y:1<=width/\width<=1099511627776)(t)(x:-9223372036854775807<=t/\t<=9223372036854775807) :
 Cal Tryz.prog 168 [Pj p,Vj t] w fun r w'=>r=Vj (t/width)/\w'=w:=by
 have c:t.tdiv width=t/width+if 0<=t\/width ∣ t then 0 else width.sign:=Int.tdiv_eq_ediv
 have f:=Int.tmod_eq_emod (a:=t) (b:=width);have k:width.sign=1:=Int.sign_eq_one_of_pos Om;have l:0<=t%width:=Int.emod_nonneg _ Om;have m:t%width<width:=Int.emod_lt_of_pos _ Om;have s:(width.natAbs:Int)=width:=Om;rw[k]at c
 have u:-9223372036854775807<=t/width:=by
  have:=Int.ediv_emod_unique (a:=t) (b:=width) (r:=t%width) (q:=t/width) Om;rcases Int.lt_or_le t 0 with h|h
  .have:t<=t/width:=(by rw[Int.le_ediv_iff_mul_le Om];have:t*width<=t*1:=Int.mul_le_mul_of_nonpos_left Om Om;omega);omega
  .have:=Zdf h (show 0<=width by omega);omega
 have v:t/width<=9223372036854775806\/(0<=t/\t/width<=t):=by
  rcases Int.lt_or_le t 0 with h|h
  .left
   have:=Int.ediv_neg_of_neg_of_pos h (show 0<width by omega);omega
  .right;exact⟨h,Zcx _ h⟩
 refine Fi Tryz.func168 rfl _ rfl rfl (Hh ?_);refine⟨_,d.one0,Hh ?_⟩
 by_cases e:0<=t\/width ∣ t
 .rw[if_pos e]at c f;refine⟨t/width,⟨Om,wrap_eq Om ⟨Om,Om⟩⟩,Hh ?_⟩;refine Qa Qb (Hh ?_);refine⟨_,d.one0,Hh ?_⟩;refine⟨t.tmod width,⟨Om,rfl⟩,Hh ?_⟩;constructor
  .intro q;have q:t.tmod width<0:=Su q;omega
  .intro _;refine Hh ?_;exact⟨rfl,rfl⟩
 .rw[if_neg e]at c f;have j:t<0:=Om;have o:=Int.ediv_neg_of_neg_of_pos j (show 0<width by omega);refine⟨t/width+1,⟨Om,wrap_eq Om ⟨Om,Om⟩⟩,Hh ?_⟩;refine Qa Qb (Hh ?_);refine⟨_,d.one0,Hh ?_⟩;refine⟨t.tmod width,⟨Om,rfl⟩,Hh ?_⟩;constructor
  .intro _;refine Hh ?_;refine⟨t/width,wrap_eq Om ⟨Om,Om⟩,Hh ?_⟩;exact⟨rfl,rfl⟩
  .intro q;have q:¬t.tmod width<0:=Su q;omega
theorem Qmr(w S p width n s)(h:Qn3 w S p width n s) :
 Cal Tryz.prog 352 [Pj p] w fun r w'=>r=Vj width/\Ext w w':=by
 obtain⟨c,b,L,a,h⟩:=h;refine Fi Tryz.func352 rfl _ rfl rfl (Hh ?_);refine⟨_,h.head.one rfl,Hh ?_⟩;exact⟨rfl,Ext.refl _⟩
theorem Qn3.ext{w w1 S p width n s}(h:Qn3 w S p width n s)(hx:Ext w w1):Qn3 w1 S p width n s:=h.keep fun k a b=>⟨hx.block k a,b⟩
theorem Xm7:Tryz.prog.underlying 83=some (.pointer (Tryz.prog.pointee 83)):=by kernel_rfl
end Go.Proofs.YtnpacgccajekgaaGreatDoor
namespace Go.Proofs.YtnpacgccajekgaaGreatDoor
open Go.Se Go.RowKit
theorem Qoz(n w):Cal Tryz.prog 326 [Vj n] w fun r w'=>r=Vj (min n 1099511627776)/\w'=w:=by
 refine Fi Tryz.func326 rfl _ rfl rfl (Hh ?_);exact⟨rfl,rfl⟩
theorem Q47{w T p c z v}(h:WQ w T p c z v)(person item:Bj)(now)(u:0<=now/\now<=1099511627776)(n:0<=(Xz (Qm z) item now).1.born/\(Xz (Qm z) item now).1.born<=1099511627776) :
 Cal Tryz.prog 253 [Pj p,.string person,.string item,Vj now] w fun r w'=>r=Vj (if(Xz (Qm z) item now).1.listed=true then Qaw (now-(Xz (Qm z) item now).1.born) c.half else 0)/\Ext w w':=by
 refine Fi Tryz.func253 rfl _ rfl rfl (Hh ?_);refine(Xo h).mono ?_;rintro _ x ⟨pc,S,rfl,o,i⟩;refine Hh ?_;refine(Xa _ S pc _ o item now h.rows).mono ?_;rintro _ y ⟨rfl,j⟩;generalize Xz (Qm z) item now=it at n⊢;refine Hh ?_;intro m A f;refine Hh ?_;refine Qc Qb (e:=ty152) rfl f.At rfl rfl rfl (by simp[Qg,itC,Value.oneCell']) fun l d g=>?_
 have s:=f.block;have b:Ext w l:=g.ext ((i.trans j).trans f.ext) (by have:=(i.trans j).size;omega);have d:At l m 152 (itC it.1):=d;clear g;refine Hh ?_;refine⟨.bool it.1.listed,d.one rfl,Hh ?_⟩;constructor
 .intro a;have a:it.1.listed=false:=Su a;refine Hh ?_;exact⟨by rw[a];rfl,b⟩
 intro a;have a:it.1.listed=true:=Su a;rw[if_pos a];refine Hh ?_;refine Dr .ext [0,1,2,3,4,5,6] [7,8] (Hh ?_);refine⟨Vj it.1.born,d.one rfl,Hh ?_⟩;refine⟨now-it.1.born,wrap_eq rfl ⟨Om,Om⟩,Hh ?_⟩;replace b:=b.drew;refine(Qbi (h.ext b)).mono ?_;rintro _ w5 ⟨rfl,k⟩;refine⟨k,Hh ?_⟩;refine(Qg1 (now-it.1.born) c.half ⟨Om,Om⟩ w5).mono ?_;rintro _ _ ⟨rfl,rfl⟩;refine Hh ?_;exact⟨rfl,b.trans k⟩
def Xk7:List Value:= [.func (.func 248) #[] #[],.func (.func 249) #[] #[],.func (.func 250) #[] #[],.func (.func 251) #[] #[],.func (.func 252) #[] #[],.func (.func 253) #[] #[]]
theorem Q03(w):Cal Tryz.prog 187 [] w fun r w'=>r=.agg Xk7.toArray/\Ext w w':=by
 refine Fi Tryz.func187 rfl _ rfl rfl (Hh ?_);intro c h b;refine Hh ?_;refine Qc Qb (e:=ty300) rfl b.At rfl rfl rfl Oj fun f a d=>?_
 have a:At f c 300 Xk7:=a;have g:=b.block;refine Hh ?_;refine⟨Xk7,⟨rfl,a.all⟩,Hh ?_⟩;exact⟨rfl,d.ext b.ext Om⟩
def Qqq(l:List Pt):Int:=IntKind.i64.wrap ((l.map fun x=>x.2.2).sum)
theorem Xkc:Qqq []=0:=Xd1
theorem Xgu(l x):Qqq (l++[x])=IntKind.i64.wrap (Qqq l+x.2.2):=by
 unfold Qqq;rw[Qma,Zp,Zbj];simp
theorem Q7d(l A c w)(z:Sl ptC 3 w A l)(D:l.length<1000000) :
 Cal Tryz.prog 129 [.slice A l.length c] w fun r w'=>r=Vj (Qqq l)/\Ext w w':=by
 refine Fi Tryz.func129 rfl _ rfl rfl (Hh ?_)
 refine Qh Qb (fun(q:Nat×Int) w'=>q.1<=l.length/\q.2=Qqq (l.take q.1)/\Ext w w')
  (fun|(k,s)=>[(6,.slice A l.length c),(7,Vj l.length),(8,Vj k),(3,Vj s)]) (fun q=>l.length-q.1) (0,0) ⟨by simp,Xkc.symm,Ext.refl _⟩ Rr ?_
 rintro ⟨k,s⟩ E ⟨y,i,d⟩;simp only at y i;refine Hh ?_;constructor
 .intro b;have b:k<l.length:=Su b;obtain⟨a,v,j⟩:=(z.ext d).get b;subst v;have n:Qqq (l.take (k+1))=IntKind.i64.wrap (s+(l[k]).2.2):=by rw[i,Za b,Xgu]
  generalize l[k]=x at j n;refine Hh ?_;refine⟨a,Ix,Hh ?_⟩;refine⟨ptC x,⟨rfl,j⟩,Hh ?_⟩;intro u F h;refine Hh ?_;refine Qc Qb (e:=ty234) rfl h.At rfl rfl rfl (Xbn x) fun o f m=>?_
  have f:At o u 234 (ptC x):=f;have C:=h.block;have B:Ext w o:=m.ext (d.trans h.ext) (by have:=d.size;omega);clear m;refine Hh ?_;refine⟨Vj x.2.2,f.one rfl,Hh ?_⟩;refine⟨_,rfl,Hh ?_⟩;refine⟨_,wrap_succ Om,Hh ?_⟩;exact⟨(k+1,_),by simp;omega,⟨by simp;omega,n.symm,B⟩,Rr⟩
 .intro g;have g:l.length<=k:=Su g;refine Hh ?_;exact⟨by rw[i,Zd g],d⟩
def Qvy(n:Int):Int:=min (max n 0) 1000
def Qvc(F a:Nat->Int)(n:Nat):List Pt:=(List.range n).map fun(k:Nat)=>((k:Int),F k,IntKind.i64.wrap (F k*Qvy (a k)))
theorem Xbo(F a n):Qvc F a (n+1)=Qvc F a n++[((n:Int),F n,IntKind.i64.wrap (F n*Qvy (a n)))]:=by
 unfold Qvc;rw[Zch,Zp];rfl
theorem Xf2(F a n):(Qvc F a n).length=n:=by simp[Qvc]
def wsV(a:Nat->Int):Value:= .agg #[Vj (a 0),Vj (a 1),Vj (a 2),Vj (a 3),Vj (a 4),Vj (a 5)]
theorem Xgg(F a)(J:Nat->(Nat->Prop)->World->Prop)(f p)(person item:Bj)(now w)(ab:J 0 f w)(af:∀k T w1,J k T w1->∀b,T b->b<w1.heap.size)(u:∀k T w1 o,J k T w1->Mod (fun b=>¬T b/\w.heap.size<=b) w1 o->J k T o)
 (ak:∀k,k<6->∀T w1,J k T w1->Cal Tryz.prog 128 [Pj p,Vj (k:Nat),.string person,.string item,Vj now] w1 fun r w'=>r=Vj (F k)/\Mod T w1 w'/\∃P,J (k+1) P w'/\∀b,P b->T b\/w1.heap.size<=b) :
 Cal Tryz.prog 65 [Pj p,wsV a,.string person,.string item,Vj now] w fun r w'=>∃A cap T,r=.tuple #[.slice A 6 cap,Vj (Qqq (Qvc F a 6))]/\Own ptC 3 234 w.heap.size w' A cap (Qvc F a 6)/\J 6 T w'/\(∀b,T b->f b\/w.heap.size<=b)/\(∀a,A=some a->¬T a.block)/\Mod f w w':=by
 refine Fi Tryz.func65 rfl _ rfl rfl (Hh ?_);intro al w1 M;refine Hh ?_;refine⟨_,⟨rfl,M.At.all⟩,Hh ?_⟩
 refine Qh Qb (fun(q:Nat×Option Addr×Nat×List Pt) w'=>q.1<=6/\q.2.2.2=Qvc F a q.1/\(∃T,J q.1 T w'/\(∀b,T b->f b\/w.heap.size<=b)/\∀a,q.2.1=some a->¬T a.block)/\Mod f w w'/\Own ptC 3 234 w.heap.size w' q.2.1 q.2.2.1 q.2.2.2)
  (fun|(k,A,cap,T)=>[(0,Pj p),(2,.string person),(3,.string item),(4,Vj now),(16,wsV a),(17,Vj k),(12,.slice A T.length cap)]) (fun q=>6-q.1) (0,none,0,[]) ⟨by simp,rfl,⟨f,u _ _ _ _ ab (Mod.of_ext M.ext),fun b c=>.inl c,by simp⟩,Mod.of_ext M.ext,Own.nil⟩ Rr ?_
 rintro ⟨k,A,cap,Q⟩ o ⟨ah,v,⟨T,E,K,z⟩,H,e⟩;simp only at ah v E e z;have ai:Q.length=k:=by rw[v,Xf2]
 refine Hh ?_;constructor
 .intro B;have B:k<6:=(by have:(k:Int)<6:=Su B;omega);have j:=Xbo F a k;rw[<- v]at j;refine Hh ?_;refine⟨Vj (a k),Qca Tryz.underlying28 Tryz.isAgg3 Tryz.sizeOf3 B (by rcases k with _|_|_|_|_|_|k<;>first|rfl|omega),Hh ?_⟩;refine(ak k B T o E).mono ?_;rintro _ W ⟨rfl,I,s,ac,S⟩;have aj:=e.keep (w':=W) fun a g=>I.block a.block (e.block g).2 (z a g)
  generalize F k=n at j⊢;generalize a k=m at j⊢;have ar:=H.size;have au:=I.size;refine Hh ?_;refine⟨_,rfl,Hh ?_⟩;intro an aw i;refine Hh ?_;have av:=i.ext.size;have R:=u _ _ _ _ ac (Mod.of_ext i.ext);refine Qq Xgb (l:=Q) (news:= [((k:Int),n,IntKind.i64.wrap (n*Qvy m))]) rfl (aj.ext i.ext) rfl (Xgb.new1 (x:=((k:Int),n,IntKind.i64.wrap (n*Qvy m))) i) (by simp;omega) Om fun O Z w5 V U D=>?_
  have C:∀a,A=some a->¬s a.block:=fun a g d=>by
   rcases S _ d with d|d
   .exact z a g d
   .have:=(e.block g).2;omega
  have ae:J (k+1) s w5:=u _ _ _ _ R (Xn U fun b c=>by
   cases A with
   |none=>simp at c
   |some x=>simp at c;rw[<- c];exact⟨C x rfl,(e.block rfl).1⟩)
  have ag:Mod f w w5:=(by refine Qn (Qn H (I.mono fun b _ c=>K b c)) ?_;exact(Mod.of_ext i.ext).trans (Xn U fun b c=>.inr (Xm e b c)))
  have D:∀a,O=some a->¬s a.block:=by
   intro x hx d;have aq:=af _ _ _ R _ d;subst hx;rcases D with h|h|h
   .exact C x h.symm d
   .cases A with
    |none=>simp at h
    |some y=>simp at h;rw[h]at d;exact C y rfl d
   .simp at h;omega
  generalize ao:Q++[((k:Int),n,IntKind.i64.wrap (n*Qvy m))]=Y at V j⊢;refine Hh ?_;refine⟨_,wrap_succ Om,Hh ?_⟩;refine⟨(k+1,O,Z,Y),Sj,⟨Sj,j.symm,⟨s,ae,fun b c=>?_,D⟩,ag,V⟩,Rr⟩;rcases S b c with h|h
  .exact K b h
  .exact .inr Om
 .intro L;have L:k=6:=(by have:¬(k:Int)<6:=Su L;omega);subst L;rw[<- v];have aa:(.slice A 6 cap:Value)=.slice A Q.length cap:=by rw[ai]
  refine Hh ?_;refine(Q7d Q A cap o (e.sl Q0h) Om).mono ?_;rintro _ W ⟨rfl,N⟩;refine Hh ?_;exact⟨A,cap,T,by rw[aa],e.ext N,u _ _ _ _ E (Mod.of_ext N),K,z,H.trans (Mod.of_ext N)⟩
def ones(_:Nat):Int:=1
