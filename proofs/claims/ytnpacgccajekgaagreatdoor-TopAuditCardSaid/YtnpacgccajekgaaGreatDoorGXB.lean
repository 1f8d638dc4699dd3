import Derived.Test.YtnpacgccajekgaaGreatDoorGM
set_option linter.all false
namespace Go.Proofs.YtnpacgccajekgaaGreatDoor
open Go.Se Go.RowKit
theorem Qrf(name t):∀cs:List Ev,t∈(Qy cs name).map (·.at_)↔∃x∈cs,x.item=name/\x.at_=t:=by
 refine Qw (by simp[Qy]) fun cs e b=>?_
 have hx:(∃x∈cs++[e],x.item=name/\x.at_=t)↔(∃x∈cs,x.item=name/\x.at_=t)\/(e.item=name/\e.at_=t):=by
  constructor
  .rintro ⟨x,hx,h⟩;rcases Zj.1 hx with hx|hx
   .exact .inl ⟨x,hx,h⟩
   .rw[Zl]at hx;subst hx;exact .inr h
  .rintro (⟨x,hx,h⟩|h)
   .exact⟨x,by simp[hx],h⟩
   .exact⟨e,by simp,h⟩
 rw[Qbg,hx,<- b];unfold Qfn Qm6
 by_cases a:name=e.item
 .subst a;rw[if_pos rfl,Zp,Zj,Zm,Zbk,Zl];have:(Qfj (Qy cs e.item) e).at_=e.at_:=Qgi _ _;rw[this];constructor
  .rintro (h|h)
   .exact .inl h
   .exact .inr ⟨rfl,h.symm⟩
  .rintro (h|⟨_,h⟩)
   .exact .inl h
   .exact .inr h.symm
 .rw[if_neg a];constructor
  .exact .inl
  .rintro (h|⟨h,_⟩)
   .exact h
   .exact absurd h.symm a
def Qdw(cs:List Ev)(t:Int)(name:Bj):Bool:=(Xz cs name t).2&&(Xz cs name t).1.listed
theorem Xed(it w):Cal Tryz.prog 367 [.agg (itC it).toArray] w fun r w'=>r=.bool true/\Ext w w':=by
 refine Fi Tryz.func367 rfl _ rfl rfl (Hh ?_);intro b c a;refine Gg ?_;exact⟨rfl,a.ext⟩
theorem Xce{w S b cs L}(h:Qbu stC 9 229 w S b (Qy cs) L):L.length<=cs.length:=by
 have f:(L.map (·.1)).Nodup:=Qah h.keys;have a:∀x∈L.map (·.1),x∈cs.map (·.item):=fun x hx=>(by obtain⟨y,i,rfl⟩:=Zh.1 hx;have g:=h.ne y i;obtain⟨s,a⟩:=List.exists_mem_of_ne_nil _ g;obtain⟨e,c,d,_⟩:=(Qrf y.1 s.at_ cs).1 (Zh.2 ⟨s,a,rfl⟩);exact Zh.2 ⟨e,c,d⟩)
 have:=Qeg f a;simpa using this
theorem Xgq{α:Type}(rows:Bj->List α)(L):(toV rows L).map (·.1)=L.map (·.1):=by unfold toV;rw[Zz];rfl
set_option maxHeartbeats 1000000 in
theorem Q1t(w S p cs)(h:Qgl w S p cs)(t)(az:∀name,(Qy cs name).length<1000000000000)(bi:cs.length<100000) :
 Cal Tryz.prog 366 [Pj p,Vj t,.func (.func 367) #[] #[]] w fun r w'=>∃A c K,r=.slice A (Xh K).length c/\SlT w' A (Xh K)/\K.Nodup/\(∀x,x∈K↔Qdw cs t x=true)/\K.length<1000000/\(∀a,A=some a->w.heap.size<=a.block)/\Ext w w':=by
 obtain⟨i,L,m⟩:=id h;have bg:=Xce m.rows;have ay:(L.map (·.1)).Nodup:=Qah m.rows.keys
 have aw:∀x,Qdw cs t x=true->x∈L.map (·.1):=fun x hx=>by
  rw[Qnp]
  cases b:Qe L x with
  |some v=>rfl
  |none =>
   have ao:=m.rows.all x b;unfold Qdw Xz at hx;rw[ao]at hx;simp at hx
 have Y:=m.rows.map;refine Fi Tryz.func366 rfl _ rfl rfl (Hh ?_);refine⟨.map (some i),m.head.one rfl,Gg ?_⟩;refine map_range Qyf Y fun g B ae=>?_
 have a3:w.heap.size<g.heap.size:=B.lt;generalize bl:w.heap.size=r at B a3⊢;refine Gg ?_
 refine Qh Qb (fun(q:List (Bj×Value)×Option Addr×Nat×List Bj) w'=>Ext w w'/\Iter w' r i Value.string (toV (Qy cs) L) q.1/\q.2.2.2=(q.1.map (·.1)).filter (Qdw cs t)/\q.1.length<=L.length/\Own Qac 1 9 g.heap.size w' q.2.1 q.2.2.1 q.2.2.2/\g.heap.size<=w'.heap.size)
  (fun|(d,A,c,K)=>[(0,Pj p),(1,Vj t),(2,.func (.func 367) #[] #[]),(7,.slice A K.length c),(15,Pj r)]) (fun q=>L.length-q.1.length) ([],none,0,[]) ⟨ae,B,rfl,Zt _,Own.nil,Zf _⟩ Rr ?_
 clear B ae;rintro ⟨d,A,c,K⟩ a7 ⟨af,R,n,a5,o,a9⟩;simp only at R n a5 o;have be:K.length<=d.length:=(by rw[n];have:=Zc (Qdw cs t) (d.map (·.1));rw[Zg]at this;exact this);refine Hh ?_;refine Qff R (fun a0=>?_) (fun x w5 bm bk W U J au=>?_)
 .refine Gg ?_;constructor
  .intro H;cases H
  intro _;have ac:(d.map (·.1)).Perm (L.map (·.1)):=(by have:=a0.map (·.1);rw[Xgq]at this;exact this);have ar:K.Nodup:=by rw[n];exact(ac.nodup_iff.2 ay).sublist Zax
  have aq:∀x,x∈K↔Qdw cs t x=true:=fun x=>(by rw[n,Ze];exact⟨fun h=>h.2,fun h=>⟨ac.mem_iff.2 (aw x h),h⟩⟩)
  refine Gg ?_;refine(Qmz K A c g.heap.size a7 o Om).mono ?_;rintro _ w5 ⟨rfl,a4,D⟩;refine Gg ?_;refine⟨A,c,K,?_,a4,ar,aq,Om,fun a F=>by have:=(o.block F).1;omega,D w af Om⟩;rw[Qcn]
 .have D:=J.ext af Om;have aa:Own Qac 1 9 g.heap.size w5 A c K:=o.keep fun a F=>J.block _ (by have:=(o.block F).1;omega)
  have W:d.length<L.length:=by simpa [toV] using W
  have s:((d++[x]).map (·.1)).filter (Qdw cs t)=K++if Qdw cs t x.1=true then [x.1] else []:=by
   rw[Zp,Zq,n];congr 1
   by_cases b:Qdw cs t x.1=true
   .simp[b]
   .simp[b]
  have bo:=J.size;refine Gg ?_;constructor
  .intro _;refine Gg ?_;refine Qa1 (au w5 rfl rfl) ?_;refine Gg ?_;refine(Xa w5 S p cs (h.ext D) x.1 t (az x.1)).mono ?_;rintro _ O ⟨rfl,u⟩;refine Gg ?_;intro al bs C;refine Gg ?_;refine Qc Qb (e:=ty152) rfl C.At rfl rfl rfl (by simp[Qg,itC,Value.oneCell']) fun y j Z=>?_
   have j:At y al 152 (itC (Xz cs x.1 t).1):=j;have ag:Ext w5 y:=Z.ext (u.trans C.ext) (by rw[C.block];exact u.size);clear Z C u;refine Gg ?_;refine⟨.bool (Xz cs x.1 t).1.listed,fun _=>j.one rfl,Gg ?_⟩;refine⟨itC (Xz cs x.1 t).1,fun _=>⟨rfl,j.all⟩,Gg ?_⟩;refine⟨Unit,fun _=>(.bool true),fun _ w'=>Ext y w',(),fun bj=>((Xed (Xz cs x.1 t).1 y)).mono fun r w' h=>⟨(),h.1,h.2⟩,?_⟩;intro _ a8 P
   have ah:Ext y a8:=by
    rcases P with⟨_,h⟩|⟨_,h⟩
    .exact h
    .rw[h];exact Ext.refl _
   clear P;refine Hh ?_;have E:=ag.trans ah;have V:=U.ext E;have M:=aa.ext E;have ai:=D.trans E;have bq:=E.size;clear ag ah j U aa;refine Gg ?_;constructor
   .intro b;have b:Qdw cs t x.1=true:=(by have:(((Xz cs x.1 t).2&&(Xz cs x.1 t).1.listed)&&true)=true:=b;rw[Zdg]at this;exact this);rw[if_pos b]at s;refine Gg ?_;intro bb wb f;refine Gg ?_;refine Qq Xp (l:=K) (news:= [x.1]) rfl (M.ext f.ext) rfl (Xp.new1 (x:=x.1) f) (by simp;omega) (by have:=f.size;omega) fun aj an O ab z bd=>?_
    have N:∀k,A.map (·.block)=some k->g.heap.size<=k:=Xm (M.ext f.ext);have u:Ext w O:=Qu (ai.trans f.ext) z (fun k ax=>by have:=N k ax;omega);have av:Iter O r i Value.string (toV (Qy cs) L) (d++[x]):=(by have I:=V.ext f.ext;have bh:=Y.lt;exact I.keep (z.block i I.map.lt fun e=>by have:=N i e.symm;omega) (z.block r I.lt fun e=>by have:=N r e.symm;omega));have br:=f.size;have bp:=z.size;generalize K++[x.1]=ak at ab s⊢;refine Gg ?_;exact⟨(d++[x],aj,an,ak),by simp;omega,⟨u,av,s.symm,by simp;omega,ab,Om⟩,Rr⟩
   .intro b;have b:¬Qdw cs t x.1=true:=fun h=>(by have:(((Xz cs x.1 t).2&&(Xz cs x.1 t).1.listed)&&true)=false:=b;rw[Zdg]at this;unfold Qdw at h;rw[this]at h;cases h)
    rw[if_neg b,Z4]at s;refine Gg ?_;exact⟨(d++[x],A,c,K),by simp;omega,⟨ai,V,s.symm,by simp;omega,M,Om⟩,Rr⟩
  .intro H;cases H
theorem Q0b(w S p cs)(h:Qgl w S p cs)(t)(k:∀name,(Qy cs name).length<1000000000000)(j:cs.length<100000) :
 Cal Tryz.prog 312 [Pj p,Vj t] w fun r w'=>∃A c K,r=.slice A (Xh K).length c/\SlT w' A (Xh K)/\K.Nodup/\(∀x,x∈K↔Qdw cs t x=true)/\K.length<1000000/\(∀a,A=some a->w.heap.size<=a.block)/\Ext w w':=by
 refine Fi Tryz.func312 rfl _ rfl rfl (Hh ?_);refine(Q1t w S p cs h t k j).mono ?_;rintro _ l ⟨A,c,K,rfl,b,d,e,f,g,i⟩;refine Gg ?_;exact⟨A,c,K,rfl,b,d,e,f,g,i⟩
theorem Q5y(w S p cs)(h:Qgl w S p cs)(t)(j:∀name,(Qy cs name).length<1000000000000)(i:cs.length<100000) :
 Cal Tryz.prog 312 [Pj p,Vj t] w fun r w'=>∃A c K,r=.slice A (Xh K).length c/\SlT w' A (Xh K)/\K.Nodup/\(∀x,x∈K↔Qdw cs t x=true)/\K.length<1000000/\Ext w w':=
 (Q0b w S p cs h t j i).mono fun r w' ⟨A,c,K,a,b,d,e,f,_,g⟩=>⟨A,c,K,a,b,d,e,f,g⟩
def Qgy(l:List Ct):List Ct:=l.mergeSort fun a b=>!Qmm b a
theorem Xfe(a b c)(k:Qmm b a=false)(l:Qmm c b=false):Qmm c a=false:=by
 unfold Qmm at*;simp only[Bool.or_eq_false_iff,decide_eq_false_iff_not,Zb1]at*;refine⟨Om,?_⟩
 by_cases e:c.2=a.2
 .right
  have i:b.2=a.2:=Om;have j:c.2=b.2:=Om;have m:bLt b.1 a.1=false:=k.2.elim (fun h=>absurd i h) id;have f:bLt c.1 b.1=false:=l.2.elim (fun h=>absurd j h) id
  cases d:bLt c.1 a.1 with
  |false=>rfl
  |true =>
   cases g:bLt a.1 b.1 with
   |true=>rw[Qb3 d g]at f;cases f
   |false=>rw[Qb4 g m,f]at d;cases d
 .exact .inl e
theorem Q5u(a b):((!Qmm b a)||(!Qmm a b))=true:=by
 cases h:Qmm b a with
 |false=>rfl
 |true =>
  cases c:Qmm a b with
  |false=>rfl
  |true =>
   unfold Qmm at h c;simp only[Zbg,decide_eq_true_eq,Zk]at h c;exfalso;have e:a.2=b.2:=Om;have d:bLt b.1 a.1=true:=by rcases h with h|h;omega;exact h.2
   have f:bLt a.1 b.1=true:=by rcases c with h|h;omega;exact h.2
   have:=Qb3 d f;rw[Xu]at this;cases this
theorem Qgd(l):(Qgy l).Perm l:=Zby _ _
theorem Xcv(l):Srt Qmm (Qgy l):=by
 have:=Zbf (le:=fun a b=>!Qmm b a) (fun a b c d e=>by
  simp only[Zam]at*;exact Xfe a b c d e) Q5u l
 exact this.imp fun h=>Su h
theorem Qut{F L}(e:F.Perm L)(f:Srt Qmm F):F=Qgy L:=by
 refine Ql5 (e.trans (Qgd L).symm) f (Xcv L) fun x _ y _ b c=>?_
 unfold Qmm at b c;simp only[Bool.or_eq_false_iff,decide_eq_false_iff_not,Zb1]at b c;have a:x.2=y.2:=Om;have d:x.1=y.1:=(by have g:bLt x.1 y.1=false:=b.2.elim (fun h=>absurd a h) id;have i:bLt y.1 x.1=false:=c.2.elim (fun h=>absurd a.symm h) id;exact Qb4 g i);exact Prod.ext d a
def Qcy(z:List Ev)(now:Int):List Bj:=Qci (((Qm z).map (·.item)).filter (Qdw (Qm z) now))
def Qhe(s:Qmb)(half now:Int):List Ct:=((s.map (·.1)).map fun k=>(k,Qb6 s half k now)).filter fun x=>decide (0<x.2)
def Qmj(S:List Sn):List Bj:=Qci (S.flatMap (·.items))
def Qew(S:List Sn)(a:Bj):List Bj:=Qci ((S.flatMap (·.items)).filter fun b=>!decide (a=b)&&decide (0<Qd6 S a b))
theorem Q6o{S a}:0<Qa6 S a↔a∈S.flatMap (·.items):=by
 unfold Qa6 hasB;rw[List.length_pos_iff_exists_mem,Zbh];simp only[Ze,decide_eq_true_eq]
theorem Xjs{S a b}(h:0<Qd6 S a b):b∈S.flatMap (·.items):=by
 unfold Qd6 hasB at h;rw[List.length_pos_iff_exists_mem]at h;obtain⟨s,c⟩:=h;simp only[Ze,Zk,decide_eq_true_eq]at c;exact Zbh.2 ⟨s,c.1,c.2.2⟩
theorem Q2q{m:List (Bj×Int)}(h:∀x∈m,0<x.2){a}:a∈m.map (·.1)↔0<(Qe m a).getD 0:=by
 rw[Qnp]
 cases b:Qe m a with
 |none=>simp
 |some v=>simpa using h (a,v) (Qax b)
theorem TabIs.items{sg ct S}(h:TabIs sg ct S)(a:sg.Pairwise (fun x y=>x.1≠y.1)):Xh (sg.map (·.1))=Qmj S:=by
 refine Qh4 (Qah a) fun x=>?_
 rw[Q2q h.pos.1,h.sg,<- Q6o];omega
theorem Qtz{S a b}:b∈(S.flatMap (·.items)).filter (fun b=>!decide (a=b)&&decide (0<Qd6 S a b))↔a≠b/\0<Qd6 S a b:=by
 rw[Ze,Zk,Zam,decide_eq_false_iff_not,decide_eq_true_eq];exact⟨fun h=>h.2,fun h=>⟨Xjs h.2,h⟩⟩
theorem TabIs.near{sg ct S}(h:TabIs sg ct S){a m}(b:Qe ct a=some m)(c:m.Pairwise (fun x y=>x.1≠y.1)):Xh (m.map (·.1))=Qew S a:=by
 refine Qh4 (Qah c) fun x=>?_
 rw[Q2q (h.pos.2 (a,m) (Qax b)),Qtz];have:=h.ct a x;rw[b]at this;simp only[Zas]at this;rw[this]
 by_cases hx:a=x
 .simp[hx]
 .rw[if_neg hx];exact⟨fun h=>⟨hx,Om⟩,fun h=>by have:=h.2;omega⟩
theorem TabIs.near0{sg ct S}(h:TabIs sg ct S){a}(d:Qe ct a=none):Qew S a=[]:=by
 have:∀x,x∉Qew S a:=fun x hx=>(by unfold Qew at hx;rw[Qaa,Qtz]at hx;have b:=h.ct a x;rw[d]at b;rw[if_neg hx.1]at b;have c:(Qe ((none:Option (List (Bj×Int))).getD []) x).getD 0=0:=rfl;rw[c]at b;omega)
 cases e:Qew S a with
 |nil=>rfl
 |cons y f=>exact absurd (by rw[e];simp) (this y)
theorem Q68{z}(f:∀e∈z,Xy e=true){e}(c:e∈Qm z):Qo e.item=true:=by
 obtain⟨a,b⟩:=Ze.1 c;have d:=Qbq (Qcf.1 (f e a)).kind;have g:e.kind=11\/e.kind=12\/e.kind=13:=by simpa [thB] using b
 rcases d with⟨h,_⟩|⟨h,_⟩|⟨h,_⟩|⟨_,_,h,_⟩|⟨_,_,h,_⟩|⟨_,_,h,_⟩|⟨h,_⟩
 .omega
 .omega
 .omega
 .exact h
 .exact h
 .exact h
 .omega
theorem Qu4{z:List Ev}(d:∀e∈z,Xy e=true){e}(c:e∈z.filter wpB):Qo e.person=true/\Qo e.item=true:=by
 obtain⟨a,b⟩:=Ze.1 c;exact Qe0 (d e a) (by simpa [wpB] using b)
def ItB(i:It):Prop:=i.maker.size<1000/\i.tags.size<1000/\(0<=i.price/\i.price<=1099511627776)/\(0<=i.stock/\i.stock<=1099511627776)/\0<=i.born/\i.born<=1099511627776
theorem Qzw(name):ItB { Qb0 with name:=name }:=by
 have h:(⟨#[]⟩:Bj).size=0:=rfl;unfold ItB Qb0;simp only[h];omega
theorem Xno{s e}(h:ItB s.item)(b:Xy e=true)(n:e.kind=11\/e.kind=12\/e.kind=13):ItB (Qce s e).item:=by
 have i:=Qbq (Qcf.1 b).kind;have l:=(Qcf.1 b).at_;obtain⟨c,d,f,g,a⟩:=h;have o:=Qku e.text;have u:=Qdn b;unfold Qce;split
 .next k =>
  have j:Qc8 e.text=true/\0<=e.val/\e.val<=1048576:=by
   rcases i with⟨h,_⟩|⟨h,_⟩|⟨h,_⟩|⟨_,_,_,h⟩|⟨h,_⟩|⟨h,_⟩|⟨h,_⟩
   .omega
   .omega
   .omega
   .exact h
   .omega
   .omega
   .omega
  have m:Qo (Qcw e.text)=true:=(by have:=j.1;unfold Qc8 at this;simp only[Zk]at this;exact this.1.2);have r:=Qcg m;refine⟨by show (Qcw e.text).size<1000;omega,by show (Qbf e.text).size<1000;omega,by show 0<=e.val/\e.val<=_;omega,g,?_⟩;show 0<=(if s.born=true then s.item.born else e.at_)/\(if s.born=true then s.item.born else e.at_)<=_
  split
  .exact a
  .exact l
 .split
  .next k =>
   have j:0<=e.val/\e.val<=1048576:=by
    rcases i with⟨h,_⟩|⟨h,_⟩|⟨h,_⟩|⟨h,_⟩|⟨_,_,_,_,h⟩|⟨h,_⟩|⟨h,_⟩
    .omega
    .omega
    .omega
    .omega
    .exact h
    .omega
    .omega
   exact⟨c,d,f,by show 0<=e.val/\e.val<=_;omega,a⟩
  .exact⟨c,d,f,g,a⟩
theorem Q4h:∀cs:List Ev,(∀e∈cs,Xy e=true/\(e.kind=11\/e.kind=12\/e.kind=13))->∀name,∀s∈Qy cs name,ItB s.item:=by
 refine Qw (fun _ name s a=>by simp[Qy]at a) fun g e b h name s a=>?_
 have b:=b (fun x hx=>h x (by simp[hx]));obtain⟨c,d⟩:=h e (by simp);rw[Qbg]at a;unfold Qfn Qm6 at a;split at a
 .rcases Zj.1 a with a|a
  .exact b _ s a
  .rw[Zl]at a;subst a;unfold Qfj;refine Xno ?_ c d
   cases f:(Qy g e.item).getLast? with
   |none=>exact Qzw _
   |some s=>exact b _ s (Zbu f)
 .exact b name s a
theorem Xin{z}(c:∀e∈z,Xy e=true)(name t):ItB (Xz (Qm z) name t).1:=by
 have b:=Q4h (Qm z) (fun e a=>⟨c e (Ze.1 a).1,by simpa [thB] using (Ze.1 a).2⟩) name;unfold Xz;split
 .next s d =>
  split
  .exact Qzw ⟨#[]⟩
  .exact b s (Zap d)
 .exact Qzw ⟨#[]⟩
theorem Qw6(z now):(Qcy z now).length<=z.length:=by
 unfold Qcy;have b:=Qnt (((Qm z).map (·.item)).filter (Qdw (Qm z) now));have a:=Zc (Qdw (Qm z) now) ((Qm z).map (·.item));have c:(Qm z).length<=z.length:=Zc thB z;rw[Zg]at a;omega
theorem Q9b:∀l:List Ev,(Qje l).length<=l.length/\∀x∈Qje l,∃e∈l,e.item=x.1:=by
 refine Qw ⟨by simp[Qje],fun x hx=>by simp[Qje]at hx⟩ fun l e b=>?_
 rw[Qoq,Zo,Zar];unfold Qr8;split
 .exact⟨Om,fun x hx=>by obtain⟨u,a,h⟩:=b.2 x hx;exact⟨u,by simp[a],h⟩⟩
 .have:=Qcb e.item (Xe ((Qe (Qje l) e.item).getD []) e.at_ ((Qe ((Qe (Qje l) e.item).getD []) e.at_).getD 0+Qz e)) (Qje l);refine⟨Om,fun x hx=>?_⟩;rcases Qby hx with h|hx
  .exact⟨e,by simp,by rw[h]⟩
  .obtain⟨u,a,h⟩:=b.2 x hx;exact⟨u,by simp[a],h⟩
theorem Xf1(width):∀l:List Ev,(Qvb width l).length<=l.length/\∀x∈Qvb width l,∃e∈l,e.item=x.1.1:=by
 refine Qw ⟨by simp[Qvb],fun x hx=>by simp[Qvb]at hx⟩ fun l e b=>?_
 rw[Qug,Zo,Zar];unfold Qr7;split
 .exact⟨Om,fun x hx=>by obtain⟨u,a,h⟩:=b.2 x hx;exact⟨u,by simp[a],h⟩⟩
 .have:=Qcb (e.item,e.at_/Xf width) ((Qe (Qvb width l) (e.item,e.at_/Xf width)).getD 0+Qz e) (Qvb width l);refine⟨Om,fun x hx=>?_⟩;rcases Qby hx with h|hx
  .exact⟨e,by simp,by rw[h]⟩
  .obtain⟨u,a,h⟩:=b.2 x hx;exact⟨u,by simp[a],h⟩
def Xk1(l:List Ev)(q:Sn):Prop:=(∃e∈l,e.person=q.person)/\(∃e∈l,e.at_=q.from_)/\(∃e∈l,e.at_=q.to_)/\∀a∈q.items,∃e∈l,e.item=a
theorem Xj6{gap l d e}(c:e∈l)(h:∀q∈d,Xk1 l q):∀q∈Qbv gap d (adE e),Xk1 l q:=by
 intro q a;have j:Xk1 l ⟨(adE e).1,(adE e).2.1,(adE e).2.1,[(adE e).2.2]⟩:=⟨⟨e,c,rfl⟩,⟨e,c,rfl⟩,⟨e,c,rfl⟩,fun i b=>⟨e,c,by rw[Zl]at b;rw[b];rfl⟩⟩;unfold Qbv at a;split at a
 .next g k =>
  have f:=h g (Zbu k);split at a
  .rcases Zj.1 a with a|a
   .exact h q (List.dropLast_subset _ a)
   .rw[Zl]at a;subst a;refine⟨⟨e,c,rfl⟩,f.2.1,⟨e,c,rfl⟩,fun i b=>?_⟩;rcases Qke.1 b with b|b
    .exact f.2.2.2 i b
    .exact⟨e,c,by rw[b];rfl⟩
  .rcases Zj.1 a with a|a
   .exact h q a
   .rw[Zl]at a;subst a;exact j
 .rcases Zj.1 a with a|a
  .exact h q a
  .rw[Zl]at a;subst a;exact j
theorem all_in(gap l):∀L:List Ad3,(∀a∈L,a∈l.map adE)->∀q∈allL gap L,Xk1 l q:=by
 refine Qw (fun _ q c=>by simp[allL]at c) fun L a d h=>?_
 rw[Qjx];obtain⟨e,b,rfl⟩:=Zh.1 (h a (by simp));exact Xj6 b (d fun x hx=>h x (by simp[hx]))
theorem Xl6(c z):∀q∈Qhd c z,Xk1 (z.filter wpB) q:=by
 intro q b;unfold Qhd at b;rw[<- Xcu _ (Q9n _).1]at b;exact all_in _ _ _ (fun a d=>(Qrr _).1 d) q b
theorem Qte(c z){x}(h:x∈(Qhd c z).flatMap (·.items)):x∈(z.filter wpB).map (·.item):=by
 obtain⟨q,b,hx⟩:=Zbh.1 h;obtain⟨e,a,rfl⟩:=(Xl6 c z q b).2.2.2 x hx;exact Zh.2 ⟨e,a,rfl⟩
theorem Xc6{z:List Ev}{K:List Bj}(b:K.Nodup)(h:∀x∈K,x∈(z.filter wpB).map (·.item)):K.length<=z.length:=by
 have a:=Qeg b h;have c:=Zc wpB z;rw[Zg]at a;omega
theorem Q99(c z):(Qmj (Qhd c z)).length<=z.length:=Xc6 (Qdi _) fun x hx=>by
 unfold Qmj at hx;exact Qte c z (Qaa.1 hx)
theorem Xfj(c z a):(Qew (Qhd c z) a).length<=z.length:=Xc6 (Qdi _) fun x hx=>by
 unfold Qew at hx;exact Qte c z (Ze.1 (Qaa.1 hx)).1
theorem Xa2{c z}(d:∀e∈z,Xy e=true){a x}(h:x∈Qew (Qhd c z) a):Qo x=true:=by
 unfold Qew at h;obtain⟨e,b,rfl⟩:=Zh.1 (Qte c z (Ze.1 (Qaa.1 h)).1);exact(Qu4 d b).2
open Go.Maps Go.Sort Go.Shelf
theorem Qru(a w):Cal Tryz.prog 393 [.map a] w fun r w'=>r=.func (.func 420) #[] #[Pj w.heap.size]/\w'.cell? ⟨w.heap.size,0,none⟩=some (.map a)/\Ext w w':=
 Qf8 Tryz.keys393 ⟨_,Tryz.func393,rfl,rfl⟩ a w
theorem Qxy{w a b}{L:List (Bj×Value)}(g:w.cell? ⟨a,0,none⟩=some (.map (some b)))(j:MapAt w b Value.string L)(h:∀x∈L,x.1.size<=1000000)(i:L.length<=1000000000) :
 Cal Tryz.prog 114 [.func (.func 420) #[] #[Pj a]] w fun r w'=>∃A c,r=.slice A (Xh (L.map (·.1))).length c/\Own Qac 1 9 w.heap.size w' A c (Xh (L.map (·.1)))/\Ext w w':=by
 obtain⟨N,Q,d,e,f⟩:=Qhr { Tryz.keys393 with } g j h i;exact Qd1 Tryz.sorted114 Qx1 (enters_of Tryz.func182 Kr rfl) (enters_of Tryz.func420 Kr rfl) ⟨_,Tryz.func114,rfl,rfl⟩ e d f
theorem Q02{w a}(b:w.cell? ⟨a,0,none⟩=some (.map none)) :
 Cal Tryz.prog 114 [.func (.func 420) #[] #[Pj a]] w fun r w'=>∃A c,r=.slice A 0 c/\Own Qac 1 9 w.heap.size w' A c []/\Ext w w':=by
 have:=Qd1 Tryz.sorted114 Qx1 (enters_of Tryz.func182 Kr rfl) (enters_of Tryz.func420 Kr rfl) ⟨_,Tryz.func114,rfl,rfl⟩ (l:= []) (fun ss (h:ss=[])=>by rw[h];exact Za9 _) (Zt _) (AnyZ.keys_gives_nil { Tryz.keys393 with } Fence.wide 2 trivial rfl a w (cell_lt b) b);simp only[Qgf,Qp3,Zae]at this;exact this
theorem Q55(w S p Ss)(h:Qb2 w S p Ss)(a)(F:∀x∈Qew Ss a,x.size<=1000000)(P:(Qew Ss a).length<=1000000) :
 Cal Tryz.prog 359 [Pj p,.string a] w fun r w'=>∃A c,r=.slice A (Qew Ss a).length c/\SlT w' A (Qew Ss a)/\(∀a,A=some a->w.heap.size<=a.block)/\Ext w w':=by
 obtain⟨t,sh,I,⟨sg,ct,N,O,s,o⟩,_⟩:=h;refine Fi Tryz.func359 rfl _ rfl rfl (Hh ?_);refine⟨_,I.one rfl,Gg ?_⟩;refine⟨_,s.head.one rfl,Gg ?_⟩;rcases s.ct.look Qa5 Qyh (Qr Xd) (e:=ty125) ty125_ok rfl a with⟨H,k⟩|⟨z,m,M,J,k,C,_,_⟩
 .have B:=o.near0 H;rw[B];refine⟨_,k .same Qs,Gg ?_⟩;refine(Qru none w).mono ?_;rintro _ K ⟨rfl,j,d⟩;refine Gg ?_;refine(Q02 j).mono ?_;rintro _ L ⟨f,g,rfl,b,l⟩;refine Gg ?_;exact⟨f,g,rfl,b.sl Qv,fun a i=>Zw d.size (b.block i).1,d.trans l⟩
 .have v:=C.2;have E:m.Pairwise (fun x y=>x.1≠y.1):=(by have:=v.keys;unfold Xj at this;rw[Z5]at this;exact this);have hit:=o.near J E;have u:(Xj vi m).map (·.1)=m.map (·.1):=by unfold Xj;rw[Zz];rfl
  have R:m.length<=1000000:=(by have:=congrArg List.length hit;rw[Qcn,Zg]at this;omega);have D:∀x∈Xj vi m,x.1.size<=1000000:=fun x hx=>(by have n:x.1∈(Xj vi m).map (·.1):=Zh.2 ⟨x,hx,rfl⟩;rw[u,<- Qge,hit]at n;exact F _ n)
  refine⟨_,k .same Qs,Gg ?_⟩;refine(Qru (some z) w).mono ?_;rintro _ K ⟨rfl,j,d⟩;refine Gg ?_;refine(Qxy j (v.ext d) D (by unfold Xj;rw[Zg];omega)).mono ?_;rintro _ L ⟨f,g,rfl,b,l⟩;rw[u,hit]at b⊢;refine Gg ?_;exact⟨f,g,rfl,b.sl Qv,fun a i=>Zw d.size (b.block i).1,d.trans l⟩
