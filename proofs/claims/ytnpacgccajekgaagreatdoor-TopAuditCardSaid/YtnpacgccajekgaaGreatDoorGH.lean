import Derived.Laws.IdiomRangeMap
import Derived.Test.YtnpacgccajekgaaGreatDoorGE
import Derived.Test.YtnpacgccajekgaaGreatDoorHKeyL
set_option linter.all false
namespace Go.Proofs.YtnpacgccajekgaaGreatDoor
open Go.Se Go.RowKit
theorem Qma(a b):IntKind.i64.wrap (IntKind.i64.wrap a+b)=IntKind.i64.wrap (a+b):=by
 simp only[IntKind.wrap,IntKind.bits,IntKind.signed];simp;split<;>split<;>split<;>omega
theorem Q7m(a b):IntKind.i64.wrap (a+IntKind.i64.wrap b)=IntKind.i64.wrap (a+b):=by
 rw[Int.add_comm,Qma,Int.add_comm]
theorem Xd1:IntKind.i64.wrap 0=0:=by decide
def Qaw(age half:Int):Int:=if age<0 then 0 else if 20<age/max half 1 then 0 else(1048576:Int).fdiv (2^(age/max half 1).toNat)
theorem Qg1(age half)(i:-4611686018427387904<=age/\age<=9223372036854775807)(w) :
 Cal Tryz.prog 240 [Vj age,Vj half] w fun r w'=>r=Vj (Qaw age half)/\w'=w:=by
 have g:max half 1≠0:=Om;refine Fi Tryz.func240 rfl _ rfl rfl (Hh ?_);constructor
 .intro a;have a:age<0:=Su a;refine Hh ?_;exact⟨by rw[Qaw,if_pos a],rfl⟩
 .intro a;have a:¬age<0:=Su a;have e:age.tdiv (max half 1)=age/max half 1:=Zcw Om;have c:0<=age/max half 1:=Zdf Om Om;have f:age/max half 1<=age:=Zcx _ Om;have d:Qaw age half=if 20<age/max half 1 then 0 else(1048576:Int).fdiv (2^(age/max half 1).toNat):=by rw[Qaw,if_neg a]
  rw[d];clear d;refine Hh ?_;refine⟨age/max half 1,⟨g,wrap_eq e.symm ⟨Om,Om⟩⟩,Hh ?_⟩;generalize age/max half 1=n at c f⊢;constructor
  .intro b;have b:20<n:=Su b;refine Hh ?_;exact⟨by rw[if_pos b],rfl⟩
  .intro b;have b:¬20<n:=Su b;have h:min n.toNat IntKind.i64.bits=n.toNat:=by simp only[IntKind.bits];omega
   refine Hh ?_;refine⟨(1048576:Int).fdiv (2^n.toNat),⟨c,by rw[h]⟩,Hh ?_⟩;exact⟨by rw[if_neg b],rfl⟩
def Qq4(half now:Int)(r:List (Int×Int)):Int:=(r.map fun x=>x.2*Qaw (now-x.1) half).sum
theorem Q3c{l m:List Int}(h:l.Perm m):l.sum=m.sum:=by
 induction h with
 |nil=>rfl
 |cons a _ e=>simp[e]
 |swap a b l=>simp only[Za8];omega
 |trans _ _ c d=>exact c.trans d
theorem Q60{half now r s}(h:r.Perm s):Qq4 half now r=Qq4 half now s:=Q3c (h.map _)
def Qb6(s:Qmb)(half:Int)(key:Bj)(now:Int):Int:=IntKind.i64.wrap (Qq4 half now ((Qe s key).getD []))
theorem Xbq{P w mt b a}(c:P.underlying mt=some (.map b a)){R}
 (h:∀w',Ext w w'->w'.heap[w.heap.size]?=some (.mapIter none 0 #[] 0)->R (Pj w.heap.size) w'):Qi7 P (Instr.range mt (.map none)) w R:=by
 refine⟨_,_,Go.run_range_nilMap w mt b a c,h _ ((Below.refl _ _).alloc (Zf _) _) (heap_alloc_new w _)⟩
theorem Xfk{P w r a b s ty}(c:w.heap[r]?=some (.mapIter none a s b)){R}(h:R (.tuple #[.bool false]) w):Qi7 P (Instr.next (Pj r) false ty) w R:=by
 refine⟨_,_,?_,h⟩;simp only[Instr.next,getObj,Sem.run_bind,Sem.run,c,Result.andThen];rfl
theorem Q7j{vs L:List (Int×Int)}(h:(Xj vi vs).Perm (Xj vi L)):vs.Perm L:=by
 have a:=h.map (fun x:Int×Value=>(x.1,match x.2 with|.int _ n=>n|_=>0));simpa [Xj,Zz,Function.comp_def,vi] using a
theorem Qrj(w S p half n s)(h:Qqr w S p half n s)(key now)(ab:0<=now/\now<=1099511627776)(j:∀r,Qe s key=some r->∀x∈r,0<=x.1/\x.1<=1099511627776) :
 Cal Tryz.prog 327 [Pj p,.string key,Vj now] w fun r w'=>r=Vj (Qb6 s half key now)/\Ext w w':=by
 obtain⟨F,h⟩:=h;have ac:=h.head.lt;have J:=h.head;refine Fi Tryz.func327 rfl _ rfl rfl (Hh ?_);constructor
 .intro l;have l:now<0:=Su l;omega
 intro _;refine Hh ?_;refine⟨.map (some F),h.head.one rfl,Hh ?_⟩;rcases h.sums.look Qaq Xg0 (Qr Xd) (e:=ty331) ty331_ok rfl key with⟨M,g⟩|⟨b,m,Y,B,g,H,Z,_⟩
 .have i:Qb6 s half key now=0:=by unfold Qb6;rw[M];exact Xd1
  rw[i];refine⟨_,g .same Qs,Hh ?_⟩;refine Xbq Q7h fun V R A=>?_
  generalize w.heap.size=r at A⊢;refine Hh ?_;refine Qh Qb (fun(_:Unit) w'=>w'=V) (fun _=>[(19,Pj r),(7,Vj 0)]) (fun _=>0) () rfl Rr ?_;rintro _ W rfl;refine Hh ?_;refine Xfk A ?_;refine Hh ?_;constructor
  .intro c;cases c
  intro _;refine Hh ?_;exact⟨rfl,R⟩
 .have L:=H.2;have j:=j m B;have i:Qb6 s half key now=IntKind.i64.wrap (Qq4 half now m):=by unfold Qb6;rw[B];rfl
  rw[i];refine⟨_,g .same Qs,Hh ?_⟩;refine map_range Q7h L fun W d C=>?_
  have af:w.heap.size<=w.heap.size:=Zf _;generalize ae:w.heap.size=r at d⊢;refine Hh ?_
  refine Qh Qb (fun(q:List (Int×Int)×Int) w'=>Ext w w'/\Iter w' r b vi (Xj vi m) (Xj vi q.1)/\q.2=IntKind.i64.wrap (Qq4 half now q.1))
   (fun|(a,z)=>[(0,Pj p),(2,Vj now),(19,Pj r),(7,Vj z)]) (fun q=>m.length-q.1.length) ([],0) ⟨C,d,Xd1.symm⟩ Rr ?_
  clear d C;rintro ⟨a,z⟩ ah ⟨D,o,k⟩;simp only at o k;refine Hh ?_;refine Qff o (fun f=>?_) (fun x w5 K aa v u N I=>?_)
  .have f:=Q7j f;refine Hh ?_;constructor
   .intro c;cases c
   intro _;refine Hh ?_;exact⟨by rw[k,Q60 f],D⟩
  .obtain⟨y,U,rfl⟩:=Zh.1 K;have v:a.length<m.length:=by simpa [Xj] using v
   have P:Xj vi a++[(y.1,vi y.2)]=Xj vi (a++[y]):=by simp[Xj]
   rw[P]at u;have E:=N.ext D Om;have ag:=j y U;have O:IntKind.i64.wrap (Qq4 half now (a++[y]))=IntKind.i64.wrap (z+IntKind.i64.wrap (y.2*Qaw (now-y.1) half)):=(by rw[k,Qma,Q7m];simp[Qq4]);refine Hh ?_;constructor
   .intro _;refine Hh ?_;refine Qa1 (I w5 rfl rfl) ?_;refine Hh ?_;refine⟨now-y.1,wrap_eq rfl ⟨Om,Om⟩,Hh ?_⟩;refine⟨_,(J.ext E).one rfl,Hh ?_⟩;refine(Qg1 (now-y.1) half ⟨Om,Om⟩ w5).mono ?_;rintro _ _ ⟨rfl,rfl⟩;refine Hh ?_;refine⟨_,rfl,Hh ?_⟩;refine⟨_,rfl,Hh ?_⟩;exact⟨(a++[y],_),by simp;omega,⟨E,u,O.symm⟩,Rr⟩
   .intro c;cases c
instance memDec(a:Bj)(l:List Bj):Decidable (a∈l):=decidable_of_iff (l.any (fun b=>decide (b=a))=true) (by simp)
def wpB(e:Ev):Bool:=decide (0<Qz e)
theorem Xkr{e}(h:wpB e=true):e.kind=1\/e.kind=2\/e.kind=3\/e.kind=4:=by
 have h:0<Qz e:=by simpa [wpB] using h
 unfold Qz at h
 by_cases a:e.kind=1
 .exact .inl a
 by_cases b:e.kind=2
 .exact .inr (.inl b)
 by_cases c:e.kind=3
 .exact .inr (.inr (.inl c))
 by_cases d:e.kind=4
 .exact .inr (.inr (.inr d))
 rw[if_neg a,if_neg b,if_neg c,if_neg d]at h;omega
def Qje(l:List Ev):Qmb:=l.foldl (fun s e=>Qr8 s e.item e.at_ (Qz e)) []
def Qvb(width:Int)(l:List Ev):Qar:=l.foldl (fun s e=>Qr7 s (e.item,e.at_/Xf width) (Qz e)) []
def Qi3(l:List Ev):Ses:=l.foldl (fun s e=>Xd3 s e.person e.at_ e.item) []
theorem Qoq(l e):Qje (l++[e])=Qr8 (Qje l) e.item e.at_ (Qz e):=by unfold Qje;rw[Zv];rfl
theorem Qug(width l e):Qvb width (l++[e])=Qr7 (Qvb width l) (e.item,e.at_/Xf width) (Qz e):=by unfold Qvb;rw[Zv];rfl
theorem Q06(l e):Qi3 (l++[e])=Xd3 (Qi3 l) e.person e.at_ e.item:=by unfold Qi3;rw[Zv];rfl
theorem Qc7(width z):(Qi width z).ds=Qje (z.filter wpB)/\(Qi width z).ps=Qvb width (z.filter wpB)/\(Qi width z).ss=Qi3 (z.filter wpB):=by
 induction z using Qw with
 |h0=>exact⟨rfl,rfl,rfl⟩
 |h1 f a b =>
  rw[Qc6,Zq];unfold Qd9
  cases c:wpB a with
  |true =>
   have e:=Xkr c;have h0:0<Qz a:=by simpa [wpB] using c
   have d:[a].filter wpB=[a]:=by simp[c]
   rw[d,Qoq,Qug,Q06,if_neg Om,if_neg Om,if_pos h0,<- b.1,<- b.2.1,<- b.2.2];exact⟨rfl,rfl,rfl⟩
  |false =>
   have h0:¬0<Qz a:=by simpa [wpB] using c
   have d:[a].filter wpB=[]:=by simp[c]
   rw[d,Z4,<- b.1,<- b.2.1,<- b.2.2];split
   .exact⟨rfl,rfl,rfl⟩
   split
   .exact⟨rfl,rfl,rfl⟩
   exact⟨rfl,rfl,rfl⟩
def Xhn(l:List Ev)(half:Int)(key:Bj)(now:Int):Int:=((l.filter fun e=>decide (e.item=key)).map fun e=>Qz e*Qaw (now-e.at_) half).sum
theorem Q3p(f:Int->Int)(t n):∀r:List (Int×Int),((Xe r t ((Qe r t).getD 0+n)).map fun x=>x.2*f x.1).sum=(r.map fun x=>x.2*f x.1).sum+n*f t
 |[]=>by simp[Xe,Qe]
 |x::r=>by
  have a:=Q3p f t n r;unfold Xe Qe
  by_cases h:t=x.1
  .rw[if_pos h,if_pos h];simp only[Zas,Zm,Za8];rw[Int.add_mul,h];omega
  .rw[if_neg h,if_neg h];simp only[Zm,Za8];rw[a];omega
theorem Xk6(half key now):∀l:List Ev,(∀e∈l,wpB e=true)->Qq4 half now ((Qe (Qje l) key).getD [])=Xhn l half key now:=by
 refine Qw (fun _=>by simp[Qje,Qe,Qq4,Xhn]) fun l e b h=>?_
 have b:=b fun x hx=>h x (by simp[hx])
 have d:0<Qz e:=by simpa [wpB] using h e (by simp)
 rw[Qoq];unfold Xhn Qr8 at*;rw[if_neg Om,Zq,Zp,Zbj,<- b,Xr]
 by_cases a:key=e.item
 .subst a;rw[if_pos rfl];simp only[Zas];have c:=Q3p (fun t=>Qaw (now-t) half) e.at_ (Qz e) ((Qe (Qje l) e.item).getD []);unfold Qq4;rw[c];simp
 .rw[if_neg a];have:decide (e.item=key)=false:=by simp;exact fun h=>a h.symm
  simp[this]
theorem Q2i:∀l:List Ev,∀key r,Qe (Qje l) key=some r->∀x∈r,∃e∈l,e.at_=x.1/\e.item=key:=by
 refine Qw (fun key r h=>by simp[Qje,Qe]at h) fun l e f key r h x hx=>?_
 rw[Qoq]at h;unfold Qr8 at h;split at h
 .obtain⟨y,b,a⟩:=f key r h x hx;exact⟨y,by simp[b],a⟩
 .rw[Xr]at h
  by_cases c:key=e.item
  .rw[if_pos c]at h;injection h with h;subst h;rcases Qby hx with rfl|hx
   .exact⟨e,by simp,rfl,c.symm⟩
   .cases d:Qe (Qje l) e.item with
    |none=>rw[d]at hx;simp at hx
    |some r =>
     rw[d]at hx;obtain⟨y,b,a⟩:=f e.item r d x hx;exact⟨y,by simp[b],a.1,a.2.trans c.symm⟩
  .rw[if_neg c]at h;obtain⟨y,b,a⟩:=f key r h x hx;exact⟨y,by simp[b],a⟩
theorem Qm8(age half):0<=Qaw age half/\Qaw age half<=1048576:=by
 unfold Qaw;split
 .omega
 split
 .omega
 .rw[Zcv _ (by exact Int.le_of_lt (Int.pow_pos Om))];exact⟨Zdf Om (Int.le_of_lt (Int.pow_pos Om)),Zcx _ Om⟩
theorem Qez{α:Type}(f)(M:Int):∀l:List α,(∀x∈l,0<=f x/\f x<=M)->0<=(l.map f).sum/\(l.map f).sum<=l.length*M
 |[],_=>by simp
 |x::l,h=>by
  have b:=h x (by simp);have c:=Qez f M l fun y a=>h y (by simp[a])
  simp only[Zm,Za8,Zx];have:((l.length+1:Nat):Int)*M=l.length*M+M:=(by rw[show ((l.length+1:Nat):Int)=(l.length:Int)+1 by omega,Int.add_mul];omega);rw[this];omega
theorem Xbk{l}(d:∀e∈l,Xy e=true)(half key now):0<=Xhn l half key now/\Xhn l half key now<=l.length*5242880:=by
 have h:=Qez (fun e:Ev=>Qz e*Qaw (now-e.at_) half) 5242880 (l.filter fun e=>decide (e.item=key)) fun e c=>by
  have b:=Qla (d e (Ze.1 c).1);have a:=Qm8 (now-e.at_) half;refine⟨Zc1 b.1 a.1,?_⟩
  calc Qz e*Qaw (now-e.at_) half<=5*1048576:=Zb2 b.2 a.2 a.1 Om
   _=5242880:=Om
 have f:=Zc (fun e:Ev=>decide (e.item=key)) l;unfold Xhn;refine⟨h.1,Int.le_trans h.2 ?_⟩;exact Zaw Om Om
def paE(l:List Ev)(width:Int)(key:Bj)(lo hi:Int):Int:=((l.filter fun e=>decide (e.item=key)&&(decide (lo<=e.at_/Xf width)&&decide (e.at_/Xf width<hi))).map Qz).sum
def paS(s:Qar)(key:Bj)(lo hi:Int):Int:=((s.filter fun x=>decide (x.1.1=key)&&(decide (lo<=x.1.2)&&decide (x.1.2<hi))).map (·.2)).sum
theorem Q3b(key lo hi c n):∀s:Qar,paS (Xe s c ((Qe s c).getD 0+n)) key lo hi=paS s key lo hi+if(decide (c.1=key)&&(decide (lo<=c.2)&&decide (c.2<hi)))=true then n else 0
 |[]=>by
  unfold paS;simp only[Xe,Qe,Option.getD_none,Int.zero_add,Zau,Zc9];split<;>simp
 |x::s=>by
  have a:=Q3b key lo hi c n s;unfold paS at*;unfold Xe Qe
  by_cases h:c=x.1
  .rw[if_pos h,if_pos h];simp only[Zas,Zau];rw[<- h];split
   .simp only[Zm,Za8];omega
   .simp
  .rw[if_neg h,if_neg h];simp only[Zau];split
   .simp only[Zm,Za8];rw[a];omega
   .exact a
theorem Xho(width key lo hi):∀l:List Ev,(∀e∈l,wpB e=true)->paS (Qvb width l) key lo hi=paE l width key lo hi:=by
 refine Qw (fun _=>by simp[Qvb,paS,paE]) fun l e a h=>?_
 have a:=a fun x hx=>h x (by simp[hx])
 have b:0<Qz e:=by simpa [wpB] using h e (by simp)
 rw[Qug];unfold Qr7 paE at*;rw[if_neg Om,Q3b,a,Zq,Zp,Zbj];simp only[Zau,Zc9];split<;>simp
theorem Xfw{l}(b:∀e∈l,Xy e=true)(width key lo hi):0<=paE l width key lo hi/\paE l width key lo hi<=l.length*5:=by
 have h:=Qez Qz 5 (l.filter fun e=>decide (e.item=key)&&(decide (lo<=e.at_/Xf width)&&decide (e.at_/Xf width<hi))) fun e a=>Qla (b e (Ze.1 a).1)
 have c:=Zc (fun e:Ev=>decide (e.item=key)&&(decide (lo<=e.at_/Xf width)&&decide (e.at_/Xf width<hi))) l;unfold paE;refine⟨h.1,Int.le_trans h.2 ?_⟩;exact Zaw Om Om
def Xh(l:List Bj):List Bj:=l.mergeSort fun a b=>!bLt b a
theorem Xah(a b c)(f:(!bLt b a)=true)(d:(!bLt c b)=true):(!bLt c a)=true:=by
 rw[Zam]at*
 cases h:bLt c a with
 |false=>rfl
 |true =>
  cases e:bLt a b with
  |true=>rw[Qb3 h e]at d;cases d
  |false=>rw[Qb4 e f]at h;rw[h]at d;cases d
theorem Xag(a b):((!bLt b a)||(!bLt a b))=true:=by
 cases h:bLt b a with
 |false=>rfl
 |true=>rw[Qdq h];rfl
theorem Qbt(l):(Xh l).Perm l:=Zby _ _
theorem Qgg(l):Srt bLt (Xh l):=by
 have:=Zbf (le:=fun a b=>!bLt b a) Xah Xag l;exact this.imp fun h=>Su h
theorem Qc1{l z}(e:z.Perm l)(f:Srt bLt z):z=Xh l:=
 List.Perm.eq_of_pairwise (le:=fun a b=>bLt b a=false) (fun a b _ _ c d=>Qb4 d c) f (Qgg l) (e.trans (Qbt l).symm)
theorem Qge{l x}:x∈Xh l↔x∈l:=(Qbt l).mem_iff
theorem Qcn(l):(Xh l).length=l.length:=(Qbt l).length_eq
def Qe5(l:List Int):List Int:=l.mergeSort fun x y=>decide (x<=y)
theorem Qem(l):(Qe5 l).Perm l:=Zby _ _
theorem Qp4(l):(Qe5 l).Pairwise (· <= ·):=by
 have:=Zbf (le:=fun x y:Int=>decide (x<=y)) (fun a b c d e=>by simp at*;omega) (fun a b=>by simp;omega) l;exact this.imp fun h=>Su h
theorem Qxv{l z}(e:z.Perm l)(f:z.Pairwise (· <= ·)):z=Qe5 l:=
 List.Perm.eq_of_pairwise (le:=(· <= ·)) (fun a b _ _ c d=>Int.le_antisymm c d) f (Qp4 l) (e.trans (Qem l).symm)
theorem Qp2{l x}:x∈Qe5 l↔x∈l:=(Qem l).mem_iff
theorem Qxt(l):(Qe5 l).length=l.length:=(Qem l).length_eq
section
open Go.Maps Go.Sort Go.Shelf Go.WideElems
open Go.WideMaps (keyOf_string_mk)
open Go.WideShapes (sorted_perm)
theorem Qtl{f:Type}{enc P k w b L}(n:MapAt w b enc L)(j:∀a b,enc a=enc b->a=b)(lit:f->Lit)(l:∀x∈L,keyOf P k (enc x.1)=some (lit x.1))(m:L.length<=1000000000) :
 ∃es:List (Lit×DataW Unit),w.ownsMap P k (fun _=>some (.nil,[])) b L.length (.map es)/\es.Perm (L.map fun x=>(lit x.1,.nil)):=by
 obtain⟨E,clock,c,rfl⟩:=n;have g:(strip E).length=E.length:=by simp[strip]
 have i:∀x∈E,rd (H:=Unit) P k (fun _=>some (.nil,[])) (mkE enc x)=some (lit x.1,.nil):=fun x hx =>
  Go.WideElems.rd_mk (P:=P) (k:=k) (R:=fun _=>some (.nil,[])) (val:=x.2.1) (born:=x.2.2) (yv:=(.nil,[])) (l (x.1,x.2.1) (Zh.2 ⟨x,hx,rfl⟩)) rfl
 refine⟨_,⟨_,clock,c.block,⟨?_,⟨?_,?_,?_⟩,?_⟩,?_,rfl⟩,?_⟩
 .rw[g]at m;simp only[Za4,Zg];unfold maxLen;omega
 .intro x hx;simp only[Zh]at hx;obtain⟨y,d,rfl⟩:=hx;exact c.below y d
 .simp only[Zz];rw[Zaj,Z5];exact c.rising.imp fun h=>by simp only[mkE,Function.comp];omega
 .simp only[Zz];rw[Zaj,Z5];exact c.keys.imp fun h e=>h (j _ _ e)
 .intro x hx;simp only[Zh]at hx;obtain⟨y,d,rfl⟩:=hx;exact⟨_,i y d⟩
 .rw[g];simp
 .refine(sorted_perm _).trans ?_;have:(E.map (mkE enc)).toArray.toList.map (rg (H:=Unit) P k (fun _=>some (.nil,[])))=(strip E).map fun x=>(lit x.1,.nil):=(by simp only[strip,Zz];exact Zbq fun x hx=>rg_of (i x hx))
  rw[this]
theorem Qcz{α:Type}{enc sz e base w v}{l:List α}{n xs}(h:w.ownsRow base e sz v n xs)(i:n=l.length)(hx:xs=l.flatMap enc) :
 ∃A c,v=.slice A l.length c/\Own enc sz e base w A c l:=by
 subst i hx;unfold Own;rcases h with⟨d,⟨b,a⟩|⟨g,cap,f,b,a⟩⟩
 .refine⟨none,0,by rw[b,a],d,.inl ⟨by rw[a],a⟩⟩
 .exact⟨_,cap,b,d,.inr ⟨g,cap,f,rfl,a⟩⟩
theorem Qhk{α:Type}{enc sz d b1 b2 w A c}{l:List α}(h:Own enc sz d b1 w A c l)(j:b2<=b1):Own enc sz d b2 w A c l:=by
 unfold Own at*;rcases h with⟨b,a|⟨g,cap,e,a,i,f⟩⟩
 .exact⟨b,.inl a⟩
 .exact⟨b,.inr ⟨g,cap,e,a,Om,f⟩⟩
theorem Qfe{α:Type}(f:α->Value)(l:List α):l.flatMap (fun x=>[f x])=l.map f:=by induction l with|nil=>rfl|cons a l b=>simp[b]
theorem Qd1{P d}(S:SlLaysZ.n6 P d)(I:∀m,AnyZ.SortsIn P d Fence.wide m)(n:∀args w,(callFunc (d.f 9) args).run P w=.ok (.enter (d.f 9) args) w){g:Nat}{lb}(o:∀args w,(callFunc g args).run P w=.ok (.enter g args) w)
 (D:Qql P (d.f 6)){w l N Q}(s:∀ss,Q ss->ss.Perm (l.map fun x=>x.data.toList))(K:N<=1000000000)(H:SeqGives Fence.wide 2 P g lb encStr Q N w) :
 Cal P (d.f 6) [.func (.func g) #[] lb] w fun r w'=>∃A c,r=.slice A (Xh l).length c/\Own Qac 1 (d.t 26) w.heap.size w' A c (Xh l)/\Ext w w':=by
 have u:=AnyZ.sorted_in S Fence.wide 5 trivial trivial trivial trivial rfl Om (I _) n g lb trivial o _ N (by unfold maxLen;omega) Om w H;refine⟨D,(callsIn_wide.1 u).mono ?_⟩;rintro e w' ⟨v,ss,rfl,E,F,_,z⟩;have B:=s ss E
 have k:(ss.mergeSort fun x y=>decide (x<=y)).map (fun x=>(⟨x.toArray⟩:Bj))=Xh l:=by
  apply Qc1
  .have i:=(Zby ss fun x y=>decide (x<=y)).trans B;have j:=i.map (fun x=>(⟨x.toArray⟩:Bj));simpa [Zz,Function.comp_def] using j
  .unfold Srt;rw[Z5];have:=Zbf (le:=fun x y:List UInt8=>decide (x<=y)) (fun a b c i j=>by simp only[decide_eq_true_eq]at*;exact List.le_trans i j) (fun a b=>by simp only[Zbg,decide_eq_true_eq];exact List.le_total a b) ss;refine this.imp fun {a b} h=>?_
   simp only[decide_eq_true_eq]at h;unfold bLt;rw[ByteArray.toList_eq,ByteArray.toList_eq,bytesLess_eq];simpa using h
 obtain⟨A,c,J,C⟩:=Qcz (enc:=Qac) (l:=Xh l) F (by rw[<- k];simp) (by
  rw[<- k,show Qac=fun x=>[Value.string x] from rfl,Qfe,Zz];rfl)
 exact⟨v,rfl,A,c,J,C,z⟩
theorem Qm1{P a}(S:SlLaysZI.n6 P a)(B:∀m,AnyZI.SortsIn P a Fence.wide m)(d:∀args w,(callFunc (a.f 9) args).run P w=.ok (.enter (a.f 9) args) w){g:Nat}{lb}(h:∀args w,(callFunc g args).run P w=.ok (.enter g args) w)
 (o:Qql P (a.f 6)){w l N Q}(i:∀ss,Q ss->ss.Perm l)(D:N<=1000000000)(z:SeqGives Fence.wide 2 P g lb (Value.int .i64) Q N w) :
 Cal P (a.f 6) [.func (.func g) #[] lb] w fun r w'=>∃A c,r=.slice A (Qe5 l).length c/\Own Qf7 1 (a.t 26) w.heap.size w' A c (Qe5 l)/\Ext w w':=by
 have j:=AnyZI.sorted_in S Fence.wide 5 trivial trivial trivial trivial rfl Om (B _) d g lb trivial h _ N (by unfold maxLen;omega) Om w z;refine⟨o,(callsIn_wide.1 j).mono ?_⟩;rintro e w' ⟨v,ss,rfl,s,u,_,k⟩;have b:(ss.mergeSort fun x y=>decide (x<=y))=Qe5 l:=Qxv ((Qem ss).trans (i ss s)) (Qp4 ss)
 obtain⟨A,c,C,n⟩:=Qcz (enc:=Qf7) (l:=Qe5 l) u (by rw[<- b];simp) (by
  rw[<- b,show Qf7=fun x=>[Vj x] from rfl,Qfe])
 exact⟨v,rfl,A,c,C,n,k⟩
theorem Qhr{P d}(K:SlLaysZ.n10 P d){w c b}{L:List (Bj×Value)}(g:w.cell? ⟨c,0,none⟩=some (.map (some b)))(l:MapAt w b Value.string L)(j:∀x∈L,x.1.size<=1000000)(i:L.length<=1000000000) :
 ∃N Q,N<=1000000000/\(∀ss:List (List UInt8),Q ss->ss.Perm ((L.map (·.1)).map fun x=>x.data.toList))/\SeqGives Fence.wide 2 P (d.f 10) #[Pj c] encStr Q N w:=by
 obtain⟨es,m,h⟩:=Qtl (P:=P) (k:=d.t 26) l (fun a b e=>Su e) (fun x=>.string x.data.toList) (fun x hx=>keyOf_string_mk K.t26 (by have:=j x hx;unfold maxLen;omega)) i;have o:Maps.size (.map es)=L.length:=(by have:=h.length_eq;simp at this;simpa [Maps.size] using this);refine⟨_,_,?_,fun ss n=>?_,AnyZ.keys_gives K Fence.wide 2 trivial rfl Om c b _ _ w (cell_lt g) g m⟩
 .rw[o];exact i
 .refine n.trans ?_;simp only[strKeys];refine(h.map _).trans ?_;rw[Zz,Zz];exact Za9 _
theorem Xac{P d}(K:SlLaysZI.n10 P d){w c b L}(g:w.cell? ⟨c,0,none⟩=some (.map (some b)))(l:MapAt w b vi L)(j:∀x∈L,0<=x.1/\x.1<=4611686018427387904)(i:L.length<=1000000000) :
 ∃N Q,N<=1000000000/\(∀ss:List Int,Q ss->ss.Perm (L.map (·.1)))/\SeqGives Fence.wide 2 P (d.f 10) #[Pj c] (Value.int .i64) Q N w:=by
 obtain⟨es,m,h⟩:=Qtl (P:=P) (k:=d.t 26) l (fun a b e=>by simpa [vi] using e) (fun x=>.int .i64 x) (fun x hx=>keyOf_int_mk K.t26 (by
  have:=j x hx;simp only[Lit.wf,Zk,decide_eq_true_eq,show IntKind.i64.min=-9223372036854775808 from by decide,show IntKind.i64.max=9223372036854775807 from by decide];omega)) i
 have o:Maps.size (.map es)=L.length:=(by have:=h.length_eq;simp at this;simpa [Maps.size] using this);refine⟨_,_,?_,fun ss n=>?_,AnyZI.keys_gives K Fence.wide 2 trivial rfl Om c b _ _ w (cell_lt g) g m⟩
 .rw[o];exact i
 .refine n.trans ?_;simp only[intKeys];refine(h.map _).trans ?_;rw[Zz];exact Za9 _
theorem Qt1(w:World)(v t):(w.alloc (.cells #[v] t)).cell? ⟨w.heap.size,0,none⟩=some v:=by
 exact cell_one_new w v t 0 v rfl
theorem Qf8{P a}(K:SlLaysZ.n7 P a)(c:Qql P (a.f 7))(b w) :
 Cal P (a.f 7) [.map b] w fun r w'=>r=.func (.func (a.f 10)) #[] #[Pj w.heap.size]/\w'.cell? ⟨w.heap.size,0,none⟩=some (.map b)/\Ext w w':=by
 refine⟨c,(callsIn_wide.1 (AnyZ.keys_in K Fence.wide 5 trivial rfl b w)).mono ?_⟩;rintro e w' ⟨rfl,rfl⟩;exact⟨_,rfl,rfl,Qt1 _ _ _,(Below.refl _ _).alloc (Zf _) _⟩
theorem Xab{P a}(K:SlLaysZI.n7 P a)(c:Qql P (a.f 7))(b w) :
 Cal P (a.f 7) [.map b] w fun r w'=>r=.func (.func (a.f 10)) #[] #[Pj w.heap.size]/\w'.cell? ⟨w.heap.size,0,none⟩=some (.map b)/\Ext w w':=by
 refine⟨c,(callsIn_wide.1 (AnyZI.keys_in K Fence.wide 5 trivial rfl b w)).mono ?_⟩;rintro e w' ⟨rfl,rfl⟩;exact⟨_,rfl,rfl,Qt1 _ _ _,(Below.refl _ _).alloc (Zf _) _⟩
end
end Go.Proofs.YtnpacgccajekgaaGreatDoor
namespace Go.Proofs.YtnpacgccajekgaaGreatDoor
open Go.Se Go.RowKit
open Go.Maps Go.Sort Go.Shelf
theorem Qgf:Xh []=[]:=by simp[Xh]
theorem Qp3:Qe5 []=[]:=by simp[Qe5]
theorem Qx1(m):AnyZ.SortsIn Tryz.prog Tryz.sorted114_ren Fence.wide m:=
 ⟨fun blk off cap ss W a b c=>callsIn_wide.2 (AnyM.slices_Sort_string Tryz.sort182 blk off cap ss W a b c),fun p cap W=>callsIn_wide.2 (AnyM.slices_Sort_string_none Tryz.sort182 p cap W)⟩
theorem Xhz(m):AnyZI.SortsIn Tryz.prog Tryz.sorted377_ren Fence.wide m:=
 ⟨fun blk off cap ss W a b c=>callsIn_wide.2 (AnyM.slices_Sort_int Tryz.sort406 blk off cap ss W a b c),fun p cap W=>callsIn_wide.2 (AnyM.slices_Sort_int_none Tryz.sort406 p cap W)⟩
theorem Qlq(a w):Cal Tryz.prog 247 [.map a] w fun r w'=>r=.func (.func 325) #[] #[Pj w.heap.size]/\w'.cell? ⟨w.heap.size,0,none⟩=some (.map a)/\Ext w w':=
 Qf8 Tryz.keys247 ⟨_,Tryz.func247,rfl,rfl⟩ a w
theorem Qh8{w a b}{L:List (Bj×Value)}(g:w.cell? ⟨a,0,none⟩=some (.map (some b)))(j:MapAt w b Value.string L)(h:∀x∈L,x.1.size<=1000000)(i:L.length<=1000000000) :
 Cal Tryz.prog 114 [.func (.func 325) #[] #[Pj a]] w fun r w'=>∃A c,r=.slice A (Xh (L.map (·.1))).length c/\Own Qac 1 9 w.heap.size w' A c (Xh (L.map (·.1)))/\Ext w w':=by
 obtain⟨N,Q,d,e,f⟩:=Qhr { Tryz.keys247 with } g j h i;exact Qd1 Tryz.sorted114 Qx1 (enters_of Tryz.func182 Kr rfl) (enters_of Tryz.func325 Kr rfl) ⟨_,Tryz.func114,rfl,rfl⟩ e d f
theorem Q5g(a w):Cal Tryz.prog 278 [.map a] w fun r w'=>r=.func (.func 343) #[] #[Pj w.heap.size]/\w'.cell? ⟨w.heap.size,0,none⟩=some (.map a)/\Ext w w':=
 Qf8 Tryz.keys278 ⟨_,Tryz.func278,rfl,rfl⟩ a w
theorem Qxz{w a b}{L:List (Bj×Value)}(g:w.cell? ⟨a,0,none⟩=some (.map (some b)))(j:MapAt w b Value.string L)(h:∀x∈L,x.1.size<=1000000)(i:L.length<=1000000000) :
 Cal Tryz.prog 114 [.func (.func 343) #[] #[Pj a]] w fun r w'=>∃A c,r=.slice A (Xh (L.map (·.1))).length c/\Own Qac 1 9 w.heap.size w' A c (Xh (L.map (·.1)))/\Ext w w':=by
 obtain⟨N,Q,d,e,f⟩:=Qhr { Tryz.keys278 with } g j h i;exact Qd1 Tryz.sorted114 Qx1 (enters_of Tryz.func182 Kr rfl) (enters_of Tryz.func343 Kr rfl) ⟨_,Tryz.func114,rfl,rfl⟩ e d f
theorem Qrt(a w):Cal Tryz.prog 378 [.map a] w fun r w'=>r=.func (.func 407) #[] #[Pj w.heap.size]/\w'.cell? ⟨w.heap.size,0,none⟩=some (.map a)/\Ext w w':=
 Xab Tryz.keys378 ⟨_,Tryz.func378,rfl,rfl⟩ a w
theorem Qxx{w a b L}(g:w.cell? ⟨a,0,none⟩=some (.map (some b)))(j:MapAt w b vi L)(h:∀x∈L,0<=x.1/\x.1<=4611686018427387904)(i:L.length<=1000000000) :
 Cal Tryz.prog 377 [.func (.func 407) #[] #[Pj a]] w fun r w'=>∃A c,r=.slice A (Qe5 (L.map (·.1))).length c/\Own Qf7 1 3 w.heap.size w' A c (Qe5 (L.map (·.1)))/\Ext w w':=by
 obtain⟨N,Q,d,e,f⟩:=Xac { Tryz.keys378 with } g j h i;exact Qm1 Tryz.sorted377 Xhz (enters_of Tryz.func406 Kr rfl) (enters_of Tryz.func407 Kr rfl) ⟨_,Tryz.func377,rfl,rfl⟩ e d f
theorem Q01{w a}(b:w.cell? ⟨a,0,none⟩=some (.map none)) :
 Cal Tryz.prog 377 [.func (.func 407) #[] #[Pj a]] w fun r w'=>∃A c,r=.slice A 0 c/\Own Qf7 1 3 w.heap.size w' A c []/\Ext w w':=by
 have:=Qm1 Tryz.sorted377 Xhz (enters_of Tryz.func406 Kr rfl) (enters_of Tryz.func407 Kr rfl) ⟨_,Tryz.func377,rfl,rfl⟩ (l:= []) (fun ss (h:ss=[])=>by rw[h]) (Zt _) (AnyZI.keys_gives_nil { Tryz.keys378 with } Fence.wide 2 trivial rfl a w (cell_lt b) b);simp only[Qgf,Qp3,Zae]at this;exact this
end Go.Proofs.YtnpacgccajekgaaGreatDoor
namespace Go.Proofs.YtnpacgccajekgaaGreatDoor
open Go.Se Go.RowKit
def Q7t:List Bj->List Bj
 |[]=>[]
 |a::b=>if a∈b then Q7t b else a::Q7t b
theorem Qie{x}:∀{l:List Bj},x∈Q7t l↔x∈l
 |[]=>Iff.rfl
 |a::l=>by
  have b:=Qie (x:=x) (l:=l);unfold Q7t;split
  .next h =>
   rw[b,Zr];constructor
   .exact .inr
   .rintro (rfl|c)
    .exact h
    .exact c
  .rw[Zr,Zr,b]
theorem Qf0:∀l:List Bj,(Q7t l).Nodup
 |[]=>List.nodup_nil
 |a::l=>by
  have b:=Qf0 l;unfold Q7t;split
  .exact b
  .next h=>exact Zbp.2 ⟨fun c=>h (Qie.1 c),b⟩
def Qci(l:List Bj):List Bj:=Xh (Q7t l)
theorem Qaa{l x}:x∈Qci l↔x∈l:=by unfold Qci;rw[Qge,Qie]
theorem Qdi(l):(Qci l).Nodup:=(Qbt _).nodup_iff.2 (Qf0 l)
theorem Qh4{K l}(b:K.Nodup)(a:∀x,x∈K↔x∈l):Xh K=Qci l:=by
 have c:K.Perm (Q7t l):=Qfh b (Qf0 l) (fun x hx=>Qie.2 ((a x).1 hx)) (fun x hx=>(a x).2 (Qie.1 hx));exact Qc1 ((Qbt K).trans c) (Qgg K)
theorem Qsd{k l}(a:∀x,x∈k↔x∈l):Qci k=Qci l:=Qh4 (Qf0 k) fun x=>Qie.trans (a x)
theorem Qnt(l):(Qci l).length<=l.length:=by
 unfold Qci;rw[Qcn]
 induction l with
 |nil=>simp[Q7t]
 |cons a l b=>unfold Q7t;split<;>simp<;>omega
theorem Qah{β:Type}{L:List (Bj×β)}(h:L.Pairwise (fun x y=>x.1≠y.1)):(L.map (·.1)).Nodup:=by
 rw[Zaj,Z5];exact h
theorem Qnp{β:Type}{L:List (Bj×β)}{k}:k∈L.map (·.1)↔(Qe L k).isSome=true:=by
 cases h:Qe L k with
 |none =>
  have:=Qej.1 h;simp only[Zh,Option.isSome_none,Zal,iff_false];rintro ⟨x,hx,rfl⟩;exact this x hx rfl
 |some v =>
  have:=Qax h;simp only[Option.isSome_some,iff_true,Zh];exact⟨_,this,rfl⟩
abbrev Grp:=Int×Int×List Bj
def Qdh(gap:Int)(a:List Grp)(t:Int)(its:List Bj):List Grp:=
 match a.getLast? with
 |some b=>if gap<t-b.2.1 then a++[(t,t,its)] else a.dropLast++[(b.1,t,b.2.2++its)]
 |none=>[(t,t,its)]
abbrev Qe1:=List (Int×List (Bj×Bool))
def Xv(k:Qe1)(t:Int):List Bj:=((Qe k t).getD []).map (·.1)
def Qg9(gap:Int)(k:Qe1)(ts:List Int):List Grp:=ts.foldl (fun a t=>Qdh gap a t (Xv k t)) []
def Xlb(gap:Int)(k:Qe1):List Grp:=Qg9 gap k (Qe5 (k.map (·.1)))
theorem Qih(gap k ts t):Qg9 gap k (ts++[t])=Qdh gap (Qg9 gap k ts) t (Xv k t):=by unfold Qg9;rw[Zv];rfl
structure Sn where
 person:Bj
 from_:Int
 to_:Int
 items:List Bj
deriving DecidableEq,Inhabited
def Xd7(person:Bj)(g:Grp):Sn:=⟨person,g.1,g.2.1,Qci g.2.2⟩
def Qgc(gap:Int)(ss:Ses)(person:Bj):List Sn:=(Xlb gap ((Qe ss person).getD [])).map (Xd7 person)
def Qky(gap:Int)(ss:Ses):List Sn:=(Xh (ss.map (·.1))).flatMap (Qgc gap ss)
theorem Xi7(gap a t its):(Qdh gap a t its).length<=a.length+1:=by
 unfold Qdh;split
 .next b h =>
  split
  .simp
  .simp
 .simp
theorem Q9r(gap k):∀ts:List Int,(Qg9 gap k ts).length<=ts.length:=by
 refine Qw (by simp[Qg9]) fun a t b=>?_
 rw[Qih];have:=Xi7 gap (Qg9 gap k a) t (Xv k t);simp;omega
theorem Xe8(gap k):(Xlb gap k).length<=k.length:=by
 have:=Q9r gap k (Qe5 (k.map (·.1)));rw[Qxt,Zg]at this;exact this
def hasB(a:Bj)(s:Sn):Bool:=decide (a∈s.items)
def Qa6(S:List Sn)(a:Bj):Nat:=(S.filter (hasB a)).length
def Qd6(S:List Sn)(a b:Bj):Nat:=(S.filter fun s=>hasB a s&&hasB b s).length
theorem Qh5(S a):Qa6 S a<=S.length:=Zc _ _
theorem Q0f(S a b):Qd6 S a b<=S.length:=Zc _ _
def Qha(S:List Sn)(a b:Bj):Int×Int:=
 if Qa6 S a=0\/Qa6 S b=0 then(0,1) else if a=b then(1,1) else((Qd6 S a b:Int)*Qd6 S a b,(Qa6 S a:Int)*Qa6 S b)
def Qxg(a b:Int×Int):Bool:=decide (a.1*b.2<b.1*a.2)
def Qe8(S:List Sn)(item:Bj)(b:Int×Int)(e:Ev):Int×Int:=
 if Qz e<=0\/e.item=item then b else if Qxg b (Qha S item e.item)=true then Qha S item e.item else b
def Qnb(S:List Sn)(item:Bj)(h:List Ev):Int×Int:=h.foldl (Qe8 S item) (0,1)
theorem Qre(S item h e):Qnb S item (h++[e])=Qe8 S item (Qnb S item h) e:=by unfold Qnb;rw[Zv];rfl
def Qld(N:Int)(r:Int×Int):Prop:=0<=r.1/\r.1<=N/\1<=r.2/\r.2<=N
theorem Qz4{S N}(j:(S.length:Int)*S.length<=N)(c:1<=N)(a b):Qld N (Qha S a b):=by
 unfold Qha;have k:=Qh5 S a;have l:=Qh5 S b;have m:=Q0f S a b;split
 .exact⟨by simp,by simp;omega,by simp,by simp;omega⟩
 split
 .exact⟨by simp,Su c,by simp,Su c⟩
 .next i _ =>
  have d:(1:Int)<=Qa6 S a:=Om;have e:(1:Int)<=Qa6 S b:=Om;have f:((Qd6 S a b:Int)*Qd6 S a b)<=(S.length:Int)*S.length:=Zb2 Om Om Om Om;have g:((Qa6 S a:Int)*Qa6 S b)<=(S.length:Int)*S.length:=Zb2 Om Om Om Om;have h:(1:Int)*1<=(Qa6 S a:Int)*Qa6 S b:=Zb2 d e Om Om;exact⟨Zc1 Om Om,Sj,Sj,Sj⟩
theorem Xii{S N}(c:(S.length:Int)*S.length<=N)(b:1<=N)(item):∀h:List Ev,Qld N (Qnb S item h):=by
 refine Qw ⟨by simp[Qnb],by simp[Qnb];omega,by simp[Qnb],by simp[Qnb];omega⟩ fun d e a=>?_
 rw[Qre];unfold Qe8;split
 .exact a
 split
 .exact Qz4 c b _ _
 .exact a
def flB(person maker:Bj)(e:Ev):Bool:=decide (e.person=person)&&(decide (e.text=maker)&&(decide (e.kind=7)||decide (e.kind=8)))
def Q2m(z:List Ev)(person maker:Bj):Bool:=match (z.filter (flB person maker)).getLast? with
 |some e=>decide (e.kind=7)
 |none=>false
theorem Qwl(person maker):∀rs:List Row,(Qe (Xk rs).follows (person,maker))=((evs rs).filter (flB person maker)).getLast?.map fun e=>decide (e.kind=7):=by
 refine Qw (by simp[Xk,evs,Cw0,Qe]) fun rs a j=>?_
 rw[Qhv,Qta,Zq];have h:(Qee (Xk rs) a.1).follows=(Qdy (Xk rs) a.1).follows:=(by unfold Qee Qt5;split<;>rfl);rw[h];unfold Qdy
 cases d:flB person maker a.1 with
 |true =>
  simp only[flB,Zk,Zbg,decide_eq_true_eq]at d;obtain⟨b,c,f⟩:=d;rw[if_neg Om,if_neg Om,if_neg Om,if_pos f];have i:flB person maker a.1=true:=by simp[flB,b,c,f]
  simp only[Zau,i,if_true,Zc9,Zc3,List.getLast?_singleton,Option.some_or,Zcc];rw[show ((person,maker):LK)=mkr a.1 by unfold mkr;rw[b,c],Q8]
 |false =>
  simp only[Zau,d,Zal,if_false,Zc9,Z4];rw[<- j];split
  .rfl
  split
  .rfl
  split
  .rfl
  split
  .next f =>
   show Qe (Xe _ _ _) _=_
   rw[Xr,if_neg];intro g;unfold mkr at g;injection g with b c;simp[flB,<- b,<- c]at d;omega
  split
  .rfl
  .rfl
theorem Qrp(z person maker):Q2m (Qak z) person maker=Q2m z person maker:=by
 unfold Q2m Qak;rw[List.filter_filter]
 have:(fun a=>flB person maker a&&peB a)=flB person maker:=by
  funext a
  cases h:flB person maker a with
  |false=>rfl
  |true =>
   simp only[flB,Zk,Zbg,decide_eq_true_eq]at h;have:peB a=true:=by simp[peB,thB];omega
   rw[this];rfl
 rw[this]
def Qa0(a:List (LK×Bool))(person:Bj)(h:List Ev):List (Bj×Bool):=
 h.foldl (fun m e=>if e.kind=7/\(Qe a (person,e.text)).getD false=true then Xe m e.text true else m) []
theorem Qeu(a person h e):Qa0 a person (h++[e])=if e.kind=7/\(Qe a (person,e.text)).getD false=true then Xe (Qa0 a person h) e.text true else Qa0 a person h:=by unfold Qa0;rw[Zv];rfl
theorem Qro(f person x):∀h:List Ev,x∈(Qa0 f person h).map (·.1)↔∃e∈h,e.kind=7/\e.text=x/\(Qe f (person,x)).getD false=true:=by
 refine Qw (by simp[Qa0]) fun h e g=>?_
 rw[Qeu];split
 .next d =>
  rw[Qeq];constructor
  .intro hx
   have:x=e.text\/x∈(Qa0 f person h).map (·.1):=by
    split at hx
    .exact .inr hx
    .rcases Zj.1 hx with hx|hx
     .exact .inr hx
     .exact .inl (Su hx)
   rcases this with rfl|hx
   .exact⟨e,by simp,d.1,rfl,d.2⟩
   .obtain⟨y,a,b⟩:=g.1 hx;exact⟨y,by simp[a],b⟩
  .rintro ⟨y,a,b,rfl,c⟩;rcases Zj.1 a with a|a
   .have:=g.2 ⟨y,a,b,rfl,c⟩;split
    .exact this
    .exact Zj.2 (.inl this)
   .have a:y=e:=Su a;subst a;split
    .assumption
    .simp
 .next d =>
  rw[g];constructor
  .rintro ⟨y,a,b⟩;exact⟨y,by simp[a],b⟩
  .rintro ⟨y,a,b,rfl,c⟩;rcases Zj.1 a with a|a
   .exact⟨y,a,b,rfl,c⟩
   .have a:y=e:=Su a;subst a;exact absurd ⟨b,c⟩ d
theorem Q9h{rs}(person maker):maker∈(Qa0 (Xk rs).follows person (hist (evs rs) person)).map (·.1)↔Q2m (evs rs) person maker=true:=by
 rw[Qro,Qwl];unfold Q2m
 cases d:((evs rs).filter (flB person maker)).getLast? with
 |none=>simp
 |some e =>
  have c:=Zbu d;have b:=Ze.1 c;have a:=b.2;simp only[flB,Zk,Zbg,decide_eq_true_eq]at a;simp only[Zcc,Zas,decide_eq_true_eq];constructor
  .rintro ⟨_,_,_,_,h⟩;exact h
  .intro h;exact⟨e,Ze.2 ⟨b.1,Su a.1⟩,h,a.2.1,h⟩
def Qq6(half now:Int)(e:Ev):Int:=Qz e*Qaw (now-e.at_) half
def Qdf(n:Int)(m:List (Bj×Int))(t:Bj):List (Bj×Int):=Xe m t (IntKind.i64.wrap ((Qe m t).getD 0+n))
def Qfw(half now:Int)(m:List (Bj×Int))(r:Row):List (Bj×Int):=if now<r.1.at_ then m else r.2.foldl (Qdf (Qq6 half now r.1)) m
def Q1o(half now:Int)(rows:List Row):List (Bj×Int):=rows.foldl (Qfw half now) []
theorem Qk6(half now l r):Q1o half now (l++[r])=Qfw half now (Q1o half now l) r:=by unfold Q1o;rw[Zv];rfl
theorem Q1q(n m l t):(l++[t]).foldl (Qdf n) m=Qdf n (l.foldl (Qdf n) m) t:=by rw[Zv];rfl
def Xkd(half now:Int)(rows:List Row):List (Bj×Int):=(Q1o half now rows).filter fun x=>decide (0<x.2)
def rowsOf(rs:List Row)(person:Bj):List Row:=rs.filter fun a=>decide (a.1.person=person)
theorem Qis{half now e}(c:Xy e=true):0<=Qq6 half now e/\Qq6 half now e<=5242880:=by
 have b:=Qla c;have a:=Qm8 (now-e.at_) half;unfold Qq6;refine⟨Zc1 b.1 a.1,?_⟩;have:Qz e*Qaw (now-e.at_) half<=5*1048576:=Zb2 b.2 a.2 a.1 Om;omega
theorem Q7f(a:List Bj)(n l):((a.foldl (Qdf n) l).length)<=l.length+a.length:=by
 induction a generalizing l with
 |nil=>simp
 |cons t a b =>
  have:=b (Qdf n l t);have c:=Qcb t (IntKind.i64.wrap ((Qe l t).getD 0+n)) l;simp only[Zaq,Zx];unfold Qdf at*;omega
theorem Q3v(half now):∀rows:List Row,(Q1o half now rows).length<=(rows.map fun r=>r.2.length).sum:=by
 refine Qw (by simp[Q1o]) fun a r b=>?_
 rw[Qk6,Zp,Zbj];unfold Qfw;split
 .simp;omega
 .have:=Q7f r.2 (Qq6 half now r.1) (Q1o half now a);simp;omega
theorem Q1p(n)(a:List Bj):∀l:List (Bj×Int),l.Pairwise (fun x y=>x.1≠y.1)->(a.foldl (Qdf n) l).Pairwise (fun x y=>x.1≠y.1):=by
 induction a with
 |nil=>intro l h;exact h
 |cons t a b=>intro l h;exact b _ (Qan h)
theorem Xds(half now):∀rows:List Row,(Q1o half now rows).Pairwise (fun x y=>x.1≠y.1):=by
 refine Qw (by simp[Q1o]) fun b c a=>?_
 rw[Qk6];unfold Qfw;split
 .exact a
 .exact Q1p _ _ _ a
def Q3w(half now:Int)(rows:List Row)(t:Bj):Int:=((rows.filter fun a=>decide (a.1.at_<=now)&&decide (t∈a.2)).map fun a=>Qq6 half now a.1).sum
theorem Xj9(n t):∀(b:List Bj),b.Nodup->∀m:List (Bj×Int),(Qe (b.foldl (Qdf n) m) t)=if t∈b then some (IntKind.i64.wrap ((Qe m t).getD 0+n)) else Qe m t:=by
 intro b
 induction b with
 |nil=>intro _ m;simp
 |cons a b f =>
  intro e m;rw[Zbp]at e;rw[Zaq,f e.2];unfold Qdf
  by_cases d:t=a
  .subst d;rw[if_neg e.1,Xr,if_pos rfl,if_pos (by simp)]
  .rw[Xr,if_neg d]
   by_cases c:t∈b
   .rw[if_pos c,if_pos (by simp[c])]
   .rw[if_neg c,if_neg (by simp[d,c])]
theorem Xdt(half now t):∀rows:List Row,(∀r∈rows,Xy r.1=true/\r.2.Nodup)->rows.length<1000000->((Qe (Q1o half now rows) t).getD 0=Q3w half now rows t)/\0<=Q3w half now rows t/\Q3w half now rows t<=rows.length*5242880/\((Qe (Q1o half now rows) t).isSome=true↔∃r∈rows,r.1.at_<=now/\t∈r.2):=by
 refine Qw (fun _ _=>by simp[Q1o,Q3w,Qe]) fun l r o h m=>?_
 have n:l.length<1000000:=by simp at m;omega
 obtain⟨f,u,v,j⟩:=o (fun x hx=>h x (by simp[hx])) n;have i:=h r (by simp);have s:=Qis (half:=half) (now:=now) i.1;have e:(((l++[r]).length:Nat):Int)=l.length+1:=by simp
 rw[Qk6];unfold Qfw
 have k:Q3w half now (l++[r]) t=Q3w half now l t+if r.1.at_<=now/\t∈r.2 then Qq6 half now r.1 else 0:=by
  unfold Q3w;rw[Zq,Zp,Zbj]
  by_cases c:r.1.at_<=now/\t∈r.2
  .simp[c.1,c.2]
  .have:(decide (r.1.at_<=now)&&decide (t∈r.2))=false:=by
    rw[Zb1]
    by_cases a:r.1.at_<=now
    .exact .inr (by simpa using fun b=>c ⟨a,b⟩)
    .exact .inl (Su a)
   rw[if_neg c];simp[this]
 rw[k]
 by_cases g:now<r.1.at_
 .rw[if_pos g,if_neg Om];refine⟨by rw[f];omega,Om,by rw[e,Int.add_mul];omega,j.trans ⟨?_,?_⟩⟩
  .rintro ⟨x,hx,a⟩;exact⟨x,by simp[hx],a⟩
  .rintro ⟨x,hx,a,b⟩;rcases Zj.1 hx with hx|hx
   .exact⟨x,hx,a,b⟩
   .have:x=r:=Su hx;subst this;omega
 .rw[if_neg g,Xj9 _ _ _ i.2]
  by_cases d:t∈r.2
  .rw[if_pos d,if_pos ⟨Om,d⟩,f];refine⟨?_,Om,by rw[e,Int.add_mul];omega,by simp only[Option.isSome_some,true_iff];exact⟨r,by simp,Om,d⟩⟩;simp only[Zas];exact(wrap_eq rfl ⟨Om,Om⟩).symm
  .rw[if_neg d,if_neg (fun c=>d c.2)];refine⟨by rw[f];omega,Om,by rw[e,Int.add_mul];omega,j.trans ⟨?_,?_⟩⟩
   .rintro ⟨x,hx,a⟩;exact⟨x,by simp[hx],a⟩
   .rintro ⟨x,hx,a,b⟩;rcases Zj.1 hx with hx|hx
    .exact⟨x,hx,a,b⟩
    .have:x=r:=Su hx;subst this;exact absurd b d
theorem Xjt(width):∀l:List Ev,(Qvb width l).Pairwise (fun x y=>x.1≠y.1):=by
 refine Qw (by simp[Qvb]) fun l e a=>?_
 rw[Qug];unfold Qr7;split
 .exact a
 .exact Qan a
theorem Qm3{α:Type}(f:α->Int):∀{l:List α},(∀x∈l,f x=0)->(l.map f).sum=0
 |[],_=>rfl
 |x::l,h=>by
  have a:=h x (by simp);have b:=Qm3 f (l:=l) fun y c=>h y (by simp[c])
  simp[a,b]
theorem Qcx{a β:Type}[DecidableEq a](x:a×β)(l k):Qe (x::l) k=if k=x.1 then some x.2 else Qe l k:=rfl
theorem Qpr{s key lo hi}(h:hi<=lo):paS s key lo hi=0:=by
 unfold paS;have:(s.filter fun x=>decide (x.1.1=key)&&(decide (lo<=x.1.2)&&decide (x.1.2<hi)))=[]:=(by rw[Zct];intro x _;simp;omega);rw[this];rfl
theorem Que(x)(s:Qar)(key lo hi):paS (x::s) key lo hi=(if x.1.1=key/\lo<=x.1.2/\x.1.2<hi then x.2 else 0)+paS s key lo hi:=by
 unfold paS;rw[Zau]
 by_cases h:x.1.1=key/\lo<=x.1.2/\x.1.2<hi
 .rw[if_pos (by simp[h.1,h.2.1,h.2.2]),if_pos h];simp
 .rw[if_neg (Su h),if_neg h];omega
theorem Xfv{s}(f:s.Pairwise (fun x y=>x.1≠y.1))(key lo hi)(h:lo<=hi):paS s key lo (hi+1)=paS s key lo hi+(Qe s (key,hi)).getD 0:=by
 induction s with
 |nil=>simp[paS,Qe]
 |cons x s g =>
  rw[Zab]at f;have g:=g f.2;rw[Que,Que,g,Qcx]
  by_cases a:(key,hi)=x.1
  .rw[if_pos a];have i:Qe s (key,hi)=none:=Qej.2 fun y k=>by rw[a];exact fun e=>f.1 y k e.symm
   rw[i,if_pos (by rw[<- a];simp;omega),if_neg (by rw[<- a];simp)];simp;omega
  .rw[if_neg a]
   have:(x.1.1=key/\lo<=x.1.2/\x.1.2<hi+1)↔(x.1.1=key/\lo<=x.1.2/\x.1.2<hi):=by
    constructor
    .rintro ⟨b,d,j⟩;refine⟨b,d,?_⟩;have:x.1.2≠hi:=fun e=>a (by rw[<- b,<- e])
     omega
    .rintro ⟨b,d,j⟩;exact⟨b,d,Om⟩
   by_cases c:x.1.1=key/\lo<=x.1.2/\x.1.2<hi
   .rw[if_pos c,if_pos (this.2 c)];omega
   .rw[if_neg c,if_neg (fun h=>c (this.1 h))];omega
def Xd6(s:Qar)(key:Bj)(lo hi:Int)(row:List Int):Int:=((row.filter fun n=>decide (lo<=n)&&decide (n<hi)).map fun n=>(Qe s (key,n)).getD 0).sum
theorem Xb9(s key lo hi row n):Xd6 s key lo hi (row++[n])=Xd6 s key lo hi row+if lo<=n/\n<hi then(Qe s (key,n)).getD 0 else 0:=by
 unfold Xd6;rw[Zq,Zp,Zbj]
 by_cases h:lo<=n/\n<hi
 .simp[h.1,h.2]
 .rw[if_neg h];have:(decide (lo<=n)&&decide (n<hi))=false:=by simpa using fun a=>Om
  simp[this]
theorem Xgd{s}(d:s.Pairwise (fun x y=>x.1≠y.1))(key lo hi):Xd6 s key lo hi (Qa9 s key)=paS s key lo hi:=by
 unfold Xd6 Qa9 paS;rw[List.filter_map,Zz,List.filter_filter];have:(s.filter fun a=>(Function.comp (fun n=>decide (lo<=n)&&decide (n<hi)) fun x:PK×Int=>x.1.2) a&&decide (a.1.1=key))=s.filter fun x=>decide (x.1.1=key)&&(decide (lo<=x.1.2)&&decide (x.1.2<hi)):=(by apply Zda;intro x _;simp only[Function.comp];rw[Bool.and_comm])
 rw[this];congr 1;apply Zbq;intro x hx;have b:=Ze.1 hx;have c:x.1.1=key:=by have:=b.2;simp at this;exact this.1
 simp only[Function.comp];rw[<- c,Qcl d (show ((x.1.1,x.1.2),x.2)∈s from b.1)];rfl
theorem Qpq{s N}(h:Qhh s N)(b:0<=N)(key lo hi):0<=paS s key lo hi/\paS s key lo hi<=s.length*N:=by
 have a:=Qez (fun x:PK×Int=>x.2) N (s.filter fun x=>decide (x.1.1=key)&&(decide (lo<=x.1.2)&&decide (x.1.2<hi))) fun x hx=>(by have:=h x (Ze.1 hx).1;exact⟨Om,this.2⟩)
 have c:=Zc (fun x:PK×Int=>decide (x.1.1=key)&&(decide (lo<=x.1.2)&&decide (x.1.2<hi))) s;unfold paS;refine⟨a.1,Int.le_trans a.2 (Zaw Om b)⟩
