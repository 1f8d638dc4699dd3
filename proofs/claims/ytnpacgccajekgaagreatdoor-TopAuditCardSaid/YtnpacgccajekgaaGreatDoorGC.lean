import Derived.Laws.Cover3
import Derived.Laws.Pointers
import Derived.Lib.IndexBytes
import Derived.Lib.SplitLaws
import Derived.Lib.CountLaws
import Derived.Test.YtnpacgccajekgaaGreatDoorGB
import Derived.Test.YtnpacgccajekgaaGreatDoorHShelf
set_option linter.all false
namespace Go.Proofs.YtnpacgccajekgaaGreatDoor
open Go.Se Go.RowKit
theorem Qae{P f args w v}{Q:World->Prop}(ok:Qql P f)(h:Calls P f args.toArray w fun e w'=>e=.returned v/\Q w'){R}(a:∀w',Q w'->R v w'):Cal P f args w R:=
 ⟨ok,h.mono fun e w' ⟨b,c⟩=>⟨v,b,a w' c⟩⟩
theorem Qub:Qql Tryz.prog 98:=⟨_,Tryz.func98,rfl,rfl⟩
theorem Qqc(a b:Bj)(w):Cal Tryz.prog 98 [.string a,.string b] w fun r w'=>r=Vj (Qcp a b)/\w'=w:=
 Qae Qub (Tryz.strings_Compare a b w) fun w' c=>⟨by rw[Xiw],c⟩
theorem Qrs(a w):Cal Tryz.prog 162 [Vj a] w fun r w'=>r=.bool false/\w'=w:=by
 refine Fi Tryz.func162 rfl _ rfl rfl (Hh ?_);exact⟨by simp,rfl⟩
theorem Qjb(a b w):Cal Tryz.prog 97 [Vj a,Vj b] w fun r w'=>r=Vj (Qc5 a b)/\w'=w:=by
 refine Fi Tryz.func97 rfl _ rfl rfl (Hh ?_);refine(Qrs a w).mono ?_;rintro _ _ ⟨rfl,rfl⟩;refine Hh ?_;refine(Qrs b _).mono ?_;rintro _ _ ⟨rfl,rfl⟩;refine Hh ?_;constructor
 .intro h;cases h
 intro _;refine Hh ?_;constructor
 .intro h;cases h
 intro _;refine Hh ?_;constructor
 .intro h;have h:a<b:=Su h;refine Hh ?_;exact⟨by unfold Qc5;rw[if_pos h],rfl⟩
 intro h;have h:¬a<b:=Su h;refine Hh ?_;constructor
 .intro k;have k:b<a:=Su k;refine Hh ?_;exact⟨by unfold Qc5;rw[if_neg h,if_pos k],rfl⟩
 intro k;have k:¬b<a:=Su k;refine Hh ?_;exact⟨by unfold Qc5;rw[if_neg h,if_neg k],rfl⟩
def Qf7(z:Int):List Value:= [Vj z]
theorem X8(z):(Qf7 z).length=1:=rfl
theorem Q2p(z):∀u∈Qf7 z,u.oneCell'=true:=by simp[Qf7,Value.oneCell']
abbrev SlI:=Sl Qf7 1
def orL(l:List Int):Int:=(l.find? (fun z=>decide (z≠0))).getD 0
theorem Qex(l A c w)(o:SlI w A l)(v:l.length<1000000000000) :
 Cal Tryz.prog 96 [.slice A l.length c] w fun r w'=>r=Vj (orL l)/\w'=w:=by
 refine Fi Tryz.func96 rfl _ rfl rfl (Hh ?_)
 refine Qh Qb (fun(k:Nat) w'=>k<=l.length/\w'=w/\∀i (b:i<l.length),i<k->l[i]=0)
  (fun k=>[(6,.slice A l.length c),(7,Vj l.length),(8,Vj k),(3,Vj 0)]) (fun k=>l.length-k) 0 ⟨Om,rfl,fun i _ h=>Om⟩ Rr ?_
 rintro k y ⟨u,rfl,f⟩;refine Hh ?_;constructor
 .intro d;have d:k<l.length:=Su d;refine Hh ?_;obtain⟨a,rfl,m⟩:=o.get d;refine⟨a,Ix,Hh ?_⟩;refine⟨Vj l[k],Qp m,Hh ?_⟩;constructor
  .intro h;have h:l[k]≠0:=Su h;refine Hh ?_;refine⟨?_,rfl⟩;unfold orL;have:l.find? (fun z=>decide (z≠0))=some l[k]:=(by rw[List.find?_eq_some_iff_getElem];refine⟨Su h,k,d,rfl,fun j n=>?_⟩;rw[f j Om n];simp);rw[this];rfl
  .intro h;have h:l[k]=0:=Su h;refine Hh ?_;refine⟨_,wrap_succ Om,Hh ?_⟩;refine⟨k+1,Om,⟨Om,rfl,fun i b s=>?_⟩,Rr⟩
   by_cases e:i=k
   .subst e;exact h
   .exact f i b Om
 .intro g;have g:l.length<=k:=Su g;refine Hh ?_;refine⟨?_,rfl⟩;have:l.find? (fun z=>decide (z≠0))=none:=(by rw[List.find?_eq_none];intro x hx;obtain⟨i,b,rfl⟩:=Za2 hx;rw[f i b Om];simp);unfold orL;rw[this];rfl
theorem Qbh(a b w):Cal Tryz.prog 51 [evV a,evV b] w fun r w'=>r=Vj (Qj4 a b)/\Ext w w':=by
 refine Fi Tryz.func51 rfl _ rfl rfl (Hh ?_);intro i l g;refine Hh ?_;intro j e f;have c:=g.At.ext f.ext;have d:=f.At;have hx:=g.ext.trans f.ext;refine Hh ?_;refine Dr .ext [0,1,2,3,5,6,7,8,10,11,12,13,4,9] [14,15,16,17] (Hh ?_);replace c:At e.drew i _ _:=c;replace d:At e.drew j _ _:=d;replace hx:Ext w e.drew:=hx.drew;generalize e.drew=m at c d hx⊢;refine⟨_,c.one rfl,Hh ?_⟩;refine⟨_,d.one rfl,Hh ?_⟩;refine⟨_,c.one0,Hh ?_⟩;refine⟨_,d.one0,Hh ?_⟩;refine⟨_,c.one rfl,Hh ?_⟩;refine⟨_,d.one rfl,Hh ?_⟩;refine(Qjb _ _ _).mono ?_;rintro _ _ ⟨rfl,rfl⟩;refine⟨Ext.refl _,Hh ?_⟩;refine(Qqc _ _ _).mono ?_;rintro _ _ ⟨rfl,rfl⟩;refine⟨Ext.refl _,Hh ?_⟩;refine(Qjb _ _ _).mono ?_;rintro _ _ ⟨rfl,rfl⟩;refine Hh ?_;intro k n h;refine Hh ?_;refine(Qex [Qc5 a.at_ b.at_,Qcp a.src b.src,Qc5 a.num b.num] _ _ _ (Qai (enc:=Qf7) X8 h) (by simp)).mono ?_;rintro _ _ ⟨rfl,rfl⟩;refine Hh ?_;refine⟨?_,hx.trans h.ext⟩;unfold Qj4 orL;congr 1
 by_cases p:Qc5 a.at_ b.at_=0
 .by_cases q:Qcp a.src b.src=0
  .by_cases r:Qc5 a.num b.num=0<;>simp[p,q,r]
  .simp[p,q]
 .simp[p]
def Blk(A:Option Addr)(k:Nat):Prop:=∃a,A=some a/\k=a.block
theorem Only.blk{w w' a}(h:Only w w' a.block):Mod (Blk (some a)) w w':=h.mod.mono fun k _ e=>⟨a,rfl,e⟩
theorem Qgo{w w1 d S}(hx:Ext w w1)(a:Mod S w1 d)(h:∀k,S k->w.heap.size<=k):Ext w d:=
 ⟨a.os.trans hx.os,a.tape.trans hx.tape,a.output.trans hx.output,Zw hx.size a.size,fun b c=>(a.block b (Zat c hx.size) (fun e=>by have:=h b e;omega)).trans (hx.block b c)⟩
section
variable {α:Type}
theorem Qny(P r s)(u v:α):(P++u::(r++v::s))[P.length]?=some u:=by simp
theorem Qnz(P r s)(u v:α):(P++u::(r++v::s))[P.length+1+r.length]?=some v:=by
 rw[Z8 Om,show P.length+1+r.length-P.length=r.length+1 by omega];simp
theorem Quy(P r s)(u v:α):((P++u::(r++v::s)).set P.length v).set (P.length+1+r.length) u=P++v::(r++u::s):=by
 rw[Zcd _ _ Om,Nat.sub_self,List.set_cons_zero,Zcd _ _ Om,show P.length+1+r.length-P.length=r.length+1 by omega,List.set_cons_succ,Zcd _ _ Om,Nat.sub_self,List.set_cons_zero]
theorem Qx8(P r s)(u v:α):((P++u::(r++v::s)).set (P.length+1+r.length) u).set P.length v=P++v::(r++u::s):=by
 rw[List.set_comm _ _ Om,Quy]
theorem Qm4{x:List α}{k}(h:k<x.length):x=x.take k++x[k]::x.drop (k+1):=by
 rw[<- Zak h,Zag]
end
theorem Qdz{w A c base d k x}(h:Own evC 8 69 base w A c d)(b:d[k]?=some x):∃a,A=some a/\Xq w (a.add (k*8)) (evC x):=
 h.sl Qau k x b
theorem Qei{m n}(h:n<=m)(a:m<9223372036854775807):((m-n:Nat):Int)=IntKind.i64.wrap ((m:Int)-(n:Int)):=by
 rw[<- wrap_i64 ⟨Om,Om⟩];omega
theorem wrap_eq{z x}(h:z=x)(a:-9223372036854775808<=x/\x<=9223372036854775807):z=IntKind.i64.wrap x:=by rw[h];exact wrap_i64 a
theorem Qhx{w a c base d k}(x)(b:k<d.length)(f:Own evC 8 69 base w (some a) c d){R}
 (h:∀w',Own evC 8 69 base w' (some a) c (d.set k x)->Only w w' a.block->R undef w'):Qys Tryz.prog (Instr.storeAt 69 (.pointer (some (a.add (k*8)))) (.agg (evC x).toArray)) w R:=
 Qqb (enc:=evC) (sz:=8) (T:=Tt) Qb (e:=ty69) rfl rfl Qau Qbn b x rfl f h
theorem Qfv(p x q y s)(n a b:Nat)(u A c base w)(hx:x.length=n)(ab:y.length=n)(V:p.length=a)(Y:p.length+n+q.length=b)(L)(K:(p++x++q++y++s).length=L)(U:L<1000000000000)
 (R:Own evC 8 69 base w A c (p++x++q++y++s)) :
 Cal Tryz.prog 347 [.slice A L c,Vj a,Vj b,Vj n,u] w fun r w'=>r=.tuple #[]/\Own evC 8 69 base w' A c (p++y++q++x++s)/\Mod (Blk A) w w':=by
 refine Fi Tryz.func347 rfl _ rfl rfl (Hh ?_)
 refine Qh Qb (fun(k:Nat) w'=>k<=n/\Own evC 8 69 base w' A c (p++(y.take k++x.drop k)++q++(x.take k++y.drop k)++s)/\Mod (Blk A) w w')
  (fun k=>[(0,.slice A L c),(1,Vj a),(2,Vj b),(3,Vj n),(4,u),(10,Vj k)]) (fun k=>n-k) 0 ⟨Om,Su R,Mod.refl _ _⟩ Rr ?_
 rintro k H ⟨aa,f,D⟩;refine Hh ?_;constructor
 .intro C;have C:k<n:=Su C;have o:p++(y.take k++x.drop k)++q++(x.take k++y.drop k)++s=(p++y.take k)++x[k]::((x.drop (k+1)++q++x.take k)++y[k]::(y.drop (k+1)++s)):=(by rw[Zak (l:=x) Om,Zak (l:=y) Om];simp only[Zac,Za1,Zah]);have I:p++(y.take (k+1)++x.drop (k+1))++q++(x.take (k+1)++y.drop (k+1))++s=(p++y.take k)++y[k]::((x.drop (k+1)++q++x.take k)++x[k]::(y.drop (k+1)++s)):=(by rw[Za (l:=x) Om,Za (l:=y) Om];simp only[Zac,Za1,Zah]);rw[o]at f;have z:(p++y.take k).length=a+k:=by simp;omega
  have B:(p++y.take k).length+1+(x.drop (k+1)++q++x.take k).length=b+k:=by simp;omega
  have g:=Qny (p++y.take k) (x.drop (k+1)++q++x.take k) (y.drop (k+1)++s) x[k] y[k];have i:=Qnz (p++y.take k) (x.drop (k+1)++q++x.take k) (y.drop (k+1)++s) x[k] y[k];have j:=Quy (p++y.take k) (x.drop (k+1)++q++x.take k) (y.drop (k+1)++s) x[k] y[k];rw[z]at g;rw[B]at i;rw[B,z,<- I]at j;have m:((p++y.take k)++x[k]::((x.drop (k+1)++q++x.take k)++y[k]::(y.drop (k+1)++s))).length=L:=(by rw[<- o,<- K];simp;omega);generalize (p++y.take k)++x[k]::((x.drop (k+1)++q++x.take k)++y[k]::(y.drop (k+1)++s))=d at f g i j m;have W:a+k<L:=by rw[<- m];exact(Zi.1 g).1
  have Z:b+k<L:=by rw[<- m];exact(Zi.1 i).1
  obtain⟨e,J,N⟩:=Qdz f i;obtain⟨_,_,M⟩:=Qdz f g;subst J;obtain rfl:e=_:=by injection ‹some e=some _›
  refine Hh ?_;refine Qdt (.mods (Blk (some e))) [(0,true),(1,true),(2,true),(3,true),(4,false),(5,false),(6,false),(7,false),(8,true),(9,true),(10,true),(11,true),(12,true),(13,true),(14,true),(15,true),(16,true),(17,true),(18,true),(19,true),(20,true)] [21,22] [23] [21,23] Qb mixed Kr (by first|(intro h;cases h;done)|(intro _;rfl)) (Hh ?_);refine⟨((a+k:Nat):Int),Qbc Om,Hh ?_⟩;refine⟨((b+k:Nat):Int),Qbc Om,Hh ?_⟩;refine⟨((b+k:Nat):Int),Qbc Om,Hh ?_⟩;refine⟨e,Ix,Hh ?_⟩;refine⟨evC y[k],⟨rfl,N⟩,Hh ?_⟩;refine⟨((a+k:Nat):Int),Qbc Om,Hh ?_⟩;refine⟨e,Ix,Hh ?_⟩;refine⟨evC x[k],⟨rfl,M⟩,Hh ?_⟩;refine⟨e,Ix,Hh ?_⟩;refine Qhx (w:=H.drew) (k:=a+k) y[k] Om f fun ac S E=>?_
  refine⟨E.blk,Hh ?_⟩;refine⟨e,Ix,Hh ?_⟩;refine Qhx (k:=b+k) x[k] (by simp;omega) S fun ae F P=>?_
  rw[j]at F;refine Hh ?_;refine⟨_,wrap_succ Om,Hh ?_⟩;exact⟨k+1,Om,⟨Om,F,(D.trans (Mod.trans (b:=H.drew) ⟨rfl,rfl,rfl,Zf _,fun _ _ _=>rfl⟩ (E.blk.trans P.blk)))⟩,Rr⟩
 .intro v;have v:n<=k:=Su v;have O:k=n:=Om;subst O;refine Hh ?_;rw[Zd (l:=y) Om,Zd (l:=x) Om,Zb8 (l:=x) Om,Zb8 (l:=y) Om]at f;exact⟨rfl,Su f,D⟩
theorem Mod.drew{S}(w):Mod S w w.drew:=⟨rfl,rfl,rfl,Zf _,fun _ _ _=>rfl⟩
theorem Q0n(p x y s)(a m b:Nat)(h A c base w)(U:x≠[])(V:y≠[])(aa:p.length=a)(O:p.length+x.length=m)(ab:p.length+x.length+y.length=b)(L)(I:(p++x++y++s).length=L)(o:L<1000000000000)
 (R:Own evC 8 69 base w A c (p++x++y++s)) :
 Cal Tryz.prog 294 [.slice A L c,Vj a,Vj m,Vj b,h] w fun r w'=>r=.tuple #[]/\Own evC 8 69 base w' A c (p++y++x++s)/\Mod (Blk A) w w':=by
 have J:p.length+x.length+y.length+s.length=L:=by rw[<- I];simp;omega
 refine Fi Tryz.func294 rfl _ rfl rfl (Hh ?_);refine⟨((m-a:Nat):Int),Qei Om Om,Hh ?_⟩;refine⟨((b-m:Nat):Int),Qei Om Om,Hh ?_⟩
 refine Qh Qb (fun(i:List Ev×List Ev×List Ev×List Ev) w'=>i.1.length+i.2.1.length=m/\i.2.1≠[]/\i.2.2.1≠[]/\i.1.length+i.2.1.length+i.2.2.1.length+i.2.2.2.length=L/\i.1++i.2.2.1++i.2.1++i.2.2.2=p++y++x++s/\Own evC 8 69 base w' A c (i.1++i.2.1++i.2.2.1++i.2.2.2)/\Mod (Blk A) w w')
  (fun i=>[(0,.slice A L c),(2,Vj m),(4,h),(10,Vj i.2.1.length),(11,Vj i.2.2.1.length)]) (fun i=>i.2.1.length+i.2.2.1.length) (p,x,y,s)
  ⟨O,U,V,J,rfl,R,Mod.refl _ _⟩ ⟨rfl,rfl,rfl,int_eq (Sj),int_eq (Sj),trivial⟩ ?_
 rintro ⟨P,X,Y,S⟩ v ⟨H,z,B,N,l,n,u⟩;simp only at H z B N l n;have W:=Zad.2 z;have Z:=Zad.2 B;refine Hh ?_;constructor
 .intro E;have E:X.length≠Y.length:=by simp at E;omega
  refine Hh ?_;constructor
  .intro C;have C:Y.length<X.length:=Su C;obtain⟨f,g,rfl,K⟩:∃f g,X=f++g/\f.length=Y.length:=⟨X.take Y.length,X.drop Y.length,by simp,by simp;omega⟩;simp only[Zo]at*;refine Hh ?_;refine⟨((m-(f.length+g.length):Nat):Int),wrap_eq Om ⟨Om,Om⟩,Hh ?_⟩;refine(Qfv P f g Y S Y.length (m-(f.length+g.length)) m h A c base v K rfl Om Om L (by simp;omega) o (Su n)).mono ?_;rintro _ F ⟨rfl,k,j⟩;refine Hh ?_;refine⟨((g.length:Nat):Int),wrap_eq Om ⟨Om,Om⟩,Hh ?_⟩;refine⟨(P++Y,g,f,S),by simp;omega,⟨by simp;omega,?_,?_,by simp;omega,Su l,Su k,u.trans j⟩,⟨rfl,rfl,rfl,rfl,int_eq (Sj),trivial⟩⟩
   .rw[<- Zad];simp only;omega
   .rw[<- Zad];simp only;omega
  .intro D;have D:X.length<Y.length:=by simp at D;omega
   obtain⟨d,e,rfl,M⟩:∃d e,Y=d++e/\e.length=X.length:=⟨Y.take (Y.length-X.length),Y.drop (Y.length-X.length),by simp,by simp;omega⟩;simp only[Zo]at*;refine Hh ?_;refine⟨((m-X.length:Nat):Int),Qei Om Om,Hh ?_⟩;refine⟨((m+(d.length+e.length):Nat):Int),wrap_eq Om ⟨Om,Om⟩,Hh ?_⟩;refine⟨((m+(d.length+e.length)-X.length:Nat):Int),Qei Om Om,Hh ?_⟩;refine(Qfv P X d e S X.length (m-X.length) (m+(d.length+e.length)-X.length) h A c base v rfl M Om Om L (by simp;omega) o (Su n)).mono ?_;rintro _ F ⟨rfl,k,j⟩;refine Hh ?_;refine⟨((d.length:Nat):Int),wrap_eq Om ⟨Om,Om⟩,Hh ?_⟩;refine⟨(P,e,d,X++S),by simp;omega,⟨by simp;omega,?_,?_,by simp;omega,Su l,Su k,u.trans j⟩,⟨rfl,rfl,rfl,int_eq (Sj),rfl,trivial⟩⟩
   .rw[<- Zad];simp only;omega
   .rw[<- Zad];simp only;omega
 .intro heq;have heq:X.length=Y.length:=by simp at heq;omega
  refine Hh ?_;refine⟨((m-X.length:Nat):Int),Qei Om Om,Hh ?_⟩;refine(Qfv P X [] Y S X.length (m-X.length) m h A c base v rfl heq.symm Om (by simp;omega) L (by simp;omega) o (Su n)).mono ?_;rintro _ F ⟨rfl,k,j⟩;refine Hh ?_;refine⟨rfl,?_,u.trans j⟩;rw[<- l];simpa using k
abbrev Qs2:Value:= .func (.func 51) #[] #[]
theorem Q6w{α:Type}{lt}(O:Swo lt){b z2}{v:α}(c:Srt lt (b++z2))(h:∀u∈z2,lt v u=true)(g:∀u,b.getLast?=some u->lt v u=false):Srt lt (b++v::z2):=by
 refine Srt.append c.left (Zab.2 ⟨fun u a=>O.asymm _ _ (h u a),c.right⟩) fun u a t e=>?_
 rcases Zr.1 e with rfl|e
 .rcases Zbo b with rfl|⟨z,d,i⟩
  .simp at a
  .have j:b=z++[d]:=Su i;subst j;have f:=g d (by simp);rcases Zj.1 a with a|a
   .exact O.trans u d t (c.left.across u a d (by simp)) f
   .simp at a;subst a;exact f
 .exact c.across u a t e
theorem Qix(p x s)(a b:Nat)(A c base w)(a8:p.length=a)(a9:p.length+x.length=b)(L)(bq:p.length+x.length+s.length=L)(br:L<1000000000000)
 (ar:Own evC 8 69 base w A c (p++x++s)) :
 Cal Tryz.prog 222 [.slice A L c,Vj a,Vj b,Qs2] w fun r w'=>r=.tuple #[]/\∃z,z.Perm x/\Srt Q5 z/\Own evC 8 69 base w' A c (p++z++s)/\Mod (Blk A) w w':=by
 refine Fi Tryz.func222 rfl _ rfl rfl (Hh ?_);refine⟨_,wrap_succ Om,Hh ?_⟩
 refine Qh Qb (fun(i:Nat×List Ev) w'=>(i.1=a+i.2.length\/x=[]/\i.2=[]/\i.1=a+1)/\i.2.length<=x.length/\i.2.Perm (x.take i.2.length)/\Srt Q5 i.2/\Own evC 8 69 base w' A c (p++i.2++(x.drop i.2.length++s))/\Mod (Blk A) w w')
  (fun|(i,_)=>[(0,.slice A L c),(1,Vj a),(2,Vj b),(3,Qs2),(8,Vj i)]) (fun i=>x.length-i.2.length) (a+1,x.take 1) ?_ Rr ?_
 .cases x with
  |nil=>exact⟨.inr ⟨rfl,rfl,rfl⟩,by simp,by simp,Srt.nil,Su ar,Mod.refl _ _⟩
  |cons y x=>exact⟨.inl (by simp),by simp,by simp,by simp[Srt],Su ar,Mod.refl _ _⟩
 rintro ⟨i,z⟩ bu ⟨O,bo,U,ay,E,al⟩;simp only at O bo U E;refine Hh ?_;constructor
 .intro ak;have ak:i<b:=Su ak
  have O:i=a+z.length:=by
   rcases O with h|⟨h,N,a3⟩
   .exact h
   .subst h;simp at a9;omega
  have J:z.length<x.length:=Om;have ai:x.drop z.length=x[z.length]::x.drop (z.length+1):=Zak J;have av:x.take (z.length+1)=x.take z.length++[x[z.length]]:=Za J;rw[ai]at E;generalize x[z.length]=v at E ai av;refine Hh ?_
  refine Qh Qb (fun(q:List Ev×List Ev) w'=>z=q.1++q.2/\(∀u∈q.2,Q5 v u=true)/\Own evC 8 69 base w' A c (p++q.1++v::(q.2++(x.drop (z.length+1)++s)))/\Mod (Blk A) w w')
   (fun|(g,_)=>[(0,.slice A L c),(1,Vj a),(2,Vj b),(3,Qs2),(8,Vj i),(9,Vj ((a+g.length:Nat):Int))]) (fun q=>q.1.length) (z,[]) ⟨by simp,by simp,Su E,al⟩ ⟨rfl,rfl,rfl,rfl,rfl,int_eq Om,trivial⟩ ?_
  rintro ⟨g,j⟩ af ⟨I,ax,C,P⟩;simp only at I C;have ac:z.length=g.length+j.length:=by rw[I];simp
  refine Hh ?_;refine Dr .same [0,1,2,3,4,5,6,7,8,9,10,11,12,13] [14,15,16] (Hh ?_);replace C:Own evC 8 69 base af.drew A c _:=C;replace P:Mod (Blk A) w af.drew:=P.trans (Mod.drew _);generalize af.drew=V at C P⊢;have bh:(p++g++v::(j++(x.drop (z.length+1)++s)))[a+g.length]?=some v:=(by rw[Z8 (by simp;omega)];simp[a8]);obtain⟨l,a4,bd⟩:=Qdz C bh;subst a4;have Y:∀{m n:Nat},decide ((m:Int)<(n:Int))=true->m<n:=fun h=>Su h
  obtain⟨u,aa⟩:∃u,g≠[]->∃f,g=f++[u]:=by
   rcases Zbo g with h|⟨f,bp,h⟩
   .exact⟨v,fun bi=>absurd h bi⟩
   .exact⟨bp,fun _=>⟨f,Su h⟩⟩
  have bb:g≠[]->Xq V (l.add ((a+g.length-1)*8)) (evC u):=fun R=>by
   obtain⟨f,ae⟩:=aa R;have:(p++g++v::(j++(x.drop (z.length+1)++s)))[a+g.length-1]?=some u:=(by rw[ae,show a+(f++[u]).length-1=(p++f).length by simp;omega,show p++(f++[u])++v::(j++(x.drop (z.length+1)++s))=(p++f)++u::(v::(j++(x.drop (z.length+1)++s))) by simp];simp);obtain⟨a1,a0,N⟩:=Qdz C this;obtain rfl:l=a1:=by injection a0
   exact N
  have R:∀{m:Nat},a<a+g.length->g≠[]:=fun h e=>by rw[e]at h;simp at h
  refine⟨l,fun B=>Ix,Hh ?_⟩;refine⟨evC v,fun B=>⟨rfl,bd⟩,Hh ?_⟩;refine⟨((a+g.length-1:Nat):Int),fun B=>wrap_eq (by have:=Y B;omega) ⟨Om,Om⟩,Hh ?_⟩;refine⟨l,fun B=>Ix,Hh ?_⟩;refine⟨evC u,fun B=>⟨rfl,bb (R (m:=0) (Y B))⟩,Hh ?_⟩;refine⟨Unit,fun _=>Vj (Qj4 v u),fun _ w'=>Ext V w',(),fun B=>(Qbh v u V).mono (fun r w' h=>⟨(),h.1,h.2⟩),fun _ ag ah=>?_⟩
  have aw:Ext V ag:=by
   rcases ah with⟨_,h⟩|⟨_,h⟩
   .exact h
   .rw[h];exact Ext.refl _
  clear ah;have F:=C.ext aw;have an:Mod (Blk (some l)) w ag:=P.trans (Mod.of_ext aw);refine Hh ?_;constructor
  .intro o;have o:(decide ((a:Int)<((a+g.length:Nat):Int))&&decide (Qj4 v u<0))=true:=o;rw[Zk,Qco]at o;obtain⟨f,rfl⟩:=aa (R (m:=0) (Y o.1));have bm:=o.2;have az:p++(f++[u])++v::(j++(x.drop (z.length+1)++s))=(p++f)++u::([]++v::(j++(x.drop (z.length+1)++s))):=by simp
   rw[az]at F;have M:=Qx8 (p++f) [] (j++(x.drop (z.length+1)++s)) u v;have Z:((p++f)++u::([]++v::(j++(x.drop (z.length+1)++s)))).length=L:=by simp at ac⊢;omega
   have bj:(p++f).length=a+f.length:=by simp;omega
   have W:=Qny (p++f) [] (j++(x.drop (z.length+1)++s)) u v;have K:=Qnz (p++f) [] (j++(x.drop (z.length+1)++s)) u v;rw[bj]at M W K;simp only[Zae,Zcf]at M K;have D:(f++[u]).length=f.length+1:=by simp
   generalize bs:(p++f)++u::([]++v::(j++(x.drop (z.length+1)++s)))=d at F M Z W K;obtain⟨_,a5,be⟩:=Qdz F W;obtain rfl:l=_:=by injection a5
   obtain⟨_,a7,bg⟩:=Qdz F K;obtain rfl:l=_:=by injection a7
   refine Hh ?_;refine Qdt (.mods (Blk (some l))) [(0,true),(1,true),(2,false),(3,false),(4,false),(5,true),(6,true),(7,true),(8,true),(9,true),(10,true),(11,true),(12,true),(13,true),(14,true)] [15,16] [17] [15,17] Qb mixed Kr (by first|(intro h;cases h;done)|(intro _;rfl)) (Hh ?_);refine⟨((a+f.length:Nat):Int),wrap_eq (by rw[D];omega) ⟨Om,Om⟩,Hh ?_⟩;refine⟨((a+f.length:Nat):Int),wrap_eq (by rw[D];omega) ⟨Om,Om⟩,Hh ?_⟩;refine⟨l,Ix,Hh ?_⟩;refine⟨evC u,⟨rfl,be⟩,Hh ?_⟩;refine⟨l,Ix,Hh ?_⟩;refine⟨evC v,⟨rfl,by rw[D];exact bg⟩,Hh ?_⟩;refine⟨l,Ix,Hh ?_⟩;refine Qhx (w:=ag.drew) (k:=a+(f++[u]).length) u (by rw[Z,D];simp at ac;omega) F fun w5 bl aq=>?_
   refine⟨aq.blk,Hh ?_⟩;refine⟨l,Ix,Hh ?_⟩;refine Qhx (k:=a+f.length) v (by rw[Zbi,Z];simp at ac;omega) bl fun bv au bk=>?_
   rw[D,<- Nat.add_assoc,M]at au;refine Hh ?_;refine⟨((a+f.length:Nat):Int),wrap_eq (by rw[D];omega) ⟨Om,Om⟩,Hh ?_⟩;refine⟨(f,u::j),by simp,⟨by rw[I];simp,?_,Su au,an.trans ((Mod.drew _).trans (aq.blk.trans bk.blk))⟩,Rr⟩;intro y ab;rcases Zr.1 ab with rfl|ab
   .exact bm
   .exact ax y ab
  .intro o;have o:(decide ((a:Int)<((a+g.length:Nat):Int))&&decide (Qj4 v u<0))=false:=o;rw[Qco]at o;refine Hh ?_;refine⟨_,wrap_succ Om,Hh ?_⟩;have H:(g++v::j).length=z.length+1:=by simp;omega
   refine⟨(i+1,g++v::j),by simp only[H];omega,⟨.inl (by simp only[H];omega),by simp only[H];omega,?_,?_,?_,an⟩,Rr⟩
   .simp only[H];rw[av];refine List.Perm.trans ?_ (U.append_right [v]);rw[I];exact List.perm_middle.trans (by rw[Zac];exact(List.perm_append_comm (l₁:= [v])).trans (by simp))
   .refine Q6w Qbo (by rw[<- I];exact ay) ax fun t S=>?_
    have ao:g≠[]:=fun e=>by rw[e]at S;simp at S
    obtain⟨f,ae⟩:=aa ao;rw[ae]at S;obtain rfl:u=t:=Su S;have bt:=Zad.2 ao;have:decide ((a:Int)<((a+g.length:Nat):Int))=true:=by simp;omega
    rw[this,Bool.true_and]at o;exact o
   .simp only[H];simpa using F
 .intro aj;have aj:b<=i:=Su aj;refine Hh ?_
  have J:z.length=x.length:=by
   rcases O with h|⟨h,N,a3⟩
   .omega
   .rw[h,N]
  refine⟨rfl,z,?_,ay,?_,al⟩
  .rw[J,Zck]at U;exact U
  .rw[J,List.drop_length]at E;simpa using E
theorem Qln(n):(0:Int)<=1/\((n/2:Nat):Int)=Int.fdiv (n:Int) (2^(min (1:Int).toNat IntKind.u64.bits)):=by
 refine⟨by decide,?_⟩;have:(2:Int)^(min (1:Int).toNat IntKind.u64.bits)=2:=by decide
 rw[this,Zcv _ (by decide)];omega
theorem Qso{n:Nat}(h:n<=9223372036854775807):(n:Int)=IntKind.u64.wrap (n:Int):=wrap_u64 ⟨Om,Om⟩
theorem Qsn{n:Nat}(h:n<=9223372036854775807):(n:Int)=IntKind.i64.wrap (n:Int):=wrap_i64 ⟨Om,Om⟩
section
variable {α:Type}{lt:α->α->Bool}
theorem Qpb{l:List α}{i u}(c:0<i)(h:l[i-1]?=some u):(l.take i).getLast?=some u:=by
 have a:i-1<l.length:=(Zi.1 h).1;obtain⟨i,rfl⟩:∃b,i=b+1:=⟨i-1,Om⟩;have:l[i]=u:=by simp at h a;rw[Zb a]at h;simpa using h
 rw[Za Om];simp[this]
theorem head_drop{l:List α}{i u}(h:l[i]?=some u):(l.drop i).head?=some u:=by
 rw[List.head?_drop];exact h
theorem Q3k(O:Swo lt){y v i}(hi:i<=y.length)(m:Srt lt y)(j:i=0\/∃u,y[i-1]?=some u/\lt v u=false)(k:i=y.length\/∃u,y[i]?=some u/\lt u v=false):Srt lt (y.take i++v::y.drop i):=by
 have f:Srt lt (y.take i++y.drop i):=by rw[Zag];exact m
 have n:=Qtn (x:=y.take i) (y:= [v]) O f.left (Srt.one v) (fun a b d e=>by
  obtain rfl:v=b:=Su e;rcases j with rfl|⟨u,c,h⟩
  .simp at d
  .by_cases l:i=0
   .subst l;simp at d
   .rw[Qpb Om c]at d;obtain rfl:u=a:=Su d;exact h)
 have o:=Qtn (x:= [v]) (y:=y.drop i) O (Srt.one v) f.right (fun a b d e=>by
  obtain rfl:v=a:=Su d;rcases k with rfl|⟨u,c,h⟩
  .simp at e
  .rw[head_drop c]at e;obtain rfl:u=b:=Su e;exact h)
 refine f.left.append (Zab.2 ⟨fun t g=>o v (by simp) t g,f.right⟩) fun t g u c=>?_
 rcases Zr.1 c with rfl|c
 .exact n t g u (by simp)
 .exact f.across t g u c
end
theorem Q05{y:List Ev}{i:Nat}{u v}(h:y[i]?=some u)(a:Q5 u v=true):y[i]?=some u/\Q5 v u=false:=⟨h,Qbo.asymm _ _ a⟩
set_option maxHeartbeats 4000000 in
theorem Qk2:∀(N:Nat) (p x y s:List Ev) (a m b:Nat) (A:Option Addr) (c base:Nat) (w:World) (hN:x.length+y.length<=N) (hx0:0<x.length) (hy0:0<y.length) (hsx:Srt Q5 x) (hsy:Srt Q5 y) (ha:p.length=a) (hm:p.length+x.length=m) (hb:p.length+x.length+y.length=b) (L:Nat) (hL:p.length+x.length+y.length+s.length=L) (hLs:L<1000000000000)
 (hown:Own evC 8 69 base w A c (p++x++y++s)),
 Cal Tryz.prog 223 [.slice A L c,Vj a,Vj m,Vj b,Qs2] w fun r w'=>r=.tuple #[]/\∃z,z.Perm (x++y)/\Srt Q5 z/\Own evC 8 69 base w' A c (p++z++s)/\Mod (Blk A) w w':=by
 intro N
 induction N with
 |zero=>intro p x y s a m b A c base w hN hx0;omega
 |succ N ih =>
  intro p x y s a m b A c base w hN hx0 hy0 hsx hsy ha hm hb L hL hLs hown;have hd:∀{m n:Nat},decide ((m:Int)<(n:Int))=true->m<n:=fun h=>Su h
  have hd':∀{m n:Nat},decide ((m:Int)<(n:Int))=false->n<=m:=fun h=>Su h
  refine Fi Tryz.func223 rfl _ rfl rfl (Hh ?_);refine⟨((m-a:Nat):Int),Qei Om Om,Hh ?_⟩;constructor
  .intro h1;have h1:x.length=1:=by simp at h1;omega
   obtain⟨v,rfl⟩:=List.length_eq_one_iff.1 h1;have hv1:[v].length=1:=rfl;have hvat:(p++[v]++y++s)[a]?=some v:=by rw[<- ha];simp
   obtain⟨a0,hA,hcv⟩:=Qdz hown hvat;subst hA;refine Hh ?_
   refine Qh Qb (fun(q:Nat×Nat) w'=>q.1<=q.2/\q.2<=y.length/\(q.1=0\/∃u,y[q.1-1]?=some u/\Q5 v u=false)/\(q.2=y.length\/∃u,y[q.2]?=some u/\Q5 u v=false)/\Ext w w')
    (fun|(i,j)=>[(0,.slice (some a0) L c),(1,Vj a),(2,Vj m),(3,Vj b),(4,Qs2),(10,Vj ((m+i:Nat):Int)),(11,Vj ((m+j:Nat):Int))]) (fun q=>q.2-q.1) (0,y.length)
    ⟨by simp,by simp,.inl rfl,.inl rfl,Ext.refl _⟩ ⟨rfl,rfl,rfl,rfl,rfl,rfl,int_eq Om,trivial⟩ ?_
   rintro ⟨i,j⟩ w1 ⟨hij,hjy,hi,hj,hx1⟩;simp only at hij hjy hi hj;refine Hh ?_;constructor
   .intro hlt;have hlt:i<j:=by have:=hd hlt;omega
    obtain⟨h,hh⟩:∃h,h=(i+j)/2:=⟨_,rfl⟩;have hhm:(m+i+(m+j))/2=m+h:=Om;have hhy:h<y.length:=Om;have hhat:(p++[v]++y++s)[m+h]?=some y[h]:=(by rw[Zy (by simp;omega),Z8 (by simp;omega)];rw[show m+h-(p++[v]).length=h by simp;omega];exact Zb hhy);obtain⟨_,hA1,hch⟩:=Qdz hown hhat;obtain rfl:a0=_:=by injection hA1
    have hyh:y[h]?=some y[h]:=Zb hhy;generalize y[h]=u at hch hyh;refine Hh ?_;refine⟨((m+i+(m+j):Nat):Int),Qbc Om,Hh ?_⟩;refine⟨((m+i+(m+j):Nat):Int),Qso Om,Hh ?_⟩;refine⟨((m+h:Nat):Int),by rw[<- hhm];exact Qln _,Hh ?_⟩;refine⟨((m+h:Nat):Int),Qsn Om,Hh ?_⟩;refine Dr .same [0,1,2,3,4,5,6,7,8] [9,10] (Hh ?_);replace hx1:Ext w w1.drew:=hx1.drew;generalize w1.drew=w2 at hx1⊢;refine⟨a0,Ix,Hh ?_⟩;refine⟨evC u,⟨rfl,hx1.cells hch⟩,Hh ?_⟩;refine⟨a0,Ix,Hh ?_⟩;refine⟨evC v,⟨rfl,hx1.cells hcv⟩,Hh ?_⟩;refine(Qbh u v w2).mono ?_;rintro _ w3 ⟨rfl,hx3⟩;refine Hh ?_;constructor
    .intro hc;have hc:Q5 u v=true:=by rw[<- Qco];exact hc
     refine Hh ?_;refine⟨((m+(h+1):Nat):Int),wrap_eq Om ⟨Om,Om⟩,Hh ?_⟩;exact⟨(h+1,j),Sj,⟨Sj,hjy,.inr ⟨u,Q05 (Su hyh) hc⟩,hj,hx1.trans hx3⟩,Rr⟩
    .intro hc;have hc:Q5 u v=false:=by rw[<- Qco];exact hc
     refine Hh ?_;exact⟨(i,h),Sj,⟨Sj,Sj,hi,.inr ⟨u,hyh,hc⟩,hx1.trans hx3⟩,Rr⟩
   .intro hge;have hge:j<=i:=by have:=hd' hge;omega
    obtain rfl:i=j:=Om;have hsr:=Q3k Qbo hjy hsy hi hj;have hpr:(y.take i++v::y.drop i).Perm ([v]++y):=(by refine List.perm_middle.trans ?_;rw[Zag];exact Za9 _);have hown1:=hown.ext hx1;have hlt1:(y.take i).length=i:=by simp;omega
    have hyd:y=y.take i++y.drop i:=(Zag i y).symm;have hdl:(y.drop i).length=y.length-i:=by simp
    generalize y.take i=y1 at hsr hpr hlt1 hyd;generalize y.drop i=y2 at hsr hpr hyd hdl;subst hyd;have hly:(y1++y2).length=y1.length+y2.length:=Zo;refine Hh ?_
    refine Qh Qb (fun(k:Nat) w'=>k<=i/\Own evC 8 69 base w' (some a0) c (p++y1.take k++v::(y1.drop k++(y2++s)))/\Mod (Blk (some a0)) w w')
     (fun k=>[(0,.slice (some a0) L c),(1,Vj a),(2,Vj m),(3,Vj b),(4,Qs2),(10,Vj ((m+i:Nat):Int)),(13,Vj ((a+k:Nat):Int))]) (fun k=>i-k) 0
     ⟨Om,Su hown1,Mod.of_ext hx1⟩ Rr ?_
    rintro k w2 ⟨hk,hown2,hm2⟩;refine Hh ?_;refine⟨((a+i:Nat):Int),wrap_eq Om ⟨Om,Om⟩,Hh ?_⟩;constructor
    .intro hlt;have hlt:k<i:=by have:=hd hlt;omega
     have hdk:y1.drop k=y1[k]::y1.drop (k+1):=Zak Om;have htk:y1.take (k+1)=y1.take k++[y1[k]]:=Za Om;generalize y1[k]=u at hdk htk;have e0:p++y1.take k++v::(y1.drop k++(y2++s))=(p++y1.take k)++v::([]++u::(y1.drop (k+1)++(y2++s))):=by rw[hdk];simp
     rw[e0]at hown2;have hi1:(p++y1.take k).length=a+k:=by simp;omega
     have g1:=Quy (p++y1.take k) [] (y1.drop (k+1)++(y2++s)) v u;have f1:=Qny (p++y1.take k) [] (y1.drop (k+1)++(y2++s)) v u;have f2:=Qnz (p++y1.take k) [] (y1.drop (k+1)++(y2++s)) v u;rw[hi1]at g1 f1 f2;simp only[Zae,Zcf]at g1 f2;have hdl:((p++y1.take k)++v::([]++u::(y1.drop (k+1)++(y2++s)))).length=L:=by simp at hL⊢;omega
     generalize (p++y1.take k)++v::([]++u::(y1.drop (k+1)++(y2++s)))=d at hown2 g1 f1 f2 hdl;obtain⟨_,hA1,hcu⟩:=Qdz hown2 f1;obtain rfl:a0=_:=by injection hA1
     obtain⟨_,hA2,hcw⟩:=Qdz hown2 f2;obtain rfl:a0=_:=by injection hA2
     have hkL:a+k+1<L:=by rw[<- hdl];exact(Zi.1 f2).1
     refine Hh ?_;refine Qdt (.mods (Blk (some a0))) [(0,true),(1,true),(2,false),(3,false),(4,false),(5,true),(6,true),(7,true),(8,true),(9,true),(10,true),(11,true),(12,true),(13,true),(14,true)] [15,16] [17] [15,17] Qb mixed Kr (by first|(intro h;cases h;done)|(intro _;rfl)) (Hh ?_);refine⟨((a+k+1:Nat):Int),wrap_succ Om,Hh ?_⟩;refine⟨((a+k+1:Nat):Int),wrap_succ Om,Hh ?_⟩;refine⟨a0,Ix,Hh ?_⟩;refine⟨evC u,⟨rfl,hcw⟩,Hh ?_⟩;refine⟨a0,Ix,Hh ?_⟩;refine⟨evC v,⟨rfl,hcu⟩,Hh ?_⟩;refine⟨a0,Ix,Hh ?_⟩;refine Qhx (w:=w2.drew) (k:=a+k) u Om hown2 fun w5 hown5 ho5=>?_
     refine⟨ho5.blk,Hh ?_⟩;refine⟨a0,Ix,Hh ?_⟩;refine Qhx (k:=a+k+1) v (by rw[Zbi,hdl];omega) hown5 fun w6 hown6 ho6=>?_
     rw[g1]at hown6;refine Hh ?_;refine⟨((a+(k+1):Nat):Int),wrap_eq Om ⟨Om,Om⟩,Hh ?_⟩;refine⟨k+1,Om,⟨Om,by rw[htk];simpa using hown6,hm2.trans ((Mod.drew _).trans (ho5.blk.trans ho6.blk))⟩,Rr⟩
    .intro hge;have hge:i<=k:=by have:=hd' hge;omega
     rw[Zd (l:=y1) Om,Zb8 (l:=y1) Om]at hown2;refine Hh ?_;exact⟨rfl,_,hpr,hsr,Su hown2,hm2⟩
  intro h1;have hxl:2<=x.length:=by simp at h1;omega
  clear h1;refine Hh ?_;refine⟨((b-m:Nat):Int),Qei Om Om,Hh ?_⟩;constructor
  .intro h1;have h1:y.length=1:=by simp at h1;omega
   obtain⟨v,rfl⟩:=List.length_eq_one_iff.1 h1;have hv1:[v].length=1:=rfl;have hvat:(p++x++[v]++s)[m]?=some v:=(by rw[show p++x++[v]++s=(p++x)++v::s by simp,show m=(p++x).length by simp;omega];simp);obtain⟨a0,hA,hcv⟩:=Qdz hown hvat;subst hA;refine Hh ?_
   refine Qh Qb (fun(q:Nat×Nat) w'=>q.1<=q.2/\q.2<=x.length/\(q.1=0\/∃u,x[q.1-1]?=some u/\Q5 v u=false)/\(q.2=x.length\/∃u,x[q.2]?=some u/\Q5 u v=false)/\Ext w w')
    (fun|(i,j)=>[(0,.slice (some a0) L c),(1,Vj a),(2,Vj m),(3,Vj b),(4,Qs2),(14,Vj ((a+i:Nat):Int)),(15,Vj ((a+j:Nat):Int))]) (fun q=>q.2-q.1) (0,x.length)
    ⟨by simp,by simp,.inl rfl,.inl rfl,Ext.refl _⟩ ⟨rfl,rfl,rfl,rfl,rfl,rfl,int_eq Om,trivial⟩ ?_
   rintro ⟨i,j⟩ w1 ⟨hij,hjy,hi,hj,hx1⟩;simp only at hij hjy hi hj;refine Hh ?_;constructor
   .intro hlt;have hlt:i<j:=by have:=hd hlt;omega
    obtain⟨h,hh⟩:∃h,h=(i+j)/2:=⟨_,rfl⟩;have hhm:(a+i+(a+j))/2=a+h:=Om;have hhy:h<x.length:=Om;have hhat:(p++x++[v]++s)[a+h]?=some x[h]:=(by rw[Zac,Zac,Z8 Om,Zy Om];rw[show a+h-p.length=h by omega];exact Zb hhy);obtain⟨_,hA1,hch⟩:=Qdz hown hhat;obtain rfl:a0=_:=by injection hA1
    have hyh:x[h]?=some x[h]:=Zb hhy;generalize x[h]=u at hch hyh;refine Hh ?_;refine⟨((a+i+(a+j):Nat):Int),Qbc Om,Hh ?_⟩;refine⟨((a+i+(a+j):Nat):Int),Qso Om,Hh ?_⟩;refine⟨((a+h:Nat):Int),by rw[<- hhm];exact Qln _,Hh ?_⟩;refine⟨((a+h:Nat):Int),Qsn Om,Hh ?_⟩;refine Dr .same [0,1,2,3,4,5,6,7,8] [9,10,11] (Hh ?_);replace hx1:Ext w w1.drew:=hx1.drew;generalize w1.drew=w2 at hx1⊢;refine⟨a0,Ix,Hh ?_⟩;refine⟨evC v,⟨rfl,hx1.cells hcv⟩,Hh ?_⟩;refine⟨a0,Ix,Hh ?_⟩;refine⟨evC u,⟨rfl,hx1.cells hch⟩,Hh ?_⟩;refine(Qbh v u w2).mono ?_;rintro _ w3 ⟨rfl,hx3⟩;refine Hh ?_;constructor
    .intro hc;have hc:Q5 v u=false:=by rw[<- Qco];simpa using hc
     refine Hh ?_;refine⟨((a+(h+1):Nat):Int),wrap_eq Om ⟨Om,Om⟩,Hh ?_⟩;exact⟨(h+1,j),Sj,⟨Sj,hjy,.inr ⟨u,Su hyh,hc⟩,hj,hx1.trans hx3⟩,Rr⟩
    .intro hc;have hc:Q5 v u=true:=by rw[<- Qco];simpa using hc
     refine Hh ?_;exact⟨(i,h),Sj,⟨Sj,Sj,hi,.inr ⟨u,hyh,Qbo.asymm _ _ hc⟩,hx1.trans hx3⟩,Rr⟩
   .intro hge;have hge:j<=i:=by have:=hd' hge;omega
    obtain rfl:i=j:=Om;have hsr:=Q3k Qbo hjy hsx hi hj;have hpr:(x.take i++v::x.drop i).Perm (x++[v]):=(by refine List.perm_middle.trans ?_;rw[Zag];exact(List.perm_append_comm (l₁:= [v])).trans (Za9 _));have hown1:=hown.ext hx1;have hlt1:(x.take i).length=i:=by simp;omega
    have hyd:x=x.take i++x.drop i:=(Zag i x).symm;have hdl:(x.drop i).length=x.length-i:=by simp
    generalize x.take i=x1 at hsr hpr hlt1 hyd;generalize x.drop i=x2 at hsr hpr hyd hdl;subst hyd;have hlx:(x1++x2).length=x1.length+x2.length:=Zo;refine Hh ?_
    refine Qh Qb (fun(k:Nat) w'=>k<=x2.length/\Own evC 8 69 base w' (some a0) c (p++x1++x2.take k++v::(x2.drop k++s))/\Mod (Blk (some a0)) w w')
     (fun k=>[(0,.slice (some a0) L c),(1,Vj a),(2,Vj m),(3,Vj b),(4,Qs2),(14,Vj ((a+i:Nat):Int)),(17,Vj ((a+i+k:Nat):Int))]) (fun k=>k) x2.length
     ⟨Om,Su hown1,Mod.of_ext hx1⟩ ⟨rfl,rfl,rfl,rfl,rfl,rfl,int_eq Om,trivial⟩ ?_
    rintro k w2 ⟨hk,hown2,hm2⟩;refine Hh ?_;constructor
    .intro hlt;have hlt:0<k:=by have:=hd hlt;omega
     obtain⟨k,rfl⟩:∃j,k=j+1:=⟨k-1,Om⟩;have hdk:x2.drop k=x2[k]::x2.drop (k+1):=Zak Om;have htk:x2.take (k+1)=x2.take k++[x2[k]]:=Za Om;generalize x2[k]=u at hdk htk;have e0:p++x1++x2.take (k+1)++v::(x2.drop (k+1)++s)=(p++x1++x2.take k)++u::([]++v::(x2.drop (k+1)++s)):=by rw[htk];simp
     rw[e0]at hown2;have hi1:(p++x1++x2.take k).length=a+i+k:=by simp;omega
     have g1:=Qx8 (p++x1++x2.take k) [] (x2.drop (k+1)++s) u v;have f1:=Qny (p++x1++x2.take k) [] (x2.drop (k+1)++s) u v;have f2:=Qnz (p++x1++x2.take k) [] (x2.drop (k+1)++s) u v;rw[hi1]at g1 f1 f2;simp only[Zae,Zcf]at g1 f2;have hdl:((p++x1++x2.take k)++u::([]++v::(x2.drop (k+1)++s))).length=L:=by simp at hL⊢;omega
     generalize (p++x1++x2.take k)++u::([]++v::(x2.drop (k+1)++s))=d at hown2 g1 f1 f2 hdl;obtain⟨_,hA1,hcu⟩:=Qdz hown2 f1;obtain rfl:a0=_:=by injection hA1
     obtain⟨_,hA2,hcw⟩:=Qdz hown2 f2;obtain rfl:a0=_:=by injection hA2
     have hkL:a+i+k+1<L:=by rw[<- hdl];exact(Zi.1 f2).1
     refine Hh ?_;refine Qdt (.mods (Blk (some a0))) [(0,true),(1,true),(2,false),(3,false),(4,false),(5,true),(6,true),(7,true),(8,true),(9,true),(10,true),(11,true),(12,true),(13,true),(14,true)] [15,16] [17] [15,17] Qb mixed Kr (by first|(intro h;cases h;done)|(intro _;rfl)) (Hh ?_);refine⟨((a+i+k:Nat):Int),wrap_eq Om ⟨Om,Om⟩,Hh ?_⟩;refine⟨((a+i+k:Nat):Int),wrap_eq Om ⟨Om,Om⟩,Hh ?_⟩;refine⟨a0,Ix,Hh ?_⟩;refine⟨evC u,⟨rfl,hcu⟩,Hh ?_⟩;refine⟨a0,Ix,Hh ?_⟩;refine⟨evC v,⟨rfl,hcw⟩,Hh ?_⟩;refine⟨a0,Ix,Hh ?_⟩;refine Qhx (w:=w2.drew) (k:=a+i+k+1) u Om hown2 fun w5 hown5 ho5=>?_
     refine⟨ho5.blk,Hh ?_⟩;refine⟨a0,Ix,Hh ?_⟩;refine Qhx (k:=a+i+k) v (by rw[Zbi,hdl];omega) hown5 fun w6 hown6 ho6=>?_
     rw[g1]at hown6;refine Hh ?_;refine⟨((a+i+k:Nat):Int),wrap_eq Om ⟨Om,Om⟩,Hh ?_⟩;refine⟨k,Om,⟨Om,by rw[hdk];simpa using hown6,hm2.trans ((Mod.drew _).trans (ho5.blk.trans ho6.blk))⟩,Rr⟩
    .intro hge;have hge:k=0:=by have:=hd' hge;omega
     subst hge;refine Hh ?_;exact⟨rfl,_,hpr,hsr,Su hown2,hm2⟩
  intro h1;have hyl:2<=y.length:=by simp at h1;omega
  clear h1;obtain⟨mid,hmid⟩:∃mid,mid=(a+b)/2:=⟨_,rfl⟩
  have hne:p++x++y++s≠[]:=fun e=>by
   have h0:(p++x++y++s).length=0:=by rw[e];rfl
   simp only[Zo]at h0;omega
  obtain⟨a0,hA⟩:∃a0,A=some a0:=(by obtain⟨e,he⟩:∃e,(p++x++y++s)[0]?=some e:=⟨_,Zb (Zad.2 hne)⟩;obtain⟨a0,h,_⟩:=Qdz hown he;exact⟨a0,h⟩);subst hA;refine Hh ?_;refine⟨((a+b:Nat):Int),Qbc Om,Hh ?_⟩;refine⟨((a+b:Nat):Int),Qso Om,Hh ?_⟩;refine⟨(mid:Int),by rw[hmid];exact Qln _,Hh ?_⟩;refine⟨(mid:Int),Qsn Om,Hh ?_⟩;refine⟨((mid+m:Nat):Int),Qbc Om,Hh ?_⟩
  refine Xi Qb (ι:=Nat×Nat) (fun|(s0,r0)=>[(0,.slice (some a0) L c),(1,Vj a),(2,Vj m),(3,Vj b),(4,Qs2),(18,Vj mid),(19,Vj ((mid+m:Nat):Int)),(20,Vj s0),(21,Vj r0)])
   (fun q w'=>w'=w/\((mid<m/\q.1+b=mid+m/\q.2=mid)\/(m<=mid/\q.1=a/\q.2=m))) ?_ ?_
  .constructor
   .intro hgt;have hgt:=hd hgt;refine Hh ?_;refine⟨((mid+m-b:Nat):Int),Qei Om Om,Hh ?_⟩;exact⟨(mid+m-b,mid),⟨rfl,.inl ⟨hgt,Sj,rfl⟩⟩,Rr⟩
   .intro hle;have hle:=hd' hle;refine Hh ?_;exact⟨(a,m),⟨rfl,.inr ⟨hle,rfl,rfl⟩⟩,Rr⟩
  rintro ⟨s0,r0⟩ w1 ⟨rfl,hsr⟩;simp only at hsr;have hb1:a<=s0/\s0<=r0/\r0<=m/\m+r0<=mid+m/\mid+m<=b+s0/\a<mid/\mid<b:=Om;refine Hh ?_;refine⟨((mid+m-1:Nat):Int),wrap_eq Om ⟨Om,Om⟩,Hh ?_⟩
  have hxat:∀i,a<=i->i<m->∃u,x[i-a]?=some u/\Xq w1 (a0.add (i*8)) (evC u):=by
   intro i h1 h2;have hlt:i-a<x.length:=Om;have:(p++x++y++s)[i]?=some x[i-a]:=(by rw[Zac,Zac,Z8 Om,Zy Om];rw[show i-p.length=i-a by omega];exact Zb hlt);obtain⟨a1,h3,h4⟩:=Qdz hown this;obtain rfl:a0=a1:=by injection h3
   exact⟨_,Zb hlt,h4⟩
  have hyat:∀i,m<=i->i<b->∃u,y[i-m]?=some u/\Xq w1 (a0.add (i*8)) (evC u):=by
   intro i h1 h2;have hlt:i-m<y.length:=Om;have:(p++x++y++s)[i]?=some y[i-m]:=(by rw[Zac,Z8 (by simp;omega),Zy (by simp;omega)];rw[show i-(p++x).length=i-m by simp;omega];exact Zb hlt);obtain⟨a1,h3,h4⟩:=Qdz hown this;obtain rfl:a0=a1:=by injection h3
   exact⟨_,Zb hlt,h4⟩
  refine Qh Qb (fun(q:Nat×Nat) w'=>s0<=q.1/\q.1<=q.2/\q.2<=r0/\(q.1=s0\/∃u v,x[q.1-1-a]?=some u/\y[mid+m-q.1-m]?=some v/\Q5 v u=false)/\(q.2=r0\/∃u v,x[q.2-a]?=some u/\y[mid+m-1-q.2-m]?=some v/\Q5 v u=true)/\Ext w1 w')
   (fun|(st,r)=>[(0,.slice (some a0) L c),(1,Vj a),(2,Vj m),(3,Vj b),(4,Qs2),(18,Vj mid),(19,Vj ((mid+m:Nat):Int)),(22,Vj ((mid+m-1:Nat):Int)),(20,Vj st),(21,Vj r)]) (fun q=>q.2-q.1) (s0,r0)
   ⟨Zf _,Sj,Zf _,.inl rfl,.inl rfl,Ext.refl _⟩ Rr ?_
  rintro ⟨st,r⟩ w2 ⟨hs1,hs2,hs3,hs4,hs5,hx2⟩;simp only at hs1 hs2 hs3 hs4 hs5;refine Hh ?_;constructor
  .intro hlt;have hlt:st<r:=hd hlt;obtain⟨h,hh⟩:∃h,h=(st+r)/2:=⟨_,rfl⟩;obtain⟨u,hu,hcu⟩:=hxat h Om Om;obtain⟨v,hv,hcv⟩:=hyat (mid+m-1-h) Om Om;refine Hh ?_;refine⟨((st+r:Nat):Int),Qbc Om,Hh ?_⟩;refine⟨((st+r:Nat):Int),Qso Om,Hh ?_⟩;refine⟨(h:Int),by rw[hh];exact Qln _,Hh ?_⟩;refine⟨(h:Int),Qsn Om,Hh ?_⟩;refine Dr .same [0,1,2,3,4,5,6,7,8,9,10] [11,12,13] (Hh ?_);replace hx2:Ext w1 w2.drew:=hx2.drew;generalize w2.drew=w3 at hx2⊢;refine⟨((mid+m-1-h:Nat):Int),Qei Om Om,Hh ?_⟩;refine⟨a0,Ix,Hh ?_⟩;refine⟨evC v,⟨rfl,hx2.cells hcv⟩,Hh ?_⟩;refine⟨a0,Ix,Hh ?_⟩;refine⟨evC u,⟨rfl,hx2.cells hcu⟩,Hh ?_⟩;refine(Qbh v u w3).mono ?_;rintro _ w4 ⟨rfl,hx4⟩;refine Hh ?_;constructor
   .intro hc;have hc:Q5 v u=false:=by rw[<- Qco];simpa using hc
    refine Hh ?_;refine⟨_,wrap_succ Om,Hh ?_⟩;refine⟨(h+1,r),Sj,⟨Sj,Sj,hs3,.inr ⟨u,v,Su hu,?_,hc⟩,hs5,hx2.trans hx4⟩,Rr⟩;rw[<- hv];congr 1;simp only;omega
   .intro hc;have hc:Q5 v u=true:=by rw[<- Qco];simpa using hc
    refine Hh ?_;exact⟨(st,h),Sj,⟨hs1,Sj,Sj,hs4,.inr ⟨u,v,hu,hv,hc⟩,hx2.trans hx4⟩,Rr⟩
  .intro hge;have hge:r<=st:=hd' hge;obtain rfl:st=r:=Om;obtain⟨en,hen⟩:∃en,en=mid+m-st:=⟨_,rfl⟩;have hown2:=hown.ext hx2;have hm2:Mod (Blk (some a0)) w1 w2:=Mod.of_ext hx2
   -- the four parts
   have hxd:x=x.take (st-a)++x.drop (st-a):=(Zag _ _).symm;have hyd:y=y.take (en-m)++y.drop (en-m):=(Zag _ _).symm
   have hq1:∀u v,(x.take (st-a)).getLast?=some u->(y.drop (en-m)).head?=some v->Q5 v u=false:=by
    intro u v h1 h2;rcases hs4 with h|⟨u',v',hu,hv,hl⟩
    .rcases hsr with⟨e1,e2,e3⟩|⟨e1,e2,e3⟩
     .rw[Zb8 Om]at h2;simp at h2
     .rw[show st-a=0 by omega]at h1;simp at h1
    .by_cases h0:st-a=0
     .rw[h0]at h1;simp at h1
     .rw[Qpb Om (by rw[<- hu];congr 1;omega)]at h1;rw[head_drop (by rw[<- hv];congr 1;omega)]at h2;obtain rfl:u'=u:=Su h1;obtain rfl:v'=v:=Su h2;exact hl
   have hq2:∀u v,(y.take (en-m)).getLast?=some u->(x.drop (st-a)).head?=some v->Q5 v u=false:=by
    intro u v h1 h2;rcases hs5 with h|⟨u',v',hu,hv,hl⟩
    .rcases hsr with⟨e1,e2,e3⟩|⟨e1,e2,e3⟩
     .rw[show en-m=0 by omega]at h1;simp at h1
     .rw[Zb8 Om]at h2;simp at h2
    .by_cases h0:en-m=0
     .rw[h0]at h1;simp at h1
     .rw[Qpb Om (by rw[<- hv];congr 1;omega)]at h1;rw[head_drop hu]at h2;obtain rfl:v'=u:=Su h1;obtain rfl:u'=v:=Su h2;exact Qbo.asymm _ _ hl
   have l1:(x.take (st-a)).length=st-a:=by simp;omega
   have l2:(x.drop (st-a)).length=m-st:=by simp;omega
   have l3:(y.take (en-m)).length=mid-st:=by simp;omega
   have l4:(y.drop (en-m)).length=b-en:=by simp;omega
   generalize x.take (st-a)=x1 at hxd hq1 l1;generalize x.drop (st-a)=x2 at hxd hq2 l2;generalize y.take (en-m)=y1 at hyd hq2 l3;generalize y.drop (en-m)=y2 at hyd hq1 l4;clear hs4 hs5 hxat hyat hsr;subst hxd hyd;have hlx:(x1++x2).length=x1.length+x2.length:=Zo;have hly:(y1++y2).length=y1.length+y2.length:=Zo;refine Hh ?_;refine⟨(en:Int),wrap_eq Om ⟨Om,Om⟩,Hh ?_⟩
   refine Xi Qb (ι:=Unit) (fun _=>[(0,.slice (some a0) L c),(1,Vj a),(2,Vj m),(3,Vj b),(4,Qs2),(18,Vj mid),(20,Vj st),(24,Vj en)])
    (fun _ w'=>Own evC 8 69 base w' (some a0) c (p++x1++y1++x2++y2++s)/\Mod (Blk (some a0)) w1 w') ?_ ?_
   .constructor
    .intro hc;have hc:(decide ((st:Int)<(m:Int))&&decide ((m:Int)<(en:Int)))=true:=hc;rw[Zk]at hc;have c1:=hd hc.1;have c2:=hd hc.2;refine Hh ?_;refine(Q0n (p++x1) x2 y1 (y2++s) st m en Qs2 (some a0) c base w2 (Zad.1 Om) (Zad.1 Om) (by simp;omega) (by simp;omega) (by simp;omega) L (by simp;omega) hLs (Su hown2)).mono ?_;rintro _ w3 ⟨rfl,hown3,hm3⟩;refine Hh ?_;exact⟨(),⟨Su hown3,hm2.trans hm3⟩,Rr⟩
    .intro hc;have hc:(decide ((st:Int)<(m:Int))&&decide ((m:Int)<(en:Int)))=false:=hc;refine Hh ?_;refine⟨(),⟨?_,hm2⟩,Rr⟩
     have:x2=[]\/y1=[]:=by
      rw[<- Zao,<- Zao];rw[Zb1]at hc;rcases hc with h|h
      .have:=hd' h;omega
      .have:=hd' h;omega
     rcases this with h|h<;>(subst h;simpa using hown2)
   rintro _ w3 ⟨hown3,hm3⟩;refine Hh ?_;have hsx1:=hsx.left;have hsx2:=hsx.right;have hsy1:=hsy.left;have hsy2:=hsy.right
   refine Xi Qb (ι:=List Ev) (fun _=>[(0,.slice (some a0) L c),(1,Vj a),(2,Vj m),(3,Vj b),(4,Qs2),(18,Vj mid),(20,Vj st),(24,Vj en)])
    (fun z w'=>z.Perm (x1++y1)/\Srt Q5 z/\Own evC 8 69 base w' (some a0) c (p++z++x2++y2++s)/\Mod (Blk (some a0)) w1 w') ?_ ?_
   .constructor
    .intro hc;have hc:(decide ((a:Int)<(st:Int))&&decide ((st:Int)<(mid:Int)))=true:=hc;rw[Zk]at hc;have c1:=hd hc.1;have c2:=hd hc.2;refine Hh ?_;refine(ih p x1 y1 (x2++y2++s) a st mid (some a0) c base w3 Om Om Om hsx1 hsy1 ha Om Om L (by simp;omega) hLs (Su hown3)).mono ?_;rintro _ w4 ⟨rfl,z,hz1,hz2,hown4,hm4⟩;refine Hh ?_;exact⟨z,⟨hz1,hz2,Su hown4,hm3.trans hm4⟩,Rr⟩
    .intro hc;have hc:(decide ((a:Int)<(st:Int))&&decide ((st:Int)<(mid:Int)))=false:=hc;refine Hh ?_;refine⟨x1++y1,⟨Za9 _,?_,Su hown3,hm3⟩,Rr⟩
     have:x1=[]\/y1=[]:=by
      rw[<- Zao,<- Zao];rw[Zb1]at hc;rcases hc with h|h
      .have:=hd' h;omega
      .have:=hd' h;omega
     rcases this with h|h
     .subst h;simpa using hsy1
     .subst h;simpa using hsx1
   rintro z1 w4 ⟨hp1,hs1',hown4,hm4⟩;have hz1:=hp1.length_eq;simp only[Zo]at hz1;refine Hh ?_;constructor
   .intro hc;have hc:(decide ((mid:Int)<(en:Int))&&decide ((en:Int)<(b:Int)))=true:=hc;rw[Zk]at hc;have c1:=hd hc.1;have c2:=hd hc.2;refine Hh ?_;refine(ih (p++z1) x2 y2 s mid en b (some a0) c base w4 Om Om Om hsx2 hsy2 (by simp;omega) (by simp;omega) (by simp;omega) L (by simp;omega) hLs (Su hown4)).mono ?_;rintro _ w5 ⟨rfl,z2,hp2,hs2',hown5,hm5⟩;refine Hh ?_;obtain⟨k1,k2⟩:=Qx3 Qbo hsx hsy hq1 hq2 hp1 hp2 hs1' hs2';exact⟨rfl,z1++z2,k2,k1,Su hown5,hm4.trans hm5⟩
   .intro hc;have hc:(decide ((mid:Int)<(en:Int))&&decide ((en:Int)<(b:Int)))=false:=hc;refine Hh ?_
    have:Srt Q5 (x2++y2):=by
     have:x2=[]\/y2=[]:=by
      rw[<- Zao,<- Zao];rw[Zb1]at hc;rcases hc with h|h
      .have:=hd' h;omega
      .have:=hd' h;omega
     rcases this with h|h
     .subst h;simpa using hsy2
     .subst h;simpa using hsx2
    obtain⟨k1,k2⟩:=Qx3 Qbo hsx hsy hq1 hq2 hp1 (Za9 _) hs1' this;exact⟨rfl,z1++(x2++y2),k2,k1,Su hown4,hm4⟩
section
variable {α:Type}{lt:α->α->Bool}
inductive Q1x(lt:α->α->Bool)(bs:Nat):List α->Prop
 |last (r:List α):r.length<=bs->Srt lt r->Q1x lt bs r
 |cons (r t:List α):r.length=bs->Srt lt r->Q1x lt bs t->Q1x lt bs (r++t)
def Full(lt:α->α->Bool)(b:Nat)(z:List α):Prop:=∃L:List (List α),z=L.flatten/\∀a∈L,a.length=b/\Srt lt a
theorem Full.nil(a):Full lt a ([]:List α):=⟨[],rfl,by simp⟩
theorem Full.snoc{a z r}(h:Full lt a z)(c:r.length=a)(d:Srt lt r):Full lt a (z++r):=by
 obtain⟨L,rfl,b⟩:=h;refine⟨L++[r],by simp,fun x hx=>?_⟩;rcases Zj.1 hx with hx|hx
 .exact b x hx
 .simp at hx;subst hx;exact⟨c,d⟩
theorem Full.runs{a z t}(h:Full lt a z)(d:Q1x lt a t):Q1x lt a (z++t):=by
 obtain⟨L,rfl,b⟩:=h
 induction L with
 |nil=>simpa using d
 |cons c L e =>
  simp only[List.flatten_cons,Zac];exact .cons _ _ (b c (by simp)).1 (b c (by simp)).2 (e fun x hx=>b x (by simp[hx]))
theorem Qum{b d}(h:Q1x lt b d)(c:d.length<=b):Srt lt d:=by
 induction h with
 |last e _ a=>exact a
 |cons e t f a g i =>
  have:t=[]:=by rw[<- Zao];simp at c;omega
  subst this;simpa using a
theorem Qul{a d}(h:Q1x lt a d)(g:a<d.length):∃r t,d=r++t/\r.length=a/\Srt lt r/\Q1x lt a t:=by
 cases h with
 |last _ f _=>omega
 |cons r t b c e=>exact⟨r,t,rfl,b,c,e⟩
theorem Xcg{b d}(h:Q1x lt b d)(a:b<=d.length):∃r t,d=r++t/\r.length=b/\Srt lt r/\Q1x lt b t:=by
 rcases Nat.lt_or_eq_of_le a with a|a
 .exact Qul h a
 .exact⟨d,[],by simp,a.symm,Qum h Om,.last _ (by simp) Srt.nil⟩
end
set_option maxHeartbeats 4000000 in
theorem Q09(x A c base w n)(av:x.length=n)(a3:n<100000000000)
 (aw:Own evC 8 69 base w A c x) :
 Cal Tryz.prog 164 [.slice A n c,Vj n,Qs2] w fun r w'=>r=.tuple #[]/\∃z,z.Perm x/\Srt Q5 z/\Own evC 8 69 base w' A c z/\Mod (Blk A) w w':=by
 have ab:∀{m n:Nat},decide ((m:Int)<(n:Int))=true->m<n:=fun h=>Su h
 have ac:∀{m n:Nat},decide ((m:Int)<(n:Int))=false->n<=m:=fun h=>Su h
 have ae:∀{m n:Nat},decide ((m:Int)<=(n:Int))=true->m<=n:=fun h=>Su h
 have af:∀{m n:Nat},decide ((m:Int)<=(n:Int))=false->n<m:=fun h=>Su h
 refine Fi Tryz.func164 rfl _ rfl rfl (Hh ?_)
 refine Qh Qb (fun(q:List Ev×List Ev) w'=>Full Q5 20 q.1/\(q.1++q.2).Perm x/\q.1.length+q.2.length=n/\Own evC 8 69 base w' A c (q.1++q.2)/\Mod (Blk A) w w')
  (fun|(z,_)=>[(0,.slice A n c),(1,Vj n),(2,Qs2),(6,Vj 20),(7,Vj (z.length:Nat)),(8,Vj ((z.length+20:Nat):Int))]) (fun q=>q.2.length) ([],x)
  ⟨Full.nil _,Za9 _,Su av,Su aw,Mod.refl _ _⟩ Rr ?_
 rintro ⟨z,t⟩ ak ⟨i,f,K,H,ag⟩;simp only at f K H;refine Hh ?_;constructor
 .intro D;have D:=ae D;obtain⟨r,B,Z,a4⟩:∃r B,t=r++B/\r.length=20:=⟨t.take 20,t.drop 20,by simp,by simp;omega⟩;have O:t.length=r.length+B.length:=by rw[Z];simp
  refine Hh ?_;refine(Qix z r B z.length (z.length+20) A c base ak rfl Om n Om Om (by rw[Z]at H;simpa using H)).mono ?_;rintro _ al ⟨rfl,e,b,g,L,R⟩;refine Hh ?_;have u:=b.length_eq;refine⟨((z.length+20+20:Nat):Int),Qbc Om,Hh ?_⟩;refine⟨(z++e,B),Sj,⟨i.snoc Om g,?_,by simp only[Zo];omega,L,ag.trans R⟩,⟨rfl,rfl,rfl,rfl,int_eq (by rw[Zo];omega),int_eq (by rw[Zo];omega),trivial⟩⟩;refine List.Perm.trans ?_ f;rw[Z];simp only;rw[Zac];exact Zc0 z (b.append_right B)
 intro l;have l:=af l;refine Hh ?_;refine(Qix z t [] z.length n A c base ak rfl Om n (by simp;omega) Om (Su H)).mono ?_;rintro _ al ⟨rfl,e,b,g,L,R⟩;have u:=b.length_eq;have v:Q1x Q5 20 (z++e):=i.runs (.last _ Om g);have s:(z++e).Perm x:=(Zc0 z b).trans f;have E:(z++e).length=n:=by simp;omega
 have ai:Own evC 8 69 base al A c (z++e):=Su L;refine Hh ?_
 refine Qh Qb (fun(q:Nat×List Ev) w'=>0<q.1/\q.1<2*n+40/\Q1x Q5 q.1 q.2/\q.2.Perm x/\q.2.length=n/\Own evC 8 69 base w' A c q.2/\Mod (Blk A) w w')
  (fun|(a,_)=>[(0,.slice A n c),(1,Vj n),(2,Qs2),(6,Vj (a:Nat))]) (fun q=>n-q.1) (20,z++e)
  ⟨by simp,Sj,v,s,E,ai,ag.trans R⟩ Rr ?_
 clear v s E ai L b g u i f K H l;rintro ⟨a,d⟩ a7 ⟨ao,aq,v,s,E,U,ah⟩;simp only at ao aq v s E U;refine Hh ?_;constructor
 .intro O;have O:=ab O;refine Hh ?_;refine⟨((2*a:Nat):Int),wrap_eq Om ⟨Om,Om⟩,Hh ?_⟩
  refine Qh Qb (fun(q:List Ev×List Ev) w'=>Full Q5 (2*a) q.1/\Q1x Q5 a q.2/\(q.1++q.2).Perm x/\q.1.length+q.2.length=n/\Own evC 8 69 base w' A c (q.1++q.2)/\Mod (Blk A) w w')
   (fun|(z,_)=>[(0,.slice A n c),(1,Vj n),(2,Qs2),(6,Vj (a:Nat)),(7,Vj (z.length:Nat)),(8,Vj ((z.length+2*a:Nat):Int))]) (fun q=>q.2.length) ([],d)
   ⟨Full.nil _,v,Su s,Su E,Su U,ah⟩ ⟨rfl,rfl,rfl,rfl,rfl,int_eq (by simp),trivial⟩ ?_
  rintro ⟨z,t⟩ an ⟨i,M,f,K,o,S⟩;simp only at M f K o;refine Hh ?_;constructor
  .intro D;have D:=ae D;obtain⟨y,J,j,ay,W,V⟩:=Qul M Om;have au:t.length=y.length+J.length:=by rw[j];simp
   obtain⟨aj,N,aa,a5,Y,a0⟩:=Xcg V Om;have P:J.length=aj.length+N.length:=by rw[aa];simp
   refine Hh ?_;refine⟨((z.length+a:Nat):Int),Qbc Om,Hh ?_⟩;refine(Qk2 _ z y aj N z.length (z.length+a) (z.length+2*a) A c base an (Zf _) Om Om W Y rfl Om Om n Om Om (by rw[j,aa]at o;simpa using o)).mono ?_;rintro _ w5 ⟨rfl,e,b,g,I,F⟩;have u:=b.length_eq;simp only[Zo]at u;refine Hh ?_;refine⟨((2*a:Nat):Int),wrap_eq Om ⟨Om,Om⟩,Hh ?_⟩;refine⟨((z.length+2*a+2*a:Nat):Int),Qbc Om,Hh ?_⟩;refine⟨(z++e,N),Sj,⟨i.snoc Om g,a0,?_,by simp only[Zo];omega,I,S.trans F⟩,⟨rfl,rfl,rfl,rfl,int_eq (by rw[Zo];omega),int_eq (by rw[Zo];omega),trivial⟩⟩;refine List.Perm.trans ?_ f;rw[j,aa];simp only;rw[Zac,<- Zac y];exact Zc0 z (b.append_right N)
  intro l;have l:=af l;refine Hh ?_
  refine Xi Qb (ι:=List Ev) (fun _=>[(0,.slice A n c),(1,Vj n),(2,Qs2),(6,Vj (a:Nat))])
   (fun k w'=>Q1x Q5 (2*a) k/\k.Perm x/\k.length=n/\Own evC 8 69 base w' A c k/\Mod (Blk A) w w') ?_ ?_
  . (conv=>whnf)
    refine⟨((z.length+a:Nat):Int),Qbc Om,Hh ?_⟩;constructor
    .intro P;have P:=ab P;obtain⟨y,J,j,ay,W,V⟩:=Qul M Om;have au:t.length=y.length+J.length:=by rw[j];simp
     have Y:=Qum V Om;refine Hh ?_;refine(Qk2 _ z y J [] z.length (z.length+a) n A c base an (Zf _) Om Om W Y rfl Om Om n (by simp;omega) Om (by rw[j]at o;simpa using o)).mono ?_;rintro _ w5 ⟨rfl,e,b,g,I,F⟩;have u:=b.length_eq;simp only[Zo]at u;refine Hh ?_;refine⟨z++e,⟨i.runs (.last _ Om g),?_,by simp;omega,Su I,S.trans F⟩,Rr⟩;refine List.Perm.trans (Zc0 z b) ?_;rw[<- j];exact f
    .intro C;have C:=ac C;refine Hh ?_;exact⟨z++t,⟨i.runs (.last _ Om (Qum M Om)),f,by simp;omega,o,S⟩,Rr⟩
  rintro k w5 ⟨az,ax,ar,I,F⟩;refine Hh ?_;refine⟨((2*a:Nat):Int),wrap_eq Om ⟨Om,Om⟩,Hh ?_⟩;exact⟨(2*a,k),Sj,⟨Sj,Sj,az,ax,ar,I,F⟩,Rr⟩
 .intro C;have C:=ac C;refine Hh ?_;exact⟨rfl,d,s,Qum v Om,U,ah⟩
theorem Qp5(x A c base w n)(b:x.length=n)(a:n<100000000000)
 (d:Own evC 8 69 base w A c x) :
 Cal Tryz.prog 100 [.slice A n c,Qs2] w fun r w'=>r=.tuple #[]/\∃z,z.Perm x/\Srt Q5 z/\Own evC 8 69 base w' A c z/\Mod (Blk A) w w':=by
 refine Fi Tryz.func100 rfl _ rfl rfl (Hh ?_);refine(Q09 x A c base w n b a d).mono ?_;rintro _ e ⟨rfl,h⟩;refine Hh ?_;exact⟨rfl,h⟩
section
variable {P:Program}
theorem X4{t e}(h:P.underlying t=some (.slice e))(A n c ox oy):Qve P t ox oy (.slice A n c) (.slice none 0 0) A.isNone:=by
 intro w;have a:=run_equal_slice_nil (P:=P) w t e A n c h;constructor
 .simp[eqGuard,binOp,a]
 .simp[eqGuard,binOp,a]
theorem Qaz{t k e}(h:P.underlying t=some (.map k e))(m ox oy):Qve P t ox oy (.map m) (.map none) m.isNone:=by
 intro w;have a:=run_equal_map_nil (P:=P) w t k e m h;constructor
 .simp[eqGuard,binOp,a]
 .simp[eqGuard,binOp,a]
end
theorem Qyi:Tryz.prog.underlying 24=some (.slice 69):=by kernel_rfl
theorem Qib{w A c base l R ty}(f:Own evC 8 69 base w A c l){B d news}(g:SlE w B news)(i:l.length+news.length<1000000000000)(e:base<=w.heap.size)
 (h:∀a b w',Own evC 8 69 base w' a b (l++news)->w.grownBy w' (A.map (·.block))->(a=A\/a.map (·.block)=A.map (·.block)\/a.map (·.block)=some w.heap.size)->R (.slice a (l++news).length b) w') :
 Qi7 Tryz.prog (Builtin.append_ #[24,24] ty [.slice A l.length c,.slice B news.length d].toArray) w R:=
 Qek (bytes:=96) ty69_ok Qyi by69 rfl rfl (by decide) Qau Qbn f g Om Om e h
theorem Xhw{w A c base l}(h:Own evC 8 69 base w A c l):∀k,A.map (·.block)=some k->base<=k:=by
 intro k b
 cases A with
 |none=>simp at b
 |some a=>have:=h.block (a:=a) rfl;simp at b;omega
theorem Q4k(x A c w)(g:SlE w A x)(o:x.length<1000000000000) :
 Cal Tryz.prog 99 [.slice A x.length c] w fun r w'=>∃d f,r=.slice d x.length f/\Own evC 8 69 w.heap.size w' d f x/\Ext w w':=by
 refine Fi Tryz.func99 rfl _ rfl rfl (Hh ?_);refine⟨_,X4 Qyi A _ _ _ _,Hh ?_⟩;constructor
 .intro h;obtain rfl:A=none:=Su h
  have hx:x=[]:=by
   cases x with
   |nil=>rfl
   |cons e x=>obtain⟨a,j,_⟩:=g 0 e rfl;cases j
  subst hx;refine Hh ?_;exact⟨none,0,rfl,Own.nil,Ext.refl _⟩
 .intro h;refine Hh ?_;intro i v b;refine Hh ?_;refine Qib (l:= []) (base:=w.heap.size) (Own.made b (Zf _)) (g.ext b.ext) (Su o) b.ext.size ?_;intro d f w' s m u;refine Hh ?_;refine⟨d,f,by simp,Su s,Qu b.ext m fun k n=>?_⟩;have:k=i:=Su n.symm;rw[this,b.block];exact Zf _
theorem Q8x(A n c w)(h:n<=c) :
 Cal Tryz.prog 101 [.slice A n c] w fun r w'=>r=.slice A n n/\w'=w:=by
 refine Fi Tryz.func101 rfl _ rfl rfl (Hh ?_);refine⟨⟨by simp,Om,Om,Om⟩,Hh ?_⟩;refine⟨?_,rfl⟩;cases A<;>simp[Addr.add]
theorem Q44{w w1 b A}(hx:Ext w w1)(e:Mod (Blk A) w1 b)(h:∀a,A=some a->w.heap.size<=a.block):Ext w b:=
 Qgo hx e fun k d=>by obtain⟨a,c,rfl⟩:=d;exact h a c
structure Gl(w:World):Prop where
 maxLen:∃m,w.cell? ⟨4,0,none⟩=some (Vj m)
 pow10:Lib.TabIs Tryz.prog w "internal/strconv.uint64pow10" .u64 Lib.pow10Tab
 kinds:Xq w ⟨1,0,none⟩ (kindNames.map Value.string)
 size:10<=w.heap.size
theorem Xne:Tryz.prog.globalNamed "internal/strconv.uint64pow10"=some 5:= by kernel_rfl
theorem Gl.keep{w w'}(h:Gl w)(a:∀k,k<10->w'.heap[k]?=w.heap[k]?)(d:w.heap.size<=w'.heap.size):Gl w' where
 maxLen:=by obtain⟨m,c⟩:=h.maxLen;exact⟨m,by rw[World.cell?_of_block (w:=w) (a _ (by decide))];exact c⟩
 pow10:=by
  have:=h.pow10;unfold Lib.TabIs World.var? at this⊢;rw[Xne]at this⊢;simp only[Option.bind_some]at this⊢;rw[a _ (by decide)];exact this
 kinds:=fun e v b=>by
  rw[World.cell?_of_block (w:=w) (a _ (by rw[add_block];decide))];exact h.kinds e v b
 size:=Zw h.size d
theorem Gl.ext{w w'}(h:Gl w)(hx:Ext w w'):Gl w':=h.keep (fun k a=>hx.block k (Zat a h.size)) hx.size
theorem Gl.mod{w w' S}(h:Gl w)(hx:Mod S w w')(b:∀k,S k->10<=k):Gl w':=
 h.keep (fun k a=>hx.block k (Zat a h.size) (fun q=>by have:=b k q;omega)) hx.size
theorem Gl.only{w w' b}(h:Gl w)(hx:Only w w' b)(a:10<=b):Gl w':=h.keep (fun k c=>hx.block k Om) (by rw[hx.size];exact Zf _)
theorem Qhn(w n):Ext w (w.drewN n):=⟨rfl,rfl,rfl,Zf _,fun _ _=>rfl⟩
theorem Qdm(w os):Ext w (Go.Sort.grow w os):=by
 refine⟨rfl,rfl,rfl,by simp[Go.Sort.grow],fun k a=>?_⟩;simp only[Go.Sort.grow];rw[Array.getElem?_append_left a]
theorem Qo1(c:UInt8):∀l:List UInt8,Lib.indexByte l c=match l.findIdx? (· == c) with|some i=>(i:Int)|none=>-1
 |[]=>rfl
 |b::l=>by
  unfold Lib.indexByte;rw[Qo1 c l,List.findIdx?_cons]
  cases a:(b == c) with
  |true=>simp
  |false =>
   simp only[Zal,if_false]
   cases l.findIdx? (· == c) with
   |none=>simp
   |some i=>simp
theorem Xjc(s):Lib.index s.data.toList [59]=Xhm s:=by
 rw[Lib.index_one,Qo1];rfl
def Qbf(s:Bj):Bj:=match Qde s with|some a=>s.extract (a+1) s.size|none=>⟨#[]⟩
theorem Xhk:Qql Tryz.prog 42:=⟨_,Tryz.func42,rfl,rfl⟩
theorem Qnn(s:Bj)(w)(b:Gl w)(g:s.size<4000000000) :
 Cal Tryz.prog 42 [.string s,.string ⟨#[59]⟩] w fun r w'=>r=.tuple #[.string (Qcw s),.string (Qbf s),.bool (Qde s).isSome]/\Ext w w':=by
 obtain⟨m,c⟩:=b.maxLen;refine Qae Xhk (Tryz.strings_Cut s ⟨#[59]⟩ m w Om c) ?_;rintro w' ⟨n,rfl⟩;refine⟨?_,Qhn w n⟩
 have a:Lib.cut s.data.toList [59]=((Qcw s).data.toList,(Qbf s).data.toList,(Qde s).isSome):=by
  unfold Lib.cut;rw[Xjc];unfold Xhm Qcw Qbf
  cases d:Qde s with
  |none=>simp
  |some e =>
   have:=Qpu d;simp only[Int.natCast_nonneg,if_true,Zbb,Option.isSome_some,Qdu];have f:s.data.toList.length=s.size:=by simp
   simp only[List.drop_zero,Nat.sub_zero,Zx,Zae,Za6];rw[Zd (l:=s.data.toList.drop (e+1)) (by simp)]
 show Value.tuple #[.string ⟨(Lib.cut s.data.toList [59]).1.toArray⟩,.string ⟨(Lib.cut s.data.toList [59]).2.1.toArray⟩,.bool (Lib.cut s.data.toList [59]).2.2]=_
 rw[a]
theorem Qko{c}:∀{a b:List UInt8},(∀x∈a,x≠c)->partsOf c (a++c::b)=a::partsOf c b
 |[],b,_=>by simp[partsOf]
 |x::a,b,h=>by
  simp only[Za1,partsOf];rw[if_neg (h x (by simp)),Qko (a:=a) (fun y d=>h y (by simp[d]))]
theorem Qp9:∀(n:Nat) (s:Bj),s.size<=n->Lib.splitB ⟨#[44]⟩ 0 (Lib.countB s ⟨#[44]⟩) s=Qab 44 s:=by
 intro n
 induction n with
 |zero =>
  intro s d;have:s.data.toList=[]:=Zao.1 (Su d)
  have c:Lib.indexB s ⟨#[44]⟩=-1:=by
   show Lib.index s.data.toList [44]=-1
   rw[this];rfl
  rw[Lib.splitB_miss _ _ _ _ c];unfold Qab;rw[this];simp[partsOf,bytesOf];apply ByteArray.ext;apply Zci;simpa using this
 |succ n m =>
  intro s d
  have b:Lib.indexB s ⟨#[44]⟩=match s.data.toList.findIdx? (· == 44) with|some i=>(i:Int)|none=>-1:=by
   show Lib.index s.data.toList [44]=_
   rw[Lib.index_one,Qo1]
  cases a:s.data.toList.findIdx? (· == 44) with
  |none =>
   rw[a]at b;rw[Lib.splitB_miss _ _ _ _ b];unfold Qab;rw[Qin (fun x hx=>by rw[Zav]at a;have:=a x hx;simpa using this)];rfl
  |some i =>
   rw[a]at b;simp only at b;rw[Z9]at a;obtain⟨c,g,f⟩:=a;have o:i<s.size:=Su c;have l:(⟨#[44]⟩:Bj).size=1:=rfl;rw[Lib.countB_hit s _ i (by decide) b,Zdc,Lib.splitB_hit _ _ _ _ _ b,l,m _ (by rw[Zcs];omega)];have h:s.data.toList=s.data.toList.take i++44::s.data.toList.drop (i+1):=(by have e:s.data.toList[i]=44:=Su g;rw[<- e];exact Qm4 c);unfold Qab
   conv=>rhs;rw[h]
   rw[Qko (fun x hx=>by
    obtain⟨j,k,rfl⟩:=Za2 hx;simp at k;have:=f j Om;simpa using this)]
   rw[Zm];congr 1
   .rw[Qgp];simp
   .rw[Qdu];rw[Zd (by simp)]
theorem Qgr(l:List Bj):l.flatMap Qac=l.map Value.string:=by
 induction l with
 |nil=>rfl
 |cons x l a=>rw[Za0,a];rfl
theorem Qua:Qql Tryz.prog 84:=⟨_,Tryz.func84,rfl,rfl⟩
theorem Q6v(s:Bj)(w)(e:Gl w)(g:s.size<4000000000) :
 Cal Tryz.prog 84 [.string s,.string ⟨#[44]⟩] w fun r w'=>∃A c,r=.slice A (Qab 44 s).length c/\SlT w' A (Qab 44 s)/\Ext w w':=by
 obtain⟨m,f⟩:=e.maxLen;refine Qae Qua (Tryz.strings_Split s ⟨#[44]⟩ m w Om f (by decide)) ?_;rintro w' rfl;have b:=Lib.splitB_all ⟨#[44]⟩ (by decide) 0 _ s rfl;have a:=Qp9 s.size s (Zf _);rw[a]at b;have d:New w (w.alloc (.cells ((Qab 44 s).flatMap Qac).toArray 9)) w.heap.size (.cells ((Qab 44 s).flatMap Qac).toArray 9):=⟨rfl,rfl⟩;refine⟨some ⟨w.heap.size,0,none⟩,Lib.countB s ⟨#[44]⟩+1,by rw[b],?_,?_⟩
 .rw[a,<- Qgr];exact Qai Qv d
 .rw[a,<- Qgr];exact d.ext
theorem Qey(s):Xg s=if Qbf s=⟨#[]⟩ then [] else Qab 44 (Qbf s):=by
 unfold Xg Qbf
 cases b:Qde s with
 |none=>simp
 |some a =>
  have:=Qpu b;simp only
  by_cases h:a+1=s.size
  .have:s.extract (a+1) s.size=⟨#[]⟩:=(by rw[Qgp,h];simp[bytesOf]);rw[if_pos h,if_pos this]
  .have:s.extract (a+1) s.size≠⟨#[]⟩:=fun e=>(by have:=congrArg ByteArray.size e;rw[Zcs]at this;have c:(⟨#[]⟩:Bj).size=0:=rfl;omega)
   rw[if_neg h,if_neg this]
theorem Q42(s:Bj)(w)(d:Gl w)(e:s.size<4000000000) :
 Cal Tryz.prog 95 [.string s] w fun r w'=>∃A c,r=.slice A (Xg s).length c/\SlT w' A (Xg s)/\Ext w w':=by
 have j:(Qbf s).size<=s.size:=by
  unfold Qbf;split
  .rw[Zcs];omega
  .exact Zt _
 refine Fi Tryz.func95 rfl _ rfl rfl (Hh ?_);refine(Qnn s w d e).mono ?_;rintro _ i ⟨rfl,b⟩;refine Hh ?_;constructor
 .intro h;have h:Qbf s=⟨#[]⟩:=Su h;refine Hh ?_;have a:Xg s=[]:=by rw[Qey,if_pos h]
  exact⟨none,0,by rw[a];rfl,by rw[a];exact Sl.nil,b⟩
 .intro h;have h:¬Qbf s=⟨#[]⟩:=Su h;refine Hh ?_;refine(Q6v (Qbf s) i (d.ext b) Om).mono ?_;rintro _ k ⟨A,c,rfl,f,g⟩;refine Hh ?_;have a:Xg s=Qab 44 (Qbf s):=by rw[Qey,if_neg h]
  exact⟨A,c,by rw[a],by rw[a];exact f,b.trans g⟩
theorem Qbd(s:Bj)(w):Cal Tryz.prog 26 [.string s] w fun r w'=>r=.bool (Qo s)/\w'=w:=by
 refine Fi Tryz.func26 rfl _ rfl rfl (Hh ?_);constructor
 .intro h;have h:(decide ((s.size:Int)<1)||decide ((24:Int)<s.size))=true:=h;refine Hh ?_;refine⟨?_,rfl⟩
  have:Qo s=false:=by
   unfold Qo;simp only[Zbg,decide_eq_true_eq]at h;rcases h with h|h
   .have:decide (1<=s.size)=false:=decide_eq_false Om;rw[this];rfl
   .have:decide (s.size<=24)=false:=decide_eq_false Om;rw[this];simp
  rw[this]
 .intro h;have h:(decide ((s.size:Int)<1)||decide ((24:Int)<s.size))=false:=h;simp only[Bool.or_eq_false_iff,decide_eq_false_iff_not]at h;refine Hh ?_;have o:s.data.toList.length=s.size:=by simp
  refine Qh Qb (fun(k:Nat) w'=>k<=s.size/\w'=w/\∀i (j:i<s.data.toList.length),i<k->Qfg s.data.toList[i]=true)
   (fun k=>[(0,.string s),(14,Vj s.size),(15,Vj k)]) (fun k=>s.size-k) 0 ⟨Om,rfl,fun i _ h=>Om⟩ Rr ?_
  rintro k u ⟨n,rfl,d⟩;refine Hh ?_;constructor
  .intro b;have b:k<s.size:=Su b;refine Hh ?_;refine⟨s.data.toList[k]'Om,⟨Om,bytes_at s k b⟩,Hh ?_⟩;have f:∀c:UInt8,(((decide ((97:Int)<=c.toNat)&&decide ((c.toNat:Int)<=122))||(decide ((48:Int)<=c.toNat)&&decide ((c.toNat:Int)<=57)))||decide ((c.toNat:Int)=45))=Qfg c:=fun c=>rfl
   constructor
   .intro a;have a:Qfg (s.data.toList[k]'Om)=false:=(by rw[<- f];simpa only[Zam] using a);refine Hh ?_;refine⟨?_,rfl⟩;have:Qo s=false:=(by unfold Qo;have:s.data.toList.all Qfg=false:=Xid Om a;rw[this];simp);rw[this]
   .intro a;have a:Qfg (s.data.toList[k]'Om)=true:=(by rw[<- f];simpa only[Bool.not_eq_false'] using a);refine Hh ?_;refine⟨_,wrap_succ Om,Hh ?_⟩;refine⟨k+1,Om,⟨Om,rfl,fun i j m=>?_⟩,Rr⟩
    by_cases e:i=k
    .subst e;exact a
    .exact d i j Om
  .intro g;have g:s.size<=k:=Su g;refine Hh ?_;refine⟨?_,rfl⟩;have:Qo s=true:=(by unfold Qo;have l:s.data.toList.all Qfg=true:=Xea d Om;rw[l];simp;omega);rw[this]
theorem Qw2(s:Bj)(w)(A:Gl w)(D:s.size<4000000000) :
 Cal Tryz.prog 50 [.string s] w fun r w'=>r=.bool (Qc8 s)/\Ext w w':=by
 refine Fi Tryz.func50 rfl _ rfl rfl (Hh ?_);refine(Qnn s w A D).mono ?_;rintro _ o ⟨rfl,f⟩;refine Hh ?_;refine⟨Unit,fun _=>.bool (Qo (Qcw s)),fun _ w'=>w'=o,(),fun _=>(Qbd (Qcw s) o).mono fun r w' h=>⟨(),h.1,h.2⟩,?_⟩;intro _ F d;obtain rfl:F=o:=(by rcases d with⟨_,h⟩|⟨_,h⟩<;>exact h);clear d;refine Hh ?_;constructor
 .intro h;have h:((!(Qde s).isSome)||!Qo (Qcw s))=true:=h;refine Hh ?_;refine⟨?_,f⟩
  have:Qc8 s=false:=by
   unfold Qc8
   revert h
   cases (Qde s).isSome<;>cases Qo (Qcw s)<;>simp
  rw[this]
 .intro h;have h:((!(Qde s).isSome)||!Qo (Qcw s))=false:=h
  have B:Qc8 s=(Qia (Xg s)&&decide ((Xg s).length<=8)):=by
   unfold Qc8
   revert h
   cases (Qde s).isSome<;>cases Qo (Qcw s)<;>simp
  refine Hh ?_;refine(Q42 s F (A.ext f) D).mono ?_;rintro _ L ⟨u,v,rfl,E,m⟩;refine Hh ?_;have P:=Q3r s;constructor
  .intro c;have c:8<(Xg s).length:=by simp at c;omega
   refine Hh ?_;refine⟨?_,f.trans m⟩;have:decide ((Xg s).length<=8)=false:=decide_eq_false Om;rw[B,this,Bool.and_false]
  .intro c;have c:(Xg s).length<=8:=by simp at c;omega
   have C:Qc8 s=Qia (Xg s):=(by rw[B,decide_eq_true c,Zdg]);refine Hh ?_
   refine Qh Qb (fun(k:Nat) w'=>k<=(Xg s).length/\Ext L w'/\∀i,i<k->Qx9 (Xg s) i=true)
    (fun k=>[(6,.slice u (Xg s).length v),(27,.slice u (Xg s).length v),(28,Vj (Xg s).length),(29,Vj k)]) (fun k=>(Xg s).length-k) 0 ⟨Om,Ext.refl _,fun i h=>Om⟩ Rr ?_
   rintro k w5 ⟨O,g,y⟩;refine Hh ?_;constructor
   .intro j;have j:k<(Xg s).length:=Su j;obtain⟨a,rfl,J⟩:=(E.ext g).getS j;refine Hh ?_;refine⟨a,Ix,Hh ?_⟩;refine⟨_,J,Hh ?_⟩;refine(Qbd ((Xg s).getD k .empty) w5).mono ?_;rintro _ M ⟨rfl,rfl⟩;refine Hh ?_;refine⟨(k:Int)-1,fun _ _=>wrap_i64 ⟨Om,Om⟩,Hh ?_⟩;refine⟨a,fun x d=>⟨rfl,?_,?_⟩,?_⟩
    .first|(simp at x;omega)|(simp at d;omega)
    .omega
    refine Hh ?_;refine⟨.string ((Xg s).getD (k-1) .empty),fun x d=>?_,?_⟩
    .obtain⟨a2,H,K⟩:=(E.ext g).getS (k:=k-1) Om;obtain rfl:a=a2:=Su H;have I:((k:Int)-1).toNat=k-1:=Om;exact(congrArg (fun n=>M.cell? (a.add (n*1))) I).trans K
    refine Hh ?_;have z:((!Qo ((Xg s).getD k .empty))||(decide ((0:Int)<k)&&!bLt ((Xg s).getD (k-1) .empty) ((Xg s).getD k .empty)))=!Qx9 (Xg s) k:=(by unfold Qx9;cases Qo ((Xg s).getD k .empty)<;>cases k<;>simp);constructor
    .intro b;have b:=z.symm.trans b;simp only[Zam]at b;refine Hh ?_;refine⟨?_,f.trans (m.trans g)⟩;rw[C,Q65 j b]
    .intro b;have b:=z.symm.trans b;simp only[Bool.not_eq_false']at b;refine Hh ?_;refine⟨_,wrap_succ Om,Hh ?_⟩;refine⟨k+1,Om,⟨Om,g,fun i N=>?_⟩,Rr⟩
     by_cases e:i=k
     .subst e;exact b
     .exact y i Om
   .intro l;have l:(Xg s).length<=k:=Su l;refine Hh ?_;refine⟨?_,f.trans (m.trans g)⟩;rw[C,Q64 y l]
theorem Q2y(a b:Int):decide (a<b)=!decide (b<=a):=by
 rw[<- decide_not];exact decide_eq_decide.2 ⟨fun h=>Om,fun h=>Om⟩
theorem Qki(e w)(E:Gl w)(H:e.text.size<4000000000) :
 Cal Tryz.prog 18 [evV e] w fun r w'=>r=.bool (Xy e)/\Ext w w':=by
 refine Fi Tryz.func18 rfl _ rfl rfl (Hh ?_);intro b N z;have n:=z.At;refine Hh ?_;refine⟨_,n.one rfl,Hh ?_⟩;refine(Qbd e.src N).mono ?_;rintro _ B ⟨rfl,rfl⟩;refine Hh ?_;refine⟨_,fun _=>n.one rfl,Hh ?_⟩;refine⟨_,fun _=>n.one rfl,Hh ?_⟩;refine⟨_,fun _=>n.one rfl,Hh ?_⟩;refine⟨_,fun _=>n.one rfl,Hh ?_⟩;have a:(((((!Qo e.src)||decide (e.num<1))||decide (1099511627776<e.num))||decide (e.at_<0))||decide (1099511627776<e.at_))=!(Qo e.src&&inB e.num 1 1099511627776&&inB e.at_ 0 1099511627776):=(by have J:decide (e.num<1)=!decide (1<=e.num):=Q2y _ _;have K:decide (1099511627776<e.num)=!decide (e.num<=1099511627776):=Q2y _ _;have L:decide (e.at_<0)=!decide (0<=e.at_):=Q2y _ _;have M:decide (1099511627776<e.at_)=!decide (e.at_<=1099511627776):=Q2y _ _;unfold inB;rw[J,K,L,M];cases Qo e.src<;>cases decide (1<=e.num)<;>cases decide (e.num<=1099511627776)<;>cases decide (0<=e.at_)<;>cases decide (e.at_<=1099511627776)<;>rfl);constructor
 .intro h;have h:=a.symm.trans h;rw[Zam]at h;refine Hh ?_;refine⟨?_,z.ext⟩;have:Xy e=false:=by unfold Xy;rw[h,Bool.false_and]
  rw[this]
 intro h;have h:=a.symm.trans h;rw[Bool.not_eq_false']at h;have F:Xy e=Qkg e:=by unfold Xy;rw[h,Bool.true_and]
 clear a h;rw[F];refine Hh ?_;refine Dr .ext [0,1,3,4,6,7,8,2,5,9,10,11] [] (Hh ?_);have g:Ext w B.drew:=z.ext.drew;have a:At B.drew b 69 (evC e):=n;have D:=E.ext g;generalize B.drew=O at g a D⊢;refine⟨_,a.one rfl,Hh ?_⟩;refine⟨_,a.one rfl,Hh ?_⟩;refine⟨_,a.one rfl,Hh ?_⟩;refine(Qbd e.person O).mono ?_;rintro _ P ⟨rfl,rfl⟩;refine⟨Ext.refl _,Hh ?_⟩;refine(Qbd e.item P).mono ?_;rintro _ w5 ⟨rfl,rfl⟩;refine⟨Ext.refl _,Hh ?_⟩;refine Qa Qb (Hh ?_);refine⟨_,a.one rfl,Hh ?_⟩;refine Xi Qb (ι:=Bool) (fun i=>[(1,Pj b),(3,.bool (Qo e.person)),(4,.bool (Qo e.item)),(5,.bool (decide (e.text=⟨#[]⟩))),(40,Vj e.kind),(41,.bool i)]) (fun i w'=>i=k6 e/\w'=w5) ?_ ?_
 . (conv=>whnf)
   refine⟨fun c=>?_,fun c=>?_⟩
   . (conv=>whnf)
     exact⟨_,⟨by unfold k6;simp at c;simp[c],rfl⟩,⟨rfl,rfl,rfl,rfl,rfl,rfl,trivial⟩⟩
   refine Hh ?_;refine⟨fun d=>?_,fun d=>?_⟩
   . (conv=>whnf)
     exact⟨_,⟨by unfold k6;simp at d;simp[d],rfl⟩,⟨rfl,rfl,rfl,rfl,rfl,rfl,trivial⟩⟩
   refine Hh ?_;refine⟨fun f=>?_,fun f=>?_⟩
   . (conv=>whnf)
     exact⟨_,⟨by unfold k6;simp at f;simp[f],rfl⟩,⟨rfl,rfl,rfl,rfl,rfl,rfl,trivial⟩⟩
   refine Hh ?_;refine⟨fun s=>?_,fun s=>?_⟩
   . (conv=>whnf)
     exact⟨_,⟨by unfold k6;simp at s;simp[s],rfl⟩,⟨rfl,rfl,rfl,rfl,rfl,rfl,trivial⟩⟩
   refine Hh ?_;refine⟨fun u=>?_,fun u=>?_⟩
   . (conv=>whnf)
     exact⟨_,⟨by unfold k6;simp at u;simp[u],rfl⟩,⟨rfl,rfl,rfl,rfl,rfl,rfl,trivial⟩⟩
   refine Hh ?_;exact⟨_,⟨by unfold k6;simp at c d f s u;simp[c,d,f,s,u],rfl⟩,⟨rfl,rfl,rfl,rfl,rfl,rfl,trivial⟩⟩
 rintro _ R ⟨rfl,l⟩;replace l:=l.symm;subst l;refine Hh ?_;refine⟨fun j=>?_,fun j=>?_⟩
 . (conv=>whnf)
   refine⟨_,fun _=>a.one rfl,Hh ?_⟩;refine⟨?_,g⟩;unfold Qkg;rw[j,cond_true];cases Qo e.person<;>cases Qo e.item<;>cases decide (e.text=⟨#[]⟩)<;>cases decide (e.val=0)<;>rfl
 refine Hh ?_;refine⟨fun k=>?_,fun k=>?_⟩
 . (conv=>whnf)
   refine⟨_,fun _=>a.one rfl,Hh ?_⟩;refine⟨_,fun _=>a.one rfl,Hh ?_⟩;refine⟨?_,g⟩;unfold Qkg inB;rw[j,cond_false,k,cond_true];cases Qo e.person<;>cases Qo e.item<;>cases decide (e.text=⟨#[]⟩)<;>cases decide (1<=e.val)<;>cases decide (e.val<=5)<;>rfl
 refine Hh ?_;refine Xi Qb (ι:=Bool) (fun i=>[(1,Pj b),(3,.bool (Qo e.person)),(4,.bool (Qo e.item)),(5,.bool (decide (e.text=⟨#[]⟩))),(40,Vj e.kind),(79,.bool i)]) (fun i w'=>i=k4 e/\w'=w5) ?_ ?_
 . (conv=>whnf)
   refine⟨fun c=>?_,fun c=>?_⟩
   . (conv=>whnf)
     exact⟨_,⟨by unfold k4;simp at c;simp[c],rfl⟩,⟨rfl,rfl,rfl,rfl,rfl,rfl,trivial⟩⟩
   refine Hh ?_;refine⟨fun d=>?_,fun d=>?_⟩
   . (conv=>whnf)
     exact⟨_,⟨by unfold k4;simp at d;simp[d],rfl⟩,⟨rfl,rfl,rfl,rfl,rfl,rfl,trivial⟩⟩
   refine Hh ?_;refine⟨fun f=>?_,fun f=>?_⟩
   . (conv=>whnf)
     exact⟨_,⟨by unfold k4;simp at f;simp[f],rfl⟩,⟨rfl,rfl,rfl,rfl,rfl,rfl,trivial⟩⟩
   refine Hh ?_;exact⟨_,⟨by unfold k4;simp at c d f;simp[c,d,f],rfl⟩,⟨rfl,rfl,rfl,rfl,rfl,rfl,trivial⟩⟩
 rintro _ R ⟨rfl,l⟩;replace l:=l.symm;subst l;refine Hh ?_;refine⟨fun m=>?_,fun m=>?_⟩
 . (conv=>whnf)
   refine⟨_,fun _=>a.one rfl,Hh ?_⟩;refine⟨_,fun _=>a.one rfl,Hh ?_⟩;refine⟨_,fun _=>a.one rfl,Hh ?_⟩;refine⟨Unit,fun _=>.bool (Qo e.text),fun _ w'=>w'=w5,(),fun _=>(Qbd e.text w5).mono fun r w' h=>⟨(),h.1,h.2⟩,?_⟩;intro _ C v;obtain rfl:C=w5:=(by rcases v with⟨_,h⟩|⟨_,h⟩<;>exact h);clear v;refine Hh ?_;refine⟨?_,g⟩;unfold Qkg;rw[j,cond_false,k,cond_false,m,cond_true];cases Qo e.person<;>cases decide (e.item=⟨#[]⟩)<;>cases Qo e.text<;>cases decide (e.val=0)<;>rfl
 refine Hh ?_;refine⟨fun o=>?_,fun o=>?_⟩
 . (conv=>whnf)
   refine⟨_,a.one rfl,Hh ?_⟩;refine⟨_,fun _=>a.one rfl,Hh ?_⟩;refine⟨_,fun _=>a.one rfl,Hh ?_⟩;refine⟨_,fun _=>a.one rfl,Hh ?_⟩;refine⟨Unit,fun _=>.bool (Qc8 e.text),fun _ w'=>Ext w5 w',(),fun _=>(Qw2 e.text w5 D H).mono fun r w' h=>⟨(),h.1,h.2⟩,?_⟩;intro _ C v
   have I:Ext w5 C:=by
    rcases v with⟨_,h⟩|⟨_,h⟩
    .exact h
    .rw[h];exact Ext.refl _
   clear v;refine Hh ?_;refine⟨?_,g.trans I⟩;unfold Qkg inB;rw[j,cond_false,k,cond_false,m,cond_false,o,cond_true];cases decide (e.person=⟨#[]⟩)<;>cases Qo e.item<;>cases Qc8 e.text<;>cases decide (0<=e.val)<;>cases decide (e.val<=1048576)<;>rfl
 refine Hh ?_;refine⟨fun x=>?_,fun x=>?_⟩
 . (conv=>whnf)
   refine⟨_,a.one rfl,Hh ?_⟩;refine⟨_,fun _=>a.one rfl,Hh ?_⟩;refine⟨_,fun _=>a.one rfl,Hh ?_⟩;refine⟨?_,g⟩;unfold Qkg inB;rw[j,cond_false,k,cond_false,m,cond_false,o,cond_false,x,cond_true];cases decide (e.person=⟨#[]⟩)<;>cases Qo e.item<;>cases decide (e.text=⟨#[]⟩)<;>cases decide (0<=e.val)<;>cases decide (e.val<=1048576)<;>rfl
 refine Hh ?_;refine⟨fun y=>?_,fun y=>?_⟩
 . (conv=>whnf)
   refine⟨_,a.one rfl,Hh ?_⟩;refine⟨_,fun _=>a.one rfl,Hh ?_⟩;refine⟨?_,g⟩;unfold Qkg;rw[j,cond_false,k,cond_false,m,cond_false,o,cond_false,x,cond_false,y,cond_true];cases decide (e.person=⟨#[]⟩)<;>cases Qo e.item<;>cases decide (e.text=⟨#[]⟩)<;>cases decide (e.val=0)<;>rfl
 refine Hh ?_;refine⟨fun A=>?_,fun A=>?_⟩
 . (conv=>whnf)
   refine⟨_,fun _=>a.one rfl,Hh ?_⟩;refine⟨_,fun _=>a.one rfl,Hh ?_⟩;refine⟨?_,g⟩;unfold Qkg;rw[j,cond_false,k,cond_false,m,cond_false,o,cond_false,x,cond_false,y,cond_false,A,cond_true];cases Qo e.person<;>cases decide (e.item=⟨#[]⟩)<;>cases decide (e.text=⟨#[]⟩)<;>cases decide (e.val=0)<;>rfl
 refine Hh ?_;refine⟨?_,g⟩;unfold Qkg;rw[j,cond_false,k,cond_false,m,cond_false,o,cond_false,x,cond_false,y,cond_false,A];rfl
def Qz(e:Ev):Int:=if e.kind=1 then 1 else if e.kind=2 then 3 else if e.kind=3 then 5 else if e.kind=4 then e.val else 0
theorem Qc2(e w):Cal Tryz.prog 104 [evV e] w fun r w'=>r=Vj (Qz e)/\Ext w w':=by
 refine Fi Tryz.func104 rfl _ rfl rfl (Hh ?_);intro b i g;have h:=g.At;refine Hh ?_;refine⟨_,h.one rfl,Hh ?_⟩;refine⟨fun a=>?_,fun a=>?_⟩
 .have a:e.kind=1:=Su a;refine Hh ?_;exact⟨by unfold Qz;rw[if_pos a],g.ext⟩
 have a:¬e.kind=1:=Su a;refine Hh ?_;refine⟨fun c=>?_,fun c=>?_⟩
 .have c:e.kind=2:=Su c;refine Hh ?_;exact⟨by unfold Qz;rw[if_neg a,if_pos c],g.ext⟩
 have c:¬e.kind=2:=Su c;refine Hh ?_;refine⟨fun d=>?_,fun d=>?_⟩
 .have d:e.kind=3:=Su d;refine Hh ?_;exact⟨by unfold Qz;rw[if_neg a,if_neg c,if_pos d],g.ext⟩
 have d:¬e.kind=3:=Su d;refine Hh ?_;refine⟨fun f=>?_,fun f=>?_⟩
 .have f:e.kind=4:=Su f;refine Hh ?_;refine⟨_,h.one rfl,Hh ?_⟩;exact⟨by unfold Qz;rw[if_neg a,if_neg c,if_neg d,if_pos f],g.ext⟩
 have f:¬e.kind=4:=Su f;refine Hh ?_;exact⟨by unfold Qz;rw[if_neg a,if_neg c,if_neg d,if_neg f],g.ext⟩
theorem Qev{s}(h:Qo s=true):1<=s.size/\s.size<=24:=by
 unfold Qo at h;simp only[Zk,decide_eq_true_eq]at h;exact h.1
theorem Qll{s:Bj}(h:s=⟨#[]⟩):s.size=0:=by rw[h];rfl
theorem Qdc{n lo hi}:inB n lo hi=true↔lo<=n/\n<=hi:=by simp[inB]
structure Xnh(e:Ev):Prop where
 src:Qo e.src=true
 num:1<=e.num/\e.num<=1099511627776
 at_:0<=e.at_/\e.at_<=1099511627776
 kind:Qkg e=true
theorem Qcf{e}:Xy e=true↔Xnh e:=by
 unfold Xy;simp only[Zk,Qdc];exact⟨fun h=>⟨h.1.1.1,h.1.1.2,h.1.2,h.2⟩,fun h=>⟨⟨⟨h.src,h.num⟩,h.at_⟩,h.kind⟩⟩
theorem Qbq{e}(h:Qkg e=true) :
 ((e.kind=0\/e.kind=1\/e.kind=2\/e.kind=3\/e.kind=5\/e.kind=6)/\Qo e.person=true/\Qo e.item=true/\e.text=⟨#[]⟩/\e.val=0) \/
 (e.kind=4/\Qo e.person=true/\Qo e.item=true/\e.text=⟨#[]⟩/\1<=e.val/\e.val<=5) \/
 ((e.kind=7\/e.kind=8\/e.kind=9\/e.kind=10)/\Qo e.person=true/\e.item=⟨#[]⟩/\Qo e.text=true/\e.val=0) \/
 (e.kind=11/\e.person=⟨#[]⟩/\Qo e.item=true/\Qc8 e.text=true/\0<=e.val/\e.val<=1048576) \/
 (e.kind=12/\e.person=⟨#[]⟩/\Qo e.item=true/\e.text=⟨#[]⟩/\0<=e.val/\e.val<=1048576) \/
 (e.kind=13/\e.person=⟨#[]⟩/\Qo e.item=true/\e.text=⟨#[]⟩/\e.val=0) \/
 (e.kind=14/\Qo e.person=true/\e.item=⟨#[]⟩/\e.text=⟨#[]⟩/\e.val=0):=by
 unfold Qkg at h;cases a:k6 e<;>simp only[a,cond_true,cond_false]at h
 .cases c:decide (e.kind=4)<;>simp only[c,cond_true,cond_false]at h
  .cases b:k4 e<;>simp only[b,cond_true,cond_false]at h
   .cases d:decide (e.kind=11)<;>simp only[d,cond_true,cond_false]at h
    .cases f:decide (e.kind=12)<;>simp only[f,cond_true,cond_false]at h
     .cases g:decide (e.kind=13)<;>simp only[g,cond_true,cond_false]at h
      .cases i:decide (e.kind=14)<;>simp only[i,cond_true,cond_false]at h
       .cases h
       .simp[Zk,Qdc]at h i;simp[*]
      .simp[Zk,Qdc]at h g;simp[*]
     .simp[Zk,Qdc]at h f;simp[*]
    .simp[Zk,Qdc]at h d;simp[*]
   .simp[Zk,Qdc]at h;unfold k4 at b;simp at b;simp[*];omega
  .simp[Zk,Qdc]at h c;simp[*]
 .simp[Zk,Qdc]at h;unfold k6 at a;simp at a;simp[*];omega
theorem Xax{e}(h:Xy e=true)(b:e.text.size<1000000):FOk e:=by
 have h:=Qcf.1 h;have f:=Qev h.src;have d:=h.num;have c:=h.at_
 rcases Qbq h.kind with⟨k,p,a,t,v⟩|⟨k,p,a,t,v⟩|⟨k,p,a,t,v⟩|⟨k,p,a,t,v⟩|⟨k,p,a,t,v⟩|⟨k,p,a,t,v⟩|⟨k,p,a,t,v⟩ <;>
  (refine⟨Om,Om,Om,Om,Om,?_,?_,b⟩<;>first|(have:=Qev p;omega)|(have:=Qev a;omega)|(have:=Qll p;omega)|(have:=Qll a;omega))
theorem Xjp:Qql Tryz.prog 32:=⟨_,Tryz.func32,rfl,rfl⟩
theorem Qcj(n w)(a:Gl w)(b:0<=n)(c:n<9223372036854775808):Cal Tryz.prog 32 [Vj n] w fun r w'=>r=.string (Qd4 n.toNat)/\Ext w w':=by
 refine Qae Xjp (Tryz.strconv_Itoa n Om Om w a.pow10) ?_;rintro w' ⟨k,os,rfl⟩;refine⟨?_,(Qhn w k).trans (Qdm _ _)⟩;have:n=(n.toNat:Int):=Om;unfold Qd4 bytesOf;rw[<- Lib.itoa_nonneg,<- this]
theorem Qt9:Qql Tryz.prog 87:=⟨_,Tryz.func87,rfl,rfl⟩
theorem Qzd(n):Qd4 n≠⟨#[]⟩:=fun e=>by
 have:=congrArg ByteArray.size e;unfold Qd4 at this;rw[Qag]at this;have b:(⟨#[]⟩:Bj).size=0:=rfl;rw[b]at this;have a:=Zao.1 this;rw[Lib.decDigits]at a;split at a<;>simp at a
theorem Qnv{s}(h:s≠⟨#[]⟩):Qda s=s:=by unfold Qda;rw[decide_eq_false h];rfl
theorem Xle{e}(h:0<=e.kind/\e.kind<15):knB e≠⟨#[]⟩:=by
 unfold knB;obtain⟨k,b⟩:∃k:Nat,e.kind=k:=⟨e.kind.toNat,Om⟩;rw[b];have:k<15:=Om;intro a;have:=congrArg ByteArray.size a;rcases k with _|_|_|_|_|_|_|_|_|_|_|_|_|_|_|k<;>first|(exact absurd this (by decide))|omega
def Qav(e:Ev):List Bj:= [e.src,Qd4 e.num.toNat,Qd4 e.at_.toNat,knB e,e.person,e.item,Qd4 e.val.toNat,e.text]
theorem Xfa{e}(b:e.src≠⟨#[]⟩)(a:0<=e.kind/\e.kind<15):(⟨(Lib.join ((((Qav e).map Qda)).map (·.data.toList)) [32]).toArray⟩:Bj)=Qlb e:=by
 unfold Qav;simp only[Zm,Zbk,Qnv b,Qnv (Qzd _),Qnv (Xle a)];apply ByteArray.ext;apply Zci;simp[Lib.join,List.intercalate,List.intersperse,Qlb,spB]
theorem Xaa{e}(a:FOk e):(Qlb e).size<=10000000:=by
 have m:=a.src;have d:=a.person;have f:=a.item;have g:=a.text;have i:=Qf3 e.num.toNat (by have:=a.num;omega);have j:=Qf3 e.at_.toNat (by have:=a.at_;omega);have l:=Qf3 e.val.toNat (by have:=a.val;omega)
 have b:∀s:Bj,s.size<1000000->(Qda s).size<1000000:=by
  intro s h;unfold Qda;cases decide (s=⟨#[]⟩)
  .exact h
  .exact(by decide:(⟨#[46]⟩:Bj).size<1000000)
 have o:=b _ d;have r:=b _ f;have u:=b _ g
 have c:(knB e).size<=10:=by
  unfold knB;obtain⟨k,c⟩:∃k:Nat,e.kind=k:=⟨e.kind.toNat,by have:=a.kind;omega⟩;rw[c];have:k<15:=by have:=a.kind;omega
  rcases k with _|_|_|_|_|_|_|_|_|_|_|_|_|_|_|k<;>first|decide|omega
 have n:spB.size=1:=rfl;unfold Qlb;simp only[Zbd];omega
theorem Qov(e w)(K:Gl w)(S:Xy e=true)(d:FOk e) :
 Cal Tryz.prog 52 [evV e] w fun r w'=>r=.string (Qlb e)/\Ext w w':=by
 refine Fi Tryz.func52 rfl _ rfl rfl (Hh ?_);intro b aq u;have B:=u.At;refine Hh ?_;refine⟨evC e,⟨rfl,B.all⟩,Hh ?_⟩;refine(Qki e aq (K.ext u.ext) (by have:=d.text;omega)).mono ?_;rintro _ I ⟨rfl,U⟩;refine Hh ?_;rw[S];constructor
 .intro h;cases h
 intro _;have D:=d.kind;obtain⟨k,N⟩:∃k:Nat,e.kind=k:=⟨e.kind.toNat,Om⟩;refine Hh ?_;refine Dr .ext [0,1,2,3,5,6,8,9,10,11,12,13,14,15,16,17,19,20,4,7,18] [21,22] (Hh ?_);have c:At I.drew b 69 (evC e):=B.ext U.drew;have y:Ext w I.drew:=(u.ext.trans U).drew;generalize I.drew=W at c y⊢;have o:=K.ext y;refine⟨_,c.one rfl,Hh ?_⟩;refine⟨_,c.one rfl,Hh ?_⟩;refine⟨_,c.one rfl,Hh ?_⟩;refine⟨_,c.one rfl,Hh ?_⟩
 have f:W.cell? ((⟨1,0,none⟩:Addr).add (e.kind.toNat*1))=some (.string (knB e)):=by
  have:=o.kinds k (.string (knB e)) (by
   unfold knB;rw[N];have:k<15:=Om;rcases k with _|_|_|_|_|_|_|_|_|_|_|_|_|_|_|k<;>first|rfl|omega)
  rw[N];simpa using this
 refine⟨⟨D.1,D.2⟩,Hh ?_⟩;refine⟨.string (knB e),f,Hh ?_⟩;refine⟨_,c.one rfl,Hh ?_⟩;refine⟨_,c.one rfl,Hh ?_⟩;refine⟨_,c.one rfl,Hh ?_⟩;refine⟨_,c.one rfl,Hh ?_⟩;refine(Qcj e.num W o d.num.1 d.num.2).mono ?_;rintro _ ar ⟨rfl,i⟩;refine⟨i,Hh ?_⟩;refine(Qcj e.at_ ar (o.ext i) d.at_.1 d.at_.2).mono ?_;rintro _ w5 ⟨rfl,z⟩;refine⟨z,Hh ?_⟩;refine(Qcj e.val w5 ((o.ext i).ext z) d.val.1 d.val.2).mono ?_;rintro _ ay ⟨rfl,F⟩;refine⟨F,Hh ?_⟩;intro a Y v;have V:Ext w Y:=((((y.trans i).trans z).trans F).trans v.ext);have J:At Y a 9 ((Qav e).map Value.string):=v.At;have ae:w.heap.size<=a:=by rw[v.block];exact(((y.trans i).trans z).trans F).size
 refine Hh ?_;have aw:(Qav e).length=8:=rfl
 refine Qh Qb (fun(k:Nat) w'=>k<=8/\Ext w w'/\At w' a 9 (((Qav e).take k).map (fun s=>Value.string (Qda s))++((Qav e).drop k).map Value.string))
  (fun k=>[(3,.slice (some ⟨a,0,none⟩) 8 8),(31,.slice (some ⟨a,0,none⟩) 8 8),(32,Vj 8),(33,Vj k)]) (fun k=>8-k) 0 ⟨Om,V,Su J⟩ Rr ?_
 clear J V v c B u;rintro k l ⟨av,H,g⟩;refine Hh ?_;constructor
 .intro P;have P:k<8:=by simp at P;omega
  have O:k<(Qav e).length:=Om;rw[Zak O,Zm]at g;have E:(Qav e).take (k+1)=(Qav e).take k++[(Qav e)[k]]:=Za O;have f:=g.cell k;rw[Z8 (by simp;omega)]at f;rw[show k-(((Qav e).take k).map (fun s=>Value.string (Qda s))).length=0 by simp;omega]at f;generalize hx:(Qav e)[k]=x at g E f;have f:l.cell? ((⟨a,0,none⟩:Addr).add ((k:Int).toNat*1))=some (.string x):=(by rw[show ((k:Int).toNat*1)=k by simp,Q7];simpa using f);refine Hh ?_
  refine Xi Qb (ι:=Unit) (fun _=>[(3,.slice (some ⟨a,0,none⟩) 8 8),(31,.slice (some ⟨a,0,none⟩) 8 8),(32,Vj 8),(33,Vj k)])
   (fun _ w'=>Ext w w'/\At w' a 9 (((Qav e).take (k+1)).map (fun s=>Value.string (Qda s))++((Qav e).drop (k+1)).map Value.string)) ?_ ?_
  . (conv=>whnf)
    refine⟨⟨a,0,none⟩,Ix,Hh ?_⟩;refine⟨.string x,f,Hh ?_⟩;constructor
    .intro h;have h:x=⟨#[]⟩:=Su h;refine Hh ?_;refine⟨⟨a,0,none⟩,Ix,Hh ?_⟩;have ac:(⟨a,0,none⟩:Addr).add ((k:Int).toNat*1)=⟨a,k,none⟩:=by rw[Q7];simp
     rw[ac];refine Qiq Qb (e:=ty9) rfl g rfl ?_ Oj fun au ab ai=>?_
     .show k+1<=_
      simp;omega
     refine Hh ?_;refine⟨(),⟨ai.ext H ae,?_⟩,Rr⟩;rw[E]
     have aj:spl (((Qav e).take k).map (fun s=>Value.string (Qda s))++Value.string x::((Qav e).drop (k+1)).map Value.string) k (Qg (.string ⟨#[46]⟩))=((Qav e).take k++[x]).map (fun s=>Value.string (Qda s))++((Qav e).drop (k+1)).map Value.string:=by
      have ah:(((Qav e).take k).map (fun s=>Value.string (Qda s))).length=k:=by simp;omega
      unfold spl Qg;rw[List.take_append_of_le_length Om,Zd Om,List.drop_append,ah];rw[Zb8 (by simp;omega)];simp only[Zx,Zae,Za6,Zah];rw[show k+1-k=1 by omega,h];simp[Qda]
     rw[<- aj];exact ab
    .intro h;have h:¬x=⟨#[]⟩:=Su h;refine Hh ?_;refine⟨(),⟨H,?_⟩,Rr⟩;rw[E];simpa [Qnv h] using g
  rintro _ au ⟨ao,n⟩;refine Hh ?_;refine⟨_,wrap_succ Om,Hh ?_⟩;exact⟨k+1,Om,⟨Om,ao,n⟩,Rr⟩
 .intro C;have C:k=8:=by simp at C;omega
  subst C
  have n:At l a 9 (((Qav e).map Qda).map Value.string):=by
   have m:(Qav e).take 8=Qav e:=rfl;have A:(Qav e).drop 8=[]:=rfl;rw[m,A]at g;have aa:((Qav e).map Qda).map Value.string=(Qav e).map (fun s=>Value.string (Qda s)):=by rw[Zz];rfl
   rw[aa];simpa using g
  refine Hh ?_;have af:∀(j:Nat) x,((Qav e).map Qda)[j]?=some x->l.cell? ⟨a,0+j,none⟩=some (.string x):=(by intro j x ag;rw[Za6,n.cell j,Zaf,ag];rfl);have ak:e.src≠⟨#[]⟩:=fun Z=>(by have:=(Qev (Qcf.1 S).src).1;rw[Qll Z]at this;omega)
  have M:=Xfa ak D;refine(Qae Qt9 (Tryz.strings_Join a 0 8 ((Qav e).map Qda) ⟨#[32]⟩ l af n.lt (by simp[Qav]) (by simp[Qav]) ?_) (R:=fun r w'=>r=.string (Qlb e)/\Ext l w') ?_).mono ?_
  .have m:=Xaa d;rw[<- M]at m;have A:∀L:List UInt8,(⟨L.toArray⟩:Bj).size=L.length:=fun L=>by simp[ByteArray.size]
   rw[A]at m;show (Lib.join (((Qav e).map Qda).map (·.data.toList)) [32]).length<=_
   omega
  .intro w' al;exact⟨by rw[<- M],al⟩
  .rintro _ ax ⟨rfl,an⟩;refine Hh ?_;exact⟨rfl,H.trans an⟩
theorem Qxd(c):∀l:List UInt8,((partsOf c l).map (fun p=>p.length+1)).sum=l.length+1
 |[]=>by simp[partsOf]
 |x::b=>by
  have a:=Qxd c b;unfold partsOf
  by_cases hx:x=c
  .rw[if_pos hx];simp at a⊢;omega
  .rw[if_neg hx]
   cases d:partsOf c b with
   |nil=>exact absurd d (Xfx c b)
   |cons q t=>rw[d]at a;simp at a⊢;omega
theorem Xh1{α:Type}(f n):∀l:List α,(∀x∈l,f x<=n)->(l.map f).sum<=l.length*n
 |[],_=>by simp
 |a::l,h=>by
  have b:=h a (by simp);have c:=Xh1 f n l fun x hx=>h x (by simp[hx])
  simp[Nat.add_mul];omega
theorem Qcg{s}(h:Qo s=true):s.size<=24:=(Qev h).2
theorem Q62{l}(h:Qia l=true):∀x∈l,Qo x=true:=by
 intro x hx;obtain⟨c,b,rfl⟩:=Za2 hx;unfold Qia at h;rw[Zaa]at h;have a:=h c (List.mem_range.2 b);unfold Qx9 at a;rw[getD_lt b]at a;simp at a;exact a.1
theorem Q5k{s}(h:Qc8 s=true):s.size<1000:=by
 unfold Qc8 at h;simp only[Zk,decide_eq_true_eq]at h;obtain⟨⟨f,g⟩,d,a⟩:=h;obtain⟨i,b⟩:=Zcj.1 f;have o:=Qpu b;have c:=Qcg g;unfold Qcw at c;rw[b]at c;simp at c
 by_cases m:i+1=s.size
 .omega
 .rw[Q1h b m]at d a;have l:=Qxd 44 (s.extract (i+1) s.size).data.toList
  have n:=Xh1 (fun p:List UInt8=>p.length+1) 25 (partsOf 44 (s.extract (i+1) s.size).data.toList) fun p k=>by
   have:=Qcg (Q62 d (bytesOf p) (Zh.2 ⟨p,k,rfl⟩));have e:(bytesOf p).size=p.length:=by simp[bytesOf,ByteArray.size]
   omega
  unfold Qab at a;rw[Zg]at a;have j:(s.extract (i+1) s.size).data.toList.length=s.size-(i+1):=by simp
  rw[j]at l;have:(partsOf 44 (s.extract (i+1) s.size).data.toList).length*25<=8*25:=Zb5 _ a;omega
theorem Qdn{e}(h:Xy e=true):e.text.size<1000:=by
 have b:=Qbq (Qcf.1 h).kind;have a:(⟨#[]⟩:Bj).size=0:=rfl;rcases b with⟨_,_,_,h,_⟩|⟨_,_,_,h,_⟩|⟨_,_,_,h,_⟩|⟨_,_,_,h,_⟩|⟨_,_,_,h,_⟩|⟨_,_,_,h,_⟩|⟨_,_,_,h,_⟩
 .rw[h,a];omega
 .rw[h,a];omega
 .have:=Qcg h;omega
 .exact Q5k h
 .rw[h,a];omega
 .rw[h,a];omega
 .rw[h,a];omega
theorem Qtu{e}(h:Xy e=true):0<=e.kind/\e.kind<=14:=by
 have a:=Qbq (Qcf.1 h).kind;omega
theorem Qla{e}(h:Xy e=true):0<=Qz e/\Qz e<=5:=by
 have a:=Qbq (Qcf.1 h).kind;unfold Qz
 repeat' split
 all_goals omega
theorem Qe0{e}(h:Xy e=true)(b:0<Qz e):Qo e.person=true/\Qo e.item=true:=by
 have a:=Qbq (Qcf.1 h).kind
 have:e.kind=1\/e.kind=2\/e.kind=3\/e.kind=4:=by
  unfold Qz at b
  by_cases c:e.kind=1
  .omega
  by_cases d:e.kind=2
  .omega
  by_cases f:e.kind=3
  .omega
  by_cases g:e.kind=4
  .omega
  rw[if_neg c,if_neg d,if_neg f,if_neg g]at b;omega
 rcases a with a|a|a|a|a|a|a
 .exact⟨a.2.1,a.2.2.1⟩
 .exact⟨a.2.1,a.2.2.1⟩
 all_goals exfalso;omega
theorem Qku(s):(Qbf s).size<=s.size:=by
 unfold Qbf;split
 .rw[Zcs];omega
 .exact Zt _
end Go.Proofs.YtnpacgccajekgaaGreatDoor
namespace Go.Proofs.YtnpacgccajekgaaGreatDoor
open Go.Se
def Xm8(l:List UInt8):Nat:=l.foldl (fun a c=>10*a+(c.toNat-48)) 0
theorem Qs9(m):(UInt8.ofNat (48+m%10)).toNat=48+m%10:=by
 rw[UInt8.toNat_ofNat'];omega
theorem Qwe{m}(h:¬9<m):Lib.decDigits m=[UInt8.ofNat (48+m%10)]:=by
 rw[Lib.decDigits_one Om,Nat.mod_eq_of_lt Om]
theorem Qn2(m):Xm8 (Lib.decDigits m)=m:=by
 induction m using Nat.strongRecOn with
 |ind m a =>
  by_cases h:9<m
  .rw[Q2g h];have:=a (m/10) Om;unfold Xm8 at this⊢;rw[Zv,this];simp only[Zaq,List.foldl_nil,Qs9];omega
  .rw[Qwe h];unfold Xm8;simp only[Zaq,List.foldl_nil,Qs9];omega
theorem Xiz{a b}(h:Lib.decDigits a=Lib.decDigits b):a=b:=by rw[<- Qn2 a,<- Qn2 b,h]
theorem Qfz(m):∀c∈Lib.decDigits m,48<=c.toNat/\c.toNat<=57:=by
 induction m using Nat.strongRecOn with
 |ind m b =>
  intro c a
  by_cases h:9<m
  .rw[Q2g h,Zj]at a;rcases a with a|a
   .exact b (m/10) Om c a
   .simp only[Zl]at a;rw[a,Qs9];omega
  .rw[Qwe h]at a;simp only[Zl]at a;rw[a,Qs9];omega
theorem Qkz:∀{a b r s:List UInt8},(∀x∈a,x≠32)->(∀x∈b,x≠32)->a++32::r=b++32::s->a=b/\r=s
 |[],[],r,s,_,_,h=>⟨rfl,Su h⟩
 |[],y::b,r,s,_,d,h=>by
  simp only[Zah,Za1,Zc4]at h;exact absurd h.1.symm (d y (by simp))
 |x::a,[],r,s,c,_,h=>by
  simp only[Zah,Za1,Zc4]at h;exact absurd h.1 (c x (by simp))
 |x::a,y::b,r,s,c,d,h=>by
  simp only[Za1,Zc4]at h;obtain⟨f,g⟩:=Qkz (fun z e=>c z (by simp[e])) (fun z e=>d z (by simp[e])) h.2;exact⟨by rw[h.1,f],g⟩
theorem Xjo{s}(h:Qo s=true):∀x∈s.data.toList,x≠32:=by
 unfold Qo at h;simp only[Zk]at h;intro x hx e;have:=Zaa.1 h.2 x hx;rw[e]at this;exact absurd this (by decide)
def Xi1:Bj:=⟨#[46]⟩
theorem Q22{s}(h:Qo s=true):s≠Xi1:=by
 rintro rfl;exact absurd h (by decide)
theorem Xae{s}(h:Qc8 s=true):s≠Xi1:=by
 rintro rfl;unfold Qc8 at h;simp only[Zk]at h;exact absurd h.1.1 (by decide)
theorem Qf5:(⟨#[]⟩:Bj)≠Xi1:=by
 intro h;have:=congrArg ByteArray.size h;exact absurd this (by decide)
theorem Qur{s t}(c:s≠Xi1)(d:t≠Xi1)(h:Qda s=Qda t):s=t:=by
 unfold Qda at h
 by_cases a:s=⟨#[]⟩<;>by_cases b:t=⟨#[]⟩<;>simp only[a,b,decide_true,decide_false,cond_true,cond_false]at h
 .rw[a,b]
 .exact absurd h.symm d
 .exact absurd h c
 .exact h
theorem Qus{s}(h:s=⟨#[]⟩\/Qo s=true):∀x∈(Qda s).data.toList,x≠32:=by
 rcases h with rfl|h
 .decide
 .unfold Qda
  by_cases a:s=⟨#[]⟩
  .rw[a]at h;exact absurd h (by decide)
  .simp only[a,decide_false,cond_false];exact Xjo h
theorem Xlg:∀k,k<15->∀x∈(kindNames.getD k .empty).data.toList,x≠32:=by decide +kernel
theorem Xlf:∀k,k<15->∀j,j<15->(kindNames.getD k .empty).data.toList=(kindNames.getD j .empty).data.toList->k=j:=by decide +kernel
theorem Qw4{e}(h:Xy e=true):(e.person=⟨#[]⟩\/Qo e.person=true)/\(e.item=⟨#[]⟩\/Qo e.item=true)/\e.text≠Xi1/\0<=e.val/\0<=e.kind/\e.kind<15:=by
 rcases Qbq (Qcf.1 h).kind with⟨f,a,b,c,d⟩|⟨f,a,b,c,d⟩|⟨f,a,b,c,d⟩|⟨f,a,b,c,d⟩|⟨f,a,b,c,d⟩|⟨f,a,b,c,d⟩|⟨f,a,b,c,d⟩
 .exact⟨.inr a,.inr b,c▸Qf5,Om,Om,Om⟩
 .exact⟨.inr a,.inr b,c▸Qf5,Om,Om,Om⟩
 .exact⟨.inr a,.inl b,Q22 c,Om,Om,Om⟩
 .exact⟨.inl a,.inr b,Xae c,Om,Om,Om⟩
 .exact⟨.inl a,.inr b,c▸Qf5,Om,Om,Om⟩
 .exact⟨.inl a,.inr b,c▸Qf5,Om,Om,Om⟩
 .exact⟨.inr a,.inl b,c▸Qf5,Om,Om,Om⟩
theorem Qed{s}(h:s=⟨#[]⟩\/Qo s=true):s≠Xi1:=by
 rcases h with rfl|h
 .exact Qf5
 .exact Q22 h
theorem Xe4(e):(Qlb e).data.toList=(e.src.data.toList++32::(Lib.decDigits e.num.toNat++32::(Lib.decDigits e.at_.toNat++[32]))) ++
 ((knB e).data.toList++32::((Qda e.person).data.toList++32::((Qda e.item).data.toList++32::(Lib.decDigits e.val.toNat++32::(Qda e.text).data.toList)))):=by
 unfold Qlb Qd4 bytesOf spB;simp
theorem Qs8{a b:Bj}(h:a.data.toList=b.data.toList):a=b:=ByteArray.ext (Zci h)
theorem Xi5{a b}(s:Xy a=true)(u:Xy b=true)(n:a.src=b.src)(o:a.num=b.num)(r:a.at_=b.at_)(h:Qlb a=Qlb b):a=b:=by
 have c:=congrArg (fun x:Bj=>x.data.toList) h;simp only[Xe4]at c;rw[n,o,r]at c;have c:=List.append_cancel_left c;obtain⟨d,f,v,C,D,p6⟩:=Qw4 s;obtain⟨g,i,w,E,F,H⟩:=Qw4 u;obtain⟨j,c⟩:=Qkz (Xlg _ Om) (Xlg _ Om) c;obtain⟨k,c⟩:=Qkz (Qus d) (Qus g) c;obtain⟨l,c⟩:=Qkz (Qus f) (Qus i) c;obtain⟨m,c⟩:=Qkz (fun x hx e=>by have:=Qfz _ x hx;rw[e]at this;exact absurd this (by decide)) (fun x hx e=>by have:=Qfz _ x hx;rw[e]at this;exact absurd this (by decide)) c;have y:=Xlf _ Om _ Om j;have z:=Qur (Qed d) (Qed g) (Qs8 k);have A:=Qur (Qed f) (Qed i) (Qs8 l);have k4:=Xiz m;have B:=Qur v w (Qs8 c);apply Ev.ext<;>first|assumption|omega
theorem Qlh(a b):Qbm a b=true↔Q5 a b=true\/(Q5 b a=false/\bLt (Qlb a) (Qlb b)=true):=by
 unfold Qbm;cases c:Q5 a b<;>cases d:Q5 b a<;>simp
theorem Qj1(a):Qbm a a=false:=by
 rw[<- Zai,Qlh];rintro (h|⟨_,h⟩)
 .rw[Qbo.irrefl]at h;cases h
 .rw[Xu]at h;cases h
theorem Qtq{a b c}(d:Q5 a b=false)(e:Q5 b c=false):Q5 a c=false:=Qbo.trans c b a e d
theorem Qiz{a b c}(d:Q5 a b=true)(e:Q5 c b=false):Q5 a c=true:=by
 cases h:Q5 a c
 .have:=Qtq h e;rw[d]at this;cases this
 .rfl
theorem Qtr{a b c}(d:Q5 b a=false)(e:Q5 b c=true):Q5 a c=true:=by
 cases h:Q5 a c
 .have:=Qtq d h;rw[e]at this;cases this
 .rfl
theorem Qvs{a b c}(d:Qbm a b=true)(e:Qbm b c=true):Qbm a c=true:=by
 rw[Qlh]at d e⊢;rcases d with d|⟨d,f⟩<;>rcases e with e|⟨e,g⟩
 .exact .inl (Qiz d (Qbo.asymm _ _ e))
 .exact .inl (Qiz d e)
 .exact .inl (Qtr d e)
 .exact .inr ⟨Qtq e d,Qb3 f g⟩
theorem Qvr{a b}(k:Xy a=true)(l:Xy b=true)(c:Qbm a b=false)(d:Qbm b a=false):a=b:=by
 rw[<- Zai,Qlh,not_or]at c d;have e:Q5 a b=false:=Su c.1;have f:Q5 b a=false:=Su d.1;obtain⟨g,i,j⟩:=Qil e f;refine Xi5 k l i j g (Qb4 ?_ ?_)
 .cases h:bLt (Qlb a) (Qlb b)
  .rfl
  .exact absurd ⟨f,h⟩ c.2
 .cases h:bLt (Qlb b) (Qlb a)
  .rfl
  .exact absurd ⟨e,h⟩ d.2
def idE(e:Ev):Bj×Int:=(e.src,e.num)
theorem Qel{e x}:Qc0 e x=true↔idE x=idE e:=by simp[Qc0,idE]
structure Qq7(l z:List Ev):Prop where
 ids:z.Pairwise (fun a b=>idE a≠idE b)
 all:∀y∈l,∃x∈z,idE x=idE y
 mem:∀x,x∈z↔x∈l/\∀y∈l,idE y=idE x->Qbm y x=false
theorem Qwr{z:List Ev}(h:z.Pairwise (fun a b=>idE a≠idE b)){x y}(hx:x∈z)(f:y∈z)(e:idE x=idE y):x=y:=by
 induction z with
 |nil=>cases hx
 |cons u z g =>
  rw[Zab]at h;rcases Zr.1 hx with c|c<;>rcases Zr.1 f with d|d
  .rw[c,d]
  .rw[c]at e;exact absurd e (h.1 y d)
  .rw[d]at e;exact absurd e.symm (h.1 x c)
  .exact g h.2 c d
theorem Q90{z:List Ev}{k e}(j:k<z.length)(g:idE z[k]=idE e)(h:z.Pairwise (fun a b=>idE a≠idE b)):(z.set k e).Pairwise (fun a b=>idE a≠idE b):=by
 have f:(z.set k e).map idE=z.map idE:=by
  rw[List.map_set,<- g];apply Zb9;intro i;rw[Zc6]
  by_cases d:k=i
  .subst d;simp[j]
  .simp[d]
 have c:(z.map idE).Pairwise (·≠·):=by rw[Z5];exact h
 rw[<- f,Z5]at c;exact c
theorem Qpj{z:List Ev}{k e}(d:k<z.length)(f:idE z[k]=idE e)(h:z.Pairwise (fun a b=>idE a≠idE b))(x):x∈z.set k e↔x=e\/(x∈z/\idE x≠idE e):=by
 constructor
 .intro hx;rcases List.mem_or_eq_of_mem_set hx with c|c
  .by_cases hid:idE x=idE e
   .refine .inl (Qwr (Q90 d f h) hx (List.mem_set d e) hid)
   .exact .inr ⟨c,hid⟩
  .exact .inl c
 .rintro (rfl|⟨hx,hid⟩)
  .exact List.mem_set d x
  .obtain⟨i,g,rfl⟩:=Za2 hx;have j:k≠i:=by rintro rfl;exact hid f
   rw[List.mem_iff_getElem?];exact⟨i,by rw[List.getElem?_set_ne j];exact Zb g⟩
theorem Qq7.step{l z}(h:Qq7 l z){e}(A:∀x∈l,Xy x=true)(B:Xy e=true):Qq7 (l++[e]) (Qba z e):=by
 have inl:∀{x},x∈z->x∈l:=fun hx=>((h.mem _).1 hx).1
 unfold Qba
 cases r:z.findIdx? (Qc0 e) with
 |none =>
  have o:∀x∈z,idE x≠idE e:=fun x hx=>(by have:=Zav.1 r x hx;intro j;rw[Qel.2 j]at this;cases this)
  have D:∀y∈l,idE y≠idE e:=fun y c j=>(by obtain⟨x,hx,hid⟩:=h.all y c;exact o x hx (hid.trans j))
  simp only;refine⟨?_,?_,fun x=>?_⟩
  .rw[Z7];refine⟨h.ids,by simp,fun a v b g=>?_⟩;rw[Zl.1 g];exact o a v
  .intro y c;rcases Zj.1 c with c|c
   .obtain⟨x,hx,hid⟩:=h.all y c;exact⟨x,by simp[hx],hid⟩
   .exact⟨e,by simp,by rw[Zl.1 c]⟩
  .simp only[Zj,Zl];constructor
   .rintro (hx|rfl)
    .refine⟨.inl (inl hx),fun y c hid=>?_⟩;rcases c with c|rfl
     .exact((h.mem x).1 hx).2 y c hid
     .exact absurd hid.symm (o x hx)
    .refine⟨.inr rfl,fun y c hid=>?_⟩;rcases c with c|rfl
     .exact absurd hid (D y c)
     .exact Qj1 _
   .rintro ⟨hx|rfl,c⟩
    .exact .inl ((h.mem x).2 ⟨hx,fun y n=>c y (.inl n)⟩)
    .exact .inr rfl
 |some k =>
  obtain⟨i,F,_⟩:=Z9.1 r;have hid:=Qel.1 F;have f:z[k]∈z:=Zu i;have C:Xy z[k]=true:=A _ (inl f);simp only;rw[getD_lt i]
  cases g:Qbm e z[k] with
  |false =>
   simp only[cond_false];refine⟨h.ids,?_,fun x=>?_⟩
   .intro y c;rcases Zj.1 c with c|c
    .exact h.all y c
    .rw[Zl.1 c];exact⟨_,f,hid⟩
   .simp only[Zj,Zl];constructor
    .intro hx;refine⟨.inl (inl hx),fun y c d=>?_⟩;rcases c with c|rfl
     .exact((h.mem x).1 hx).2 y c d
     .rw[Qwr h.ids hx f (d.symm.trans hid.symm)];exact g
    .rintro ⟨hx|rfl,c⟩
     .exact(h.mem x).2 ⟨hx,fun y n=>c y (.inl n)⟩
     .rw[Qvr B C g (c _ (.inl (inl f)) hid)];exact f
  |true =>
   simp only[cond_true];refine⟨Q90 i hid h.ids,?_,fun x=>?_⟩
   .intro y c
    by_cases d:idE y=idE e
    .exact⟨e,List.mem_set i e,d.symm⟩
    .rcases Zj.1 c with c|c
     .obtain⟨x,hx,s⟩:=h.all y c;exact⟨x,(Qpj i hid h.ids x).2 (.inr ⟨hx,fun j=>d (s.symm.trans j)⟩),s⟩
     .exact absurd (by rw[Zl.1 c]) d
   .rw[Qpj i hid h.ids x];simp only[Zj,Zl];constructor
    .rintro (rfl|⟨hx,E⟩)
     .refine⟨.inr rfl,fun y c d=>?_⟩;rcases c with c|rfl
      .cases w:Qbm y x
       .rfl
       .have m:=Qvs w g;rw[((h.mem _).1 f).2 y c (d.trans hid.symm)]at m;cases m
      .exact Qj1 _
     .refine⟨.inl (inl hx),fun y c d=>?_⟩;rcases c with c|rfl
      .exact((h.mem x).1 hx).2 y c d
      .exact absurd d.symm E
    .rintro ⟨hx|rfl,c⟩
     .have u:=(h.mem x).2 ⟨hx,fun y n=>c y (.inl n)⟩;refine .inr ⟨u,fun d=>?_⟩;have m:=c e (.inr rfl) d.symm;rw[Qwr h.ids u f (d.trans hid.symm),g]at m;cases m
     .exact .inl rfl
theorem Xbc{l2}:∀{l z:List Ev},Qq7 l z->(∀x∈l,Xy x=true)->(∀x∈l2,Xy x=true)->Qq7 (l++l2) (l2.foldl Qba z):=by
 induction l2 with
 |nil=>intro l z h _ _;simpa using h
 |cons e l2 c =>
  intro l z h b a
  have:=c (h.step b (a e (by simp))) (fun x hx=>by
   rcases Zj.1 hx with hx|hx
   .exact b x hx
   .rw[Zl.1 hx];exact a e (by simp)) (fun x hx=>a x (by simp[hx]))
  simpa using this
theorem Xbd{l}(h:∀x∈l,Xy x=true):Qq7 l (Qd5 l):=by
 have:=Xbc (l2:=l) (l:= []) (z:= []) ⟨by simp,by simp,by simp⟩ (by simp) h;simpa [Qd5] using this
theorem Qws{z:List Ev}(h:z.Pairwise (fun a b=>idE a≠idE b)):z.Nodup:=h.imp fun c e=>c (by rw[e])
theorem Q6u{z c}(h:z.Perm c)(hi:z.Pairwise (fun a b=>idE a≠idE b))(i:Srt Q5 z)(j:Srt Q5 c):z=c:=
 Ql5 h i j fun x hx y k f g=>by
  obtain⟨_,d,e⟩:=Qil f g;exact Qwr hi hx k (by unfold idE;rw[d,e])
theorem Q2n{z c:List Ev}(d:z.Perm c)(hi:c.Pairwise (fun a b=>idE a≠idE b)):z.Pairwise (fun a b=>idE a≠idE b):=
 (d.pairwise_iff (fun h e=>h e.symm)).2 hi
end Go.Proofs.YtnpacgccajekgaaGreatDoor
namespace Go.Proofs.YtnpacgccajekgaaGreatDoor
open Go.Se Go.RowKit
abbrev IdS:=Bj×Int
theorem Q4e(a b):Qbm a b=bif decide (Qj4 a b=0) then bLt (Qlb a) (Qlb b) else decide (Qj4 a b<0):=by
 rw[Qco];unfold Qbm
 by_cases c:Qj4 a b=0
 .have d:=(Qok a b).1 c;have e:Q5 a b=false:=by rw[<- Qco,c];rfl
  have f:Q5 b a=false:=by rw[<- Qco,(Qok b a).2 ⟨d.1.symm,d.2.1.symm,d.2.2.symm⟩];rfl
  simp[c,e,f]
 .simp only[c,decide_false,cond_false];cases e:Q5 a b
  .cases f:Q5 b a
   .obtain d:=Qil e f;exact absurd ((Qok a b).2 d) c
   .rfl
  .rfl
def Qal(out:List Ev):List (IdS×Value):=out.map fun e=>(idE e,evV e)
theorem Q5m(out e):Qe (Qal out) (idE e)=(out.find? (Qc0 e)).map evV:=by
 induction out with
 |nil=>rfl
 |cons x out b =>
  simp only[Qal,Zm,Qe,List.find?_cons]
  by_cases h:idE e=idE x
  .rw[if_pos h,Qel.2 h.symm];rfl
  .rw[if_neg h];have:Qc0 e x=false:=by rw[<- Zai,Qel];exact fun a=>h a.symm
   rw[this];exact b
theorem Qwy(e:Ev):∀out:List Ev,Xe (Qal out) (idE e) (evV e)=Qal (match out.findIdx? (Qc0 e) with|none=>out++[e]|some k=>out.set k e)
 |[]=>rfl
 |x::out=>by
  have a:=Qwy e out;simp only[Qal,Zm,Xe,List.findIdx?_cons]at a⊢
  by_cases h:idE e=idE x
  .rw[if_pos h,Qel.2 h.symm];simp[h]
  .rw[if_neg h];have:Qc0 e x=false:=by rw[<- Zai,Qel];exact fun b=>h b.symm
   rw[this,a];cases out.findIdx? (Qc0 e)<;>simp
theorem Q5n{out e} :
 (out.find? (Qc0 e)=none->Xe (Qal out) (idE e) (evV e)=Qal (Qba out e)) /\
 (∀a,out.find? (Qc0 e)=some a->Qbm e a=true->Xe (Qal out) (idE e) (evV e)=Qal (Qba out e)) /\
 (∀a,out.find? (Qc0 e)=some a->Qbm e a=false->Qal out=Qal (Qba out e)):=by
 have f:∀(c:List Ev),c.find? (Qc0 e)=(c.findIdx? (Qc0 e)).map fun k=>c.getD k e:=by
  intro c
  induction c with
  |nil=>rfl
  |cons x c g =>
   rw[List.find?_cons,List.findIdx?_cons];cases h:Qc0 e x
   .simp only[cond_false,g];cases c.findIdx? (Qc0 e)<;>simp
   .simp
 rw[Qwy,f out];unfold Qba
 cases i:out.findIdx? (Qc0 e) with
 |none=>simp
 |some k =>
  refine⟨by simp,fun a b d=>?_,fun a b d=>?_⟩
  .have b:out.getD k e=a:=Su b;simp only[b,d,cond_true]
  .have b:out.getD k e=a:=Su b;simp only[b,d,cond_false]
theorem Xfr(l e):Qd5 (l++[e])=Qba (Qd5 l) e:=by simp[Qd5]
def evZ:Ev:=⟨⟨#[]⟩,0,0,0,⟨#[]⟩,⟨#[]⟩,0,⟨#[]⟩⟩
def Xnd:Value->Ev
 |.agg cs=>match cs.toList with
  |[.string a,.int _ b,.int _ c,.int _ d,.string e,.string f,.int _ g,.string h]=>⟨a,b,c,d,e,f,g,h⟩
  |_=>evZ
 |_=>evZ
theorem Xet(e):Xnd (evV e)=e:=rfl
theorem Qr6{z out}(h:(Qal z).Perm (Qal out)):z.Perm out:=by
 have:=h.map fun x=>Xnd x.2
 simpa [Qal,Xet,Function.comp_def] using this
def Grow(S:Nat->Prop)(w:World)(k:Nat):Prop:=S k\/w.heap.size<=k
theorem Xn{S w w' row}(a:w.grownBy w' row)(c:∀k,row=some k->S k):Mod S w w':=
 ⟨a.os,a.tape,a.output,a.size,fun k b d=>a.block k b (fun e=>d (c k e.symm))⟩
theorem Qj{S w w' b}(c:Only w w' b)(a:S b):Mod S w w':=c.mod.mono fun k _ e=>by rw[e];exact a
theorem Qn{S w w1 d}(h:Mod S w w1)(k:Mod (Grow S w) w1 d):Mod S w d:=
 ⟨k.os.trans h.os,k.tape.trans h.tape,k.output.trans h.output,Zw h.size k.size,fun c a b =>
  (k.block c (Zat a h.size) (fun e=>e.elim b (fun f=>Om))).trans (h.block c a b)⟩
theorem Qc{P T}(c:Qbl P T){t:TypeId}{e}(k:Qi6 T t=some e){w R}{b a off:Nat}{l v p}(h:At w b a l)(j:p=⟨b,off,none⟩)(g:(Qg v).length=e.size)(f:Nat.ble (off+e.size) l.length=true)(i:∀u∈Qg v,u.oneCell'=true)
 (d:∀w',At w' b a (spl l off (Qg v))->Only w w' b->R undef w'):Qys P (Instr.storeAt t (.pointer (some p)) v) w R:=by
 subst j;exact Qiq c k h g (Zbz f) i d
section
variable {α:Type}{enc:α->List Value}{sz:Nat}{te:TypeId}{w w1 w2 w3:World}{S S':Nat->Prop}{bm:Nat}{rows:Bj->List α}{L:List (Bj×(Option Addr×Nat))}{P:Program}{mt kt et:TypeId}
def toV(rows:Bj->List α)(L:List (Bj×(Option Addr×Nat))):List (Bj×Value):=L.map fun x=>(x.1,Value.slice x.2.1 (rows x.1).length x.2.2)
structure Qbu(enc:α->List Value)(sz:Nat)(te:TypeId)(w:World)(S:Nat->Prop)(bm:Nat)(rows:Bj->List α)(L:List (Bj×(Option Addr×Nat))):Prop where
 mine:S bm
 map:MapAt w bm Value.string (toV rows L)
 row:∀x∈L,Own enc sz te 0 w x.2.1 x.2.2 (rows x.1)/\∀a,x.2.1=some a->S a.block/\a.block≠bm
 ne:∀x∈L,rows x.1≠[]
 apart:L.Pairwise (fun x y=>∀a a',x.2.1=some a->y.2.1=some a'->a.block≠a'.block)
 all:∀k,Qe L k=none->rows k=[]
theorem Qbu.keys(h:Qbu enc sz te w S bm rows L):L.Pairwise (fun x y=>x.1≠y.1):=by
 have:=h.map.keys;unfold toV at this;rw[Z5]at this;exact this
theorem Q2u(k):∀L:List (Bj×(Option Addr×Nat)),Qe (toV rows L) k=(Qe L k).map fun p=>Value.slice p.1 (rows k).length p.2
 |[]=>rfl
 |x::L=>by
  simp only[toV,Zm,Qe]
  by_cases e:k=x.1
  .subst e;simp
  .rw[if_neg e,if_neg e];exact Q2u k L
theorem Qbu.keep(h:Qbu enc sz te w S bm rows L)(c:∀k,k<w.heap.size->S k->w1.heap[k]?=w.heap[k]? /\ S' k):Qbu enc sz te w1 S' bm rows L where
 mine:=(c bm h.map.lt h.mine).2
 map:=h.map.keep (c bm h.map.lt h.mine).1
 row x hx:=by
  obtain⟨d,e⟩:=h.row x hx;exact⟨d.keep fun a b=>(c a.block (d.block b).2 (e a b).1).1,fun a b=>⟨(c a.block (d.block b).2 (e a b).1).2,(e a b).2⟩⟩
 ne:=h.ne
 apart:=h.apart
 all:=h.all
def rowAt(L:List (Bj×(Option Addr×Nat)))(k:Bj):Option Addr×Nat:=(Qe L k).getD (none,0)
theorem Qbu.own(h:Qbu enc sz te w S bm rows L)(k):Own enc sz te 0 w (rowAt L k).1 (rowAt L k).2 (rows k)/\∀a,(rowAt L k).1=some a->S a.block/\a.block≠bm:=by
 unfold rowAt
 cases b:Qe L k with
 |none=>rw[h.all k b];exact⟨Own.nil,fun a c=>by simp at c⟩
 |some p =>
  have:=h.row _ (Qax b);exact this
theorem Qbu.look(h:Qbu enc sz te w S bm rows L)(f:P.underlying mt=some (.map kt et))(d:P.underlying kt=some .string){e}(c:Xb P et=some e)(g:e.zero=.slice none 0 0)(k:Bj){cl}(b:Kept cl w bm) :
 RdS P cl w (Instr.lookup mt (.map (some bm)) (.string k) false) (.slice (rowAt L k).1 (rows k).length (rowAt L k).2):=by
 have:=X5 f (Qr d) c b h.map k;rw[Q2u,g]at this;unfold rowAt
 cases a:Qe L k with
 |none=>rw[a]at this;rw[h.all k a];exact this
 |some p=>rw[a]at this;exact this
def Qm6(rows:Bj->List α)(k:Bj)(r:List α)(x:Bj):List α:=if x=k then r else rows x
theorem Q3t{k p r}:∀{L:List (Bj×(Option Addr×Nat))},L.Pairwise (fun x y=>x.1≠y.1)->toV (Qm6 rows k r) (Xe L k p)=Xe (toV rows L) k (.slice p.1 r.length p.2)
 |[],_=>by simp[toV,Xe,Qm6]
 |x::L,a=>by
  rw[Zab]at a;simp only[toV,Zm,Xe]
  by_cases e:k=x.1
  .subst e;simp only[if_true,Zm,Qm6];congr 1;apply Zbq;intro y b;simp only[if_neg (fun e:y.1=x.1=>a.1 y b e.symm)]
  .simp only[if_neg e,Zm,Qm6,if_neg (fun q:x.1=k=>e q.symm)];congr 1;exact Q3t a.2
theorem Q10{β:Type}{R k p}:∀{L:List (Bj×β)},L.Pairwise R->(∀y∈L,y.1≠k->R (k,p) y)->(∀y∈L,y.1≠k->R y (k,p))->L.Pairwise (fun x y=>x.1≠y.1)->(Xe L k p).Pairwise R
 |[],_,_,_,_=>by simp[Xe]
 |x::L,b,d,f,c=>by
  rw[Zab]at b c;simp only[Xe]
  by_cases e:k=x.1
  .subst e;rw[if_pos rfl,Zab];exact⟨fun y a=>d y (by simp[a]) (fun q=>c.1 y a q.symm),b.2⟩
  .rw[if_neg e,Zab];refine⟨fun y a=>?_,Q10 b.2 (fun y a=>d y (by simp[a])) (fun y a=>f y (by simp[a])) c.2⟩;rcases Qby a with rfl|a
   .exact f x (by simp) (fun q=>e q.symm)
   .exact b.1 y a
theorem Qbu.push(h:Qbu enc sz te w S bm rows L){k r}(af:r≠[]){d n}(hx:Ext w w1)(aa:w1.grownBy w2 ((rowAt L k).1.map (·.block)))(g:d=(rowAt L k).1\/d.map (·.block)=(rowAt L k).1.map (·.block)\/d.map (·.block)=some w1.heap.size)
 (V:Own enc sz te 0 w2 d n r)(ab:MapAt w3 bm Value.string (Xe (toV rows L) k (.slice d r.length n)))(I:Only w2 w3 bm):Qbu enc sz te w3 (Grow S w) bm (Qm6 rows k r) (Xe L k (d,n)):=by
 have aj:=h.map.lt
 have j:∀a,d=some a->a.block≠bm/\Grow S w a.block/\((∃c,(rowAt L k).1=some c/\c.block=a.block)\/a.block=w1.heap.size):=by
  intro a b;subst b;have A:=(h.own k).2;have K:=hx.size;rcases g with g|g|g
  .obtain⟨m,i⟩:=A a g.symm;exact⟨i,.inl m,.inl ⟨a,g.symm,rfl⟩⟩
  .cases l:(rowAt L k).1 with
   |none=>rw[l]at g;simp at g
   |some c =>
    rw[l]at g;obtain⟨m,i⟩:=A c l;have e:a.block=c.block:=Su g;rw[e];exact⟨i,.inl m,.inl ⟨c,rfl,rfl⟩⟩
  .have e:a.block=w1.heap.size:=Su g;rw[e];exact⟨Om,.inr K,.inr rfl⟩
 have J:∀x∈L,x.1≠k->Own enc sz te 0 w3 x.2.1 x.2.2 (rows x.1)/\(∀a,x.2.1=some a->S a.block/\a.block≠bm)/\∀a f,x.2.1=some a->d=some f->a.block≠f.block:=by
  intro x z D;obtain⟨o,A⟩:=h.row x z
  have P:∀a c,x.2.1=some a->(rowAt L k).1=some c->a.block≠c.block:=by
   intro a c b s;unfold rowAt at s
   cases H:Qe L k with
   |none=>rw[H]at s;simp at s
   |some p =>
    rw[H]at s;have F:=Qax H;have ae:=h.apart
    have:∀{L:List (Bj×(Option Addr×Nat))},L.Pairwise (fun x y=>∀a f,x.2.1=some a->y.2.1=some f->a.block≠f.block)->x∈L->(k,p)∈L->a.block≠c.block:=by
     intro L
     induction L with
     |nil=>intro _ h;simp at h
     |cons y L ag =>
      intro u ah ai;rw[Zab]at u;rcases Zr.1 ah with N|Y<;>rcases Zr.1 ai with O|Z
      .exact absurd (by rw[N,<- O]) D
      .subst N;exact u.1 _ Z a c b (Su s)
      .subst O;exact fun q=>u.1 _ Y c a (Su s) b q.symm
      .exact ag u.2 Y Z
    exact this ae z F
  refine⟨o.keep fun a b=>?_,A,fun a f b B=>?_⟩
  .have U:=(o.block b).2;have K:=hx.size;rw[I.block _ (A a b).2,aa.block _ Om ?_,hx.block _ U];intro e
   cases l:(rowAt L k).1 with
   |none=>rw[l]at e;simp at e
   |some c=>rw[l]at e;exact P a c b l (Su e)
  .have U:=(o.block b).2;have K:=hx.size;rcases (j f B).2.2 with⟨c,m,i⟩|q
   .rw[<- i];exact P a c b m
   .rw[q];omega
 refine⟨.inl h.mine,?_,?_,?_,?_,?_⟩
 .rw[Q3t h.keys];exact ab
 .intro x E;rcases Qby E with rfl|z
  .refine⟨?_,fun a b=>⟨(j a b).2.1,(j a b).1⟩⟩;simp only[Qm6,if_true];exact V.keep fun a b=>I.block _ (j a b).1
  .by_cases e:x.1=k
   .have F:∀{L:List (Bj×(Option Addr×Nat))},L.Pairwise (fun x y=>x.1≠y.1)->x∈Xe L k (d,n)->x.1=k->x=(k,(d,n)):=(by intro L u ac R;have o:=Qcl (Qan u) (k:=x.1) (v:=x.2) (Su ac);rw[R,Q8]at o;have:(d,n)=x.2:=Su o;rw[this,<- R]);have:=F h.keys E e;subst this;refine⟨?_,fun a b=>⟨(j a b).2.1,(j a b).1⟩⟩;simp only[Qm6,if_true];exact V.keep fun a b=>I.block _ (j a b).1
   .obtain⟨m,i,_⟩:=J x z e;simp only[Qm6,if_neg e];exact⟨m,fun a b=>⟨.inl (i a b).1,(i a b).2⟩⟩
 .intro x E
  by_cases e:x.1=k
  .simp only[Qm6,if_pos e];exact af
  .rcases Qby E with rfl|z
   .exact absurd rfl e
   .simp only[Qm6,if_neg e];exact h.ne x z
 .refine Q10 h.apart (fun y M D a f b B=>?_) (fun y M D a f b B=>?_) h.keys
  .exact fun q=>(J y M D).2.2 f a B b q.symm
  .exact(J y M D).2.2 a f b B
 .intro W C;rw[Xr]at C
  by_cases e:W=k
  .rw[if_pos e]at C;cases C
  .rw[if_neg e]at C;simp only[Qm6,if_neg e];exact h.all W C
theorem Qbu.new{b}(c:New w w1 b (.map #[] 0))(a:S b):Qbu enc sz te w1 S b (fun _=>[]) []:=
 ⟨a,MapAt.new c,by simp,by simp,by simp,fun _ _=>rfl⟩
end
theorem Qp1{α:Type}{enc sz w A}{l:List α}(h:Sl enc sz w A l)(k):Sl enc sz w A (l.take k):=fun b x a=>by
 have c:b<(l.take k).length:=(Zi.1 a).1;rw[Zn]at c;rw[Zbm]at a;rw[if_pos Om]at a;exact h b x a
theorem Xj0{α:Type}{enc sz w A}{l:List α}(h:Sl enc sz w A l)(k):Sl enc sz w (A.map (·.add (k*sz))) (l.drop k):=fun d x b=>by
 rw[Zb3]at b;obtain⟨a,rfl,c⟩:=h (k+d) x b;refine⟨a.add (k*sz),rfl,?_⟩;rw[Q9,<- Nat.add_mul];exact c
theorem Qdj{α:Type}{enc sz w A}{l:List α}(h:Sl enc sz w A l)(k c)(a:l.length<=c):Sl enc sz w (if c=k then A else A.map (·.add (k*sz))) (l.drop k):=by
 split
 .rw[List.drop_eq_nil_of_le Om];exact Sl.nil
 .exact Xj0 h k
theorem Quq{α:Type}{enc sz w w1 A}{l:List α}(h:Sl enc sz w A l)(f:∀a,A=some a->w1.heap[a.block]?=w.heap[a.block]?):Sl enc sz w1 A l:=fun i x d=>by
 obtain⟨a,b,c⟩:=h i x d;refine⟨a,b,fun g v e=>?_⟩;have:=c g v e;rw[World.cell?_of_block (w:=w) (by rw[add_block,add_block];exact f a b)];exact this
theorem Own.base{α:Type}{enc}{sz te:Nat}{base a w A c}{l:List α}(h:Own enc sz te base w A c l)(i:a<=base):Own enc sz te a w A c l:=by
 refine⟨h.1,?_⟩;rcases h.2 with d|⟨g,cap,b,f,j,e⟩
 .exact .inl d
 .exact .inr ⟨g,cap,b,f,Om,e⟩
structure Qle{α:Type}(P:Program)(t te:TypeId)(enc:α->List Value)(sz bytes:Nat):Prop where
 und:P.underlying t=some (.slice te)
 ty:∃ety,Xb P te=some ety/\ety.size=sz/\(Qg ety.zero).length=sz
 by_:(P.info? te).map (·.bytes)=some bytes
 small:bytes<=1000
 pos:0<sz
 sz:∀x,(enc x).length=sz
 one:∀x,∀u∈enc x,u.oneCell'=true
section
variable {α:Type}{P:Program}{t te:TypeId}{enc:α->List Value}{sz bytes:Nat}
theorem Qq(a:Qle P t te enc sz bytes){w A c base l R ty n m}(o:n=l.length)(r:Own enc sz te base w A c l){B e news}(k:m=news.length)(s:Sl enc sz w B news)(x:l.length+news.length<100000000000)(j:base<=w.heap.size)
 (h:∀b d w',Own enc sz te base w' b d (l++news)->w.grownBy w' (A.map (·.block))->(b=A\/b.map (·.block)=A.map (·.block)\/b.map (·.block)=some w.heap.size)->R (.slice b (l++news).length d) w') :
 Qi7 P (Builtin.append_ #[t,t] ty [.slice A n c,.slice B m e].toArray) w R:=by
 obtain⟨u,f,g,i⟩:=a.ty;subst o k;have v:(l.length+news.length)*bytes<=100000000000*1000:=Nat.mul_le_mul Om a.small;exact Qek f a.und a.by_ g i a.pos a.sz a.one r s Om Om j h
theorem Qle.made(c:Qle P t te enc sz bytes){w w1 b base}(h:New w w1 b (.cells ([]:List Value).toArray te))(a:base<=w.heap.size):Own enc sz te base w1 (some ⟨b,0,none⟩) 0 []:=Own.made h a
theorem Qle.new1(a:Qle P t te enc sz bytes){w w1 b x}(h:New w w1 b (.cells (enc x).toArray te)):Sl enc sz w1 (some ⟨b,0,none⟩) [x]:=by
 have c:New w w1 b (.cells ([x].flatMap enc).toArray te):=Su h;exact Qai a.sz c
theorem Qle.stay(b:Qle P t te enc sz bytes){w w1 A l}(h:Sl enc sz w A l)(m:∀a,A=some a->a.block<w.heap.size->w1.heap[a.block]?=w.heap[a.block]?):Sl enc sz w1 A l:=fun i x g=>by
 obtain⟨a,c,d⟩:=h i x g;have f:∃v,(enc x)[0]?=some v:=(by have:=b.sz x;have o:=b.pos;exact⟨_,Zb Om⟩);obtain⟨v,n⟩:=f;have e:=cell_lt (d 0 v n);rw[add_block,add_block]at e;refine⟨a,c,fun j v k=>?_⟩;rw[World.cell?_of_block (w:=w) (by rw[add_block,add_block];exact m a c e)];exact d j v k
theorem Xm{w A c base l}(h:Own enc sz te base w A c l):∀k,A.map (·.block)=some k->base<=k:=by
 intro k b
 cases A with
 |none=>simp at b
 |some a=>have:=h.block (a:=a) rfl;simp at b;omega
end
theorem Qq2:Qle Tryz.prog 24 69 evC 8 96:=⟨Qyi,⟨_,ty69_ok,rfl,rfl⟩,by69,by decide,by decide,Qau,Qbn⟩
theorem Xp:Qle Tryz.prog 42 9 Qac 1 16:=⟨Xme,⟨_,ty9_ok,rfl,rfl⟩,by9,by decide,by decide,Qv,Qux⟩
