import Derived.Test.YtnpacgccajekgaaGreatDoorGH
set_option linter.all false
namespace Go.Proofs.YtnpacgccajekgaaGreatDoor
open Go.Se Go.RowKit
theorem Xj4(row t):(stN row t=0\/∃s,row[stN row t-1]?=some s/\s.at_<=t)/\(stN row t=row.length\/∃s,row[stN row t]?=some s/\t<s.at_)/\stN row t<=row.length:=by
 unfold stN
 induction row with
 |nil=>simp
 |cons a row g =>
  rw[List.takeWhile_cons]
  by_cases h:a.at_<=t
  .rw[if_pos (Su h)];obtain⟨e,f,j⟩:=g;simp only[Zx];generalize (row.takeWhile fun s=>decide (s.at_<=t)).length=n at*;refine⟨.inr ?_,?_,Om⟩
   .rcases e with rfl|⟨s,b,c⟩
    .exact⟨a,by simp,h⟩
    .cases n with
     |zero=>exact⟨a,by simp,h⟩
     |succ n=>exact⟨s,Su b,c⟩
   .rcases f with i|⟨s,b,d⟩
    .exact .inl Om
    .exact .inr ⟨s,Su b,d⟩
  .rw[if_neg (Su h)];exact⟨.inl rfl,.inr ⟨a,rfl,Om⟩,by simp⟩
def thQ(name:Bj)(t:Int)(e:Ev):Bool:=decide (e.item=name)&&decide (e.at_<=t)
def Qq3(name:Bj)(es:List Ev):St:=es.foldl Qce (Qi4 name)
theorem Qip(name es e):Qq3 name (es++[e])=Qce (Qq3 name es) e:=by simp[Qq3]
theorem Q08(s e):(Qce s e).item.name=s.item.name:=by unfold Qce;split<;>(try split)<;>rfl
def Qu9(name:Bj)(es:List Ev):It:=if es.isEmpty then Qb0 else(Qq3 name es).item
theorem Qk3{row t}(h:∀s∈row,s.at_<=t):stN row t=row.length:=by
 unfold stN;have:row.takeWhile (fun s=>decide (s.at_<=t))=row:=(by have:=Zco (l₂:= []) (p:=fun s:St=>decide (s.at_<=t)) (l₁:=row) (fun s a=>by simpa using h s a);simpa using this);rw[this]
theorem Xc1:∀(cs:List Ev),Rise cs->∀(name:Bj) (t:Int),
 (stN (Qy cs name) t=0↔cs.filter (thQ name t)=[])/\(stN (Qy cs name) t≠0->(Qy cs name)[stN (Qy cs name) t-1]?=some (Qq3 name (cs.filter (thQ name t)))):=by
 refine Qw ?_ ?_
 .intro _ name t;simp[Qy,stN]
 .intro cs e v h name t;have k:Rise cs:=(Z7.1 h).1;have o:=(Z7.1 h).2.2;obtain⟨g,i⟩:=v k name t;obtain⟨y,w⟩:=Qme cs k name;rw[Qbg,Zq];unfold Qfn Qm6
  by_cases d:name=e.item
  .rw[if_pos d];subst d;generalize x:Qy cs e.item=row at*;have u:∀s∈row,s.at_<=e.at_:=fun s a=>(by obtain⟨n,r,l,_⟩:=w s a;have:=Qz2 (o n r e (by simp));omega)
   by_cases f:e.at_<=t
   .have b:thQ e.item t e=true:=by simp[thQ,f]
    have m:∀s∈row++[Qfj row e],s.at_<=t:=fun s a=>by
     rcases Zj.1 a with a|a
     .have:=u s a;omega
     .simp at a;subst a;unfold Qfj;rw[Qgi];exact f
    have j:stN row t=row.length:=Qk3 fun s a=>m s (by simp[a])
    rw[Qk3 m];refine⟨by simp[Zau,b],fun _=>?_⟩;simp only[Zau,b,if_true,Zc9,Qip];rw[Zo,Zar,Nat.add_sub_cancel,Z8 (Zf _),Nat.sub_self];unfold Qfj;rw[j]at g i;congr 2
    by_cases c:row.length=0
    .have l:=g.1 c;rw[l,Zao.1 c];rfl
    .rw[List.getLast?_eq_getElem?,i c];rfl
   .have b:thQ e.item t e=false:=by simp[thQ,f]
    have j:stN (row++[Qfj row e]) t=stN row t:=by
     unfold stN;rw[List.takeWhile_append];split
     .rw[List.takeWhile_cons_of_neg (by unfold Qfj;rw[Qgi];simpa using f)];simp;omega
     .rfl
    rw[j];simp only[Zau,b,Zal,if_false,Zc9,Z4];refine⟨g,fun c=>?_⟩;have:=(Xj4 row t).2.2;rw[Zy Om];exact i c
  .rw[if_neg d];have b:thQ name t e=false:=by simp[thQ,Ne.symm d]
   simp only[Zau,b,Zal,if_false,Zc9,Z4];exact⟨g,i⟩
theorem Qer{cs}(h:Rise cs)(name t):Xz cs name t=(Qu9 name (cs.filter (thQ name t)),!(cs.filter (thQ name t)).isEmpty):=by
 obtain⟨d,e⟩:=Xc1 cs h name t;unfold Xz Qu9
 by_cases b:stN (Qy cs name) t=0
 .have c:=d.1 b;rw[c,b];cases (Qy cs name)[0-1]?<;>rfl
 .have c:cs.filter (thQ name t)≠[]:=fun h=>b (d.2 h)
  rw[e b];simp only[if_neg b];generalize cs.filter (thQ name t)=F at c
  cases F with
  |nil=>exact absurd rfl c
  |cons a es=>rfl
structure Sto{α:Type}(lt:α->α->Bool):Prop where
 irrefl:∀a,lt a a=false
 trans:∀{a b c},lt a b=true->lt b c=true->lt a c=true
 tri:∀{a b},lt a b=false->lt b a=false->a=b
theorem Quw:Sto bLt:=⟨Xu,Qb3,Qb4⟩
def SG{α:Type}(lt:α->α->Bool)(l:List α):Prop:=l.Pairwise fun x y=>lt x y=true
theorem SG.nodup{α:Type}{lt}(O:Sto lt){l:List α}(h:SG lt l):l.Nodup:=h.imp fun h e=>by rw[e,O.irrefl]at h;cases h
theorem Qx5{α:Type}{lt}(O:Sto lt){a b:α}(h:lt a b=true):lt b a=false:=by
 cases c:lt b a with
 |false=>rfl
 |true=>have:=O.trans h c;rw[O.irrefl]at this;cases this
theorem Qxp{α:Type}{lt}(O:Sto lt){l m:List α}(c:SG lt l)(d:SG lt m)(e:∀x,x∈l↔x∈m):l=m:=
 List.Perm.eq_of_pairwise (le:=fun a b=>lt b a=false) (fun a b _ _ c d=>O.tri d c) (c.imp fun h=>Qx5 O h) (d.imp fun h=>Qx5 O h) (Qfh (c.nodup O) (d.nodup O) (fun x hx=>(e x).1 hx) fun x hx=>(e x).2 hx)
section
variable {α:Type}[DecidableEq α]{lt:α->α->Bool}
def Q5d(lt:α->α->Bool)(l:List α)(a:α):List α:=
 if(l.dropWhile fun x=>lt x a).head?=some a then l else l.takeWhile (fun x=>lt x a)++a::l.dropWhile (fun x=>lt x a)
theorem Qti(a):Q5d lt [] a=[a]:=by simp[Q5d]
theorem Qo2(x l a):Q5d lt (x::l) a=if lt x a=true then x::Q5d lt l a else if x=a then x::l else a::x::l:=by
 unfold Q5d;rw[List.takeWhile_cons,List.dropWhile_cons]
 cases h:lt x a with
 |true =>
  simp only[if_true];split<;>simp
 |false =>
  simp only[Zal,if_false,List.head?_cons,Zb0,Zah]
theorem Qke{x a}:∀{l:List α},x∈Q5d lt l a↔x∈l\/x=a
 |[]=>by rw[Qti];simp
 |y::l=>by
  have b:=Qke (x:=x) (a:=a) (l:=l);rw[Qo2];split
  .rw[Zr,b,Zr];exact or_assoc.symm
  .split
   .next h =>
    subst h;constructor
    .exact .inl
    .rintro (h|rfl)
     .exact h
     .simp
   .rw[Zr];exact or_comm
theorem Qzt(O:Sto lt){a}:∀{l:List α},SG lt l->SG lt (Q5d lt l a)
 |[],_=>by rw[Qti];exact List.pairwise_singleton _ _
 |y::l,h=>by
  have b:=Zab.1 h;have g:=Qzt O (a:=a) b.2;rw[Qo2];split
  .next c =>
   refine Zab.2 ⟨fun x hx=>?_,g⟩;rcases Qke.1 hx with hx|rfl
   .exact b.1 x hx
   .exact c
  .next c =>
   split
   .exact h
   .next e =>
    have d:lt a y=true:=by
     cases f:lt a y with
     |true=>rfl
     |false=>exact absurd (O.tri (Su c) f) e
    refine Zab.2 ⟨fun x hx=>?_,h⟩;rcases Zr.1 hx with rfl|hx
    .exact d
    .exact O.trans d (b.1 x hx)
def Qf6(lt:α->α->Bool)(l:List α):List α:=l.foldl (Q5d lt) []
theorem Qjh(l a):Qf6 lt (l++[a])=Q5d lt (Qf6 lt l) a:=by unfold Qf6;rw[Zv];rfl
theorem Qrr{x}:∀l:List α,x∈Qf6 lt l↔x∈l:=by
 refine Qw (by simp[Qf6]) fun l a b=>?_
 rw[Qjh,Qke,b,Zj,Zl]
theorem Q95(O:Sto lt):∀l:List α,SG lt (Qf6 lt l):=by
 refine Qw List.Pairwise.nil fun l a b=>?_
 rw[Qjh];exact Qzt O b
theorem Qth(a):∀l:List α,(Q5d lt l a).length<=l.length+1
 |[]=>by rw[Qti];simp
 |y::l=>by
  have b:=Qth a l;rw[Qo2];split
  .simp;omega
  .split<;>simp
theorem Q5c:∀l:List α,(Qf6 lt l).length<=l.length:=by
 refine Qw (by simp[Qf6]) fun l a b=>?_
 rw[Qjh];have:=Qth (lt:=lt) a (Qf6 lt l);simp;omega
end
theorem Qm0{l}(h:l.Nodup):SG bLt (Xh l):=by
 have c:=Qgg l;have d:(Xh l).Pairwise (·≠·):=Zaj.1 ((Qbt l).nodup_iff.2 h);refine(List.Pairwise.and c d).imp ?_;rintro a b ⟨e,f⟩
 cases g:bLt a b with
 |true=>rfl
 |false=>exact absurd (Qb4 g e) f
theorem Qxu{l}(h:l.Nodup):(Qe5 l).Pairwise (·<·):=by
 have c:=Qp4 l;have d:(Qe5 l).Pairwise (·≠·):=Zaj.1 ((Qem l).nodup_iff.2 h);refine(List.Pairwise.and c d).imp ?_;rintro a b ⟨e,f⟩;omega
theorem Qjr(l):SG bLt (Qci l):=Qm0 (Qf0 l)
theorem Q2o(l s):Q5d bLt (Qci l) s=Qci (l++[s]):=
 Qxp Quw (Qzt Quw (Qjr l)) (Qjr _) fun x=>by rw[Qke,Qaa,Qaa,Zj,Zl]
theorem Xck(l):Qci (Qci l)=Qci l:=Qsd fun x=>Qaa
abbrev Ad3:=Bj×Int×Bj
def adE(e:Ev):Ad3:=(e.person,e.at_,e.item)
def ahB(a b:Ad3):Bool:=if a.1=b.1 then(if a.2.1=b.2.1 then bLt a.2.2 b.2.2 else decide (a.2.1<b.2.1)) else bLt a.1 b.1
theorem Qn7{a b}:ahB a b=true↔bLt a.1 b.1=true\/(a.1=b.1/\(a.2.1<b.2.1\/(a.2.1=b.2.1/\bLt a.2.2 b.2.2=true))):=by
 unfold ahB
 by_cases c:a.1=b.1
 .have e:bLt a.1 b.1=false:=by rw[c];exact Xu _
  rw[if_pos c]
  by_cases d:a.2.1=b.2.1
  .rw[if_pos d];constructor
   .intro h;exact .inr ⟨c,.inr ⟨d,h⟩⟩
   .rintro (h|⟨_,h|⟨_,h⟩⟩)
    .rw[e]at h;cases h
    .omega
    .exact h
  .rw[if_neg d,decide_eq_true_eq];constructor
   .intro h;exact .inr ⟨c,.inl h⟩
   .rintro (h|⟨_,h|⟨h,_⟩⟩)
    .rw[e]at h;cases h
    .exact h
    .exact absurd h d
 .rw[if_neg c];constructor
  .exact .inl
  .rintro (h|⟨h,_⟩)
   .exact h
   .exact absurd h c
theorem Xh0:Sto ahB where
 irrefl a:=by unfold ahB;rw[if_pos rfl,if_pos rfl];exact Xu _
 trans:=by
  intro a b c h k;rw[Qn7]at*;rcases h with h|⟨h,d⟩<;>rcases k with k|⟨k,e⟩
  .exact .inl (Qb3 h k)
  .exact .inl (k▸h)
  .exact .inl (h▸k)
  .refine .inr ⟨h.trans k,?_⟩;rcases d with d|⟨d,o⟩<;>rcases e with e|⟨e,r⟩
   .exact .inl Om
   .exact .inl Om
   .exact .inl Om
   .exact .inr ⟨Om,Qb3 o r⟩
 tri:=by
  intro a b h k;obtain⟨a1,a2,g⟩:=a;obtain⟨i,f,j⟩:=b;rw[<- Zai,Qn7]at h k;simp only at h k;have l:a1=i:=Qb4 (by rw[<- Zai];exact fun x=>h (.inl x)) (by rw[<- Zai];exact fun x=>k (.inl x));subst l
  have m:a2=f:=by
   rcases Int.lt_trichotomy a2 f with x|x|x
   .exact absurd (.inr ⟨rfl,.inl x⟩) h
   .exact x
   .exact absurd (.inr ⟨rfl,.inl x⟩) k
  subst m;have n:g=j:=Qb4 (by rw[<- Zai];exact fun x=>h (.inr ⟨rfl,.inr ⟨rfl,x⟩⟩)) (by rw[<- Zai];exact fun x=>k (.inr ⟨rfl,.inr ⟨rfl,x⟩⟩));rw[n]
def tks(ss:Ses)(p:Bj):Qe1:=(Qe ss p).getD []
theorem Qn0(s P a T p):tks (Xd3 s P T a) p=if p=P then Xe (tks s P) T (Xe ((Qe (tks s P) T).getD []) a true) else tks s p:=by
 unfold tks Xd3;rw[Xr];split<;>rfl
theorem Qhj{a β:Type}[DecidableEq a]{k x:a}{v:β}{l}:x∈(Xe l k v).map (·.1)↔x∈l.map (·.1)\/x=k:=by
 rw[Qeq];split
 .next h =>
  constructor
  .exact .inl
  .rintro (b|rfl)
   .exact b
   .exact h
 .rw[Zj,Zl]
theorem Q1l(m:Qe1)(T t x):Xv (Xe m T x) t=if t=T then x.map (·.1) else Xv m t:=by
 unfold Xv;rw[Xr];split<;>rfl
structure Xia(ss:Ses)(l:List Ev):Prop where
 keys:ss.Pairwise (fun x y=>x.1≠y.1)
 ticks:∀p,(tks ss p).Pairwise (fun x y=>x.1≠y.1)
 item:∀p t i,i∈Xv (tks ss p) t↔∃e∈l,e.person=p/\e.at_=t/\e.item=i
 tick:∀p t,t∈(tks ss p).map (·.1)↔∃e∈l,e.person=p/\e.at_=t
 person:∀p,p∈ss.map (·.1)↔∃e∈l,e.person=p
theorem Xj3:∀l:List Ev,Xia (Qi3 l) l:=by
 refine Qw ⟨List.Pairwise.nil,fun p=>List.Pairwise.nil,fun p t b=>by simp[Qi3,tks,Qe,Xv],fun p t=>by simp[Qi3,tks,Qe],fun p=>by simp[Qi3]⟩ fun l e c=>?_
 rw[Q06];refine⟨Qan c.keys,fun p=>?_,fun p t b=>?_,fun p t=>?_,fun p=>?_⟩
 .rw[Qn0];split
  .exact Qan (c.ticks _)
  .exact c.ticks p
 .rw[Qn0]
  have hx:(∃x∈l++[e],x.person=p/\x.at_=t/\x.item=b)↔(∃x∈l,x.person=p/\x.at_=t/\x.item=b)\/(e.person=p/\e.at_=t/\e.item=b):=by
   constructor
   .rintro ⟨x,hx,h⟩;rcases Zj.1 hx with hx|hx
    .exact .inl ⟨x,hx,h⟩
    .rw[Zl]at hx;subst hx;exact .inr h
   .rintro (⟨x,hx,h⟩|h)
    .exact⟨x,by simp[hx],h⟩
    .exact⟨e,by simp,h⟩
  rw[hx,<- c.item]
  by_cases a:p=e.person
  .subst a;rw[if_pos rfl,Q1l]
   by_cases d:t=e.at_
   .subst d;rw[if_pos rfl,Qhj];show (b∈Xv (tks (Qi3 l) e.person) e.at_\/b=e.item)↔_
    constructor
    .rintro (h|h)
     .exact .inl h
     .exact .inr ⟨rfl,rfl,h.symm⟩
    .rintro (h|⟨_,_,h⟩)
     .exact .inl h
     .exact .inr h.symm
   .rw[if_neg d];constructor
    .exact .inl
    .rintro (h|⟨_,h,_⟩)
     .exact h
     .exact absurd h.symm d
  .rw[if_neg a];constructor
   .exact .inl
   .rintro (h|⟨h,_⟩)
    .exact h
    .exact absurd h.symm a
 .rw[Qn0]
  have hx:(∃x∈l++[e],x.person=p/\x.at_=t)↔(∃x∈l,x.person=p/\x.at_=t)\/(e.person=p/\e.at_=t):=by
   constructor
   .rintro ⟨x,hx,h⟩;rcases Zj.1 hx with hx|hx
    .exact .inl ⟨x,hx,h⟩
    .rw[Zl]at hx;subst hx;exact .inr h
   .rintro (⟨x,hx,h⟩|h)
    .exact⟨x,by simp[hx],h⟩
    .exact⟨e,by simp,h⟩
  rw[hx,<- c.tick]
  by_cases a:p=e.person
  .subst a;rw[if_pos rfl,Qhj];constructor
   .rintro (h|h)
    .exact .inl h
    .exact .inr ⟨rfl,h.symm⟩
   .rintro (h|⟨_,h⟩)
    .exact .inl h
    .exact .inr h.symm
  .rw[if_neg a];constructor
   .exact .inl
   .rintro (h|⟨h,_⟩)
    .exact h
    .exact absurd h.symm a
 .show p∈(Xe _ _ _).map (·.1)↔_
  rw[Qhj,c.person];constructor
  .rintro (⟨x,hx,h⟩|rfl)
   .exact⟨x,by simp[hx],h⟩
   .exact⟨e,by simp,rfl⟩
  .rintro ⟨x,hx,h⟩;rcases Zj.1 hx with hx|hx
   .exact .inl ⟨x,hx,h⟩
   .rw[Zl]at hx;subst hx;exact .inr h.symm
def Qtd(p:Bj)(k:Qe1)(t:Int):List Ad3:=(Qci (Xv k t)).map fun a=>(p,t,a)
def Qzn(ss:Ses)(p:Bj):List Ad3:=(Qe5 ((tks ss p).map (·.1))).flatMap (Qtd p (tks ss p))
def Xe1(ss:Ses):List Ad3:=(Xh (ss.map (·.1))).flatMap (Qzn ss)
theorem Qo8{β:Type}{L:List (Int×β)}(h:L.Pairwise (fun x y=>x.1≠y.1)):(L.map (·.1)).Nodup:=by
 rw[Zaj,Z5];exact h
theorem Xe3(p k t):SG ahB (Qtd p k t):=by
 unfold SG Qtd;rw[Z5];refine List.Pairwise.imp ?_ (Qjr (Xv k t));intro a b h;exact Qn7.2 (.inr ⟨rfl,.inr ⟨rfl,h⟩⟩)
theorem Qkc{p k t x}:x∈Qtd p k t↔x.1=p/\x.2.1=t/\x.2.2∈Xv k t:=by
 unfold Qtd;rw[Zh];constructor
 .rintro ⟨e,d,rfl⟩;exact⟨rfl,rfl,Qaa.1 d⟩
 .rintro ⟨a,b,c⟩;exact⟨x.2.2,Qaa.2 c,by rw[<- a,<- b]⟩
theorem Xe0{ss l}(h:Xia ss l)(p):SG ahB (Qzn ss p):=by
 unfold SG Qzn;rw[List.pairwise_flatMap];refine⟨fun t _=>Xe3 _ _ _,(Qxu (Qo8 (h.ticks p))).imp fun d x hx y a=>?_⟩;obtain⟨b,e,_⟩:=Qkc.1 hx;obtain⟨c,f,_⟩:=Qkc.1 a;exact Qn7.2 (.inr ⟨b.trans c.symm,.inl Om⟩)
theorem Qkb{ss l}(h:Xia ss l){p x}:x∈Qzn ss p↔x.1=p/\∃e∈l,adE e=x:=by
 unfold Qzn;rw[Zbh];constructor
 .rintro ⟨t,_,hx⟩;obtain⟨a,g,i⟩:=Qkc.1 hx;obtain⟨e,b,c,d,f⟩:=(h.item _ _ _).1 i;exact⟨a,e,b,by unfold adE;rw[c,d,f,<- a,<- g]⟩
 .rintro ⟨a,e,b,rfl⟩;refine⟨e.at_,Qp2.2 ((h.tick _ _).2 ⟨e,b,a,rfl⟩),Qkc.2 ⟨a,rfl,(h.item _ _ _).2 ⟨e,b,a,rfl,rfl⟩⟩⟩
theorem Xe2(l):Xe1 (Qi3 l)=Qf6 ahB (l.map adE):=by
 have h:=Xj3 l;refine Qxp Xh0 ?_ (Q95 Xh0 _) fun x=>?_
 .unfold SG Xe1;rw[List.pairwise_flatMap];refine⟨fun p _=>Xe0 h p,(Qm0 (Qah h.keys)).imp fun d x hx y f=>?_⟩;have b:=((Qkb h).1 hx).1;have c:=((Qkb h).1 f).1;exact Qn7.2 (.inl (by rw[b,c];exact d))
 .rw[Qrr];unfold Xe1;rw[Zbh,Zh];constructor
  .rintro ⟨p,_,hx⟩;exact((Qkb h).1 hx).2
  .rintro ⟨e,a,rfl⟩;exact⟨e.person,Qge.2 ((h.person _).2 ⟨e,a,rfl⟩),(Qkb h).2 ⟨rfl,e,a,rfl⟩⟩
def Qbv(gap:Int)(b:List Sn)(a:Ad3):List Sn:=
 match b.getLast? with
 |some c=>if c.person=a.1/\a.2.1-c.to_<=gap then b.dropLast++[⟨a.1,c.from_,a.2.1,Q5d bLt c.items a.2.2⟩] else b++[⟨a.1,a.2.1,a.2.1,[a.2.2]⟩]
 |none=>b++[⟨a.1,a.2.1,a.2.1,[a.2.2]⟩]
theorem Qmd(gap b g a):Qbv gap (b++[g]) a=if g.person=a.1/\a.2.1-g.to_<=gap then b++[⟨a.1,g.from_,a.2.1,Q5d bLt g.items a.2.2⟩] else(b++[g])++[⟨a.1,a.2.1,a.2.1,[a.2.2]⟩]:=by
 unfold Qbv;rw[Zc3,List.getLast?_singleton,Option.some_or,List.dropLast_concat]
def allL(gap:Int)(L:List Ad3):List Sn:=L.foldl (Qbv gap) []
theorem Qsr(gap)(b:0<=gap)(p t):∀(its:List Bj) (a:List Sn) (f:Int) (X:List Bj),(its.map fun i=>((p,t,i):Ad3)).foldl (Qbv gap) (a++[⟨p,f,t,Qci X⟩])=a++[⟨p,f,t,Qci (X++its)⟩]
 |[],a,f,X=>by simp
 |i::its,a,f,X=>by
  have c:=Qsr gap b p t its a f (X++[i]);rw[Zm,Zaq,Qmd,if_pos ⟨rfl,Sj⟩,Q2o,c];simp
theorem Xge(i):Qci [i]=[i]:=by simp[Qci,Q7t,Xh]
theorem Xeb(gap)(d:0<=gap)(p k t)(v:Xv k t≠[]) :
 (∀(a:List Sn),(∀g,a.getLast?=some g->g.person≠p\/gap<t-g.to_)->(Qtd p k t).foldl (Qbv gap) a=a++[⟨p,t,t,Qci (Xv k t)⟩]) /\
 (∀(a:List Sn) (f u:Int) (X:List Bj),t-u<=gap->(Qtd p k t).foldl (Qbv gap) (a++[⟨p,f,u,Qci X⟩])=a++[⟨p,f,t,Qci (X++Xv k t)⟩]):=by
 have r:Qci (Xv k t)≠[]:=by
  intro h
  cases e:Xv k t with
  |nil=>exact v e
  |cons y l =>
   have:y∈Qci (Xv k t):=Qaa.2 (by rw[e];simp);rw[h]at this;simp at this
 unfold Qtd
 cases b:Qci (Xv k t) with
 |nil=>exact absurd b r
 |cons i its =>
  have w:Qci (i::its)=Qci (Xv k t):=by rw[<- b,Xck]
  refine⟨fun a o=>?_,fun a f u X z=>?_⟩
  .have j:Qbv gap a (p,t,i)=a++[⟨p,t,t,Qci [i]⟩]:=by
    unfold Qbv;rw[Xge]
    cases s:a.getLast? with
    |none=>rfl
    |some g =>
     simp only;rw[if_neg];rintro ⟨m,c⟩;rcases o g s with h|h
     .exact h m
     .have c:t-g.to_<=gap:=c;omega
   rw[Zm,Zaq,j,Qsr gap d];rw[show [i]++its=i::its from rfl,w,b]
  .rw[Zm,Zaq,Qmd,if_pos ⟨rfl,z⟩,Q2o,Qsr gap d]
   have:Qci (X++[i]++its)=Qci (X++Xv k t):=Qsd fun x=>by
    have hx:x∈i::its↔x∈Xv k t:=by rw[<- b];exact Qaa
    have n:x∈X++[i]++its↔x∈X\/x∈i::its:=by simp[or_assoc]
    rw[n,hx,Zj]
   rw[this]
theorem Q37(gap)(m:0<=gap)(p k b)(l:∀g,b.getLast?=some g->g.person≠p):∀ts:List Int,(∀t∈ts,Xv k t≠[])->(ts.flatMap (Qtd p k)).foldl (Qbv gap) b=b++(Qg9 gap k ts).map (Xd7 p):=by
 refine Qw (fun _=>by simp[Qg9]) fun ts t c h=>?_
 have c:=c fun x hx=>h x (by simp[hx])
 obtain⟨f,j⟩:=Xeb gap m p k t (h t (by simp));rw[Zbn,Zv,c,Qih];simp only[Za0,List.flatMap_nil,Z4];generalize Qg9 gap k ts=G;clear c;unfold Qdh
 cases i:G.getLast? with
 |none =>
  have:G=[]:=Su i;subst this;simp only[Zbk,Z4,Zm];rw[f b fun g a=>.inl (l g a)];rfl
 |some g =>
  obtain⟨e,rfl⟩:∃e,G=e++[g]:=(by have:=List.getLast?_eq_some_iff.1 i;obtain⟨n,h⟩:=this;exact⟨n,h⟩);simp only[List.dropLast_concat]
  by_cases d:gap<t-g.2.1
  .rw[if_pos d,f _ fun o a=>?_]
   .simp[Xd7]
   .rw[Zp,<- Zac,Zm,Zbk,Zc3,List.getLast?_singleton,Option.some_or]at a;injection a with a;subst a;exact .inr d
  .rw[if_neg d,Zp,<- Zac,Zm,Zbk];rw[show Xd7 p g=⟨p,g.1,g.2.1,Qci g.2.2⟩ from rfl,j _ _ _ _ Om,Zp,Zac];rfl
theorem Xct{gap ss p x}(h:x∈Qgc gap ss p):x.person=p:=by
 unfold Qgc at h;obtain⟨a,_,rfl⟩:=Zh.1 h;rfl
theorem Qra(gap)(c:0<=gap)(ss)(h:∀p t,t∈(tks ss p).map (·.1)->Xv (tks ss p) t≠[]):∀(ps:List Bj) (a:List Sn),ps.Nodup->(∀g,a.getLast?=some g->g.person∉ps)->(ps.flatMap (Qzn ss)).foldl (Qbv gap) a=a++ps.flatMap (Qgc gap ss)
 |[],a,_,_=>by simp
 |p::ps,a,d,f=>by
  rw[Zbp]at d;rw[Za0,Zv,Za0];have i:(Qzn ss p).foldl (Qbv gap) a=a++Qgc gap ss p:=Q37 gap c p (tks ss p) a (fun g c j=>f g c (by rw[j];simp)) _ fun t l=>h p t (Qp2.1 l)
  rw[i,Qra gap c ss h ps _ d.2 ?_,Zac];intro g b;rw[Zc3]at b
  cases e:(Qgc gap ss p).getLast? with
  |none =>
   rw[e,Option.none_or]at b;exact fun k=>f g b (by simp[k])
  |some x =>
   rw[e,Option.some_or]at b;injection b with b;subst b;rw[Xct (Zbu e)];exact d.1
theorem Xcu(gap)(d:0<=gap)(l):allL gap (Qf6 ahB (l.map adE))=Qky gap (Qi3 l):=by
 have h:=Xj3 l;rw[<- Xe2];unfold allL Xe1 Qky;rw[Qra gap d (Qi3 l) (fun p t g f=>?_) _ [] ((Qbt _).nodup_iff.2 (Qah h.keys)) (by simp),Zah];obtain⟨e,c,a,b⟩:=(h.tick p t).1 g;have:=(h.item p t e.item).2 ⟨e,c,a,b,rfl⟩;rw[f]at this;simp at this
theorem Q7l{age half}(h:age<0):Qaw age half=0:=by unfold Qaw;rw[if_pos h]
theorem Qxh(r):Qbf (Qg5 r)=r:=by
 have a:(Qg5 r).data.toList=59::r.data.toList:=by unfold Qg5;simp
 have c:Qde (Qg5 r)=some 0:=by unfold Qde;rw[a];rfl
 unfold Qbf;rw[c];simp only;apply Q8e;have b:∀s:Bj,s.toList=s.data.toList:=fun s=>by rw[ByteArray.toList_eq]
 rw[b,b,Qdu,a];have:(Qg5 r).size=r.size+1:=(by have:=congrArg List.length a;simpa using this);rw[this];simp;exact Zd (by simp)
theorem Xdi(s):Xg (Qg5 (Qbf s))=Xg s:=by rw[Qey,Qxh,Qey s]
theorem Ql6:Xg (Qg5 ⟨#[]⟩)=[]:=by rw[Qey,Qxh,if_pos rfl]
def Xic(l:List Bj):Prop:=(∀t∈l,Qo t=true)/\SG bLt l/\l.length<=8
theorem Xka{l}(h:Qia l=true)(f:l.length<=8):Xic l:=by
 unfold Qia at h;rw[Zaa]at h;have b:∀i (a:i<l.length),Qo l[i]=true/\(i=0\/bLt (l.getD (i-1) .empty) l[i]=true):=fun i a=>(by have:=h i (List.mem_range.2 a);unfold Qx9 at this;rw[getD_lt a]at this;simpa using this)
 refine⟨fun t k=>?_,?_,f⟩
 .obtain⟨i,a,rfl⟩:=Za2 k;exact(b i a).1
 .have g:∀d i (a:i+d+1<l.length),bLt (l[i]'Om) (l[i+d+1]'a)=true:=by
   intro d
   induction d with
   |zero =>
    intro i a;have:=(b (i+1) a).2;rw[Nat.add_sub_cancel,getD_lt Om]at this;rcases this with h|h
    .omega
    .exact h
   |succ d m =>
    intro i a;have c:=m i Om;have:=(b (i+(d+1)+1) a).2;rw[show i+(d+1)+1-1=i+d+1 by omega,getD_lt Om]at this;rcases this with h|h
    .omega
    .exact Qb3 c h
  unfold SG;rw[Zaz];intro i j a o n;have:=g (j-i-1) i Om;have e:i+(j-i-1)+1=j:=Om;simp only[e]at this;exact this
theorem Xj5(name):∀es:List Ev,(∀e∈es,Xy e=true)->Xic (Xg (Qg5 (Qq3 name es).item.tags)):=by
 refine Qw (fun _=>?_) fun es e c h=>?_
 .show Xic (Xg (Qg5 ⟨#[]⟩))
  rw[Ql6];exact⟨by simp,List.Pairwise.nil,by simp⟩
 .have c:=c fun x hx=>h x (by simp[hx])
  have d:=h e (by simp);rw[Qip];unfold Qce;split
  .next f =>
   show Xic (Xg (Qg5 (Qbf e.text)))
   rw[Xdi]
   have b:Qc8 e.text=true:=by
    rcases Qbq (Qcf.1 d).kind with a|a|a|a|a|a|a
    all_goals first|(exfalso;omega)|exact a.2.2.2.1
   unfold Qc8 at b;simp only[Zk]at b;exact Xka b.2.1 (Su b.2.2)
  .split
   .exact c
   .exact c
theorem Qo6(name es)(h:∀e∈es,Xy e=true):Xic (Xg (Qg5 (Qu9 name es).tags)):=by
 unfold Qu9;split
 .show Xic (Xg (Qg5 ⟨#[]⟩))
  rw[Ql6];exact⟨by simp,List.Pairwise.nil,by simp⟩
 .exact Xj5 name es h
def Xdg(cs:List Ev)(e:Ev):List Bj:=if e.item=⟨#[]⟩ then [] else Xg (Qg5 (Qu9 e.item (cs.filter (thQ e.item e.at_))).tags)
def Xcd(z:List Ev):List Ev×List Row:=z.foldl (fun s e=>(s.1++[e],s.2++if peB e=true then [(e,Xdg (Qm s.1) e)] else [])) ([],[])
def Qxl(z:List Ev):List Row:=(Xcd z).2
theorem Xjy:∀z:List Ev,(Xcd z).1=z:=by
 refine Qw rfl fun z e a=>?_
 unfold Xcd at*;rw[Zv];simp only[Zaq,List.foldl_nil];rw[a]
theorem Q6i(z e):Qxl (z++[e])=Qxl z++if peB e=true then [(e,Xdg (Qm z) e)] else []:=by
 have h:=Xjy z;unfold Qxl Xcd at*;rw[Zv];simp only[Zaq,List.foldl_nil];rw[h]
theorem Q1e{l t x}:x∈Qb8 l t↔x∈l\/(x=t/\Qo t=true):=by
 unfold Qb8;split
 .next h =>
  rw[Zj,Zl];have c:Qo t=true:=by simp at h;exact h.1
  simp[c]
 .next h =>
  constructor
  .exact .inl
  .rintro (a|⟨rfl,b⟩)
   .exact a
   .rw[b,Bool.true_and,Zai,Bool.not_eq_false',Lib.containsS_iff]at h;exact h
theorem Xdf{x}(a):x∈Qbw a↔x∈a/\Qo x=true:=by
 have:∀(a c:List Bj),x∈a.foldl Qb8 c↔x∈c\/(x∈a/\Qo x=true):=by
  intro a
  induction a with
  |nil=>intro c;simp
  |cons t a e =>
   intro c;rw[Zaq,e,Q1e,Zr];constructor
   .rintro ((h|⟨rfl,h⟩)|⟨d,b⟩)
    .exact .inl h
    .exact .inr ⟨.inl rfl,h⟩
    .exact .inr ⟨.inr d,b⟩
   .rintro (h|⟨rfl|d,b⟩)
    .exact .inl (.inl h)
    .exact .inl (.inr ⟨rfl,b⟩)
    .exact .inr ⟨d,b⟩
 unfold Qbw;rw[this];simp
theorem Q1f(c):(Qbw c).Nodup:=by
 have:∀(c l:List Bj),l.Nodup->(c.foldl Qb8 l).Nodup:=by
  intro c
  induction c with
  |nil=>intro l h;exact h
  |cons t c k =>
   intro l h;rw[Zaq];refine k _ ?_;unfold Qb8;split
   .next f =>
    have j:t∉l:=(by intro i;have:=(Lib.containsS_iff _ _).2 i;rw[this]at f;simp at f);rw[Zc5];refine⟨h,by simp,?_⟩;intro a g b d;rw[Zl]at d;subst d;exact fun e=>j (e▸g)
   .exact h
 exact this c [] List.nodup_nil
theorem Qd2{z}(h:∀e∈z,Xy e=true):∀e∈Qm z,Xy e=true:=fun e a=>h e (Ze.1 a).1
theorem Qdk{z}(h:Rise z):Rise (Qm z):=h.sublist Zax
theorem Xdh{cs}(n:Rise cs)(g:∀e∈cs,Xy e=true)(r:∀e∈cs,thB e=true)(e x):x∈Qbw (Qbj cs e)↔x∈Xdg cs e:=by
 have o:∀y∈cs.filter (thQ e.item e.at_),Xy y=true:=fun y c=>g y (Ze.1 c).1
 have s:=Qo6 e.item (cs.filter (thQ e.item e.at_)) o;rw[Xdf];unfold Qbj Xdg;rw[Qer n];simp only
 by_cases b:cs.filter (thQ e.item e.at_)=[]
 .rw[b];simp only[List.isEmpty_nil,Zcz,Zal,if_false,Zcl,false_and];have:Xg (Qg5 (Qu9 e.item []).tags)=[]:=Ql6;rw[this];simp
 .have j:(cs.filter (thQ e.item e.at_)).isEmpty=false:=Su b;rw[j];simp only[Zde,if_true]
  have k:e.item≠⟨#[]⟩:=by
   intro m
   cases a:cs.filter (thQ e.item e.at_) with
   |nil=>exact b a
   |cons y l =>
    have c:y∈cs.filter (thQ e.item e.at_):=by rw[a];simp
    have d:=Ze.1 c;have u:y.item=e.item:=(by have:=d.2;unfold thQ at this;simp at this;exact this.1)
    have i:Qo y.item=true:=by
     have f:=r y d.1;unfold thB at f;simp only[decide_eq_true_eq]at f;rcases Qbq (Qcf.1 (g y d.1)).kind with a|a|a|a|a|a|a
     all_goals first|(exfalso;omega)|exact a.2.2.1
    rw[u,m]at i;exact absurd i (by decide)
  rw[if_neg k];constructor
  .exact fun h=>h.1
  .exact fun h=>⟨h,s.1 x h⟩
def Xh3(half now:Int)(R:List Row)(t:Bj):Int:=((R.filter fun a=>decide (t∈a.2)).map fun a=>Qq6 half now a.1).sum
theorem Xdr(half now R r t):Xh3 half now (R++[r]) t=Xh3 half now R t+if t∈r.2 then Qq6 half now r.1 else 0:=by
 unfold Xh3;rw[Zq,Zp,Zbj]
 by_cases h:t∈r.2<;>simp[h]
theorem Qpz(R r person):rowsOf (R++[r]) person=rowsOf R person++if r.1.person=person then [r] else []:=by
 unfold rowsOf;rw[Zq]
 by_cases h:r.1.person=person<;>simp[h]
theorem Q2e(width z e):(Qi width (z++[e])).rs=(Qi width z).rs++if peB e=true then [(e,Qbw (Qbj (Qm z) e))] else []:=by
 have c:=(Qb7 width z).1;rw[Qc6];unfold Qd9 peB thB
 by_cases a:e.kind=11\/e.kind=12\/e.kind=13
 .simp[a]
 .rw[if_neg a]
  by_cases b:e.kind=14
  .simp[b]
  .rw[if_neg b,<- c];simp only[a,b,decide_false,Zde,Bool.and_self,if_true];split<;>rfl
theorem Xgv(width half now person t):∀z:List Ev,Rise z->(∀e∈z,Xy e=true)->Q3w half now (rowsOf (Qi width z).rs person) t=Xh3 half now (rowsOf (Qxl z) person) t:=by
 refine Qw (fun _ _=>by simp[Qi,Q7o,rowsOf,Q3w,Xh3,Qxl,Xcd]) fun z e a l k=>?_
 have g:Rise z:=(Z7.1 l).1;have f:∀x∈z,Xy x=true:=fun x hx=>k x (by simp[hx])
 have a:=a g f;rw[Q2e,Q6i]
 cases m:peB e with
 |false=>simpa using a
 |true =>
  rw[if_pos rfl,if_pos rfl,Qpz,Qpz];simp only
  by_cases c:e.person=person
  .rw[if_pos c,if_pos c,Xdr,<- a];have i:=Xdh (Qdk g) (Qd2 f) (fun x hx=>(Ze.1 hx).2) e t;unfold Q3w;rw[Zq,Zp,Zbj];congr 1
   by_cases b:t∈Xdg (Qm z) e
   .rw[if_pos b]
    by_cases d:e.at_<=now
    .simp[d,i.2 b]
    .have:Qq6 half now e=0:=(by unfold Qq6;rw[Q7l Om];simp);simp[d,this]
   .rw[if_neg b];have j:¬t∈Qbw (Qbj (Qm z) e):=fun h=>b (i.1 h)
    simp[j]
  .rw[if_neg c,if_neg c,Z4,Z4,a]
theorem Qet(width):∀z:List Ev,Rise z->(∀e∈z,Xy e=true)->∀r∈(Qi width z).rs,Xy r.1=true/\r.2.Nodup/\r.2.length<=8:=by
 refine Qw (fun _ _ r a=>by simp[Qi,Q7o]at a) fun z e b g c=>?_
 have f:Rise z:=(Z7.1 g).1;have d:∀x∈z,Xy x=true:=fun x hx=>c x (by simp[hx])
 have b:=b f d;rw[Q2e];intro r a;rcases Zj.1 a with a|a
 .exact b r a
 .split at a
  .rw[Zl]at a;subst a;refine⟨c e (by simp),Q1f _,Zw (Qya _) ?_⟩;unfold Qbj;split
   .rw[Qer (Qdk f)];exact(Qo6 e.item _ fun y h=>Qd2 d y (Ze.1 h).1).2.2
   .simp
  .simp at a
def Qm5(f:Bj->Int)(tags:List Bj):Int:=(tags.map f).sum
theorem Xc9(x)(n:Int):∀tags:List Bj,tags.Nodup->(tags.map fun t=>if t=x then n else 0).sum=if x∈tags then n else 0
 |[],_=>by simp
 |a::tags,h=>by
  rw[Zbp]at h;have c:=Xc9 x n tags h.2;rw[Zm,Za8,c]
  by_cases hx:a=x
  .subst hx;rw[if_pos rfl,if_neg h.1,if_pos (by simp)];omega
  .rw[if_neg hx]
   by_cases b:x∈tags
   .rw[if_pos b,if_pos (by simp[b])];omega
   .rw[if_neg b,if_neg (by simp[b];exact fun e=>hx e.symm)];omega
theorem Xc8{α:Type}(f g:α->Int):∀l:List α,(l.map fun x=>f x+g x).sum=(l.map f).sum+(l.map g).sum
 |[]=>rfl
 |x::l=>by
  have:=Xc8 f g l;simp only[Zm,Za8];omega
theorem Q3q{tags:List Bj}(a:tags.Nodup):∀L:List (Bj×Int),L.Pairwise (fun x y=>x.1≠y.1)->((L.filter fun x=>decide (x.1∈tags)).map (·.2)).sum=(tags.map fun t=>(Qe L t).getD 0).sum
 |[],_=>by
  have:(tags.map fun t=>(Qe ([]:List (Bj×Int)) t).getD 0).sum=0:=Qm3 _ fun x _=>rfl
  rw[this];rfl
 |x::L,h=>by
  rw[Zab]at h;have f:=Q3q a L h.2;have b:Qe L x.1=none:=Qej.2 fun y d e=>h.1 y d e.symm
  have c:(tags.map fun t=>(Qe (x::L) t).getD 0)=tags.map fun t=>(if t=x.1 then x.2 else 0)+(Qe L t).getD 0:=by
   apply Zbq;intro t _;rw[Qcx]
   by_cases hx:t=x.1
   .rw[if_pos hx,if_pos hx,hx,b];simp
   .rw[if_neg hx,if_neg hx];omega
  rw[c,Xc8,Xc9 _ _ _ a,<- f,Zau]
  by_cases hx:x.1∈tags
  .rw[if_pos (by simp[hx]),if_pos hx,Zm,Za8]
  .rw[if_neg (by simp[hx]),if_neg hx];omega
theorem Qvi{L:List (Bj×Int)}(h:L.Pairwise (fun x y=>x.1≠y.1))(d:∀t,0<=(Qe L t).getD 0)(t):(Qe (L.filter fun x=>decide (0<x.2)) t).getD 0=(Qe L t).getD 0:=by
 induction L with
 |nil=>rfl
 |cons x L a =>
  rw[Zab]at h;have b:Qe L x.1=none:=Qej.2 fun y g e=>h.1 y g e.symm
  have f:∀t,0<=(Qe L t).getD 0:=fun t=>by
   by_cases hx:t=x.1
   .rw[hx,b];simp
   .have:=d t;rw[Qcx,if_neg hx]at this;exact this
  have a:=a h.2 f;have i:0<=x.2:=(by have:=d x.1;rw[Qcx,if_pos rfl]at this;exact this);rw[Zau]
  by_cases c:0<x.2
  .rw[if_pos (Su c),Qcx,Qcx];split
   .rfl
   .exact a
  .rw[if_neg (Su c),a,Qcx];split
   .next hx =>
    rw[hx,b];simp;omega
   .rfl
theorem Xdl{half now rows}(f:∀r∈rows,Xy r.1=true/\r.2.Nodup)(e:rows.length<1000000){tags}(g:tags.Nodup){F:List (Bj×Int)}(c:F.Perm (Xkd half now rows)) :
 ((F.filter fun x=>decide (x.1∈tags)).map (·.2)).sum=Qm5 (Q3w half now rows) tags:=by
 rw[Q3c ((c.filter _).map _)];have b:=Xds half now rows;have d:(Xkd half now rows).Pairwise (fun x y=>x.1≠y.1):=b.sublist Zax;rw[Q3q g _ d];unfold Qm5;congr 1;apply Zbq;intro t _;have a:=fun t=>Xdt half now t rows f e
 unfold Xkd;rw[Qvi b fun t=>by rw[(a t).1];exact(a t).2.1];exact(a t).1
def Q6d(c:Cfg)(fresh a:Int):Int:=if fresh=0\/fresh<c.floor then 0 else min (fresh*1048576/(a+1)) 1099511627776
abbrev Ct:=Bj×Int
def Qjv(x:Ct):List Value:= [.string x.1,Vj x.2]
theorem Qnl(x):(Qjv x).length=2:=rfl
theorem Qj7(x):∀u∈Qjv x,u.oneCell'=true:=by simp[Qjv,Value.oneCell']
theorem Xga:Qle Tryz.prog 341 345 Qjv 2 24:=⟨by kernel_rfl,⟨_,ty345_ok,rfl,rfl⟩,by345,by decide,by decide,Qnl,Qj7⟩
theorem Xd0{z:List Ev}(h:∀e∈z,Xy e=true):∀e∈z.filter wpB,Xy e=true:=fun e a=>h e (Ze.1 a).1
theorem Qw3{e}(h:Xy e=true):0<=e.at_/\e.at_<=1099511627776:=by
 have:=(Qcf.1 h).at_;exact this
theorem Xhf{c}(h:Qu7 c=true):(1<=c.half/\c.half<=1099511627776)/\(1<=c.width/\c.width<=1099511627776)/\(1<=c.span/\c.span<=1099511627776)/\c.span.tmod c.width=0/\(0<=c.gap/\c.gap<=1099511627776)/\(0<=c.floor/\c.floor<=1048576)/\(0<=c.crowd/\c.crowd<=1048576):=by
 unfold Qu7 inB at h;simp only[Zk,decide_eq_true_eq]at h;obtain⟨⟨⟨⟨⟨⟨a,b⟩,d⟩,e⟩,f⟩,g⟩,i⟩:=h;exact⟨a,b,d,e,f,g,i⟩
theorem Q9s{n}(h:1<=n/\n<=1099511627776):Xf n=n:=by unfold Xf;omega
theorem Qj8{t width}(b:1<=width)(h:-4398046511104<=t/\t<=4398046511104):-4398046511104<=t/width/\t/width<=4398046511104:=by
 constructor
 .rw[Int.le_ediv_iff_mul_le Om];have:-4398046511104*width <= -4398046511104*1:=Int.mul_le_mul_of_nonpos_left Om Om;omega
 .rcases Int.lt_or_le t 0 with a|a
  .have:=Int.ediv_neg_of_neg_of_pos a (show 0<width by omega);omega
  .have:=Zcx width a;omega
theorem Qqd{w T}(person):∀{D:List (Ev×SV)} {rs:List Row},Qfx w T D rs->Qfx w T (X3 D person) (rowsOf rs person)
 |[],rs,h=>by
  have:rs=[]:=by have:=h.len;simpa using this.symm
  subst this;exact h
 |d::D,[],h=>by have:=h.len;simp at this
 |d::D,e::rs,h=>by
  have f:=h.ev 0 d e rfl rfl;have j:Qfx w T D rs:=⟨by have:=h.len;simpa using this,fun i d e a b=>h.ev (i+1) d e a b⟩;have c:=Qqd person j;unfold X3 rowsOf at*;simp only[Zau,f.1];split
  .refine⟨by simp[c.len],fun i g k a b=>?_⟩
   cases i with
   |zero =>
    simp at a b;subst a;subst b;exact f
   |succ i=>exact c.ev i g k (Su a) (Su b)
  .exact c
theorem Qfx.ext{w w1 T D rs}(h:Qfx w T D rs)(l:∀k,T k->k<w.heap.size)(hx:Ext w w1):Qfx w1 T D rs:=
 ⟨h.len,fun i d j f g=>by
  obtain⟨a,b,c,e⟩:=h.ev i d j f g;exact⟨a,b,c.ext hx,e⟩⟩
theorem Qcu{w w1 a T}(hx:Ext w w1)(c:∀k,T k->w.heap.size<=k)(b:Mod T w1 a):Ext w a:=
 (Qn (Mod.of_ext (S:=fun _=>False) hx) (b.mono fun k _ d=>.inr (c k d))).ext fun _ _ h=>h
def Qhd(c:Cfg)(z:List Ev):List Sn:=Qky (Q9m c.gap) (Qi3 (z.filter wpB))
def Xmy(c:Cfg)(z:List Ev)(person item:Bj):Int:=1048576*(Qnb (Qhd c z) item (Qfs z person)).1/(Qnb (Qhd c z) item (Qfs z person)).2
def Qnd(z:List Ev)(item:Bj)(now:Int):It:=Qu9 item ((Qm z).filter (thQ item now))
def Qjm(c:Cfg)(now:Int):Int:=now-now.tmod (Xf c.width)
