import Derived.Test.YtnpacgccajekgaaGreatDoorGZA
import Derived.Test.YtnpacgccajekgaaGreatDoorGYF
import Derived.Test.YtnpacgccajekgaaGreatDoorGXE
set_option linter.all false
namespace Go.Proofs.YtnpacgccajekgaaGreatDoor
open Go.Se Go.RowKit Go.Sort
structure Ch where
 item:Bj
 maker:Bj
 tags:Bj
 score:Int
deriving DecidableEq
def chC(x:Ch):List Value:= [.string x.item,.string x.maker,.string x.tags,Vj x.score]
theorem Qli(x):(chC x).length=4:=rfl
theorem Qsw(x):∀u∈chC x,u.oneCell'=true:=by
 intro u a;simp[chC]at a;rcases a with rfl|rfl|rfl|rfl<;>rfl
def Qja(a b:Ch):Int:=orL [Qc5 b.score a.score,Qcp a.item b.item,Qcp a.maker b.maker,Qcp a.tags b.tags]
theorem Qv3:Qja=Qva (fun a b:Ch=>Qc5 b.score a.score) (Qva (fun a b:Ch=>Qcp a.item b.item) (Qva (fun a b:Ch=>Qcp a.maker b.maker) (fun a b:Ch=>Qcp a.tags b.tags))):=by
 funext a b;unfold Qja Qva orL
 by_cases c:Qc5 b.score a.score=0
 .by_cases d:Qcp a.item b.item=0
  .by_cases e:Qcp a.maker b.maker=0
   .by_cases f:Qcp a.tags b.tags=0<;>simp[c,d,e,f]
   .simp[c,d,e]
  .simp[c,d]
 .simp[c]
theorem Qsz:WC Qja:=by
 rw[Qv3];exact(WC.flip (Q3x fun x:Ch=>x.score)).lex ((Qjt fun x:Ch=>x.item).lex ((Qjt fun x:Ch=>x.maker).lex (Qjt fun x:Ch=>x.tags)))
theorem Xeo{a b}(h:ltOf Qja a b=false)(k:ltOf Qja b a=false):a=b:=by
 have e:Qja a b=0:=(by unfold ltOf at h k;simp only[decide_eq_false_iff_not]at h k;have:=Qsz.anti b a;omega);rw[Qv3]at e;unfold Qva at e
 have d:Qc5 b.score a.score=0:=by
  by_cases c:Qc5 b.score a.score=0
  .exact c
  .rw[if_pos c]at e;exact absurd e c
 rw[if_neg Om]at e
 have f:Qcp a.item b.item=0:=by
  by_cases c:Qcp a.item b.item=0
  .exact c
  .rw[if_pos c]at e;exact absurd e c
 rw[if_neg Om]at e
 have g:Qcp a.maker b.maker=0:=by
  by_cases c:Qcp a.maker b.maker=0
  .exact c
  .rw[if_pos c]at e;exact absurd e c
 rw[if_neg Om]at e
 have i:a.score=b.score:=by
  unfold Qc5 at d;split at d
  .omega
  .split at d<;>omega
 cases a;cases b;simp only at*;rw[Qb5.1 f,Qb5.1 g,Qb5.1 e,i]
def Qg4(r:List Ch)(x:Ch):List Ch:=if x.item∈r.map (·.item) then r else r++[x]
def Qpx(l:List Ch):List Ch:=(Qh7 (ltOf Qja) l).foldl Qg4 []
theorem Xlz{r l:List Ch}{x}(h:x∈l.foldl Qg4 r):x∈r\/x∈l:=by
 induction l generalizing r with
 |nil=>exact .inl h
 |cons y l a =>
  rcases a h with h|h
  .unfold Qg4 at h;split at h
   .exact .inl h
   .rcases Zj.1 h with h|h
    .exact .inl h
    .exact .inr (Zr.2 (.inl (Zl.1 h)))
  .exact .inr (Za3 _ h)
theorem Xhr(r l:List Ch):(l.foldl Qg4 r).length<=r.length+l.length:=by
 induction l generalizing r with
 |nil=>simp
 |cons y l a =>
  refine Zw (a _) ?_;unfold Qg4;split
  . (simp)<;>omega
  . (simp)<;>omega
theorem Q3f{l x}(h:x∈Qpx l):x∈l:=by
 rcases Xlz h with h|h
 .cases h
 .exact(Qbs _ _).mem_iff.1 h
theorem Q3e(l):(Qpx l).length<=l.length:=by
 have:=Xhr [] (Qh7 (ltOf Qja) l);rw[(Qbs (ltOf Qja) l).length_eq]at this;simpa [Qpx] using this
abbrev Mk:=Bool×Bj
def mkC(m:Mk):List Value:= [.bool m.1,.string m.2]
def mkV(m:Mk):Value:= .agg #[.bool m.1,.string m.2]
theorem Q0a(m):(mkC m).length=2:=rfl
theorem Xjm{a b}(h:mkV a=mkV b):a=b:=by
 obtain⟨a1,a2⟩:=a;obtain⟨c,d⟩:=b;simpa [mkV] using h
instance memDecM(a:Mk)(l:List Mk):Decidable (a∈l):=decidable_of_iff (l.any (fun b=>decide (b=a))=true) (by simp)
def Qi1(l:List Mk)(t:Bj):List Mk:=if t≠⟨#[]⟩/\(true,t)∉l then l++[(true,t)] else l
def Qg3(x:Ch):List Mk:=(Qab 44 x.tags).foldl Qi1 (if x.maker≠⟨#[]⟩ then [(false,x.maker)] else [])
theorem Xhj(l)(ts:List Bj):(ts.foldl Qi1 l).length<=l.length+ts.length:=by
 induction ts generalizing l with
 |nil=>simp
 |cons t ts a =>
  refine Zw (a _) ?_;unfold Qi1;split
  . (simp)<;>omega
  . (simp)<;>omega
structure Caps where
 size:Int
 maker:Int
 tag:Int
def Qy1(c:Caps):List Value:= [Vj c.size,Vj c.maker,Vj c.tag]
def Qlm(c:Caps)(T:List (Mk×Int))(m:Mk):Bool:=decide (1<=(if m.1=true then c.tag else c.maker))&&decide ((if m.1=true then c.tag else c.maker)<=(Qe T m).getD 0)
def Qg6(T:List (Mk×Int))(m:Mk):List (Mk×Int):=Xe T m ((Qe T m).getD 0+1)
def Qeb(c:Caps)(s:List Ch×List (Mk×Int))(x:Ch):List Ch×List (Mk×Int):=
 if c.size<=(s.1.length:Int) then s
 else if(Qg3 x).any (Qlm c s.2)=true then s
 else(s.1++[x],(Qg3 x).foldl Qg6 s.2)
def Qkx(c:Caps)(l:List Ch):List Ch:=((Qpx l).foldl (Qeb c) ([],[])).1
theorem Xco{c s}(h:c.size<=(s.1.length:Int)):∀l:List Ch,l.foldl (Qeb c) s=s
 |[]=>rfl
 |x::l=>by
  rw[Zaq];have:Qeb c s x=s:=by unfold Qeb;rw[if_pos h]
  rw[this];exact Xco h l
theorem Xcq(c):∀(l:List Ch) (s:List Ch×List (Mk×Int)),∃k,(l.foldl (Qeb c) s).1=s.1++k/\k.Sublist l
 |[],s=>⟨[],by simp,List.Sublist.slnil⟩
 |x::l,s=>by
  rw[Zaq];obtain⟨k,a,b⟩:=Xcq c l (Qeb c s x)
  by_cases hx:(Qeb c s x).1=s.1
  .exact⟨k,by rw[a,hx],b.cons _⟩
  .have:(Qeb c s x).1=s.1++[x]:=by
    unfold Qeb at hx⊢;split at hx
    .exact absurd rfl hx
    .rename_i d;rw[if_neg d];split at hx
     .exact absurd rfl hx
     .rename_i e;rw[if_neg e]
   exact⟨x::k,by rw[a,this];simp,b.cons_cons _⟩
theorem Qxr(c l):(Qkx c l).Sublist (Qpx l):=by
 obtain⟨k,a,b⟩:=Xcq c (Qpx l) ([],[]);unfold Qkx;rw[a];simpa using b
theorem Xcs{c l x}(h:x∈Qkx c l):x∈l:=Q3f ((Qxr c l).subset h)
theorem Qxq(c l):(Qkx c l).length<=l.length:=Zw (Qxr c l).length_le (Q3e l)
def Qg7(r:List Bj)(s:Bj):List Bj:=if s∈r then r else r++[s]
def Qbx(l:List Bj):List Bj:=l.foldl Qg7 []
theorem Xmd{r l:List Bj}{x}(h:x∈l.foldl Qg7 r):x∈r\/x∈l:=by
 induction l generalizing r with
 |nil=>exact .inl h
 |cons y l a =>
  rcases a h with h|h
  .unfold Qg7 at h;split at h
   .exact .inl h
   .rcases Zj.1 h with h|h
    .exact .inl h
    .exact .inr (Zr.2 (.inl (Zl.1 h)))
  .exact .inr (Za3 _ h)
theorem Xh4(r l:List Bj):(l.foldl Qg7 r).length<=r.length+l.length:=by
 induction l generalizing r with
 |nil=>simp
 |cons y l a =>
  refine Zw (a _) ?_;unfold Qg7;split
  . (simp)<;>omega
  . (simp)<;>omega
theorem Ql9{l x}(h:x∈Qbx l):x∈l:=by
 rcases Xmd h with h|h
 .cases h
 .exact h
theorem Qgk(l):(Qbx l).length<=l.length:=by
 have:=Xh4 [] l;simpa [Qbx] using this
def Q4n(f:Bj->Int)(a b:Bj):Int:=orL [Qc5 (f a) (f b),Qcp a b]
theorem Q19(f):Q4n f=Qva (fun a b=>Qc5 (f a) (f b)) (fun a b=>Qcp a b):=by
 funext a b;unfold Q4n Qva orL
 by_cases c:Qc5 (f a) (f b)=0
 .by_cases d:Qcp a b=0<;>simp[c,d]
 .simp[c]
theorem Qs0(f):WC (Q4n f):=by
 rw[Q19];exact(Q3x f).lex (Qjt fun x:Bj=>x)
theorem Xit{f a b}(h:ltOf (Q4n f) a b=false)(k:ltOf (Q4n f) b a=false):a=b:=by
 have e:Q4n f a b=0:=(by unfold ltOf at h k;simp only[decide_eq_false_iff_not]at h k;have:=(Qs0 f).anti b a;omega);rw[Q19]at e;unfold Qva at e;split at e
 .rename_i c;exact absurd e c
 exact Qb5.1 e
def Qnc(seed:Int)(s:Bj):Int:=hash seed [s]
def Qgx(seed:Int)(l:List Bj):List Bj:=Qh7 (ltOf (Q4n (Qnc seed))) (Qbx l)
abbrev MxS:=List Bj×List Bj×List Bj
def Qhu(every:Int)(s:MxS)(i:Nat):MxS:=
 if 1<=every/\((i:Int)+1).tmod every=0/\s.2.2≠[] then(s.1++[s.2.2.headD ⟨#[]⟩],s.2.1,s.2.2.tail)
 else(s.1++[s.2.1.headD ⟨#[]⟩],s.2.1.tail,s.2.2)
def Xjk(seed:Int)(a other:List Bj)(every:Int):List Bj:=
 ((List.range (Qbx a).length).foldl (Qhu every) ([],Qbx a,(Qgx seed other).filter fun s=>decide (s∉Qbx a))).1
theorem Q21(every F D):∀k,k<=F.length->let s:=(List.range k).foldl (Qhu every) ([],F,D);s.1.length=k/\(∀x∈s.1,x∈F\/x∈D)/\s.2.1 <:+ F/\s.2.2 <:+ D/\F.length<=s.2.1.length+k
 |0,_=>⟨rfl,by simp,List.suffix_refl _,List.suffix_refl _,by simp⟩
 |k+1,i=>by
  obtain⟨c,e,a,b,g⟩:=Q21 every F D k Om;rw[Zch,Zv];simp only[Zaq,List.foldl_nil];generalize (List.range k).foldl (Qhu every) ([],F,D)=s at c e a b g;obtain⟨j,f,d⟩:=s;simp only at c e a b g;unfold Qhu;split
  .rename_i h;simp only
   cases d with
   |nil=>exact absurd rfl h.2.2
   |cons y d =>
    refine⟨by simp[c],fun x hx=>?_,a,(List.suffix_cons y d).trans b,Om⟩;rcases Zj.1 hx with hx|hx
    .exact e x hx
    .have:x=y:=Su hx;exact .inr (this▸b.subset (Za7 ..))
  .simp only
   cases f with
   |nil=>simp at g;omega
   |cons y f =>
    refine⟨by simp[c],fun x hx=>?_,(List.suffix_cons y f).trans a,b,by simp at g⊢;omega⟩;rcases Zj.1 hx with hx|hx
    .exact e x hx
    .have:x=y:=Su hx;exact .inl (this▸a.subset (Za7 ..))
theorem Xjl{seed a other every x}(h:x∈Xjk seed a other every):x∈a\/x∈other:=by
 have:=(Q21 every (Qbx a) ((Qgx seed other).filter fun s=>decide (s∉Qbx a)) _ (Zf _)).2.1 x h;rcases this with h|h
 .exact .inl (Ql9 h)
 .exact .inr (Ql9 ((Qbs _ _).mem_iff.1 (Ze.1 h).1))
theorem Xaz(seed a other every):(Xjk seed a other every).length=(Qbx a).length:=
 (Q21 every (Qbx a) ((Qgx seed other).filter fun s=>decide (s∉Qbx a)) _ (Zf _)).1
def Qrz(b:Int)(a:List (LK×Bool))(person:Bj)(h:List Ev):List (Bj×Bool):=
 h.foldl (fun m e=>if e.kind=b/\(Qe a (person,e.text)).getD false=true then Xe m e.text true else m) []
theorem Qkh(b a person h e):Qrz b a person (h++[e])=if e.kind=b/\(Qe a (person,e.text)).getD false=true then Xe (Qrz b a person h) e.text true else Qrz b a person h:=by unfold Qrz;rw[Zv];rfl
theorem Xfg(i f person x):∀h:List Ev,x∈(Qrz i f person h).map (·.1)↔∃e∈h,e.kind=i/\e.text=x/\(Qe f (person,x)).getD false=true:=by
 refine Qw (by simp[Qrz]) fun h e g=>?_
 rw[Qkh];split
 .next d =>
  rw[Qeq];constructor
  .intro hx
   have:x=e.text\/x∈(Qrz i f person h).map (·.1):=by
    split at hx
    .exact .inr hx
    .rcases Zj.1 hx with hx|hx
     .exact .inr hx
     .exact .inl (Su hx)
   rcases this with rfl|hx
   .exact⟨e,by simp,d.1,rfl,d.2⟩
   .obtain⟨y,a,b⟩:=g.1 hx;exact⟨y,by simp[a],b⟩
  .rintro ⟨y,a,b,rfl,c⟩;rcases Zj.1 a with a|a
   .have:=g.2 ⟨y,a,b,rfl,c⟩;split
    .exact this
    .exact Zj.2 (.inl this)
   .have a:y=e:=Su a;subst a;split
    .assumption
    .simp
 .next d =>
  rw[g];constructor
  .rintro ⟨y,a,b⟩;exact⟨y,by simp[a],b⟩
  .rintro ⟨y,a,b,rfl,c⟩;rcases Zj.1 a with a|a
   .exact⟨y,a,b,rfl,c⟩
   .have a:y=e:=Su a;subst a;exact absurd ⟨b,c⟩ d
def Xmn(b:Int)(a:List (LK×Bool))(person:Bj)(h:List Ev):List Bj:=Xh ((Qrz b a person h).map (·.1))
def Q7x(rs:List Row)(person:Bj):List Bj:=Xmn 9 (Xk rs).mutes person (hist (evs rs) person)
def Qwm(rs:List Row)(person:Bj):List Bj:=Xmn 7 (Xk rs).follows person (hist (evs rs) person)
structure Fct where
 it:It
 now:Int
 age:Int
 fans:Int
 follows:Bool
 done:Bool
def Qrm(f:Fct):List Value:=itC f.it++[Vj f.now,Vj f.age,Vj f.fans,.bool f.follows,.bool f.done]
def Qho(c:Cfg)(z:List Ev)(person item:Bj)(now:Int):Fct:=
 ⟨Qdd z item now,now,if Qmi z item now=true then IntKind.i64.wrap (now-(Qdd z item now).born) else 0,Qka (Qi c.width z).rs item,
  if Qmi z item now=true then decide ((Qdd z item now).maker∈Qwm (Qi c.width z).rs person) else false,Qjd (Qi c.width z).rs person item⟩
def Qvd(c:Cfg)(z:List Ev)(person item:Bj)(now:Int):List Bool:=
 let f:=Qho c z person item now
 let rs:=(Qi c.width z).rs
 [!f.it.listed,decide (f.it.stock=0),Q7w rs person item||decide (f.it.maker∈Q7x rs person),f.done,decide (f.fans<c.crowd)&&decide (c.span<f.age),!decide (0<f.it.stock)]
def Q3y(c:Cfg)(z:List Ev)(person item:Bj)(now:Int):Nat:=match (Qvd c z person item now).findIdx? (· == true) with
 |none=>0
 |some a=>a+1
def chF(c:Cfg)(z:List Ev)(a:Nat->Int)(person:Bj)(now:Int)(item:Bj):Ch:=⟨item,(Qdd z item now).maker,(Qdd z item now).tags,Qqq (Qvc (Xbu c z person item now) a 6)⟩
def Q7s(c:Cfg)(z:List Ev)(a:Nat->Int)(person:Bj)(now b:Int):List Ch:=((Qit c z person now b).filter fun x=>decide (Q3y c z person x now=0)).map (chF c z a person now)
end Go.Proofs.YtnpacgccajekgaaGreatDoor
namespace Go.Proofs.YtnpacgccajekgaaGreatDoor
open Go.Se Go.RowKit
theorem Q5x(w S p half rs)(h:X7 w S p half rs)(ar:∀r∈rs,Xy r.1=true)(bj:rs.length<1000000)(person:Bj) :
 Cal Tryz.prog 119 [Pj p,.string person] w fun r w'=>∃A c,r=.slice A (Xh ((Qrz 9 (Xk rs).mutes person (hist (evs rs) person)).map (·.1))).length c/\Own Qac 1 9 w.heap.size w' A c (Xh ((Qrz 9 (Xk rs).mutes person (hist (evs rs) person)).map (·.1)))/\Ext w w':=by
 obtain⟨ah,b,D,L,bd,be,h⟩:=h;have H:=Qlo h.tags person;have ay:=(h.rows.own person).1;have a0:=ay.sl Qf1;have an:=h.maps.mutes;have bi:(X3 D person).length<=rs.length:=(by rw[<- h.tags.len];exact Zc _ _);have aw:∀e∈hist (evs rs) person,Xy e=true:=fun e E=>(by obtain⟨r,az,rfl⟩:=Zh.1 (Ze.1 E).1;exact ar r az)
 have av:∀d∈X3 D person,Xy d.1=true:=fun d C=>aw _ (by rw[<- H];exact Zh.2 ⟨d,C,rfl⟩)
 rw[<- H];refine Fi Tryz.func119 rfl _ rfl rfl (Hh ?_);refine⟨.map (some b.mutes),h.head.one rfl,Gg ?_⟩;refine Cal.mono (R:=fun r w'=>∃A c,r=.slice A (Xh ((Qrz 9 (Xk rs).mutes person ((X3 D person).map (·.1))).map (·.1))).length c/\Own Qac 1 9 w.heap.size w' A c (Xh ((Qrz 9 (Xk rs).mutes person ((X3 D person).map (·.1))).map (·.1)))/\Ext w w') ?_ ?_
 rotate_left
 .rintro _ O ⟨A,c,rfl,aj,B⟩;refine Gg ?_;exact⟨A,c,rfl,aj,B⟩
 refine Fi Tryz.func186 rfl _ rfl rfl (Hh ?_);intro n O K;refine Gg ?_;have au:MapAt O n Value.string []:=MapAt.new K;have l:=K.ext;have bg:=K.block;refine⟨.map (some ah),(h.head.ext l).one rfl,Gg ?_⟩;have Z:=h.rows.look Qgj Xd (e:=ty281) ty281_ok rfl person (cl:= .ext) (Qii h.rows.map.lt);refine⟨_,fun w' a4=>(by cases a4;exact Z O l),Gg ?_⟩;clear Z H;generalize (Xk rs).mutes=f at*;generalize X3 D person=row at*;generalize (rowAt L person).1=A at*;generalize (rowAt L person).2=c at*
 refine Qh Qb (fun(q:Nat×List (Bj×Bool)) w'=>q.1<=row.length/\Ext w w'/\q.2=Qrz 9 f person ((row.take q.1).map (·.1))/\MapAt w' n Value.string (Xj Value.bool q.2))
  (fun|(k,_)=>[(1,.string person),(2,Vj 9),(3,.map (some b.mutes)),(9,.map (some n)),(18,.slice A row.length c),(19,Vj row.length),(20,Vj k)]) (fun q=>row.length-q.1) (0,[]) ⟨by simp,l,rfl,au⟩ Rr ?_
 rintro ⟨k,m⟩ ac ⟨ao,v,i,I⟩;simp only at ao i I;refine Gg ?_;constructor
 .intro u;have u:k<row.length:=Su u;obtain⟨a,ak,P⟩:=(a0.ext v).get u;subst ak;have j:Qrz 9 f person ((row.take (k+1)).map (·.1))=if(row[k]).1.kind=9/\(Qe f (person,(row[k]).1.text)).getD false=true then Xe m (row[k]).1.text true else m:=(by rw[Za u,Zp,Zm,Zbk,Qkh,<- i])
  generalize row[k]=d at P j;refine Gg ?_;refine⟨a,Ix,Gg ?_⟩;refine⟨Qg8 d,⟨rfl,P⟩,Gg ?_⟩;intro ag bb M;refine Gg ?_;refine Qc Qb (e:=ty280) rfl M.At rfl rfl rfl (Qf2 _) fun z o Y=>?_
  have bh:=M.block;have ab:Ext ac z:=Y.ext M.ext Om;have s:Ext w z:=v.trans ab;have V:=I.ext ab;have o:At z ag 280 (Qg8 d):=o;clear Y;refine Gg ?_;refine⟨Vj d.1.kind,o.one rfl,Gg ?_⟩;refine⟨.string d.1.text,fun _=>o.one rfl,Gg ?_⟩;have U:=X5 Qiu Qbe (e:=ty4) ty4_ok (cl:= .same) Qs (an.ext s) ((person,d.1.text):LK);have a8:(Qe (Xj Value.bool f) ((person,d.1.text):LK)).getD (ty4).zero=.bool ((Qe f (person,d.1.text)).getD false):=(by unfold Xj;rw[Qdx];cases Qe f (person,d.1.text)<;>rfl);rw[a8]at U;refine⟨_,fun _=>U,?_⟩;generalize (Qe f (person,d.1.text)).getD false=aa at j⊢;refine Gg ?_;constructor
  .intro g;have g:d.1.kind=9/\aa=true:=Su g;rw[if_pos g]at j;refine Gg ?_;refine⟨.string d.1.text,o.one rfl,Gg ?_⟩;refine Qx Qqh (Qr Xd) V d.1.text _ fun ae J ax=>?_
   have a5:Ext w ae:=ax.ext s Om
   have J:MapAt ae n Value.string (Xj Value.bool (Xe m d.1.text true)):=by
    have e:Xe (Xj Value.bool m) d.1.text (.bool true)=Xj Value.bool (Xe m d.1.text true):=by unfold Xj;rw[Qec]
    rw[<- e];exact J
   refine Gg ?_;refine⟨_,wrap_succ Om,Gg ?_⟩;exact⟨(k+1,Xe m d.1.text true),Sj,⟨Sj,a5,j.symm,J⟩,Rr⟩
  .intro g;have g:¬(d.1.kind=9/\aa=true):=Su g;rw[if_neg g]at j;refine Gg ?_;refine⟨_,wrap_succ Om,Gg ?_⟩;exact⟨(k+1,m),Sj,⟨Sj,s,j.symm,V⟩,Rr⟩
 .intro F;have F:row.length<=k:=Su F;rw[Zd F]at i;have aq:∀x∈m,x.1.size<=1000000:=(by intro x hx;have l:x.1∈m.map (·.1):=Zh.2 ⟨x,hx,rfl⟩;rw[i,Xfg]at l;obtain⟨e,E,_,B,_⟩:=l;obtain⟨d,C,rfl⟩:=Zh.1 E;have:=Qdn (av d C);rw[<- B];omega)
  have bk:m.length<=row.length:=by
   have:∀h:List Ev,(Qrz 9 f person h).length<=h.length:=by
    refine Qw (by simp[Qrz]) fun a9 e bl=>?_
    rw[Qkh];have:=Qcb e.text true (Qrz 9 f person a9);split<;>simp<;>omega
   have:=this (row.map (·.1));rw[<- i]at this;simpa using this
  rw[<- i];have a3:(Xj Value.bool m).map (·.1)=m.map (·.1):=by simp[Xj]
  refine Gg ?_;refine(Qlq (some n) ac).mono ?_;rintro _ bb ⟨rfl,al,N⟩;refine Gg ?_;refine(Qh8 al (I.ext N) (by intro x hx;obtain⟨y,a7,rfl⟩:=Zh.1 hx;exact aq y a7) (by simp[Xj];omega)).mono ?_;rintro _ z ⟨af,ai,rfl,W,s⟩;rw[a3]at W⊢;refine Gg ?_;exact⟨af,ai,rfl,Qhk W (Zw v.size N.size),v.trans (N.trans s)⟩
theorem Q98{z item now}(h:Qmi z item now=false):Qdd z item now=Qb0:=by
 unfold Qmi at h;unfold Qdd;unfold Xz at h⊢;split at h
 .split at h
  .rename_i a;simp[*]
  .cases h
 .simp[*]
theorem Xff(b a person):∀h:List Ev,(Qrz b a person h).length<=h.length:=by
 refine Qw (by simp[Qrz]) fun c e d=>?_
 rw[Qkh];have:=Qcb e.text true (Qrz b a person c);split<;>simp<;>omega
theorem Q2z(b a person h):(Xmn b a person h).length<=h.length:=by
 unfold Xmn;rw[Qcn,Zg];exact Xff b a person h
theorem Qwq(rs person):(hist (evs rs) person).length<=rs.length:=by
 refine Zw (Zc _ _) ?_;simp[evs]
def Xnp:Fct:=⟨Qb0,0,0,0,false,false⟩
theorem Qtb(f):∀u∈Qrm f,u.oneCell'=true:=by simp[Qrm,itC,Value.oneCell']
set_option maxHeartbeats 4000000 in
theorem Q45{w T p c z}(ax:WT w T p c z)(a0:Qqm c z)(person item:Bj)(now) :
 Cal Tryz.prog 116 [Pj p,.string person,.string item,Vj now] w fun r w'=>r=.agg (Qrm (Qho c z person item now)).toArray/\Ext w w':=by
 obtain⟨v,bm,i,_⟩:=ax;have bu:=a0.len;have a5:=Qet c.width z i.rise i.may;have bt:=Qxm c.width z;have a4:∀r∈(Qi c.width z).rs,Xy r.1=true:=fun r a3=>(a5 r a3).1
 refine Fi Tryz.func116 rfl _ rfl rfl (Hh ?_);intro s bd l;have a:At bd s 218 (Qrm Xnp):=l.At;have bp:=l.block;have bw:=l.size;have J:=l.ext;clear l;refine Gg ?_;refine(Qad (i.ext J)).mono ?_;rintro _ an ⟨pw,aq,rfl,V,L⟩;refine Gg ?_;refine(Qwj an aq pw _ _ V item).mono ?_;rintro _ an ⟨rfl,rfl⟩;refine Gg ?_;have H:=J.trans L;refine(Qad (i.ext H)).mono ?_;rintro _ bi ⟨a9,ar,rfl,W,M⟩;refine Gg ?_;refine(Qwg bi ar a9 _ _ W person item).mono ?_;rintro _ bj ⟨rfl,N⟩;refine Gg ?_;have I:=H.trans (M.trans N);replace a:=a.ext (L.trans (M.trans N));clear V W L M N H J;intro k w5 m;refine Gg ?_;refine Qc Qb (e:=ty218) rfl m.At rfl rfl rfl Oj fun ao f af=>?_
 have f:At ao k 218 (Qrm ⟨Qb0,now,0,Qka (Qi c.width z).rs item,false,Qjd (Qi c.width z).rs person item⟩):=f;have bq:=m.block;have bx:=I.size;have O:Ext bj ao:=af.ext m.ext (by rw[m.block];exact Zf _);have b:=I.trans O;have bv:=a.lt;replace a:=a.ext O;clear af m O I;refine Gg ?_;refine(Xo (i.ext b)).mono ?_;rintro _ bk ⟨pc,av,rfl,Z,aj⟩;refine Gg ?_;refine(Xa bk av pc _ Z item now i.rows).mono ?_;rintro _ bl ⟨rfl,ak⟩;have ab:(Xz (Qm z) item now).1=Qdd z item now:=rfl;have ac:(Xz (Qm z) item now).2=Qmi z item now:=rfl;rw[ab,ac];have aa:Qho c z person item now=⟨Qdd z item now,now,if Qmi z item now=true then IntKind.i64.wrap (now-(Qdd z item now).born) else 0,Qka (Qi c.width z).rs item,if Qmi z item now=true then decide ((Qdd z item now).maker∈Qwm (Qi c.width z).rs person) else false,Qjd (Qi c.width z).rs person item⟩:=rfl;rw[aa];have E:=Q98 (z:=z) (item:=item) (now:=now);generalize Qdd z item now=it at E⊢;generalize Qmi z item now=is at E⊢;have A:=aj.trans ak;replace a:=a.ext A;replace f:=f.ext A;replace b:=b.trans A;have b1:=f.lt;clear Z aj ak A ab ac aa;refine Gg ?_;intro U b0 n;refine Gg ?_;refine Qc Qb (e:=ty152) rfl n.At rfl rfl rfl (by simp[Qg,itC,Value.oneCell']) fun al d ae=>?_
 have d:At al U 152 (itC it):=d;have bo:=n.block;have y:Ext bl al:=ae.ext n.ext (by rw[n.block];exact Zf _);replace a:=a.ext y;replace f:=f.ext y;replace b:=b.trans y;clear ae n y;refine Gg ?_;constructor
 .intro g;have g:is=false:=Su g;have a8:=E g;subst a8 g;refine Gg ?_;refine⟨Qrm ⟨Qb0,now,0,Qka (Qi c.width z).rs item,false,Qjd (Qi c.width z).rs person item⟩,⟨rfl,f.all⟩,Gg ?_⟩;refine Qc Qb (e:=ty218) rfl a rfl rfl rfl (Qtb _) fun P B j=>?_
  have B:At P s 218 (Qrm ⟨Qb0,now,0,Qka (Qi c.width z).rs item,false,Qjd (Qi c.width z).rs person item⟩):=B;refine Gg ?_;exact⟨_,⟨rfl,B.all⟩,by simp,j.ext b Om⟩
 intro g;have g:is=true:=Su g;subst g;refine Gg ?_;refine⟨itC it,⟨rfl,d.all⟩,Gg ?_⟩;refine Qc Qb (e:=ty152) rfl f rfl rfl rfl (by simp[Qg,itC,Value.oneCell']) fun P u j=>?_
 have u:At P k 218 (Qrm ⟨it,now,0,Qka (Qi c.width z).rs item,false,Qjd (Qi c.width z).rs person item⟩):=u;replace a:=j.at_ a Om;replace d:=j.at_ d Om;replace b:=j.ext b Om;clear j f;refine Gg ?_;refine⟨Vj it.born,d.one rfl,Gg ?_⟩;refine⟨_,rfl,Gg ?_⟩;refine Qc Qb (e:=ty3) rfl u rfl rfl rfl Oj fun o h x=>?_
 have h:At o k 218 (Qrm ⟨it,now,IntKind.i64.wrap (now-it.born),Qka (Qi c.width z).rs item,false,Qjd (Qi c.width z).rs person item⟩):=h;replace a:=x.at_ a Om;replace d:=x.at_ d Om;replace b:=x.ext b Om;clear x u;refine Gg ?_;refine Dr .ext [0,2,4,5,1,3] [6,7,8] (Hh ?_);replace a:At o.drew s _ _:=a;replace h:At o.drew k _ _:=h;replace d:At o.drew U _ _:=d;replace b:=b.drew;generalize o.drew=bz at a h d b⊢;refine⟨.string it.maker,d.one rfl,Hh ?_⟩;refine(Qad (i.ext b)).mono ?_;rintro _ be ⟨bb,au,rfl,Y,ah⟩;refine⟨ah,Hh ?_⟩;refine(Qji be au bb _ _ Y a4 Om person).mono ?_;rintro _ R ⟨S,aw,rfl,ag,ai⟩;refine⟨ai,Hh ?_⟩;have a7:SlT R S (Qwm (Qi c.width z).rs person):=ag.sl Qv;have ay:(Qwm (Qi c.width z).rs person).length<1000000:=(by have br:=Q2z 7 (Xk (Qi c.width z).rs).follows person (hist (evs (Qi c.width z).rs) person);have bs:=Qwq (Qi c.width z).rs person;unfold Qwm;omega);refine(Qa3 (Qwm (Qi c.width z).rs person) S aw it.maker R a7 ay).mono ?_;rintro _ R ⟨rfl,rfl⟩;refine Hh ?_;have K:=ah.trans ai;refine Qc Qb (e:=ty4) rfl (h.ext K) rfl rfl rfl Oj fun bg D F=>?_
 have D:At bg k 218 (Qrm ⟨it,now,IntKind.i64.wrap (now-it.born),Qka (Qi c.width z).rs item,decide (it.maker∈Qwm (Qi c.width z).rs person),Qjd (Qi c.width z).rs person item⟩):=D;replace a:=F.at_ (a.ext K) Om;replace b:=F.ext (b.trans K) Om;clear F h ag Y;refine Gg ?_;refine⟨_,⟨rfl,D.all⟩,Gg ?_⟩;refine Qc Qb (e:=ty218) rfl a rfl rfl rfl (Qtb _) fun bh C az=>?_
 have C:At bh s 218 (Qrm ⟨it,now,IntKind.i64.wrap (now-it.born),Qka (Qi c.width z).rs item,decide (it.maker∈Qwm (Qi c.width z).rs person),Qjd (Qi c.width z).rs person item⟩):=C;refine Gg ?_;exact⟨_,⟨rfl,C.all⟩,by simp,az.ext b Om⟩
theorem Xb8:Qle Tryz.prog 163 160 mkC 2 24:=⟨by kernel_rfl,⟨_,ty160_ok,rfl,rfl⟩,by160,by decide,by decide,Q0a,fun x=>by simp[mkC,Value.oneCell']⟩
theorem mkEq(a b ox oy):Qve Tryz.prog 160 ox oy (mkV a) (mkV b) (decide (a=b)):=by
 have h:=Qwi (ox:=ox) (oy:=oy) Qb st160 (xs:=mkC a) (ys:=mkC b) (b:=decide (a.1=b.1)&&(decide (a.2=b.2)&&true)) rfl;have e:(decide (a.1=b.1)&&(decide (a.2=b.2)&&true))=decide (a=b):=(by rw[Zc7];simp only[Zk,decide_eq_true_eq,Prod.ext_iff,and_true]);rw[e]at h;exact h
theorem Qwu(l A c x w)(B:Sl mkC 2 w A l)(D:l.length<1000000) :
 Cal Tryz.prog 191 [.slice A l.length c,mkV x] w fun r w'=>(∃i:Int,r=Vj i/\(decide (0<=i)=decide (x∈l)))/\Ext w w':=by
 refine Fi Tryz.func191 rfl _ rfl rfl (Hh ?_);intro o n j;have u:At n o 160 (mkC x):=j.At;have m:=j.ext;clear j;refine Gg ?_;refine Qh Qb (fun(k:Nat) w'=>k<=l.length/\x∉l.take k/\Ext n w') (fun k=>[(0,.slice A l.length c),(3,Pj o),(7,Vj l.length),(8,Vj (k:Nat))]) (fun k=>l.length-k) 0 ⟨Zt _,by simp,Ext.refl _⟩ Rr ?_;rintro k s ⟨C,g,b⟩;refine Gg ?_;constructor
 .intro e;have e:k<l.length:=Su e;refine Gg ?_;refine Dr .same [0,1,2,3,4,5] [] (Hh ?_);replace b:Ext n s.drew:=b.drew;generalize s.drew=E at b⊢;obtain⟨a,rfl,y⟩:=(B.ext (m.trans b)).get e;have v:=u.ext b;refine⟨mkC x,⟨rfl,v.all⟩,Hh ?_⟩;refine⟨a,Ix,Hh ?_⟩;refine⟨mkC l[k],⟨rfl,y⟩,Hh ?_⟩;refine⟨_,mkEq x l[k] _ _,Hh ?_⟩;constructor
  .intro d;have d:x=l[k]:=Su d;refine Gg ?_;refine⟨⟨(k:Nat),rfl,?_⟩,m.trans b⟩;have:x∈l:=by rw[d];exact Zu e
   simp[this]
  .intro d;have d:¬x=l[k]:=Su d;refine Gg ?_;refine⟨_,wrap_succ Om,Gg ?_⟩;refine⟨k+1,Om,⟨Om,?_,b⟩,Rr⟩;rw[Za e];intro z;rcases Zj.1 z with h|h
   .exact g h
   .exact d (Zl.1 h)
 .intro f;have f:l.length<=k:=Su f;rw[Zd f]at g;refine Gg ?_;refine⟨⟨-1,rfl,?_⟩,m.trans b⟩;simp[g]
theorem Qon(l A c x w)(j:Sl mkC 2 w A l)(h:l.length<1000000) :
 Cal Tryz.prog 133 [.slice A l.length c,mkV x] w fun r w'=>r=.bool (decide (x∈l))/\Ext w w':=by
 refine Fi Tryz.func133 rfl _ rfl rfl (Hh ?_);intro e d a;have f:At d e 160 (mkC x):=a.At;have b:=a.ext;clear a;refine Gg ?_;refine⟨mkC x,⟨rfl,f.all⟩,Gg ?_⟩;refine(Qwu l A c x d (j.ext b) h).mono ?_;rintro _ m ⟨⟨i,rfl,g⟩,k⟩;refine Gg ?_;exact⟨by rw[g],b.trans k⟩
theorem Qr5(s):(Qab 44 s).length<=s.size+1:=by
 have:=Qpt 44 s.data.toList;unfold Qab;rw[Zg];simpa using this
set_option maxHeartbeats 2000000 in
theorem Q5w(x w)(aj:Gl w)(bx:x.tags.size<1000) :
 Cal Tryz.prog 68 [.agg (chC x).toArray] w fun r w'=>∃A c,r=.slice A (Qg3 x).length c/\Own mkC 2 160 w.heap.size w' A c (Qg3 x)/\Ext w w':=by
 refine Fi Tryz.func68 rfl _ rfl rfl (Hh ?_);intro ah aq O;have n:At aq ah 98 (chC x):=O.At;have Z:=O.ext;clear O;refine Hh ?_;refine Xi Qb (ι:=Option Addr×Nat) (fun i=>[(1,Pj ah),(3,.slice i.1 (if x.maker≠⟨#[]⟩ then [((false,x.maker):Mk)] else []).length i.2)]) (fun i w'=>Ext aq w'/\Own mkC 2 160 w.heap.size w' i.1 i.2 (if x.maker≠⟨#[]⟩ then [(false,x.maker)] else [])) ?_ ?_
 .refine Gg ?_;refine⟨.string x.maker,n.one rfl,Gg ?_⟩;constructor
  .intro f;have f:x.maker≠⟨#[]⟩:=Su f;rw[if_pos f];refine Gg ?_;refine⟨.string x.maker,n.one rfl,Gg ?_⟩;intro bs ar R;refine Gg ?_;refine Qq Xb8 (l:= []) (news:= [(false,x.maker)]) rfl Own.nil rfl (Xb8.new1 (x:=(false,x.maker)) R) (by simp) (Z.trans R.ext).size fun av az bp bj bh bu=>?_
   refine Gg ?_;exact⟨(av,az),⟨Qu R.ext bh (fun k N=>by cases N),bj⟩,Rr⟩
  .intro f;have f:¬x.maker≠⟨#[]⟩:=Su f;rw[if_neg f];refine Gg ?_;exact⟨(none,0),⟨Ext.refl _,Own.nil⟩,Rr⟩
 rintro ⟨af,ay⟩ ar ⟨g,m⟩;simp only at m;unfold Qg3;have bb:(if x.maker≠⟨#[]⟩ then [((false,x.maker):Mk)] else []).length<=1:=by split<;>simp
 generalize (if x.maker≠⟨#[]⟩ then [((false,x.maker):Mk)] else [])=F at m bb⊢;replace n:=n.ext g;replace g:=Z.trans g;clear Z;refine Gg ?_;refine⟨.string x.tags,n.one rfl,Gg ?_⟩;refine(Qp8 x.tags ar (aj.ext g) Om).mono ?_;rintro _ bp ⟨E,a0,rfl,V,a7,aa⟩;have a5:∀b,af=some b->∀a,E=some a->b.block≠a.block:=fun b y a be=>by have:=(m.block y).2;have:=a7 a be;omega
 have bd:=Qr5 x.tags;generalize Qab 44 x.tags=P at V bd⊢;replace m:=m.ext aa;replace g:=g.trans aa;clear aa n;refine Gg ?_
 refine Qh Qb (fun(q:Nat×Option Addr×Nat×List Mk) w'=>q.1<=P.length/\Ext w w'/\q.2.2.2=(P.take q.1).foldl Qi1 F/\Own mkC 2 160 w.heap.size w' q.2.1 q.2.2.1 q.2.2.2/\(∀b,q.2.1=some b->∀a,E=some a->b.block≠a.block)/\SlT w' E P)
  (fun|(k,B,d,L)=>[(3,.slice B L.length d),(18,.slice E P.length a0),(19,Vj P.length),(20,Vj (k:Nat))]) (fun q=>P.length-q.1) (0,af,ay,F) ⟨Zt _,g,rfl,m,a5,V⟩ Rr ?_
 clear m V g;rintro ⟨k,B,d,L⟩ au ⟨N,ab,v,z,u,U⟩;simp only at N v z u;have bw:L.length<=1+k:=(by have:=Xhj F (P.take k);rw[<- v,Zn]at this;omega);refine Gg ?_;constructor
 .intro H;have H:k<P.length:=Su H;obtain⟨a,rfl,K⟩:=U.get H;have bo:=cell_lt (Qp (show Xq au (a.add (k*1)) [Value.string P[k]] from K));rw[add_block]at bo;have o:(P.take (k+1)).foldl Qi1 F=Qi1 L P[k]:=by rw[Za H,Zv,<- v];rfl
  generalize P[k]=t at K o;refine Gg ?_;refine⟨a,Ix,Gg ?_⟩;refine⟨.string t,Qp K,Gg ?_⟩;intro ax w5 I;refine Gg ?_;refine Qc Qb (e:=ty160) rfl I.At rfl rfl rfl Oj fun D s al=>?_
  have s:At D ax 160 (mkC (true,t)):=s;have ac:Ext au D:=al.ext I.ext (by rw[I.block];exact Zf _);clear al I;refine Gg ?_;refine⟨mkC (true,t),fun _=>⟨rfl,s.all⟩,Gg ?_⟩;refine⟨Unit,fun _=>(.bool (decide ((true,t)∈L))),fun _ w'=>Ext D w',(),fun aj=>((Qon L B d (true,t) D ((z.sl Q0a).ext ac) Om)).mono fun r w' h=>⟨(),h.1,h.2⟩,?_⟩;intro _ bq ai
  have ae:Ext D bq:=by
   rcases ai with⟨_,h⟩|⟨_,h⟩
   .exact h
   .rw[h];exact Ext.refl _
  clear ai;refine Hh ?_;have C:=ac.trans ae;have bl:=C.size;have a4:=s.ext ae;have S:=z.ext C;have ao:=U.ext C;have Y:=ab.trans C;clear ac ae C s z U ab;constructor
  .intro f;have f:t≠⟨#[]⟩/\(true,t)∉L:=Su f;have W:Qi1 L t=L++[(true,t)]:=by unfold Qi1;rw[if_pos f]
   rw[W]at o;refine Gg ?_;refine⟨mkC (true,t),⟨rfl,a4.all⟩,Gg ?_⟩;intro bt bz j;refine Gg ?_;refine Qq Xb8 (l:=L) (news:= [(true,t)]) rfl (S.ext j.ext) rfl (Xb8.new1 (x:=(true,t)) j) (by simp;omega) (Y.trans j.ext).size fun ag a3 br an ak a8=>?_
   have bm:=Qu (Y.trans j.ext) ak (Xm (S.ext j.ext))
   have bk:SlT br (some a) P:=Xp.stay (ao.ext j.ext) fun b y bi=>ak.block _ bi fun e=>by
    cases y
    cases f:B with
    |none=>rw[f]at e;simp at e
    |some b=>rw[f]at e;simp at e;exact u b f a rfl e.symm
   have a9:∀b,ag=some b->∀J,some a=some J->b.block≠J.block:=fun b y J bg=>by
    cases bg;subst y;rcases a8 with q|q|q
    .exact u b q.symm a rfl
    .cases f:B with
     |none=>rw[f]at q;simp at q
     |some b0=>rw[f]at q;simp at q;rw[q];exact u b0 f a rfl
    .simp at q;have:=j.size;have:=bl;omega
   generalize bv:L++[((true,t):Mk)]=aw at an o⊢;refine Gg ?_;refine⟨_,wrap_succ Om,Gg ?_⟩;exact⟨(k+1,ag,a3,aw),Sj,⟨Sj,bm,o.symm,an,a9,bk⟩,Rr⟩
  .intro f;have f:¬(t≠⟨#[]⟩/\(true,t)∉L):=(by intro h;have f:((!decide (t=⟨#[]⟩))&&!decide ((true,t)∈L))=false:=f;simp[h.1,h.2]at f);have W:Qi1 L t=L:=by unfold Qi1;rw[if_neg f]
   rw[W]at o;refine Gg ?_;refine⟨_,wrap_succ Om,Gg ?_⟩;exact⟨(k+1,B,d,L),Sj,⟨Sj,Y,o.symm,S,u,ao⟩,Rr⟩
 intro M;have M:P.length<=k:=Su M;rw[Zd M]at v;refine Gg ?_;rw[<- v];exact⟨B,d,rfl,z,ab⟩
