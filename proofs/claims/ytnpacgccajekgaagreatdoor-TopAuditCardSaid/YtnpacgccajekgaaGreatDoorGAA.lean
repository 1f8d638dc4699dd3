import Derived.Lib.Join
import Derived.Lib.Atoi
import Derived.Lib.ParseIntB
import Derived.Lib.Strings
import Derived.Lib.ConvBytes
import Derived.Lib.FrozenHead
import Derived.Laws.BytesString
import Derived.Test.YtnpacgccajekgaaGreatDoorGC
import Derived.Test.YtnpacgccajekgaaGreatDoorGZA
set_option linter.all false
namespace Go.Proofs.YtnpacgccajekgaaGreatDoor
open Go.Se Go.RowKit
structure Nt where
 off:Int
 now:Int
 person:Bj
 items:List Bj
structure En where
 nt:Nt
 sum:Int
def sumF(ahead:Int)(x:Nt):Int:=hash ahead ([Qd4 x.off.toNat,Qd4 x.now.toNat,x.person]++x.items)
def ntB(x:Nt):Bool:=decide (0<=x.off)&&decide (x.off<=1048576)&&decide (0<=x.now)&&decide (x.now<=1099511627776)&&Qo x.person&&decide (x.items.length<=1000)&&x.items.all Qo
def Qfo(a:Int):List Nt->List En
 |[]=>[]
 |x::b=>⟨x,sumF a x⟩::Qfo (sumF a x) b
def Qq0(a:Int)(l:List En):Int:=match l.getLast? with|some e=>e.sum|none=>a
theorem Qsx(a l):(Qfo a l).length=l.length:=by
 induction l generalizing a with
 |nil=>rfl
 |cons x l b=>simp[Qfo,b]
theorem Q2v(a e l):Qq0 a (e::l)=Qq0 e.sum l:=by
 unfold Qq0
 cases l with
 |nil=>rfl
 |cons y l=>rw[List.getLast?_cons_cons];cases h:(y::l).getLast? with
  |none=>simp at h
  |some z=>rfl
theorem Q17(a l x):Qfo a (l++[x])=Qfo a l++[⟨x,sumF (Qq0 a (Qfo a l)) x⟩]:=by
 induction l generalizing a with
 |nil=>rfl
 |cons y l b =>
  show _::Qfo (sumF a y) (l++[x])=_
  rw[b,show Qfo a (y::l)=⟨y,sumF a y⟩::Qfo (sumF a y) l from rfl,Q2v];rfl
theorem Q8v(a l):(Qfo a l).map (·.nt)=l:=by
 induction l generalizing a with
 |nil=>rfl
 |cons x l b=>simp[Qfo,b]
def Qu8(a:Int):List En->Nat
 |[]=>0
 |e::b=>if ntB e.nt=true/\e.sum=sumF a e.nt then Qu8 e.sum b+1 else 0
theorem Xiq(a l)(h:∀x∈l,ntB x=true):Qu8 a (Qfo a l)=l.length:=by
 induction l generalizing a with
 |nil=>rfl
 |cons x l c =>
  show Qu8 a (⟨x,sumF a x⟩::Qfo (sumF a x) l)=_
  unfold Qu8;rw[if_pos ⟨h x (Za7 ..),rfl⟩,c _ fun y b=>h y (Za3 _ b)];rfl
theorem Q8u(a l)(h:∀x∈l,ntB x=true)(k)(b:k<l.length)(f:Int->Int)(c:∀s,f s≠s):Qu8 a ((Qfo a l).modify k fun e=>⟨e.nt,f e.sum⟩)=k:=by
 induction l generalizing a k with
 |nil=>simp at b
 |cons x l g =>
  cases k with
  |zero =>
   show Qu8 a (⟨x,f (sumF a x)⟩::Qfo (sumF a x) l)=0
   unfold Qu8;rw[if_neg fun q=>c _ q.2]
  |succ k =>
   show Qu8 a (⟨x,sumF a x⟩::(Qfo (sumF a x) l).modify k _)=_
   unfold Qu8;rw[if_pos ⟨h x (Za7 ..),rfl⟩,g _ (fun y d=>h y (Za3 _ d)) k (Su b)]
theorem Qlz{c}:∀{x:List UInt8} {r:List (List UInt8)},(∀y∈x::r,∀u∈y,u≠c)->partsOf c (Lib.join (x::r) [c])=x::r
 |x,[],h=>by rw[Lib.join_one,Qin (h x (Za7 ..))]
 |x,y::r,h=>by
  have e:Lib.joinTail [c] (y::r)=c::Lib.join (y::r) [c]:=by rw[Lib.join_cons];simp[Lib.joinTail]
  rw[Lib.join_cons,e,Qko (h x (Za7 ..)),Qlz fun z a=>h z (Za3 _ a)]
theorem Qx2(c):∀(n:Nat) (s:Bj),s.size<=n->Lib.splitB ⟨#[c]⟩ 0 (Lib.countB s ⟨#[c]⟩) s=Qab c s:=by
 intro n
 induction n with
 |zero =>
  intro s e;have:s.data.toList=[]:=Zao.1 (Su e)
  have d:Lib.indexB s ⟨#[c]⟩=-1:=by
   show Lib.index s.data.toList [c]=-1
   rw[this,Lib.index_one];rfl
  rw[Lib.splitB_miss _ _ _ _ d];unfold Qab;rw[this];simp[partsOf,bytesOf];apply ByteArray.ext;apply Zci;simpa using this
 |succ n o =>
  intro s e
  have a:Lib.indexB s ⟨#[c]⟩=Lib.indexByte s.data.toList c:=by
   show Lib.index s.data.toList [c]=_
   rw[Lib.index_one]
  rw[Qo1]at a
  cases b:s.data.toList.findIdx? (· == c) with
  |none =>
   rw[b]at a;rw[Lib.splitB_miss _ _ _ _ a];unfold Qab;rw[Qin (fun x hx=>by rw[Zav]at b;have:=b x hx;simpa using this)];rfl
  |some i =>
   rw[b]at a;simp only at a;rw[Z9]at b;obtain⟨d,k,h⟩:=b;have r:i<s.size:=Su d;have f:(⟨#[c]⟩:Bj).size=1:=rfl;rw[Lib.countB_hit s _ i (by rw[f];decide) a,Zdc,Lib.splitB_hit _ _ _ _ _ a,f,o _ (by rw[Zcs];omega)];have l:s.data.toList=s.data.toList.take i++c::s.data.toList.drop (i+1):=(by have g:s.data.toList[i]=c:=Su k;rw[<- g];exact Qm4 d);unfold Qab
   conv=>rhs;rw[l]
   rw[Qko (fun x hx=>by
    obtain⟨j,m,rfl⟩:=Za2 hx;simp at m;have:=h j Om;simpa using this)]
   rw[Zm];congr 1
   .rw[Qgp];simp
   .rw[Qdu];rw[Zd (by simp)]
def Qqe(l:List Bj):List UInt8:=if l=[] then [46] else Lib.join (l.map (·.data.toList)) [44]
def Qsk(e:En):List (List UInt8):= [Lib.decDigits e.nt.off.toNat,Lib.decDigits e.nt.now.toNat,e.nt.person.data.toList,Qqe e.nt.items,Lib.decDigits e.sum.toNat]
def Qck(e:En):List UInt8:=Lib.join (Qsk e) [32]
def Qcv(seed:Int):List UInt8:= [97,117,100,105,116,32]++Lib.decDigits seed.toNat
def Q7u(seed:Int)(l:List En):List UInt8:=Qcv seed++10::l.flatMap fun e=>Qck e++[10]
theorem Q2f{n c}(h:c.toNat<48):∀u∈Lib.decDigits n,u≠c:=fun u a e=>by
 have:=(Qfz n u a).1;rw[e]at this;omega
theorem Xjn{s}(h:Qo s=true):∀x∈s.data.toList,Qfg x=true:=by
 unfold Qo at h;simp only[Zk]at h;exact fun x hx=>Zaa.1 h.2 x hx
theorem Qtw{s}(h:Qo s=true){c}(a:Qfg c=false):∀x∈s.data.toList,x≠c:=fun x hx e=>by
 have:=Xjn h x hx;rw[e,a]at this;cases this
theorem Qzy{c d}(b:d≠c):∀{l:List (List UInt8)},(∀y∈l,∀u∈y,u≠c)->∀u∈Lib.join l [d],u≠c
 |[],_,u,a=>by simp[Lib.join_nil]at a
 |x::g,h,u,a=>by
  rw[Lib.join_cons,Zj]at a;rcases a with a|a
  .exact h x (Za7 ..) u a
  .unfold Lib.joinTail at a;rw[List.mem_flatten]at a;obtain⟨y,e,a⟩:=a;obtain⟨z,f,rfl⟩:=Zh.1 e;rcases Zj.1 a with a|a
   .rw[Zl.1 a];exact b
   .exact h z (Za3 _ f) u a
theorem Xe9{l}(h:∀x∈l,Qo x=true){c}(f:Qfg c=false)(d:c≠46)(b:c≠44):∀u∈Qqe l,u≠c:=by
 unfold Qqe;split
 .intro u a e;rw[Zl.1 a]at e;exact d e.symm
 .exact Qzy b.symm fun y g u a=>(by obtain⟨x,hx,rfl⟩:=Zh.1 g;exact Qtw (h x hx) f u a)
theorem Qzx{l}(h:∀x∈l,Qo x=true)(a:l≠[])(c:Qfg 44=false):(partsOf 44 (Qqe l)).map bytesOf=l:=by
 unfold Qqe;rw[if_neg a]
 cases l with
 |nil=>exact absurd rfl a
 |cons x g =>
  rw[Zm,Qlz]
  .rw[<- Zm (f:=fun s:Bj=>s.data.toList),Zz];exact(Zbq fun y _=>Qvt y).trans (List.map_id _)
  .intro y b u d;rw[<- Zm (f:=fun s:Bj=>s.data.toList)]at b;obtain⟨z,e,rfl⟩:=Zh.1 b;exact Qtw (h z e) c u d
theorem Q3z{e}(h:Qo e.nt.person=true)(hi:∀x∈e.nt.items,Qo x=true){c}(a:c.toNat<48)(b:Qfg c=false)(g:c≠46)(f:c≠44):∀y∈Qsk e,∀u∈y,u≠c:=by
 intro y d;simp only[Qsk,Zr,Zcl,or_false]at d;rcases d with rfl|rfl|rfl|rfl|rfl
 .exact Q2f a
 .exact Q2f a
 .exact Qtw h b
 .exact Xe9 hi b g f
 .exact Q2f a
theorem Q5s{e}(b:Qo e.nt.person=true)(hi:∀x∈e.nt.items,Qo x=true)(a:Qfg 32=false):partsOf 32 (Qck e)=Qsk e:=
 Qlz (Q3z b hi (by decide) a (by decide) (by decide))
theorem Xji{e}(b:Qo e.nt.person=true)(hi:∀x∈e.nt.items,Qo x=true)(a:Qfg 10=false):∀u∈Qck e,u≠10:=
 Qzy (by decide) (Q3z b hi (by decide) a (by decide) (by decide))
theorem Xja(seed):∀u∈Qcv seed,u≠10:=by
 intro u a;unfold Qcv at a;rcases Zj.1 a with h|h
 .exact(by decide:∀u∈[97,117,100,105,116,32],u≠(10:UInt8)) u h
 .exact Q2f (by decide) u h
theorem Q9f{c}:∀{a b:List UInt8},(∀x∈a,x≠c)->(a++c::b).findIdx? (· == c)=some a.length
 |[],b,_=>by simp[List.findIdx?_cons]
 |x::a,b,h=>by
  have d:(x == c)=false:=by simpa using h x (Za7 ..)
  rw[Za1,List.findIdx?_cons,d,Q9f fun y e=>h y (Za3 _ e)];rfl
theorem Xk5{c a b}(h:∀x∈a,x≠c):Lib.cut (a++c::b) [c]=(a,b,true):=by
 have d:Lib.index (a++c::b) [c]=(a.length:Int):=by rw[Lib.index_one,Qo1,Q9f h]
 unfold Lib.cut;rw[d];simp
def Qb1(l:List En):List UInt8:=l.flatMap fun e=>Qck e++[10]
theorem Qh1(e l):Qb1 (e::l)=Qck e++10::Qb1 l:=by simp[Qb1]
theorem Q2j(seed l):Q7u seed l=Qcv seed++10::Qb1 l:=rfl
theorem Q3h{l}:Qb1 l=[]↔l=[]:=by
 cases l with
 |nil=>simp[Qb1]
 |cons e l=>rw[Qh1];simp
def Q4x(b:Nat)(l:List UInt8):Nat:=l.foldl (fun a c=>10*a+(c.toNat-48)) b
theorem Q89:∀(l:List UInt8) (a:Nat),a<=Q4x a l
 |[],a=>Zf _
 |c::l,a=>by
  have:=Q89 l (10*a+(c.toNat-48));show a<=Q4x (10*a+(c.toNat-48)) l
  omega
theorem Xhp:∀(l:List UInt8) (a:Nat),(∀c∈l,48<=c.toNat/\c.toNat<=57)->Q4x a l<=18446744073709551615->Lib.parseUintM 18446744073709551615 a l=.ok (Q4x a l)
 |[],a,_,_=>rfl
 |c::l,a,b,d=>by
  have e:=b c (Za7 ..);have f:Q4x a (c::l)=Q4x (a*10+(c.toNat-48)) l:=by unfold Q4x;rw[Zaq,Nat.mul_comm]
  have g:=Q89 l (a*10+(c.toNat-48));rw[f]at d⊢;unfold Lib.parseUintM;rw[if_pos e,if_neg Om,if_neg Om];exact Xhp l _ (fun x hx=>b x (Za3 _ hx)) d
theorem Xlu(u)(c:u<18446744073709551616):Lib.parseUintB 64 (Lib.decDigits u)=.ok u:=by
 have a:Q4x 0 (Lib.decDigits u)=u:=Qn2 u;unfold Lib.parseUintB;have b:Lib.decDigits u≠[]:=fun h=>Qzd u (by unfold Qd4;rw[h];rfl)
 rw[if_neg b,show (2:Nat)^64-1=18446744073709551615 by decide,Xhp _ _ (Qfz u) (by rw[a];omega),a]
theorem Xhh:∀(l:List UInt8) (a:Nat),(∀c∈l,48<=c.toNat/\c.toNat<=57)->Lib.decFrom a l=some (Q4x a l)
 |[],a,_=>rfl
 |c::l,a,b=>by
  have d:=b c (Za7 ..);have e:Q4x a (c::l)=Q4x (a*10+(c.toNat-48)) l:=by unfold Q4x;rw[Zaq,Nat.mul_comm]
  unfold Lib.decFrom Lib.digitVal;rw[if_pos d,e];exact Xhh l _ fun x hx=>b x (Za3 _ hx)
theorem Xee(u):Lib.atoi (Lib.decDigits u)=some (u:Int):=by
 have k:Lib.decDigits u≠[]:=fun h=>Qzd u (by unfold Qd4;rw[h];rfl)
 obtain⟨b,l,c⟩:=Zbs k;have a:=Qfz u b (by rw[c];exact Za7 ..);have f:Q4x 0 (Lib.decDigits u)=u:=Qn2 u;have d:=Xhh (Lib.decDigits u) 0 (Qfz u);rw[c]at f d⊢;unfold Lib.atoi
 dsimp only
 have g:(b == 45)=false:=(by rw[beq_eq_false_iff_ne];intro e;rw[e]at a;exact absurd a.1 (by decide));have i:(b == 43)=false:=(by rw[beq_eq_false_iff_ne];intro e;rw[e]at a;exact absurd a.1 (by decide));rw[g,i];simp only[Zal,if_false];have j:Lib.decNat (b::l)=some u:=(by unfold Lib.decNat;rw[d,f];rfl);rw[j];rfl
theorem Xdq(seed):Lib.trimPrefix (Qcv seed) [97,117,100,105,116,32]=Lib.decDigits seed.toNat:=by
 unfold Lib.trimPrefix;have h:Lib.hasPrefix (Qcv seed) [97,117,100,105,116,32]=true:=(by unfold Lib.hasPrefix Qcv;simp);rw[if_pos h];rfl
end Go.Proofs.YtnpacgccajekgaaGreatDoor
namespace Go.Proofs.YtnpacgccajekgaaGreatDoor
open Go.Se Go.RowKit Go.Lib
def byC(b:UInt8):Value:= .int .u8 b.toNat
theorem Q8m(s:Bj):strCells s=s.data.toList.map byC:=rfl
theorem Qc9(P g o t lo hi):∀(vs:List Value) (i:Nat) (a:Array Value) (w:World),w.heap[g]?=some (.cells a t (lo,hi))->(hi=0\/a.size<=lo)->o+i+vs.length<=a.size->(∀v∈vs,v.oneCell'=true) ->
 (storeCells ⟨g,o,none⟩ vs i).run P w=.ok () (w.setRow g (a.toList.take (o+i)++vs++a.toList.drop (o+i+vs.length)).toArray)
 |[],i,a,w,b,_,_,_=>by
  simp only[storeCells,Z4,Zae,Zcf,Zag,Array.toArray_toList];rw[setRow_self w g a t (lo,hi) b];rfl
 |v::f,i,a,w,b,l,c,d=>by
  have m:o+i<a.size:=by simp at c;omega
  have h:(⟨g,o,none⟩:Addr).add i=⟨g,o+i,none⟩:=by unfold Addr.add;split<;>simp_all
  have j:w.cell? ⟨g,o+i,none⟩=some a[o+i]:=by simp[World.cell?,b,m]
  have k:w.frozen? ⟨g,o+i,none⟩=false:=(by simp only[World.frozen?,b,Zb1,decide_eq_false_iff_not];omega);have n:(store ((⟨g,o,none⟩:Addr).add i) v).run P w=.ok () (w.setRow g (a.setIfInBounds (o+i) v)):=(by rw[h,run_store P w _ v _ (d v (by simp)),j];simp[k,setCell_eq_setRow w g (o+i) a t (lo,hi) v b]);have r:=Qc9 P g o t lo hi f (i+1) (a.setIfInBounds (o+i) v) (w.setRow g (a.setIfInBounds (o+i) v)) (setRow_heap w g a _ t _ b) (Su l) (by simp at c⊢;omega) (fun x hx=>d x (by simp[hx]));simp only[storeCells,Sem.run_bind,n,Result.andThen_ok,r,setRow_setRow];congr 3;have e:=list_seg_step a.toList (o+i) v f (by simp at c⊢;omega);simpa [Array.toList_setIfInBounds,Nat.add_assoc] using e
def OwnB(base:Nat)(w:World)(A:Option Addr)(c:Nat)(l:List UInt8):Prop:=
 (A=none/\c=0/\l=[])\/∃b a e d,A=some ⟨b,0,none⟩/\base<=b/\w.heap[b]?=some (.cells a 5 (e,d))/\(d=0\/a.size<=e)/\l.length<=c/\c<=maxLen/\a.size=c/\a.toList.take l.length=l.map byC
theorem OwnB.block{base w A c l}(h:OwnB base w A c l){a}(b:A=some a):base<=a.block/\a.block<w.heap.size:=by
 rcases h with⟨rfl,_⟩|⟨g,f,j,i,rfl,d,e,_⟩
 .cases b
 .obtain rfl:(⟨g,0,none⟩:Addr)=a:=Su b;exact⟨d,(Array.getElem?_eq_some_iff.1 e).1⟩
theorem OwnB.keep{base w w' A c l}(h:OwnB base w A c l)(i:∀a,A=some a->w'.heap[a.block]?=w.heap[a.block]?):OwnB base w' A c l:=by
 rcases h with h|⟨g,b,k,f,rfl,d,e,j⟩
 .exact .inl h
 .exact .inr ⟨g,b,k,f,rfl,d,(i _ rfl).trans e,j⟩
theorem OwnB.ext{base w w' A c l}(h:OwnB base w A c l)(hx:Ext w w'):OwnB base w' A c l:=h.keep fun a b=>hx.block _ (h.block b).2
theorem OwnB.cells{base w a c l}(h:OwnB base w (some a) c l)(j b)(f:l[j]?=some b):w.cell? (a.add j)=some (byC b):=by
 rcases h with⟨h,_⟩|⟨g,i,v,s,e,r,m,_,_,_,u,o⟩
 .cases h
 .injection e with e;subst e;have k:(⟨g,0,none⟩:Addr).add j=⟨g,j,none⟩:=by unfold Addr.add;split<;>simp_all
  have d:(i.toList.take l.length)[j]?=some (byC b):=by rw[o,Zaf,f];rfl
  have n:j<l.length:=(Zi.1 f).1;rw[Zbm,if_pos n]at d;rw[k];simp only[World.cell?,m];simpa using d
theorem Xej{base w}(s:Bj)(a:base<=w.heap.size)(f:s.size<=maxLen){R}
 (h:∀A c w',OwnB base w' A c s.data.toList->Ext w w'->R (.slice A s.size c) w'):Qi7 Tryz.prog (convert 9 22 (.string s)) w R:=by
 have g:=Go.Lib.run_convert_string_bytes (P:=Tryz.prog) w 9 22 5 s (u:= .string) Kr Kr Kr;refine⟨_,_,g,h _ _ _ ?_ ⟨rfl,rfl,rfl,?_,fun k d=>bytesWorld_at_old w _ s k d⟩⟩
 .have b:=grownCap_ge w s.size 0 5;have i:(bytesCells w 5 s).size=grownCap w s.size 0 5:=(by have e:s.data.size=s.size:=rfl;simp[bytesCells,e];omega);refine .inr ⟨w.heap.size,_,_,_,rfl,a,bytesWorld_at_new w _ s,.inr (Zf _),Su b,grownCap_le_maxLen w s.size 0 _ f,i,?_⟩;have e:s.data.toList.length=s.size:=by simp
  simp[bytesCells,byC,e]
 .rw[bytesWorld_size];omega
theorem Qxa{base}{w:World}{g c a lo hi l m}(d:base<=g)(i:w.heap[g]?=some (.cells a 5 (lo,hi)))(h:hi=0\/a.size<=lo)(f:c<=maxLen)(k:a.size=c)(n:a.toList.take l.length=l.map byC)(j:l.length+m.length<=c) :
 OwnB base (w.setRow g (a.toList.take l.length++m.map byC++a.toList.drop (l.length+m.length)).toArray) (some ⟨g,0,none⟩) c (l++m):=by
 have b:(a.toList.take l.length++m.map byC++a.toList.drop (l.length+m.length)).toArray.size=c:=(by simp only[Za4,Zo,Zn,List.length_drop,Array.length_toList,Zg];omega);refine .inr ⟨g,_,lo,hi,rfl,d,setRow_heap w g a _ _ _ i,?_,by rw[Zo];exact j,f,b,?_⟩
 .rw[b,<- k];exact h
 .rw[n,<- Zp];have e:(l++m).length=((l++m).map byC).length:=by simp
  rw[e];exact List.take_left
theorem Qnr{base}{w:World}{l m c}(a:base<=w.heap.size)(d:l.length+m.length<=c)(b:c<=maxLen) :
 OwnB base (w.drew.alloc (.cells ((l.map byC).toArray++(m.map byC).toArray++Builtin.zeroCells (Value.int .u8 0).cells (c-(l.length+m.length))) 5)) (some ⟨w.heap.size,0,none⟩) c (l++m):=by
 have f:(Value.int IntKind.u8 0).cells.size=1:=rfl;refine .inr ⟨w.heap.size,_,0,0,rfl,a,heap_alloc_new w.drew _,.inl rfl,by rw[Zo];exact d,b,?_,?_⟩
 .simp only[Array.size_append,Za4,Zg,size_zeroCells,f];omega
 .simp only[Array.toList_append];rw[<- Zp];have e:(l++m).length=((l++m).map byC).length:=by simp
  rw[e];exact List.take_left
theorem Xe7{w:World}(o row):w.grownBy (w.drew.alloc o) row:=⟨rfl,rfl,rfl,by simp,fun k a _=>by first|exact heap_alloc_old w.drew _ k a|exact heap_alloc_old w.drew _ a⟩
theorem Q8l(l:List UInt8):∀u∈l.map byC,u.oneCell'=true:=by
 intro u a;obtain⟨b,_,rfl⟩:=Zh.1 a;rfl
theorem Q39{base w A c l}(s:Bj){ty}(ae:OwnB base w A c l)(I:base<=w.heap.size)(ah:l.length+s.size<=1000000000){R}
 (h:∀E F w',OwnB base w' E F (l++s.data.toList)->w.grownBy w' (A.map (·.block))->R (.slice E (l++s.data.toList).length F) w') :
 Qi7 Tryz.prog (Builtin.append_ #[22,9] ty #[.slice A l.length c,.string s]) w R:=by
 have r:s.data.toList.length=s.size:=by simp
 obtain⟨i,_,n,_,W,_,ag,_⟩:=Xl ty5_ok;have C:i.size=1:=ag;have J:i.bytes=1:=by have:=by5;rw[n]at this;simpa using this
 have x:(Tryz.prog.underlying 22)=some (.slice 5):=by kernel_rfl
 have y:(Tryz.prog.underlying 9)=some .string:=by kernel_rfl
 have N:l.length+s.size<=maxLen:=by simp only[maxLen];omega
 rcases ae with⟨rfl,rfl,rfl⟩|⟨g,u,Y,L,rfl,H,B,z,ab,K,S,V⟩
 .by_cases M:s.size=0
  .have a:s.data.toList=[]:=Zan Om;have f:=run_firstCells_string (P:=Tryz.prog) w 1 s;rw[M]at f;refine⟨.slice none 0 0,w,?_,?_⟩
   .simp[Builtin.append_,run_underlying x,run_underlying y,sizeOf,typeInfo,n,C,Builtin.lenOf,M,f]
   .have:=h none 0 w (by rw[a];exact .inl ⟨rfl,rfl,rfl⟩) (World.grownBy.refl w _);rw[a]at this;exact this
  .have d:=run_append_nil_string (P:=Tryz.prog) w 22 9 ty 5 i (.int .u8 0) x y n W s Om Om (by rw[J];omega);have Z:(s.data.map fun b=>Value.int .u8 b.toNat)=(s.data.toList.map byC).toArray:=(by apply Zci;simp[byC]);rw[Z]at d;have a:=Qnr (base:=base) (w:=w) (l:= []) (m:=s.data.toList) (c:=grownCap w s.size 0 5) I (by simpa using grownCap_ge w s.size 0 5) (grownCap_le_maxLen w s.size 0 _ (Su N));simp only[Zbk,Zah,Zae,Za6,r,Array.empty_append]at a;refine⟨_,_,d,?_⟩;have:=h _ _ _ (Su a) (Xe7 _ _);simpa using this
 .have f:=run_firstCells_string (P:=Tryz.prog) w 1 s
  by_cases af:l.length+s.size<=c
  .have U:=Qc9 Tryz.prog g l.length 5 Y L (s.data.toList.map byC) 0 u w B z (by simp;omega) (Q8l _);simp only[Zcf,Zg,r]at U;rw[Q8m]at f;have d:(Builtin.append_ #[22,9] ty #[.slice (some ⟨g,0,none⟩) l.length c,.string s]).run Tryz.prog w=.ok (.slice (some ⟨g,0,none⟩) (l.length+s.size) c) (w.setRow g (u.toList.take l.length++s.data.toList.map byC++u.toList.drop (l.length+s.size)).toArray):=(by simp[Builtin.append_,run_underlying x,run_underlying y,sizeOf,typeInfo,n,C,Builtin.lenOf,af,f,Addr.add_lit,U]);have O:=Qxa (m:=s.data.toList) H B z K S V Om;rw[r]at O;refine⟨_,_,d,?_⟩;have:=h _ _ _ O ⟨rfl,rfl,rfl,by simp,fun k _ aa=>setRow_other w g k _ (fun e=>aa (by simp[e]))⟩;simpa using this
  .have ac:∀j v,(l.map byC)[j]?=some v->w.cell? ((⟨g,0,none⟩:Addr).add j)=some v:=fun j v o=>by
    rw[Zaf]at o
    cases D:l[j]? with
    |none=>rw[D]at o;cases o
    |some b =>
     rw[D]at o;obtain rfl:byC b=v:=Su o;exact OwnB.cells (base:=base) (c:=c) (.inr ⟨g,u,Y,L,rfl,H,B,z,ab,K,S,V⟩) j b D
   have d:=run_append_grow_string (P:=Tryz.prog) w 22 9 ty 5 i (.int .u8 0) x y n W ⟨g,0,none⟩ l.length c (l.map byC) (by rw[C];simp) ac s Om Om (by rw[J];exact growslice_fits Om Om);rw[Q8m]at d;have a:=Qnr (base:=base) (w:=w) (l:=l) (m:=s.data.toList) (c:=grownCap w (l.length+s.size) c 5) I (by rw[r];exact grownCap_ge w (l.length+s.size) c 5) (grownCap_le_maxLen w (l.length+s.size) c _ N);rw[r]at a;refine⟨_,_,d,?_⟩;have:=h _ _ _ a (Xe7 _ _);simpa using this
theorem Qoa{base w A c l}(x){b cb ty}(ac:OwnB base w A c l)(H:base<=w.heap.size)(hx:w.cell? b=some (byC x))(af:l.length+1<=1000000000){R}
 (h:∀D E w',OwnB base w' D E (l++[x])->w.grownBy w' (A.map (·.block))->R (.slice D (l++[x]).length E) w') :
 Qi7 Tryz.prog (Builtin.append_ #[22,22] ty #[.slice A l.length c,.slice (some b) 1 cb]) w R:=by
 obtain⟨i,_,o,_,U,_,ae,_⟩:=Xl ty5_ok;have r:i.size=1:=ae;have I:i.bytes=1:=by have:=by5;rw[o]at this;simpa using this
 have C:(Tryz.prog.underlying 22)=some (.slice 5):=by kernel_rfl
 have Z:l.length+1<=maxLen:=by simp only[maxLen];omega
 have z:∀j v,([x].map byC)[j]?=some v->w.cell? (b.add j)=some v:=fun j v a=>by
  cases j with
  |zero =>
   obtain rfl:byC x=v:=Su a;have e:b.add 0=b:=by unfold Addr.add;simp
   rw[e];exact hx
  |succ j=>simp at a
 rcases ac with⟨rfl,rfl,rfl⟩|⟨g,n,V,L,rfl,F,u,s,Y,J,N,S⟩
 .have f:=run_append_nil (P:=Tryz.prog) w 22 ty 5 i (.int .u8 0) C o U b 1 cb ([x].map byC) (by rw[r];rfl) z Om Om (by rw[I];omega);have d:=Qnr (base:=base) (w:=w) (l:= []) (m:= [x]) (c:=grownCap w 1 0 5) H (by simpa using grownCap_ge w 1 0 5) (grownCap_le_maxLen w 1 0 _ (by simp only[maxLen];omega));simp only[Zbk,Zah,Zae,Za6,Zar,Array.empty_append]at d;refine⟨_,_,f,?_⟩;have:=h _ _ _ (Su d) (Xe7 _ _);simpa using this
 .have K:=run_firstCells_some (P:=Tryz.prog) w 1 1 b 1 cb ([x].map byC) rfl z
  by_cases M:l.length+1<=c
  .have O:=Qc9 Tryz.prog g l.length 5 V L ([x].map byC) 0 n w u s (by simp;omega) (Q8l _);simp only[Zcf,Zg,Zar,Zm,Zbk]at O;simp only[Zm,Zbk]at K;have f:(Builtin.append_ #[22,22] ty #[.slice (some ⟨g,0,none⟩) l.length c,.slice (some b) 1 cb]).run Tryz.prog w=.ok (.slice (some ⟨g,0,none⟩) (l.length+1) c) (w.setRow g (n.toList.take l.length++[x].map byC++n.toList.drop (l.length+1)).toArray):=(by simp[Builtin.append_,run_underlying C,sizeOf,typeInfo,o,r,Builtin.lenOf,M,K,Addr.add_lit,O]);have aa:=Qxa (m:= [x]) F u s J N S (Su M);refine⟨_,_,f,?_⟩;have:=h _ _ _ aa ⟨rfl,rfl,rfl,by simp,fun k _ W=>setRow_other w g k _ (fun e=>W (by simp[e]))⟩;simpa using this
  .have ab:∀j v,(l.map byC)[j]?=some v->w.cell? ((⟨g,0,none⟩:Addr).add j)=some v:=fun j v a=>by
    rw[Zaf]at a
    cases B:l[j]? with
    |none=>rw[B]at a;cases a
    |some y =>
     rw[B]at a;obtain rfl:byC y=v:=Su a;exact OwnB.cells (base:=base) (c:=c) (.inr ⟨g,n,V,L,rfl,F,u,s,Y,J,N,S⟩) j y B
   have f:=run_append_grow (P:=Tryz.prog) w 22 ty 5 i (.int .u8 0) C o U ⟨g,0,none⟩ l.length c (l.map byC) (by rw[r];simp) ab b 1 cb ([x].map byC) (by rw[r];rfl) z Om Om (by rw[I];exact growslice_fits Om Om);have d:=Qnr (base:=base) (w:=w) (l:=l) (m:= [x]) (c:=grownCap w (l.length+1) c 5) H (by simpa using grownCap_ge w (l.length+1) c 5) (grownCap_le_maxLen w (l.length+1) c _ Z);simp only[Zar]at d;refine⟨_,_,f,?_⟩;have:=h _ _ _ d (Xe7 _ _);simpa using this
def SlB(w:World)(A:Option Addr)(l:List UInt8):Prop:=∀(c:Nat) b,l[c]?=some b->∃a,A=some a/\w.cell? (a.add c)=some (byC b)
theorem OwnB.sl{base w A c l}(h:OwnB base w A c l):SlB w A l:=fun j b d=>by
 cases A with
 |none =>
  rcases h with⟨_,_,rfl⟩|⟨g,f,k,i,e,_⟩
  .simp at d
  .cases e
 |some a=>exact⟨a,rfl,h.cells j b d⟩
theorem text_of{w A c l}(m:SlB w A l){R}(h:R (.string (bytesOf l)) w) :
 Qi7 Tryz.prog (convert 22 9 (.slice A l.length c)) w R:=by
 have k:=run_convert_bytes_string (P:=Tryz.prog) w 22 9 5 A l.length c Kr Kr Kr
 by_cases i:l=[]
 .subst i;refine⟨.string (bytesOf []),w,?_,h⟩;rw[k]
  cases A with
  |none=>simp[Conv.bytesToString];rfl
  |some a =>
   have f:=run_loadCells_list (P:=Tryz.prog) w a [] (by simp);show (Conv.bytesToString (.slice (some a) 0 c)).run Tryz.prog w=_
   rw[run_bytesToString (P:=Tryz.prog) w a 0 c [] (Su f)];rfl
 .obtain⟨a,rfl⟩:∃a,A=some a:=(by obtain⟨x,r,rfl⟩:=Zbs i;obtain⟨a,u,_⟩:=m 0 x rfl;exact⟨a,u⟩)
  have f:=run_loadCells_list (P:=Tryz.prog) w a (l.map byC) fun j v d=>by
   rw[Zaf]at d
   cases g:l[j]? with
   |none=>rw[g]at d;cases d
   |some y =>
    rw[g]at d;obtain rfl:byC y=v:=Su d;obtain⟨n,e,s⟩:=m j y g;obtain rfl:a=n:=Zbc e;exact s
  have o:(l.map fun b=>(b.toNat:Int)).map (Value.int .u8)=l.map byC:=by rw[Zz];rfl
  rw[<- o,Zg,Zg]at f;refine⟨.string (bytesOf l),w,?_,h⟩;rw[k,run_bytesToString (P:=Tryz.prog) w a l.length c _ f,foldl_push_byteCells];simp[bytesOf]
end Go.Proofs.YtnpacgccajekgaaGreatDoor
namespace Go.Proofs.YtnpacgccajekgaaGreatDoor
open Go.Se Go.RowKit
structure ER where
 (off now:Int) (person:Bj) (A:Option Addr) (n c:Nat) (sum:Int)
def erC(r:ER):List Value:= [Vj r.off,Vj r.now,.string r.person,.slice r.A r.n r.c,.int .u64 r.sum]
theorem Qfr(r):(erC r).length=5:=rfl
theorem Xi2(r):∀u∈erC r,u.oneCell'=true:=by
 intro u a;simp only[erC,Zr,Zcl,or_false]at a;rcases a with rfl|rfl|rfl|rfl|rfl<;>rfl
theorem Qxj:Qle Tryz.prog 55 45 erC 5 64:=⟨by kernel_rfl,⟨_,ty45_ok,rfl,rfl⟩,by kernel_rfl,by decide,by decide,Qfr,Xi2⟩
structure Q7p(lo:Nat)(w:World)(N:Nat->Prop)(e:En)(r:ER):Prop where
 off:r.off=e.nt.off
 now:r.now=e.nt.now
 person:r.person=e.nt.person
 sum:r.sum=e.sum
 len:r.n=e.nt.items.length
 cap:r.n<=r.c
 its:SlT w r.A e.nt.items
 spot:∀a,r.A=some a->a.spot=none
 blk:e.nt.items≠[]->∀a,r.A=some a->lo<=a.block/\a.block<w.heap.size/\¬N a.block
theorem Qh6{w A l}(h:l=[]):SlT w A l:=fun b x a=>by subst h;simp at a
theorem Q7p.keep{lo w w' N N' e r}(h:Q7p lo w N e r)(m:w.heap.size<=w'.heap.size)(j:∀k,lo<=k->k<w.heap.size->¬N k->w'.heap[k]?=w.heap[k]?)(i:∀k,lo<=k->k<w.heap.size->¬N k->¬N' k):Q7p lo w' N' e r where
 off:=h.off
 now:=h.now
 person:=h.person
 sum:=h.sum
 len:=h.len
 cap:=h.cap
 spot:=h.spot
 its:=by
  by_cases b:e.nt.items=[]
  .exact Qh6 b
  .exact Xp.stay h.its fun a d l=>(by obtain⟨c,f,g⟩:=h.blk b a d;exact j _ c f g)
 blk:=fun b a d=>by
  obtain⟨c,f,g⟩:=h.blk b a d;exact⟨c,Om,i _ c f g⟩
def ErL(lo:Nat)(w:World)(N:Nat->Prop)(E:List En)(X:List ER):Prop:=X.length=E.length/\∀(a:Nat) e b,E[a]?=some e->X[a]?=some b->Q7p lo w N e b
theorem ErL.keep{lo w w' N N' E X}(h:ErL lo w N E X)(f:w.heap.size<=w'.heap.size)(c:∀k,lo<=k->k<w.heap.size->¬N k->w'.heap[k]?=w.heap[k]?)(a:∀k,lo<=k->k<w.heap.size->¬N k->¬N' k):ErL lo w' N' E X:=
 ⟨h.1,fun i e g b d=>(h.2 i e g b d).keep f c a⟩
theorem ErL.nil(lo w N):ErL lo w N [] []:=⟨rfl,fun b e c a=>by simp at a⟩
theorem ErL.snoc{lo w N E X e r}(h:ErL lo w N E X)(g:Q7p lo w N e r):ErL lo w N (E++[e]) (X++[r]):=by
 refine⟨by simp[h.1],fun d c f b a=>?_⟩;rcases Nat.lt_trichotomy d X.length with q|q|q
 .rw[Zy (by rw[<- h.1];exact q)]at b;rw[Zy q]at a;exact h.2 d c f b a
 .subst q;rw[List.getElem?_concat_length]at a;rw[h.1,List.getElem?_concat_length]at b;obtain rfl:e=c:=Su b;obtain rfl:r=f:=Su a;exact g
 .rw[Zcg (by simp;omega)]at a;cases a
def ChN(A:Option Addr)(p k:Nat):Prop:=k=p\/A.map (·.block)=some k
structure Qnh(lo:Nat)(w:World)(p:Nat)(seed:Int)(E:List En)(A:Option Addr)(c:Nat)(X:List ER):Prop where
 head:At w p 73 [.int .u64 seed,.slice A X.length c]
 row:Own erC 5 45 lo w A c X
 ents:ErL lo w (ChN A p) E X
 low:lo<=p
 apart:∀a,A=some a->a.block≠p
theorem Qnh.keep{lo w w' p seed E A c X}(h:Qnh lo w p seed E A c X)(g:w.heap.size<=w'.heap.size)(b:∀k,lo<=k->k<w.heap.size->w'.heap[k]?=w.heap[k]?):Qnh lo w' p seed E A c X where
 head:=(b p h.low h.head.lt).trans h.head
 row:=h.row.keep fun a d=>b _ (h.row.block d).1 (h.row.block d).2
 ents:=h.ents.keep g (fun k e f _=>b k e f) fun _ _ _ q=>q
 low:=h.low
 apart:=h.apart
theorem Qnh.ext{lo w w' p seed E A c X}(h:Qnh lo w p seed E A c X)(hx:Ext w w'):Qnh lo w' p seed E A c X:=h.keep hx.size fun k _ a=>hx.block k a
def Xjf(l:List Bj):Bj:=⟨(Lib.join (l.map (·.data.toList)) [44]).toArray⟩
theorem Xhy{α:Type}{enc sz w A}{l:List α}(i:Sl enc sz w A l)(h:∀x,0<(enc x).length)(f:l≠[]){a}(d:A=some a):a.block<w.heap.size:=by
 cases l with
 |nil=>exact absurd rfl f
 |cons x l =>
  obtain⟨c,b,e⟩:=i 0 x rfl;obtain rfl:a=c:=by rw[d]at b;simpa using b
  have g:=h x;have:=cell_lt (e 0 ((enc x)[0]) (Zb g))
  rwa [add_block,add_block]at this
theorem Q28(x):0<(Qac x).length:=Nat.zero_lt_one
theorem Qtk(l)(h:∀x∈l,Qo x=true):(Xjf l).size<=l.length*25:=by
 have key:∀l:List Bj,(∀x∈l,Qo x=true)->Lib.lens (l.map (·.data.toList))<=l.length*24:=by
  intro l
  induction l with
  |nil=>intro _;exact Zf _
  |cons x l d =>
   intro h;have b:=d fun y c=>h y (by simp[c])
   have e:=Qcg (h x (by simp));have f:x.data.toList.length=x.size:=rfl;unfold Lib.lens at b⊢;simp only[Zm,Za8,Zx,Zbv]at b⊢;omega
 have b:=key l h;unfold Xjf;rw[show ∀a:List UInt8,(⟨a.toArray⟩:Bj).size=a.length from fun a=>by simp[ByteArray.size]]
 cases l with
 |nil=>exact Zt _
 |cons x l =>
  rw[Zm,Lib.join_length];rw[Zm]at b;simp only[Zx,Zg,Zae]at b⊢;omega
theorem Q5e(l A c w)(g:l≠[])(e:SlT w A l)(m:∀a,A=some a->a.spot=none/\l.length<=c)(z:∀x∈l,Qo x=true)(C:l.length<1000000) :
 Cal Tryz.prog 87 [.slice A l.length c,.string ⟨#[44]⟩] w fun r w'=>r=.string (Xjf l)/\Ext w w':=by
 have h:=Qtk l z;obtain⟨⟨k,o,D⟩,rfl,_⟩:=e.get (k:=0) (Zad.2 g);obtain⟨rfl,v⟩:=m _ rfl;have y:=Xhy e Q28 g rfl
 have s:∀(j:Nat) x,l[j]?=some x->w.cell? ⟨k,o+j,none⟩=some (.string x):=fun j x u=>by
  obtain⟨a,d,n⟩:=e j x u;have d:(⟨k,o,none⟩:Addr)=a:=Su d;subst d;have f:=n 0 (.string x) rfl
  have b:((⟨k,o,none⟩:Addr).add (j*1)).add 0=⟨k,o+j,none⟩:=by
   rw[Q9];simp only[Addr.add];split
   .next i=>simp at i;rw[i];rfl
   .simp
  rw[b]at f;exact f
 refine Qae Qt9 (Tryz.strings_Join k o c l ⟨#[44]⟩ w s y Om v ?_) ?_
 .have b:∀L:List UInt8,(⟨L.toArray⟩:Bj).size=L.length:=fun L=>by simp[ByteArray.size]
  unfold Xjf at h;rw[b]at h;show (Lib.join (l.map (·.data.toList)) [44]).length<=_
  omega
 .intro w' B;exact⟨rfl,B⟩
