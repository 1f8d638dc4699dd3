import Derived.Maps.AppendAt
import Derived.Deep.AppendLies
import Derived.Laws.CopyRow
import Derived.Maps.RangeRun
import Derived.WideKeyRuns
import Derived.Lib.ItoaNum
import Derived.Lib.ItoaLen
import Derived.Lib.ItoaMem
import Derived.Laws.IdiomStrings
import Derived.Lib.Bytealg
import Derived.Test.YtnpacgccajekgaaGreatDoorHTab
set_option linter.all false
namespace Go.Proofs.YtnpacgccajekgaaGreatDoor
open Go.Se
theorem int_eq{k b c}(h:b=c):some (Value.int k b)=some (Value.int k c):=by rw[h]
theorem wrap_i64{z}(h:-9223372036854775808<=z/\z<=9223372036854775807):z=IntKind.i64.wrap z:=by
 simp only[IntKind.wrap,IntKind.bits,IntKind.signed];simp;split<;>omega
theorem Qbc{k n}(h:k+n<=9223372036854775807):((k+n:Nat):Int)=IntKind.i64.wrap ((k:Int)+(n:Int)):=by
 rw[<- wrap_i64 ⟨Om,Om⟩];omega
theorem wrap_succ{k}(h:k<9223372036854775807):((k+1:Nat):Int)=IntKind.i64.wrap ((k:Int)+1):=by
 rw[<- wrap_i64 ⟨Om,Om⟩];omega
theorem wrap_u64{z}(h:0<=z/\z<=18446744073709551615):z=IntKind.u64.wrap z:=by
 simp only[IntKind.wrap,IntKind.bits,IntKind.signed];simp;omega
theorem Qp{w a v l}(h:Xq w a (v::l)):w.cell? a=some v:=by
 have:=h 0 v rfl;simpa [Addr.add] using this
theorem cells_at{w a l}(h:Xq w a l){k v}(b:nth l k=some v):w.cell? (a.add k)=some v:=h k v (by rw[<- Qa8,b])
def Sl{α:Type}(enc:α->List Value)(sz:Nat)(w:World)(A:Option Addr)(l:List α):Prop:=
 ∀b x,l[b]?=some x->∃a,A=some a/\Xq w (a.add (b*sz)) (enc x)
section
variable {α:Type}{enc:α->List Value}{sz:Nat}{w w':World}{A:Option Addr}{l:List α}
theorem Sl.nil:Sl enc sz w A []:=fun a x h=>by simp at h
theorem Sl.ext(h:Sl enc sz w A l)(hx:Ext w w'):Sl enc sz w' A l:=fun e x d=>by
 obtain⟨a,b,c⟩:=h e x d;exact⟨a,b,hx.cells c⟩
theorem Sl.get(h:Sl enc sz w A l){k}(b:k<l.length):∃a,A=some a/\Xq w (a.add (k*sz)) (enc l[k]):=
 h k l[k] (Zb b)
end
@[ext] structure Ev where
  src:Bj
  num:Int
  at_:Int
  kind:Int
  person:Bj
  item:Bj
  val:Int
  text:Bj
deriving DecidableEq
def evC(e:Ev):List Value:= [.string e.src,Vj e.num,Vj e.at_,Vj e.kind,.string e.person,.string e.item,Vj e.val,.string e.text]
def evV(e:Ev):Value:= .agg (evC e).toArray
abbrev SlE:=Sl evC 8
end Go.Proofs.YtnpacgccajekgaaGreatDoor
namespace Go.Proofs.YtnpacgccajekgaaGreatDoor
open Go.Se Go.RowKit
def Own{α:Type}(enc:α->List Value)(sz:Nat)(a:TypeId)(base:Nat)(w:World)(A:Option Addr)(c:Nat)(l:List α):Prop:=
 w.ownsRow base a sz (.slice A l.length c) l.length (l.flatMap enc)
section
variable {α:Type}{enc:α->List Value}{sz:Nat}{te:TypeId}{base:Nat}{w w':World}{A:Option Addr}{c:Nat}{l:List α}
theorem flat_get(a:∀x,(enc x).length=sz):∀(l:List α) (i j:Nat) (x:α),l[i]?=some x->j<sz->(l.flatMap enc)[i*sz+j]?=(enc x)[j]?
 |[],i,j,x,h,_=>by simp at h
 |y::l,0,j,x,h,b=>by
  obtain rfl:y=x:=Su h;rw[Za0,Zy (by rw[a];omega)];simp
 |y::l,i+1,j,x,h,b=>by
  rw[Za0,Z8 (by rw[a,Zbv];omega),a];rw[show (i+1)*sz+j-sz=i*sz+j by rw[Zbv];omega];exact flat_get a l i j x (Su h) b
theorem Qgq(a:∀x,(enc x).length=sz):∀l:List α,(l.flatMap enc).length=l.length*sz
 |[]=>by simp
 |y::l=>by rw[Za0,Zo,a,Qgq a l,Zx,Zbv];omega
theorem Own.sl(f:∀x,(enc x).length=sz)(h:Own enc sz te base w A c l):Sl enc sz w A l:=by
 intro i x d;have C:i<l.length:=(Zi.1 d).1;rcases h.2 with⟨k,o⟩|⟨a,cap,n,k,z,B,r,s,u,y⟩
 .omega
 .have b:A=some ⟨a,0,none⟩:=by injection k
  refine⟨_,b,fun j v e=>?_⟩;have m:j<sz:=by rw[<- f x];exact(Zi.1 e).1
  rw[Q9];exact h.cells (g:=a) (by rw[b];rfl) _ _ (by rw[flat_get f l i j x d m];exact e)
theorem Own.le(h:Own enc sz te base w A c l):l.length<=c:=by
 rcases h.2 with⟨a,d⟩|⟨g,cap,b,a,k,n,e,f,i,j⟩
 .omega
 .injection a with _ _ m;omega
theorem Own.nil:Own enc sz te base w none 0 []:=⟨by simp,.inl ⟨rfl,rfl⟩⟩
theorem Own.made{w1 b}(h:New w w1 b (.cells ([]:List Value).toArray te))(a:base<=w.heap.size):Own enc sz te base w1 (some ⟨b,0,none⟩) 0 []:=by
 refine⟨by simp,.inr ⟨b,0,#[],rfl,by rw[h.block];exact a,h.at_,by simp,by simp[maxLen],by simp,by simp⟩⟩
theorem Own.block(h:Own enc sz te base w A c l){a}(b:A=some a):base<=a.block/\a.block<w.heap.size:=h.lt a.block (by rw[b];rfl)
theorem Own.keep(h:Own enc sz te base w A c l)(m:∀a,A=some a->w'.heap[a.block]?=w.heap[a.block]?):Own enc sz te base w' A c l:=by
 refine⟨h.1,?_⟩;rcases h.2 with⟨b,e⟩|⟨g,cap,d,b,j,k,f⟩
 .exact .inl ⟨b,e⟩
 .refine .inr ⟨g,cap,d,b,j,?_,f⟩;have i:A=some ⟨g,0,none⟩:=by injection b
  rw[m _ i];exact k
theorem Own.ext(h:Own enc sz te base w A c l)(hx:Ext w w'):Own enc sz te base w' A c l:=
 h.keep fun a b=>hx.block _ (h.block b).2
theorem Qu{a row}(h:Ext a w)(b:w.grownBy w' row)(c:∀k,row=some k->a.heap.size<=k):Ext a w':=by
 unfold Ext at h⊢;exact h.grown b h.size c
theorem Ql0{P}(t ty e i size)(a:P.underlying t=some (.slice e))(hi:P.info? e=some i)
 (v n xs)(d:w.ownsRow base e size v n xs)(c):(Builtin.append_ #[t,t] ty #[v,.slice none 0 c]).run P w=.ok v w:=by
 rcases d.2 with⟨rfl,rfl⟩|⟨g,cap,f,rfl,_,_,b,_⟩
 .simp[Builtin.append_,run_underlying a,sizeOf,typeInfo,hi,Builtin.lenOf,Builtin.firstCells]
 .simp[Builtin.append_,run_underlying a,sizeOf,typeInfo,hi,Builtin.lenOf,Builtin.firstCells,b,storeCells]
theorem Qek{P t ty bytes g}(ao:Xb P te=some g)(F:P.underlying t=some (.slice te))(L:(P.info? te).map (·.bytes)=some bytes)(Y:g.size=sz)(ar:(Qg g.zero).length=sz)(v:0<sz)
 (H:∀x,(enc x).length=sz)(an:∀x,∀u∈enc x,u.oneCell'=true){R}
 (s:Own enc sz te base w A c l){B n news}(V:Sl enc sz w B news)
 (hbytes:(l.length+news.length)*bytes<=140737488355328)(S:l.length+news.length<=9223372036854775807)(K:base<=w.heap.size)
 (h:∀d e w',Own enc sz te base w' d e (l++news)->w.grownBy w' (A.map (·.block))->(d=A\/d.map (·.block)=A.map (·.block)\/d.map (·.block)=some w.heap.size)->R (.slice d (l++news).length e) w') :
 Qi7 P (Builtin.append_ #[t,t] ty [.slice A l.length c,.slice B news.length n].toArray) w R:=by
 obtain⟨i,_,o,_,Z,_,W,_⟩:=Xl ao;have M:i.bytes=bytes:=by rw[o]at L;simpa using L
 have aa:g.zero.cells.size=sz:=by rw[<- ar,<- Qat];simp
 have r:(Value.slice A l.length c).ownBlock=A.map (·.block):=by cases A<;>rfl
 by_cases U:news=[]
 .subst U
  cases B with
  |none =>
   refine⟨_,_,Ql0 t ty te i sz F o _ _ _ s n,?_⟩;have:=h A c w (Su s) (World.grownBy.refl w _) (.inl rfl);simpa using this
  |some b =>
   obtain⟨J,w',E,k,y,ag,m⟩:=run_append_own_at (P:=P) w base t ty te i g.zero sz bytes F o Z (W.trans Y) M aa v _ _ _ s b 0 n [] (by simp) (by simp) (by simp) (by unfold maxLen;simpa using S) (Su hbytes) K
   have I:∃d e,J=.slice d l.length e:=by
    rcases k.2 with⟨f,af⟩|⟨ae,cap,ab,f,_⟩
    .exact⟨none,0,by rw[f];congr 1;omega⟩
    .exact⟨_,_,Su f⟩
   obtain⟨d,e,rfl⟩:=I;refine⟨_,_,E,?_⟩;have D:(Value.slice d l.length e).ownBlock=d.map (·.block):=by cases d<;>rfl
   rw[r,D]at m;have:=h d e w' (by simpa [Own] using k) (by rw[<- r];exact y) (.inr m);simpa using this
 .obtain⟨b,ah⟩:∃b,B=some b:=(by obtain⟨x,au,rfl⟩:=Zbs U;obtain⟨a,z,_⟩:=V 0 x rfl;exact⟨a,z⟩);subst ah
  have al:∀j u,(news.flatMap enc)[j]?=some u->w.cell? (b.add j)=some u:=by
   intro j u C;have aj:j<news.length*sz:=by rw[<- Qgq H];exact(Zi.1 C).1
   have N:j/sz<news.length:=by rw[Nat.div_lt_iff_lt_mul v];exact aj
   have ak:j%sz<sz:=Nat.mod_lt _ v;have O:j=j/sz*sz+j%sz:=by rw[Nat.mul_comm];exact(Nat.div_add_mod j sz).symm
   obtain⟨a,z,ai⟩:=V (j/sz) news[j/sz] (Zb N);obtain rfl:b=a:=Su z
   have ac:(news.flatMap enc)[j]?=(enc news[j/sz])[j%sz]? := by
    conv=>lhs;rw[O]
    exact flat_get H news (j/sz) (j%sz) news[j/sz] (Zb N) ak
   rw[ac]at C;have:=ai (j%sz) u C;rw[Q9,<- O]at this;exact this
  obtain⟨J,w',E,k,y,ag,m⟩:=run_append_own_at (P:=P) w base t ty te i g.zero sz bytes F o Z (W.trans Y) M aa v _ _ _ s b news.length n (news.flatMap enc) (Qgq H _) al
   (fun u aq=>by obtain⟨x,_,hx⟩:=Zbh.1 aq;exact an x u hx) (by unfold maxLen;exact S) hbytes K
  have I:∃d e,J=.slice d (l++news).length e:=by
   rcases k.2 with⟨f,af⟩|⟨ae,cap,ab,f,_⟩
   .exact⟨none,0,by rw[f];congr 1;simp;omega⟩
   .exact⟨_,_,Su f⟩
  obtain⟨d,e,rfl⟩:=I;refine⟨_,_,E,?_⟩;have D:(Value.slice d (l++news).length e).ownBlock=d.map (·.block):=by cases d<;>rfl
  rw[r,D]at m;exact h d e w' (by simpa [Own] using k) (by rw[<- r];exact y) (.inr m)
end
theorem Qau(e):(evC e).length=8:=rfl
theorem Qbn(e):∀u∈evC e,u.oneCell'=true:=by simp[evC,Value.oneCell']
structure Only(w w':World)(b:Nat):Prop where
 os:w'.os=w.os
 tape:w'.tape=w.tape
 output:w'.output=w.output
 size:w'.heap.size=w.heap.size
 block:∀i,i≠b->w'.heap[i]?=w.heap[i]?
theorem Only.mod{w w' b}(h:Only w w' b):Mod (fun k=>k=b) w w':=⟨h.os,h.tape,h.output,by rw[h.size];exact Zf _,fun c _ a=>h.block c a⟩
theorem Only.ext{a w w' b}(h:Only w w' b)(hx:Ext a w)(e:a.heap.size<=b):Ext a w':=
 ⟨h.os.trans hx.os,h.tape.trans hx.tape,h.output.trans hx.output,by rw[h.size];exact hx.size,fun c d=>(h.block c Om).trans (hx.block c d)⟩
theorem Only.cells{w w' b}(h:Only w w' b){a cs}(d:Xq w a cs)(c:a.block≠b):Xq w' a cs:=fun f v e=>by
 rw[World.cell?_of_block (w:=w) (h.block _ (by rw[add_block];exact c))];exact d f v e
theorem Only.at_{w w' b}(h:Only w w' b){g t:Nat}{l}(c:At w g t l)(a:g≠b):At w' g t l:=(h.block g a).trans c
theorem Only.sl{α:Type}{enc sz w w' b}(h:Only w w' b){A}{l:List α}(g:Sl enc sz w A l)(d:∀a,A=some a->a.block≠b):Sl enc sz w' A l:=fun i x f=>by
 obtain⟨a,c,e⟩:=g i x f;exact⟨a,c,h.cells e (by rw[add_block];exact d a c)⟩
def spl(l:List Value)(off:Nat)(cs:List Value):List Value:=l.take off++cs++l.drop (off+cs.length)
theorem Qpm(w b cs):Only w (w.setRow b cs) b:=
 ⟨rfl,rfl,rfl,by simp[World.setRow],fun c a=>by simp[World.setRow,Zce,Ne.symm a]⟩
theorem Qiq{P T}(c:Qbl P T){t:TypeId}{e}(j:Qi6 T t=some e){w R}{b a off:Nat}{l v}
 (h:At w b a l)(f:(Qg v).length=e.size)(m:off+e.size<=l.length)(g:∀u∈Qg v,u.oneCell'=true)
 (d:∀w',At w' b a (spl l off (Qg v))->Only w w' b->R undef w'):Qys P (Instr.storeAt t (.pointer (some ⟨b,off,none⟩)) v) w R:=by
 have i:=run_storeCells_at P b off a (Qg v) 0 l.toArray w h (by simp;omega) g;have k:v.cells.size=e.size:=by rw[<- f,<- Qat];simp
 refine⟨w.setRow b (spl l off (Qg v)).toArray,?_,d _ ?_ (Qpm w b _)⟩
 .simp[Instr.storeAt,Instr.sureAddr,storeVar,Qk7 (c.get j),k,Qat];simpa [spl] using i
 .have:=setRow_heap w b l.toArray (spl l off (Qg v)).toArray a (0,0) h;simpa [At,spl] using this
theorem Qai{α:Type}{enc sz}(c:∀x,(enc x).length=sz){w w1}{b t:Nat}{l:List α}(h:New w w1 b (.cells (l.flatMap enc).toArray t)):Sl enc sz w1 (some ⟨b,0,none⟩) l:=by
 intro g x e;refine⟨_,rfl,fun d v a=>?_⟩;have f:d<sz:=by rw[<- c x];exact(Zi.1 a).1
 rw[Q9,Q7,h.At.cell,flat_get c l g d x e f,a]
section
variable {α:Type}{enc:α->List Value}{sz:Nat}{te:TypeId}{base:Nat}{w w':World}{A:Option Addr}{c:Nat}{l:List α}
theorem Qou(a:∀x,(enc x).length=sz):∀(l:List α) (k:Nat),(l.take k).flatMap enc=(l.flatMap enc).take (k*sz)
 |[],k=>by simp
 |y::l,0=>by simp
 |y::l,k+1=>by
  rw[List.take_succ_cons,Za0,Za0,Qou a l k,List.take_append,a,Zbv];rw[Zd (l:=enc y) (by rw[a];omega),Nat.add_sub_cancel]
theorem Qot(a:∀x,(enc x).length=sz):∀(l:List α) (k:Nat),(l.drop k).flatMap enc=(l.flatMap enc).drop (k*sz)
 |[],k=>by simp
 |y::l,0=>by simp
 |y::l,k+1=>by
  rw[List.drop_succ_cons,Za0,Qot a l k,List.drop_append,a,Zbv];rw[@List.drop_eq_nil_of_le _ (enc y) _ (by rw[a];omega),Zah,Nat.add_sub_cancel]
theorem Q2l(a:∀x,(enc x).length=sz){k}(b:k<l.length)(x):(l.set k x).flatMap enc=spl (l.flatMap enc) (k*sz) (enc x):=by
 rw[List.set_eq_take_append_cons_drop,if_pos b,Zbn,Za0,Qou a,Qot a];unfold spl;rw[a,Zbv,Zac]
theorem Qqb{P T}(B:Qbl P T){t:TypeId}{e}(J:Qi6 T t=some e)(m:e.size=sz)(b:∀x,(enc x).length=sz)(I:∀x,∀u∈enc x,u.oneCell'=true)
 {k}(n:k<l.length)(x){v}(d:Qg v=enc x){a}(o:Own enc sz te base w (some a) c l){R}
 (h:∀w',Own enc sz te base w' (some a) c (l.set k x)->Only w w' a.block->R undef w'):Qys P (Instr.storeAt t (.pointer (some (a.add (k*sz)))) v) w R:=by
 have N:=o.1;rcases o.2 with⟨f,L⟩|⟨g,cap,i,f,D,F,j,y,M,z⟩
 .omega
 .have A:a=⟨g,0,none⟩:=by injection f with h _ _;injection h
  have E:c=cap:=by injection f
  subst A E;rw[Q7];have O:k*sz+sz<=l.length*sz:=(by have:=Zb5 sz (show k+1<=l.length from n);rw[Zbv]at this;exact this);have S:l.length*sz<=c*sz:=Zb5 sz j;have C:At w g te i.toList:=by unfold At;rw[F]
  refine Qiq B J C (by rw[d,b,m]) (by rw[m];simp;omega) (by rw[d];exact I x) fun K r H=>h K ?_ H
  rw[d]at r;refine⟨by rw[Qgq b],.inr ⟨g,c,_,by rw[Zbi],D,r,by rw[Zbi];exact j,y,?_,?_⟩⟩
  .unfold spl;simp[b];omega
  .rw[Q2l b n,<- z,Zbi];unfold spl;simp only[b,List.toList_toArray];rw[List.take_append,List.take_append,List.drop_take,List.take_take,List.take_take];rw[Zo,Zn,b];have s:min (k*sz) i.toList.length=k*sz:=by simp;omega
   rw[s,Nat.min_eq_right Om,Nat.min_eq_left Om,Zd (l:=enc x) (by rw[b];omega)]
end
end Go.Proofs.YtnpacgccajekgaaGreatDoor
namespace Go.Proofs.YtnpacgccajekgaaGreatDoor
section
variable {α:Type}{lt:α->α->Bool}
structure Swo(lt:α->α->Bool):Prop where
 asymm:∀x y,lt x y=true->lt y x=false
 trans:∀x y z,lt y x=false->lt z y=false->lt z x=false
def Srt(lt:α->α->Bool)(l:List α):Prop:=l.Pairwise (fun x y=>lt y x=false)
theorem Swo.irrefl(h:Swo lt)(x):lt x x=false:=by
 cases hx:lt x x with
 |false=>rfl
 |true=>rw[h.asymm x x hx]at hx;cases hx
theorem Srt.nil:Srt lt ([]:List α):=List.Pairwise.nil
theorem Srt.one(x):Srt lt [x]:=by simp[Srt]
theorem Srt.append{x y}(hx:Srt lt x)(a:Srt lt y)(h:∀u∈x,∀v∈y,lt v u=false):Srt lt (x++y):=Z7.2 ⟨hx,a,h⟩
theorem Srt.left{x y}(h:Srt lt (x++y)):Srt lt x:=(Z7.1 h).1
theorem Srt.right{x y}(h:Srt lt (x++y)):Srt lt y:=(Z7.1 h).2.1
theorem Srt.across{x y}(h:Srt lt (x++y)):∀u∈x,∀v∈y,lt v u=false:=(Z7.1 h).2.2
theorem Qtn(O:Swo lt){x y}(hx:Srt lt x)(j:Srt lt y)(h:∀u v,x.getLast?=some u->y.head?=some v->lt v u=false):∀u∈x,∀v∈y,lt v u=false:=by
 intro u a v b
 obtain⟨c,l,rfl⟩:∃c l,x=c++[l]:=by
  rcases Zbo x with rfl|⟨c,l,i⟩
  .simp at a
  .exact⟨c,l,Su i⟩
 cases y with
 |nil=>simp at b
 |cons f k =>
  have d:lt f l=false:=h l f (by simp) (by simp)
  have e:lt l u=false:=by
   rcases Zj.1 a with a|a
   .exact hx.across u a l (by simp)
   .simp at a;subst a;exact O.irrefl _
  have g:lt v f=false:=by
   rcases Zr.1 b with rfl|b
   .exact O.irrefl _
   .exact(Zab.1 j).1 v b
  exact O.trans u l v e (O.trans l f v d g)
theorem Qx3(O:Swo lt){c e f d g z2}(hx:Srt lt (c++e))(h:Srt lt (f++d))
 (k:∀u v,c.getLast?=some u->d.head?=some v->lt v u=false)(l:∀u v,f.getLast?=some u->e.head?=some v->lt v u=false)
 (i:g.Perm (c++f))(j:z2.Perm (e++d))(m:Srt lt g)(n:Srt lt z2):Srt lt (g++z2)/\(g++z2).Perm ((c++e)++(f++d)):=by
 constructor
 .refine m.append n fun u a v b=>?_
  have a:=i.mem_iff.1 a;have b:=j.mem_iff.1 b;rcases Zj.1 a with a|a<;>rcases Zj.1 b with b|b
  .exact hx.across u a v b
  .exact Qtn O hx.left h.right k u a v b
  .exact Qtn O h.left hx.right l u a v b
  .exact h.across u a v b
 .refine(i.append j).trans ?_;rw[Zac,Zac];refine Zc0 c ?_;rw[<- Zac,<- Zac];exact List.Perm.append_right d List.perm_append_comm
theorem Ql5{l a}(b:l.Perm a)(e:Srt lt l)(f:Srt lt a)(g:∀x∈l,∀y∈l,lt x y=false->lt y x=false->x=y):l=a:=
 List.Perm.eq_of_pairwise (fun x y hx h c d=>g x hx y (b.mem_iff.2 h) d c) e f b
end
end Go.Proofs.YtnpacgccajekgaaGreatDoor
namespace Go.Proofs.YtnpacgccajekgaaGreatDoor
open Go.Se Go.RowKit
open Go.ChangeMaps (setBlock)
open Go.MapKept (run_checkKey run_findKey IsKey bytes_beq)
theorem Qdo{P w r es clock}(a:w.heap[r]?=some (.map es clock)):(getObj r).run P w=.ok (.map es clock) w:=Go.MapKept.run_getObj_map a
theorem Qgw{P w r es clock}(o)(a:w.heap[r]?=some (.map es clock)):(setObj r o).run P w=.ok () { w with heap:=w.heap.setIfInBounds r o }:=Go.MapKept.run_setObj_map o a
theorem Qao(w b o):Only w (setBlock w b o) b:=
 ⟨rfl,rfl,rfl,by simp[setBlock],fun c a=>by simp[setBlock,Ne.symm a]⟩
section
variable {κ:Type}[DecidableEq κ]{β:Type}
def Qe:List (κ×β)->κ->Option β
 |[],_=>none
 |x::l,k=>if k=x.1 then some x.2 else Qe l k
def Xe:List (κ×β)->κ->β->List (κ×β)
 |[],k,v=>[(k,v)]
 |x::l,k,v=>if k=x.1 then(x.1,v)::l else x::Xe l k v
theorem Xr(k a v):∀l:List (κ×β),Qe (Xe l k v) a=if a=k then some v else Qe l a
 |[]=>by simp[Xe,Qe]
 |x::l=>by
  simp only[Xe]
  by_cases h:k=x.1
  .subst h;simp only[if_true,Qe];split<;>rfl
  .simp only[if_neg h,Qe,Xr k a v l]
   by_cases b:a=x.1
   .subst b;simp[Ne.symm h]
   .simp[b]
theorem Q8(k:κ)(v:β)(l):Qe (Xe l k v) k=some v:=by rw[Xr,if_pos rfl]
theorem Qdp(k v a):∀l:List (κ×β),Xe (Xe l k v) k a=Xe l k a
 |[]=>by simp[Xe]
 |x::l=>by
  simp only[Xe]
  by_cases h:k=x.1
  .simp[h,Xe]
  .simp[h,Xe,Qdp k v a l]
theorem Qej{k}:∀{l:List (κ×β)},Qe l k=none↔∀x∈l,x.1≠k
 |[]=>by simp[Qe]
 |x::l=>by
  simp only[Qe]
  by_cases h:k=x.1
  .simp[h]
  .simp only[if_neg h,Qej (l:=l),Zr,forall_eq_or_imp];exact⟨fun a=>⟨fun e=>h e.symm,a⟩,fun a=>a.2⟩
theorem Qax{k v}:∀{l:List (κ×β)},Qe l k=some v->(k,v)∈l
 |[],h=>by simp[Qe]at h
 |x::l,h=>by
  simp only[Qe]at h
  by_cases e:k=x.1
  .rw[if_pos e]at h;obtain rfl:x.2=v:=Su h;rw[e];simp
  .rw[if_neg e]at h;exact Za3 _ (Qax h)
theorem Qcl{k v}:∀{l:List (κ×β)},l.Pairwise (fun x y=>x.1≠y.1)->(k,v)∈l->Qe l k=some v
 |[],_,h=>by simp at h
 |x::l,a,h=>by
  rw[Zab]at a;simp only[Qe];rcases Zr.1 h with rfl|h
  .simp
  .rw[if_neg (fun e=>a.1 _ h e.symm)];exact Qcl a.2 h
theorem Qby{k v y}:∀{l:List (κ×β)},y∈Xe l k v->y=(k,v)\/(y∈l)
 |[],h=>by simpa [Xe] using h
 |x::l,h=>by
  simp only[Xe]at h
  by_cases e:k=x.1
  .rw[if_pos e]at h;rcases Zr.1 h with rfl|h
   .exact .inl (by rw[e])
   .exact .inr (by simp[h])
  .rw[if_neg e]at h;rcases Zr.1 h with rfl|h
   .exact .inr (by simp)
   .rcases Qby h with h|h
    .exact .inl h
    .exact .inr (by simp[h])
theorem Qeq(k v):∀l:List (κ×β),(Xe l k v).map (·.1)=if k∈l.map (·.1) then l.map (·.1) else l.map (·.1)++[k]
 |[]=>by simp[Xe]
 |x::l=>by
  simp only[Xe]
  by_cases e:k=x.1
  .simp[e]
  .rw[if_neg e,Zm,Qeq k v l]
   by_cases h:k∈l.map (·.1)
   .simp only[if_pos h,Zm,Zr];rw[if_pos (.inr h)]
   .simp only[if_neg h,Zm,Zr];rw[if_neg (by rintro (a|a);exact e a;exact h a)];rfl
theorem Qan{k:κ}{v:β}{l}(g:l.Pairwise (fun x y=>x.1≠y.1)):(Xe l k v).Pairwise (fun x y=>x.1≠y.1):=by
 have c:(l.map (·.1)).Nodup:=by rw[Zaj,Z5];exact g
 have:((Xe l k v).map (·.1)).Nodup:=by
  rw[Qeq];split
  .exact c
  .rename_i h;rw[Zc5];exact⟨c,by simp,fun a f b d=>by simp at d;subst d;intro e;exact h (e▸f)⟩
 rw[Zaj,Z5]at this;exact this
end
abbrev Ent(κ:Type):=κ×Value×Nat
section
variable {κ:Type}{enc:κ->Value}{P:Program}{mt kt et:TypeId}{w w':World}{b:Nat}{L:List (κ×Value)}{E:List (Ent κ)}{clock:Nat}
def strip(E:List (Ent κ)):List (κ×Value):=E.map fun x=>(x.1,x.2.1)
def mkE(enc:κ->Value)(x:Ent κ):MapEntry:=⟨enc x.1,x.2.1,x.2.2⟩
structure Xd8(w:World)(b:Nat)(enc:κ->Value)(E:List (Ent κ))(clock:Nat):Prop where
 block:w.heap[b]?=some (.map (E.map (mkE enc)).toArray clock)
 rising:E.Pairwise (fun x y=>x.2.2<y.2.2)
 below:∀x∈E,x.2.2<clock
 keys:E.Pairwise (fun x y=>x.1≠y.1)
def MapAt(w:World)(b:Nat)(enc:κ->Value)(L:List (κ×Value)):Prop:=∃E clock,Xd8 w b enc E clock/\strip E=L
theorem lt_of_block{w:World}{b o}(h:w.heap[b]?=some o):b<w.heap.size:=by
 rcases Zb6 b w.heap.size with c|a
 .exact c
 .rw[Zbx a]at h;cases h
theorem MapAt.lt(h:MapAt w b enc L):b<w.heap.size:=by
 obtain⟨E,c,a,_⟩:=h;exact lt_of_block a.block
theorem MapAt.keep(h:MapAt w b enc L)(d:w'.heap[b]?=w.heap[b]?):MapAt w' b enc L:=by
 obtain⟨E,c,a,e⟩:=h;exact⟨E,c,⟨d.trans a.block,a.rising,a.below,a.keys⟩,e⟩
theorem MapAt.ext(h:MapAt w b enc L)(hx:Ext w w'):MapAt w' b enc L:=h.keep (hx.block b h.lt)
theorem MapAt.only(h:MapAt w b enc L){c}(hx:Only w w' c)(a:b≠c):MapAt w' b enc L:=h.keep (hx.block b a)
theorem MapAt.mod(h:MapAt w b enc L){S}(hx:Mod S w w')(a:¬S b):MapAt w' b enc L:=h.keep (hx.block b h.lt a)
theorem MapAt.new{w1}(h:New w w1 b (.map #[] 0)):MapAt w1 b enc []:=⟨[],0,⟨h.at_,by simp,by simp,by simp⟩,rfl⟩
theorem MapAt.keys(h:MapAt w b enc L):L.Pairwise (fun x y=>x.1≠y.1):=by
 obtain⟨E,c,a,rfl⟩:=h;unfold strip;rw[Z5];exact a.keys
def Kept(cl:Cl)(w:World)(b:Nat):Prop:=∀w',cl.rel w w'->w'.heap[b]?=w.heap[b]?
theorem Qs{w b}:Kept .same w b:=fun w' h=>by cases h;rfl
theorem Qii{w b}(h:b<w.heap.size):Kept .ext w b:=fun w' hx=>(show Ext w w' from hx).block b h
theorem Qww{S w b}(h:b<w.heap.size)(a:¬S b):Kept (.mods S) w b:=fun w' hx=>(show Mod S w w' from hx).block b h a
theorem Qaf{w b o a}(h:w.heap[b]?=some o):(setBlock w b a).heap[b]?=some a:=by
 simp[setBlock,lt_of_block h]
def Xha(w:World)(b:Nat)(enc:κ->Value)(L:List (κ×Value))(k:κ)(s:Nat):Prop:=∃E clock,Xd8 w b enc E clock/\strip E=L/\∃v,(k,v,s)∈E
theorem Xha.keep{k s}(h:Xha w b enc L k s)(d:w'.heap[b]?=w.heap[b]?):Xha w' b enc L k s:=by
 obtain⟨E,c,a,e⟩:=h;exact⟨E,c,⟨d.trans a.block,a.rising,a.below,a.keys⟩,e⟩
theorem Xha.at_{k s}(h:Xha w b enc L k s):MapAt w b enc L:=by
 obtain⟨E,c,a,d,_⟩:=h;exact⟨E,c,a,d⟩
def Iter(w:World)(r b:Nat)(enc:κ->Value)(L vs:List (κ×Value)):Prop:=
 ∃E clock V a c,Xd8 w b enc E clock/\strip E=L/\w.heap[r]?=some (.mapIter (some b) a (V.map fun x:Ent κ=>x.2.2).toArray c)/\(∀x∈E,x.2.2<a)/\a<=c/\a<=clock/\strip V=vs/\V.Nodup/\∀x∈V,x∈E
theorem Iter.map{r vs}(h:Iter w r b enc L vs):MapAt w b enc L:=by
 obtain⟨E,c,V,f,e,a,d,_⟩:=h;exact⟨E,c,a,d⟩
theorem Iter.lt{r vs}(h:Iter w r b enc L vs):r<w.heap.size:=by
 obtain⟨E,c,V,g,d,e,f,a,_⟩:=h;exact lt_of_block a
theorem Iter.ne{r vs}(h:Iter w r b enc L vs):r≠b:=by
 obtain⟨E,c,V,g,e,d,f,a,_⟩:=h;rintro rfl;rw[d.block]at a;simp at a
theorem Iter.keep{r vs}(h:Iter w r b enc L vs)(e:w'.heap[b]?=w.heap[b]?)(f:w'.heap[r]?=w.heap[r]?):Iter w' r b enc L vs:=by
 obtain⟨E,c,V,k,d,a,j,i,g⟩:=h;exact⟨E,c,V,k,d,⟨e.trans a.block,a.rising,a.below,a.keys⟩,j,f.trans i,g⟩
theorem Iter.ext{r vs}(h:Iter w r b enc L vs)(hx:Ext w w'):Iter w' r b enc L vs:=h.keep (hx.block _ h.map.lt) (hx.block _ h.lt)
theorem Qg0{α:Type}:∀{V E:List α},V.Nodup->(∀x∈V,x∈E)->∃R,E.Perm (V++R)
 |[],E,_,_=>⟨E,Za9 _⟩
 |x::V,E,a,c=>by
  obtain⟨f,g,rfl⟩:=List.append_of_mem (c x (by simp));rw[Zbp]at a
  obtain⟨R,h⟩:=Qg0 (E:=f++g) a.2 (fun y d=>by
   have b:=c y (by simp[d]);have i:y≠x:=fun e=>a.1 (e▸d)
   simp[i]at b⊢;exact b)
  exact⟨R,List.perm_middle.trans (by simpa using h.cons x)⟩
theorem Qeg{α:Type}{V E:List α}(b:V.Nodup)(c:∀x∈V,x∈E):V.length<=E.length:=by
 obtain⟨d,a⟩:=Qg0 b c;have:=a.length_eq;simp at this;omega
theorem Qfh{α:Type}{V E:List α}(e:V.Nodup)(d:E.Nodup)(f:∀x∈V,x∈E)(g:∀x∈E,x∈V):V.Perm E:=by
 obtain⟨a,b⟩:=Qg0 e f;have c:=b.nodup_iff.1 d
 have:a=[]:=by
  rcases a with _|⟨y,a⟩
  .rfl
  .have h:=g y (b.mem_iff.2 (by simp));exact absurd rfl ((Zc5.1 c).2.2 y h y (by simp))
 subst this;simpa using b.symm
theorem Qi5{E:List (Ent κ)}(c:E.Pairwise (fun x y=>x.1≠y.1)){x y}(hx:x∈E)(d:y∈E)(h:x.1=y.1):x=y:=by
 induction E with
 |nil=>simp at hx
 |cons z E e =>
  rw[Zab]at c;rcases Zr.1 hx with a|a<;>rcases Zr.1 d with b|b
  .rw[a,b]
  .subst a;exact absurd h (c.1 _ b)
  .subst b;exact absurd h.symm (c.1 _ a)
  .exact e c.2 a b
theorem map_range(e:P.underlying mt=some (.map kt et))(d:MapAt w b enc L){R}
 (h:∀w',Iter w' w.heap.size b enc L []->Ext w w'->R (Pj w.heap.size) w'):Qi7 P (Instr.range mt (.map (some b))) w R:=by
 obtain⟨E,c,a,rfl⟩:=d;have hx:Ext w (w.alloc (.mapIter (some b) c #[] c)):=(Below.refl _ _).alloc (Zf _) _;refine⟨_,w.alloc (.mapIter (some b) c #[] c),?_,h _ ?_ hx⟩
 .simp[Instr.range,run_underlying e,Qdo a.block]
 .refine⟨E,c,[],c,c,⟨(hx.block b (lt_of_block a.block)).trans a.block,a.rising,a.below,a.keys⟩,rfl,heap_alloc_new w _,a.below,Zf _,Zf _,rfl,by simp,by simp⟩
theorem Qlu{E:List (Ent κ)}{n x y f}(h:E[n]?=some x)(b:f (mkE enc x)=mkE enc y) :
 ((E.map (mkE enc)).toArray.modify n f)=((E.set n y).map (mkE enc)).toArray:=by
 apply Zci;apply Zb9;intro c;simp only[Array.toList_modify,Zc2,Zaf,Zc6]
 by_cases e:n=c
 .subst e;have a:n<E.length:=(Zi.1 h).1;have hx:E[n]=x:=by rw[Zb a]at h;simpa using h
  simp[hx,b,a]
 .simp[e]
theorem Ql2{E:List (Ent κ)}{n:Nat}{k v f s}(h:E[n]?=some (k,v,s))(d:Xd8 w b enc E clock)(j:w'.heap[b]?=some (.map ((E.set n (k,f,s)).map (mkE enc)).toArray clock)):Xd8 w' b enc (E.set n (k,f,s)) clock:=by
 have g:n<E.length:=(Zi.1 h).1
 have m:(E.set n (k,f,s)).map (fun x=>(x.1,x.2.2))=E.map (fun x=>(x.1,x.2.2)):=by
  apply Zb9;intro i;simp only[Zaf,Zc6]
  by_cases e:n=i
  .subst e;have hx:E[n]=(k,v,s):=by rw[Zb g]at h;simpa using h
   simp[hx,g]
  .simp[e]
 have key:∀(c:(κ×Nat)->(κ×Nat)->Prop),E.Pairwise (fun x y=>c (x.1,x.2.2) (y.1,y.2.2))->(E.set n (k,f,s)).Pairwise (fun x y=>c (x.1,x.2.2) (y.1,y.2.2)):=by
  intro c l;have a:(E.map (fun x=>(x.1,x.2.2))).Pairwise c:=by rw[Z5];exact l
  rw[<- m,Z5]at a;exact a
 refine⟨j,key (fun x y=>x.2<y.2) d.rising,fun x hx=>?_,key (fun x y=>x.1≠y.1) d.keys⟩;rcases List.mem_or_eq_of_mem_set hx with a|a
 .exact d.below x a
 .rw[a];exact d.below (k,v,s) (Zap h)
theorem Qpv{E k v}(h:∀x∈E,x.1≠k)(c:Xd8 w b enc E clock)(d:w'.heap[b]?=some (.map ((E++[(k,v,clock)]).map (mkE enc)).toArray (clock+1))):Xd8 w' b enc (E++[(k,v,clock)]) (clock+1):=by
 refine⟨d,?_,?_,?_⟩
 .rw[Z7];exact⟨c.rising,by simp,fun x hx y a=>by simp at a;subst a;exact c.below x hx⟩
 .intro x hx;rcases Zj.1 hx with hx|hx
  .exact Nat.lt_succ_of_lt (c.below x hx)
  .simp at hx;subst hx;exact Nat.lt_succ_self _
 .rw[Z7];exact⟨c.keys,by simp,fun x hx y a=>by simp at a;subst a;exact h x hx⟩
variable [DecidableEq κ]
def Qfq:List (Ent κ)->κ->Nat->Option (Nat×Value)
 |[],_,_=>none
 |x::E,k,a=>if k=x.1 then some (a,x.2.1) else Qfq E k (a+1)
def Q7v:List (Ent κ)->κ->Value->Nat->List (Ent κ)
 |[],k,v,c=>[(k,v,c)]
 |x::E,k,v,c=>if k=x.1 then(x.1,v,x.2.2)::E else x::Q7v E k v c
theorem Qen(k v c):∀E:List (Ent κ),strip (Q7v E k v c)=Xe (strip E) k v
 |[]=>rfl
 |x::E=>by
  simp only[Q7v,strip,Zm,Xe];split
  .rfl
  .simp only[Zm];congr 1;exact Qen k v c E
theorem Qlk(k):∀(E:List (Ent κ)) (i:Nat),(Qfq E k i).map (·.2)=Qe (strip E) k
 |[],_=>rfl
 |x::E,i=>by
  simp only[Qfq,strip,Zm,Qe];split
  .rfl
  .exact Qlk k E (i+1)
theorem Qig{k v}:∀{E:List (Ent κ)} {i j:Nat},Qfq E k i=some (j,v)->∃n s,j=i+n/\E[n]?=some (k,v,s)/\∀a c,Q7v E k a c=E.set n (k,a,s)
 |[],i,j,h=>by simp[Qfq]at h
 |x::E,i,j,h=>by
  simp only[Qfq]at h
  by_cases e:k=x.1
  .rw[if_pos e]at h;obtain⟨rfl,rfl⟩:i=j/\x.2.1=v:=Su h;exact⟨0,x.2.2,rfl,by simp[e],fun a c=>by simp[Q7v,e]⟩
  .rw[if_neg e]at h;obtain⟨n,s,f,b,d⟩:=Qig h;exact⟨n+1,s,Om,Su b,fun a c=>by simp[Q7v,e,d]⟩
theorem Qif{k}:∀{E:List (Ent κ)} {i:Nat},Qfq E k i=none->(∀x∈E,x.1≠k)/\∀v c,Q7v E k v c=E++[(k,v,c)]
 |[],i,h=>⟨by simp,fun v c=>rfl⟩
 |x::E,i,h=>by
  simp only[Qfq]at h
  by_cases e:k=x.1
  .rw[if_pos e]at h;cases h
  .rw[if_neg e]at h;obtain⟨a,b⟩:=Qif h;exact⟨by simp only[Zr,forall_eq_or_imp];exact⟨fun q=>e q.symm,a⟩,fun v c=>by simp[Q7v,e,b]⟩
structure Qu6(P:Program)(kt:TypeId)(enc:κ->Value):Prop where
 check:∀(w:World) (k:κ) (e:Bool),(Instr.checkKey e 10000 kt (enc k)).run P w=.ok () w
 bits:∀k,Instr.sameBits 10000 (enc k) (enc k)=true
 find:∀(w:World) (k:κ) (E:List (Ent κ)),(Instr.findKey kt (enc k) (E.map (mkE enc))).run P w=.ok (Qfq E k 0) w
theorem Qr(h:P.underlying kt=some .string):Qu6 P kt Value.string where
 check w k e:=by
  rw[show (10000:Nat)=9999+1 from rfl];exact run_checkKey h (by simp[IsKey]) e 9999
 bits k:=by simp[Instr.sameBits,bytes_beq]
 find w k E:=by
  refine run_findKey h ?_
  suffices ∀a,Instr.findNow .string (.string k) (E.map (mkE Value.string)) a=some (Qfq E k a) from this 0
  induction E with
  |nil=>intro a;rfl
  |cons x E b =>
   intro a;simp only[Zm,Instr.findNow,Qfq,mkE,Instr.sameNow]
   by_cases e:k=x.1
   .subst e;have:(x.1 == x.1)=true:=(bytes_beq _ _).2 rfl;simp[this]
   .have:(k == x.1)=false:=by rw[<- Zai,bytes_beq];exact e
    simp only[this,if_neg e];exact b (a+1)
theorem Qhq(h:P.underlying kt=some (.int .i64)):Qu6 P kt (Value.int .i64) where
 check w k e:=by
  rw[show (10000:Nat)=9999+1 from rfl];exact run_checkKey h (by simp[IsKey]) e 9999
 bits k:=by simp[Instr.sameBits]
 find w k E:=by
  refine run_findKey h ?_
  suffices ∀a,Instr.findNow (.int .i64) (Vj k) (E.map (mkE (Value.int .i64))) a=some (Qfq E k a) from this 0
  induction E with
  |nil=>intro a;rfl
  |cons x E b =>
   intro a;simp only[Zm,Instr.findNow,Qfq,mkE,Instr.sameNow,if_true]
   by_cases e:k=x.1
   .subst e;simp
   .have:(k == x.1)=false:=Su e;simp only[this,if_neg e];exact b (a+1)
def Q3d(T:Tab):List (String×Nat×Nat)->List Value->Bool
 |[],_=>true
 |(nm,t,off)::fs,xs=>!(nm == "_")&&(match Qi6 T t with
  |some ⟨.int k,_,_,_⟩=>(match nth xs off with|some (.int k' _)=>decide (k'=k)|_=>false)
  |some ⟨.str,_,_,_⟩=>(match nth xs off with|some (.string _)=>true|_=>false)
  |some ⟨.bool,_,_,_⟩=>(match nth xs off with|some (.bool _)=>true|_=>false)
  |_=>false)&&Q3d T fs xs
theorem Qms{T:Tab}(hT:Qbl P T)(w:World)(em:Bool)(n:Nat):∀{gs:List Field} {fs:List (String×Nat×Nat)} {xs:List Value},gs.map (fun f=>(f.name,f.type,f.offset))=fs->Q3d T fs xs=true ->
 ∀f∈gs,f.name ≠ "_"∧∃v,(part f.type xs.toArray f.offset).run P w=.ok v w∧(Instr.checkKey em (n+1) f.type v).run P w=.ok () w
 |[],_,_,_,_,f,hf=>by simp at hf
 |g::gs,[],xs,hg,_,f,hf=>by simp at hg
 |g::gs,(nm,t,off)::fs,xs,hg,h,f,hf=>by
  simp only[Zm,Zc4,Prod.mk.injEq]at hg;obtain⟨⟨rfl,rfl,rfl⟩,hg'⟩:=hg;simp only[Q3d,Zk]at h;obtain⟨⟨h1,h2⟩,h3⟩:=h;rcases Zr.1 hf with rfl|hf
  .refine⟨Su h1,?_⟩;split at h2
   .rename_i k s1 s2 s3 ht;obtain⟨_,d0,_,hd,_,hsh,_⟩:=Xl (hT.get ht);obtain rfl:=Xcn hsh;split at h2
    .rename_i k' a ha;exact⟨_,Qcc hd rfl ha w,run_checkKey hd (by simpa [IsKey] using h2) em n⟩
    .cases h2
   .rename_i s1 s2 s3 ht;obtain⟨_,d0,_,hd,_,hsh,_⟩:=Xl (hT.get ht);obtain rfl:=Qse hsh;split at h2
    .rename_i a ha;exact⟨_,Qcc hd rfl ha w,run_checkKey hd (by simp[IsKey]) em n⟩
    .cases h2
   .rename_i s1 s2 s3 ht;obtain⟨_,d0,_,hd,_,hsh,_⟩:=Xl (hT.get ht);obtain rfl:=Xcm hsh;split at h2
    .rename_i a ha;exact⟨_,Qcc hd rfl ha w,run_checkKey hd (by simp[IsKey]) em n⟩
    .cases h2
   .cases h2
  .exact Qms hT w em n hg' h3 f hf
theorem Qij{T}(h:Qbl P T){d}(c:Xib P kt d){encl:κ->List Value}(o:∀k,Q3d T d (encl k)=true)(m:∀a b,eqL T d (encl a) (encl b)=some (decide (a=b)))
 (l:∀k,Instr.sameBits 10000 (.agg (encl k).toArray) (.agg (encl k).toArray)=true):Qu6 P kt (fun k=>.agg (encl k).toArray) where
 check w k e:=by
  rw[show (10000:Nat)=9999+1 from rfl,Instr.checkKey];simp only[Sem.run_bind,run_underlying c.und,Result.andThen_ok];rw[<- Array.forIn_toList];have deep:=Qms h w e 9998 c.fields (o k);generalize (P.fieldsOf kt).toList=L at deep
  induction L with
  |nil=>simp
  |cons f L g =>
   obtain⟨n,v,s,u⟩:=deep f (by simp);simp only[List.forIn_cons,Sem.run_bind,n,ne_eq,not_false_eq_true,if_true,Result.andThen_ok,s,u,Sem.run_pure];exact g (fun y r=>deep y (by simp[r]))
 bits:=l
 find w k E:=by
  rw[run_findKey_eq w (by rw[c.und])]
  suffices ∀i,(Instr.findAsking kt (.agg (encl k).toArray) (E.map (mkE fun k=>.agg (encl k).toArray)) i).run P w=.ok (Qfq E k i) w from this 0
  induction E with
  |nil=>intro i;simp[Instr.findAsking,Qfq]
  |cons x E g =>
   intro i;have j:=Qmg h c (m k x.1) w;simp only[Zm,Instr.findAsking,Qfq,mkE,Sem.run_bind,j,Result.andThen_ok]
   by_cases e:k=x.1
   .simp[e]
   .simp only[e,decide_false,Zal,if_false];exact g (i+1)
theorem Qht(f:P.underlying mt=some (.map kt et))(K:Qu6 P kt enc){z}(g:(zeroValue et).run P w=.ok z w)(e:MapAt w b enc L)(k ok) :
 (Instr.lookup mt (.map (some b)) (enc k) ok).run P w=.ok (if ok then .tuple #[(Qe L k).getD z,.bool (Qe L k).isSome] else(Qe L k).getD z) w:=by
 obtain⟨E,c,a,rfl⟩:=e;have d:=K.find w k E;rw[<- Qlk k E 0];simp only[Instr.lookup,Sem.run_bind,run_underlying f,Result.andThen_ok,Qdo a.block,K.check,Sem.run_pure,d]
 cases h:Qfq E k 0 with
 |none=>simp[g]
 |some p=>simp
theorem Qne(b:P.underlying mt=some (.map kt et))(K:Qu6 P kt enc){z}(c:(zeroValue et).run P w=.ok z w)(k ok) :
 (Instr.lookup mt (.map none) (enc k) ok).run P w=.ok (if ok then .tuple #[z,.bool false] else z) w:=by
 have a:=K.find w k [];simp only[Instr.lookup,Sem.run_bind,run_underlying b,Result.andThen_ok,K.check,Sem.run_pure];simp only[Zbk,Qfq]at a;simp[a,c]
theorem X5(f:P.underlying mt=some (.map kt et))(K:Qu6 P kt enc){e}(a:Xb P et=some e){cl}(c:Kept cl w b)(d:MapAt w b enc L)(k) :
 RdS P cl w (Instr.lookup mt (.map (some b)) (enc k) false) ((Qe L k).getD e.zero):=fun w' g=>by
 have:=Qht f K (Ql8 a w') (d.keep (c w' g)) k false;simpa using this
theorem Qph(f:P.underlying mt=some (.map kt et))(K:Qu6 P kt enc){e}(a:Xb P et=some e){cl}(c:Kept cl w b)(d:MapAt w b enc L)(k) :
 RdS P cl w (Instr.lookup mt (.map (some b)) (enc k) true) (.tuple #[(Qe L k).getD e.zero,.bool (Qe L k).isSome]):=fun w' g=>by
 have:=Qht f K (Ql8 a w') (d.keep (c w' g)) k true;simpa using this
theorem Qx(l:P.underlying mt=some (.map kt et))(K:Qu6 P kt enc)(r:MapAt w b enc L)(k v){R}
 (h:∀w',MapAt w' b enc (Xe L k v)->Only w w' b->R undef w'):Qys P (Instr.mapUpdate mt (.map (some b)) (enc k) v) w R:=by
 obtain⟨E,c,a,rfl⟩:=r;have d:=K.find w k E
 have u:∃o,(Instr.mapUpdate mt (.map (some b)) (enc k) v).run P w=.ok () (setBlock w b o)/\MapAt (setBlock w b o) b enc (Xe (strip E) k v):=by
  cases e:Qfq E k 0 with
  |none =>
   obtain⟨f,g⟩:=Qif e;refine⟨.map ((E++[(k,v,c)]).map (mkE enc)).toArray (c+1),?_,?_⟩
   .rw[e]at d;simp only[Instr.mapUpdate,Sem.run_bind,run_underlying l,Result.andThen_ok,Qdo a.block,K.check,d,Qgw _ a.block];simp[setBlock,mkE]
   .refine⟨_,_,Qpv f a (Qaf a.block),?_⟩;rw[<- g v c,Qen]
  |some p =>
   obtain⟨j,v0⟩:=p;obtain⟨n,s,z,i,x⟩:=Qig e;obtain rfl:j=n:=Om;refine⟨.map ((E.set j (k,v,s)).map (mkE enc)).toArray c,?_,?_⟩
   .rw[e]at d;have m:(((E.map (mkE enc)).toArray[j]?).map (·.key)).getD (enc k)=enc k:=by simp[i,mkE]
    simp only[Instr.mapUpdate,Sem.run_bind,run_underlying l,Result.andThen_ok,Qdo a.block,K.check,d,m,Instr.keyThatStays,K.bits,if_true,Sem.run_pure,Qgw _ a.block];rw[Qlu (y:=(k,v,s)) i rfl];rfl
   .refine⟨_,_,Ql2 i a (Qaf a.block),?_⟩;rw[<- x v c,Qen]
 obtain⟨o,f,g⟩:=u;exact⟨_,f,h _ g (Qao w b o)⟩
theorem Qpg(v:P.underlying mt=some (.map kt et))(K:Qu6 P kt enc){e}(x:Xb P et=some e)(A:MapAt w b enc L)(k){R}
 (h:∀w' s,Xha w' b enc (Xe L k ((Qe L k).getD e.zero)) k s->Only w w' b->R (.tuple #[(Qe L k).getD e.zero,Vj (s:Nat)]) w'):Qi7 P (Instr.mapEntry mt (.map (some b)) (enc k)) w R:=by
 obtain⟨E,c,a,rfl⟩:=A;have g:=K.find w k E;have l:=Qlk k E 0;have F:=Ql8 x w
 have C:∃o s,(Instr.mapEntry mt (.map (some b)) (enc k)).run P w=.ok (.tuple #[(Qe (strip E) k).getD e.zero,Vj (s:Nat)]) (setBlock w b o)/\Xha (setBlock w b o) b enc (Xe (strip E) k ((Qe (strip E) k).getD e.zero)) k s:=by
  cases d:Qfq E k 0 with
  |none =>
   obtain⟨r,u⟩:=Qif d;rw[d]at l;rw[<- l];refine⟨.map ((E++[(k,e.zero,c)]).map (mkE enc)).toArray (c+1),c,?_,?_⟩
   .rw[d]at g;simp only[Instr.mapEntry,Sem.run_bind,run_underlying v,Result.andThen_ok,Qdo a.block,K.check,g,F,Qgw _ a.block,Sem.run_pure];simp[setBlock,mkE,goInt]
   .refine⟨_,_,Qpv r a (Qaf a.block),?_,e.zero,by simp⟩;rw[<- u e.zero c,Qen];rfl
  |some p =>
   obtain⟨j,v0⟩:=p;obtain⟨n,s,H,m,D⟩:=Qig d;obtain rfl:j=n:=Om;rw[d]at l;rw[<- l];have B:(E.map (mkE enc)).toArray[j]?=some (mkE enc (k,v0,s)):=by simp[m]
   refine⟨.map ((E.set j (k,v0,s)).map (mkE enc)).toArray c,s,?_,?_⟩
   .rw[d]at g;simp only[Instr.mapEntry,Sem.run_bind,run_underlying v,Result.andThen_ok,Qdo a.block,K.check,g,B,Zcc,Zas,mkE,Instr.keyThatStays,K.bits,if_true,Sem.run_pure,Qgw _ a.block];have:=Qlu (enc:=enc) (f:=fun e=>{ e with key:=enc k }) (y:=(k,v0,s)) m rfl;rw[this];rfl
   .refine⟨_,_,Ql2 m a (Qaf a.block),?_,v0,?_⟩
    .rw[<- D v0 c,Qen];rfl
    .have z:j<E.length:=(Zi.1 m).1;exact Zap (i:=j) (by simp[Zc6,z])
 obtain⟨o,s,r,u⟩:=C;exact⟨_,_,r,h _ s u (Qao w b o)⟩
theorem Qpi{k s}(l:Xha w b enc L k s)(v){R}
 (h:∀w',MapAt w' b enc (Xe L k v)->Only w w' b->R undef w'):Qys P (Instr.entryStore mt (.map (some b)) (Vj (s:Nat)) v) w R:=by
 obtain⟨E,c,d,rfl,v0,u⟩:=l;obtain⟨n,a⟩:=List.getElem?_of_mem u;have m:n<E.length:=(Zi.1 a).1
 have r:((E.map (mkE enc)).toArray.findIdx? (fun e=>(e.born:Int) == (s:Int)))=some n:=by
  rw[List.findIdx?_toArray,Z9];refine⟨Su m,?_,fun j z=>?_⟩
  .have:E[n]=(k,v0,s):=by rw[Zb m]at a;simpa using a
   simp[mkE,this]
  .have g:=Zaz.1 d.rising j n Om m z;have:E[n]=(k,v0,s):=by rw[Zb m]at a;simpa using a
   rw[this]at g;simp[mkE];simp at g;omega
 have A:Q7v E k v c=E.set n (k,v,s):=by
  have:∀(E:List (Ent κ)) (n:Nat),E.Pairwise (fun x y=>x.1≠y.1)->E[n]?=some (k,v0,s)->Q7v E k v c=E.set n (k,v,s):=by
   intro E
   induction E with
   |nil=>intro n _ h;simp at h
   |cons x E B =>
    intro n g h;rw[Zab]at g
    cases n with
    |zero =>
     obtain rfl:x=(k,v0,s):=Su h;simp[Q7v]
    |succ n =>
     have l:(k,v0,s)∈E:=Zap (i:=n) (Su h);simp only[Q7v,if_neg (fun e:k=x.1=>g.1 _ l e.symm),List.set_cons_succ];rw[B n g.2 (Su h)]
  exact this E n d.keys a
 refine⟨setBlock w b (.map ((E.set n (k,v,s)).map (mkE enc)).toArray c),?_,h _ ⟨_,_,Ql2 a d (Qaf d.block),?_⟩ (Qao _ _ _)⟩
 .have l:=Qlu (enc:=enc) (f:=fun e=>{ e with val:=v }) (y:=(k,v,s)) a rfl;have o:(asInt (Vj (s:Int))).run P w=.ok (s:Int) w:=by simp[asInt,asIntOf]
  simp only[Instr.entryStore,Sem.run_bind,Qdo d.block,Result.andThen_ok,o,r,Qgw _ d.block];rw[l];rfl
 .rw[<- A,Qen]
end
end Go.Proofs.YtnpacgccajekgaaGreatDoor
namespace Go.Proofs.YtnpacgccajekgaaGreatDoor
open Go.Se Go.RowKit
open Go.ChangeMaps (setBlock)
section
variable {κ:Type}{enc:κ->Value}{P:Program}{w w':World}{b:Nat}{L:List (κ×Value)}
theorem Qff{r vs ty}(hi:Iter w r b enc L vs){R}
 (ab:vs.Perm L->R (.tuple #[.bool false]) w)
 (hstep:∀x w',x∈L->(∀y∈vs,y.1≠x.1)->vs.length<L.length->Iter w' r b enc L (vs++[x])->Only w w' r->(∀k,k.heap[r]?=w'.heap[r]? -> k.heap[b]?=w'.heap[b]? -> (Instr.entry (Pj r)).run P k=.ok (.tuple #[enc x.1,x.2]) k)->R (.tuple #[.bool true,enc x.1,x.2]) w') :
 Qi7 P (Instr.next (Pj r) false ty) w R:=by
 have K:=hi.ne;obtain⟨E,c,V,j,u,g,rfl,C,I,af,M,rfl,A,n⟩:=hi;have ac:∀x∈(E.map (mkE enc)).toArray.toList,x.born<j:=(by intro x hx;simp only[Zh]at hx;obtain⟨y,d,rfl⟩:=hx;exact I y d)
 have ag:∀x∈E,∀y∈E,x.2.2=y.2.2->x=y:=by
  have:∀E:List (Ent κ),E.Pairwise (fun x y=>x.2.2<y.2.2)->∀x∈E,∀y∈E,x.2.2=y.2.2->x=y:=by
   intro E
   induction E with
   |nil=>intro _ x hx;simp at hx
   |cons z E ah =>
    intro m x hx y d l;rw[Zab]at m;rcases Zr.1 hx with i|i<;>rcases Zr.1 d with f|f
    .rw[i,f]
    .subst i;have:=m.1 _ f;omega
    .subst f;have:=m.1 _ i;omega
    .exact ah m.2 x i y f l
  exact this E g.rising
 rcases run_next_at (P:=P) w ty r b j u _ _ c C g.block ac af with⟨U,D⟩|⟨e,l,S,N,D⟩
 .refine⟨_,_,D,ab ?_⟩;have Z:∀x∈E,x∈V:=(by intro x hx;have v:leftOf (E.map (mkE enc)).toArray (V.map fun x:Ent κ=>x.2.2).toArray=#[]:=Array.eq_empty_of_size_eq_zero U;unfold leftOf at v;rw[Array.filter_eq_empty_iff]at v;have:=v (mkE enc x) (by simp;exact⟨_,_,_,hx,rfl⟩);simp[mkE]at this;obtain⟨a,ai,s⟩:=this;have i:=n _ s;have f:=ag _ hx _ i rfl;rw[f];exact s);have m:V.Perm E:=(by have W:E.Nodup:=(by rw[Zaj];exact g.rising.imp (fun h e=>by subst e;omega));exact Qfh A W n Z);exact m.map _
 .unfold leftOf at l;simp only[Array.mem_toList_iff,Array.mem_filter,List.mem_toArray,Zh]at l;obtain⟨⟨x,hx,rfl⟩,H⟩:=l;have F:x∉V:=(by intro s;simp[mkE]at H;exact H x.1 x.2.1 s);have J:S.heap=w.heap:=by rcases N with rfl|rfl<;>rfl
  have B:Only w (setBlock S r (.mapIter (some b) j ((V.map fun x:Ent κ=>x.2.2).toArray.push (mkE enc x).born) c)) r:=by
   rcases N with rfl|rfl
   .exact Qao _ _ _
   .have f:=Qao w.drew r (.mapIter (some b) j ((V.map fun x:Ent κ=>x.2.2).toArray.push (mkE enc x).born) c);exact⟨f.os,f.tape,f.output,f.size,f.block⟩
  refine⟨_,_,D,hstep (x.1,x.2.1) _ ?_ ?_ ?_ ?_ B ?_⟩
  .exact Zh.2 ⟨x,hx,rfl⟩
  .intro y d l;obtain⟨z,O,rfl⟩:=Zh.1 d;have:=Qi5 g.keys (n z O) hx l;exact F (this▸O)
  .have:(x::V).length<=E.length:=Qeg (Zbp.2 ⟨F,A⟩) (fun y d=>by
    rcases Zr.1 d with rfl|d
    .exact hx
    .exact n y d)
   simp[strip]at this⊢;omega
  .refine⟨E,c,V++[x],j,c,⟨(B.block b (Ne.symm K)).trans g.block,g.rising,g.below,g.keys⟩,rfl,?_,I,M,M,by simp[strip],?_,?_⟩
   .rw[Qaf (o:= .mapIter (some b) j (V.map fun x:Ent κ=>x.2.2).toArray u) (by rw[J];exact C)];simp[mkE]
   .rw[Zc5];exact⟨A,by simp,fun a Y y d=>by simp at d;subst d;rintro rfl;exact F Y⟩
   .intro y d;rcases Zj.1 d with d|d
    .exact n y d
    .simp at d;subst d;exact hx
  .intro k i f;have ae:k.heap[r]?=some (.mapIter (some b) j ((V.map fun x:Ent κ=>x.2.2).toArray.push (mkE enc x).born) c):=(by rw[i,Qaf (o:= .mapIter (some b) j (V.map fun x:Ent κ=>x.2.2).toArray u) (by rw[J];exact C)]);have aa:k.heap[b]?=some (.map (E.map (mkE enc)).toArray c):=by rw[f,(B.block b (Ne.symm K))];exact g.block
   refine run_entry_at k r b j _ _ c (mkE enc x) ae aa (by simp;exact⟨_,_,_,hx,rfl⟩) ?_;simp only[Zz];rw[Zaj,Z5];exact g.rising.imp (fun h e=>by simp[mkE]at e;omega)
theorem Qa1{r R x}(h:(Instr.entry (Pj r)).run P w=.ok x w)(a:R x w):Qi7 P (Instr.entry (Pj r)) w R:=⟨_,_,h,a⟩
end
end Go.Proofs.YtnpacgccajekgaaGreatDoor
namespace Go.Proofs.YtnpacgccajekgaaGreatDoor
open Go.Se Go.RowKit
def Qfg(c:UInt8):Bool:=((decide ((97:Int)<=c.toNat)&&decide ((c.toNat:Int)<=122))||(decide ((48:Int)<=c.toNat)&&decide ((c.toNat:Int)<=57)))||decide ((c.toNat:Int)=45)
def Qo(s:Bj):Bool:=decide (1<=s.size)&&decide (s.size<=24)&&s.data.toList.all Qfg
theorem bytes_at(s:Bj)(k:Nat)(h):s[k]?=some (s.data.toList[k]'(Su h)):=by
 rw[getElem?_pos s k h];rfl
theorem Xea{α:Type}{l:List α}{p k}(h:∀i (hi:i<l.length),i<k->p l[i]=true)(a:l.length<=k):l.all p=true:=by
 rw[Zaa];intro x hx;obtain⟨i,hi,rfl⟩:=Za2 hx;exact h i hi Om
theorem Xid{α:Type}{l:List α}{p k}(a:k<l.length)(h:p l[k]=false):l.all p=false:=by
 rw[List.all_eq_false];exact⟨l[k],Zu a,by simp[h]⟩
def inB(n lo hi:Int):Bool:=decide (lo<=n)&&decide (n<=hi)
def Qde(s:Bj):Option Nat:=s.data.toList.findIdx? (· == 59)
def Xhm(s:Bj):Int:=match Qde s with|some a=>a|none=>-1
theorem Qpu{s i}(h:Qde s=some i):i<s.size:=by
 unfold Qde at h;rw[Z9]at h;obtain⟨a,_⟩:=h;simpa using a
def Qcw(s:Bj):Bj:=match Qde s with|some a=>s.extract 0 a|none=>s
def Qac(s:Bj):List Value:= [.string s]
theorem Qv(s):(Qac s).length=1:=rfl
theorem Qux(s):∀u∈Qac s,u.oneCell'=true:=by simp[Qac,Value.oneCell']
abbrev SlT:=Sl Qac 1
theorem Xme:Tryz.prog.underlying 42=some (.slice 9):=by kernel_rfl
def partsOf(c:UInt8):List UInt8->List (List UInt8)
 |[]=>[[]]
 |x::a=>if x=c then []::partsOf c a else match partsOf c a with
  |[]=>[[x]]
  |p::ps=>(x::p)::ps
theorem Qin{c}:∀{a:List UInt8},(∀x∈a,x≠c)->partsOf c a=[a]
 |[],_=>rfl
 |x::a,h=>by
  have:=Qin (c:=c) (a:=a) fun y b=>h y (by simp[b])
  simp[partsOf,h x (by simp),this]
theorem Xfx(c):∀l:List UInt8,partsOf c l≠[]
 |[]=>by simp[partsOf]
 |x::a=>by
  unfold partsOf;split
  .simp
  .split<;>simp
theorem Qpt(c):∀l:List UInt8,(partsOf c l).length<=l.length+1
 |[]=>by simp[partsOf]
 |x::b=>by
  have:=Qpt c b;unfold partsOf;split
  .simp;omega
  .split
   .simp
   .rename_i p ps a;rw[a]at this;simp at this⊢;omega
def bytesOf(l:List UInt8):Bj:=⟨l.toArray⟩
theorem Qvt(s):bytesOf s.data.toList=s:=rfl
def Qab(c:UInt8)(s:Bj):List Bj:=(partsOf c s.data.toList).map bytesOf
theorem Qdu(s:Bj)(i j):(s.extract i j).data.toList=(s.data.toList.drop i).take (j-i):=by
 rw[ByteArray.data_extract,Array.toList_extract]
theorem Qgp(s:Bj)(i j):s.extract i j=bytesOf ((s.data.toList.drop i).take (j-i)):=by
 rw[<- Qdu];rfl
def Xg(s:Bj):List Bj:=match Qde s with
 |some a=>if a+1=s.size then [] else Qab 44 (s.extract (a+1) s.size)
 |none=>[]
theorem Q1h{s i}(a:Qde s=some i)(h:¬i+1=s.size):Xg s=Qab 44 (s.extract (i+1) s.size):=by
 unfold Xg;rw[a];simp[h]
def bLt(a b:Bj):Bool:=Op.bytesLess a.toList b.toList
def Qx9(l:List Bj)(i:Nat):Bool:=Qo (l.getD i .empty)&&(i == 0||bLt (l.getD (i-1) .empty) (l.getD i .empty))
def Qia(l:List Bj):Bool:=(List.range l.length).all (Qx9 l)
def Qc8(s:Bj):Bool:=(Qde s).isSome&&Qo (Qcw s)&&(Qia (Xg s)&&decide ((Xg s).length<=8))
theorem Q64{l k}(h:∀i,i<k->Qx9 l i=true)(b:l.length<=k):Qia l=true:=by
 unfold Qia;rw[Zaa];intro i a;exact h i (by have:=List.mem_range.1 a;omega)
theorem Q65{l k}(a:k<l.length)(h:Qx9 l k=false):Qia l=false:=by
 unfold Qia;rw[List.all_eq_false];exact⟨k,List.mem_range.2 a,by simp[h]⟩
theorem getD_lt{α:Type}{l:List α}{i d}(h:i<l.length):l.getD i d=l[i]:=by
 rw[Zbt,Zb h];rfl
theorem Sl.getS{w A l}(h:SlT w A l){k}(b:k<l.length):∃a,A=some a/\w.cell? (a.add (k*1))=some (.string (l.getD k .empty)):=by
 obtain⟨a,c,d⟩:=h.get b;exact⟨a,c,by rw[getD_lt b];exact Qp d⟩
theorem Q3r(s):(Xg s).length<=s.size+1:=by
 unfold Xg;split
 .split
  .simp
  .have:=Qpt 44 (s.extract (‹Nat›+1) s.size).data.toList;simp[Qab]at this⊢;omega
 .simp
def k6(e:Ev):Bool:=decide (e.kind=0)||decide (e.kind=1)||decide (e.kind=2)||decide (e.kind=3)||decide (e.kind=5)||decide (e.kind=6)
def k4(e:Ev):Bool:=decide (e.kind=7)||decide (e.kind=8)||decide (e.kind=9)||decide (e.kind=10)
def Qkg(e:Ev):Bool:=
 bif k6 e then Qo e.person&&Qo e.item&&decide (e.text=⟨#[]⟩)&&decide (e.val=0)
 else bif decide (e.kind=4) then Qo e.person&&Qo e.item&&decide (e.text=⟨#[]⟩)&&inB e.val 1 5
 else bif k4 e then Qo e.person&&decide (e.item=⟨#[]⟩)&&Qo e.text&&decide (e.val=0)
 else bif decide (e.kind=11) then decide (e.person=⟨#[]⟩)&&Qo e.item&&Qc8 e.text&&inB e.val 0 1048576
 else bif decide (e.kind=12) then decide (e.person=⟨#[]⟩)&&Qo e.item&&decide (e.text=⟨#[]⟩)&&inB e.val 0 1048576
 else bif decide (e.kind=13) then decide (e.person=⟨#[]⟩)&&Qo e.item&&decide (e.text=⟨#[]⟩)&&decide (e.val=0)
 else bif decide (e.kind=14) then Qo e.person&&decide (e.item=⟨#[]⟩)&&decide (e.text=⟨#[]⟩)&&decide (e.val=0)
 else false
def Xy(e:Ev):Bool:=Qo e.src&&inB e.num 1 1099511627776&&inB e.at_ 0 1099511627776&&Qkg e
def Q5(a b:Ev):Bool:=bif decide (a.at_=b.at_) then(bif decide (a.src=b.src) then decide (a.num<b.num) else bLt a.src b.src) else decide (a.at_<b.at_)
def Qda(s:Bj):Bj:=bif decide (s=⟨#[]⟩) then⟨#[46]⟩ else s
def kindNames:List Bj:= [⟨#[115,101,101,110]⟩,⟨#[111,112,101,110,101,100]⟩,⟨#[102,105,110,105,115,104,101,100]⟩,⟨#[98,111,117,103,104,116]⟩,⟨#[114,97,116,101,100]⟩,⟨#[104,105,100,100,101,110]⟩,⟨#[117,110,104,105,100,100,101,110]⟩,⟨#[102,111,108,108,111,119,101,100]⟩,⟨#[117,110,102,111,108,108,111,119,101,100]⟩,⟨#[109,117,116,101,100]⟩,⟨#[117,110,109,117,116,101,100]⟩,⟨#[108,105,115,116,101,100]⟩,⟨#[115,116,111,99,107,101,100]⟩,⟨#[100,101,108,105,115,116,101,100]⟩,⟨#[102,111,114,103,111,116,116,101,110]⟩]
theorem Q2g{m}(h:9<m):Lib.decDigits m=Lib.decDigits (m/10)++[UInt8.ofNat (48+m%10)]:=by
 rw[Lib.decDigits,dif_neg Om]
theorem Xi0(n)(h:n<9223372036854775808):(Lib.decDigits n).length<=21:=by
 have:=Lib.itoa_length_le (n:Int) Om Om;rw[Lib.itoa_nonneg]at this;exact this
theorem Q8o(a b):bytesOf a++bytesOf b=bytesOf (a++b):=by
 unfold bytesOf;apply ByteArray.ext;simp
theorem Qag(a):(bytesOf a).size=a.length:=by simp[bytesOf,ByteArray.size]
def Qd4(n:Nat):Bj:=bytesOf (Lib.decDigits n)
def spB:Bj:=⟨#[32]⟩
theorem sz2{a b:Bj}(c:a.size<=1000000000)(d:b.size<=1000000000):a.size+b.size<=9223372036854775807:=Om
def knB(e:Ev):Bj:=kindNames.getD e.kind.toNat .empty
def Qlb(e:Ev):Bj:=
 e.src++spB++Qd4 e.num.toNat++spB++Qd4 e.at_.toNat++spB++knB e++spB++Qda e.person++spB++Qda e.item++spB++Qd4 e.val.toNat++spB++Qda e.text
structure FOk(e:Ev):Prop where
 num:0<=e.num/\e.num<9223372036854775808
 at_:0<=e.at_/\e.at_<9223372036854775808
 val:0<=e.val/\e.val<9223372036854775808
 kind:0<=e.kind/\e.kind<15
 src:e.src.size<1000000
 person:e.person.size<1000000
 item:e.item.size<1000000
 text:e.text.size<1000000
theorem Qf3(n)(h:n<9223372036854775808):(Qd4 n).size<=21:=by
 unfold Qd4;rw[Qag];exact Xi0 n h
def Qbm(a b:Ev):Bool:=bif Q5 a b||Q5 b a then Q5 a b else bLt (Qlb a) (Qlb b)
def Qc0(e x:Ev):Bool:=decide (x.src=e.src)&&decide (x.num=e.num)
def Qba(out:List Ev)(e:Ev):List Ev:=match out.findIdx? (Qc0 e) with
 |none=>out++[e]
 |some k=>bif Qbm e (out.getD k e) then out.set k e else out
def Qd5(l:List Ev):List Ev:=l.foldl Qba []
theorem Quc(out e):(Qba out e).length<=out.length+1:=by
 unfold Qba;split
 .simp
 .cases Qbm e (out.getD _ e)<;>simp
theorem Qkl:∀(l out:List Ev),(l.foldl Qba out).length<=out.length+l.length
 |[],out=>by simp
 |e::l,out=>by
  have a:=Qkl l (Qba out e);have b:=Quc out e;simp at a⊢;omega
theorem Q27(l):(Qd5 l).length<=l.length:=by
 have:=Qkl l [];simpa [Qd5] using this
theorem Qud{out e x}(h:x∈Qba out e):x∈out\/x=e:=by
 unfold Qba at h;split at h
 .simpa using h
 .cases a:Qbm e (out.getD _ e)<;>rw[a]at h
  .exact .inl h
  .exact List.mem_or_eq_of_mem_set h
theorem Qkm:∀{l out:List Ev} {x:Ev},x∈l.foldl Qba out->x∈out\/x∈l
 |[],out,x,h=>.inl h
 |e::l,out,x,h=>by
  rcases Qkm (l:=l) h with h|h
  .rcases Qud h with h|h
   .exact .inl h
   .exact .inr (by simp[h])
  .exact .inr (by simp[h])
theorem Qkn{l x}(h:x∈Qd5 l):x∈l:=by
 rcases Qkm h with h|h
 .simp at h
 .exact h
theorem Qog:∀x:List UInt8,Op.bytesLess x x=false
 |[]=>rfl
 |a::x=>by simp[Op.bytesLess,Qog x]
theorem Xhc(x):Op.bytesLess x []=false:=by cases x<;>rfl
theorem Xmc{a b:UInt8}:a<b↔a.toNat<b.toNat:=Iff.rfl
theorem Xmb{a b:UInt8}:a=b↔a.toNat=b.toNat:=UInt8.toNat_inj.symm
theorem Qyz{a b x y}:Op.bytesLess (a::x) (b::y)=true↔a.toNat<b.toNat\/(a=b/\Op.bytesLess x y=true):=by
 simp only[Op.bytesLess,Zbg,decide_eq_true_eq,Zk,beq_iff_eq,Xmc]
theorem Qsv:∀{x y z:List UInt8},Op.bytesLess x y=true->Op.bytesLess y z=true->Op.bytesLess x z=true
 |x,[],z,h,_=>by rw[Xhc]at h;cases h
 |_,b::y,[],_,h=>by rw[Xhc]at h;cases h
 |[],b::y,c::z,_,_=>rfl
 |a::x,b::y,c::z,h,k=>by
  rw[Qyz]at h k⊢;rcases h with h|⟨rfl,h⟩<;>rcases k with k|⟨rfl,k⟩
  .exact .inl Om
  .exact .inl h
  .exact .inl k
  .exact .inr ⟨rfl,Qsv h k⟩
theorem Xhd:∀{x y:List UInt8},Op.bytesLess x y=false->Op.bytesLess y x=false->x=y
 |[],[],_,_=>rfl
 |[],b::y,h,_=>by simp[Op.bytesLess]at h
 |a::x,[],_,h=>by simp[Op.bytesLess]at h
 |a::x,b::y,h,k=>by
  rw[<- Zai,Qyz]at h k;have c:a=b:=by rw[Xmb];omega
  subst c;rw[Xhd (x:=x) (y:=y) (by rw[<- Zai];exact fun e=>h (.inr ⟨rfl,e⟩)) (by rw[<- Zai];exact fun e=>k (.inr ⟨rfl,e⟩))]
theorem Xei{x y}(h:Op.bytesLess x y=true):Op.bytesLess y x=false:=by
 cases k:Op.bytesLess y x with
 |false=>rfl
 |true=>have:=Qsv h k;rw[Qog]at this;cases this
theorem Qv7:∀x y:List UInt8,Lib.compareBytes x y=if Op.bytesLess x y=true then -1 else if Op.bytesLess y x=true then 1 else 0
 |[],[]=>rfl
 |[],b::y=>by simp[Lib.compareBytes,Op.bytesLess]
 |a::x,[]=>by simp[Lib.compareBytes,Op.bytesLess]
 |a::x,b::y=>by
  simp only[Lib.compareBytes,Qyz,Qv7 x y,Xmc]
  by_cases c:a.toNat<b.toNat
  .simp[c]
  .by_cases d:b.toNat<a.toNat
   .have f:¬(a=b):=fun e=>by rw[e]at d;omega
    simp[c,d,f]
   .have:a=b:=by rw[Xmb];omega
    subst this;simp[c]
theorem Q8e{a b:Bj}(h:a.toList=b.toList):a=b:=by
 rw[ByteArray.toList_eq,ByteArray.toList_eq]at h;exact WideShapes.bytes_inj h
theorem Xu(a):bLt a a=false:=Qog _
theorem Qb3{a b c}(h:bLt a b=true)(k:bLt b c=true):bLt a c=true:=Qsv h k
theorem Qb4{a b}(h:bLt a b=false)(k:bLt b a=false):a=b:=Q8e (Xhd h k)
theorem Qdq{a b}(h:bLt a b=true):bLt b a=false:=Xei h
def Qcp(a b:Bj):Int:=if bLt a b=true then -1 else if bLt b a=true then 1 else 0
theorem Xiw(a b):Lib.compareBytes a.data.toList b.data.toList=Qcp a b:=by
 rw[Qv7];unfold Qcp bLt;rw[ByteArray.toList_eq,ByteArray.toList_eq]
def Qc5(a b:Int):Int:=if a<b then -1 else if b<a then 1 else 0
theorem Qes{a b}:Qc5 a b=0↔a=b:=by unfold Qc5;split<;>(try split)<;>omega
theorem Qb5{a b}:Qcp a b=0↔a=b:=by
 unfold Qcp;constructor
 .intro h;split at h
  .omega
  .split at h
   .omega
   .rename_i c d;exact Qb4 (Su c) (Su d)
 .rintro rfl;simp[Xu]
theorem Qfc(a b):Q5 a b=true↔a.at_<b.at_\/(a.at_=b.at_/\(bLt a.src b.src=true\/(a.src=b.src/\a.num<b.num))):=by
 unfold Q5
 by_cases h:a.at_=b.at_
 .by_cases k:a.src=b.src
  .simp[h,k,Xu]
  .simp[h,k]
 .simp[h]
def Qj4(a b:Ev):Int:=if Qc5 a.at_ b.at_≠0 then Qc5 a.at_ b.at_ else if Qcp a.src b.src≠0 then Qcp a.src b.src else Qc5 a.num b.num
theorem Qbo:Swo Q5 where
 asymm x y h:=by
  rw[<- Zai];intro k;rw[Qfc]at h k;rcases h with h|⟨l,h|⟨d,n⟩⟩<;>rcases k with k|⟨m,k|⟨f,o⟩⟩<;>try omega
  .rw[Qdq h]at k;cases k
  .rw[f,Xu]at h;cases h
  .rw[d,Xu]at k;cases k
 trans x y z h k:=by
  rw[<- Zai]at h k⊢;intro a;rw[Qfc]at a;rw[Qfc]at h k;have l:x.at_<=y.at_:=Om;have m:y.at_<=z.at_:=Om;rcases a with a|⟨e,a⟩
  .omega
  .have i:y.at_=x.at_:=Om;have j:z.at_=y.at_:=Om;have d:¬(bLt y.src x.src=true\/(y.src=x.src/\y.num<x.num)):=fun q=>h (.inr ⟨i,q⟩)
   have f:¬(bLt z.src y.src=true\/(z.src=y.src/\z.num<y.num)):=fun q=>k (.inr ⟨j,q⟩)
   by_cases c:bLt x.src y.src=true
   .by_cases g:bLt y.src z.src=true
    .have b:=Qb3 c g;rcases a with q|⟨q,_⟩
     .rw[Qdq b]at q;cases q
     .rw[q,Xu]at b;cases b
    .have b:y.src=z.src:=Qb4 (Su g) (by simpa using fun q=>f (.inl q));rw[b]at c;rcases a with q|⟨q,_⟩
     .rw[Qdq c]at q;cases q
     .rw[q,Xu]at c;cases c
   .have b:x.src=y.src:=Qb4 (Su c) (by simpa using fun q=>d (.inl q));rw[b]at a d;rcases a with q|⟨q,s⟩
    .exact f (.inl q)
    .have:¬y.num<x.num:=fun r=>d (.inr ⟨rfl,r⟩)
     have:¬z.num<y.num:=fun r=>f (.inr ⟨q,r⟩)
     omega
theorem Qil{x y}(h:Q5 x y=false)(k:Q5 y x=false):x.at_=y.at_/\x.src=y.src/\x.num=y.num:=by
 rw[<- Zai,Qfc]at h k;have e:x.at_=y.at_:=Om;have b:¬bLt x.src y.src=true:=fun q=>h (.inr ⟨e,.inl q⟩)
 have c:¬bLt y.src x.src=true:=fun q=>k (.inr ⟨e.symm,.inl q⟩)
 have a:x.src=y.src:=Qb4 (Su b) (Su c);have d:¬x.num<y.num:=fun q=>h (.inr ⟨e,.inr ⟨a,q⟩⟩)
 have f:¬y.num<x.num:=fun q=>k (.inr ⟨e.symm,.inr ⟨a.symm,q⟩⟩)
 exact⟨e,a,Om⟩
theorem Xer{a b}:Qcp a b<0↔bLt a b=true:=by
 unfold Qcp;split
 .rename_i h;simp[h]
 .rename_i h;split<;>simp[h]
theorem Q2a{a b}:Qc5 a b<0↔a<b:=by unfold Qc5;split<;>(try split)<;>omega
theorem Qco(a b):decide (Qj4 a b<0)=Q5 a b:=by
 rw[Zc7,decide_eq_true_eq,Qfc];unfold Qj4
 by_cases h:Qc5 a.at_ b.at_=0
 .have e:=Qes.1 h;rw[if_neg (Su h)]
  by_cases k:Qcp a.src b.src=0
  .have c:=Qb5.1 k;rw[if_neg (Su k),Q2a];simp[e,c,Xu]
  .have c:a.src≠b.src:=fun q=>k (Qb5.2 q)
   rw[if_pos k,Xer];simp[e,c]
 .have e:a.at_≠b.at_:=fun q=>h (Qes.2 q)
  rw[if_pos h,Q2a];simp[e]
theorem Qok(a b):Qj4 a b=0↔a.at_=b.at_/\a.src=b.src/\a.num=b.num:=by
 unfold Qj4
 by_cases h:Qc5 a.at_ b.at_=0
 .have e:=Qes.1 h;rw[if_neg (Su h)]
  by_cases k:Qcp a.src b.src=0
  .have c:=Qb5.1 k;rw[if_neg (Su k),Qes];simp[e,c]
  .have c:a.src≠b.src:=fun q=>k (Qb5.2 q)
   rw[if_pos k];simp[c,k]
 .have e:a.at_≠b.at_:=fun q=>h (Qes.2 q)
  rw[if_pos h];simp[e,h]
