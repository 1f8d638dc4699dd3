import Derived.Sort.Grow
import Derived.Deep.Draws
import Derived.Shelf.SlGeneric
import Derived.Shelf.SlSortCmp.WholeK
import Derived.Shelf.SlSortCmp.NoneTotal
import Derived.Test.YtnpacgccajekgaaGreatDoorGN
set_option linter.all false
namespace Go.Proofs.YtnpacgccajekgaaGreatDoor
open Go.Se Go.RowKit
theorem Qa4{P t}(h:P.underlying t=some (.pointer (P.pointee t)))(p ox oy):Qve P t ox oy (.pointer p) (.pointer none) p.isNone:=by
 intro w;have a:=run_equal_pointer_nil (P:=P) w t p h;constructor
 .simp[eqGuard,binOp,a]
 .simp[eqGuard,binOp,a]
theorem Xat{a:Type}{enc:a->Value}{P w b L mt j d}(h:P.underlying mt=some (.map j d)){cl}(f:Kept cl w b)(g:MapAt w b enc L) :
 RdS P cl w (Builtin.len_ #[mt] 0 #[.map (some b)]) (Vj (L.length:Int)):=fun k i=>by
 obtain⟨E,c,e,rfl⟩:=g.keep (f k i);simp[Builtin.len_,run_underlying h,Qdo e.block,strip,goInt]
def wCv(c:Cfg)(A:Option Addr)(n cap:Nat)(any:Bool)(last:Ev)(q:WP)(v:Value):List Value:=
 [vi c.half,vi c.width,vi c.gap,vi c.span,vi c.floor,vi c.crowd,.slice A n cap,.bool any,
  .string last.src,Vj last.num,Vj last.at_,Vj last.kind,.string last.person,.string last.item,Vj last.val,.string last.text,
  .map (some q.ba),.map (some q.bf),Pj q.pc,Pj q.pw,Pj q.pd,Pj q.pp,Pj q.ps,v]
structure WQL(w:World)(T:Nat->Prop)(p:Nat)(c:Cfg)(z:List Ev)(v:Value)(col:Nat->Nat)(q:WP)(A:Option Addr)(n cap:Nat)(any:Bool)(last:Ev):Prop where
 head:At w p 87 (wCv c A n cap any last q v)
 cts:Qqs w col c q (Qi c.width z)
 colp:col p=6
 tset:∀k,col k≠0->T k
 tlt:∀k,T k->k<w.heap.size
 evs:n=z.length/\SlE w A z/\∀a,A=some a->col a.block=9
structure WQ(w:World)(T:Nat->Prop)(p:Nat)(c:Cfg)(z:List Ev)(v:Value):Prop where
 at_:∃col q A n cap any last,WQL w T p c z v col q A n cap any last
 may:∀x∈z,Xy x=true
 rise:Rise z
 len:z.length<1000000
theorem WV.q{w base p c z}(h:WV w base p c z):∃T,WQ w T p c z (.pointer none)/\∀k,T k->base<=k:=by
 obtain⟨col,q,A,cap,d⟩:=h.at_;have g:=d.cts;rw[(Xbb c.width z).2]at g;have j:=d.head.lt;have i:=(Xbb c.width z).1;refine⟨fun k=>(if k<w.heap.size then col k else 0)≠0,⟨⟨fun k=>if k<w.heap.size then col k else 0,q,A,_,cap,_,_,d.head,g.keep fun k b _=>⟨rfl,if_pos b⟩,by rw[if_pos j];exact d.cols.1,fun k b=>b,fun k b=>?_,by rw[i],by have:=d.evs.sl Qau;rwa [i]at this,fun a f=>by rw[if_pos (d.evs.block f).2];exact d.cols.2.2.2 a f⟩,h.may,h.rise,h.len⟩,fun k b=>?_⟩
 .by_cases e:k<w.heap.size
  .exact e
  .exact absurd (if_neg e) b
 .by_cases e:k<w.heap.size
  .simp only[if_pos e]at b;exact d.low.2 k b
  .exact absurd (if_neg e) b
theorem WQ.keep{w w1 T p c z v}(h:WQ w T p c z v)(hx:∀k,T k->w1.heap[k]?=w.heap[k]?):WQ w1 T p c z v:=by
 obtain⟨⟨col,q,A,n,cap,any,last,b⟩,e,f,g⟩:=h;exact⟨⟨col,q,A,n,cap,any,last,(hx p (b.tset p (by rw[b.colp];decide))).trans b.head,b.cts.keep fun k d j=>⟨hx k (b.tset k Om),rfl⟩,b.colp,b.tset,fun k d=>Qhs (b.tlt k d) (hx k d),b.evs.1,Qa7 b.evs.2.1 fun a i=>hx _ (b.tset _ (by rw[b.evs.2.2 a i];decide)),b.evs.2.2⟩,e,f,g⟩
theorem WQ.lt{w T p c z v}(h:WQ w T p c z v):∀k,T k->k<w.heap.size:=by
 obtain⟨⟨col,q,A,n,cap,any,last,a⟩,b,d,e⟩:=h;exact a.tlt
theorem WQ.tp{w T p c z v}(h:WQ w T p c z v):T p:=by
 obtain⟨⟨col,q,A,n,cap,any,last,a⟩,b,d,e⟩:=h;exact a.tset p (by rw[a.colp];decide)
theorem WQ.ext{w w1 T p c z v}(h:WQ w T p c z v)(hx:Ext w w1):WQ w1 T p c z v:=by
 exact h.keep fun k a=>hx.block k (h.lt k a)
theorem WQL.set{w w1 T p c z v v1 col q A n cap any last}(h:WQL w T p c z v col q A n cap any last)(b:Only w w1 p)(i:At w1 p 87 (wCv c A n cap any last q v1)):WQL w1 T p c z v1 col q A n cap any last:=
 ⟨i,h.cts.keep fun k _ d=>⟨b.block k (fun e=>by have:=h.colp;rw[<- e]at this;omega),rfl⟩,h.colp,h.tset,fun k d=>by rw[b.size];exact h.tlt k d,h.evs.1,Qa7 h.evs.2.1 fun a g=>b.block _ (fun e=>by have j:=h.colp;have f:=h.evs.2.2 a g;rw[e]at f;omega),h.evs.2.2⟩
theorem WQL.keep{w w1 T p c z v col q A n cap any last}(h:WQL w T p c z v col q A n cap any last)(hx:∀k,k<w.heap.size->w1.heap[k]?=w.heap[k]?):WQL w1 T p c z v col q A n cap any last:=
 ⟨(hx p h.head.lt).trans h.head,h.cts.keep fun k b _=>⟨hx k b,rfl⟩,h.colp,h.tset,fun k b=>Qhs (h.tlt k b) (hx k (h.tlt k b)),h.evs.1,Qa7 h.evs.2.1 fun a d=>hx _ (h.tlt _ (h.tset _ (by rw[h.evs.2.2 a d];decide))),h.evs.2.2⟩
theorem WQ.rows{w T p c z v}(h:WQ w T p c z v){name}:(Qy (Qm z) name).length<1000000000000:=by
 have b:=(X0 (Qm z) (fun e a=>h.may e ((Ze.1 a).1)) name).1;have d:=Zc thB z;have f:=h.len;unfold Qm at*;omega
theorem Xo{w T p c z v}(h:WQ w T p c z v) :
 Cal Tryz.prog 63 [Pj p] w fun r w'=>∃pc S,r=Pj pc/\Qgl w' S pc (Qm z)/\Ext w w':=by
 obtain⟨col,q,A,n,cap,any,last,a⟩:=h.at_;have b:=a.cts.cat;rw[(Qb7 c.width z).1]at b;refine Fi Tryz.func63 rfl _ rfl rfl (Hh ?_);refine⟨_,a.head.one rfl,Hh ?_⟩;exact⟨q.pc,_,rfl,b,Ext.refl _⟩
theorem Qad{w T p c z v}(h:WQ w T p c z v) :
 Cal Tryz.prog 77 [Pj p] w fun r w'=>∃pw S,r=Pj pw/\X7 w' S pw (Xf c.half) (Qi c.width z).rs/\Ext w w':=by
 obtain⟨col,q,A,n,cap,any,last,a⟩:=h.at_;have b:=a.cts.crowd;refine Fi Tryz.func77 rfl _ rfl rfl (Hh ?_);refine⟨_,a.head.one rfl,Hh ?_⟩;exact⟨q.pw,_,rfl,b,Ext.refl _⟩
theorem Qks{w T p c z v}(h:WQ w T p c z v) :
 Cal Tryz.prog 230 [Pj p] w fun r w'=>∃pd S,r=Pj pd/\Qqr w' S pd (Xf c.half) (Qi c.width z).dn (Qi c.width z).ds/\Ext w w':=by
 obtain⟨col,q,A,n,cap,any,last,a⟩:=h.at_;have b:=a.cts.dec;refine Fi Tryz.func230 rfl _ rfl rfl (Hh ?_);refine⟨_,a.head.one rfl,Hh ?_⟩;exact⟨q.pd,_,rfl,b,Ext.refl _⟩
theorem Qpw{w T p c z v}(h:WQ w T p c z v) :
 Cal Tryz.prog 233 [Pj p] w fun r w'=>∃pp S,r=Pj pp/\Qn3 w' S pp (Xf c.width) (Qi c.width z).pn (Qi c.width z).ps/\Ext w w':=by
 obtain⟨col,q,A,n,cap,any,last,a⟩:=h.at_;have b:=a.cts.pane;refine Fi Tryz.func233 rfl _ rfl rfl (Hh ?_);refine⟨_,a.head.one rfl,Hh ?_⟩;exact⟨q.pp,_,rfl,b,Ext.refl _⟩
theorem Qbi{w T p c z v}(h:WQ w T p c z v) :
 Cal Tryz.prog 79 [Pj p] w fun r w'=>r=Xhe c/\Ext w w':=by
 obtain⟨col,q,A,n,cap,any,last,d⟩:=h.at_;have f:At w p 87 ([]++(Qrg c++(wCv c A n cap any last q v).drop 6)):=d.head;refine Fi Tryz.func79 rfl _ rfl rfl (Hh ?_);intro i k a;refine Hh ?_;refine⟨Qrg c,⟨rfl,At.sub (f.ext a.ext)⟩,Hh ?_⟩;refine Qc Qb (e:=ty26) rfl a.At rfl rfl rfl (by simp[Qg,Qrg,Value.oneCell']) fun l b g=>?_
 have j:=a.block;refine Hh ?_;refine⟨Qrg c,⟨rfl,b.all⟩,Hh ?_⟩;exact⟨rfl,g.ext a.ext Om⟩
theorem Qt0(w):Cal Tryz.prog 280 [] w fun r w'=>∃t b1 b2,r=Pj t/\w.heap.size<=t/\At w' t 397 [.map (some b1),.map (some b2)]/\MapAt w' b1 Value.string []/\MapAt w' b2 Value.string []/\Ext w w':=by
 refine Fi Tryz.func280 rfl _ rfl rfl (Hh ?_);intro b1 h c;refine Hh ?_;intro b2 i b;refine Hh ?_;intro d j a;refine Hh ?_;have e:=a.block;have f:=c.size;have g:=b.size;exact⟨d,b1,b2,rfl,Om,a.At,((MapAt.new c).ext b.ext).ext a.ext,(MapAt.new b).ext a.ext,(c.ext.trans b.ext).trans a.ext⟩
theorem Quf(w):Cal Tryz.prog 201 [] w fun r w'=>∃p t b1 b2,r=Pj p/\w.heap.size<=p/\w.heap.size<=t/\At w' p 394 [Pj t,.bool false]/\At w' t 397 [.map (some b1),.map (some b2)]/\MapAt w' b1 Value.string []/\MapAt w' b2 Value.string []/\Ext w w':=by
 refine Fi Tryz.func201 rfl _ rfl rfl (Hh ?_);refine(Qt0 w).mono ?_;rintro _ j ⟨t,b1,b2,rfl,g,d,e,f,b⟩;refine Hh ?_;intro c k a;refine Hh ?_;have h:=a.block;have i:=b.size;exact⟨c,t,b1,b2,rfl,Om,g,a.At,d.ext a.ext,e.ext a.ext,f.ext a.ext,b.trans a.ext⟩
theorem Xmh:Tryz.prog.underlying 125=some (.map 9 3):=by kernel_rfl
theorem Xkg:Tryz.prog.underlying 85=some (.pointer (Tryz.prog.pointee 85)):=by kernel_rfl
theorem Qz9(w a o l to_ b1 b2 x j)(c:a≠o)(d:At w a 394 [Pj l,.bool x])(v:At w l 397 [.map (some b1),.map (some b2)])(u:MapAt w b1 Value.string [])(f:At w o 394 [Pj to_,.bool j]) :
 Cal Tryz.prog 202 [Pj a,Pj o] w fun r w'=>r=.tuple #[]/\At w' a 394 [Pj to_,.bool true]/\At w' o 394 [Pj to_,.bool true]/\Mod (fun k=>k=a\/k=o) w w':=by
 refine Fi Tryz.func202 rfl _ rfl rfl (Hh ?_);refine⟨_,Qa4 Xkg _ _ _,Hh ?_⟩;constructor
 .intro h;cases h
 intro _;refine Hh ?_;refine⟨_,d.one rfl,Hh ?_⟩;refine⟨_,v.one rfl,Hh ?_⟩;refine⟨_,Xat Xmh Qs u,Hh ?_⟩;constructor
 .intro _;refine Hh ?_;refine⟨_,f.one rfl,Hh ?_⟩;refine Qc Qb (e:=ty391) rfl d rfl rfl rfl Oj fun z m g=>(Hh ?_)
  refine Qc Qb (e:=ty4) rfl m rfl rfl rfl Oj fun y n i=>(Hh ?_)
  have b:At y o 394 [Pj to_,.bool j]:=(i.block o (Ne.symm c)).trans ((g.block o (Ne.symm c)).trans f);refine Qc Qb (e:=ty4) rfl b rfl rfl rfl Oj fun A s b=>(Hh ?_)
  exact⟨rfl,(b.block a c).trans n,s,((Qj g (.inl rfl)).trans (Qj i (.inl rfl))).trans (Qj b (.inr rfl))⟩
 .intro h;simp at h
def Xh9(w:World)(S:Nat->Prop)(b:Nat)(m:List (Bj×Int)):Prop:=S b/\MapAt w b Value.string (Xj vi m)
theorem Qa5:Local Xh9 where
 keep h a:=⟨(a _ h.2.lt h.1).2,h.2.keep (a _ h.2.lt h.1).1⟩
 lt h:=⟨h.2.lt,h.1⟩
abbrev Qyn:=List (Bj×List (Bj×Int))
structure Q76(w:World)(S:Nat->Prop)(t:Nat)(sg:List (Bj×Int))(ct:Qyn)(b1 b2:Nat):Prop where
 mine:S t/\S b1/\b1≠t
 head:At w t 397 [.map (some b1),.map (some b2)]
 sg:MapAt w b1 Value.string (Xj vi sg)
 ct:MapOf Value.string Xh9 w (fun k=>S k/\k≠t/\k≠b1) b2 ct
def Q7q(sg:List (Bj×Int))(ct:Qyn):Prop:=(∀x∈sg,0<x.2)/\∀y∈ct,∀x∈y.2,0<x.2
theorem Q7q.sg_set{sg ct}(h:Q7q sg ct){a n}(b:0<n):Q7q (Xe sg a n) ct:=
 ⟨fun x hx=>(Qby hx).elim (fun e=>by rw[e];exact b) (h.1 x),h.2⟩
theorem Q7q.ct_set{sg ct}(h:Q7q sg ct){a b n}(g:0<n):Q7q sg (Xe ct a (Xe ((Qe ct a).getD []) b n)):=by
 refine⟨h.1,fun y d x hx=>?_⟩;rcases Qby d with e|d
 .rw[e]at hx;rcases Qby hx with f|hx
  .rw[f];exact g
  .cases c:Qe ct a with
   |none=>rw[c]at hx;cases hx
   |some m=>rw[c]at hx;exact h.2 (a,m) (Qax c) x hx
 .exact h.2 y d x hx
structure TabIs(sg:List (Bj×Int))(ct:Qyn)(Ss:List Sn):Prop where
 pos:Q7q sg ct
 sg:∀a,(Qe sg a).getD 0=Qa6 Ss a
 ct:∀a b,(Qe ((Qe ct a).getD []) b).getD 0=if a=b then 0 else(Qd6 Ss a b:Int)
def TabAt(w:World)(S:Nat->Prop)(t:Nat)(Ss:List Sn):Prop:=∃sg ct a b,Q76 w S t sg ct a b/\TabIs sg ct Ss
theorem Q76.keep{w w1 S S' t sg ct b1 b2}(h:Q76 w S t sg ct b1 b2)(a:∀k,k<w.heap.size->S k->w1.heap[k]?=w.heap[k]? /\ S' k):Q76 w1 S' t sg ct b1 b2:=
 ⟨⟨(a t h.head.lt h.mine.1).2,(a b1 h.sg.lt h.mine.2.1).2,h.mine.2.2⟩,(a t h.head.lt h.mine.1).1.trans h.head,h.sg.keep (a b1 h.sg.lt h.mine.2.1).1,
   h.ct.keep Qa5 fun k c b=>⟨(a k c b.1).1,(a k c b.1).2,b.2⟩⟩
theorem TabAt.keep{w w1 S S' t Ss}(h:TabAt w S t Ss)(e:∀k,k<w.heap.size->S k->w1.heap[k]?=w.heap[k]? /\ S' k):TabAt w1 S' t Ss:=by
 obtain⟨sg,ct,a,b,c,d⟩:=h;exact⟨sg,ct,a,b,c.keep e,d⟩
theorem TabAt.ext{w w1 S t Ss}(h:TabAt w S t Ss)(hx:Ext w w1):TabAt w1 S t Ss:=h.keep fun k a b=>⟨hx.block k a,b⟩
def Qb2(w:World)(S:Nat->Prop)(p:Nat)(Ss:List Sn):Prop:=∃t sh,At w p 394 [Pj t,.bool sh]/\TabAt w (fun k=>S k/\k≠p) t Ss/\S p
theorem Qb2.keep{w w1 S S' p Ss}(h:Qb2 w S p Ss)(c:∀k,k<w.heap.size->S k->w1.heap[k]?=w.heap[k]? /\ S' k):Qb2 w1 S' p Ss:=by
 obtain⟨t,sh,d,f,e⟩:=h;exact⟨t,sh,(c p d.lt e).1.trans d,f.keep fun k a b=>⟨(c k a b.1).1,(c k a b.1).2,b.2⟩,(c p d.lt e).2⟩
theorem Qb2.ext{w w1 S p Ss}(h:Qb2 w S p Ss)(hx:Ext w w1):Qb2 w1 S p Ss:=h.keep fun k a b=>⟨hx.block k a,b⟩
def Xni(w:World)(T b:Nat->Prop)(p:Nat)(c:Cfg)(z:List Ev)(v:Value):Prop:=
 v=.pointer none\/∃a t sh,v=Pj a/\T a/\¬b a/\At w a 394 [Pj t,.bool sh]/\TabAt w (fun k=>T k/\k≠a/\¬b k) t (Qhd c z)
def WT(w:World)(T:Nat->Prop)(p:Nat)(c:Cfg)(z:List Ev):Prop:=∃v a,WQ w a p c z v/\(∀k,a k->T k)/\(∀k,T k->k<w.heap.size)/\Xni w T a p c z v
theorem WT.lt{w T p c z}(h:WT w T p c z):∀k,T k->k<w.heap.size:=by
 obtain⟨v,b,d,e,a,f⟩:=h;exact a
theorem WT.keep{w w1 T p c z}(h:WT w T p c z)(hx:∀k,T k->w1.heap[k]?=w.heap[k]?):WT w1 T p c z:=by
 obtain⟨v,f,g,d,i,b⟩:=h;refine⟨v,f,g.keep fun k a=>hx k (d k a),d,fun k a=>Qhs (i k a) (hx k a),?_⟩;rcases b with b|⟨o,t,sh,j,e,l,m,n⟩
 .exact .inl b
 .exact .inr ⟨o,t,sh,j,e,l,(hx o e).trans m,n.keep fun k _ a=>⟨hx k a.1,a⟩⟩
theorem WT.ext{w w1 T p c z}(h:WT w T p c z)(hx:Ext w w1):WT w1 T p c z:=h.keep fun k a=>hx.block k (h.lt k a)
theorem WT.mod{w w1 T S p c z}(h:WT w T p c z)(hx:Mod S w w1)(d:∀k,S k->¬T k):WT w1 T p c z:=h.keep fun k a=>hx.block k (h.lt k a) fun b=>d k b a
theorem WV.t{w base p c z}(h:WV w base p c z):∃T,WT w T p c z/\∀k,T k->base<=k:=by
 obtain⟨T,a,b⟩:=h.q;exact⟨T,⟨_,T,a,fun _ d=>d,a.lt,.inl rfl⟩,b⟩
end Go.Proofs.YtnpacgccajekgaaGreatDoor
namespace Go.Proofs.YtnpacgccajekgaaGreatDoor
open Go.Se Go.RowKit Go.Sort
def Gr(w w':World):Prop:=∃q os,w'=grow (w.drewN q) os
theorem Gr.refl(w):Gr w w:=⟨0,#[],by simp[grow,World.drewN]⟩
theorem Gr.trans{a b c}(h:Gr a b)(k:Gr b c):Gr a c:=by
 obtain⟨q,os,rfl⟩:=h;obtain⟨e,d,rfl⟩:=k;exact⟨q+e,os++d,by simp[grow,World.drewN,Nat.add_assoc,Array.append_assoc]⟩
theorem Gr.drew(w):Gr w w.drew:=⟨1,#[],by rw[grow_empty];rfl⟩
theorem Qam{w w1 b o}(h:New w w1 b o):Gr w w1:=⟨0,#[o],by rw[h.world];unfold grow;rw[<- Array.push_eq_append];rfl⟩
theorem Gr.ext{w w'}(h:Gr w w'):Ext w w':=by
 obtain⟨q,os,rfl⟩:=h;have a:Ext w (w.drewN q):=⟨rfl,rfl,rfl,Zf _,fun _ _=>rfl⟩;exact a.trans (Qdm _ os)
theorem Qca{P cl w}{t e len:Nat}{cs k j v}(c:P.underlying t=some (.array len e))(b:∀w,(isAgg e).run P w=.ok false w)(f:∀w,(Go.sizeOf e).run P w=.ok 1 w)(h:j<len)(d:cs[j]?=some v):RdS P cl w (Instr.index t (.agg cs) (.int k (j:Nat))) v:=fun i _=>by
 have a:(j:Int)<len:=Om;simp[Instr.index,asIntOf,run_underlying c,f,part,b,d,a];intro g;omega
end Go.Proofs.YtnpacgccajekgaaGreatDoor
namespace Go.Proofs.YtnpacgccajekgaaGreatDoor
open Go.Se Go.RowKit
theorem Qhz(a b)(l:a<4294967296)(m:b<4294967296)(g:0<=a)(f:0<=b)(w):Cal Tryz.prog 362 [Vj a,Vj b] w fun r w'=>r=.tuple #[.int .u64 0,.int .u64 (a*b)]/\w'=w:=by
 refine Fi Tryz.func362 rfl _ rfl rfl (Hh ?_);constructor
 .intro d;have d:a<=0\/b<=0:=Su d
  have c:a*b=0:=by
   rcases d with h|h
   .rw[show a=0 by omega];simp
   .rw[show b=0 by omega];simp
  refine Hh ?_;exact⟨by rw[c],rfl⟩
 intro _;refine Hh ?_;refine⟨a,wrap_u64 ⟨Om,Om⟩,Hh ?_⟩;refine⟨b,wrap_u64 ⟨Om,Om⟩,Hh ?_⟩;have o:∀z:Int,0<=z->z<4294967296->(0:Int)=z.fdiv (2^min (Int.toNat 32) IntKind.u64.bits):=fun z c j=>(by rw[show min (Int.toNat 32) IntKind.u64.bits=32 from rfl,Zcv _ (by decide)];exact(Int.ediv_eq_zero_of_lt c (Su j)).symm)
 have n:∀z:Int,0<=z->z<4294967296->z=IntKind.u64.wrap ((BitVec.ofInt IntKind.u64.bits z &&& BitVec.ofInt IntKind.u64.bits 4294967295).toNat:Nat):=fun z c j=>(by have s:(BitVec.ofInt IntKind.u64.bits z &&& BitVec.ofInt IntKind.u64.bits 4294967295).toNat=z.toNat:=(by rw[BitVec.toNat_and];simp only[IntKind.bits,BitVec.toNat_ofInt];rw[show ((4294967295:Int)%((2^64:Nat):Int)).toNat=2^32-1 by decide,Nat.and_two_pow_sub_one_eq_mod];have:z%((2^64:Nat):Int)=z:=Int.emod_eq_of_lt c Om;rw[this];exact Nat.mod_eq_of_lt Om);rw[s,Zdd c];exact wrap_u64 ⟨c,Om⟩)
 refine⟨0,⟨Om,o a g l⟩,Hh ?_⟩;refine⟨a,n a g l,Hh ?_⟩;refine⟨0,⟨Om,o b f m⟩,Hh ?_⟩;refine⟨b,n b f m,Hh ?_⟩;have v:0<=a*b:=Zc1 g f;have u:a*b<=4294967295*4294967295:=Zb2 Om Om f Om;refine⟨0,wrap_u64 ⟨Om,Om⟩,Hh ?_⟩;refine⟨a*b,wrap_u64 ⟨Om,Om⟩,Hh ?_⟩;have x:(0:Int)=IntKind.u64.wrap (0*b):=by rw[Int.zero_mul];decide
 have y:(0:Int)=IntKind.u64.wrap (a*0):=by rw[Int.mul_zero];decide
 refine⟨0,x,Hh ?_⟩;refine⟨0,y,Hh ?_⟩;generalize a*b=e at v u⊢;refine Qh Qb (fun(k:Nat) w'=>k<=2/\w'=w) (fun k=>[(4,.int .u64 0),(5,.int .u64 e),(45,.agg #[.int .u64 0,.int .u64 0]),(46,Vj (k:Nat))]) (fun k=>2-k) 0 ⟨Zt _,rfl⟩ Rr ?_;rintro k _ ⟨D,rfl⟩;refine Hh ?_;constructor
 .intro i;have i:k<2:=(by have:(k:Int)<2:=Su i;omega);refine Gg ?_;refine⟨.int .u64 0,Qca Tryz.underlying510 Tryz.isAgg23 Tryz.sizeOf23 i (by rcases k with _|_|k<;>first|rfl|omega),Hh ?_⟩;have A:(0:Int)=IntKind.u64.wrap (0+0):=by decide
  have B:e=IntKind.u64.wrap (e+0):=by rw[Int.add_zero];exact wrap_u64 ⟨Om,Om⟩
  refine⟨0,⟨Om,by decide⟩,Hh ?_⟩;refine⟨0,A,Hh ?_⟩;refine⟨0,⟨Om,by decide⟩,Hh ?_⟩;refine⟨e,B,Gg ?_⟩;constructor
  .intro d;simp at d
  intro _;refine Hh ?_;refine⟨_,wrap_succ Om,Hh ?_⟩;exact⟨k+1,Om,⟨Om,rfl⟩,Rr⟩
 .intro C;refine Hh ?_;exact⟨rfl,rfl⟩
def Qmv(r:Int×Int):List Value:= [Vj r.1,Vj r.2]
def Qns(r:Int×Int):Value:= .agg (Qmv r).toArray
theorem Qkt(r):∀u∈Qmv r,u.oneCell'=true:=by simp[Qmv,Value.oneCell']
def Qqo(a b:Int×Int):Int:=if a.1*b.2<b.1*a.2 then -1 else if a.1*b.2=b.1*a.2 then 0 else 1
theorem Qsa(a)(h:0<=a.1/\1<=a.2)(w):Cal Tryz.prog 361 [Qns a] w fun r w'=>r=.bool true/\Gr w w':=by
 refine Fi Tryz.func361 rfl _ rfl rfl (Hh ?_);intro d e c;refine Hh ?_;have b:At e d _ (Qmv a):=c.At;refine⟨Vj a.1,b.one rfl,Hh ?_⟩;refine⟨Vj a.2,fun _=>b.one rfl,Hh ?_⟩;exact⟨by simp[h.1,h.2],Qam c⟩
theorem Qef{N}(H:N<4294967296)(a b)(z:Qld N a)(A:Qld N b)(w):Cal Tryz.prog 310 [Qns a,Qns b] w fun r w'=>r=Vj (Qqo a b)/\Gr w w':=by
 obtain⟨a1,a2,o,D⟩:=z;obtain⟨m,E,v,F⟩:=A;refine Fi Tryz.func310 rfl _ rfl rfl (Hh ?_);intro s I n;refine Hh ?_;intro u l k;have d:At l s _ (Qmv a):=n.At.ext k.ext;have e:At l u _ (Qmv b):=k.At;have g:=(Qam n).trans (Qam k);refine Gg ?_;refine⟨Qmv a,⟨rfl,d.all⟩,Hh ?_⟩;refine(Qsa a ⟨a1,o⟩ l).mono ?_;rintro _ B ⟨rfl,i⟩;replace d:=d.ext i.ext;replace e:=e.ext i.ext;replace g:=g.trans i;refine Hh ?_;refine⟨fun h=>(by simp at h),fun _=>?_⟩;refine Gg ?_;refine⟨Qmv b,⟨rfl,e.all⟩,Hh ?_⟩;refine(Qsa b ⟨m,v⟩ B).mono ?_;rintro _ C ⟨rfl,j⟩;replace d:=d.ext j.ext;replace e:=e.ext j.ext;replace g:=g.trans j;refine Hh ?_;refine⟨fun h=>(by simp at h),fun _=>?_⟩;refine Hh ?_;refine⟨Vj a.1,d.one rfl,Hh ?_⟩;refine⟨Vj b.2,e.one rfl,Hh ?_⟩;refine(Qhz a.1 b.2 Om Om a1 Om C).mono ?_;rintro _ _ ⟨rfl,rfl⟩;refine Hh ?_;refine⟨Vj b.1,e.one rfl,Hh ?_⟩;refine⟨Vj a.2,d.one rfl,Hh ?_⟩;refine(Qhz b.1 a.2 Om Om m Om _).mono ?_;rintro _ _ ⟨rfl,rfl⟩;unfold Qqo;generalize a.1*b.2=x;generalize b.1*a.2=y;refine Hh ?_;constructor
 .intro c;have c:x<y:=Su c;refine Hh ?_;exact⟨by rw[if_pos c],g⟩
 intro c;have c:¬x<y:=Su c;refine Hh ?_;constructor
 .intro f;have f:x=y:=Su f;refine Hh ?_;exact⟨by rw[if_neg c,if_pos f],g⟩
 intro f;have f:¬x=y:=Su f;refine Hh ?_;exact⟨by rw[if_neg c,if_neg f],g⟩
theorem Q4y(lo y)(b:0<=lo/\lo<=18446744073709551615)(g:1<=y/\y<=18446744073709551615)(w):Cal Tryz.prog 373 [.int .u64 0,.int .u64 lo,.int .u64 y] w fun r w'=>r=.tuple #[.int .u64 (lo/y),.int .u64 (lo%y)]/\Ext w w':=by
 have d:0<=lo/y:=Zdf b.1 Om;have f:lo/y<=lo:=Zcx _ b.1;have c:lo/y=IntKind.u64.wrap (lo.tdiv y):=by rw[Zcw b.1];exact wrap_u64 ⟨d,Om⟩
 have e:lo%y=lo.tmod y:=(Zbe b.1).symm;refine Fi Tryz.func373 rfl _ rfl rfl (Hh ?_)
 repeat(refine Sg ?_;(conv=>whnf))
 constructor
 .intro a;have a:y=0:=Su a;omega
 intro _;refine Hh ?_
 repeat(refine Sg ?_;(conv=>whnf))
 constructor
 .intro a;have a:y<=0:=Su a;omega
 intro _;refine Hh ?_;constructor
 .intro _;refine Hh ?_;refine Dr .same [0,1,2,3,4,5,6,7] [] (Hh ?_);refine⟨lo/y,⟨Om,c⟩,Hh ?_⟩;refine⟨lo%y,⟨Om,e⟩,Hh ?_⟩;exact⟨rfl,(Ext.refl _).drew⟩
 .intro a;simp at a
theorem Qsc{N}(i:N<4294967296)(x)(hx:0<=x/\x<=1048576)(r)(f:Qld N r)(w):Cal Tryz.prog 329 [Vj x,Vj r.1,Vj r.2] w fun v w'=>v=.tuple #[Vj (x*r.1/r.2),.bool true]/\Ext w w':=by
 obtain⟨c,k,h,l⟩:=f;have b:0<=x*r.1:=Zc1 hx.1 c;have j:x*r.1<=1048576*4294967295:=Zb2 hx.2 Om c Om;have d:0<=x*r.1/r.2:=Zdf b Om;have e:x*r.1/r.2<=x*r.1:=Zcx _ b;refine Fi Tryz.func329 rfl _ rfl rfl (Hh ?_);constructor
 .intro a;exfalso;simp at a;omega
 intro _;refine Hh ?_;refine(Qhz x r.1 Om Om hx.1 c w).mono ?_;rintro _ _ ⟨rfl,rfl⟩;refine Hh ?_;refine⟨r.2,wrap_u64 ⟨Om,Om⟩,Hh ?_⟩;constructor
 .intro a;have a:r.2<=0:=Su a;omega
 intro _;refine Hh ?_;refine(Q4y (x*r.1) r.2 ⟨b,Om⟩ ⟨h,Om⟩ _).mono ?_;rintro _ m ⟨rfl,g⟩;refine Hh ?_;generalize x*r.1/r.2=q at d e⊢;constructor
 .intro a;have a:9223372036854775807<q:=Su a;omega
 intro _;refine Hh ?_;refine⟨q,wrap_eq rfl ⟨Om,Om⟩,Hh ?_⟩;exact⟨rfl,g⟩
theorem Qp6{l vs off}(h:off+vs.length<=l.length)(i):(spl l off vs)[i]?=if i<off then l[i]? else if i<off+vs.length then vs[i-off]? else l[i]? := by
 unfold spl;have c:(l.take off).length=off:=by simp;omega
 by_cases a:i<off
 .rw[if_pos a,Zac,Zy Om,Zbm,if_pos a]
 .rw[if_neg a]
  by_cases b:i<off+vs.length
  .rw[if_pos b,Zy (by simp;omega),Z8 Om,c]
  .rw[if_neg b,Z8 (by simp;omega),Zb3];congr 1;simp;omega
theorem Xcz{l vs off}(h:off+vs.length<=l.length):(spl l off vs).length=l.length:=by
 unfold spl;simp;omega
section
variable {α:Type}{enc:α->List Value}{sz:Nat}{te:TypeId}{base:Nat}{w w':World}{A:Option Addr}{c:Nat}{l:List α}
theorem Q46(a:∀x,(enc x).length=sz){k f}(e:k<l.length){vs}(m:f+vs.length<=sz)(x)(hx:enc x=spl (enc l[k]) f vs):(l.set k x).flatMap enc=spl (l.flatMap enc) (k*sz+f) vs:=by
 have s:(l.flatMap enc).length=l.length*sz:=Qgq a l;have u:k*sz+sz<=l.length*sz:=(by have:=Zb5 sz (show k+1<=l.length from e);rw[Zbv]at this;exact this);rw[Q2l a e,hx];have n:(spl (enc l[k]) f vs).length=sz:=by rw[Xcz (by rw[a];exact m),a]
 have o:∀j,j<sz->(l.flatMap enc)[k*sz+j]?=(enc l[k])[j]? := by
  intro j r;have b:(l.drop k).flatMap enc=(l.flatMap enc).drop (k*sz):=Qot a l k;rw[Zak e,Za0]at b;have c:=congrArg (·[j]?) b;simp only[Zb3]at c;rw[<- c,Zy (by rw[a];exact r)]
 apply Zb9;intro i;rw[Qp6 (l:=l.flatMap enc) (vs:=spl (enc l[k]) f vs) (off:=k*sz) (by rw[n];omega),Qp6 (l:=l.flatMap enc) (vs:=vs) (off:=k*sz+f) Om,n]
 by_cases b:i<k*sz
 .rw[if_pos b,if_pos Om]
 rw[if_neg b]
 by_cases c:i<k*sz+sz
 .rw[if_pos c,Qp6 (by rw[a];exact m)];have d:=o (i-k*sz) Om;rw[show k*sz+(i-k*sz)=i by omega]at d
  by_cases g:i-k*sz<f
  .rw[if_pos g,if_pos (show i<k*sz+f by omega),d]
  .rw[if_neg g,if_neg (show ¬i<k*sz+f by omega)]
   by_cases h:i-k*sz<f+vs.length
   .rw[if_pos h,if_pos (show i<k*sz+f+vs.length by omega)];congr 1;omega
   .rw[if_neg h,if_neg (show ¬i<k*sz+f+vs.length by omega),d]
 .rw[if_neg c,if_neg (show ¬i<k*sz+f by omega),if_neg (show ¬i<k*sz+f+vs.length by omega)]
theorem Qjs{P T}(D:Qbl P T){t:TypeId}{e}(L:Qi6 T t=some e)(y:∀x,(enc x).length=sz){v}(M:(Qg v).length=e.size)(K:∀u∈Qg v,u.oneCell'=true)
 {k f}(r:k<l.length)(U:f+e.size<=sz)(x)(hx:enc x=spl (enc l[k]) f (Qg v)){a b}(j:b=a.add (k*sz+f))(s:Own enc sz te base w (some a) c l){R}
 (h:∀w',Own enc sz te base w' (some a) c (l.set k x)->Only w w' a.block->R undef w'):Qys P (Instr.storeAt t (.pointer (some b)) v) w R:=by
 subst j;have V:=s.1;rcases s.2 with⟨m,S⟩|⟨g,cap,n,m,j,I,o,z,A,B⟩
 .omega
 .have C:a=⟨g,0,none⟩:=by injection m with h _ _;injection h
  have F:c=cap:=by injection m
  subst C F;rw[Q7];have W:k*sz+sz<=l.length*sz:=(by have:=Zb5 sz (show k+1<=l.length from r);rw[Zbv]at this;exact this);have Y:l.length*sz<=c*sz:=Zb5 sz o;have H:n.toList.length=c*sz:=Su A;have E:At w g te n.toList:=by unfold At;rw[I]
  refine Qiq D L E M (by simp;omega) K fun O N J=>h O ?_ J
  refine⟨by rw[Qgq y],.inr ⟨g,c,_,by rw[Zbi],j,N,by rw[Zbi];exact o,z,?_,?_⟩⟩
  .simp only[Za4];rw[Xcz Om];exact H
  .rw[Q46 y r Om x hx,<- B,Zbi];apply Zb9;intro i;simp only[List.toList_toArray];rw[Zbm,Qp6 Om,Qp6 (by simp;omega)];simp only[Zbm]
   by_cases d:i<l.length*sz
   .rw[if_pos d];simp[d]
   .rw[if_neg d,if_neg Om,if_neg Om,if_neg d]
end
end Go.Proofs.YtnpacgccajekgaaGreatDoor
namespace Go.Proofs.YtnpacgccajekgaaGreatDoor
open Go.Se Go.RowKit Go.Sort Go.Shelf
theorem Qfu(w blk k f)(h:k≠blk):(mapBlock w blk f).heap[k]?=w.heap[k]? := by
 unfold mapBlock;simp[Zce,Ne.symm h]
theorem Qic{a b c}(h:bLt a b=false)(k:bLt b c=false):bLt a c=false:=by
 cases d:bLt a c with
 |false=>rfl
 |true =>
  cases e:bLt c b with
  |true=>rw[Qb3 d e]at h;cases h
  |false =>
   have:=Qb4 k e;subst this;rw[d]at h;cases h
theorem Qe7(g n):(⟨g,0,none⟩:Addr).add n=⟨g,n,none⟩:=by
 simp only[Addr.add];split
 .next h=>rw[h]
 .simp
section
variable {P:Program}{ρ:Ren}{α:Type}[Inhabited α]
theorem Qgh(S:SlLaysF0.n6 P ρ){enc sz}(a7:0<sz)(ab:∀w,(isAgg (ρ.t 24)).run P w=.ok true w)(bg:∀w,(Go.sizeOf (ρ.t 24)).run P w=.ok sz w)(s:∀x,(enc x).length=sz)(az:∀x,∀u∈enc x,u.oneCell'=true)(cmp)(a5:Go.Sort.SWO (ltOf cmp))
 (V:Qql P (ρ.f 6)){f:Nat}{cb}(ae:∀args w,(callFunc f args).run P w=.ok (.enter f args) w)(l:List α)(A c base w)(W:Own enc sz (ρ.t 24) base w A c l)(bq:l.length<1000000)
 (an:∀x y w',(∀k,(∀a,A=some a->k≠a.block)->k<w.heap.size->w'.heap[k]?=w.heap[k]?)->Cal P f ([.agg (enc x).toArray,.agg (enc y).toArray]++cb.toList) w' fun r be=>r=Vj (cmp x y)/\Gr w' be) :
 Cal P (ρ.f 6) [.slice A l.length c,.func (.func f) #[] cb] w fun r w'=>r=.tuple #[]/\∃F,F.Perm l/\Srt (ltOf cmp) F/\Sl enc sz w' A F/\∀z,Ext z w->z.heap.size<=base->Ext z w':=by
 by_cases d:l=[]
 .subst d;refine Qae V (AnyF.slices_SortFunc_none S A c _ w) ?_;rintro w' rfl;exact⟨rfl,[],Za9 _,Srt.nil,Sl.nil,fun z h _=>h⟩
 .have a4:=W.sl s;have br:0<l.length:=Zad.2 d;rcases W.2 with⟨_,J⟩|⟨g,cap,bh,I,bi,O,bk,bl,bm,bo⟩
  .omega
  injection I with ag _ al;subst ag;subst al
  have K:HoldsK enc sz w g 0 l.toArray:=by
   intro t a8;have aa:t<l.length*sz:=Su a8;have o:t/sz<l.length:=Nat.div_lt_of_lt_mul (by rw[Nat.mul_comm];exact aa);obtain⟨a,ai,ak⟩:=a4.get o;have aj:a=⟨g,0,none⟩:=Su ai.symm;have U:t%sz<sz:=Nat.mod_lt _ a7;have N:=ak (t%sz) ((enc l[t/sz])[t%sz]'(by rw[s];exact U)) (Zb _);have aq:t/sz*sz+t%sz=t:=by rw[Nat.mul_comm];exact Nat.div_add_mod t sz
   rw[aj,Q9,Qe7,aq]at N;refine⟨?_,by unfold World.frozen?;rw[O];simp⟩;rw[Za6,get_flatK _ _ _ _ (Su aa)];rw[N];simp[o];rw[Zb (by rw[s];exact U)];rfl
  have L:g<w.heap.size:=lt_of_block O
  have ao:CmpLays P f cb enc sz cmp g 0 l.toArray.size w:=by
   intro m os B _ x y
   have ax:∀k,(∀a,some (⟨g,0,none⟩:Addr)=some a->k≠a.block)->k<w.heap.size->(sortWorldK enc sz w g 0 m B os).heap[k]?=w.heap[k]? := by
    intro k H bp;have ay:k≠g:=H ⟨g,0,none⟩ rfl;have J:(putRowK enc sz (Go.Sort.ahead w m) g 0 B).heap[k]?=(Go.Sort.ahead w m).heap[k]? := Qfu _ _ _ _ ay
    have bs:w.heap.size=(putRowK enc sz (Go.Sort.ahead w m) g 0 B).heap.size:=by
     show w.heap.size=((Go.Sort.ahead w m).heap.modify g _).size
     rw[Zcp];rfl
    have af:=(Qdm (putRowK enc sz (Go.Sort.ahead w m) g 0 B) os).block k Om;unfold sortWorldK;rw[af,J];rfl
   have:=(an x y (sortWorldK enc sz w g 0 m B os) ax).2;have D:([Value.agg (enc x).toArray,Value.agg (enc y).toArray]++cb.toList).toArray=#[Value.agg (enc x).toArray,Value.agg (enc y).toArray]++cb:=by simp
   rw[D]at this;refine this.mono ?_;rintro e w' ⟨v,ar,I,q,bd,a9⟩;exact⟨by rw[ar,I],q,bd,a9⟩
  have M:=AnyQ.slices_SortFunc S sz ab bg enc s az cmp a5 f cb g 0 c l.toArray w ae ao K L (by simp;omega);rw[Za4]at M;refine Qae V M ?_;rintro w' ⟨b,n,os,Y,a3,rfl⟩;have Z:b.size=l.length:=Su Y.1
  have a0:b.toList.Perm l:=by
   have:=Y.2.2;have D:b.extract 0 l.length=b:=by rw[<- Z];exact Array.extract_size
   have ac:l.toArray.extract 0 l.length=l.toArray:=by simp
   rw[D,ac]at this;simpa using this
  have ah:HoldsK enc sz (sortWorldK enc sz w g 0 n b os) g 0 b:=by
   unfold sortWorldK;refine holdsK_grow _ _ _ _ _ _ _ ?_ (holdsK_putRowK _ _ _ _ _ l.toArray b (holdsK_ahead _ _ _ _ _ _ _ K) (Su Z));show g<((Go.Sort.ahead w n).heap.modify g _).size
   rw[Zcp];exact L
  refine⟨rfl,b.toList,a0,?_,?_,?_⟩
  .unfold Srt;rw[Zaz];intro i j o C av;have au:i<b.size:=Su o;have aw:j<b.size:=Su C;have:=a3 i j (Zt _) av Om;rw[getElem!_pos b i au,getElem!_pos b j aw]at this;simpa using this
  .intro i x o;have R:i<b.size:=by have:=(Zi.1 o).1;simpa using this
   refine⟨_,rfl,fun j v C=>?_⟩;have E:j<sz:=by rw[<- s x];exact(Zi.1 C).1
   have:=(ah.cell R E).1;rw[Q9,Qe7];rw[Za6]at this;rw[this];have hx:b[i]! = x:=by rw[getElem!_pos b i R];have:=Zi.1 o;simpa using this.2
   rw[hx,getElem!_pos _ _ (by rw[s];exact E)];rw[Zb (by rw[s];exact E)]at C;exact C
  .intro z d bj
   have bb:Ext z (putRowK enc sz (Go.Sort.ahead w n) g 0 b):=by
    refine⟨d.os,d.tape,d.output,?_,fun k H=>?_⟩
    .show z.heap.size<=((Go.Sort.ahead w n).heap.modify g _).size
     rw[Zcp];exact d.size
    .have:(putRowK enc sz (Go.Sort.ahead w n) g 0 b).heap[k]?=(Go.Sort.ahead w n).heap[k]? := Qfu _ _ _ _ Om;rw[this];exact d.block k H
   exact bb.trans (Qdm _ os)
end
end Go.Proofs.YtnpacgccajekgaaGreatDoor
namespace Go.Proofs.YtnpacgccajekgaaGreatDoor
open Go.Se Go.RowKit
abbrev Pt:=Int×Int×Int
def ptC(x:Pt):List Value:= [Vj x.1,Vj x.2.1,Vj x.2.2]
theorem Q0h(x):(ptC x).length=3:=rfl
theorem Xbn(x):∀u∈ptC x,u.oneCell'=true:=by simp[ptC,Value.oneCell']
theorem Xgb:Qle Tryz.prog 103 234 ptC 3 24:=⟨by kernel_rfl,⟨_,ty234_ok,rfl,rfl⟩,by234,by decide,by decide,Q0h,Xbn⟩
def rsC(item:Bj)(a:Option Addr)(e c:Nat)(g:Int)(b:Option Addr)(f d:Nat)(fans:Int):List Value:= [.string item,.slice a e c,Vj g,.slice b f d,Vj fans]
