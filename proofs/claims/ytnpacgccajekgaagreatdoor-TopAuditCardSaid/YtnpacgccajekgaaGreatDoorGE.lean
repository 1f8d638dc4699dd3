import Derived.Test.YtnpacgccajekgaaGreatDoorGD
set_option linter.all false
namespace Go.Proofs.YtnpacgccajekgaaGreatDoor
open Go.Se Go.RowKit
def Q70(w:World)(S:Nat->Prop)(b:Nat)(m:List (Int×Int)):Prop:=S b/\MapAt w b vi (Xj vi m)
theorem Qaq:Local Q70 where
 keep h a:=⟨(a _ h.2.lt h.1).2,h.2.keep (a _ h.2.lt h.1).1⟩
 lt h:=⟨h.2.lt,h.1⟩
abbrev Qmb:=List (Bj×List (Int×Int))
def Qr8(s:Qmb)(key:Bj)(t n:Int):Qmb:=if n=0 then s else Xe s key (Xe ((Qe s key).getD []) t ((Qe ((Qe s key).getD []) t).getD 0+n))
def Qep(s:Qmb)(N:Int):Prop:=∀k t,0<=(Qe ((Qe s k).getD []) t).getD 0/\(Qe ((Qe s k).getD []) t).getD 0<=N
theorem Q6a{s N}(h:Qep s N)(key t n)(d:0<=n):Qep (Qr8 s key t n) (N+n):=by
 intro k c;unfold Qr8;have f:=h k c;have g:=h key t
 by_cases b:n=0
 .rw[if_pos b];omega
 .rw[if_neg b,Xr]
  by_cases e:k=key
  .subst e;rw[if_pos rfl];simp only[Zas,Xr]
   by_cases a:c=t
   .rw[if_pos a];simp only[Zas];omega
   .rw[if_neg a];omega
  .rw[if_neg e];omega
structure CtL(w:World)(S:Nat->Prop)(p:Nat)(half n:Int)(s:Qmb)(bm:Nat):Prop where
 mine:S p
 head:At w p 270 [vi half,vi n,.map (some bm)]
 sums:MapOf Value.string Q70 w (fun k=>S k/\k≠p) bm s
def Qqr(w:World)(S:Nat->Prop)(p:Nat)(half n:Int)(s:Qmb):Prop:=∃a,CtL w S p half n s a
theorem Qqr.keep{w w1 S S' p half n s}(h:Qqr w S p half n s)(a:∀k,k<w.heap.size->S k->w1.heap[k]?=w.heap[k]? /\ S' k):Qqr w1 S' p half n s:=by
 obtain⟨c,h⟩:=h;refine⟨c,(a p h.head.lt h.mine).2,(a p h.head.lt h.mine).1.trans h.head,h.sums.keep Qaq fun k d b=>?_⟩;obtain⟨e,f⟩:=a k d b.1;exact⟨e,f,b.2⟩
theorem Qza(half w):Cal Tryz.prog 92 [Vj half] w fun r w'=>∃p,r=Pj p/\Qqr w' (fun k=>w.heap.size<=k) p (Xf half) 0 []/\Ext w w':=by
 refine Fi Tryz.func92 rfl _ rfl rfl (Hh ?_);intro d j a;refine Hh ?_;intro c l b;refine Hh ?_;have g:=a.block;have h:=b.block;have i:=a.size;refine⟨c,rfl,⟨d,Om,b.At,?_⟩,a.ext.trans b.ext⟩;exact(MapOf.new (S:=fun k=>w.heap.size<=k/\k≠c) a ⟨Om,Om⟩).keep Qaq fun k e f=>⟨b.ext.block k e,f⟩
theorem Xg0:Tryz.prog.underlying 268=some (.map 9 331):=by kernel_rfl
theorem Q7h:Tryz.prog.underlying 331=some (.map 3 2):=by kernel_rfl
theorem Xh5:Tryz.prog.underlying 3=some (.int .i64):=by kernel_rfl
theorem Qzb(w S p half n s)(h:Qqr w S p half n s)(key:Bj)(t x N)(I:Qep s N)(W:N<1000000000000000)(aa:0<=x/\x<1000000000000000) :
 Cal Tryz.prog 166 [Pj p,.string key,Vj t,Vj x] w fun r w'=>r=.tuple #[]/\Qqr w' (Grow S w) p half n (Qr8 s key t x)/\Mod S w w':=by
 obtain⟨d,h⟩:=h;have Z:=h.head.lt;refine Fi Tryz.func166 rfl _ rfl rfl (Hh ?_);constructor
 .intro f;have f:x=0:=Su f;refine Hh ?_;refine⟨rfl,?_,Mod.refl _ _⟩;unfold Qr8;rw[if_pos f];exact Qqr.keep ⟨d,h⟩ fun k _ L=>⟨rfl,.inl L⟩
 intro f;have f:¬x=0:=Su f;refine Hh ?_
 refine Xi Qb (ι:=Qmb) (fun _=>[(0,Pj p),(1,.string key),(2,Vj t),(3,Vj x)])
  (fun y w'=>(∃c,Qe y key=some c/\c=(Qe s key).getD [])/\(∀v,Xe y key v=Xe s key v)/\MapOf Value.string Q70 w' (fun k=>Grow S w k/\k≠p) d y/\At w' p 270 [vi half,vi n,.map (some d)]/\Mod S w w') ?_ ?_
 . (conv=>whnf)
   refine⟨.map (some d),h.head.one rfl,Hh ?_⟩;rcases h.sums.look Qaq Xg0 (Qr Xd) (e:=ty331) ty331_ok rfl key with⟨m,j⟩|⟨b,v,H,o,j,g,A,_⟩
   .refine⟨_,j .same Qs,Hh ?_⟩;refine⟨_,Qaz Q7h none _ _,Hh ?_⟩;constructor
    .intro _;refine Hh ?_;refine⟨.map (some d),h.head.one rfl,Hh ?_⟩;intro U R l;refine Hh ?_;have V:=l.block;refine h.sums.insert Qaq Xg0 (Qr Xd) key m l.ext (v:= []) ⟨Om,MapAt.new l⟩ fun F u i=>?_
     refine Hh ?_;have K:d≠p:=h.sums.lt.2.2;refine⟨Xe s key [],⟨⟨[],Q8 _ _ _,by rw[m];rfl⟩,fun v=>Qdp key [] v s,?_,?_,?_⟩,Rr⟩
     .refine u.keep Qaq fun k _ a=>⟨rfl,?_⟩
      rcases a with a|a
      .exact⟨.inl a.1,a.2⟩
      .exact⟨.inr a,Om⟩
     .exact i.at_ (h.head.ext l.ext) (Ne.symm K)
     .exact(Mod.of_ext l.ext).trans (Qj i h.sums.lt.2.1)
    .intro q;cases q
   .refine⟨_,j .same Qs,Hh ?_⟩;refine⟨_,Qaz Q7h (some b) _ _,Hh ?_⟩;constructor
    .intro q;cases q
    .intro _;refine Hh ?_;refine⟨s,⟨⟨v,o,by rw[o];rfl⟩,fun v=>rfl,h.sums.keep Qaq fun k _ a=>⟨rfl,.inl a.1,a.2⟩,h.head,Mod.refl _ _⟩,Rr⟩
 rintro y R ⟨⟨c,C,D⟩,O,M,z,E⟩;refine Hh ?_;refine⟨.map (some d),z.one rfl,Hh ?_⟩;rcases M.look Qaq Xg0 (Qr Xd) (e:=ty331) ty331_ok rfl key with⟨m,j⟩|⟨b,v,H,o,j,g,A,J⟩
 .rw[C]at m;cases m
 obtain rfl:c=v:=by rw[C]at o;simpa using o
 refine⟨_,j .same Qs,Hh ?_⟩
 refine⟨vi ((Qe c t).getD 0),(by
  have:=X5 Q7h (Qhq Xh5) (e:=ty2) ty2_ok (cl:= .same) Qs g.2 t;rw[show (Qe (Xj vi c) t).getD ty2.zero=vi ((Qe c t).getD 0) from Xt vi _ _ 0]at this;exact this),Hh ?_⟩
 have P:=I key t;rw[<- D]at P;refine⟨(Qe c t).getD 0+x,wrap_eq rfl ⟨Om,Om⟩,Hh ?_⟩;refine Qx Q7h (Qhq Xh5) g.2 t (vi ((Qe c t).getD 0+x)) fun F u i=>?_
 rw[Xc]at u;refine Hh ?_;have B:=A b g.1;have hfin:=J F (Xe c t ((Qe c t).getD 0+x)) ⟨.inl g.1,u⟩ (Qj i g.1);rw[O]at hfin;have Y:=z.lt;refine⟨rfl,⟨d,.inl h.mine,i.at_ z (fun q=>B.1.2 q.symm),?_⟩,Qn E (Qj i B.1.1)⟩;unfold Qr8;rw[if_neg f,<- D];refine hfin.keep Qaq fun k _ a=>⟨rfl,?_⟩
 rcases a with a|a
 .exact a
 .exact⟨.inr (by have:=E.size;omega),Om⟩
theorem Qy9(w S p half n s)(h:Qqr w S p half n s)(key:Bj)(t x N)(i:Qep s N)(j:N<1000000000000000)(u:0<=x/\x<=1048576)(v:1<=key.size/\key.size<=24)(z:0<=t/\t<=1099511627776)(y:0<=n/\n<1048576) :
 Cal Tryz.prog 105 [Pj p,.string key,Vj t,Vj x] w fun r w'=>r=.bool true/\Qqr w' (Grow S w) p half (n+1) (Qr8 s key t x)/\Mod S w w':=by
 obtain⟨f,h⟩:=h;refine Fi Tryz.func105 rfl _ rfl rfl (Hh ?_);have m:(((decide ((key.size:Int)<1)||decide ((24:Int)<key.size))||decide (t<0))||decide (1099511627776<t))=false:=(by rw[decide_eq_false Om,decide_eq_false Om,decide_eq_false Om,decide_eq_false Om];rfl);constructor
 .intro q;have q:=m.symm.trans q;cases q
 intro _;refine Hh ?_;refine⟨_,fun _=>h.head.one rfl,Hh ?_⟩;have b:((decide (x<0)||decide (1048576<x))||decide (1048576<=n))=false:=(by rw[decide_eq_false Om,decide_eq_false Om,decide_eq_false Om];rfl);constructor
 .intro q;have q:=b.symm.trans q;cases q
 intro _;refine Hh ?_;refine⟨_,h.head.one rfl,Hh ?_⟩;refine⟨n+1,wrap_eq rfl ⟨Om,Om⟩,Hh ?_⟩;refine Qc Qb (e:=ty3) rfl h.head rfl rfl rfl Oj fun d g c=>?_
 have l:Qqr d S p half (n+1) s:=⟨f,h.mine,g,h.sums.keep Qaq fun k _ a=>⟨c.block k a.2,a⟩⟩;refine Hh ?_;refine(Qzb d S p half (n+1) s l key t x N i j ⟨u.1,Om⟩).mono ?_;rintro _ A ⟨rfl,b,o⟩;refine Hh ?_;refine⟨rfl,b.keep fun k _ a=>⟨rfl,?_⟩,(Qj c h.mine).trans o⟩;rcases a with a|a
 .exact .inl a
 .exact .inr (by rw[c.size]at a;exact a)
abbrev PK:=Bj×Int
def Xio(k:PK):List Value:= [.string k.1,Vj k.2]
def cel(k:PK):Value:= .agg (Xio k).toArray
theorem Qy3:Qu6 Tryz.prog 285 cel:=
 Qij (encl:=Xio) Qb st285 (fun k=>rfl)
  (fun a b=>by
   show some (decide (a.1=b.1)&&(decide (a.2=b.2)&&true))=some (decide (a=b))
   rw[Zdg];congr 1
   by_cases c:a.1=b.1<;>by_cases d:a.2=b.2<;>simp[Prod.ext_iff,c,d])
  (fun k=>by simp[Instr.sameBits,Xio,Go.MapKept.bytes_beq])
abbrev Qar:=List (PK×Int)
def Qr7(s:Qar)(c:PK)(n:Int):Qar:=if n=0 then s else Xe s c ((Qe s c).getD 0+n)
def Qa9(s:Qar)(key:Bj):List Int:=(s.filter fun x=>decide (x.1.1=key)).map (·.1.2)
theorem Xcb{c v}:∀{s:Qar},Qe s c=none->Qa9 (Xe s c v)=Qm6 (Qa9 s) c.1 (Qa9 s c.1++[c.2])
 |s,h=>by
  have:∀s:Qar,Qe s c=none->Xe s c v=s++[(c,v)]:=by
   intro s
   induction s with
   |nil=>intro _;rfl
   |cons x s b =>
    intro h;simp only[Qe]at h
    by_cases e:c=x.1
    .rw[if_pos e]at h;cases h
    .rw[if_neg e]at h;simp only[Xe,if_neg e,b h,Za1]
  rw[this s h];funext k;unfold Qm6 Qa9;rw[Zq,Zp]
  by_cases e:k=c.1
  .subst e;simp
  .have a:¬c.1=k:=fun q=>e q.symm
   simp[e,a]
theorem Xcc{c v v0}:∀{s:Qar},Qe s c=some v0->Qa9 (Xe s c v)=Qa9 s:=by
 intro s h;have:∀s:Qar,Qe s c=some v0->(Xe s c v).map (·.1)=s.map (·.1):=(by intro s h;rw[Qeq,if_pos];exact Zh.2 ⟨_,Qax h,rfl⟩);have b:=this s h;funext k;unfold Qa9;have key:∀a:Qar,(a.filter fun x=>decide (x.1.1=k)).map (·.1.2)=((a.map (·.1)).filter fun x=>decide (x.1=k)).map (·.2):=(by intro a;rw[List.filter_map,Zz];rfl);rw[key,key,b]
def Qhh(s:Qar)(N:Int):Prop:=∀x∈s,0<x.2/\x.2<=N
theorem Qgn{s N}(h:Qhh s N)(a:0<=N)(c):0<=(Qe s c).getD 0/\(Qe s c).getD 0<=N/\(Qe s c=none↔(Qe s c).getD 0=0):=by
 cases b:Qe s c with
 |none=>simp;exact a
 |some v =>
  have:=h _ (Qax b);simp at this⊢;omega
theorem Q59{s N}(h:Qhh s N)(b:0<=N)(c){n}(d:0<=n):Qhh (Qr7 s c n) (N+n):=by
 unfold Qr7;have e:=Qgn h b c;intro x hx
 by_cases a:n=0
 .rw[if_pos a]at hx;have:=h x hx;omega
 .rw[if_neg a]at hx;rcases Qby hx with rfl|hx
  .simp only;omega
  .have:=h x hx;omega
structure PaL(w:World)(S:Nat->Prop)(p:Nat)(width n:Int)(s:Qar)(bs br:Nat)(L:List (Bj×(Option Addr×Nat)))(R:Nat->Prop):Prop where
 mine:S p/\S bs/\bs≠p
 head:At w p 274 [vi width,vi n,.map (some bs),.map (some br)]
 sums:MapAt w bs cel (Xj vi s)
 rows:Qbu Qf7 1 3 w R br (Qa9 s) L
 rset:∀k,R k->S k/\k≠p/\k≠bs
def Qn3(w:World)(S:Nat->Prop)(p:Nat)(width n:Int)(s:Qar):Prop:=∃c b L a,PaL w S p width n s c b L a
theorem Qn3.keep{w w1 S S' p width n s}(h:Qn3 w S p width n s)(a:∀k,k<w.heap.size->S k->w1.heap[k]?=w.heap[k]? /\ S' k):Qn3 w1 S' p width n s:=by
 obtain⟨c,f,L,e,h⟩:=h;refine⟨c,f,L,fun k=>e k/\k<w.heap.size,⟨(a p h.head.lt h.mine.1).2,(a c h.sums.lt h.mine.2.1).2,h.mine.2.2⟩,(a p h.head.lt h.mine.1).1.trans h.head,h.sums.keep (a c h.sums.lt h.mine.2.1).1,h.rows.keep fun k d b=>⟨(a k d (h.rset k b).1).1,b,d⟩,fun k b=>⟨(a k b.2 (h.rset k b.1).1).2,(h.rset k b.1).2⟩⟩
theorem Q57(width w):Cal Tryz.prog 93 [Vj width] w fun r w'=>∃p,r=Pj p/\Qn3 w' (fun k=>w.heap.size<=k) p (Xf width) 0 []/\Ext w w':=by
 refine Fi Tryz.func93 rfl _ rfl rfl (Hh ?_);intro e o c;refine Hh ?_;intro d s a;refine Hh ?_;intro f u b;refine Hh ?_;have i:=c.block;have j:=a.block;have l:=b.block;have m:=c.size;have n:=a.size;refine⟨f,rfl,⟨e,d,[],fun k=>k=d,⟨Om,Om,Om⟩,b.At,(MapAt.new c).ext (a.ext.trans b.ext),?_,?_⟩,(c.ext.trans a.ext).trans b.ext⟩
 .exact(Qbu.new (S:=fun k=>k=d) a rfl).keep fun k g h=>⟨b.ext.block k g,h⟩
 .rintro k rfl;omega
theorem Xkh:Tryz.prog.underlying 271=some (.map 285 2):=by kernel_rfl
theorem Xgy:Tryz.prog.underlying 272=some (.map 9 52):=by kernel_rfl
theorem Xdw:Tryz.prog.underlying 52=some (.slice 3):=by kernel_rfl
theorem Xbg(w p width n d c)(b:At w p 274 [vi width,vi n,.map (some d),.map (some c)])(i:1<=width/\width<=1099511627776)(t)(a:0<=t/\t<=1099511627776) :
 Cal Tryz.prog 168 [Pj p,Vj t] w fun r w'=>r=Vj (t/width)/\w'=w:=by
 have e:t.tdiv width=t/width:=Zcw a.1;have f:0<=t.tmod width:=Int.tmod_nonneg _ a.1;have g:0<=t/width:=Zdf a.1 Om;have h:t/width<=t:=Zcx _ a.1;refine Fi Tryz.func168 rfl _ rfl rfl (Hh ?_);refine⟨_,b.one0,Hh ?_⟩;refine⟨t/width,⟨Om,wrap_eq e.symm ⟨Om,Om⟩⟩,Hh ?_⟩;refine Qa Qb (Hh ?_);refine⟨_,b.one0,Hh ?_⟩;refine⟨t.tmod width,⟨Om,rfl⟩,Hh ?_⟩;constructor
 .intro q;have q:t.tmod width<0:=Su q;omega
 .intro _;refine Hh ?_;exact⟨rfl,rfl⟩
theorem Q58(w S p width n s)(h:Qn3 w S p width n s)(c x N)(ay:Qhh s N)(az:0<=N)(bp:N<1000000000000000)(bw:0<=x/\x<1000000000000000)(bt:s.length<100000000) :
 Cal Tryz.prog 167 [Pj p,cel c,Vj x] w fun r w'=>r=.tuple #[]/\Qn3 w' (Grow S w) p width n (Qr7 s c x)/\Mod S w w':=by
 obtain⟨i,b,L,ar,j⟩:=h
 obtain⟨R,h,a0⟩:∃R,PaL w S p width n s i b L R/\∀k,R k->k<w.heap.size:=
  ⟨fun k=>ar k/\k<w.heap.size,⟨j.mine,j.head,j.sums,j.rows.keep fun k d f=>⟨rfl,f,d⟩,fun k z=>j.rset k z.1⟩,fun k z=>z.2⟩
 clear j;have bu:=h.head.lt;have bs:=h.sums.lt;have bh:=Qgn ay az c;refine Fi Tryz.func167 rfl _ rfl rfl (Hh ?_);intro g V M;have bo:=M.block;have a3:At V g 285 (Xio c):=M.At;refine Hh ?_;constructor
 .intro C;have C:x=0:=Su C;refine Hh ?_;refine⟨rfl,?_,Mod.of_ext M.ext⟩;unfold Qr7;rw[if_pos C];exact Qn3.keep ⟨i,b,L,R,h⟩ fun k z bg=>⟨M.ext.block k z,.inl bg⟩
 intro C;have C:¬x=0:=Su C;refine Hh ?_;refine Dr .same [0,1,2,3,4,5,6] [] (Hh ?_);have m:Ext w V.drew:=M.ext.drew;have l:At V.drew g _ _:=a3;generalize V.drew=F at m l⊢;have B:=h.head.ext m;have E:=h.sums.ext m;have y:Qbu Qf7 1 3 F R b (Qa9 s) L:=h.rows.keep fun k d f=>⟨m.block k d,f⟩
 refine⟨.map (some i),B.one rfl,Hh ?_⟩;refine⟨Xio c,⟨rfl,l.all⟩,Hh ?_⟩
 refine⟨vi ((Qe s c).getD 0),(by
  have:=X5 Xkh Qy3 (e:=ty2) ty2_ok (cl:= .same) Qs E c;rw[show (Qe (Xj vi s) c).getD ty2.zero=vi ((Qe s c).getD 0) from Xt vi _ _ 0]at this;exact this),Hh ?_⟩
 refine Xi Qb (ι:=List (Bj×(Option Addr×Nat))×(Nat->Prop)) (fun _=>[(0,Pj p),(4,Pj g),(2,Vj x),(6,Vj ((Qe s c).getD 0))])
  (fun q w'=>At w' p 274 [vi width,vi n,.map (some i),.map (some b)]/\At w' g 285 (Xio c)/\MapAt w' i cel (Xj vi s)/\Qbu Qf7 1 3 w' q.2 b (Qa9 (Xe s c ((Qe s c).getD 0+x))) q.1/\(∀k,q.2 k->Grow S w k/\k≠p/\k≠i/\k≠g)/\Mod S w w') ?_ ?_
 . (conv=>whnf)
   constructor
   .intro j;have j:Qe s c=none:=bh.2.2.2 (Su j);have P:=y.own c.1;generalize J:(rowAt L c.1).1=o at P;generalize ag:(rowAt L c.1).2=ab at P;have af:∀a,o=some a->R a.block/\a.block≠b/\a.block<w.heap.size:=fun a D=>(by have ae:=h.rows.own c.1;rw[J]at ae;exact⟨(P.2 a D).1,(P.2 a D).2,(ae.1.block D).2⟩)
    have u:∀k,k=p\/k=b\/k=g\/k=i->¬∃a,o=some a/\k=a.block:=by
     rintro k I ⟨a,D,rfl⟩;obtain⟨bj,bk,bx⟩:=af a D;have:=h.rset _ bj;rcases I with q|q|q|q
     .exact this.2.1 q
     .exact bk q
     .omega
     .exact this.2.2 q
    have bv:(Qa9 s c.1).length<=s.length:=(by unfold Qa9;rw[Zg];exact Zc _ _);refine Hh ?_;refine Dr (.mods (fun k=>∃a,o=some a/\k=a.block)) [0,1,2,3,4,5,6,7,8,9,10,11,12,13,14,15,16] [17] (Hh ?_);replace B:At F.drew p _ _:=B;replace l:At F.drew g _ _:=l;replace E:MapAt F.drew i cel (Xj vi s):=E.keep rfl;replace y:Qbu Qf7 1 3 F.drew R b (Qa9 s) L:=y.keep fun k _ f=>⟨rfl,f⟩
    replace m:Ext w F.drew:=m.drew;generalize F.drew=H at B l E y m⊢;refine⟨.map (some b),⟨B.one rfl,by rw[add_block];exact u p (.inl rfl)⟩,Hh ?_⟩;refine⟨_,⟨l.one rfl,by rw[add_block];exact u g (.inr (.inr (.inl rfl)))⟩,Hh ?_⟩;refine⟨.map (some b),⟨B.one rfl,by rw[add_block];exact u p (.inl rfl)⟩,Hh ?_⟩;refine⟨_,⟨l.one rfl,by rw[add_block];exact u g (.inr (.inr (.inl rfl)))⟩,Hh ?_⟩
    refine⟨.slice o (Qa9 s c.1).length ab,(by
     have:=y.look Xgy Xd (e:=ty52) ty52_ok rfl c.1 (Qww (S:=fun k=>∃a,o=some a/\k=a.block) y.map.lt (u b (.inr (.inl rfl))));rw[J,ag]at this;exact this),Hh ?_⟩
    refine⟨_,⟨l.one rfl,by rw[add_block];exact u g (.inr (.inr (.inl rfl)))⟩,Hh ?_⟩;intro bm an A;refine⟨Mod.of_ext A.ext,Hh ?_⟩;have bb:Own Qf7 1 3 0 an o ab (Qa9 s c.1):=(by have:=(y.own c.1).1;rw[J,ag]at this;exact this.ext A.ext);refine Qek (news:= [c.2]) ty3_ok Xdw by3 rfl rfl (by decide) X8 Q2p bb (Qai X8 A) (by simp;omega) (by simp;omega) (Zt _) ?_;intro ao av w5 bd K ax
    have U:∀k,o.map (·.block)=some k->∃a,o=some a/\k=a.block:=by
     intro k I
     cases o with
     |none=>simp at I
     |some a=>exact⟨a,rfl,Su I.symm⟩
    refine⟨Xn K U,?_⟩;refine Hh ?_
    have a5:MapAt w5 b Value.string (toV (Qa9 s) L):=
     (y.map.ext A.ext).keep (K.block b (y.map.ext A.ext).lt (fun aw=>u b (.inr (.inl rfl)) (U b aw.symm)))
    refine Qx Xgy (Qr Xd) a5 c.1 _ fun bl a9 Z=>?_
    have be:=y.push (k:=c.1) (r:=Qa9 s c.1++[c.2]) (by simp) A.ext (by rw[J];exact K) (by rw[J];exact ax) bd a9 Z;have W:=h.rset b h.rows.mine;have br:=h.rows.map.lt
    have aa:∀k,k<H.heap.size->k≠b->¬(∃a,o=some a/\k=a.block)->bl.heap[k]?=H.heap[k]? := by
     intro k d f a7;rw[Z.block k f,K.block k (by have:=A.ext.size;omega) (fun q=>a7 (U k q.symm)),A.ext.block k d]
    have al:=m.size;have bq:=l.lt;refine Hh ?_;refine⟨(Xe L c.1 (ao,av),Grow R H),⟨?_,?_,?_,?_,?_,?_⟩,Rr⟩
    .exact(aa p B.lt (fun q=>W.2.1 q.symm) (u p (.inl rfl))).trans B
    .exact(aa g l.lt Om (u g (.inr (.inr (.inl rfl))))).trans l
    .exact E.keep (aa i E.lt (fun q=>W.2.2 q.symm) (u i (.inr (.inr (.inr rfl)))))
    .rw[Xcb j];exact be
    .rintro k (d|d)
     .have:=h.rset k d;have aj:=a0 k d;exact⟨.inl this.1,this.2.1,this.2.2,Om⟩
     .exact⟨.inr Om,Om,Om,Om⟩
    .refine Qn (Mod.of_ext m) ((Mod.of_ext A.ext).trans ((Xn K fun k I=>?_).trans (Qj Z (.inl W.1))));obtain⟨a,D,q⟩:=U k I;rw[q];exact .inl (h.rset _ (af a D).1).1
   .intro j;have ac:¬(Qe s c).getD 0=0:=Su j
    obtain⟨v0,bi⟩:∃v0,Qe s c=some v0:=by
     cases aj:Qe s c with
     |none=>rw[aj]at ac;simp at ac
     |some v=>exact⟨v,rfl⟩
    refine Hh ?_;refine⟨(L,fun k=>R k/\k<w.heap.size),⟨B,l,E,?_,?_,Mod.of_ext m⟩,Rr⟩
    .rw[Xcc bi];exact h.rows.keep fun k d f=>⟨m.block k d,f,d⟩
    .rintro k ⟨d,f⟩;have:=h.rset k d;exact⟨.inl this.1,this.2.1,this.2.2,Om⟩
 rintro ⟨aq,au⟩ H ⟨ai,a4,al,ak,O,a8⟩;simp only at ak O;refine Hh ?_;refine Dr .same [0,1,2,3,4,5,6,7] [8] (Hh ?_);refine⟨.map (some i),show H.drew.cell? _=_ from ai.one rfl,Hh ?_⟩;refine⟨Xio c,⟨rfl,show Xq H.drew _ _ from a4.all⟩,Hh ?_⟩;refine⟨(Qe s c).getD 0+x,wrap_eq rfl ⟨Om,Om⟩,Hh ?_⟩;refine Qx (w:=H.drew) Xkh Qy3 (al.keep rfl) c (vi ((Qe s c).getD 0+x)) fun an ah Y=>?_
 rw[Xc]at ah;refine Hh ?_;refine⟨rfl,⟨i,b,aq,au,⟨.inl h.mine.1,.inl h.mine.2.1,h.mine.2.2⟩,Y.at_ ai (Ne.symm h.mine.2.2),?_,?_,fun k z=>⟨(O k z).1,(O k z).2.1,(O k z).2.2.1⟩⟩,a8.trans ((Mod.drew _).trans (Qj Y h.mine.2.1))⟩
 .unfold Qr7;rw[if_neg C];exact ah
 .unfold Qr7;rw[if_neg C];exact ak.keep fun k _ f=>⟨Y.block k (O k f).2.2.1,f⟩
theorem Q56(w S p width n s)(h:Qn3 w S p width n s)(C:1<=width/\width<=1099511627776)(key:Bj)(t x N)(j:Qhh s N)(l:0<=N)(m:N<1000000000000000)(D:0<=x/\x<=1048576)(z:s.length<100000000)(F:1<=key.size/\key.size<=24)(B:0<=t/\t<=1099511627776)(H:0<=n/\n<1048576) :
 Cal Tryz.prog 106 [Pj p,.string key,Vj t,Vj x] w fun r w'=>r=.bool true/\Qn3 w' (Grow S w) p width (n+1) (Qr7 s (key,t/width) x)/\Mod S w w':=by
 obtain⟨d,c,L,i,h⟩:=h;refine Fi Tryz.func106 rfl _ rfl rfl (Hh ?_);have u:(((decide ((key.size:Int)<1)||decide ((24:Int)<key.size))||decide (t<0))||decide (1099511627776<t))=false:=(by rw[decide_eq_false Om,decide_eq_false Om,decide_eq_false Om,decide_eq_false Om];rfl);constructor
 .intro q;have q:=u.symm.trans q;cases q
 intro _;refine Hh ?_;refine⟨_,fun _=>h.head.one rfl,Hh ?_⟩;have v:((decide (x<0)||decide (1048576<x))||decide (1048576<=n))=false:=(by rw[decide_eq_false Om,decide_eq_false Om,decide_eq_false Om];rfl);constructor
 .intro q;have q:=v.symm.trans q;cases q
 intro _;refine Hh ?_;refine⟨_,h.head.one rfl,Hh ?_⟩;refine⟨n+1,wrap_eq rfl ⟨Om,Om⟩,Hh ?_⟩;refine Qc Qb (e:=ty3) rfl h.head rfl rfl rfl Oj fun g f b=>?_
 have o:Qn3 g S p width (n+1) s:=⟨d,c,L,i,h.mine,f,h.sums.only b h.mine.2.2,h.rows.keep fun k _ a=>⟨b.block k (h.rset k a).2.1,a⟩,h.rset⟩;refine Hh ?_;refine(Xbg g p width (n+1) d c f C t B).mono ?_;rintro _ E ⟨rfl,rfl⟩;refine Hh ?_;refine(Q58 E S p width (n+1) s o (key,t/width) x N j l m ⟨D.1,Om⟩ z).mono ?_;rintro _ I ⟨rfl,y,A⟩;refine Hh ?_;refine⟨rfl,y.keep fun k _ a=>⟨rfl,?_⟩,(Qj b h.mine.1).trans A⟩;rcases a with a|a
 .exact .inl a
 .exact .inr (by rw[b.size]at a;exact a)
def Qsp(w:World)(S:Nat->Prop)(b:Nat)(m:List (Bj×Bool)):Prop:=S b/\MapAt w b Value.string (Xj Value.bool m)
theorem Qay:Local Qsp where
 keep h a:=⟨(a _ h.2.lt h.1).2,h.2.keep (a _ h.2.lt h.1).1⟩
 lt h:=⟨h.2.lt,h.1⟩
def Qyt(w:World)(S:Nat->Prop)(b:Nat)(m:List (Int×List (Bj×Bool))):Prop:=MapOf vi Qsp w S b m
theorem Qap:Local Qyt:=Qz7 Qay
abbrev Ses:=List (Bj×List (Int×List (Bj×Bool)))
def Xd3(s:Ses)(person:Bj)(t:Int)(item:Bj):Ses:=
 Xe s person (Xe ((Qe s person).getD []) t (Xe ((Qe ((Qe s person).getD []) t).getD []) item true))
structure SeL(w:World)(S:Nat->Prop)(p:Nat)(gap:Int)(s:Ses)(bm:Nat):Prop where
 mine:S p
 head:At w p 277 [vi gap,.map (some bm)]
 sums:MapOf Value.string Qyt w (fun k=>S k/\k≠p) bm s
def Q1y(w:World)(S:Nat->Prop)(p:Nat)(gap:Int)(s:Ses):Prop:=∃a,SeL w S p gap s a
theorem Q1y.keep{w w1 S S' p gap s}(h:Q1y w S p gap s)(a:∀k,k<w.heap.size->S k->w1.heap[k]?=w.heap[k]? /\ S' k):Q1y w1 S' p gap s:=by
 obtain⟨c,h⟩:=h;refine⟨c,(a p h.head.lt h.mine).2,(a p h.head.lt h.mine).1.trans h.head,h.sums.keep Qap fun k d b=>?_⟩;obtain⟨e,f⟩:=a k d b.1;exact⟨e,f,b.2⟩
def Q9m(h:Int):Int:=min (max h 0) 1099511627776
theorem Q6m(gap w):Cal Tryz.prog 94 [Vj gap] w fun r w'=>∃p,r=Pj p/\Q1y w' (fun k=>w.heap.size<=k) p (Q9m gap) []/\Ext w w':=by
 refine Fi Tryz.func94 rfl _ rfl rfl (Hh ?_);intro d j a;refine Hh ?_;intro c l b;refine Hh ?_;have g:=a.block;have h:=b.block;have i:=a.size;refine⟨c,rfl,⟨d,Om,b.At,?_⟩,a.ext.trans b.ext⟩;exact(MapOf.new (S:=fun k=>w.heap.size<=k/\k≠c) a ⟨Om,Om⟩).keep Qap fun k e f=>⟨b.ext.block k e,f⟩
theorem Xgz:Tryz.prog.underlying 275=some (.map 9 286):=by kernel_rfl
theorem Q7i:Tryz.prog.underlying 286=some (.map 3 79):=by kernel_rfl
theorem Qqh:Tryz.prog.underlying 79=some (.map 9 4):=by kernel_rfl
theorem Qp0(t:Bj)(w):Cal Tryz.prog 169 [.string t] w fun r w'=>r=.bool (decide ((1:Int)<=t.size)&&decide ((t.size:Int)<=24))/\w'=w:=by
 refine Fi Tryz.func169 rfl _ rfl rfl (Hh ?_);exact⟨rfl,rfl⟩
set_option maxHeartbeats 1000000 in
theorem Q6j(w S p gap s)(h:Q1y w S p gap s)(person item:Bj)(t)(a0:1<=person.size/\person.size<=24)(hi:1<=item.size/\item.size<=24)(a5:0<=t/\t<=1099511627776) :
 Cal Tryz.prog 107 [Pj p,.string person,Vj t,.string item] w fun r w'=>r=.bool true/\Q1y w' (Grow S w) p gap (Xd3 s person t item)/\Mod S w w':=by
 obtain⟨i,h⟩:=h;have a4:=h.head.lt;refine Fi Tryz.func107 rfl _ rfl rfl (Hh ?_);refine(Qp0 person w).mono ?_;rintro _ Z ⟨rfl,u⟩;replace u:=u.symm;subst u;refine Hh ?_;refine⟨Unit,fun _=>.bool (decide ((1:Int)<=item.size)&&decide ((item.size:Int)<=24)),fun _ w'=>w'=w,(),fun _=>(Qp0 item w).mono (fun r w' h=>⟨(),h.1,h.2⟩),fun _ Z I=>?_⟩;have u:w=Z:=(by rcases I with⟨_,h⟩|⟨_,h⟩<;>exact h.symm);clear I;subst u;refine Hh ?_;have L:((((!(decide ((1:Int)<=person.size)&&decide ((person.size:Int)<=24)))||(!(decide ((1:Int)<=item.size)&&decide ((item.size:Int)<=24))))||decide (t<0))||decide (1099511627776<t))=false:=(by rw[decide_eq_true Om,decide_eq_true Om,decide_eq_true Om,decide_eq_true Om,decide_eq_false Om,decide_eq_false Om];rfl);constructor
 .intro q;have q:=L.symm.trans q;cases q
 intro _;clear L;refine Hh ?_
 refine Xi Qb (ι:=Ses) (fun _=>[(0,Pj p),(1,.string person),(2,Vj t),(3,.string item)])
  (fun B w'=>(∃f,Qe B person=some f/\f=(Qe s person).getD [])/\(∀v,Xe B person v=Xe s person v)/\MapOf Value.string Qyt w' (fun k=>Grow S w k/\k≠p) i B/\At w' p 277 [vi gap,.map (some i)]/\Mod S w w') ?_ ?_
 . (conv=>whnf)
   refine⟨.map (some i),h.head.one rfl,Hh ?_⟩;rcases h.sums.look Qap Xgz (Qr Xd) (e:=ty286) ty286_ok rfl person with⟨c,d⟩|⟨b,v,g,n,d,J,E,_⟩
   .refine⟨_,d .same Qs,Hh ?_⟩;refine⟨_,Qaz Q7i none _ _,Hh ?_⟩;constructor
    .intro _;refine Hh ?_;refine⟨.map (some i),h.head.one rfl,Hh ?_⟩;intro aw j m;refine Hh ?_;have ay:=m.block;refine h.sums.insert Qap Xgz (Qr Xd) person c m.ext (v:= []) (MapOf.new m Om) fun av aj U=>?_
     refine Hh ?_;have ag:i≠p:=h.sums.lt.2.2;refine⟨Xe s person [],⟨⟨[],Q8 _ _ _,by rw[c];rfl⟩,fun v=>Qdp person [] v s,?_,?_,?_⟩,Rr⟩
     .refine aj.keep Qap fun k _ a=>⟨rfl,?_⟩
      rcases a with a|a
      .exact⟨.inl a.1,a.2⟩
      .exact⟨.inr a,Om⟩
     .exact U.at_ (h.head.ext m.ext) (Ne.symm ag)
     .exact(Mod.of_ext m.ext).trans (Qj U h.sums.lt.2.1)
    .intro q;cases q
   .refine⟨_,d .same Qs,Hh ?_⟩;refine⟨_,Qaz Q7i (some b) _ _,Hh ?_⟩;constructor
    .intro q;cases q
    .intro _;refine Hh ?_;refine⟨s,⟨⟨v,n,by rw[n];rfl⟩,fun v=>rfl,h.sums.keep Qap fun k _ a=>⟨rfl,.inl a.1,a.2⟩,h.head,Mod.refl _ _⟩,Rr⟩
 rintro B j ⟨⟨f,N,ai⟩,aq,ao,H,P⟩;refine Hh ?_;refine⟨.map (some i),H.one rfl,Hh ?_⟩;rcases ao.look Qap Xgz (Qr Xd) (e:=ty286) ty286_ok rfl person with⟨c,d⟩|⟨b,v,g,n,d,J,E,ae⟩
 .rw[N]at c;cases c
 obtain rfl:f=v:=by rw[N]at n;simpa using n
 refine⟨_,d .same Qs,Hh ?_⟩;have x:MapOf vi Qsp j g b f:=J
 refine Xi Qb (ι:=List (Int×List (Bj×Bool))) (fun _=>[(2,Vj t),(3,.string item),(10,.map (some b))])
  (fun A w'=>(∃z,Qe A t=some z/\z=(Qe f t).getD [])/\(∀v,Xe A t v=Xe f t v)/\MapOf vi Qsp w' (Grow g j) b A/\Mod g j w') ?_ ?_
 . (conv=>whnf)
   rcases x.look Qay Q7i (Qhq Xh5) (e:=ty79) ty79_ok rfl t with⟨c,d⟩|⟨D,v,aa,o,d,l,K,_⟩
   .refine⟨_,d .same Qs,Hh ?_⟩;refine⟨_,Qaz Qqh none _ _,Hh ?_⟩;constructor
    .intro _;refine Hh ?_;intro ax C y;refine Hh ?_;have az:=y.block;refine x.insert Qay Q7i (Qhq Xh5) t c y.ext (v:= []) ⟨Om,MapAt.new y⟩ fun a7 ak al=>?_
     refine Hh ?_;exact⟨Xe f t [],⟨⟨[],Q8 _ _ _,by rw[c];rfl⟩,fun v=>Qdp t [] v f,ak,(Mod.of_ext y.ext).trans (Qj al x.lt.2)⟩,Rr⟩
    .intro q;cases q
   .refine⟨_,d .same Qs,Hh ?_⟩;refine⟨_,Qaz Qqh (some D) _ _,Hh ?_⟩;constructor
    .intro q;cases q
    .intro _;refine Hh ?_;exact⟨f,⟨⟨v,o,by rw[o];rfl⟩,fun v=>rfl,x.keep Qay fun k _ a=>⟨rfl,.inl a⟩,Mod.refl _ _⟩,Rr⟩
 rintro A av ⟨⟨z,Y,au⟩,ar,ab,R⟩;refine Hh ?_;rcases ab.look Qay Q7i (Qhq Xh5) (e:=ty79) ty79_ok rfl t with⟨c,W⟩|⟨D,v,aa,o,W,l,K,af⟩
 .rw[Y]at c;cases c
 obtain rfl:z=v:=by rw[Y]at o;simpa using o
 refine⟨_,W .same Qs,Hh ?_⟩;refine Qx Qqh (Qr Xd) l.2 item (.bool true) fun C O V=>?_
 rw[Xc]at O;refine Hh ?_;have ac:=K D l.1;have M:=af C (Xe z item true) ⟨.inl l.1,O⟩ (Qj V l.1);rw[ar,au]at M;have F:Mod g j C:=Qn R (Qj V ac.1)
 have hfin:=ae C _ (MapOf.keep Qay M (S':=Grow g j) fun k _ a=>⟨rfl,by
  rcases a with a|a
  .exact a
  .exact .inr (by have:=R.size;omega)⟩) F
 rw[aq]at hfin;have a3:=H.lt;have an:¬g p:=fun q=>(E p q).1.2 rfl
 refine⟨rfl,⟨i,.inl h.mine,H.mod F an,?_⟩,Qn P (F.mono fun k _ ah=>(E k ah).1.1)⟩;unfold Xd3;rw[<- ai];refine hfin.keep Qap fun k _ a=>⟨rfl,?_⟩
 rcases a with a|a
 .exact a
 .exact⟨.inr (by have:=P.size;omega),Om⟩
structure Cfg where
 half:Int
 width:Int
 gap:Int
 span:Int
 floor:Int
 crowd:Int
def Qrg(c:Cfg):List Value:= [vi c.half,vi c.width,vi c.gap,vi c.span,vi c.floor,vi c.crowd]
def Xhe(c:Cfg):Value:= .agg (Qrg c).toArray
def Qu7(c:Cfg):Bool:=inB c.half 1 1099511627776&&inB c.width 1 1099511627776&&inB c.span 1 1099511627776&&decide (c.span.tmod c.width=0)&&inB c.gap 0 1099511627776&&inB c.floor 0 1048576&&inB c.crowd 0 1048576
theorem Qdl(n lo hi w):Cal Tryz.prog 89 [Vj n,Vj lo,Vj hi] w fun r w'=>r=.bool (inB n lo hi)/\w'=w:=by
 refine Fi Tryz.func89 rfl _ rfl rfl (Hh ?_);exact⟨rfl,rfl⟩
theorem Qym(c w):Cal Tryz.prog 48 [Xhe c] w fun r w'=>r=.bool (Qu7 c)/\Ext w w':=by
 refine Fi Tryz.func48 rfl _ rfl rfl (Hh ?_);intro b a m;have d:At a b 26 (Qrg c):=m.At;refine Hh ?_;refine⟨_,d.one0,Hh ?_⟩;refine(Qdl c.half 1 1099511627776 a).mono ?_;rintro _ B ⟨rfl,f⟩;replace f:=f.symm;subst f;refine Hh ?_;refine⟨_,fun _=>d.one rfl,Hh ?_⟩;refine⟨Unit,fun _=>.bool (inB c.width 1 1099511627776),fun _ w'=>w'=a,(),fun _=>(Qdl c.width 1 1099511627776 a).mono fun r w' h=>⟨(),h.1,h.2⟩,?_⟩;intro _ x g;have n:a=x:=(by rcases g with⟨_,h⟩|⟨_,h⟩<;>exact h.symm);clear g;subst n;refine Hh ?_;refine⟨_,fun _=>d.one rfl,Hh ?_⟩;refine⟨Unit,fun _=>.bool (inB c.span 1 1099511627776),fun _ w'=>w'=a,(),fun _=>(Qdl c.span 1 1099511627776 a).mono fun r w' h=>⟨(),h.1,h.2⟩,?_⟩;intro _ y i;have o:a=y:=(by rcases i with⟨_,h⟩|⟨_,h⟩<;>exact h.symm);clear i;subst o;refine Hh ?_;refine⟨_,fun _=>d.one rfl,Hh ?_⟩;refine⟨_,fun _=>d.one rfl,Hh ?_⟩;refine⟨c.span.tmod c.width,fun e=>⟨?_,rfl⟩,?_⟩
 .have e:(inB c.half 1 1099511627776&&inB c.width 1 1099511627776&&inB c.span 1 1099511627776)=true:=e;simp only[Zk,Qdc]at e;omega
 refine Hh ?_;refine⟨_,fun _=>d.one rfl,Hh ?_⟩;refine⟨Unit,fun _=>.bool (inB c.gap 0 1099511627776),fun _ w'=>w'=a,(),fun _=>(Qdl c.gap 0 1099511627776 a).mono fun r w' h=>⟨(),h.1,h.2⟩,?_⟩;intro _ w5 j;have s:a=w5:=(by rcases j with⟨_,h⟩|⟨_,h⟩<;>exact h.symm);clear j;subst s;refine Hh ?_;refine⟨_,fun _=>d.one rfl,Hh ?_⟩;refine⟨Unit,fun _=>.bool (inB c.floor 0 1048576),fun _ w'=>w'=a,(),fun _=>(Qdl c.floor 0 1048576 a).mono fun r w' h=>⟨(),h.1,h.2⟩,?_⟩;intro _ z k;have u:a=z:=(by rcases k with⟨_,h⟩|⟨_,h⟩<;>exact h.symm);clear k;subst u;refine Hh ?_;refine⟨_,fun _=>d.one rfl,Hh ?_⟩;refine⟨Unit,fun _=>.bool (inB c.crowd 0 1048576),fun _ w'=>w'=a,(),fun _=>(Qdl c.crowd 0 1048576 a).mono fun r w' h=>⟨(),h.1,h.2⟩,?_⟩;intro _ A l;have v:a=A:=(by rcases l with⟨_,h⟩|⟨_,h⟩<;>exact h.symm);clear l;subst v;refine Hh ?_;exact⟨rfl,m.ext⟩
abbrev IK:=Bj×Int
def idC(k:IK):List Value:= [.string k.1,Vj k.2]
def idV(k:IK):Value:= .agg (idC k).toArray
def Xmx(e:Ev):IK:=(e.src,e.num)
theorem Q9z:Qu6 Tryz.prog 132 idV:=
 Qij (encl:=idC) Qb st132 (fun k=>rfl)
  (fun a b=>by
   show some (decide (a.1=b.1)&&(decide (a.2=b.2)&&true))=some (decide (a=b))
   rw[Zdg];congr 1
   by_cases c:a.1=b.1<;>by_cases d:a.2=b.2<;>simp[Prod.ext_iff,c,d])
  (fun k=>by simp[Instr.sameBits,idC,Go.MapKept.bytes_beq])
structure Cts where
 cs:List Ev
 rs:List Row
 dn:Int
 ds:Qmb
 pn:Int
 ps:Qar
 ss:Ses
def Q7o:Cts:=⟨[],[],0,[],0,[],[]⟩
def Qg5(s:Bj):Bj:=(⟨#[59]⟩:Bj)++s
def Qbj(cs:List Ev)(e:Ev):List Bj:=if(Xz cs e.item e.at_).2=true then Xg (Qg5 (Xz cs e.item e.at_).1.tags) else []
def Qd9(width:Int)(c:Cts)(e:Ev):Cts:=
 if e.kind=11\/e.kind=12\/e.kind=13 then { c with cs:=c.cs++[e] }
 else if e.kind=14 then c
 else if 0<Qz e then⟨c.cs,c.rs++[(e,Qbw (Qbj c.cs e))],c.dn+1,Qr8 c.ds e.item e.at_ (Qz e),c.pn+1,Qr7 c.ps (e.item,e.at_/Xf width) (Qz e),Xd3 c.ss e.person e.at_ e.item⟩
 else { c with rs:=c.rs++[(e,Qbw (Qbj c.cs e))] }
structure WS where
 es:List Ev
 any:Bool
 last:Ev
 ad:List (IK×Bool)
 fg:List (Bj×Bool)
 ct:Cts
structure WP where
 ba:Nat
 bf:Nat
 pc:Nat
 pw:Nat
 pd:Nat
 pp:Nat
 ps:Nat
def wC(c:Cfg)(A:Option Addr)(n cap:Nat)(any:Bool)(last:Ev)(q:WP):List Value:=
 [vi c.half,vi c.width,vi c.gap,vi c.span,vi c.floor,vi c.crowd,.slice A n cap,.bool any,
  .string last.src,Vj last.num,Vj last.at_,Vj last.kind,.string last.person,.string last.item,Vj last.val,.string last.text,
  .map (some q.ba),.map (some q.bf),Pj q.pc,Pj q.pw,Pj q.pd,Pj q.pp,Pj q.ps,.pointer none]
structure Qqs(w:World)(col:Nat->Nat)(c:Cfg)(q:WP)(t:Cts):Prop where
 cat:Qgl w (fun k=>col k=1) q.pc t.cs
 crowd:X7 w (fun k=>col k=2) q.pw (Xf c.half) t.rs
 dec:Qqr w (fun k=>col k=3) q.pd (Xf c.half) t.dn t.ds
 pane:Qn3 w (fun k=>col k=4) q.pp (Xf c.width) t.pn t.ps
 ses:Q1y w (fun k=>col k=5) q.ps (Q9m c.gap) t.ss
theorem Qqs.keep{w w1 col e c q t}(h:Qqs w col c q t)(b:∀k,k<w.heap.size->1<=col k/\col k<=5->w1.heap[k]?=w.heap[k]? /\ e k=col k):Qqs w1 e c q t:=
 ⟨h.cat.keep fun k a d=>⟨(b k a Om).1,by rw[(b k a Om).2];exact d⟩,
  h.crowd.keep fun k a d=>⟨(b k a Om).1,by rw[(b k a Om).2];exact d⟩,
  h.dec.keep fun k a d=>⟨(b k a Om).1,by rw[(b k a Om).2];exact d⟩,
  h.pane.keep fun k a d=>⟨(b k a Om).1,by rw[(b k a Om).2];exact d⟩,
  h.ses.keep fun k a d=>⟨(b k a Om).1,by rw[(b k a Om).2];exact d⟩⟩
structure Qcd(w:World)(base:Nat)(p:Nat)(c:Cfg)(s:WS)(col:Nat->Nat)(q:WP)(A:Option Addr)(cap:Nat):Prop where
 low:10<=base/\∀k,col k≠0->base<=k
 head:At w p 87 (wC c A s.es.length cap s.any s.last q)
 cols:col p=6/\col q.ba=7/\col q.bf=8/\∀a,A=some a->col a.block=9
 added:MapAt w q.ba idV (Xj Value.bool s.ad)
 forg:MapAt w q.bf Value.string (Xj Value.bool s.fg)
 evs:Own evC 8 69 0 w A cap s.es
 cts:Qqs w col c q s.ct
def Qgm(w:World)(base:Nat)(p:Nat)(c:Cfg)(s:WS):Prop:=∃col q A cap,Qcd w base p c s col q A cap
theorem Qgm.ext{w w1 base p c s}(h:Qgm w base p c s)(hx:Ext w w1):Qgm w1 base p c s:=by
 obtain⟨col,q,A,cap,h⟩:=h;exact⟨col,q,A,cap,h.low,h.head.ext hx,h.cols,h.added.ext hx,h.forg.ext hx,h.evs.ext hx,h.cts.keep fun k a _=>⟨hx.block k a,rfl⟩⟩
theorem Xm6:Tryz.prog.underlying 78=some (.map 132 4):=by kernel_rfl
def Xiy(n0 a b c d e k:Nat):Nat:=if k<n0 then 0 else if k<a then 1 else if k<b then 2 else if k<c then 3 else if k<d then 4 else if k<e then 5 else 0
set_option maxHeartbeats 2000000 in
theorem Q4j(w p c v6 R S v9 v10 v11 K L M N O P ao aq ar au av aw)
 (J:At w p 87 [vi c.half,vi c.width,vi c.gap,vi c.span,vi c.floor,vi c.crowd,v6,R,S,v9,v10,v11,K,L,M,N,O,P,ao,aq,ar,au,av,aw]) :
 Cal Tryz.prog 49 [Pj p] w fun r w'=>r=.tuple #[]/\∃(pc pw pd pp ps:Nat) (col:Nat->Nat),At w' p 87 [vi c.half,vi c.width,vi c.gap,vi c.span,vi c.floor,vi c.crowd,v6,R,S,v9,v10,v11,K,L,M,N,O,P,Pj pc,Pj pw,Pj pd,Pj pp,Pj ps,.pointer none] /\
  (∀ba bf,Qqs w' col c ⟨ba,bf,pc,pw,pd,pp,ps⟩ Q7o)/\(∀k,col k≠0->w.heap.size<=k/\k<w'.heap.size/\col k<=5)/\Mod (fun k=>k=p) w w':=by
 have ax:=J.lt;refine Fi Tryz.func49 rfl _ rfl rfl (Hh ?_);refine(Qoi w).mono ?_;rintro _ U ⟨pc,rfl,ab,u⟩;have ay:=u.size;refine Hh ?_;refine Qc Qb (e:=ty80) rfl (J.ext u) rfl rfl rfl Oj fun A b m=>?_
 have a9:=m.size;refine Hh ?_;refine⟨_,b.one rfl,Hh ?_⟩;refine(Qs7 c.half A).mono ?_;rintro _ V ⟨pw,rfl,ac,v⟩;have az:=v.size;refine Hh ?_;refine Qc Qb (e:=ty81) rfl (b.ext v) rfl rfl rfl Oj fun B E n=>?_
 have bb:=n.size;refine Hh ?_;refine⟨_,E.one rfl,Hh ?_⟩;refine(Qza c.half B).mono ?_;rintro _ w5 ⟨pd,rfl,ae,x⟩;have a0:=x.size;refine Hh ?_;refine Qc Qb (e:=ty82) rfl (E.ext x) rfl rfl rfl Oj fun C F o=>?_
 have bd:=o.size;refine Hh ?_;refine⟨_,F.one rfl,Hh ?_⟩;refine(Q57 c.width C).mono ?_;rintro _ W ⟨pp,rfl,af,y⟩;have a3:=y.size;refine Hh ?_;refine Qc Qb (e:=ty83) rfl (F.ext y) rfl rfl rfl Oj fun D H s=>?_
 have be:=s.size;refine Hh ?_;refine⟨_,H.one rfl,Hh ?_⟩;refine(Q6m c.gap D).mono ?_;rintro _ Y ⟨ps,rfl,ag,z⟩;have a4:=z.size;refine Hh ?_;refine Qc Qb (e:=ty84) rfl (H.ext z) rfl rfl rfl Oj fun a5 Z j=>?_
 have a7:=j.size;refine Hh ?_;refine Qc Qb (e:=ty85) rfl Z rfl rfl rfl Oj fun d aa l=>?_
 have a8:=l.size;refine Hh ?_;have ah:Mod (fun k=>k=p) w A:=(Mod.of_ext u).trans m.mod;have I:Mod (fun k=>k=p) A B:=(Mod.of_ext v).trans n.mod;have i:Mod (fun k=>k=p) B C:=(Mod.of_ext x).trans o.mod;have g:Mod (fun k=>k=p) C D:=(Mod.of_ext y).trans s.mod;have f:Mod (fun k=>k=p) D d:=(Mod.of_ext z).trans (j.mod.trans l.mod);have an:Mod (fun k=>k=p) Y d:=j.mod.trans l.mod;have al:Mod (fun k=>k=p) W d:=s.mod.trans f;have ak:Mod (fun k=>k=p) w5 d:=o.mod.trans (g.trans f);have aj:Mod (fun k=>k=p) V d:=n.mod.trans (i.trans (g.trans f));have ai:Mod (fun k=>k=p) U d:=m.mod.trans (I.trans (i.trans (g.trans f)));refine⟨rfl,pc,pw,pd,pp,ps,Xiy w.heap.size U.heap.size V.heap.size w5.heap.size W.heap.size Y.heap.size,aa,fun ba bf=>⟨?_,?_,?_,?_,?_⟩,?_,ah.trans (I.trans (i.trans (g.trans f)))⟩
 .refine ab.keep fun k a b=>⟨ai.block k a Om,?_⟩
  unfold Xiy;rw[if_neg Om,if_pos a]
 .refine ac.keep fun k a b=>⟨aj.block k a Om,?_⟩
  unfold Xiy;rw[if_neg Om,if_neg Om,if_pos a]
 .refine ae.keep fun k a b=>⟨ak.block k a Om,?_⟩
  unfold Xiy;rw[if_neg Om,if_neg Om,if_neg Om,if_pos a]
 .refine af.keep fun k a b=>⟨al.block k a Om,?_⟩
  unfold Xiy;rw[if_neg Om,if_neg Om,if_neg Om,if_neg Om,if_pos a]
 .refine ag.keep fun k a b=>⟨an.block k a Om,?_⟩
  unfold Xiy;rw[if_neg Om,if_neg Om,if_neg Om,if_neg Om,if_neg Om,if_pos a]
 .intro k h;unfold Xiy at h⊢
  repeat' split at h
  all_goals first
   |exact absurd rfl h
   |(refine⟨Om,Om,?_⟩;repeat' split;all_goals omega)
def WS0:WS:=⟨[],false,Xh8,[],[],Q7o⟩
theorem Qu3(c w)(C:10<=w.heap.size)(A:Qu7 c=true):Cal Tryz.prog 17 [Xhe c] w fun r w'=>∃p,r=.tuple #[Pj p,Vj 0]/\Qgm w' w.heap.size p c WS0/\Ext w w':=by
 refine Fi Tryz.func17 rfl _ rfl rfl (Hh ?_);intro u s g;have n:At s u 26 (Qrg c):=g.At;refine Hh ?_;refine⟨Qrg c,⟨rfl,n.all⟩,Hh ?_⟩;refine(Qym c s).mono ?_;rintro _ V ⟨rfl,m⟩;rw[A];have z:=n.ext m;refine Hh ?_;constructor
 .intro q;cases q
 intro _;refine Hh ?_;refine⟨Qrg c,⟨rfl,z.all⟩,Hh ?_⟩;intro a W h;refine Hh ?_;intro b Y f;refine Hh ?_;intro d w5 e;refine Hh ?_;have J:=h.block;have K:=f.block;have L:=e.block;have O:=g.size;have P:=m.size;have R:=h.size;have S:=f.size;have U:=e.size;have I:=g.block;refine(Q4j w5 d c _ _ _ _ _ _ _ _ _ _ _ _ _ _ _ _ _ _ e.At).mono ?_;rintro _ Z ⟨rfl,pc,pw,pd,pp,ps,col,y,B,i,l⟩;refine Hh ?_;have D:Ext w w5:=(((g.ext.trans m).trans h.ext).trans f.ext).trans e.ext
 have N:∀k,k<w5.heap.size->col k=0:=fun k j=>by
  cases o:decide (col k=0) with
  |true=>simpa using o
  |false=>have:=i k (Su o);omega
 refine⟨d,rfl,⟨fun k=>if k=d then 6 else if k=a then 7 else if k=b then 8 else col k,⟨a,b,pc,pw,pd,pp,ps⟩,none,0,⟨C,fun k j=>?_⟩,y,⟨by simp,?_,?_,by simp⟩,?_,?_,Own.nil,(B a b).keep fun k _ j=>⟨rfl,?_⟩⟩,Qgo D l Om⟩
 .by_cases q:col k=0
  .by_cases E:k=d
   .omega
   .by_cases F:k=a
    .omega
    .by_cases H:k=b
     .omega
     .simp[E,F,H,q]at j
  .have:=i k q;omega
 .have:a≠d:=Om;simp[this]
 .have v:b≠d:=Om;have x:b≠a:=Om;simp[v,x]
 .exact((MapAt.new h).ext (f.ext.trans e.ext)).mod l Om
 .exact((MapAt.new f).ext e.ext).mod l Om
 .have M:w5.heap.size<=k:=(by have:=i k Om;exact this.1);rw[if_neg Om,if_neg Om,if_neg Om]
theorem X0:∀cs:List Ev,(∀e∈cs,Xy e=true)->∀name,(Qy cs name).length<=cs.length/\∀s∈Qy cs name,s.item.tags.size<1000:=by
 refine Qw (fun _ name=>by simp[Qy]) fun f e b h name=>?_
 have b:=b (fun x hx=>h x (by simp[hx]));rw[Qbg];unfold Qfn Qm6;split
 .next i =>
  have d:=b e.item;refine⟨by simp;omega,fun s a=>?_⟩;rcases Zj.1 a with a|a
  .exact d.2 s a
  .rw[Zl]at a;subst a
   have c:((Qy f e.item).getLast?.getD (Qi4 e.item)).item.tags.size<1000:=by
    cases g:(Qy f e.item).getLast? with
    |none=>simp[Qi4,Qb0,ByteArray.size]
    |some s=>exact d.2 s (Zbu g)
   have k:=Qdn (h e (by simp));have j:=Qku e.text;unfold Qfj Qce;split
   .show (Qbf e.text).size<1000;omega
   .split
    .exact c
    .exact c
 .have:=b name;exact⟨by simp;omega,this.2⟩
theorem Qid(cs)(h:∀e∈cs,Xy e=true)(name t):(Xz cs name t).1.tags.size<1000:=by
 unfold Xz;split
 .next s a =>
  split
  .simp[Qb0,ByteArray.size]
  .exact(X0 cs h name).2 s (Zap a)
 .simp[Qb0,ByteArray.size]
def Qi(width:Int)(l:List Ev):Cts:=l.foldl (Qd9 width) Q7o
theorem Qc6(width l e):Qi width (l++[e])=Qd9 width (Qi width l) e:=by unfold Qi;rw[Zv];rfl
structure Xk0(t:Cts)(l:List Ev):Prop where
 cs:t.cs.Sublist l
 rs:(evs t.rs).Sublist l
 dn:0<=t.dn/\t.dn<=l.length
 pn:0<=t.pn/\t.pn<=l.length
 ds:Qep t.ds (l.length*5)
 ps:Qhh t.ps (l.length*5)
 pl:t.ps.length<=l.length
theorem Qcb{a β:Type}[DecidableEq a](k v):∀l:List (a×β),(Xe l k v).length<=l.length+1
 |[]=>by simp[Xe]
 |x::l=>by
  have:=Qcb k v l;unfold Xe;split<;>simp<;>omega
theorem Qk1{s N M}(h:Qep s N)(a:N<=M):Qep s M:=fun k t=>⟨(h k t).1,by have:=(h k t).2;omega⟩
theorem Qga{s N M}(h:Qhh s N)(a:N<=M):Qhh s M:=fun x hx=>⟨(h x hx).1,by have:=(h x hx).2;omega⟩
theorem Qta(rs r):evs (rs++[r])=evs rs++[r.1]:=by simp[evs]
theorem Qiw(width):∀l:List Ev,(∀e∈l,Xy e=true)->Xk0 (Qi width l) l:=by
 refine Qw (fun _=>⟨by simp[Qi,Q7o],by simp[Qi,Q7o,evs],by simp[Qi,Q7o],by simp[Qi,Q7o],?_,?_,by simp[Qi,Q7o]⟩) fun l e a h=>?_
 .intro k t;simp[Qi,Q7o,Qe]
 .intro x hx;simp[Qi,Q7o]at hx
 have a:=a fun x hx=>h x (by simp[hx])
 have d:=Qla (h e (by simp));have b:((l++[e]).length:Int)=l.length+1:=by simp
 rw[Qc6];generalize Qi width l=t at a;unfold Qd9;have c:l.Sublist (l++[e]):=List.sublist_append_left l [e];split
 .exact⟨List.Sublist.append a.cs (List.Sublist.refl _),a.rs.trans c,by have:=a.dn;rw[b];simp;omega,by have:=a.pn;rw[b];simp;omega,Qk1 a.ds Om,Qga a.ps Om,by have:=a.pl;simp;omega⟩
 split
 .exact⟨a.cs.trans c,a.rs.trans c,by have:=a.dn;omega,by have:=a.pn;omega,Qk1 a.ds Om,Qga a.ps Om,by have:=a.pl;simp;omega⟩
 split
 .refine⟨a.cs.trans c,?_,by have:=a.dn;rw[b];simp;omega,by have:=a.pn;rw[b];simp;omega,Qk1 (Q6a a.ds _ _ _ d.1) Om,Qga (Q59 a.ps Om _ d.1) Om,?_⟩
  .show (evs (t.rs++[_])).Sublist _
   rw[Qta];exact List.Sublist.append a.rs (List.Sublist.refl _)
  .have:=a.pl;show (Qr7 _ _ _).length<=_
   unfold Qr7;split
   .simp;omega
   .have:=Qcb (e.item,e.at_/Xf width) ((Qe t.ps (e.item,e.at_/Xf width)).getD 0+Qz e) t.ps;simp;omega
 .refine⟨a.cs.trans c,?_,by have:=a.dn;rw[b];simp;omega,by have:=a.pn;rw[b];simp;omega,Qk1 a.ds Om,Qga a.ps Om,by have:=a.pl;simp;omega⟩;show (evs (t.rs++[_])).Sublist _
  rw[Qta];exact List.Sublist.append a.rs (List.Sublist.refl _)
theorem Q3o{l cs e}(h:cs.Sublist l)(a:Rise (l++[e])):cs=[]\/Q5 (Qe2 cs) e=true:=by
 have:Rise (cs++[e]):=List.Pairwise.sublist (List.Sublist.append h (List.Sublist.refl [e])) a;exact Xb1 this
def Qc4(col:Nat->Nat)(w w1:World)(i k:Nat):Nat:=if k<w.heap.size then col k else if k<w1.heap.size then i else 0
theorem Qbb{col w w1 i k}(h:k<w.heap.size):Qc4 col w w1 i k=col k:=if_pos h
theorem Qgb{col w w1 i k}(b:k<w1.heap.size)(h:Grow (fun k=>col k=i) w k):Qc4 col w w1 i k=i:=by
 unfold Qc4
 by_cases a:k<w.heap.size
 .rw[if_pos a];rcases h with h|h
  .exact h
  .omega
 .rw[if_neg a,if_pos b]
theorem Qd0{col w w1 i k}(a:w.heap.size<=w1.heap.size)(h:w1.heap.size<=k):Qc4 col w w1 i k=0:=by
 unfold Qc4;rw[if_neg Om,if_neg Om]
theorem Qqs.one{w w1 col i c q t t'}(h:Qqs w col c q t)(d:Mod (fun k=>col k=i) w w1)(hi:1<=i/\i<=5)
 (j:if i=1 then Qgl w1 (Grow (fun k=>col k=i) w) q.pc t'.cs else t'.cs=t.cs)
 (l:if i=2 then X7 w1 (Grow (fun k=>col k=i) w) q.pw (Xf c.half) t'.rs else t'.rs=t.rs)
 (f:if i=3 then Qqr w1 (Grow (fun k=>col k=i) w) q.pd (Xf c.half) t'.dn t'.ds else t'.dn=t.dn/\t'.ds=t.ds)
 (g:if i=4 then Qn3 w1 (Grow (fun k=>col k=i) w) q.pp (Xf c.width) t'.pn t'.ps else t'.pn=t.pn/\t'.ps=t.ps)
 (m:if i=5 then Q1y w1 (Grow (fun k=>col k=i) w) q.ps (Q9m c.gap) t'.ss else t'.ss=t.ss):Qqs w1 (Qc4 col w w1 i) c q t' where
 cat:=by
  split at j
  .next e=>exact j.keep fun k a b=>⟨rfl,by rw[Qgb a b,e]⟩
  .next e=>rw[j];exact h.cat.keep fun k a b=>⟨d.block k a Om,by rw[Qbb a,b]⟩
 crowd:=by
  split at l
  .next e=>exact l.keep fun k a b=>⟨rfl,by rw[Qgb a b,e]⟩
  .next e=>rw[l];exact h.crowd.keep fun k a b=>⟨d.block k a Om,by rw[Qbb a,b]⟩
 dec:=by
  split at f
  .next e=>exact f.keep fun k a b=>⟨rfl,by rw[Qgb a b,e]⟩
  .next e=>rw[f.1,f.2];exact h.dec.keep fun k a b=>⟨d.block k a Om,by rw[Qbb a,b]⟩
 pane:=by
  split at g
  .next e=>exact g.keep fun k a b=>⟨rfl,by rw[Qgb a b,e]⟩
  .next e=>rw[g.1,g.2];exact h.pane.keep fun k a b=>⟨d.block k a Om,by rw[Qbb a,b]⟩
 ses:=by
  split at m
  .next e=>exact m.keep fun k a b=>⟨rfl,by rw[Qgb a b,e]⟩
  .next e=>rw[m];exact h.ses.keep fun k a b=>⟨d.block k a Om,by rw[Qbb a,b]⟩
def Qhi(w:World)(base p:Nat)(c:Cfg)(s:WS)(col:Nat->Nat):Prop:=(∃q A cap,Qcd w base p c s col q A cap)/\∀k,w.heap.size<=k->col k=0
theorem Qgm.col{w base p c s}(h:Qgm w base p c s):∃col,Qhi w base p c s col:=by
 obtain⟨col,q,A,cap,h⟩:=h;have d:∀{k},k<w.heap.size->Qc4 col w w 0 k=col k:=fun b=>Qbb b
 refine⟨Qc4 col w w 0,⟨q,A,cap,⟨h.low.1,fun k b=>?_⟩,h.head,⟨(d h.head.lt).trans h.cols.1,(d h.added.lt).trans h.cols.2.1,(d h.forg.lt).trans h.cols.2.2.1,fun a e=>(d (h.evs.block e).2).trans (h.cols.2.2.2 a e)⟩,h.added,h.forg,h.evs,h.cts.keep fun k b _=>⟨rfl,d b⟩⟩,fun k b=>Qd0 (Zf _) b⟩
 by_cases f:k<w.heap.size
 .rw[d f]at b;exact h.low.2 k b
 .exact absurd (Qd0 (Zf _) Om) b
theorem Qhi.at_{w base p c s col}(h:Qhi w base p c s col):Qgm w base p c s:=by
 obtain⟨⟨q,A,cap,h⟩,_⟩:=h;exact⟨col,q,A,cap,h⟩
theorem Qcd.ext{w w1 base p c s col q A cap}(h:Qcd w base p c s col q A cap)(hx:Ext w w1):Qcd w1 base p c s col q A cap:=
 ⟨h.low,h.head.ext hx,h.cols,h.added.ext hx,h.forg.ext hx,h.evs.ext hx,h.cts.keep fun k a _=>⟨hx.block k a,rfl⟩⟩
theorem Qhi.ext{w w1 base p c s col}(h:Qhi w base p c s col)(hx:Ext w w1):Qhi w1 base p c s col:=by
 obtain⟨⟨q,A,cap,h⟩,a⟩:=h;exact⟨⟨q,A,cap,h.ext hx⟩,fun k b=>a k (by have:=hx.size;omega)⟩
theorem Qcd.one{w w1 base p c s col q A cap i t}(h:Qcd w base p c s col q A cap)(hi:1<=i/\i<=5)(f:Mod (fun k=>col k=i) w w1)(g:Qqs w1 (Qc4 col w w1 i) c q t) :
 Qcd w1 base p c { s with ct:=t } (Qc4 col w w1 i) q A cap:=by
 have d:∀{k},k<w.heap.size->Qc4 col w w1 i k=col k:=fun e=>Qbb e
 have l:base<=w.heap.size:=(by have:=h.low.2 p (by rw[h.cols.1];decide);have:=h.head.lt;omega);refine⟨⟨h.low.1,fun k e=>?_⟩,h.head.mod f (by rw[h.cols.1];omega),⟨(d h.head.lt).trans h.cols.1,(d h.added.lt).trans h.cols.2.1,(d h.forg.lt).trans h.cols.2.2.1,fun a b=>(d (h.evs.block b).2).trans (h.cols.2.2.2 a b)⟩,h.added.mod f (by rw[h.cols.2.1];omega),h.forg.mod f (by rw[h.cols.2.2.1];omega),h.evs.keep fun a b=>f.block _ (h.evs.block b).2 (by rw[h.cols.2.2.2 a b];omega),g⟩
 by_cases j:k<w.heap.size
 .rw[d j]at e;exact h.low.2 k e
 .omega
theorem Qml{w base p c s col q A cap}(h:Qcd w base p c s col q A cap){i}(hi:i≠0):∀k,col k=i->10<=k:=fun k a=>by
 have:=h.low.2 k Om;have:=h.low.1;omega
theorem Qp8(s:Bj)(w)(g:Gl w)(i:s.size<4000000000) :
 Cal Tryz.prog 84 [.string s,.string ⟨#[44]⟩] w fun r w'=>∃A c,r=.slice A (Qab 44 s).length c/\SlT w' A (Qab 44 s)/\(∀a,A=some a->w.heap.size<=a.block)/\Ext w w':=by
 obtain⟨m,h⟩:=g.maxLen;refine Qae Qua (Tryz.strings_Split s ⟨#[44]⟩ m w Om h (by decide)) ?_;rintro w' rfl;have e:=Lib.splitB_all ⟨#[44]⟩ (by decide) 0 _ s rfl;have d:=Qp9 s.size s (Zf _);rw[d]at e;have f:New w (w.alloc (.cells ((Qab 44 s).flatMap Qac).toArray 9)) w.heap.size (.cells ((Qab 44 s).flatMap Qac).toArray 9):=⟨rfl,rfl⟩;refine⟨some ⟨w.heap.size,0,none⟩,Lib.countB s ⟨#[44]⟩+1,by rw[e],?_,fun a b=>by injection b with b;subst b;exact Zf _,?_⟩
 .rw[d,<- Qgr];exact Qai Qv f
 .rw[d,<- Qgr];exact f.ext
theorem Qdg(s:Bj)(w)(f:Gl w)(i:s.size<4000000000) :
 Cal Tryz.prog 95 [.string s] w fun r w'=>∃A c,r=.slice A (Xg s).length c/\SlT w' A (Xg s)/\(∀a,A=some a->w.heap.size<=a.block)/\Ext w w':=by
 have m:=Qku s;refine Fi Tryz.func95 rfl _ rfl rfl (Hh ?_);refine(Qnn s w f i).mono ?_;rintro _ l ⟨rfl,d⟩;refine Hh ?_;constructor
 .intro h;have h:Qbf s=⟨#[]⟩:=Su h;refine Hh ?_;have b:Xg s=[]:=by rw[Qey,if_pos h]
  exact⟨none,0,by rw[b];rfl,by rw[b];exact Sl.nil,fun a e=>(by cases e),d⟩
 .intro h;have h:¬Qbf s=⟨#[]⟩:=Su h;refine Hh ?_;refine(Qp8 (Qbf s) l (f.ext d) Om).mono ?_;rintro _ n ⟨A,c,rfl,j,g,k⟩;refine Hh ?_;have b:Xg s=Qab 44 (Qbf s):=by rw[Qey,if_neg h]
  exact⟨A,c,by rw[b],by rw[b];exact j,fun a e=>Zw d.size (g a e),d.trans k⟩
theorem Qcd.reh{w w1 base p c s col q A cap}(h:Qcd w base p c s col q A cap)(b:Only w w1 p){any last}(d:At w1 p 87 (wC c A s.es.length cap any last q)) :
 Qcd w1 base p c { s with any:=any,last:=last } col q A cap:=by
 have i:=h.cols.1;refine⟨h.low,d,h.cols,h.added.keep (b.block _ fun e=>?_),h.forg.keep (b.block _ fun e=>?_),h.evs.keep fun a f=>b.block _ fun e=>?_,h.cts.keep fun k _ g=>⟨b.block _ fun e=>?_,rfl⟩⟩
 .have:=h.cols.2.1;rw[e]at this;omega
 .have:=h.cols.2.2.1;rw[e]at this;omega
 .have:=h.cols.2.2.2 a f;rw[e]at this;omega
 .rw[e]at g;omega
theorem Qnq{w w1 b}{col a:Nat->Nat}{i}(hi:1<=i/\i<=6)(h:Mod (fun k=>1<=col k/\col k<=6) w w1)(f:∀k,k<w.heap.size->a k=col k)(e:Mod (fun k=>a k=i) w1 b):Mod (fun k=>1<=col k/\col k<=6) w b:=by
 refine Qn h (e.mono fun k _ c=>?_)
 by_cases d:k<w.heap.size
 .exact .inl (by show 1<=col k/\col k<=6;rw[<- f k d,c];exact hi)
 .exact .inr Om
theorem Q4u(w base p c)(hcf:Qu7 c=true)(s col)(h:Qhi w base p c s col)(hg:Gl w)(l)(hs:s.ct=Qi c.width l)(hml:∀x∈l,Xy x=true)(e)(hm:Xy e=true)(hr:Rise (l++[e]))(hl:l.length<1000000) :
 Cal Tryz.prog 54 [Pj p,evV e] w fun r w'=>r=.tuple #[]/\∃col',Qhi w' base p c { s with ct:=Qd9 c.width s.ct e } col'/\(∀k,k<w.heap.size->col' k=col k)/\Mod (fun k=>1<=col k/\col k<=6) w w':=by
 obtain⟨⟨q,A,cap,h⟩,hz⟩:=h;have hB:=Qiw c.width l hml;rw[<- hs]at hB;have hlt:=Qdn hm;have hmk:=Qtu hm;have hmcs:∀x∈s.ct.cs,Xy x=true:=fun x hx=>hml x (hB.cs.subset hx)
 have hlcs:=hB.cs.length_le;have hlrs:s.ct.rs.length<=l.length:=by have:=hB.rs.length_le;simpa [evs] using this
 have hat:=(Qcf.1 hm).at_;refine Fi Tryz.func54 rfl _ rfl rfl (Hh ?_);intro b1 w1 hn1;have hb1:=hn1.At;have e1:=hn1.block;have s1:=hn1.size;have hg1:=hg.ext hn1.ext;have h1:=h.ext hn1.ext;have hc1:col b1=0:=hz b1 Om;refine Hh ?_;refine Xi Qb (ι:=Unit) (fun _=>[(0,Pj p),(3,Pj b1)]) (fun _ w'=>w'=w1/\e.kind<11) ?_ ?_
 . (conv=>whnf)
   refine⟨_,hb1.one rfl,Hh ?_⟩;refine Xi Qb (ι:=Bool) (fun i=>[(0,Pj p),(3,Pj b1),(9,Vj e.kind),(10,.bool i)]) (fun i w'=>i=decide (e.kind=11\/e.kind=12\/e.kind=13)/\w'=w1) ?_ ?_
   . (conv=>whnf)
     refine⟨fun k=>?_,fun k=>?_⟩
     .have k:e.kind=11:=Su k;refine Hh ?_;exact⟨_,⟨by simp[k],rfl⟩,⟨rfl,rfl,rfl,rfl,trivial⟩⟩
     have k1:¬e.kind=11:=Su k;refine Hh ?_;refine⟨fun k=>?_,fun k=>?_⟩
     .have k:e.kind=12:=Su k;refine Hh ?_;exact⟨_,⟨by simp[k],rfl⟩,⟨rfl,rfl,rfl,rfl,trivial⟩⟩
     have k2:¬e.kind=12:=Su k;refine Hh ?_;exact⟨_,⟨by simp[k1,k2],rfl⟩,⟨rfl,rfl,rfl,rfl,trivial⟩⟩
   rintro i w3 ⟨hi,hw⟩;replace hw:=hw.symm;subst hw hi;refine Hh ?_;refine⟨fun k=>?_,fun k=>?_⟩
   .have k:e.kind=11\/e.kind=12\/e.kind=13:=Su k;refine Hh ?_;refine Dr .same [0,1,2,3,4] [5] (Hh ?_);have h1d:=h1.ext (Ext.refl w1).drew;have hbd:At w1.drew b1 _ _:=hb1;have hgd:=hg1.ext (Ext.refl w1).drew;have hx1d:=hn1.ext.drew;generalize w1.drew=w2 at h1d hbd hgd hx1d⊢;refine⟨_,h1d.head.one rfl,Hh ?_⟩;refine⟨evC e,⟨rfl,hbd.all⟩,Hh ?_⟩;refine(Qj3 w2 _ q.pc s.ct.cs h1d.cts.cat hgd (Qml h1d (by decide)) e hm k Om (Q3o hB.cs hr) (by have:=(X0 s.ct.cs hmcs e.item).1;omega)).mono ?_;rintro _ w4 ⟨rfl,hc4,hm4⟩;refine Hh ?_;have hW:Qcd w4 base p c { s with ct:={ s.ct with cs:=s.ct.cs++[e] } } _ q A cap:=h1d.one (i:=1) Om hm4 (h1d.cts.one (t':={ s.ct with cs:=s.ct.cs++[e] }) hm4 Om hc4 rfl ⟨rfl,rfl⟩ ⟨rfl,rfl⟩ rfl);have hct:Qd9 c.width s.ct e={ s.ct with cs:=s.ct.cs++[e] }:=by unfold Qd9;rw[if_pos k]
    rw[hct];refine⟨rfl,_,⟨⟨q,A,cap,hW⟩,fun j hj=>Qd0 hm4.size hj⟩,fun j hj=>Qbb (by have:=hx1d.size;omega),(Mod.of_ext hx1d).trans (hm4.mono fun j _ hj=>by rw[hj];decide)⟩
   have k:¬(e.kind=11\/e.kind=12\/e.kind=13):=Su k;refine Hh ?_;refine⟨fun k4=>?_,fun k4=>?_⟩
   .have k4:e.kind=14:=Su k4;refine Hh ?_;have hct:Qd9 c.width s.ct e=s.ct:=by unfold Qd9;rw[if_neg k,if_pos k4]
    rw[hct];exact⟨rfl,col,⟨⟨q,A,cap,h1⟩,fun j hj=>hz j Om⟩,fun j _=>rfl,Mod.of_ext hn1.ext⟩
   have k4:¬e.kind=14:=Su k4;refine Hh ?_;exact⟨(),⟨rfl,Om⟩,Rr⟩
 rintro _ w3 ⟨hw,hk⟩;replace hw:=hw.symm;subst hw;refine Hh ?_;refine Xi Qb (ι:=Option Addr×Nat) (fun x=>[(0,Pj p),(3,Pj b1),(4,.slice x.1 (Qbj s.ct.cs e).length x.2)]) (fun x w'=>Ext w1 w'/\SlT w' x.1 (Qbj s.ct.cs e)/\∀a,x.1=some a->w1.heap.size<=a.block) ?_ ?_
 . (conv=>whnf)
   refine Ql1 (ι:=Nat) (fun b5=>[(0,Pj p),(3,Pj b1),(4,.slice none 0 0),(5,Pj b5),(6,.bool (Xz s.ct.cs e.item e.at_).2)])
    (fun b5 w'=>Ext w1 w'/\At w' b5 152 (itC (Xz s.ct.cs e.item e.at_).1)) ?_ ?_
   .refine Qhl (.mods (fun k=>w1.heap.size<=k)) (Pl.seq [0,1,2,3,4,5,6,7] (Pl.two 8 (Pl.seq [9,10,11,12,13,14] Pl.done) 12 (Pl.seq [8,9,10,11,13,14] Pl.done))) (by intro h;cases h) Qb mixed Kr (Hh ?_);have h1d:=h1.ext (Ext.refl w1).drew;have hbd:At w1.drew b1 _ _:=hb1;have hx1d:=(Ext.refl w1).drew;have hnb1:¬(w1.heap.size<=b1):=Om;have hplt:=h1.head.lt;have hnp:¬(w1.heap.size<=p):=Om;generalize w1.drew=w2 at h1d hbd hx1d⊢;have hs2:=hx1d.size;have hcl:(Qy s.ct.cs e.item).length<1000000000000:=by have:=(X0 s.ct.cs hmcs e.item).1;omega
    refine⟨_,⟨h1d.head.one rfl,by rw[add_block];exact hnp⟩,Hh ?_⟩;refine⟨_,⟨hbd.one rfl,by rw[add_block];exact hnb1⟩,Hh ?_⟩;refine⟨_,⟨hbd.one rfl,by rw[add_block];exact hnb1⟩,Hh ?_⟩;refine⟨?_,?_⟩
    .refine(Xa w2 _ q.pc s.ct.cs h1d.cts.cat e.item e.at_ hcl).mono ?_;rintro _ w4 ⟨rfl,hx4⟩;refine⟨Mod.of_ext hx4,Hh ?_⟩;intro b5 w5 hn5;refine⟨Mod.of_ext hn5.ext,Hh ?_⟩;have e5:=hn5.block;have z4:=hx4.size;refine Qc Qb (e:=ty152) rfl hn5.At rfl rfl rfl (by simp[Qg,itC,Value.oneCell']) fun w6 h6 ho6=>?_
     refine⟨Qj ho6 Om,Hh ?_⟩;exact⟨b5,⟨ho6.ext ((hx1d.trans hx4).trans hn5.ext) Om,h6⟩,Rr⟩
    .intro b5 w5 hn5;refine⟨Mod.of_ext hn5.ext,Hh ?_⟩;have e5:=hn5.block;refine(Xa w5 _ q.pc s.ct.cs (h1d.cts.cat.ext hn5.ext) e.item e.at_ hcl).mono ?_;rintro _ w4 ⟨rfl,hx4⟩;refine⟨Mod.of_ext hx4,Hh ?_⟩;refine Qc Qb (e:=ty152) rfl (hn5.At.ext hx4) rfl rfl rfl (by simp[Qg,itC,Value.oneCell']) fun w6 h6 ho6=>?_
     refine⟨Qj ho6 Om,Hh ?_⟩;exact⟨b5,⟨ho6.ext ((hx1d.trans hn5.ext).trans hx4) Om,h6⟩,Rr⟩
   rintro b5 w5 ⟨hx5,h5⟩;have hb5:=hb1.ext hx5;have hg5:=hg1.ext hx5;have z5:=hx5.size;refine Hh ?_;refine⟨fun kk=>?_,fun kk=>?_⟩
   .have kk:(Xz s.ct.cs e.item e.at_).2=true:=kk;have hta:Qbj s.ct.cs e=Xg (Qg5 (Xz s.ct.cs e.item e.at_).1.tags):=by unfold Qbj;rw[if_pos kk]
    have hts:=Qid s.ct.cs hmcs e.item e.at_;rw[hta];refine Hh ?_;refine⟨_,h5.one rfl,Hh ?_⟩;have hsm:(Qg5 (Xz s.ct.cs e.item e.at_).1.tags).size<1001:=by unfold Qg5;rw[Zbd];have:(⟨#[59]⟩:Bj).size=1:=rfl;omega
    refine⟨sz2 (by decide) (Nat.le_of_lt (Nat.lt_trans hts (by decide))),Hh ?_⟩;refine(Qdg (Qg5 (Xz s.ct.cs e.item e.at_).1.tags) w5 hg5 Om).mono ?_;rintro _ w6 ⟨TA,tc,rfl,ht6,hnew6,hx6⟩;refine Hh ?_;exact⟨(TA,tc),⟨hx5.trans hx6,ht6,fun a ha=>Zw z5 (hnew6 a ha)⟩,Rr⟩
   .have kk:(Xz s.ct.cs e.item e.at_).2=false:=kk;have hta:Qbj s.ct.cs e=[]:=by unfold Qbj;rw[kk];rfl
    rw[hta];refine Hh ?_;exact⟨(none,0),⟨hx5,Sl.nil,fun a ha=>by cases ha⟩,Rr⟩
 rintro ⟨TA,tc⟩ w6 ⟨hx6,hts6,hta6⟩;have hb6:=hb1.ext hx6;have h6:=h1.ext hx6;have hg6:=hg1.ext hx6;have z6:=hx6.size
 have htl:(Qbj s.ct.cs e).length<1000000:=by
  unfold Qbj;split
  .have hts:=Qid s.ct.cs hmcs e.item e.at_;have:=Q3r (Qg5 (Xz s.ct.cs e.item e.at_).1.tags);unfold Qg5 at this⊢;rw[Zbd]at this;have h1:(⟨#[59]⟩:Bj).size=1:=rfl;omega
  .simp
 refine Hh ?_;refine Dr .same [0,1,2,3,4,5] [6] (Hh ?_);replace hb6:At w6.drew b1 _ _:=hb6;replace h6:=h6.ext (Ext.refl w6).drew;replace hg6:=hg6.ext (Ext.refl w6).drew;replace hx6:=hx6.drew;replace hts6:=hts6.ext (Ext.refl w6).drew;have hxw:Ext w w6.drew:=hn1.ext.trans hx6;clear z6;generalize w6.drew=w7 at hb6 h6 hg6 hx6 hts6 hxw⊢;have z7:=hxw.size;refine⟨_,h6.head.one rfl,Hh ?_⟩;refine⟨evC e,⟨rfl,hb6.all⟩,Hh ?_⟩
 refine(Qoo w7 _ q.pw (Xf c.half) s.ct.rs h6.cts.crowd hg6 (Qml h6 (by decide)) e hm hk Om (by
  rcases Q3o hB.rs hr with h|h
  .exact .inl (by simpa [evs] using h)
  .exact .inr h) Om (Qbj s.ct.cs e) TA tc hts6 (fun a ha hc=>by have:=hz a.block (by have:=hta6 a ha;omega);omega) htl).mono ?_
 rintro _ w8 ⟨rfl,hc8,hm8⟩;have h8:=h6.one (i:=2) (t:={ s.ct with rs:=s.ct.rs++[(e,Qbw (Qbj s.ct.cs e))] }) Om hm8 (h6.cts.one (t':={ s.ct with rs:=s.ct.rs++[(e,Qbw (Qbj s.ct.cs e))] }) hm8 Om rfl hc8 ⟨rfl,rfl⟩ ⟨rfl,rfl⟩ rfl);have hb8:=hb6.mod hm8 Om;have hr8:∀k,k<w.heap.size->Qc4 col w7 w8 2 k=col k:=fun k hk=>Qbb Om
 have hb8c:Qc4 col w7 w8 2 b1=0:=by rw[Qbb (by have:=hb6.lt;omega)];exact hc1
 have ht8:∀k,w8.heap.size<=k->Qc4 col w7 w8 2 k=0:=fun k hk=>Qd0 hm8.size hk
 have hM8:Mod (fun k=>1<=col k/\col k<=6) w w8:=(Mod.of_ext hxw).trans (hm8.mono fun j _ hj=>by rw[hj];decide);have hg8:=hg6.mod hm8 (Qml h6 (by decide));generalize Qc4 col w7 w8 2=col8 at h8 hr8 hb8c ht8;clear hm8 hc8 h6 hb6 hg6 hx6 hxw hts6 hta6 z7 hn1 hg1 hb1 h1;refine Hh ?_;refine⟨evC e,⟨rfl,hb8.all⟩,Hh ?_⟩;refine(Qc2 e w8).mono ?_;rintro _ w9 ⟨rfl,hx9⟩;have hwl:=Qla hm;have h9:=h8.ext hx9;have hb9:=hb8.ext hx9;have z9:=hx9.size;have hM9:=hM8.trans (Mod.of_ext hx9);have ht9:∀k,w9.heap.size<=k->col8 k=0:=fun k hk=>ht8 k Om
 have z8:w.heap.size<=w8.heap.size:=hM8.size;clear h8 hb8 hx9 hM8 ht8 hg8 hg hz h;have kn:¬(e.kind=11\/e.kind=12\/e.kind=13):=Om;have k14:¬e.kind=14:=Om;refine Hh ?_;refine⟨fun kw=>?_,fun kw=>?_⟩
 case refine_2 =>
  have kw:¬0<Qz e:=Su kw;refine Hh ?_;have hct:Qd9 c.width s.ct e={ s.ct with rs:=s.ct.rs++[(e,Qbw (Qbj s.ct.cs e))] }:=by unfold Qd9;rw[if_neg kn,if_neg k14,if_neg kw]
  rw[hct];exact⟨rfl,col8,⟨⟨q,A,cap,h9⟩,ht9⟩,hr8,hM9⟩
 have kw:0<Qz e:=Su kw;have hnm:=Qe0 hm kw;have hsz1:=Qev hnm.1;have hsz2:=Qev hnm.2;have hct:Qd9 c.width s.ct e=⟨s.ct.cs,s.ct.rs++[(e,Qbw (Qbj s.ct.cs e))],s.ct.dn+1,Qr8 s.ct.ds e.item e.at_ (Qz e),s.ct.pn+1,Qr7 s.ct.ps (e.item,e.at_/Xf c.width) (Qz e),Xd3 s.ct.ss e.person e.at_ e.item⟩:=by unfold Qd9;rw[if_neg kn,if_neg k14,if_pos kw]
 rw[hct];clear hct;have hdn:=hB.dn;have hpn:=hB.pn;have hpl:=hB.pl;have hwd:1<=Xf c.width/\Xf c.width<=1099511627776:=by unfold Xf;omega
 refine Hh ?_;refine Dr .same [0,1,2,3,4,5,6,7,8] [9] (Hh ?_);replace hb9:At w9.drew b1 _ _:=hb9;replace h9:=h9.ext (Ext.refl w9).drew;replace hM9:=hM9.trans (Mod.of_ext (Ext.refl w9).drew);have hz9:w9.drew.heap.size=w9.heap.size:=rfl;generalize w9.drew=w10 at hb9 h9 hM9 hz9⊢;refine⟨_,h9.head.one rfl,Hh ?_⟩;refine⟨_,hb9.one rfl,Hh ?_⟩;refine⟨_,hb9.one rfl,Hh ?_⟩;refine(Qy9 w10 _ q.pd (Xf c.half) s.ct.dn s.ct.ds h9.cts.dec e.item e.at_ (Qz e) (l.length*5) hB.ds Om Om hsz2 hat Om).mono ?_;rintro _ w11 ⟨rfl,hc11,hm11⟩;refine Hh ?_;have h11:=h9.one (i:=3) (t:=⟨s.ct.cs,s.ct.rs++[(e,Qbw (Qbj s.ct.cs e))],s.ct.dn+1,Qr8 s.ct.ds e.item e.at_ (Qz e),s.ct.pn,s.ct.ps,s.ct.ss⟩) Om hm11 (h9.cts.one (t':=⟨s.ct.cs,s.ct.rs++[(e,Qbw (Qbj s.ct.cs e))],s.ct.dn+1,Qr8 s.ct.ds e.item e.at_ (Qz e),s.ct.pn,s.ct.ps,s.ct.ss⟩) hm11 Om rfl rfl hc11 ⟨rfl,rfl⟩ rfl);have hb11:=hb9.mod hm11 Om;have hr11:∀k,k<w.heap.size->Qc4 col8 w10 w11 3 k=col k:=fun k hk=>(Qbb Om).trans (hr8 k hk)
 have hb11c:Qc4 col8 w10 w11 3 b1=0:=(Qbb hb9.lt).trans hb8c;have ht11:∀k,w11.heap.size<=k->Qc4 col8 w10 w11 3 k=0:=fun k hk=>Qd0 hm11.size hk
 have hM11:=Qnq (by decide) hM9 hr8 hm11;have z11:w.heap.size<=w11.heap.size:=hM11.size;generalize Qc4 col8 w10 w11 3=col11 at h11 hr11 hb11c ht11;clear hm11 hc11 h9 hb9 hM9 hr8 hb8c ht9;refine Dr .same [0,1,2,3,4,5,6,7,8] [9] (Hh ?_);replace hb11:At w11.drew b1 _ _:=hb11;replace h11:=h11.ext (Ext.refl w11).drew;replace hM11:=hM11.trans (Mod.of_ext (Ext.refl w11).drew);have hz11:w11.drew.heap.size=w11.heap.size:=rfl;generalize w11.drew=w12 at hb11 h11 hM11 hz11⊢;refine⟨_,h11.head.one rfl,Hh ?_⟩;refine⟨_,hb11.one rfl,Hh ?_⟩;refine⟨_,hb11.one rfl,Hh ?_⟩;refine(Q56 w12 _ q.pp (Xf c.width) s.ct.pn s.ct.ps h11.cts.pane hwd e.item e.at_ (Qz e) (l.length*5) hB.ps Om Om Om Om hsz2 hat Om).mono ?_;rintro _ w13 ⟨rfl,hc13,hm13⟩;refine Hh ?_;have h13:=h11.one (i:=4) (t:=⟨s.ct.cs,s.ct.rs++[(e,Qbw (Qbj s.ct.cs e))],s.ct.dn+1,Qr8 s.ct.ds e.item e.at_ (Qz e),s.ct.pn+1,Qr7 s.ct.ps (e.item,e.at_/Xf c.width) (Qz e),s.ct.ss⟩) Om hm13 (h11.cts.one (t':=⟨s.ct.cs,s.ct.rs++[(e,Qbw (Qbj s.ct.cs e))],s.ct.dn+1,Qr8 s.ct.ds e.item e.at_ (Qz e),s.ct.pn+1,Qr7 s.ct.ps (e.item,e.at_/Xf c.width) (Qz e),s.ct.ss⟩) hm13 Om rfl rfl ⟨rfl,rfl⟩ hc13 rfl);have hb13:=hb11.mod hm13 Om;have hr13:∀k,k<w.heap.size->Qc4 col11 w12 w13 4 k=col k:=fun k hk=>(Qbb Om).trans (hr11 k hk)
 have hb13c:Qc4 col11 w12 w13 4 b1=0:=(Qbb hb11.lt).trans hb11c;have ht13:∀k,w13.heap.size<=k->Qc4 col11 w12 w13 4 k=0:=fun k hk=>Qd0 hm13.size hk
 have hM13:=Qnq (by decide) hM11 hr11 hm13;have z13:w.heap.size<=w13.heap.size:=hM13.size;generalize Qc4 col11 w12 w13 4=col13 at h13 hr13 hb13c ht13;clear hm13 hc13 h11 hb11 hM11 hr11 hb11c ht11;refine Dr .same [0,1,2,3,4,5,6,7,8,9] [10] (Hh ?_);replace hb13:At w13.drew b1 _ _:=hb13;replace h13:=h13.ext (Ext.refl w13).drew;replace hM13:=hM13.trans (Mod.of_ext (Ext.refl w13).drew);have hz13:w13.drew.heap.size=w13.heap.size:=rfl;generalize w13.drew=w14 at hb13 h13 hM13 hz13⊢;refine⟨_,h13.head.one rfl,Hh ?_⟩;refine⟨_,hb13.one rfl,Hh ?_⟩;refine⟨_,hb13.one rfl,Hh ?_⟩;refine⟨_,hb13.one rfl,Hh ?_⟩;refine(Q6j w14 _ q.ps (Q9m c.gap) s.ct.ss h13.cts.ses e.person e.item e.at_ hsz1 hsz2 hat).mono ?_;rintro _ w15 ⟨rfl,hc15,hm15⟩;refine Hh ?_;have h15:=h13.one (i:=5) (t:=⟨s.ct.cs,s.ct.rs++[(e,Qbw (Qbj s.ct.cs e))],s.ct.dn+1,Qr8 s.ct.ds e.item e.at_ (Qz e),s.ct.pn+1,Qr7 s.ct.ps (e.item,e.at_/Xf c.width) (Qz e),Xd3 s.ct.ss e.person e.at_ e.item⟩) Om hm15 (h13.cts.one (t':=⟨s.ct.cs,s.ct.rs++[(e,Qbw (Qbj s.ct.cs e))],s.ct.dn+1,Qr8 s.ct.ds e.item e.at_ (Qz e),s.ct.pn+1,Qr7 s.ct.ps (e.item,e.at_/Xf c.width) (Qz e),Xd3 s.ct.ss e.person e.at_ e.item⟩) hm15 Om rfl rfl ⟨rfl,rfl⟩ ⟨rfl,rfl⟩ hc15);have hr15:∀k,k<w.heap.size->Qc4 col13 w14 w15 5 k=col k:=fun k hk=>(Qbb Om).trans (hr13 k hk)
 have ht15:∀k,w15.heap.size<=k->Qc4 col13 w14 w15 5 k=0:=fun k hk=>Qd0 hm15.size hk
 have hM15:=Qnq (by decide) hM13 hr13 hm15;generalize Qc4 col13 w14 w15 5=col15 at h15 hr15 ht15;clear hm15 hc15 h13 hb13 hM13 hr13 hb13c ht13;refine Qc Qb (e:=ty85) rfl h15.head rfl rfl rfl Oj fun w16 h16 ho16=>?_
 refine Hh ?_;have h17:=h15.reh ho16 h16;refine⟨rfl,col15,⟨⟨q,A,cap,h17⟩,fun k hk=>ht15 k (by rw[ho16.size]at hk;exact hk)⟩,hr15,Qnq (i:=6) (by decide) hM15 hr15 (Qj ho16 h15.cols.1)⟩
def Xkz(width:Int)(s:WS)(e:Ev):WS:=⟨s.es++[e],true,e,Xe s.ad (Xmx e) true,s.fg,Qd9 width s.ct e⟩
section
variable {w w1:World}{base p:Nat}{c:Cfg}{s:WS}{col:Nat->Nat}{q:WP}{A:Option Addr}{cap:Nat}
theorem Qcd.addm(h:Qcd w base p c s col q A cap)(b:Only w w1 q.ba){ad}(g:MapAt w1 q.ba idV (Xj Value.bool ad)):Qcd w1 base p c { s with ad:=ad } col q A cap:=by
 have i:=h.cols.2.1;refine⟨h.low,b.at_ h.head fun e=>?_,h.cols,g,h.forg.keep (b.block _ fun e=>?_),h.evs.keep fun a d=>b.block _ fun e=>?_,h.cts.keep fun k _ f=>⟨b.block _ fun e=>?_,rfl⟩⟩
 .have:=h.cols.1;rw[e]at this;omega
 .have:=h.cols.2.2.1;rw[e]at this;omega
 .have:=h.cols.2.2.2 a d;rw[e]at this;omega
 .rw[e]at f;omega
theorem Qcd.forgm(h:Qcd w base p c s col q A cap)(b:Only w w1 q.bf){fg:List (Bj×Bool)}(g:MapAt w1 q.bf Value.string (Xj Value.bool fg)):Qcd w1 base p c { s with fg:=fg } col q A cap:=by
 have i:=h.cols.2.2.1;refine⟨h.low,b.at_ h.head fun e=>?_,h.cols,h.added.keep (b.block _ fun e=>?_),g,h.evs.keep fun a d=>b.block _ fun e=>?_,h.cts.keep fun k _ f=>⟨b.block _ fun e=>?_,rfl⟩⟩
 .have:=h.cols.1;rw[e]at this;omega
 .have:=h.cols.2.1;rw[e]at this;omega
 .have:=h.cols.2.2.2 a d;rw[e]at this;omega
 .rw[e]at f;omega
theorem Qcd.push(h:Qcd w base p c s col q A cap){m g i n es}(M:∀k,w.heap.size<=k->col k=0)(B:Ext w w1)
 (I:w1.grownBy m (A.map (·.block)))(v:Only m g p)(C:Own evC 8 69 0 m i n es)(d:i=A\/i.map (·.block)=A.map (·.block)\/i.map (·.block)=some w1.heap.size)
 (J:At g p 87 (wC c i es.length n s.any s.last q)):∃o,Qcd g base p c { s with es:=es } o q i n/\(∀k,g.heap.size<=k->o k=0)/\∀k,k<w.heap.size->o k=col k:=by
 have N:=B.size
 have z:Mod (fun k=>col k=9) w1 m:=Xn I fun k b=>by
  cases A with
  |none=>simp at b
  |some a=>have:=h.cols.2.2.2 a rfl;simp at b;rw[b]at this;exact this
 have O:=z.size;have P:=v.size;have K:=h.cols.1;have D:=h.head.lt;have L:=h.low.2 p Om;have u:∀k,k<w.heap.size->col k≠9->k≠p->g.heap[k]?=w.heap[k]? := fun k l F H=>(by rw[v.block k H,z.block k Om F,B.block k l])
 have f:∀{k},k<w.heap.size->Qc4 col w g 9 k=col k:=fun b=>Qbb b
 have x:∀a,i=some a->Qc4 col w g 9 a.block=9:=fun a j=>by
  have y:=(C.block j).2
  by_cases b:a.block<w.heap.size
  .rw[f b]
   have r:A.map (·.block)=some a.block:=by
    rcases d with d|d|d
    .rw[<- d,j];rfl
    .rw[<- d,j];rfl
    .rw[j]at d;simp at d;omega
   cases A with
   |none=>simp at r
   |some E=>simp at r;rw[<- r];exact h.cols.2.2.2 E rfl
  .unfold Qc4;rw[if_neg b,if_pos Om]
 refine⟨Qc4 col w g 9,⟨⟨h.low.1,fun k b=>?_⟩,J,⟨(f D).trans K,(f h.added.lt).trans h.cols.2.1,(f h.forg.lt).trans h.cols.2.2.1,x⟩,h.added.keep (u _ h.added.lt (by rw[h.cols.2.1];decide) fun e=>?_),h.forg.keep (u _ h.forg.lt (by rw[h.cols.2.2.1];decide) fun e=>?_),C.keep fun a j=>v.block _ fun e=>?_,h.cts.keep fun k l b=>⟨u k l Om fun e=>?_,f l⟩⟩,fun k b=>Qd0 Om b,fun k b=>f b⟩
 .by_cases y:k<w.heap.size
  .rw[f y]at b;exact h.low.2 k b
  .omega
 .have:=h.cols.2.1;rw[e]at this;omega
 .have:=h.cols.2.2.1;rw[e]at this;omega
 .have:=x a j;rw[e,f D]at this;omega
 .rw[e]at b;omega
end
set_option maxHeartbeats 1000000 in
theorem Xf3(w base p c)(a4:Qu7 c=true)(s col)(h:Qhi w base p c s col)(ak:Gl w)(bd:s.ct=Qi c.width s.es)(a9:∀x∈s.es,Xy x=true)(e)(a8:Xy e=true)(bb:Rise (s.es++[e]))(a7:s.es.length<1000000) :
 Cal Tryz.prog 20 [Pj p,evV e] w fun r w'=>r=.tuple #[]/\∃F,Qhi w' base p c (Xkz c.width s e) F/\(∀k,k<w.heap.size->F k=col k)/\Mod (fun k=>col k≠0) w w':=by
 obtain⟨⟨q,A,cap,h⟩,ao⟩:=h;refine Fi Tryz.func20 rfl _ rfl rfl (Hh ?_);intro i w1 y;have C:=y.At;have bj:=y.block;have bp:=y.size;have L:=ak.ext y.ext;have j:=h.ext y.ext;have ah:col i=0:=ao i Om;have Z:=h.cols.1;have U:i≠p:=fun e=>by rw[e]at ah;omega
 refine Hh ?_;refine Dr (.mods (fun k=>k=p)) [0,1,2,3,4,5,6,7] [8] (Hh ?_);replace j:=j.ext (Ext.refl w1).drew;replace L:=L.ext (Ext.refl w1).drew;replace C:At w1.drew i _ _:=C;have V:=y.ext.drew;generalize w1.drew=W at j L C V⊢;refine⟨evC e,⟨rfl,C.all,U⟩,Hh ?_⟩;refine Qc Qb (e:=ty4) rfl j.head rfl rfl rfl Oj fun bs Y z=>?_
 refine⟨Qj z rfl,Hh ?_⟩;refine Qc Qb (e:=ty69) rfl Y rfl rfl rfl (by simp[Qg,evC,Value.oneCell']) fun m ae D=>?_
 have g:=(j.reh z (any:=true) (last:=s.last) Y).reh D (any:=true) (last:=e) ae;have o:=D.at_ (z.at_ C U) U;have M:=(L.only z (Qml j (by decide) p Z)).only D (Qml j (by decide) p Z);have J:Mod (fun k=>col k≠0) w m:=(Mod.of_ext V).trans ((Qj z (by show col p≠0;omega)).trans (Qj D (by show col p≠0;omega)));have R:m.heap.size=W.heap.size:=by rw[D.size,z.size]
 have bo:=V.size;clear j Y ae z D C L V y h ak;refine Hh ?_;refine Dr .same [0,1,2,3,4,5,6,7,8] [9] (Hh ?_);replace g:=g.ext (Ext.refl m).drew;replace M:=M.ext (Ext.refl m).drew;replace o:At m.drew i _ _:=o;replace J:=J.trans (Mod.of_ext (Ext.refl m).drew);replace R:m.drew.heap.size=W.heap.size:=R;generalize m.drew=w5 at g M o J R⊢;refine⟨_,g.head.one rfl,Hh ?_⟩;refine⟨_,o.one rfl,Hh ?_⟩;refine⟨_,o.one rfl,Hh ?_⟩;refine Qx Xm6 Q9z g.added (Xmx e) _ fun n O E=>?_
 replace O:MapAt n q.ba idV (Xe (Xj Value.bool s.ad) (Xmx e) (.bool true)):=O;rw[Xc]at O;have b:=g.addm E O;have a0:col q.ba=7:=g.cols.2.1;have u:=E.at_ o (fun aw=>by rw[aw]at ah;omega);have N:=M.only E (Qml g (by decide) q.ba a0);have K:=J.trans (Qj E (by show col q.ba≠0;omega));have aa:n.heap.size=W.heap.size:=by rw[E.size,R]
 clear O E g o M J R;refine Hh ?_;refine Dr (.mods (fun k=>col k=9)) [0,1,2,3,4,5,6,7,8,9] [10] (Hh ?_);replace b:=b.ext (Ext.refl n).drew;replace N:=N.ext (Ext.refl n).drew;replace u:At n.drew i _ _:=u;replace K:=K.trans (Mod.of_ext (Ext.refl n).drew);replace aa:n.drew.heap.size=W.heap.size:=aa;generalize n.drew=bg at b N u K aa⊢;refine⟨_,⟨b.head.one rfl,by rw[add_block];show ¬col p=9;omega⟩,Hh ?_⟩;refine⟨evC e,⟨rfl,u.all,by show ¬col i=9;omega⟩,Hh ?_⟩;intro bi bt f;refine⟨Mod.of_ext f.ext,Hh ?_⟩;refine Qib (l:=s.es) (news:= [e]) (b.evs.ext f.ext) (Qai Qau f) (by simp;omega) Om fun ar au bh al v af=>?_
 have B:∀k,A.map (·.block)=some k->col k=9:=fun k d=>by
  cases A with
  |none=>simp at d
  |some a=>have:=b.cols.2.2.2 a rfl;simp at d;rw[d]at this;exact this
 refine⟨Xn v B,Hh ?_⟩;have bl:=b.head.lt;have bq:=f.size;have an:At bh p _ _:=(b.head.ext f.ext).mod (Xn (S:=fun k=>col k=9) v B) Om;refine Qc Qb (e:=ty24) rfl an rfl rfl rfl Oj fun ab ac P=>?_
 have aq:∀k,bg.heap.size<=k->col k=0:=fun k d=>ao k Om
 obtain⟨F,ax,be,ai⟩:=b.push aq f.ext v P al af ac;have bk:=u.lt;have az:At ab i _ _:=P.at_ ((u.ext f.ext).mod (Xn (S:=fun k=>col k=9) v B) Om) U;have H:Mod (fun k=>col k≠0) w ab:=((K.trans (Mod.of_ext f.ext)).trans (Xn v fun k d=>by have:=B k d;omega)).trans (Qj P (by show col p≠0;omega));have a5:=(((N.ext f.ext).mod (Xn (S:=fun k=>col k=9) v B) (Qml b (by decide))).only P (Qml b (by decide) p Z));have aj:∀k,k<w.heap.size->F k=col k:=fun k d=>ai k Om
 clear b N u K f v an ac P al af B aq ai;refine Hh ?_;refine⟨evC e,⟨rfl,az.all⟩,Hh ?_⟩;refine(Q4u ab base p c a4 _ F ⟨⟨q,ar,au,ax⟩,be⟩ a5 s.es bd a9 e a8 bb a7).mono ?_;rintro _ br ⟨rfl,av,ay,a3,I⟩;refine Hh ?_;have bm:=H.size;refine⟨rfl,av,ay,fun k d=>(a3 k Om).trans (aj k d),?_⟩;exact⟨I.os.trans H.os,I.tape.trans H.tape,I.output.trans H.output,by have:=I.size;omega,fun k d ag=>(I.block k Om (by rw[aj k d];exact fun h=>ag (by show col k≠0;omega))).trans (H.block k d ag)⟩
def Qox(out:List Ev)(p:Bj):Bool:=out.any fun x=>decide (x.kind=14)&&decide (x.person=p)
def Qlp(out:List Ev)(e:Ev):Bool:= !Qox out e.person||decide (e.kind=14)
def Qto(out:List Ev):List Ev:=out.filter (Qlp out)
theorem Q9p{z out}(h:z.Perm out)(p):Qox z p=Qox out p:=by
 unfold Qox;rw[Zc7,Zb7,Zb7];exact⟨fun⟨x,hx,a⟩=>⟨x,h.mem_iff.1 hx,a⟩,fun⟨x,hx,a⟩=>⟨x,h.mem_iff.2 hx,a⟩⟩
theorem Qwp(z e p):Qox (z++[e]) p=(Qox z p||(decide (e.kind=14)&&decide (e.person=p))):=by
 simp[Qox,List.any_append]
theorem Xg3:Tryz.prog.underlying 130=some (.map 132 69):=by kernel_rfl
theorem Qvq(a b):(decide (Qj4 a b<0)||(decide (Qj4 a b=0)&&bLt (Qlb a) (Qlb b)))=Qbm a b:=by
 rw[Q4e]
 by_cases h:Qj4 a b=0
 .simp[h]
 .simp[h]
theorem Qzh(x A c w)(m:SlE w A x)(j:x.length<100000000000) :
 Cal Tryz.prog 53 [.slice A x.length c] w fun r w'=>∃b z,r=.slice b z.length z.length/\z.Perm x/\Srt Q5 z/\SlE w' b z/\Ext w w'/\∀a,b=some a->w.heap.size<=a.block/\a.block<w'.heap.size:=by
 refine Fi Tryz.func53 rfl _ rfl rfl (Hh ?_);refine(Q4k x A c w m Om).mono ?_;rintro _ w1 ⟨d,g,rfl,f,n⟩;refine Hh ?_;refine(Qp5 x d g w.heap.size w1 x.length rfl j f).mono ?_;rintro _ u ⟨rfl,z,i,o,h,l⟩;refine Hh ?_;have s:=i.length_eq;have k:=f.le;refine(Q8x d x.length g u k).mono ?_;rintro _ _ ⟨rfl,rfl⟩;refine Hh ?_;refine⟨d,z,by rw[s],i,o,h.sl Qau,Q44 n l fun a e=>(f.block e).1,fun a e=>h.block e⟩
set_option maxHeartbeats 1000000 in
theorem Q8c(l A c w)(c5:Gl w)(cf:SlE w A l)(d1:l.length<1000000)(bj:∀e∈l,Xy e=true) :
 Cal Tryz.prog 19 [.slice A l.length c] w fun r w'=>∃a9 z,r=.slice a9 z.length z.length/\z.Perm (Qto (Qd5 l))/\Srt Q5 z/\SlE w' a9 z/\Ext w w'/\∀a,a9=some a->w.heap.size<=a.block/\a.block<w'.heap.size:=by
 refine Fi Tryz.func19 rfl _ rfl rfl (Hh ?_);intro g w1 a0;refine Hh ?_;have dw:=a0.block
 refine Qh Qb (fun(j:Nat) w'=>j<=l.length/\Ext w w'/\MapAt w' g idV (Qal (Qd5 (l.take j))))
  (fun j=>[(3,.map (some g)),(19,.slice A l.length c),(20,Vj l.length),(21,Vj j)]) (fun j=>l.length-j) 0 ⟨Om,a0.ext,by simpa [Qal,Qd5] using MapAt.new a0⟩ Rr ?_
 rintro j d9 ⟨c7,aa,K⟩;refine Hh ?_;constructor
 .intro ag;have ag:j<l.length:=Su ag;obtain⟨a2,rfl,b0⟩:=cf.get ag;have az:=bj l[j] (Zu ag);have cg:l.take (j+1)=l.take j++[l[j]]:=by rw[Za ag]
  generalize dz:l[j]=e at b0 az cg;have c2:FOk e:=Xax az (Nat.lt_trans (Qdn az) (by decide));have ca:∀x∈Qd5 (l.take j),Xy x=true:=fun x hx=>bj x (Zay (Qkn hx))
  have bo:=Xfr (l.take j) e;rw[<- cg]at bo;generalize Qd5 (l.take j)=out at K ca bo;have hstep:=Q5n (out:=out) (e:=e);rw[<- bo]at hstep
  obtain⟨b,hit,ax,bq,dd⟩:∃b hit,(∀w',MapAt w' g idV (Qal out)->RdS Tryz.prog .same w' (Instr.lookup 130 (.map (some g)) (idV (idE e)) true) (.tuple #[evV b,.bool hit])) /\
   (hit=true->out.find? (Qc0 e)=some b)/\(hit=false->out.find? (Qc0 e)=none):=by
   have v:∀w',MapAt w' g idV (Qal out)->_:=fun w' da=>Qph (cl:= .same) Xg3 Q9z (e:=ty69) ty69_ok Qs da (idE e)
   rw[Q5m]at v
   cases b1:out.find? (Qc0 e) with
   |none=>rw[b1]at v;exact⟨evZ,false,v,fun h=>(by cases h),fun _=>rfl⟩
   |some b=>rw[b1]at v;exact⟨b,true,v,fun _=>rfl,fun h=>(by cases h)⟩
  have bm:(!hit||decide (Qj4 e b<0))=false->Xy b=true:=fun h=>ca b (List.mem_of_find?_eq_some (bq (by simp at h;exact h.1)))
  have cp:=K.lt;refine Hh ?_
  repeat(refine Sg ?_;(conv=>whnf))
  refine⟨a2,Ix,Hh ?_⟩;refine⟨evC e,⟨rfl,aa.cells b0⟩,Hh ?_⟩;intro n aj D;refine Hh ?_;have cq:=D.block;have d6:=D.size;refine Qc Qb (e:=ty69) rfl D.At rfl rfl rfl (by simp[Qg,evC,Value.oneCell']) fun w5 H P=>?_
  have H:At w5 n _ (evC e):=H;have db:=(K.ext D.ext).only P Om;have E:=P.ext (aa.trans D.ext) (by have:=aa.size;omega);have d7:=P.size;refine Hh ?_
  repeat (first|(refine⟨_,H.one rfl,?_⟩;(conv=>whnf))|(refine⟨_,And.symm ⟨H.all,rfl⟩,?_⟩;(conv=>whnf))|(refine⟨_,fun _=>H.one rfl,?_⟩;(conv=>whnf))|(refine⟨_,fun _=>And.symm ⟨H.all,rfl⟩,?_⟩;(conv=>whnf))|(refine⟨_,fun _ _=>H.one rfl,?_⟩;(conv=>whnf))|(refine⟨_,fun _ _=>And.symm ⟨H.all,rfl⟩,?_⟩;(conv=>whnf)))
  intro b6 bt o;refine Hh ?_;have cr:=o.block;have dq:=o.size;refine Qc Qb (e:=ty132) rfl o.At rfl rfl rfl Oj fun V m u=>?_
  have m:At V b6 _ (idC (idE e)):=m;have b9:=(db.ext o.ext).only u Om;have B:=u.ext (E.trans o.ext) (by have:=E.size;omega);have cx:=u.at_ (H.ext o.ext) Om;have d8:=u.size;refine Hh ?_;refine⟨idC (idE e),⟨rfl,m.all⟩,Hh ?_⟩;refine⟨_,ax V b9,Hh ?_⟩;intro b8 cm f;refine Hh ?_;have cu:=f.block;have dr:=f.size;refine Qc Qb (e:=ty69) rfl f.At rfl rfl rfl (by simp[Qg,evV,evC,Value.oneCell']) fun ak C I=>?_
  have C:At ak b8 _ (evC b):=C;have bl:=(b9.ext f.ext).only I Om;have U:=I.ext (B.trans f.ext) (by have:=B.size;omega);have ae:=I.at_ (cx.ext f.ext) Om;have bb:=I.at_ (m.ext f.ext) Om;refine Hh ?_;refine⟨evC e,⟨rfl,ae.all⟩,Hh ?_⟩;refine⟨evC b,⟨rfl,C.all⟩,Hh ?_⟩;refine(Qbh e b ak).mono ?_;rintro _ ck ⟨rfl,L⟩;refine Hh ?_;refine Dr .ext [0,1,2,3,4,5,6,7,8,9,10,12,11] [13,14,15,16] (Hh ?_);replace L:=L.drew;generalize ck.drew=bs at L⊢;replace bl:=bl.ext L;replace U:=U.trans L;replace ae:=ae.ext L;replace bb:=bb.ext L;replace C:=C.ext L;have b2:=c5.ext U;refine⟨evC e,fun _ _=>⟨rfl,ae.all⟩,Hh ?_⟩;refine⟨evC b,fun _ _=>⟨rfl,C.all⟩,Hh ?_⟩;refine⟨Unit,fun _=>(.string (Qlb e)),fun _ w'=>Ext bs w',(),fun c4 ar=>((Qov e bs b2 az c2)).mono fun r w' h=>⟨(),h.1,h.2⟩,?_⟩;intro _ a8 ac
  have Z:Ext bs a8:=by
   rcases ac with⟨_,h⟩|⟨_,h⟩
   .exact h
   .rw[h];exact Ext.refl _
  clear ac;refine⟨Z,?_⟩;refine Hh ?_;refine⟨Unit,fun _=>(.string (Qlb b)),fun _ w'=>Ext a8 w',(),fun c4 ar=>((Qov b a8 (b2.ext Z) (bm ar) (Xax (bm ar) (Nat.lt_trans (Qdn (bm ar)) (by decide))))).mono fun r w' h=>⟨(),h.1,h.2⟩,?_⟩;intro _ dt ac
  have a5:Ext a8 dt:=by
   rcases ac with⟨_,h⟩|⟨_,h⟩
   .exact h
   .rw[h];exact Ext.refl _
  clear ac;refine Hh ?_;have bk:=(bl.ext Z).ext a5;have ch:=(U.trans Z).trans a5;constructor
  .intro s;have s:((!hit||decide (Qj4 e b<0))||(decide (Qj4 e b=0)&&bLt (Qlb e) (Qlb b)))=true:=s;rw[Bool.or_assoc,Qvq]at s;refine Hh ?_;refine⟨idC (idE e),⟨rfl,((bb.ext Z).ext a5).all⟩,Hh ?_⟩;refine⟨evC e,⟨rfl,((ae.ext Z).ext a5).all⟩,Hh ?_⟩;refine Qx Xg3 Q9z bk (idE e) _ fun du ay de=>?_
   refine Hh ?_;have ay:MapAt du g idV (Xe (Qal out) (idE e) (evV e)):=ay
   have bd:Xe (Qal out) (idE e) (evV e)=Qal (Qd5 (l.take (j+1))):=by
    cases N:hit
    .exact hstep.1 (dd N)
    .rw[N]at s;exact hstep.2.1 b (bq N) (Su s)
   rw[bd]at ay;refine⟨_,wrap_succ Om,Hh ?_⟩;exact⟨j+1,Om,⟨Om,de.ext ch Om,ay⟩,Rr⟩
  .intro s;have s:((!hit||decide (Qj4 e b<0))||(decide (Qj4 e b=0)&&bLt (Qlb e) (Qlb b)))=false:=s;rw[Bool.or_assoc,Qvq]at s;refine Hh ?_
   have bd:Qal out=Qal (Qd5 (l.take (j+1))):=by
    cases N:hit
    .rw[N]at s;simp at s
    .rw[N]at s;exact hstep.2.2 b (bq N) (Su s)
   rw[bd]at bk;refine⟨_,wrap_succ Om,Hh ?_⟩;exact⟨j+1,Om,⟨Om,ch,bk⟩,Rr⟩
 .intro aq;have aq:l.length<=j:=Su aq;rw[Zd aq]at K;generalize df:Qd5 l=out at K;have d2:out.length<1000000:=by have:=Q27 l;rw[df]at this;omega
  clear cf bj aq c7;refine Hh ?_;intro n aj D;refine Hh ?_;have cq:=D.block;have cp:=K.lt;have S:=aa.trans D.ext;have b4:=K.ext D.ext;have be:MapAt aj n Value.string []:=MapAt.new D;have cw:g≠n:=Om;have c0:w.heap.size<=n:=by have:=aa.size;omega
  clear aa K D a0;refine map_range Xg3 b4 fun w5 O E=>?_
  generalize v:aj.heap.size=r at O;have a4:w.heap.size<=r:=by rw[<- v];exact S.size
  have bz:n<r:=by rw[<- v];exact be.lt
  refine Hh ?_
  refine Qh Qb (fun(i:List Ev×List (Bj×Bool)) w'=>Ext w w'/\Iter w' r g idV (Qal out) (Qal i.1)/\MapAt w' n Value.string (Xj Value.bool i.2)/\∀p,(Qe i.2 p).getD false=Qox i.1 p)
   (fun i=>[(3,.map (some g)),(62,Pj r),(10,.map (some n))]) (fun i=>out.length-i.1.length) ([],[]) ⟨S.trans E,O,be.ext E,fun p=>rfl⟩ Rr ?_
  rintro ⟨z,G⟩ bt ⟨a7,av,af,Y⟩;simp only at av af Y;refine Hh ?_;refine Qff av (fun J=>?_) (fun x V bi dc ah F u bg=>?_)
  .have J:=Qr6 J;refine Hh ?_;constructor
   .intro h;cases h
   intro _;have Y:∀p,(Qe G p).getD false=Qox out p:=fun p=>(Y p).trans (Q9p J p)
   have b7:=av.map;clear av J b4 be O E S;clear v a4 bz;refine Hh ?_;refine map_range Xg3 b7 fun V F B=>?_
   generalize v:bt.heap.size=M at F;have a4:w.heap.size<=M:=by rw[<- v];exact a7.size
   have bz:n<M:=by rw[<- v];exact af.lt
   refine Hh ?_
   refine Qh Qb (fun(i:List Ev×Option Addr×Nat) w'=>Ext w w'/\Iter w' M g idV (Qal out) (Qal i.1)/\MapAt w' n Value.string (Xj Value.bool G)/\Own evC 8 69 w.heap.size w' i.2.1 i.2.2 (i.1.filter (Qlp out))/\(∀a,i.2.1=some a->a.block≠M/\a.block≠g/\a.block≠n))
    (fun i=>[(74,Pj M),(10,.map (some n)),(13,.slice i.2.1 (i.1.filter (Qlp out)).length i.2.2)]) (fun i=>out.length-i.1.length) ([],none,0) ⟨a7.trans B,F,af.ext B,Own.nil,by simp⟩ Rr ?_
   clear F B a7 b7 af v;rintro ⟨z,al,c3⟩ aj ⟨S,b3,cz,a3,ai⟩;simp only at b3 a3 ai;refine Hh ?_;refine Qff b3 (fun J=>?_) (fun x w5 bi dc ah O P bg=>?_)
   .have J:=Qr6 J;refine Hh ?_;constructor
    .intro h;cases h
    .intro _;refine Hh ?_;refine(Qzh (z.filter (Qlp out)) al c3 aj (a3.sl Qau) (by have:=J.length_eq;have:=Zc (Qlp out) z;omega)).mono ?_;rintro _ w5 ⟨cn,dv,rfl,di,dj,dk,E,cb⟩;refine Hh ?_;exact⟨cn,dv,rfl,di.trans (J.filter _),dj,dk,S.trans E,fun a y=>⟨Zw S.size (cb a y).1,(cb a y).2⟩⟩
   .obtain⟨e,c1,rfl⟩:=Zh.1 bi;have ah:z.length<out.length:=by simpa [Qal] using ah
    have d4:=O.lt;have b5:=O.map.lt;have E:=P.ext S a4;have bw:=cz.only P Om;have dx:=bw.lt;have cc:=a3.keep fun a y=>P.block _ (ai a y).1
    have R:(z++[e]).filter (Qlp out)=z.filter (Qlp out)++if Qlp out e then [e] else []:=by rw[Zq];simp[Zau]
    have d0:=Zc (Qlp out) z;refine Hh ?_
    repeat(refine Sg ?_;(conv=>whnf))
    constructor
    .intro _;refine Hh ?_
     repeat(refine Sg ?_;(conv=>whnf))
     refine Qa1 (bg w5 rfl rfl) ?_;refine Hh ?_;intro b6 bt o;refine Hh ?_;have cr:=o.block;have dq:=o.size;refine Qc Qb (e:=ty69) rfl o.At rfl rfl rfl (by simp[Qg,evV,evC,Value.oneCell']) fun V m u=>?_
     have m:At V b6 _ (evC e):=m;have F:=(O.ext o.ext).keep (u.block g Om) (u.block M Om);have B:=u.ext (E.trans o.ext) (by have:=E.size;omega);have W:=(bw.ext o.ext).only u Om;have cd:=(cc.ext o.ext).keep fun a y=>u.block _ (by have:=(cc.block y).2;omega)
     refine Hh ?_;refine⟨_,m.one rfl,Hh ?_⟩;have ax:=X5 (cl:= .same) Qqh (Qr Xd) (e:=ty4) ty4_ok Qs W e.person;have c8:(Qe (Xj Value.bool G) e.person).getD ty4.zero=.bool (Qox out e.person):=(by rw[show ty4.zero=Value.bool false from rfl,Xt,Y]);rw[c8]at ax;refine⟨_,ax,Hh ?_⟩
     repeat (first|(refine⟨_,m.one rfl,?_⟩;(conv=>whnf))|(refine⟨_,And.symm ⟨m.all,rfl⟩,?_⟩;(conv=>whnf))|(refine⟨_,fun _=>m.one rfl,?_⟩;(conv=>whnf))|(refine⟨_,fun _=>And.symm ⟨m.all,rfl⟩,?_⟩;(conv=>whnf))|(refine⟨_,fun _ _=>m.one rfl,?_⟩;(conv=>whnf))|(refine⟨_,fun _ _=>And.symm ⟨m.all,rfl⟩,?_⟩;(conv=>whnf)))
     constructor
     .intro d;have d:Qlp out e=true:=d;rw[d]at R;refine Hh ?_;refine⟨evC e,⟨rfl,m.all⟩,Hh ?_⟩;intro b8 cm f;refine Hh ?_;have cj:=B.trans f.ext;have bh:=F.ext f.ext;have bx:=W.ext f.ext;refine Qib (l:=z.filter (Qlp out)) (news:= [e]) (cd.ext f.ext) (Qai Qau f) (by simp;omega) cj.size fun bu c9 ak dh au cy=>?_
      refine Hh ?_;have dp:=bh.lt;have dm:=bh.map.lt;have cv:=bx.lt
      have an:∀k,al.map (·.block)=some k->k≠M/\k≠g/\k≠n:=fun k d=>by
       cases al with
       |none=>simp at d
       |some a=>have:=ai a rfl;simp at d;subst d;exact this
      have aw:=bh.keep (au.block g dm (fun ab=>(an _ ab.symm).2.1 rfl)) (au.block M dp (fun ab=>(an _ ab.symm).1 rfl));have ao:=bx.keep (au.block n cv (fun ab=>(an _ ab.symm).2.2 rfl));refine⟨(z++[e],bu,c9),by simp;omega,⟨Qu cj au fun k d=>Xhw a3 k d,by simpa [Qal] using aw,ao,by rw[R];exact dh,fun a y=>?_⟩,⟨rfl,rfl,by rw[R];rfl,trivial⟩⟩;have y:bu=some a:=y;rcases cy with h|h|h
      .exact ai a (by rw[<- h];exact y)
      .rw[y]at h;exact an a.block h.symm
      .rw[y]at h;simp at h;omega
     .intro d;have d:Qlp out e=false:=d;rw[d]at R;simp only[Zal,if_false,Z4]at R;refine Hh ?_;exact⟨(z++[e],al,c3),by simp;omega,⟨B,by simpa [Qal] using F,W,by rw[R];exact cd,ai⟩,⟨rfl,rfl,by rw[R];rfl,trivial⟩⟩
    .intro h;cases h
  .obtain⟨e,c1,rfl⟩:=Zh.1 bi;have ah:z.length<out.length:=by simpa [Qal] using ah
   have d5:=F.lt;have d3:=F.map.lt;have B:=u.ext a7 a4;have W:=af.only u Om;have dy:=W.lt;refine Hh ?_
   repeat(refine Sg ?_;(conv=>whnf))
   constructor
   .intro _;refine Hh ?_
    repeat(refine Sg ?_;(conv=>whnf))
    refine Qa1 (bg V rfl rfl) ?_;refine Hh ?_;intro b8 cm f;refine Hh ?_;have cu:=f.block;have dr:=f.size;refine Qc Qb (e:=ty69) rfl f.At rfl rfl rfl (by simp[Qg,evV,evC,Value.oneCell']) fun ak C I=>?_
    have C:At ak b8 _ (evC e):=C;have aw:=(F.ext f.ext).keep (I.block g Om) (I.block r Om);have U:=I.ext (B.trans f.ext) (by have:=B.size;omega);have ao:=(W.ext f.ext).only I Om;refine Hh ?_;refine⟨_,C.one rfl,Hh ?_⟩;constructor
    .intro d;have d:e.kind=14:=Su d;refine Hh ?_;refine⟨_,C.one rfl,Hh ?_⟩;refine Qx Qqh (Qr Xd) ao e.person _ fun ck bv bp=>?_
     rw[Xc]at bv;refine Hh ?_;have c6:=aw.keep (bp.block g cw) (bp.block r Om);refine⟨(z++[e],Xe G e.person true),by simp;omega,⟨bp.ext U c0,by simpa [Qal] using c6,bv,fun p=>?_⟩,Rr⟩;simp only;rw[Xr,Qwp,<- Y p,d]
     by_cases br:p=e.person
     .simp[br]
     .rw[if_neg br];simp[Ne.symm br]
    .intro d;have d:¬e.kind=14:=Su d;refine Hh ?_;refine⟨(z++[e],G),by simp;omega,⟨U,by simpa [Qal] using aw,ao,fun p=>?_⟩,Rr⟩;simp only;rw[Qwp,<- Y p];simp[d]
   .intro h;cases h
def Qfm(l:List Ev):List Ev:=(Qto (Qd5 l)).mergeSort fun a b=>!Q5 b a
theorem Xaj(a b c)(d:(!Q5 b a)=true)(e:(!Q5 c b)=true):(!Q5 c a)=true:=by
 simp only[Zam]at*;exact Qbo.trans a b c d e
theorem Xai(a b):((!Q5 b a)||(!Q5 a b))=true:=by
 cases h:Q5 b a
 .rfl
 .rw[Qbo.asymm _ _ h];rfl
theorem Qjz(l):(Qfm l).Perm (Qto (Qd5 l)):=Zby _ _
theorem Q12(l):Srt Q5 (Qfm l):=by
 have:=Zbf (le:=fun a b=>!Q5 b a) Xaj Xai (Qto (Qd5 l));exact this.imp fun h=>Su h
theorem Qtp(out):(Qto out).Sublist out:=Zax
theorem Q2s{l}(h:∀x∈l,Xy x=true):(Qto (Qd5 l)).Pairwise (fun a b=>idE a≠idE b):=(Xbd h).ids.sublist (Qtp _)
theorem Xie{l z}(h:∀x∈l,Xy x=true)(a:z.Perm (Qto (Qd5 l)))(b:Srt Q5 z):z=Qfm l:=
 Q6u (a.trans (Qjz l).symm) (Q2n a (Q2s h)) b (Q12 l)
theorem Xec{l}(h:∀x∈l,Xy x=true):(Qfm l).Pairwise (fun a b=>idE a≠idE b):=Q2n (Qjz l) (Q2s h)
theorem Qni{l x}(h:x∈Qfm l):x∈l:=Qkn ((Qtp _).subset ((Qjz l).subset h))
theorem Qjy(l):(Qfm l).length<=l.length:=by
 have a:=(Qjz l).length_eq;have b:=(Qtp (Qd5 l)).length_le;have c:=Q27 l;omega
theorem Qvj{l}(h:∀x∈l,Xy x=true):Rise (Qfm l):=by
 have e:=Q12 l;have f:=Xec h;unfold Rise Srt at*;refine(e.and f).imp fun {a b} ⟨j,g⟩=>?_
 cases i:Q5 a b
 .obtain⟨_,c,d⟩:=Qil i j;exact absurd (by unfold idE;rw[c,d]) g
 .rfl
def stepW(width:Int)(s:WS)(e:Ev):WS:=if e.kind=14 then { Xkz width s e with fg:=Xe s.fg e.person true } else Xkz width s e
def ofW(width:Int)(z:List Ev):WS:=z.foldl (stepW width) WS0
theorem Q26(width z e):ofW width (z++[e])=stepW width (ofW width z) e:=by simp[ofW]
theorem Xbb(width z):(ofW width z).es=z/\(ofW width z).ct=Qi width z:=by
 induction z using Qw with
 |h0=>exact⟨rfl,rfl⟩
 |h1 c a b =>
  rw[Q26,Qc6,<- b.2];unfold stepW;split<;>simp[Xkz,b.1]
theorem Qdb{α:Type}(z:List α)(k)(h:k<z.length):z.take (k+1)=z.take k++[z[k]]:=by rw[Za h]
theorem Xb3{z}(h:Rise z)(k):Rise (z.take k):=h.sublist (Zc8 k z)
set_option maxHeartbeats 1000000 in
theorem Xg6(c)(a0:Qu7 c=true)(l A cap w)(D:Gl w)(aj:SlE w A l)(bm:l.length<1000000)(L:∀e∈l,Xy e=true) :
 Cal Tryz.prog 7 [Xhe c,.slice A l.length cap] w fun r w'=>∃p,r=.tuple #[Pj p,Vj 0]/\Qgm w' w.heap.size p c (ofW c.width (Qfm l))/\Ext w w':=by
 refine Fi Tryz.func7 rfl _ rfl rfl (Hh ?_);intro b1 w1 M;refine Hh ?_;refine⟨Qrg c,⟨rfl,M.At.all⟩,Hh ?_⟩;refine(Qu3 c w1 (by have:=D.size;have:=M.size;omega) a0).mono ?_;rintro _ bv ⟨p,rfl,aw,a9⟩;refine Hh ?_;refine⟨fun h=>(by simp at h),fun _=>?_⟩;have hx:=M.ext.trans a9;have b9:=M.size;obtain⟨ar,af⟩:=aw.col;clear aw M a9;refine Hh ?_
 refine Qh Qb (fun(j:Nat) w'=>j<=l.length/\Ext bv w')
  (fun j=>[(1,.slice A l.length cap),(6,Pj p),(21,.slice A l.length cap),(22,Vj l.length),(23,Vj j)]) (fun j=>l.length-j) 0 ⟨Om,Ext.refl _⟩ Rr ?_
 rintro j bw ⟨bl,u⟩;refine Hh ?_;constructor
 .intro b;have b:j<l.length:=Su b;obtain⟨a2,rfl,C⟩:=aj.get b;have E:=L l[j] (Zu b);generalize l[j]=e at C E;refine Hh ?_;refine⟨a2,Ix,Hh ?_⟩;refine⟨evC e,⟨rfl,(hx.trans u).cells C⟩,Hh ?_⟩;intro b4 bx o;refine Hh ?_;have b0:=o.block;refine Qc Qb (e:=ty69) rfl o.At rfl rfl rfl (by simp[Qg,evC,Value.oneCell']) fun w5 ac bp=>?_
  have ac:At w5 b4 _ (evC e):=ac;have R:=bp.ext (u.trans o.ext) (by have:=u.size;omega);refine Hh ?_;refine⟨evC e,⟨rfl,ac.all⟩,Hh ?_⟩;refine(Qki e w5 (D.ext (hx.trans R)) (Nat.lt_trans (Qdn E) (by decide))).mono ?_;rintro _ bz ⟨rfl,bs⟩;rw[E];refine Hh ?_;refine⟨fun h=>(by simp at h),fun _=>?_⟩;refine Hh ?_;refine⟨_,wrap_succ Om,Hh ?_⟩;exact⟨j+1,Om,⟨Om,R.trans bs⟩,Rr⟩
 .intro _;have P:=hx.trans u;refine Hh ?_;refine(Q8c l A cap bw (D.ext P) (aj.ext P) bm L).mono ?_;rintro _ bx ⟨V,z,rfl,a4,a7,a8,aa,o⟩;have be:=Xie L a4 a7;have bu:=Qjy l;have a5:=Qvj L;have ao:∀x∈Qfm l,Xy x=true:=fun x hx=>L x (Qni hx)
  rw[<- be]at a5 ao bu⊢;clear a4 a7 be;have au:=(af.ext u).ext aa;have ay:∀a,V=some a->ar a.block=0:=fun a f=>af.2 _ (by have:=(o a f).1;have:=u.size;omega)
  have bk:=D.ext (P.trans aa);have bd:=P.trans aa;have b3:w.heap.size<=w1.heap.size:=Om;refine Hh ?_;refine⟨fun h=>(by simp at h;omega),fun _=>?_⟩;refine Hh ?_
  refine Qh Qb (fun(i:Nat) w'=>i<=z.length/\Ext w w'/\SlE w' V z/\∃col,Qhi w' w1.heap.size p c (ofW c.width (z.take i)) col/\∀a,V=some a->col a.block=0/\a.block<w'.heap.size)
   (fun i=>[(6,Pj p),(36,.slice V z.length z.length),(37,Vj z.length),(38,Vj i)]) (fun i=>z.length-i) 0
   ⟨Om,bd,a8,ar,au,fun a f=>⟨ay a f,(o a f).2⟩⟩ Rr ?_
  clear a8 au ay bk bd aa o af u P hx bl aj;rintro i w5 ⟨b7,R,ak,col,B,ae⟩;refine Hh ?_;constructor
  .intro b;have b:i<z.length:=Su b;obtain⟨a2,rfl,C⟩:=ak.get b;have E:=ao z[i] (Zu b);have an:=Qdb z i b;have ai:=Xb3 a5 (i+1);rw[an]at ai;generalize z[i]=e at C E an ai;have H:=Xbb c.width (z.take i);have F:=Q26 c.width (z.take i) e;rw[<- an]at F;have br:(z.take i).length=i:=by rw[Zn];omega
   generalize b8:ofW c.width (z.take i)=s at B H F;refine Hh ?_
   repeat(refine Sg ?_;(conv=>whnf))
   refine⟨a2,Ix,Hh ?_⟩;refine⟨evC e,⟨rfl,C⟩,Hh ?_⟩;intro v bz N;refine Hh ?_;have b2:=N.block;have cb:=N.size;refine Qc Qb (e:=ty69) rfl N.At rfl rfl rfl (by simp[Qg,evC,Value.oneCell']) fun aq y ah=>?_
   have y:At aq v _ (evC e):=y;have cc:=ah.size;have ab:Ext w5 aq:=ah.ext N.ext Om;have ag:=B.ext ab;have bb:=R.trans ab;have az:col v=0:=B.2 v Om;refine Hh ?_;refine⟨evC e,⟨rfl,y.all⟩,Hh ?_⟩;refine(Xf3 aq w1.heap.size p c a0 s col ag (D.ext bb) (by rw[H.2,H.1]) (by rw[H.1];exact fun x hx=>ao x (Zay hx)) e E (by rw[H.1];exact ai) (by rw[H.1,br];omega)).mono ?_;rintro _ m ⟨rfl,I,av,ax,K⟩;have J:=y.mod K (by simp[az]);have cd:=K.size;have bo:∀k,col k≠0->w.heap.size<=k:=fun k d=>(by obtain⟨q,U,W,g⟩:=ag.1;have:=g.low.2 k d;omega)
   have S:Ext w m:=Qgo bb K bo;have O:SlE m (some a2) z:=Quq (ak.ext ab) fun bg bj=>(by have:=ae bg bj;exact K.block _ Om (by simp[this.1]))
   have Y:∀a,some a2=some a->I a.block=0/\a.block<m.heap.size:=fun a f=>(by have:=ae a f;exact⟨(ax _ Om).trans this.1,Om⟩)
   have b6:I v=0:=(ax v y.lt).trans az;clear K ag ab y N ah C ak ae B;refine Hh ?_;refine⟨_,J.one rfl,Hh ?_⟩;constructor
   .intro d;have d:e.kind=14:=Su d;have al:stepW c.width s e={ Xkz c.width s e with fg:=Xe s.fg e.person true }:=if_pos d;rw[al]at F;obtain⟨⟨q,U,W,n⟩,bt⟩:=av;refine Hh ?_;refine Dr .same [0,1,2,3,4,5] [6] (Hh ?_);replace n:=n.ext (Ext.refl m).drew;replace J:At m.drew v _ _:=J;replace S:=S.drew;replace O:=O.ext (Ext.refl m).drew;have bq:m.drew.heap.size=m.heap.size:=rfl;generalize m.drew=cg at n J S O bq⊢;refine⟨_,n.head.one rfl,Hh ?_⟩;refine⟨_,J.one rfl,Hh ?_⟩;refine Qx Qqh (Qr Xd) n.forg e.person _ fun cf a3 Z=>?_
    rw[Xc]at a3;have bi:=n.forgm Z a3;have b5:I q.bf=8:=n.cols.2.2.1;have ca:=Z.size;refine Hh ?_;refine⟨_,wrap_succ Om,Hh ?_⟩;refine⟨i+1,Om,⟨Om,Z.ext S (by have:=n.low.2 q.bf Om;omega),Quq O (fun a f=>Z.block _ (fun bh=>by have:=(Y a f).1;rw[bh]at this;omega)),I,?_,fun a f=>⟨(Y a f).1,by have:=(Y a f).2;omega⟩⟩,Rr⟩;rw[F];exact⟨⟨q,U,W,bi⟩,fun k d=>bt k Om⟩
   .intro d;have d:¬e.kind=14:=Su d;have al:stepW c.width s e=Xkz c.width s e:=if_neg d;rw[al]at F;refine Hh ?_;refine⟨_,wrap_succ Om,Hh ?_⟩;refine⟨i+1,Om,⟨Om,S,O,I,?_,Y⟩,Rr⟩;rw[F];exact av
  .intro b;have b:z.length<=i:=Su b;rw[Zd b]at B;refine Hh ?_;refine⟨p,rfl,?_,R⟩;obtain⟨q,U,W,g⟩:=B.1;exact⟨col,q,U,W,⟨by have:=D.size;omega,fun k d=>by have:=g.low.2 k d;omega⟩,g.head,g.cols,g.added,g.forg,g.evs,g.cts⟩
def thB(e:Ev):Bool:=decide (e.kind=11\/e.kind=12\/e.kind=13)
def peB(e:Ev):Bool:= !thB e&&!decide (e.kind=14)
def Qm(z:List Ev):List Ev:=z.filter thB
def Qak(z:List Ev):List Ev:=z.filter peB
theorem Qb7(width z):(Qi width z).cs=Qm z/\evs (Qi width z).rs=Qak z:=by
 induction z using Qw with
 |h0=>exact⟨rfl,rfl⟩
 |h1 d a c =>
  rw[Qc6];unfold Qm Qak at*;rw[Zq,Zq,<- c.1,<- c.2];unfold Qd9
  by_cases h1:a.kind=11\/a.kind=12\/a.kind=13
  .rw[if_pos h1];simp[thB,peB,h1]
  .rw[if_neg h1]
   by_cases b:a.kind=14
   .rw[if_pos b];simp[thB,peB,h1,b]
   .rw[if_neg b];split<;>simp[thB,peB,h1,b,evs]
def Qdd(z:List Ev)(name:Bj)(t:Int):It:=(Xz (Qm z) name t).1
def Qmi(z:List Ev)(name:Bj)(t:Int):Bool:=(Xz (Qm z) name t).2
def Qfs(z:List Ev)(person:Bj):List Ev:=hist (Qak z) person
structure WV(w:World)(base p:Nat)(c:Cfg)(z:List Ev):Prop where
 at_:Qgm w base p c (ofW c.width z)
 may:∀x∈z,Xy x=true
 rise:Rise z
 len:z.length<1000000
theorem WV.ext{w w1 base p c z}(h:WV w base p c z)(hx:Ext w w1):WV w1 base p c z:=⟨h.at_.ext hx,h.may,h.rise,h.len⟩
theorem WV.rows{w base p c z}(h:WV w base p c z){name}:(Qy (Qm z) name).length<1000000000000:=by
 have b:=(X0 (Qm z) (fun e a=>h.may e ((Ze.1 a).1)) name).1;have d:=Zc thB z;have f:=h.len;unfold Qm at*;omega
theorem WV.people{w base p c z}(h:WV w base p c z):(Qak z).length<1000000:=by
 have a:=Zc peB z;have b:=h.len;unfold Qak;omega
theorem Qpf(c)(h:Qu7 c=true)(l A cap w)(i:Gl w)(j:SlE w A l)(b:l.length<1000000)(a:∀e∈l,Xy e=true) :
 Cal Tryz.prog 7 [Xhe c,.slice A l.length cap] w fun r w'=>∃p,r=.tuple #[Pj p,Vj 0]/\WV w' w.heap.size p c (Qfm l)/\Ext w w':=
 (Xg6 c h l A cap w i j b a).mono fun r w' ⟨p,d,f,g⟩=>⟨p,d,⟨f,fun x hx=>a x (Qni hx),Qvj a,Zbw (Qjy l) b⟩,g⟩
theorem Qtg(z person):(Qfs z person).length<=z.length:=by
 unfold Qfs hist Qak;have a:=Zc (fun e:Ev=>decide (e.person=person)) (z.filter peB);have b:=Zc peB z;omega
structure Qiv(l:List Ev):Prop where
 may:∀e∈l,Xy e=true
 ids:l.Pairwise (fun a b=>idE a≠idE b)
 none:∀e∈l,e.kind≠14
theorem Qiv.filter{l}(h:Qiv l)(q):Qiv (l.filter q):=
 ⟨fun e a=>h.may e (Ze.1 a).1,h.ids.sublist Zax,fun e a=>h.none e (Ze.1 a).1⟩
theorem Qiv.once{l}(h:Qiv l):(Qd5 l).Perm l:=by
 have b:=Xbd h.may;refine Qfh (Qws b.ids) (Qws h.ids) (fun x hx=>Qkn hx) fun x hx=>?_
 obtain⟨y,a,c⟩:=b.all x hx;obtain rfl:=Qwr h.ids (Qkn a) hx c;exact a
theorem Qiv.left{l}(h:Qiv l):Qto (Qd5 l)=Qd5 l:=by
 unfold Qto;rw[Zca];intro x hx;unfold Qlp Qox;rw[Zbg,Zam,List.any_eq_false]
 left
 intro y b a;have:y.kind=14:=by simp at a;exact a.1
 exact h.none y (Qkn b) this
def nb(a n:Nat):Bj:=⟨#[UInt8.ofNat a,UInt8.ofNat (48+n)]⟩
theorem Qtx:∀n<10,Qo (nb 115 n)=true/\Qo (nb 112 n)=true/\Qo (nb 105 n)=true/\Qo (nb 109 n)=true:=by decide +kernel
def Xl9(b:Nat):Bj:= [⟨#[]⟩,nb 116 0,nb 116 1,nb 116 0++⟨#[44]⟩++nb 116 1,nb 116 2,nb 116 0++⟨#[44]⟩++nb 116 2,nb 116 1++⟨#[44]⟩++nb 116 2,nb 116 0++⟨#[44]⟩++nb 116 1++⟨#[44]⟩++nb 116 2].getD b ⟨#[]⟩
def Qw1(m b:Nat):Bj:=nb 109 m++⟨#[59]⟩++Xl9 b
theorem Q5t:∀m<3,∀b<8,Qc8 (Qw1 m b)=true:=by decide +kernel
def kT:List Int:= [1,2,3,4,0,5,6,7,9,11,11,12,13]
def Qyd(k b1 b2 v:Nat)(num tick:Int):Ev:=
 let src:=nb 115 (k/16%2)
 let a:=max (tick-5*(k/32:Nat)) 0
 let b:=kT.getD (k%16) 0
 let p:=nb 112 (b1%4)
 let c:=nb 105 (b2%6)
 if b=7\/b=9 then⟨src,num,a,b,p,⟨#[]⟩,0,nb 109 (v%3)⟩
 else if b=11 then⟨src,num,a,b,⟨#[]⟩,c,(v:Nat),Qw1 (v%3) (v/4%8)⟩
 else if b=12 then⟨src,num,a,b,⟨#[]⟩,c,(v%3:Nat),⟨#[]⟩⟩
 else if b=13 then⟨src,num,a,b,⟨#[]⟩,c,0,⟨#[]⟩⟩
 else if b=4 then⟨src,num,a,b,p,c,(1+v%5:Nat),⟨#[]⟩⟩
 else⟨src,num,a,b,p,c,0,⟨#[]⟩⟩
theorem Xgs{k b1 b2 v num tick}(h:k%16<13)(w:v<256)(s:1<=num/\num<=1000)(u:0<=tick/\tick<=1000000) :
 Xy (Qyd k b1 b2 v num tick)=true/\(Qyd k b1 b2 v num tick).kind≠14/\(Qyd k b1 b2 v num tick).src=nb 115 (k/16%2)/\(Qyd k b1 b2 v num tick).num=num:=by
 have b:=(Qtx (k/16%2) Om).1;have c:=(Qtx (b1%4) Om).2.1;have d:=(Qtx (b2%6) Om).2.2.1;have e:=(Qtx (v%3) Om).2.2.2;have f:=Q5t (v%3) Om (v/4%8) Om;have l:1<=num/\num<=1099511627776:=Om;have g:0<=max (tick-5*((k/32:Nat):Int)) 0/\max (tick-5*((k/32:Nat):Int)) 0<=1099511627776:=Om;unfold Qyd;generalize nb 115 (k/16%2)=src at b⊢;generalize nb 112 (b1%4)=p at c⊢;generalize nb 105 (b2%6)=i at d⊢;generalize nb 109 (v%3)=m at e⊢;generalize Qw1 (v%3) (v/4%8)=t at f⊢;generalize max (tick-5*((k/32:Nat):Int)) 0=a at g⊢;generalize k%16=j at h⊢;have n:inB (v:Int) 0 1048576=true:=Qdc.2 ⟨Om,Om⟩;have o:inB ((v:Int)%3) 0 1048576=true:=Qdc.2 ⟨Om,Om⟩;have r:inB (1+(v:Int)%5) 1 5=true:=Qdc.2 ⟨Om,Om⟩;rcases j with _|_|_|_|_|_|_|_|_|_|_|_|_|j
 all_goals first
  |omega
  |exact⟨Qcf.2 ⟨b,l,g,by simp[kT,Qkg,k6,k4,c,d,e,f,n,o,r]⟩,by simp[kT],rfl,rfl⟩
structure Stp where
 what:Int
 ev:Ev
 person:Bj
 now:Int
 keep:Int
 of_:Int
def Q6y(s:Stp):List Value:= [vi s.what,.string s.ev.src,Vj s.ev.num,Vj s.ev.at_,Vj s.ev.kind,.string s.ev.person,.string s.ev.item,Vj s.ev.val,.string s.ev.text,.string s.person,vi s.now,vi s.keep,vi s.of_]
theorem Q3l(s):(Q6y s).length=13:=rfl
theorem Q3m(s):∀u∈Q6y s,u.oneCell'=true:=by simp[Q6y,Value.oneCell']
def Qeh(S:List Stp):List Ev:=S.flatMap fun s=>if s.what=0 then [s.ev] else []
theorem Ql7(S s):Qeh (S++[s])=Qeh S++if s.what=0 then [s.ev] else []:=by unfold Qeh;rw[Zbn];simp
theorem Xdm(S):(Qeh S).length<=S.length:=by
 induction S with
 |nil=>exact Zf _
 |cons s S a =>
  unfold Qeh at*;rw[Za0,Zo,Zx];split
  .simp only[Zar];omega
  .simp only[Zae];omega
def Qnm(L:List (Bj×Int))(s:Bj):Int:=(Qe L s).getD 0
structure Qqt(S:List Stp)(L:List (Bj×Int))(t:Int):Prop where
 ap:Qiv (Qeh S)
 num:∀e∈Qeh S,e.num<=Qnm L e.src
 cnt:∀s,0<=Qnm L s/\Qnm L s<=S.length
 end_:1000<=t/\t<=1000+15*S.length
 src:∀e∈Qeh S,e.src=nb 115 0\/e.src=nb 115 1
theorem Xgl:Qqt [] [] 1000:=⟨⟨by simp[Qeh],by simp[Qeh],by simp[Qeh]⟩,by simp[Qeh],fun s=>⟨by simp[Qnm,Qe],by simp[Qnm,Qe]⟩,by simp,by simp[Qeh]⟩
theorem Q66{S L t}(h:Qqt S L t){s}(a:s.what≠0){d}(c:0<=d/\d<=15):Qqt (S++[s]) L (t+d):=by
 have e:Qeh (S++[s])=Qeh S:=by rw[Ql7,if_neg a,Z4]
 have b:=h.end_;refine⟨by rw[e];exact h.ap,by rw[e];exact h.num,fun x=>?_,by rw[Zo,Zar];push_cast;omega,by rw[e];exact h.src⟩;have:=h.cnt x;rw[Zo,Zar]
 push_cast
 omega
theorem Xdk{S L t}(h:Qqt S L t){s}(v:s.what=0){d}(A:0<=d/\d<=15)(r:Xy s.ev=true)(o:s.ev.kind≠14)(B:s.ev.num=Qnm L s.ev.src+1)(w:s.ev.src=nb 115 0\/s.ev.src=nb 115 1):Qqt (S++[s]) (Xe L s.ev.src (Qnm L s.ev.src+1)) (t+d):=by
 have e:Qeh (S++[s])=Qeh S++[s.ev]:=by rw[Ql7,if_pos v]
 have y:=h.end_
 have j:∀x,Qnm (Xe L s.ev.src (Qnm L s.ev.src+1)) x=if x=s.ev.src then Qnm L s.ev.src+1 else Qnm L x:=fun x=>by
  conv=>lhs;unfold Qnm
  rw[Xr];split
  .rfl
  .rfl
 have g:∀f∈Qeh S++[s.ev],f∈Qeh S\/f=s.ev:=fun f c=>Su c
 refine⟨⟨?_,?_,?_⟩,?_,fun x=>?_,by rw[Zo,Zar];push_cast;omega,?_⟩
 .rw[e];intro f c;rcases g f c with c|c
  .exact h.ap.may f c
  .rw[c];exact r
 .rw[e,Z7];refine⟨h.ap.ids,List.pairwise_singleton _ _,fun a m b i n=>?_⟩;have i:b=s.ev:=Su i;subst i;have k:a.src=s.ev.src/\a.num=s.ev.num:=by simpa [idE] using n
  have l:=h.num a m;rw[k.1]at l;omega
 .rw[e];intro f c;rcases g f c with c|c
  .exact h.ap.none f c
  .rw[c];exact o
 .rw[e];intro f c;rw[j];rcases g f c with c|c
  .have:=h.num f c;split
   .next u=>rw[u]at this;omega
   .exact this
  .rw[c,if_pos rfl];omega
 .have:=h.cnt x;have z:=h.cnt s.ev.src;rw[j,Zo,Zar]
  push_cast
  split<;>omega
 .rw[e];intro f c;rcases g f c with c|c
  .exact h.src f c
  .rw[c];exact w
theorem Xgm{S L t}(h:Qqt S L t)(a:S.length<=60)(s):1<=Qnm L s+1/\Qnm L s+1<=1000/\0<=t/\t<=1000000:=by
 have:=h.cnt s;have:=h.end_;omega
def Qas(c:Cfg)(a:Nat->Int)(every seed:Int):List Value:=
 [vi c.half,vi c.width,vi c.gap,vi c.span,vi c.floor,vi c.crowd,vi (a 0),vi (a 1),vi (a 2),vi (a 3),vi (a 4),vi (a 5),vi 4,vi 2,vi 3,vi 1073741824,vi 0,vi 5,vi every,.string ⟨#[115,116,111,99,107,62,48]⟩,.string ⟨#[111,119,110]⟩,.int .u64 seed]
def Xip(a b1 b2 b c d:Int):Cfg:=⟨1+10*a,1+b1.tmod 20,1+b2.tmod 50,(1+b1.tmod 20)*(1+b.tmod 4),c.tmod 3,d.tmod 3⟩
theorem Xel{d b1 b2 a b c}(u:0<=d/\d<=255)(l:0<=b1/\b1<=255)(m:0<=b2/\b2<=255)(n:0<=a/\a<=255)(o:0<=b/\b<=255)(r:0<=c/\c<=255):Qu7 (Xip d b1 b2 a b c)=true:=by
 have e:b1.tmod 20=b1%20:=Zbe l.1;have f:b2.tmod 50=b2%50:=Zbe m.1;have g:a.tmod 4=a%4:=Zbe n.1;have i:b.tmod 3=b%3:=Zbe o.1;have j:c.tmod 3=c%3:=Zbe r.1;unfold Qu7 Xip;simp only[e,f,g,i,j];have s:((1+b1%20)*(1+a%4)).tmod (1+b1%20)=0:=Int.mul_tmod_right _ _;have k:a%4=0\/a%4=1\/a%4=2\/a%4=3:=Om;have v:1<=(1+b1%20)*(1+a%4)/\(1+b1%20)*(1+a%4)<=80:=(by rcases k with h|h|h|h<;>rw[h]<;>omega);rw[Qdc.2 ⟨Om,Om⟩,Qdc.2 ⟨Om,Om⟩,Qdc.2 ⟨Om,Om⟩,Qdc.2 ⟨Om,Om⟩,Qdc.2 ⟨Om,Om⟩,Qdc.2 ⟨Om,Om⟩,s];rfl
