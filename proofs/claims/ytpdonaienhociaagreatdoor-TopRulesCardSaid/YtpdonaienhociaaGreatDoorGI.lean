import Derived.Sort.Grow
import Derived.Deep.Draws
import Derived.Shelf.SlGeneric
import Derived.Shelf.SlSortCmp.WholeK
import Derived.Shelf.SlSortCmp.NoneTotal
import Derived.Ground.SlsfProg
import Derived.Test.YtpdonaienhociaaGreatDoorGN
set_option linter.all false
namespace Go.Proofs.YtpdonaienhociaaGreatDoor
open Go.Se Go.RowKit
theorem Qcd {P:Program} {t:TypeId} (h:P.underlying t=some (.pointer (P.pointee t))) (p:Option Addr) (ox oy:Operand):Qm4 P t ox oy (.pointer p) (.pointer none) p.isNone:=by
 intro w;have h1:=run_equal_pointer_nil (P:=P) w t p h;constructor
 . simp[eqGuard,binOp,h1]
 . simp[eqGuard,binOp,h1]
theorem Q8e {κ:Type} {enc:κ->Value} {P:Program} {w:World} {b:Nat} {L:List (κ×Value)} {mt kt et:TypeId} (ht:P.underlying mt=some (.map kt et)) {cl:Cl} (hk:Kept cl w b) (hm:MapAt w b enc L) :
 RdS P cl w (Builtin.len_ #[mt] 0 #[.map (some b)]) (Vj (L.length:Int)):=fun w' hw=>by
 obtain⟨E,c,hE,rfl⟩:=hm.keep (hk w' hw);simp[Builtin.len_,run_underlying ht,Qdd hE.block,strip,goInt]
def wCv (c:Cfg) (A:Option Addr) (n cap:Nat) (any:Bool) (last:Ev) (q:WP) (v:Value):List Value :=
 [vi c.half,vi c.width,vi c.gap,vi c.span,vi c.floor,vi c.crowd,.slice A n cap,.bool any,
  .string last.src,Vj last.num,Vj last.at_,Vj last.kind,.string last.person,.string last.item,Vj last.val,.string last.text,
  .map (some q.ba),.map (some q.bf),Pj q.pc,Pj q.pw,Pj q.pd,Pj q.pp,Pj q.ps,v]
structure WQL (w:World) (T:Nat->Prop) (p:Nat) (c:Cfg) (z:List Ev) (v:Value) (col:Nat->Nat) (q:WP) (A:Option Addr) (n cap:Nat) (any:Bool) (last:Ev):Prop where
 head:At w p 97 (wCv c A n cap any last q v)
 cts:Qpn w col c q (Qi c.width z)
 colp:col p=6
 tset:∀ k,col k≠0->T k
 tlt:∀ k,T k->k<w.heap.size
 evs:n=z.length/\SlE w A z/\∀ a,A=some a->col a.block=9
structure WQ (w:World) (T:Nat->Prop) (p:Nat) (c:Cfg) (z:List Ev) (v:Value):Prop where
 at_:∃ col q A n cap any last,WQL w T p c z v col q A n cap any last
 may:∀ x∈z,X0 x=true
 rise:Rise z
 len:z.length<1000000
theorem WV.q {w:World} {base p:Nat} {c:Cfg} {z:List Ev} (h:WV w base p c z):∃ T,WQ w T p c z (.pointer none)/\∀ k,T k->base<=k:=by
 obtain⟨col,q,A,cap,hL⟩:=h.at_;have hc:=hL.cts;rw[(Q8v c.width z).2] at hc;have hp:=hL.head.lt;have hes:=(Q8v c.width z).1;refine⟨fun k=>(if k<w.heap.size then col k else 0)≠0,⟨⟨fun k=>if k<w.heap.size then col k else 0,q,A,_,cap,_,_,hL.head,hc.keep fun k hk _=>⟨rfl,if_pos hk⟩,by rw[if_pos hp];exact hL.cols.1,fun k hk=>hk,fun k hk => ?_,by rw[hes],by have:=hL.evs.sl Qag;rwa [hes] at this,fun a ha=>by rw[if_pos (hL.evs.block ha).2];exact hL.cols.2.2.2 a ha⟩,h.may,h.rise,h.len⟩,fun k hk => ?_⟩
 . by_cases h1:k<w.heap.size
   . exact h1
   . exact absurd (if_neg h1) hk
 . by_cases h1:k<w.heap.size
   . simp only[if_pos h1] at hk;exact hL.low.2 k hk
   . exact absurd (if_neg h1) hk
theorem WQ.keep {w w1:World} {T:Nat->Prop} {p:Nat} {c:Cfg} {z:List Ev} {v:Value} (h:WQ w T p c z v) (hx:∀ k,T k->w1.heap[k]? = w.heap[k]?):WQ w1 T p c z v:=by
 obtain⟨⟨col,q,A,n,cap,any,last,hL⟩,h1,h2,h3⟩:=h;exact⟨⟨col,q,A,n,cap,any,last,(hx p (hL.tset p (by rw[hL.colp];decide))).trans hL.head,hL.cts.keep fun k hk hc=>⟨hx k (hL.tset k Om),rfl⟩,hL.colp,hL.tset,fun k hk=>Qkw (hL.tlt k hk) (hx k hk),hL.evs.1,Qa8 hL.evs.2.1 fun a ha=>hx _ (hL.tset _ (by rw[hL.evs.2.2 a ha];decide)),hL.evs.2.2⟩,h1,h2,h3⟩
theorem WQ.lt {w:World} {T:Nat->Prop} {p:Nat} {c:Cfg} {z:List Ev} {v:Value} (h:WQ w T p c z v):∀ k,T k->k<w.heap.size:=by
 obtain⟨⟨col,q,A,n,cap,any,last,hL⟩,h1,h2,h3⟩:=h;exact hL.tlt
theorem WQ.tp {w:World} {T:Nat->Prop} {p:Nat} {c:Cfg} {z:List Ev} {v:Value} (h:WQ w T p c z v):T p:=by
 obtain⟨⟨col,q,A,n,cap,any,last,hL⟩,h1,h2,h3⟩:=h;exact hL.tset p (by rw[hL.colp];decide)
theorem WQ.ext {w w1:World} {T:Nat->Prop} {p:Nat} {c:Cfg} {z:List Ev} {v:Value} (h:WQ w T p c z v) (hx:Ext w w1):WQ w1 T p c z v:=by
 exact h.keep fun k hk=>hx.block k (h.lt k hk)
theorem WQL.set {w w1:World} {T:Nat->Prop} {p:Nat} {c:Cfg} {z:List Ev} {v v1:Value} {col:Nat->Nat} {q:WP} {A:Option Addr} {n cap:Nat} {any:Bool} {last:Ev} (h:WQL w T p c z v col q A n cap any last) (ho:Only w w1 p) (hh:At w1 p 97 (wCv c A n cap any last q v1)):WQL w1 T p c z v1 col q A n cap any last :=
 ⟨hh,h.cts.keep fun k _ hk=>⟨ho.block k (fun e=>by have:=h.colp;rw[<- e] at this;omega),rfl⟩,h.colp,h.tset,fun k hk=>by rw[ho.size];exact h.tlt k hk,h.evs.1,Qa8 h.evs.2.1 fun a ha=>ho.block _ (fun e=>by have h1:=h.colp;have h2:=h.evs.2.2 a ha;rw[e] at h2;omega),h.evs.2.2⟩
theorem WQL.keep {w w1:World} {T:Nat->Prop} {p:Nat} {c:Cfg} {z:List Ev} {v:Value} {col:Nat->Nat} {q:WP} {A:Option Addr} {n cap:Nat} {any:Bool} {last:Ev} (h:WQL w T p c z v col q A n cap any last) (hx:∀ k,k<w.heap.size->w1.heap[k]? = w.heap[k]?):WQL w1 T p c z v col q A n cap any last :=
 ⟨(hx p h.head.lt).trans h.head,h.cts.keep fun k hk _=>⟨hx k hk,rfl⟩,h.colp,h.tset,fun k hk=>Qkw (h.tlt k hk) (hx k (h.tlt k hk)),h.evs.1,Qa8 h.evs.2.1 fun a ha=>hx _ (h.tlt _ (h.tset _ (by rw[h.evs.2.2 a ha];decide))),h.evs.2.2⟩
theorem WQ.rows {w:World} {T:Nat->Prop} {p:Nat} {c:Cfg} {z:List Ev} {v:Value} (h:WQ w T p c z v) {name:Bj}:(Qz (Ql z) name).length<1000000000000:=by
 have h1:=(X8 (Ql z) (fun e he=>h.may e ((Ze.1 he).1)) name).1;have h2:=Zc thB z;have h3:=h.len;unfold Ql at *;omega
theorem Xh {w:World} {T:Nat->Prop} {p:Nat} {c:Cfg} {z:List Ev} {v:Value} (h:WQ w T p c z v) :
 Cal Tryz.prog 13 [Pj p] w fun r w'=>∃ pc S,r = Pj pc/\Qgb w' S pc (Ql z)/\Ext w w':=by
 obtain⟨col,q,A,n,cap,any,last,hL⟩:=h.at_;have hc:=hL.cts.cat;rw[(Qbz c.width z).1] at hc;refine Fi Tryz.func13 rfl _ rfl rfl (Hh ?_);refine⟨_,hL.head.one rfl,Hh ?_⟩;exact⟨q.pc,_,rfl,hc,Ext.refl _⟩
theorem X6 {w:World} {T:Nat->Prop} {p:Nat} {c:Cfg} {z:List Ev} {v:Value} (h:WQ w T p c z v) :
 Cal Tryz.prog 41 [Pj p] w fun r w'=>∃ pw S,r = Pj pw/\X3 w' S pw (Xd c.half) (Qi c.width z).rs/\Ext w w':=by
 obtain⟨col,q,A,n,cap,any,last,hL⟩:=h.at_;have hc:=hL.cts.crowd;refine Fi Tryz.func41 rfl _ rfl rfl (Hh ?_);refine⟨_,hL.head.one rfl,Hh ?_⟩;exact⟨q.pw,_,rfl,hc,Ext.refl _⟩
theorem Qj1 {w:World} {T:Nat->Prop} {p:Nat} {c:Cfg} {z:List Ev} {v:Value} (h:WQ w T p c z v) :
 Cal Tryz.prog 150 [Pj p] w fun r w'=>∃ pd S,r = Pj pd/\Qpm w' S pd (Xd c.half) (Qi c.width z).dn (Qi c.width z).ds/\Ext w w':=by
 obtain⟨col,q,A,n,cap,any,last,hL⟩:=h.at_;have hc:=hL.cts.dec;refine Fi Tryz.func150 rfl _ rfl rfl (Hh ?_);refine⟨_,hL.head.one rfl,Hh ?_⟩;exact⟨q.pd,_,rfl,hc,Ext.refl _⟩
theorem Qov {w:World} {T:Nat->Prop} {p:Nat} {c:Cfg} {z:List Ev} {v:Value} (h:WQ w T p c z v) :
 Cal Tryz.prog 153 [Pj p] w fun r w'=>∃ pp S,r = Pj pp/\Qm5 w' S pp (Xd c.width) (Qi c.width z).pn (Qi c.width z).ps/\Ext w w':=by
 obtain⟨col,q,A,n,cap,any,last,hL⟩:=h.at_;have hc:=hL.cts.pane;refine Fi Tryz.func153 rfl _ rfl rfl (Hh ?_);refine⟨_,hL.head.one rfl,Hh ?_⟩;exact⟨q.pp,_,rfl,hc,Ext.refl _⟩
theorem Qbc {w:World} {T:Nat->Prop} {p:Nat} {c:Cfg} {z:List Ev} {v:Value} (h:WQ w T p c z v) :
 Cal Tryz.prog 49 [Pj p] w fun r w'=>r=Xec c/\Ext w w':=by
 obtain⟨col,q,A,n,cap,any,last,hL⟩:=h.at_;have hh:At w p 97 ([]++(Qrp c++(wCv c A n cap any last q v).drop 6)):=hL.head;refine Fi Tryz.func49 rfl _ rfl rfl (Hh ?_);intro b1 w1 hn1;refine Hh ?_;refine⟨Qrp c,⟨rfl,At.sub (hh.ext hn1.ext)⟩,Hh ?_⟩;refine Qc Qb (e:=ty25) rfl hn1.At rfl rfl rfl (by simp[Qg,Qrp,Value.oneCell']) fun w2 h2 ho2 => ?_
 have e1:=hn1.block;refine Hh ?_;refine⟨Qrp c,⟨rfl,h2.all⟩,Hh ?_⟩;exact⟨rfl,ho2.ext hn1.ext Om⟩
theorem Qsp (w:World):Cal Tryz.prog 283 [] w fun r w'=>∃ t b1 b2,r = Pj t/\w.heap.size<=t/\At w' t 395 [.map (some b1),.map (some b2)]/\MapAt w' b1 Value.string []/\MapAt w' b2 Value.string []/\Ext w w':=by
 refine Fi Tryz.func283 rfl _ rfl rfl (Hh ?_);intro b1 w1 hn1;refine Hh ?_;intro b2 w2 hn2;refine Hh ?_;intro b3 w3 hn3;refine Hh ?_;have e3:=hn3.block;have s1:=hn1.size;have s2:=hn2.size;exact⟨b3,b1,b2,rfl,Om,hn3.At,((MapAt.new hn1).ext hn2.ext).ext hn3.ext,(MapAt.new hn2).ext hn3.ext,(hn1.ext.trans hn2.ext).trans hn3.ext⟩
theorem Qs2 (w:World):Cal Tryz.prog 205 [] w fun r w'=>∃ p t b1 b2,r = Pj p/\w.heap.size<=p/\w.heap.size<=t/\At w' p 392 [Pj t,.bool false]/\At w' t 395 [.map (some b1),.map (some b2)]/\MapAt w' b1 Value.string []/\MapAt w' b2 Value.string []/\Ext w w':=by
 refine Fi Tryz.func205 rfl _ rfl rfl (Hh ?_);refine(Qsp w).mono ?_;rintro _ w1 ⟨t,b1,b2,rfl,ht,hat,hm1,hm2,hx1⟩;refine Hh ?_;intro b3 w3 hn3;refine Hh ?_;have e3:=hn3.block;have s1:=hx1.size;exact⟨b3,t,b1,b2,rfl,Om,ht,hn3.At,hat.ext hn3.ext,hm1.ext hn3.ext,hm2.ext hn3.ext,hx1.trans hn3.ext⟩
theorem Xit:Tryz.prog.underlying 153=some (.map 9 3):=by kernel_rfl
theorem Xgu:Tryz.prog.underlying 95=some (.pointer (Tryz.prog.pointee 95)):=by kernel_rfl
theorem Qym (w:World) (a o ta to_ b1 b2:Nat) (sa so:Bool) (hao:a≠o) (ha:At w a 392 [Pj ta,.bool sa]) (hta:At w ta 395 [.map (some b1),.map (some b2)]) (hm:MapAt w b1 Value.string []) (ho:At w o 392 [Pj to_,.bool so]) :
 Cal Tryz.prog 206 [Pj a,Pj o] w fun r w'=>r = .tuple #[]/\At w' a 392 [Pj to_,.bool true]/\At w' o 392 [Pj to_,.bool true]/\Mod (fun k=>k=a\/k=o) w w':=by
 refine Fi Tryz.func206 rfl _ rfl rfl (Hh ?_);refine⟨_,Qcd Xgu _ _ _,Hh ?_⟩;constructor
 . intro h;cases h
 intro _;refine Hh ?_;refine⟨_,ha.one rfl,Hh ?_⟩;refine⟨_,hta.one rfl,Hh ?_⟩;refine⟨_,Q8e Xit Qp hm,Hh ?_⟩;constructor
 . intro _;refine Hh ?_;refine⟨_,ho.one rfl,Hh ?_⟩;refine Qc Qb (e:=ty389) rfl ha rfl rfl rfl Oj fun w1 h1 ho1 => (Hh ?_)
   refine Qc Qb (e:=ty4) rfl h1 rfl rfl rfl Oj fun w2 h2 ho2 => (Hh ?_)
   have ho3:At w2 o 392 [Pj to_,.bool so]:=(ho2.block o (Ne.symm hao)).trans ((ho1.block o (Ne.symm hao)).trans ho);refine Qc Qb (e:=ty4) rfl ho3 rfl rfl rfl Oj fun w3 h3 ho3 => (Hh ?_)
   exact⟨rfl,(ho3.block a hao).trans h2,h3,((Qj ho1 (.inl rfl)).trans (Qj ho2 (.inl rfl))).trans (Qj ho3 (.inr rfl))⟩
 . intro h;simp at h
def Xe1 (w:World) (S:Nat->Prop) (b:Nat) (m:List (Bj×Int)):Prop:=S b/\MapAt w b Value.string (Xj vi m)
theorem Qaz:Local Xe1 where
 keep h hk:=⟨(hk _ h.2.lt h.1).2,h.2.keep (hk _ h.2.lt h.1).1⟩
 lt h:=⟨h.2.lt,h.1⟩
abbrev Qw9:=List (Bj×List (Bj×Int))
structure Q56 (w:World) (S:Nat->Prop) (t:Nat) (sg:List (Bj×Int)) (ct:Qw9) (b1 b2:Nat):Prop where
 mine:S t/\S b1/\b1≠t
 head:At w t 395 [.map (some b1),.map (some b2)]
 sg:MapAt w b1 Value.string (Xj vi sg)
 ct:MapOf Value.string Xe1 w (fun k=>S k/\k≠t/\k≠b1) b2 ct
def Q5t (sg:List (Bj×Int)) (ct:Qw9):Prop:=(∀ x∈sg,0<x.2)/\∀ y∈ct,∀ x∈y.2,0<x.2
theorem Q5t.sg_set {sg:List (Bj×Int)} {ct:Qw9} (h:Q5t sg ct) {a:Bj} {n:Int} (hn:0<n):Q5t (Xc sg a n) ct :=
 ⟨fun x hx=>(Qbp hx).elim (fun e=>by rw[e];exact hn) (h.1 x),h.2⟩
theorem Q5t.ct_set {sg:List (Bj×Int)} {ct:Qw9} (h:Q5t sg ct) {a b:Bj} {n:Int} (hn:0<n):Q5t sg (Xc ct a (Xc ((Qe ct a).getD []) b n)):=by
 refine⟨h.1,fun y hy x hx => ?_⟩;rcases Qbp hy with e | hy
 . rw[e] at hx;rcases Qbp hx with e2 | hx
   . rw[e2];exact hn
   . cases hq:Qe ct a with
     | none=>rw[hq] at hx;cases hx
     | some m=>rw[hq] at hx;exact h.2 (a,m) (Qbi hq) x hx
 . exact h.2 y hy x hx
structure TabIs (sg:List (Bj×Int)) (ct:Qw9) (Ss:List Sn):Prop where
 pos:Q5t sg ct
 sg:∀ a,(Qe sg a).getD 0=Qa0 Ss a
 ct:∀ a b,(Qe ((Qe ct a).getD []) b).getD 0=if a=b then 0 else(Qdt Ss a b:Int)
def TabAt (w:World) (S:Nat->Prop) (t:Nat) (Ss:List Sn):Prop:=∃ sg ct b1 b2,Q56 w S t sg ct b1 b2/\TabIs sg ct Ss
theorem Q56.keep {w w1:World} {S S':Nat->Prop} {t:Nat} {sg:List (Bj×Int)} {ct:Qw9} {b1 b2:Nat} (h:Q56 w S t sg ct b1 b2) (hk:∀ k,k<w.heap.size->S k->w1.heap[k]? = w.heap[k]? /\ S' k):Q56 w1 S' t sg ct b1 b2 :=
 ⟨⟨(hk t h.head.lt h.mine.1).2,(hk b1 h.sg.lt h.mine.2.1).2,h.mine.2.2⟩,(hk t h.head.lt h.mine.1).1.trans h.head,h.sg.keep (hk b1 h.sg.lt h.mine.2.1).1,
   h.ct.keep Qaz fun k h1 h2=>⟨(hk k h1 h2.1).1,(hk k h1 h2.1).2,h2.2⟩⟩
theorem TabAt.keep {w w1:World} {S S':Nat->Prop} {t:Nat} {Ss:List Sn} (h:TabAt w S t Ss) (hk:∀ k,k<w.heap.size->S k->w1.heap[k]? = w.heap[k]? /\ S' k):TabAt w1 S' t Ss:=by
 obtain⟨sg,ct,b1,b2,h1,h2⟩:=h;exact⟨sg,ct,b1,b2,h1.keep hk,h2⟩
theorem TabAt.ext {w w1:World} {S:Nat->Prop} {t:Nat} {Ss:List Sn} (h:TabAt w S t Ss) (hx:Ext w w1):TabAt w1 S t Ss:=h.keep fun k hk hs=>⟨hx.block k hk,hs⟩
def Qbu (w:World) (S:Nat->Prop) (p:Nat) (Ss:List Sn):Prop:=∃ t sh,At w p 392 [Pj t,.bool sh]/\TabAt w (fun k=>S k/\k≠p) t Ss/\S p
theorem Qbu.keep {w w1:World} {S S':Nat->Prop} {p:Nat} {Ss:List Sn} (h:Qbu w S p Ss) (hk:∀ k,k<w.heap.size->S k->w1.heap[k]? = w.heap[k]? /\ S' k):Qbu w1 S' p Ss:=by
 obtain⟨t,sh,h1,h2,h3⟩:=h;exact⟨t,sh,(hk p h1.lt h3).1.trans h1,h2.keep fun k a b=>⟨(hk k a b.1).1,(hk k a b.1).2,b.2⟩,(hk p h1.lt h3).2⟩
theorem Qbu.ext {w w1:World} {S:Nat->Prop} {p:Nat} {Ss:List Sn} (h:Qbu w S p Ss) (hx:Ext w w1):Qbu w1 S p Ss:=h.keep fun k hk hs=>⟨hx.block k hk,hs⟩
def Xjt (w:World) (T T0:Nat->Prop) (p:Nat) (c:Cfg) (z:List Ev) (v:Value):Prop :=
 v = .pointer none\/∃ o t sh,v = Pj o/\T o/\¬ T0 o/\At w o 392 [Pj t,.bool sh]/\TabAt w (fun k=>T k/\k≠o/\¬ T0 k) t (Qg0 c z)
def WT (w:World) (T:Nat->Prop) (p:Nat) (c:Cfg) (z:List Ev):Prop:=∃ v T0,WQ w T0 p c z v/\(∀ k,T0 k->T k)/\(∀ k,T k->k<w.heap.size)/\Xjt w T T0 p c z v
theorem WT.lt {w:World} {T:Nat->Prop} {p:Nat} {c:Cfg} {z:List Ev} (h:WT w T p c z):∀ k,T k->k<w.heap.size:=by
 obtain⟨v,T0,h1,h2,h3,h4⟩:=h;exact h3
theorem WT.keep {w w1:World} {T:Nat->Prop} {p:Nat} {c:Cfg} {z:List Ev} (h:WT w T p c z) (hx:∀ k,T k->w1.heap[k]? = w.heap[k]?):WT w1 T p c z:=by
 obtain⟨v,T0,h1,h2,h3,h4⟩:=h;refine⟨v,T0,h1.keep fun k hk=>hx k (h2 k hk),h2,fun k hk=>Qkw (h3 k hk) (hx k hk),?_⟩;rcases h4 with h4 | ⟨o,t,sh,h5,h6,h7,h8,h9⟩
 . exact .inl h4
 . exact .inr ⟨o,t,sh,h5,h6,h7,(hx o h6).trans h8,h9.keep fun k _ hk=>⟨hx k hk.1,hk⟩⟩
theorem WT.ext {w w1:World} {T:Nat->Prop} {p:Nat} {c:Cfg} {z:List Ev} (h:WT w T p c z) (hx:Ext w w1):WT w1 T p c z:=h.keep fun k hk=>hx.block k (h.lt k hk)
theorem WT.mod {w w1:World} {T S:Nat->Prop} {p:Nat} {c:Cfg} {z:List Ev} (h:WT w T p c z) (hx:Mod S w w1) (hs:∀ k,S k->¬ T k):WT w1 T p c z:=h.keep fun k hk=>hx.block k (h.lt k hk) fun h1=>hs k h1 hk
theorem WV.t {w:World} {base p:Nat} {c:Cfg} {z:List Ev} (h:WV w base p c z):∃ T,WT w T p c z/\∀ k,T k->base<=k:=by
 obtain⟨T,h1,h2⟩:=h.q;exact⟨T,⟨_,T,h1,fun _ hk=>hk,h1.lt,.inl rfl⟩,h2⟩
end Go.Proofs.YtpdonaienhociaaGreatDoor
namespace Go.Proofs.YtpdonaienhociaaGreatDoor
open Go.Se Go.RowKit Go.Sort
def Gr (w w':World):Prop:=∃ q os,w'=grow (w.drewN q) os
theorem Gr.trans {a b c:World} (h:Gr a b) (k:Gr b c):Gr a c:=by
 obtain⟨q,os,rfl⟩:=h;obtain⟨q',os',rfl⟩:=k;exact⟨q+q',os++os',by simp[grow,World.drewN,Nat.add_assoc,Array.append_assoc]⟩
theorem Gr.drew (w:World):Gr w w.drew:=⟨1,#[],by rw[grow_empty];rfl⟩
theorem Qae {w w1:World} {b:Nat} {o:Obj} (h:New w w1 b o):Gr w w1:=⟨0,#[o],by rw[h.world];unfold grow;rw[<- Array.push_eq_append];rfl⟩
theorem Gr.ext {w w':World} (h:Gr w w'):Ext w w':=by
 obtain⟨q,os,rfl⟩:=h;have h1:Ext w (w.drewN q):=⟨rfl,rfl,rfl,Zg _,fun _ _=>rfl⟩;exact h1.trans (Qdz _ os)
theorem Qb2 {P:Program} {cl:Cl} {w:World} {t e len:Nat} {cs:Array Value} {k:IntKind} {j:Nat} {v:Value} (ht:P.underlying t=some (.array len e)) (ha:∀ w,(isAgg e).run P w = .ok false w) (hz:∀ w,(Go.sizeOf e).run P w = .ok 1 w) (hj:j<len) (hv:cs[j]? = some v):RdS P cl w (Instr.index t (.agg cs) (.int k (j:Nat))) v:=fun w' _=>by
 have h1:(j:Int)<len:=Om;simp[Instr.index,asIntOf,run_underlying ht,hz,part,ha,hv,h1];intro h2;omega
end Go.Proofs.YtpdonaienhociaaGreatDoor
namespace Go.Proofs.YtpdonaienhociaaGreatDoor
open Go.Se Go.RowKit
theorem Qhf (a b:Int) (ha:a<4294967296) (hb:b<4294967296) (ha0:0<=a) (hb0:0<=b) (w:World):Cal Tryz.prog 303 [Vj a,Vj b] w fun r w'=>r = .tuple #[.int .u64 0,.int .u64 (a*b)]/\w'=w:=by
 refine Fi Tryz.func303 rfl _ rfl rfl (Hh ?_);constructor
 . intro hc;have hc:a<=0\/b<=0:=Su hc
   have h0:a*b=0:=by
    rcases hc with h | h
    . rw[show a=0 by omega];simp
    . rw[show b=0 by omega];simp
   refine Hh ?_;exact⟨by rw[h0],rfl⟩
 intro _;refine Hh ?_;refine⟨a,wrap_u64 ⟨Om,Om⟩,Hh ?_⟩;refine⟨b,wrap_u64 ⟨Om,Om⟩,Hh ?_⟩;have hs:∀ z:Int,0<=z->z<4294967296->(0:Int)=z.fdiv (2 ^ min (Int.toNat 32) IntKind.u64.bits):=fun z h0 h1=>(by rw[show min (Int.toNat 32) IntKind.u64.bits=32 from rfl,Zcm _ (by decide)];exact(Int.ediv_eq_zero_of_lt h0 (Su h1)).symm)
 have hd:∀ z:Int,0<=z->z<4294967296->z=IntKind.u64.wrap ((BitVec.ofInt IntKind.u64.bits z &&& BitVec.ofInt IntKind.u64.bits 4294967295).toNat:Nat):=fun z h0 h1=>(by have h2:(BitVec.ofInt IntKind.u64.bits z &&& BitVec.ofInt IntKind.u64.bits 4294967295).toNat=z.toNat:=(by rw[BitVec.toNat_and];simp only[IntKind.bits,BitVec.toNat_ofInt];rw[show ((4294967295:Int) % ((2 ^ 64:Nat):Int)).toNat=2 ^ 32-1 by decide,Nat.and_two_pow_sub_one_eq_mod];have:z % ((2 ^ 64:Nat):Int)=z:=Int.emod_eq_of_lt h0 Om;rw[this];exact Nat.mod_eq_of_lt Om);rw[h2,Int.toNat_of_nonneg h0];exact wrap_u64 ⟨h0,Om⟩)
 refine⟨0,⟨Om,hs a ha0 ha⟩,Hh ?_⟩;refine⟨a,hd a ha0 ha,Hh ?_⟩;refine⟨0,⟨Om,hs b hb0 hb⟩,Hh ?_⟩;refine⟨b,hd b hb0 hb,Hh ?_⟩;have hab0:0<=a*b:=Zcv ha0 hb0;have hab:a*b<=4294967295*4294967295:=Zbw Om Om hb0 Om;refine⟨0,wrap_u64 ⟨Om,Om⟩,Hh ?_⟩;refine⟨a*b,wrap_u64 ⟨Om,Om⟩,Hh ?_⟩;have z1:(0:Int)=IntKind.u64.wrap (0*b):=by rw[Int.zero_mul];decide
 have z2:(0:Int)=IntKind.u64.wrap (a*0):=by rw[Int.mul_zero];decide
 refine⟨0,z1,Hh ?_⟩;refine⟨0,z2,Hh ?_⟩;generalize a*b=ab at hab0 hab ⊢;refine Qh Qb (fun(k:Nat) w'=>k<=2/\w'=w) (fun k => [(4,.int .u64 0),(5,.int .u64 ab),(45,.agg #[.int .u64 0,.int .u64 0]),(46,Vj (k:Nat))]) (fun k=>2-k) 0 ⟨Zu _,rfl⟩ Rr ?_;rintro k _ ⟨hk,rfl⟩;refine Hh ?_;constructor
 . intro hlt;have hlt:k<2:=(by have:(k:Int)<2:=Su hlt;omega);refine Gg ?_;refine⟨.int .u64 0,Qb2 Tryz.underlying450 Tryz.isAgg30 Tryz.sizeOf30 hlt (by rcases k with _ | _ | k <;> first | rfl | omega),Hh ?_⟩;have z3:(0:Int)=IntKind.u64.wrap (0+0):=by decide
   have z4:ab=IntKind.u64.wrap (ab+0):=by rw[Int.add_zero];exact wrap_u64 ⟨Om,Om⟩
   refine⟨0,⟨Om,by decide⟩,Hh ?_⟩;refine⟨0,z3,Hh ?_⟩;refine⟨0,⟨Om,by decide⟩,Hh ?_⟩;refine⟨ab,z4,Gg ?_⟩;constructor
   . intro hc;simp at hc
   intro _;refine Hh ?_;refine⟨_,wrap_succ Om,Hh ?_⟩;exact⟨k+1,Om,⟨Om,rfl⟩,Rr⟩
 . intro hge;refine Hh ?_;exact⟨rfl,rfl⟩
def Qlv (r:Int×Int):List Value := [Vj r.1,Vj r.2]
def Qmt (r:Int×Int):Value := .agg (Qlv r).toArray
theorem Qj2 (r:Int×Int):∀ u∈Qlv r,u.oneCell'=true:=by simp[Qlv,Value.oneCell']
def Qpj (a b:Int×Int):Int:=if a.1*b.2<b.1*a.2 then -1 else if a.1*b.2=b.1*a.2 then 0 else 1
theorem Qq4 (a:Int×Int) (h:0<=a.1/\1<=a.2) (w:World):Cal Tryz.prog 302 [Qmt a] w fun r w'=>r = .bool true/\Gr w w':=by
 refine Fi Tryz.func302 rfl _ rfl rfl (Hh ?_);intro b1 w1 hn1;refine Hh ?_;have h1:At w1 b1 _ (Qlv a):=hn1.At;refine⟨Vj a.1,h1.one rfl,Hh ?_⟩;refine⟨Vj a.2,fun _=>h1.one rfl,Hh ?_⟩;exact⟨by simp[h.1,h.2],Qae hn1⟩
theorem Qd2 {N:Int} (hN:N<4294967296) (a b:Int×Int) (ha:Qki N a) (hb:Qki N b) (w:World):Cal Tryz.prog 225 [Qmt a,Qmt b] w fun r w'=>r = Vj (Qpj a b)/\Gr w w':=by
 obtain⟨a1,a2,a3,a4⟩:=ha;obtain⟨b1',b2',b3,b4⟩:=hb;refine Fi Tryz.func225 rfl _ rfl rfl (Hh ?_);intro b1 w1 hn1;refine Hh ?_;intro b2 w2 hn2;have h1:At w2 b1 _ (Qlv a):=hn1.At.ext hn2.ext;have h2:At w2 b2 _ (Qlv b):=hn2.At;have hg2:=(Qae hn1).trans (Qae hn2);refine Gg ?_;refine⟨Qlv a,⟨rfl,h1.all⟩,Hh ?_⟩;refine(Qq4 a ⟨a1,a3⟩ w2).mono ?_;rintro _ w3 ⟨rfl,hg3⟩;replace h1:=h1.ext hg3.ext;replace h2:=h2.ext hg3.ext;replace hg2:=hg2.trans hg3;refine Hh ?_;refine⟨fun h=>(by simp at h),fun _ => ?_⟩;refine Gg ?_;refine⟨Qlv b,⟨rfl,h2.all⟩,Hh ?_⟩;refine(Qq4 b ⟨b1',b3⟩ w3).mono ?_;rintro _ w4 ⟨rfl,hg4⟩;replace h1:=h1.ext hg4.ext;replace h2:=h2.ext hg4.ext;replace hg2:=hg2.trans hg4;refine Hh ?_;refine⟨fun h=>(by simp at h),fun _ => ?_⟩;refine Hh ?_;refine⟨Vj a.1,h1.one rfl,Hh ?_⟩;refine⟨Vj b.2,h2.one rfl,Hh ?_⟩;refine(Qhf a.1 b.2 Om Om a1 Om w4).mono ?_;rintro _ _ ⟨rfl,rfl⟩;refine Hh ?_;refine⟨Vj b.1,h2.one rfl,Hh ?_⟩;refine⟨Vj a.2,h1.one rfl,Hh ?_⟩;refine(Qhf b.1 a.2 Om Om b1' Om _).mono ?_;rintro _ _ ⟨rfl,rfl⟩;unfold Qpj;generalize a.1*b.2=x;generalize b.1*a.2=y;refine Hh ?_;constructor
 . intro hc;have hc:x<y:=Su hc;refine Hh ?_;exact⟨by rw[if_pos hc],hg2⟩
 intro hc;have hc:¬ x<y:=Su hc;refine Hh ?_;constructor
 . intro he;have he:x=y:=Su he;refine Hh ?_;exact⟨by rw[if_neg hc,if_pos he],hg2⟩
 intro he;have he:¬ x=y:=Su he;refine Hh ?_;exact⟨by rw[if_neg hc,if_neg he],hg2⟩
theorem Q22 (lo y:Int) (hl:0<=lo/\lo<=18446744073709551615) (hy:1<=y/\y<=18446744073709551615) (w:World):Cal Tryz.prog 316 [.int .u64 0,.int .u64 lo,.int .u64 y] w fun r w'=>r = .tuple #[.int .u64 (lo/y),.int .u64 (lo % y)]/\Ext w w':=by
 have hq0:0<=lo/y:=Zc5 hl.1 Om;have hq1:lo/y<=lo:=Zcq _ hl.1;have hq:lo/y=IntKind.u64.wrap (lo.tdiv y):=by rw[Zcn hl.1];exact wrap_u64 ⟨hq0,Om⟩
 have hr:lo % y=lo.tmod y:=(Za6 hl.1).symm;refine Fi Tryz.func316 rfl _ rfl rfl (Hh ?_)
 repeat(refine Sg ?_;(conv=>whnf))
 constructor
 . intro hc;have hc:y=0:=Su hc;omega
 intro _;refine Hh ?_
 repeat(refine Sg ?_;(conv=>whnf))
 constructor
 . intro hc;have hc:y<=0:=Su hc;omega
 intro _;refine Hh ?_;constructor
 . intro _;refine Hh ?_;refine Dr .same [0,1,2,3,4,5,6,7] [] (Hh ?_);refine⟨lo/y,⟨Om,hq⟩,Hh ?_⟩;refine⟨lo % y,⟨Om,hr⟩,Hh ?_⟩;exact⟨rfl,(Ext.refl _).drew⟩
 . intro hc;simp at hc
theorem Qq6 {N:Int} (hN:N<4294967296) (x:Int) (hx:0<=x/\x<=1048576) (r:Int×Int) (hr:Qki N r) (w:World):Cal Tryz.prog 247 [Vj x,Vj r.1,Vj r.2] w fun v w'=>v = .tuple #[Vj (x*r.1/r.2),.bool true]/\Ext w w':=by
 obtain⟨r1,r2,r3,r4⟩:=hr;have hp0:0<=x*r.1:=Zcv hx.1 r1;have hp1:x*r.1<=1048576*4294967295:=Zbw hx.2 Om r1 Om;have hq0:0<=x*r.1/r.2:=Zc5 hp0 Om;have hq1:x*r.1/r.2<=x*r.1:=Zcq _ hp0;refine Fi Tryz.func247 rfl _ rfl rfl (Hh ?_);constructor
 . intro hc;exfalso;simp at hc;omega
 intro _;refine Hh ?_;refine(Qhf x r.1 Om Om hx.1 r1 w).mono ?_;rintro _ _ ⟨rfl,rfl⟩;refine Hh ?_;refine⟨r.2,wrap_u64 ⟨Om,Om⟩,Hh ?_⟩;constructor
 . intro hc;have hc:r.2<=0:=Su hc;omega
 intro _;refine Hh ?_;refine(Q22 (x*r.1) r.2 ⟨hp0,Om⟩ ⟨r3,Om⟩ _).mono ?_;rintro _ wd ⟨rfl,hxd⟩;refine Hh ?_;generalize x*r.1/r.2=q at hq0 hq1 ⊢;constructor
 . intro hc;have hc:9223372036854775807<q:=Su hc;omega
 intro _;refine Hh ?_;refine⟨q,wrap_eq rfl ⟨Om,Om⟩,Hh ?_⟩;exact⟨rfl,hxd⟩
theorem Qo5 {l vs:List Value} {off:Nat} (h:off+vs.length<=l.length) (i:Nat):(spl l off vs)[i]? = if i<off then l[i]? else if i<off+vs.length then vs[i-off]? else l[i]? := by
 unfold spl;have h1:(l.take off).length=off:=by simp;omega
 by_cases hi:i<off
 . rw[if_pos hi,Zaa,Zz Om,Zby,if_pos hi]
 . rw[if_neg hi]
   by_cases h2:i<off+vs.length
   . rw[if_pos h2,Zz (by simp;omega),Z5 Om,h1]
   . rw[if_neg h2,Z5 (by simp;omega),Zbz];congr 1;simp;omega
theorem Xaf {l vs:List Value} {off:Nat} (h:off+vs.length<=l.length):(spl l off vs).length=l.length:=by
 unfold spl;simp;omega
section
variable {α:Type} {enc:α->List Value} {sz:Nat} {te:TypeId} {base:Nat} {w w':World} {A:Option Addr} {c:Nat} {l:List α}
theorem Q3d (hsz:∀ x,(enc x).length=sz) {k f:Nat} (hk:k<l.length) {vs:List Value} (hf:f+vs.length<=sz) (x:α) (hx:enc x=spl (enc l[k]) f vs):(l.set k x).flatMap enc=spl (l.flatMap enc) (k*sz+f) vs:=by
 have hfl:(l.flatMap enc).length=l.length*sz:=Qgg hsz l;have hle:k*sz+sz<=l.length*sz:=(by have:=Zb1 sz (show k+1<=l.length from hk);rw[Zbv] at this;exact this);rw[Q0s hsz hk,hx];have hlk:(spl (enc l[k]) f vs).length=sz:=by rw[Xaf (by rw[hsz];exact hf),hsz]
 have hel:∀ j,j<sz->(l.flatMap enc)[k*sz+j]? = (enc l[k])[j]? := by
  intro j hj;have h1:(l.drop k).flatMap enc=(l.flatMap enc).drop (k*sz):=Qnv hsz l k;rw[Zak hk,Zat] at h1;have h2:=congrArg (·[j]?) h1;simp only[Zbz] at h2;rw[<- h2,Zz (by rw[hsz];exact hj)]
 apply Zb3;intro i;rw[Qo5 (l:=l.flatMap enc) (vs:=spl (enc l[k]) f vs) (off:=k*sz) (by rw[hlk];omega),Qo5 (l:=l.flatMap enc) (vs:=vs) (off:=k*sz+f) Om,hlk]
 by_cases h1:i<k*sz
 . rw[if_pos h1,if_pos Om]
 rw[if_neg h1]
 by_cases h2:i<k*sz+sz
 . rw[if_pos h2,Qo5 (by rw[hsz];exact hf)];have hi:=hel (i-k*sz) Om;rw[show k*sz+(i-k*sz)=i by omega] at hi
   by_cases h3:i-k*sz<f
   . rw[if_pos h3,if_pos (show i<k*sz+f by omega),hi]
   . rw[if_neg h3,if_neg (show ¬ i<k*sz+f by omega)]
     by_cases h4:i-k*sz<f+vs.length
     . rw[if_pos h4,if_pos (show i<k*sz+f+vs.length by omega)];congr 1;omega
     . rw[if_neg h4,if_neg (show ¬ i<k*sz+f+vs.length by omega),hi]
 . rw[if_neg h2,if_neg (show ¬ i<k*sz+f by omega),if_neg (show ¬ i<k*sz+f+vs.length by omega)]
theorem Qo9 {P:Program} {T:Tab} (hT:Qbe P T) {t:TypeId} {e:TyE} (ht:Qif T t=some e) (hsz:∀ x,(enc x).length=sz) {v:Value} (hv:(Qg v).length=e.size) (hone:∀ u∈Qg v,u.oneCell'=true)
 {k f:Nat} (hk:k<l.length) (hf:f+e.size<=sz) (x:α) (hx:enc x=spl (enc l[k]) f (Qg v)) {a b:Addr} (hb:b=a.add (k*sz+f)) (hown:Own enc sz te base w (some a) c l) {R:Value->World->Prop}
 (h:∀ w',Own enc sz te base w' (some a) c (l.set k x)->Only w w' a.block->R undef w'):Qxc P (Instr.storeAt t (.pointer (some b)) v) w R:=by
 subst hb;have hl:=hown.1;rcases hown.2 with⟨hv',h0⟩ | ⟨g,cap,cur,hv',hb,hg,h1,h2,h3,h4⟩
 . omega
 . have hA:a=⟨g,0,none⟩:=by injection hv' with h _ _;injection h
   have hc:c=cap:=by injection hv'
   subst hA hc;rw[Q8];have hle:k*sz+sz<=l.length*sz:=(by have:=Zb1 sz (show k+1<=l.length from hk);rw[Zbv] at this;exact this);have hle2:l.length*sz<=c*sz:=Zb1 sz h1;have hcl:cur.toList.length=c*sz:=Su h3;have hat:At w g te cur.toList:=by unfold At;rw[hg]
   refine Qh2 hT ht hat hv (by simp;omega) hone fun w1 hw1 hon=>h w1 ?_ hon
   refine⟨by rw[Qgg hsz],.inr ⟨g,c,_,by rw[Zbq],hb,hw1,by rw[Zbq];exact h1,h2,?_,?_⟩⟩
   . simp only[Zbf];rw[Xaf Om];exact hcl
   . rw[Q3d hsz hk Om x hx,<- h4,Zbq];apply Zb3;intro i;simp only[List.toList_toArray];rw[Zby,Qo5 Om,Qo5 (by simp;omega)];simp only[Zby]
     by_cases hi:i<l.length*sz
     . rw[if_pos hi];simp[hi]
     . rw[if_neg hi,if_neg Om,if_neg Om,if_neg hi]
end
end Go.Proofs.YtpdonaienhociaaGreatDoor
namespace Go.Proofs.YtpdonaienhociaaGreatDoor
open Go.Se Go.RowKit Go.Sort Go.Shelf
theorem Qfj (w:World) (blk k:Nat) (f:Array Value->Array Value) (h:k≠blk):(mapBlock w blk f).heap[k]? = w.heap[k]? := by
 unfold mapBlock;simp[Zb7,Ne.symm h]
theorem Qhq {a b c:Bj} (h:bLt a b=false) (k:bLt b c=false):bLt a c=false:=by
 cases hc:bLt a c with
 | false=>rfl
 | true =>
   cases hcb:bLt c b with
   | true=>rw[Qbv hc hcb] at h;cases h
   | false =>
     have:=Qbw k hcb;subst this;rw[hc] at h;cases h
theorem Qey (g n:Nat):(⟨g,0,none⟩:Addr).add n=⟨g,n,none⟩:=by
 simp only[Addr.add];split
 . next h=>rw[h]
 . simp
section
variable {P:Program} {ρ:Ren} {α:Type} [Inhabited α]
theorem Qf7 (S:SlLaysF0.n6 P ρ) {enc:α->List Value} {sz:Nat} (hsz0:0<sz) (aE:∀ w,(isAgg (ρ.t 24)).run P w = .ok true w) (zE:∀ w,(Go.sizeOf (ρ.t 24)).run P w = .ok sz w) (hlen:∀ x,(enc x).length=sz) (hone:∀ x,∀ u∈enc x,u.oneCell'=true) (cmp:α->α->Int) (hswo:Go.Sort.SWO (ltOf cmp))
 (hok:Qtv P (ρ.f 6)) {f:Nat} {cb:Array Value} (eg:∀ args w,(callFunc f args).run P w = .ok (.enter f args) w) (l:List α) (A:Option Addr) (c base:Nat) (w:World) (hown:Own enc sz (ρ.t 24) base w A c l) (hl:l.length<1000000)
 (hcl:∀ x y w',(∀ k,(∀ a,A=some a->k≠a.block)->k<w.heap.size->w'.heap[k]? = w.heap[k]?)->Cal P f ([.agg (enc x).toArray,.agg (enc y).toArray]++cb.toList) w' fun r w''=>r = Vj (cmp x y)/\Gr w' w'') :
 Cal P (ρ.f 6) [.slice A l.length c,.func (.func f) #[] cb] w fun r w'=>r = .tuple #[]/\∃ F,F.Perm l/\Srt (ltOf cmp) F/\Sl enc sz w' A F/\∀ w0,Ext w0 w->w0.heap.size<=base->Ext w0 w':=by
 by_cases h0:l = []
 . subst h0;refine Qa9 hok (AnyF.slices_SortFunc_none S A c _ w) ?_;rintro w' rfl;exact⟨rfl,[],Za1 _,Srt.nil,Sl.nil,fun w0 h _=>h⟩
 . have hsl:=hown.sl hlen;have hpos:0<l.length:=Zac.2 h0;rcases hown.2 with⟨_,h1⟩ | ⟨g,cap,cur,hv,hb,hg,hc1,hc2,hc3,hc4⟩
   . omega
   injection hv with hA _ hcc;subst hA;subst hcc
   have hH:HoldsK enc sz w g 0 l.toArray:=by
    intro t ht;have ht':t<l.length*sz:=Su ht;have hi:t/sz<l.length:=Nat.div_lt_of_lt_mul (by rw[Nat.mul_comm];exact ht');obtain⟨a,ha,hca⟩:=hsl.get hi;have ha':a=⟨g,0,none⟩:=Su ha.symm;have hm:t % sz<sz:=Nat.mod_lt _ hsz0;have hcell:=hca (t % sz) ((enc l[t/sz])[t % sz]'(by rw[hlen];exact hm)) (Zd _);have hdm:t/sz*sz+t % sz=t:=by rw[Nat.mul_comm];exact Nat.div_add_mod t sz
    rw[ha',Xf,Qey,hdm] at hcell;refine⟨?_,by unfold World.frozen?;rw[hg];simp⟩;rw[Zbg,get_flatK _ _ _ _ (Su ht')];rw[hcell];simp[hi];rw[Zd (by rw[hlen];exact hm)];rfl
   have hbl:g<w.heap.size:=lt_of_block hg
   have hcmp:CmpLays P f cb enc sz cmp g 0 l.toArray.size w:=by
    intro m os dk _ x y
    have hkeep:∀ k,(∀ a,some (⟨g,0,none⟩:Addr)=some a->k≠a.block)->k<w.heap.size->(sortWorldK enc sz w g 0 m dk os).heap[k]? = w.heap[k]? := by
     intro k hk hk2;have hkg:k≠g:=hk ⟨g,0,none⟩ rfl;have h1:(putRowK enc sz (Go.Sort.ahead w m) g 0 dk).heap[k]? = (Go.Sort.ahead w m).heap[k]? := Qfj _ _ _ _ hkg
     have hsz1:w.heap.size=(putRowK enc sz (Go.Sort.ahead w m) g 0 dk).heap.size:=by
      show w.heap.size=((Go.Sort.ahead w m).heap.modify g _).size
      rw[Zcf];rfl
     have h2:=(Qdz (putRowK enc sz (Go.Sort.ahead w m) g 0 dk) os).block k Om;unfold sortWorldK;rw[h2,h1];rfl
    have:=(hcl x y (sortWorldK enc sz w g 0 m dk os) hkeep).2;have e1:([Value.agg (enc x).toArray,Value.agg (enc y).toArray]++cb.toList).toArray = #[Value.agg (enc x).toArray,Value.agg (enc y).toArray]++cb:=by simp
    rw[e1] at this;refine this.mono ?_;rintro e w' ⟨v,he,hv,q,os',hw⟩;exact⟨by rw[he,hv],q,os',hw⟩
   have hcall:=AnyQ.slices_SortFunc S sz aE zE enc hlen hone cmp hswo f cb g 0 c l.toArray w eg hcmp hH hbl (by simp;omega);rw[Zbf] at hcall;refine Qa9 hok hcall ?_;rintro w' ⟨d',n,os,hp,hs,rfl⟩;have hsz:d'.size=l.length:=Su hp.1
   have hperm:d'.toList.Perm l:=by
    have:=hp.2.2;have e1:d'.extract 0 l.length=d':=by rw[<- hsz];exact Array.extract_size
    have e2:l.toArray.extract 0 l.length=l.toArray:=by simp
    rw[e1,e2] at this;simpa using this
   have hH2:HoldsK enc sz (sortWorldK enc sz w g 0 n d' os) g 0 d':=by
    unfold sortWorldK;refine holdsK_grow _ _ _ _ _ _ _ ?_ (holdsK_putRowK _ _ _ _ _ l.toArray d' (holdsK_ahead _ _ _ _ _ _ _ hH) (Su hsz));show g<((Go.Sort.ahead w n).heap.modify g _).size
    rw[Zcf];exact hbl
   refine⟨rfl,d'.toList,hperm,?_,?_,?_⟩
   . unfold Srt;rw[Zau];intro i j hi hj hij;have hi':i<d'.size:=Su hi;have hj':j<d'.size:=Su hj;have:=hs i j (Zu _) hij Om;rw[getElem!_pos d' i hi',getElem!_pos d' j hj'] at this;simpa using this
   . intro i x hi;have hlt:i<d'.size:=by have:=(Zi.1 hi).1;simpa using this
     refine⟨_,rfl,fun j v hj => ?_⟩;have hjl:j<sz:=by rw[<- hlen x];exact(Zi.1 hj).1
     have:=(hH2.cell hlt hjl).1;rw[Xf,Qey];rw[Zbg] at this;rw[this];have hx:d'[i]! = x:=by rw[getElem!_pos d' i hlt];have:=Zi.1 hi;simpa using this.2
     rw[hx,getElem!_pos _ _ (by rw[hlen];exact hjl)];rw[Zd (by rw[hlen];exact hjl)] at hj;exact hj
   . intro w0 h0 hb0
     have hx1:Ext w0 (putRowK enc sz (Go.Sort.ahead w n) g 0 d'):=by
      refine⟨h0.os,h0.tape,h0.output,?_,fun k hk => ?_⟩
      . show w0.heap.size<=((Go.Sort.ahead w n).heap.modify g _).size
        rw[Zcf];exact h0.size
      . have:(putRowK enc sz (Go.Sort.ahead w n) g 0 d').heap[k]? = (Go.Sort.ahead w n).heap[k]? := Qfj _ _ _ _ Om;rw[this];exact h0.block k hk
     exact hx1.trans (Qdz _ os)
end
end Go.Proofs.YtpdonaienhociaaGreatDoor
namespace Go.Proofs.YtpdonaienhociaaGreatDoor
open Go.Se Go.RowKit
abbrev Pt:=Int×Int×Int
def ptC (x:Pt):List Value := [Vj x.1,Vj x.2.1,Vj x.2.2]
theorem Qs4 (x:Pt):(ptC x).length=3:=rfl
theorem Q85 (x:Pt):∀ u∈ptC x,u.oneCell'=true:=by simp[ptC,Value.oneCell']
theorem Q4n:Ql9 Tryz.prog 64 146 ptC 3 24:=⟨by kernel_rfl,⟨_,ty146_ok,rfl,rfl⟩,by146,by decide,by decide,Qs4,Q85⟩
