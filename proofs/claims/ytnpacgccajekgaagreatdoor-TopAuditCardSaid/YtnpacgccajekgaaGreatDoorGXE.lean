import Derived.Test.YtnpacgccajekgaaGreatDoorGXD
set_option linter.all false
namespace Go.Proofs.YtnpacgccajekgaaGreatDoor
open Go.Se Go.RowKit
def Qka(rs:List Row)(item:Bj):Int:=(Qe (Xk rs).fans item).getD 0
theorem Xmg:Tryz.prog.underlying 125=some (.map 9 3):=by kernel_rfl
theorem Qwj(w S p half rs)(h:X7 w S p half rs)(item:Bj) :
 Cal Tryz.prog 78 [Pj p,.string item] w fun r w'=>r=Vj (Qka rs item)/\w'=w:=by
 obtain⟨f,b,D,L,c,d,h⟩:=h;have a:=X5 Xmg (Qr Xd) (e:=ty3) ty3_ok (cl:= .same) Qs h.maps.fans item;have a:RdS Tryz.prog .same w (Instr.lookup 125 (.map (some b.fans)) (.string item) false) (Vj (Qka rs item)):=(by rw[show ty3.zero=vi 0 from rfl,Xt]at a;exact a);refine Fi Tryz.func78 rfl _ rfl rfl (Hh ?_);refine⟨.map (some b.fans),h.head.one rfl,Hh ?_⟩;refine⟨_,a,Hh ?_⟩;exact⟨rfl,rfl⟩
def Q9d(c:Cfg)(z:List Ev)(item:Bj):Int:=if c.crowd<=Qka (Qi c.width z).rs item then Qka (Qi c.width z).rs item else 0
set_option maxHeartbeats 4000000 in
theorem Quh{w T p c z}(az:WT w T p c z)(bb:Qqm c z)(ag:Gl w)(ae:∀k,T k->10<=k)(a)(person item:Bj)(now) :
 Cal Tryz.prog 33 [Pj p,.agg (wsC a).toArray,.string person,.string item,Vj now] w fun r w'=>∃K au L av M,r=.agg (rsC item K 6 au (Qqq (Qvc (Xbu c z person item now) a 6)) L (Xd5 c z person item now).length av (Q9d c z item)).toArray/\Own ptC 3 234 w.heap.size w' K au (Qvc (Xbu c z person item now) a 6)/\Own evC 8 69 w.heap.size w' L av (Xd5 c z person item now)/\(∀x y,K=some x->L=some y->x.block≠y.block)/\(∀x,K=some x->¬M x.block)/\(∀x,L=some x->¬M x.block)/\WT w' M p c z/\(∀k,M k->T k\/w.heap.size<=k)/\Mod T w w':=by
 have b1:=ag.size;have R:=az.lt;refine Fi Tryz.func33 rfl _ rfl rfl (Hh ?_);intro b6 bt H;refine Gg ?_;have v:At bt b6 28 (wsC a):=H.At;intro i bj D;refine Gg ?_;have j:At bj i 105 (rsC ⟨#[]⟩ none 0 0 0 none 0 0 0):=D.At;replace v:=v.ext D.ext;have Y:=H.ext.trans D.ext;have bx:=H.block;have bz:=D.block;have b4:=H.size;have b5:=D.size;clear H D;refine(Xfu (az.ext Y) bb (ag.ext Y) ae person item now).mono ?_;rintro _ ao ⟨f,l,rfl,I,B,aa,a0,E,ax⟩;generalize Xd5 c z person item now=O at I⊢;have b7:=B.size;have bm:=a0.lt;replace v:=v.mod B fun h=>by have:=R _ h;omega
 replace j:=j.mod B fun h=>by have:=R _ h;omega
 have bp:Gl ao:=(ag.ext Y).mod B ae;refine Gg ?_;intro n cc V;refine Gg ?_;refine Qc Qb (e:=ty105) rfl V.At rfl rfl rfl Oj fun w5 d a9=>?_
 have d:At w5 n 105 (rsC item none 0 0 0 f O.length l 0):=d;have b0:=V.block;have s:Ext ao w5:=a9.ext V.ext Om;have b8:=s.size;have b2:=d.lt;clear a9 V;replace v:=v.ext s;replace j:=j.ext s;have bh:¬aa n:=fun h=>by have:=bm _ h;omega
 have b3:¬aa b6:=fun h=>by
  rcases E _ h with h|h
  .have:=R _ h;omega
  .omega
 have bg:¬aa i:=fun h=>by
  rcases E _ h with h|h
  .have:=R _ h;omega
  .omega
 refine Gg ?_;refine⟨wsC a,⟨rfl,v.all⟩,Gg ?_⟩;refine(Qxs (a0.ext s) bb (bp.ext s) (fun b bo=>(E b bo).elim (ae b) fun h=>Om) a person item now).mono ?_;rintro _ aq ⟨g,m,o,rfl,W,a3,P,bk,C⟩;generalize Qvc (Xbu c z person item now) a 6=Q at W⊢;have bl:Mod (fun k=>T k\/w.heap.size<=k) w aq:=((Mod.of_ext Y).trans (B.mono fun k _ h=>.inl h)).trans ((Mod.of_ext s).trans (C.mono fun k _ h=>(E k h).imp id fun h=>Om));replace j:=j.mod C bg;replace d:=d.mod C bh;have b9:=C.size;have bs:¬o n:=fun h=>(P _ h).elim bh fun h=>Om
 have br:¬o i:=fun h=>(P _ h).elim bg fun h=>Om
 have bd:=(I.ext s).keep fun x hx=>C.block x.block ((I.ext s).block hx).2 (ax x hx)
 have af:∀x,f=some x->bj.heap.size<=x.block/\x.block<ao.heap.size:=fun x hx=>I.block hx
 have a4:∀x,g=some x->w5.heap.size<=x.block:=fun x hx=>(W.block hx).1
 clear I B C;refine Gg ?_;refine Qc Qb (e:=ty103) (off:=1) rfl d rfl rfl rfl Oj fun bu d aj=>?_
 have d:At bu n 105 (rsC item g 6 m 0 f O.length l 0):=d;refine Gg ?_;refine Qc Qb (e:=ty2) (off:=2) rfl d rfl rfl rfl Oj fun ar d ak=>?_
 have d:At ar n 105 (rsC item g 6 m (Qqq Q) f O.length l 0):=d;have ab:Mod (fun k=>k=n\/k=i) aq ar:=(Qj aj (.inl rfl)).trans (Qj ak (.inl rfl));have ah:i≠n:=Om;replace j:At ar i 105 _:=(ak.block i ah).trans ((aj.block i ah).trans j);clear aj ak;have a7:∀k,(k=n\/k=i)->¬o k:=fun k U=>U.elim (fun e=>by rw[e];exact bs) (fun e=>by rw[e];exact br)
 obtain⟨ca,bw,ac,_⟩:=id (a3.mod ab a7)
 have aw:∀w',Mod (fun k=>k=n\/k=i) aq w'->Own ptC 3 234 w.heap.size w' g m Q/\Own evC 8 69 w.heap.size w' f l O/\(∀x y,g=some x->f=some y->x.block≠y.block)/\(∀x,g=some x->¬o x.block)/\(∀x,f=some x->¬o x.block)/\WT w' o p c z/\(∀k,o k->T k\/w.heap.size<=k)/\Mod T w w':=fun w' N=>by
  refine⟨(W.base Om).keep fun x hx=>?_,(bd.base Om).keep fun x hx=>?_,fun x y hx bq e=>?_,bk,fun x hx h=>?_,a3.mod N a7,fun k U=>?_,?_⟩
  .exact N.block x.block (W.block hx).2 fun e=>by have:=a4 x hx;omega
  .exact N.block x.block (bd.block hx).2 fun e=>by have:=af x hx;omega
  .have:=a4 x hx;have:=af y bq;omega
  .rcases P _ h with h|h
   .exact ax x hx h
   .have:=af x hx;omega
  .rcases P _ U with h|h
   .exact(E k h).imp id fun h=>Om
   .right;omega
  .exact(bl.trans (N.mono fun k _ h=>.inr Om)).mono fun k U h=>h.resolve_right Om
 refine Gg ?_;refine(Qad ac).mono ?_;rintro _ bv ⟨pw,S,rfl,a5,an⟩;refine Gg ?_;refine(Qwj bv S pw _ _ a5 item).mono ?_;rintro _ cd ⟨rfl,al⟩;replace al:=al.symm;subst al;unfold Q9d;generalize Qka (Qi c.width z).rs item=F;refine Gg ?_;refine(Qbi (ac.ext an)).mono ?_;rintro _ cb ⟨rfl,be⟩;refine Gg ?_;have Z:=an.trans be;replace j:=j.ext Z;replace d:=d.ext Z;have ay:=ab.trans (Mod.of_ext Z);clear ab a5 ac an be Z;constructor
 .intro A;have A:c.crowd<=F:=Su A;rw[if_pos A];refine Gg ?_;refine Qc Qb (e:=ty3) (off:=4) rfl d rfl rfl rfl Oj fun bi d a8=>?_
  have d:At bi n 105 (rsC item g 6 m (Qqq Q) f O.length l F):=d;replace j:At bi i 105 _:=(a8.block i ah).trans j;refine Gg ?_;refine⟨rsC item g 6 m (Qqq Q) f O.length l F,⟨rfl,d.all⟩,Gg ?_⟩;refine Qc Qb (e:=ty105) rfl j rfl rfl rfl (by simp[Qg,rsC,Value.oneCell']) fun J u ai=>?_
  have u:At J i 105 (rsC item g 6 m (Qqq Q) f O.length l F):=u;refine Gg ?_;refine⟨rsC item g 6 m (Qqq Q) f O.length l F,⟨rfl,u.all⟩,Gg ?_⟩;exact⟨g,m,f,l,o,rfl,aw J (ay.trans ((Qj a8 (.inl rfl)).trans (Qj ai (.inr rfl))))⟩
 .intro A;have A:¬c.crowd<=F:=Su A;rw[if_neg A];refine Gg ?_;refine⟨rsC item g 6 m (Qqq Q) f O.length l 0,⟨rfl,d.all⟩,Gg ?_⟩;refine Qc Qb (e:=ty105) rfl j rfl rfl rfl (by simp[Qg,rsC,Value.oneCell']) fun J u ai=>?_
  have u:At J i 105 (rsC item g 6 m (Qqq Q) f O.length l 0):=u;refine Gg ?_;refine⟨rsC item g 6 m (Qqq Q) f O.length l 0,⟨rfl,u.all⟩,Gg ?_⟩;exact⟨g,m,f,l,o,rfl,aw J (ay.trans (Qj ai (.inr rfl)))⟩
