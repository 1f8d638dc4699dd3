import Derived.Test.YtpdonaienhociaaGreatDoorGXD
import Derived.Test.YtpdonaienhociaaGreatDoorGT
set_option linter.all false
namespace Go.Proofs.YtpdonaienhociaaGreatDoor
open Go.Se Go.RowKit
def Qjk (rs:List Row) (item:Bj):Int:=(Qe (Xk rs).fans item).getD 0
theorem Xis:Tryz.prog.underlying 153=some (.map 9 3):=by kernel_rfl
theorem Qu2 (w:World) (S:Nat->Prop) (p:Nat) (half:Int) (rs:List Row) (h:X3 w S p half rs) (item:Bj) :
 Cal Tryz.prog 86 [Pj p,.string item] w fun r w'=>r = Vj (Qjk rs item)/\w'=w:=by
 obtain⟨bp,b,D,L,R,Tg,h⟩:=h;have hl:=Xz Xis (Qo Xb) (e:=ty3) ty3_ok (cl := .same) Qp h.maps.fans item;have hl:RdS Tryz.prog .same w (Instr.lookup 153 (.map (some b.fans)) (.string item) false) (Vj (Qjk rs item)):=(by rw[show ty3.zero=vi 0 from rfl,Xo] at hl;exact hl);refine Fi Tryz.func86 rfl _ rfl rfl (Hh ?_);refine⟨.map (some b.fans),h.head.one rfl,Hh ?_⟩;refine⟨_,hl,Hh ?_⟩;exact⟨rfl,rfl⟩
def Qpt (c:Cfg) (z:List Ev) (item:Bj):Int:=if c.crowd<=Qjk (Qi c.width z).rs item then Qjk (Qi c.width z).rs item else 0
set_option maxHeartbeats 4000000 in
theorem Qj3 {w:World} {T:Nat->Prop} {p:Nat} {c:Cfg} {z:List Ev} (hW:WT w T p c z) (hok:Qm7 c z) (hg:Gl w) (hT:∀ k,T k->10<=k) (a:Nat->Int) (person item:Bj) (now:Int) :
 Cal Tryz.prog 35 [Pj p,.agg (wsC a).toArray,.string person,.string item,Vj now] w fun r w'=>∃ A1 c1 A2 c2 T',r = .agg (rsC item A1 6 c1 (Qmi (Qlt (Qs6 c z person item now) a 6)) A2 (Qvt c z person item now).length c2 (Qpt c z item)).toArray/\Own ptC 3 146 w.heap.size w' A1 c1 (Qlt (Qs6 c z person item now) a 6)/\Own evC 8 77 w.heap.size w' A2 c2 (Qvt c z person item now)/\(∀ x y,A1=some x->A2=some y->x.block≠y.block)/\(∀ x,A1=some x->¬ T' x.block)/\(∀ x,A2=some x->¬ T' x.block)/\WT w' T' p c z/\(∀ k,T' k->T k\/w.heap.size<=k)/\Mod T w w':=by
 have hsz:=hg.size;have hTl:=hW.lt;refine Fi Tryz.func35 rfl _ rfl rfl (Hh ?_);intro b6 w1 hn1;refine Gg ?_;have h6:At w1 b6 27 (wsC a):=hn1.At;intro b10 w2 hn2;refine Gg ?_;have h10:At w2 b10 72 (rsC ⟨#[]⟩ none 0 0 0 none 0 0 0):=hn2.At;replace h6:=h6.ext hn2.ext;have hx2:=hn1.ext.trans hn2.ext;have e1:=hn1.block;have e2:=hn2.block;have s1:=hn1.size;have s2:=hn2.size;clear hn1 hn2;refine(Xcy (hW.ext hx2) hok (hg.ext hx2) hT person item now).mono ?_;rintro _ w3 ⟨A3,c3,rfl,hown3,hM3,T3,hW3,hT3,hA3⟩;generalize Qvt c z person item now=O at hown3 ⊢;have s3:=hM3.size;have hT3l:=hW3.lt;replace h6:=h6.mod hM3 fun h=>by have:=hTl _ h;omega
 replace h10:=h10.mod hM3 fun h=>by have:=hTl _ h;omega
 have hg3:Gl w3:=(hg.ext hx2).mod hM3 hT;refine Gg ?_;intro b11 w4 hn4;refine Gg ?_;refine Qc Qb (e:=ty72) rfl hn4.At rfl rfl rfl Oj fun w5 h11 ho5 => ?_
 have h11:At w5 b11 72 (rsC item none 0 0 0 A3 O.length c3 0):=h11;have e4:=hn4.block;have hx35:Ext w3 w5:=ho5.ext hn4.ext Om;have s5:=hx35.size;have l11:=h11.lt;clear ho5 hn4;replace h6:=h6.ext hx35;replace h10:=h10.ext hx35;have n11:¬ T3 b11:=fun h=>by have:=hT3l _ h;omega
 have n6:¬ T3 b6:=fun h=>by
  rcases hT3 _ h with h | h
  . have:=hTl _ h;omega
  . omega
 have n10:¬ T3 b10:=fun h=>by
  rcases hT3 _ h with h | h
  . have:=hTl _ h;omega
  . omega
 refine Gg ?_;refine⟨wsC a,⟨rfl,h6.all⟩,Gg ?_⟩;refine(Qo0 (hW3.ext hx35) hok (hg3.ext hx35) (fun b hb=>(hT3 b hb).elim (hT b) fun h=>Om) a person item now).mono ?_;rintro _ w6 ⟨A6,c6,T6,rfl,hown6,hW6,hT6,hA6,hM6⟩;generalize Qlt (Qs6 c z person item now) a 6=Q at hown6 ⊢;have hM26:Mod (fun k=>T k\/w.heap.size<=k) w w6:=((Mod.of_ext hx2).trans (hM3.mono fun k _ h => .inl h)).trans ((Mod.of_ext hx35).trans (hM6.mono fun k _ h=>(hT3 k h).imp id fun h=>Om));replace h10:=h10.mod hM6 n10;replace h11:=h11.mod hM6 n11;have s6:=hM6.size;have m11:¬ T6 b11:=fun h=>(hT6 _ h).elim n11 fun h=>Om
 have m10:¬ T6 b10:=fun h=>(hT6 _ h).elim n10 fun h=>Om
 have hown36:=(hown3.ext hx35).keep fun x hx=>hM6.block x.block ((hown3.ext hx35).block hx).2 (hA3 x hx)
 have hb3:∀ x,A3=some x->w2.heap.size<=x.block/\x.block<w3.heap.size:=fun x hx=>hown3.block hx
 have hb6:∀ x,A6=some x->w5.heap.size<=x.block:=fun x hx=>(hown6.block hx).1
 clear hown3 hM3 hM6;refine Gg ?_;refine Qc Qb (e:=ty64) (off:=1) rfl h11 rfl rfl rfl Oj fun w7 h11 ho7 => ?_
 have h11:At w7 b11 72 (rsC item A6 6 c6 0 A3 O.length c3 0):=h11;refine Gg ?_;refine Qc Qb (e:=ty2) (off:=2) rfl h11 rfl rfl rfl Oj fun w8 h11 ho8 => ?_
 have h11:At w8 b11 72 (rsC item A6 6 c6 (Qmi Q) A3 O.length c3 0):=h11;have hM68:Mod (fun k=>k=b11\/k=b10) w6 w8:=(Qj ho7 (.inl rfl)).trans (Qj ho8 (.inl rfl));have hn1011:b10≠b11:=Om;replace h10:At w8 b10 72 _:=(ho8.block b10 hn1011).trans ((ho7.block b10 hn1011).trans h10);clear ho7 ho8;have hnT:∀ k,(k=b11\/k=b10)->¬ T6 k:=fun k hk=>hk.elim (fun e=>by rw[e];exact m11) (fun e=>by rw[e];exact m10)
 obtain⟨v8,T8,hQ8,_⟩:=id (hW6.mod hM68 hnT)
 have fin:∀ w',Mod (fun k=>k=b11\/k=b10) w6 w'->Own ptC 3 146 w.heap.size w' A6 c6 Q/\Own evC 8 77 w.heap.size w' A3 c3 O/\(∀ x y,A6=some x->A3=some y->x.block≠y.block)/\(∀ x,A6=some x->¬ T6 x.block)/\(∀ x,A3=some x->¬ T6 x.block)/\WT w' T6 p c z/\(∀ k,T6 k->T k\/w.heap.size<=k)/\Mod T w w':=fun w' hM=>by
  refine⟨(hown6.base Om).keep fun x hx => ?_,(hown36.base Om).keep fun x hx => ?_,fun x y hx hy e => ?_,hA6,fun x hx h => ?_,hW6.mod hM hnT,fun k hk => ?_,?_⟩
  . exact hM.block x.block (hown6.block hx).2 fun e=>by have:=hb6 x hx;omega
  . exact hM.block x.block (hown36.block hx).2 fun e=>by have:=hb3 x hx;omega
  . have:=hb6 x hx;have:=hb3 y hy;omega
  . rcases hT6 _ h with h | h
    . exact hA3 x hx h
    . have:=hb3 x hx;omega
  . rcases hT6 _ hk with h | h
    . exact(hT3 k h).imp id fun h=>Om
    . right;omega
  . exact(hM26.trans (hM.mono fun k _ h => .inr Om)).mono fun k hk h=>h.resolve_right Om
 refine Gg ?_;refine(X6 hQ8).mono ?_;rintro _ w9 ⟨pw,S,rfl,hcr,hx9⟩;refine Gg ?_;refine(Qu2 w9 S pw _ _ hcr item).mono ?_;rintro _ w9' ⟨rfl,hw9⟩;replace hw9:=hw9.symm;subst hw9;unfold Qpt;generalize Qjk (Qi c.width z).rs item=F;refine Gg ?_;refine(Qbc (hQ8.ext hx9)).mono ?_;rintro _ w10 ⟨rfl,hx10⟩;refine Gg ?_;have hx810:=hx9.trans hx10;replace h10:=h10.ext hx810;replace h11:=h11.ext hx810;have hM610:=hM68.trans (Mod.of_ext hx810);clear hM68 hcr hQ8 hx9 hx10 hx810;constructor
 . intro hq;have hq:c.crowd<=F:=Su hq;rw[if_pos hq];refine Gg ?_;refine Qc Qb (e:=ty3) (off:=4) rfl h11 rfl rfl rfl Oj fun w11 h11 ho11 => ?_
   have h11:At w11 b11 72 (rsC item A6 6 c6 (Qmi Q) A3 O.length c3 F):=h11;replace h10:At w11 b10 72 _:=(ho11.block b10 hn1011).trans h10;refine Gg ?_;refine⟨rsC item A6 6 c6 (Qmi Q) A3 O.length c3 F,⟨rfl,h11.all⟩,Gg ?_⟩;refine Qc Qb (e:=ty72) rfl h10 rfl rfl rfl (by simp[Qg,rsC,Value.oneCell']) fun w12 h12 ho12 => ?_
   have h12:At w12 b10 72 (rsC item A6 6 c6 (Qmi Q) A3 O.length c3 F):=h12;refine Gg ?_;refine⟨rsC item A6 6 c6 (Qmi Q) A3 O.length c3 F,⟨rfl,h12.all⟩,Gg ?_⟩;exact⟨A6,c6,A3,c3,T6,rfl,fin w12 (hM610.trans ((Qj ho11 (.inl rfl)).trans (Qj ho12 (.inr rfl))))⟩
 . intro hq;have hq:¬ c.crowd<=F:=Su hq;rw[if_neg hq];refine Gg ?_;refine⟨rsC item A6 6 c6 (Qmi Q) A3 O.length c3 0,⟨rfl,h11.all⟩,Gg ?_⟩;refine Qc Qb (e:=ty72) rfl h10 rfl rfl rfl (by simp[Qg,rsC,Value.oneCell']) fun w12 h12 ho12 => ?_
   have h12:At w12 b10 72 (rsC item A6 6 c6 (Qmi Q) A3 O.length c3 0):=h12;refine Gg ?_;refine⟨rsC item A6 6 c6 (Qmi Q) A3 O.length c3 0,⟨rfl,h12.all⟩,Gg ?_⟩;exact⟨A6,c6,A3,c3,T6,rfl,fin w12 (hM610.trans (Qj ho12 (.inr rfl)))⟩
