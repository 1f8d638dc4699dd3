/- Several texts in one: Cp1, Cp2, Cp3, Cp4, Cp5, Cp6. -/
import Derived.Test.YteabekcdcphjpaaGreatDoorHCp0
import Derived.Test.YteabekcdcphjpaaGreatDoorHCloneL
import Derived.Test.YteabekcdcphjpaaGreatDoorGB
import Derived.Test.YteabekcdcphjpaaGreatDoorGC
import Derived.Test.YteabekcdcphjpaaGreatDoorGE
import Derived.Test.YteabekcdcphjpaaGreatDoorGI
import Derived.Shelf.SlMaps.Clone
set_option linter.unusedVariables false
set_option linter.unusedSimpArgs false
namespace Go.Proofs.YteabekcdcphjpaaGreatDoor
open Go.Se Go.RowKit Go.Shelf
theorem Qpj {κ:Type} [DecidableEq κ] {enc:κ->Value} {P:Program} {ρ:Ren} (S:SlLaysW.n5 P ρ) (hok:Qqj P (ρ.f 5)) {w:World} {b:Nat} {L:List (κ×Value)} (hm:MapAt w b enc L) :
 Cal P (ρ.f 5) [.map (some b)] w fun r w'=>∃ b',r = .map (some b')/\MapAt w' b' enc L/\w.heap.size<=b'/\Ext w w':=by
 obtain⟨E,c,hE,rfl⟩:=hm;refine Qce hok (AnyW.maps_Clone S b _ c w hE.block) ?_;rintro w' rfl
 exact⟨w.heap.size,rfl,⟨E,c,⟨heap_alloc_new w _,hE.rising,hE.below,hE.keys⟩,rfl⟩,Nat.le_refl _,(Below.refl _ _).alloc (Nat.le_refl _) _⟩
theorem Qs8 {w:World} {b:Nat} {L:List (Int×Value)} (hm:MapAt w b vi L):Cal Tryz.prog 147 [.map (some b)] w fun r w'=>∃ b',r = .map (some b')/\MapAt w' b' vi L/\w.heap.size<=b'/\Ext w w' :=
 Qpj Tryz.clone147 ⟨_,Tryz.func147,rfl,rfl⟩ hm
theorem Qk8 {w:World} {b:Nat} {L:List (PK×Value)} (hm:MapAt w b cel L):Cal Tryz.prog 150 [.map (some b)] w fun r w'=>∃ b',r = .map (some b')/\MapAt w' b' cel L/\w.heap.size<=b'/\Ext w w' :=
 Qpj Tryz.clone150 ⟨_,Tryz.func150,rfl,rfl⟩ hm
theorem Q4a {κ:Type} [DecidableEq κ] {enc:κ->Value} {w:World} {r b:Nat} {L vs:List (κ×Value)} (hi:Iter w r b enc L vs):r<w.heap.size:=by
 obtain⟨E,c,V,si,c0,hE,rfl,hr,_⟩:=hi
 exact lt_of_block hr
def Q3a {κ β:Type} [DecidableEq κ] (s' s:List (κ×β)):Prop:=∀ k,Qe s' k=Qe s k
theorem Qqv {s s':Qih} (h:Q3a s' s) (half:Int) (key:ByteArray) (now:Int):Qaf s' half key now=Qaf s half key now:=by
 unfold Qaf;rw[h key]
set_option maxHeartbeats 2000000 in
theorem Qv4 (w:World) (S:Nat->Prop) (p:Nat) (half n:Int) (s:Qih) (h:Qls w S p half n s) :
 Cal Tryz.prog 75 [.pointer (some ⟨p,0,none⟩)] w fun r w'=>∃ p' s',r = .pointer (some ⟨p',0,none⟩)/\Qls w' (fun k=>w.heap.size<=k) p' half n s'/\Q3a s' s/\Ext w w':=by
 obtain⟨bm,hC⟩:=h;obtain⟨L,col,hm⟩:=hC.sums;have hhead:=hC.head;have hmap:=hm.map;have hown:∀ y∈L,MapAt w y.2.1 vi (Qas vi y.2.2):=fun y hy=>(hm.own y hy).2
 have heq:=hm.eq;have hkeys:=hm.keys;have hbm:=hmap.lt;have hpl:=hhead.lt;clear hm hC;refine Fi Tryz.func75 rfl _ rfl rfl (Hh ?_);refine Dr .ext [0,1,2,3,4,5,6,7,8,9,10,11,12,13,14] [15,16] (Hh ?_);have hx0:Ext w w.drew:=(Ext.refl w).drew;have hh0:=hhead.ext hx0;have hm0:=hmap.ext hx0;generalize w.drew=w0 at hx0 hh0 hm0 ⊢;refine⟨_,hh0.one rfl,Gg ?_⟩;refine⟨_,hh0.one rfl,Gg ?_⟩;refine⟨_,hh0.one rfl,Gg ?_⟩;refine⟨_,Qwx Qym (Qmd hm0.lt) hm0,Gg ?_⟩;intro b1 w1 hn1;refine⟨hn1.ext,Gg ?_⟩;intro b2 w2 hn2;refine Gg ?_;have e1:=hn1.block;have e2:=hn2.block;have s1:=hn1.size;have s0:=hx0.size;have hx2:=hx0.trans (hn1.ext.trans hn2.ext);have hb2:At w2 b2 125 [vi half,vi n,.map (some b1)]:=hn2.At;have hM2:MapOf Value.string Qsy w2 (fun k=>w.heap.size<=k/\k≠b2) b1 ([]:Qih):=(MapOf.new (S:=fun k=>w.heap.size<=k/\k≠b2) hn1 ⟨by omega,by omega⟩).keep Xn fun k hk hs=>⟨hn2.ext.block k hk,hs⟩
 have hb1l:b1<w2.heap.size:=by have:=hn2.size;omega
 have hb2l:=hb2.lt;clear hn1 hn2 hh0 hm0 hx0;refine⟨_,(hhead.ext hx2).one rfl,Hh ?_⟩;refine map_range Qym (hmap.ext hx2) fun w3 hi3 hx3 => ?_
 generalize hr:w2.heap.size=r at hi3 ⊢;refine Gg ?_
 refine Qd Qa (fun(q:List (ByteArray×Value)×Qih) w'=>Ext w w'/\Iter w' r bm Value.string (L.map fun x=>(x.1,Value.map (some x.2.1))) q.1/\MapOf Value.string Qsy w' (fun k=>w.heap.size<=k/\k≠b2/\k≠r) b1 q.2/\At w' b2 125 [vi half,vi n,.map (some b1)]/\∀ k:ByteArray,(k∈q.1.map (fun x:ByteArray×Value=>x.1)->Qe q.2 k=Qe s k)/\(k∉q.1.map (fun x:ByteArray×Value=>x.1)->Qe q.2 k=none))
  (fun _ => [(3,.pointer (some ⟨b2,0,none⟩)),(26,.pointer (some ⟨r,0,none⟩))]) (fun q=>L.length-q.1.length) ([],[]) ⟨hx2.trans hx3,hi3,hM2.keep Xn fun k hk hs=>⟨hx3.block k hk,hs.1,hs.2,by omega⟩,hb2.ext hx3,fun k=>⟨fun h=>by simp at h,fun _=>rfl⟩⟩ Rr ?_
 rintro ⟨vs,s'⟩ w4 ⟨hx4,hi4,hM4,hb4,hal⟩;simp only at hi4 hM4 hal;refine Gg ?_;refine Qea hi4 (fun hp => ?_) (fun x w5 hin hnew hlt hi5 ho5 hen => ?_)
 . refine Gg ?_
   constructor
   . intro hh;cases hh
   intro _;refine Gg ?_;refine⟨b2,s',rfl,⟨b1,by omega,hb4,hM4.keep Xn fun k hk hs=>⟨rfl,hs.1,hs.2.1⟩⟩,fun k => ?_,hx4⟩
   by_cases hk:k∈vs.map (fun x:ByteArray×Value=>x.1)
   . exact(hal k).1 hk
   . rw[(hal k).2 hk]
     cases hq:Qe s k with
     | none=>rfl
     | some v =>
       exfalso
       have h1:=Qa4 hq;rw[<- heq] at h1;obtain⟨y,hy,he⟩:=List.mem_map.1 h1;refine hk ((hp.map (·.1)).mem_iff.2 (List.mem_map.2 ⟨_,List.mem_map.2 ⟨y,hy,rfl⟩,?_⟩))
       exact(Prod.ext_iff.1 he).1
 . obtain⟨y,hy,rfl⟩:∃ y∈L,x=(y.1,Value.map (some y.2.1)):=by
    obtain⟨y,hy,he⟩:=List.mem_map.1 hin
    exact⟨y,hy,he.symm⟩
   have hx5:Ext w w5:=ho5.ext hx4 (by have:=hx2.size;omega);have hlt:vs.length<L.length:=by simpa using hlt
   have hrow:=(hown y hy).ext hx5;have hM5:=hM4.keep Xn (w1:=w5) (S':=fun k=>w.heap.size<=k/\k≠b2/\k≠r) fun k hk hs=>⟨ho5.block k hs.2.2,hs⟩
   have hb5:=ho5.at_ hb4 (by omega)
   have hnk:Qe s' y.1=none:=by
    refine(hal y.1).2 fun hk => ?_
    obtain⟨v,hv,he⟩:=List.mem_map.1 hk
    exact hnew v hv he
   have hys:Qe s y.1=some y.2.2:=by
    rw[<- heq]
    exact Qco (by rw[List.pairwise_map];exact hkeys) (List.mem_map.2 ⟨y,hy,rfl⟩)
   refine Gg ?_;constructor
   . intro _
     refine Gg ?_;refine Qa8 (hen w5 rfl rfl) ?_;refine Gg ?_;refine Dr .ext [0,1,2,3,4,5,6] [7] (Hh ?_);have hxd:Ext w5 w5.drew:=(Ext.refl w5).drew;replace hi5:=hi5.ext hxd;replace hM5:=hM5.keep Xn (w1:=w5.drew) (S':=fun k=>w.heap.size<=k/\k≠b2/\k≠r) fun k hk hs=>⟨hxd.block k hk,hs⟩
     replace hb5:=hb5.ext hxd;replace hrow:=hrow.ext hxd;replace hx5:=hx5.trans hxd;generalize w5.drew=w6 at hi5 hM5 hb5 hrow hx5 ⊢;refine⟨_,hb5.one rfl,Gg ?_⟩;refine(Qs8 hrow).mono ?_;rintro _ w7 ⟨b',rfl,hrow',hb',hx7⟩;refine⟨hx7,Gg ?_⟩;refine hM5.insert Xn Qym (Q9 Qae) y.1 hnk hx7 ⟨by omega,hrow'⟩ fun w8 hM8 ho8 => ?_
     refine Gg ?_;refine⟨(vs ++ [(y.1,Value.map (some y.2.1))],Xr s' y.1 y.2.2),by simp;omega,⟨ho8.ext (hx5.trans hx7) (by omega),(hi5.ext hx7).keep (ho8.block bm (by omega)) (ho8.block r (by omega)),hM8.keep Xn fun k hk hs=>⟨rfl,?_⟩,ho8.at_ (hb5.ext hx7) (by omega),fun k => ?_⟩,Rr⟩
     . rcases hs with hs | hs
       . exact hs
       . have h1:=Q4a hi5
         have h2:=hb5.lt;have h3:=hx5.size
         exact⟨by omega,by omega,by omega⟩
     . show (k∈(vs ++ [(y.1,Value.map (some y.2.1))]).map (fun x:ByteArray×Value=>x.1)->Qe (Xr s' y.1 y.2.2) k=Qe s k)/\(k∉(vs ++ [(y.1,Value.map (some y.2.1))]).map (fun x:ByteArray×Value=>x.1)->Qe (Xr s' y.1 y.2.2) k=none)
       rw[X0,List.map_append,List.map_cons,List.map_nil,List.mem_append,List.mem_singleton]
       by_cases hk:k=y.1
       . subst hk
         rw[if_pos rfl,hys]
         exact⟨fun _=>rfl,fun h=>absurd (.inr rfl) h⟩
       . rw[if_neg hk]
         exact⟨fun h=>(hal k).1 (h.elim id fun h=>absurd h hk),fun h=>(hal k).2 fun h2=>h (.inl h2)⟩
   . intro hh;cases hh
theorem Ql5 {κ β:Type} [DecidableEq κ] {k:κ} {v:β}:∀ {l:List (κ×β)},Qe l k=none->Xr l k v=l ++ [(k,v)]
 | [],_=>rfl
 | x :: l,h=>by
   unfold Qe at h;unfold Xr
   by_cases e:k=x.1
   . rw[if_pos e] at h;cases h
   . rw[if_neg e] at h ⊢
     rw[Ql5 h];rfl
theorem Qqm {κ β:Type} [DecidableEq κ] {k:κ} {l:List (κ×β)} (hp:l.Pairwise fun x y=>x.1≠y.1) (h:Qe l k=none):∀ x∈l,x.1≠k:=fun x hx e=>by
 have:=Qco hp (k:=x.1) (v:=x.2) hx;rw[e,h] at this
 cases this
section
variable {α:Type} {enc:α->List Value} {sz:Nat} {te:TypeId} {w w2 w3:World} {S:Nat->Prop} {bm:Nat} {rows:ByteArray->List α} {L:List (ByteArray×(Option Addr×Nat))}
theorem Qcf.insert (h:Qcf enc sz te w S bm rows L) {k:ByteArray} (hk:Qe L k=none) {r:List α} (hr:r ≠ []) {A':Option Addr} {c':Nat} (hx:Ext w w2) (hown:Own enc sz te w.heap.size w2 A' c' r)
 (hm:MapAt w3 bm Value.string (Xr (toV rows L) k (.slice A' r.length c'))) (ho:Only w2 w3 bm):Qcf enc sz te w3 (Grow S w) bm (Qix rows k r) (Xr L k (A',c')):=by
 have hbm:=h.map.lt;have hnk:=Qqm h.keys hk;have hA:∀ a,A'=some a->w.heap.size<=a.block:=fun a ha=>(hown.block ha).1
 refine⟨.inl h.mine,by rw[Qsk h.keys];exact hm,fun x hx' => ?_,fun x hx' => ?_,?_,fun j hj => ?_⟩
 . rw[Ql5 hk,List.mem_append,List.mem_singleton] at hx'
   rcases hx' with hx' | rfl
   . obtain⟨h1,h2⟩:=h.row x hx'
     have hu:Qix rows k r x.1=rows x.1:=if_neg (hnk x hx');rw[hu]
     exact⟨h1.keep fun a ha=>(ho.block _ (h2 a ha).2).trans (hx.block _ (h1.block ha).2),fun a ha=>⟨.inl (h2 a ha).1,(h2 a ha).2⟩⟩
   . have hu:Qix rows k r k=r:=if_pos rfl
     rw[hu]
     exact⟨(hown.base (Nat.zero_le _)).keep fun a ha=>ho.block _ (by have:=hA a ha;omega),fun a ha=>⟨.inr (hA a ha),by have:=hA a ha;omega⟩⟩
 . rw[Ql5 hk,List.mem_append,List.mem_singleton] at hx'
   rcases hx' with hx' | rfl
   . have hu:Qix rows k r x.1=rows x.1:=if_neg (hnk x hx')
     rw[hu]
     exact h.ne x hx'
   . have hu:Qix rows k r k=r:=if_pos rfl
     rw[hu]
     exact hr
 . rw[Ql5 hk,List.pairwise_append]
   refine⟨h.apart,List.pairwise_singleton _ _,fun x hx' y hy a a' ha ha' => ?_⟩;rw[List.mem_singleton] at hy;subst hy;have h1:=((h.row x hx').1.block ha).2;have h2:=hA a' ha';omega
 . rw[X0] at hj
   unfold Qix
   by_cases e:j=k
   . rw[if_pos e] at hj;cases hj
   . rw[if_neg e] at hj ⊢
     exact h.all j hj
end
theorem Xbp:Tryz.prog.underlying 129=some (.slice 3):=by kernel_rfl
theorem Q5s:Qsr Tryz.prog 129 3 Qmc 1 8:=⟨by kernel_rfl,⟨_,ty3_ok,rfl,rfl⟩,by3,by decide,by decide,Qdr,fun x=>by simp[Qmc,Value.oneCell']⟩
theorem Qv2 (x:List Int) (A:Option Addr) (c:Nat) (w:World) (hs:SlI w A x) (hl:x.length<1000000) :
 Cal Tryz.prog 151 [.slice A x.length c] w fun r w'=>∃ A' c',r = .slice A' x.length c'/\Own Qmc 1 3 w.heap.size w' A' c' x/\Ext w w':=by
 refine Fi Tryz.func151 rfl _ rfl rfl (Hh ?_);refine⟨_,Qew Xbp A _ _ _ _,Hh ?_⟩;constructor
 . intro h
   obtain rfl:A=none:=by simpa using h
   have hx:x = []:=by
    cases x with
    | nil=>rfl
    | cons e x=>obtain⟨a,ha,_⟩:=hs 0 e rfl;cases ha
   subst hx
   conv=>whnf
   exact⟨none,0,rfl,Own.nil,Ext.refl _⟩
 . intro h
   conv=>whnf
   intro b1 w1 hn1;conv=>whnf
   have o1:=Q5s.made (base:=w.heap.size) hn1 (Nat.le_refl _);refine Qi Q5s (l := []) (news:=x) rfl o1 rfl (hs.ext hn1.ext) (by simp;omega) hn1.ext.size fun A2 c2 w2 hown2 hg2 hA2 => ?_
   have hx2:=Qh hn1.ext hg2 (Qs o1);rw[List.nil_append] at hown2 ⊢
   conv=>whnf
   exact⟨A2,c2,rfl,hown2,hx2⟩
set_option maxHeartbeats 2000000 in
theorem Qv5 (w:World) (S:Nat->Prop) (p:Nat) (width n:Int) (s:Qbm) (h:Qo9 w S p width n s) (hrl:∀ key,(Qak s key).length<1000000) :
 Cal Tryz.prog 78 [.pointer (some ⟨p,0,none⟩)] w fun r w'=>∃ p',r = .pointer (some ⟨p',0,none⟩)/\Qo9 w' (fun k=>w.heap.size<=k) p' width n s/\Ext w w':=by
 obtain⟨bs,br,L,R,hP⟩:=h;have hhead:=hP.head;have hsums:=hP.sums;have hrows:=hP.rows;have hbr:=hrows.map.lt;refine Fi Tryz.func78 rfl _ rfl rfl (Hh ?_)
 refine Qgh (ι:=Nat×Nat×Nat) (fun q => [(0,.pointer (some ⟨p,0,none⟩)),(3,.pointer (some ⟨q.1,0,none⟩))])
  (fun q w'=>Ext w w'/\At w' q.1 133 [vi width,vi n,.map (some q.2.1),.map (some q.2.2)]/\MapAt w' q.2.1 cel (Qas vi s)/\MapAt w' q.2.2 Value.string ([]:List (ByteArray×Value))/\(w.heap.size<=q.1/\w.heap.size<=q.2.1/\w.heap.size<=q.2.2)/\q.2.1≠q.1/\q.2.2≠q.1/\q.2.2≠q.2.1) ?_ ?_
 . refine Qcl .ext (Pl.seq [0,1,2,3,4,5,6,7,8,9,10,11] (Pl.two 12 (Pl.seq [13,14,15,16] Pl.done) 13 (Pl.seq [12,14,15,16] Pl.done))) (by intro h;cases h) Qa mixed (by kernel_rfl) (Hh ?_)
   have hx0:Ext w w.drew:=(Ext.refl w).drew;have hh0:=hhead.ext hx0;have hm0:=hsums.ext hx0;generalize w.drew=w0 at hx0 hh0 hm0 ⊢;have s0:=hx0.size;refine⟨_,hh0.one rfl,Hh ?_⟩;refine⟨_,hh0.one rfl,Hh ?_⟩;refine⟨_,hh0.one rfl,Hh ?_⟩;refine⟨?_,?_⟩
   . refine(Qk8 hm0).mono ?_
     rintro _ w1 ⟨b',rfl,hb',hge,hx1⟩;refine⟨hx1,Hh ?_⟩;intro b2 w2 hn2;refine⟨hn2.ext,Hh ?_⟩;intro b3 w3 hn3;have e2:=hn2.block;have e3:=hn3.block;have s1:=hx1.size;have s2:=hn2.size;have l1:=hb'.lt;refine⟨hn3.ext,Hh ?_⟩
     exact⟨(b3,b',b2),⟨(hx0.trans hx1).trans (hn2.ext.trans hn3.ext),hn3.At,hb'.ext (hn2.ext.trans hn3.ext),(MapAt.new hn2).ext hn3.ext,⟨by simp only;omega,by simp only;omega,by simp only;omega⟩,by simp only;omega,by simp only;omega,by simp only;omega⟩,Rr⟩
   . intro b2 w1 hn1
     refine⟨hn1.ext,Hh ?_⟩;refine(Qk8 (hm0.ext hn1.ext)).mono ?_;rintro _ w2 ⟨b',rfl,hb',hge,hx2⟩;refine⟨hx2,Hh ?_⟩;intro b3 w3 hn3;have e1:=hn1.block;have e3:=hn3.block;have s1:=hn1.size;have s2:=hx2.size;have l1:=hb'.lt;refine⟨hn3.ext,Hh ?_⟩
     exact⟨(b3,b',b2),⟨(hx0.trans hn1.ext).trans (hx2.trans hn3.ext),hn3.At,hb'.ext hn3.ext,((MapAt.new hn1).ext hx2).ext hn3.ext,⟨by simp only;omega,by simp only;omega,by simp only;omega⟩,by simp only;omega,by simp only;omega,by simp only;omega⟩,Rr⟩
 rintro ⟨p',bs',br'⟩ w1 ⟨hx1,hh1,hs1,hr1,⟨g1,g2,g3⟩,n1,n2,n3⟩;simp only at hh1 hs1 hr1 g1 g2 g3 n1 n2 n3;refine Gg ?_;refine⟨_,(hhead.ext hx1).one rfl,Hh ?_⟩;refine map_range Q21 (hrows.map.ext hx1) fun w2 hi2 hx2 => ?_
 generalize hr:w1.heap.size=r at hi2 ⊢;have l1:=hh1.lt;have l2:=hs1.lt;have l3:=hr1.lt;refine Gg ?_
 refine Qd Qa (fun(q:List (ByteArray×Value)×(ByteArray->List Int)×List (ByteArray×(Option Addr×Nat))) w'=>Ext w w'/\Iter w' r br Value.string (toV (Qak s) L) q.1/\Qcf Qmc 1 3 w' (fun k=>w.heap.size<=k/\k≠p'/\k≠bs'/\k≠r) br' q.2.1 q.2.2/\At w' p' 133 [vi width,vi n,.map (some bs'),.map (some br')]/\MapAt w' bs' cel (Qas vi s)/\∀ k:ByteArray,(k∈q.1.map (fun x:ByteArray×Value=>x.1)->q.2.1 k=Qak s k)/\(k∉q.1.map (fun x:ByteArray×Value=>x.1)->q.2.1 k = []/\Qe q.2.2 k=none))
  (fun _ => [(3,.pointer (some ⟨p',0,none⟩)),(26,.pointer (some ⟨r,0,none⟩))]) (fun q=>L.length-q.1.length) ([],(fun _ => []),[]) ⟨hx1.trans hx2,hi2,⟨⟨by omega,by omega,by omega,by omega⟩,hr1.ext hx2,by simp,by simp,by simp,fun _ _=>rfl⟩,hh1.ext hx2,hs1.ext hx2,fun k=>⟨fun h=>by simp at h,fun _=>⟨rfl,rfl⟩⟩⟩ Rr ?_
 rintro ⟨vs,f,L'⟩ w4 ⟨hx4,hi4,hR4,hh4,hs4,hal⟩;simp only at hi4 hR4 hal;have hLl:(toV (Qak s) L).length=L.length:=by simp[toV]
 refine Gg ?_;refine Qea hi4 (fun hp => ?_) (fun x w5 hin hnew hlt hi5 ho5 hen => ?_)
 . refine Gg ?_
   constructor
   . intro hh;cases hh
   intro _;refine Gg ?_
   have hf:f=Qak s:=funext fun k=>by
    by_cases hk:k∈vs.map (fun x:ByteArray×Value=>x.1)
    . exact(hal k).1 hk
    . rw[((hal k).2 hk).1]
      refine(hrows.all k ?_).symm
      cases hq:Qe L k with
      | none=>rfl
      | some v =>
        exfalso
        refine hk ((hp.map (·.1)).mem_iff.2 (List.mem_map.2 ⟨(k,Value.slice v.1 (Qak s k).length v.2),?_,rfl⟩));unfold toV
        exact List.mem_map.2 ⟨(k,v),Qa4 hq,rfl⟩
   subst hf
   exact⟨p',rfl,⟨bs',br',L',_,⟨by omega,by omega,n1⟩,hh4,hs4,hR4,fun k hk=>⟨hk.1,hk.2.1,hk.2.2.1⟩⟩,hx4⟩
 . obtain⟨y,hy,rfl⟩:∃ y∈L,x=(y.1,Value.slice y.2.1 (Qak s y.1).length y.2.2):=by
    unfold toV at hin;obtain⟨y,hy,he⟩:=List.mem_map.1 hin
    exact⟨y,hy,he.symm⟩
   have hx5:Ext w w5:=ho5.ext hx4 (by have:=hx1.size;omega);have hlt:vs.length<L.length:=by omega
   have hrow:SlI w5 y.2.1 (Qak s y.1):=((hrows.row y hy).1.sl Qdr).ext hx5;have hrne:=hrows.ne y hy;have hyl:=hrl y.1;have hR5:=hR4.keep (w1:=w5) (S':=fun k=>w.heap.size<=k/\k≠p'/\k≠bs'/\k≠r) fun k hk hs=>⟨ho5.block k hs.2.2.2,hs⟩
   have hh5:=ho5.at_ hh4 (by omega);have hs5:=hs4.only ho5 (by omega)
   have hnk:y.1∉vs.map (fun x:ByteArray×Value=>x.1):=fun hk=>by
    obtain⟨v,hv,he⟩:=List.mem_map.1 hk
    exact hnew v hv he
   have hlk:=((hal y.1).2 hnk).2;generalize hrw:Qak s y.1=row at hrow hrne hyl hi5 hen;refine Gg ?_;constructor
   . intro _
     refine Gg ?_;refine Qa8 (hen w5 rfl rfl) ?_;refine Gg ?_;refine Dr .ext [0,1,2,3,4,5,6] [7] (Hh ?_);have hxd:Ext w5 w5.drew:=(Ext.refl w5).drew;replace hi5:=hi5.ext hxd;replace hR5:=hR5.keep (w1:=w5.drew) (S':=fun k=>w.heap.size<=k/\k≠p'/\k≠bs'/\k≠r) fun k hk hs=>⟨hxd.block k hk,hs⟩
     replace hh5:=hh5.ext hxd;replace hs5:=hs5.ext hxd;replace hrow:=hrow.ext hxd;replace hx5:=hx5.trans hxd;generalize w5.drew=w6 at hi5 hR5 hh5 hs5 hrow hx5 ⊢;refine⟨_,hh5.one rfl,Gg ?_⟩;refine(Qv2 row y.2.1 y.2.2 w6 hrow hyl).mono ?_;rintro _ w7 ⟨A',c',rfl,hown',hx7⟩;refine⟨hx7,Gg ?_⟩;refine Xg Q21 (Q9 Qae) (hR5.map.ext hx7) y.1 _ fun w8 hm8 ho8 => ?_
     have hR8:=hR5.insert hlk hrne hx7 hown' hm8 ho8;have h1:=Q4a hi5;have h2:=hh5.lt;have h3:=hs5.lt;have h4:=hx5.size;have h5:=hR5.map.lt;refine Gg ?_;refine⟨(vs ++ [(y.1,Value.slice y.2.1 row.length y.2.2)],Qix f y.1 row,Xr L' y.1 (A',c')),by simp;omega,⟨ho8.ext (hx5.trans hx7) (by omega),(hi5.ext hx7).keep (ho8.block br (by omega)) (ho8.block r (by omega)),hR8.keep fun k hk hs=>⟨rfl,?_⟩,ho8.at_ (hh5.ext hx7) (by omega),(hs5.ext hx7).only ho8 (by omega),fun k => ?_⟩,Rr⟩
     . rcases hs with hs | hs
       . exact hs
       . exact⟨by omega,by omega,by omega,by omega⟩
     . show (k∈(vs ++ [(y.1,Value.slice y.2.1 row.length y.2.2)]).map (fun x:ByteArray×Value=>x.1)->Qix f y.1 row k=Qak s k)/\(k∉(vs ++ [(y.1,Value.slice y.2.1 row.length y.2.2)]).map (fun x:ByteArray×Value=>x.1)->Qix f y.1 row k = []/\Qe (Xr L' y.1 (A',c')) k=none)
       rw[X0,List.map_append,List.map_cons,List.map_nil,List.mem_append,List.mem_singleton];unfold Qix
       by_cases hk:k=y.1
       . subst hk
         rw[if_pos rfl,if_pos rfl]
         exact⟨fun _=>hrw.symm,fun h=>absurd (.inr rfl) h⟩
       . rw[if_neg hk,if_neg hk]
         exact⟨fun h=>(hal k).1 (h.elim id fun h=>absurd h hk),fun h=>(hal k).2 fun h2=>h (.inl h2)⟩
   . intro hh;cases hh
theorem Xdb:Tryz.prog.underlying 39=some (.pointer (Tryz.prog.pointee 39)):=by kernel_rfl
theorem Xde:Tryz.prog.underlying 43=some (.pointer (Tryz.prog.pointee 43)):=by kernel_rfl
theorem Q1h (w:World) (p o:Nat) (half n half' n':Int) (b b':Value) (h1:At w p 125 [vi half,vi n,b]) (h2:At w o 125 [vi half',vi n',b']) (hne:¬ half'=half) :
 Cal Tryz.prog 76 [.pointer (some ⟨p,0,none⟩),.pointer (some ⟨o,0,none⟩)] w fun r w'=>r = .bool false/\Ext w w':=by
 refine Fi Tryz.func76 rfl _ rfl rfl (Hh ?_);refine Dr .same [0,1,2,3,4,5,6,7,8,9,10,11,12,13,14,15,16,17,18,19,20,21,22,23,24] [] (Hh ?_);have hxd:Ext w w.drew:=(Ext.refl w).drew;replace h1:=h1.ext hxd;replace h2:=h2.ext hxd;generalize w.drew=w1 at hxd h1 h2 ⊢;refine⟨_,Qcm Xdb _ _ _,Gg ?_⟩;refine⟨_,fun _=>h2.one rfl,Gg ?_⟩;refine⟨_,fun _=>h1.one rfl,Gg ?_⟩;refine⟨_,fun _=>h1.one rfl,Gg ?_⟩;refine⟨_,fun _=>h2.one rfl,Gg ?_⟩;refine⟨0,fun hg => ?_,?_⟩
 . exfalso
   simp[hne] at hg
 refine Gg ?_;refine⟨fun _ => ?_,fun hq => ?_⟩
 . refine Gg ?_
   exact⟨rfl,hxd⟩
 . exfalso
   simp[hne] at hq
theorem Q1i (w:World) (p o:Nat) (half n half' n':Int) (b b' d d':Value) (h1:At w p 133 [vi half,vi n,b,d]) (h2:At w o 133 [vi half',vi n',b',d']) (hne:¬ half'=half) :
 Cal Tryz.prog 79 [.pointer (some ⟨p,0,none⟩),.pointer (some ⟨o,0,none⟩)] w fun r w'=>r = .bool false/\Ext w w':=by
 refine Fi Tryz.func79 rfl _ rfl rfl (Hh ?_);refine Dr .same [0,1,2,3,4,5,6,7,8,9,10,11,12,13,14,15,16,17,18,19,20,21,22,23,24] [] (Hh ?_);have hxd:Ext w w.drew:=(Ext.refl w).drew;replace h1:=h1.ext hxd;replace h2:=h2.ext hxd;generalize w.drew=w1 at hxd h1 h2 ⊢;refine⟨_,Qcm Xde _ _ _,Gg ?_⟩;refine⟨_,fun _=>h2.one rfl,Gg ?_⟩;refine⟨_,fun _=>h1.one rfl,Gg ?_⟩;refine⟨_,fun _=>h1.one rfl,Gg ?_⟩;refine⟨_,fun _=>h2.one rfl,Gg ?_⟩;refine⟨0,fun hg => ?_,?_⟩
 . exfalso
   simp[hne] at hg
 refine Gg ?_;refine⟨fun _ => ?_,fun hq => ?_⟩
 . refine Gg ?_
   exact⟨rfl,hxd⟩
 . exfalso
   simp[hne] at hq
def Q62 (p:Nat):List Value := [.pointer (some ⟨p,0,none⟩)]
theorem Qmt (p:Nat):(Q62 p).length=1:=rfl
set_option maxHeartbeats 1000000 in
theorem Qo5 {w:World} {T1 T2:Nat->Prop} {p1 p2:Nat} {c1 c2:Cfg} {z1 z2:List Ev} {v1 v2:Value} (h1:WQ w T1 p1 c1 z1 v1) (h2:WQ w T2 p2 c2 z2 v2) (hne:¬ Qv c2.half=Qv c1.half) (A:Option Addr) (cp:Nat) (hs:Sl Q62 1 w A [p1,p2]) (hcap:2<=cp) :
 Cal Tryz.prog 14 [.slice A 2 cp] w fun r w'=>∃ p' n s',r = .pointer (some ⟨p',0,none⟩)/\Qls w' (fun k=>w.heap.size<=k) p' (Qv c1.half) n s'/\Q3a s' (Ql c1.width z1).ds/\Ext w w':=by
 have hsk:=Xt hs 1 cp hcap;have hd:List.drop 1 [p1,p2] = [p2]:=rfl;rw[hd] at hsk;obtain⟨a,hA,hc⟩:=hs.get (show 0 < [p1,p2].length from Nat.succ_pos _);refine Fi Tryz.func14 rfl _ rfl rfl (Hh ?_);constructor
 . intro h;simp at h
 intro _;refine Gg ?_;refine⟨a,⟨hA,by omega,by omega⟩,Gg ?_⟩;refine⟨.pointer (some ⟨p1,0,none⟩),Qp hc,Gg ?_⟩;refine(Qgg h1).mono ?_;rintro _ w1 ⟨pd,S,rfl,hct,hx1⟩;refine Gg ?_;refine(Qv4 w1 S pd _ _ _ hct).mono ?_;rintro _ w2 ⟨p',s',rfl,hct2,hsame,hx2⟩;refine Gg ?_;have hx02:=hx1.trans hx2;have s1:=hx1.size;refine⟨⟨by omega,by omega,by omega,by omega⟩,Gg ?_⟩
 refine Qd Qa (fun(k:Nat) w'=>k<=1/\Ext w2 w')
  (fun k => [(3,.pointer (some ⟨p',0,none⟩)),(15,.slice (if cp=1 then A else A.map (·.add (1*1))) 1 (cp-1)),(16,.int .i64 1),(17,.int .i64 (k:Nat))]) (fun k=>1-k) 0 ⟨Nat.zero_le _,Ext.refl _⟩ Rr ?_
 rintro k wa ⟨hk,hxa⟩;have hx0a:=hx02.trans hxa;refine Gg ?_;constructor
 . intro hlt
   have hlt:k=0:=by
    have:(k:Int)<1:=by simpa using hlt
    omega
   subst hlt;obtain⟨a2,hA2,hc2⟩:=(hsk.ext hx0a).get (show 0 < [p2].length from Nat.succ_pos _);refine Gg ?_;refine⟨a2,⟨hA2,by omega,by omega⟩,Gg ?_⟩;refine⟨.pointer (some ⟨p2,0,none⟩),Qp hc2,Gg ?_⟩;refine(Qgg (h2.ext hx0a)).mono ?_;rintro _ w3 ⟨pe,S3,rfl,hct3,hx3⟩;refine Gg ?_;obtain⟨bm,hC⟩:=hct2;obtain⟨bm3,hC3⟩:=hct3;refine(Q1h w3 p' pe _ _ _ _ _ _ ((hC.head.ext hxa).ext hx3) hC3.head hne).mono ?_;rintro _ w4 ⟨rfl,hx4⟩;refine Gg ?_;refine⟨_,wrap_succ (by omega),Gg ?_⟩
   exact⟨1,by omega,⟨by omega,hxa.trans (hx3.trans hx4)⟩,Rr⟩
 . intro _
   refine Gg ?_
   exact⟨p',_,s',rfl,hct2.keep fun k hk hs=>⟨hxa.block k hk,by omega⟩,hsame,hx0a⟩
set_option maxHeartbeats 1000000 in
theorem Quk {w:World} {T1 T2:Nat->Prop} {p1 p2:Nat} {c1 c2:Cfg} {z1 z2:List Ev} {v1 v2:Value} (h1:WQ w T1 p1 c1 z1 v1) (h2:WQ w T2 p2 c2 z2 v2) (hne:¬ Qv c2.width=Qv c1.width) (hrl:∀ key,(Qak (Ql c1.width z1).ps key).length<1000000) (A:Option Addr) (cp:Nat) (hs:Sl Q62 1 w A [p1,p2]) (hcap:2<=cp) :
 Cal Tryz.prog 17 [.slice A 2 cp] w fun r w'=>∃ p' n,r = .pointer (some ⟨p',0,none⟩)/\Qo9 w' (fun k=>w.heap.size<=k) p' (Qv c1.width) n (Ql c1.width z1).ps/\Ext w w':=by
 have hsk:=Xt hs 1 cp hcap;have hd:List.drop 1 [p1,p2] = [p2]:=rfl;rw[hd] at hsk;obtain⟨a,hA,hc⟩:=hs.get (show 0 < [p1,p2].length from Nat.succ_pos _);refine Fi Tryz.func17 rfl _ rfl rfl (Hh ?_);constructor
 . intro h;simp at h
 intro _;refine Gg ?_;refine⟨a,⟨hA,by omega,by omega⟩,Gg ?_⟩;refine⟨.pointer (some ⟨p1,0,none⟩),Qp hc,Gg ?_⟩;refine(Qis h1).mono ?_;rintro _ w1 ⟨pd,S,rfl,hct,hx1⟩;refine Gg ?_;refine(Qv5 w1 S pd _ _ _ hct hrl).mono ?_;rintro _ w2 ⟨p',rfl,hct2,hx2⟩;refine Gg ?_;have hx02:=hx1.trans hx2;have s1:=hx1.size;refine⟨⟨by omega,by omega,by omega,by omega⟩,Gg ?_⟩
 refine Qd Qa (fun(k:Nat) w'=>k<=1/\Ext w2 w')
  (fun k => [(3,.pointer (some ⟨p',0,none⟩)),(15,.slice (if cp=1 then A else A.map (·.add (1*1))) 1 (cp-1)),(16,.int .i64 1),(17,.int .i64 (k:Nat))]) (fun k=>1-k) 0 ⟨Nat.zero_le _,Ext.refl _⟩ Rr ?_
 rintro k wa ⟨hk,hxa⟩;have hx0a:=hx02.trans hxa;refine Gg ?_;constructor
 . intro hlt
   have hlt:k=0:=by
    have:(k:Int)<1:=by simpa using hlt
    omega
   subst hlt;obtain⟨a2,hA2,hc2⟩:=(hsk.ext hx0a).get (show 0 < [p2].length from Nat.succ_pos _);refine Gg ?_;refine⟨a2,⟨hA2,by omega,by omega⟩,Gg ?_⟩;refine⟨.pointer (some ⟨p2,0,none⟩),Qp hc2,Gg ?_⟩;refine(Qis (h2.ext hx0a)).mono ?_;rintro _ w3 ⟨pe,S3,rfl,hct3,hx3⟩;refine Gg ?_;obtain⟨bs2,br2,L2,R2,hC⟩:=hct2;obtain⟨bs3,br3,L3,R3,hC3⟩:=hct3;refine(Q1i w3 p' pe _ _ _ _ _ _ _ _ ((hC.head.ext hxa).ext hx3) hC3.head hne).mono ?_;rintro _ w4 ⟨rfl,hx4⟩;refine Gg ?_;refine⟨_,wrap_succ (by omega),Gg ?_⟩
   exact⟨1,by omega,⟨by omega,hxa.trans (hx3.trans hx4)⟩,Rr⟩
 . intro _
   refine Gg ?_
   exact⟨p',_,rfl,hct2.keep fun k hk hs=>⟨hxa.block k hk,by omega⟩,hx0a⟩
end Go.Proofs.YteabekcdcphjpaaGreatDoor
