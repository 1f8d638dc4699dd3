import Derived.Test.YteabekcdcphjpaaGreatDoorGZC
import Derived.Test.YteabekcdcphjpaaGreatDoorGXC
import Derived.Test.YteabekcdcphjpaaGreatDoorGXG
import Derived.Test.YteabekcdcphjpaaGreatDoorGM
import Derived.Test.YteabekcdcphjpaaGreatDoorGZA
/- The law ShardFails: the walk. -/
set_option linter.unusedVariables false
set_option linter.unusedSimpArgs false
namespace Go.Proofs.YteabekcdcphjpaaGreatDoor
open Go.Se Go.RowKit Go.Shelf
def Xaa (l:List Ev) (t:Int) (item:ByteArray) (now:Int):Bool:=(((((decide ((16:Int)<l.length)||l.any (Q7c 300))||decide (t<0))||decide ((l.length:Int)<t))||decide ((100:Int)<item.size))||decide (now<0))||decide (1099511627776<now)
theorem Q7o {l:List Ev} {t:Int} {item:ByteArray} {now:Int} (h:Xaa l t item now=false):l.length<=16/\l.any (Q7c 300)=false/\(0<=t/\t<=l.length)/\(0<=now/\now<=1099511627776):=by
 unfold Xaa at h;simp only[Bool.or_eq_false_iff,decide_eq_false_iff_not] at h;obtain⟨⟨⟨⟨⟨⟨h1,h2⟩,h3⟩,h4⟩,h5⟩,h6⟩,h7⟩:=h
 exact⟨by omega,h2,⟨by omega,by omega⟩,by omega,by omega⟩
theorem Qy1 {l:List Ev} (h:l.any (Q7c 300)=false):∀ e∈l,e.text.size<4000000000:=fun e he=>by
 have:=(List.any_eq_false.1 h) e he
 simp[Q7c] at this
 omega
theorem Q68 {l:List Ev} (h:l.any (Q7c 300)=false):∀ e∈l,e.text.size<1000000000000:=fun e he=>Nat.lt_trans (Qy1 h e he) (by decide)
theorem Q3w {w:World} {T:Nat->Prop} {p:Nat} {c:Cfg} {z:List Ev} (h:WT w T p c z) (hg:Gl w) (hcf:Qij c=true) (hz:z.length<1000) (hT10:∀ k,T k->10<=k) (now:Int) :
 Cal Tryz.prog 10 [.pointer (some ⟨p,0,none⟩),.int .i64 now] w fun r w'=>∃ T':Nat->Prop,r = .string (Q6x c z (Qgr now))/\WT w' T' p c z/\(∀ k,T' k->T k\/w.heap.size<=k)/\Mod T w w' :=
 (Qwb h hg hcf hz hT10 now).mono fun _ _ ⟨h1,T',h2,h3,h4⟩=>⟨T',h1,h2,h3,h4⟩
theorem Xb8 {width:Int} {z:List Ev} (hm:∀ e∈z,Xp e=true) {s:Qih} (hs:Q3a s (Ql width z).ds) (key:ByteArray):∀ r,Qe s key=some r->∀ x∈r,0<=x.1/\x.1<=1099511627776:=fun r hr x hx=>by
 rw[hs key,(Qb6 width z).1] at hr;obtain⟨e,he,e1,_⟩:=Qzc _ key r hr x hx;rw[<- e1]
 exact Qif (hm e (List.mem_filter.1 he).1)
theorem Xcm (width:Int) {z:List Ev} (hm:∀ e∈z,Xp e=true) (hz:z.length<100000):Xb2 (Ql width z).ps 10000000:=by
 have hc:=Qdq width z hm;have h2:=hc.pl;have hk:(Ql width z).ps.Pairwise (fun x y=>x.1≠y.1):=by rw[(Qb6 width z).2.1];exact Q5j width _
 exact⟨hk,Qei hc.ps (by omega),by omega,by omega,by omega⟩
theorem Xao {W:List Nat} (h:W.length=2):∃ p q,W = [p,q]:=by
 match W,h with
 | [p,q],_=>exact⟨p,q,rfl⟩
set_option maxHeartbeats 16000000 in
theorem shardFails_spec (c d:Cfg) (l:List Ev) (t:Int) (item:ByteArray) (now:Int) (A:Option Addr) (cap:Nat) (w:World) (hg0:Gl w) (hs:SlE w A l) (hcap:l.length<=cap) :
 Cal Tryz.prog 3 [Qy6 c,Qy6 d,.slice A l.length cap,.int .i64 t,.string item,.int .i64 now] w fun r w'=>r = .bool true/\Ext w w':=by
 have hsz:=hg0.size;refine Fi Tryz.func3 rfl _ rfl rfl (Hh ?_);intro b6 w1 hn1;refine Gg ?_;intro b7 w2 hn2;refine Gg ?_;have g6:At w2 b6 23 (Qj8 c):=hn1.At.ext hn2.ext;have g7:At w2 b7 23 (Qj8 d):=hn2.At;have hx:=hn1.ext.trans hn2.ext;clear hn1 hn2;refine(Q1f w2).mono ?_;rintro _ w3 ⟨rfl,hx3⟩;replace g6:=g6.ext hx3;replace g7:=g7.ext hx3;replace hx:=hx.trans hx3;clear hx3;refine Gg ?_;constructor
 . intro h;simp at h
 intro _;refine Gg ?_;refine⟨Unit,fun _=>(.bool (l.any (Q7c 300))),fun _ w'=>Ext w3 w',(),fun hg=>((Q6c l A cap 300 w3 (hs.ext hx) (by simp at hg;omega))).mono fun r w' h=>⟨(),h.1,h.2⟩,?_⟩;intro _ w4 h2
 have hx4:Ext w3 w4:=by
  rcases h2 with⟨_,h⟩ | ⟨_,h⟩
  . exact h
  . rw[h];exact Ext.refl _
 clear h2
 conv=>whnf
 replace g6:=g6.ext hx4;replace g7:=g7.ext hx4;replace hx:=hx.trans hx4;clear hx4;refine Gg ?_;constructor
 . intro _
   refine Gg ?_
   exact⟨rfl,hx⟩
 intro hq;have hq:Xaa l t item now=false:=hq;obtain⟨hl,hbig,⟨ht0,ht1⟩,hnow⟩:=Q7o hq;have ht3:=Qy1 hbig;have ht4:=Q68 hbig;clear hq hbig;obtain⟨t,rfl⟩:=Int.eq_ofNat_of_zero_le ht0;have hsk:=Xt (Qfj hs t) 0 cap (by rw[List.length_take];omega);have hsd:=Xt hs t cap hcap;rw[List.drop_zero] at hsk;have hkm:(l.take t).length=t:=by rw[List.length_take];omega
 have hdl:(l.drop t).length=l.length-t:=by rw[List.length_drop]
 have hTm:∀ x∈l.take t,x∈l:=fun x hx=>List.mem_of_mem_take hx
 have hDm:∀ x∈l.drop t,x∈l:=fun x hx=>List.mem_of_mem_drop hx
 have hLm:∀ x∈l,x∈l.take t\/x∈l.drop t:=fun x hx=>by
  rw[<- List.take_append_drop t l,List.mem_append] at hx;exact hx
 generalize l.take t=T1 at hsk hkm hTm hLm;generalize l.drop t=D1 at hsd hdl hDm hLm;have h6l:=g6.lt;have h7l:=g7.lt;have hz4:=hx.size;refine Gg ?_;refine Dr .ext [0,1,2,3,4,5,6,7,8,9,10,11,12,13] [] (Hh ?_);have hxd:Ext w4 w4.drew:=(Ext.refl w4).drew;replace g6:=g6.ext hxd;replace g7:=g7.ext hxd;replace hx:=hx.trans hxd;generalize w4.drew=w5 at g6 g7 hx hxd ⊢;refine⟨Qj8 c,⟨rfl,g6.all⟩,Gg ?_⟩;refine⟨⟨by omega,by omega,by omega,by omega⟩,Gg ?_⟩;refine⟨⟨by omega,by omega,by omega,by omega⟩,Gg ?_⟩;intro b8 w6 hn8;refine⟨hn8.ext,Gg ?_⟩
 have hP:Sl paC 1 w6 (some ⟨b8,0,none⟩) ([(T1,(if cap=0 then A else A.map (·.add (0*8)),cap-0)),(D1,(if cap=t then A else A.map (·.add (t*8)),cap-t))]:List Prt):=by
  refine Qbf (w:=w5) (t:=24) Xay ?_;simp only[List.flatMap_cons,List.flatMap_nil,paC,hkm,hdl]
  exact hn8
 have hx6:=hn8.ext;have hx46:=hxd.trans hx6;replace g6:=g6.ext hx6;replace g7:=g7.ext hx6;replace hx:=hx.trans hx6;clear hn8 hx6
 have hcond:∀ x∈([(T1,(if cap=0 then A else A.map (·.add (0*8)),cap-0)),(D1,(if cap=t then A else A.map (·.add (t*8)),cap-t))]:List Prt),SlE w6 x.2.1 x.1/\x.1.length<1000000/\∀ e∈x.1,e.text.size<4000000000:=fun x hx'=>by
  rcases List.mem_cons.1 hx' with rfl | hx'
  . exact⟨hsk.ext hx,by(try simp only);omega,fun e he=>ht3 e (hTm e he)⟩
  . rw[List.mem_singleton.1 hx']
    exact⟨hsd.ext hx,by(try simp only);omega,fun e he=>ht3 e (hDm e he)⟩
 refine(Qr7 c _ (some ⟨b8,0,none⟩) 2 w6 (hg0.ext hx) hP (by simp) hcond).mono ?_;rintro r7 w7 ⟨hx7,hor⟩;clear hP hcond;have hz6:=hx.size;have hz7:=hx7.size;have hz46:w4.heap.size<=w6.heap.size:=hx46.size;replace g6:=g6.ext hx7;replace g7:=g7.ext hx7;replace hx:=hx.trans hx7;refine⟨hx7,?_⟩;rcases hor with⟨⟨x,hxm,hxf⟩,rfl⟩ | ⟨hall,W,A',c',rfl,hown,T,hB⟩
 . have hf:(Qij c&&l.all Xp)=false:=by
    cases hcf:Qij c with
    | false=>rfl
    | true =>
      rw[hcf,Bool.true_and] at hxf;rw[Bool.true_and];rw[<- Bool.not_eq_true,List.all_eq_true] at hxf ⊢;refine fun h=>hxf fun e he=>h e ?_
      rcases List.mem_cons.1 hxm with rfl | hxm
      . exact hTm e he
      . rw[List.mem_singleton.1 hxm] at he
        exact hDm e he
   refine Gg ?_;refine⟨Qj8 c,⟨rfl,g6.all⟩,Gg ?_⟩;refine(Qg7 c w7).mono ?_;rintro _ w8 ⟨rfl,hx8⟩;replace hx:=hx.trans hx8;refine Gg ?_;refine⟨Unit,fun _=>(.bool (l.all Xp)),fun _ w'=>Ext w8 w',(),fun hg=>((Qyy l A cap w8 (hs.ext hx) (by omega) ht4)).mono fun r w' h=>⟨(),h.1,h.2⟩,?_⟩;intro _ w9 h2
   have hx9:Ext w8 w9:=by
    rcases h2 with⟨_,h⟩ | ⟨_,h⟩
    . exact h
    . rw[h];exact Ext.refl _
   clear h2
   conv=>whnf
   replace hx:=hx.trans hx9;refine Gg ?_;constructor
   . intro _
     refine Gg ?_
     exact⟨by simp,hx⟩
   . intro hq
     exfalso
     have hq:(!Qij c || !l.all Xp)=false:=hq
     revert hq hf
     cases Qij c <;> cases l.all Xp <;> simp
 have hcf:Qij c=true:=(Bool.and_eq_true_iff.1 (hall _ (List.mem_cons_self ..))).1;have hmT:∀ e∈T1,Xp e=true:=List.all_eq_true.1 (Bool.and_eq_true_iff.1 (hall _ (List.mem_cons_self ..))).2;have hmD:∀ e∈D1,Xp e=true:=List.all_eq_true.1 (Bool.and_eq_true_iff.1 (hall _ (List.mem_cons_of_mem _ (List.mem_singleton.2 rfl)))).2;have hm:∀ e∈l,Xp e=true:=fun e he=>(hLm e he).elim (hmT e) (hmD e)
 have hlall:l.all Xp=true:=List.all_eq_true.2 hm;clear hall;obtain⟨p1,p2,rfl⟩:=Xao (hB.len);refine Gg ?_;refine⟨Qj8 c,⟨rfl,g6.all⟩,Gg ?_⟩;refine(Qg7 c w7).mono ?_;rintro _ w8 ⟨rfl,hx8⟩;refine Gg ?_;refine⟨Unit,fun _=>(.bool (l.all Xp)),fun _ w'=>Ext w8 w',(),fun hg=>((Qyy l A cap w8 (hs.ext (hx.trans hx8)) (by omega) ht4)).mono fun r w' h=>⟨(),h.1,h.2⟩,?_⟩;intro _ w9 h2
 have hx9:Ext w8 w9:=by
  rcases h2 with⟨_,h⟩ | ⟨_,h⟩
  . exact h
  . rw[h];exact Ext.refl _
 clear h2
 conv=>whnf
 have hx89:=hx8.trans hx9;replace g6:=g6.ext hx89;replace g7:=g7.ext hx89;replace hx:=hx.trans hx89;replace hB:=hB.ext hx89;replace hown:=hown.ext hx89;have hz89:=hx89.size;clear hx8 hx9 hx7 hx89;refine Gg ?_;constructor
 . intro hq
   exfalso
   have hq:(!Qij c || !l.all Xp)=true:=hq;rw[hcf,hlall] at hq
   cases hq
 intro _;refine Gg ?_;constructor
 . intro hq;simp at hq
 intro _;have hA'b:∀ a,A'=some a->Qlv A' a.block:=fun a ha=>by rw[ha];rfl
 have hA'l:∀ k,Qlv A' k->w6.heap.size<=k/\k<w9.heap.size:=fun k h=>by
  obtain⟨a,ha,rfl⟩:=Option.map_eq_some_iff.1 h
  exact hown.block ha
 have hsW:=hown.sl Qmt;have hz9:=hx.size;obtain⟨PP,α,β,hP0,hP1,hB⟩:∃ (PP:List Prt) (α β:Option Addr×Nat),PP[0]? = some (T1,α)/\PP[1]? = some (D1,β)/\Beside w9 w6.heap.size c (Qlv A') PP [p1,p2] T:=⟨_,_,_,rfl,rfl,hB⟩;refine Gg ?_
 refine Qd Qa (fun(q:Nat×(Nat->Nat->Prop)) w'=>q.1<=2/\Beside w' w6.heap.size c (Qlv A') PP [p1,p2] q.2/\Mod (fun k=>w6.heap.size<=k/\¬ Qlv A' k) w9 w')
  (fun | (k,_) => [(2,.slice A l.length cap),(3,.int .i64 (t:Nat)),(4,.string item),(5,.int .i64 now),(6,.pointer (some ⟨b6,0,none⟩)),(7,.pointer (some ⟨b7,0,none⟩)),(13,.slice A' 2 c'),(15,.int .i64 (k:Nat))]) (fun q=>2-q.1) (0,T) ⟨by simp,hB,Mod.refl _ _⟩ Rr ?_
 rintro ⟨k,Tk⟩ wa ⟨hk,hBa,hMa⟩;simp only at hk hBa;have hxa:Ext w wa:=Qb7 hx hMa fun k hk=>by have:=hk.1;omega
 have g6a:=g6.mod hMa (fun h=>by have:=h.1;omega);have g7a:=g7.mod hMa (fun h=>by have:=h.1;omega);have hsWa:=Xa0.stay (w1:=wa) hsW fun a ha hl=>hMa.block _ hl fun h=>h.2 (hA'b a ha)
 have hza:=hMa.size;refine Gg ?_;constructor
 . intro hlt
   have hlt:k<2:=by
    have:(k:Int)<2:=by simpa using hlt
    omega
   rcases (show k=0\/k=1 by omega) with rfl | rfl
   . refine Gg ?_
     refine⟨⟨by omega,by omega,by omega,by omega⟩,Gg ?_⟩;constructor
     . intro h;simp at h
     intro _;refine Gg ?_;refine Dr (.mods (Tk 0)) [0,1,2,3,4,6,7,9,5,8] [10,11] (Hh ?_);have hxd:Ext wa wa.drew:=(Ext.refl wa).drew;have hBd:=hBa.ext hxd;have g6d:=g6a.ext hxd;have hsWd:=hsWa.ext hxd;have hxw:=hxa.trans hxd;have hzd:=hxd.size;generalize wa.drew=wb at hxd hBd g6d hsWd hxw hzd ⊢;obtain⟨a,hAa,hc⟩:=hsWd.get (show 0 < [p1,p2].length by simp);refine⟨a,⟨hAa,by omega,by omega⟩,Gg ?_⟩;refine⟨.pointer (some ⟨p1,0,none⟩),⟨Qp hc,fun h=>(hBd.low 0 _ h).2.2 (by rw[add_block];exact hA'b a hAa)⟩,Gg ?_⟩;refine⟨Qj8 c,⟨rfl,g6d.all,fun h=>by have:=(hBd.low 0 b6 h).1;omega⟩,Gg ?_⟩;have hzl:=Qhp T1;refine(Q3w (hBd.wt 0 _ _ hP0 rfl) (hg0.ext hxw) hcf (by(try simp only);omega) (fun k' h=>by have:=(hBd.low 0 k' h).1;omega) now).mono ?_;rintro _ wc ⟨T',rfl,hW',hT',hMc⟩;refine⟨hMc,Gg ?_⟩;have hzc:=hMc.size;have hBc:=hBd.upd hP0 rfl (by omega) hW' hT' (fun k' h=>by have:=(hA'l k' h).2;omega) hMc;have hxc:=Qb7 hxw hMc fun k' h=>by have:=(hBd.low 0 k' h).1;omega
     have hcal:=Qt8 T1 _ (cap-0) wc (hsk.ext hxc) (by omega) hmT;rw[hkm] at hcal;refine hcal.mono ?_;rintro _ we ⟨Ai,ci,rfl,hsI,⟨hci,_⟩,hxe⟩;refine⟨Mod.of_ext hxe,Gg ?_⟩;refine(Qlk c hcf (Qd5 T1) Ai ci hci now we hsI (by omega) (fun e he=>hmT e (Qhq he)) (fun e he=>Nat.lt_trans (Qb9 (hmT e (Qhq he))) (by decide)) (Qi1 hmT)).mono ?_;rintro _ wf ⟨rfl,hxf⟩;refine Gg ?_;constructor
     . intro h;simp at h
     intro _;refine Gg ?_;refine⟨_,wrap_succ (by omega),Gg ?_⟩;refine⟨(0+1,_),by(try simp only);omega,⟨by simp,(hBc.ext hxe).ext hxf,(hMa.trans (Mod.of_ext hxd)).trans ((hMc.mono fun k' _ h=>⟨(hBd.low 0 k' h).1,(hBd.low 0 k' h).2.2⟩).trans (Mod.of_ext (hxe.trans hxf)))⟩,Rr⟩
   . refine Gg ?_
     refine⟨⟨by omega,by omega,by omega,by omega⟩,Gg ?_⟩;constructor
     case' left=>intro _
     case' right=>intro h;simp at h
     refine Gg ?_;refine⟨⟨by omega,by omega,by omega,by omega⟩,?_⟩;refine Gg ?_;refine Dr (.mods (Tk 1)) [0,1,2,3,4,6,7,9,5,8] [10,11] (Hh ?_);have hxd:Ext wa wa.drew:=(Ext.refl wa).drew;have hBd:=hBa.ext hxd;have g6d:=g6a.ext hxd;have hsWd:=hsWa.ext hxd;have hxw:=hxa.trans hxd;have hzd:=hxd.size;generalize wa.drew=wb at hxd hBd g6d hsWd hxw hzd ⊢;obtain⟨a,hAa,hc⟩:=hsWd.get (show 1 < [p1,p2].length by simp);refine⟨a,⟨hAa,by omega,by omega⟩,Gg ?_⟩;refine⟨.pointer (some ⟨p2,0,none⟩),⟨Qp hc,fun h=>(hBd.low 1 _ h).2.2 (by rw[add_block];exact hA'b a hAa)⟩,Gg ?_⟩;refine⟨Qj8 c,⟨rfl,g6d.all,fun h=>by have:=(hBd.low 1 b6 h).1;omega⟩,Gg ?_⟩;have hzl:=Qhp D1;refine(Q3w (hBd.wt 1 _ _ hP1 rfl) (hg0.ext hxw) hcf (by(try simp only);omega) (fun k' h=>by have:=(hBd.low 1 k' h).1;omega) now).mono ?_;rintro _ wc ⟨T',rfl,hW',hT',hMc⟩;refine⟨hMc,Gg ?_⟩;have hzc:=hMc.size;have hBc:=hBd.upd hP1 rfl (by omega) hW' hT' (fun k' h=>by have:=(hA'l k' h).2;omega) hMc;have hxc:=Qb7 hxw hMc fun k' h=>by have:=(hBd.low 1 k' h).1;omega
     have hcal:=Qt8 D1 _ (cap-t) wc (hsd.ext hxc) (by omega) hmD;rw[hdl] at hcal;refine hcal.mono ?_;rintro _ we ⟨Ai,ci,rfl,hsI,⟨hci,_⟩,hxe⟩;refine⟨Mod.of_ext hxe,Gg ?_⟩;refine(Qlk c hcf (Qd5 D1) Ai ci hci now we hsI (by omega) (fun e he=>hmD e (Qhq he)) (fun e he=>Nat.lt_trans (Qb9 (hmD e (Qhq he))) (by decide)) (Qi1 hmD)).mono ?_;rintro _ wf ⟨rfl,hxf⟩;refine Gg ?_;constructor
     . intro h;simp at h
     intro _;refine Gg ?_;refine⟨_,wrap_succ (by omega),Gg ?_⟩;refine⟨(1+1,_),by(try simp only);omega,⟨by simp,(hBc.ext hxe).ext hxf,(hMa.trans (Mod.of_ext hxd)).trans ((hMc.mono fun k' _ h=>⟨(hBd.low 1 k' h).1,(hBd.low 1 k' h).2.2⟩).trans (Mod.of_ext (hxe.trans hxf)))⟩,Rr⟩
 . intro hge
   have hge:¬ k<2:=by
    have:¬ (k:Int)<2:=by simpa using hge
    omega
   obtain rfl:k=2:=by omega
   refine Gg ?_;refine⟨Qj8 d,⟨rfl,g7a.all⟩,Gg ?_⟩;refine(Qg7 d wa).mono ?_;rintro _ wb ⟨rfl,hxb⟩;replace g6a:=g6a.ext hxb;replace g7a:=g7a.ext hxb;replace hsWa:=hsWa.ext hxb;replace hBa:=hBa.ext hxb;replace hxa:=hxa.trans hxb;refine Gg ?_;refine⟨_,fun _=>g7a.one rfl,Gg ?_⟩;refine⟨_,fun _=>g6a.one rfl,Gg ?_⟩;refine⟨_,fun _=>g7a.one rfl,Gg ?_⟩;refine⟨_,fun _=>g6a.one rfl,Gg ?_⟩;constructor
   . intro _
     refine Gg ?_
     exact⟨rfl,hxa⟩
   intro hq;have hq:((!Qij d||decide (d.half=c.half))||decide (d.width=c.width))=false:=hq;simp only[Bool.or_eq_false_iff,Bool.not_eq_false',decide_eq_false_iff_not] at hq;obtain⟨⟨hdf,hne1⟩,hne2⟩:=hq;have hci:=Qpi hcf;have hdi:=Qpi hdf;have hneh:¬ Qv d.half=Qv c.half:=by rw[Qkg hdi.1,Qkg hci.1];exact hne1
   have hnew:¬ Qv c.width=Qv d.width:=by rw[Qkg hdi.2.1,Qkg hci.2.1];exact fun e=>hne2 e.symm
   refine Gg ?_;refine⟨Qj8 d,⟨rfl,g7a.all⟩,Gg ?_⟩;refine(Qpv d l A cap wb (hg0.ext hxa) (hs.ext hxa) (by omega) ht3).mono ?_;rintro _ wc ⟨pp,e,rfl,hxc,hor⟩;rcases hor with⟨hf,_⟩ | ⟨_,rfl,bx,Tx,rfl,hWx,hTx⟩
   . rw[hdf,hlall] at hf;cases hf
   obtain⟨v0,T00,hQ0,_⟩:=(hBa.ext hxc).wt 0 _ _ hP0 rfl;obtain⟨vx,Tx0,hQx,_⟩:=hWx;replace hsWa:=hsWa.ext hxc;replace hxa:=hxa.trans hxc;clear hTx hBa hMa hxc hxb g6a g7a hB;have hzT:=Qhp T1;have hzl:=Qhp l;have hm0:=hQ0.may;have hmx:=hQx.may;simp only at hQ0 hm0;generalize Qd5 T1=z0 at hQ0 hm0 hzT;generalize Qd5 l=zx at hQx hmx hzl;have hokx:=Xcm d.width hmx (by omega);refine Gg ?_;refine Dr .ext [0,1,2,3,4,5,6,9,10,12,13,14,16,17,7,8,11,15,18,19,20,21,22,23,24,25,28,29,31,33,34,26,27,30,32] [35,36,37,38] (Hh ?_);have hxd:Ext wc wc.drew:=(Ext.refl wc).drew;replace hsWa:=hsWa.ext hxd;replace hQ0:=hQ0.ext hxd;replace hQx:=hQx.ext hxd;replace hxa:=hxa.trans hxd;generalize wc.drew=wd at hsWa hQ0 hQx hxa ⊢;clear hxd;obtain⟨a,hAa,hc⟩:=hsWa.get (show 0 < [p1,p2].length by simp);have hc1:wd.cell? (a.add (0*1))=some (.pointer (some ⟨p1,0,none⟩)):=Qp hc;refine⟨a,fun _=>⟨hAa,by omega,by omega⟩,Hh ?_⟩;refine⟨.pointer (some ⟨p1,0,none⟩),fun _=>hc1,Hh ?_⟩;refine⟨a,fun _=>⟨hAa,by omega,by omega⟩,Hh ?_⟩;refine⟨.pointer (some ⟨p1,0,none⟩),fun _=>hc1,Hh ?_⟩;refine⟨Nat,fun b => .slice (some ⟨b,0,none⟩) 2 2,fun b w'=>Sl Q62 1 w' (some ⟨b,0,none⟩) [p1,bx]/\Ext wd w',0,fun _ => ?_,?_⟩
   . (conv=>whnf)
     intro b w1 hn
     exact⟨b,rfl,Qbf Qmt (l := [p1,bx]) hn,hn.ext⟩
   intro bs we hqe;replace hqe:=hqe.elim (fun h=>h.2) fun h=>(h.1 (And.intro (by first | rfl | simp | decide) trivial)).elim
   obtain⟨hsl,hxe⟩:=hqe;replace hsWa:=hsWa.ext hxe;replace hQ0:=hQ0.ext hxe;replace hQx:=hQx.ext hxe;replace hxa:=hxa.trans hxe;refine⟨hxe,Hh ?_⟩;refine⟨(Nat×Int×Qih),(fun i => .pointer (some ⟨i.1,0,none⟩)),(fun i w'=>Qls w' (fun k=>we.heap.size<=k) i.1 (Qv c.half) i.2.1 i.2.2/\Q3a i.2.2 (Ql c.width z0).ds/\Ext we w'),(0,0,[]),fun _=>((Qo5 hQ0 hQx hneh _ 2 hsl (by decide)).mono fun r w' ⟨p',n,s',h1,h2,h3,h4⟩=>⟨(p',n,s'),h1,h2,h3,h4⟩),?_⟩;rintro iwf wf hqwf;replace hqwf:=hqwf.elim (fun h=>h.2) fun h=>(h.1 (And.intro (by first | rfl | simp | decide) trivial)).elim
   obtain⟨hctf,hsame,hxf⟩:=hqwf;replace hsWa:=hsWa.ext hxf;replace hQ0:=hQ0.ext hxf;replace hQx:=hQx.ext hxf;replace hxa:=hxa.trans hxf;refine⟨hxf,Hh ?_⟩;refine⟨Unit,(fun _ => .int .i64 (Qaf (Ql c.width z0).ds (Qv c.half) item now)),(fun _ w'=>Ext wf w'),(),fun _=>((Qj9 wf _ _ _ _ _ hctf item now hnow (Xb8 hm0 hsame item)).mono fun r w' h=>⟨(),by rw[h.1,Qqv hsame],h.2⟩),?_⟩;rintro iwg wg hqwg;replace hqwg:=hqwg.elim (fun h=>h.2) fun h=>(h.1 (And.intro (by first | rfl | simp | decide) trivial)).elim
   replace hsWa:=hsWa.ext hqwg;replace hQ0:=hQ0.ext hqwg;replace hQx:=hQx.ext hqwg;replace hxa:=hxa.trans hqwg;refine⟨hqwg,Hh ?_⟩;refine⟨(Nat×(Nat->Prop)),(fun i => .pointer (some ⟨i.1,0,none⟩)),(fun i w'=>Qls w' i.2 i.1 (Qv c.half) (Ql c.width z0).dn (Ql c.width z0).ds/\Ext wg w'),(0,fun _=>False),fun _=>((Qgg hQ0).mono fun r w' ⟨pd,S,h1,h2,h3⟩=>⟨(pd,S),h1,h2,h3⟩),?_⟩;rintro iwh wh hqwh;replace hqwh:=hqwh.elim (fun h=>h.2) fun h=>(h.1 (And.intro (by first | rfl | simp | decide) trivial)).elim
   obtain⟨hcth,hxh⟩:=hqwh;replace hsWa:=hsWa.ext hxh;replace hQ0:=hQ0.ext hxh;replace hQx:=hQx.ext hxh;replace hxa:=hxa.trans hxh;refine⟨hxh,Hh ?_⟩;refine⟨Unit,(fun _ => .int .i64 (Qaf (Ql c.width z0).ds (Qv c.half) item now)),(fun _ w'=>Ext wh w'),(),fun _=>((Qj9 wh _ _ _ _ _ hcth item now hnow (Xb8 hm0 (fun _=>rfl) item)).mono fun r w' h=>⟨(),h.1,h.2⟩),?_⟩;rintro iwi wi hqwi;replace hqwi:=hqwi.elim (fun h=>h.2) fun h=>(h.1 (And.intro (by first | rfl | simp | decide) trivial)).elim
   replace hsWa:=hsWa.ext hqwi;replace hQ0:=hQ0.ext hqwi;replace hQx:=hQx.ext hqwi;replace hxa:=hxa.trans hqwi;refine⟨hqwi,Hh ?_⟩;obtain⟨a2,hAa2,hc2⟩:=hsWa.get (show 0 < [p1,p2].length by simp);refine⟨a2,fun _=>⟨hAa2,by omega,by omega⟩,Hh ?_⟩;refine⟨.pointer (some ⟨p1,0,none⟩),fun _=>Qp hc2,Hh ?_⟩;refine⟨Nat,fun b => .slice (some ⟨b,0,none⟩) 2 2,fun b w'=>Sl Q62 1 w' (some ⟨b,0,none⟩) [bx,p1]/\Ext wi w',0,fun _ => ?_,?_⟩
   . (conv=>whnf)
     intro b w1 hn
     exact⟨b,rfl,Qbf Qmt (l := [bx,p1]) hn,hn.ext⟩
   intro bs2 wj hqj;replace hqj:=hqj.elim (fun h=>h.2) fun h=>(h.1 (And.intro (by first | rfl | simp | decide) trivial)).elim
   obtain⟨hsl2,hxj⟩:=hqj;replace hQ0:=hQ0.ext hxj;replace hQx:=hQx.ext hxj;replace hxa:=hxa.trans hxj;refine⟨hxj,Hh ?_⟩;refine⟨(Nat×Int),(fun i => .pointer (some ⟨i.1,0,none⟩)),(fun i w'=>Qo9 w' (fun k=>wj.heap.size<=k) i.1 (Qv d.width) i.2 (Ql d.width zx).ps/\Ext wj w'),(0,0),fun _=>((Quk hQx hQ0 hnew (fun key=>by have:=Qnz (Ql d.width zx).ps key;have:=hokx.len;omega) _ 2 hsl2 (by decide)).mono fun r w' ⟨p',n,h1,h2,h3⟩=>⟨(p',n),h1,h2,h3⟩),?_⟩;rintro iwk wk hqwk;replace hqwk:=hqwk.elim (fun h=>h.2) fun h=>(h.1 (And.intro (by first | rfl | simp | decide) trivial)).elim
   obtain⟨hpak,hxk⟩:=hqwk;replace hQx:=hQx.ext hxk;replace hxa:=hxa.trans hxk;refine⟨hxk,Hh ?_⟩;refine⟨Unit,(fun _ => .int .i64 (paS (Ql d.width zx).ps item (0/Qv d.width) (now/Qv d.width))),(fun _ w'=>Ext wk w'),(),fun _=>((Qks wk _ _ _ _ _ hpak (by unfold Qv;omega) _ hokx item 0 now (by omega) (by omega)).mono fun r w' h=>⟨(),h.1,by rw[h.2];exact Ext.refl _⟩),?_⟩;rintro iwl wl hqwl;replace hqwl:=hqwl.elim (fun h=>h.2) fun h=>(h.1 (And.intro (by first | rfl | simp | decide) trivial)).elim
   replace hQx:=hQx.ext hqwl;replace hxa:=hxa.trans hqwl;refine⟨hqwl,Hh ?_⟩;refine⟨(Nat×(Nat->Prop)),(fun i => .pointer (some ⟨i.1,0,none⟩)),(fun i w'=>Qo9 w' i.2 i.1 (Qv d.width) (Ql d.width zx).pn (Ql d.width zx).ps/\Ext wl w'),(0,fun _=>False),fun _=>((Qis hQx).mono fun r w' ⟨pd,S,h1,h2,h3⟩=>⟨(pd,S),h1,h2,h3⟩),?_⟩;rintro iwm wm hqwm;replace hqwm:=hqwm.elim (fun h=>h.2) fun h=>(h.1 (And.intro (by first | rfl | simp | decide) trivial)).elim
   obtain⟨hpam,hxm⟩:=hqwm;replace hxa:=hxa.trans hxm;refine⟨hxm,Hh ?_⟩;refine⟨Unit,(fun _ => .int .i64 (paS (Ql d.width zx).ps item (0/Qv d.width) (now/Qv d.width))),(fun _ w'=>Ext wm w'),(),fun _=>((Qks wm _ _ _ _ _ hpam (by unfold Qv;omega) _ hokx item 0 now (by omega) (by omega)).mono fun r w' h=>⟨(),h.1,by rw[h.2];exact Ext.refl _⟩),?_⟩;rintro iwn wn hqwn;replace hqwn:=hqwn.elim (fun h=>h.2) fun h=>(h.1 (And.intro (by first | rfl | simp | decide) trivial)).elim
   refine Gg ?_
   exact⟨by simp,hxa.trans hqwn⟩
end Go.Proofs.YteabekcdcphjpaaGreatDoor
