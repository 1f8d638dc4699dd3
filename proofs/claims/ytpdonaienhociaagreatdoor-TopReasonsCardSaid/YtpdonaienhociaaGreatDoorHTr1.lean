import Derived.Test.YtpdonaienhociaaGreatDoorGSC
import Derived.Test.YtpdonaienhociaaGreatDoorGSD
set_option linter.all false
namespace Go.Proofs.YtpdonaienhociaaGreatDoor
open Go.Se Go.RowKit
set_option maxHeartbeats 8000000 in
theorem topReasons_spec (bs:List Nat) (A:Option Addr) (cp who:Nat) (w:World) (hg0:Gl w) (hkn:Q15 w) (hs:Sl u8C 1 w A bs) (hb:∀ x∈bs,x<256) :
 Cal Tryz.prog 4 [.slice A bs.length cp,.int .u8 (who:Nat)] w fun r w'=>r = .bool true/\Ext w w':=by
 have hsz:=hg0.size;obtain⟨P,hP⟩:∃ P,Xh9[who % 4]? = some P:=⟨_,Zd (show who % 4<4 by omega)⟩;have hPn:=Qv1 hP;refine Fi Tryz.func4 rfl _ rfl rfl (Hh ?_);refine(Qnc bs A cp w hg0 hkn hs hb).mono ?_;rintro _ w1 ⟨hx1,rfl | ⟨c,every,seed,B,d,l,t,rfl,⟨hcf,hev,hsd⟩,⟨hap,hsrc⟩,hl,ht,hsl⟩⟩
 . refine Gg ?_;intro p6 w2 hn2;refine Gg ?_;refine Qc Qb (e:=ty32) rfl hn2.At rfl rfl rfl (by simp[Qg,ty32,Value.oneCell']) fun w3 g6 ho3 => ?_
   have hx:=hx1.trans (ho3.ext hn2.ext (by rw[hn2.block];exact Zg _));clear ho3 hn2 g6;refine Gg ?_;refine(Qc9 w3 (hg0.ext hx) (hkn.ext hx)).mono ?_;rintro _ w4 ⟨rfl,hx4⟩;refine Gg ?_;constructor
   . intro _;refine Gg ?_;refine(Qc9 w4 (hg0.ext (hx.trans hx4)) (hkn.ext (hx.trans hx4))).mono ?_;rintro _ w5 ⟨rfl,hx5⟩;refine Gg ?_;exact⟨rfl,(hx.trans hx4).trans hx5⟩
   . intro h;simp at h
 refine Gg ?_;intro p6 w2 hn2;refine Gg ?_;refine Qc Qb (e:=ty32) rfl hn2.At rfl rfl rfl (by simp[Qg,Qap,Value.oneCell']) fun w3 g6 ho3 => ?_
 have g6:At w3 p6 32 (Qap c (Qaq 6) every seed):=g6;have hx13:Ext w1 w3:=ho3.ext hn2.ext (by rw[hn2.block];exact Zg _);have hx:=hx1.trans hx13;replace hsl:=hsl.ext hx13;have b6:w.heap.size<=p6:=by rw[hn2.block];exact hx1.size
 clear ho3 hn2 hx13 hx1;refine Gg ?_;refine(Qc9 w3 (hg0.ext hx) (hkn.ext hx)).mono ?_;rintro _ w4 ⟨rfl,hx4⟩;replace hx:=hx.trans hx4;replace hsl:=hsl.ext hx4;replace g6:=g6.ext hx4;clear hx4 hs hb;refine Gg ?_;constructor
 . intro h;simp at h
 intro _;have hhead:∀ {w':World},At w' p6 32 (Qap c (Qaq 6) every seed)->w'.cell? ((⟨p6,0,none⟩:Addr).add 5)=some (vi c.crowd):=fun h=>h.one rfl
 refine Gg ?_;refine(Qos w4).mono ?_;rintro _ w5 ⟨rfl,ha,hx5⟩;refine Gg ?_;refine⟨((who % 4:Nat):Int),tmn (b:=4) (by decide),Gg ?_⟩;refine⟨⟨w4.heap.size,0,none⟩,Ix,Gg ?_⟩;refine⟨.string P,Q8c ha hP,Gg ?_⟩;replace hx:=hx.trans hx5;replace hsl:=hsl.ext hx5;replace g6:=g6.ext hx5;clear ha hx5 hP;refine⟨Qrp c,⟨rfl,Xai g6⟩,Gg ?_⟩;refine(Qvk c hcf l B d w5 (hg0.ext hx) hsl Om hap.may).mono ?_;rintro _ w6 ⟨p,rfl,hW,hx6⟩;obtain⟨T,hWT,hT⟩:=hW.t;have s5:=hx.size;have l6:=g6.lt;have n6:¬ T p6:=fun h=>by have:=hT _ h;omega
 have hTw:∀ k,T k->w.heap.size<=k:=fun k hk=>by have:=hT k hk;omega
 replace hx:=hx.trans hx6;replace g6:=g6.ext hx6;have hzl:=Qmj l;have hm:=hW.may;have s6:=hx6.size;clear hW hx6 hsl;generalize Qma l=z at hWT hzl hm;have hok:Qm7 c z:=⟨hcf,Om⟩;refine Gg ?_;constructor
 . intro h;simp at h
 intro _;refine Gg ?_;refine⟨Qap c (Qaq 6) every seed,⟨rfl,g6.all⟩,Gg ?_⟩;refine(Qlw hWT hok (hg0.ext hx) (fun k hk=>by have:=hTw k hk;omega) every seed hev P hPn t ⟨Om,Om⟩).mono ?_;rintro _ w7 ⟨AI,cI,AX,cX,X,AY,cY,T7,rfl,hoI,hoX,hXl,hoY,hXs,hIT,hXT,hYT,hW7,hT7,hM7⟩;have hIl:=Q9d (c:=c) hm every seed P t;generalize Q4g c z every seed P t=I at hoI hXl hoY hXs hIl ⊢;have hsI:=hoI.sl Qw;have hsX:=hoX.sl Q9c;have hIb:∀ a,AI=some a->a.block<w7.heap.size:=fun a ha=>(hoI.block ha).2
 have hXb:∀ a,AX=some a->a.block<w7.heap.size:=fun a ha=>(hoX.block ha).2
 have hTw7:∀ k,T7 k->w.heap.size<=k:=fun k hk=>(hT7 k hk).elim (hTw k) fun h=>Om
 replace g6:=g6.mod hM7 n6;have n67:¬ T7 p6:=fun h=>(hT7 _ h).elim n6 fun h=>Om
 replace hx:=Qdr hx hTw hM7;have s7:=hM7.size;clear hoI hoX hoY hYT hM7 hT7 hWT;refine Gg ?_;intro b12 w8 hn8;refine Gg ?_;have e12:=hn8.block;refine Qc Qb (e:=ty48) rfl hn8.At rfl rfl rfl Oj fun w9 g12 ho9 => ?_
 have g12:At w9 b12 48 [.slice AI I.length cI,.slice AX I.length cX,.slice AY I.length cY,Vj 0]:=g12;have hx79:Ext w7 w9:=ho9.ext hn8.ext Om;clear ho9 hn8;have s9:=hx79.size;have n12:¬ T7 b12:=fun h=>by have:=hW7.lt _ h;omega
 replace hx:=hx.trans hx79;replace g6:=g6.ext hx79;replace hsI:=X7.stay hsI fun a ha hl=>hx79.block _ hl
 replace hsX:=Xdd.stay hsX fun a ha hl=>hx79.block _ hl
 replace hXs:RsL c z P t w6.heap.size w9 T7 I X:=hXs.keep s9 (fun k _ hk _=>hx79.block k hk) fun _ _ _ h=>h
 replace hW7:=hW7.ext hx79;clear hx79;refine Gg ?_;refine⟨.slice AX I.length cX,g12.one rfl,Gg ?_⟩;refine⟨.slice AI I.length cI,g12.one rfl,Gg ?_⟩;refine⟨.slice AY I.length cY,fun _=>g12.one rfl,Gg ?_⟩;refine⟨.slice AI I.length cI,fun _=>g12.one rfl,Gg ?_⟩;constructor
 . intro h;simp at h
 intro _;refine Gg ?_;refine⟨.slice AX I.length cX,g12.one rfl,Gg ?_⟩;have l12:=g12.lt;have l69:=g6.lt
 refine Qh Qb (fun(q:Nat×(Nat->Prop)) w'=>q.1<=I.length/\WT w' q.2 p c z/\(∀ i,q.2 i->T7 i\/w9.heap.size<=i)/\Mod T7 w9 w')
  (fun | (k,_) => [(6,Pj p6),(7,Vj t),(9,.string P),(10,Pj p),(12,Pj b12),(67,.slice AX I.length cX),(68,Vj I.length),(69,Vj (k:Nat))]) (fun q=>I.length-q.1) (0,T7) ⟨Zu _,hW7,fun i hi => .inl hi,Mod.refl _ _⟩ Rr ?_
 rintro ⟨k,T2⟩ w10 ⟨hk,hW10,hT2,hM10⟩;simp only at hk hW10 hT2;have s10:=hM10.size;refine Gg ?_;constructor
 . intro hlt;have hlt:k<I.length:=Su hlt;have hsX10:Sl reC 5 w10 AX X:=Xdd.stay hsX fun a ha hl=>hM10.block _ hl (hXT a ha)
   have hsI10:Sl Qab 1 w10 AI I:=X7.stay hsI fun a ha hl=>hM10.block _ hl (hIT a ha)
   obtain⟨a,rfl,hc⟩:=hsX10.get (show k<X.length by omega);obtain⟨x,hIx,hro⟩:=hXs k X[k] (Zd Om);obtain⟨ai,rfl,hci⟩:=hsI10 k x hIx;generalize X[k]=r at hc hro;obtain⟨item,A1,c1,tot,A2,n2,c2,fan⟩:=r;obtain⟨q1,q2,q3,q4,q5,q6,q7⟩:=hro;simp only at q1 q2 q3 q4 q5 q6 q7;subst q1 q2 q4;have hfan:=Xfq c z item;rw[<- q3] at hfan;have hown:∀ e∈Qvt c z P item t,e.person=P:=fun e he=>Q38 he
   have hQl:(Qlt (Qs6 c z P item t) (Qaq 6) 6).length=6:=Qs5 _ _ _;have hOl:=Xf6 c z P item t;have hg10:Gl w10:=(hg0.ext hx).mod hM10 fun i hi=>by have:=hTw7 i hi;omega
   have hck:=fun(w:World) (T:Nat->Prop) (hW:WT w T p c z) (hg:Gl w) (hT:∀ k,T k->10<=k) (tt ff:Int) (A1:Option Addr) (c1 n1:Nat) (Q1:List Pt) (A2:Option Addr) (c2 n2:Nat) (O1:List Ev)=>Q2n hW hok hg hT (Qaq 6) P item t tt ff A1 c1 n1 Q1 A2 c2 n2 O1
   rw[<- q3] at hck;generalize hTot:Qmi (Qlt (Qs6 c z P item t) (Qaq 6) 6)=tot at hck hc;generalize Qlt (Qs6 c z P item t) (Qaq 6) 6=Q at hck hQl q5 hTot;generalize Qvt c z P item t=O at hck hOl q6 hown hc;have hr1:Sl ptC 3 w10 A1 Q:=Q4n.stay q5 fun b hb hl=>hM10.block _ hl (q7 b (.inl hb)).2.2
   have hr2:SlE w10 A2 O:=Qk2.stay q6 fun b hb hl=>hM10.block _ hl (q7 b (.inr hb)).2.2
   have g610:=g6.mod hM10 n67;have g1210:=g12.mod hM10 n12;have n62:¬ T2 p6:=fun h=>(hT2 _ h).elim n67 fun h=>Om
   have n122:¬ T2 b12:=fun h=>(hT2 _ h).elim n12 fun h=>Om
   have m1:∀ b,A1=some b->¬ T2 b.block:=fun b hb h=>(hT2 _ h).elim (q7 b (.inl hb)).2.2 fun h=>by have:=(q7 b (.inl hb)).2.1;omega
   have m2:∀ b,A2=some b->¬ T2 b.block:=fun b hb h=>(hT2 _ h).elim (q7 b (.inr hb)).2.2 fun h=>by have:=(q7 b (.inr hb)).2.1;omega
   have hT10:∀ i,T2 i->10<=i:=fun i hi=>(hT2 i hi).elim (fun h=>by have:=hTw7 i h;omega) fun h=>Om
   have hl10:=hW10.lt;clear q5 q6 hsX10 hsI10;refine Gg ?_;refine⟨a,Ix,Gg ?_⟩;refine⟨reC ⟨item,A1,c1,tot,A2,O.length,c2,fan⟩,⟨rfl,hc⟩,Gg ?_⟩;intro b14 w11 hn11;refine Gg ?_;have e14:=hn11.block;refine Qc Qb (e:=ty72) rfl hn11.At rfl rfl rfl (by simp[Qg,reC,rsC,Value.oneCell']) fun w12 h14 ho12 => ?_
   have h14:At w12 b14 72 (rsC item A1 6 c1 tot A2 O.length c2 fan):=h14;have hx12:Ext w10 w12:=ho12.ext hn11.ext Om;clear ho12 hn11 hc;have s12:=hx12.size;have l14:=h14.lt;have g612:=g610.ext hx12;have g1212:=g1210.ext hx12;have hr12:=hr1.ext hx12;have hr22:=hr2.ext hx12;have hW12:=hW10.ext hx12;have hg12:=hg10.ext hx12;have n142:¬ T2 b14:=fun h=>by have:=hl10 _ h;omega
   have mI:¬ T2 ai.block:=fun h=>(hT2 _ h).elim (hIT ai rfl) fun h=>by have:=hIb ai rfl;omega
   clear g610 g1210 hr1 hr2;refine Gg ?_;refine Dr (.mods T2) [0,1,2,3,4,5,6,7,8,9,10,12,13,11,14,15,16,17,18,19,20,21,22,23,24,25,26,27,28,29,30,31,32,33,34,35,36,37,38] [] (Hh ?_);have hxd:Ext w12 w12.drew:=(Ext.refl w12).drew;replace h14:=h14.ext hxd;replace g612:=g612.ext hxd;replace g1212:=g1212.ext hxd;replace hr12:=hr12.ext hxd;replace hr22:=hr22.ext hxd;replace hW12:=hW12.ext hxd;replace hg12:=hg12.ext hxd;replace hx12:=hx12.trans hxd;generalize w12.drew=w12 at h14 g612 g1212 hr12 hr22 hW12 hg12 hx12 ⊢;have s12:=hx12.size;clear hxd;have htot:=Qrc Q A1 c1 w12 hr12 Om;rw[hQl,hTot] at htot;refine⟨.string item,⟨h14.one rfl,n142⟩,Hh ?_⟩;refine⟨.slice (some ai) I.length cI,⟨g1212.one rfl,n122⟩,Hh ?_⟩;refine⟨ai,Ix,Hh ?_⟩;refine⟨.string item,⟨(hx12.cells hci) 0 (.string item) rfl,by rw[add_block];exact mI⟩,Hh ?_⟩;refine⟨.slice A1 6 c1,fun _=>⟨h14.one rfl,n142⟩,Hh ?_⟩;refine⟨Vj tot,fun _=>⟨h14.one rfl,n142⟩,Hh ?_⟩;refine⟨Unit,(fun _ => Vj tot),(fun _ w'=>Ext w12 w'),(),fun _=>(htot.mono fun r w' h=>⟨(),h.1,h.2⟩),?_⟩;rintro iw13 w13 hqw13;replace hqw13:=hqw13.elim (fun h=>h.2) fun h=>(h.1 (And.intro (by first | rfl | simp | decide) trivial)).elim
   have hx13:=hqw13;refine⟨Mod.of_ext hx13,Hh ?_⟩;have s13:=hx13.size;have h143:=h14.ext hx13;have g613:=g612.ext hx13
   have hck2:Cal Tryz.prog 18 [Pj p,.agg (wsC (Qaq 6)).toArray,.string P,Vj t,.agg (rsC item A1 6 c1 tot A2 O.length c2 fan).toArray] w13 fun r w'=>∃ T',r = .bool true/\WT w' T' p c z/\(∀ k,T' k->T2 k\/w13.heap.size<=k)/\Mod T2 w13 w' :=
    (hck w13 T2 (hW12.ext hx13) (hg12.ext hx13) hT10 tot fan A1 c1 6 Q A2 c2 O.length O (hr12.ext hx13) (hr22.ext hx13) hQl.symm rfl Om Om m1 m2).mono fun r w' ⟨h1,⟨T',h2,h3⟩,h4⟩=>⟨T',by rw[h1,Q4i],h2,h3,h4⟩
   clear hck;refine⟨wsC (Qaq 6),fun _=>⟨rfl,Qtk g613,n62⟩,Hh ?_⟩;refine⟨rsC item A1 6 c1 tot A2 O.length c2 fan,fun _=>⟨rfl,h143.all,n142⟩,Hh ?_⟩;refine⟨(Nat->Prop),(fun _ => .bool true),(fun T' w'=>WT w' T' p c z/\(∀ k,T' k->T2 k\/w13.heap.size<=k)/\Mod T2 w13 w'),(fun _=>False),fun _=>hck2,?_⟩;rintro iw14 w14 hqw14;replace hqw14:=hqw14.elim (fun h=>h.2) fun h=>(h.1 (And.intro (by first | rfl | simp | decide) trivial)).elim
   obtain⟨hW14,hT14,hM14⟩:=hqw14;refine⟨hM14,Hh ?_⟩;have s14:=hM14.size;have h144:=h143.mod hM14 n142;have g614:=g613.mod hM14 n62;have hr24:SlE w14 A2 O:=Qk2.stay (hr22.ext hx13) fun b hb hl=>hM14.block _ hl (m2 b hb)
   have hM914:Mod T7 w9 w14:=Qn (hM10.trans (Mod.of_ext (hx12.trans hx13))) (hM14.mono fun i _ hi=>hT2 i hi);have hT9:∀ i,iw14 i->T7 i\/w9.heap.size<=i:=fun i hi=>(hT14 i hi).elim (hT2 i) fun h => .inr Om
   clear hck2 hM14 h143 g613 g612 g1212 hr12 hr22 hW12 hg12 hW10 hg10 htot h14;refine⟨Vj fan,fun _=>⟨h144.one rfl,n142⟩,Hh ?_⟩;refine⟨Vj fan,fun _ _=>⟨h144.one rfl,n142⟩,Hh ?_⟩;refine⟨vi c.crowd,fun _ _=>⟨hhead g614,n62⟩,Gg ?_⟩;constructor
   . intro h;exfalso;have h:¬ fan=0/\fan<c.crowd:=Su h;omega
   intro _;refine Gg ?_;refine⟨.slice A2 O.length c2,h144.one rfl,Gg ?_⟩
   refine Qh Qb (fun(j:Nat) w'=>j<=O.length/\Ext w14 w')
    (fun j => [(6,Pj p6),(7,Vj t),(9,.string P),(10,Pj p),(12,Pj b12),(67,.slice (some a) I.length cX),(68,Vj I.length),(69,Vj (k:Nat)),(114,.slice A2 O.length c2),(115,Vj O.length),(116,Vj (j:Nat))]) (fun j=>O.length-j) 0 ⟨Zu _,Ext.refl _⟩ Rr ?_
   rintro j w15 ⟨hj,hx15⟩;refine Gg ?_;constructor
   . intro hjl;have hjl:j<O.length:=Su hjl;obtain⟨ae,rfl,hce⟩:=(hr24.ext hx15).get hjl;have hpe:=hown O[j] (Zx hjl);generalize O[j]=e at hce hpe;refine Gg ?_;refine⟨ae,Ix,Gg ?_⟩;refine⟨evC e,⟨rfl,hce⟩,Gg ?_⟩;intro b16 w16 hn16;refine Gg ?_;refine Qc Qb (e:=ty77) rfl hn16.At rfl rfl rfl (by simp[Qg,evC,Value.oneCell']) fun w17 h16 ho17 => ?_
     have h16:At w17 b16 77 (evC e):=h16;have hx17:Ext w15 w17:=ho17.ext hn16.ext (by rw[hn16.block];exact Zg _);clear ho17 hn16;refine Gg ?_;refine⟨.string e.person,h16.one rfl,Gg ?_⟩;constructor
     . intro h;exfalso;simp[hpe] at h
     intro _;refine Gg ?_;refine⟨_,wrap_succ Om,Gg ?_⟩;exact⟨j+1,Om,⟨Om,hx15.trans hx17⟩,Rr⟩
   intro _;refine Gg ?_;refine⟨_,wrap_succ Om,Gg ?_⟩;exact⟨(k+1,iw14),Sj,⟨Sj,hW14.ext hx15,hT9,hM914.trans (Mod.of_ext hx15)⟩,Rr⟩
 intro _;refine Gg ?_;exact⟨rfl,Qdr hx hTw7 hM10⟩
theorem topReasonsI_spec (bs:List Nat) (A:Option Addr) (cp:Nat) (who:Int) (h1:0<=who) (w:World) (hg0:Gl w) (hkn:Q15 w) (hs:Sl u8C 1 w A bs) (hb:∀ x∈bs,x<256) :
 Cal Tryz.prog 4 [.slice A bs.length cp,.int .u8 who] w fun r w'=>r = .bool true/\Ext w w':=by
 obtain⟨m,rfl⟩:=Int.eq_ofNat_of_zero_le h1;exact topReasons_spec bs A cp m w hg0 hkn hs hb
