import Derived.Test.YtpdonaienhociaaGreatDoorGSC
import Derived.Test.YtpdonaienhociaaGreatDoorHTr2
set_option linter.all false
namespace Go.Proofs.YtpdonaienhociaaGreatDoor
open Go.Se Go.RowKit
theorem Xfs {α β:Type} (f:α->List β) (l:List α) (k:Nat):((l.take k).flatMap f).length<=(l.flatMap f).length:=by
 conv=>rhs;rw[<- Zah k l,Zbr,Zo]
 omega
set_option maxHeartbeats 16000000 in
theorem topRules_spec (bs:List Nat) (A:Option Addr) (cp who:Nat) (w:World) (hg0:Gl w) (hkn:Q15 w) (hs:Sl u8C 1 w A bs) (hb:∀ x∈bs,x<256) :
 Cal Tryz.prog 3 [.slice A bs.length cp,.int .u8 (who:Nat)] w fun r w'=>r = .bool true/\Ext w w':=by
 have hsz:=hg0.size;obtain⟨P,hP⟩:∃ P,Xh9[who % 4]? = some P:=⟨_,Zd (show who % 4<4 by omega)⟩;have hPn:=Qv1 hP;refine Fi Tryz.func3 rfl _ rfl rfl (Hh ?_);refine(Qnc bs A cp w hg0 hkn hs hb).mono ?_;rintro _ w1 ⟨hx1,rfl | ⟨c,every,seed,B,d,l,t,rfl,⟨hcf,hev,hsd⟩,⟨hap,hsrc⟩,hl,ht,hsl⟩⟩
 . refine Gg ?_;intro p6 w2 hn2;refine Gg ?_;refine Qc Qb (e:=ty32) rfl hn2.At rfl rfl rfl (by simp[Qg,ty32,Value.oneCell']) fun w3 g6 ho3 => ?_
   have hx:=hx1.trans (ho3.ext hn2.ext (by rw[hn2.block];exact Zg _));clear ho3 hn2 g6;refine Gg ?_;refine(Qc9 w3 (hg0.ext hx) (hkn.ext hx)).mono ?_;rintro _ w4 ⟨rfl,hx4⟩;refine Gg ?_;constructor
   . intro _;refine Gg ?_;refine(Qc9 w4 (hg0.ext (hx.trans hx4)) (hkn.ext (hx.trans hx4))).mono ?_;rintro _ w5 ⟨rfl,hx5⟩;refine Gg ?_;exact⟨rfl,(hx.trans hx4).trans hx5⟩
   . intro h;simp at h
 refine Gg ?_;intro p6 w2 hn2;refine Gg ?_;refine Qc Qb (e:=ty32) rfl hn2.At rfl rfl rfl (by simp[Qg,Qap,Value.oneCell']) fun w3 g6 ho3 => ?_
 have g6:At w3 p6 32 (Qap c (Qaq 6) every seed):=g6;have hx13:Ext w1 w3:=ho3.ext hn2.ext (by rw[hn2.block];exact Zg _);have hx:=hx1.trans hx13;have hq:=hx13;have b61:w1.heap.size<=p6:=by rw[hn2.block];exact Zg _
 have b6:w.heap.size<=p6:=Zv hx1.size b61;clear ho3 hn2 hx13 hx1;refine Gg ?_;refine(Qc9 w3 (hg0.ext hx) (hkn.ext hx)).mono ?_;rintro _ w4 ⟨rfl,hx4⟩;replace hx:=hx.trans hx4;replace hq:=hq.trans hx4;replace g6:=g6.ext hx4;clear hx4 hs hb;refine Gg ?_;constructor
 . intro h;simp at h
 intro _;refine Gg ?_;refine(Qos w4).mono ?_;rintro _ w5 ⟨rfl,ha,hx5⟩;refine Gg ?_;refine⟨((who % 4:Nat):Int),tmn (b:=4) (by decide),Gg ?_⟩;refine⟨⟨w4.heap.size,0,none⟩,Ix,Gg ?_⟩;refine⟨.string P,Q8c ha hP,Gg ?_⟩;replace hx:=hx.trans hx5;replace hq:=hq.trans hx5;replace g6:=g6.ext hx5;clear ha hx5 hP;refine Qc Qb (e:=ty3) (off:=18) rfl g6 rfl rfl rfl Oj fun w5a g60 ho60 => ?_
 replace g60:At w5a p6 32 (Qap c (Qaq 6) 0 seed):=g60;replace hsl:=hsl.ext (ho60.ext hq b61);replace hx:=ho60.ext hx b6;clear ho60 g6 hq;have g6:=g60;clear g60;refine Gg ?_;refine⟨Qrp c,⟨rfl,Xai g6⟩,Gg ?_⟩;refine(Qvk c hcf l B d w5a (hg0.ext hx) hsl Om hap.may).mono ?_;rintro _ w6 ⟨p,rfl,hW,hx6⟩;obtain⟨T,hWT,hT⟩:=hW.t;have s5:=hx.size;have l6:=g6.lt;have n6:¬ T p6:=fun h=>by have:=hT _ h;omega
 have hTw:∀ k,T k->w.heap.size<=k:=fun k hk=>by have:=hT k hk;omega
 replace hx:=hx.trans hx6;replace g6:=g6.ext hx6;have hzl:=Qmj l;have hm:=hW.may;have s6:=hx6.size;clear hW hx6 hsl;generalize Qma l=z at hWT hzl hm;have hok:Qm7 c z:=⟨hcf,Om⟩;refine Gg ?_;refine⟨_,g6.one rfl,Gg ?_⟩;refine(Qit w6 (hg0.ext hx)).mono ?_;rintro _ w7 ⟨⟨rb,rfl,hr,hrb⟩,hx7⟩;have s7:=hx7.size;have lr:=hr.lt;have nr:¬ T rb:=fun h=>by have:=hWT.lt _ h;omega
 replace hx:=hx.trans hx7;replace g6:=g6.ext hx7;replace hWT:=hWT.ext hx7;clear hx7;refine Gg ?_;constructor
 . intro h;simp at h
 intro _;refine Gg ?_;refine⟨Qap c (Qaq 6) 0 seed,⟨rfl,g6.all⟩,Gg ?_⟩;refine(Qlw hWT hok (hg0.ext hx) (fun k hk=>by have:=hTw k hk;omega) 0 seed ⟨Om,Om⟩ P hPn t ⟨Om,Om⟩).mono ?_;rintro _ w8 ⟨AI,cI,AX,cX,X,AY,cY,T8,rfl,hoI,hoX,hXl,hoY,hXs,hIT,hXT,hYT,hW8,hT8,hM8⟩;have hIl:=Q9d (c:=c) hm 0 seed P t;have hI:Q4g c z 0 seed P t=Qde c z P t:=by unfold Q4g;rw[if_neg Om]
 rw[hI] at hoI hoY hIl ⊢;have hpk:=Qvy c z P t;have hwhy:∀ x∈Qde c z P t,Qpl c z P x t=0:=fun x hx=>Q58 hx
 have hYall:(Qde c z P t).map (fun x=>decide (x∉Qde c z P t))=(Qde c z P t).map fun _=>false:=Za7 fun x hx=>by simp[hx]
 have hIS:(Qde c z P t).length=(Qf1 Xfb (Qtx c z (Qaq 6) P t 5)).length:=by unfold Qde;rw[Zf]
 rw[hYall] at hoY;generalize Qde c z P t=I at hoI hoY hIl hpk hwhy hIS ⊢;have hsI:=hoI.sl Qw;have hsY:=hoY.sl Q6m;have hIb:∀ a,AI=some a->a.block<w8.heap.size:=fun a ha=>(hoI.block ha).2
 have hYb:∀ a,AY=some a->a.block<w8.heap.size:=fun a ha=>(hoY.block ha).2
 have hTw8:∀ k,T8 k->w.heap.size<=k:=fun k hk=>(hT8 k hk).elim (hTw k) fun h=>Om
 replace g6:=g6.mod hM8 n6;replace hr:=hr.mod hM8 nr;have n68:¬ T8 p6:=fun h=>(hT8 _ h).elim n6 fun h=>Om
 have nr8:¬ T8 rb:=fun h=>(hT8 _ h).elim nr fun h=>Om
 replace hx:=Qdr hx hTw hM8;have s8:=hM8.size;clear hoI hoX hXl hXs hXT hoY hM8 hT8 hWT hI hYall X n6 nr;refine Gg ?_;intro b15 w9 hn9;refine Gg ?_;have e15:=hn9.block;refine Qc Qb (e:=ty48) rfl hn9.At rfl rfl rfl Oj fun w10 g15 ho10 => ?_
 have g15:At w10 b15 48 [.slice AI I.length cI,.slice AX I.length cX,.slice AY I.length cY,Vj 0]:=g15;have hx810:Ext w8 w10:=ho10.ext hn9.ext Om;clear ho10 hn9;have s10:=hx810.size;have n158:¬ T8 b15:=fun h=>by have:=hW8.lt _ h;omega
 replace hx:=hx.trans hx810;replace g6:=g6.ext hx810;replace hr:=hr.ext hx810;replace hsI:=X7.stay hsI fun a ha hl=>hx810.block _ hl
 replace hsY:=Q9o.stay hsY fun a ha hl=>hx810.block _ hl
 replace hW8:=hW8.ext hx810;clear hx810;refine Gg ?_;refine⟨_,g6.one rfl,Gg ?_⟩;have hP8:=Qjz (p:=p) hok;have hTl8:=hW8.lt;have hg10:Gl w10:=hg0.ext hx;refine(Qu4 hP8 hW8 hok (Qz5 c z hm hok.len).len P t 5 (by decide)).mono ?_;rintro _ w3 ⟨A,cp2,H,T',rfl,hF,hW3,hT3,hM3⟩;have hfew:=Qja (c:=c) hm P t 5;have hkeys:=hF.keys;have hHl:H.length=(Qgd c z P t 5).length:=by rw[<- hkeys,Zf]
 have hzl':=hok.len;have hsH:=hF.sl;have hnewH:=hF.new;have l610:=g6.lt;have lr10:=hr.lt;have l1510:=g15.lt;have hb6:¬ T' p6:=fun h=>(hT3 _ h).elim n68 fun h=>Om
 have hrbT:¬ T' rb:=fun h=>(hT3 _ h).elim nr8 fun h=>Om
 have hb15:¬ T' b15:=fun h=>(hT3 _ h).elim n158 fun h=>Om
 have hIT':∀ a,AI=some a->¬ T' a.block:=fun a ha h=>(hT3 _ h).elim (hIT a ha) fun h=>by have:=hIb a ha;omega
 have hYT':∀ a,AY=some a->¬ T' a.block:=fun a ha h=>(hT3 _ h).elim (hYT a ha) fun h=>by have:=hYb a ha;omega
 have h63:=g6.mod hM3 n68;have hr3:=hr.mod hM3 nr8;have h153:=g15.mod hM3 n158;have hsI3:Sl Qab 1 w3 AI I:=X7.stay hsI fun a ha hl=>hM3.block _ hl (hIT a ha)
 have hsY3:Sl boE 1 w3 AY (I.map fun _=>false):=Q9o.stay hsY fun a ha hl=>hM3.block _ hl (hYT a ha)
 have hTw3:∀ k,T' k->w.heap.size<=k:=fun k hk=>(hT3 k hk).elim (hTw8 k) fun h=>by have:=hx.size;omega
 have hx3:Ext w w3:=Qdr hx hTw8 hM3;have z3:=hM3.size;have hcho:Qtx c z (Qaq 6) P t 5=Xby c z (Qaq 6) P t (H.map (·.1)):=by rw[hkeys];rfl
 have hHz:H.length<1000:=Om;clear hF hkeys g6 hr g15 hsI hsY hM3 hT3 hfew hIT hYT n68 nr8 n158 hW8 hTl8 hg10;refine Gg ?_
 refine Qh Qb (fun(q:Nat×(Option Addr×Nat×List Ch)×(Nat->Prop)) w'=>q.1<=H.length/\q.2.1.2.2=Xby c z (Qaq 6) P t ((H.map (·.1)).take q.1)/\WT w' q.2.2 p c z/\(∀ i,q.2.2 i->T' i\/w3.heap.size<=i)/\Own chC 4 68 w3.heap.size w' q.2.1.1 q.2.1.2.1 q.2.1.2.2/\(∀ a,q.2.1.1=some a->¬ q.2.2 a.block)/\Mod T' w3 w')
  (fun | (k,(B,d,L),_) => [(6,Pj p6),(7,Vj t),(9,.string P),(10,Pj p),(12,Pj rb),(15,Pj b15),(16,.slice B L.length d),(17,.slice none 0 0),(78,.slice A H.length cp2),(79,Vj H.length),(80,Vj (k:Nat))]) (fun q=>H.length-q.1) (0,(none,0,[]),T') ⟨Zu _,rfl,hW3,fun i hi => .inl hi,Own.nil,(fun a ha=>by cases ha),Mod.refl _ _⟩ Rr ?_
 have hTl3:=hW3.lt;have l63:=h63.lt;have lr3:=hr3.lt;clear hW3;rintro ⟨k,⟨B,d,L⟩,T2⟩ w4 ⟨hk,hL,hW4,hT2,hoL,hBT,hM4⟩;simp only at hk hL hW4 hT2 hoL hBT;have z4:=hM4.size;have hLl:L.length<=k:=(by rw[hL];refine Zv (Q6t _ _ _ _ _ _) ?_;rw[Zn];omega);refine Gg ?_;constructor
 . intro hlt;have hlt:k<H.length:=Su hlt;have hs4:Sl cdC 2 w4 A H:=Xdb.stay hsH fun a ha hl=>hM4.block _ hl (hnewH a ha).2
   obtain⟨a,rfl,hc⟩:=hs4.get hlt;have hstep:=Q0g c z (Qaq 6) P t (H.map (·.1)) k (by rw[Zf];exact hlt);rw[<- hL,List.getElem_map] at hstep;generalize H[k]=y at hc hstep;obtain⟨x,yr⟩:=y;simp only at hstep;have h14:At w4 p6 _ _:=(hM4.block p6 l63 hb6).trans h63;have hr4:At w4 rb _ _:=(hM4.block rb lr3 hrbT).trans hr3;have hg4:Gl w4:=hg0.ext (Qdr hx3 hTw3 hM4);refine Gg ?_;refine⟨a,Ix,Gg ?_⟩;refine⟨cdC (x,yr),⟨rfl,hc⟩,Gg ?_⟩;intro b14 w5 hn5;refine Gg ?_;refine Qc Qb (e:=ty55) rfl hn5.At rfl rfl rfl (by simp[Qg,cdC,Value.oneCell']) fun w6 h6 ho6 => ?_
   have h6:At w6 b14 55 (cdC (x,yr)):=h6;have hx46:Ext w4 w6:=ho6.ext hn5.ext (by rw[hn5.block];exact Zg _);have e14:=hn5.block;clear ho6 hn5;refine Gg ?_;refine⟨.string x,h6.one rfl,Gg ?_⟩;refine(Qr8 (hP8.ext hW4 hx46) hok (hr4.ext hx46) P x t).mono ?_;rintro _ w7 ⟨rfl,hx7⟩;have hx47:=hx46.trans hx7;have h67:=h6.ext hx7;have h17:=h14.ext hx47;have hW7:=hP8.ext hW4 hx47;have hoL7:=hoL.ext hx47;have hg7:=hg4.ext hx47;have hM7:Mod T' w3 w7:=hM4.trans (Mod.of_ext hx47);have z7:=hx47.size;have hl4:=hW4.lt;clear hx46 hx7 h6 h14 hr4 hg4;refine Gg ?_;constructor
   . intro hq;have hq:¬ Qpl c z P x t=0:=(by have:¬ ((Qpl c z P x t:Nat):Int)=0:=Su hq;omega);rw[if_neg hq,Zw] at hstep;refine Gg ?_;refine⟨_,wrap_succ Om,Gg ?_⟩;exact⟨(k+1,(B,d,L),T2),Sj,⟨Sj,hstep.symm,hW7,hT2,hoL7,hBT,hM7⟩,Rr⟩
   intro hq;have hq:Qpl c z P x t=0:=(by have:((Qpl c z P x t:Nat):Int)=0:=Su hq;omega);rw[if_pos hq] at hstep;refine Gg ?_;have hQ7:∃ v T7,WQ w7 T7 p c z v:=hP8.wq hW7;obtain⟨v7,T7,hQ7⟩:=hQ7;refine Qiy (ι:=Nat) (fun b20 => [(6,Pj p6),(7,Vj t),(9,.string P),(10,Pj p),(12,Pj rb),(15,Pj b15),(16,.slice B L.length d),(17,.slice none 0 0),(19,Pj b14),(20,Pj b20),(78,.slice (some a) H.length cp2),(79,Vj H.length),(80,Vj (k:Nat))]) (fun b20 w'=>Ext w7 w'/\At w' b20 59 (itC (Qbr z x t))/\w7.heap.size<=b20) ?_ ?_
   . refine Qfr (.mods (fun k=>w7.heap.size<=k)) (Pl.seq [0,2,3,4] (Pl.two 1 (Pl.seq [] (Pl.two 5 (Pl.seq [6,7,8,9,10,11] Pl.done) 9 (Pl.seq [5,6,7,8,10,11] Pl.done))) 9 (Pl.seq [1,5,6,7,8,10,11] Pl.done))) (by intro h;cases h) Qb mixed Kr (Hh ?_);have l67:=h67.lt;have hx8:Ext w7 w7.drew:=(Ext.refl w7).drew;have h68:=h67.ext hx8;have hQ8:=hQ7.ext hx8;generalize w7.drew=w8 at hx8 h68 hQ8 ⊢;refine⟨.string x,⟨h68.one rfl,by rw[add_block];show ¬ (w7.heap.size<=b14);omega⟩,Hh ?_⟩;refine⟨?_,?_⟩
     . refine(Xh (hQ8)).mono ?_;rintro _ wc ⟨pc,Sc,rfl,hcat,hxc⟩;refine⟨Mod.of_ext hxc,Hh ?_⟩;refine⟨?_,?_⟩
       . refine(Q7 _ _ pc _ hcat x t hQ8.rows).mono ?_;rintro _ wa ⟨rfl,hxa⟩;refine⟨Mod.of_ext hxa,Hh ?_⟩;intro b20 wn hnn;have ei20:=hnn.block;refine⟨Mod.of_ext hnn.ext,Hh ?_⟩;refine Qc Qb (e:=ty59) rfl (hnn.At) rfl rfl rfl (by simp[Qg,itC,Value.oneCell']) fun wz hz hoz => ?_
         have hz:At wz b20 59 (itC (Qbr z x t)):=hz;have z8:=hx8.size;have zc:=hxc.size;have za:=hxa.size;refine⟨Qj hoz (by show w7.heap.size<=b20;omega),Hh ?_⟩;exact⟨b20,⟨hoz.ext ((hx8.trans hxc).trans (hxa.trans hnn.ext)) Om,hz,Om⟩,Rr⟩
       . intro b20 wn hnn;have ei20:=hnn.block;refine⟨Mod.of_ext hnn.ext,Hh ?_⟩;replace hcat:=hcat.ext hnn.ext;refine(Q7 _ _ pc _ hcat x t hQ8.rows).mono ?_;rintro _ wa ⟨rfl,hxa⟩;refine⟨Mod.of_ext hxa,Hh ?_⟩;refine Qc Qb (e:=ty59) rfl (hnn.At.ext hxa) rfl rfl rfl (by simp[Qg,itC,Value.oneCell']) fun wz hz hoz => ?_
         have hz:At wz b20 59 (itC (Qbr z x t)):=hz;have z8:=hx8.size;have zc:=hxc.size;refine⟨Qj hoz (by show w7.heap.size<=b20;omega),Hh ?_⟩;exact⟨b20,⟨hoz.ext ((hx8.trans hxc).trans (hnn.ext.trans hxa)) Om,hz,Om⟩,Rr⟩
     . intro b20 wn hnn;have ei20:=hnn.block;refine⟨Mod.of_ext hnn.ext,Hh ?_⟩;refine(Xh (hQ8.ext hnn.ext)).mono ?_;rintro _ wc ⟨pc,Sc,rfl,hcat,hxc⟩;refine⟨Mod.of_ext hxc,Hh ?_⟩;refine(Q7 _ _ pc _ hcat x t hQ8.rows).mono ?_;rintro _ wa ⟨rfl,hxa⟩;refine⟨Mod.of_ext hxa,Hh ?_⟩;refine Qc Qb (e:=ty59) rfl ((hnn.At.ext hxc).ext hxa) rfl rfl rfl (by simp[Qg,itC,Value.oneCell']) fun wz hz hoz => ?_
       have hz:At wz b20 59 (itC (Qbr z x t)):=hz;have z8:=hx8.size;refine⟨Qj hoz (by show w7.heap.size<=b20;omega),Hh ?_⟩;exact⟨b20,⟨hoz.ext (hx8.trans ((hnn.ext.trans hxc).trans hxa)) Om,hz,Om⟩,Rr⟩
   rintro b20 w9 ⟨hx9,hi20,hbi20⟩;have h69:=h67.ext hx9;have h19:=h17.ext hx9;have hW9:=hP8.ext hW7 hx9;have hoL9:=hoL7.ext hx9;have hg9:=hg7.ext hx9;have hM9:Mod T' w3 w9:=hM7.trans (Mod.of_ext hx9);have z9:=hx9.size;clear h67 h17 hW7 hoL7 hg7 hM7 hx9 hQ7;refine Gg ?_;refine⟨wsC (Qaq 6),⟨rfl,Qtk h19⟩,Gg ?_⟩;refine⟨.string x,h69.one rfl,Gg ?_⟩;refine(Qo0 hW9 hok hg9 (fun i hi=>(hT2 i hi).elim (fun q=>by have:=hTw3 i q;omega) fun q=>Om) (Qaq 6) P x t).mono ?_;rintro _ w10 ⟨A10,c10,T3,rfl,_,hW10,hT10,_,hM10⟩;have z10:=hM10.size;have h610:At w10 b14 _ _:=(hM10.block b14 h69.lt (fun h=>by have:=hl4 _ h;omega)).trans h69;have hi2010:At w10 b20 _ _:=(hM10.block b20 hi20.lt (fun h=>by have:=hl4 _ h;omega)).trans hi20;have hoL10:Own chC 4 68 w3.heap.size w10 B d L:=hoL9.keep fun b hb=>hM10.block _ (hoL9.block hb).2 (hBT b hb)
   have hM310:Mod T' w3 w10:=Qn hM9 (hM10.mono fun i _ hi=>(hT2 i hi).elim .inl .inr)
   have hT310:∀ i,T3 i->T' i\/w3.heap.size<=i:=fun i hi=>by
    rcases hT10 i hi with q | q
    . exact hT2 i q
    . exact .inr Om
   have hBT10:∀ b,B=some b->¬ T3 b.block:=fun b hb h=>by
    rcases hT10 _ h with q | q
    . exact hBT b hb q
    . have:=(hoL9.block hb).2;omega
   clear hM10 h69 hi20 hoL9 hM9 h19;refine Gg ?_;refine⟨.string x,h610.one rfl,Gg ?_⟩;refine⟨.string (Qbr z x t).maker,hi2010.one rfl,Gg ?_⟩;refine⟨.string (Qbr z x t).tags,hi2010.one rfl,Gg ?_⟩;intro b21 w11 hn11;refine Gg ?_;have z11:=hn11.ext.size;refine Qq Qgz (l:=L) (news := [chF c z (Qaq 6) P t x]) rfl (hoL10.ext hn11.ext) rfl (Qgz.new1 (x:=chF c z (Qaq 6) P t x) hn11) (by simp;omega) Om fun A12 c12 w12 hown12 hg12 hA12 => ?_
   have hr12:∀ i,B.map (·.block)=some i->w3.heap.size<=i:=Xq hoL10;have hl10:=hW10.lt
   have hk12:∀ i,T3 i->w12.heap[i]? = w10.heap[i]? := fun i hi=>by
    have:=hl10 i hi;rw[hg12.block i Om fun e => ?_]
    . exact hn11.ext.block i Om
    . cases hq:B with
      | none=>rw[hq] at e;simp at e
      | some b=>rw[hq] at e;simp at e;exact hBT10 b hq (e ▸ hi)
   have hW12:=hW10.keep hk12
   have hB12:∀ b,A12=some b->¬ T3 b.block:=fun b hb h=>by
    subst hb;rcases hA12 with q | q | q
    . exact hBT10 b q.symm h
    . cases hq:B with
      | none=>rw[hq] at q;simp at q
      | some b0=>rw[hq] at q;simp at q;rw[q] at h;exact hBT10 b0 hq h
    . simp at q;have:=hl10 _ h;have:=hn11.size;omega
   have hM312:Mod T' w3 w12:=Qn (hM310.trans (Mod.of_ext hn11.ext)) (Xx hg12 fun i hi => .inr (hr12 i hi));generalize hL2:L ++ [chF c z (Qaq 6) P t x]=L2 at hown12 hstep ⊢;clear hg12 hA12 hn11 hk12;refine Gg ?_;refine⟨_,wrap_succ Om,Gg ?_⟩;exact⟨(k+1,(A12,c12,L2),T3),Sj,⟨Sj,hstep.symm,hW12,hT310,hown12,hB12,hM312⟩,Rr⟩
 intro hge;have hge:k=H.length:=(by have:H.length<=k:=Su hge;omega);subst hge;rw[Zb (by rw[Zf];exact Zg _)] at hL;rw[<- hcho] at hL;rw[<- hL] at hpk hIS;have hLz:L.length<1000:=Om;have hct:∀ x∈L,x.tags.size<1000:=fun x hx=>(by rw[hL] at hx;obtain⟨i,_,rfl⟩:=Zh.1 hx;exact Qfm _ (fun e he=>hm e (Ze.1 he).1) _ _)
 clear hL;have hsC:=hoL.sl Qge;have h64:=h63.mod hM4 hb6;have hr4:=hr3.mod hM4 hrbT;have h154:=h153.mod hM4 hb15;have hsI4:Sl Qab 1 w4 AI I:=X7.stay hsI3 fun a ha hl=>hM4.block _ hl (hIT' a ha)
 have hsY4:Sl boE 1 w4 AY (I.map fun _=>false):=Q9o.stay hsY3 fun a ha hl=>hM4.block _ hl (hYT' a ha)
 have hx4:Ext w w4:=Qdr hx3 hTw3 hM4;clear hM4 hoL hBT hT2 hsI3 hsY3 h63 hr3 h153 hsH hnewH;have hfm:∀ k,((I.take k).flatMap fun i=>L.filter fun y=>decide (y.item=i)).length<=L.length:=fun k=>(by refine Zv (Xfs _ I k) ?_;rw[hpk];exact Qoz _ _)
 refine Gg ?_;refine⟨.slice AI I.length cI,h154.one rfl,Gg ?_⟩
 refine Qh Qb (fun(q:Nat×(Option Addr×Nat×List Ch)) w'=>q.1<=I.length/\q.2.2.2=((I.take q.1).flatMap fun i=>L.filter fun y=>decide (y.item=i))/\Own chC 4 68 w4.heap.size w' q.2.1 q.2.2.1 q.2.2.2/\Ext w4 w')
  (fun | (k,(C,e,K)) => [(6,Pj p6),(7,Vj t),(9,.string P),(10,Pj p),(12,Pj rb),(15,Pj b15),(16,.slice B L.length d),(17,.slice C K.length e),(125,.slice AI I.length cI),(126,Vj I.length),(127,Vj (k:Nat))]) (fun q=>I.length-q.1) (0,(none,0,[])) ⟨Zu _,rfl,Own.nil,Ext.refl _⟩ Rr ?_
 rintro ⟨k,⟨C,e,K⟩⟩ w5 ⟨hk5,hK,hoK,hx5⟩;simp only at hk5 hK hoK;have hKl:K.length<=L.length:=by rw[hK];exact hfm k
 have z5:=hx5.size;refine Gg ?_;constructor
 . intro hlt;have hlt:k<I.length:=Su hlt;have hIk:I[k]? = some I[k]:=Zd hlt;have hstep:((I.take (k+1)).flatMap fun i=>L.filter fun y=>decide (y.item=i))=K++L.filter fun y=>decide (y.item=I[k]):=(by rw[Za hlt,Zbr,<- hK];simp)
   have hwk:=hwhy I[k] (Zx hlt);obtain⟨ai,rfl,hci⟩:=(hsI4.ext hx5) k I[k] hIk;obtain⟨ay,rfl,hcy⟩:=(hsY4.ext hx5) k false (by rw[Zaq,hIk];rfl);generalize I[k]=x at hci hstep hwk;have h65:=h64.ext hx5;have hr5:=hr4.ext hx5;have h155:=h154.ext hx5;have hW5:=hW4.ext hx5;refine Gg ?_;refine⟨ai,Ix,Gg ?_⟩;refine⟨.string x,hci 0 (.string x) rfl,Gg ?_⟩;refine⟨.slice (some ay) I.length cY,h155.one rfl,Gg ?_⟩;refine⟨ay,Ix,Gg ?_⟩;refine⟨.bool false,hcy 0 (.bool false) rfl,Gg ?_⟩;have hfo:=Qr8 hW5 hok hr5 P x t;rw[hwk] at hfo;refine⟨Unit,fun _=>(Vj ((0:Nat):Int)),fun _ w'=>Ext w5 w',(),fun hg=>(hfo).mono fun r w' h=>⟨(),h.1,h.2⟩,?_⟩;intro _ w6 h2
   have hx6:Ext w5 w6:=by
    rcases h2 with⟨_,h⟩ | ⟨_,h⟩
    . exact h
    . rw[h];exact Ext.refl _
   clear h2;refine Hh ?_;constructor
   . intro h;simp at h
   intro _;refine Gg ?_;have hx56:=hx5.trans hx6;have hoK6:=hoK.ext hx6;have hsC6:Sl chC 4 w6 B L:=Qgz.stay hsC fun a ha hl=>hx56.block _ hl
   have z6:=hx6.size
   refine Qh Qb (fun(q:Nat×(Option Addr×Nat×List Ch)) w'=>q.1<=L.length/\q.2.2.2=K++((L.take q.1).filter fun y=>decide (y.item=x))/\Own chC 4 68 w4.heap.size w' q.2.1 q.2.2.1 q.2.2.2/\Ext w4 w')
    (fun | (j,(D,f,M)) => [(6,Pj p6),(7,Vj t),(9,.string P),(10,Pj p),(12,Pj rb),(15,Pj b15),(16,.slice B L.length d),(17,.slice D M.length f),(25,.string x),(125,.slice (some ai) I.length cI),(126,Vj I.length),(127,Vj (k:Nat)),(146,.slice B L.length d),(147,Vj L.length),(148,Vj (j:Nat))]) (fun q=>L.length-q.1) (0,(C,e,K)) ⟨Zu _,by simp,hoK6,hx56⟩ Rr ?_
   rintro ⟨j,⟨D,f,M⟩⟩ w7 ⟨hj,hM,hoM,hx7⟩;simp only at hj hM hoM;have hMl:M.length<=K.length+L.length:=(by rw[hM,Zo];have h1:=Zc (fun y:Ch=>decide (y.item=x)) (L.take j);rw[Zn] at h1;omega);have z7:=hx7.size;refine Gg ?_;constructor
   . intro hjl;have hjl:j<L.length:=Su hjl;have hsC7:Sl chC 4 w7 B L:=Qgz.stay hsC fun a ha hl=>hx7.block _ hl
     obtain⟨ac,hac,hcc⟩:=hsC7.get hjl
     have hst:K++((L.take (j+1)).filter fun y=>decide (y.item=x))=M++if L[j].item=x then [L[j]] else []:=by
      rw[Za hjl,Zq,<- Zaa,<- hM];congr 1
      by_cases h:L[j].item=x <;> simp[h]
     generalize L[j]=y at hcc hst;subst hac;refine Gg ?_;refine⟨ac,Ix,Gg ?_⟩;refine⟨chC y,⟨rfl,hcc⟩,Gg ?_⟩;intro b27 w8 hn8;refine Gg ?_;have e27:=hn8.block;refine Qc Qb (e:=ty68) rfl hn8.At rfl rfl rfl (by simp[Qg,chC,Value.oneCell']) fun w9 h27 ho9 => ?_
     have h27:At w9 b27 68 (chC y):=h27;have hx79:Ext w7 w9:=ho9.ext hn8.ext Om;have hx9:=hx7.trans hx79;have hoM9:=hoM.ext hx79;have z9:=hx9.size;clear ho9 hn8 hx79;refine Gg ?_;refine⟨.string y.item,h27.one rfl,Gg ?_⟩;constructor
     . intro h;have h:y.item=x:=Su h;rw[if_pos h] at hst;refine Gg ?_;refine⟨chC y,⟨rfl,h27.all⟩,Gg ?_⟩;intro b28 w10 hn10;refine Gg ?_;have z10:=hn10.ext.size;refine Qq Qgz (l:=M) (news := [y]) rfl (hoM9.ext hn10.ext) rfl (Qgz.new1 (x:=y) hn10) (by simp;omega) Om fun A12 c12 w12 hown12 hg12 hA12 => ?_
       have hx12:Ext w4 w12:=Qu (hx9.trans hn10.ext) hg12 (Xq (hoM9.ext hn10.ext));rw[<- hst] at hown12;have hst2:(K++((L.take (j+1)).filter fun y=>decide (y.item=x))).length=(M ++ [y]).length:=by rw[hst]
       generalize hM2:K++((L.take (j+1)).filter fun y=>decide (y.item=x))=M2 at hown12 hst hst2;subst hst;clear hg12 hA12 hn10;refine Gg ?_;refine⟨_,wrap_succ Om,Gg ?_⟩;exact⟨(j+1,(A12,c12,M ++ [y])),Sj,⟨Sj,hM2.symm,hown12,hx12⟩,Rr⟩
     intro h;have h:¬ y.item=x:=Su h;rw[if_neg h,Zw] at hst;refine Gg ?_;refine⟨_,wrap_succ Om,Gg ?_⟩;exact⟨(j+1,(D,f,M)),Sj,⟨Sj,hst.symm,hoM9,hx9⟩,Rr⟩
   intro hge;have hge:L.length<=j:=Su hge;rw[Zb hge,<- hstep] at hM;refine Gg ?_;refine⟨_,wrap_succ Om,Gg ?_⟩;exact⟨(k+1,(D,f,M)),Sj,⟨Sj,hM,hoM,hx7⟩,Rr⟩
 intro hge;have hge:I.length<=k:=Su hge;rw[Zb hge,hpk] at hK;have hKI:K.length=I.length:=by rw[hK,hIS]
 have hx45:=hx4.trans hx5;have hrt:=Q4j Xfb K L C B e d w5 (hg0.ext hx45) (hoK.sl Qge) (Qgz.stay hsC fun a ha hl=>hx5.block _ hl) Om hLz hct;rw[decide_eq_true hK] at hrt;have h65:=h64.ext hx5;have h155:=h154.ext hx5;clear hK hpk hIS;refine Gg ?_;refine⟨.slice AI I.length cI,h155.one rfl,Gg ?_⟩;refine⟨Qnh Xfb,fun _=>⟨rfl,Q1q h65⟩,Gg ?_⟩;refine⟨Unit,fun _=>(.bool true),fun _ w'=>Ext w5 w',(),fun hg=>(hrt).mono fun r w' h=>⟨(),h.1,h.2⟩,?_⟩;intro _ w6 h2
 have hx6:Ext w5 w6:=by
  rcases h2 with⟨_,h⟩ | ⟨_,h⟩
  . exact h
  . rw[h];exact Ext.refl _
 clear h2;refine Hh ?_;exact⟨by simp[hKI],hx45.trans hx6⟩
theorem topRulesI_spec (bs:List Nat) (A:Option Addr) (cp:Nat) (who:Int) (h1:0<=who) (w:World) (hg0:Gl w) (hkn:Q15 w) (hs:Sl u8C 1 w A bs) (hb:∀ x∈bs,x<256) :
 Cal Tryz.prog 3 [.slice A bs.length cp,.int .u8 who] w fun r w'=>r = .bool true/\Ext w w':=by
 obtain⟨m,rfl⟩:=Int.eq_ofNat_of_zero_le h1;exact topRules_spec bs A cp m w hg0 hkn hs hb
