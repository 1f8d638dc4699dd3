import Derived.Test.YtdahooejkjcjiaaGreatDoorHWt2
import Derived.Test.YtdahooejkjcjiaaGreatDoorHWf3
import Derived.Test.YtdahooejkjcjiaaGreatDoorGXG
/- The law WorldOf. -/
set_option linter.unusedVariables false
set_option linter.unusedSimpArgs false
namespace Go.Proofs.YtdahooejkjcjiaaGreatDoor
open Go.Se Go.RowKit Go.Shelf
theorem Xcv:Tryz.prog.underlying 27=some (.pointer (Tryz.prog.pointee 27)):=by kernel_rfl
theorem Xcr:Tryz.prog.underlying 4=some .bool:=by kernel_rfl
theorem Qv5 {P:Program} {t:TypeId} (h:P.underlying t=some .bool) (x y:Bool) (ox oy:Operand):Qok P t ox oy (.bool x) (.bool y) (decide (x=y)):=by
 intro w;have h1:=run_equalIn_bool' (P:=P) w 9999 t x y h
 have h2:(Op.equal t (.bool x) (.bool y)).run P w = .ok (decide (x=y)) w:=by
  unfold Op.equal Op.maxDepth;rw[h1]
  cases x <;> cases y <;> rfl
 constructor
 · simp[eqGuard,binOp,h2]
 · simp[eqGuard,binOp,h2]
theorem Q6r {l:List Ev} (h:l.any (Q6w 300)=false):∀ e∈l,e.text.size<4000000000:=fun e he=>by
 have:=(List.any_eq_false.1 h) e he
 simp[Q6w] at this
 omega
theorem Q68 {w:World} {T:Nat→Prop} {p:Nat} {c:Cfg} {z:List Ev} (h:WT w T p c z) :
 Cal Tryz.prog 45 [.pointer (some ⟨p,0,none⟩)] w fun r w'=>r=Qsx c∧Ext w w':=by
 obtain⟨v,T0,hQ,_⟩:=h
 exact Qtz hQ
theorem Xb7 {w:World} {T:Nat→Prop} {p:Nat} {c:Cfg} {z:List Ev} (h:WT w T p c z):(∀ e∈z,Xn e=true)∧Rise z:=by
 obtain⟨v,T0,hQ,_⟩:=h
 exact⟨hQ.may,hQ.rise⟩
set_option maxHeartbeats 4000000 in
theorem Q3k {w:World} {T:Nat→Prop} {p:Nat} {c:Cfg} {z:List Ev} (h:WT w T p c z) (hg:Gl w) (hcf:Qii c=true) (hz:z.length<100) (hT10:∀ k,T k→10≤k) (A:Option Addr) (cap:Nat) (hcap:z.length≤cap) (hs:SlE w A z) (hA:∀ a,A=some a→a.block<w.heap.size∧¬ T a.block) (now:Int) :
 Cal Tryz.prog 21 [.pointer (some ⟨p,0,none⟩),Qsx c,.slice A z.length cap,.int .i64 now] w fun r w'=>r = .bool true∧Mod T w w':=by
 obtain⟨hm,hr⟩:=Xb7 h;have htx:∀ e∈z,e.text.size<1000000:=fun e he=>Nat.lt_trans (Qct (hm e he)) (by decide)
 have hTl:=h.lt;refine Fi Tryz.func21 rfl _ rfl rfl (Hh ?_);intro b5 w1 hn1;refine Gg ?_;have g5:At w1 b5 23 (Qip c):=hn1.At;have e5:=hn1.block;have s1:=hn1.size;have hx1:=hn1.ext;replace h:=h.ext hx1;replace hs:=hs.ext hx1;have hg1:=hg.ext hx1;clear hn1;have b5S:¬ (T b5∨w1.heap.size≤b5):=fun h=>h.elim (fun h=>by have:=hTl _ h;omega) fun h=>by have:=g5.lt;omega
 refine Dr (.mods (fun k=>T k∨w1.heap.size≤k)) [0,2,1,3,4,5,7,6,8,9,10,11,12,14,15,16,13] [17,18,19,20] (Hh ?_);have hxd:Ext w1 w1.drew:=(Ext.refl w1).drew;replace h:=h.ext hxd;replace hs:=hs.ext hxd;replace g5:=g5.ext hxd;have hx:=hx1.trans hxd;generalize w1.drew=w2 at h hs g5 hx ⊢;refine⟨Qip c,⟨rfl,g5.all,b5S⟩,Hh ?_⟩;refine(Q68 h).mono ?_;rintro _ w3 ⟨rfl,hx3⟩;refine⟨Mod.of_ext hx3,?_⟩;replace h:=h.ext hx3;replace hs:=hs.ext hx3;replace g5:=g5.ext hx3;replace hx:=hx.trans hx3
 conv=>whnf
 refine⟨_,Xcm c _ _,Hh ?_⟩;refine⟨(Option Addr×Nat),(fun i => .slice i.1 z.length i.2),(fun i w'=>SlE w' i.1 z∧Ext w3 w'),(none,0),fun _=>(Q7e h),?_⟩;rintro iw4 w4 hqw4;replace hqw4:=hqw4.elim (fun h=>h.2) fun h=>(h.1 (And.intro (by first | rfl | simp | decide) trivial)).elim
 obtain⟨hs4,hx4⟩:=hqw4;refine⟨Mod.of_ext hx4,?_⟩;replace h:=h.ext hx4;replace hs:=hs.ext hx4;replace g5:=g5.ext hx4;replace hx:=hx.trans hx4
 conv=>whnf
 refine⟨Unit,(fun _ => .bool (decide (z=z))),(fun _ w'=>Ext w4 w'),(),fun _=>((Q5p z z iw4.1 A iw4.2 cap w4 hs4 hs (by omega)).mono fun r w' h=>⟨(),h.1,h.2⟩),?_⟩;rintro iw5 w5 hqw5;replace hqw5:=hqw5.elim (fun h=>h.2) fun h=>(h.1 (And.intro (by first | rfl | simp | decide) trivial)).elim
 refine⟨Mod.of_ext hqw5,?_⟩;replace h:=h.ext hqw5;replace hs:=hs.ext hqw5;replace g5:=g5.ext hqw5;replace hx:=hx.trans hqw5
 conv=>whnf
 refine⟨Qip c,fun _=>⟨rfl,g5.all,b5S⟩,Hh ?_⟩;refine⟨(Nat→Prop),(fun _ => .string (Q2u c z (Qgw now))),(fun T' w'=>WT w' T' p c z∧(∀ k,T' k→T k∨w5.heap.size≤k)∧Mod T w5 w'),(fun _=>False),fun _=>(Q7a h (hg.ext hx) hcf (by omega) hT10 now),?_⟩;rintro iw6 w6 hqw6;replace hqw6:=hqw6.elim (fun h=>h.2) fun h=>(h.1 (And.intro (by first | rfl | simp | decide) trivial)).elim
 obtain⟨_,_,hM6⟩:=hqw6;refine⟨hM6.mono fun k _ hk => .inl hk,?_⟩;replace hs:=Qbx (w1:=w6) hs fun a ha=>hM6.block a.block (by have:=hx.size;have:=(hA a ha).1;omega) (hA a ha).2
 conv=>whnf
 refine⟨Unit,(fun _ => .string (Q2u c z (Qgw now))),(fun _ w'=>Ext w6 w'),(),fun _=>((Qt1 c hcf z A cap hcap now w6 hs hz hm htx hr).mono fun r w' h=>⟨(),h.1,h.2⟩),?_⟩;rintro iw7 w7 hqw7;replace hqw7:=hqw7.elim (fun h=>h.2) fun h=>(h.1 (And.intro (by first | rfl | simp | decide) trivial)).elim
 refine Gg ?_;refine⟨by simp,(Mod.of_ext hx).trans (hM6.trans (Mod.of_ext hqw7))⟩
set_option maxHeartbeats 8000000 in
theorem worldOf_spec (c:Cfg) (l:List Ev) (A:Option Addr) (cap:Nat) (now:Int) (w:World) (hg0:Gl w) (hs:SlE w A l) :
 Cal Tryz.prog 6 [Qsx c,.slice A l.length cap,.int .i64 now] w fun r w'=>r = .bool true∧Ext w w':=by
 have hsz:=hg0.size;refine Fi Tryz.func6 rfl _ rfl rfl (Hh ?_);intro b5 w1 hn1;refine Gg ?_;have g5:At w1 b5 23 (Qip c):=hn1.At;have hx:=hn1.ext;clear hn1;refine(Qyi w1 (hg0.ext hx)).mono ?_;rintro _ w2 ⟨rfl,hx2⟩;replace g5:=g5.ext hx2;replace hx:=hx.trans hx2;clear hx2;refine Gg ?_;constructor
 · intro h;simp at h
 intro _;refine Gg ?_;refine⟨Unit,fun _=>(.bool (l.any (Q6w 300))),fun _ w'=>Ext w2 w',(),fun hg=>((Q5x l A cap 300 w2 (hs.ext hx) (by simp at hg;omega))).mono fun r w' h=>⟨(),h.1,h.2⟩,?_⟩;intro _ w3 h2
 have hx3:Ext w2 w3:=by
  rcases h2 with⟨_,h⟩ | ⟨_,h⟩
  · exact h
  · rw[h];exact Ext.refl _
 clear h2
 conv=>whnf
 replace g5:=g5.ext hx3;replace hx:=hx.trans hx3;clear hx3;refine Gg ?_;constructor
 · intro _
   refine Gg ?_
   exact⟨rfl,hx⟩
 intro hq;have hq:(decide ((30:Int)<l.length)||l.any (Q6w 300))=false:=hq
 have hl:l.length≤30:=by
  have:=(Bool.or_eq_false_iff.1 hq).1
  simp at this
  omega
 have ht:=Q6r (Bool.or_eq_false_iff.1 hq).2;have ht4:=Q6s (Bool.or_eq_false_iff.1 hq).2;clear hq;refine Gg ?_;refine⟨Qip c,⟨rfl,g5.all⟩,Gg ?_⟩;refine(Q08 c l A cap w3 (hg0.ext hx) (hs.ext hx) (by omega) ht).mono ?_;rintro _ w4 ⟨p,e,rfl,hx4,hr⟩;have hT0:=hx.size;replace g5:=g5.ext hx4;replace hx:=hx.trans hx4;clear hx4;refine Gg ?_;refine Dr .ext [0,2,1] [3,4] (Hh ?_);have hxd:Ext w4 w4.drew:=(Ext.refl w4).drew;replace g5:=g5.ext hxd;replace hx:=hx.trans hxd;have hr:((Qii c&&l.all Xn)=false∧p=none∧e=1)∨((Qii c&&l.all Xn)=true∧e=0∧∃ b T,p=some ⟨b,0,none⟩∧WT w4.drew T b c (Qf8 l)∧∀ k,T k→w.heap.size≤k):=hr.imp id fun⟨h1,h2,b,T,h3,h4,h5⟩=>⟨h1,h2,b,T,h3,h4.ext hxd,fun k hk=>Nat.le_trans hT0 (h5 k hk)⟩
 generalize w4.drew=w5 at g5 hx hr ⊢;clear hxd;refine⟨Qip c,⟨rfl,g5.all⟩,Hh ?_⟩;refine⟨Qip c,⟨rfl,g5.all⟩,Hh ?_⟩;refine(Qof c w5).mono ?_;rintro _ w6 ⟨rfl,hx6⟩;refine⟨hx6,Hh ?_⟩;refine(Qld c w6).mono ?_;rintro _ w7 ⟨rfl,hx7⟩;replace hx6:=hx6.trans hx7;replace g5:=g5.ext hx6;replace hx:=hx.trans hx6;refine Gg ?_;refine⟨_,Qv5 Xcr _ _ _ _,Gg ?_⟩;constructor
 · intro h;simp at h
 intro _;refine Gg ?_;refine⟨Qip c,⟨rfl,g5.all⟩,Gg ?_⟩;refine(Qld c w7).mono ?_;rintro _ w8 ⟨rfl,hx8⟩;replace hx6:=hx6.trans hx8;replace g5:=g5.ext hx8;replace hx:=hx.trans hx8;refine Gg ?_;refine⟨Unit,fun _=>(.bool (l.all Xn)),fun _ w'=>Ext w8 w',(),fun hg=>((Q6o l A cap w8 (hs.ext hx) (by omega) ht4)).mono fun r w' h=>⟨(),h.1,h.2⟩,?_⟩;intro _ w9 h2
 have hx9:Ext w8 w9:=by
  rcases h2 with⟨_,h⟩ | ⟨_,h⟩
  · exact h
  · rw[h];exact Ext.refl _
 clear h2
 conv=>whnf
 replace hx6:=hx6.trans hx9;replace g5:=g5.ext hx9;replace hx:=hx.trans hx9;clear hx7 hx8 hx9;refine Gg ?_;constructor
 · intro hq
   have hq:(!Qii c || !l.all Xn)=true:=hq;have h1:(Qii c&&l.all Xn)=false:=by revert hq;cases Qii c <;> cases l.all Xn <;> simp
   rcases hr with⟨_,rfl,rfl⟩ | ⟨h2,_⟩
   · refine Gg ?_
     refine⟨_,Qcn Xcv _ _ _,Gg ?_⟩
     exact⟨by simp,hx⟩
   · rw[h1] at h2;cases h2
 · intro hq
   have hq:(!Qii c || !l.all Xn)=false:=hq;have h1:(Qii c&&l.all Xn)=true:=by revert hq;cases Qii c <;> cases l.all Xn <;> simp
   rcases hr with⟨h2,_,_⟩ | ⟨_,rfl,b,T,rfl,hT,hTw⟩
   · rw[h1] at h2;cases h2
   obtain⟨hcf,hm⟩:=Bool.and_eq_true_iff.1 h1;have hm:=List.all_eq_true.1 hm;replace hT:=hT.ext hx6;clear hx6 h1 hq;refine Gg ?_;refine Dr .ext [0,1,2,3,4,5,7,6] [8,9,10] (Hh ?_);have hxd:Ext w9 w9.drew:=(Ext.refl w9).drew;replace g5:=g5.ext hxd;replace hT:=hT.ext hxd;replace hx:=hx.trans hxd;generalize w9.drew=w10 at g5 hT hx ⊢;clear hxd;refine⟨Qip c,fun _=>⟨rfl,g5.all⟩,Hh ?_⟩;have hzl:=Qqd l;refine⟨(Option Addr×Nat),(fun i => .slice i.1 (Qf8 l).length i.2),(fun i w'=>SlE w' i.1 (Qf8 l)∧((Qf8 l).length≤i.2∧∀ a,i.1=some a→w10.heap.size≤a.block∧a.block<w'.heap.size)∧Ext w10 w'),(none,0),fun _=>((Q46 l A cap w10 (hs.ext hx) (by omega) hm).mono fun r w' ⟨A',c',h1,h2⟩=>⟨(A',c'),h1,h2⟩),?_⟩;rintro iw11 w11 hqw11;replace hqw11:=hqw11.elim (fun h=>h.2) fun h=>(h.1 (And.intro (by first | rfl | simp | decide) trivial)).elim
   obtain⟨hsI,⟨hci,hAi⟩,hx11⟩:=hqw11;refine⟨hx11,?_⟩;have hTl:=hT.lt;replace hT:=hT.ext hx11;replace hx:=hx.trans hx11;generalize Qf8 l=z at hT hsI hci hzl ⊢
   conv=>whnf
   refine⟨Unit,(fun _ => .bool true),(fun _ w'=>Mod T w11 w'),(),fun _=>((Q3k hT (hg0.ext hx) hcf (by omega) (fun k hk=>Nat.le_trans hsz (hTw k hk)) iw11.1 iw11.2 hci hsI (fun a ha=>⟨(hAi a ha).2,fun h=>by have:=hTl _ h;have:=(hAi a ha).1;omega⟩) now).mono fun r w' h=>⟨(),h.1,h.2⟩),?_⟩;rintro iw12 w12 hqw12;replace hqw12:=hqw12.elim (fun h=>h.2) fun h=>(h.1 (And.intro (by first | rfl | simp | decide) trivial)).elim
   refine Gg ?_
   exact⟨by simp,Qcb hx hqw12 hTw⟩
end Go.Proofs.YtdahooejkjcjiaaGreatDoor
