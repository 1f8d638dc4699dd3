import Derived.Test.YtdahooejkjcjiaaGreatDoorHWt2
import Derived.Test.YtdahooejkjcjiaaGreatDoorHWf3
import Derived.Test.YtdahooejkjcjiaaGreatDoorGXG
/- The law WorldOf. -/
set_option linter.unusedVariables false
set_option linter.unusedSimpArgs false
namespace Go.Proofs.YtdahooejkjcjiaaGreatDoor
open Go.Se Go.RowKit Go.Shelf
theorem Q9x:Tryz.prog.underlying 27=some (.pointer (Tryz.prog.pointee 27)):=by kernel_rfl
theorem Q3v {l:List Ev} (h:l.any (Q30 300)=false):∀ e∈l,e.text.size<4000000000:=fun e he=>by
 have:=(List.any_eq_false.1 h) e he
 simp[Q30] at this
 omega
theorem Q4d {w:World} {T:Nat→Prop} {p:Nat} {c:Cfg} {z:List Ev} (h:WT w T p c z) :
 Cal Tryz.prog 45 [.pointer (some ⟨p,0,none⟩)] w fun r w'=>r=Q0a c∧Ext w w':=by
 obtain⟨v,T0,hQ,_⟩:=h
 exact Qrz hQ
theorem Q86 {w:World} {T:Nat→Prop} {p:Nat} {c:Cfg} {z:List Ev} (h:WT w T p c z):(∀ e∈z,Xw e=true)∧Rise z:=by
 obtain⟨v,T0,hQ,_⟩:=h
 exact⟨hQ.may,hQ.rise⟩
set_option maxHeartbeats 4000000 in
theorem Q01 {w:World} {T:Nat→Prop} {p:Nat} {c:Cfg} {z:List Ev} (h:WT w T p c z) (hg:Gl w) (hcf:Qo7 c=true) (hz:z.length<100) (hT10:∀ k,T k→10≤k) (A:Option Addr) (cap:Nat) (hcap:z.length≤cap) (hs:SlE w A z) (hA:∀ a,A=some a→a.block<w.heap.size∧¬ T a.block) (now:Int) :
 Cal Tryz.prog 21 [.pointer (some ⟨p,0,none⟩),Q0a c,.slice A z.length cap,.int .i64 now] w fun r w'=>r = .bool true∧Mod T w w':=by
 obtain⟨hm,hr⟩:=Q86 h;have htx:∀ e∈z,e.text.size<1000000:=fun e he=>Nat.lt_trans (Qet (hm e he)) (by decide)
 have hTl:=h.lt;refine Fi Tryz.func21 rfl _ rfl rfl ?_;conv=>whnf
 intro b5 w1 hn1;(conv=>whnf);repeat(refine Sg ?_;(conv=>whnf))
 have g5:At w1 b5 23 (Qi9 c):=hn1.At;have e5:=hn1.block;have s1:=hn1.size;have hx1:=hn1.ext;replace h:=h.ext hx1;replace hs:=hs.ext hx1;have hg1:=hg.ext hx1;clear hn1;have b5S:¬ (T b5∨w1.heap.size≤b5):=fun h=>h.elim (fun h=>by have:=hTl _ h;omega) fun h=>by have:=g5.lt;omega
 refine Dr (.mods (fun k=>T k∨w1.heap.size≤k)) [0,2,1,3,4,5,7,6,8,9,10,11,12,14,15,16,13] [17,18,19,20] ?_;conv=>whnf
 have hxd:Ext w1 w1.drew:=(Ext.refl w1).drew;replace h:=h.ext hxd;replace hs:=hs.ext hxd;replace g5:=g5.ext hxd;have hx:=hx1.trans hxd;generalize w1.drew=w2 at h hs g5 hx ⊢;refine⟨Qi9 c,⟨rfl,g5.all,b5S⟩,?_⟩;conv=>whnf
 refine(Q4d h).mono ?_;rintro _ w3 ⟨rfl,hx3⟩;refine⟨Mod.of_ext hx3,?_⟩;replace h:=h.ext hx3;replace hs:=hs.ext hx3;replace g5:=g5.ext hx3;replace hx:=hx.trans hx3
 conv=>whnf
 refine⟨_,Q9p c _ _,?_⟩;conv=>whnf
 refine⟨(Option Addr×Nat),(fun i => .slice i.1 z.length i.2),(fun i w'=>SlE w' i.1 z∧Ext w3 w'),(none,0),fun _=>(Qwy h),?_⟩;rintro iw4 w4 hqw4;replace hqw4:=hqw4.elim (fun h=>h.2) fun h=>(h.1 (And.intro (by first | rfl | simp | decide) trivial)).elim
 obtain⟨hs4,hx4⟩:=hqw4;refine⟨Mod.of_ext hx4,?_⟩;replace h:=h.ext hx4;replace hs:=hs.ext hx4;replace g5:=g5.ext hx4;replace hx:=hx.trans hx4
 conv=>whnf
 refine⟨Unit,(fun _ => .bool (decide (z=z))),(fun _ w'=>Ext w4 w'),(),fun _=>((Qsc z z iw4.1 A iw4.2 cap w4 hs4 hs (by omega)).mono fun r w' h=>⟨(),h.1,h.2⟩),?_⟩;rintro iw5 w5 hqw5;replace hqw5:=hqw5.elim (fun h=>h.2) fun h=>(h.1 (And.intro (by first | rfl | simp | decide) trivial)).elim
 refine⟨Mod.of_ext hqw5,?_⟩;replace h:=h.ext hqw5;replace hs:=hs.ext hqw5;replace g5:=g5.ext hqw5;replace hx:=hx.trans hqw5
 conv=>whnf
 refine⟨Qi9 c,fun _=>⟨rfl,g5.all,b5S⟩,?_⟩;conv=>whnf
 refine⟨(Nat→Prop),(fun _ => .string (Q0b c z (Qf9 now))),(fun T' w'=>WT w' T' p c z∧(∀ k,T' k→T k∨w5.heap.size≤k)∧Mod T w5 w'),(fun _=>False),fun _=>(Q4e h (hg.ext hx) hcf (by omega) hT10 now),?_⟩;rintro iw6 w6 hqw6;replace hqw6:=hqw6.elim (fun h=>h.2) fun h=>(h.1 (And.intro (by first | rfl | simp | decide) trivial)).elim
 obtain⟨_,_,hM6⟩:=hqw6;refine⟨hM6.mono fun k _ hk => .inl hk,?_⟩;replace hs:=Qcz (w1:=w6) hs fun a ha=>hM6.block a.block (by have:=hx.size;have:=(hA a ha).1;omega) (hA a ha).2
 conv=>whnf
 refine⟨Unit,(fun _ => .string (Q0b c z (Qf9 now))),(fun _ w'=>Ext w6 w'),(),fun _=>((Qr1 c hcf z A cap hcap now w6 hs hz hm htx hr).mono fun r w' h=>⟨(),h.1,h.2⟩),?_⟩;rintro iw7 w7 hqw7;replace hqw7:=hqw7.elim (fun h=>h.2) fun h=>(h.1 (And.intro (by first | rfl | simp | decide) trivial)).elim
 (conv=>whnf);repeat(refine Sg ?_;(conv=>whnf))
 refine⟨by simp,(Mod.of_ext hx).trans (hM6.trans (Mod.of_ext hqw7))⟩
end Go.Proofs.YtdahooejkjcjiaaGreatDoor
