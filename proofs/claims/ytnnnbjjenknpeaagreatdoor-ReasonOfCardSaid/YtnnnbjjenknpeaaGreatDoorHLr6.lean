import Derived.Test.YtnnnbjjenknpeaaGreatDoorHSam
import Derived.Test.YtnnnbjjenknpeaaGreatDoorHRo3
/- The law ReasonOf. -/
set_option linter.unusedVariables false
set_option linter.unusedSimpArgs false
namespace Go.Proofs.YtnnnbjjenknpeaaGreatDoor
open Go.Se Go.RowKit
set_option maxHeartbeats 2000000 in
theorem reasonOfLaw_spec (c:Cfg) (l:List Ev) (a:Nat → Int) (person item:ByteArray) (now:Int) (A:Option Addr) (cap:Nat) (w:World) (hg0:Gl w) (hs:SlE w A l) :
 Cal Tryz.prog 3 [.agg (plC c A l.length cap a person item now).toArray] w fun r w' => r = .bool true ∧ Ext w w' := by
 have hsz := hg0.size
 refine Fi Tryz.func3 rfl _ rfl rfl ?_;conv=>whnf
 intro b1 w1 hn1; (conv=>whnf);repeat(refine Sg ?_;(conv=>whnf))
 have h1 : At w1 b1 28 (plC c A l.length cap a person item now) := hn1.At
 have hx := hn1.ext
 have g1 : w.heap.size ≤ b1 := by rw [hn1.block]; exact Nat.le_refl _
 clear hn1
 refine ⟨plC c A l.length cap a person item now,⟨rfl,h1.all⟩,?_⟩; (conv=>whnf);repeat(refine Sg ?_;(conv=>whnf))
 refine (Q2u c l A cap a person item now w1 (hs.ext hx)).mono ?_
 rintro _ w2 ⟨rfl,hx2⟩
 replace h1 := h1.ext hx2
 replace hx := hx.trans hx2
 clear hx2
 generalize hq : Q7w c l person item = q
 (conv=>whnf);repeat(refine Sg ?_;(conv=>whnf))
 constructor
 · intro hc
   (conv=>whnf);repeat(refine Sg ?_;(conv=>whnf))
   refine (Qmq w2 (hg0.ext hx)).mono ?_
   rintro _ w3 ⟨rfl,hx3⟩; (conv=>whnf);repeat(refine Sg ?_;(conv=>whnf))
   exact ⟨rfl,hx.trans hx3⟩
 intro hc
 have hc : q = true := by simpa using hc
 subst hc
 obtain ⟨hcf,hl,hm⟩ := Q63 hq
 clear hq
 (conv=>whnf);repeat(refine Sg ?_;(conv=>whnf))
 refine ⟨plC c A l.length cap a person item now,⟨rfl,h1.all⟩,?_⟩; (conv=>whnf);repeat(refine Sg ?_;(conv=>whnf))
 refine (Q3b c l A cap a person item now w2 (hg0.ext hx) (hs.ext hx) hcf (by omega) hm).mono ?_
 rintro _ w3 ⟨p,T,rfl,hWT,hT,hx3⟩
 have l1 := h1.lt
 have g2 := hx.size
 have hTb : ¬ T b1 := fun h => by have := hT _ h; omega
 have hTw : ∀ k,T k → w.heap.size ≤ k := fun k hk => by have := hT k hk; omega
 replace h1 := h1.ext hx3
 replace hx := hx.trans hx3
 clear hx3 hT
 have hzl := Qno l
 (conv=>whnf);repeat(refine Sg ?_;(conv=>whnf))
 refine ⟨_,Qa7 Q7q _ _ _,?_⟩; (conv=>whnf);repeat(refine Sg ?_;(conv=>whnf))
 constructor
 · intro h; simp at h
 intro _
 (conv=>whnf);repeat(refine Sg ?_;(conv=>whnf))
 refine ⟨.slice A l.length cap,h1.one rfl,?_⟩; (conv=>whnf);repeat(refine Sg ?_;(conv=>whnf))
 refine (Q0s l A cap w3 (hs.ext hx) (by omega) hm).mono ?_
 rintro _ w4 ⟨A4,c4,rfl,hs4,hcap4,hx4⟩
 have hT4 : ∀ b,A4 = some b → ¬ T b.block := fun b hb h => by
  have h1 := hWT.lt _ h
  have h2 := (hcap4.2 b hb).1
  omega
 replace hWT := hWT.ext hx4
 replace h1 := h1.ext hx4
 replace hx := hx.trans hx4
 have hzm : ∀ e ∈ Qfl l,Xu e = true := fun e he => hm e (Qnp he)
 have hzr := Qkl hm
 clear hx4 hs
 generalize Qfl l = z at hWT hzl hs4 hcap4 hzm hzr
 have hok : Q6y c z := ⟨hcf,by omega⟩
 have hT10 : ∀ k,T k → 10 ≤ k := fun k hk => by have := hTw k hk; omega
 (conv=>whnf);repeat(refine Sg ?_;(conv=>whnf))
 refine ⟨wsC a,⟨rfl,Q7e h1⟩,?_⟩; (conv=>whnf);repeat(refine Sg ?_;(conv=>whnf))
 refine ⟨.string person,h1.one rfl,?_⟩; (conv=>whnf);repeat(refine Sg ?_;(conv=>whnf))
 refine ⟨.string item,h1.one rfl,?_⟩; (conv=>whnf);repeat(refine Sg ?_;(conv=>whnf))
 refine ⟨.int .i64 now,h1.one rfl,?_⟩; (conv=>whnf);repeat(refine Sg ?_;(conv=>whnf))
 refine (reasonOf_spec hWT hok (hg0.ext hx) hT10 a person item now).mono ?_
 rintro _ w5 ⟨A1,c1,A2,c2,T5,rfl,hp5,ho5,_,hA1,hA2,hW5,hT5,hM5⟩
 have s4 := hx.size
 have hTl := hWT.lt
 have l14 := h1.lt
 replace h1 := h1.mod hM5 hTb
 have hs5 : SlE w5 A4 z := Qa3 hs4 fun b hb => hM5.block _ (hcap4.2 b hb).2 (hT4 b hb)
 have hT54 : ∀ b,A4 = some b → ¬ T5 b.block := fun b hb h => by
  rcases hT5 _ h with h | h
  · exact hT4 b hb h
  · have := (hcap4.2 b hb).2; omega
 have hT51 : ¬ T5 b1 := fun h => by
  rcases hT5 _ h with h | h
  · exact hTb h
  · omega
 have hT5w : ∀ k,T5 k → w.heap.size ≤ k := fun k hk => by
  rcases hT5 k hk with h | h
  · exact hTw k h
  · omega
 replace hx := Qin hx hTw hM5
 have hp5 := hp5.sl Qom
 have ho5 := ho5.sl Xo
 have hQl : (Qpd (Q0u c z person item now) a 6).length = 6 := Qvm _ _ _
 clear hs4 hM5 hWT hT4 hTb hT5
 (conv=>whnf);repeat(refine Sg ?_;(conv=>whnf))
 intro b6 w6 hn6; (conv=>whnf);repeat(refine Sg ?_;(conv=>whnf))
 refine Qd Qa (e := ty36) rfl hn6.At rfl rfl rfl (by simp [Qh,rsC,Value.oneCell']) fun w7 h7 ho7 => ?_
 have h7 : At w7 b6 36 (rsC item A1 6 c1 (Qmi (Qpd (Q0u c z person item now) a 6)) A2 (Qsy c z person item now).length c2 (Qse c z item)) := h7
 have hx57 : Ext w5 w7 := ho7.ext hn6.ext (by rw [hn6.block]; exact Nat.le_refl _)
 have hT56 : ¬ T5 b6 := fun h => by have := hW5.lt _ h; have := hn6.block; omega
 clear ho7 hn6
 replace h1 := h1.ext hx57
 replace hx := hx.trans hx57
 replace hp5 := hp5.ext hx57
 replace ho5 := ho5.ext hx57
 replace hs5 := hs5.ext hx57
 replace hW5 := hW5.ext hx57
 clear hx57
 (conv=>whnf);repeat(refine Sg ?_;(conv=>whnf))
 refine ⟨wsC a,⟨rfl,Q7e h1⟩,?_⟩; (conv=>whnf);repeat(refine Sg ?_;(conv=>whnf))
 refine ⟨.string person,h1.one rfl,?_⟩; (conv=>whnf);repeat(refine Sg ?_;(conv=>whnf))
 refine ⟨.string item,h1.one rfl,?_⟩; (conv=>whnf);repeat(refine Sg ?_;(conv=>whnf))
 refine ⟨.int .i64 now,h1.one rfl,?_⟩; (conv=>whnf);repeat(refine Sg ?_;(conv=>whnf))
 refine (Qqy hW5 hok (hg0.ext hx) (fun k hk => by have := hT5w k hk; omega) a person item now).mono ?_
 rintro _ w8 ⟨A8,c8,T8,rfl,hown8,_,_,_,hM8⟩
 replace h1 := h1.mod hM8 hT51
 replace h7 := h7.mod hM8 hT56
 have hq1 : Sl ptC 3 w8 A1 _ := Q54.stay hp5 fun x hx' hlt => hM8.block x.block hlt (hA1 x hx')
 have hq2 : SlE w8 A2 _ := Qf0.stay ho5 fun x hx' hlt => hM8.block x.block hlt (hA2 x hx')
 have hs8 : SlE w8 A4 z := Qf0.stay hs5 fun x hx' hlt => hM8.block x.block hlt (hT54 x hx')
 replace hx := Qin hx hT5w hM8
 have hp8 := hown8.sl Qom
 generalize Qmi (Qpd (Q0u c z person item now) a 6) = tt at h7 ⊢
 generalize Qpd (Q0u c z person item now) a 6 = Q at hq1 hp8 hQl
 have hfan := Qqr c z A4 c4 item
 have hownR := Qtc c hcf z A4 c4 person item now
 have hOl := Q5y c z person item now
 generalize Qse c z item = ff at h7 hfan
 generalize Qsy c z person item now = O at h7 hq2 hownR hOl
 clear hM8 hown8 hp5 ho5 hs5 hW5 hT51 hT56 hT54 hA1 hA2 hT5w hTl
 (conv=>whnf);repeat(refine Sg ?_;(conv=>whnf))
 refine Dr .ext [0,1,2,3,4,5,6,7,8,9,10,11,12,13,14,15,16,17,18,19,20,21,22,23,24,25,26,27,28,29] [] ?_;conv=>whnf
 have hxd : Ext w8 w8.drew := (Ext.refl w8).drew
 replace h1 := h1.ext hxd
 replace h7 := h7.ext hxd
 replace hx := hx.trans hxd
 replace hq1 := hq1.ext hxd
 replace hq2 := hq2.ext hxd
 replace hs8 := hs8.ext hxd
 replace hp8 := hp8.ext hxd
 generalize w8.drew = w9 at h1 h7 hx hq1 hq2 hs8 hp8 ⊢
 clear hxd
 refine ⟨.string item,h7.one rfl,?_⟩;conv=>whnf
 refine ⟨.string item,h1.one rfl,?_⟩;conv=>whnf
 refine ⟨.int .i64 tt,fun _ => h7.one rfl,?_⟩;conv=>whnf
 refine ⟨.slice A1 6 c1,fun _ => h7.one rfl,?_⟩;conv=>whnf
 refine ⟨.int .i64 ff,fun _ => h7.one rfl,?_⟩;conv=>whnf
 refine ⟨Qmt c,fun _ => ⟨rfl,Qvk h1⟩,?_⟩;conv=>whnf
 refine ⟨.string item,fun _ => h1.one rfl,?_⟩;conv=>whnf
 refine ⟨Unit,fun _ => (.int .i64 ff),fun _ w' => Ext w9 w',(),fun hg => ((hfan w9 hs8 hcap4.1 (by omega) hzm)).mono fun r w' h => ⟨(),h.1,h.2⟩,?_⟩
 intro _ w10 h2
 have hx10 : Ext w9 w10 := by
  rcases h2 with ⟨_,h⟩ | ⟨_,h⟩
  · exact h
  · rw [h]; exact Ext.refl _
 clear h2
 refine ⟨hx10,?_⟩
 conv=>whnf
 replace h1 := h1.ext hx10
 replace h7 := h7.ext hx10
 replace hx := hx.trans hx10
 replace hq1 := hq1.ext hx10
 replace hq2 := hq2.ext hx10
 replace hs8 := hs8.ext hx10
 replace hp8 := hp8.ext hx10
 clear hx10 hfan
 (conv=>whnf);repeat(refine Sg ?_;(conv=>whnf))
 constructor
 · intro h; simp at h
 intro _
 (conv=>whnf);repeat(refine Sg ?_;(conv=>whnf))
 refine Qg Qa (fun (k:Nat) w' => k ≤ 6 ∧ Ext w10 w')
  (fun k => [(1,.pointer (some ⟨b1,0,none⟩)),(4,.slice A4 z.length c4),(5,.pointer (some ⟨b6,0,none⟩)),(6,.slice A8 6 c8),(74,.int .i64 6),(75,.int .i64 (k:Nat))]) (fun k => 6 - k) 0 ⟨by omega,Ext.refl _⟩ ⟨rfl,rfl,rfl,rfl,rfl,rfl,trivial⟩ ?_
 rintro k w11 ⟨hk,hx11⟩
 conv=>whnf
 constructor
 · intro hlt
   have hlt : k < 6 := by
    have : (k:Int) < 6 := by simpa using hlt
    omega
   obtain ⟨y,hy⟩ : ∃ y,Q[k]? = some y := ⟨_,List.getElem?_eq_getElem (by omega)⟩
   obtain ⟨a1,rfl,hc1⟩ := (hq1.ext hx11) k y hy
   obtain ⟨a8,rfl,hc8⟩ := (hp8.ext hx11) k y hy
   (conv=>whnf);repeat(refine Sg ?_;(conv=>whnf))
   refine Dr .same [0,1,2,3,4,5,6,7,8,9] [] ?_;conv=>whnf
   have hxd : Ext w11 w11.drew := (Ext.refl w11).drew
   refine ⟨.slice (some a1) 6 c1,(h7.ext hx11).one rfl,?_⟩;conv=>whnf
   refine ⟨a1,⟨rfl,by omega,by omega⟩,?_⟩;conv=>whnf
   refine ⟨ptC y,⟨rfl,hc1⟩,?_⟩;conv=>whnf
   refine ⟨a8,⟨rfl,by omega,by omega⟩,?_⟩;conv=>whnf
   refine ⟨ptC y,⟨rfl,hc8⟩,?_⟩;conv=>whnf
   refine ⟨_,Q77 y y _ _,?_⟩; (conv=>whnf);repeat(refine Sg ?_;(conv=>whnf))
   constructor
   · intro h; simp at h
   intro _
   (conv=>whnf);repeat(refine Sg ?_;(conv=>whnf))
   refine ⟨_,wrap_succ (by omega),?_⟩; (conv=>whnf);repeat(refine Sg ?_;(conv=>whnf))
   exact ⟨k + 1,by omega,⟨by omega,hx11.trans hxd⟩,⟨rfl,rfl,rfl,rfl,rfl,rfl,trivial⟩⟩
 · intro _
   replace h1 := h1.ext hx11
   replace h7 := h7.ext hx11
   replace hx := hx.trans hx11
   replace hq2 := hq2.ext hx11
   replace hs8 := hs8.ext hx11
   clear hq1 hp8 hx11
   (conv=>whnf);repeat(refine Sg ?_;(conv=>whnf))
   refine Dr .ext [0,1,2,3,4,5,6,7,8,9,10,11] [12,13,14,15,16] ?_;conv=>whnf
   have hxd : Ext w11 w11.drew := (Ext.refl w11).drew
   replace h1 := h1.ext hxd
   replace h7 := h7.ext hxd
   replace hx := hx.trans hxd
   replace hq2 := hq2.ext hxd
   replace hs8 := hs8.ext hxd
   generalize w11.drew = w12 at h1 h7 hx hq2 hs8 ⊢
   clear hxd
   refine ⟨.slice A2 O.length c2,h7.one rfl,?_⟩;conv=>whnf
   refine ⟨Qmt c,⟨rfl,Qvk h1⟩,?_⟩;conv=>whnf
   refine ⟨.string person,h1.one rfl,?_⟩;conv=>whnf
   refine ⟨.string item,h1.one rfl,?_⟩;conv=>whnf
   refine ⟨.int .i64 now,h1.one rfl,?_⟩;conv=>whnf
   refine (hownR w12 hs8 hcap4.1 (by omega) hzm hzr).mono ?_
   rintro _ w13 ⟨A13,c13,rfl,hs13,hx13⟩
   refine ⟨hx13,?_⟩;conv=>whnf
   refine (Q09 O O A2 A13 c2 c13 w13 (hq2.ext hx13) hs13 (by omega)).mono ?_
   rintro _ w14 ⟨rfl,hx14⟩
   replace hx := (hx.trans hx13).trans hx14
   rw [decide_eq_true rfl]
   conv=>whnf
   refine ⟨Unit,fun _ => (.bool true),fun _ w' => Ext w14 w',(),fun hg => ((Qmq w14 (hg0.ext hx))).mono fun r w' h => ⟨(),h.1,h.2⟩,?_⟩
   intro _ w15 h2
   have hx15 : Ext w14 w15 := by
    rcases h2 with ⟨_,h⟩ | ⟨_,h⟩
    · exact h
    · rw [h]; exact Ext.refl _
   clear h2
   conv=>whnf
   (conv=>whnf);repeat(refine Sg ?_;(conv=>whnf))
   exact ⟨by simp,hx.trans hx15⟩
end Go.Proofs.YtnnnbjjenknpeaaGreatDoor
