import Derived.Test.YtopncieoolkhjaaGreatDoorGO
import Derived.Test.YtopncieoolkhjaaGreatDoorHSe8
import Derived.Test.YtopncieoolkhjaaGreatDoorHRsC
import Derived.Test.YtopncieoolkhjaaGreatDoorGL
import Derived.Test.YtopncieoolkhjaaGreatDoorHPl8
/- The walk of reason.own: Events,applied,liked,maker. -/
set_option linter.unusedVariables false
set_option linter.unusedSimpArgs false
namespace Go.Proofs.YtopncieoolkhjaaGreatDoor
open Go.Se Go.RowKit
theorem Qrl (l:List Ev) (A:Option Addr) (c:Nat) (w:World) (hs:SlE w A l) (hl:l.length < 1000000) :
 Cal Tryz.prog 121 [.slice A l.length c] w fun r w' => ∃ A' c',r = .slice A' l.length c' ∧ Own evC 8 49 w.heap.size w' A' c' l ∧ (A' = none → l = []) ∧ Ext w w' := by
 refine Fi Tryz.func121 rfl _ rfl rfl ?_;conv=>whnf
 refine ⟨_,Qdd Qq0 A _ _ _ _,?_⟩; (conv=>whnf);repeat(refine Sg ?_;(conv=>whnf))
 constructor
 · intro hq
   have hA : A = none := by simpa using hq
   have hl0 : l = [] := by
    cases l with
    | nil => rfl
    | cons x l =>
      obtain ⟨a,ha,_⟩ := hs 0 x rfl
      rw [hA] at ha; cases ha
   subst hl0
   (conv=>whnf);repeat(refine Sg ?_;(conv=>whnf))
   exact ⟨none,0,rfl,Own.nil,fun _ => rfl,Ext.refl _⟩
 · intro hq
   (conv=>whnf);repeat(refine Sg ?_;(conv=>whnf))
   intro b1 w1 hn1; (conv=>whnf);repeat(refine Sg ?_;(conv=>whnf))
   have o1 := Qoa.made (base := w.heap.size) hn1 (Nat.le_refl _)
   refine X4 Qoa (l := []) (news := l) rfl o1 rfl (hs.ext hn1.ext) (by simp; omega) hn1.ext.size fun A2 c2 w2 hown2 hg2 hA2 => ?_
   have hx2 := Xo hn1.ext hg2 (Qdu o1)
   rw [List.nil_append] at hown2 ⊢
   (conv=>whnf);repeat(refine Sg ?_;(conv=>whnf))
   refine ⟨A2,c2,rfl,hown2,fun h => ?_,hx2⟩
   exfalso
   rcases hA2 with h2 | h2 | h2
   · rw [h] at h2; cases h2
   · rw [h] at h2; simp at h2
   · rw [h] at h2; simp at h2
theorem Qrs {w:World} {T:Nat → Prop} {p:Nat} {c:Cfg} {z:List Ev} (h:WT w T p c z) :
 Cal Tryz.prog 58 [.pointer (some ⟨p,0,none⟩)] w fun r w' => ∃ A c',r = .slice A z.length c' ∧ Own evC 8 49 w.heap.size w' A c' z ∧ (A = none → z = []) ∧ Ext w w' := by
 obtain ⟨v,T0,hQ,_⟩ := h
 have hzl := hQ.len
 obtain ⟨col,q,A,n,cap,any,last,hL⟩ := hQ.at_
 obtain ⟨hn,hsl,_⟩ := hL.evs
 subst hn
 refine Fi Tryz.func58 rfl _ rfl rfl ?_;conv=>whnf
 refine ⟨.slice A z.length cap,hL.head.one rfl,?_⟩; (conv=>whnf);repeat(refine Sg ?_;(conv=>whnf))
 refine (Qrl z A cap w hsl hzl).mono ?_
 rintro _ w1 ⟨A1,c1,rfl,h1,h2,h3⟩; (conv=>whnf);repeat(refine Sg ?_;(conv=>whnf))
 exact ⟨A1,c1,rfl,h1,h2,h3⟩
theorem Qrz (l:List Int) (A:Option Addr) (c:Nat) (x:Int) (w:World) (hs:SlI w A l) (hl:l.length < 1000000) :
 Cal Tryz.prog 220 [.slice A l.length c,.int .i64 x] w fun r w' => (∃ i : Int,r = .int .i64 i ∧ -1 ≤ i ∧ (0 ≤ i ↔ x ∈ l)) ∧ w' = w := by
 refine Fi Tryz.func220 rfl _ rfl rfl ?_;conv=>whnf
 refine Qj Qa (fun (k:Nat) w' => k ≤ l.length ∧ x ∉ l.take k ∧ w' = w)
  (fun k => [(0,.slice A l.length c),(1,.int .i64 x),(7,.int .i64 l.length),(8,.int .i64 (k:Nat))]) (fun k => l.length - k) 0 ⟨Nat.zero_le _,by simp,rfl⟩ ⟨rfl,rfl,rfl,rfl,trivial⟩ ?_
 rintro k w2 ⟨hk,hno,hw2⟩
 subst hw2
 conv=>whnf
 constructor
 · intro hlt
   have hlt : k < l.length := by simpa using hlt
   obtain ⟨a2,hA,hc2⟩ := hs.get hlt
   subst hA
   have htk : x ∈ l.take (k + 1) ↔ x = l[k] := by rw [List.take_succ_eq_append_getElem hlt,List.mem_append,List.mem_singleton]; simp [hno]
   have hmem : l[k] ∈ l := List.getElem_mem hlt
   generalize l[k] = y at hc2 htk hmem
   conv=>whnf
   refine ⟨a2,⟨rfl,by omega,by omega⟩,?_⟩;conv=>whnf
   refine ⟨.int .i64 y,Xb hc2,?_⟩;conv=>whnf
   constructor
   · intro hc
     have hc : x = y := by simpa using hc
     conv=>whnf
     exact ⟨⟨k,rfl,by omega,by simp [hc,hmem]⟩,rfl⟩
   · intro hc
     have hc : ¬ x = y := by simpa using hc
     conv=>whnf
     refine ⟨_,wrap_succ (by omega),?_⟩;conv=>whnf
     exact ⟨k + 1,by omega,⟨by omega,fun h => hc (htk.1 h),rfl⟩,⟨rfl,rfl,rfl,rfl,trivial⟩⟩
 · intro hge
   have hge : l.length ≤ k := by simpa using hge
   rw [List.take_of_length_le hge] at hno
   conv=>whnf
   exact ⟨⟨-1,rfl,by omega,by simp [hno]⟩,rfl⟩
theorem Qlt (l:List Int) (A:Option Addr) (c:Nat) (x:Int) (w:World) (hs:SlI w A l) (hl:l.length < 1000000) :
 Cal Tryz.prog 172 [.slice A l.length c,.int .i64 x] w fun r w' => r = .bool (decide (x ∈ l)) ∧ w' = w := by
 refine Fi Tryz.func172 rfl _ rfl rfl ?_;conv=>whnf
 refine (Qrz l A c x w hs hl).mono ?_
 rintro _ _ ⟨⟨i,rfl,hi1,hi2⟩,rfl⟩
 conv=>whnf
 refine ⟨?_,rfl⟩
 by_cases hq : x ∈ l
 · rw [decide_eq_true (hi2.2 hq),decide_eq_true hq]
 · rw [decide_eq_false (fun h => hq (hi2.1 h)),decide_eq_false hq]
theorem Qjx (w:World) (p:Nat) (hg:Gl w) (e:Ev) (hm:Xy e = true) (hk:thB e = false) (ht:e.text.size < 1000000) :
 Cal Tryz.prog 163 [.pointer (some ⟨p,0,none⟩),evV e] w fun r w' => r = .bool false ∧ Ext w w' := by
 have hk : ¬ (e.kind = 11 ∨ e.kind = 12 ∨ e.kind = 13) := by simpa [thB] using hk
 refine Fi Tryz.func163 rfl _ rfl rfl ?_;conv=>whnf
 intro b1 w1 hn1
 have hb1 := hn1.At
 conv=>whnf
 refine ⟨evC e,⟨rfl,hb1.all⟩,?_⟩;conv=>whnf
 refine (Qhh e w1 (hg.ext hn1.ext) (by omega)).mono ?_
 rintro _ w2 ⟨rfl,hx2⟩
 have hb2 := hb1.ext hx2
 conv=>whnf
 refine ⟨_,fun _ => hb2.one rfl,?_⟩;conv=>whnf
 refine ⟨_,fun _ _ => hb2.one rfl,?_⟩;conv=>whnf
 refine ⟨_,fun _ _ => hb2.one rfl,?_⟩;conv=>whnf
 have hcond : ((!Xy e) || (((!decide (e.kind = 11)) && (!decide (e.kind = 12))) && (!decide (e.kind = 13)))) = true := by
  rw [hm]
  simp
  omega
 constructor
 · intro _
   conv=>whnf
   exact ⟨rfl,hn1.ext.trans hx2⟩
 · intro hc
   have hc := hcond.symm.trans hc
   cases hc
structure ApAt (w:World) (p bw ba:Nat) (z:List Ev) (R:Nat → Prop) : Prop where
 wb : At w bw 38 [.pointer (some ⟨p,0,none⟩)]
 all : ∃ A c,At w ba 23 [.slice A (if A = none then 0 else z.length) c] ∧ (A = none → c = 0) ∧ SlE w A (if A = none then [] else z) ∧ ∀ a,A = some a → a.block ≠ ba ∧ ¬ R a.block ∧ a.block < w.heap.size
 ne : bw ≠ ba
theorem ApAt.ext {w w1:World} {p bw ba:Nat} {z:List Ev} {R:Nat → Prop} (h:ApAt w p bw ba z R) (hx:Ext w w1) : ApAt w1 p bw ba z R := by
 obtain ⟨h1,⟨A,c,h2,h3,h4,h5⟩,h6⟩ := h
 exact ⟨h1.ext hx,⟨A,c,h2.ext hx,h3,h4.ext hx,fun a ha => ⟨(h5 a ha).1,(h5 a ha).2.1,Nat.lt_of_lt_of_le (h5 a ha).2.2 hx.size⟩⟩,h6⟩
theorem ApAt.keepR {w w1:World} {p bw ba:Nat} {z:List Ev} {R R1:Nat → Prop} (h:ApAt w p bw ba z R) (hk:∀ k,k < w.heap.size → ¬ R k → w1.heap[k]? = w.heap[k]? ∧ ¬ R1 k) (hbw:¬ R bw) (hba:¬ R ba) : ApAt w1 p bw ba z R1 := by
 obtain ⟨h1,⟨A,c,h2,h3,h4,h5⟩,h6⟩ := h
 refine ⟨(hk bw h1.lt hbw).1.trans h1,⟨A,c,(hk ba h2.lt hba).1.trans h2,h3,Qoa.stay h4 fun a ha hlt => (hk _ hlt (h5 a ha).2.1).1,fun a ha => ?_⟩,h6⟩
 have h7 := hk _ (h5 a ha).2.2 (h5 a ha).2.1
 exact ⟨(h5 a ha).1,h7.2,Qih (h5 a ha).2.2 h7.1⟩
def apV (bw ba:Nat) : Value := .func (.func 171) #[] #[.pointer (some ⟨bw,0,none⟩),.pointer (some ⟨ba,0,none⟩)]
theorem Qoz (p:Nat) (z:List Ev) (R:Nat → Prop) (w:World) :
 Cal Tryz.prog 105 [.pointer (some ⟨p,0,none⟩)] w fun r w' => ∃ bw ba,r = apV bw ba ∧ w.heap.size ≤ bw ∧ w.heap.size ≤ ba ∧ ba < w'.heap.size ∧ ApAt w' p bw ba z R ∧ Ext w w' := by
 refine Fi Tryz.func105 rfl _ rfl rfl ?_;conv=>whnf
 intro b1 w1 hn1; (conv=>whnf);repeat(refine Sg ?_;(conv=>whnf))
 intro b2 w2 hn2; (conv=>whnf);repeat(refine Sg ?_;(conv=>whnf))
 have e1 := hn1.block
 have e2 := hn2.block
 have s1 := hn1.size
 refine ⟨b1,b2,rfl,by omega,by omega,hn2.At.lt,⟨hn1.At.ext hn2.ext,⟨none,0,hn2.At,fun _ => rfl,Sl.nil,by simp⟩,by omega⟩,hn1.ext.trans hn2.ext⟩
theorem Q3c {a b:Ev} : 0 ≤ Qg4 a b ↔ Qu a b = false := by
 rw [← Qa7,decide_eq_false_iff_not]
 omega
theorem Qyv {cs:List Ev} {x:Ev} {q:Ev → Bool} (h:∀ y ∈ cs,Qu y x = true) : (Qi cs).filter q = [] ∨ Qu (Qdm ((Qi cs).filter q)) x = true := by
 rcases List.eq_nil_or_concat ((Qi cs).filter q) with h0 | ⟨l,y,h0⟩
 · exact .inl h0
 · right
   have hl : (Qi cs).filter q = l ++ [y] := by simpa using h0
   have hy : y ∈ cs := by
    have : y ∈ (Qi cs).filter q := by rw [hl]; simp
    exact (List.mem_filter.1 (List.mem_filter.1 this).1).1
   rw [hl,Qkk]
   exact h y hy
theorem Ql9 (l:List Ev) (name:ByteArray) (t:Int) : (l.filter fun x => decide (x.item = name)).filter (thQ name t) = l.filter (thQ name t) := by
 rw [List.filter_filter]
 apply List.filter_congr
 intro x _
 unfold thQ
 by_cases h : x.item = name <;> simp [h]
set_option maxHeartbeats 2000000 in
theorem Qrf {w:World} {T:Nat → Prop} {p:Nat} {c:Cfg} {z:List Ev} (hW:WT w T p c z) (hg:Gl w) (hz:z.length < 100000) (bw ba:Nat) {R:Nat → Prop} (hA:ApAt w p bw ba z R) (hR:∀ k,R k → k < w.heap.size) (hba:10 ≤ ba) (e:Ev) (he:e ∈ z) (hpe:peB e = true) :
 Cal Tryz.prog 171 [evV e,.pointer (some ⟨bw,0,none⟩),.pointer (some ⟨ba,0,none⟩)] w fun r w' => ∃ A c',r = .slice A (Qlf z e).length c' ∧ SlT w' A (Qlf z e) ∧ ApAt w' p bw ba z R ∧ Mod (fun k => k = ba) w w' := by
 obtain ⟨v,T0,hQ,_⟩ := id hW
 have hzm := hQ.may
 have hzr := hQ.rise
 have hsz := hg.size
 have hnth := Quo hpe
 have hbm : ∀ y ∈ (Qi (Qdj z e)).filter (thQ e.item e.at_),Xy y = true := fun y hy => hzm y (Qm5 (List.mem_filter.1 (List.mem_filter.1 hy).1).1)
 have hne : z ≠ [] := fun h => by rw [h] at he; simp at he
 have hthl := List.length_filter_le thB z
 refine Fi Tryz.func171 rfl _ rfl rfl ?_;conv=>whnf
 intro b3 w1 hn1; (conv=>whnf);repeat(refine Sg ?_;(conv=>whnf))
 have h1 : At w1 b3 49 (evC e) := hn1.At
 have hx1 := hn1.ext
 have hb3 : w.heap.size ≤ b3 := by rw [hn1.block]; exact Nat.le_refl _
 have hbal : ba < w.heap.size := by obtain ⟨A,c',h,_⟩ := hA.all; exact h.lt
 clear hn1
 refine ⟨.pointer (some ⟨p,0,none⟩),(hA.wb.ext hx1).one0,?_⟩; (conv=>whnf);repeat(refine Sg ?_;(conv=>whnf))
 refine (Xu (hQ.ext hx1)).mono ?_
 rintro _ w2 ⟨pc,S,rfl,hcat,hx2⟩
 replace h1 := h1.ext hx2
 replace hx1 := hx1.trans hx2
 clear hx2
 (conv=>whnf);repeat(refine Sg ?_;(conv=>whnf))
 refine Dr .ext [0,1,2,4,5,3] [6] ?_;conv=>whnf
 have hxd := (Ext.refl w2).drew
 replace h1 := h1.ext hxd
 replace hx1 := hx1.trans hxd
 replace hcat := hcat.ext hxd
 generalize w2.drew = w3 at h1 hx1 hcat ⊢
 refine ⟨.string e.item,h1.one rfl,?_⟩;conv=>whnf
 refine ⟨.int .i64 e.at_,h1.one rfl,?_⟩;conv=>whnf
 refine (Qo7 w3 S pc _ hcat e.item (by
  have h2 := (Xj (Qi z) (Qcl hzm) e.item).1
  unfold Qi at *
  omega)).mono ?_
 rintro _ w4 ⟨A4,c4,L,rfl,hL,hLl,hs4,hx4⟩
 refine ⟨hx4,?_⟩;conv=>whnf
 refine (Qlt L A4 c4 e.at_ w4 hs4 hLl).mono ?_
 rintro _ w5 ⟨rfl,hw5⟩
 replace hw5 := hw5.symm
 subst hw5
 replace h1 := h1.ext hx4
 replace hx1 := hx1.trans hx4
 replace hcat := hcat.ext hx4
 have hin : e.at_ ∈ L ↔ ∃ x ∈ Qi z,x.item = e.item ∧ x.at_ = e.at_ := by rw [hL]; exact Qx6 e.item e.at_ (Qi z)
 clear hL hs4 hx4 hxd
 (conv=>whnf);repeat(refine Sg ?_;(conv=>whnf))
 constructor
 · intro hq
   have hq : e.at_ ∈ L := by simpa using hq
   clear hcat hin
   conv=>whnf
   refine Q8 Qa (ι := Option Addr × Nat) (fun _ => [(1,.pointer (some ⟨bw,0,none⟩)),(2,.pointer (some ⟨ba,0,none⟩)),(3,.pointer (some ⟨b3,0,none⟩))]) (fun q w' => At w' ba 23 [.slice q.1 z.length q.2] ∧ SlE w' q.1 z ∧ (∀ a,q.1 = some a → a.block ≠ ba ∧ ¬ R a.block ∧ a.block < w'.heap.size) ∧ At w' b3 49 (evC e) ∧ At w' bw 38 [.pointer (some ⟨p,0,none⟩)] ∧ Mod (fun k => k = ba) w w') ?_ ?_
   · obtain ⟨Aa,ca,hat,hc0,hsl,hnb⟩ := hA.all
     have hb3a : b3 ≠ ba := by omega
     conv=>whnf
     refine ⟨.slice Aa (if Aa = none then 0 else z.length) ca,(hat.ext hx1).one0,?_⟩;conv=>whnf
     refine ⟨_,Qdd Qq0 Aa _ _ _ _,?_⟩;conv=>whnf
     constructor
     · intro hn
       have hn : Aa = none := by simpa using hn
       subst hn
       have hc0 := hc0 rfl
       subst hc0
       conv=>whnf
       refine ⟨.pointer (some ⟨p,0,none⟩),(hA.wb.ext hx1).one0,?_⟩;conv=>whnf
       refine (Qrs (hW.ext hx1)).mono ?_
       rintro _ w6 ⟨A6,c6,rfl,hown6,hn6,hx6⟩;conv=>whnf
       refine Qc Qa (e := ty23) rfl ((hat.ext hx1).ext hx6) rfl rfl rfl (by simp [Qg,Value.oneCell']) fun w7 h7 ho7 => ?_
       have s4 := hx1.size
       conv=>whnf
       refine ⟨(A6,c6),⟨h7,Qbb (hown6.sl Qa5) fun a ha => ho7.block _ (fun e => ?_),fun a ha => ⟨fun e => ?_,fun e => ?_,by rw [ho7.size]; exact (hown6.block ha).2⟩,(ho7.block b3 hb3a).trans (h1.ext hx6),(ho7.block bw hA.ne).trans ((hA.wb.ext hx1).ext hx6),(Mod.of_ext (hx1.trans hx6)).trans (Qh ho7 rfl)⟩,⟨rfl,rfl,rfl,trivial⟩⟩
       · have := (hown6.block ha).1; omega
       · have := (hown6.block ha).1; omega
       · have := (hown6.block ha).1; have := hR _ e; omega
     · intro hn
       have hn : ¬ Aa = none := by
        intro h
        rw [h] at hn
        cases hn
       rw [if_neg hn] at hat hsl
       rw [if_neg hn]
       conv=>whnf
       exact ⟨(Aa,ca),⟨hat.ext hx1,hsl.ext hx1,fun a ha => ⟨(hnb a ha).1,(hnb a ha).2.1,Nat.lt_of_lt_of_le (hnb a ha).2.2 hx1.size⟩,h1,hA.wb.ext hx1,Mod.of_ext hx1⟩,⟨rfl,rfl,rfl,trivial⟩⟩
   rintro ⟨A6,c6⟩ w6 ⟨h6,hs6,hnb6,h1,hwb6,hM6⟩
   simp only at h6 hs6 hnb6
   have hA6n : A6 ≠ none := fun h => by
    obtain ⟨y,ys,hzz⟩ := List.exists_cons_of_ne_nil hne
    rw [hzz] at hs6
    obtain ⟨a,ha,_⟩ := hs6 0 y rfl
    rw [h] at ha; cases ha
   have hg6 : Gl w6 := hg.mod hM6 fun k hk => by rw [hk]; exact hba
   have s6 := hg6.size
   clear hx1
   (conv=>whnf);repeat(refine Sg ?_;(conv=>whnf))
   refine (Qjy w6).mono ?_
   rintro _ w7 ⟨p2,rfl,hcat7,hx7⟩; (conv=>whnf);repeat(refine Sg ?_;(conv=>whnf))
   refine ⟨.slice A6 z.length c6,(h6.ext hx7).one0,?_⟩; (conv=>whnf);repeat(refine Sg ?_;(conv=>whnf))
   refine Qj Qa (fun (i:Nat) w' => i ≤ z.length ∧ (∀ x ∈ z.take i,Qu x e = true) ∧ (∃ S',Qgi w' S' p2 ((Qi (z.take i)).filter fun x => decide (x.item = e.item)) ∧ ∀ k,S' k → w6.heap.size ≤ k) ∧ Ext w6 w')
    (fun i => [(3,.pointer (some ⟨b3,0,none⟩)),(5,.pointer (some ⟨p2,0,none⟩)),(24,.slice A6 z.length c6),(25,.int .i64 z.length),(26,.int .i64 (i:Nat))]) (fun i => z.length - i) 0 ⟨Nat.zero_le _,by simp,⟨_,hcat7,fun k hk => hk⟩,hx7⟩ ⟨rfl,rfl,rfl,rfl,rfl,trivial⟩ ?_
   clear hcat7 hx7
   rintro i w8 ⟨hi,hall,⟨S8,hcat8,hS8⟩,hx68⟩
   conv=>whnf
   constructor
   · intro hlt
     have hlt : i < z.length := by simpa using hlt
     obtain ⟨a9,hA9,hc9⟩ := (hs6.ext hx68).get hlt
     subst hA9
     have htk := Qck z i hlt
     have hmx := hzm z[i] (List.getElem_mem hlt)
     have hgt : z[i]? = some z[i] := List.getElem?_eq_getElem hlt
     have hlx : ∀ y ∈ z.take i,Qu y z[i] = true := fun y hy => by
      have h2 := hzr
      rw [← List.take_append_drop (i + 1) z,htk] at h2
      exact (List.pairwise_append.1 (List.pairwise_append.1 h2).1).2.2 y hy z[i] (by simp)
     generalize z[i] = x at hc9 htk hmx hgt hlx
     (conv=>whnf);repeat(refine Sg ?_;(conv=>whnf))
     refine ⟨a9,⟨rfl,by omega,by omega⟩,?_⟩; (conv=>whnf);repeat(refine Sg ?_;(conv=>whnf))
     refine ⟨evC x,⟨rfl,hc9⟩,?_⟩; (conv=>whnf);repeat(refine Sg ?_;(conv=>whnf))
     intro b10 w10 hn10; (conv=>whnf);repeat(refine Sg ?_;(conv=>whnf))
     refine Qc Qa (e := ty49) rfl hn10.At rfl rfl rfl (Qaw x) fun w11 h11 ho11 => ?_
     have h11 : At w11 b10 49 (evC x) := h11
     have hx811 : Ext w8 w11 := ho11.ext hn10.ext (by rw [hn10.block]; exact Nat.le_refl _)
     clear ho11 hn10
     (conv=>whnf);repeat(refine Sg ?_;(conv=>whnf))
     refine ⟨evC x,⟨rfl,h11.all⟩,?_⟩; (conv=>whnf);repeat(refine Sg ?_;(conv=>whnf))
     refine ⟨evC e,⟨rfl,((h1.ext hx68).ext hx811).all⟩,?_⟩; (conv=>whnf);repeat(refine Sg ?_;(conv=>whnf))
     refine (Qai x e w11).mono ?_
     rintro _ w12 ⟨rfl,hx12⟩
     have hx812 := hx811.trans hx12
     have hx69 := hx68.trans hx812
     have h12 := h11.ext hx12
     have h1' := h1.ext hx69
     (conv=>whnf);repeat(refine Sg ?_;(conv=>whnf))
     constructor
     · intro hge
       have hge : 0 ≤ Qg4 x e := by simpa using hge
       replace hcat8 := hcat8.ext hx812
       have hbe : Qdj z e = z.take i := (Qh0 (p := fun x => Qu x e) hi hall (.inr ⟨x,hgt,Q3c.1 hge⟩)).1
       have hcs : (Qi (z.take i)).filter (fun x => decide (x.item = e.item)) = (Qi (Qdj z e)).filter fun x => decide (x.item = e.item) := by rw [hbe]
       rw [hcs] at hcat8
       have hflt := Ql9 (Qi (Qdj z e)) e.item e.at_
       have hcsm : ∀ y ∈ (Qi (Qdj z e)).filter (fun x => decide (x.item = e.item)),Xy y = true := fun y hy => hzm y (Qm5 (List.mem_filter.1 (List.mem_filter.1 hy).1).1)
       have hcsr : Rise ((Qi (Qdj z e)).filter fun x => decide (x.item = e.item)) := (Qb6 (hzr.sublist (List.takeWhile_sublist _))).sublist List.filter_sublist
       have hcl : ((Qi (Qdj z e)).filter fun x => decide (x.item = e.item)).length < 100000 := by
        have q1 := List.length_filter_le (fun x:Ev => decide (x.item = e.item)) (Qi (Qdj z e))
        have q2 := List.length_filter_le thB (Qdj z e)
        have q3 := (List.takeWhile_sublist (fun x => Qu x e) (l := z)).length_le
        unfold Qi Qdj at *
        omega
       (conv=>whnf);repeat(refine Sg ?_;(conv=>whnf))
       refine ⟨.string e.item,(h1').one rfl,?_⟩; (conv=>whnf);repeat(refine Sg ?_;(conv=>whnf))
       refine ⟨.int .i64 e.at_,(h1').one rfl,?_⟩; (conv=>whnf);repeat(refine Sg ?_;(conv=>whnf))
       refine (Xa _ S8 p2 _ hcat8 e.item e.at_ (by
        have h1 := (Xj ((Qi (Qdj z e)).filter fun x => decide (x.item = e.item)) hcsm e.item).1
        omega)).mono ?_
       rintro _ wa ⟨rfl,hxa⟩
       rw [Qdb hcsr,hflt]
       have htz := Qdr e.item ((Qi (Qdj z e)).filter (thQ e.item e.at_)) hbm
       (conv=>whnf);repeat(refine Sg ?_;(conv=>whnf))
       intro bt wt hnt; (conv=>whnf);repeat(refine Sg ?_;(conv=>whnf))
       refine Qc Qa (e := ty187) rfl hnt.At rfl rfl rfl (by simp [Qg,itC,Value.oneCell']) fun wu hu hou => ?_
       have hu : At wu bt 187 (itC (Qnl e.item ((Qi (Qdj z e)).filter (thQ e.item e.at_)))) := hu
       have hxu : Ext w12 wu := hou.ext (hxa.trans hnt.ext) (by rw [hnt.block]; exact hxa.size)
       clear hou hnt hxa
       unfold Qlf
       generalize Qnl e.item ((Qi (Qdj z e)).filter (thQ e.item e.at_)) = it at hu htz ⊢
       (conv=>whnf);repeat(refine Sg ?_;(conv=>whnf))
       refine ⟨.string it.tags,hu.one rfl,?_⟩; (conv=>whnf);repeat(refine Sg ?_;(conv=>whnf))
       refine ⟨sz2 (by decide) (by omega),?_⟩; (conv=>whnf);repeat(refine Sg ?_;(conv=>whnf))
       refine (Qbz (Qex it.tags) wu ((hg6.ext hx69).ext hxu) (by unfold Qex; rw [ByteArray.size_append]; have : (⟨#[59]⟩ : ByteArray).size = 1 := rfl; omega)).mono ?_
       rintro _ wv ⟨Av,cv,rfl,hsv,_,hxv⟩; (conv=>whnf);repeat(refine Sg ?_;(conv=>whnf))
       exact ⟨Av,cv,rfl,hsv,⟨hwb6.ext (hx69.trans (hxu.trans hxv)),⟨some a9,c6,by rw [if_neg hA6n]; exact h6.ext (hx69.trans (hxu.trans hxv)),fun h => absurd h hA6n,by rw [if_neg hA6n]; exact hs6.ext (hx69.trans (hxu.trans hxv)),fun a ha => ⟨(hnb6 a ha).1,(hnb6 a ha).2.1,Nat.lt_of_lt_of_le (hnb6 a ha).2.2 (hx69.trans (hxu.trans hxv)).size⟩⟩,hA.ne⟩,hM6.trans (Mod.of_ext (hx69.trans (hxu.trans hxv)))⟩
     intro hge
     have hls : Qu x e = true := by
      have hge : ¬ 0 ≤ Qg4 x e := by simpa using hge
      cases h : Qu x e with
      | true => rfl
      | false => exact absurd (Q3c.2 h) hge
     have hall1 : ∀ y ∈ z.take (i + 1),Qu y e = true := fun y hy => by
      rw [htk] at hy
      rcases List.mem_append.1 hy with hy | hy
      · exact hall y hy
      · rw [List.mem_singleton] at hy
        rw [hy]; exact hls
     have hcs1 : (Qi (z.take (i + 1))).filter (fun x => decide (x.item = e.item)) = (Qi (z.take i)).filter (fun x => decide (x.item = e.item)) ++ if thB x = true ∧ x.item = e.item then [x] else [] := by
      rw [htk]
      unfold Qi
      rw [List.filter_append,List.filter_append]
      congr 1
      cases h2 : thB x <;> by_cases h3 : x.item = e.item <;> simp [h2,h3]
     (conv=>whnf);repeat(refine Sg ?_;(conv=>whnf))
     refine ⟨.string x.item,h12.one rfl,?_⟩; (conv=>whnf);repeat(refine Sg ?_;(conv=>whnf))
     refine ⟨.string e.item,h1'.one rfl,?_⟩; (conv=>whnf);repeat(refine Sg ?_;(conv=>whnf))
     constructor
     · intro hxi
       have hxi : x.item = e.item := by simpa using hxi
       (conv=>whnf);repeat(refine Sg ?_;(conv=>whnf))
       refine ⟨evC x,⟨rfl,h12.all⟩,?_⟩; (conv=>whnf);repeat(refine Sg ?_;(conv=>whnf))
       have htx := Qdt hmx
       cases htb : thB x with
       | false =>
         rw [if_neg (fun h => by rw [htb] at h; cases h.1),List.append_nil] at hcs1
         refine (Qjx w12 p2 (hg6.ext hx69) x hmx htb (by omega)).mono ?_
         rintro _ w13 ⟨rfl,hx13⟩; (conv=>whnf);repeat(refine Sg ?_;(conv=>whnf))
         refine ⟨_,wrap_succ (by omega),?_⟩; (conv=>whnf);repeat(refine Sg ?_;(conv=>whnf))
         exact ⟨i + 1,by omega,⟨by omega,hall1,⟨S8,by rw [hcs1]; exact (hcat8.ext hx812).ext hx13,hS8⟩,hx69.trans hx13⟩,⟨rfl,rfl,rfl,rfl,rfl,trivial⟩⟩
       | true =>
         rw [if_pos ⟨htb,hxi⟩] at hcs1
         refine (Qg3 w12 S8 p2 _ (hcat8.ext hx812) (hg6.ext hx69) (fun k hk => by have := hS8 k hk; omega) x hmx (by simpa [thB] using htb) (by omega) (Qyv hlx) (by
          have q1 := (Xj ((Qi (z.take i)).filter fun x => decide (x.item = e.item)) (fun y hy => hzm y (List.mem_of_mem_take (List.mem_filter.1 (List.mem_filter.1 hy).1).1)) x.item).1
          have q2 := List.length_filter_le (fun x:Ev => decide (x.item = e.item)) (Qi (z.take i))
          have q3 := List.length_filter_le thB (z.take i)
          rw [List.length_take] at q3
          unfold Qi at *
          omega)).mono ?_
         rintro _ w13 ⟨rfl,hcat13,hM13⟩
         have hx13 := Qdf hx69 hS8 hM13
         (conv=>whnf);repeat(refine Sg ?_;(conv=>whnf))
         refine ⟨_,wrap_succ (by omega),?_⟩; (conv=>whnf);repeat(refine Sg ?_;(conv=>whnf))
         refine ⟨i + 1,by omega,⟨by omega,hall1,⟨_,by rw [hcs1]; exact hcat13,fun k hk => ?_⟩,hx13⟩,⟨rfl,rfl,rfl,rfl,rfl,trivial⟩⟩
         have := hx69.size
         rcases hk with hk | hk
         · exact hS8 k hk
         · omega
     · intro hxi
       have hxi : ¬ x.item = e.item := by simpa using hxi
       rw [if_neg (fun h => hxi h.2),List.append_nil] at hcs1
       (conv=>whnf);repeat(refine Sg ?_;(conv=>whnf))
       refine ⟨_,wrap_succ (by omega),?_⟩; (conv=>whnf);repeat(refine Sg ?_;(conv=>whnf))
       exact ⟨i + 1,by omega,⟨by omega,hall1,⟨S8,by rw [hcs1]; exact hcat8.ext hx812,hS8⟩,hx69⟩,⟨rfl,rfl,rfl,rfl,rfl,trivial⟩⟩
   · intro hge
     have hge : z.length ≤ i := by simpa using hge
     have h1' := h1.ext hx68
     have hbe : Qdj z e = z.take i := (Qh0 (p := fun x => Qu x e) hi hall (.inl (by omega))).1
     have hcs : (Qi (z.take i)).filter (fun x => decide (x.item = e.item)) = (Qi (Qdj z e)).filter fun x => decide (x.item = e.item) := by rw [hbe]
     rw [hcs] at hcat8
     have hflt := Ql9 (Qi (Qdj z e)) e.item e.at_
     have hcsm : ∀ y ∈ (Qi (Qdj z e)).filter (fun x => decide (x.item = e.item)),Xy y = true := fun y hy => hzm y (Qm5 (List.mem_filter.1 (List.mem_filter.1 hy).1).1)
     have hcsr : Rise ((Qi (Qdj z e)).filter fun x => decide (x.item = e.item)) := (Qb6 (hzr.sublist (List.takeWhile_sublist _))).sublist List.filter_sublist
     have hcl : ((Qi (Qdj z e)).filter fun x => decide (x.item = e.item)).length < 100000 := by
      have q1 := List.length_filter_le (fun x:Ev => decide (x.item = e.item)) (Qi (Qdj z e))
      have q2 := List.length_filter_le thB (Qdj z e)
      have q3 := (List.takeWhile_sublist (fun x => Qu x e) (l := z)).length_le
      unfold Qi Qdj at *
      omega
     (conv=>whnf);repeat(refine Sg ?_;(conv=>whnf))
     refine ⟨.string e.item,(h1').one rfl,?_⟩; (conv=>whnf);repeat(refine Sg ?_;(conv=>whnf))
     refine ⟨.int .i64 e.at_,(h1').one rfl,?_⟩; (conv=>whnf);repeat(refine Sg ?_;(conv=>whnf))
     refine (Xa _ S8 p2 _ hcat8 e.item e.at_ (by
      have h1 := (Xj ((Qi (Qdj z e)).filter fun x => decide (x.item = e.item)) hcsm e.item).1
      omega)).mono ?_
     rintro _ wa ⟨rfl,hxa⟩
     rw [Qdb hcsr,hflt]
     have htz := Qdr e.item ((Qi (Qdj z e)).filter (thQ e.item e.at_)) hbm
     (conv=>whnf);repeat(refine Sg ?_;(conv=>whnf))
     intro bt wt hnt; (conv=>whnf);repeat(refine Sg ?_;(conv=>whnf))
     refine Qc Qa (e := ty187) rfl hnt.At rfl rfl rfl (by simp [Qg,itC,Value.oneCell']) fun wu hu hou => ?_
     have hu : At wu bt 187 (itC (Qnl e.item ((Qi (Qdj z e)).filter (thQ e.item e.at_)))) := hu
     have hxu : Ext w8 wu := hou.ext (hxa.trans hnt.ext) (by rw [hnt.block]; exact hxa.size)
     clear hou hnt hxa
     unfold Qlf
     generalize Qnl e.item ((Qi (Qdj z e)).filter (thQ e.item e.at_)) = it at hu htz ⊢
     (conv=>whnf);repeat(refine Sg ?_;(conv=>whnf))
     refine ⟨.string it.tags,hu.one rfl,?_⟩; (conv=>whnf);repeat(refine Sg ?_;(conv=>whnf))
     refine ⟨sz2 (by decide) (by omega),?_⟩; (conv=>whnf);repeat(refine Sg ?_;(conv=>whnf))
     refine (Qbz (Qex it.tags) wu ((hg6.ext hx68).ext hxu) (by unfold Qex; rw [ByteArray.size_append]; have : (⟨#[59]⟩ : ByteArray).size = 1 := rfl; omega)).mono ?_
     rintro _ wv ⟨Av,cv,rfl,hsv,_,hxv⟩; (conv=>whnf);repeat(refine Sg ?_;(conv=>whnf))
     exact ⟨Av,cv,rfl,hsv,⟨hwb6.ext (hx68.trans (hxu.trans hxv)),⟨A6,c6,by rw [if_neg hA6n]; exact h6.ext (hx68.trans (hxu.trans hxv)),fun h => absurd h hA6n,by rw [if_neg hA6n]; exact hs6.ext (hx68.trans (hxu.trans hxv)),fun a ha => ⟨(hnb6 a ha).1,(hnb6 a ha).2.1,Nat.lt_of_lt_of_le (hnb6 a ha).2.2 (hx68.trans (hxu.trans hxv)).size⟩⟩,hA.ne⟩,hM6.trans (Mod.of_ext (hx68.trans (hxu.trans hxv)))⟩
 · intro hq
   have hq : ¬ e.at_ ∈ L := by simpa using hq
   have hno : ∀ x ∈ Qi z,x.item = e.item → x.at_ ≠ e.at_ := fun x hx hi ht => hq (hin.2 ⟨x,hx,hi,ht⟩)
   have hflt := Qs9 hzr he hnth hno
   have hcsm := Qcl hzm
   have hcsr := Qb6 hzr
   have hcl : (Qi z).length < 100000 := by unfold Qi; omega
   (conv=>whnf);repeat(refine Sg ?_;(conv=>whnf))
   refine ⟨.string e.item,(h1).one rfl,?_⟩; (conv=>whnf);repeat(refine Sg ?_;(conv=>whnf))
   refine ⟨.int .i64 e.at_,(h1).one rfl,?_⟩; (conv=>whnf);repeat(refine Sg ?_;(conv=>whnf))
   refine (Xa _ S pc _ hcat e.item e.at_ (by
    have h1 := (Xj (Qi z) hcsm e.item).1
    omega)).mono ?_
   rintro _ wa ⟨rfl,hxa⟩
   rw [Qdb hcsr,hflt]
   have htz := Qdr e.item ((Qi (Qdj z e)).filter (thQ e.item e.at_)) hbm
   (conv=>whnf);repeat(refine Sg ?_;(conv=>whnf))
   intro bt wt hnt; (conv=>whnf);repeat(refine Sg ?_;(conv=>whnf))
   refine Qc Qa (e := ty187) rfl hnt.At rfl rfl rfl (by simp [Qg,itC,Value.oneCell']) fun wu hu hou => ?_
   have hu : At wu bt 187 (itC (Qnl e.item ((Qi (Qdj z e)).filter (thQ e.item e.at_)))) := hu
   have hxu : Ext w4 wu := hou.ext (hxa.trans hnt.ext) (by rw [hnt.block]; exact hxa.size)
   clear hou hnt hxa
   unfold Qlf
   generalize Qnl e.item ((Qi (Qdj z e)).filter (thQ e.item e.at_)) = it at hu htz ⊢
   (conv=>whnf);repeat(refine Sg ?_;(conv=>whnf))
   refine ⟨.string it.tags,hu.one rfl,?_⟩; (conv=>whnf);repeat(refine Sg ?_;(conv=>whnf))
   refine ⟨sz2 (by decide) (by omega),?_⟩; (conv=>whnf);repeat(refine Sg ?_;(conv=>whnf))
   refine (Qbz (Qex it.tags) wu ((hg.ext hx1).ext hxu) (by unfold Qex; rw [ByteArray.size_append]; have : (⟨#[59]⟩ : ByteArray).size = 1 := rfl; omega)).mono ?_
   rintro _ wv ⟨Av,cv,rfl,hsv,_,hxv⟩; (conv=>whnf);repeat(refine Sg ?_;(conv=>whnf))
   exact ⟨Av,cv,rfl,hsv,hA.ext (hx1.trans (hxu.trans hxv)),Mod.of_ext (hx1.trans (hxu.trans hxv))⟩
end Go.Proofs.YtopncieoolkhjaaGreatDoor
