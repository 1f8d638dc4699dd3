import Derived.Test.YtopncieoolkhjaaGreatDoorHRs2
import Derived.Test.YtopncieoolkhjaaGreatDoorGM
/- The walk of reason.own: liked,maker,own. -/
set_option linter.unusedVariables false
set_option linter.unusedSimpArgs false
namespace Go.Proofs.YtopncieoolkhjaaGreatDoor
open Go.Se Go.RowKit
theorem Qw4 (bt:Nat) (tags:List ByteArray) (A:Option Addr) (cc:Nat) (x:ByteArray) (w:World) (hb:At w bt 36 [.slice A tags.length cc]) (hs:SlT w A tags) (hl:tags.length < 1000000) :
 Cal Tryz.prog 109 [.string x,.pointer (some ⟨bt,0,none⟩)] w fun r w' => r = .bool (decide (x ∈ tags)) ∧ w' = w := by
 refine Fi Tryz.func109 rfl _ rfl rfl ?_;conv=>whnf
 refine ⟨.slice A tags.length cc,hb.one0,?_⟩;conv=>whnf
 refine (Qd1 tags A cc x w hs hl).mono ?_
 rintro _ _ ⟨rfl,rfl⟩;conv=>whnf
 exact ⟨rfl,rfl⟩
theorem Qyn (bt:Nat) (tags:List ByteArray) (A:Option Addr) (cc:Nat) (row:List ByteArray) (B:Option Addr) (cB:Nat) (w:World) (hb:At w bt 36 [.slice A tags.length cc]) (hs:SlT w A tags) (hl:tags.length < 1000000) (hr:SlT w B row) (hrl:row.length < 1000000) :
 Cal Tryz.prog 174 [.slice B row.length cB,.func (.func 109) #[] #[.pointer (some ⟨bt,0,none⟩)]] w fun r w' => (∃ i : Int,r = .int .i64 i ∧ -1 ≤ i ∧ (0 ≤ i ↔ row.any (fun t => decide (t ∈ tags)) = true)) ∧ w' = w := by
 refine Fi Tryz.func174 rfl _ rfl rfl ?_;conv=>whnf
 refine Qj Qa (fun (k:Nat) w' => k ≤ row.length ∧ (row.take k).any (fun t => decide (t ∈ tags)) = false ∧ w' = w)
  (fun k => [(0,.slice B row.length cB),(1,.func (.func 109) #[] #[.pointer (some ⟨bt,0,none⟩)]),(7,.int .i64 row.length),(8,.int .i64 (k:Nat))]) (fun k => row.length - k) 0 ⟨Nat.zero_le _,rfl,rfl⟩ ⟨rfl,rfl,rfl,rfl,trivial⟩ ?_
 rintro k w2 ⟨hk,hno,hw2⟩
 subst hw2
 conv=>whnf
 constructor
 · intro hlt
   have hlt : k < row.length := by simpa using hlt
   obtain ⟨a2,hA,hc2⟩ := hr.get hlt
   subst hA
   have htk : (row.take (k + 1)).any (fun t => decide (t ∈ tags)) = decide (row[k] ∈ tags) := by rw [List.take_succ_eq_append_getElem hlt,List.any_append,hno]; simp
   have hmem : row[k] ∈ row := List.getElem_mem hlt
   generalize row[k] = y at hc2 htk hmem
   conv=>whnf
   refine ⟨a2,⟨rfl,by omega,by omega⟩,?_⟩;conv=>whnf
   refine ⟨.string y,Xb hc2,?_⟩;conv=>whnf
   refine (Qw4 bt tags A cc y w2 hb hs hl).mono ?_
   rintro _ _ ⟨rfl,rfl⟩
   generalize hq : decide (y ∈ tags) = q at htk ⊢
   conv=>whnf
   constructor
   · intro hc
     have hc : q = true := hc
     conv=>whnf
     refine ⟨⟨k,rfl,by omega,?_⟩,rfl⟩
     simp only [Int.natCast_nonneg,true_iff,List.any_eq_true]
     exact ⟨y,hmem,by rw [hq,hc]⟩
   · intro hc
     have hc : q = false := hc
     conv=>whnf
     refine ⟨_,wrap_succ (by omega),?_⟩;conv=>whnf
     exact ⟨k + 1,by omega,⟨by omega,by rw [htk,hc],rfl⟩,⟨rfl,rfl,rfl,rfl,trivial⟩⟩
 · intro hge
   have hge : row.length ≤ k := by simpa using hge
   rw [List.take_of_length_le hge] at hno
   conv=>whnf
   exact ⟨⟨-1,rfl,by omega,by rw [hno]; simp⟩,rfl⟩
theorem Qyi (bt:Nat) (tags:List ByteArray) (A:Option Addr) (cc:Nat) (row:List ByteArray) (B:Option Addr) (cB:Nat) (w:World) (hb:At w bt 36 [.slice A tags.length cc]) (hs:SlT w A tags) (hl:tags.length < 1000000) (hr:SlT w B row) (hrl:row.length < 1000000) :
 Cal Tryz.prog 108 [.slice B row.length cB,.func (.func 109) #[] #[.pointer (some ⟨bt,0,none⟩)]] w fun r w' => r = .bool (row.any fun t => decide (t ∈ tags)) ∧ w' = w := by
 refine Fi Tryz.func108 rfl _ rfl rfl ?_;conv=>whnf
 refine (Qyn bt tags A cc row B cB w hb hs hl hr hrl).mono ?_
 rintro _ _ ⟨⟨i,rfl,hi1,hi2⟩,rfl⟩
 conv=>whnf
 refine ⟨?_,rfl⟩
 cases hq : row.any (fun t => decide (t ∈ tags)) with
 | true => rw [decide_eq_true (hi2.2 hq)]
 | false => rw [decide_eq_false (fun h => by rw [hi2.1 h] at hq; cases hq)]
structure Q28 (w:World) (p bw ba b6 b12 b11 b13 pp:Nat) (c:Cfg) (z:List Ev) (item:ByteArray) (tags:List ByteArray) (R:Nat → Prop) : Prop where
 ap : ApAt w p bw ba z R
 low : 10 ≤ ba
 item : At w b6 9 [.string item]
 pr : At w b12 80 [.pointer (some ⟨pp,0,none⟩)]
 pairs : ∃ S,Qco w S pp (Qhr c z) ∧ ¬ S ba
 tags : ∃ A cc,At w b11 36 [.slice A tags.length cc] ∧ SlT w A tags ∧ ∀ a,A = some a → tags ≠ [] → a.block ≠ ba
 apf : At w b13 218 [apV bw ba]
 ne : b6 ≠ ba ∧ b12 ≠ ba ∧ b11 ≠ ba ∧ b13 ≠ ba
theorem Q28.go {w w1:World} {p bw ba b6 b12 b11 b13 pp:Nat} {c:Cfg} {z:List Ev} {item:ByteArray} {tags:List ByteArray} {R R1:Nat → Prop} (h:Q28 w p bw ba b6 b12 b11 b13 pp c z item tags R) (hA:ApAt w1 p bw ba z R1) (hM:Mod (fun k => k = ba) w w1) : Q28 w1 p bw ba b6 b12 b11 b13 pp c z item tags R1 := by
 obtain ⟨S,hS,hSb⟩ := h.pairs
 obtain ⟨A,cc,h1,h2,h3⟩ := h.tags
 obtain ⟨n1,n2,n3,n4⟩ := h.ne
 refine ⟨hA,h.low,h.item.mod hM n1,h.pr.mod hM n2,⟨S,hS.keep fun k hk hs => ⟨hM.block k hk (fun e => hSb (e ▸ hs)),hs⟩,hSb⟩,⟨A,cc,h1.mod hM n3,?_,h3⟩,h.apf.mod hM n4,h.ne⟩
 exact fun i x hi => by
  obtain ⟨a,ha,hc⟩ := h2 i x hi
  refine ⟨a,ha,?_⟩
  exact fun j v hj => hM.cell (hc j v hj) (by show ¬ _ = ba; rw [add_block,add_block]; exact h3 a ha (fun e => by rw [e] at hi; simp at hi))
theorem Q28.ext {w w1:World} {p bw ba b6 b12 b11 b13 pp:Nat} {c:Cfg} {z:List Ev} {item:ByteArray} {tags:List ByteArray} {R:Nat → Prop} (h:Q28 w p bw ba b6 b12 b11 b13 pp c z item tags R) (hx:Ext w w1) : Q28 w1 p bw ba b6 b12 b11 b13 pp c z item tags R := h.go (h.ap.ext hx) (Mod.of_ext hx)
set_option maxHeartbeats 2000000 in
theorem Qv9 {w:World} {T:Nat → Prop} {p:Nat} {c:Cfg} {z:List Ev} (hW:WT w T p c z) (hg:Gl w) (hz:z.length < 1000) {bw ba b6 b12 b11 b13 pp:Nat} {item:ByteArray} {tags:List ByteArray} {R:Nat → Prop} (h:Q28 w p bw ba b6 b12 b11 b13 pp c z item tags R) (hR:∀ k,R k → k < w.heap.size) (htl:tags.length < 1000) (hsl:(Qhr c z).length < 1000) (e:Ev) (he:e ∈ z) (hpe:peB e = true) :
 Cal Tryz.prog 106 [evV e,.pointer (some ⟨b6,0,none⟩),.pointer (some ⟨b12,0,none⟩),.pointer (some ⟨b11,0,none⟩),.pointer (some ⟨b13,0,none⟩)] w fun r w' => r = .bool (Qlu c z item tags e) ∧ ApAt w' p bw ba z R ∧ Mod (fun k => k = ba) w w' := by
 refine Fi Tryz.func106 rfl _ rfl rfl ?_;conv=>whnf
 intro b1 w1 hn1; (conv=>whnf);repeat(refine Sg ?_;(conv=>whnf))
 have h1 : At w1 b1 49 (evC e) := hn1.At
 have hx1 := hn1.ext
 have hb1 : w.heap.size ≤ b1 := by rw [hn1.block]; exact Nat.le_refl _
 clear hn1
 refine ⟨evC e,⟨rfl,h1.all⟩,?_⟩; (conv=>whnf);repeat(refine Sg ?_;(conv=>whnf))
 refine (Qc7 e w1).mono ?_
 rintro _ w2 ⟨rfl,hx2⟩
 replace h1 := h1.ext hx2
 replace hx1 := hx1.trans hx2
 have h2 := h.ext hx1
 (conv=>whnf);repeat(refine Sg ?_;(conv=>whnf))
 constructor
 · intro hq
   have hq : Qr e ≤ 0 := by simpa using hq
   (conv=>whnf);repeat(refine Sg ?_;(conv=>whnf))
   refine ⟨?_,h2.ap,Mod.of_ext hx1⟩
   unfold Qlu
   rw [decide_eq_false (by omega:¬ 0 < Qr e)]
   rfl
 intro hq
 have hq : 0 < Qr e := by
  have hq : ¬ Qr e ≤ 0 := by simpa using hq
  omega
 have hlk : Qlu c z item tags e = ((!decide (e.item = item) && decide (0 < (Qes (Qhr c z) e.item item).1)) || (Qlf z e).any fun t => decide (t ∈ tags)) := by
  unfold Qlu
  rw [decide_eq_true hq,Bool.true_and]
 rw [hlk]
 clear hlk
 (conv=>whnf);repeat(refine Sg ?_;(conv=>whnf))
 refine ⟨.string e.item,h1.one rfl,?_⟩; (conv=>whnf);repeat(refine Sg ?_;(conv=>whnf))
 refine ⟨.string item,h2.item.one0,?_⟩; (conv=>whnf);repeat(refine Sg ?_;(conv=>whnf))
 refine ⟨.pointer (some ⟨pp,0,none⟩),fun _ => h2.pr.one0,?_⟩; (conv=>whnf);repeat(refine Sg ?_;(conv=>whnf))
 refine ⟨.string e.item,fun _ => h1.one rfl,?_⟩; (conv=>whnf);repeat(refine Sg ?_;(conv=>whnf))
 refine ⟨.string item,fun _ => h2.item.one0,?_⟩; (conv=>whnf);repeat(refine Sg ?_;(conv=>whnf))
 obtain ⟨S,hS,hSb⟩ := h2.pairs
 refine ⟨Unit,fun _ => (Q5s (Qes (Qhr c z) e.item item)),fun _ w' => Ext w2 w',(),fun hg => ((Qpx w2 S pp _ hS e.item item hsl)).mono fun r w' h => ⟨(),h.1,h.2⟩,?_⟩
 intro _ w3 h2
 have hx3 : Ext w2 w3 := by
  rcases h2 with ⟨_,h⟩ | ⟨_,h⟩
  · exact h
  · rw [h]; exact Ext.refl _
 clear h2
 conv=>whnf
 replace h1 := h1.ext hx3
 replace hx1 := hx1.trans hx3
 replace h2 := h2.ext hx3
 generalize hq2 : (!decide (e.item = item) && decide (0 < (Qes (Qhr c z) e.item item).1)) = q2
 (conv=>whnf);repeat(refine Sg ?_;(conv=>whnf))
 constructor
 · intro hc
   have hc : q2 = true := hc
   subst hc
   (conv=>whnf);repeat(refine Sg ?_;(conv=>whnf))
   exact ⟨rfl,h2.ap,Mod.of_ext hx1⟩
 intro hc
 have hc : q2 = false := hc
 subst hc
 clear hq2
 obtain ⟨A,cc,ht,hst,hnt⟩ := h2.tags
 (conv=>whnf);repeat(refine Sg ?_;(conv=>whnf))
 refine ⟨.slice A tags.length cc,ht.one0,?_⟩; (conv=>whnf);repeat(refine Sg ?_;(conv=>whnf))
 constructor
 · intro h0
   have h0 : tags = [] := by
    have : tags.length = 0 := by simpa using h0
    exact List.eq_nil_of_length_eq_zero this
   (conv=>whnf);repeat(refine Sg ?_;(conv=>whnf))
   refine ⟨?_,h2.ap,Mod.of_ext hx1⟩
   rw [h0]
   simp
 intro h0
 (conv=>whnf);repeat(refine Sg ?_;(conv=>whnf))
 refine ⟨apV bw ba,h2.apf.one0,?_⟩; (conv=>whnf);repeat(refine Sg ?_;(conv=>whnf))
 refine ⟨evC e,⟨rfl,h1.all⟩,?_⟩; (conv=>whnf);repeat(refine Sg ?_;(conv=>whnf))
 refine (Qrf (hW.ext hx1) (hg.ext hx1) (by omega) bw ba h2.ap (fun k hk => Nat.lt_of_lt_of_le (hR k hk) hx1.size) h2.low e he hpe).mono ?_
 rintro _ w4 ⟨A4,c4,rfl,hs4,hap4,hM4⟩
 have h4 := h2.go hap4 hM4
 obtain ⟨A',cc',ht',hst',hnt'⟩ := h4.tags
 have hbl : (Qlf z e).length < 1000000 := by
  obtain ⟨v,T0,hQ,_⟩ := hW
  have := (Qkh e.item ((Qi (Qdj z e)).filter (thQ e.item e.at_)) fun y hy => hQ.may y (Qm5 (List.mem_filter.1 (List.mem_filter.1 hy).1).1)).2.2
  unfold Qlf
  omega
 (conv=>whnf);repeat(refine Sg ?_;(conv=>whnf))
 refine (Qyi b11 tags A' cc' (Qlf z e) A4 c4 w4 ht' hst' (by omega) hs4 hbl).mono ?_
 rintro _ _ ⟨rfl,rfl⟩; (conv=>whnf);repeat(refine Sg ?_;(conv=>whnf))
 exact ⟨by simp,hap4,(Mod.of_ext hx1).trans hM4⟩
theorem Qwb (b10 b9:Nat) (there:Bool) (it:It) (e:Ev) (w:World) (h10:At w b10 4 [.bool there]) (h9:At w b9 187 (itC it)) :
 Cal Tryz.prog 111 [evV e,.pointer (some ⟨b10,0,none⟩),.pointer (some ⟨b9,0,none⟩)] w fun r w' => r = .bool (there && decide (e.text = it.maker)) ∧ Ext w w' := by
 refine Fi Tryz.func111 rfl _ rfl rfl ?_;conv=>whnf
 intro b1 w1 hn1; (conv=>whnf);repeat(refine Sg ?_;(conv=>whnf))
 have h1 : At w1 b1 49 (evC e) := hn1.At
 refine ⟨.bool there,(h10.ext hn1.ext).one0,?_⟩; (conv=>whnf);repeat(refine Sg ?_;(conv=>whnf))
 refine ⟨.string e.text,fun _ => h1.one rfl,?_⟩; (conv=>whnf);repeat(refine Sg ?_;(conv=>whnf))
 refine ⟨.string it.maker,fun _ => (h9.ext hn1.ext).one rfl,?_⟩; (conv=>whnf);repeat(refine Sg ?_;(conv=>whnf))
 exact ⟨rfl,hn1.ext⟩
theorem Qwc (e:Ev) (w:World) :
 Cal Tryz.prog 112 [evV e] w fun r w' => r = .bool false ∧ Ext w w' := by
 refine Fi Tryz.func112 rfl _ rfl rfl ?_;conv=>whnf
 intro b1 w1 hn1; (conv=>whnf);repeat(refine Sg ?_;(conv=>whnf))
 exact ⟨rfl,hn1.ext⟩
end Go.Proofs.YtopncieoolkhjaaGreatDoor
