import Derived.Test.YtdahooejkjcjiaaGreatDoorHWt2
import Derived.Test.YtdahooejkjcjiaaGreatDoorHWf2
/- The law WorldForgets. -/
set_option linter.unusedVariables false
set_option linter.unusedSimpArgs false
namespace Go.Proofs.YtdahooejkjcjiaaGreatDoor
open Go.Se Go.RowKit Go.Shelf
theorem Qto {z:List Ev} (f:Ev) (k:Nat) (h:k < z.length) : Qbn (z.take (k + 1)) f = Qbn (z.take k) f ++ if (!decide (z[k].person = f.person) || decide (z[k].kind = 14)) = true then [z[k]] else [] := by
 unfold Qbn
 rw [Qbr z k h,List.filter_append]
 congr 1
 simp only [List.filter_cons,List.filter_nil]
theorem Q6j {w:World} {A:Option Addr} {z:List Ev} (f:Ev) (hs:SlE w A z) : ∃ (a:Addr) (e:Ev),0 < z.length → A = some a ∧ Xj w (a.add ((z.length - 1) * 8)) (evC e) ∧ z.getLast? = some e := by
 by_cases h : 0 < z.length
 · have hlt : z.length - 1 < z.length := by omega
   obtain ⟨a,h1,h2⟩ := hs.get hlt
   exact ⟨a,z[z.length - 1],fun _ => ⟨h1,h2,by rw [List.getLast?_eq_getElem?,List.getElem?_eq_getElem hlt]⟩⟩
 · exact ⟨⟨0,0,none⟩,f,fun h' => absurd h' h⟩
set_option maxHeartbeats 16000000 in
theorem worldForgets_spec (c:Cfg) (l:List Ev) (A:Option Addr) (cap:Nat) (f:Ev) (now:Int) (w:World) (hg0:Gl w) (hs:SlE w A l) :
 Cal Tryz.prog 7 [Q20 c,.slice A l.length cap,evV f,.int .i64 now] w fun r w' => r = .bool true ∧ Ext w w' := by
 have hsz := hg0.size
 refine Fi Tryz.func7 rfl _ rfl rfl ?_;conv=>whnf
 intro b5 w0 hn0; (conv=>whnf);repeat(refine Sg ?_;(conv=>whnf))
 intro b6 w1 hn1; (conv=>whnf);repeat(refine Sg ?_;(conv=>whnf))
 have g5 : At w1 b5 23 (Qiw c) := hn0.At.ext hn1.ext
 have g6 : At w1 b6 34 (evC f) := hn1.At
 have hx := hn0.ext.trans hn1.ext
 clear hn0 hn1
 refine (Qhq w1 (hg0.ext hx)).mono ?_
 rintro _ w2 ⟨rfl,hx2⟩
 replace g5 := g5.ext hx2
 replace g6 := g6.ext hx2
 replace hx := hx.trans hx2
 clear hx2
 (conv=>whnf);repeat(refine Sg ?_;(conv=>whnf))
 constructor
 · intro h; simp at h
 intro _
 (conv=>whnf);repeat(refine Sg ?_;(conv=>whnf))
 refine ⟨Unit,fun _ => (.bool (l.any (Qzj 300))),fun _ w' => Ext w2 w',(),fun hg => ((Qlt l A cap 300 w2 (hs.ext hx) (by simp at hg; omega))).mono fun r w' h => ⟨(),h.1,h.2⟩,?_⟩
 intro _ w3 h2
 have hx3 : Ext w2 w3 := by
  rcases h2 with ⟨_,h⟩ | ⟨_,h⟩
  · exact h
  · rw [h]; exact Ext.refl _
 clear h2
 conv=>whnf
 replace g5 := g5.ext hx3
 replace g6 := g6.ext hx3
 replace hx := hx.trans hx3
 refine ⟨Unit,fun _ => (.bool (l.all Xa)),fun _ w' => Ext w3 w',(),fun hg => ((Qnx l A cap w3 (hs.ext hx) (by have := (Bool.or_eq_false_iff.1 hg).1; simp at this; omega) (Qn0 (Bool.or_eq_false_iff.1 hg).2))).mono fun r w' h => ⟨(),h.1,h.2⟩,?_⟩
 intro _ w4 h2
 have hx4 : Ext w3 w4 := by
  rcases h2 with ⟨_,h⟩ | ⟨_,h⟩
  · exact h
  · rw [h]; exact Ext.refl _
 clear h2
 conv=>whnf
 replace g5 := g5.ext hx4
 replace g6 := g6.ext hx4
 replace hx := hx.trans hx4
 refine ⟨Qiw c,fun _ => ⟨rfl,g5.all⟩,?_⟩;conv=>whnf
 refine ⟨Unit,fun _ => (.bool (Qj2 c)),fun _ w' => Ext w4 w',(),fun hg => ((Qf9 c w4)).mono fun r w' h => ⟨(),h.1,h.2⟩,?_⟩
 intro _ w5 h2
 have hx5 : Ext w4 w5 := by
  rcases h2 with ⟨_,h⟩ | ⟨_,h⟩
  · exact h
  · rw [h]; exact Ext.refl _
 clear h2
 conv=>whnf
 replace g5 := g5.ext hx5
 replace g6 := g6.ext hx5
 replace hx := hx.trans hx5
 refine ⟨_,fun _ => g6.one rfl,?_⟩;conv=>whnf
 refine ⟨evC f,fun _ => ⟨rfl,g6.all⟩,?_⟩;conv=>whnf
 refine ⟨Unit,fun _ => (.bool (Xa f)),fun _ w' => Ext w5 w',(),fun hg => ((Qwb f w5 (fun hk => by have h := (Bool.or_eq_false_iff.1 hg).2; simp at h; omega))).mono fun r w' h => ⟨(),h.1,h.2⟩,?_⟩
 intro _ w6 h2
 have hx6 : Ext w5 w6 := by
  rcases h2 with ⟨_,h⟩ | ⟨_,h⟩
  · exact h
  · rw [h]; exact Ext.refl _
 clear h2
 conv=>whnf
 replace g5 := g5.ext hx6
 replace g6 := g6.ext hx6
 replace hx := hx.trans hx6
 refine ⟨evC f,fun _ => ⟨rfl,g6.all⟩,?_⟩;conv=>whnf
 refine ⟨Unit,fun _ => (.bool (Q2e l f)),fun _ w' => Ext w6 w',(),fun hg => ((Qye l A cap f w6 (hs.ext hx) (by have h := hg; simp only [Bool.or_eq_false_iff,decide_eq_false_iff_not] at h; have := h.1.1.1.1.1; omega))).mono fun r w' h => ⟨(),h.1,h.2⟩,?_⟩
 intro _ w7 h2
 have hx7 : Ext w6 w7 := by
  rcases h2 with ⟨_,h⟩ | ⟨_,h⟩
  · exact h
  · rw [h]; exact Ext.refl _
 clear h2
 conv=>whnf
 replace g5 := g5.ext hx7
 replace g6 := g6.ext hx7
 replace hx := hx.trans hx7
 clear hx3 hx4 hx5 hx6 hx7
 (conv=>whnf);repeat(refine Sg ?_;(conv=>whnf))
 constructor
 · intro _
   (conv=>whnf);repeat(refine Sg ?_;(conv=>whnf))
   exact ⟨rfl,hx⟩
 intro hq
 have hq : Q5n c l f = false := hq
 obtain ⟨hl,hm,hcf,hk14,hmf,hid⟩ := Q3g hq
 clear hq
 have s7 := hx.size
 have htf : f.text.size < 4000000000 := Nat.lt_trans (Qb6 hmf) (by decide)
 (conv=>whnf);repeat(refine Sg ?_;(conv=>whnf))
 refine (Qrc l A cap w7 (hs.ext hx) (by omega) hm).mono ?_
 rintro _ w8 ⟨Ai,ci,rfl,hsI,_,hx8⟩
 have g5l := g5.lt
 have g6l := g6.lt
 replace g5 := g5.ext hx8
 replace g6 := g6.ext hx8
 replace hx := hx.trans hx8
 have s8 := hx8.size
 clear hx8
 have hzl := Qht l
 have hzm : ∀ e ∈ X0 l,Xa e = true := fun e he => hm e (Qcw he)
 have hzr := Qc0 hm
 have hzz := Qp1 hm
 have hzid : ∀ x ∈ X0 l,idE x ≠ idE f := fun x hx => hid x (Qcw hx)
 have hA0 := (Q4z (c := c) hm).1
 have hE0 := (Q4z (c := c) hm).2
 have hOt := Qsn hm hmf hk14 hid
 have hMo := Qzd hm hmf hid
 have hLo := Qhg (Qeu l) hk14
 obtain ⟨a0,e0,h0⟩ := Q6j f hsI
 generalize X0 l = z at hsI hzl hzm hzr hzz hzid hA0 hE0 hOt hMo hLo h0 ⊢
 (conv=>whnf);repeat(refine Sg ?_;(conv=>whnf))
 refine Dr .same [0,1,2,3,4,5,6,7,8,9,10] [11,12,13] ?_;conv=>whnf
 have hxd : Ext w8 w8.drew := (Ext.refl w8).drew
 replace g5 := g5.ext hxd
 replace g6 := g6.ext hxd
 replace hsI := hsI.ext hxd
 replace hx := hx.trans hxd
 have h0c : 0 < z.length → Xj w8.drew (a0.add ((z.length - 1) * 8)) (evC e0) := fun h => hxd.cells (h0 h).2.1
 have sd := hxd.size
 generalize w8.drew = w9 at g5 g6 hsI hx h0c sd ⊢
 clear hxd
 refine ⟨((z.length - 1 : Nat) : Int),fun hg => wrap_eq (by simp at hg; omega) ⟨by omega,by omega⟩,?_⟩;conv=>whnf
 refine ⟨a0,fun hg => ⟨(h0 (by simpa using hg)).1,by omega,by simp at hg; omega⟩,?_⟩;conv=>whnf
 refine ⟨evC e0,fun hg => ⟨rfl,h0c (by simpa using hg)⟩,?_⟩;conv=>whnf
 refine ⟨evC f,fun _ => ⟨rfl,g6.all⟩,?_⟩;conv=>whnf
 refine ⟨Unit,fun _ => (.bool (Qp e0 f)),fun _ w' => Ext w9 w',(),fun hg => ((Qf1 e0 f w9)).mono fun r w' h => ⟨(),h.1,h.2⟩,?_⟩
 intro _ wb h2
 have hxb : Ext w9 wb := by
  rcases h2 with ⟨_,h⟩ | ⟨_,h⟩
  · exact h
  · rw [h]; exact Ext.refl _
 clear h2
 conv=>whnf
 replace g5 := g5.ext hxb
 replace g6 := g6.ext hxb
 replace hsI := hsI.ext hxb
 replace hx := hx.trans hxb
 have sb := hxb.size
 (conv=>whnf);repeat(refine Sg ?_;(conv=>whnf))
 constructor
 · intro _
   (conv=>whnf);repeat(refine Sg ?_;(conv=>whnf))
   exact ⟨rfl,hx⟩
 intro hq
 have hlast : ∀ x ∈ z,Qp x f = true := by
  refine Qz1 hzr fun y hy => ?_
  have hlen : 0 < z.length := by cases z with | nil => cases hy | cons _ _ => simp
  rw [(h0 hlen).2.2] at hy
  obtain rfl := Option.some.inj hy
  simpa [hlen] using hq
 clear hq h0c h0 hxb
 replace hOt := hOt hlast
 replace hMo := hMo hlast
 rw [hLo] at hMo
 have hw0 := Qz2 hmf hk14 hzid hlast
 clear hlast hzid hid hzr
 (conv=>whnf);repeat(refine Sg ?_;(conv=>whnf))
 intro b7 wc hn7; (conv=>whnf);repeat(refine Sg ?_;(conv=>whnf))
 have o7 : Own evC 8 34 wb.heap.size wc (some ⟨b7,0,none⟩) 0 [] := Qat.made hn7 (Nat.le_refl _)
 have hx7 := hn7.ext
 clear hn7
 refine Qe Qa (fun (x:Nat × Option Addr × Nat × List Ev) w' => x.1 ≤ z.length ∧ x.2.2.2 = Qbn (z.take x.1) f ∧ Own evC 8 34 wb.heap.size w' x.2.1 x.2.2.1 x.2.2.2 ∧ Ext wb w')
  (fun | (k,B,d,L) => [(1,.slice A l.length cap),(3,.int .i64 now),(4,.pointer (some ⟨b5,0,none⟩)),(6,.pointer (some ⟨b6,0,none⟩)),(9,.slice Ai z.length ci),(10,.slice B L.length d),(11,.int .i64 (k:Nat))]) (fun x => z.length - x.1) (0,some ⟨b7,0,none⟩,0,[]) ⟨Nat.zero_le _,rfl,o7,hx7⟩ ⟨rfl,rfl,rfl,rfl,rfl,rfl,rfl,trivial⟩ ?_
 clear o7 hx7
 rintro ⟨k,B,d,L⟩ wd ⟨hk,hL,hown,hxa⟩
 simp only at hk hL hown hxa
 have hLl : L.length ≤ 24 := by
  rw [hL]
  have := Qvh (z.take k) f
  rw [List.length_take] at this
  omega
 conv=>whnf
 constructor
 · intro hlt
   have hlt : k < z.length := by simpa using hlt
   obtain ⟨a,rfl,hc8⟩ := (hsI.ext hxa).get hlt
   have hst := Qto (z := z) f k hlt
   generalize z[k] = e at hc8 hst
   (conv=>whnf);repeat(refine Sg ?_;(conv=>whnf))
   refine Dr .ext [0,1,2,3,4,5,6,7,8,9,10,11,12,13,14,15] [] ?_;conv=>whnf
   have hxd : Ext wd wd.drew := (Ext.refl wd).drew
   replace hown := hown.ext hxd
   replace hc8 := hxd.cells hc8
   replace hxa := hxa.trans hxd
   generalize wd.drew = we at hown hc8 hxa ⊢
   clear hxd
   have g6e := g6.ext hxa
   refine ⟨a,⟨rfl,by omega,by omega⟩,?_⟩;conv=>whnf
   refine ⟨_,cells_at hc8 (k := 4) rfl,?_⟩;conv=>whnf
   refine ⟨_,g6e.one rfl,?_⟩;conv=>whnf
   refine ⟨a,fun _ => ⟨rfl,by omega,by omega⟩,?_⟩;conv=>whnf
   refine ⟨_,fun _ => cells_at hc8 (k := 3) rfl,?_⟩;conv=>whnf
   constructor
   · intro hq
     have hq : (!decide (e.person = f.person) || decide (e.kind = 14)) = true := hq
     rw [if_pos hq] at hst
     (conv=>whnf);repeat(refine Sg ?_;(conv=>whnf))
     refine ⟨a,⟨rfl,by omega,by omega⟩,?_⟩; (conv=>whnf);repeat(refine Sg ?_;(conv=>whnf))
     refine ⟨evC e,⟨rfl,hc8⟩,?_⟩; (conv=>whnf);repeat(refine Sg ?_;(conv=>whnf))
     intro bb wf hnb; (conv=>whnf);repeat(refine Sg ?_;(conv=>whnf))
     refine Qu Qat (l := L) (news := [e]) rfl (hown.ext hnb.ext) rfl (Qat.new1 (x := e) hnb) (by simp; omega) (hxa.trans hnb.ext).size fun A6 c6 wg hown6 hg6 hA6 => ?_
     have hx6 := Qn (hxa.trans hnb.ext) hg6 (Xg (hown.ext hnb.ext))
     have hL2 : L ++ [e] = Qbn (z.take (k + 1)) f := by rw [hL,hst]
     generalize L ++ [e] = L2 at hown6 hL2 ⊢
     (conv=>whnf);repeat(refine Sg ?_;(conv=>whnf))
     refine ⟨_,wrap_succ (by omega),?_⟩; (conv=>whnf);repeat(refine Sg ?_;(conv=>whnf))
     exact ⟨(k + 1,A6,c6,L2),by simp only; omega,⟨by simp only; omega,hL2,hown6,hx6⟩,⟨rfl,rfl,rfl,rfl,rfl,rfl,rfl,trivial⟩⟩
   · intro hq
     have hq : (!decide (e.person = f.person) || decide (e.kind = 14)) = false := hq
     rw [if_neg (by rw [hq]; decide),List.append_nil] at hst
     (conv=>whnf);repeat(refine Sg ?_;(conv=>whnf))
     refine ⟨_,wrap_succ (by omega),?_⟩; (conv=>whnf);repeat(refine Sg ?_;(conv=>whnf))
     exact ⟨(k + 1,B,d,L),by simp only; omega,⟨by simp only; omega,by simp only; rw [hst]; exact hL,hown,hxa⟩,⟨rfl,rfl,rfl,rfl,rfl,rfl,rfl,trivial⟩⟩
 intro hge
 have hge : z.length ≤ k := by simpa using hge
 rw [List.take_of_length_le hge] at hL
 have hsL := hown.sl Q3
 replace g5 := g5.ext hxa
 replace g6 := g6.ext hxa
 replace hsI := hsI.ext hxa
 replace hx := hx.trans hxa
 have sa := hxa.size
 clear hown hge hk hxa
 (conv=>whnf);repeat(refine Sg ?_;(conv=>whnf))
 refine ⟨Qiw c,⟨rfl,g5.all⟩,?_⟩; (conv=>whnf);repeat(refine Sg ?_;(conv=>whnf))
 refine (Qas c hcf z Ai ci wd (hg0.ext hx) hsI (by omega) hzm).mono ?_
 rw [hzz]
 rintro _ u1 ⟨pa,rfl,hWa,hx1⟩
 obtain ⟨col,hC⟩ := hWa.at_.col
 have hlo : ∀ j,col j ≠ 0 → wd.heap.size ≤ j := hC.low
 have g6u := g6.ext hx1
 have hgu := hg0.ext (hx.trans hx1)
 have s1 := hx1.size
 clear hWa hsI hzm hzz
 have hAn : Qme (ofW c.width z) f = 0 := by rw [hA0.answer,hE0]; exact hw0
 have hin := hA0.inv
 obtain ⟨hA1,hE1⟩ := hA0.step hAn
 rw [hE0,hLo] at hE1
 have hel : (ofW c.width z).es.length < 100000 := by rw [hE0]; omega
 generalize ofW c.width z = s0 at hC hA0 hE0 hAn hin hA1 hE1 hel
 (conv=>whnf);repeat(refine Sg ?_;(conv=>whnf))
 refine ⟨evC f,fun _ => ⟨rfl,g6u.all⟩,?_⟩; (conv=>whnf);repeat(refine Sg ?_;(conv=>whnf))
 refine ⟨(Nat → Nat),(fun _ => .int .i64 0),(fun col' w' => Qbz w' wd.heap.size pa c (Qp0 c.width s0 f) col' ∧ (∀ k,col' k ≠ 0 → col k ≠ 0 ∨ u1.heap.size ≤ k) ∧ Mod (fun k => col k ≠ 0) u1 w'),(fun _ => 0),fun _ => ((Qj9 u1 _ pa c hcf s0 col hC hgu hin hel f htf).mono fun r w' ⟨h1,col',h2⟩ => ⟨col',by rw [h1,hAn],h2⟩),?_⟩
 rintro iu2 u2 hqu2
 replace hqu2 := hqu2.elim (fun h => h.2) fun h => (h.1 (And.intro (by first | rfl | simp | decide) trivial)).elim
 obtain ⟨hC2,_,hM2⟩ := hqu2
 have hxa : Ext wd u2 := Qz hx1 hM2 hlo
 obtain ⟨Ta,hTa,hTa0⟩ := Qmm.t hC2.at_ hA1.inv (by rw [hE1,List.length_append]; have := Qvh z f; simp; omega)
 rw [hE1] at hTa
 rw [← hL] at hOt hMo hTa
 have hzl2 : (L ++ [f]).length ≤ 25 := by rw [List.length_append]; simp; omega
 have hh1 : Qxj (L ++ [f]) f.person = [] := by rw [hL]; exact Qz0 hk14
 have hh2 : Qc9 (Qvi c.gap) (Qe5 ((L ++ [f]).filter wpB)) f.person = [] := by rw [hL]; exact Q3h hk14
 have hmL : ∀ x ∈ L ++ [f],Xa x = true := fun x hx => by
  rcases List.mem_append.1 hx with h | h
  · exact hA1.inv.may x (by rw [hE1,← hL]; exact hx)
  · rw [List.mem_singleton.1 h]; exact hmf
 have hml : ∀ x ∈ l ++ [f],Xa x = true := fun x hx => by
  rcases List.mem_append.1 hx with h | h
  · exact hm x h
  · rw [List.mem_singleton.1 h]; exact hmf
 have hTw5 : ∀ k,Ta k → w7.heap.size ≤ k := fun k hk => by have := hTa0 k hk; omega
 replace g5 := g5.ext hxa
 replace g6 := g6.ext hxa
 replace hsL := hsL.ext hxa
 replace hx := hx.trans hxa
 have s2 := hxa.size
 clear hC2 hM2 hC hA0 hA1 hE0 hE1 hAn hin hgu g6u hx1 hxa hlo hL hw0 hTa0 hel
 (conv=>whnf);repeat(refine Sg ?_;(conv=>whnf))
 constructor
 · intro h; simp at h
 intro _
 (conv=>whnf);repeat(refine Sg ?_;(conv=>whnf))
 refine Qpd (ι := Nat) (fun p2 => [(1,.slice A l.length cap),(3,.int .i64 now),(4,.pointer (some ⟨b5,0,none⟩)),(6,.pointer (some ⟨b6,0,none⟩)),(12,.pointer (some ⟨pa,0,none⟩)),(14,.pointer (some ⟨p2,0,none⟩)),(15,.int .i64 0)]) (fun p2 w' => (∃ Tv,WT w' Tv p2 c (L ++ [f]) ∧ ∀ k,Tv k → u2.heap.size ≤ k) ∧ Ext u2 w') ?_ ?_
 · refine Qfz (.mods (fun k => u2.heap.size ≤ k)) (Pl.seq [0,2,4] (Pl.two 1 (Pl.seq [] (Pl.two 3 (Pl.seq [5,6,7,8,9,10,11,12] Pl.done) 5 (Pl.seq [3,6,7,8,9,10,11,12] Pl.done))) 5 (Pl.seq [1,3,6,7,8,9,10,11,12] Pl.done))) (by intro h; cases h) Qa mixed (by kernel_rfl) ?_;conv=>whnf
   have l5 := g5.lt
   have l6 := g6.lt
   have hE : Ext u2 u2.drew := (Ext.refl u2).drew
   have g5d := g5.ext hE
   have g6d := g6.ext hE
   generalize u2.drew = ud at hE g5d g6d ⊢
   refine ⟨Qiw c,⟨rfl,g5d.all,by show ¬ (u2.heap.size ≤ b5); omega⟩,?_⟩;conv=>whnf
   refine ⟨evC f,⟨rfl,g6d.all,by show ¬ (u2.heap.size ≤ b6); omega⟩,?_⟩;conv=>whnf
   have hE := hE
   refine ⟨?_,?_⟩
   · intro b6 w6 hn6
     have o6 := (Qat).made (base := u2.heap.size) hn6 hE.size
     have hE := hE.trans hn6.ext
     refine ⟨Mod.of_ext hn6.ext,?_⟩;conv=>whnf
     refine ⟨?_,?_⟩
     · refine Qu Qat (l := []) (news := L) rfl o6 (rfl) ((hsL).ext hE) (by simp; omega) hE.size fun A7 c7 w7 hown7 hg7 hA7 => ?_
       have hE := Qn hE hg7 (Xg o6)
       refine ⟨Qv hg7 (Xg o6),?_⟩;conv=>whnf
       intro b8 w8 hn8
       have h8 := (Qat).new1 (x := f) hn8
       have hown7 := hown7.ext hn8.ext
       have hE := hE.trans hn8.ext
       refine ⟨Mod.of_ext hn8.ext,?_⟩;conv=>whnf
       refine Qu Qat (l := L) (news := [f]) rfl hown7 rfl h8 (by simp; omega) hE.size fun A9 c9 w9 hown9 hg9 hA9 => ?_
       have hE := Qn hE hg9 (Xg hown7)
       refine ⟨Qv hg9 (Xg hown7),?_⟩;conv=>whnf
       generalize L ++ [f] = L9 at hown9 hOt hzl2 hmL ⊢
       refine (Qas c hcf L9 A9 c9 _ (hg0.ext (hx.trans hE)) (hown9.sl Q3) (by omega) hmL).mono ?_
       rw [hOt]
       rintro _ w10 ⟨p2,rfl,hW10,hx10⟩
       obtain ⟨Tv,hWV,hVk⟩ := hW10.t
       have s10 := hE.size
       refine ⟨Mod.of_ext hx10,?_⟩;conv=>whnf
       exact ⟨p2,⟨⟨Tv,hWV,fun k hk => by have := hVk k hk; omega⟩,hE.trans hx10⟩,⟨rfl,rfl,rfl,rfl,rfl,rfl,rfl,trivial⟩⟩
     · intro b8 w8 hn8
       have h8 := (Qat).new1 (x := f) hn8
       have o6 := o6.ext hn8.ext
       have hE := hE.trans hn8.ext
       refine ⟨Mod.of_ext hn8.ext,?_⟩;conv=>whnf
       refine Qu Qat (l := []) (news := L) rfl o6 (rfl) ((hsL).ext hE) (by simp; omega) hE.size fun A7 c7 w7 hown7 hg7 hA7 => ?_
       have h8 := Qd6 h8 (w1 := w7) (fun a' ha' => by
        obtain rfl : (⟨b8,0,none⟩ : Addr) = a' := by simpa using ha'
        exact hg7.block b8 (by rw [hn8.block]; have := hn6.size; have := hn8.size; omega) (fun e' => by
         have h68 : b8 = b6 := by simpa using e'
         have := hn6.size
         have := hn8.size
         rw [hn6.block,hn8.block] at h68
         omega))
       have hE := Qn hE hg7 (Xg o6)
       refine ⟨Qv hg7 (Xg o6),?_⟩;conv=>whnf
       refine Qu Qat (l := L) (news := [f]) rfl hown7 rfl h8 (by simp; omega) hE.size fun A9 c9 w9 hown9 hg9 hA9 => ?_
       have hE := Qn hE hg9 (Xg hown7)
       refine ⟨Qv hg9 (Xg hown7),?_⟩;conv=>whnf
       generalize L ++ [f] = L9 at hown9 hOt hzl2 hmL ⊢
       refine (Qas c hcf L9 A9 c9 _ (hg0.ext (hx.trans hE)) (hown9.sl Q3) (by omega) hmL).mono ?_
       rw [hOt]
       rintro _ w10 ⟨p2,rfl,hW10,hx10⟩
       obtain ⟨Tv,hWV,hVk⟩ := hW10.t
       have s10 := hE.size
       refine ⟨Mod.of_ext hx10,?_⟩;conv=>whnf
       exact ⟨p2,⟨⟨Tv,hWV,fun k hk => by have := hVk k hk; omega⟩,hE.trans hx10⟩,⟨rfl,rfl,rfl,rfl,rfl,rfl,rfl,trivial⟩⟩
   · intro b8 w8 hn8
     have h8 := (Qat).new1 (x := f) hn8
     have hE := hE.trans hn8.ext
     refine ⟨Mod.of_ext hn8.ext,?_⟩;conv=>whnf
     intro b6 w6 hn6
     have o6 := (Qat).made (base := u2.heap.size) hn6 hE.size
     have hE := hE.trans hn6.ext
     have h8 := h8.ext hn6.ext
     refine ⟨Mod.of_ext hn6.ext,?_⟩;conv=>whnf
     refine Qu Qat (l := []) (news := L) rfl o6 (rfl) ((hsL).ext hE) (by simp; omega) hE.size fun A7 c7 w7 hown7 hg7 hA7 => ?_
     have h8 := Qd6 h8 (w1 := w7) (fun a' ha' => by
      obtain rfl : (⟨b8,0,none⟩ : Addr) = a' := by simpa using ha'
      exact hg7.block b8 (by rw [hn8.block]; have := hn6.size; have := hn8.size; omega) (fun e' => by
       have h68 : b8 = b6 := by simpa using e'
       have := hn6.size
       have := hn8.size
       rw [hn6.block,hn8.block] at h68
       omega))
     have hE := Qn hE hg7 (Xg o6)
     refine ⟨Qv hg7 (Xg o6),?_⟩;conv=>whnf
     refine Qu Qat (l := L) (news := [f]) rfl hown7 rfl h8 (by simp; omega) hE.size fun A9 c9 w9 hown9 hg9 hA9 => ?_
     have hE := Qn hE hg9 (Xg hown7)
     refine ⟨Qv hg9 (Xg hown7),?_⟩;conv=>whnf
     generalize L ++ [f] = L9 at hown9 hOt hzl2 hmL ⊢
     refine (Qas c hcf L9 A9 c9 _ (hg0.ext (hx.trans hE)) (hown9.sl Q3) (by omega) hmL).mono ?_
     rw [hOt]
     rintro _ w10 ⟨p2,rfl,hW10,hx10⟩
     obtain ⟨Tv,hWV,hVk⟩ := hW10.t
     have s10 := hE.size
     refine ⟨Mod.of_ext hx10,?_⟩;conv=>whnf
     exact ⟨p2,⟨⟨Tv,hWV,fun k hk => by have := hVk k hk; omega⟩,hE.trans hx10⟩,⟨rfl,rfl,rfl,rfl,rfl,rfl,rfl,trivial⟩⟩
 rintro pb u3 ⟨⟨Tb,hTb,hTb0⟩,hx3⟩
 have dab : ∀ k,Tb k → ¬ Ta k := fun k h1 h2 => by have := hTa.lt k h2; have := hTb0 k h1; omega
 have hTbw : ∀ k,Tb k → w7.heap.size ≤ k := fun k hk => by have := hTb0 k hk; omega
 replace hTa := hTa.ext hx3
 replace g5 := g5.ext hx3
 replace g6 := g6.ext hx3
 replace hx := hx.trans hx3
 have s3 := hx3.size
 have hsl := hs.ext hx
 clear hOt hmL hsL hTb0 hx3
 (conv=>whnf);repeat(refine Sg ?_;(conv=>whnf))
 refine Qpd (ι := Nat) (fun p2 => [(3,.int .i64 now),(6,.pointer (some ⟨b6,0,none⟩)),(12,.pointer (some ⟨pa,0,none⟩)),(14,.pointer (some ⟨pb,0,none⟩)),(15,.int .i64 0),(16,.pointer (some ⟨p2,0,none⟩)),(17,.int .i64 0)]) (fun p2 w' => (∃ Tv,WT w' Tv p2 c (L ++ [f]) ∧ ∀ k,Tv k → u3.heap.size ≤ k) ∧ Ext u3 w') ?_ ?_
 · refine Qfz (.mods (fun k => u3.heap.size ≤ k)) (Pl.seq [0,2,4] (Pl.two 1 (Pl.seq [] (Pl.two 3 (Pl.seq [5,6,7,8,9,10,11,12] Pl.done) 5 (Pl.seq [3,6,7,8,9,10,11,12] Pl.done))) 5 (Pl.seq [1,3,6,7,8,9,10,11,12] Pl.done))) (by intro h; cases h) Qa mixed (by kernel_rfl) ?_;conv=>whnf
   have l5 := g5.lt
   have l6 := g6.lt
   have hE : Ext u3 u3.drew := (Ext.refl u3).drew
   have g5d := g5.ext hE
   have g6d := g6.ext hE
   have hll : (l ++ [f]).length ≤ 25 := by rw [List.length_append]; simp; omega
   generalize u3.drew = ud at hE g5d g6d ⊢
   refine ⟨Qiw c,⟨rfl,g5d.all,by show ¬ (u3.heap.size ≤ b5); omega⟩,?_⟩;conv=>whnf
   refine ⟨evC f,⟨rfl,g6d.all,by show ¬ (u3.heap.size ≤ b6); omega⟩,?_⟩;conv=>whnf
   have hE := hE
   refine ⟨?_,?_⟩
   · intro b6 w6 hn6
     have o6 := (Qat).made (base := u3.heap.size) hn6 hE.size
     have hE := hE.trans hn6.ext
     refine ⟨Mod.of_ext hn6.ext,?_⟩;conv=>whnf
     refine ⟨?_,?_⟩
     · refine Qu Qat (l := []) (news := l) rfl o6 (rfl) ((hsl).ext hE) (by simp; omega) hE.size fun A7 c7 w7 hown7 hg7 hA7 => ?_
       have hE := Qn hE hg7 (Xg o6)
       refine ⟨Qv hg7 (Xg o6),?_⟩;conv=>whnf
       intro b8 w8 hn8
       have h8 := (Qat).new1 (x := f) hn8
       have hown7 := hown7.ext hn8.ext
       have hE := hE.trans hn8.ext
       refine ⟨Mod.of_ext hn8.ext,?_⟩;conv=>whnf
       refine Qu Qat (l := l) (news := [f]) rfl hown7 rfl h8 (by simp; omega) hE.size fun A9 c9 w9 hown9 hg9 hA9 => ?_
       have hE := Qn hE hg9 (Xg hown7)
       refine ⟨Qv hg9 (Xg hown7),?_⟩;conv=>whnf
       generalize l ++ [f] = L9 at hown9 hMo hll hml ⊢
       refine (Qas c hcf L9 A9 c9 _ (hg0.ext (hx.trans hE)) (hown9.sl Q3) (by omega) hml).mono ?_
       rw [hMo]
       rintro _ w10 ⟨p2,rfl,hW10,hx10⟩
       obtain ⟨Tv,hWV,hVk⟩ := hW10.t
       have s10 := hE.size
       refine ⟨Mod.of_ext hx10,?_⟩;conv=>whnf
       exact ⟨p2,⟨⟨Tv,hWV,fun k hk => by have := hVk k hk; omega⟩,hE.trans hx10⟩,⟨rfl,rfl,rfl,rfl,rfl,rfl,rfl,trivial⟩⟩
     · intro b8 w8 hn8
       have h8 := (Qat).new1 (x := f) hn8
       have o6 := o6.ext hn8.ext
       have hE := hE.trans hn8.ext
       refine ⟨Mod.of_ext hn8.ext,?_⟩;conv=>whnf
       refine Qu Qat (l := []) (news := l) rfl o6 (rfl) ((hsl).ext hE) (by simp; omega) hE.size fun A7 c7 w7 hown7 hg7 hA7 => ?_
       have h8 := Qd6 h8 (w1 := w7) (fun a' ha' => by
        obtain rfl : (⟨b8,0,none⟩ : Addr) = a' := by simpa using ha'
        exact hg7.block b8 (by rw [hn8.block]; have := hn6.size; have := hn8.size; omega) (fun e' => by
         have h68 : b8 = b6 := by simpa using e'
         have := hn6.size
         have := hn8.size
         rw [hn6.block,hn8.block] at h68
         omega))
       have hE := Qn hE hg7 (Xg o6)
       refine ⟨Qv hg7 (Xg o6),?_⟩;conv=>whnf
       refine Qu Qat (l := l) (news := [f]) rfl hown7 rfl h8 (by simp; omega) hE.size fun A9 c9 w9 hown9 hg9 hA9 => ?_
       have hE := Qn hE hg9 (Xg hown7)
       refine ⟨Qv hg9 (Xg hown7),?_⟩;conv=>whnf
       generalize l ++ [f] = L9 at hown9 hMo hll hml ⊢
       refine (Qas c hcf L9 A9 c9 _ (hg0.ext (hx.trans hE)) (hown9.sl Q3) (by omega) hml).mono ?_
       rw [hMo]
       rintro _ w10 ⟨p2,rfl,hW10,hx10⟩
       obtain ⟨Tv,hWV,hVk⟩ := hW10.t
       have s10 := hE.size
       refine ⟨Mod.of_ext hx10,?_⟩;conv=>whnf
       exact ⟨p2,⟨⟨Tv,hWV,fun k hk => by have := hVk k hk; omega⟩,hE.trans hx10⟩,⟨rfl,rfl,rfl,rfl,rfl,rfl,rfl,trivial⟩⟩
   · intro b8 w8 hn8
     have h8 := (Qat).new1 (x := f) hn8
     have hE := hE.trans hn8.ext
     refine ⟨Mod.of_ext hn8.ext,?_⟩;conv=>whnf
     intro b6 w6 hn6
     have o6 := (Qat).made (base := u3.heap.size) hn6 hE.size
     have hE := hE.trans hn6.ext
     have h8 := h8.ext hn6.ext
     refine ⟨Mod.of_ext hn6.ext,?_⟩;conv=>whnf
     refine Qu Qat (l := []) (news := l) rfl o6 (rfl) ((hsl).ext hE) (by simp; omega) hE.size fun A7 c7 w7 hown7 hg7 hA7 => ?_
     have h8 := Qd6 h8 (w1 := w7) (fun a' ha' => by
      obtain rfl : (⟨b8,0,none⟩ : Addr) = a' := by simpa using ha'
      exact hg7.block b8 (by rw [hn8.block]; have := hn6.size; have := hn8.size; omega) (fun e' => by
       have h68 : b8 = b6 := by simpa using e'
       have := hn6.size
       have := hn8.size
       rw [hn6.block,hn8.block] at h68
       omega))
     have hE := Qn hE hg7 (Xg o6)
     refine ⟨Qv hg7 (Xg o6),?_⟩;conv=>whnf
     refine Qu Qat (l := l) (news := [f]) rfl hown7 rfl h8 (by simp; omega) hE.size fun A9 c9 w9 hown9 hg9 hA9 => ?_
     have hE := Qn hE hg9 (Xg hown7)
     refine ⟨Qv hg9 (Xg hown7),?_⟩;conv=>whnf
     generalize l ++ [f] = L9 at hown9 hMo hll hml ⊢
     refine (Qas c hcf L9 A9 c9 _ (hg0.ext (hx.trans hE)) (hown9.sl Q3) (by omega) hml).mono ?_
     rw [hMo]
     rintro _ w10 ⟨p2,rfl,hW10,hx10⟩
     obtain ⟨Tv,hWV,hVk⟩ := hW10.t
     have s10 := hE.size
     refine ⟨Mod.of_ext hx10,?_⟩;conv=>whnf
     exact ⟨p2,⟨⟨Tv,hWV,fun k hk => by have := hVk k hk; omega⟩,hE.trans hx10⟩,⟨rfl,rfl,rfl,rfl,rfl,rfl,rfl,trivial⟩⟩
 rintro pd u4 ⟨⟨Td,hTd,hTd0⟩,hx4⟩
 have dad : ∀ k,Td k → ¬ Ta k ∧ ¬ Tb k := fun k h1 => by
  have := hTd0 k h1
  exact ⟨fun h2 => by have := hTa.lt k h2; omega,fun h2 => by have := hTb.lt k h2; omega⟩
 have hTdw : ∀ k,Td k → w7.heap.size ≤ k := fun k hk => by have := hTd0 k hk; omega
 replace hTa := hTa.ext hx4
 replace hTb := hTb.ext hx4
 replace g6 := g6.ext hx4
 replace hx := hx.trans hx4
 have s4 := hx4.size
 have hw7 : w.heap.size ≤ w7.heap.size ∧ w7.heap.size ≤ u4.heap.size := ⟨by omega,by omega⟩
 have h10 : ∀ {k:Nat},w7.heap.size ≤ k → 10 ≤ k := fun h => by omega
 clear hMo hml hsl hTd0 hx4 g5
 generalize L ++ [f] = y at hTa hTb hTd hzl2 hh1 hh2
 (conv=>whnf);repeat(refine Sg ?_;(conv=>whnf))
 constructor
 · intro h; simp at h
 intro _
 (conv=>whnf);repeat(refine Sg ?_;(conv=>whnf))
 refine (Qck hTb (hg0.ext hx) hcf (by omega) (fun k hk => h10 (hTbw k hk)) now).mono ?_
 rintro _ v1 ⟨Tb1,rfl,_,_,hM1⟩
 replace hTa := hTa.keep fun k hk => hM1.block k (hTa.lt k hk) fun h => dab k h hk
 replace hTd := hTd.keep fun k hk => hM1.block k (hTd.lt k hk) (dad k hk).2
 replace g6 := Mod.at_ hM1 g6 (fun h => by have := hTbw _ h; omega)
 replace hx := Qz hx hM1 fun k hk => Nat.le_trans hw7.1 (hTbw k hk)
 have sm1 := hM1.size
 clear hM1 hTb
 (conv=>whnf);repeat(refine Sg ?_;(conv=>whnf))
 refine Dr (.mods (fun k => w7.heap.size ≤ k)) [0,1,3,2,4,5,6,7,9,8,10,11,12,13,15,16,14,17,18,19,20,21,22,24,25,23] [26,27,28,29,30] ?_;conv=>whnf
 have hxd : Ext v1 v1.drew := (Ext.refl v1).drew
 replace hTa := hTa.ext hxd
 replace hTd := hTd.ext hxd
 replace hx := hx.trans hxd
 replace g6 := g6.ext hxd
 have sd2 := hxd.size
 generalize v1.drew = v2 at hTa hTd hx g6 sd2 ⊢
 clear hxd
 refine (Qck hTa (hg0.ext hx) hcf (by omega) (fun k hk => h10 (hTw5 k hk)) now).mono ?_
 rintro _ v3 ⟨Ta1,rfl,hTa1,hla1,hM3⟩
 refine ⟨hM3.mono fun k _ hk => hTw5 k hk,?_⟩
 have hTa1w : ∀ k,Ta1 k → w7.heap.size ≤ k := fun k hk => (hla1 k hk).elim (hTw5 k) fun h => by omega
 have d1 : ∀ k,Td k → ¬ Ta1 k := fun k h1 h2 => (hla1 k h2).elim (fun h => (dad k h1).1 h) fun h => by have := hTd.lt k h1; omega
 replace hTd := hTd.keep fun k hk => hM3.block k (hTd.lt k hk) (dad k hk).1
 replace g6 := Mod.at_ hM3 g6 (fun h => by have := hTw5 _ h; omega)
 replace hx := Qz hx hM3 fun k hk => Nat.le_trans hw7.1 (hTw5 k hk)
 clear hM3 hTa hla1
 conv=>whnf
 refine ⟨(Nat → Prop),(fun _ => .string (Qsf c y (Qe4 now))),(fun T' w' => WT w' T' pd c y ∧ (∀ k,T' k → Td k ∨ v3.heap.size ≤ k) ∧ Mod Td v3 w'),(fun _ => False),fun _ => (Qck hTd (hg0.ext hx) hcf (by omega) (fun k hk => h10 (hTdw k hk)) now),?_⟩
 rintro iv4 v4 hqv4
 replace hqv4 := hqv4.elim (fun h => h.2) fun h => (h.1 (And.intro (by first | rfl | simp | decide) trivial)).elim
 obtain ⟨_,_,hM4⟩ := hqv4
 refine ⟨hM4.mono fun k _ hk => hTdw k hk,?_⟩
 replace hTa1 := hTa1.keep fun k hk => hM4.block k (hTa1.lt k hk) fun h => d1 k h hk
 replace g6 := Mod.at_ hM4 g6 (fun h => by have := hTdw _ h; omega)
 replace hx := Qz hx hM4 fun k hk => Nat.le_trans hw7.1 (hTdw k hk)
 clear hM4 hTd d1
 conv=>whnf
 refine ⟨.string f.person,fun _ => ⟨g6.one rfl,by show ¬ (w7.heap.size ≤ b6); omega⟩,?_⟩;conv=>whnf
 obtain ⟨q,hq⟩ := Q8k hTa1 (by omega) f.person hh1 hh2
 refine ⟨Unit,(fun _ => .pointer (some ⟨q.pw,0,none⟩)),(fun _ w' => Ext v4 w'),(),fun _ => ((hq v4 (Ext.refl _)).1.mono fun r w' h => ⟨(),h.1,h.2⟩),?_⟩
 rintro iv5 v5 hqv5
 replace hqv5 := hqv5.elim (fun h => h.2) fun h => (h.1 (And.intro (by first | rfl | simp | decide) trivial)).elim
 refine ⟨Mod.of_ext hqv5,?_⟩
 conv=>whnf
 refine ⟨(Option Addr × Nat),(fun i => .slice i.1 0 i.2),(fun _ w' => Ext v5 w'),(none,0),fun _ => ((hq v5 hqv5).2.1),?_⟩
 rintro iv6 v6 hqv6
 replace hqv6 := hqv6.elim (fun h => h.2) fun h => (h.1 (And.intro (by first | rfl | simp | decide) trivial)).elim
 refine ⟨Mod.of_ext hqv6,?_⟩
 conv=>whnf
 replace g6 := (g6.ext hqv5).ext hqv6
 refine ⟨.string f.person,fun _ => ⟨g6.one rfl,by show ¬ (w7.heap.size ≤ b6); omega⟩,?_⟩;conv=>whnf
 refine ⟨Unit,(fun _ => .pointer (some ⟨q.ps,0,none⟩)),(fun _ w' => Ext v6 w'),(),fun _ => ((hq v6 (hqv5.trans hqv6)).2.2.1.mono fun r w' h => ⟨(),h.1,h.2⟩),?_⟩
 rintro iv7 v7 hqv7
 replace hqv7 := hqv7.elim (fun h => h.2) fun h => (h.1 (And.intro (by first | rfl | simp | decide) trivial)).elim
 refine ⟨Mod.of_ext hqv7,?_⟩
 conv=>whnf
 refine ⟨(Option Addr × Nat),(fun i => .slice i.1 0 i.2),(fun _ w' => Ext v7 w'),(none,0),fun _ => ((hq v7 ((hqv5.trans hqv6).trans hqv7)).2.2.2),?_⟩
 rintro iv8 v8 hqv8
 replace hqv8 := hqv8.elim (fun h => h.2) fun h => (h.1 (And.intro (by first | rfl | simp | decide) trivial)).elim
 (conv=>whnf);repeat(refine Sg ?_;(conv=>whnf))
 exact ⟨by simp,(((hx.trans hqv5).trans hqv6).trans hqv7).trans hqv8⟩
end Go.Proofs.YtdahooejkjcjiaaGreatDoor
