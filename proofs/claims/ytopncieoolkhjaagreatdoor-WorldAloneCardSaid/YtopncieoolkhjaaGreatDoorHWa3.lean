import Derived.Test.YtopncieoolkhjaaGreatDoorHWa2
/- world.Add. -/
set_option linter.unusedVariables false
set_option linter.unusedSimpArgs false
namespace Go.Proofs.YtopncieoolkhjaaGreatDoor
open Go.Se Go.RowKit
theorem Q2w {a b:Ev} (h:Qe6 a b = 1) : Qv b a = true := by
 cases hl : Qv b a with
 | true => rfl
 | false =>
   cases hr : Qv a b with
   | true =>
     have := Qbi a b
     rw [hr,h] at this
     simp at this
   | false =>
     have := (Qgr a b).2 (Qd3 hr hl)
     omega
structure Quz (c:Cfg) (s:WS) : Prop where
 ct : s.ct = Qq c.width s.es
 may : ∀ x ∈ s.es,Xo x = true
 rise : Rise s.es
 last : s.any = true → ∀ x ∈ s.es,x = s.last ∨ Qv x s.last = true
 none : s.any = false → s.es = []
theorem Q4o (c:Cfg) : Quz c WS0 := ⟨rfl,by simp [WS0],List.Pairwise.nil,by simp [WS0],by simp [WS0]⟩
def Qqh (s:WS) (e:Ev) : Int :=
 if Xo e = false then 1
 else if (s.any && !decide (Qe6 e s.last = 1)) = true then 10
 else if (Qd s.ad (Q4c e)).getD false = true then 7
 else if ((Qd s.fg e.person).getD false && !decide (e.kind = 14)) = true then 12
 else 0
def addN (width:Int) (s:WS) (e:Ev) : WS := if e.kind = 14 then Qel width (Qxg width s e) e.person else Qxg width s e
def Q0b (width:Int) (s:WS) (e:Ev) : WS := if Qqh s e = 0 then addN width s e else s
theorem Quz.ahead {c:Cfg} {s:WS} (h:Quz c s) {e:Ev} (hr:(s.any && !decide (Qe6 e s.last = 1)) = false) : ∀ x ∈ s.es,Qv x e = true := by
 intro x hx
 cases ha : s.any with
 | false => rw [h.none ha] at hx; simp at hx
 | true =>
   rw [ha] at hr
   have hc : Qe6 e s.last = 1 := by simpa using hr
   have hl := Q2w hc
   rcases h.last ha x hx with h | h
   · rw [h]; exact hl
   · exact Ql6 h hl
theorem Quz.put {c:Cfg} {s:WS} (h:Quz c s) {e:Ev} (hm:Xo e = true) (hr:(s.any && !decide (Qe6 e s.last = 1)) = false) : Quz c (Qxg c.width s e) := by
 have ha := h.ahead hr
 refine ⟨?_,?_,?_,fun _ => ?_,fun h => by cases h⟩
 · show Qch c.width s.ct e = Qq c.width (s.es ++ [e])
   rw [Qas,h.ct]
 · intro x hx
   rcases List.mem_append.1 (show x ∈ s.es ++ [e] from hx) with hx | hx
   · exact h.may x hx
   · rw [List.mem_singleton] at hx; rw [hx]; exact hm
 · show Rise (s.es ++ [e])
   unfold Rise
   rw [List.pairwise_append]
   refine ⟨h.rise,List.pairwise_singleton _ _,fun a ha' b hb => ?_⟩
   rw [List.mem_singleton] at hb
   rw [hb]
   exact ha a ha'
 · intro x hx
   rcases List.mem_append.1 (show x ∈ s.es ++ [e] from hx) with hx | hx
   · exact .inr (ha x hx)
   · rw [List.mem_singleton] at hx; exact .inl hx
theorem Quz.forget {c:Cfg} {s:WS} (h:Quz c s) (person:ByteArray) : Quz c (Qel c.width s person) := by
 unfold Qel
 split
 · refine ⟨rfl,fun x hx => h.may x (List.mem_filter.1 hx).1,h.rise.sublist List.filter_sublist,fun ha x hx => h.last ha x (List.mem_filter.1 hx).1,fun ha => ?_⟩
   show Qiv s person = []
   unfold Qiv
   rw [h.none ha]
   rfl
 · exact ⟨h.ct,h.may,h.rise,h.last,h.none⟩
theorem Quz.add {c:Cfg} {s:WS} (h:Quz c s) (e:Ev) : Quz c (Q0b c.width s e) := by
 unfold Q0b
 split
 · next h0 =>
   unfold Qqh at h0
   split at h0
   · cases h0
   · next hm =>
     split at h0
     · cases h0
     · next hr =>
       have hm : Xo e = true := by simpa using hm
       have hr : (s.any && !decide (Qe6 e s.last = 1)) = false := by simpa using hr
       unfold addN
       split
       · exact (h.put hm hr).forget _
       · exact h.put hm hr
 · exact h
set_option maxHeartbeats 2000000 in
theorem Qs2 (w:World) (base p:Nat) (c:Cfg) (hcf:Qlb c = true) (s:WS) (col:Nat → Nat) (h:Qby w base p c s col) (hg:Gl w) (hI:Quz c s) (hl:s.es.length < 100000) (e:Ev) (hes:e.text.size < 4000000000) :
 Cal Tryz.prog 57 [.pointer (some ⟨p,0,none⟩),evV e] w fun r w' => r = .int .i64 (Qqh s e) ∧ ∃ col',Qby w' base p c (Q0b c.width s e) col' ∧ (∀ k,col' k ≠ 0 → col k ≠ 0 ∨ w.heap.size ≤ k) ∧ Mod (fun k => col k ≠ 0) w w' := by
 have hlow : ∀ k,col k ≠ 0 → 10 ≤ k := fun k hk => by
  obtain ⟨q,A,cap,hL⟩ := h.1
  have := hL.low.2 k hk
  have := hL.low.1
  omega
 have hz := h.2
 refine Fi Tryz.func57 rfl _ rfl rfl ?_;conv=>whnf
 intro b3 w1 hn1
 have hb : At w1 b3 49 (evC e) := hn1.At
 have e1 := hn1.block
 have hx := hn1.ext
 have hc3 : col b3 = 0 := hz b3 (by omega)
 clear hn1
 (conv=>whnf);repeat(refine Sg ?_;(conv=>whnf))
 refine ⟨evC e,⟨rfl,hb.all⟩,?_⟩; (conv=>whnf);repeat(refine Sg ?_;(conv=>whnf))
 refine (Qg1 e w1 (hg.ext hx) hes).mono ?_
 rintro _ w2 ⟨rfl,hx2⟩
 replace hb := hb.ext hx2
 replace hx := hx.trans hx2
 clear hx2
 have same : ∀ {w':World},Ext w w' → Qqh s e ≠ 0 → ∃ col',Qby w' base p c (Q0b c.width s e) col' ∧ (∀ k,col' k ≠ 0 → col k ≠ 0 ∨ w.heap.size ≤ k) ∧ Mod (fun k => col k ≠ 0) w w' := fun hx hne => by
  have : Q0b c.width s e = s := if_neg hne
  rw [this]
  exact ⟨col,h.ext hx,fun k hk => .inl hk,Mod.of_ext hx⟩
 (conv=>whnf);repeat(refine Sg ?_;(conv=>whnf))
 constructor
 · intro hm
   have hm : Xo e = false := by simpa using hm
   have hR : Qqh s e = 1 := by unfold Qqh; rw [if_pos hm]
   (conv=>whnf);repeat(refine Sg ?_;(conv=>whnf))
   exact ⟨by rw [hR],same hx (by rw [hR]; decide)⟩
 intro hm
 have hm : Xo e = true := by simpa using hm
 have hm' : ¬ Xo e = false := by rw [hm]; decide
 obtain ⟨⟨q,A,cap,hL⟩,_⟩ := h.ext hx
 (conv=>whnf);repeat(refine Sg ?_;(conv=>whnf))
 refine Dr .same [0,1,2,3,4,5,6,7,8,9] [10,11,12,13] ?_;conv=>whnf
 have hxd : Ext w2 w2.drew := (Ext.refl w2).drew
 replace hL := hL.ext hxd
 replace hb := hb.ext hxd
 replace hx := hx.trans hxd
 generalize w2.drew = w3 at hL hb hx ⊢
 clear hxd
 refine ⟨_,hL.head.one rfl,?_⟩;conv=>whnf
 refine ⟨evC e,fun _ => ⟨rfl,hb.all⟩,?_⟩;conv=>whnf
 refine ⟨evC s.last,fun _ => ⟨rfl,At.sub (pre := (wC c A s.es.length cap s.any s.last q).take 8) (post := (wC c A s.es.length cap s.any s.last q).drop 16) hL.head⟩,?_⟩;conv=>whnf
 refine ⟨Unit,fun _ => (.int .i64 (Qe6 e s.last)),fun _ w' => Ext w3 w',(),fun hg => ((Qap e s.last w3)).mono fun r w' h => ⟨(),h.1,h.2⟩,?_⟩
 intro _ w4 h2
 have hx4 : Ext w3 w4 := by
  rcases h2 with ⟨_,h⟩ | ⟨_,h⟩
  · exact h
  · rw [h]; exact Ext.refl _
 clear h2
 conv=>whnf
 replace hL := hL.ext hx4
 replace hb := hb.ext hx4
 replace hx := hx.trans hx4
 clear hx4
 (conv=>whnf);repeat(refine Sg ?_;(conv=>whnf))
 constructor
 · intro hr
   have hR : Qqh s e = 10 := by unfold Qqh; rw [if_neg hm',if_pos hr]
   (conv=>whnf);repeat(refine Sg ?_;(conv=>whnf))
   exact ⟨by rw [hR],same hx (by rw [hR]; decide)⟩
 intro hr
 have hr : (s.any && !decide (Qe6 e s.last = 1)) = false := hr
 have hr' : ¬ (s.any && !decide (Qe6 e s.last = 1)) = true := by rw [hr]; decide
 (conv=>whnf);repeat(refine Sg ?_;(conv=>whnf))
 refine Dr .same [0,1,2,3,4,5,6,7,8,9,10] [] ?_;conv=>whnf
 have hxd : Ext w4 w4.drew := (Ext.refl w4).drew
 replace hL := hL.ext hxd
 replace hb := hb.ext hxd
 replace hx := hx.trans hxd
 generalize w4.drew = w5 at hL hb hx ⊢
 clear hxd
 refine ⟨_,hL.head.one rfl,?_⟩;conv=>whnf
 refine ⟨_,hb.one rfl,?_⟩;conv=>whnf
 refine ⟨_,hb.one rfl,?_⟩;conv=>whnf
 have hlk := Qai Q45 Qtn (e := ty4) ty4_ok (cl := .same) Qr hL.added (Q4c e)
 rw [show ty4.zero = Value.bool false from rfl,Qac] at hlk
 refine ⟨_,hlk,?_⟩; (conv=>whnf);repeat(refine Sg ?_;(conv=>whnf))
 constructor
 · intro ha
   have hR : Qqh s e = 7 := by unfold Qqh; rw [if_neg hm',if_neg hr',if_pos ha]
   (conv=>whnf);repeat(refine Sg ?_;(conv=>whnf))
   exact ⟨by rw [hR],same hx (by rw [hR]; decide)⟩
 intro ha
 have ha' : ¬ (Qd s.ad (Q4c e)).getD false = true := by rw [ha]; decide
 (conv=>whnf);repeat(refine Sg ?_;(conv=>whnf))
 refine Dr .same [0,1,2,3,4,5,6,7,8,9,10,11,12] [] ?_;conv=>whnf
 have hxd : Ext w5 w5.drew := (Ext.refl w5).drew
 replace hL := hL.ext hxd
 replace hb := hb.ext hxd
 replace hx := hx.trans hxd
 generalize w5.drew = w6 at hL hb hx ⊢
 clear hxd hlk
 refine ⟨_,hL.head.one rfl,?_⟩;conv=>whnf
 refine ⟨_,hb.one rfl,?_⟩;conv=>whnf
 have hlk := Qai Qix (Qu Xm) (e := ty4) ty4_ok (cl := .same) Qr hL.forg e.person
 rw [show ty4.zero = Value.bool false from rfl,Qac] at hlk
 refine ⟨_,hlk,?_⟩; (conv=>whnf);repeat(refine Sg ?_;(conv=>whnf))
 refine ⟨.int .i64 e.kind,fun _ => hb.one rfl,?_⟩; (conv=>whnf);repeat(refine Sg ?_;(conv=>whnf))
 constructor
 · intro hf
   have hR : Qqh s e = 12 := by unfold Qqh; rw [if_neg hm',if_neg hr',if_neg ha',if_pos hf]
   (conv=>whnf);repeat(refine Sg ?_;(conv=>whnf))
   exact ⟨by rw [hR],same hx (by rw [hR]; decide)⟩
 intro hf
 have hf' : ¬ ((Qd s.fg e.person).getD false && !decide (e.kind = 14)) = true := by rw [show ((Qd s.fg e.person).getD false && !decide (e.kind = 14)) = false from hf]; decide
 have hR : Qqh s e = 0 := by unfold Qqh; rw [if_neg hm',if_neg hr',if_neg ha',if_neg hf']
 clear hlk same
 (conv=>whnf);repeat(refine Sg ?_;(conv=>whnf))
 refine ⟨_,hL.head.one rfl,?_⟩;conv=>whnf
 (conv=>whnf);repeat(refine Sg ?_;(conv=>whnf))
 constructor
 · intro hq
   have : (1048576:Int) ≤ s.es.length := by simpa using hq
   omega
 intro _
 (conv=>whnf);repeat(refine Sg ?_;(conv=>whnf))
 refine ⟨evC e,⟨rfl,hb.all⟩,?_⟩; (conv=>whnf);repeat(refine Sg ?_;(conv=>whnf))
 have hIp := hI.put hm hr
 refine (Quf w6 base p c hcf s col (h.ext hx) (hg.ext hx) hI.ct hI.may e hm (show Rise (s.es ++ [e]) from hIp.rise) (by omega)).mono ?_
 rintro _ w7 ⟨rfl,col7,h7,hc7,hM7⟩
 have s6 := hx.size
 have hb7 := hb.mod hM7 (by simp [hc3])
 have l3 := hb.lt
 have hW : Q0b c.width s e = addN c.width s e := if_pos hR
 have hM7' : Mod (fun k => col k ≠ 0) w w7 := (Mod.of_ext hx).trans hM7
 have hcc : ∀ k,col7 k ≠ 0 → col k ≠ 0 ∨ w.heap.size ≤ k := fun k hk => by
  by_cases hlt : k < w6.heap.size
  · rw [hc7 k hlt] at hk; exact .inl hk
  · right; omega
 rw [hR,hW]
 (conv=>whnf);repeat(refine Sg ?_;(conv=>whnf))
 refine ⟨_,hb7.one rfl,?_⟩;conv=>whnf
 (conv=>whnf);repeat(refine Sg ?_;(conv=>whnf))
 constructor
 · intro hk
   have hk : e.kind = 14 := by simpa using hk
   have hN : addN c.width s e = Qel c.width (Qxg c.width s e) e.person := if_pos hk
   rw [hN]
   (conv=>whnf);repeat(refine Sg ?_;(conv=>whnf))
   refine ⟨_,hb7.one rfl,?_⟩;conv=>whnf
   (conv=>whnf);repeat(refine Sg ?_;(conv=>whnf))
   have s7 := hM7'.size
   refine (Qrf w7 base p c hcf (Qxg c.width s e) col7 h7 (hg.mod hM7' hlow) hIp.may hIp.rise (by show (s.es ++ [e]).length < 1000000; rw [List.length_append,List.length_singleton]; omega) e.person).mono ?_
   rintro _ w8 ⟨rfl,col8,h8,hc8,hM8⟩
   (conv=>whnf);repeat(refine Sg ?_;(conv=>whnf))
   exact ⟨rfl,col8,h8,fun k hk => (hc8 k hk).elim (hcc k) fun h => by right; omega,Qs hM7' (hM8.mono fun k _ hk => hcc k hk)⟩
 · intro hk
   have hk : ¬ e.kind = 14 := by simpa using hk
   have hN : addN c.width s e = Qxg c.width s e := if_neg hk
   rw [hN]
   (conv=>whnf);repeat(refine Sg ?_;(conv=>whnf))
   exact ⟨rfl,col7,h7,hcc,hM7'⟩
end Go.Proofs.YtopncieoolkhjaaGreatDoor
