import Derived.Test.YtnnnbjjenknpeaaGreatDoorHLr2
/- The law ReasonAdds. -/
set_option linter.unusedVariables false
set_option linter.unusedSimpArgs false
namespace Go.Proofs.YtnnnbjjenknpeaaGreatDoor
open Go.Se Go.RowKit
theorem Q3g (w:World) (S:Nat → Prop) (p:Nat) (half:Int) (rs:List Row) (h:Qal w S p half rs) (item:ByteArray) {fv:Int} (hf:Qqk rs item = fv) :
 Cal Tryz.prog 21 [.pointer (some ⟨p,0,none⟩),.string item] w fun r w' => r = .int .i64 fv ∧ Ext w w' :=
 (Qql w S p half rs h item).mono fun r w' h => ⟨by rw [h.1,hf],by rw [h.2]; exact Ext.refl _⟩
theorem Q6e {H:List Ev} {q:Ev → Bool} {k:Nat} (hk:k < H.length) : ∀ n,n = ((H.take k).filter q).length → ((H.filter q)[n]? = some H[k] ↔ q H[k] = true) := by
 intro n hn
 have e : H.filter q = (H.take k).filter q ++ (H.drop k).filter q := by rw [← List.filter_append,List.take_append_drop]
 constructor
 · intro h
   have := List.mem_of_getElem? h
   exact (List.mem_filter.1 this).2
 · intro h
   rw [e,hn,List.getElem?_append_right (Nat.le_refl _),Nat.sub_self,List.drop_eq_getElem_cons hk,List.filter_cons,if_pos h]
   rfl
theorem Qz4 {H:List Ev} (q:Ev → Bool) {k:Nat} (hk:k < H.length) : ((H.take (k + 1)).filter q).length = ((H.take k).filter q).length + if q H[k] = true then 1 else 0 := by
 rw [Qcs H k hk,List.filter_append,List.length_append]
 cases h : q H[k] <;> simp [h]
theorem Q1g {w:World} {T:Nat → Prop} {p:Nat} {c:Cfg} {z:List Ev} {v:Value} {col:Nat → Nat} {q:WP} {A:Option Addr} {n cap:Nat} {any:Bool} {last:Ev} (hL:WQL w T p c z v col q A n cap any last) :
 Cal Tryz.prog 20 [.pointer (some ⟨p,0,none⟩)] w fun r w' => r = .pointer (some ⟨q.pw,0,none⟩) ∧ Ext w w' := by
 refine Fi Tryz.func20 rfl _ rfl rfl ?_;conv=>whnf
 refine ⟨_,hL.head.one rfl,?_⟩;conv=>whnf
 exact ⟨rfl,Ext.refl _⟩
set_option maxHeartbeats 2000000 in
theorem reasonAdds_spec (c:Cfg) (l:List Ev) (a:Nat → Int) (person item:ByteArray) (now:Int) (A:Option Addr) (cap:Nat) (w:World) (hg0:Gl w) (hs:SlE w A l) :
 Cal Tryz.prog 4 [.agg (plC c A l.length cap a person item now).toArray] w fun r w' => r = .bool true ∧ Ext w w' := by
 have hsz := hg0.size
 refine Fi Tryz.func4 rfl _ rfl rfl ?_;conv=>whnf
 intro b1 w1 hn1; (conv=>whnf);repeat(refine Sg ?_;(conv=>whnf))
 have h1 : At w1 b1 28 (plC c A l.length cap a person item now) := hn1.At
 have hx := hn1.ext
 have g1 : w.heap.size ≤ b1 := by rw [hn1.block]; exact Nat.le_refl _
 clear hn1
 refine ⟨plC c A l.length cap a person item now,⟨rfl,h1.all⟩,?_⟩; (conv=>whnf);repeat(refine Sg ?_;(conv=>whnf))
 refine (Qj1 c l A cap a person item now w1 (hs.ext hx)).mono ?_
 rintro _ w2 ⟨rfl,hx2⟩
 replace h1 := h1.ext hx2
 replace hx := hx.trans hx2
 clear hx2
 generalize hq : Q5z c l person item = q
 (conv=>whnf);repeat(refine Sg ?_;(conv=>whnf))
 constructor
 · intro hc
   (conv=>whnf);repeat(refine Sg ?_;(conv=>whnf))
   refine (Qab w2 (hg0.ext hx)).mono ?_
   rintro _ w3 ⟨rfl,hx3⟩; (conv=>whnf);repeat(refine Sg ?_;(conv=>whnf))
   exact ⟨rfl,hx.trans hx3⟩
 intro hc
 have hc : q = true := by simpa using hc
 subst hc
 obtain ⟨hcf,hl,hm⟩ := Qvo hq
 clear hq
 (conv=>whnf);repeat(refine Sg ?_;(conv=>whnf))
 refine ⟨plC c A l.length cap a person item now,⟨rfl,h1.all⟩,?_⟩; (conv=>whnf);repeat(refine Sg ?_;(conv=>whnf))
 refine (Qj7 c l A cap a person item now w2 (hg0.ext hx) (hs.ext hx) hcf (by omega) hm).mono ?_
 rintro _ w3 ⟨p,T,rfl,hWT,hT,hx3⟩
 have l1 := h1.lt
 have g2 := hx.size
 have hTb : ¬ T b1 := fun h => by have := hT _ h; omega
 have hTw : ∀ k,T k → w.heap.size ≤ k := fun k hk => by have := hT k hk; omega
 replace h1 := h1.ext hx3
 replace hx := hx.trans hx3
 have hTb' := hTb
 clear hx3 hT hs
 have hzl := Qf6 l
 generalize Qbn l = z at hWT hzl
 have hok : Q2t c z := ⟨hcf,by omega⟩
 obtain ⟨v0,T0,hQ0,_⟩ := id hWT
 (conv=>whnf);repeat(refine Sg ?_;(conv=>whnf))
 refine ⟨_,Xm Qy3 _ _ _,?_⟩; (conv=>whnf);repeat(refine Sg ?_;(conv=>whnf))
 constructor
 · intro h; simp at h
 intro _
 (conv=>whnf);repeat(refine Sg ?_;(conv=>whnf))
 refine ⟨wsC a,⟨rfl,Qx6 h1⟩,?_⟩; (conv=>whnf);repeat(refine Sg ?_;(conv=>whnf))
 refine ⟨.string person,h1.one rfl,?_⟩; (conv=>whnf);repeat(refine Sg ?_;(conv=>whnf))
 refine ⟨.string item,h1.one rfl,?_⟩; (conv=>whnf);repeat(refine Sg ?_;(conv=>whnf))
 refine ⟨.int .i64 now,h1.one rfl,?_⟩; (conv=>whnf);repeat(refine Sg ?_;(conv=>whnf))
 refine (Qbf hWT hok (hg0.ext hx) (fun k hk => by have := hTw k hk; omega) a person item now).mono ?_
 rintro _ w7 ⟨A1,c1,A2,c2,T7,rfl,hown1,hown2,_,_,_,hW7,_,hM7⟩
 replace h1 := h1.mod hM7 hTb'
 replace hx := Qdn hx hTw hM7
 have hs1 := hown1.sl Qcd
 have hs2 := hown2.sl Xu
 have hQl : (Qh6 (Qju c z person item now) a 6).length = 6 := Qj9 _ _ _
 generalize Qh6 (Qju c z person item now) a 6 = Q at hs1 hQl ⊢
 have hfan : Qjr c z item ≠ 0 → c.crowd ≤ Qjr c z item ∧ Qjr c z item = Qqk (Qn c.width z).rs item := fun h => by
  unfold Qjr at h ⊢
  split at h
  · next h1 => rw [if_pos h1]; exact ⟨h1,rfl⟩
  · exact absurd rfl h
 generalize Qjr c z item = ff at hfan
 generalize hfv : Qqk (Qn c.width z).rs item = fv at hfan
 clear hown1 hown2 hM7
 (conv=>whnf);repeat(refine Sg ?_;(conv=>whnf))
 intro b8 w8 hn8; (conv=>whnf);repeat(refine Sg ?_;(conv=>whnf))
 refine Qc Qa (e := ty36) rfl hn8.At rfl rfl rfl (by simp [Qh,rsC,Value.oneCell']) fun w9 h9 ho9 => ?_
 have h9 : At w9 b8 36 (rsC item A1 6 c1 (Qjw Q) A2 (Qj8 c z person item now).length c2 ff) := h9
 have hx79 : Ext w7 w9 := ho9.ext hn8.ext (by rw [hn8.block]; exact Nat.le_refl _)
 clear ho9 hn8
 replace h1 := h1.ext hx79
 replace hx := hx.trans hx79
 replace hs1 := hs1.ext hx79
 replace hs2 := hs2.ext hx79
 replace hW7 := hW7.ext hx79
 clear hx79
 (conv=>whnf);repeat(refine Sg ?_;(conv=>whnf))
 refine Dr .ext [0,1,3,4,2,5,6,7,8,9,10,11,12,13,14,15,16,17,18,19,20,21,22,23,24,25,26,28,29,27,30,31,32,33] [] ?_;conv=>whnf
 have hxd : Ext w9 w9.drew := (Ext.refl w9).drew
 replace h1 := h1.ext hxd
 replace h9 := h9.ext hxd
 replace hx := hx.trans hxd
 replace hs1 := hs1.ext hxd
 replace hs2 := hs2.ext hxd
 replace hW7 := hW7.ext hxd
 generalize w9.drew = w10 at h1 h9 hx hs1 hs2 hW7 ⊢
 clear hxd
 refine ⟨.slice A1 6 c1,h9.one rfl,?_⟩;conv=>whnf
 refine ⟨.int .i64 (Qjw Q),h9.one rfl,?_⟩;conv=>whnf
 have htt := Qnt Q A1 c1 w10 hs1 (by omega)
 rw [hQl] at htt
 refine htt.mono ?_
 rintro _ w11 ⟨rfl,hx11⟩
 refine ⟨hx11,?_⟩;conv=>whnf
 replace h1 := h1.ext hx11
 replace h9 := h9.ext hx11
 replace hx := hx.trans hx11
 replace hs2 := hs2.ext hx11
 replace hW7 := hW7.ext hx11
 clear hx11 htt hs1
 refine ⟨.int .i64 ff,fun _ => h9.one rfl,?_⟩;conv=>whnf
 refine ⟨.int .i64 ff,fun _ _ => h9.one rfl,?_⟩;conv=>whnf
 refine ⟨vi c.crowd,fun _ _ => h1.one rfl,?_⟩;conv=>whnf
 refine ⟨.int .i64 ff,fun _ => h9.one rfl,?_⟩;conv=>whnf
 refine ⟨.int .i64 ff,fun _ _ => h9.one rfl,?_⟩;conv=>whnf
 refine ⟨.string item,fun _ _ => h1.one rfl,?_⟩;conv=>whnf
 obtain ⟨v7,T8,hQ7,_⟩ := id hW7
 obtain ⟨col,q,A0,n0,cap0,any,last,hL⟩ := hQ7.at_
 have hcr := hL.cts.crowd
 refine ⟨Unit,fun _ => (.pointer (some ⟨q.pw,0,none⟩)),fun _ w' => Ext w11 w',(),fun hg hg1 => ((Q1g hL)).mono fun r w' h => ⟨(),h.1,h.2⟩,?_⟩
 intro _ w12 h2
 have hx12 : Ext w11 w12 := by
  rcases h2 with ⟨_,h⟩ | ⟨_,h⟩
  · exact h
  · rw [h]; exact Ext.refl _
 clear h2
 refine ⟨hx12,?_⟩
 conv=>whnf
 refine ⟨Unit,fun _ => (.int .i64 fv),fun _ w' => Ext w12 w',(),fun hg hg1 => ((Q3g w12 _ q.pw _ _ (hcr.ext hx12) item hfv)).mono fun r w' h => ⟨(),h.1,h.2⟩,?_⟩
 intro _ w13 h2
 have hx13 : Ext w12 w13 := by
  rcases h2 with ⟨_,h⟩ | ⟨_,h⟩
  · exact h
  · rw [h]; exact Ext.refl _
 clear h2
 refine ⟨hx13,?_⟩
 conv=>whnf
 have hx1113 := hx12.trans hx13
 replace h1 := h1.ext hx1113
 replace h9 := h9.ext hx1113
 replace hx := hx.trans hx1113
 replace hs2 := hs2.ext hx1113
 replace hQ7 := hQ7.ext hx1113
 clear hx12 hx13 hx1113 hL hcr hfv hW7 hWT hQ0
 (conv=>whnf);repeat(refine Sg ?_;(conv=>whnf))
 constructor
 · intro h
   exfalso
   by_cases hf : ff = 0
   · subst hf
     simp at h
   · obtain ⟨k1,k2⟩ := hfan hf
     simp [hf] at h
     omega
 intro _
 clear hfan
 (conv=>whnf);repeat(refine Sg ?_;(conv=>whnf))
 refine Dr .ext [0,2,3,6,1,4,5] [] ?_;conv=>whnf
 have hxd : Ext w13 w13.drew := (Ext.refl w13).drew
 replace h1 := h1.ext hxd
 replace h9 := h9.ext hxd
 replace hx := hx.trans hxd
 replace hs2 := hs2.ext hxd
 replace hQ7 := hQ7.ext hxd
 generalize w13.drew = w14 at h1 h9 hx hs2 hQ7 ⊢
 clear hxd
 refine ⟨.string person,h1.one rfl,?_⟩;conv=>whnf
 refine (Qbp hQ7).mono ?_
 rintro _ w15 ⟨pw,S,rfl,hcr,hx15⟩
 refine ⟨hx15,?_⟩;conv=>whnf
 have hcp := (Qa5 c.width z).2
 have hzp : (Q7 z).length < 1000000 := by
  have h2 := List.length_filter_le peB z
  unfold Q7
  omega
 refine (Qd3 w15 S pw _ _ hcr person (by
  have : (evs (Qn c.width z).rs).length = (Q7 z).length := by rw [hcp]
  simp [evs] at this
  omega)).mono ?_
 rintro _ w16 ⟨A6,c6,rfl,ho6,hx16⟩
 rw [hcp] at ho6 ⊢
 have hHe : hist (Q7 z) person = Qcb z person := rfl
 rw [hHe] at ho6 ⊢
 have hHl := Qok z person
 refine ⟨hx16,?_⟩;conv=>whnf
 have hx1316 := hx15.trans hx16
 replace h1 := h1.ext hx1316
 replace h9 := h9.ext hx1316
 replace hx := hx.trans hx1316
 replace hs2 := hs2.ext hx1316
 have hsH := ho6.sl Xu
 clear hcr hx15 hx16 hx1316 hQ7 ho6 hcp
 unfold Qj8 at h9 hs2 ⊢
 generalize Qcb z person = H at h9 hs2 hHl hsH ⊢
 generalize hqc : Qdi c z item now = qc at h9 hs2 ⊢
 have hOl : (H.filter qc).length ≤ H.length := List.length_filter_le _ _
 have hnx := fun k (hk:k < H.length) => Q6e (q := qc) hk
 have hcn := fun k (hk:k < H.length) => Qz4 qc hk
 have hcl : ∀ k,((H.take k).filter qc).length ≤ k := fun k => by
  have := List.length_filter_le qc (H.take k)
  rw [List.length_take] at this
  omega
 have hce : ((H.take H.length).filter qc).length = (H.filter qc).length := by rw [List.take_length]
 have hc0 : ((H.take 0).filter qc).length = 0 := rfl
 obtain ⟨N,hN⟩ : ∃ N : Nat → Nat,N = fun k => ((H.take k).filter qc).length := ⟨_,rfl⟩
 have hNk : ∀ k,((H.take k).filter qc).length = N k := fun k => by rw [hN]
 simp only [hNk] at hnx hcn hcl hce hc0
 clear hN hNk hqc
 generalize H.filter qc = O at h9 hs2 hOl hnx hce ⊢
 (conv=>whnf);repeat(refine Sg ?_;(conv=>whnf))
 refine Qi Qa (fun (k:Nat) w' => k ≤ H.length ∧ Ext w16 w')
  (fun k => [(4,.pointer (some ⟨b8,0,none⟩)),(5,.int .i64 (N k:Nat)),(64,.slice A6 H.length c6),(65,.int .i64 H.length),(66,.int .i64 (k:Nat))]) (fun k => H.length - k) 0 ⟨by omega,Ext.refl _⟩ ⟨rfl,by rw [hc0]; rfl,rfl,rfl,rfl,trivial⟩ ?_
 rintro k w17 ⟨hk,hx17⟩
 conv=>whnf
 constructor
 · intro hlt
   have hlt : k < H.length := by simpa using hlt
   obtain ⟨a18,rfl,hc18⟩ := (hsH.ext hx17).get hlt
   have hnk := hnx k hlt (N k) rfl
   have hck := hcn k hlt
   have hlk := hcl k
   generalize H[k] = e at hc18 hnk hck
   (conv=>whnf);repeat(refine Sg ?_;(conv=>whnf))
   refine ⟨a18,⟨rfl,by omega,by omega⟩,?_⟩; (conv=>whnf);repeat(refine Sg ?_;(conv=>whnf))
   refine ⟨evC e,⟨rfl,hc18⟩,?_⟩; (conv=>whnf);repeat(refine Sg ?_;(conv=>whnf))
   intro b19 w19 hn19; (conv=>whnf);repeat(refine Sg ?_;(conv=>whnf))
   refine Qc Qa (e := ty53) rfl hn19.At rfl rfl rfl (Qb9 e) fun w20 h20 ho20 => ?_
   have h20 : At w20 b19 53 (evC e) := h20
   have hx20 : Ext w17 w20 := ho20.ext hn19.ext (by rw [hn19.block]; exact Nat.le_refl _)
   clear ho20 hn19
   (conv=>whnf);repeat(refine Sg ?_;(conv=>whnf))
   refine Dr .same [0,1,2,3,4,5,6,7,8,9,10,11,12,13] [] ?_;conv=>whnf
   replace hx20 := hx20.drew
   have h20 : At w20.drew b19 53 (evC e) := h20
   generalize w20.drew = w21 at hx20 h20 ⊢
   have hx21 := hx17.trans hx20
   have h9' := h9.ext hx21
   refine ⟨.slice A2 O.length c2,h9'.one rfl,?_⟩;conv=>whnf
   refine ⟨.slice A2 O.length c2,fun _ => h9'.one rfl,?_⟩;conv=>whnf
   obtain ⟨a22,y,hay⟩ : ∃ (a22:Addr) (y:Ev),N k < O.length → A2 = some a22 ∧ O[N k]? = some y ∧ Xn w21 (a22.add (N k * 8)) (evC y) := by
    by_cases h : N k < O.length
    · obtain ⟨a22,k1,k2⟩ := (hs2.ext hx21).get h
      exact ⟨a22,_,fun _ => ⟨k1,List.getElem?_eq_getElem h,k2⟩⟩
    · exact ⟨⟨0,0,none⟩,e,fun h' => absurd h' h⟩
   have hgl : ∀ {b:Bool},b = decide ((N k:Int) < O.length) → b = true → N k < O.length := fun h1 h2 => by rw [h1] at h2; simpa using h2
   refine ⟨a22,fun h => ⟨(hay (hgl rfl h)).1,by omega,by have := hgl rfl h; omega⟩,?_⟩;conv=>whnf
   refine ⟨evC y,fun h => ⟨rfl,(hay (hgl rfl h)).2.2⟩,?_⟩;conv=>whnf
   refine ⟨evC e,fun _ => ⟨rfl,h20.all⟩,?_⟩;conv=>whnf
   refine ⟨_,fun _ => Q8y y e _ _,?_⟩; (conv=>whnf);repeat(refine Sg ?_;(conv=>whnf))
   constructor
   · intro h
     have h : (decide ((N k:Int) < O.length) && decide (y = e)) = true := h
     simp only [Bool.and_eq_true,decide_eq_true_eq] at h
     obtain ⟨h1,rfl⟩ := h
     obtain ⟨_,hy,_⟩ := hay (by omega)
     rw [if_pos (hnk.1 hy)] at hck
     (conv=>whnf);repeat(refine Sg ?_;(conv=>whnf))
     refine ⟨((N k + 1 : Nat) : Int),wrap_succ (by omega),?_⟩; (conv=>whnf);repeat(refine Sg ?_;(conv=>whnf))
     refine ⟨_,wrap_succ (by omega),?_⟩; (conv=>whnf);repeat(refine Sg ?_;(conv=>whnf))
     exact ⟨k + 1,by omega,⟨by omega,hx21⟩,⟨rfl,by rw [hck]; rfl,rfl,rfl,rfl,trivial⟩⟩
   · intro h
     have h : (decide ((N k:Int) < O.length) && decide (y = e)) = false := h
     have hne : ¬ qc e = true := fun hqe => by
      have h1 := hnk.2 hqe
      have h2 := (List.getElem?_eq_some_iff.1 h1).1
      obtain ⟨_,hy,_⟩ := hay h2
      rw [h1] at hy
      injection hy with hy
      subst hy
      simp at h
      omega
     rw [if_neg hne,Nat.add_zero] at hck
     (conv=>whnf);repeat(refine Sg ?_;(conv=>whnf))
     refine ⟨_,wrap_succ (by omega),?_⟩; (conv=>whnf);repeat(refine Sg ?_;(conv=>whnf))
     exact ⟨k + 1,by omega,⟨by omega,hx21⟩,⟨rfl,by rw [hck]; rfl,rfl,rfl,rfl,trivial⟩⟩
 · intro hge
   have hge : H.length ≤ k := by simpa using hge
   obtain rfl : k = H.length := by omega
   rw [hce]
   (conv=>whnf);repeat(refine Sg ?_;(conv=>whnf))
   refine ⟨.slice A2 O.length c2,(h9.ext hx17).one rfl,?_⟩; (conv=>whnf);repeat(refine Sg ?_;(conv=>whnf))
   refine ⟨Unit,fun _ => (.bool true),fun _ w' => Ext w17 w',(),fun hg => ((Qab w17 (hg0.ext (hx.trans hx17)))).mono fun r w' h => ⟨(),h.1,h.2⟩,?_⟩
   intro _ w22 h2
   have hx22 : Ext w17 w22 := by
    rcases h2 with ⟨_,h⟩ | ⟨_,h⟩
    · exact h
    · rw [h]; exact Ext.refl _
   clear h2
   conv=>whnf
   exact ⟨by simp,(hx.trans hx17).trans hx22⟩
end Go.Proofs.YtnnnbjjenknpeaaGreatDoor
