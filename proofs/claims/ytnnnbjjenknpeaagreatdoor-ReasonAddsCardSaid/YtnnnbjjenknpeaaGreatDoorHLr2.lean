import Derived.Test.YtnnnbjjenknpeaaGreatDoorHLr1
/- The law ReasonNobody. -/
set_option linter.unusedVariables false
set_option linter.unusedSimpArgs false
namespace Go.Proofs.YtnnnbjjenknpeaaGreatDoor
open Go.Se Go.RowKit
theorem Qs8 {z:List Ev} {person:ByteArray} (h:Qcb z person = []) : ∀ e ∈ z,peB e = true → e.person ≠ person := fun e he hp hq => by
 have : e ∈ Qcb z person := List.mem_filter.2 ⟨List.mem_filter.2 ⟨he,hp⟩,by simpa using hq⟩
 rw [h] at this
 simp at this
set_option maxHeartbeats 2000000 in
theorem reasonNobody_spec (c:Cfg) (l:List Ev) (a:Nat → Int) (person item:ByteArray) (now:Int) (A:Option Addr) (cap:Nat) (w:World) (hg0:Gl w) (hs:SlE w A l) :
 Cal Tryz.prog 6 [.agg (plC c A l.length cap a person item now).toArray] w fun r w' => r = .bool true ∧ Ext w w' := by
 have hsz := hg0.size
 refine Fi Tryz.func6 rfl _ rfl rfl ?_;conv=>whnf
 intro b1 w1 hn1; (conv=>whnf);repeat(refine Sg ?_;(conv=>whnf))
 have h1 : At w1 b1 28 (plC c A l.length cap a person item now) := hn1.At
 have hx := hn1.ext
 have g1 : w.heap.size ≤ b1 := by rw [hn1.block]; exact Nat.le_refl _
 clear hn1
 refine ⟨plC c A l.length cap a person item now,⟨rfl,h1.all⟩,?_⟩; (conv=>whnf);repeat(refine Sg ?_;(conv=>whnf))
 refine (Qj1 c l A cap a person item now w1 (hs.ext hx)).mono ?_
 rintro _ w2 ⟨rfl,hx2⟩
 replace h1 := h1.ext hx2
 replace hx := hx.trans hx2
 clear hx2
 generalize hq : Q5z c l person item = q
 (conv=>whnf);repeat(refine Sg ?_;(conv=>whnf))
 constructor
 · intro hc
   (conv=>whnf);repeat(refine Sg ?_;(conv=>whnf))
   refine (Qab w2 (hg0.ext hx)).mono ?_
   rintro _ w3 ⟨rfl,hx3⟩; (conv=>whnf);repeat(refine Sg ?_;(conv=>whnf))
   exact ⟨rfl,hx.trans hx3⟩
 intro hc
 have hc : q = true := by simpa using hc
 subst hc
 obtain ⟨hcf,hl,hm⟩ := Qvo hq
 clear hq
 (conv=>whnf);repeat(refine Sg ?_;(conv=>whnf))
 refine ⟨plC c A l.length cap a person item now,⟨rfl,h1.all⟩,?_⟩; (conv=>whnf);repeat(refine Sg ?_;(conv=>whnf))
 refine (Qj7 c l A cap a person item now w2 (hg0.ext hx) (hs.ext hx) hcf (by omega) hm).mono ?_
 rintro _ w3 ⟨p,T,rfl,hWT,hT,hx3⟩
 have l1 := h1.lt
 have g2 := hx.size
 have hTb : ¬ T b1 := fun h => by have := hT _ h; omega
 have hTw : ∀ k,T k → w.heap.size ≤ k := fun k hk => by have := hT k hk; omega
 replace h1 := h1.ext hx3
 replace hx := hx.trans hx3
 clear hx3 hT hs
 have hzl := Qf6 l
 generalize Qbn l = z at hWT hzl
 have hok : Q2t c z := ⟨hcf,by omega⟩
 obtain ⟨v0,T0,hQ0,_⟩ := id hWT
 (conv=>whnf);repeat(refine Sg ?_;(conv=>whnf))
 refine ⟨_,Xm Qy3 _ _ _,?_⟩; (conv=>whnf);repeat(refine Sg ?_;(conv=>whnf))
 constructor
 · intro h; simp at h
 intro _
 (conv=>whnf);repeat(refine Sg ?_;(conv=>whnf))
 refine Dr .ext [0,2,3,1] [4,5,6] ?_;conv=>whnf
 have hxd : Ext w3 w3.drew := (Ext.refl w3).drew
 replace h1 := h1.ext hxd
 replace hx := hx.trans hxd
 replace hWT := hWT.ext hxd
 replace hQ0 := hQ0.ext hxd
 generalize w3.drew = w4 at hx h1 hWT hQ0 ⊢
 refine ⟨.string person,h1.one rfl,?_⟩;conv=>whnf
 refine (Qbp hQ0).mono ?_
 rintro _ w5 ⟨pw,S,rfl,hcr,hx5⟩
 refine ⟨hx5,?_⟩;conv=>whnf
 have hcp := (Qa5 c.width z).2
 have hzp : (Q7 z).length < 1000000 := by
  have h2 := List.length_filter_le peB z
  unfold Q7
  omega
 refine (Qd3 w5 S pw _ _ hcr person (by
  have : (evs (Qn c.width z).rs).length = (Q7 z).length := by rw [hcp]
  simp [evs] at this
  omega)).mono ?_
 rintro _ w6 ⟨A6,c6,rfl,_,hx6⟩
 rw [hcp]
 have hHe : hist (Q7 z) person = Qcb z person := rfl
 rw [hHe]
 have hx46 := hx5.trans hx6
 replace h1 := h1.ext hx46
 replace hx := hx.trans hx46
 replace hWT := hWT.ext hx46
 clear hcr hx5 hx6 hx46 hQ0 hxd
 (conv=>whnf);repeat(refine Sg ?_;(conv=>whnf))
 constructor
 · intro _
   (conv=>whnf);repeat(refine Sg ?_;(conv=>whnf))
   refine (Qab w6 (hg0.ext hx)).mono ?_
   rintro _ w7 ⟨rfl,hx7⟩; (conv=>whnf);repeat(refine Sg ?_;(conv=>whnf))
   exact ⟨rfl,hx.trans hx7⟩
 intro hH
 have hH : Qcb z person = [] := by
  have : ¬ (0:Int) < (Qcb z person).length := by simpa using hH
  exact List.eq_nil_of_length_eq_zero (by omega)
 have hno := Qs8 hH
 have hown : Qj8 c z person item now = [] := Q6m hH item now
 (conv=>whnf);repeat(refine Sg ?_;(conv=>whnf))
 refine ⟨wsC a,⟨rfl,Qx6 h1⟩,?_⟩; (conv=>whnf);repeat(refine Sg ?_;(conv=>whnf))
 refine ⟨.string person,h1.one rfl,?_⟩; (conv=>whnf);repeat(refine Sg ?_;(conv=>whnf))
 refine ⟨.string item,h1.one rfl,?_⟩; (conv=>whnf);repeat(refine Sg ?_;(conv=>whnf))
 refine ⟨.int .i64 now,h1.one rfl,?_⟩; (conv=>whnf);repeat(refine Sg ?_;(conv=>whnf))
 refine (Qbf hWT hok (hg0.ext hx) (fun k hk => by have := hTw k hk; omega) a person item now).mono ?_
 rintro _ w7 ⟨A1,c1,A2,c2,T7,rfl,hown1,_,_,_,_,_,_,hM7⟩
 replace hx := Qdn hx hTw hM7
 rw [hown]
 have hF : ∀ k : Nat,k < 6 → (Qh6 (Qju c z person item now) a 6)[k]? = some ((k:Int),Qju c z person item now k,IntKind.i64.wrap (Qju c z person item now k * Qfi (a k))) := fun k hk => Q6o (Qju c z person item now) a hk
 have hF0 : ∀ k : Nat,k = 1 ∨ k = 2 ∨ k = 4 → Qju c z person item now k = 0 := fun k hk => Qtx c z person item now hno k hk
 have hs1 := hown1.sl Qcd
 generalize Qjw (Qh6 (Qju c z person item now) a 6) = tt
 generalize Qh6 (Qju c z person item now) a 6 = Q at hF hs1
 generalize Qjr c z item = ff
 generalize Qju c z person item now = F at hF hF0
 clear hown1 hM7
 (conv=>whnf);repeat(refine Sg ?_;(conv=>whnf))
 intro b8 w8 hn8; (conv=>whnf);repeat(refine Sg ?_;(conv=>whnf))
 refine Qc Qa (e := ty36) rfl hn8.At rfl rfl rfl (by simp [Qh,rsC,Value.oneCell']) fun w9 h9 ho9 => ?_
 have h9 : At w9 b8 36 (rsC item A1 6 c1 tt A2 0 c2 ff) := h9
 have hx79 : Ext w7 w9 := ho9.ext hn8.ext (by rw [hn8.block]; exact Nat.le_refl _)
 clear ho9 hn8
 replace hx := hx.trans hx79
 replace hs1 := hs1.ext hx79
 clear hx79
 (conv=>whnf);repeat(refine Sg ?_;(conv=>whnf))
 refine ⟨.slice A2 0 c2,h9.one rfl,?_⟩; (conv=>whnf);repeat(refine Sg ?_;(conv=>whnf))
 refine ⟨.slice A1 6 c1,fun _ => h9.one rfl,?_⟩; (conv=>whnf);repeat(refine Sg ?_;(conv=>whnf))
 constructor
 · intro h; simp at h
 intro _
 (conv=>whnf);repeat(refine Sg ?_;(conv=>whnf))
 refine ⟨.slice A1 6 c1,h9.one rfl,?_⟩; (conv=>whnf);repeat(refine Sg ?_;(conv=>whnf))
 refine Qi Qa (fun (k:Nat) w' => k ≤ 6 ∧ Ext w9 w')
  (fun k => [(1,.pointer (some ⟨b1,0,none⟩)),(44,.slice A1 6 c1),(45,.int .i64 6),(46,.int .i64 (k:Nat))]) (fun k => 6 - k) 0 ⟨by omega,Ext.refl _⟩ ⟨rfl,rfl,rfl,rfl,trivial⟩ ?_
 rintro k w10 ⟨hk,hx10⟩
 conv=>whnf
 constructor
 · intro hlt
   have hlt : k < 6 := by
    have : (k:Int) < 6 := by simpa using hlt
    omega
   have hFk := hF k hlt
   have hF0k := hF0 k
   generalize F k = fk at hFk hF0k
   obtain ⟨a11,rfl,hc11⟩ := (hs1.ext hx10) k _ hFk
   (conv=>whnf);repeat(refine Sg ?_;(conv=>whnf))
   refine ⟨a11,⟨rfl,by omega,by omega⟩,?_⟩; (conv=>whnf);repeat(refine Sg ?_;(conv=>whnf))
   refine ⟨ptC ((k:Int),fk,IntKind.i64.wrap (fk * Qfi (a k))),⟨rfl,hc11⟩,?_⟩; (conv=>whnf);repeat(refine Sg ?_;(conv=>whnf))
   intro b12 w12 hn12; (conv=>whnf);repeat(refine Sg ?_;(conv=>whnf))
   refine Qc Qa (e := ty43) rfl hn12.At rfl rfl rfl (by simp [Qh,ptC,Value.oneCell']) fun w13 h13 ho13 => ?_
   have h13 : At w13 b12 43 (ptC ((k:Int),fk,IntKind.i64.wrap (fk * Qfi (a k)))) := h13
   have hx13 : Ext w10 w13 := ho13.ext hn12.ext (by rw [hn12.block]; exact Nat.le_refl _)
   clear ho13 hn12
   have hP0 : k = 1 ∨ k = 2 ∨ k = 4 → IntKind.i64.wrap (fk * Qfi (a k)) = 0 := fun h => by
    rw [hF0k h,Int.zero_mul]
    exact Qwr
   generalize IntKind.i64.wrap (fk * Qfi (a k)) = pk at h13 hP0
   (conv=>whnf);repeat(refine Sg ?_;(conv=>whnf))
   refine ⟨.int .i64 (k:Nat),h13.one rfl,?_⟩; (conv=>whnf);repeat(refine Sg ?_;(conv=>whnf))
   refine ⟨.int .i64 (k:Nat),fun _ => h13.one rfl,?_⟩; (conv=>whnf);repeat(refine Sg ?_;(conv=>whnf))
   refine ⟨.int .i64 (k:Nat),fun _ => h13.one rfl,?_⟩; (conv=>whnf);repeat(refine Sg ?_;(conv=>whnf))
   refine ⟨.int .i64 pk,fun _ => h13.one rfl,?_⟩; (conv=>whnf);repeat(refine Sg ?_;(conv=>whnf))
   constructor
   · intro h
     exfalso
     simp at h
     have := hP0 (by omega)
     omega
   intro _
   (conv=>whnf);repeat(refine Sg ?_;(conv=>whnf))
   refine ⟨_,wrap_succ (by omega),?_⟩; (conv=>whnf);repeat(refine Sg ?_;(conv=>whnf))
   exact ⟨k + 1,by omega,⟨by omega,hx10.trans hx13⟩,⟨rfl,rfl,rfl,rfl,trivial⟩⟩
 · intro _
   (conv=>whnf);repeat(refine Sg ?_;(conv=>whnf))
   refine (Qab w10 (hg0.ext (hx.trans hx10))).mono ?_
   rintro _ w11 ⟨rfl,hx11⟩; (conv=>whnf);repeat(refine Sg ?_;(conv=>whnf))
   exact ⟨rfl,(hx.trans hx10).trans hx11⟩
end Go.Proofs.YtnnnbjjenknpeaaGreatDoor
