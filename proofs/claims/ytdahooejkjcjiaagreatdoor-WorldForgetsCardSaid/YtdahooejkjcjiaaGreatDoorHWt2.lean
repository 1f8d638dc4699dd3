import Derived.Test.YtdahooejkjcjiaaGreatDoorHWt1
import Derived.Test.YtdahooejkjcjiaaGreatDoorGL
import Derived.Test.YtdahooejkjcjiaaGreatDoorHSam
/- The law WorldSame. -/
set_option linter.unusedVariables false
set_option linter.unusedSimpArgs false
namespace Go.Proofs.YtdahooejkjcjiaaGreatDoor
open Go.Se Go.RowKit Go.Shelf
def Q6f (c:Cfg) (l:List Ev) (t:Int) : Bool := (((((decide ((24:Int) < l.length)) || l.any (Qzj 300)) || !l.all Xa) || !Qj2 c) || decide (t < 0)) || decide ((l.length : Int) < t)
theorem Q4a {c:Cfg} {l:List Ev} {t:Int} (h:Q6f c l t = false) : l.length ≤ 24 ∧ (∀ e ∈ l,Xa e = true) ∧ Qj2 c = true ∧ (0 ≤ t ∧ t ≤ l.length) := by
 unfold Q6f at h
 simp only [Bool.or_eq_false_iff,Bool.not_eq_false',decide_eq_false_iff_not,List.all_eq_true] at h
 obtain ⟨⟨⟨⟨⟨h1,h2⟩,h3⟩,h4⟩,h5⟩,h6⟩ := h
 exact ⟨by omega,h3,h4,by omega,by omega⟩
theorem Q32 {l:List Ev} {j:Nat} (h:j < l.length) : (l.drop j).reverse = (l.drop (j + 1)).reverse ++ [l[j]] := by
 rw [List.drop_eq_getElem_cons h,List.reverse_cons]
theorem Mod.at_ {w w':World} {S:Nat → Prop} (h:Mod S w w') {k t:Nat} {l:List Value} (ha:At w k t l) (hs:¬ S k) : At w' k t l := (h.block k ha.lt hs).trans ha
theorem Q0w {S S':Nat → Prop} {a b c:World} (h:Mod S a b) (k:Mod S' b c) (hS:∀ j,S' j → S j ∨ a.heap.size ≤ j) : Mod S a c :=
 ⟨k.os.trans h.os,k.tape.trans h.tape,k.output.trans h.output,Nat.le_trans h.size k.size,fun i hi hn => (k.block i (Nat.lt_of_lt_of_le hi h.size) fun hs => (hS i hs).elim hn fun h => by omega).trans (h.block i hi hn)⟩
theorem Qve {w:World} {T:Nat → Prop} {p:Nat} {c:Cfg} {z:List Ev} (h:WT w T p c z) :
 Cal Tryz.prog 20 [.pointer (some ⟨p,0,none⟩)] w fun r w' => ∃ i : Option Addr × Nat,r = .slice i.1 z.length i.2 ∧ SlE w' i.1 z ∧ Ext w w' :=
 (Qkz h).mono fun _ _ ⟨A,c',h1,h2,_,h4⟩ => ⟨(A,c'),h1,h2.sl Q3,h4⟩
set_option maxHeartbeats 16000000 in
theorem worldSame_spec (c:Cfg) (l:List Ev) (A:Option Addr) (cap:Nat) (t now:Int) (w:World) (hg0:Gl w) (hs:SlE w A l) (hcap:l.length ≤ cap) :
 Cal Tryz.prog 4 [Q20 c,.slice A l.length cap,.int .i64 t,.int .i64 now] w fun r w' => r = .bool true ∧ Ext w w' := by
 have hsz := hg0.size
 refine Fi Tryz.func4 rfl _ rfl rfl ?_;conv=>whnf
 intro b5 w1 hn1; (conv=>whnf);repeat(refine Sg ?_;(conv=>whnf))
 have g5 : At w1 b5 23 (Qiw c) := hn1.At
 have hx := hn1.ext
 clear hn1
 refine (Qhq w1 (hg0.ext hx)).mono ?_
 rintro _ w2 ⟨rfl,hx2⟩
 replace g5 := g5.ext hx2
 replace hx := hx.trans hx2
 clear hx2
 (conv=>whnf);repeat(refine Sg ?_;(conv=>whnf))
 constructor
 · intro h; simp at h
 intro _
 (conv=>whnf);repeat(refine Sg ?_;(conv=>whnf))
 refine ⟨Unit,fun _ => (.bool (l.any (Qzj 300))),fun _ w' => Ext w2 w',(),fun hg => ((Qlt l A cap 300 w2 (hs.ext hx) (by simp at hg; omega))).mono fun r w' h => ⟨(),h.1,h.2⟩,?_⟩
 intro _ w3 h2
 have hx3 : Ext w2 w3 := by
  rcases h2 with ⟨_,h⟩ | ⟨_,h⟩
  · exact h
  · rw [h]; exact Ext.refl _
 clear h2
 conv=>whnf
 replace g5 := g5.ext hx3
 replace hx := hx.trans hx3
 refine ⟨Unit,fun _ => (.bool (l.all Xa)),fun _ w' => Ext w3 w',(),fun hg => ((Qnx l A cap w3 (hs.ext hx) (by have := (Bool.or_eq_false_iff.1 hg).1; simp at this; omega) (Qn0 (Bool.or_eq_false_iff.1 hg).2))).mono fun r w' h => ⟨(),h.1,h.2⟩,?_⟩
 intro _ w4 h2
 have hx4 : Ext w3 w4 := by
  rcases h2 with ⟨_,h⟩ | ⟨_,h⟩
  · exact h
  · rw [h]; exact Ext.refl _
 clear h2
 conv=>whnf
 replace g5 := g5.ext hx4
 replace hx := hx.trans hx4
 refine ⟨Qiw c,fun _ => ⟨rfl,g5.all⟩,?_⟩;conv=>whnf
 refine ⟨Unit,fun _ => (.bool (Qj2 c)),fun _ w' => Ext w4 w',(),fun hg => ((Qf9 c w4)).mono fun r w' h => ⟨(),h.1,h.2⟩,?_⟩
 intro _ w5 h2
 have hx5 : Ext w4 w5 := by
  rcases h2 with ⟨_,h⟩ | ⟨_,h⟩
  · exact h
  · rw [h]; exact Ext.refl _
 clear h2
 conv=>whnf
 replace g5 := g5.ext hx5
 replace hx := hx.trans hx5
 clear hx3 hx4 hx5
 (conv=>whnf);repeat(refine Sg ?_;(conv=>whnf))
 constructor
 · intro _
   (conv=>whnf);repeat(refine Sg ?_;(conv=>whnf))
   exact ⟨rfl,hx⟩
 intro hq
 have hq : Q6f c l t = false := hq
 obtain ⟨hl,hm,hcf,ht0,ht1⟩ := Q4a hq
 clear hq
 obtain ⟨t,rfl⟩ := Int.eq_ofNat_of_zero_le ht0
 have g5l := g5.lt
 have g50 := g5
 (conv=>whnf);repeat(refine Sg ?_;(conv=>whnf))
 intro b6 w6 hn6; (conv=>whnf);repeat(refine Sg ?_;(conv=>whnf))
 have o6 : Own evC 8 34 w5.heap.size w6 (some ⟨b6,0,none⟩) 0 [] := Qat.made hn6 (Nat.le_refl _)
 have hx6 := hn6.ext
 clear hn6
 refine ⟨(l.length : Int) - 1,wrap_eq rfl ⟨by omega,by omega⟩,?_⟩; (conv=>whnf);repeat(refine Sg ?_;(conv=>whnf))
 refine Qe Qa (fun (x:Int × Option Addr × Nat × List Ev) w' => (-1 ≤ x.1 ∧ x.1 < l.length) ∧ x.2.2.2 = (l.drop (x.1 + 1).toNat).reverse ∧ Own evC 8 34 w5.heap.size w' x.2.1 x.2.2.1 x.2.2.2 ∧ Ext w5 w')
  (fun | (k,B,d,L) => [(1,.slice A l.length cap),(2,.int .i64 (t:Nat)),(3,.int .i64 now),(4,.pointer (some ⟨b5,0,none⟩)),(9,.slice B L.length d),(10,.int .i64 k)]) (fun x => (x.1 + 1).toNat) ((l.length : Int) - 1,some ⟨b6,0,none⟩,0,[]) ⟨⟨by simp only; omega,by simp only; omega⟩,by
   have h : (((l.length : Int) - 1) + 1).toNat = l.length := by omega
   simp only
   rw [h,List.drop_length]; rfl,o6,hx6⟩ ⟨rfl,rfl,rfl,rfl,rfl,rfl,trivial⟩ ?_
 clear o6 hx6
 rintro ⟨k,B,d,L⟩ wa ⟨⟨hk0,hk1⟩,hL,hown,hxa⟩
 simp only at hk0 hk1 hL hown hxa
 conv=>whnf
 constructor
 · intro hlt
   have hlt : 0 ≤ k := by simp at hlt; omega
   obtain ⟨j,rfl⟩ := Int.eq_ofNat_of_zero_le hlt
   have hj : j < l.length := by omega
   have hj1 : (((j:Int) + 1).toNat) = j + 1 := by omega
   rw [hj1] at hL
   have hst := Q32 hj
   rw [← hL] at hst
   have hLl : L.length ≤ 24 := by rw [hL,List.length_reverse,List.length_drop]; omega
   obtain ⟨a,rfl,hc8⟩ := (hs.ext (hx.trans hxa)).get hj
   generalize l[j] = e at hc8 hst
   (conv=>whnf);repeat(refine Sg ?_;(conv=>whnf))
   refine ⟨a,⟨rfl,by omega,by omega⟩,?_⟩; (conv=>whnf);repeat(refine Sg ?_;(conv=>whnf))
   refine ⟨evC e,⟨rfl,hc8⟩,?_⟩; (conv=>whnf);repeat(refine Sg ?_;(conv=>whnf))
   intro bb wb hnb; (conv=>whnf);repeat(refine Sg ?_;(conv=>whnf))
   refine Qu Qat (l := L) (news := [e]) rfl (hown.ext hnb.ext) rfl (Qat.new1 (x := e) hnb) (by simp; omega) (hxa.trans hnb.ext).size fun A6 c6 w6 hown6 hg6 hA6 => ?_
   have hx6 := Qn (hxa.trans hnb.ext) hg6 (Xg (hown.ext hnb.ext))
   rw [← hst] at hown6 ⊢
   generalize hL2 : (l.drop j).reverse = L2 at hown6 ⊢
   (conv=>whnf);repeat(refine Sg ?_;(conv=>whnf))
   refine ⟨(j:Int) - 1,wrap_eq rfl ⟨by omega,by omega⟩,?_⟩; (conv=>whnf);repeat(refine Sg ?_;(conv=>whnf))
   refine ⟨((j:Int) - 1,A6,c6,L2),by simp only; omega,⟨⟨by simp only; omega,by simp only; omega⟩,?_,hown6,hx6⟩,⟨rfl,rfl,rfl,rfl,rfl,rfl,trivial⟩⟩
   have h : (((j:Int) - 1) + 1).toNat = j := by omega
   simp only
   rw [h]; exact hL2.symm
 intro hge
 have hge : ¬ 0 ≤ k := by simp at hge; omega
 obtain rfl : k = -1 := by omega
 have hL : L = l.reverse := hL
 have hBw : ∀ a,B = some a → w5.heap.size ≤ a.block ∧ a.block < wa.heap.size := fun a ha => hown.block ha
 have hB : ∀ k,wa.heap.size ≤ k → ¬ B.map (·.block) = some k := fun k hk h => by
  obtain ⟨a,ha,rfl⟩ := Option.map_eq_some_iff.1 h
  have := (hBw a ha).2
  omega
 have hLl : L.length ≤ 24 := by rw [hL,List.length_reverse]; exact hl
 have hx0 := hx
 have hsk := Qdn (Qt7 (hs.ext (hx.trans hxa)) t) 0 cap (by rw [List.length_take]; omega)
 have hsd := Qdn (hs.ext (hx.trans hxa)) t cap hcap
 rw [List.drop_zero] at hsk
 have hkm : t = (l.take t).length := by rw [List.length_take]; omega
 have hdl : l.length - t = (l.drop t).length := by rw [List.length_drop]
 have hpm : ∀ x,x ∈ l.drop t ++ l.take t ↔ x ∈ l := fun x => by
  rw [List.mem_append]
  conv => rhs; rw [← List.take_append_drop t l]
  rw [List.mem_append]; exact or_comm
 have hpl : (l.drop t ++ l.take t).length = l.length := by rw [List.length_append,List.length_drop,List.length_take]; omega
 have hdll : (l.drop t).length ≤ 24 := by rw [List.length_drop]; omega
 generalize l.take t = T1 at hsk hkm hpm hpl
 generalize l.drop t = D1 at hsd hdl hpm hpl hdll
 (conv=>whnf);repeat(refine Sg ?_;(conv=>whnf))
 refine Dr (.mods (fun k => wa.heap.size ≤ k)) [1,2,3,5,6,7,0,4] [8,9] ?_;conv=>whnf
 have hxd : Ext wa wa.drew := (Ext.refl wa).drew
 generalize wa.drew = wb at hxd ⊢
 refine ⟨⟨by omega,by omega,by omega,by omega⟩,?_⟩;conv=>whnf
 refine ⟨⟨by omega,by omega,by omega,by omega⟩,?_⟩;conv=>whnf
 intro b6 w6 hn6
 have o6 := Qat.made (base := wa.heap.size) hn6 hxd.size
 refine ⟨Mod.of_ext hn6.ext,?_⟩;conv=>whnf
 refine Qu Qat (l := []) (news := D1) rfl o6 hdl (hsd.ext (hxd.trans hn6.ext)) (by simp; omega) (hxd.trans hn6.ext).size fun A7 c7 w7 hown7 hg7 hA7 => ?_
 have hx7 := Qn (hxd.trans hn6.ext) hg7 (Xg o6)
 refine ⟨Qv hg7 (Xg o6),?_⟩;conv=>whnf
 replace hown7 : Own evC 8 34 wa.heap.size w7 A7 c7 D1 := hown7
 refine Qu Qat (l := D1) (news := T1) rfl hown7 hkm (hsk.ext hx7) (by omega) hx7.size fun A9 c9 w9 hown9 hg9 hA9 => ?_
 have hx9 := Qn hx7 hg9 (Xg hown7)
 generalize D1 ++ T1 = P at hown9 hpm hpl ⊢
 clear hA7 hA9 hg7 hg9 hx7 hown7 o6 hn6 hxd hsk hsd hkm hdl hdll
 replace hown := hown.ext hx9
 replace hxa := hxa.trans hx9
 replace hx := hx0.trans hxa
 replace g5 := g5.ext hxa
 have hA9 : ∀ a,A9 = some a → wa.heap.size ≤ a.block ∧ a.block < w9.heap.size := fun a ha => hown9.block ha
 have hsP := hown9.sl Q3
 have s9 := hx9.size
 clear hown9
 (conv=>whnf);repeat(refine Sg ?_;(conv=>whnf))
 refine ⟨Qiw c,⟨rfl,g5.all⟩,?_⟩; (conv=>whnf);repeat(refine Sg ?_;(conv=>whnf))
 refine (Qas c hcf l A cap w9 (hg0.ext hx) (hs.ext hx) (by omega) hm).mono ?_
 rintro _ u1 ⟨pa,rfl,hWa,hx1⟩
 obtain ⟨Ta,hTa,hTa0⟩ := hWa.t
 have hTw : ∀ k,Ta k → w.heap.size ≤ k := fun k hk => Nat.le_trans hx.size (hTa0 k hk)
 have hTb5 : ∀ k,Ta k → w5.heap.size ≤ k := fun k hk => Nat.le_trans hxa.size (hTa0 k hk)
 replace hown := hown.ext hx1
 replace hsP := hsP.ext hx1
 replace hxa := hxa.trans hx1
 replace hx := hx.trans hx1
 replace g5 := g5.ext hx1
 have s1 := hx1.size
 clear hWa
 (conv=>whnf);repeat(refine Sg ?_;(conv=>whnf))
 refine Dr (.mods (fun k => w5.heap.size ≤ k)) [0,1,2,3,4,5,6,7,8,9] [] ?_;conv=>whnf
 have hxd : Ext u1 u1.drew := (Ext.refl u1).drew
 replace hown := hown.ext hxd
 replace hsP := hsP.ext hxd
 replace hTa := hTa.ext hxd
 replace hxa := hxa.trans hxd
 replace hx := hx.trans hxd
 replace g5 := g5.ext hxd
 have sd := hxd.size
 generalize u1.drew = u2 at hown hsP hTa hxa hx g5 sd ⊢
 clear hxd
 refine ⟨Qiw c,⟨rfl,g5.all,by show ¬ (w5.heap.size ≤ b5); omega⟩,?_⟩;conv=>whnf
 have hm2 : ∀ x,x ∈ L ++ l ↔ x ∈ l := fun x => by rw [hL,List.mem_append,List.mem_reverse]; simp
 have hl2 : (L ++ l).length ≤ 48 := by rw [List.length_append]; omega
 refine Qu Qat (l := L) (news := l) rfl hown rfl (hs.ext hx) (by omega) hxa.size fun A10 c10 w10 hown10 hg10 hA10 => ?_
 have hM10 := Qv (S := fun k => B.map (·.block) = some k) hg10 fun k h => h
 have hx10 := Qn hxa hg10 (Xg hown)
 refine ⟨Qv hg10 (Xg hown),?_⟩;conv=>whnf
 replace hTa := hTa.keep fun k hk => hM10.block k (hTa.lt k hk) (hB k (Nat.le_trans s9 (hTa0 k hk)))
 replace hsP := Qd6 (w1 := w10) hsP fun a ha => hM10.block a.block (by have := (hA9 a ha).2; omega) (hB _ (hA9 a ha).1)
 have s10 := hM10.size
 replace hxa := hx10
 replace hx := hx0.trans hxa
 clear hM10 hg10 hA10 hown hx10
 replace g5 := g50.ext hxa
 have hs10 := hown10.sl Q3
 clear hown10
 generalize L ++ l = L2 at hs10 hm2 hl2 ⊢
 refine (Qas c hcf L2 A10 c10 w10 (hg0.ext hx) hs10 (by omega) fun x hx' => hm x ((hm2 x).1 hx')).mono ?_
 rw [Qu4 hm hm2]
 rintro _ u3 ⟨pb,rfl,hWb,hx3⟩
 obtain ⟨Tb,hTb,hTb0⟩ := hWb.t
 refine ⟨Mod.of_ext hx3,?_⟩; (conv=>whnf);repeat(refine Sg ?_;(conv=>whnf))
 have dab : ∀ k,Tb k → ¬ Ta k := fun k h1 h2 => by have := hTa.lt k h2; have := hTb0 k h1; omega
 have hTbw : ∀ k,Tb k → w.heap.size ≤ k := fun k hk => Nat.le_trans hx.size (hTb0 k hk)
 replace hTa := hTa.ext hx3
 replace hsP := hsP.ext hx3
 replace hxa := hxa.trans hx3
 replace hx := hx0.trans hxa
 replace g5 := g50.ext hxa
 clear hWb hTb0 hs10 hm2 hl2 hL hB hBw hA9
 refine ⟨Qiw c,⟨rfl,g5.all⟩,?_⟩; (conv=>whnf);repeat(refine Sg ?_;(conv=>whnf))
 refine (Qas c hcf P A9 c9 u3 (hg0.ext hx) hsP (by omega) fun x hx' => hm x ((hpm x).1 hx')).mono ?_
 rw [Qu4 hm hpm]
 rintro _ u4 ⟨pd,rfl,hWd,hx4⟩
 obtain ⟨Td,hTd,hTd0⟩ := hWd.t
 have dad : ∀ k,Td k → ¬ Ta k ∧ ¬ Tb k := fun k h1 => by
  have := hTd0 k h1
  exact ⟨fun h2 => by have := hTa.lt k h2; omega,fun h2 => by have := hTb.lt k h2; omega⟩
 have hTdw : ∀ k,Td k → w.heap.size ≤ k := fun k hk => Nat.le_trans hx.size (hTd0 k hk)
 replace hTa := hTa.ext hx4
 replace hTb := hTb.ext hx4
 replace hxa := hxa.trans hx4
 replace hx := hx0.trans hxa
 replace g5 := g50.ext hxa
 clear hWd hTd0 hsP hx4
 (conv=>whnf);repeat(refine Sg ?_;(conv=>whnf))
 refine ⟨Qiw c,⟨rfl,g5.all⟩,?_⟩; (conv=>whnf);repeat(refine Sg ?_;(conv=>whnf))
 refine (Qfj c u4 (Nat.le_trans hsz hx.size) hcf).mono ?_
 rintro _ u5 ⟨pn,rfl,hW,hx5⟩
 obtain ⟨col0,hC0⟩ := hW.col
 have hal := hTa.lt
 have hbl := hTb.lt
 have hdl := hTd.lt
 have hlo : ∀ j,col0 j ≠ 0 → u4.heap.size ≤ j := hC0.low
 have hhi : ∀ j,col0 j ≠ 0 → j < u5.heap.size := fun j hj => Nat.lt_of_not_le fun h => hj (hC0.2 j h)
 have hu4 := hx.size
 replace hx := hx.trans hx5
 (conv=>whnf);repeat(refine Sg ?_;(conv=>whnf))
 refine (Qrc l A cap u5 (hs.ext hx) (by omega) hm).mono ?_
 rintro _ u6 ⟨Ai,ci,rfl,hsI,⟨_,hAi⟩,hx6⟩
 have hx56 := hx5.trans hx6
 replace hTa := hTa.ext hx56
 replace hTb := hTb.ext hx56
 replace hTd := hTd.ext hx56
 replace hC0 := hC0.ext hx6
 replace hx := hx.trans hx6
 have hu6 := hx56.size
 clear hW hx5 hx6 hx56 g5 hxa
 have hzl := Qht l
 have hzm : ∀ e ∈ X0 l,Xa e = true := fun e he => hm e (Qcw he)
 have hzr := Qc0 hm
 have hzi := Qka hm
 have hzk := Qeu l
 generalize X0 l = z at hTa hTb hTd hsI hzl hzm hzr hzi hzk ⊢
 (conv=>whnf);repeat(refine Sg ?_;(conv=>whnf))
 refine Qe Qa (fun (x:Nat × WS × (Nat → Nat)) w' => x.1 ≤ z.length ∧ Qbz w' u4.heap.size pn c x.2.1 x.2.2 ∧ Qiv c x.2.1 (z.take x.1) ∧ x.2.1.es = z.take x.1 ∧ (∀ j,x.2.2 j ≠ 0 → col0 j ≠ 0 ∨ u6.heap.size ≤ j) ∧ Mod (fun j => col0 j ≠ 0) u6 w')
  (fun | (k,_,_) => [(3,.int .i64 now),(12,.pointer (some ⟨pa,0,none⟩)),(13,.int .i64 0),(14,.pointer (some ⟨pb,0,none⟩)),(15,.int .i64 0),(16,.pointer (some ⟨pd,0,none⟩)),(17,.int .i64 0),(18,.pointer (some ⟨pn,0,none⟩)),(19,.int .i64 0),(20,.slice Ai z.length ci),(21,.int .i64 (k:Nat))]) (fun x => z.length - x.1) (0,WS0,col0) ⟨Nat.zero_le _,hC0,add_zero c,rfl,fun j h => .inl h,Mod.refl _ _⟩ ⟨rfl,rfl,rfl,rfl,rfl,rfl,rfl,rfl,rfl,rfl,rfl,trivial⟩ ?_
 clear hC0
 rintro ⟨k,s,col⟩ u7 ⟨hk,hC,hA,hes,hcol,hM⟩
 simp only at hk hC hA hes hcol hM
 have hx7 := Qz hx hM fun j hj => Nat.le_trans hu4 (hlo j hj)
 conv=>whnf
 constructor
 · intro hlt
   have hlt : k < z.length := by simpa using hlt
   have hsI7 : SlE u7 Ai z := Qd6 hsI fun a ha => hM.block a.block (hAi a ha).2 fun h => by have := hhi _ h; have := (hAi a ha).1; omega
   obtain ⟨a,rfl,hc8⟩ := hsI7.get hlt
   obtain ⟨h0,hA',hes'⟩ := Qiv.next hzm hzr hzi hzk k hlt hA hes
   have hte : z[k].text.size < 4000000000 := Nat.lt_trans (Qb6 (hzm _ (List.getElem_mem hlt))) (by decide)
   generalize z[k] = e at hc8 h0 hA' hes' hte
   (conv=>whnf);repeat(refine Sg ?_;(conv=>whnf))
   refine ⟨a,⟨rfl,by omega,by omega⟩,?_⟩; (conv=>whnf);repeat(refine Sg ?_;(conv=>whnf))
   refine ⟨evC e,⟨rfl,hc8⟩,?_⟩; (conv=>whnf);repeat(refine Sg ?_;(conv=>whnf))
   refine (Qj9 u7 _ pn c hcf s col hC (hg0.ext hx7) hA.inv (by rw [hes,List.length_take]; omega) e hte).mono ?_
   rintro _ u8 ⟨rfl,col8,hC8,hlow8,hM8⟩
   rw [h0]
   (conv=>whnf);repeat(refine Sg ?_;(conv=>whnf))
   constructor
   · intro h; simp at h
   intro _
   (conv=>whnf);repeat(refine Sg ?_;(conv=>whnf))
   refine ⟨_,wrap_succ (by omega),?_⟩; (conv=>whnf);repeat(refine Sg ?_;(conv=>whnf))
   refine ⟨(k + 1,Qp0 c.width s e,col8),by simp only; omega,⟨by simp only; omega,hC8,hA',hes',fun j hj => ?_,Q0w hM hM8 hcol⟩,⟨rfl,rfl,rfl,rfl,rfl,rfl,rfl,rfl,rfl,rfl,rfl,trivial⟩⟩
   rcases hlow8 j hj with h | h
   · exact hcol j h
   · exact .inr (Nat.le_trans hM.size h)
 intro hge
 have hge : z.length ≤ k := by simpa using hge
 rw [List.take_of_length_le hge] at hA hes
 have ho : ∀ {j:Nat},j < u4.heap.size → ¬ col0 j ≠ 0 := fun h h2 => by have := hlo _ h2; omega
 replace hTa := hTa.keep fun k hk => hM.block k (hTa.lt k hk) (ho (hal k hk))
 replace hTb := hTb.keep fun k hk => hM.block k (hTb.lt k hk) (ho (hbl k hk))
 replace hTd := hTd.keep fun k hk => hM.block k (hTd.lt k hk) (ho (hdl k hk))
 obtain ⟨Tn,hTn,hTn0⟩ := Qmm.t hC.at_ hA.inv (by rw [hes]; omega)
 rw [hes] at hTn
 have dn : ∀ k,Tn k → ¬ Ta k ∧ ¬ Tb k ∧ ¬ Td k := fun k h => by
  have := hTn0 k h
  exact ⟨fun h2 => by have := hal k h2; omega,fun h2 => by have := hbl k h2; omega,fun h2 => by have := hdl k h2; omega⟩
 have hTnw : ∀ k,Tn k → w.heap.size ≤ k := fun k hk => Nat.le_trans hu4 (hTn0 k hk)
 replace hx := hx7
 clear hM hC hA hes hcol hx7 hge hk hsI hAi hal hbl hdl hTn0 hu6 hlo hhi ho
 (conv=>whnf);repeat(refine Sg ?_;(conv=>whnf))
 refine (Qck hTa (hg0.ext hx) hcf (by omega) (fun k hk => Nat.le_trans hsz (hTw k hk)) now).mono ?_
 rintro _ v1 ⟨Ta1,rfl,hTa1,hla1,hM1⟩
 have d1 : ∀ k,Ta1 k → ¬ Tb k ∧ ¬ Td k ∧ ¬ Tn k := fun k h => by
  rcases hla1 k h with h1 | h1
  · exact ⟨fun h2 => dab k h2 h1,fun h2 => (dad k h2).1 h1,fun h2 => (dn k h2).1 h1⟩
  · exact ⟨fun h2 => by have := hTb.lt k h2; omega,fun h2 => by have := hTd.lt k h2; omega,fun h2 => by have := hTn.lt k h2; omega⟩
 replace hTb := hTb.keep fun k hk => hM1.block k (hTb.lt k hk) (dab k hk)
 replace hTd := hTd.keep fun k hk => hM1.block k (hTd.lt k hk) (dad k hk).1
 replace hTn := hTn.keep fun k hk => hM1.block k (hTn.lt k hk) (dn k hk).1
 replace hx := Qz hx hM1 hTw
 clear hTa hla1 hM1
 (conv=>whnf);repeat(refine Sg ?_;(conv=>whnf))
 refine ⟨(Nat → Prop),(fun _ => .string (Qsf c z (Qe4 now))),(fun T' w' => WT w' T' pb c z ∧ (∀ k,T' k → Tb k ∨ v1.heap.size ≤ k) ∧ Mod Tb v1 w'),(fun _ => False),fun _ => (Qck hTb (hg0.ext hx) hcf (by omega) (fun k hk => Nat.le_trans hsz (hTbw k hk)) now),?_⟩
 rintro iv2 v2 hqv2
 replace hqv2 := hqv2.elim (fun h => h.2) fun h => (h.1 (And.intro (by first | rfl | simp | decide) trivial)).elim
 obtain ⟨_,_,hM2⟩ := hqv2
 replace hTa1 := hTa1.keep fun k hk => hM2.block k (hTa1.lt k hk) (d1 k hk).1
 replace hTd := hTd.keep fun k hk => hM2.block k (hTd.lt k hk) (dad k hk).2
 replace hTn := hTn.keep fun k hk => hM2.block k (hTn.lt k hk) (dn k hk).2.1
 replace hx := Qz hx hM2 hTbw
 clear hM2 hTb
 (conv=>whnf);repeat(refine Sg ?_;(conv=>whnf))
 refine ⟨(Nat → Prop),(fun _ => .string (Qsf c z (Qe4 now))),(fun T' w' => WT w' T' pd c z ∧ (∀ k,T' k → Td k ∨ v2.heap.size ≤ k) ∧ Mod Td v2 w'),(fun _ => False),fun _ => (Qck hTd (hg0.ext hx) hcf (by omega) (fun k hk => Nat.le_trans hsz (hTdw k hk)) now),?_⟩
 rintro iv3 v3 hqv3
 replace hqv3 := hqv3.elim (fun h => h.2) fun h => (h.1 (And.intro (by first | rfl | simp | decide) trivial)).elim
 obtain ⟨_,_,hM3⟩ := hqv3
 replace hTa1 := hTa1.keep fun k hk => hM3.block k (hTa1.lt k hk) (d1 k hk).2.1
 replace hTn := hTn.keep fun k hk => hM3.block k (hTn.lt k hk) (dn k hk).2.2
 replace hx := Qz hx hM3 hTdw
 clear hM3 hTd
 (conv=>whnf);repeat(refine Sg ?_;(conv=>whnf))
 refine ⟨(Nat → Prop),(fun _ => .string (Qsf c z (Qe4 now))),(fun T' w' => WT w' T' pn c z ∧ (∀ k,T' k → Tn k ∨ v3.heap.size ≤ k) ∧ Mod Tn v3 w'),(fun _ => False),fun _ => (Qck hTn (hg0.ext hx) hcf (by omega) (fun k hk => Nat.le_trans hsz (hTnw k hk)) now),?_⟩
 rintro iv4 v4 hqv4
 replace hqv4 := hqv4.elim (fun h => h.2) fun h => (h.1 (And.intro (by first | rfl | simp | decide) trivial)).elim
 obtain ⟨hTn4,_,hM4⟩ := hqv4
 replace hTa1 := hTa1.keep fun k hk => hM4.block k (hTa1.lt k hk) (d1 k hk).2.2
 replace hx := Qz hx hM4 hTnw
 clear hM4 hTn
 (conv=>whnf);repeat(refine Sg ?_;(conv=>whnf))
 refine ⟨(Option Addr × Nat),(fun i => .slice i.1 z.length i.2),(fun i w' => SlE w' i.1 z ∧ Ext v4 w'),(none,0),fun _ => (Qve hTn4),?_⟩
 rintro iv5 v5 hqv5
 replace hqv5 := hqv5.elim (fun h => h.2) fun h => (h.1 (And.intro (by first | rfl | simp | decide) trivial)).elim
 obtain ⟨hs5,hx5⟩ := hqv5
 replace hTa1 := hTa1.ext hx5
 replace hx := hx.trans hx5
 clear hx5
 (conv=>whnf);repeat(refine Sg ?_;(conv=>whnf))
 refine ⟨(Option Addr × Nat),(fun i => .slice i.1 z.length i.2),(fun i w' => SlE w' i.1 z ∧ Ext v5 w'),(none,0),fun _ => (Qve hTa1),?_⟩
 rintro iv6 v6 hqv6
 replace hqv6 := hqv6.elim (fun h => h.2) fun h => (h.1 (And.intro (by first | rfl | simp | decide) trivial)).elim
 obtain ⟨hs6,hx6⟩ := hqv6
 replace hs5 := hs5.ext hx6
 replace hx := hx.trans hx6
 clear hx6
 (conv=>whnf);repeat(refine Sg ?_;(conv=>whnf))
 refine ⟨Unit,(fun _ => .bool (decide (z = z))),(fun _ w' => Ext v6 w'),(),fun _ => ((Q1t z z iv5.1 iv6.1 iv5.2 iv6.2 v6 hs5 hs6 (by omega)).mono fun r w' h => ⟨(),h.1,h.2⟩),?_⟩
 rintro iv7 v7 hqv7
 replace hqv7 := hqv7.elim (fun h => h.2) fun h => (h.1 (And.intro (by first | rfl | simp | decide) trivial)).elim
 (conv=>whnf);repeat(refine Sg ?_;(conv=>whnf))
 exact ⟨by simp,hx.trans hqv7⟩
end Go.Proofs.YtdahooejkjcjiaaGreatDoor
