import Derived.Test.YtdahooejkjcjiaaGreatDoorHWr2
import Derived.Test.YtdahooejkjcjiaaGreatDoorHWl1
import Derived.Test.YtdahooejkjcjiaaGreatDoorGXA
import Derived.Test.YtdahooejkjcjiaaGreatDoorGXC
/- The law WorldRows. -/
set_option linter.unusedVariables false
set_option linter.unusedSimpArgs false
namespace Go.Proofs.YtdahooejkjcjiaaGreatDoor
open Go.Se Go.RowKit Go.Shelf
theorem Qn0 {l:List Ev} (h:l.any (Qzj 300) = false) : ∀ e ∈ l,e.text.size < 1000000000000 := fun e he => by
 have := (List.any_eq_false.1 h) e he
 simp [Qzj] at this
 omega
def shE (m:Int) (e:Ev) : Ev := { e with at_ := e.at_ + m }
def shf (m:Int) (l:List Ev) : List Ev := (l.map (shE m)).filter Xa
theorem Q4d (m:Int) (l:List Ev) (k:Nat) (h:k < l.length) : shf m (l.take (k + 1)) = shf m (l.take k) ++ if Xa (shE m l[k]) = true then [shE m l[k]] else [] := by
 unfold shf
 rw [List.take_succ_eq_append_getElem h,List.map_append,List.filter_append]
 congr 1
 simp only [List.map_cons,List.map_nil]
 by_cases hq : Xa (shE m l[k]) = true
 · rw [if_pos hq,List.filter_cons_of_pos hq]; rfl
 · rw [if_neg hq,List.filter_cons_of_neg hq]; rfl
theorem Q6h (m:Int) (l:List Ev) : (shf m l).length ≤ l.length := by
 unfold shf
 refine Nat.le_trans (List.length_filter_le _ _) ?_
 rw [List.length_map]
 exact Nat.le_refl _
theorem Q4c {m:Int} {l:List Ev} (hl:∀ x ∈ l,Xa x = true) (h:1 ≤ m) : (∀ x ∈ l ++ shf m l,Xa x = true) ∧ X0 (l ++ shf m l) = X0 l := by
 have hM : ∀ x ∈ shf m l,Xa x = true := fun x hx => (List.mem_filter.1 hx).2
 refine ⟨fun x hx => (List.mem_append.1 hx).elim (hl x) (hM x),Qw0 hl hM fun y hy => ?_⟩
 obtain ⟨x,hx,rfl⟩ := List.mem_map.1 (List.mem_filter.1 hy).1
 exact ⟨x,hx,rfl,by show x.at_ < x.at_ + m; omega⟩
def Q6e (c:Cfg) (l:List Ev) (m:Int) : Bool := (((((decide ((24:Int) < l.length)) || l.any (Qzj 300)) || !l.all Xa) || !Qj2 c) || decide (m < 1)) || decide ((1000:Int) < m)
theorem Q37 {c:Cfg} {l:List Ev} {m:Int} (h:Q6e c l m = false) : l.length ≤ 24 ∧ (∀ e ∈ l,Xa e = true) ∧ Qj2 c = true ∧ (1 ≤ m ∧ m ≤ 1000) := by
 unfold Q6e at h
 simp only [Bool.or_eq_false_iff,Bool.not_eq_false',decide_eq_false_iff_not,List.all_eq_true] at h
 obtain ⟨⟨⟨⟨⟨h1,h2⟩,h3⟩,h4⟩,h5⟩,h6⟩ := h
 exact ⟨by omega,h3,h4,by omega,by omega⟩
theorem Qck {w:World} {T:Nat → Prop} {p:Nat} {c:Cfg} {z:List Ev} (h:WT w T p c z) (hg:Gl w) (hcf:Qj2 c = true) (hz:z.length < 1000) (hT10:∀ k,T k → 10 ≤ k) (now:Int) :
 Cal Tryz.prog 25 [.pointer (some ⟨p,0,none⟩),.int .i64 now] w fun r w' => ∃ T' : Nat → Prop,r = .string (Qsf c z (Qe4 now)) ∧ WT w' T' p c z ∧ (∀ k,T' k → T k ∨ w.heap.size ≤ k) ∧ Mod T w w' :=
 (Qs2 h hg hcf hz hT10 now).mono fun _ _ ⟨h1,T',h2,h3,h4⟩ => ⟨T',h1,h2,h3,h4⟩
set_option maxHeartbeats 8000000 in
theorem worldRows_spec (c:Cfg) (l:List Ev) (A:Option Addr) (cap:Nat) (m now:Int) (w:World) (hg0:Gl w) (hs:SlE w A l) :
 Cal Tryz.prog 5 [Q20 c,.slice A l.length cap,.int .i64 m,.int .i64 now] w fun r w' => r = .bool true ∧ Ext w w' := by
 have hsz := hg0.size
 refine Fi Tryz.func5 rfl _ rfl rfl ?_;conv=>whnf
 intro b5 w1 hn1; (conv=>whnf);repeat(refine Sg ?_;(conv=>whnf))
 have g5 : At w1 b5 23 (Qiw c) := hn1.At
 have hx := hn1.ext
 clear hn1
 refine (Qhq w1 (hg0.ext hx)).mono ?_
 rintro _ w2 ⟨rfl,hx2⟩
 replace g5 := g5.ext hx2
 replace hx := hx.trans hx2
 clear hx2
 (conv=>whnf);repeat(refine Sg ?_;(conv=>whnf))
 constructor
 · intro h; simp at h
 intro _
 (conv=>whnf);repeat(refine Sg ?_;(conv=>whnf))
 refine ⟨Unit,fun _ => (.bool (l.any (Qzj 300))),fun _ w' => Ext w2 w',(),fun hg => ((Qlt l A cap 300 w2 (hs.ext hx) (by simp at hg; omega))).mono fun r w' h => ⟨(),h.1,h.2⟩,?_⟩
 intro _ w3 h2
 have hx3 : Ext w2 w3 := by
  rcases h2 with ⟨_,h⟩ | ⟨_,h⟩
  · exact h
  · rw [h]; exact Ext.refl _
 clear h2
 conv=>whnf
 replace g5 := g5.ext hx3
 replace hx := hx.trans hx3
 refine ⟨Unit,fun _ => (.bool (l.all Xa)),fun _ w' => Ext w3 w',(),fun hg => ((Qnx l A cap w3 (hs.ext hx) (by have := (Bool.or_eq_false_iff.1 hg).1; simp at this; omega) (Qn0 (Bool.or_eq_false_iff.1 hg).2))).mono fun r w' h => ⟨(),h.1,h.2⟩,?_⟩
 intro _ w4 h2
 have hx4 : Ext w3 w4 := by
  rcases h2 with ⟨_,h⟩ | ⟨_,h⟩
  · exact h
  · rw [h]; exact Ext.refl _
 clear h2
 conv=>whnf
 replace g5 := g5.ext hx4
 replace hx := hx.trans hx4
 refine ⟨Qiw c,fun _ => ⟨rfl,g5.all⟩,?_⟩;conv=>whnf
 refine ⟨Unit,fun _ => (.bool (Qj2 c)),fun _ w' => Ext w4 w',(),fun hg => ((Qf9 c w4)).mono fun r w' h => ⟨(),h.1,h.2⟩,?_⟩
 intro _ w5 h2
 have hx5 : Ext w4 w5 := by
  rcases h2 with ⟨_,h⟩ | ⟨_,h⟩
  · exact h
  · rw [h]; exact Ext.refl _
 clear h2
 conv=>whnf
 replace g5 := g5.ext hx5
 replace hx := hx.trans hx5
 clear hx3 hx4 hx5
 (conv=>whnf);repeat(refine Sg ?_;(conv=>whnf))
 constructor
 · intro _
   (conv=>whnf);repeat(refine Sg ?_;(conv=>whnf))
   exact ⟨rfl,hx⟩
 intro hq
 have hq : Q6e c l m = false := hq
 obtain ⟨hl,hm,hcf,hm1,hm2⟩ := Q37 hq
 clear hq
 (conv=>whnf);repeat(refine Sg ?_;(conv=>whnf))
 intro b6 w6 hn6; (conv=>whnf);repeat(refine Sg ?_;(conv=>whnf))
 have o6 : Own evC 8 34 w5.heap.size w6 (some ⟨b6,0,none⟩) 0 [] := Qat.made hn6 (Nat.le_refl _)
 refine Qu Qat (l := []) (news := l) rfl o6 rfl (hs.ext (hx.trans hn6.ext)) (by simp; omega) hn6.ext.size fun A7 c7 w7 hown7 hg7 hA7 => ?_
 have hx7 := Qn hn6.ext hg7 (Xg o6)
 rw [List.nil_append] at hown7 ⊢
 clear hA7 hg7 o6 hn6
 (conv=>whnf);repeat(refine Sg ?_;(conv=>whnf))
 refine Qe Qa (fun (x:Nat × Option Addr × Nat × List Ev) w' => x.1 ≤ l.length ∧ x.2.2.2 = l ++ shf m (l.take x.1) ∧ Own evC 8 34 w5.heap.size w' x.2.1 x.2.2.1 x.2.2.2 ∧ Ext w5 w')
  (fun | (k,B,d,L) => [(1,.slice A l.length cap),(2,.int .i64 m),(3,.int .i64 now),(4,.pointer (some ⟨b5,0,none⟩)),(9,.slice B L.length d),(10,.int .i64 (k:Nat))]) (fun x => l.length - x.1) (0,A7,c7,l) ⟨Nat.zero_le _,by simp [shf],hown7,hx7⟩ ⟨rfl,rfl,rfl,rfl,rfl,rfl,trivial⟩ ?_
 clear hown7 hx7
 rintro ⟨k,B,d,L⟩ wa ⟨hk,hL,hown,hxa⟩
 simp only at hk hL hown hxa
 have hLl : L.length ≤ 48 := by
  rw [hL,List.length_append]
  have h1 := Q6h m (l.take k)
  rw [List.length_take] at h1
  omega
 conv=>whnf
 constructor
 · intro hlt
   have hlt : k < l.length := by simpa using hlt
   obtain ⟨a,rfl,hc8⟩ := (hs.ext (hx.trans hxa)).get hlt
   have hst := Q4d m l k hlt
   have hme := hm l[k] (List.getElem_mem hlt)
   generalize l[k] = e at hc8 hst hme
   have hat := Qqx hme
   (conv=>whnf);repeat(refine Sg ?_;(conv=>whnf))
   refine ⟨a,⟨rfl,by omega,by omega⟩,?_⟩; (conv=>whnf);repeat(refine Sg ?_;(conv=>whnf))
   refine ⟨evC e,⟨rfl,hc8⟩,?_⟩; (conv=>whnf);repeat(refine Sg ?_;(conv=>whnf))
   intro b8 w8 hn8; (conv=>whnf);repeat(refine Sg ?_;(conv=>whnf))
   refine Qh Qa (e := ty34) (v := evV e) rfl hn8.At rfl rfl rfl (Qc8 e) fun w9 h9 ho9 => ?_
   have h9 : At w9 b8 34 (evC e) := h9
   (conv=>whnf);repeat(refine Sg ?_;(conv=>whnf))
   refine ⟨.int .i64 e.at_,h9.one rfl,?_⟩; (conv=>whnf);repeat(refine Sg ?_;(conv=>whnf))
   refine ⟨e.at_ + m,wrap_eq rfl ⟨by omega,by omega⟩,?_⟩; (conv=>whnf);repeat(refine Sg ?_;(conv=>whnf))
   refine Qh Qa (e := ty3) rfl h9 rfl rfl rfl (by simp [Qm,Value.oneCell']) fun w10 h10 ho10 => ?_
   have h10 : At w10 b8 34 (evC (shE m e)) := h10
   have hxb : Ext wa w10 := ho10.ext (ho9.ext hn8.ext (by rw [hn8.block]; exact Nat.le_refl _)) (by rw [hn8.block]; exact Nat.le_refl _)
   clear ho10 ho9 hn8 h9
   have ht2 : (shE m e).text.size < 1000000000000 := by show e.text.size < _; exact Nat.lt_trans (Qb6 hme) (by decide)
   generalize shE m e = e2 at h10 hst ht2
   (conv=>whnf);repeat(refine Sg ?_;(conv=>whnf))
   refine ⟨evC e2,⟨rfl,h10.all⟩,?_⟩; (conv=>whnf);repeat(refine Sg ?_;(conv=>whnf))
   refine (Qrf e2 w10 ht2).mono ?_
   rintro _ w11 ⟨rfl,hx11⟩
   replace h10 := h10.ext hx11
   replace hxb := hxb.trans hx11
   clear hx11
   (conv=>whnf);repeat(refine Sg ?_;(conv=>whnf))
   constructor
   · intro hq
     have hq : Xa e2 = true := hq
     rw [if_pos hq] at hst
     (conv=>whnf);repeat(refine Sg ?_;(conv=>whnf))
     refine ⟨evC e2,⟨rfl,h10.all⟩,?_⟩; (conv=>whnf);repeat(refine Sg ?_;(conv=>whnf))
     intro bb wb hnb; (conv=>whnf);repeat(refine Sg ?_;(conv=>whnf))
     refine Qu Qat (l := L) (news := [e2]) rfl ((hown.ext hxb).ext hnb.ext) rfl (Qat.new1 (x := e2) hnb) (by simp; omega) ((hxa.trans hxb).trans hnb.ext).size fun A6 c6 w6 hown6 hg6 hA6 => ?_
     have hx6 := Qn ((hxa.trans hxb).trans hnb.ext) hg6 (Xg ((hown.ext hxb).ext hnb.ext))
     have hL2 : L ++ [e2] = l ++ shf m (l.take (k + 1)) := by rw [hL,hst,List.append_assoc]
     generalize L ++ [e2] = L2 at hown6 hL2 ⊢
     (conv=>whnf);repeat(refine Sg ?_;(conv=>whnf))
     refine ⟨_,wrap_succ (by omega),?_⟩; (conv=>whnf);repeat(refine Sg ?_;(conv=>whnf))
     exact ⟨(k + 1,A6,c6,L2),by simp only; omega,⟨by simp only; omega,hL2,hown6,hx6⟩,⟨rfl,rfl,rfl,rfl,rfl,rfl,trivial⟩⟩
   · intro hq
     have hq : Xa e2 = false := hq
     rw [if_neg (by rw [hq]; decide),List.append_nil] at hst
     (conv=>whnf);repeat(refine Sg ?_;(conv=>whnf))
     refine ⟨_,wrap_succ (by omega),?_⟩; (conv=>whnf);repeat(refine Sg ?_;(conv=>whnf))
     exact ⟨(k + 1,B,d,L),by simp only; omega,⟨by simp only; omega,by simp only; rw [hst]; exact hL,hown.ext hxb,hxa.trans hxb⟩,⟨rfl,rfl,rfl,rfl,rfl,rfl,trivial⟩⟩
 intro hge
 have hge : l.length ≤ k := by simpa using hge
 rw [List.take_of_length_le hge] at hL
 obtain ⟨hLm,hLa⟩ := Q4c hm hm1
 rw [← hL] at hLm hLa
 have hsL := hown.sl Q3
 replace g5 := g5.ext hxa
 replace hx := hx.trans hxa
 clear hown hL hge hxa hk
 (conv=>whnf);repeat(refine Sg ?_;(conv=>whnf))
 refine ⟨Qiw c,⟨rfl,g5.all⟩,?_⟩; (conv=>whnf);repeat(refine Sg ?_;(conv=>whnf))
 refine (Qas c hcf l A cap wa (hg0.ext hx) (hs.ext hx) (by omega) hm).mono ?_
 rintro _ u1 ⟨pa,rfl,hWa,hx1⟩
 obtain ⟨Ta,hTa,hTa0⟩ := hWa.t
 have hTw : ∀ k,Ta k → w.heap.size ≤ k := fun k hk => Nat.le_trans hx.size (hTa0 k hk)
 replace g5 := g5.ext hx1
 replace hx := hx.trans hx1
 clear hWa
 (conv=>whnf);repeat(refine Sg ?_;(conv=>whnf))
 refine ⟨Qiw c,⟨rfl,g5.all⟩,?_⟩; (conv=>whnf);repeat(refine Sg ?_;(conv=>whnf))
 refine (Qas c hcf L B d u1 (hg0.ext hx) (hsL.ext hx1) (by omega) hLm).mono ?_
 rw [hLa]
 rintro _ u2 ⟨pb,rfl,hWb,hx2⟩
 obtain ⟨Tb,hTb,hTb0⟩ := hWb.t
 have dab : ∀ k,Tb k → ¬ Ta k := fun k h1 h2 => by have := hTa.lt k h2; have := hTb0 k h1; omega
 have hTbw : ∀ k,Tb k → w.heap.size ≤ k := fun k hk => Nat.le_trans hx.size (hTb0 k hk)
 replace hTa := hTa.ext hx2
 replace g5 := g5.ext hx2
 replace hx := hx.trans hx2
 clear hWb hx2 hx1 hTa0 hTb0 hsL
 have hzl := Qht l
 have hzm : ∀ e ∈ X0 l,Xa e = true := fun e he => hm e (Qcw he)
 have hzz := Qp1 hm
 generalize X0 l = z at hTa hTb hzl hzm hzz
 (conv=>whnf);repeat(refine Sg ?_;(conv=>whnf))
 constructor
 · intro h; simp at h
 intro _
 (conv=>whnf);repeat(refine Sg ?_;(conv=>whnf))
 refine Dr .ext [0,1,2,3,4,5,6,7,8] [] ?_;conv=>whnf
 have hxd : Ext u2 u2.drew := (Ext.refl u2).drew
 replace g5 := g5.ext hxd
 replace hTa := hTa.ext hxd
 replace hTb := hTb.ext hxd
 replace hx := hx.trans hxd
 generalize u2.drew = u3 at g5 hTa hTb hx ⊢
 clear hxd
 refine ⟨Qiw c,⟨rfl,g5.all⟩,?_⟩;conv=>whnf
 refine (Qkz hTa).mono ?_
 rintro _ u4 ⟨A4,c4,rfl,hown4,_,hx4⟩
 refine ⟨hx4,?_⟩;conv=>whnf
 have hs4 := hown4.sl Q3
 refine (Qas c hcf z A4 c4 u4 (hg0.ext (hx.trans hx4)) hs4 (by omega) hzm).mono ?_
 rw [hzz]
 rintro _ u5 ⟨pd,rfl,hWd,hx5⟩
 obtain ⟨Td,hTd,hTd0⟩ := hWd.t
 refine ⟨hx5,?_⟩; (conv=>whnf);repeat(refine Sg ?_;(conv=>whnf))
 have dad : ∀ k,Td k → ¬ Ta k ∧ ¬ Tb k := fun k h1 => by
  have := hTd0 k h1; have := hx4.size
  exact ⟨fun h2 => by have := hTa.lt k h2; omega,fun h2 => by have := hTb.lt k h2; omega⟩
 have hTdw : ∀ k,Td k → w.heap.size ≤ k := fun k hk => Nat.le_trans (hx.trans hx4).size (hTd0 k hk)
 replace hTa := (hTa.ext hx4).ext hx5
 replace hTb := (hTb.ext hx4).ext hx5
 replace hx := (hx.trans hx4).trans hx5
 clear hWd hTd0 hs4 hown4 g5 hx4 hx5
 refine ⟨(Nat → Prop),(fun _ => .string (Qsf c z (Qe4 now))),(fun T' w' => WT w' T' pb c z ∧ (∀ k,T' k → Tb k ∨ u5.heap.size ≤ k) ∧ Mod Tb u5 w'),(fun _ => False),fun _ => (Qck hTb (hg0.ext hx) hcf (by omega) (fun k hk => Nat.le_trans hsz (hTbw k hk)) now),?_⟩
 rintro iu6 u6 hqu6
 replace hqu6 := hqu6.elim (fun h => h.2) fun h => (h.1 (And.intro (by first | rfl | simp | decide) trivial)).elim
 obtain ⟨_,_,hM6⟩ := hqu6
 replace hTa := hTa.keep fun k hk => hM6.block k (hTa.lt k hk) fun h => dab k h hk
 replace hTd := hTd.keep fun k hk => hM6.block k (hTd.lt k hk) (dad k hk).2
 replace hx := Qz hx hM6 hTbw
 (conv=>whnf);repeat(refine Sg ?_;(conv=>whnf))
 refine ⟨(Nat → Prop),(fun _ => .string (Qsf c z (Qe4 now))),(fun T' w' => WT w' T' pa c z ∧ (∀ k,T' k → Ta k ∨ u6.heap.size ≤ k) ∧ Mod Ta u6 w'),(fun _ => False),fun _ => (Qck hTa (hg0.ext hx) hcf (by omega) (fun k hk => Nat.le_trans hsz (hTw k hk)) now),?_⟩
 rintro iu7 u7 hqu7
 replace hqu7 := hqu7.elim (fun h => h.2) fun h => (h.1 (And.intro (by first | rfl | simp | decide) trivial)).elim
 obtain ⟨hTa7,hl7,hM7⟩ := hqu7
 have hd7 : ∀ k,iu7 k → ¬ Td k := fun k h1 h2 => by
  have := hTd.lt k h2
  rcases hl7 k h1 with h | h
  · exact (dad k h2).1 h
  · omega
 have hw7 : ∀ k,iu7 k → w.heap.size ≤ k := fun k h1 => (hl7 k h1).elim (hTw k) fun h => Nat.le_trans hx.size h
 replace hTd := hTd.keep fun k hk => hM7.block k (hTd.lt k hk) (dad k hk).1
 replace hx := Qz hx hM7 hTw
 (conv=>whnf);repeat(refine Sg ?_;(conv=>whnf))
 refine ⟨(Nat → Prop),(fun _ => .string (Qsf c z (Qe4 now))),(fun T' w' => WT w' T' pd c z ∧ (∀ k,T' k → Td k ∨ u7.heap.size ≤ k) ∧ Mod Td u7 w'),(fun _ => False),fun _ => (Qck hTd (hg0.ext hx) hcf (by omega) (fun k hk => Nat.le_trans hsz (hTdw k hk)) now),?_⟩
 rintro iu8 u8 hqu8
 replace hqu8 := hqu8.elim (fun h => h.2) fun h => (h.1 (And.intro (by first | rfl | simp | decide) trivial)).elim
 obtain ⟨_,_,hM8⟩ := hqu8
 replace hTa7 := hTa7.keep fun k hk => hM8.block k (hTa7.lt k hk) (hd7 k hk)
 replace hx := Qz hx hM8 hTdw
 (conv=>whnf);repeat(refine Sg ?_;(conv=>whnf))
 refine ⟨(Nat → Prop),(fun _ => .string (Qsf c z (Qe4 now))),(fun T' w' => WT w' T' pa c z ∧ (∀ k,T' k → iu7 k ∨ u8.heap.size ≤ k) ∧ Mod iu7 u8 w'),(fun _ => False),fun _ => (Qck hTa7 (hg0.ext hx) hcf (by omega) (fun k hk => Nat.le_trans hsz (hw7 k hk)) now),?_⟩
 rintro iu9 u9 hqu9
 replace hqu9 := hqu9.elim (fun h => h.2) fun h => (h.1 (And.intro (by first | rfl | simp | decide) trivial)).elim
 obtain ⟨_,_,hM9⟩ := hqu9
 replace hx := Qz hx hM9 hw7
 (conv=>whnf);repeat(refine Sg ?_;(conv=>whnf))
 exact ⟨by simp,hx⟩
end Go.Proofs.YtdahooejkjcjiaaGreatDoor
