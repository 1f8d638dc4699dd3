import Derived.Test.YteabekcdcphjpaaGreatDoorHCp9
import Derived.Test.YteabekcdcphjpaaGreatDoorGZC
import Derived.Test.YteabekcdcphjpaaGreatDoorGXC
import Derived.Test.YteabekcdcphjpaaGreatDoorGZA
import Derived.Test.YteabekcdcphjpaaGreatDoorHTsm
/- The law ShardWorlds: the walk. -/
set_option linter.unusedVariables false
set_option linter.unusedSimpArgs false
namespace Go.Proofs.YteabekcdcphjpaaGreatDoor
open Go.Se Go.RowKit Go.Shelf
theorem Q53 {α:Type} {enc:α → List Value} {sz:Nat} {te:TypeId} {base:Nat} {w:World} {A:Option Addr} {c:Nat} {l:List α} (h:Own enc sz te base w A c l) : l.length ≤ c := by
 rcases h.2 with ⟨h1,h2⟩ | ⟨g,cap,cur,h1,_,_,h4,_⟩
 · omega
 · cases h1; exact h4
theorem Qkw (l:List Ev) (n:Nat) (A:Nat → Option Addr) (c:Nat → Nat) : (Qgu l n A c).length = n := by simp [Qgu]
theorem Qqa {l:List Ev} {n:Nat} {A:Nat → Option Addr} {c:Nat → Nat} {x:Prt} (h:x ∈ Qgu l n A c) : ∃ k,k < n ∧ x = (Qbn l n k,(A k,c k)) := by
 unfold Qgu at h
 obtain ⟨k,hk,rfl⟩ := List.mem_map.1 h
 exact ⟨k,List.mem_range.1 hk,rfl⟩
theorem Q8t {base:Nat} {w:World} {pb n:Nat} {A:Nat → Option Addr} {c:Nat → Nat} {l:List Ev} (h:PL base w pb n A c fun k => Qbn l n k) : Sl paC 1 w (some ⟨pb,0,none⟩) (Qgu l n A c) := fun i x hi => by
 have hlt := (List.getElem?_eq_some_iff.1 hi).1
 rw [Qkw] at hlt
 have hx : x = (Qbn l n i,(A i,c i)) := by
  unfold Qgu at hi
  rw [List.getElem?_map,List.getElem?_range hlt] at hi
  simpa using hi.symm
 subst hx
 refine ⟨_,rfl,fun j v hj => ?_⟩
 cases j with
 | zero =>
   have hv : Value.slice (A i) (Qbn l n i).length (c i) = v := by simpa [paC] using hj
   rw [← hv,Xf,Nat.add_zero]
   exact h.cell hlt
 | succ j => simp [paC] at hj
def Qwc (c:Cfg) (n:Int) (l:List Ev) (al:Bool) (item other:ByteArray) (now:Int) : Bool := (((((((((decide (n < 1) || decide (4 < n)) || decide ((24:Int) < l.length)) || l.any (Q65 300)) || !l.all Xj) || !al) || !Qjv c) || decide ((100:Int) < item.size)) || decide ((100:Int) < other.size)) || decide (now < 0)) || decide (1099511627776 < now)
theorem Q0t {c:Cfg} {n:Int} {l:List Ev} {al:Bool} {item other:ByteArray} {now:Int} (h:Qwc c n l al item other now = false) : (1 ≤ n ∧ n ≤ 4) ∧ l.length ≤ 24 ∧ l.any (Q65 300) = false ∧ (∀ e ∈ l,Xj e = true) ∧ al = true ∧ Qjv c = true ∧ (0 ≤ now ∧ now ≤ 1099511627776) := by
 unfold Qwc at h
 simp only [Bool.or_eq_false_iff,Bool.not_eq_false',decide_eq_false_iff_not,List.all_eq_true] at h
 obtain ⟨⟨⟨⟨⟨⟨⟨⟨⟨⟨h1,h2⟩,h3⟩,h4⟩,h5⟩,h6⟩,h7⟩,h8⟩,h9⟩,h10⟩,h11⟩ := h
 exact ⟨⟨by omega,by omega⟩,by omega,h4,h5,h6,h7,by omega,by omega⟩
theorem Qrh {l:List Ev} (h:l.any (Q65 300) = false) : ∀ e ∈ l,e.text.size ≤ 300 ∧ e.person.size ≤ 300 := fun e he => by
 have := (List.any_eq_false.1 h) e he
 simp [Q65] at this
 exact ⟨by omega,by omega⟩
theorem Q1y {w:World} {T:Nat → Prop} {p:Nat} {c:Cfg} {z:List Ev} (h:WT w T p c z) (hg:Gl w) (hcf:Qjv c = true) (hz:z.length < 1000) (hT10:∀ k,T k → 10 ≤ k) (now:Int) :
 Cal Tryz.prog 10 [.pointer (some ⟨p,0,none⟩),.int .i64 now] w fun r w' => ∃ T' : Nat → Prop,r = .string (Q5d c z (Qgt now)) ∧ WT w' T' p c z ∧ (∀ k,T' k → T k ∨ w.heap.size ≤ k) ∧ Mod T w w' :=
 (Quh h hg hcf hz hT10 now).mono fun _ _ ⟨h1,T',h2,h3,h4⟩ => ⟨T',h1,h2,h3,h4⟩
theorem Qzr {w:World} {T:Nat → Prop} {p:Nat} {c:Cfg} {z:List Ev} (h:WT w T p c z) (hok:Xat c z) (X:Nat → Prop) (hX:∀ k,X k → k < w.heap.size ∧ ¬ T k) :
 Cal Tryz.prog 28 [.pointer (some ⟨p,0,none⟩)] w fun r w' => ∃ (i:Nat × (Nat → Prop) × (Nat → Prop)),r = .pointer (some ⟨i.1,0,none⟩) ∧ WT w' i.2.1 p c z ∧ X3 w' i.2.2 i.1 (Qas c z) ∧ (∀ k,X k → w'.heap[k]? = w.heap[k]? ∧ k < w'.heap.size ∧ ¬ i.2.1 k) ∧ (∀ k,i.2.1 k → T k ∨ w.heap.size ≤ k) ∧ Mod T w w' :=
 (Qhq h hok).mono fun r w' ⟨pp,T',h1,h2,h3,h4,h5,h6,h7⟩ => ⟨(pp,T',fun k => k = pp ∨ T' k),h1,h2,h7,fun k hk => ⟨h4.block k (hX k hk).1 (hX k hk).2,Nat.lt_of_lt_of_le (hX k hk).1 h4.size,fun ht => by
  rcases h3 k ht with h | h
  · exact (hX k hk).2 h
  · have := (hX k hk).1; omega⟩,h3,h4⟩
theorem X3.stay {w w1:World} {S:Nat → Prop} {p:Nat} {Ss:List Sn} (h:X3 w S p Ss) (hk:∀ k,S k → w1.heap[k]? = w.heap[k]?) : X3 w1 S p Ss := h.keep fun k _ hs => ⟨hk k hs,hs⟩
structure Qwd (w0 wE w:World) (X S1:Nat → Prop) (pt bw:Nat) (c:Cfg) (z:List Ev) (Tw:Nat → Prop) : Prop where
 wt : WT w Tw bw c z
 pr : X3 w S1 pt (Qas c z)
 xs : ∀ k,X k → k < w.heap.size ∧ ¬ Tw k
 sx : ∀ k,S1 k → X k
 low : ∀ k,Tw k → w0.heap.size ≤ k
 ex : Ext w0 w
 fr : ∀ k,X k → w.heap[k]? = wE.heap[k]?
section
variable {w0 wE w w1:World} {X S1:Nat → Prop} {pt bw:Nat} {c:Cfg} {z:List Ev} {Tw:Nat → Prop}
theorem Qwd.ext (h:Qwd w0 wE w X S1 pt bw c z Tw) (hx:Ext w w1) : Qwd w0 wE w1 X S1 pt bw c z Tw :=
 ⟨h.wt.ext hx,h.pr.ext hx,fun k hk => ⟨Nat.lt_of_lt_of_le (h.xs k hk).1 hx.size,(h.xs k hk).2⟩,h.sx,h.low,h.ex.trans hx,fun k hk => (hx.block k (h.xs k hk).1).trans (h.fr k hk)⟩
theorem Qwd.step (h:Qwd w0 wE w X S1 pt bw c z Tw) (hok:Xat c z) : Cal Tryz.prog 28 [.pointer (some ⟨bw,0,none⟩)] w fun r w' => ∃ (i:Nat × (Nat → Prop) × (Nat → Prop)),r = .pointer (some ⟨i.1,0,none⟩) ∧ Qwd w0 wE w' X S1 pt bw c z i.2.1 ∧ X3 w' i.2.2 i.1 (Qas c z) ∧ Mod Tw w w' :=
 (Qzr h.wt hok X h.xs).mono fun r w' ⟨i,h1,h2,h3,h4,h5,h6⟩ => ⟨i,h1,⟨h2,h.pr.stay fun k hk => (h4 k (h.sx k hk)).1,fun k hk => (h4 k hk).2,h.sx,fun k hk => by
  rcases h5 k hk with h7 | h7
  · exact h.low k h7
  · have := h.ex.size; omega,X9 h.ex h6 h.low,fun k hk => (h4 k hk).1.trans (h.fr k hk)⟩,h3,h6⟩
end
theorem Ql0 : Qar ([] : List Sn) = [] := List.eq_nil_iff_forall_not_mem.2 fun x hx => by
 unfold Qar at hx
 rw [Xz] at hx
 cases hx
set_option maxHeartbeats 16000000 in
theorem shardWorlds_spec (c:Cfg) (n:Int) (l:List Ev) (item other:ByteArray) (now:Int) (A:Option Addr) (cap:Nat) (w:World) (hg0:Gl w) (hs:SlE w A l) :
 Cal Tryz.prog 4 [Q02 c,.int .i64 n,.slice A l.length cap,.string item,.string other,.int .i64 now] w fun r w' => r = .bool true ∧ Ext w w' := by
 have hsz := hg0.size
 refine Fi Tryz.func4 rfl _ rfl rfl ?_;conv=>whnf
 intro b6 w1 hn1; (conv=>whnf);repeat(refine Sg ?_;(conv=>whnf))
 have g6 : At w1 b6 23 (Qni c) := hn1.At
 have hx := hn1.ext
 clear hn1
 refine (Qze w1).mono ?_
 rintro _ w2 ⟨rfl,hx2⟩
 replace g6 := g6.ext hx2
 replace hx := hx.trans hx2
 clear hx2
 (conv=>whnf);repeat(refine Sg ?_;(conv=>whnf))
 constructor
 · intro h; simp at h
 intro _
 (conv=>whnf);repeat(refine Sg ?_;(conv=>whnf))
 refine ⟨Unit,fun _ => (.bool (l.any (Q65 300))),fun _ w' => Ext w2 w',(),fun hg => ((Q34 l A cap 300 w2 (hs.ext hx) (by simp at hg; omega))).mono fun r w' h => ⟨(),h.1,h.2⟩,?_⟩
 intro _ w3 h2
 have hx3 : Ext w2 w3 := by
  rcases h2 with ⟨_,h⟩ | ⟨_,h⟩
  · exact h
  · rw [h]; exact Ext.refl _
 clear h2
 conv=>whnf
 replace hx := hx.trans hx3
 refine ⟨Unit,fun _ => (.bool (l.all Xj)),fun _ w' => Ext w3 w',(),fun hg => ((Q40 l A cap w3 (hs.ext hx) (by have := (Bool.or_eq_false_iff.1 (Bool.or_eq_false_iff.1 hg).1).2; simp at this; omega) (fun e he => by have := (Qrh (Bool.or_eq_false_iff.1 hg).2 e he).1; omega))).mono fun r w' h => ⟨(),h.1,h.2⟩,?_⟩
 intro _ w4 h2
 have hx4 : Ext w3 w4 := by
  rcases h2 with ⟨_,h⟩ | ⟨_,h⟩
  · exact h
  · rw [h]; exact Ext.refl _
 clear h2
 conv=>whnf
 replace hx := hx.trans hx4
 refine ⟨Bool,fun b => .bool b,fun b w' => (b = true → Qfk l) ∧ Ext w4 w',false,fun hg => (Qyg l A cap w4 (hs.ext hx) (by have := (Bool.or_eq_false_iff.1 (Bool.or_eq_false_iff.1 (Bool.or_eq_false_iff.1 hg).1).1).2; simp at this; omega)),?_⟩
 intro al w5 hqa
 have hx5 : Ext w4 w5 := by
  rcases hqa with ⟨_,h⟩ | ⟨_,h⟩
  · exact h.2
  · rw [h]; exact Ext.refl _
 replace hx := hx.trans hx5
 replace g6 := ((g6.ext hx3).ext hx4).ext hx5
 conv=>whnf
 refine ⟨Qni c,fun _ => ⟨rfl,g6.all⟩,?_⟩;conv=>whnf
 refine ⟨Unit,fun _ => (.bool (Qjv c)),fun _ w' => Ext w5 w',(),fun hg => ((Qsk c w5)).mono fun r w' h => ⟨(),h.1,h.2⟩,?_⟩
 intro _ w6 h2
 have hx6 : Ext w5 w6 := by
  rcases h2 with ⟨_,h⟩ | ⟨_,h⟩
  · exact h
  · rw [h]; exact Ext.refl _
 clear h2
 conv=>whnf
 replace g6 := g6.ext hx6
 replace hx := hx.trans hx6
 clear hx3 hx4 hx5 hx6
 (conv=>whnf);repeat(refine Sg ?_;(conv=>whnf))
 constructor
 · intro _
   (conv=>whnf);repeat(refine Sg ?_;(conv=>whnf))
   exact ⟨rfl,hx⟩
 intro hq
 have hq : Qwc c n l al item other now = false := hq
 obtain ⟨hn,hl,hbig,hm,hal,hcf,hnow⟩ := Q0t hq
 have hA : Qfk l := by
  rcases hqa with ⟨_,h⟩ | ⟨h,_⟩
  · exact h.1 hal
  · refine (h ⟨?_,trivial⟩).elim
    have e5 : l.all Xj = true := List.all_eq_true.2 hm
    simp only [Bool.or_eq_false_iff,Bool.not_eq_false',decide_eq_false_iff_not]
    exact ⟨⟨⟨⟨by omega,by omega⟩,by omega⟩,hbig⟩,e5⟩
 clear hq hqa
 have htx := Qrh hbig
 obtain ⟨m,rfl⟩ : ∃ m : Nat,n = m := ⟨n.toNat,by omega⟩
 have hm1 : 1 ≤ m ∧ m ≤ 4 := by omega
 have hlall : l.all Xj = true := List.all_eq_true.2 hm
 (conv=>whnf);repeat(refine Sg ?_;(conv=>whnf))
 refine Dr .ext [0,1,2,3,4,5,6,7,8,9] [] ?_;conv=>whnf
 have hxd : Ext w6 w6.drew := (Ext.refl w6).drew
 replace g6 := g6.ext hxd
 replace hx := hx.trans hxd
 generalize w6.drew = w7 at g6 hx ⊢
 clear hxd
 refine ⟨Qni c,⟨rfl,g6.all⟩,?_⟩; (conv=>whnf);repeat(refine Sg ?_;(conv=>whnf))
 refine (Qs1 l A cap m w7 hm1.1 (by omega) (hs.ext hx) (by omega) fun e he => by have := (htx e he).2; omega).mono ?_
 rintro _ w8 ⟨pb,Ap,cp,rfl,hpl,hx8⟩
 refine ⟨hx8,?_⟩; (conv=>whnf);repeat(refine Sg ?_;(conv=>whnf))
 replace g6 := g6.ext hx8
 replace hx := hx.trans hx8
 have hz8 := hx.size
 have hpm : ∀ x ∈ Qgu l m Ap cp,∀ e ∈ x.1,e ∈ l := fun x hx' e he => by
  obtain ⟨k,_,rfl⟩ := Qqa hx'
  exact (List.mem_filter.1 he).1
 have hpn : ∀ x ∈ Qgu l m Ap cp,x.1.length ≤ 24 := fun x hx' => by
  obtain ⟨k,_,rfl⟩ := Qqa hx'
  exact Nat.le_trans (List.length_filter_le _ _) hl
 have hcal := Qqi c (Qgu l m Ap cp) (some ⟨pb,0,none⟩) m w8 (hg0.ext hx) (Q8t hpl) (by rw [Qkw]; omega) (fun x hx' => by
  obtain ⟨k,hk,rfl⟩ := Qqa hx'
  exact ⟨(hpl.own k hk).sl Qb1,Nat.lt_of_le_of_lt (hpn _ hx') (by decide),fun e he => by have := (htx e (hpm _ hx' e he)).1; omega⟩)
 rw [Qkw] at hcal
 refine hcal.mono ?_
 clear hcal
 rintro r9 w9 ⟨hx9,hor⟩
 refine ⟨hx9,?_⟩
 rcases hor with ⟨⟨x,hxm,hxf⟩,_⟩ | ⟨_,W,A',c',rfl,hown,T,hB⟩
 · exfalso
   rw [hcf,Bool.true_and,← Bool.not_eq_true,List.all_eq_true] at hxf
   exact hxf fun e he => hm e (hpm x hxm e he)
 have hz : ∀ x ∈ Qgu l m Ap cp,(Xn x.1).length ≤ 100 := fun x hx' => by
  have := Qkm x.1
  have := hpn x hx'
  omega
 have hPl := Qkw l m Ap cp
 have hap := Q4y (A := Ap) (c := cp) hm hA hm1.1
 have hcp := Q4w (A := Ap) (c := cp) c.width hm hA hm1.1
 have hsp := Q6l (A := Ap) (c := cp) c hm hA hm1.1
 generalize Qgu l m Ap cp = PP at hB hz hPl hap hcp hsp
 replace g6 := g6.ext hx9
 replace hx := hx.trans hx9
 have hWl : W.length = m := hB.len.trans hPl
 have hz9 := hx9.size
 have hA'l : ∀ k,Qhu A' k → k < w9.heap.size := fun k h => by
  obtain ⟨a,ha,rfl⟩ := Option.map_eq_some_iff.1 h
  exact (hown.block ha).2
 have hA'b : ∀ a,A' = some a → Qhu A' a.block := fun a ha => by rw [ha]; rfl
 have hsW := hown.sl Qx9
 have hcW := Q53 hown
 clear hx9 hpl hpm hpn hx8 hown
 (conv=>whnf);repeat(refine Sg ?_;(conv=>whnf))
 refine ⟨Qni c,⟨rfl,g6.all⟩,?_⟩; (conv=>whnf);repeat(refine Sg ?_;(conv=>whnf))
 refine (Qoa c l A cap w9 (hg0.ext hx) (hs.ext hx) (by omega) fun e he => by have := (htx e he).1; omega).mono ?_
 rintro _ wA ⟨pp,e,rfl,hxA,hor⟩
 rcases hor with ⟨hf,_⟩ | ⟨_,rfl,bw,Tw,rfl,hWw,hTw⟩
 · rw [hcf,hlall] at hf; cases hf
 have hzl := Qkm l
 have hmz : ∀ e ∈ Xn l,Xj e = true := fun e he => hm e (Qo5 he)
 generalize Xn l = z at hap hcp hsp hWw hzl hmz
 have hTd : ∀ i k,T i k → ¬ Tw k := fun i k h1 h2 => by
  have h3 := hTw k h2
  have h4 := (hB.low i k h1).2.1
  omega
 replace hB := hB.ext hxA
 replace hsW := hsW.ext hxA
 replace hx := hx.trans hxA
 have hzA := hxA.size
 (conv=>whnf);repeat(refine Sg ?_;(conv=>whnf))
 constructor
 · intro hq
   exfalso
   simp [hWl] at hq
 intro _
 (conv=>whnf);repeat(refine Sg ?_;(conv=>whnf))
 have h0W : 0 < W.length := by omega
 have h0P : 0 < PP.length := by omega
 have hp0 : PP[0]? = some PP[0] := List.getElem?_eq_getElem h0P
 have hw0 : W[0]? = some W[0] := List.getElem?_eq_getElem h0W
 have hz0 := hz _ (List.getElem_mem h0P)
 obtain ⟨a0,hA0,hc0⟩ := hsW.get h0W
 generalize PP[0] = x0 at hp0 hz0
 generalize hW0 : W[0] = p0 at hw0 hc0
 refine ⟨a0,⟨hA0,by omega,by omega⟩,?_⟩; (conv=>whnf);repeat(refine Sg ?_;(conv=>whnf))
 refine ⟨.pointer (some ⟨p0,0,none⟩),Qv hc0,?_⟩; (conv=>whnf);repeat(refine Sg ?_;(conv=>whnf))
 refine (Q1y (hB.wt 0 _ _ hp0 hw0) (hg0.ext hx) hcf (by omega) (fun k h => by have := (hB.low 0 k h).1; omega) now).mono ?_
 rintro _ wB ⟨T1,rfl,hW1,hT1,hMB⟩
 have hzB := hMB.size
 have hB1 := hB.upd hp0 hw0 (by omega) hW1 hT1 (fun k h => by have := hA'l k h; omega) hMB
 have hTB : ∀ i k,(if i = 0 then T1 k else T i k) → k < wB.heap.size := fun i k h => (hB1.low i k h).2.1
 have hTwl := hWw.lt
 have hTd1 : ∀ i k,(if i = 0 then T1 k else T i k) → ¬ Tw k := fun i k h1 h2 => by
  by_cases e : i = 0
  · rw [if_pos e] at h1
    rcases hT1 k h1 with h | h
    · exact hTd 0 k h h2
    · have := hTwl k h2; omega
  · rw [if_neg e] at h1
    exact hTd i k h1 h2
 have hsW1 := Qz1.stay (w1 := wB) hsW fun a ha hl => hMB.block _ hl fun h => (hB.low 0 _ h).2.2 (hA'b a ha)
 have hWw1 := hWw.mod hMB fun k h1 h2 => hTd 0 k h1 h2
 have hxB := X9 hx hMB fun k h => by have := (hB.low 0 k h).1; omega
 clear hTd hB hMB hWw hsW hW1 hT1 hc0 hx
 generalize hTT : (fun i k => if i = 0 then T1 k else T i k) = T2 at hB1
 have hTd2 : ∀ i k,T2 i k → ¬ Tw k := fun i k h => hTd1 i k (by rw [← hTT] at h; exact h)
 have hTB2 : ∀ i k,T2 i k → k < wB.heap.size := fun i k h => hTB i k (by rw [← hTT] at h; exact h)
 clear hTd1 hTT hTB
 (conv=>whnf);repeat(refine Sg ?_;(conv=>whnf))
 refine (Qms hB1 hz (by omega) A' c' hsW1 hcW).mono ?_
 rintro _ wC ⟨pq,nq,sq,rfl,hctq,hisq,hxC⟩
 replace hB1 := hB1.ext hxC
 replace hsW1 := hsW1.ext hxC
 replace hWw1 := hWw1.ext hxC
 replace hxB := hxB.trans hxC
 have hzC := hxC.size
 (conv=>whnf);repeat(refine Sg ?_;(conv=>whnf))
 refine (Qqh hB1 hz (by omega) A' c' hsW1 hcW).mono ?_
 rintro _ wD ⟨pr,nr,sr,rfl,hpar,hisr,hxD⟩
 replace hB1 := hB1.ext hxD
 replace hsW1 := hsW1.ext hxD
 replace hWw1 := hWw1.ext hxD
 replace hctq := hctq.ext hxD
 replace hxB := hxB.trans hxD
 have hzD := hxD.size
 have hTl := fun i k h => (hB1.low i k h).2.1
 have hNl : ∀ k,Qhu A' k → k < wD.heap.size := fun k h => by have := hA'l k h; omega
 (conv=>whnf);repeat(refine Sg ?_;(conv=>whnf))
 refine (Qif hB1 (by omega) hNl hz (by omega) A' c' hsW1 fun _ h => h).mono ?_
 rintro _ wE ⟨pt,t,sh,S,T3,rfl,hptg,hpt,hTab,hSp,hTp,hin,hB3,hT3,hME⟩
 have hzE := hME.size
 have hno : ∀ k,wB.heap.size ≤ k → ¬ ∃ i,T2 i k := fun k hk ⟨i,h⟩ => by have := hTB2 i k h; omega
 replace hctq := hctq.keep (w1 := wE) (S' := fun k => wB.heap.size ≤ k) fun k hk hs => ⟨hME.block k hk (hno k hs),hs⟩
 replace hpar := hpar.keep (w1 := wE) (S' := fun k => wC.heap.size ≤ k) fun k hk hs => ⟨hME.block k hk (hno k (by omega)),hs⟩
 have hTwl := hWw1.lt
 replace hWw1 := hWw1.mod hME fun k ⟨i,h1⟩ h2 => hTd2 i k h1 h2
 have hsW3 := Qz1.stay (w1 := wE) hsW1 fun a ha hl => hME.block _ hl fun ⟨i,h⟩ => (hB1.low i _ h).2.2 (hA'b a ha)
 have hxE := X9 hxB hME fun k ⟨i,h⟩ => by have := (hB1.low i k h).1; omega
 have hTd3 : ∀ i k,T3 i k → ¬ Tw k := fun i k h1 h2 => by
  rcases hT3 i k h1 with h | h
  · exact hTd2 i k h h2
  · have := hTwl k h2; omega
 have hptl := hpt.lt
 obtain ⟨sg,ct,q1,q2,hL,hI⟩ := hTab
 have hPr : X3 wE (fun k => k = pt ∨ S k) pt (Qas c z) := ⟨t,sh,hpt,⟨sg,ct,q1,q2,hL.keep fun k _ hk => ⟨rfl,.inr hk,fun e => hSp (e ▸ hk)⟩,hI.perm hsp⟩,.inl rfl⟩
 have hS0 : Qwd w wE wE (fun k => (k = pt ∨ S k) ∨ (∃ i,T3 i k) ∨ Qhu A' k) (fun k => k = pt ∨ S k) pt bw c z Tw := ⟨hWw1,hPr,fun k hk => by
  rcases hk with (hk | hk) | ⟨i,hk⟩ | hk
  · exact ⟨by omega,fun h => by have := hTwl k h; omega⟩
  · obtain ⟨h1,h2⟩ := hin k hk
    refine ⟨h1,fun h => ?_⟩
    rcases h2 with ⟨_,h3,_⟩ | ⟨_,i,_,h3⟩
    · have := hTwl k h; omega
    · exact hTd3 i k h3 h
  · exact ⟨(hB3.low i k hk).2.1,hTd3 i k hk⟩
  · exact ⟨by have := hNl k hk; omega,fun h => by have := hTw k h; have := hA'l k hk; omega⟩,fun k hk => .inl hk,fun k hk => by have := hTw k hk; omega,hxE,fun _ _ => rfl⟩
 clear hPr hL hI hin hSp hTp hWw1 hB1 hsW1 hxB hME hpt hTd2 hTd3 hT3 hno hTB2 hTl
 have hzs := Q0w c z hmz (by omega)
 have hisz := Q1z c.width z
 have hipz := Q3b c.width z
 have hok5 := Qtw hmz
 have hat := Q9u hmz
 have hokc := Qtt (width := c.width) hmz
 have hle := Qo1 z
 have hlc := Qoy c.width z
 have hcnt : Xo sq (Qq c.half) item now = Xo (Qe c.width z).ds (Qq c.half) item now := Qyt hisq hisz hap _ _ _
 have htop : Qb9 (Qbj sq (Qq c.half) now) = Qb9 (Qbj (Qe c.width z).ds (Qq c.half) now) := Q4j hisq hisz _ _ hap fun key => by
  rw [Qf9 hap]
  have := Q7t hmz (Qq c.half) now key
  omega
 have hsum : ∀ lo hi,paS sr item lo hi = paS (Qe c.width z).ps item lo hi := fun lo hi => by rw [hisr.sm,hipz.sm,Qp8 hcp]
 have hokS : Q62 sr 1000000 := hisr.ok (fun x hx => hokc x (hcp.mem_iff.1 hx)) (by decide) (by have := hcp.length_eq; omega)
 have hokZ : Q62 (Qe c.width z).ps 1000000 := hipz.ok hokc (by decide) (by omega)
 have hkey : ∀ lo hi,Qat sr lo hi = Qat (Qe c.width z).ps lo hi := fun lo hi => Qy7 hisr hipz hcp hokS.small hokZ.small lo hi
 have htq := Qws hisq fun x hx => (hat x (hap.mem_iff.1 hx)).1
 have htz := Qws hisz fun x hx => (hat x hx).1
 have hnq := Qwr hisq fun x hx => (hat x (hap.mem_iff.1 hx)).2
 have hnz := Qwr hisz fun x hx => (hat x hx).2
 have hlq := Q69 hisq
 have hlz := Q69 hisz
 have hapl := hap.length_eq
 have hwd : 1 ≤ Qq c.width ∧ Qq c.width ≤ 1099511627776 := by unfold Qq; omega
 have hil := Qlz c z
 have hin2 := fun x (hx:x ∈ Qar (Qas c z)) => Qi8 hmz hx
 have hnl := Qpx c z item
 have hnn := fun x (hx:x ∈ Qci (Qas c z) item) => Ql9 hmz hx
 have hK9 : ((Qb9 (Qbj (Qe c.width z).ds (Qq c.half) now)).take (9:Int).toNat).length ≤ 9 := by
  rw [List.length_take]
  exact Nat.min_le_left _ _
 have hKp := Q2f (Qe c.width z).ps (0 / Qq c.width) (now / Qq c.width)
 have hKl := hokZ.len
 clear hap hcp hsp hisz hipz hok5 hat hokc hlc hisq hisr
 (conv=>whnf);repeat(refine Sg ?_;(conv=>whnf))
 refine (Qi1 wE _ _ _ _ _ hctq item now hnow (htq item)).mono ?_
 rintro _ wF ⟨rfl,hxF⟩
 rw [hcnt]
 have hS1 := hS0.ext hxF
 replace hctq := hctq.ext hxF
 replace hpar := hpar.ext hxF
 (conv=>whnf);repeat(refine Sg ?_;(conv=>whnf))
 refine (Qde hS1.wt).mono ?_
 rintro _ wG ⟨pe,Se,rfl,hctz,_,hxG⟩
 replace hS1 := hS1.ext hxG
 replace hctq := hctq.ext hxG
 replace hpar := hpar.ext hxG
 (conv=>whnf);repeat(refine Sg ?_;(conv=>whnf))
 refine (Qi1 wG _ _ _ _ _ hctz item now hnow (htz item)).mono ?_
 rintro _ wH ⟨rfl,hxH⟩
 replace hS1 := hS1.ext hxH
 replace hctq := hctq.ext hxH
 replace hpar := hpar.ext hxH
 clear hctz
 (conv=>whnf);repeat(refine Sg ?_;(conv=>whnf))
 generalize Xo (Qe c.width z).ds (Qq c.half) item now = vcnt
 (conv=>whnf);repeat(refine Sg ?_;(conv=>whnf))
 refine ⟨(Option Addr × Nat),(fun i => .slice i.1 ((Qb9 (Qbj (Qe c.width z).ds (Qq c.half) now)).take (9:Int).toNat).length i.2),(fun i w' => Sl Qd4 2 w' i.1 ((Qb9 (Qbj (Qe c.width z).ds (Qq c.half) now)).take (9:Int).toNat) ∧ Ext wH w'),(none,0),fun _ => ((Qqy wH _ pq _ _ sq hctq now hnow 9 (by omega) htq hnq (by omega)).mono fun r w' ⟨A1,c1,h1,h2,_,h4⟩ => ⟨(A1,c1),by rw [h1,htop],by rw [← htop]; exact h2,h4⟩),?_⟩
 rintro iwI wI hqwI
 replace hqwI := hqwI.elim (fun h => h.2) fun h => (h.1 (And.intro (by first | rfl | simp | decide) trivial)).elim
 obtain ⟨hsI,hxI⟩ := hqwI
 replace hS1 := hS1.ext hxI
 replace hpar := hpar.ext hxI
 (conv=>whnf);repeat(refine Sg ?_;(conv=>whnf))
 refine ⟨(Nat × (Nat → Prop)),(fun i => .pointer (some ⟨i.1,0,none⟩)),(fun i w' => Qfj w' i.2 i.1 (Qq c.half) (Qe c.width z).dn (Qe c.width z).ds ∧ Ext wI w'),(0,fun _ => False),fun _ => ((Qde hS1.wt).mono fun r w' ⟨pd,S5,h1,h2,_,h3⟩ => ⟨(pd,S5),h1,h2,h3⟩),?_⟩
 rintro iwJ wJ hqwJ
 replace hqwJ := hqwJ.elim (fun h => h.2) fun h => (h.1 (And.intro (by first | rfl | simp | decide) trivial)).elim
 obtain ⟨hctJ,hxJ⟩ := hqwJ
 replace hS1 := hS1.ext hxJ
 replace hpar := hpar.ext hxJ
 replace hsI := hsI.ext hxJ
 (conv=>whnf);repeat(refine Sg ?_;(conv=>whnf))
 refine ⟨(Option Addr × Nat),(fun i => .slice i.1 ((Qb9 (Qbj (Qe c.width z).ds (Qq c.half) now)).take (9:Int).toNat).length i.2),(fun i w' => Sl Qd4 2 w' i.1 ((Qb9 (Qbj (Qe c.width z).ds (Qq c.half) now)).take (9:Int).toNat) ∧ Ext wJ w'),(none,0),fun _ => ((Qqy wJ _ _ _ _ _ hctJ now hnow 9 (by omega) htz hnz (by omega)).mono fun r w' ⟨A1,c1,h1,h2,_,h4⟩ => ⟨(A1,c1),h1,h2,h4⟩),?_⟩
 rintro iwK wK hqwK
 replace hqwK := hqwK.elim (fun h => h.2) fun h => (h.1 (And.intro (by first | rfl | simp | decide) trivial)).elim
 obtain ⟨hsK,hxK⟩ := hqwK
 replace hS1 := hS1.ext hxK
 replace hpar := hpar.ext hxK
 replace hsI := hsI.ext hxK
 (conv=>whnf);repeat(refine Sg ?_;(conv=>whnf))
 refine ⟨Unit,(fun _ => .bool true),(fun _ w' => Ext wK w'),(),fun _ => ((Qud _ _ _ _ _ wK hsI hsK (by omega)).mono fun r w' h => ⟨(),h.1,h.2⟩),?_⟩
 rintro iwL wL hqwL
 replace hqwL := hqwL.elim (fun h => h.2) fun h => (h.1 (And.intro (by first | rfl | simp | decide) trivial)).elim
 replace hS1 := hS1.ext hqwL
 replace hpar := hpar.ext hqwL
 clear hsI hsK hctJ
 (conv=>whnf);repeat(refine Sg ?_;(conv=>whnf))
 refine ⟨Unit,(fun _ => .int .i64 (paS (Qe c.width z).ps item (0 / Qq c.width) (now / Qq c.width))),(fun _ w' => Ext wL w'),(),fun _ => ((Qji wL _ _ _ _ _ hpar hwd _ hokS item 0 now (by omega) (by omega)).mono fun r w' h => ⟨(),by rw [h.1,hsum],by rw [h.2]; exact Ext.refl _⟩),?_⟩
 rintro iwM wM hqwM
 replace hqwM := hqwM.elim (fun h => h.2) fun h => (h.1 (And.intro (by first | rfl | simp | decide) trivial)).elim
 replace hS1 := hS1.ext hqwM
 replace hpar := hpar.ext hqwM
 (conv=>whnf);repeat(refine Sg ?_;(conv=>whnf))
 refine ⟨(Nat × (Nat → Prop)),(fun i => .pointer (some ⟨i.1,0,none⟩)),(fun i w' => Qgv w' i.2 i.1 (Qq c.width) (Qe c.width z).pn (Qe c.width z).ps ∧ Ext wM w'),(0,fun _ => False),fun _ => ((Qe9 hS1.wt).mono fun r w' ⟨pd,S5,h1,h2,_,h3⟩ => ⟨(pd,S5),h1,h2,h3⟩),?_⟩
 rintro iwN wN hqwN
 replace hqwN := hqwN.elim (fun h => h.2) fun h => (h.1 (And.intro (by first | rfl | simp | decide) trivial)).elim
 obtain ⟨hpN,hxN⟩ := hqwN
 replace hS1 := hS1.ext hxN
 replace hpar := hpar.ext hxN
 (conv=>whnf);repeat(refine Sg ?_;(conv=>whnf))
 refine ⟨Unit,(fun _ => .int .i64 (paS (Qe c.width z).ps item (0 / Qq c.width) (now / Qq c.width))),(fun _ w' => Ext wN w'),(),fun _ => ((Qji wN _ _ _ _ _ hpN hwd _ hokZ item 0 now (by omega) (by omega)).mono fun r w' h => ⟨(),h.1,by rw [h.2]; exact Ext.refl _⟩),?_⟩
 rintro iwO wO hqwO
 replace hqwO := hqwO.elim (fun h => h.2) fun h => (h.1 (And.intro (by first | rfl | simp | decide) trivial)).elim
 replace hS1 := hS1.ext hqwO
 replace hpar := hpar.ext hqwO
 clear hpN
 (conv=>whnf);repeat(refine Sg ?_;(conv=>whnf))
 refine ⟨(Option Addr × Nat),(fun i => .slice i.1 (Qat (Qe c.width z).ps (0 / Qq c.width) (now / Qq c.width)).length i.2),(fun i w' => SlT w' i.1 (Qat (Qe c.width z).ps (0 / Qq c.width) (now / Qq c.width)) ∧ Ext wO w'),(none,0),fun _ => ((Qme wO _ _ _ _ _ hpar hwd _ hokS 0 now (by omega) (by omega)).mono fun r w' ⟨A1,c1,h1,h2,h3⟩ => ⟨(A1,c1),by rw [h1,hkey],by rw [← hkey]; exact h2,h3⟩),?_⟩
 rintro iwP wP hqwP
 replace hqwP := hqwP.elim (fun h => h.2) fun h => (h.1 (And.intro (by first | rfl | simp | decide) trivial)).elim
 obtain ⟨hsP,hxP⟩ := hqwP
 replace hS1 := hS1.ext hxP
 (conv=>whnf);repeat(refine Sg ?_;(conv=>whnf))
 refine ⟨(Nat × (Nat → Prop)),(fun i => .pointer (some ⟨i.1,0,none⟩)),(fun i w' => Qgv w' i.2 i.1 (Qq c.width) (Qe c.width z).pn (Qe c.width z).ps ∧ Ext wP w'),(0,fun _ => False),fun _ => ((Qe9 hS1.wt).mono fun r w' ⟨pd,S5,h1,h2,_,h3⟩ => ⟨(pd,S5),h1,h2,h3⟩),?_⟩
 rintro iwQ wQ hqwQ
 replace hqwQ := hqwQ.elim (fun h => h.2) fun h => (h.1 (And.intro (by first | rfl | simp | decide) trivial)).elim
 obtain ⟨hpQ,hxQ⟩ := hqwQ
 replace hS1 := hS1.ext hxQ
 replace hsP := hsP.ext hxQ
 (conv=>whnf);repeat(refine Sg ?_;(conv=>whnf))
 refine ⟨(Option Addr × Nat),(fun i => .slice i.1 (Qat (Qe c.width z).ps (0 / Qq c.width) (now / Qq c.width)).length i.2),(fun i w' => SlT w' i.1 (Qat (Qe c.width z).ps (0 / Qq c.width) (now / Qq c.width)) ∧ Ext wQ w'),(none,0),fun _ => ((Qme wQ _ _ _ _ _ hpQ hwd _ hokZ 0 now (by omega) (by omega)).mono fun r w' ⟨A1,c1,h1,h2,h3⟩ => ⟨(A1,c1),h1,h2,h3⟩),?_⟩
 rintro iwR wR hqwR
 replace hqwR := hqwR.elim (fun h => h.2) fun h => (h.1 (And.intro (by first | rfl | simp | decide) trivial)).elim
 obtain ⟨hsR,hxR⟩ := hqwR
 replace hS1 := hS1.ext hxR
 replace hsP := hsP.ext hxR
 (conv=>whnf);repeat(refine Sg ?_;(conv=>whnf))
 refine ⟨Unit,(fun _ => .bool true),(fun _ w' => Ext wR w'),(),fun _ => ((Qjs _ _ _ _ _ wR hsP hsR (by omega)).mono fun r w' h => ⟨(),h.1,h.2⟩),?_⟩
 rintro iwS wS hqwS
 replace hqwS := hqwS.elim (fun h => h.2) fun h => (h.1 (And.intro (by first | rfl | simp | decide) trivial)).elim
 replace hS1 := hS1.ext hqwS
 clear hsP hsR hpQ hpar
 (conv=>whnf);repeat(refine Sg ?_;(conv=>whnf))
 constructor
 · intro hq
   exfalso
   simp at hq
 intro _
 (conv=>whnf);repeat(refine Sg ?_;(conv=>whnf))
 refine (Qfz wS _ _ _ hS1.pr item).mono ?_
 rintro _ _ ⟨rfl,rfl⟩
 (conv=>whnf);repeat(refine Sg ?_;(conv=>whnf))
 refine (hS1.step hzs).mono ?_
 rintro _ wT ⟨i1,rfl,hS2,hP2,_⟩
 (conv=>whnf);repeat(refine Sg ?_;(conv=>whnf))
 refine (Qfz wT _ _ _ hP2 item).mono ?_
 rintro _ _ ⟨rfl,rfl⟩
 (conv=>whnf);repeat(refine Sg ?_;(conv=>whnf))
 generalize ((Xx (Qas c z) item : Nat) : Int) = vsg
 (conv=>whnf);repeat(refine Sg ?_;(conv=>whnf))
 refine ⟨Unit,(fun _ => .int .i64 ((if item = other then Xx (Qas c z) item else Qbv (Qas c z) item other : Nat) : Int)),(fun _ w' => Qwd w wE w' _ _ pt bw c z _),(),fun _ => ((Qj7 _ _ _ _ hS2.pr item other).mono fun r w' h => ⟨(),h.1,by rw [h.2]; exact hS2⟩),?_⟩
 rintro iwU wU hqwU
 replace hqwU := hqwU.elim (fun h => h.2) fun h => (h.1 (And.intro (by first | rfl | simp | decide) trivial)).elim
 (conv=>whnf);repeat(refine Sg ?_;(conv=>whnf))
 refine ⟨(Nat × (Nat → Prop) × (Nat → Prop)),(fun i => .pointer (some ⟨i.1,0,none⟩)),(fun i w' => Qwd w wE w' _ _ pt bw c z i.2.1 ∧ X3 w' i.2.2 i.1 (Qas c z)),(0,(fun _ => False),(fun _ => False)),fun _ => ((hqwU.step hzs).mono fun r w' ⟨i,h1,h2,h3,_⟩ => ⟨i,h1,h2,h3⟩),?_⟩
 rintro iwV wV hqwV
 replace hqwV := hqwV.elim (fun h => h.2) fun h => (h.1 (And.intro (by first | rfl | simp | decide) trivial)).elim
 obtain ⟨hS4,hP4⟩ := hqwV
 (conv=>whnf);repeat(refine Sg ?_;(conv=>whnf))
 refine ⟨Unit,(fun _ => .int .i64 ((if item = other then Xx (Qas c z) item else Qbv (Qas c z) item other : Nat) : Int)),(fun _ w' => Qwd w wE w' _ _ pt bw c z _),(),fun _ => ((Qj7 _ _ _ _ hP4 item other).mono fun r w' h => ⟨(),h.1,by rw [h.2]; exact hS4⟩),?_⟩
 rintro iwW wW hqwW
 replace hqwW := hqwW.elim (fun h => h.2) fun h => (h.1 (And.intro (by first | rfl | simp | decide) trivial)).elim
 (conv=>whnf);repeat(refine Sg ?_;(conv=>whnf))
 have hlW := hqwW.wt.lt
 refine ⟨(Option Addr × Nat),(fun i => .slice i.1 (Qar (Qas c z)).length i.2),(fun i w' => SlT w' i.1 (Qar (Qas c z)) ∧ (∀ a,i.1 = some a → ¬ iwV.2.1 a.block) ∧ Qwd w wE w' _ _ pt bw c z iwV.2.1),(none,0),fun _ => ((Qe8 _ _ _ _ hqwW.pr (fun x hx => by have := Qab (hin2 x hx); omega) (by omega)).mono fun r w' ⟨A1,c1,h1,h2,h4,h3⟩ => ⟨(A1,c1),h1,h2,fun a ha h => by have := h4 a ha; have := hlW _ h; omega,hqwW.ext h3⟩),?_⟩
 rintro iwX wX hqwX
 replace hqwX := hqwX.elim (fun h => h.2) fun h => (h.1 (And.intro (by first | rfl | simp | decide) trivial)).elim
 obtain ⟨hsX,hnX,hS5⟩ := hqwX
 (conv=>whnf);repeat(refine Sg ?_;(conv=>whnf))
 refine ⟨(Nat × (Nat → Prop) × (Nat → Prop)),(fun i => .pointer (some ⟨i.1,0,none⟩)),(fun i w' => Qwd w wE w' _ _ pt bw c z i.2.1 ∧ X3 w' i.2.2 i.1 (Qas c z) ∧ Mod iwV.2.1 wX w'),(0,(fun _ => False),(fun _ => False)),fun _ => (hS5.step hzs),?_⟩
 rintro iwY wY hqwY
 replace hqwY := hqwY.elim (fun h => h.2) fun h => (h.1 (And.intro (by first | rfl | simp | decide) trivial)).elim
 obtain ⟨hS6,hP6,hM6⟩ := hqwY
 have hsY := Qxs.stay (w1 := wY) hsX fun a ha hl => hM6.block _ hl (hnX a ha)
 clear hM6 hsX hnX hS5 hqwW hqwU hS4 hP4
 (conv=>whnf);repeat(refine Sg ?_;(conv=>whnf))
 refine ⟨(Option Addr × Nat),(fun i => .slice i.1 (Qar (Qas c z)).length i.2),(fun i w' => SlT w' i.1 (Qar (Qas c z)) ∧ Ext wY w'),(none,0),fun _ => ((Qe8 _ _ _ _ hP6 (fun x hx => by have := Qab (hin2 x hx); omega) (by omega)).mono fun r w' ⟨A1,c1,h1,h2,_,h3⟩ => ⟨(A1,c1),h1,h2,h3⟩),?_⟩
 rintro iwZ wZ hqwZ
 replace hqwZ := hqwZ.elim (fun h => h.2) fun h => (h.1 (And.intro (by first | rfl | simp | decide) trivial)).elim
 obtain ⟨hsZ,hxZ⟩ := hqwZ
 replace hS6 := hS6.ext hxZ
 replace hsY := hsY.ext hxZ
 (conv=>whnf);repeat(refine Sg ?_;(conv=>whnf))
 refine ⟨Unit,(fun _ => .bool true),(fun _ w' => Ext wZ w'),(),fun _ => ((Qjs _ _ _ _ _ wZ hsY hsZ (by omega)).mono fun r w' h => ⟨(),h.1,h.2⟩),?_⟩
 rintro iwa wa hqwa
 replace hqwa := hqwa.elim (fun h => h.2) fun h => (h.1 (And.intro (by first | rfl | simp | decide) trivial)).elim
 replace hS6 := hS6.ext hqwa
 clear hsY hsZ hP6
 (conv=>whnf);repeat(refine Sg ?_;(conv=>whnf))
 have hlb := hS6.wt.lt
 refine ⟨(Option Addr × Nat),(fun i => .slice i.1 (Qci (Qas c z) item).length i.2),(fun i w' => SlT w' i.1 (Qci (Qas c z) item) ∧ (∀ a,i.1 = some a → ¬ iwY.2.1 a.block) ∧ Qwd w wE w' _ _ pt bw c z iwY.2.1),(none,0),fun _ => ((Qjg _ _ _ _ hS6.pr item (fun x hx => by have := Qab (hnn x hx); omega) (by omega)).mono fun r w' ⟨A1,c1,h1,h2,h4,h3⟩ => ⟨(A1,c1),h1,h2,fun a ha h => by have := h4 a ha; have := hlb _ h; omega,hS6.ext h3⟩),?_⟩
 rintro iwb wb hqwb
 replace hqwb := hqwb.elim (fun h => h.2) fun h => (h.1 (And.intro (by first | rfl | simp | decide) trivial)).elim
 obtain ⟨hsb,hnb,hS7⟩ := hqwb
 (conv=>whnf);repeat(refine Sg ?_;(conv=>whnf))
 refine ⟨(Nat × (Nat → Prop) × (Nat → Prop)),(fun i => .pointer (some ⟨i.1,0,none⟩)),(fun i w' => Qwd w wE w' _ _ pt bw c z i.2.1 ∧ X3 w' i.2.2 i.1 (Qas c z) ∧ Mod iwY.2.1 wb w'),(0,(fun _ => False),(fun _ => False)),fun _ => (hS7.step hzs),?_⟩
 rintro iwc wc hqwc
 replace hqwc := hqwc.elim (fun h => h.2) fun h => (h.1 (And.intro (by first | rfl | simp | decide) trivial)).elim
 obtain ⟨hS8,hP8,hM8⟩ := hqwc
 have hsc := Qxs.stay (w1 := wc) hsb fun a ha hl => hM8.block _ hl (hnb a ha)
 clear hM8 hsb hnb hS7 hS6
 (conv=>whnf);repeat(refine Sg ?_;(conv=>whnf))
 refine ⟨(Option Addr × Nat),(fun i => .slice i.1 (Qci (Qas c z) item).length i.2),(fun i w' => SlT w' i.1 (Qci (Qas c z) item) ∧ Ext wc w'),(none,0),fun _ => ((Qjg _ _ _ _ hP8 item (fun x hx => by have := Qab (hnn x hx); omega) (by omega)).mono fun r w' ⟨A1,c1,h1,h2,_,h3⟩ => ⟨(A1,c1),h1,h2,h3⟩),?_⟩
 rintro iwd wd hqwd
 replace hqwd := hqwd.elim (fun h => h.2) fun h => (h.1 (And.intro (by first | rfl | simp | decide) trivial)).elim
 obtain ⟨hsd,hxd⟩ := hqwd
 replace hS8 := hS8.ext hxd
 replace hsc := hsc.ext hxd
 (conv=>whnf);repeat(refine Sg ?_;(conv=>whnf))
 refine ⟨Unit,(fun _ => .bool true),(fun _ w' => Ext wd w'),(),fun _ => ((Qjs _ _ _ _ _ wd hsc hsd (by omega)).mono fun r w' h => ⟨(),h.1,h.2⟩),?_⟩
 rintro iwe we hqwe
 replace hqwe := hqwe.elim (fun h => h.2) fun h => (h.1 (And.intro (by first | rfl | simp | decide) trivial)).elim
 replace hS8 := hS8.ext hqwe
 clear hsc hsd hP8
 (conv=>whnf);repeat(refine Sg ?_;(conv=>whnf))
 constructor
 · intro hq
   exfalso
   simp at hq
 intro _
 have hBf := hB3.keep (w1 := we) (N' := Qhu A') fun i k hk => ⟨hS8.fr k (.inr (.inl ⟨i,hk⟩)),(hB3.low i k hk).2.2⟩
 have hsWf := Qz1.stay (w1 := we) hsW3 fun a ha _ => hS8.fr _ (.inr (.inr (hA'b a ha)))
 have hxf := hS8.ex
 obtain ⟨a1,hA1,hc1⟩ := hsWf.get h0W
 rw [hW0] at hc1
 clear hS8 hB3 hsW3
 (conv=>whnf);repeat(refine Sg ?_;(conv=>whnf))
 refine ⟨a1,⟨hA1,by omega,by omega⟩,?_⟩; (conv=>whnf);repeat(refine Sg ?_;(conv=>whnf))
 refine ⟨.pointer (some ⟨p0,0,none⟩),Qv hc1,?_⟩; (conv=>whnf);repeat(refine Sg ?_;(conv=>whnf))
 refine (Q1y (hBf.wt 0 _ _ hp0 hw0) (hg0.ext hxf) hcf (by omega) (fun k h => by have := (hBf.low 0 k h).1; omega) now).mono ?_
 rintro _ wg ⟨_,rfl,_,_,hMg⟩
 have hxg := X9 hxf hMg fun k h => by have := (hBf.low 0 k h).1; omega
 generalize Q5d c (Xn x0.1) (Qgt now) = dig
 (conv=>whnf);repeat(refine Sg ?_;(conv=>whnf))
 refine ⟨Unit,(fun _ => .pointer none),(fun _ w' => Ext wg w'),(),fun _ => ((Qmr wg).mono fun r w' h => ⟨(),h.1,h.2⟩),?_⟩
 rintro iwh wh hqwh
 replace hqwh := hqwh.elim (fun h => h.2) fun h => (h.1 (And.intro (by first | rfl | simp | decide) trivial)).elim
 (conv=>whnf);repeat(refine Sg ?_;(conv=>whnf))
 refine ⟨_,fun _ => Qad Xan none _ _,?_⟩; (conv=>whnf);repeat(refine Sg ?_;(conv=>whnf))
 refine ⟨Unit,(fun _ => .pointer none),(fun _ w' => Ext wh w'),(),fun _ => ((Qqg wh).mono fun r w' h => ⟨(),h.1,h.2⟩),?_⟩
 rintro iwi wi hqwi
 replace hqwi := hqwi.elim (fun h => h.2) fun h => (h.1 (And.intro (by first | rfl | simp | decide) trivial)).elim
 (conv=>whnf);repeat(refine Sg ?_;(conv=>whnf))
 refine ⟨_,fun _ => Qad Xao none _ _,?_⟩; (conv=>whnf);repeat(refine Sg ?_;(conv=>whnf))
 refine ⟨(Nat × (Nat → Prop)),(fun i => .pointer (some ⟨i.1,0,none⟩)),(fun i w' => X3 w' i.2 i.1 [] ∧ Ext wi w'),(0,fun _ => False),fun _ => ((Qqf wi).mono fun r w' ⟨p,S5,h1,h2,h3⟩ => ⟨(p,S5),h1,h2,h3⟩),?_⟩
 rintro iwj wj hqwj
 replace hqwj := hqwj.elim (fun h => h.2) fun h => (h.1 (And.intro (by first | rfl | simp | decide) trivial)).elim
 obtain ⟨hPj,hxj⟩ := hqwj
 (conv=>whnf);repeat(refine Sg ?_;(conv=>whnf))
 refine ⟨(Option Addr × Nat),(fun i => .slice i.1 0 i.2),(fun _ w' => Ext wj w'),(none,0),fun _ => ((Qe8 _ _ _ _ hPj (by rw [Ql0]; simp) (by rw [Ql0]; simp)).mono fun r w' ⟨A1,c1,h1,_,_,h3⟩ => ⟨(A1,c1),by rw [h1,Ql0]; rfl,h3⟩),?_⟩
 rintro iwk wk hqwk
 replace hqwk := hqwk.elim (fun h => h.2) fun h => (h.1 (And.intro (by first | rfl | simp | decide) trivial)).elim
 (conv=>whnf);repeat(refine Sg ?_;(conv=>whnf))
 exact ⟨by simp,(((hxg.trans hqwh).trans hqwi).trans hxj).trans hqwk⟩
end Go.Proofs.YteabekcdcphjpaaGreatDoor
