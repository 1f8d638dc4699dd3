/- Several texts in one: Wf1, Wf3, Cp7. -/
import Derived.Test.YteabekcdcphjpaaGreatDoorGE
import Derived.Test.YteabekcdcphjpaaGreatDoorGL
import Derived.Test.YteabekcdcphjpaaGreatDoorGC
import Derived.Test.YteabekcdcphjpaaGreatDoorGI
import Derived.Test.YteabekcdcphjpaaGreatDoorGZB
set_option linter.unusedVariables false
set_option linter.unusedSimpArgs false
namespace Go.Proofs.YteabekcdcphjpaaGreatDoor
open Go.Se Go.RowKit
theorem Qu1 (c:Cfg) (w:World) (hc:Qjv c = false) : Cal Tryz.prog 71 [Q02 c] w fun r w' => r = .tuple #[.pointer Option.none,.int .i64 1] ∧ Ext w w' := by
 refine Fi Tryz.func71 rfl _ rfl rfl ?_;conv=>whnf
 intro b1 w1 hn1
 have hb1 : At w1 b1 23 (Qni c) := hn1.At
 conv=>whnf
 refine ⟨Qni c,⟨rfl,hb1.all⟩,?_⟩;conv=>whnf
 refine (Qth c w1).mono ?_
 rintro _ w2 ⟨rfl,hx2⟩
 rw [hc]
 conv=>whnf
 constructor
 · intro _
   conv=>whnf
   exact ⟨rfl,hn1.ext.trans hx2⟩
 · intro q; cases q
theorem Qzj (c:Cfg) (hcf:Qjv c = false) (l:List Ev) (A:Option Addr) (cap:Nat) (w:World) :
 Cal Tryz.prog 13 [Q02 c,.slice A l.length cap] w fun r w' => r = .tuple #[.pointer Option.none,.int .i64 1] ∧ Ext w w' := by
 refine Fi Tryz.func13 rfl _ rfl rfl ?_;conv=>whnf
 intro b1 w1 hn1;conv=>whnf
 refine ⟨Qni c,⟨rfl,hn1.At.all⟩,?_⟩;conv=>whnf
 refine (Qu1 c w1 hcf).mono ?_
 rintro _ w2 ⟨rfl,hx2⟩;conv=>whnf
 refine ⟨fun _ => ?_,fun h => (by simp at h)⟩
 conv=>whnf
 exact ⟨rfl,hn1.ext.trans hx2⟩
set_option maxHeartbeats 1000000 in
theorem Qzk (c:Cfg) (hcf:Qjv c = true) (l:List Ev) (A:Option Addr) (cap:Nat) (w:World) (hg0:Gl w) (hs:SlE w A l) (hl:l.length < 1000000) (ht:∀ e ∈ l,e.text.size < 4000000000) (hbad:l.all Xj = false) :
 Cal Tryz.prog 13 [Q02 c,.slice A l.length cap] w fun r w' => r = .tuple #[.pointer Option.none,.int .i64 1] ∧ Ext w w' := by
 refine Fi Tryz.func13 rfl _ rfl rfl ?_;conv=>whnf
 intro b1 w1 hn1;conv=>whnf
 refine ⟨Qni c,⟨rfl,hn1.At.all⟩,?_⟩;conv=>whnf
 refine (Qiu c w1 (by have := hg0.size; have := hn1.size; omega) hcf).mono ?_
 rintro _ w2 ⟨p,rfl,hW2,hx2⟩;conv=>whnf
 refine ⟨fun h => (by simp at h),fun _ => ?_⟩
 have hx := hn1.ext.trans hx2
 clear hW2 hn1 hx2
 conv=>whnf
 refine Qg Qa (fun (j:Nat) w' => j ≤ l.length ∧ (∀ e ∈ l.take j,Xj e = true) ∧ Ext w2 w')
  (fun j => [(1,.slice A l.length cap),(6,.pointer (some ⟨p,0,none⟩)),(21,.slice A l.length cap),(22,.int .i64 l.length),(23,.int .i64 j)]) (fun j => l.length - j) 0 ⟨by omega,by simp,Ext.refl _⟩ ⟨rfl,rfl,rfl,rfl,rfl,trivial⟩ ?_
 rintro j w3 ⟨hj,hall,hx3⟩
 conv=>whnf
 constructor
 · intro hc
   have hc : j < l.length := by simpa using hc
   obtain ⟨a2,rfl,hce⟩ := hs.get hc
   have htk := Qtb l j hc
   have hte := ht l[j] (List.getElem_mem hc)
   generalize l[j] = e at hce htk hte
   conv=>whnf
   refine ⟨a2,⟨rfl,by omega,by omega⟩,?_⟩;conv=>whnf
   refine ⟨evC e,⟨rfl,(hx.trans hx3).cells hce⟩,?_⟩;conv=>whnf
   intro b4 w4 hn4;conv=>whnf
   have e4 := hn4.block
   refine Qj Qa (e := ty66) rfl hn4.At rfl rfl rfl (by simp [Qm,evC,Value.oneCell']) fun w5 h5 ho5 => ?_
   have h5 : At w5 b4 _ (evC e) := h5
   have hx5 := ho5.ext (hx3.trans hn4.ext) (by have := hx3.size; omega)
   conv=>whnf
   refine ⟨evC e,⟨rfl,h5.all⟩,?_⟩;conv=>whnf
   refine (Qh5 e w5 (hg0.ext (hx.trans hx5)) hte).mono ?_
   rintro _ w6 ⟨rfl,hx6⟩
   conv=>whnf
   refine ⟨fun _ => ?_,fun hq => ?_⟩
   · (conv=>whnf)
     exact ⟨rfl,hx.trans (hx5.trans hx6)⟩
   have hme : Xj e = true := by simpa using hq
   conv=>whnf
   refine ⟨_,wrap_succ (by omega),?_⟩;conv=>whnf
   refine ⟨j + 1,by omega,⟨by omega,fun x hx => ?_,hx5.trans hx6⟩,⟨rfl,rfl,rfl,rfl,rfl,trivial⟩⟩
   rw [htk] at hx
   rcases List.mem_append.1 hx with hx | hx
   · exact hall x hx
   · rw [List.mem_singleton.1 hx]; exact hme
 · intro hc
   have hc : l.length ≤ j := by simpa using hc
   rw [List.take_of_length_le hc] at hall
   rw [List.all_eq_true.2 hall] at hbad
   cases hbad
theorem Qoa (c:Cfg) (l:List Ev) (A:Option Addr) (cap:Nat) (w:World) (hg0:Gl w) (hs:SlE w A l) (hl:l.length < 1000000) (ht:∀ e ∈ l,e.text.size < 4000000000) :
 Cal Tryz.prog 13 [Q02 c,.slice A l.length cap] w fun r w' => ∃ (p:Option Addr) (e:Int),r = .tuple #[.pointer p,.int .i64 e] ∧ Ext w w' ∧
  (((Qjv c && l.all Xj) = false ∧ p = none ∧ e = 1) ∨ ((Qjv c && l.all Xj) = true ∧ e = 0 ∧ ∃ b T,p = some ⟨b,0,none⟩ ∧ WT w' T b c (Xn l) ∧ ∀ k,T k → w.heap.size ≤ k)) := by
 cases hc : Qjv c with
 | false =>
   refine (Qzj c hc l A cap w).mono ?_
   rintro _ w' ⟨rfl,hx⟩
   exact ⟨none,1,rfl,hx,.inl ⟨by simp,rfl,rfl⟩⟩
 | true =>
   cases ha : l.all Xj with
   | false =>
     refine (Qzk c hc l A cap w hg0 hs hl ht ha).mono ?_
     rintro _ w' ⟨rfl,hx⟩
     exact ⟨none,1,rfl,hx,.inl ⟨by simp,rfl,rfl⟩⟩
   | true =>
     refine (Q2q c hc l A cap w hg0 hs hl (List.all_eq_true.1 ha)).mono ?_
     rintro _ w' ⟨p,rfl,hW,hx⟩
     obtain ⟨T,hT,hT0⟩ := hW.t
     exact ⟨some ⟨p,0,none⟩,0,rfl,hx,.inr ⟨by simp,rfl,p,T,rfl,hT,hT0⟩⟩
end Go.Proofs.YteabekcdcphjpaaGreatDoor
namespace Go.Proofs.YteabekcdcphjpaaGreatDoor
open Go.Se Go.RowKit Go.Shelf
abbrev Prt := List Ev × (Option Addr × Nat)
def paC (x:Prt) : List Value := [.slice x.2.1 x.1.length x.2.2]
theorem Q6z (p:Nat) : ∀ u ∈ Q6y p,u.oneCell' = true := by simp [Q6y,Value.oneCell']
theorem Qz1 : Q0y Tryz.prog 27 33 Q6y 1 8 := ⟨by kernel_rfl,⟨_,ty33_ok,rfl,rfl⟩,by33,by decide,by decide,Qx9,Q6z⟩
structure Beside (w:World) (base:Nat) (c:Cfg) (N:Nat → Prop) (parts:List Prt) (W:List Nat) (T:Nat → Nat → Prop) : Prop where
 len : W.length = parts.length
 wt : ∀ (i:Nat) (x:Prt) (p:Nat),parts[i]? = some x → W[i]? = some p → WT w (T i) p c (Xn x.1)
 low : ∀ i k,T i k → base ≤ k ∧ k < w.heap.size ∧ ¬ N k
 one : ∀ i j k,T i k → T j k → i = j
section
variable {w w1:World} {base:Nat} {c:Cfg} {N N':Nat → Prop} {parts:List Prt} {W:List Nat} {T:Nat → Nat → Prop}
theorem Beside.keep (h:Beside w base c N parts W T) (hk:∀ i k,T i k → w1.heap[k]? = w.heap[k]? ∧ ¬ N' k) : Beside w1 base c N' parts W T :=
 ⟨h.len,fun i x p h1 h2 => (h.wt i x p h1 h2).keep fun k hk' => (hk i k hk').1,fun i k h1 => ⟨(h.low i k h1).1,Qjc (h.low i k h1).2.1 (hk i k h1).1,(hk i k h1).2⟩,h.one⟩
theorem Beside.ext (h:Beside w base c N parts W T) (hx:Ext w w1) : Beside w1 base c N parts W T := h.keep fun i k hk => ⟨hx.block k (h.low i k hk).2.1,(h.low i k hk).2.2⟩
theorem Beside.push {b:Nat} {x:Prt} {T':Nat → Prop} (h:Beside w base c N parts W T) (hW:WT w T' b c (Xn x.1)) (hT:∀ k,T' k → base ≤ k ∧ ¬ N k ∧ ∀ i,¬ T i k) : Beside w base c N (parts ++ [x]) (W ++ [b]) (fun i k => if i = parts.length then T' k else T i k) := by
 refine ⟨by simp [h.len],fun i y p h1 h2 => ?_,fun i k hk => ?_,fun i j k h1 h2 => ?_⟩
 · by_cases hi : i < parts.length
   · rw [List.getElem?_append_left hi] at h1
     rw [List.getElem?_append_left (by rw [h.len]; exact hi)] at h2
     have hne : ¬ i = parts.length := by omega
     have e : (fun k => if i = parts.length then T' k else T i k) = T i := funext fun k => if_neg hne
     show WT w (fun k => if i = parts.length then T' k else T i k) p c (Xn y.1)
     rw [e]
     exact h.wt i y p h1 h2
   · have hl := (List.getElem?_eq_some_iff.1 h1).1
     rw [List.length_append,List.length_singleton] at hl
     have hi : i = parts.length := by omega
     have e : (fun k => if i = parts.length then T' k else T i k) = T' := funext fun k => if_pos hi
     show WT w (fun k => if i = parts.length then T' k else T i k) p c (Xn y.1)
     rw [e]
     rw [hi,List.getElem?_append_right (Nat.le_refl _),Nat.sub_self] at h1
     rw [hi,← h.len,List.getElem?_append_right (Nat.le_refl _),Nat.sub_self] at h2
     obtain rfl : x = y := by simpa using h1
     obtain rfl : b = p := by simpa using h2
     exact hW
 · by_cases hi : i = parts.length
   · have hk : T' k := by simpa only [if_pos hi] using hk
     exact ⟨(hT k hk).1,hW.lt k hk,(hT k hk).2.1⟩
   · have hk : T i k := by simpa only [if_neg hi] using hk
     exact h.low i k hk
 · by_cases hi : i = parts.length <;> by_cases hj : j = parts.length
   · rw [hi,hj]
   · have h1 : T' k := by simpa only [if_pos hi] using h1
     have h2 : T j k := by simpa only [if_neg hj] using h2
     exact absurd h2 ((hT k h1).2.2 j)
   · have h1 : T i k := by simpa only [if_neg hi] using h1
     have h2 : T' k := by simpa only [if_pos hj] using h2
     exact absurd h1 ((hT k h2).2.2 i)
   · have h1 : T i k := by simpa only [if_neg hi] using h1
     have h2 : T j k := by simpa only [if_neg hj] using h2
     exact h.one i j k h1 h2
theorem Beside.upd {i p:Nat} {x:Prt} {T':Nat → Prop} (h:Beside w base c N parts W T) (hp:parts[i]? = some x) (hW:W[i]? = some p) (hb:base ≤ w.heap.size) (hw:WT w1 T' p c (Xn x.1)) (hT:∀ k,T' k → T i k ∨ w.heap.size ≤ k) (hN:∀ k,N k → k < w.heap.size) (hM:Mod (T i) w w1) : Beside w1 base c N parts W (fun j k => if j = i then T' k else T j k) := by
 refine ⟨h.len,fun j y q h1 h2 => ?_,fun j k hk => ?_,fun a b k h1 h2 => ?_⟩
 · by_cases hj : j = i
   · subst hj
     have e : (fun k => if j = j then T' k else T j k) = T' := funext fun k => if_pos rfl
     show WT w1 (fun k => if j = j then T' k else T j k) q c (Xn y.1)
     rw [e]
     rw [hp] at h1
     rw [hW] at h2
     cases h1; cases h2
     exact hw
   · have e : (fun k => if j = i then T' k else T j k) = T j := funext fun k => if_neg hj
     show WT w1 (fun k => if j = i then T' k else T j k) q c (Xn y.1)
     rw [e]
     exact (h.wt j y q h1 h2).mod hM fun k h3 h4 => hj (h.one j i k h4 h3)
 · by_cases hj : j = i
   · have hk : T' k := by simpa only [if_pos hj] using hk
     refine ⟨?_,hw.lt k hk,fun hn => ?_⟩
     · rcases hT k hk with h3 | h3
       · exact (h.low i k h3).1
       · omega
     · rcases hT k hk with h3 | h3
       · exact (h.low i k h3).2.2 hn
       · have := hN k hn; omega
   · have hk : T j k := by simpa only [if_neg hj] using hk
     have h3 := h.low j k hk
     exact ⟨h3.1,Nat.lt_of_lt_of_le h3.2.1 hM.size,h3.2.2⟩
 · have key : ∀ a b,a = i → ¬ b = i → T' k → T b k → False := fun a b _ hb h1 h2 => by
    rcases hT k h1 with h3 | h3
    · exact hb (h.one b i k h2 h3)
    · have := (h.low b k h2).2.1; omega
   by_cases ha : a = i <;> by_cases hb : b = i
   · rw [ha,hb]
   · exact (key a b ha hb (by simpa only [if_pos ha] using h1) (by simpa only [if_neg hb] using h2)).elim
   · exact (key b a hb ha (by simpa only [if_pos hb] using h2) (by simpa only [if_neg ha] using h1)).elim
   · exact h.one a b k (by simpa only [if_neg ha] using h1) (by simpa only [if_neg hb] using h2)
end
def Qhu (A:Option Addr) : Nat → Prop := fun k => A.map (·.block) = some k
set_option maxHeartbeats 2000000 in
theorem Qqi (c:Cfg) (parts:List Prt) (A:Option Addr) (cp:Nat) (w:World) (hg0:Gl w) (hs:Sl paC 1 w A parts) (hn:parts.length < 1000) (hp:∀ x ∈ parts,SlE w x.2.1 x.1 ∧ x.1.length < 1000000 ∧ ∀ e ∈ x.1,e.text.size < 4000000000) :
 Cal Tryz.prog 7 [Q02 c,.slice A parts.length cp] w fun r w' => Ext w w' ∧
  (((∃ x ∈ parts,(Qjv c && x.1.all Xj) = false) ∧ r = .tuple #[.slice none 0 0,.int .i64 1]) ∨
   ((∀ x ∈ parts,(Qjv c && x.1.all Xj) = true) ∧ ∃ W A' c',r = .tuple #[.slice A' W.length c',.int .i64 0] ∧ Own Q6y 1 33 w.heap.size w' A' c' W ∧ ∃ T,Beside w' w.heap.size c (Qhu A') parts W T)) := by
 refine Fi Tryz.func7 rfl _ rfl rfl ?_;conv=>whnf
 intro b1 w1 hn1; (conv=>whnf);repeat(refine Sg ?_;(conv=>whnf))
 have h1 : At w1 b1 23 (Qni c) := hn1.At
 have hx1 := hn1.ext
 have z1 := hx1.size
 clear hn1
 refine Qg Qa (fun (q:Nat × Option Addr × Nat × List Nat) w' => q.1 ≤ parts.length ∧ Ext w1 w' ∧ Own Q6y 1 33 w1.heap.size w' q.2.1 q.2.2.1 q.2.2.2 ∧ (∃ T,Beside w' w.heap.size c (Qhu q.2.1) (parts.take q.1) q.2.2.2 T) ∧ ∀ x ∈ parts.take q.1,(Qjv c && x.1.all Xj) = true)
  (fun | (k,B,d,W) => [(2,.pointer (some ⟨b1,0,none⟩)),(6,.slice B W.length d),(11,.slice A parts.length cp),(12,.int .i64 parts.length),(13,.int .i64 (k:Nat))]) (fun q => parts.length - q.1) (0,none,0,[]) ⟨Nat.zero_le _,Ext.refl _,Own.nil,⟨fun _ _ => False,rfl,by simp,by simp,by simp⟩,by simp⟩ ⟨rfl,rfl,rfl,rfl,rfl,trivial⟩ ?_
 rintro ⟨k,B,d,W⟩ wa ⟨hk,hxa,hown,⟨T0,hB⟩,hall⟩
 simp only at hk hown hB hall
 have hWk : W.length = k := by rw [hB.len,List.length_take]; omega
 have hx0a := hx1.trans hxa
 (conv=>whnf);repeat(refine Sg ?_;(conv=>whnf))
 constructor
 · intro hlt
   have hlt : k < parts.length := by simpa using hlt
   obtain ⟨ax,hAx,hcx⟩ := (hs.ext hx0a).get hlt
   obtain ⟨hp1,hp2,hp3⟩ := hp parts[k] (List.getElem_mem hlt)
   have hmem := List.getElem_mem hlt
   have htk := List.take_succ_eq_append_getElem hlt
   generalize parts[k] = x at hcx hp1 hp2 hp3 hmem htk
   (conv=>whnf);repeat(refine Sg ?_;(conv=>whnf))
   refine ⟨ax,⟨hAx,by omega,by omega⟩,?_⟩; (conv=>whnf);repeat(refine Sg ?_;(conv=>whnf))
   refine ⟨.slice x.2.1 x.1.length x.2.2,Qv hcx,?_⟩; (conv=>whnf);repeat(refine Sg ?_;(conv=>whnf))
   refine ⟨Qni c,⟨rfl,(h1.ext hxa).all⟩,?_⟩; (conv=>whnf);repeat(refine Sg ?_;(conv=>whnf))
   refine (Qoa c x.1 x.2.1 x.2.2 wa (hg0.ext hx0a) (hp1.ext hx0a) hp2 hp3).mono ?_
   rintro _ wb ⟨pp,e,rfl,hxb,hor⟩
   have hx0b := hx0a.trans hxb
   rcases hor with ⟨hf,rfl,rfl⟩ | ⟨ht,rfl,b,T',rfl,hW,hT⟩
   · (conv=>whnf);repeat(refine Sg ?_;(conv=>whnf))
     constructor
     · intro _
       (conv=>whnf);repeat(refine Sg ?_;(conv=>whnf))
       exact ⟨hx0b,.inl ⟨⟨x,hmem,hf⟩,rfl⟩⟩
     · intro h; simp at h
   · (conv=>whnf);repeat(refine Sg ?_;(conv=>whnf))
     constructor
     · intro h; simp at h
     intro _
     (conv=>whnf);repeat(refine Sg ?_;(conv=>whnf))
     intro be we hne; (conv=>whnf);repeat(refine Sg ?_;(conv=>whnf))
     refine Qcl Qz1 (l := W) (news := [b]) rfl ((hown.ext hxb).ext hne.ext) rfl (Qz1.new1 (x := b) hne) (by simp; omega) ((hxa.trans hxb).trans hne.ext).size fun Af cf wf hownf hgf hAf => ?_
     have hxf := Qag ((hxa.trans hxb).trans hne.ext) hgf (Qg3 ((hown.ext hxb).ext hne.ext))
     have hM := Qan (S := Qhu B) hgf fun j h => h
     have hBl : ∀ j,Qhu B j → j < wa.heap.size := fun j h => by
      obtain ⟨a,ha,rfl⟩ := Option.map_eq_some_iff.1 h
      exact (hown.block ha).2
     have sb := hxb.size
     have se := hne.ext.size
     have s0a := hx0a.size
     have hno : ∀ j,j < we.heap.size → ¬ Qhu B j → ¬ Qhu Af j := fun j hj hn h => by
      rcases hAf with hA | hA | hA
      · rw [hA] at h; exact hn h
      · exact hn (hA.symm.trans h)
      · have : some we.heap.size = some j := hA.symm.trans h
        have : we.heap.size = j := by simpa using this
        omega
     have hTl := hW.lt
     have hBf := hB.keep (w1 := wf) (N' := Qhu Af) fun i j hj => by
      obtain ⟨q1,q2,q3⟩ := hB.low i j hj
      exact ⟨(hM.block j (by omega) q3).trans ((hxb.trans hne.ext).block j q2),hno j (by omega) q3⟩
     have hWf := (hW.ext hne.ext).mod hM fun j h1 h2 => by have := hBl j h1; have := hT j h2; omega
     have hP := hBf.push hWf fun j hj => ⟨by have := hT j hj; omega,hno j (by have := hTl j hj; omega) fun h => by have := hBl j h; have := hT j hj; omega,fun i h => by have := (hB.low i j h).2.1; have := hT j hj; omega⟩
     rw [← htk] at hP
     have hW1 : (W ++ [b]).length = k + 1 := by simp [hWk]
     generalize W ++ [b] = W2 at hownf hP hW1 ⊢
     (conv=>whnf);repeat(refine Sg ?_;(conv=>whnf))
     refine ⟨_,wrap_succ (by omega),?_⟩; (conv=>whnf);repeat(refine Sg ?_;(conv=>whnf))
     refine ⟨(k + 1,Af,cf,W2),by simp only; omega,⟨by simp only; omega,hxf,hownf,⟨_,hP⟩,fun y hy => ?_⟩,⟨rfl,rfl,rfl,rfl,rfl,trivial⟩⟩
     have hy : y ∈ parts.take (k + 1) := hy
     rw [htk] at hy
     rcases List.mem_append.1 hy with hy | hy
     · exact hall y hy
     · rw [List.mem_singleton.1 hy]; exact ht
 · intro hge
   have hge : parts.length ≤ k := by simpa using hge
   rw [List.take_of_length_le hge] at hB hall
   (conv=>whnf);repeat(refine Sg ?_;(conv=>whnf))
   exact ⟨hx0a,.inr ⟨hall,W,B,d,rfl,hown.base z1,T0,hB⟩⟩
end Go.Proofs.YteabekcdcphjpaaGreatDoor
