import Derived.Test.YtnnnbjjenknpeaaGreatDoorHLr1
import Derived.Test.YtnnnbjjenknpeaaGreatDoorHRs4
/- The law ReasonWithout. -/
set_option linter.unusedVariables false
set_option linter.unusedSimpArgs false
namespace Go.Proofs.YtnnnbjjenknpeaaGreatDoor
open Go.Se Go.RowKit
theorem Q8m : Tryz.prog.underlying 54 = some (.map 53 4) := by kernel_rfl
theorem Q4z : Qsd Tryz.prog 53 evV :=
 Qgb (encl := evC) Qa st53 (fun k => rfl)
  (fun a b => by
   show some (decide (a.src = b.src) && (decide (a.num = b.num) && (decide (a.at_ = b.at_) && (decide (a.kind = b.kind) && (decide (a.person = b.person) && (decide (a.item = b.item) && (decide (a.val = b.val) && (decide (a.text = b.text) && true)))))))) = some (decide (a = b))
   congr 1
   rw [Bool.eq_iff_iff]
   simp only [Bool.and_eq_true,decide_eq_true_eq,Ev.ext_iff,and_true])
  (fun k => by simp [Instr.sameBits,evC,Go.MapKept.bytes_beq])
def Qki (w:World) (b:Nat) (O:List Ev) : Prop := ∃ L,MapAt w b evV L ∧ ∀ x,Qe L x = if x ∈ O then some (.bool true) else none
theorem Qki.keep {w w1:World} {b:Nat} {O:List Ev} (h:Qki w b O) (hk:w1.heap[b]? = w.heap[b]?) : Qki w1 b O := by
 obtain ⟨L,h1,h2⟩ := h
 exact ⟨L,h1.keep hk,h2⟩
theorem Qki.lt {w:World} {b:Nat} {O:List Ev} (h:Qki w b O) : b < w.heap.size := by
 obtain ⟨L,h1,h2⟩ := h
 exact h1.lt
theorem Qki.ext {w w1:World} {b:Nat} {O:List Ev} (h:Qki w b O) (hx:Ext w w1) : Qki w1 b O := h.keep (hx.block b h.lt)
theorem Qxf {w:World} {b:Nat} {O:List Ev} (h:Qki w b O) (x:Ev) : RdS Tryz.prog .same w (Instr.lookup 54 (.map (some b)) (evV x) false) (.bool (decide (x ∈ O))) := by
 obtain ⟨L,h1,h2⟩ := h
 have := Qav Q8m Q4z (e := ty4) ty4_ok (cl := .same) Qp h1 x
 rw [h2 x] at this
 by_cases hx : x ∈ O
 · rw [if_pos hx] at this
   rw [decide_eq_true hx]
   exact this
 · rw [if_neg hx] at this
   rw [decide_eq_false hx]
   exact this
theorem Q1j {c:Cfg} {z:List Ev} (person item:ByteArray) (now:Int) (hr:Rise z) (hm:∀ e ∈ z,Xp e = true) (k:Nat) (hk:k = 1 ∨ k = 2 ∨ k = 4) : Q36 c (z.filter fun e => !decide (e ∈ Qj8 c z person item now)) person item now k = 0 := by
 have h := Q37 (c := c) (person := person) (item := item) (now := now) hr hm (by unfold Qs7; omega) k hk
 unfold Qgp at h
 unfold Q36
 rw [Int.toNat_natCast,h]
 split <;> rfl
set_option maxHeartbeats 2000000 in
theorem reasonWithout_spec (c:Cfg) (l:List Ev) (a:Nat → Int) (person item:ByteArray) (now:Int) (A:Option Addr) (cap:Nat) (w:World) (hg0:Gl w) (hs:SlE w A l) :
 Cal Tryz.prog 5 [.agg (plC c A l.length cap a person item now).toArray] w fun r w' => r = .bool true ∧ Ext w w' := by
 have hsz := hg0.size
 refine Fi Tryz.func5 rfl _ rfl rfl ?_;conv=>whnf
 intro b1 w1 hn1; (conv=>whnf);repeat(refine Sg ?_;(conv=>whnf))
 have h1 : At w1 b1 28 (plC c A l.length cap a person item now) := hn1.At
 have hx := hn1.ext
 have g1 : w.heap.size ≤ b1 := by rw [hn1.block]; exact Nat.le_refl _
 clear hn1
 refine ⟨plC c A l.length cap a person item now,⟨rfl,h1.all⟩,?_⟩; (conv=>whnf);repeat(refine Sg ?_;(conv=>whnf))
 refine (Qj1 c l A cap a person item now w1 (hs.ext hx)).mono ?_
 rintro _ w2 ⟨rfl,hx2⟩
 replace h1 := h1.ext hx2
 replace hx := hx.trans hx2
 clear hx2
 generalize hq : Q5z c l person item = q
 (conv=>whnf);repeat(refine Sg ?_;(conv=>whnf))
 constructor
 · intro hc
   (conv=>whnf);repeat(refine Sg ?_;(conv=>whnf))
   refine (Qab w2 (hg0.ext hx)).mono ?_
   rintro _ w3 ⟨rfl,hx3⟩; (conv=>whnf);repeat(refine Sg ?_;(conv=>whnf))
   exact ⟨rfl,hx.trans hx3⟩
 intro hc
 have hc : q = true := by simpa using hc
 subst hc
 obtain ⟨hcf,hl,hm⟩ := Qvo hq
 clear hq
 (conv=>whnf);repeat(refine Sg ?_;(conv=>whnf))
 refine ⟨plC c A l.length cap a person item now,⟨rfl,h1.all⟩,?_⟩; (conv=>whnf);repeat(refine Sg ?_;(conv=>whnf))
 refine (Qj7 c l A cap a person item now w2 (hg0.ext hx) (hs.ext hx) hcf (by omega) hm).mono ?_
 rintro _ w3 ⟨p,T,rfl,hWT,hT,hx3⟩
 have l1 := h1.lt
 have g2 := hx.size
 have hTb : ¬ T b1 := fun h => by have := hT _ h; omega
 have hTw : ∀ k,T k → w.heap.size ≤ k := fun k hk => by have := hT k hk; omega
 replace h1 := h1.ext hx3
 replace hx := hx.trans hx3
 have hTb' := hTb
 clear hx3 hT hs
 have hzl := Qf6 l
 have hzm : ∀ e ∈ Qbn l,Xp e = true := fun e he => hm e (Qjy he)
 have hzr := Qkj hm
 have hless := fun q => Qzk hm q
 generalize Qbn l = z at hWT hzl hzm hzr hless
 have hok : Q2t c z := ⟨hcf,by omega⟩
 obtain ⟨v0,T0,hQ0,_⟩ := id hWT
 (conv=>whnf);repeat(refine Sg ?_;(conv=>whnf))
 refine ⟨_,Xm Qy3 _ _ _,?_⟩; (conv=>whnf);repeat(refine Sg ?_;(conv=>whnf))
 constructor
 · intro h; simp at h
 intro _
 (conv=>whnf);repeat(refine Sg ?_;(conv=>whnf))
 intro b4 w4 hn4; (conv=>whnf);repeat(refine Sg ?_;(conv=>whnf))
 have hE4 : Qki w4 b4 [] := ⟨[],MapAt.new hn4,fun x => rfl⟩
 have hx34 := hn4.ext
 have e4 := hn4.block
 have hTl3 := hWT.lt
 have hT4 : ¬ T b4 := fun h => by have := hTl3 _ h; omega
 have hb14 : b1 ≠ b4 := by have := h1.lt; omega
 have g4 : w.heap.size ≤ b4 := by rw [e4]; exact hx.size
 replace h1 := h1.ext hx34
 replace hx := hx.trans hx34
 replace hWT := hWT.ext hx34
 clear hn4 hx34 hQ0
 refine ⟨wsC a,⟨rfl,Qx6 h1⟩,?_⟩; (conv=>whnf);repeat(refine Sg ?_;(conv=>whnf))
 refine ⟨.string person,h1.one rfl,?_⟩; (conv=>whnf);repeat(refine Sg ?_;(conv=>whnf))
 refine ⟨.string item,h1.one rfl,?_⟩; (conv=>whnf);repeat(refine Sg ?_;(conv=>whnf))
 refine ⟨.int .i64 now,h1.one rfl,?_⟩; (conv=>whnf);repeat(refine Sg ?_;(conv=>whnf))
 refine (Qbf hWT hok (hg0.ext hx) (fun k hk => by have := hTw k hk; omega) a person item now).mono ?_
 rintro _ w5 ⟨A1,c1,A2,c2,T5,rfl,_,hown2,_,_,hA2,hW5,hT5,hM5⟩
 have s4 := hx.size
 have l1' := h1.lt
 have l4 := hE4.lt
 have hTw5 : ∀ k,T5 k → w.heap.size ≤ k := fun k hk => (hT5 k hk).elim (hTw k) fun h => by omega
 have hT51 : ¬ T5 b1 := fun h => (hT5 _ h).elim hTb' fun h => by omega
 have hT54 : ¬ T5 b4 := fun h => (hT5 _ h).elim hT4 fun h => by omega
 replace h1 := h1.mod hM5 hTb'
 replace hE4 := hE4.keep (hM5.block b4 l4 hT4)
 replace hx := Qdn hx hTw hM5
 have hs2 := hown2.sl Xu
 have hb2 : ∀ x,A2 = some x → x.block ≠ b4 := fun x hx => by have := (hown2.block hx).1; omega
 have hl2 : ∀ x,A2 = some x → x.block < w5.heap.size := fun x hx => (hown2.block hx).2
 have hrl := fun k hk => Q1j (c := c) (z := z) person item now hzr hzm k hk
 have hOl := Q05 c z person item now
 generalize Qj8 c z person item now = O at hs2 hrl hOl ⊢
 clear hown2 hM5 hWT
 (conv=>whnf);repeat(refine Sg ?_;(conv=>whnf))
 refine Qi Qa (fun (k:Nat) w' => k ≤ O.length ∧ Qki w' b4 (O.take k) ∧ Mod (fun k => k = b4) w5 w')
  (fun k => [(1,.pointer (some ⟨b1,0,none⟩)),(3,.pointer (some ⟨p,0,none⟩)),(4,.map (some b4)),(33,.slice A2 O.length c2),(34,.int .i64 O.length),(35,.int .i64 (k:Nat))]) (fun k => O.length - k) 0 ⟨Nat.zero_le _,hE4,Mod.refl _ _⟩ ⟨rfl,rfl,rfl,rfl,rfl,rfl,trivial⟩ ?_
 · rintro k w6 ⟨hk,hE6,hM6⟩
   conv=>whnf
   constructor
   · intro hlt
     have hlt : k < O.length := by simpa using hlt
     obtain ⟨a7,rfl,hc7⟩ := (Qa8 hs2 fun x hx => hM6.block x.block (hl2 x hx) (hb2 x hx)).get hlt
     have htk := Qcs O k hlt
     generalize O[k] = e at hc7 htk
     (conv=>whnf);repeat(refine Sg ?_;(conv=>whnf))
     refine ⟨a7,⟨rfl,by omega,by omega⟩,?_⟩; (conv=>whnf);repeat(refine Sg ?_;(conv=>whnf))
     refine ⟨evC e,⟨rfl,hc7⟩,?_⟩; (conv=>whnf);repeat(refine Sg ?_;(conv=>whnf))
     intro b8 w8 hn8; (conv=>whnf);repeat(refine Sg ?_;(conv=>whnf))
     refine Qc Qa (e := ty53) rfl hn8.At rfl rfl rfl (Qb9 e) fun w9 h9 ho9 => ?_
     have h9 : At w9 b8 53 (evC e) := h9
     have hx69 : Ext w6 w9 := ho9.ext hn8.ext (by rw [hn8.block]; exact Nat.le_refl _)
     clear ho9 hn8
     obtain ⟨L,hL1,hL2⟩ := hE6.ext hx69
     (conv=>whnf);repeat(refine Sg ?_;(conv=>whnf))
     refine ⟨evC e,⟨rfl,h9.all⟩,?_⟩; (conv=>whnf);repeat(refine Sg ?_;(conv=>whnf))
     refine Qw Q8m Q4z hL1 e _ fun w10 hm10 ho10 => ?_
     (conv=>whnf);repeat(refine Sg ?_;(conv=>whnf))
     refine ⟨_,wrap_succ (by omega),?_⟩; (conv=>whnf);repeat(refine Sg ?_;(conv=>whnf))
     refine ⟨k + 1,by omega,⟨by omega,⟨_,hm10,fun x => ?_⟩,(hM6.trans (Mod.of_ext hx69)).trans (Qg ho10 rfl)⟩,⟨rfl,rfl,rfl,rfl,rfl,rfl,trivial⟩⟩
     rw [Xi,hL2 x,htk]
     by_cases h1 : x = e
     · rw [if_pos h1,if_pos (by simp [h1])]
     · rw [if_neg h1]
       simp [h1]
   · intro hge
     have hge : O.length ≤ k := by simpa using hge
     rw [List.take_of_length_le hge] at hE6
     have hx6 := Qdn hx (fun k hk => by rw [hk]; exact g4) hM6
     have h16 := h1.mod hM6 hb14
     have hW6 := hW5.mod hM6 fun k hk => by rw [hk]; exact hT54
     clear hs2 hb2 hl2 h1 hW5 hx hM6
     (conv=>whnf);repeat(refine Sg ?_;(conv=>whnf))
     refine (Qkv hW6).mono ?_
     rintro _ w7 ⟨A7,c7,rfl,hown7,_,hx7⟩
     replace hx6 := hx6.trans hx7
     replace h16 := h16.ext hx7
     replace hE6 := hE6.ext hx7
     have hs7 := hown7.sl Xu
     clear hown7 hx7 hW6
     (conv=>whnf);repeat(refine Sg ?_;(conv=>whnf))
     refine Qi Qa (fun (q:Nat × Option Addr × Nat × List Ev) w' => q.1 ≤ z.length ∧ q.2.2.2 = (z.take q.1).filter (fun e => !decide (e ∈ O)) ∧ Own evC 8 53 w7.heap.size w' q.2.1 q.2.2.1 q.2.2.2 ∧ Ext w7 w')
      (fun | (k,B,d,U) => [(1,.pointer (some ⟨b1,0,none⟩)),(4,.map (some b4)),(7,.slice B U.length d),(43,.slice A7 z.length c7),(44,.int .i64 z.length),(45,.int .i64 (k:Nat))]) (fun q => z.length - q.1) (0,none,0,[]) ⟨Nat.zero_le _,rfl,Own.nil,Ext.refl _⟩ ⟨rfl,rfl,rfl,rfl,rfl,rfl,trivial⟩ ?_
     rintro ⟨k,B,d,U⟩ w8 ⟨hk,hU,hown,hx8⟩
     simp only at hk hU hown
     have hUl : U.length ≤ k := by
      rw [hU]
      have := List.length_filter_le (fun e => !decide (e ∈ O)) (z.take k)
      rw [List.length_take] at this
      omega
     conv=>whnf
     constructor
     · intro hlt
       have hlt : k < z.length := by simpa using hlt
       obtain ⟨a9,rfl,hc9⟩ := (hs7.ext hx8).get hlt
       have htk := Qcs z k hlt
       generalize z[k] = e at hc9 htk
       have hsn : (z.take (k + 1)).filter (fun e => !decide (e ∈ O)) = U ++ if e ∈ O then [] else [e] := by
        rw [htk,hU,List.filter_append]
        by_cases h : e ∈ O <;> simp [h]
       (conv=>whnf);repeat(refine Sg ?_;(conv=>whnf))
       refine ⟨a9,⟨rfl,by omega,by omega⟩,?_⟩; (conv=>whnf);repeat(refine Sg ?_;(conv=>whnf))
       refine ⟨evC e,⟨rfl,hc9⟩,?_⟩; (conv=>whnf);repeat(refine Sg ?_;(conv=>whnf))
       intro b10 w10 hn10; (conv=>whnf);repeat(refine Sg ?_;(conv=>whnf))
       refine Qc Qa (e := ty53) rfl hn10.At rfl rfl rfl (Qb9 e) fun w11 h11 ho11 => ?_
       have h11 : At w11 b10 53 (evC e) := h11
       have hx811 : Ext w8 w11 := ho11.ext hn10.ext (by rw [hn10.block]; exact Nat.le_refl _)
       clear ho11 hn10
       replace hx8 := hx8.trans hx811
       replace hown := hown.ext hx811
       (conv=>whnf);repeat(refine Sg ?_;(conv=>whnf))
       refine ⟨evC e,⟨rfl,h11.all⟩,?_⟩; (conv=>whnf);repeat(refine Sg ?_;(conv=>whnf))
       refine ⟨_,Qxf (hE6.ext hx8) e,?_⟩; (conv=>whnf);repeat(refine Sg ?_;(conv=>whnf))
       constructor
       · intro hq
         have hq : ¬ e ∈ O := by simpa using hq
         rw [if_neg hq] at hsn
         (conv=>whnf);repeat(refine Sg ?_;(conv=>whnf))
         refine ⟨evC e,⟨rfl,h11.all⟩,?_⟩; (conv=>whnf);repeat(refine Sg ?_;(conv=>whnf))
         intro b12 w12 hn12; (conv=>whnf);repeat(refine Sg ?_;(conv=>whnf))
         refine Qay Qls (l := U) (news := [e]) rfl (hown.ext hn12.ext) rfl (Qls.new1 (x := e) hn12) (by simp; omega) (hx8.trans hn12.ext).size fun A13 c13 w13 hown13 hg13 hA13 => ?_
         have hx13 := Qae (hx8.trans hn12.ext) hg13 (Qfr (hown.ext hn12.ext))
         generalize U ++ [e] = U2 at hown13 hsn ⊢
         (conv=>whnf);repeat(refine Sg ?_;(conv=>whnf))
         refine ⟨_,wrap_succ (by omega),?_⟩; (conv=>whnf);repeat(refine Sg ?_;(conv=>whnf))
         exact ⟨(k + 1,A13,c13,U2),by simp only; omega,⟨by simp only; omega,hsn.symm,hown13,hx13⟩,⟨rfl,rfl,rfl,rfl,rfl,rfl,trivial⟩⟩
       · intro hq
         have hq : e ∈ O := by simpa using hq
         rw [if_pos hq,List.append_nil] at hsn
         (conv=>whnf);repeat(refine Sg ?_;(conv=>whnf))
         refine ⟨_,wrap_succ (by omega),?_⟩; (conv=>whnf);repeat(refine Sg ?_;(conv=>whnf))
         exact ⟨(k + 1,B,d,U),by simp only; omega,⟨by simp only; omega,hsn.symm,hown,hx8⟩,⟨rfl,rfl,rfl,rfl,rfl,rfl,trivial⟩⟩
     · intro hge
       have hge : z.length ≤ k := by simpa using hge
       rw [List.take_of_length_le hge] at hU
       rw [← hU] at hrl
       have hUa : Qbn U = U := by rw [hU]; exact hless _
       have hUm : ∀ e ∈ U,Xp e = true := fun e he => by rw [hU] at he; exact hzm e (List.mem_filter.1 he).1
       replace hx6 := hx6.trans hx8
       replace h16 := h16.ext hx8
       have hsU := hown.sl Xu
       clear hown hE6 hs7 hx8
       (conv=>whnf);repeat(refine Sg ?_;(conv=>whnf))
       refine ⟨Qqb c,⟨rfl,Q1c h16⟩,?_⟩; (conv=>whnf);repeat(refine Sg ?_;(conv=>whnf))
       refine (Qle c hcf U B d w8 (hg0.ext hx6) hsU (by omega) hUm).mono ?_
       rintro _ w9 ⟨p2,rfl,hW9,hx9⟩
       obtain ⟨T9,hWT9,hT9⟩ := hW9.t
       rw [hUa] at hWT9
       have l1 := h16.lt
       have s8 := hx6.size
       have hT91 : ¬ T9 b1 := fun h => by have := hT9 _ h; omega
       replace h16 := h16.ext hx9
       replace hx6 := hx6.trans hx9
       have hTw9 : ∀ k,T9 k → w.heap.size ≤ k := fun k hk => by have := hT9 k hk; omega
       clear hx9 hW9 hT9
       (conv=>whnf);repeat(refine Sg ?_;(conv=>whnf))
       refine ⟨_,fun _ => Xm Qy3 _ _ _,?_⟩; (conv=>whnf);repeat(refine Sg ?_;(conv=>whnf))
       constructor
       · intro h; simp at h
       intro _
       (conv=>whnf);repeat(refine Sg ?_;(conv=>whnf))
       intro b10 w10 hn10; (conv=>whnf);repeat(refine Sg ?_;(conv=>whnf))
       have hsw : Sl Qiv 1 w10 (some ⟨b10,0,none⟩) [1,2,4] := Qby (enc := Qiv) Qbc hn10
       have l10 : b10 < w10.heap.size := by rw [hn10.block,hn10.size]; omega
       have hT910 : ¬ T9 b10 := fun h => by have := hWT9.lt _ h; rw [hn10.block] at this; omega
       replace h16 := h16.ext hn10.ext
       replace hx6 := hx6.trans hn10.ext
       replace hWT9 := hWT9.ext hn10.ext
       clear hn10
       have hokU : Q2t c U := ⟨hcf,by omega⟩
       refine Qi Qa (fun (k:Nat) w' => k ≤ 3 ∧ Ext w w' ∧ At w' b1 28 (plC c A l.length cap a person item now) ∧ Sl Qiv 1 w' (some ⟨b10,0,none⟩) [1,2,4] ∧ b10 < w'.heap.size ∧ ∃ T,WT w' T p2 c U ∧ (∀ b,T b → w.heap.size ≤ b) ∧ ¬ T b1 ∧ ¬ T b10)
        (fun k => [(1,.pointer (some ⟨b1,0,none⟩)),(10,.pointer (some ⟨p2,0,none⟩)),(71,.slice (some ⟨b10,0,none⟩) 3 3),(72,.int .i64 3),(73,.int .i64 (k:Nat))]) (fun k => 3 - k) 0 ⟨by omega,hx6,h16,hsw,l10,T9,hWT9,hTw9,hT91,hT910⟩ ⟨rfl,rfl,rfl,rfl,rfl,trivial⟩ ?_
       clear hx6 h16 hsw l10 hWT9 hTw9 hT91 hT910
       rintro k w11 ⟨hk,hx11,h11,hs11,l11,T11,hW11,hT11,hn1,hn10⟩
       conv=>whnf
       constructor
       · intro hlt
         have hlt : k < 3 := by
          have : (k:Int) < 3 := by simpa using hlt
          omega
         obtain ⟨x,hx3,hx4⟩ : ∃ x : Nat,([1,2,4] : List Int)[k]? = some (x:Int) ∧ (x = 1 ∨ x = 2 ∨ x = 4) := by
          rcases k with _ | _ | _ | k
          · exact ⟨1,rfl,.inl rfl⟩
          · exact ⟨2,rfl,.inr (.inl rfl)⟩
          · exact ⟨4,rfl,.inr (.inr rfl)⟩
          · omega
         have hr0 := hrl x hx4
         obtain ⟨a12,ha12,hc12⟩ := hs11 k _ hx3
         injection ha12 with ha12
         subst ha12
         (conv=>whnf);repeat(refine Sg ?_;(conv=>whnf))
         refine ⟨⟨b10,0,none⟩,⟨rfl,by omega,by omega⟩,?_⟩; (conv=>whnf);repeat(refine Sg ?_;(conv=>whnf))
         refine ⟨.int .i64 (x:Nat),Xc hc12,?_⟩; (conv=>whnf);repeat(refine Sg ?_;(conv=>whnf))
         refine ⟨.string person,h11.one rfl,?_⟩; (conv=>whnf);repeat(refine Sg ?_;(conv=>whnf))
         refine ⟨.string item,h11.one rfl,?_⟩; (conv=>whnf);repeat(refine Sg ?_;(conv=>whnf))
         refine ⟨.int .i64 now,h11.one rfl,?_⟩; (conv=>whnf);repeat(refine Sg ?_;(conv=>whnf))
         refine (Qrx hW11 hokU (hg0.ext hx11) person item now x).mono ?_
         rintro _ w12 ⟨rfl,hM12,T12,hW12,hT12⟩
         rw [hr0]
         have l1 := h11.lt
         have s11 := hx11.size
         have hx12 := Qdn hx11 hT11 hM12
         (conv=>whnf);repeat(refine Sg ?_;(conv=>whnf))
         constructor
         · intro h; simp at h
         intro _
         (conv=>whnf);repeat(refine Sg ?_;(conv=>whnf))
         refine ⟨_,wrap_succ (by omega),?_⟩; (conv=>whnf);repeat(refine Sg ?_;(conv=>whnf))
         exact ⟨k + 1,by omega,⟨by omega,hx12,h11.mod hM12 hn1,Qa8 hs11 fun y hy => by injection hy with hy; subst hy; exact hM12.block b10 l11 hn10,Nat.lt_of_lt_of_le l11 hM12.size,T12,hW12,fun b hb => (hT12 b hb).elim (hT11 b) fun h => by omega,fun h => (hT12 _ h).elim hn1 fun h => by omega,fun h => (hT12 _ h).elim hn10 fun h => by omega⟩,⟨rfl,rfl,rfl,rfl,rfl,trivial⟩⟩
       · intro _
         (conv=>whnf);repeat(refine Sg ?_;(conv=>whnf))
         refine (Qab w11 (hg0.ext hx11)).mono ?_
         rintro _ w12 ⟨rfl,hx12⟩; (conv=>whnf);repeat(refine Sg ?_;(conv=>whnf))
         exact ⟨rfl,hx11.trans hx12⟩
end Go.Proofs.YtnnnbjjenknpeaaGreatDoor
