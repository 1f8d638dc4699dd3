import Derived.Test.YtopncieoolkhjaaGreatDoorGU
import Derived.Test.YtopncieoolkhjaaGreatDoorHLr4
/- The law TopWithout. -/
set_option linter.unusedVariables false
set_option linter.unusedSimpArgs false
namespace Go.Proofs.YtopncieoolkhjaaGreatDoor
open Go.Se Go.RowKit
set_option maxHeartbeats 8000000 in
theorem topWithout_spec (bs:List Nat) (A:Option Addr) (cp who thing:Nat) (w:World) (hg0:Gl w) (hkn:Qva w) (hs:Sl u8C 1 w A bs) (hb:∀ x ∈ bs,x < 256) :
 Cal Tryz.prog 3 [.slice A bs.length cp,.int .u8 (who:Nat),.int .u8 (thing:Nat)] w fun r w' => r = .bool true ∧ Ext w w' := by
 have hsz := hg0.size
 obtain ⟨P,hP⟩ : ∃ P,Q7a[who % 4]? = some P := ⟨_,List.getElem?_eq_getElem (show who % 4 < 4 by omega)⟩
 obtain ⟨I,hI⟩ : ∃ I,Q58[thing % 6]? = some I := ⟨_,List.getElem?_eq_getElem (show thing % 6 < 6 by omega)⟩
 refine Fi Tryz.func3 rfl _ rfl rfl ?_;conv=>whnf
 refine (Ql4 bs A cp w hg0 hkn hs hb).mono ?_
 rintro _ w1 ⟨hx1,rfl | ⟨c,every,seed,B,d,l,t,rfl,hcf,hap,hl,ht,hsl⟩⟩
 · (conv=>whnf);repeat(refine Sg ?_;(conv=>whnf))
   intro p8 w2 hn2; (conv=>whnf);repeat(refine Sg ?_;(conv=>whnf))
   refine Qc Qa (e := ty32) rfl hn2.At rfl rfl rfl (by simp [Qg,ty32,Value.oneCell']) fun w3 g8 ho3 => ?_
   have hx := hx1.trans (ho3.ext hn2.ext (by rw [hn2.block]; exact Nat.le_refl _))
   clear ho3 hn2 g8
   (conv=>whnf);repeat(refine Sg ?_;(conv=>whnf))
   refine (Qb3 w3 (hg0.ext hx) (hkn.ext hx)).mono ?_
   rintro _ w4 ⟨rfl,hx4⟩; (conv=>whnf);repeat(refine Sg ?_;(conv=>whnf))
   constructor
   · intro _
     (conv=>whnf);repeat(refine Sg ?_;(conv=>whnf))
     refine (Qb3 w4 (hg0.ext (hx.trans hx4)) (hkn.ext (hx.trans hx4))).mono ?_
     rintro _ w5 ⟨rfl,hx5⟩; (conv=>whnf);repeat(refine Sg ?_;(conv=>whnf))
     exact ⟨rfl,(hx.trans hx4).trans hx5⟩
   · intro h
     simp at h
 (conv=>whnf);repeat(refine Sg ?_;(conv=>whnf))
 intro p8 w2 hn2; (conv=>whnf);repeat(refine Sg ?_;(conv=>whnf))
 refine Qc Qa (e := ty32) rfl hn2.At rfl rfl rfl (by simp [Qg,Qah,Value.oneCell']) fun w3 g8 ho3 => ?_
 have g8 : At w3 p8 32 (Qah c (Qbv 6) every seed) := g8
 have hx13 : Ext w1 w3 := ho3.ext hn2.ext (by rw [hn2.block]; exact Nat.le_refl _)
 have hx := hx1.trans hx13
 replace hsl := hsl.ext hx13
 clear ho3 hn2 hx13 hx1
 (conv=>whnf);repeat(refine Sg ?_;(conv=>whnf))
 refine (Qb3 w3 (hg0.ext hx) (hkn.ext hx)).mono ?_
 rintro _ w4 ⟨rfl,hx4⟩
 replace hx := hx.trans hx4
 replace hsl := hsl.ext hx4
 replace g8 := g8.ext hx4
 clear hx4 hs hb
 (conv=>whnf);repeat(refine Sg ?_;(conv=>whnf))
 constructor
 · intro h
   simp at h
 intro _
 have hcfg : ∀ {w':World},At w' p8 32 (Qah c (Qbv 6) every seed) → Xk w' ⟨p8,0,none⟩ (Qo6 c) := fun h => At.sub (pre := []) (post := (Qah c (Qbv 6) every seed).drop 6) h
 have hwts : ∀ {w':World},At w' p8 32 (Qah c (Qbv 6) every seed) → Xk w' ((⟨p8,0,none⟩ : Addr).add 6) (wsC (Qbv 6)) := fun h => At.sub (pre := (Qah c (Qbv 6) every seed).take 6) (post := (Qah c (Qbv 6) every seed).drop 12) h
 have hhead : ∀ {w':World},At w' p8 32 (Qah c (Qbv 6) every seed) → w'.cell? ((⟨p8,0,none⟩ : Addr).add 5) = some (vi c.crowd) := fun h => h.one rfl
 (conv=>whnf);repeat(refine Sg ?_;(conv=>whnf))
 refine Qin (ι := Unit) (fun _ => [(7,.slice B l.length d),(8,.pointer (some ⟨p8,0,none⟩)),(9,.int .i64 t),(11,.string P),(12,.string I)]) (fun _ w' => Ext w4 w') ?_ ?_
 · refine Qfb (.ext) (Pl.seq [1,2,6,7] (Pl.two 0 (Pl.seq [3,4,10,5,8,9,11] Pl.done) 5 (Pl.seq [8,9,0,3,4,10,11] Pl.done))) (by intro h; cases h) Qa mixed (by kernel_rfl) ?_;conv=>whnf
   have hxd : Ext w4 w4.drew := (Ext.refl w4).drew
   generalize w4.drew = w5 at hxd ⊢
   refine ⟨((who % 4 : Nat) : Int),tmn (b := 4) (by decide),?_⟩;conv=>whnf
   refine ⟨((thing % 6 : Nat) : Int),tmn (b := 6) (by decide),?_⟩;conv=>whnf
   refine ⟨?_,?_⟩
   · refine (Qeu w5).mono ?_
     rintro _ w6 ⟨rfl,ha,hx6⟩
     refine ⟨hx6,?_⟩;conv=>whnf
     refine ⟨⟨w5.heap.size,0,none⟩,⟨rfl,by omega,by omega⟩,?_⟩;conv=>whnf
     refine ⟨.string P,Qgq ha hP,?_⟩;conv=>whnf
     intro b7 w7 hn7
     have hi : At w7 b7 9 (Q58.map Value.string) := hn7.At
     refine ⟨hn7.ext,?_⟩;conv=>whnf
     refine ⟨⟨b7,0,none⟩,⟨rfl,by omega,by omega⟩,?_⟩;conv=>whnf
     refine ⟨.string I,Qgq hi hI,?_⟩;conv=>whnf
     exact ⟨(),(hxd.trans hx6).trans hn7.ext,⟨rfl,rfl,rfl,rfl,rfl,trivial⟩⟩
   · intro b7 w7 hn7
     have hi : At w7 b7 9 (Q58.map Value.string) := hn7.At
     refine ⟨hn7.ext,?_⟩;conv=>whnf
     refine ⟨⟨b7,0,none⟩,⟨rfl,by omega,by omega⟩,?_⟩;conv=>whnf
     refine ⟨.string I,Qgq hi hI,?_⟩;conv=>whnf
     refine (Qeu w7).mono ?_
     rintro _ w6 ⟨rfl,ha,hx6⟩
     refine ⟨hx6,?_⟩;conv=>whnf
     refine ⟨⟨w7.heap.size,0,none⟩,⟨rfl,by omega,by omega⟩,?_⟩;conv=>whnf
     refine ⟨.string P,Qgq ha hP,?_⟩;conv=>whnf
     exact ⟨(),(hxd.trans hn7.ext).trans hx6,⟨rfl,rfl,rfl,rfl,rfl,trivial⟩⟩
 rintro _ w5 hx5
 replace hx := hx.trans hx5
 replace hsl := hsl.ext hx5
 replace g8 := g8.ext hx5
 clear hx5 hP hI
 (conv=>whnf);repeat(refine Sg ?_;(conv=>whnf))
 refine ⟨Qo6 c,⟨rfl,hcfg g8⟩,?_⟩; (conv=>whnf);repeat(refine Sg ?_;(conv=>whnf))
 refine (Qko c hcf l B d w5 (hg0.ext hx) hsl (by omega) hap.may).mono ?_
 rintro _ w6 ⟨p,rfl,hW,hx6⟩
 obtain ⟨T,hWT,hT⟩ := hW.t
 have hxo := hx6
 have s5 := hx.size
 have hTw : ∀ k,T k → w.heap.size ≤ k := fun k hk => by have := hT k hk; omega
 replace hx := hx.trans hx6
 have hzm : ∀ e ∈ Qe5 l,Xy e = true := fun e he => hap.may e (Qm3 he)
 have hzr := Qjt hap.may
 have hzl := Qgz l
 have hfil := fun q => hap.anew_filter q
 clear hW hx6
 generalize Qe5 l = z at hWT hzm hzr hzl hfil
 have hok : Q3z c z := ⟨hcf,by omega⟩
 (conv=>whnf);repeat(refine Sg ?_;(conv=>whnf))
 constructor
 · intro h
   simp at h
 intro _
 (conv=>whnf);repeat(refine Sg ?_;(conv=>whnf))
 intro b15 w7 hn7; (conv=>whnf);repeat(refine Sg ?_;(conv=>whnf))
 have hE : Qjr w7 b15 [] := ⟨[],MapAt.new hn7,fun x => rfl⟩
 have e15 := hn7.block
 have hTl6 := hWT.lt
 have hT15 : ¬ T b15 := fun h => by have := hTl6 _ h; omega
 have s6 := hxo.size
 have n15 : w5.heap.size ≤ b15 := by omega
 replace hxo := hxo.trans hn7.ext
 replace hx := hx.trans hn7.ext
 replace hWT := hWT.ext hn7.ext
 clear hn7 hTl6
 refine ⟨wsC (Qbv 6),⟨rfl,hwts (g8.ext hxo)⟩,?_⟩; (conv=>whnf);repeat(refine Sg ?_;(conv=>whnf))
 refine (Qcx hWT hok (hg0.ext hx) (fun k hk => by have := hTw k hk; omega) (Qbv 6) P I t).mono ?_
 rintro _ w8 ⟨A1,c1,A2,c2,T8,rfl,_,hown2,_,_,hA2,_,hT8,hM8⟩
 have l15 := hE.lt
 replace hE := hE.keep (hM8.block b15 l15 hT15)
 replace hx := Qdf hx hTw hM8
 replace hxo := Qdf hxo hT hM8
 have hs2 := hown2.sl Qa5
 have hb2 : ∀ x,A2 = some x → x.block ≠ b15 := fun x hx => by have := (hown2.block hx).1; omega
 have hl2 : ∀ x,A2 = some x → x.block < w8.heap.size := fun x hx => (hown2.block hx).2
 have hrl := fun k hk => Qzs (c := c) (z := z) P I t hzr hzm k hk
 have hOl := Q4u c z P I t
 generalize Qli (Qot (Qzr c z P I t) (Qbv 6) 6) = tt
 generalize Qpf c z I = ff
 generalize Qn2 c z P I t = O at hs2 hrl hOl ⊢
 clear hown2 hM8 hWT hA2 hT8 hT15
 (conv=>whnf);repeat(refine Sg ?_;(conv=>whnf))
 refine Qj Qa (fun (k:Nat) w' => k ≤ O.length ∧ Qjr w' b15 (O.take k) ∧ Mod (fun k => k = b15) w8 w')
  (fun k => [(7,.slice B l.length d),(8,.pointer (some ⟨p8,0,none⟩)),(9,.int .i64 t),(11,.string P),(12,.string I),(15,.map (some b15)),(64,.slice A2 O.length c2),(65,.int .i64 O.length),(66,.int .i64 (k:Nat))]) (fun k => O.length - k) 0 ⟨Nat.zero_le _,hE,Mod.refl _ _⟩ ⟨rfl,rfl,rfl,rfl,rfl,rfl,rfl,rfl,rfl,trivial⟩ ?_
 rintro k w9 ⟨hk,hE9,hM9⟩
 conv=>whnf
 constructor
 · intro hlt
   have hlt : k < O.length := by simpa using hlt
   obtain ⟨a7,rfl,hc7⟩ := (Qbb hs2 fun x hx => hM9.block x.block (hl2 x hx) (hb2 x hx)).get hlt
   have htk := Qck O k hlt
   generalize O[k] = e at hc7 htk
   (conv=>whnf);repeat(refine Sg ?_;(conv=>whnf))
   refine ⟨a7,⟨rfl,by omega,by omega⟩,?_⟩; (conv=>whnf);repeat(refine Sg ?_;(conv=>whnf))
   refine ⟨evC e,⟨rfl,hc7⟩,?_⟩; (conv=>whnf);repeat(refine Sg ?_;(conv=>whnf))
   intro ba wa hna; (conv=>whnf);repeat(refine Sg ?_;(conv=>whnf))
   refine Qc Qa (e := ty49) rfl hna.At rfl rfl rfl (Qaw e) fun wb hb ho => ?_
   have hb : At wb ba 49 (evC e) := hb
   have hxb : Ext w9 wb := ho.ext hna.ext (by rw [hna.block]; exact Nat.le_refl _)
   clear ho hna
   obtain ⟨L,hL1,hL2⟩ := hE9.ext hxb
   (conv=>whnf);repeat(refine Sg ?_;(conv=>whnf))
   refine ⟨evC e,⟨rfl,hb.all⟩,?_⟩; (conv=>whnf);repeat(refine Sg ?_;(conv=>whnf))
   refine Qs Q6r Q3d hL1 e _ fun wc hmc hoc => ?_
   (conv=>whnf);repeat(refine Sg ?_;(conv=>whnf))
   refine ⟨_,wrap_succ (by omega),?_⟩; (conv=>whnf);repeat(refine Sg ?_;(conv=>whnf))
   refine ⟨k + 1,by omega,⟨by omega,⟨_,hmc,fun x => ?_⟩,(hM9.trans (Mod.of_ext hxb)).trans (Qh hoc rfl)⟩,⟨rfl,rfl,rfl,rfl,rfl,rfl,rfl,rfl,rfl,trivial⟩⟩
   rw [Xe,hL2 x,htk]
   by_cases h1 : x = e
   · rw [if_pos h1,if_pos (by simp [h1])]
   · rw [if_neg h1]
     simp [h1]
 intro hge
 have hge : O.length ≤ k := by simpa using hge
 rw [List.take_of_length_le hge] at hE9
 replace hx := Qdf hx (fun k hk => by rw [hk]; omega) hM9
 replace hxo := Qdf hxo (fun k hk => by rw [hk]; exact n15) hM9
 replace hsl := hsl.ext hxo
 replace g8 := g8.ext hxo
 clear hs2 hb2 hl2 hM9 hE hxo
 (conv=>whnf);repeat(refine Sg ?_;(conv=>whnf))
 refine Qj Qa (fun (q:Nat × Option Addr × Nat × List Ev) w' => q.1 ≤ l.length ∧ q.2.2.2 = (l.take q.1).filter (fun e => !decide (e ∈ O)) ∧ Own evC 8 49 w9.heap.size w' q.2.1 q.2.2.1 q.2.2.2 ∧ Ext w9 w')
  (fun | (k,B2,d2,U) => [(8,.pointer (some ⟨p8,0,none⟩)),(9,.int .i64 t),(11,.string P),(12,.string I),(15,.map (some b15)),(18,.slice B2 U.length d2),(73,.slice B l.length d),(74,.int .i64 l.length),(75,.int .i64 (k:Nat))]) (fun q => l.length - q.1) (0,none,0,[]) ⟨Nat.zero_le _,rfl,Own.nil,Ext.refl _⟩ ⟨rfl,rfl,rfl,rfl,rfl,rfl,rfl,rfl,rfl,trivial⟩ ?_
 rintro ⟨k,B2,d2,U⟩ wd ⟨hk,hU,hown,hxd⟩
 simp only at hk hU hown
 have hUl : U.length ≤ k := by
  rw [hU]
  have := List.length_filter_le (fun e => !decide (e ∈ O)) (l.take k)
  rw [List.length_take] at this
  omega
 conv=>whnf
 constructor
 · intro hlt
   have hlt : k < l.length := by simpa using hlt
   obtain ⟨a9,rfl,hc9⟩ := (hsl.ext hxd).get hlt
   have htk := Qck l k hlt
   generalize l[k] = e at hc9 htk
   have hsn : (l.take (k + 1)).filter (fun e => !decide (e ∈ O)) = U ++ if e ∈ O then [] else [e] := by
    rw [htk,hU,List.filter_append]
    by_cases h : e ∈ O <;> simp [h]
   (conv=>whnf);repeat(refine Sg ?_;(conv=>whnf))
   refine ⟨a9,⟨rfl,by omega,by omega⟩,?_⟩; (conv=>whnf);repeat(refine Sg ?_;(conv=>whnf))
   refine ⟨evC e,⟨rfl,hc9⟩,?_⟩; (conv=>whnf);repeat(refine Sg ?_;(conv=>whnf))
   intro be we hne; (conv=>whnf);repeat(refine Sg ?_;(conv=>whnf))
   refine Qc Qa (e := ty49) rfl hne.At rfl rfl rfl (Qaw e) fun wf hf ho => ?_
   have hf : At wf be 49 (evC e) := hf
   have hxf : Ext wd wf := ho.ext hne.ext (by rw [hne.block]; exact Nat.le_refl _)
   clear ho hne
   replace hxd := hxd.trans hxf
   replace hown := hown.ext hxf
   (conv=>whnf);repeat(refine Sg ?_;(conv=>whnf))
   refine ⟨evC e,⟨rfl,hf.all⟩,?_⟩; (conv=>whnf);repeat(refine Sg ?_;(conv=>whnf))
   refine ⟨_,Qvv (hE9.ext hxd) e,?_⟩; (conv=>whnf);repeat(refine Sg ?_;(conv=>whnf))
   constructor
   · intro hq
     have hq : ¬ e ∈ O := by simpa using hq
     rw [if_neg hq] at hsn
     (conv=>whnf);repeat(refine Sg ?_;(conv=>whnf))
     refine ⟨evC e,⟨rfl,hf.all⟩,?_⟩; (conv=>whnf);repeat(refine Sg ?_;(conv=>whnf))
     intro bg wg hng; (conv=>whnf);repeat(refine Sg ?_;(conv=>whnf))
     refine X4 Qoa (l := U) (news := [e]) rfl (hown.ext hng.ext) rfl (Qoa.new1 (x := e) hng) (by simp; omega) (hxd.trans hng.ext).size fun A13 c13 w13 hown13 hg13 hA13 => ?_
     have hx13 := Xo (hxd.trans hng.ext) hg13 (Qdu (hown.ext hng.ext))
     generalize U ++ [e] = U2 at hown13 hsn ⊢
     (conv=>whnf);repeat(refine Sg ?_;(conv=>whnf))
     refine ⟨_,wrap_succ (by omega),?_⟩; (conv=>whnf);repeat(refine Sg ?_;(conv=>whnf))
     exact ⟨(k + 1,A13,c13,U2),by simp only; omega,⟨by simp only; omega,hsn.symm,hown13,hx13⟩,⟨rfl,rfl,rfl,rfl,rfl,rfl,rfl,rfl,rfl,trivial⟩⟩
   · intro hq
     have hq : e ∈ O := by simpa using hq
     rw [if_pos hq,List.append_nil] at hsn
     (conv=>whnf);repeat(refine Sg ?_;(conv=>whnf))
     refine ⟨_,wrap_succ (by omega),?_⟩; (conv=>whnf);repeat(refine Sg ?_;(conv=>whnf))
     exact ⟨(k + 1,B2,d2,U),by simp only; omega,⟨by simp only; omega,hsn.symm,hown,hxd⟩,⟨rfl,rfl,rfl,rfl,rfl,rfl,rfl,rfl,rfl,trivial⟩⟩
 intro hge
 have hge : l.length ≤ k := by simpa using hge
 rw [List.take_of_length_le hge] at hU
 have hUa := hfil fun e => !decide (e ∈ O)
 have hapU := hap.filter fun e => !decide (e ∈ O)
 rw [← hU] at hUa hapU
 have hUz := Qgz U
 rw [← hUa] at hrl
 replace hx := hx.trans hxd
 replace g8 := g8.ext hxd
 have hsU := hown.sl Qa5
 clear hown hE9 hsl hxd hU hfil hzm hzr hap
 (conv=>whnf);repeat(refine Sg ?_;(conv=>whnf))
 refine ⟨Qo6 c,⟨rfl,hcfg g8⟩,?_⟩; (conv=>whnf);repeat(refine Sg ?_;(conv=>whnf))
 refine (Qko c hcf U B2 d2 wd (hg0.ext hx) hsU (by omega) hapU.may).mono ?_
 rintro _ we ⟨p2,rfl,hW2,hx2⟩
 obtain ⟨T2,hWT2,hT2⟩ := hW2.t
 have s2 := hx.size
 have hTw2 : ∀ k,T2 k → w.heap.size ≤ k := fun k hk => by have := hT2 k hk; omega
 replace hx := hx.trans hx2
 clear hW2 hT2 hx2
 generalize Qe5 U = y at hWT2 hrl hUz
 have hok2 : Q3z c y := ⟨hcf,by omega⟩
 (conv=>whnf);repeat(refine Sg ?_;(conv=>whnf))
 have r1 := hrl 1 (.inl rfl)
 have r2 := hrl 2 (.inr (.inl rfl))
 have r4 := hrl 4 (.inr (.inr rfl))
 refine ⟨Unit,fun _ => .int .i64 0,fun _ w' => Mod T2 we w' ∧ ∃ T',WT w' T' p2 c y ∧ ∀ k,T' k → T2 k ∨ we.heap.size ≤ k,(),fun _ => (Qhu hWT2 hok2 (hg0.ext hx) P I t 1).mono fun r w' h => ⟨(),by rw [← r1]; exact h.1,h.2⟩,?_⟩
 intro _ wf h2
 have h2 : Mod T2 we wf ∧ ∃ T',WT wf T' p2 c y ∧ ∀ k,T' k → T2 k ∨ we.heap.size ≤ k := by
  rcases h2 with ⟨_,h⟩ | ⟨_,h⟩
  · exact h
  · rw [h]; exact ⟨Mod.refl _ _,T2,hWT2,fun k hk => .inl hk⟩
 obtain ⟨hMf,T3,hWT3,hT3⟩ := h2
 have se := hx.size
 have hTw3 : ∀ k,T3 k → w.heap.size ≤ k := fun k hk => (hT3 k hk).elim (hTw2 k) fun h => by omega
 replace hx := Qdf hx hTw2 hMf
 clear hMf hT3 hWT2 hTw2
 conv=>whnf
 refine ⟨Unit,fun _ => .int .i64 0,fun _ w' => Mod T3 wf w' ∧ ∃ T',WT w' T' p2 c y ∧ ∀ k,T' k → T3 k ∨ wf.heap.size ≤ k,(),fun _ => (Qhu hWT3 hok2 (hg0.ext hx) P I t 2).mono fun r w' h => ⟨(),by rw [← r2]; exact h.1,h.2⟩,?_⟩
 intro _ wg h2
 have h2 : Mod T3 wf wg ∧ ∃ T',WT wg T' p2 c y ∧ ∀ k,T' k → T3 k ∨ wf.heap.size ≤ k := by
  rcases h2 with ⟨_,h⟩ | ⟨_,h⟩
  · exact h
  · rw [h]; exact ⟨Mod.refl _ _,T3,hWT3,fun k hk => .inl hk⟩
 obtain ⟨hMg,T4,hWT4,hT4⟩ := h2
 have sf := hx.size
 have hTw4 : ∀ k,T4 k → w.heap.size ≤ k := fun k hk => (hT4 k hk).elim (hTw3 k) fun h => by omega
 replace hx := Qdf hx hTw3 hMg
 clear hMg hT4 hWT3 hTw3
 conv=>whnf
 refine ⟨Unit,fun _ => .int .i64 0,fun _ w' => Mod T4 wg w',(),fun _ => (Qhu hWT4 hok2 (hg0.ext hx) P I t 4).mono fun r w' h => ⟨(),by rw [← r4]; exact h.1,h.2.1⟩,?_⟩
 intro _ wh h2
 have h2 : Mod T4 wg wh := by
  rcases h2 with ⟨_,h⟩ | ⟨_,h⟩
  · exact h
  · rw [h]; exact Mod.refl _ _
 replace hx := Qdf hx hTw4 h2
 (conv=>whnf);repeat(refine Sg ?_;(conv=>whnf))
 exact ⟨by simp,hx⟩
theorem topWithoutI_spec (bs:List Nat) (A:Option Addr) (cp:Nat) (who thing:Int) (h1:0 ≤ who) (h2:0 ≤ thing) (w:World) (hg0:Gl w) (hkn:Qva w) (hs:Sl u8C 1 w A bs) (hb:∀ x ∈ bs,x < 256) :
 Cal Tryz.prog 3 [.slice A bs.length cp,.int .u8 who,.int .u8 thing] w fun r w' => r = .bool true ∧ Ext w w' := by
 obtain ⟨m,rfl⟩ := Int.eq_ofNat_of_zero_le h1
 obtain ⟨n,rfl⟩ := Int.eq_ofNat_of_zero_le h2
 exact topWithout_spec bs A cp m n w hg0 hkn hs hb
end Go.Proofs.YtopncieoolkhjaaGreatDoor
