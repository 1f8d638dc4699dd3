import Derived.Test.YtopncieoolkhjaaGreatDoorGU
import Derived.Test.YtopncieoolkhjaaGreatDoorHLr1
/- The law TopPublic. -/
set_option linter.unusedVariables false
set_option linter.unusedSimpArgs false
namespace Go.Proofs.YtopncieoolkhjaaGreatDoor
open Go.Se Go.RowKit
structure Qbn (T:Nat → Prop) (n0:Nat) (w w':World) : Prop where
 os : w'.os = w.os
 tape : w'.tape = w.tape
 output : w'.output = w.output
 size : w.heap.size ≤ w'.heap.size
 block : ∀ k,k < w.heap.size → ¬ T k → (k < n0 ∨ ∀ cs,w.heap[k]? ≠ some (.cells cs 45 (0,0))) → w'.heap[k]? = w.heap[k]?
theorem Qbn.refl (T:Nat → Prop) (n0:Nat) (w:World) : Qbn T n0 w w := ⟨rfl,rfl,rfl,Nat.le_refl _,fun _ _ _ _ => rfl⟩
theorem Qbn.trans {T:Nat → Prop} {n0:Nat} {a b c:World} (h:Qbn T n0 a b) (k:Qbn T n0 b c) : Qbn T n0 a c :=
 ⟨k.os.trans h.os,k.tape.trans h.tape,k.output.trans h.output,Nat.le_trans h.size k.size,fun i hi hT hc => by
  have e := h.block i hi hT hc
  rw [k.block i (Nat.lt_of_lt_of_le hi h.size) hT (hc.imp id fun hc cs => by rw [e]; exact hc cs),e]⟩
def clR (T:Nat → Prop) (n0:Nat) : Cl := .gen (Qbn T n0) ⟨Qbn.refl T n0,fun _ _ _ h k => h.trans k⟩
theorem Qbn.of_mod {T:Nat → Prop} {n0:Nat} {w w':World} (h:Mod T w w') : Qbn T n0 w w' := ⟨h.os,h.tape,h.output,h.size,fun k hk hT _ => h.block k hk hT⟩
theorem Qbn.of_ext {T:Nat → Prop} {n0:Nat} {w w':World} (h:Ext w w') : Qbn T n0 w w' := Qbn.of_mod (Mod.of_ext h)
theorem Qbn.of_only {T:Nat → Prop} {n0:Nat} {w w':World} {b:Nat} (h:Only w w' b) (hb:n0 ≤ b) {l:List Value} (hat:At w b 45 l) : Qbn T n0 w w' :=
 ⟨h.os,h.tape,h.output,by rw [h.size]; exact Nat.le_refl _,fun k hk hT hc => h.block k fun e => by
  subst e
  rcases hc with hc | hc
  · omega
  · exact hc _ hat⟩
theorem Qbn.at_ {T:Nat → Prop} {n0:Nat} {w w':World} (h:Qbn T n0 w w') {b t:Nat} {l:List Value} (hat:At w b t l) (hT:¬ T b) (ht:b < n0 ∨ t ≠ 45) : At w' b t l :=
 (h.block b hat.lt hT (ht.imp id fun ht cs e => by
  unfold At at hat
  rw [hat] at e
  injection e with e
  injection e with e1 e2
  exact ht e2)).trans hat
set_option maxHeartbeats 8000000 in
theorem topPublic_spec (bs:List Nat) (A:Option Addr) (cp who thing:Nat) (w:World) (hg0:Gl w) (hkn:Qva w) (hs:Sl u8C 1 w A bs) (hb:∀ x ∈ bs,x < 256) :
 Cal Tryz.prog 6 [.slice A bs.length cp,.int .u8 (who:Nat),.int .u8 (thing:Nat)] w fun r w' => r = .bool true ∧ Ext w w' := by
 have hsz := hg0.size
 obtain ⟨P,hP⟩ : ∃ P,Q7a[who % 4]? = some P := ⟨_,List.getElem?_eq_getElem (show who % 4 < 4 by omega)⟩
 obtain ⟨I,hI⟩ : ∃ I,Q58[thing % 6]? = some I := ⟨_,List.getElem?_eq_getElem (show thing % 6 < 6 by omega)⟩
 refine Fi Tryz.func6 rfl _ rfl rfl ?_;conv=>whnf
 refine (Ql4 bs A cp w hg0 hkn hs hb).mono ?_
 rintro _ w1 ⟨hx1,rfl | ⟨c,every,seed,B,d,l,t,rfl,hcf,hap,hl,ht,hsl⟩⟩
 · (conv=>whnf);repeat(refine Sg ?_;(conv=>whnf))
   intro p8 w2 hn2; (conv=>whnf);repeat(refine Sg ?_;(conv=>whnf))
   refine Qc Qa (e := ty32) rfl hn2.At rfl rfl rfl (by simp [Qg,ty32,Value.oneCell']) fun w3 g8 ho3 => ?_
   have hx := hx1.trans (ho3.ext hn2.ext (by rw [hn2.block]; exact Nat.le_refl _))
   clear ho3 hn2 g8
   (conv=>whnf);repeat(refine Sg ?_;(conv=>whnf))
   refine (Qb3 w3 (hg0.ext hx) (hkn.ext hx)).mono ?_
   rintro _ w4 ⟨rfl,hx4⟩; (conv=>whnf);repeat(refine Sg ?_;(conv=>whnf))
   constructor
   · intro _
     (conv=>whnf);repeat(refine Sg ?_;(conv=>whnf))
     refine (Qb3 w4 (hg0.ext (hx.trans hx4)) (hkn.ext (hx.trans hx4))).mono ?_
     rintro _ w5 ⟨rfl,hx5⟩; (conv=>whnf);repeat(refine Sg ?_;(conv=>whnf))
     exact ⟨rfl,(hx.trans hx4).trans hx5⟩
   · intro h
     simp at h
 (conv=>whnf);repeat(refine Sg ?_;(conv=>whnf))
 intro p8 w2 hn2; (conv=>whnf);repeat(refine Sg ?_;(conv=>whnf))
 refine Qc Qa (e := ty32) rfl hn2.At rfl rfl rfl (by simp [Qg,Qah,Value.oneCell']) fun w3 g8 ho3 => ?_
 have g8 : At w3 p8 32 (Qah c (Qbv 6) every seed) := g8
 have hx13 : Ext w1 w3 := ho3.ext hn2.ext (by rw [hn2.block]; exact Nat.le_refl _)
 have hx := hx1.trans hx13
 replace hsl := hsl.ext hx13
 clear ho3 hn2 hx13 hx1
 (conv=>whnf);repeat(refine Sg ?_;(conv=>whnf))
 refine (Qb3 w3 (hg0.ext hx) (hkn.ext hx)).mono ?_
 rintro _ w4 ⟨rfl,hx4⟩
 replace hx := hx.trans hx4
 replace hsl := hsl.ext hx4
 replace g8 := g8.ext hx4
 clear hx4 hs hb
 (conv=>whnf);repeat(refine Sg ?_;(conv=>whnf))
 constructor
 · intro h
   simp at h
 intro _
 have hcfg : ∀ {w':World},At w' p8 32 (Qah c (Qbv 6) every seed) → Xk w' ⟨p8,0,none⟩ (Qo6 c) := fun h => At.sub (pre := []) (post := (Qah c (Qbv 6) every seed).drop 6) h
 have hwts : ∀ {w':World},At w' p8 32 (Qah c (Qbv 6) every seed) → Xk w' ((⟨p8,0,none⟩ : Addr).add 6) (wsC (Qbv 6)) := fun h => At.sub (pre := (Qah c (Qbv 6) every seed).take 6) (post := (Qah c (Qbv 6) every seed).drop 12) h
 have hhead : ∀ {w':World},At w' p8 32 (Qah c (Qbv 6) every seed) → w'.cell? ((⟨p8,0,none⟩ : Addr).add 5) = some (vi c.crowd) := fun h => h.one rfl
 (conv=>whnf);repeat(refine Sg ?_;(conv=>whnf))
 refine ⟨Qo6 c,⟨rfl,hcfg g8⟩,?_⟩; (conv=>whnf);repeat(refine Sg ?_;(conv=>whnf))
 refine (Qko c hcf l B d w4 (hg0.ext hx) hsl (by omega) hap.may).mono ?_
 rintro _ w6 ⟨p,rfl,hW,hx6⟩
 obtain ⟨T,hWT,hT⟩ := hW.t
 have hxo := hx6
 have s4 := hx.size
 have hTw : ∀ k,T k → w.heap.size ≤ k := fun k hk => by have := hT k hk; omega
 replace hx := hx.trans hx6
 have hzl := Qgz l
 clear hW hx6 hsl
 generalize Qe5 l = z at hWT hzl
 have hok : Q3z c z := ⟨hcf,by omega⟩
 (conv=>whnf);repeat(refine Sg ?_;(conv=>whnf))
 constructor
 · intro h
   simp at h
 intro _
 (conv=>whnf);repeat(refine Sg ?_;(conv=>whnf))
 intro b7 w7 hn7
 have hi : At w7 b7 9 (Q58.map Value.string) := hn7.At
 replace hxo := hxo.trans hn7.ext
 replace hx := hx.trans hn7.ext
 replace hWT := hWT.ext hn7.ext
 clear hn7
 (conv=>whnf);repeat(refine Sg ?_;(conv=>whnf))
 refine ⟨((thing % 6 : Nat) : Int),tmn (b := 6) (by decide),?_⟩; (conv=>whnf);repeat(refine Sg ?_;(conv=>whnf))
 refine ⟨⟨b7,0,none⟩,⟨rfl,by omega,by omega⟩,?_⟩; (conv=>whnf);repeat(refine Sg ?_;(conv=>whnf))
 refine ⟨.string I,Qgq hi hI,?_⟩; (conv=>whnf);repeat(refine Sg ?_;(conv=>whnf))
 clear hi hI
 have g87 := g8.ext hxo
 have l8 := g8.lt
 have n8 : ¬ T p8 := fun h => by have := hT _ h; omega
 have hTl := hWT.lt
 have hg7 := hg0.ext hx
 refine Qin (ι := Nat × Option Addr × Nat × Option Addr × Nat) (fun q => [(8,.pointer (some ⟨p8,0,none⟩)),(11,.pointer (some ⟨p,0,none⟩)),(13,.string I),(14,.pointer (some ⟨q.1,0,none⟩))])
  (fun q w' => Ext w w' ∧ At w' p8 32 (Qah c (Qbv 6) every seed) ∧ At w' q.1 45 (rsC I q.2.1 6 q.2.2.1 (Qli (Qot (Qzr c z P I t) (Qbv 6) 6)) q.2.2.2.1 (Qn2 c z P I t).length q.2.2.2.2 (Qpf c z I)) ∧ ∃ T',WT w' T' p c z) ?_ ?_
 · refine Qfb (clR T w7.heap.size) (Pl.seq [0,1,2,4,5,8,9] (Pl.two 3 (Pl.seq [6,7] (Pl.two 10 (Pl.seq [11,12] Pl.done) 11 (Pl.seq [10,12] Pl.done))) 11 (Pl.seq [3,6,7,10,12] Pl.done))) (by intro h; unfold clR at h; cases h) Qa mixed (by kernel_rfl) ?_;conv=>whnf
   have hxd : Ext w7 w7.drew := (Ext.refl w7).drew
   have sd : w7.drew.heap.size = w7.heap.size := rfl
   replace g87 := g87.ext hxd
   replace hWT := hWT.ext hxd
   replace hx := hx.trans hxd
   replace hg7 := hg7.ext hxd
   generalize w7.drew = w8 at hxd sd g87 hWT hx hg7 ⊢
   have hp8 : p8 < w7.heap.size := by have := hxo.size; omega
   refine ⟨wsC (Qbv 6),⟨rfl,fun w' hw => hwts (hw.at_ g87 n8 (.inl hp8))⟩,?_⟩;conv=>whnf
   refine ⟨((who % 4 : Nat) : Int),tmn (b := 4) (by decide),?_⟩;conv=>whnf
   have fin : ∀ {wa wb:World} {b14:Nat} {A1 A2:Option Addr} {c1 c2:Nat},Ext w wa → At wa p8 32 (Qah c (Qbv 6) every seed) → (∃ T',WT wa T' p c z ∧ ¬ T' b14) → w.heap.size ≤ b14 → p8 ≠ b14 → Only wa wb b14 →
    At wb b14 45 (rsC I A1 6 c1 (Qli (Qot (Qzr c z P I t) (Qbv 6) 6)) A2 (Qn2 c z P I t).length c2 (Qpf c z I)) →
    (Ext w wb ∧ At wb p8 32 (Qah c (Qbv 6) every seed) ∧ At wb b14 45 (rsC I A1 6 c1 (Qli (Qot (Qzr c z P I t) (Qbv 6) 6)) A2 (Qn2 c z P I t).length c2 (Qpf c z I)) ∧ ∃ T',WT wb T' p c z) := by
    rintro wa wb b14 A1 A2 c1 c2 hxa ha8 ⟨T',hW',hT'⟩ hb hne ho h14
    exact ⟨ho.ext hxa hb,ho.at_ ha8 hne,h14,T',hW'.mod (Qh (S := fun k => k = b14) ho rfl) fun k hk => by rw [hk]; exact hT'⟩
   have szw := hx.size
   refine ⟨?_,?_⟩
   · refine (Qeu w8).mono ?_
     rintro _ w9 ⟨rfl,ha,hx9⟩
     have s9 := hx9.size
     have la := ha.lt
     refine ⟨Qbn.of_ext hx9,?_⟩;conv=>whnf
     refine ⟨⟨w8.heap.size,0,none⟩,⟨rfl,by omega,by omega⟩,?_⟩;conv=>whnf
     refine ⟨.string P,fun w' hw => Qgq (hw.at_ ha (fun h => by have := hTl _ h; omega) (.inr (by decide))) hP,?_⟩;conv=>whnf
     refine ⟨?_,?_⟩
     · refine (Qcx (hWT.ext hx9) hok (hg7.ext hx9) (fun k hk => by have := hTw k hk; omega) (Qbv 6) P I t).mono ?_
       rintro _ wa ⟨A1,c1,A2,c2,Ta,rfl,_,_,_,_,_,hWa,hTa,hMa⟩
       refine ⟨Qbn.of_mod hMa,?_⟩;conv=>whnf
       intro b14 wb hnb
       have e14 := hnb.block
       have sa := hMa.size
       refine ⟨Qbn.of_ext hnb.ext,?_⟩;conv=>whnf
       refine Qc Qa (e := ty45) rfl hnb.At rfl rfl rfl (by simp [Qg,rsC,Value.oneCell']) fun wc h14 hoc => ?_
       refine ⟨Qbn.of_only hoc (by omega) hnb.At,?_⟩;conv=>whnf
       exact ⟨(b14,A1,c1,A2,c2),fin ((Qdf (hx.trans hx9) hTw hMa).trans hnb.ext) (((g87.ext hx9).mod hMa n8).ext hnb.ext) ⟨Ta,hWa.ext hnb.ext,fun h => by have := hWa.lt _ h; omega⟩ (by omega) (by omega) hoc h14,⟨rfl,rfl,rfl,rfl,trivial⟩⟩
     · intro b14 wb hnb
       have e14 := hnb.block
       refine ⟨Qbn.of_ext hnb.ext,?_⟩;conv=>whnf
       have hxb := hx9.trans hnb.ext
       refine (Qcx (hWT.ext hxb) hok (hg7.ext hxb) (fun k hk => by have := hTw k hk; omega) (Qbv 6) P I t).mono ?_
       rintro _ wa ⟨A1,c1,A2,c2,Ta,rfl,_,_,_,_,_,hWa,hTa,hMa⟩
       have n14 : ¬ T b14 := fun h => by have := hTl _ h; omega
       have sb := hnb.size
       refine ⟨Qbn.of_mod hMa,?_⟩;conv=>whnf
       have h14a := hnb.At.mod hMa n14
       refine Qc Qa (e := ty45) rfl h14a rfl rfl rfl (by simp [Qg,rsC,Value.oneCell']) fun wc h14 hoc => ?_
       refine ⟨Qbn.of_only hoc (by omega) h14a,?_⟩;conv=>whnf
       exact ⟨(b14,A1,c1,A2,c2),fin (Qdf (hx.trans hxb) hTw hMa) ((g87.ext hxb).mod hMa n8) ⟨Ta,hWa,fun h => (hTa _ h).elim n14 fun h => by omega⟩ (by omega) (by omega) hoc h14,⟨rfl,rfl,rfl,rfl,trivial⟩⟩
   · intro b14 wb hnb
     have e14 := hnb.block
     have sb := hnb.size
     refine ⟨Qbn.of_ext hnb.ext,?_⟩;conv=>whnf
     refine (Qeu wb).mono ?_
     rintro _ w9 ⟨rfl,ha,hx9⟩
     have la := ha.lt
     refine ⟨Qbn.of_ext hx9,?_⟩;conv=>whnf
     refine ⟨⟨wb.heap.size,0,none⟩,⟨rfl,by omega,by omega⟩,?_⟩;conv=>whnf
     refine ⟨.string P,fun w' hw => Qgq (hw.at_ ha (fun h => by have := hTl _ h; omega) (.inr (by decide))) hP,?_⟩;conv=>whnf
     have hxb := hnb.ext.trans hx9
     have n14 : ¬ T b14 := fun h => by have := hTl _ h; omega
     have s9 := hx9.size
     refine (Qcx (hWT.ext hxb) hok (hg7.ext hxb) (fun k hk => by have := hTw k hk; omega) (Qbv 6) P I t).mono ?_
     rintro _ wa ⟨A1,c1,A2,c2,Ta,rfl,_,_,_,_,_,hWa,hTa,hMa⟩
     refine ⟨Qbn.of_mod hMa,?_⟩;conv=>whnf
     have h14a := (hnb.At.ext hx9).mod hMa n14
     refine Qc Qa (e := ty45) rfl h14a rfl rfl rfl (by simp [Qg,rsC,Value.oneCell']) fun wc h14 hoc => ?_
     refine ⟨Qbn.of_only hoc (by omega) h14a,?_⟩;conv=>whnf
     exact ⟨(b14,A1,c1,A2,c2),fin (Qdf (hx.trans hxb) hTw hMa) ((g87.ext hxb).mod hMa n8) ⟨Ta,hWa,fun h => (hTa _ h).elim n14 fun h => by omega⟩ (by omega) (by omega) hoc h14,⟨rfl,rfl,rfl,rfl,trivial⟩⟩
 rintro ⟨b14,A1,c1,A2,c2⟩ w9 ⟨hx9,g8,h14,T',hW'⟩
 simp only at h14
 clear hx hWT g87 hTl hTw hg7 hxo hP hcfg hwts
 generalize Qli (Qot (Qzr c z P I t) (Qbv 6) 6) = tt at h14
 generalize (Qn2 c z P I t).length = on at h14
 obtain ⟨v0,T0,hQ0,_⟩ := id hW'
 have hF : Qpf c z I = if c.crowd ≤ Qpg (Qm c.width z).rs I then Qpg (Qm c.width z).rs I else 0 := rfl
 generalize Qpf c z I = ff at hF h14
 (conv=>whnf);repeat(refine Sg ?_;(conv=>whnf))
 refine (Qb4 hQ0).mono ?_
 rintro _ wa ⟨pw,S,rfl,hcr,hxa⟩; (conv=>whnf);repeat(refine Sg ?_;(conv=>whnf))
 refine (Qph wa S pw _ _ hcr I).mono ?_
 rintro _ wb ⟨rfl,hwb⟩
 replace hwb := hwb.symm
 subst hwb
 generalize Qpg (Qm c.width z).rs I = F at hF ⊢
 replace g8 := g8.ext hxa
 replace h14 := h14.ext hxa
 (conv=>whnf);repeat(refine Sg ?_;(conv=>whnf))
 refine ⟨vi c.crowd,hhead g8,?_⟩; (conv=>whnf);repeat(refine Sg ?_;(conv=>whnf))
 refine ⟨.int .i64 ff,fun _ => h14.one rfl,?_⟩; (conv=>whnf);repeat(refine Sg ?_;(conv=>whnf))
 refine ⟨vi c.crowd,fun _ => hhead g8,?_⟩; (conv=>whnf);repeat(refine Sg ?_;(conv=>whnf))
 refine ⟨.int .i64 ff,fun _ _ => h14.one rfl,?_⟩; (conv=>whnf);repeat(refine Sg ?_;(conv=>whnf))
 refine ⟨?_,hx9.trans hxa⟩
 subst hF
 by_cases h : c.crowd ≤ F
 · rw [if_pos h]
   have h2 : ¬ F < c.crowd := by omega
   simp [h,h2]
 · rw [if_neg h]
   have h2 : F < c.crowd := by omega
   simp [h2]
theorem topPublicI_spec (bs:List Nat) (A:Option Addr) (cp:Nat) (who thing:Int) (h1:0 ≤ who) (h2:0 ≤ thing) (w:World) (hg0:Gl w) (hkn:Qva w) (hs:Sl u8C 1 w A bs) (hb:∀ x ∈ bs,x < 256) :
 Cal Tryz.prog 6 [.slice A bs.length cp,.int .u8 who,.int .u8 thing] w fun r w' => r = .bool true ∧ Ext w w' := by
 obtain ⟨m,rfl⟩ := Int.eq_ofNat_of_zero_le h1
 obtain ⟨n,rfl⟩ := Int.eq_ofNat_of_zero_le h2
 exact topPublic_spec bs A cp m n w hg0 hkn hs hb
end Go.Proofs.YtopncieoolkhjaaGreatDoor
