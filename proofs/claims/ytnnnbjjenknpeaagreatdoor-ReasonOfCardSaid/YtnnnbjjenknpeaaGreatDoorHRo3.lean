import Derived.Test.YtnnnbjjenknpeaaGreatDoorHRo2
import Derived.Test.YtnnnbjjenknpeaaGreatDoorHRbd
/- The walk of the reference's Own. -/
set_option linter.unusedVariables false
set_option linter.unusedSimpArgs false
namespace Go.Proofs.YtnnnbjjenknpeaaGreatDoor
open Go.Se Go.RowKit
theorem Qy2 {w w':World} {b t:Nat} (he:At w b t []) (hM:Mod (fun k => k = b) w w') {p:Addr} {v:Value} (hc:w.cell? p = some v) : w'.cell? p = some v := by
 refine hM.cell hc fun e => ?_
 have he' : w.heap[b]? = some (.cells ([] : List Value).toArray t (0,0)) := he
 have e : p.block = b := e
 unfold World.cell? at hc
 rw [e,he'] at hc
 simp at hc
theorem Qv7 {w w':World} {b t:Nat} (he:At w b t []) (hM:Mod (fun k => k = b) w w') {p:Addr} {cs:List Value} (h:Q7 w p cs) : Q7 w' p cs := fun j v hj => Qy2 he hM (h j v hj)
theorem Qoy {α:Type} {enc:α → List Value} {sz:Nat} {w w':World} {b t:Nat} (he:At w b t []) (hM:Mod (fun k => k = b) w w') {A:Option Addr} {l:List α} (h:Sl enc sz w A l) : Sl enc sz w' A l := fun i x hi => by
 obtain ⟨a,ha,hc⟩ := h i x hi
 exact ⟨a,ha,Qv7 he hM hc⟩
theorem Qya {z:List Ev} {item:ByteArray} {now:Int} (h:Qec z item now = false) : Qhd z item now = [] := by
 unfold Qec at h
 unfold Qhd Qgr Qgs
 rw [Bool.not_eq_false'] at h
 rw [if_pos h]
 exact Qgl
theorem Q3x (tg:List ByteArray) (L:List ByteArray) (k:Nat) (h:k < L.length) : (L.take (k + 1)).any (fun t => decide (t ∈ tg)) = ((L.take k).any (fun t => decide (t ∈ tg)) || inT tg L[k]) := by
 rw [List.take_succ_eq_append_getElem h,List.any_append]
 congr 1
 simp only [List.any_cons,List.any_nil,Bool.or_false]
 rw [Bool.eq_iff_iff,Qeb,decide_eq_true_eq]
set_option maxHeartbeats 4000000 in
theorem Qtc (c:Cfg) (hcf:Qpq c = true) (z:List Ev) (A:Option Addr) (cap:Nat) (person item:ByteArray) (now:Int) (w:World) (hs:SlE w A z) (hcap:z.length ≤ cap) (hl:z.length < 1000) (hm:∀ e ∈ z,Xu e = true) (hr:Rise z) :
 Cal Tryz.prog 18 [Q2k c,.slice A z.length cap,.string person,.string item,.int .i64 now] w fun r w' => ∃ A' c',r = .slice A' (Qsy c z person item now).length c' ∧ SlE w' A' (Qsy c z person item now) ∧ Ext w w' := by
 obtain ⟨c1,c2,c3,c4,c5,c6,c7⟩ := Q4h hcf
 have hgid : Qpc c.gap = c.gap := by unfold Qpc; omega
 have hsb := Q1f c z hl hm
 have hse : Qhb c z = Qf4 c.gap (Qgk (z.filter wpB)) := by unfold Qhb; rw [hgid]
 have hthl : (Qj z).length ≤ z.length := List.length_filter_le thB z
 have htz := Qbz item ((Qj z).filter (thQ item now)) fun x hx => X4 hm x (List.mem_filter.1 hx).1
 have hRok := Q3q z hm
 rw [← Q50 hr hm person item now]
 refine Fi Tryz.func18 rfl _ rfl rfl ?_;conv=>whnf
 intro b1 w1 hn1;conv=>whnf
 intro b2 w2 hn2;conv=>whnf
 have h1 : At w2 b1 23 (Qmt c) := hn1.At.ext hn2.ext
 have hb2 : w.heap.size ≤ b2 := by rw [hn2.block]; exact hn1.ext.size
 have o2 := Qf0.made (base := w.heap.size) hn2 hn1.ext.size
 have he : At w2 b2 53 [] := hn2.At
 have hx := hn1.ext.trans hn2.ext
 clear hn1 hn2
 refine (Qjj z A cap w2 (hs.ext hx) (by omega)).mono ?_
 rintro _ w3 ⟨A3,c3',rfl,hs3,hx3⟩;conv=>whnf
 refine (Qkc (Qj z) item now A3 c3' w3 hs3 (by omega) (fun x hx => (List.mem_filter.1 hx).2) (X4 hm)).mono ?_
 rintro _ w4 ⟨rfl,hx4⟩
 have hith : (!((Qj z).filter (thQ item now)).isEmpty) = Qec z item now := rfl
 have hita : Qgs item ((Qj z).filter (thQ item now)) = Qgr z item now := rfl
 rw [hith,hita]
 rw [hita] at htz
 have hti : Qw (Qdy (Qgr z item now).tags) = Qhd z item now := rfl
 have htn : Qec z item now = false → Qhd z item now = [] := Qya
 conv=>whnf
 intro b5 w5 hn5;conv=>whnf
 refine Qd Qa (e := ty77) rfl hn5.At rfl rfl rfl (by simp [Qh,itC,Value.oneCell']) fun w6 h6 ho6 => ?_
 have h6 : At w6 b5 77 (itC (Qgr z item now)) := h6
 have hb25 : b2 ≠ b5 := by
  have h1 := he.lt
  have h2 := hn5.block
  have h3 := (hx3.trans hx4).size
  omega
 have hx46 : Ext w4 w6 := ho6.ext hn5.ext (by rw [hn5.block]; exact Nat.le_refl _)
 clear ho6 hn5
 have hx26 := (hx3.trans hx4).trans hx46
 replace h1 := h1.ext hx26
 replace o2 := o2.ext hx26
 replace he := he.ext hx26
 replace hx := hx.trans hx26
 clear hs3 hx3 hx4 hx46 hx26
 have hown : ∀ r : Row,Q3c c z person item now r = (decide (r.1.person = person) && (((Qec z item now && decide (r.1.text = (Qgr z item now).maker)) && (decide (r.1.kind = 7) || decide (r.1.kind = 8))) || (decide (0 < Qo r.1) && (r.2.any (fun t => decide (t ∈ Qhd z item now)) || (!decide (r.1.item = item) && decide (0 < (Qen (Qhb c z) r.1.item item).1)))))) := fun r => rfl
 generalize Q3c c z person item now = oB at hown ⊢
 generalize Qgr z item now = it at h6 htz hti hown
 generalize Qec z item now = th at hown htn ⊢
 have htgl : (Qhd z item now).length ≤ 8 := (Qg5 item ((Qj z).filter (thQ item now)) fun x hx => X4 hm x (List.mem_filter.1 hx).1).2.2
 generalize Qhd z item now = tg at hti htn hown htgl
 conv=>whnf
 intro b7 w7 hn7;conv=>whnf
 have o7 := Xn.made (base := w6.heap.size) hn7 (Nat.le_refl _)
 have hx7 := hn7.ext
 clear hn7
 refine Xa Qa (ι := Option Addr × Nat) (fun q => [(1,.slice A z.length cap),(2,.string person),(3,.string item),(5,.pointer (some ⟨b1,0,none⟩)),(11,.slice (some ⟨b2,0,none⟩) 0 0),(12,.pointer (some ⟨b5,0,none⟩)),(13,.bool th),(14,.slice q.1 tg.length q.2)]) (fun q w' => SlT w' q.1 tg ∧ Ext w6 w') ?_ ?_
 · (conv=>whnf)
   constructor
   · intro ht
     conv=>whnf
     refine ⟨.string it.tags,(h6.ext hx7).one rfl,?_⟩;conv=>whnf
     have hsz : (Qdy it.tags).size < 1000000 := by unfold Qdy; rw [ByteArray.size_append]; have : (⟨#[59]⟩ : ByteArray).size = 1 := rfl; omega
     refine ⟨sz2 (by decide) (by omega),?_⟩;conv=>whnf
     refine (Qlp (Qdy it.tags) w7 (by omega)).mono ?_
     rintro _ w8 ⟨A8,c8,rfl,ho8,hx8⟩
     rw [hti] at ho8 ⊢
     conv=>whnf
     exact ⟨(A8,c8),⟨ho8.sl Xw,hx7.trans hx8⟩,⟨rfl,rfl,rfl,rfl,rfl,rfl,rfl,rfl,trivial⟩⟩
   · intro ht
     have ht : th = false := ht
     rw [htn ht]
     conv=>whnf
     exact ⟨(some ⟨b7,0,none⟩,0),⟨o7.sl Xw,hx7⟩,⟨rfl,rfl,rfl,rfl,rfl,rfl,rfl,rfl,trivial⟩⟩
 rintro ⟨A8,c8⟩ w8 ⟨hs8,hx8⟩
 simp only at hs8
 replace h1 := h1.ext hx8
 replace h6 := h6.ext hx8
 replace o2 := o2.ext hx8
 replace he := he.ext hx8
 replace hx := hx.trans hx8
 clear o7 hx7 hx8 hti htz htn
 conv=>whnf
 refine ⟨.int .i64 c.gap,h1.one rfl,?_⟩;conv=>whnf
 refine (Qmf z A cap c.gap c5 w8 (hs.ext hx) hl hm).mono ?_
 rintro _ w9 ⟨A9,c9,T9,rfl,hs9,hsn9,hx9⟩
 rw [← hse] at hsn9
 have hTl := hsn9.len
 conv=>whnf
 refine (Qm9 z A cap w9 (hs.ext (hx.trans hx9)) hcap hl hm).mono ?_
 rintro _ w10 ⟨A10,c10,D,rfl,hs10,hTg,hDl,hx10⟩
 replace hs9 := hs9.ext hx10
 replace hsn9 := hsn9.ext hx10
 have hx810 := hx9.trans hx10
 replace h1 := h1.ext hx810
 replace h6 := h6.ext hx810
 replace hs8 := hs8.ext hx810
 replace o2 := o2.ext hx810
 have hb8 := he.lt
 replace he := he.ext hx810
 replace hx := hx.trans hx810
 have hRl := hTg.len
 have hlk : ∀ {w':World},Mod (fun k => k = b2) w10 w' → ∀ x : ByteArray,Cal Tryz.prog 46 [.slice A9 T9.length c9,.string x,.string item] w' fun r w'' => r = .tuple #[.int .i64 (Qen (Qhb c z) x item).1,.int .i64 (Qen (Qhb c z) x item).2] ∧ Ext w' w'' := fun hx x => Qqs T9 (Qhb c z) A9 c9 x item _ w8.heap.size (Qoy he hx hs9) (hsn9.keep (fun k k1 k2 k3 => ⟨hx.block k k2 (by omega),k3⟩) hx.size) (by have := hsb.1; omega) hsb.2
 generalize Qhb c z = S at hown hlk
 generalize Qfa z = R at hTg hRl hRok ⊢
 clear hs9 hsn9 hTl hx9 hx10 hx810 hse hsb h1
 conv=>whnf
 refine Qg Qa (fun (q:Nat × Option Addr × Nat × List Ev) w' => q.1 ≤ D.length ∧ Mod (fun k => k = b2) w10 w' ∧ q.2.2.2 = ((R.take q.1).filter oB).map (·.1) ∧ Own evC 8 53 w.heap.size w' q.2.1 q.2.2.1 q.2.2.2 ∧ ∀ k,q.2.1.map (·.block) = some k → k = b2 ∨ w10.heap.size ≤ k)
  (fun | (k,B,d,U) => [(2,.string person),(3,.string item),(11,.slice B U.length d),(12,.pointer (some ⟨b5,0,none⟩)),(13,.bool th),(14,.slice A8 tg.length c8),(15,.slice A9 T9.length c9),(44,.slice A10 D.length c10),(45,.int .i64 D.length),(46,.int .i64 (k:Nat))]) (fun q => D.length - q.1) (0,some ⟨b2,0,none⟩,0,[]) ⟨Nat.zero_le _,Mod.refl _ _,by simp,o2,fun k hk => by simp at hk; exact .inl hk.symm⟩ ⟨rfl,rfl,rfl,rfl,rfl,rfl,rfl,rfl,rfl,rfl,trivial⟩ ?_
 rintro ⟨k,B,d,U⟩ w11 ⟨hk,hx11,hU,hown11,hB⟩
 simp only at hk hU hown11 hB
 have hUl : U.length ≤ k := by
  rw [hU,List.length_map]
  have := List.length_filter_le oB (R.take k)
  rw [List.length_take] at this
  omega
 conv=>whnf
 constructor
 · intro hlt
   have hlt : k < D.length := by simpa using hlt
   have hltR : k < R.length := by omega
   obtain ⟨a,hA,hc⟩ := (Qoy he hx11 hs10).get hlt
   subst hA
   obtain ⟨hd1,hd2,hd3,hd4⟩ := hTg.ev k D[k] R[k] (List.getElem?_eq_getElem hlt) (List.getElem?_eq_getElem hltR)
   have htk : ((R.take (k + 1)).filter oB).map (·.1) = U ++ (if oB R[k] = true then [R[k].1] else []) := by
    rw [List.take_succ_eq_append_getElem hltR,List.filter_append,List.map_append,← hU]
    congr 1
    cases hq : oB R[k] <;> simp [hq]
   have hoB := hown R[k]
   have hrk := hRok R[k] (List.getElem_mem hltR)
   generalize R[k] = r at hd1 hd2 hd3 htk hoB hrk
   generalize D[k] = x at hc hd1 hd2 hd3 hd4
   obtain ⟨e,tA,tn,tc⟩ := x
   obtain ⟨e',rt⟩ := r
   simp only at hd1 hd2 hd3 htk hoB hrk
   subst hd1 hd2
   have hd3 : SlT w11 tA rt := Qoy he hx11 hd3
   have hme := hrk.1
   have hrl := hrk.2
   (conv=>whnf);repeat(refine Sg ?_;(conv=>whnf))
   refine ⟨a,⟨rfl,by omega,by omega⟩,?_⟩; (conv=>whnf);repeat(refine Sg ?_;(conv=>whnf))
   refine ⟨Qcz (e,tA,rt.length,tc),⟨rfl,hc⟩,?_⟩; (conv=>whnf);repeat(refine Sg ?_;(conv=>whnf))
   intro b12 w12 hn12; (conv=>whnf);repeat(refine Sg ?_;(conv=>whnf))
   refine Qd Qa (e := ty85) rfl hn12.At rfl rfl rfl (by simp [Qh,Qcz,Value.oneCell']) fun w13 h13 ho13 => ?_
   have h13 : At w13 b12 85 (Qcz (e,tA,rt.length,tc)) := h13
   have hx13 : Ext w11 w13 := ho13.ext hn12.ext (by rw [hn12.block]; exact Nat.le_refl _)
   clear ho13 hn12 hc
   (conv=>whnf);repeat(refine Sg ?_;(conv=>whnf))
   refine ⟨evC e,⟨rfl,Qy9 h13.all⟩,?_⟩; (conv=>whnf);repeat(refine Sg ?_;(conv=>whnf))
   intro b14 w14 hn14; (conv=>whnf);repeat(refine Sg ?_;(conv=>whnf))
   refine Qd Qa (e := ty53) rfl hn14.At rfl rfl rfl (Qc0 e) fun w15 h15 ho15 => ?_
   have h15 : At w15 b14 53 (evC e) := h15
   have hx15 : Ext w13 w15 := ho15.ext hn14.ext (by rw [hn14.block]; exact Nat.le_refl _)
   clear ho15 hn14
   replace h13 := h13.ext hx15
   have hx1115 := hx13.trans hx15
   have h6d := (h6.mod hx11 (by show ¬ b5 = b2; omega)).ext hx1115
   have hs8d : SlT w15 A8 tg := (Qoy he hx11 hs8).ext hx1115
   replace hd3 := hd3.ext hx1115
   replace hown11 := hown11.ext hx1115
   replace hx11 := hx11.trans (Mod.of_ext hx1115)
   clear hx13 hx15 hx1115
   (conv=>whnf);repeat(refine Sg ?_;(conv=>whnf))
   refine ⟨.string e.person,h15.one rfl,?_⟩; (conv=>whnf);repeat(refine Sg ?_;(conv=>whnf))
   constructor
   · intro hq
     have hq : ¬ e.person = person := by simpa using hq
     have hf : oB (e,rt) = false := by rw [hoB,decide_eq_false hq]; rfl
     rw [if_neg (by rw [hf]; decide),List.append_nil] at htk
     (conv=>whnf);repeat(refine Sg ?_;(conv=>whnf))
     refine ⟨_,wrap_succ (by omega),?_⟩; (conv=>whnf);repeat(refine Sg ?_;(conv=>whnf))
     exact ⟨(k + 1,B,d,U),by simp only; omega,⟨by simp only; omega,hx11,htk.symm,hown11,hB⟩,⟨rfl,rfl,rfl,rfl,rfl,rfl,rfl,rfl,rfl,rfl,trivial⟩⟩
   intro hq
   have hq : e.person = person := by simpa using hq
   rw [decide_eq_true hq,Bool.true_and] at hoB
   (conv=>whnf);repeat(refine Sg ?_;(conv=>whnf))
   refine ⟨.string e.text,fun _ => h15.one rfl,?_⟩; (conv=>whnf);repeat(refine Sg ?_;(conv=>whnf))
   refine ⟨.string it.maker,fun _ => h6d.one rfl,?_⟩; (conv=>whnf);repeat(refine Sg ?_;(conv=>whnf))
   refine ⟨.int .i64 e.kind,fun _ => h15.one rfl,?_⟩; (conv=>whnf);repeat(refine Sg ?_;(conv=>whnf))
   refine ⟨.int .i64 e.kind,fun _ _ => h15.one rfl,?_⟩;conv=>whnf
   generalize hob0 : ((th && decide (e.text = it.maker)) && (decide (e.kind = 7) || decide (e.kind = 8))) = ob0 at hoB
   refine Xa Qa (ι := Bool) (fun q => [(2,.string person),(3,.string item),(11,.slice B U.length d),(12,.pointer (some ⟨b5,0,none⟩)),(13,.bool th),(14,.slice A8 tg.length c8),(15,.slice A9 T9.length c9),(44,.slice (some a) D.length c10),(45,.int .i64 D.length),(46,.int .i64 (k:Nat)),(18,.pointer (some ⟨b14,0,none⟩)),(19,.bool q)]) (fun q w' => q = oB (e,rt) ∧ Ext w15 w') ?_ ?_
   · rw [hoB]
     (conv=>whnf);repeat(refine Sg ?_;(conv=>whnf))
     refine ⟨evC e,⟨rfl,h15.all⟩,?_⟩; (conv=>whnf);repeat(refine Sg ?_;(conv=>whnf))
     refine (Qjk e w15).mono ?_
     rintro _ w16 ⟨rfl,hx16⟩
     replace h13 := h13.ext hx16
     replace h15 := h15.ext hx16
     replace hs8d := hs8d.ext hx16
     replace hd3 := hd3.ext hx16
     replace hx11 := hx11.trans (Mod.of_ext hx16)
     constructor
     · intro hw
       have hw : 0 < Qo e := by simpa using hw
       rw [decide_eq_true hw,Bool.true_and]
       (conv=>whnf);repeat(refine Sg ?_;(conv=>whnf))
       refine ⟨.slice tA rt.length tc,h13.one rfl,?_⟩; (conv=>whnf);repeat(refine Sg ?_;(conv=>whnf))
       refine Qg Qa (fun (i:Nat) w' => i ≤ rt.length ∧ w' = w16)
        (fun i => [(2,.string person),(3,.string item),(11,.slice B U.length d),(12,.pointer (some ⟨b5,0,none⟩)),(13,.bool th),(14,.slice A8 tg.length c8),(15,.slice A9 T9.length c9),(44,.slice (some a) D.length c10),(45,.int .i64 D.length),(46,.int .i64 (k:Nat)),(18,.pointer (some ⟨b14,0,none⟩)),(19,.bool (ob0 || (rt.take i).any fun t => decide (t ∈ tg))),(78,.slice tA rt.length tc),(79,.int .i64 rt.length),(80,.int .i64 (i:Nat))]) (fun i => rt.length - i) 0 ⟨Nat.zero_le _,rfl⟩ ⟨rfl,rfl,rfl,rfl,rfl,rfl,rfl,rfl,rfl,rfl,rfl,by rw [List.take_zero,List.any_nil,Bool.or_false]; rfl,rfl,rfl,rfl,trivial⟩ ?_
       rintro i w17 ⟨hi,hw17⟩
       subst hw17
       conv=>whnf
       constructor
       · intro hlt2
         have hlt2 : i < rt.length := by simpa using hlt2
         obtain ⟨a2,hA2,hc2⟩ := hd3.get hlt2
         subst hA2
         have hta := Q3x tg rt i hlt2
         generalize rt[i] = t at hc2 hta
         (conv=>whnf);repeat(refine Sg ?_;(conv=>whnf))
         refine ⟨a2,⟨rfl,by omega,by omega⟩,?_⟩; (conv=>whnf);repeat(refine Sg ?_;(conv=>whnf))
         refine ⟨.string t,Qz hc2,?_⟩; (conv=>whnf);repeat(refine Sg ?_;(conv=>whnf))
         refine ⟨Unit,fun _ => .bool (inT tg t),fun _ w' => w' = w17,(),fun hg => (Qxh tg t A8 c8 w17 hs8d (by omega)).mono fun r w' h => ⟨(),h.1,h.2⟩,?_⟩
         intro _ w18 h18
         obtain rfl : w18 = w17 := by
          rcases h18 with ⟨_,h⟩ | ⟨_,h⟩
          · exact h
          · exact h
         clear h18
         (conv=>whnf);repeat(refine Sg ?_;(conv=>whnf))
         refine ⟨_,wrap_succ (by omega),?_⟩; (conv=>whnf);repeat(refine Sg ?_;(conv=>whnf))
         refine ⟨i + 1,by omega,⟨by omega,rfl⟩,⟨rfl,rfl,rfl,rfl,rfl,rfl,rfl,rfl,rfl,rfl,rfl,?_,rfl,rfl,rfl,trivial⟩⟩
         rw [hta,← Bool.or_assoc]
         rfl
       · intro hge2
         have hge2 : rt.length ≤ i := by simpa using hge2
         rw [List.take_of_length_le hge2]
         (conv=>whnf);repeat(refine Sg ?_;(conv=>whnf))
         refine ⟨.string e.item,h15.one rfl,?_⟩; (conv=>whnf);repeat(refine Sg ?_;(conv=>whnf))
         refine (hlk hx11 e.item).mono ?_
         rintro _ w18 ⟨rfl,hx18⟩
         replace h15 := h15.ext hx18
         (conv=>whnf);repeat(refine Sg ?_;(conv=>whnf))
         refine ⟨.string e.item,fun _ => h15.one rfl,?_⟩; (conv=>whnf);repeat(refine Sg ?_;(conv=>whnf))
         refine ⟨_,⟨?_,hx16.trans hx18⟩,⟨rfl,rfl,rfl,rfl,rfl,rfl,rfl,rfl,rfl,rfl,rfl,rfl,trivial⟩⟩
         simp [Bool.or_assoc]
     · intro hw
       have hw : ¬ 0 < Qo e := by simpa using hw
       rw [decide_eq_false hw,Bool.false_and,Bool.or_false]
       (conv=>whnf);repeat(refine Sg ?_;(conv=>whnf))
       exact ⟨ob0,⟨rfl,hx16⟩,⟨rfl,rfl,rfl,rfl,rfl,rfl,rfl,rfl,rfl,rfl,rfl,rfl,trivial⟩⟩
   rintro q w17 ⟨hq2,hx17⟩
   subst hq2
   replace h15 := h15.ext hx17
   replace hown11 := hown11.ext hx17
   replace hx11 := hx11.trans (Mod.of_ext hx17)
   clear hoB hd3 hs8d h13 hx17
   generalize oB (e,rt) = ob at htk ⊢
   (conv=>whnf);repeat(refine Sg ?_;(conv=>whnf))
   constructor
   · intro ht
     have ht : ob = true := ht
     subst ht
     rw [if_pos rfl] at htk
     (conv=>whnf);repeat(refine Sg ?_;(conv=>whnf))
     refine ⟨evC e,⟨rfl,h15.all⟩,?_⟩; (conv=>whnf);repeat(refine Sg ?_;(conv=>whnf))
     intro b18 w18 hn18; (conv=>whnf);repeat(refine Sg ?_;(conv=>whnf))
     have hx18 := hx11.trans (Mod.of_ext hn18.ext)
     refine Qq Qf0 (l := U) (news := [e]) rfl (hown11.ext hn18.ext) rfl (Qf0.new1 (x := e) hn18) (by simp; omega) (Nat.le_trans hx.size hx18.size) fun A19 c19 w19 hown19 hg19 hA19 => ?_
     have hx19 : Mod (fun k => k = b2) w10 w19 := Qr hx18 (Qv hg19 hB)
     have hB19 : ∀ k,A19.map (·.block) = some k → k = b2 ∨ w10.heap.size ≤ k := fun k hk => by
      rcases hA19 with h | h | h
      · rw [h] at hk; exact hB k hk
      · rw [h] at hk; exact hB k hk
      · rw [h] at hk
        injection hk with hk
        right
        rw [← hk]
        exact hx18.size
     rw [← htk] at hown19 ⊢
     generalize hU19 : ((R.take (k + 1)).filter oB).map (·.1) = U19 at hown19 ⊢
     (conv=>whnf);repeat(refine Sg ?_;(conv=>whnf))
     refine ⟨_,wrap_succ (by omega),?_⟩; (conv=>whnf);repeat(refine Sg ?_;(conv=>whnf))
     exact ⟨(k + 1,A19,c19,U19),by simp only; omega,⟨by simp only; omega,hx19,hU19.symm,hown19,hB19⟩,⟨rfl,rfl,rfl,rfl,rfl,rfl,rfl,rfl,rfl,rfl,trivial⟩⟩
   · intro ht
     have ht : ob = false := ht
     subst ht
     rw [if_neg (by decide),List.append_nil] at htk
     (conv=>whnf);repeat(refine Sg ?_;(conv=>whnf))
     refine ⟨_,wrap_succ (by omega),?_⟩; (conv=>whnf);repeat(refine Sg ?_;(conv=>whnf))
     exact ⟨(k + 1,B,d,U),by simp only; omega,⟨by simp only; omega,hx11,htk.symm,hown11,hB⟩,⟨rfl,rfl,rfl,rfl,rfl,rfl,rfl,rfl,rfl,rfl,trivial⟩⟩
 · intro hge
   have hge : D.length ≤ k := by simpa using hge
   rw [List.take_of_length_le (by omega)] at hU
   rw [← hU]
   conv=>whnf
   exact ⟨B,d,rfl,hown11.sl Xo,Qin hx (fun k hk => by rw [hk]; exact hb2) hx11⟩
end Go.Proofs.YtnnnbjjenknpeaaGreatDoor
