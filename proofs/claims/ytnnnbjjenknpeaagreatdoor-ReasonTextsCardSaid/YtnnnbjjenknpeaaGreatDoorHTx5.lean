import Derived.Test.YtnnnbjjenknpeaaGreatDoorHTx4
/- The walk of reason.Text. -/
set_option linter.unusedVariables false
set_option linter.unusedSimpArgs false
namespace Go.Proofs.YtnnnbjjenknpeaaGreatDoor
open Go.Se Go.RowKit Go.Shelf
theorem Qws.at_ {b:Nat} {w w':World} (h:Qws b w w') {k t:Nat} {l:List Value} (ha:At w k t l) (hb:k ≠ b) (ht:t ≠ 5) : At w' k t l := by
 have h1 : w.heap[k]? = _ := ha
 refine (h k (lt_of_block h1) hb ?_).trans ha
 rintro ⟨cur,fz,h2⟩
 rw [h1] at h2
 simp at h2
 exact ht h2.2.1
def Bld (w:World) (B b:Nat) (s:ByteArray) : Prop := Lib.IsBuilder 119 5 B b (Lib.strCells s) w ∧ B ≤ w.heap.size
theorem Qtp {w w':World} {base e size:Nat} {v:Value} {n:Nat} {xs:List Value} (h:w.ownsRow base e size v n xs) (hx:Ext w w') : w'.ownsRow base e size v n xs := by
 refine ⟨h.1,?_⟩
 rcases h.2 with h0 | ⟨g,cap,cur,hv,hb,hg,r⟩
 · exact .inl h0
 · exact .inr ⟨g,cap,cur,hv,hb,by rw [hx.block g (lt_of_block hg)]; exact hg,r⟩
theorem Qzp {w w':World} {B b:Nat} {p:Value} {bs:List Value} (h:Lib.BuilderAt 119 5 B b p bs w) (hx:Ext w w') : Lib.BuilderAt 119 5 B b p bs w' := by
 obtain ⟨hB,v,hb,hown,hne⟩ := h
 exact ⟨hB,v,by rw [hx.block b (lt_of_block hb)]; exact hb,Qtp hown hx,hne⟩
theorem Bld.ext {w w':World} {B b:Nat} {s:ByteArray} (h:Bld w B b s) (hx:Ext w w') : Bld w' B b s :=
 ⟨h.1.imp (fun h => Qzp h hx) (fun h => Qzp h hx),Nat.le_trans h.2 hx.size⟩
theorem Q17 (s t:ByteArray) : Lib.strCells s ++ Lib.strCells t = Lib.strCells (s ++ t) := by
 unfold Lib.strCells
 rw [← List.map_append,← Array.toList_append,ByteArray.data_append]
theorem Q18 (s:ByteArray) : (Lib.strCells s).length = s.size := Lib.strCells_length s
theorem Q8b : Qnz Tryz.prog 55 := ⟨_,Tryz.func55,rfl,rfl⟩
theorem Q8a : Qnz Tryz.prog 56 := ⟨_,Tryz.func56,rfl,rfl⟩
theorem Q6h : Qnz Tryz.prog 60 := ⟨_,Tryz.func60,rfl,rfl⟩
theorem Q6i : Qnz Tryz.prog 57 := ⟨_,Tryz.func57,rfl,rfl⟩
theorem Qch {w1 w:World} {b:Nat} {s:ByteArray} (t:ByteArray) (h:Bld w w1.heap.size b s) (hx:Ext w1 w) (hl:s.size + t.size ≤ 140737488355328) :
 Cal Tryz.prog 55 [.pointer (some ⟨b,0,none⟩),.string t] w fun r w' => r = .tuple #[.int .i64 t.size,.nilIface] ∧ Bld w' w1.heap.size b (s ++ t) ∧ Ext w1 w' ∧ Qws b w w' := by
 refine Qbi Q8b (bws w1.heap.size b _ t w h.1 (by rw [Q18]; exact hl) h.2) ?_
 rintro w' ⟨h1,h2,h3⟩
 rw [Q17] at h1
 exact ⟨rfl,⟨.inr h1,Nat.le_trans h.2 h2.size⟩,Below.trans hx h2,h3⟩
theorem Qn6 {w1 w:World} {b:Nat} {s:ByteArray} (h:Bld w w1.heap.size b s) (hx:Ext w1 w) (hl:s.size + 1 ≤ 140737488355328) :
 Cal Tryz.prog 56 [.pointer (some ⟨b,0,none⟩),.int .u8 32] w fun r w' => r = .nilIface ∧ Bld w' w1.heap.size b (s ++ spB) ∧ Ext w1 w' ∧ Qws b w w' := by
 refine Qbi Q8a (bwb w1.heap.size b _ 32 w h.1 (by rw [Q18]; exact hl) h.2) ?_
 rintro w' ⟨h1,h2,h3⟩
 rw [show [Value.int .u8 32] = Lib.strCells spB from rfl,Q17] at h1
 exact ⟨rfl,⟨.inr h1,Nat.le_trans h.2 h2.size⟩,Below.trans hx h2,h3⟩
theorem Qqa {w1 w:World} {b:Nat} {s:ByteArray} (h:Bld w w1.heap.size b s) (hx:Ext w1 w) :
 Cal Tryz.prog 60 [.pointer (some ⟨b,0,none⟩)] w fun r w' => r = .string s ∧ Ext w1 w' := by
 refine Qbi Q6h (Tryz.Builder_String_any w1.heap.size b s.data.toList w h.1 h.2) ?_
 intro w' h2
 exact ⟨rfl,Below.trans hx h2⟩
theorem Qkw (n:Int) (w:World) (hg:Gl w) (h0:-9223372036854775808 ≤ n) (h1:n ≤ 9223372036854775807) : Cal Tryz.prog 57 [.int .i64 n,.int .i64 10] w fun r w' => r = .string (Qdw n) ∧ Ext w w' := by
 refine Qbi Q6i (Tryz.strconv_FormatInt_10 n h0 h1 w hg.pow10) ?_
 rintro w' ⟨k,os,rfl⟩
 exact ⟨rfl,(Qfm w k).trans (Qez _ _)⟩
theorem Qxo (n:Int) (w:World) (hg:Gl w) (h0:-9223372036854775808 ≤ n) (h1:n ≤ 9223372036854775807) : Cal Tryz.prog 59 [.int .i64 n] w fun r w' => r = .string (Qdw n) ∧ Ext w w' := by
 refine Qbi Q02 (Tryz.strconv_Itoa n h0 h1 w hg.pow10) ?_
 rintro w' ⟨k,os,rfl⟩
 exact ⟨rfl,(Qfm w k).trans (Qez _ _)⟩
theorem Qmm (e:Ev) (w:World) (hg:Gl w) (ht:e.text.size < 1000000) :
 Cal Tryz.prog 58 [evV e] w fun r w' => r = .string (if Xp e = true then Qfb e else ⟨#[]⟩) ∧ Ext w w' := by
 by_cases hm : Xp e = true
 · rw [if_pos hm]
   exact Qg8 e w hg hm (Qlf hm ht)
 · rw [if_neg hm]
   have hm : Xp e = false := by simpa using hm
   refine Fi Tryz.func58 rfl _ rfl rfl ?_;conv=>whnf
   intro b w1 hn
   have hb := hn.At
   conv=>whnf
   refine ⟨evC e,⟨rfl,hb.all⟩,?_⟩;conv=>whnf
   refine (Qgf e w1 (hg.ext hn.ext) (by omega)).mono ?_
   rintro _ w2 ⟨rfl,hx2⟩;conv=>whnf
   rw [hm]
   constructor
   · intro _
     conv=>whnf
     exact ⟨rfl,hn.ext.trans hx2⟩
   · intro h; cases h
set_option maxHeartbeats 4000000 in
theorem Q2i (item:ByteArray) (tot:Int) (A1:Option Addr) (c1:Nat) (Q:List Pt) (A2:Option Addr) (c2:Nat) (O:List Ev) (f:Int) (w:World) (hg:Gl w) (hnm:Q2y w) (h1:Sl ptC 3 w A1 Q) (h2:SlE w A2 O) (hi:item.size ≤ 1000) (hQ:Q.length ≤ 12) (hO:O.length ≤ 1000) (ht:-9223372036854775808 ≤ tot ∧ tot ≤ 9223372036854775807) (hf:-9223372036854775808 ≤ f ∧ f ≤ 9223372036854775807) (hq:∀ p ∈ Q,Q7f p) (ho:∀ e ∈ O,e.text.size < 1000000) :
 Cal Tryz.prog 28 [.agg (rsC item A1 Q.length c1 tot A2 O.length c2 f).toArray] w fun r w' => r = .string (Qpa item tot Q O f) ∧ Ext w w' := by
 have hnt := Qdr ht.1 ht.2
 have hnf := Qdr hf.1 hf.2
 have hsp : spB.size = 1 := rfl
 have hhd : (headB item tot).size ≤ 1022 := by
  unfold headB
  simp only [ByteArray.size_append]
  omega
 refine Fi Tryz.func28 rfl _ rfl rfl ?_;conv=>whnf
 intro b1 w1 hn1; (conv=>whnf);repeat(refine Sg ?_;(conv=>whnf))
 have hr : At w1 b1 36 (rsC item A1 Q.length c1 tot A2 O.length c2 f) := hn1.At
 have hx1 := hn1.ext
 replace hnm := hnm.ext hg hx1
 replace hg := hg.ext hx1
 replace h1 := h1.ext hx1
 replace h2 := h2.ext hx1
 clear hn1
 intro b w2 hn2; (conv=>whnf);repeat(refine Sg ?_;(conv=>whnf))
 have hbld : Bld w2 w1.heap.size b ⟨#[]⟩ := by
  refine ⟨.inl ⟨by rw [hn2.block]; exact Nat.le_refl _,.slice none 0 0,hn2.At,⟨rfl,.inl ⟨rfl,rfl⟩⟩,by simp [Value.ownBlock]⟩,hn2.ext.size⟩
 have hx := hn2.ext
 clear hn2
 refine ⟨.string item,(hr.ext hx).one rfl,?_⟩; (conv=>whnf);repeat(refine Sg ?_;(conv=>whnf))
 refine (Qch item hbld hx (by have:(⟨#[]⟩ : ByteArray).size = 0 := rfl; omega)).mono ?_
 rintro _ w3 ⟨rfl,hbld,hx,_⟩; (conv=>whnf);repeat(refine Sg ?_;(conv=>whnf))
 rw [show (⟨#[]⟩ : ByteArray) ++ item = item from ByteArray.empty_append] at hbld
 refine (Qn6 hbld hx (by omega)).mono ?_
 rintro _ w4 ⟨rfl,hbld,hx,_⟩; (conv=>whnf);repeat(refine Sg ?_;(conv=>whnf))
 refine ⟨.int .i64 tot,(hr.ext hx).one rfl,?_⟩; (conv=>whnf);repeat(refine Sg ?_;(conv=>whnf))
 refine (Qkw tot w4 (hg.ext hx) ht.1 ht.2).mono ?_
 rintro _ w5 ⟨rfl,hx5⟩; (conv=>whnf);repeat(refine Sg ?_;(conv=>whnf))
 replace hbld := hbld.ext hx5
 replace hx := hx.trans hx5
 refine (Qch (Qdw tot) hbld hx (by rw [ByteArray.size_append]; omega)).mono ?_
 rintro _ w6 ⟨rfl,hbld,hx,_⟩; (conv=>whnf);repeat(refine Sg ?_;(conv=>whnf))
 rw [show item ++ spB ++ Qdw tot = headB item tot from rfl] at hbld
 unfold Qpa
 generalize headB item tot = hd at hhd hbld ⊢
 clear hx5
 refine ⟨.slice A1 Q.length c1,(hr.ext hx).one rfl,?_⟩; (conv=>whnf);repeat(refine Sg ?_;(conv=>whnf))
 refine Qi Qa (fun (k:Nat) w' => k ≤ Q.length ∧ Ext w1 w' ∧ Bld w' w1.heap.size b (Qb2 (Q.take k) hd))
  (fun k => [(1,.pointer (some ⟨b1,0,none⟩)),(3,.pointer (some ⟨b,0,none⟩)),(18,.slice A1 Q.length c1),(19,.int .i64 Q.length),(20,.int .i64 (k:Nat))]) (fun k => Q.length - k) 0 ⟨Nat.zero_le _,hx,hbld⟩ ⟨rfl,rfl,rfl,rfl,rfl,trivial⟩ ?_
 clear hbld hx
 rintro k w7 ⟨hk,hx,hbld⟩
 have hsz := Qnf (s := hd) (Q.take k) fun x hx => hq x (List.mem_of_mem_take hx)
 rw [List.length_take] at hsz
 conv=>whnf
 constructor
 · intro hlt
   have hlt : k < Q.length := by simpa using hlt
   obtain ⟨a,rfl,hc⟩ := (h1.ext hx).get hlt
   have htk : Qb2 (Q.take (k + 1)) hd = Qb2 (Q.take k) hd ++ Qjl Q[k] := by rw [List.take_succ_eq_append_getElem hlt,Qhc]
   have hpi := hq Q[k] (List.getElem_mem hlt)
   generalize Q[k] = p at hc htk hpi
   generalize Qb2 (Q.take k) hd = s at htk hsz hbld
   have hp1 := Qdr hpi.1.1 hpi.1.2
   have hp2 := Qdr hpi.2.1 hpi.2.2
   have hp3 := Qov p.1
   (conv=>whnf);repeat(refine Sg ?_;(conv=>whnf))
   refine ⟨a,⟨rfl,by omega,by omega⟩,?_⟩; (conv=>whnf);repeat(refine Sg ?_;(conv=>whnf))
   refine ⟨ptC p,⟨rfl,hc⟩,?_⟩; (conv=>whnf);repeat(refine Sg ?_;(conv=>whnf))
   intro b5 w8 hn8; (conv=>whnf);repeat(refine Sg ?_;(conv=>whnf))
   refine Qc Qa (e := ty43) rfl hn8.At rfl rfl rfl (by simp [Qh,ptC,Value.oneCell']) fun w9 h9 ho9 => ?_
   have h9 : At w9 b5 43 (ptC p) := h9
   have hx79 : Ext w7 w9 := ho9.ext hn8.ext (by rw [hn8.block]; exact Nat.le_refl _)
   clear ho9 hn8 hc
   replace hx := hx.trans hx79
   replace hbld := hbld.ext hx79
   clear hx79
   have hb5 : b5 ≠ b := fun e => by
    obtain ⟨h | h,_⟩ := hbld
    · have h9l : w9.heap[b5]? = _ := h9
      obtain ⟨_,v,hb,_⟩ := h
      rw [e,hb] at h9l
      simp at h9l
    · obtain ⟨_,v,hb,_⟩ := h
      have h9l : w9.heap[b5]? = _ := h9
      rw [e,hb] at h9l
      simp at h9l
   conv=>whnf
   refine Qy Qa (ι := Unit) (fun _ => [(1,.pointer (some ⟨b1,0,none⟩)),(3,.pointer (some ⟨b,0,none⟩)),(5,.pointer (some ⟨b5,0,none⟩)),(6,.string (nameB p.1)),(18,.slice (some a) Q.length c1),(19,.int .i64 Q.length),(20,.int .i64 (k:Nat))]) (fun _ w' => w' = w9) ?_ ?_
   · have hnm9 := hnm.ext hg hx
     (conv=>whnf);repeat(refine Sg ?_;(conv=>whnf))
     refine ⟨.int .i64 p.1,h9.one rfl,?_⟩; (conv=>whnf);repeat(refine Sg ?_;(conv=>whnf))
     refine ⟨.int .i64 p.1,fun _ => h9.one rfl,?_⟩; (conv=>whnf);repeat(refine Sg ?_;(conv=>whnf))
     constructor
     · intro hin
       have hin : 0 ≤ p.1 ∧ p.1 < 6 := by
        have hin : (decide (0 ≤ p.1) && decide (p.1 < 6)) = true := hin
        simpa using hin
       have hcell : w9.cell? ((⟨0,0,none⟩ : Addr).add (p.1.toNat * 1)) = some (.string (nameB p.1)) := by
        rw [Nat.mul_one]
        exact hnm9 _ _ (Q0y hin)
       (conv=>whnf);repeat(refine Sg ?_;(conv=>whnf))
       refine ⟨.int .i64 p.1,h9.one rfl,?_⟩; (conv=>whnf);repeat(refine Sg ?_;(conv=>whnf))
       refine ⟨⟨hin.1,hin.2⟩,?_⟩; (conv=>whnf);repeat(refine Sg ?_;(conv=>whnf))
       refine ⟨.string (nameB p.1),hcell,?_⟩; (conv=>whnf);repeat(refine Sg ?_;(conv=>whnf))
       exact ⟨(),rfl,⟨rfl,rfl,rfl,rfl,rfl,rfl,rfl,trivial⟩⟩
     · intro hin
       have hin : ¬ (0 ≤ p.1 ∧ p.1 < 6) := by
        have hin : (decide (0 ≤ p.1) && decide (p.1 < 6)) = false := hin
        simpa using hin
       rw [Qv3 hin]
       (conv=>whnf);repeat(refine Sg ?_;(conv=>whnf))
       exact ⟨(),rfl,⟨rfl,rfl,rfl,rfl,rfl,rfl,rfl,trivial⟩⟩
   rintro _ w10 hw10
   subst hw10
   have hname : Qjl p = scB ++ nameB p.1 ++ spB ++ Qdw p.2.1 ++ spB ++ Qdw p.2.2 := rfl
   generalize nameB p.1 = nm at hname hp3 ⊢
   have hsc : scB.size = 2 := rfl
   have hpu : 43 ≠ 5 := by decide
   (conv=>whnf);repeat(refine Sg ?_;(conv=>whnf))
   refine (Qch scB hbld hx (by omega)).mono ?_
   rintro _ w11 ⟨rfl,hbld,hx,hk⟩; (conv=>whnf);repeat(refine Sg ?_;(conv=>whnf))
   replace h9 := hk.at_ h9 hb5 hpu
   refine (Qch nm hbld hx (by rw [ByteArray.size_append]; omega)).mono ?_
   rintro _ w12 ⟨rfl,hbld,hx,hk⟩; (conv=>whnf);repeat(refine Sg ?_;(conv=>whnf))
   replace h9 := hk.at_ h9 hb5 hpu
   refine (Qn6 hbld hx (by simp only [ByteArray.size_append]; omega)).mono ?_
   rintro _ w13 ⟨rfl,hbld,hx,hk⟩; (conv=>whnf);repeat(refine Sg ?_;(conv=>whnf))
   replace h9 := hk.at_ h9 hb5 hpu
   refine ⟨.int .i64 p.2.1,h9.one rfl,?_⟩; (conv=>whnf);repeat(refine Sg ?_;(conv=>whnf))
   refine (Qkw p.2.1 w13 (hg.ext hx) hpi.1.1 hpi.1.2).mono ?_
   rintro _ w14 ⟨rfl,hx14⟩; (conv=>whnf);repeat(refine Sg ?_;(conv=>whnf))
   replace hbld := hbld.ext hx14
   replace hx := hx.trans hx14
   replace h9 := h9.ext hx14
   refine (Qch (Qdw p.2.1) hbld hx (by simp only [ByteArray.size_append]; omega)).mono ?_
   rintro _ w15 ⟨rfl,hbld,hx,hk⟩; (conv=>whnf);repeat(refine Sg ?_;(conv=>whnf))
   replace h9 := hk.at_ h9 hb5 hpu
   refine (Qn6 hbld hx (by simp only [ByteArray.size_append]; omega)).mono ?_
   rintro _ w16 ⟨rfl,hbld,hx,hk⟩; (conv=>whnf);repeat(refine Sg ?_;(conv=>whnf))
   replace h9 := hk.at_ h9 hb5 hpu
   refine ⟨.int .i64 p.2.2,h9.one rfl,?_⟩; (conv=>whnf);repeat(refine Sg ?_;(conv=>whnf))
   refine (Qkw p.2.2 w16 (hg.ext hx) hpi.2.1 hpi.2.2).mono ?_
   rintro _ w17 ⟨rfl,hx17⟩; (conv=>whnf);repeat(refine Sg ?_;(conv=>whnf))
   replace hbld := hbld.ext hx17
   replace hx := hx.trans hx17
   refine (Qch (Qdw p.2.2) hbld hx (by simp only [ByteArray.size_append]; omega)).mono ?_
   rintro _ w18 ⟨rfl,hbld,hx,hk⟩; (conv=>whnf);repeat(refine Sg ?_;(conv=>whnf))
   have hfin : s ++ scB ++ nm ++ spB ++ Qdw p.2.1 ++ spB ++ Qdw p.2.2 = Qb2 (Q.take (k + 1)) hd := by
    rw [htk,hname]
    simp only [ByteArray.append_assoc]
   rw [hfin] at hbld
   refine ⟨_,wrap_succ (by omega),?_⟩; (conv=>whnf);repeat(refine Sg ?_;(conv=>whnf))
   exact ⟨k + 1,by omega,⟨by omega,hx,hbld⟩,⟨rfl,rfl,rfl,rfl,rfl,trivial⟩⟩
 · intro hge
   have hge : Q.length ≤ k := by simpa using hge
   rw [List.take_of_length_le hge] at hbld hsz
   generalize Qb2 Q hd = s0 at hsz hbld ⊢
   (conv=>whnf);repeat(refine Sg ?_;(conv=>whnf))
   refine ⟨.slice A2 O.length c2,(hr.ext hx).one rfl,?_⟩; (conv=>whnf);repeat(refine Sg ?_;(conv=>whnf))
   refine Qi Qa (fun (i:Nat) w' => i ≤ O.length ∧ Ext w1 w' ∧ Bld w' w1.heap.size b (Qpw (O.take i) s0))
    (fun i => [(1,.pointer (some ⟨b1,0,none⟩)),(3,.pointer (some ⟨b,0,none⟩)),(51,.slice A2 O.length c2),(52,.int .i64 O.length),(53,.int .i64 (i:Nat))]) (fun i => O.length - i) 0 ⟨Nat.zero_le _,hx,hbld⟩ ⟨rfl,rfl,rfl,rfl,rfl,trivial⟩ ?_
   clear hbld hx
   rintro i w8 ⟨hik,hx,hbld⟩
   have hsz2 := Qwa (s := s0) (O.take i) fun x hx => ho x (List.mem_of_mem_take hx)
   rw [List.length_take] at hsz2
   conv=>whnf
   constructor
   · intro hlt
     have hlt : i < O.length := by simpa using hlt
     obtain ⟨a,rfl,hc⟩ := (h2.ext hx).get hlt
     have htk : Qpw (O.take (i + 1)) s0 = Qpw (O.take i) s0 ++ Qhs O[i] := by rw [List.take_succ_eq_append_getElem hlt,Qlm]
     have hoi := ho O[i] (List.getElem_mem hlt)
     generalize O[i] = e at hc htk hoi
     generalize Qpw (O.take i) s0 = s at htk hsz2 hbld
     have hos : Qmo.size = 6 := rfl
     have hel := Qqj hoi
     (conv=>whnf);repeat(refine Sg ?_;(conv=>whnf))
     refine ⟨a,⟨rfl,by omega,by omega⟩,?_⟩; (conv=>whnf);repeat(refine Sg ?_;(conv=>whnf))
     refine ⟨evC e,⟨rfl,hc⟩,?_⟩; (conv=>whnf);repeat(refine Sg ?_;(conv=>whnf))
     intro b9 w9 hn9; (conv=>whnf);repeat(refine Sg ?_;(conv=>whnf))
     refine Qc Qa (e := ty53) rfl hn9.At rfl rfl rfl (Qb9 e) fun w10 h10 ho10 => ?_
     have h10 : At w10 b9 53 (evC e) := h10
     have hx810 : Ext w8 w10 := ho10.ext hn9.ext (by rw [hn9.block]; exact Nat.le_refl _)
     clear ho10 hn9 hc
     replace hx := hx.trans hx810
     replace hbld := hbld.ext hx810
     have hb9 : b9 ≠ b := fun e' => by
      obtain ⟨h | h,_⟩ := hbld
      · obtain ⟨_,v,hb,_⟩ := h
        have h9l : w10.heap[b9]? = _ := h10
        rw [e',hb] at h9l
        simp at h9l
      · obtain ⟨_,v,hb,_⟩ := h
        have h9l : w10.heap[b9]? = _ := h10
        rw [e',hb] at h9l
        simp at h9l
     (conv=>whnf);repeat(refine Sg ?_;(conv=>whnf))
     refine (Qch Qmo hbld hx (by omega)).mono ?_
     rintro _ w11 ⟨rfl,hbld,hx,hk⟩; (conv=>whnf);repeat(refine Sg ?_;(conv=>whnf))
     replace h10 := hk.at_ h10 hb9 (by decide)
     refine ⟨evC e,⟨rfl,h10.all⟩,?_⟩; (conv=>whnf);repeat(refine Sg ?_;(conv=>whnf))
     refine (Qmm e w11 (hg.ext hx) hoi).mono ?_
     rintro _ w12 ⟨rfl,hx12⟩
     replace hbld := hbld.ext hx12
     replace hx := hx.trans hx12
     have hev : Qhs e = Qmo ++ (if Xp e = true then Qfb e else ⟨#[]⟩) := rfl
     generalize (if Xp e = true then Qfb e else (⟨#[]⟩ : ByteArray)) = fm at hev ⊢
     rw [hev,ByteArray.size_append] at hel
     (conv=>whnf);repeat(refine Sg ?_;(conv=>whnf))
     refine (Qch fm hbld hx (by rw [ByteArray.size_append]; omega)).mono ?_
     rintro _ w13 ⟨rfl,hbld,hx,hk⟩; (conv=>whnf);repeat(refine Sg ?_;(conv=>whnf))
     rw [ByteArray.append_assoc,← hev,← htk] at hbld
     refine ⟨_,wrap_succ (by omega),?_⟩; (conv=>whnf);repeat(refine Sg ?_;(conv=>whnf))
     exact ⟨i + 1,by omega,⟨by omega,hx,hbld⟩,⟨rfl,rfl,rfl,rfl,rfl,trivial⟩⟩
   · intro hge2
     have hge2 : O.length ≤ i := by simpa using hge2
     rw [List.take_of_length_le hge2] at hbld hsz2
     generalize Qpw O s0 = s at hsz2 hbld ⊢
     have hfs : Qxi.size = 7 := rfl
     unfold Q8z
     (conv=>whnf);repeat(refine Sg ?_;(conv=>whnf))
     refine ⟨.int .i64 f,(hr.ext hx).one rfl,?_⟩; (conv=>whnf);repeat(refine Sg ?_;(conv=>whnf))
     constructor
     · intro hne
       have hne : ¬ f = 0 := by simpa using hne
       rw [if_neg hne]
       (conv=>whnf);repeat(refine Sg ?_;(conv=>whnf))
       refine (Qch Qxi hbld hx (by omega)).mono ?_
       rintro _ w9 ⟨rfl,hbld,hx,_⟩; (conv=>whnf);repeat(refine Sg ?_;(conv=>whnf))
       refine ⟨.int .i64 f,(hr.ext hx).one rfl,?_⟩; (conv=>whnf);repeat(refine Sg ?_;(conv=>whnf))
       refine (Qxo f w9 (hg.ext hx) hf.1 hf.2).mono ?_
       rintro _ w10 ⟨rfl,hx10⟩; (conv=>whnf);repeat(refine Sg ?_;(conv=>whnf))
       replace hbld := hbld.ext hx10
       replace hx := hx.trans hx10
       refine (Qch (Qdw f) hbld hx (by rw [ByteArray.size_append]; omega)).mono ?_
       rintro _ w11 ⟨rfl,hbld,hx,_⟩; (conv=>whnf);repeat(refine Sg ?_;(conv=>whnf))
       refine (Qqa hbld hx).mono ?_
       rintro _ w12 ⟨rfl,hx⟩; (conv=>whnf);repeat(refine Sg ?_;(conv=>whnf))
       exact ⟨by rw [ByteArray.append_assoc],hx1.trans hx⟩
     · intro hne
       have hne : f = 0 := by simpa using hne
       rw [if_pos hne]
       (conv=>whnf);repeat(refine Sg ?_;(conv=>whnf))
       refine (Qqa hbld hx).mono ?_
       rintro _ w12 ⟨rfl,hx⟩; (conv=>whnf);repeat(refine Sg ?_;(conv=>whnf))
       exact ⟨rfl,hx1.trans hx⟩
end Go.Proofs.YtnnnbjjenknpeaaGreatDoor
