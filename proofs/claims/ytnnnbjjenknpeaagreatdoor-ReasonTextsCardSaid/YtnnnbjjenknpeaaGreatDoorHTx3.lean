import Derived.Test.YtnnnbjjenknpeaaGreatDoorHTx2
/- The reference's text of a reason: its walk. -/
set_option linter.unusedVariables false
set_option linter.unusedSimpArgs false
namespace Go.Proofs.YtnnnbjjenknpeaaGreatDoor
open Go.Se Go.RowKit
theorem Q6t : scB.size = 2 := rfl
theorem Q04 : Qmo.size = 6 := rfl
theorem Qz3 : Qxi.size = 7 := rfl
theorem Qso (s:ByteArray) : s ++ (⟨#[]⟩ : ByteArray) = s := ByteArray.append_empty
set_option maxHeartbeats 4000000 in
theorem Qrk (item:ByteArray) (tot:Int) (A1:Option Addr) (c1:Nat) (Q:List Pt) (A2:Option Addr) (c2:Nat) (O:List Ev) (f:Int) (w:World) (h1:Sl ptC 3 w A1 Q) (h2:SlE w A2 O) (hi:item.size ≤ 1000) (hQ:Q.length ≤ 12) (hO:O.length ≤ 12) (ht:-9223372036854775808 ≤ tot ∧ tot ≤ 9223372036854775807) (hf:-9223372036854775808 ≤ f ∧ f ≤ 9223372036854775807) (hq:∀ p ∈ Q,Q7f p) (ho:∀ e ∈ O,e.text.size < 1000000) :
 Cal Tryz.prog 30 [.agg (rsC item A1 Q.length c1 tot A2 O.length c2 f).toArray] w fun r w' => r = .string (Qpa item tot Q O f) ∧ Ext w w' := by
 have hnt := Qdr ht.1 ht.2
 have hnf := Qdr hf.1 hf.2
 have hsp : spB.size = 1 := rfl
 have hhd : (headB item tot).size ≤ 1022 := by
  unfold headB
  simp only [ByteArray.size_append]
  omega
 refine Fi Tryz.func30 rfl _ rfl rfl ?_;conv=>whnf
 intro b1 w1 hn1; (conv=>whnf);repeat(refine Sg ?_;(conv=>whnf))
 have hr : At w1 b1 36 (rsC item A1 Q.length c1 tot A2 O.length c2 f) := hn1.At
 intro b2 w2 hn2; (conv=>whnf);repeat(refine Sg ?_;(conv=>whnf))
 have hnm : SlT w2 (some ⟨b2,0,none⟩) Qft := Qby X6 hn2
 replace hr := hr.ext hn2.ext
 have hx := hn1.ext.trans hn2.ext
 clear hn1 hn2
 refine Dr .ext [0,1,2,3,4,5,6,7] [] ?_;conv=>whnf
 have hxd : Ext w2 w2.drew := (Ext.refl w2).drew
 replace hr := hr.ext hxd
 replace hnm := hnm.ext hxd
 replace hx := hx.trans hxd
 generalize w2.drew = w3 at hx hr hnm ⊢
 refine ⟨.string item,hr.one rfl,?_⟩;conv=>whnf
 refine ⟨sz2 (a := item) (b := spB) (by omega) (by omega),?_⟩;conv=>whnf
 refine ⟨.int .i64 tot,hr.one rfl,?_⟩;conv=>whnf
 refine (Qh8 _ tot (Nat.le_refl _) ht.1 ht.2 w3).mono ?_
 rintro _ w4 ⟨rfl,hx4⟩
 refine ⟨hx4,?_⟩;conv=>whnf
 refine ⟨sz2 (a := item ++ spB) (b := Qdw tot) (by rw [ByteArray.size_append]; omega) (by omega),?_⟩;conv=>whnf
 replace hr := hr.ext hx4
 replace hnm := hnm.ext hx4
 replace hx := hx.trans hx4
 clear hxd hx4
 have hhead : item ++ spB ++ Qdw tot = headB item tot := rfl
 rw [show item ++ (⟨#[32]⟩ : ByteArray) ++ Qdw tot = headB item tot from rfl]
 unfold Qpa
 generalize headB item tot = hd at hhd ⊢
 clear hhead
 (conv=>whnf);repeat(refine Sg ?_;(conv=>whnf))
 refine ⟨.slice A1 Q.length c1,hr.one rfl,?_⟩; (conv=>whnf);repeat(refine Sg ?_;(conv=>whnf))
 refine Qi Qa (fun (k:Nat) w' => k ≤ Q.length ∧ Ext w4 w')
  (fun k => [(1,.pointer (some ⟨b1,0,none⟩)),(3,.slice (some ⟨b2,0,none⟩) 6 6),(4,.string (Qb2 (Q.take k) hd)),(19,.slice A1 Q.length c1),(20,.int .i64 Q.length),(21,.int .i64 (k:Nat))]) (fun k => Q.length - k) 0 ⟨Nat.zero_le _,Ext.refl _⟩ ⟨rfl,rfl,rfl,rfl,rfl,rfl,trivial⟩ ?_
 rintro k w5 ⟨hk,hx5⟩
 have hsz := Qnf (s := hd) (Q.take k) fun x hx => hq x (List.mem_of_mem_take hx)
 rw [List.length_take] at hsz
 conv=>whnf
 constructor
 · intro hlt
   have hlt : k < Q.length := by simpa using hlt
   obtain ⟨a,rfl,hc⟩ := (h1.ext (hx.trans hx5)).get hlt
   have htk : Qb2 (Q.take (k + 1)) hd = Qb2 (Q.take k) hd ++ Qjl Q[k] := by rw [List.take_succ_eq_append_getElem hlt,Qhc]
   have hpi := hq Q[k] (List.getElem_mem hlt)
   generalize Q[k] = p at hc htk hpi
   generalize Qb2 (Q.take k) hd = s at htk hsz
   have hp1 := Qdr hpi.1.1 hpi.1.2
   have hp2 := Qdr hpi.2.1 hpi.2.2
   have hp3 := Qov p.1
   (conv=>whnf);repeat(refine Sg ?_;(conv=>whnf))
   refine ⟨a,⟨rfl,by omega,by omega⟩,?_⟩; (conv=>whnf);repeat(refine Sg ?_;(conv=>whnf))
   refine ⟨ptC p,⟨rfl,hc⟩,?_⟩; (conv=>whnf);repeat(refine Sg ?_;(conv=>whnf))
   intro b6 w6 hn6; (conv=>whnf);repeat(refine Sg ?_;(conv=>whnf))
   refine Qc Qa (e := ty43) rfl hn6.At rfl rfl rfl (by simp [Qh,ptC,Value.oneCell']) fun w7 h7 ho7 => ?_
   have h7 : At w7 b6 43 (ptC p) := h7
   have hx57 : Ext w5 w7 := ho7.ext hn6.ext (by rw [hn6.block]; exact Nat.le_refl _)
   clear ho7 hn6 hc
   have hnm7 := hnm.ext (hx5.trans hx57)
   conv=>whnf
   refine Qy Qa (ι := Unit) (fun _ => [(1,.pointer (some ⟨b1,0,none⟩)),(3,.slice (some ⟨b2,0,none⟩) 6 6),(4,.string s),(6,.pointer (some ⟨b6,0,none⟩)),(7,.string (nameB p.1)),(19,.slice (some a) Q.length c1),(20,.int .i64 Q.length),(21,.int .i64 (k:Nat))]) (fun _ w' => w' = w7) ?_ ?_
   · (conv=>whnf);repeat(refine Sg ?_;(conv=>whnf))
     refine ⟨.int .i64 p.1,h7.one rfl,?_⟩; (conv=>whnf);repeat(refine Sg ?_;(conv=>whnf))
     refine ⟨.int .i64 p.1,fun _ => h7.one rfl,?_⟩; (conv=>whnf);repeat(refine Sg ?_;(conv=>whnf))
     constructor
     · intro hin
       have hin : 0 ≤ p.1 ∧ p.1 < 6 := by
        have hin : (decide (0 ≤ p.1) && decide (p.1 < 6)) = true := hin
        simpa using hin
       obtain ⟨n,hn⟩ : ∃ n : Nat,p.1 = n := ⟨p.1.toNat,by omega⟩
       have hnat := Q0y hin
       obtain ⟨p1,p23⟩ := p
       simp only at hn hnat
       subst hn
       rw [Int.toNat_natCast,List.getElem?_map,Option.map_eq_some_iff] at hnat
       obtain ⟨nm,hn1,hn2⟩ := hnat
       injection hn2 with hn2
       subst hn2
       obtain ⟨a8,hA8,hc8⟩ := hnm7 n _ hn1
       injection hA8 with hA8
       (conv=>whnf);repeat(refine Sg ?_;(conv=>whnf))
       refine ⟨.int .i64 (n:Nat),h7.one rfl,?_⟩; (conv=>whnf);repeat(refine Sg ?_;(conv=>whnf))
       refine ⟨⟨b2,0,none⟩,⟨rfl,by omega,by omega⟩,?_⟩; (conv=>whnf);repeat(refine Sg ?_;(conv=>whnf))
       rw [← hA8] at hc8
       refine ⟨.string (nameB (n:Int)),Xc hc8,?_⟩; (conv=>whnf);repeat(refine Sg ?_;(conv=>whnf))
       exact ⟨(),rfl,⟨rfl,rfl,rfl,rfl,rfl,rfl,rfl,rfl,trivial⟩⟩
     · intro hin
       have hin : ¬ (0 ≤ p.1 ∧ p.1 < 6) := by
        have hin : (decide (0 ≤ p.1) && decide (p.1 < 6)) = false := hin
        simpa using hin
       rw [Qv3 hin]
       (conv=>whnf);repeat(refine Sg ?_;(conv=>whnf))
       exact ⟨(),rfl,⟨rfl,rfl,rfl,rfl,rfl,rfl,rfl,rfl,trivial⟩⟩
   rintro _ w8 hw8
   subst hw8
   have hname : Qjl p = scB ++ nameB p.1 ++ spB ++ Qdw p.2.1 ++ spB ++ Qdw p.2.2 := rfl
   generalize nameB p.1 = nm at hname hp3 ⊢
   have hsc := Q6t
   (conv=>whnf);repeat(refine Sg ?_;(conv=>whnf))
   refine Dr .ext [0,1,2,3,4,5,9,10,6,7,8,11,12,13,14] [] ?_;conv=>whnf
   have hxd : Ext w8 w8.drew := (Ext.refl w8).drew
   replace h7 := h7.ext hxd
   replace hx57 := hx57.trans hxd
   generalize w8.drew = w9 at hx57 h7 ⊢
   refine ⟨sz2 (a := scB) (b := nm) (by omega) (by omega),?_⟩;conv=>whnf
   refine ⟨sz2 (a := scB ++ nm) (b := spB) (by rw [ByteArray.size_append]; omega) (by omega),?_⟩;conv=>whnf
   refine ⟨.int .i64 p.2.1,h7.one rfl,?_⟩;conv=>whnf
   refine ⟨.int .i64 p.2.2,h7.one rfl,?_⟩;conv=>whnf
   refine (Qh8 _ p.2.1 (Nat.le_refl _) hpi.1.1 hpi.1.2 w9).mono ?_
   rintro _ w10 ⟨rfl,hx10⟩
   refine ⟨hx10,?_⟩;conv=>whnf
   refine ⟨sz2 (a := scB ++ nm ++ spB) (b := Qdw p.2.1) (by simp only [ByteArray.size_append]; omega) (by omega),?_⟩;conv=>whnf
   refine ⟨sz2 (a := scB ++ nm ++ spB ++ Qdw p.2.1) (b := spB) (by simp only [ByteArray.size_append]; omega) (by omega),?_⟩;conv=>whnf
   refine (Qh8 _ p.2.2 (Nat.le_refl _) hpi.2.1 hpi.2.2 w10).mono ?_
   rintro _ w11 ⟨rfl,hx11⟩
   refine ⟨hx11,?_⟩;conv=>whnf
   refine ⟨sz2 (a := scB ++ nm ++ spB ++ Qdw p.2.1 ++ spB) (b := Qdw p.2.2) (by simp only [ByteArray.size_append]; omega) (by omega),?_⟩;conv=>whnf
   refine ⟨sz2 (a := s) (b := scB ++ nm ++ spB ++ Qdw p.2.1 ++ spB ++ Qdw p.2.2) (by omega) (by simp only [ByteArray.size_append]; omega),?_⟩;conv=>whnf
   have hfin : s ++ (scB ++ nm ++ spB ++ Qdw p.2.1 ++ spB ++ Qdw p.2.2) = Qb2 (Q.take (k + 1)) hd := by rw [htk,hname]
   refine ⟨_,wrap_succ (by omega),?_⟩; (conv=>whnf);repeat(refine Sg ?_;(conv=>whnf))
   refine ⟨k + 1,by omega,⟨by omega,((hx5.trans hx57).trans hx10).trans hx11⟩,⟨rfl,rfl,?_,rfl,rfl,rfl,trivial⟩⟩
   rw [← hfin]
   rfl
 · intro hge
   have hge : Q.length ≤ k := by simpa using hge
   rw [List.take_of_length_le hge]
   rw [List.take_of_length_le hge] at hsz
   generalize Qb2 Q hd = s0 at hsz ⊢
   replace hr := hr.ext hx5
   replace hx := hx.trans hx5
   have h2 := h2.ext hx
   clear hnm hx5
   (conv=>whnf);repeat(refine Sg ?_;(conv=>whnf))
   refine ⟨.slice A2 O.length c2,hr.one rfl,?_⟩; (conv=>whnf);repeat(refine Sg ?_;(conv=>whnf))
   refine Qi Qa (fun (i:Nat) w' => i ≤ O.length ∧ Ext w5 w')
    (fun i => [(1,.pointer (some ⟨b1,0,none⟩)),(4,.string (Qpw (O.take i) s0)),(54,.slice A2 O.length c2),(55,.int .i64 O.length),(56,.int .i64 (i:Nat))]) (fun i => O.length - i) 0 ⟨Nat.zero_le _,Ext.refl _⟩ ⟨rfl,rfl,rfl,rfl,rfl,trivial⟩ ?_
   rintro i w6 ⟨hik,hx6⟩
   have hsz2 := Qwa (s := s0) (O.take i) fun x hx => ho x (List.mem_of_mem_take hx)
   rw [List.length_take] at hsz2
   conv=>whnf
   constructor
   · intro hlt
     have hlt : i < O.length := by simpa using hlt
     obtain ⟨a,rfl,hc⟩ := (h2.ext hx6).get hlt
     have htk : Qpw (O.take (i + 1)) s0 = Qpw (O.take i) s0 ++ Qhs O[i] := by rw [List.take_succ_eq_append_getElem hlt,Qlm]
     have hoi := ho O[i] (List.getElem_mem hlt)
     generalize O[i] = e at hc htk hoi
     generalize Qpw (O.take i) s0 = s at htk hsz2
     have hos := Q04
     (conv=>whnf);repeat(refine Sg ?_;(conv=>whnf))
     refine ⟨a,⟨rfl,by omega,by omega⟩,?_⟩; (conv=>whnf);repeat(refine Sg ?_;(conv=>whnf))
     refine ⟨evC e,⟨rfl,hc⟩,?_⟩; (conv=>whnf);repeat(refine Sg ?_;(conv=>whnf))
     intro b9 w7 hn7; (conv=>whnf);repeat(refine Sg ?_;(conv=>whnf))
     refine Qc Qa (e := ty53) rfl hn7.At rfl rfl rfl (Qb9 e) fun w8 h8 ho8 => ?_
     have h8 : At w8 b9 53 (evC e) := h8
     have hx68 : Ext w6 w8 := ho8.ext hn7.ext (by rw [hn7.block]; exact Nat.le_refl _)
     clear ho8 hn7 hc
     (conv=>whnf);repeat(refine Sg ?_;(conv=>whnf))
     refine ⟨sz2 (a := s) (b := Qmo) (by omega) (by omega),?_⟩; (conv=>whnf);repeat(refine Sg ?_;(conv=>whnf))
     refine ⟨evC e,⟨rfl,h8.all⟩,?_⟩; (conv=>whnf);repeat(refine Sg ?_;(conv=>whnf))
     refine (Qri e w8 (by omega)).mono ?_
     rintro _ w9 ⟨rfl,hx9⟩
     replace h8 := h8.ext hx9
     replace hx68 := hx68.trans hx9
     clear hx9
     (conv=>whnf);repeat(refine Sg ?_;(conv=>whnf))
     constructor
     · intro hm
       have hm : Xp e = true := hm
       have hfo := Qlf hm hoi
       have hfs := Qk7 hfo
       have hev : s ++ Qmo ++ Qfb e = Qpw (O.take (i + 1)) s0 := by
        rw [htk]
        unfold Qhs
        rw [if_pos hm,ByteArray.append_assoc]
       (conv=>whnf);repeat(refine Sg ?_;(conv=>whnf))
       refine ⟨evC e,⟨rfl,h8.all⟩,?_⟩; (conv=>whnf);repeat(refine Sg ?_;(conv=>whnf))
       refine (Qrh e w9 hfo).mono ?_
       rintro _ w10 ⟨rfl,hx10⟩; (conv=>whnf);repeat(refine Sg ?_;(conv=>whnf))
       refine ⟨sz2 (a := s ++ Qmo) (b := Qfb e) (by rw [ByteArray.size_append]; omega) (by omega),?_⟩; (conv=>whnf);repeat(refine Sg ?_;(conv=>whnf))
       refine ⟨_,wrap_succ (by omega),?_⟩; (conv=>whnf);repeat(refine Sg ?_;(conv=>whnf))
       refine ⟨i + 1,by omega,⟨by omega,(hx6.trans hx68).trans hx10⟩,⟨rfl,?_,rfl,rfl,rfl,trivial⟩⟩
       rw [← hev]
       rfl
     · intro hm
       have hm : ¬ Xp e = true := by
        have hm : Xp e = false := hm
        simp [hm]
       have hev : s ++ Qmo = Qpw (O.take (i + 1)) s0 := by
        rw [htk]
        unfold Qhs
        rw [if_neg hm,Qso]
       (conv=>whnf);repeat(refine Sg ?_;(conv=>whnf))
       refine ⟨_,wrap_succ (by omega),?_⟩; (conv=>whnf);repeat(refine Sg ?_;(conv=>whnf))
       refine ⟨i + 1,by omega,⟨by omega,hx6.trans hx68⟩,⟨rfl,?_,rfl,rfl,rfl,trivial⟩⟩
       rw [← hev]
       rfl
   · intro hge2
     have hge2 : O.length ≤ i := by simpa using hge2
     rw [List.take_of_length_le hge2]
     rw [List.take_of_length_le hge2] at hsz2
     generalize Qpw O s0 = s at hsz2 ⊢
     replace hr := hr.ext hx6
     replace hx := hx.trans hx6
     have hfs := Qz3
     unfold Q8z
     (conv=>whnf);repeat(refine Sg ?_;(conv=>whnf))
     refine ⟨.int .i64 f,hr.one rfl,?_⟩; (conv=>whnf);repeat(refine Sg ?_;(conv=>whnf))
     constructor
     · intro hne
       have hne : ¬ f = 0 := by simpa using hne
       rw [if_neg hne]
       (conv=>whnf);repeat(refine Sg ?_;(conv=>whnf))
       refine ⟨.int .i64 f,hr.one rfl,?_⟩; (conv=>whnf);repeat(refine Sg ?_;(conv=>whnf))
       refine (Qh8 _ f (Nat.le_refl _) hf.1 hf.2 w6).mono ?_
       rintro _ w7 ⟨rfl,hx7⟩; (conv=>whnf);repeat(refine Sg ?_;(conv=>whnf))
       refine ⟨sz2 (a := Qxi) (b := Qdw f) (by omega) (by omega),?_⟩; (conv=>whnf);repeat(refine Sg ?_;(conv=>whnf))
       refine ⟨sz2 (a := s) (b := Qxi ++ Qdw f) (by omega) (by rw [ByteArray.size_append]; omega),?_⟩; (conv=>whnf);repeat(refine Sg ?_;(conv=>whnf))
       exact ⟨rfl,hx.trans hx7⟩
     · intro hne
       have hne : f = 0 := by simpa using hne
       rw [if_pos hne]
       (conv=>whnf);repeat(refine Sg ?_;(conv=>whnf))
       exact ⟨rfl,hx⟩
end Go.Proofs.YtnnnbjjenknpeaaGreatDoor
