import Derived.Test.YtoancknoinilaaaGreatDoorHRf2
/- The reference's crowd: in,Put,Worth,Weight,Own,Taste; its rows. -/
set_option linter.unusedVariables false
set_option linter.unusedSimpArgs false
namespace Go.Proofs.YtoancknoinilaaaGreatDoor
open Go.Se Go.RowKit
theorem Qnd (l:List ByteArray) (s:ByteArray) (A:Option Addr) (c:Nat) (w:World) (hs:Sl Qcj 1 w A l) (hl:l.length < 1000000000) :
 Cal Tryz.prog 169 [.slice A l.length c,.string s] w fun r w' => r = .bool (inT l s) ∧ w' = w := by
 refine Fi Tryz.func169 rfl _ rfl rfl ?_;conv=>whnf
 refine Qg Qa (fun (k:Nat) w' => k ≤ l.length ∧ w' = w ∧ s ∉ l.take k)
  (fun k => [(0,.slice A l.length c),(1,.string s),(5,.int .i64 k)]) (fun k => l.length - k) 0 ⟨by omega,rfl,by simp⟩ ⟨rfl,rfl,rfl,trivial⟩ ?_
 rintro k w1 ⟨hk,rfl,hall⟩
 conv=>whnf
 constructor
 · intro hlt
   have hlt : k < l.length := by simpa using hlt
   obtain ⟨a,rfl,hc⟩ := hs.get hlt
   have htk := Xr l k hlt
   have hin := List.getElem_mem hlt
   generalize l[k] = x at hc htk hin
   conv=>whnf
   refine ⟨a,⟨rfl,by omega,by omega⟩,?_⟩;conv=>whnf
   refine ⟨.string x,Q5 hc,?_⟩;conv=>whnf
   constructor
   · intro h
     have h : x = s := by simpa using h
     subst h
     conv=>whnf
     exact ⟨by rw [Qfc.2 hin],rfl⟩
   · intro h
     have h : ¬ x = s := by simpa using h
     conv=>whnf
     refine ⟨_,wrap_succ (by omega),?_⟩;conv=>whnf
     exact ⟨k + 1,by omega,⟨by omega,rfl,by rw [htk]; simp [hall,Ne.symm h]⟩,⟨rfl,rfl,rfl,trivial⟩⟩
 · intro hge
   have hge : l.length ≤ k := by simpa using hge
   rw [List.take_of_length_le hge] at hall
   conv=>whnf
   exact ⟨by rw [Qns.2 hall],rfl⟩
set_option maxHeartbeats 1000000 in
theorem Qu1 (l:List ByteArray) (s:ByteArray) (A:Option Addr) (c:Nat) (w:World) (hs:SlT w A l) (hl:l.length < 1000000) (hn:l.Nodup) :
 Cal Tryz.prog 125 [.slice A l.length c,.string s] w fun r w' => ∃ A' c' L,r = .slice A' L.length c' ∧ SlT w' A' L ∧ L.Nodup ∧ (∀ x,x ∈ L ↔ x ∈ l ∨ x = s) ∧ L.length ≤ l.length + 1 ∧ Ext w w' := by
 refine Fi Tryz.func125 rfl _ rfl rfl ?_;conv=>whnf
 refine (Qnd l s A c w hs (by omega)).mono ?_
 rintro _ w0 ⟨rfl,hw0⟩
 subst hw0
 conv=>whnf
 constructor
 · intro h
   have h : s ∈ l := Qfc.1 h
   conv=>whnf
   exact ⟨A,c,l,rfl,hs,hn,fun x => ⟨.inl,fun hx => hx.elim id (fun e => e ▸ h)⟩,by omega,Ext.refl _⟩
 intro h
 have h : s ∉ l := Qns.1 h
 conv=>whnf
 intro b1 w1 hn1;conv=>whnf
 have o1 := Xo.made (base := w0.heap.size) hn1 (Nat.le_refl _)
 refine Qg Qa (fun (q:Nat × Option Addr × Nat × List ByteArray × Bool) w' => q.1 ≤ l.length ∧ Ext w0 w' ∧ q.2.2.2.1.Perm (if q.2.2.2.2 = true then s :: l.take q.1 else l.take q.1) ∧ Own Qcj 1 9 w0.heap.size w' q.2.1 q.2.2.1 q.2.2.2.1)
  (fun | (k,B,d,T,dn) => [(0,.slice A l.length c),(1,.string s),(5,.slice B T.length d),(6,.bool dn),(7,.int .i64 (k:Nat))]) (fun q => l.length - q.1) (0,some ⟨b1,0,none⟩,0,[],false) ⟨Nat.zero_le _,hn1.ext,by simp,o1⟩ ⟨rfl,rfl,rfl,rfl,rfl,trivial⟩ ?_
 rintro ⟨k,B,d,T,dn⟩ w2 ⟨hk,hx2,hT,hown⟩
 simp only at hk hT hown
 have hTl : T.length ≤ k + 1 := by
  rw [hT.length_eq]
  split <;> simp <;> omega
 conv=>whnf
 constructor
 · intro hlt
   have hlt : k < l.length := by simpa using hlt
   obtain ⟨a2,hA,hc2⟩ := (hs.ext hx2).get hlt
   subst hA
   have htk := Xr l k hlt
   have hsl2 := hs
   generalize hy : l[k] = y at hc2 htk
   (conv=>whnf);repeat(refine Sg ?_;(conv=>whnf))
   refine ⟨a2,fun _ => ⟨rfl,by omega,by omega⟩,?_⟩; (conv=>whnf);repeat(refine Sg ?_;(conv=>whnf))
   refine ⟨.string y,fun _ => Q5 hc2,?_⟩; (conv=>whnf);repeat(refine Sg ?_;(conv=>whnf))
   constructor
   · intro hq
     have hq : (!dn && bLt s y) = true := hq
     have hq : dn = false ∧ bLt s y = true := by simpa using hq
     obtain ⟨rfl,_⟩ := hq
     have hT : T.Perm (l.take k) := hT
     (conv=>whnf);repeat(refine Sg ?_;(conv=>whnf))
     intro b3 w3 hn3; (conv=>whnf);repeat(refine Sg ?_;(conv=>whnf))
     refine Qm Xo (l := T) (news := [s]) rfl (hown.ext hn3.ext) rfl (Xo.new1 (x := s) hn3) (by simp; omega) ((hx2.trans hn3.ext).size) fun A4 c4 w4 hown4 hg4 hA4 => ?_
     have hx4 := Ql (hx2.trans hn3.ext) hg4 (Qw hown)
     have hT4 : (T ++ [s]).Perm (s :: l.take k) := (List.perm_append_comm).trans (hT.cons s)
     have hT4l : (T ++ [s]).length = T.length + 1 := by simp
     generalize T ++ [s] = T4 at hown4 hT4 hT4l ⊢
     obtain ⟨a5,hA5,hc5⟩ := (hs.ext hx4).get hlt
     obtain rfl : a2 = a5 := by simpa using hA5
     rw [hy] at hc5
     (conv=>whnf);repeat(refine Sg ?_;(conv=>whnf))
     refine ⟨a2,⟨rfl,by omega,by omega⟩,?_⟩; (conv=>whnf);repeat(refine Sg ?_;(conv=>whnf))
     refine ⟨.string y,Q5 hc5,?_⟩; (conv=>whnf);repeat(refine Sg ?_;(conv=>whnf))
     intro b6 w6 hn6; (conv=>whnf);repeat(refine Sg ?_;(conv=>whnf))
     refine Qm Xo (l := T4) (news := [y]) rfl (hown4.ext hn6.ext) rfl (Xo.new1 (x := y) hn6) (by simp; omega) ((hx4.trans hn6.ext).size) fun A7 c7 w7 hown7 hg7 hA7 => ?_
     have hx7 := Ql (hx4.trans hn6.ext) hg7 (Qw hown4)
     have hT7 : (T4 ++ [y]).Perm (s :: l.take (k + 1)) := by
      rw [htk]
      exact hT4.append_right [y]
     generalize T4 ++ [y] = T7 at hown7 hT7 ⊢
     (conv=>whnf);repeat(refine Sg ?_;(conv=>whnf))
     refine ⟨_,wrap_succ (by omega),?_⟩; (conv=>whnf);repeat(refine Sg ?_;(conv=>whnf))
     exact ⟨(k + 1,A7,c7,T7,true),by simp only; omega,⟨by simp only; omega,hx7,hT7,hown7⟩,⟨rfl,rfl,rfl,rfl,rfl,trivial⟩⟩
   · intro _
     (conv=>whnf);repeat(refine Sg ?_;(conv=>whnf))
     refine ⟨a2,⟨rfl,by omega,by omega⟩,?_⟩; (conv=>whnf);repeat(refine Sg ?_;(conv=>whnf))
     refine ⟨.string y,Q5 hc2,?_⟩; (conv=>whnf);repeat(refine Sg ?_;(conv=>whnf))
     intro b6 w6 hn6; (conv=>whnf);repeat(refine Sg ?_;(conv=>whnf))
     refine Qm Xo (l := T) (news := [y]) rfl (hown.ext hn6.ext) rfl (Xo.new1 (x := y) hn6) (by simp; omega) ((hx2.trans hn6.ext).size) fun A7 c7 w7 hown7 hg7 hA7 => ?_
     have hx7 := Ql (hx2.trans hn6.ext) hg7 (Qw hown)
     have hT7 : (T ++ [y]).Perm (if dn = true then s :: l.take (k + 1) else l.take (k + 1)) := by
      rw [htk]
      refine (hT.append_right [y]).trans ?_
      cases dn <;> simp
     generalize T ++ [y] = T7 at hown7 hT7 ⊢
     (conv=>whnf);repeat(refine Sg ?_;(conv=>whnf))
     refine ⟨_,wrap_succ (by omega),?_⟩; (conv=>whnf);repeat(refine Sg ?_;(conv=>whnf))
     exact ⟨(k + 1,A7,c7,T7,dn),by simp only; omega,⟨by simp only; omega,hx7,hT7,hown7⟩,⟨rfl,rfl,rfl,rfl,rfl,trivial⟩⟩
 · intro hge
   have hge : l.length ≤ k := by simpa using hge
   rw [List.take_of_length_le hge] at hT
   have hfin : ∀ {L:List ByteArray},L.Perm (s :: l) → L.Nodup ∧ (∀ x,x ∈ L ↔ x ∈ l ∨ x = s) ∧ L.length ≤ l.length + 1 := fun hp =>
    ⟨hp.nodup_iff.2 (List.nodup_cons.2 ⟨h,hn⟩),fun x => by rw [hp.mem_iff,List.mem_cons]; exact or_comm,by rw [hp.length_eq]; simp⟩
   (conv=>whnf);repeat(refine Sg ?_;(conv=>whnf))
   constructor
   · intro hq
     have hq : dn = false := by simpa using hq
     subst hq
     have hT : T.Perm l := hT
     (conv=>whnf);repeat(refine Sg ?_;(conv=>whnf))
     intro b3 w3 hn3; (conv=>whnf);repeat(refine Sg ?_;(conv=>whnf))
     refine Qm Xo (l := T) (news := [s]) rfl (hown.ext hn3.ext) rfl (Xo.new1 (x := s) hn3) (by simp; omega) ((hx2.trans hn3.ext).size) fun A4 c4 w4 hown4 hg4 hA4 => ?_
     have hx4 := Ql (hx2.trans hn3.ext) hg4 (Qw hown)
     have hT4 : (T ++ [s]).Perm (s :: l) := (List.perm_append_comm).trans (hT.cons s)
     generalize T ++ [s] = T4 at hown4 hT4 ⊢
     obtain ⟨f1,f2,f3⟩ := hfin hT4
     (conv=>whnf);repeat(refine Sg ?_;(conv=>whnf))
     exact ⟨A4,c4,T4,rfl,hown4.sl Xo.sz,f1,f2,f3,hx4⟩
   · intro hq
     have hq : dn = true := by simpa using hq
     subst hq
     obtain ⟨f1,f2,f3⟩ := hfin hT
     (conv=>whnf);repeat(refine Sg ?_;(conv=>whnf))
     exact ⟨B,d,T,rfl,hown.sl Xo.sz,f1,f2,f3,hx2⟩
theorem Qrp (a b:Ct) (w:World) : Cal Tryz.prog 220 [.agg (Qhd a).toArray,.agg (Qhd b).toArray] w fun r w' => (∃ q : Bool,r = .bool q) ∧ Ext w w' := by
 refine Fi Tryz.func220 rfl _ rfl rfl ?_;conv=>whnf
 intro b1 w1 hn1;conv=>whnf
 intro b2 w2 hn2;conv=>whnf
 have h1 : At w2 b1 _ (Qhd a) := hn1.At.ext hn2.ext
 have h2 : At w2 b2 _ (Qhd b) := hn2.At
 repeat (first | (refine ⟨_,h1.one rfl,?_⟩; (conv=>whnf)) | (refine ⟨_,And.symm ⟨h1.all,rfl⟩,?_⟩; (conv=>whnf)) | (refine ⟨_,fun _ => h1.one rfl,?_⟩; (conv=>whnf)) | (refine ⟨_,fun _ => And.symm ⟨h1.all,rfl⟩,?_⟩; (conv=>whnf)) | (refine ⟨_,fun _ _ => h1.one rfl,?_⟩; (conv=>whnf)) | (refine ⟨_,fun _ _ => And.symm ⟨h1.all,rfl⟩,?_⟩; (conv=>whnf)) | (refine ⟨_,h2.one rfl,?_⟩; (conv=>whnf)) | (refine ⟨_,And.symm ⟨h2.all,rfl⟩,?_⟩; (conv=>whnf)) | (refine ⟨_,fun _ => h2.one rfl,?_⟩; (conv=>whnf)) | (refine ⟨_,fun _ => And.symm ⟨h2.all,rfl⟩,?_⟩; (conv=>whnf)) | (refine ⟨_,fun _ _ => h2.one rfl,?_⟩; (conv=>whnf)) | (refine ⟨_,fun _ _ => And.symm ⟨h2.all,rfl⟩,?_⟩; (conv=>whnf)))
 exact ⟨⟨_,rfl⟩,hn1.ext.trans hn2.ext⟩
set_option maxHeartbeats 1000000 in
theorem Quy (l:List Ct) (s:Ct) (A:Option Addr) (c:Nat) (w:World) (hs:Sl Qhd 2 w A l) (hl:l.length < 1000000) :
 Cal Tryz.prog 171 [.slice A l.length c,.agg (Qhd s).toArray] w fun r w' => ∃ A' c' L,r = .slice A' L.length c' ∧ Sl Qhd 2 w' A' L ∧ L.Perm (s :: l) ∧ Ext w w' := by
 refine Fi Tryz.func171 rfl _ rfl rfl ?_;conv=>whnf
 intro b0 w0 hn0
 have hb : At w0 b0 _ (Qhd s) := hn0.At
 conv=>whnf
 intro b1 w1 hn1;conv=>whnf
 have o1 := Qi5.made (base := w0.heap.size) hn1 (Nat.le_refl _)
 replace hs := hs.ext hn0.ext
 have hxw := hn0.ext
 refine Qg Qa (fun (q:Nat × Option Addr × Nat × List Ct × Bool) w' => q.1 ≤ l.length ∧ Ext w0 w' ∧ q.2.2.2.1.Perm (if q.2.2.2.2 = true then s :: l.take q.1 else l.take q.1) ∧ Own Qhd 2 166 w0.heap.size w' q.2.1 q.2.2.1 q.2.2.2.1)
  (fun | (k,B,d,T,dn) => [(0,.slice A l.length c),(3,.pointer (some ⟨b0,0,none⟩)),(5,.slice B T.length d),(6,.bool dn),(7,.int .i64 (k:Nat))]) (fun q => l.length - q.1) (0,some ⟨b1,0,none⟩,0,[],false) ⟨Nat.zero_le _,hn1.ext,by simp,o1⟩ ⟨rfl,rfl,rfl,rfl,rfl,trivial⟩ ?_
 rintro ⟨k,B,d,T,dn⟩ w2 ⟨hk,hx2,hT,hown⟩
 simp only at hk hT hown
 have hTl : T.length ≤ k + 1 := by
  rw [hT.length_eq]
  split <;> simp <;> omega
 conv=>whnf
 constructor
 · intro hlt
   have hlt : k < l.length := by simpa using hlt
   obtain ⟨a2,hA,hc2⟩ := (hs.ext hx2).get hlt
   subst hA
   have htk := Xr l k hlt
   generalize hy : l[k] = y at hc2 htk
   (conv=>whnf);repeat(refine Sg ?_;(conv=>whnf))
   refine Dr .same [0,1,2,3,4,5,6,7] [8,9] ?_;conv=>whnf
   replace hx2 := hx2.drew
   replace hown := hown.ext (Ext.refl w2).drew
   replace hc2 := (Ext.refl w2).drew.cells hc2
   generalize w2.drew = w2 at hx2 hown hc2 ⊢
   refine ⟨Qhd s,fun _ => ⟨rfl,(hb.ext hx2).all⟩,?_⟩;conv=>whnf
   refine ⟨a2,fun _ => ⟨rfl,by omega,by omega⟩,?_⟩;conv=>whnf
   refine ⟨Qhd y,fun _ => ⟨rfl,hc2⟩,?_⟩;conv=>whnf
   refine ⟨Bool,fun q => .bool q,fun _ w' => Ext w2 w',false,fun hg => (Qrp s y w2).mono fun r w' h => ⟨h.1.choose,h.1.choose_spec,h.2⟩,?_⟩
   intro q w3 h3
   have hx3 : Ext w2 w3 := by
    rcases h3 with ⟨_,h⟩ | ⟨_,h⟩
    · exact h
    · rw [h]; exact Ext.refl _
   clear h3
   replace hown := hown.ext hx3
   replace hx2 := hx2.trans hx3
   replace hc2 := hx3.cells hc2
   clear hx3
   (conv=>whnf);repeat(refine Sg ?_;(conv=>whnf))
   constructor
   · intro hq
     have hq : dn = false ∧ q = true := by simpa using hq
     obtain ⟨rfl,_⟩ := hq
     have hT : T.Perm (l.take k) := hT
     (conv=>whnf);repeat(refine Sg ?_;(conv=>whnf))
     refine ⟨Qhd s,⟨rfl,(hb.ext hx2).all⟩,?_⟩; (conv=>whnf);repeat(refine Sg ?_;(conv=>whnf))
     intro b4 w4 hn4; (conv=>whnf);repeat(refine Sg ?_;(conv=>whnf))
     refine Qm Qi5 (l := T) (news := [s]) rfl (hown.ext hn4.ext) rfl (Qi5.new1 (x := s) hn4) (by simp; omega) ((hx2.trans hn4.ext).size) fun A4 c4 w4 hown4 hg4 hA4 => ?_
     have hx4 := Ql (hx2.trans hn4.ext) hg4 (Qw hown)
     have hT4 : (T ++ [s]).Perm (s :: l.take k) := (List.perm_append_comm).trans (hT.cons s)
     have hT4l : (T ++ [s]).length = T.length + 1 := by simp
     generalize T ++ [s] = T4 at hown4 hT4 hT4l ⊢
     obtain ⟨a5,hA5,hc5⟩ := (hs.ext hx4).get hlt
     obtain rfl : a2 = a5 := by simpa using hA5
     rw [hy] at hc5
     (conv=>whnf);repeat(refine Sg ?_;(conv=>whnf))
     refine ⟨a2,⟨rfl,by omega,by omega⟩,?_⟩; (conv=>whnf);repeat(refine Sg ?_;(conv=>whnf))
     refine ⟨Qhd y,⟨rfl,hc5⟩,?_⟩; (conv=>whnf);repeat(refine Sg ?_;(conv=>whnf))
     intro b6 w6 hn6; (conv=>whnf);repeat(refine Sg ?_;(conv=>whnf))
     refine Qm Qi5 (l := T4) (news := [y]) rfl (hown4.ext hn6.ext) rfl (Qi5.new1 (x := y) hn6) (by simp; omega) ((hx4.trans hn6.ext).size) fun A7 c7 w7 hown7 hg7 hA7 => ?_
     have hx7 := Ql (hx4.trans hn6.ext) hg7 (Qw hown4)
     have hT7 : (T4 ++ [y]).Perm (s :: l.take (k + 1)) := by
      rw [htk]
      exact hT4.append_right [y]
     generalize T4 ++ [y] = T7 at hown7 hT7 ⊢
     (conv=>whnf);repeat(refine Sg ?_;(conv=>whnf))
     refine ⟨_,wrap_succ (by omega),?_⟩; (conv=>whnf);repeat(refine Sg ?_;(conv=>whnf))
     exact ⟨(k + 1,A7,c7,T7,true),by simp only; omega,⟨by simp only; omega,hx7,hT7,hown7⟩,⟨rfl,rfl,rfl,rfl,rfl,trivial⟩⟩
   · intro _
     (conv=>whnf);repeat(refine Sg ?_;(conv=>whnf))
     refine ⟨a2,⟨rfl,by omega,by omega⟩,?_⟩; (conv=>whnf);repeat(refine Sg ?_;(conv=>whnf))
     refine ⟨Qhd y,⟨rfl,hc2⟩,?_⟩; (conv=>whnf);repeat(refine Sg ?_;(conv=>whnf))
     intro b6 w6 hn6; (conv=>whnf);repeat(refine Sg ?_;(conv=>whnf))
     refine Qm Qi5 (l := T) (news := [y]) rfl (hown.ext hn6.ext) rfl (Qi5.new1 (x := y) hn6) (by simp; omega) ((hx2.trans hn6.ext).size) fun A7 c7 w7 hown7 hg7 hA7 => ?_
     have hx7 := Ql (hx2.trans hn6.ext) hg7 (Qw hown)
     have hT7 : (T ++ [y]).Perm (if dn = true then s :: l.take (k + 1) else l.take (k + 1)) := by
      rw [htk]
      refine (hT.append_right [y]).trans ?_
      cases dn <;> simp
     generalize T ++ [y] = T7 at hown7 hT7 ⊢
     (conv=>whnf);repeat(refine Sg ?_;(conv=>whnf))
     refine ⟨_,wrap_succ (by omega),?_⟩; (conv=>whnf);repeat(refine Sg ?_;(conv=>whnf))
     exact ⟨(k + 1,A7,c7,T7,dn),by simp only; omega,⟨by simp only; omega,hx7,hT7,hown7⟩,⟨rfl,rfl,rfl,rfl,rfl,trivial⟩⟩
 · intro hge
   have hge : l.length ≤ k := by simpa using hge
   rw [List.take_of_length_le hge] at hT
   (conv=>whnf);repeat(refine Sg ?_;(conv=>whnf))
   constructor
   · intro hq
     have hq : dn = false := by simpa using hq
     subst hq
     have hT : T.Perm l := hT
     (conv=>whnf);repeat(refine Sg ?_;(conv=>whnf))
     refine ⟨Qhd s,⟨rfl,(hb.ext hx2).all⟩,?_⟩; (conv=>whnf);repeat(refine Sg ?_;(conv=>whnf))
     intro b3 w3 hn3; (conv=>whnf);repeat(refine Sg ?_;(conv=>whnf))
     refine Qm Qi5 (l := T) (news := [s]) rfl (hown.ext hn3.ext) rfl (Qi5.new1 (x := s) hn3) (by simp; omega) ((hx2.trans hn3.ext).size) fun A4 c4 w4 hown4 hg4 hA4 => ?_
     have hx4 := Ql (hx2.trans hn3.ext) hg4 (Qw hown)
     have hT4 : (T ++ [s]).Perm (s :: l) := (List.perm_append_comm).trans (hT.cons s)
     generalize T ++ [s] = T4 at hown4 hT4 ⊢
     (conv=>whnf);repeat(refine Sg ?_;(conv=>whnf))
     exact ⟨A4,c4,T4,rfl,hown4.sl Qi5.sz,hT4,hxw.trans hx4⟩
   · intro hq
     have hq : dn = true := by simpa using hq
     subst hq
     (conv=>whnf);repeat(refine Sg ?_;(conv=>whnf))
     exact ⟨B,d,T,rfl,hown.sl Qi5.sz,hT,hxw.trans hx2⟩
theorem Qog (e:Ev) (w:World) : Cal Tryz.prog 124 [evV e] w fun r w' => r = .int .i64 (Qo e) ∧ Ext w w' := by
 refine Fi Tryz.func124 rfl _ rfl rfl ?_;conv=>whnf
 intro b w1 hn
 have hb := hn.At
 conv=>whnf
 refine ⟨_,hb.one rfl,?_⟩;conv=>whnf
 refine ⟨fun h1 => ?_,fun h1 => ?_⟩
 · have h1 : e.kind = 1 := by simpa using h1
   conv=>whnf
   exact ⟨by unfold Qo; rw [if_pos h1],hn.ext⟩
 have h1 : ¬ e.kind = 1 := by simpa using h1
 conv=>whnf
 refine ⟨fun h2 => ?_,fun h2 => ?_⟩
 · have h2 : e.kind = 2 := by simpa using h2
   conv=>whnf
   exact ⟨by unfold Qo; rw [if_neg h1,if_pos h2],hn.ext⟩
 have h2 : ¬ e.kind = 2 := by simpa using h2
 conv=>whnf
 refine ⟨fun h3 => ?_,fun h3 => ?_⟩
 · have h3 : e.kind = 3 := by simpa using h3
   conv=>whnf
   exact ⟨by unfold Qo; rw [if_neg h1,if_neg h2,if_pos h3],hn.ext⟩
 have h3 : ¬ e.kind = 3 := by simpa using h3
 conv=>whnf
 refine ⟨fun h4 => ?_,fun h4 => ?_⟩
 · have h4 : e.kind = 4 := by simpa using h4
   conv=>whnf
   refine ⟨_,hb.one rfl,?_⟩;conv=>whnf
   exact ⟨by unfold Qo; rw [if_neg h1,if_neg h2,if_neg h3,if_pos h4],hn.ext⟩
 have h4 : ¬ e.kind = 4 := by simpa using h4
 conv=>whnf
 exact ⟨by unfold Qo; rw [if_neg h1,if_neg h2,if_neg h3,if_neg h4],hn.ext⟩
theorem Qmm (age half:Int) (ha:-4611686018427387904 ≤ age ∧ age ≤ 4611686018427387904) (hh:1 ≤ half ∧ half ≤ 4611686018427387904) (w:World) :
 Cal Tryz.prog 170 [.int .i64 age,.int .i64 half] w fun r w' => r = .int .i64 (Q7 age half) ∧ w' = w := by
 have hmx : max half 1 = half := by omega
 refine Fi Tryz.func170 rfl _ rfl rfl ?_;conv=>whnf
 by_cases ha0 : age < 0
 · refine ⟨0,fun hg => ?_,?_⟩
   · exfalso
     simp [ha0] at hg
   conv=>whnf
   constructor
   · intro _
     conv=>whnf
     exact ⟨by rw [Qf4 ha0],rfl⟩
   · intro hc
     simp [ha0] at hc
 have hq : age.tdiv half = age / half := Int.tdiv_eq_ediv_of_nonneg (by omega)
 have hq0 : 0 ≤ age / half := Int.ediv_nonneg (by omega) (by omega)
 have hq1 : age / half ≤ age := Int.ediv_le_self _ (by omega)
 rw [Ql5 ha0,hmx]
 refine ⟨age / half,fun _ => ⟨by omega,wrap_eq hq.symm ⟨by omega,by omega⟩⟩,?_⟩;conv=>whnf
 constructor
 · intro hc
   have hc : 20 < age / half := by
    have hc : (decide (age < 0) || decide (20 < age / half)) = true := hc
    simp [ha0] at hc
    exact hc
   conv=>whnf
   exact ⟨by rw [Qea (by omega)],rfl⟩
 intro hc
 have hc : ¬ 20 < age / half := by
  have hc : (decide (age < 0) || decide (20 < age / half)) = false := hc
  simp [ha0] at hc
  omega
 conv=>whnf
 refine Qg Qa (fun (i:Nat) w' => i ≤ (age / half).toNat ∧ w' = w) (fun i => [(0,.int .i64 age),(1,.int .i64 half),(5,.int .i64 (Qdt i)),(6,.int .i64 (i:Nat))]) (fun i => 21 - i) 0 ⟨Nat.zero_le _,rfl⟩ ⟨rfl,rfl,rfl,rfl,trivial⟩ ?_
 rintro i w2 ⟨hi,hw2⟩
 subst hw2
 conv=>whnf
 refine ⟨age / half,⟨by omega,wrap_eq hq.symm ⟨by omega,by omega⟩⟩,?_⟩;conv=>whnf
 constructor
 · intro hlt
   have hlt : (i:Int) < age / half := by simpa using hlt
   have hb := Qhv i
   have hb1 := Qhv (i + 1)
   have hs := Qmx i
   conv=>whnf
   refine ⟨Qdt (i + 1),⟨by decide,wrap_eq hs ⟨by omega,by omega⟩⟩,?_⟩;conv=>whnf
   refine ⟨_,wrap_succ (by omega),?_⟩;conv=>whnf
   exact ⟨i + 1,by omega,⟨by omega,rfl⟩,⟨rfl,rfl,rfl,rfl,trivial⟩⟩
 · intro hge
   have hge : ¬ (i:Int) < age / half := by simpa using hge
   have : i = (age / half).toNat := by omega
   rw [← this]
   conv=>whnf
   exact ⟨rfl,rfl⟩
theorem Qq4 : Qpw Tryz.prog 115 120 Qb7 9 120 := ⟨by kernel_rfl,⟨_,ty120_ok,rfl,rfl⟩,by120,by decide,by decide,Qct,Qcm⟩
set_option maxHeartbeats 1000000 in
theorem Qt7 (D:List (Ev × SV)) (R:List Row) (person:ByteArray) (A:Option Addr) (c:Nat) (w:World) (hs:Sl Qb7 9 w A D) (hT:Qad w (TgR w A) D R) (hl:D.length < 1000000) :
 Cal Tryz.prog 168 [.slice A D.length c,.string person] w fun r w' => ∃ A' c',r = .slice A' (Xd D person).length c' ∧ Sl Qb7 9 w' A' (Xd D person) ∧ Qad w' (fun k => k < w.heap.size) (Xd D person) (rowsOf R person) ∧ Ext w w' := by
 refine Fi Tryz.func168 rfl _ rfl rfl ?_;conv=>whnf
 intro b1 w1 hn1;conv=>whnf
 have o1 := Qq4.made (base := w.heap.size) hn1 (Nat.le_refl _)
 refine Qg Qa (fun (k:Nat × Option Addr × Nat × List (Ev × SV)) w' => k.1 ≤ D.length ∧ Ext w w' ∧ k.2.2.2 = Xd (D.take k.1) person ∧ Own Qb7 9 120 w.heap.size w' k.2.1 k.2.2.1 k.2.2.2)
  (fun | (k,B,d,T) => [(0,.slice A D.length c),(1,.string person),(5,.slice B T.length d),(6,.int .i64 k)]) (fun k => D.length - k.1) (0,some ⟨b1,0,none⟩,0,[]) ⟨by simp,hn1.ext,rfl,o1⟩ ⟨rfl,rfl,rfl,rfl,trivial⟩ ?_
 rintro ⟨k,B,d,T⟩ w2 ⟨hk,hx2,hT2,hown⟩
 simp only at hk hT2 hown
 have hTl : T.length ≤ k := by
  rw [hT2]
  have := List.length_filter_le (fun d:Ev × SV => decide (d.1.person = person)) (D.take k)
  rw [List.length_take] at this
  unfold Xd; omega
 conv=>whnf
 constructor
 · intro hc
   have hc : k < D.length := by simpa using hc
   obtain ⟨a2,hA2,hce⟩ := (hs.ext hx2).get hc
   subst hA2
   have htk := Xr D k hc
   generalize D[k] = e at hce htk
   have hsn : Xd (D.take (k + 1)) person = T ++ if e.1.person = person then [e] else [] := by
    rw [htk,hT2]; unfold Xd; rw [List.filter_append]
    by_cases h : e.1.person = person <;> simp [h]
   (conv=>whnf);repeat(refine Sg ?_;(conv=>whnf))
   refine ⟨a2,⟨rfl,by omega,by omega⟩,?_⟩; (conv=>whnf);repeat(refine Sg ?_;(conv=>whnf))
   refine ⟨.string e.1.person,cells_at hce (k := 4) rfl,?_⟩; (conv=>whnf);repeat(refine Sg ?_;(conv=>whnf))
   constructor
   · intro hq
     have hq : e.1.person = person := by simpa using hq
     rw [if_pos hq] at hsn
     (conv=>whnf);repeat(refine Sg ?_;(conv=>whnf))
     refine ⟨a2,⟨rfl,by omega,by omega⟩,?_⟩; (conv=>whnf);repeat(refine Sg ?_;(conv=>whnf))
     refine ⟨Qb7 e,⟨rfl,hce⟩,?_⟩; (conv=>whnf);repeat(refine Sg ?_;(conv=>whnf))
     intro b3 w3 hn3; (conv=>whnf);repeat(refine Sg ?_;(conv=>whnf))
     refine Qm Qq4 (l := T) (news := [e]) rfl (hown.ext hn3.ext) rfl (Qq4.new1 (x := e) hn3) (by simp; omega) ((hx2.trans hn3.ext).size) fun A' c' w4 hown4 hg4 hA4 => ?_
     have hx4 := Ql (hx2.trans hn3.ext) hg4 (Qw hown)
     generalize hT1 : T ++ [e] = T1 at hown4 hsn ⊢
     (conv=>whnf);repeat(refine Sg ?_;(conv=>whnf))
     refine ⟨_,wrap_succ (by omega),?_⟩; (conv=>whnf);repeat(refine Sg ?_;(conv=>whnf))
     exact ⟨(k + 1,A',c',T1),by simp only; omega,⟨by simp only; omega,hx4,hsn.symm,hown4⟩,⟨rfl,rfl,rfl,rfl,trivial⟩⟩
   · intro hq
     have hq : ¬ e.1.person = person := by simpa using hq
     rw [if_neg hq,List.append_nil] at hsn
     (conv=>whnf);repeat(refine Sg ?_;(conv=>whnf))
     refine ⟨_,wrap_succ (by omega),?_⟩; (conv=>whnf);repeat(refine Sg ?_;(conv=>whnf))
     exact ⟨(k + 1,B,d,T),by simp only; omega,⟨by simp only; omega,hx2,hsn.symm,hown⟩,⟨rfl,rfl,rfl,rfl,trivial⟩⟩
 · intro hc
   have hc : D.length ≤ k := by simpa using hc
   rw [List.take_of_length_le hc] at hT2
   rw [← hT2]
   conv=>whnf
   refine ⟨B,d,rfl,hown.sl Qct,?_,hx2⟩
   rw [hT2]
   have h0 : Qad w (fun k => k < w.heap.size) D R := ⟨hT.len,fun i d r hd hr => by
    obtain ⟨q1,q2,q3,q4⟩ := hT.ev i d r hd hr
    exact ⟨q1,q2,q3,fun a ha => (q4 a ha).1⟩⟩
   exact Qgx person (h0.ext (fun k hk => hk) hx2)
theorem Q4v {e:Ev} (hm:Xp e = true) : peB e = true ↔ e.kind < 11 := by
 have hk := Qvz hm
 unfold peB thB
 simp only [Bool.and_eq_true,Bool.not_eq_true',decide_eq_false_iff_not]
 omega
theorem Qrz (l:List Ev) (n:Nat) (hn:n = l.length) (A:Option Addr) (c:Nat) (w:World) (hs:SlE w A l) (hl:l.length < 1000000) :
 Cal Tryz.prog 51 [.slice A n c] w fun r w' => ∃ A' c',r = .slice A' (Qz l).length c' ∧ SlE w' A' (Qz l) ∧ Ext w w' := by
 subst hn
 exact Qi7 l A c w hs hl
set_option maxHeartbeats 2000000 in
theorem Qxu (l:List Ev) (A:Option Addr) (c:Nat) (w:World) (hs:SlE w A l) (hcap:l.length ≤ c) (hl:l.length < 1000) (hm:∀ e ∈ l,Xp e = true) :
 Cal Tryz.prog 68 [.slice A l.length c] w fun r w' => ∃ A' c' D,r = .slice A' D.length c' ∧ Sl Qb7 9 w' A' D ∧ Qad w' (TgR w' A') D (Qcw l) ∧ D.length ≤ l.length ∧ Ext w w' := by
 refine Fi Tryz.func68 rfl _ rfl rfl ?_;conv=>whnf
 intro b1 w1 hn1;conv=>whnf
 have o1 := Qq4.made (base := w.heap.size) hn1 (Nat.le_refl _)
 refine Qg Qa (fun (k:Nat × Option Addr × Nat × List (Ev × SV)) w' => k.1 ≤ l.length ∧ Ext w w' ∧ k.2.2.2.length ≤ k.1 ∧ Qad w' (TgR w' k.2.1) k.2.2.2 (Qcw (l.take k.1)) ∧ Own Qb7 9 120 w.heap.size w' k.2.1 k.2.2.1 k.2.2.2)
  (fun | (k,B,d,T) => [(0,.slice A l.length c),(3,.slice B T.length d),(4,.int .i64 k)]) (fun k => l.length - k.1) (0,some ⟨b1,0,none⟩,0,[]) ⟨by simp,hn1.ext,by simp,Qad.nilR,o1⟩ ⟨rfl,rfl,rfl,trivial⟩ ?_
 rintro ⟨k,B,d,T⟩ w2 ⟨hk,hx2,hTl,hT,hown⟩
 simp only at hk hTl hT hown
 conv=>whnf
 constructor
 · intro hc
   have hc : k < l.length := by simpa using hc
   obtain ⟨a2,hA2,hce⟩ := (hs.ext hx2).get hc
   subst hA2
   have htk := Xr l k hc
   have hme := hm l[k] (List.getElem_mem hc)
   have hmt : ∀ e ∈ l.take k,Xp e = true := fun e he => hm e (List.mem_of_mem_take he)
   have hstk := Qbh (Qlp hs k) 0 c (by rw [List.length_take]; omega)
   rw [List.drop_zero] at hstk
   have hkl : k = (l.take k).length := by rw [List.length_take]; omega
   generalize l[k] = e at hce htk hme
   (conv=>whnf);repeat(refine Sg ?_;(conv=>whnf))
   refine ⟨a2,⟨rfl,by omega,by omega⟩,?_⟩; (conv=>whnf);repeat(refine Sg ?_;(conv=>whnf))
   refine ⟨evC e,⟨rfl,hce⟩,?_⟩; (conv=>whnf);repeat(refine Sg ?_;(conv=>whnf))
   intro b3 w3 hn3; (conv=>whnf);repeat(refine Sg ?_;(conv=>whnf))
   refine Qd Qa (e := ty53) rfl hn3.At rfl rfl rfl (Qdp e) fun w4 h4 ho4 => ?_
   have h4 : At w4 b3 53 (evC e) := h4
   have hx24 : Ext w2 w4 := ho4.ext hn3.ext (by rw [hn3.block]; exact Nat.le_refl _)
   clear ho4 hn3
   (conv=>whnf);repeat(refine Sg ?_;(conv=>whnf))
   refine ⟨.int .i64 e.kind,h4.one rfl,?_⟩; (conv=>whnf);repeat(refine Sg ?_;(conv=>whnf))
   constructor
   · intro hq
     have hq : 11 ≤ e.kind := by simpa using hq
     have hpe : ¬ peB e = true := fun h => by have := (Q4v hme).1 h; omega
     (conv=>whnf);repeat(refine Sg ?_;(conv=>whnf))
     refine ⟨_,wrap_succ (by omega),?_⟩; (conv=>whnf);repeat(refine Sg ?_;(conv=>whnf))
     refine ⟨(k + 1,B,d,T),by simp only; omega,⟨by simp only; omega,hx2.trans hx24,by simp only; omega,?_,hown.ext hx24⟩,⟨rfl,rfl,rfl,trivial⟩⟩
     simp only
     rw [htk,Qcg,if_neg hpe,List.append_nil]
     exact hT.extR hx24
   intro hq
   have hq : ¬ 11 ≤ e.kind := by simpa using hq
   have hpe : peB e = true := (Q4v hme).2 (by omega)
   (conv=>whnf);repeat(refine Sg ?_;(conv=>whnf))
   intro b5 w5 hn5; (conv=>whnf);repeat(refine Sg ?_;(conv=>whnf))
   have o5 := Xo.made (base := w2.heap.size) hn5 hx24.size
   have hx25 := hx24.trans hn5.ext
   have h5 := h4.ext hn5.ext
   refine ⟨.string e.item,h5.one rfl,?_⟩; (conv=>whnf);repeat(refine Sg ?_;(conv=>whnf))
   constructor
   · intro hi
     have hi : ¬ e.item = ⟨#[]⟩ := by simpa using hi
     obtain ⟨tg,htg⟩ : ∃ tg,tg = Qku (Qz (l.take k)) e := ⟨_,rfl⟩
     have htg2 : tg = Qu (Qfk (Qmd e.item ((Qz (l.take k)).filter (thQ e.item e.at_))).tags) := by rw [htg]; unfold Qku; rw [if_neg hi]
     have htz := Qji e.item ((Qz (l.take k)).filter (thQ e.item e.at_)) fun x hx => Qax hmt x (List.mem_filter.1 hx).1
     refine Qll (ι := Nat) (fun b => [(0,.slice (some a2) l.length c),(3,.slice B T.length d),(4,.int .i64 k),(5,.pointer (some ⟨b3,0,none⟩)),(6,.slice (some ⟨b5,0,none⟩) 0 0),(7,.pointer (some ⟨b,0,none⟩))]) (fun b w' => Ext w5 w' ∧ At w' b 98 (itC (Qmd e.item ((Qz (l.take k)).filter (thQ e.item e.at_))))) ?_ ?_
     · refine Qfl (.mods (fun k => w5.heap.size ≤ k)) (Pl.seq [0,1,2,4,5,6,7] (Pl.two 3 (Pl.seq [] (Pl.two 8 (Pl.seq [9,10,11,12,13,14] Pl.done) 12 (Pl.seq [8,9,10,11,13,14] Pl.done))) 12 (Pl.seq [3,8,9,10,11,13,14] Pl.done))) (by intro h; cases h) Qa mixed (by kernel_rfl) ?_;conv=>whnf
       have hb3 := h5.lt
       have hE : Ext w5 w5.drew := (Ext.refl w5).drew
       replace h5 : At w5.drew b3 53 (evC e) := h5
       generalize w5.drew = w6 at hE h5 ⊢
       refine ⟨⟨by omega,by omega,by omega,by omega⟩,?_⟩;conv=>whnf
       refine ⟨.string e.item,⟨h5.one rfl,by show ¬ (w5.heap.size ≤ b3); omega⟩,?_⟩;conv=>whnf
       refine ⟨.int .i64 e.at_,⟨h5.one rfl,by show ¬ (w5.heap.size ≤ b3); omega⟩,?_⟩;conv=>whnf
       refine ⟨?_,?_⟩
       · refine (Qrz (l.take k) k hkl _ c _ (hstk.ext ((hx2.trans hx25).trans hE)) (by rw [List.length_take]; omega)).mono ?_
         rintro _ wt ⟨At',ct,rfl,hst,hxt⟩
         have hE := hE.trans hxt
         refine ⟨Mod.of_ext hxt,?_⟩;conv=>whnf
         refine ⟨?_,?_⟩
         · refine (Qj3 (Qz (l.take k)) e.item e.at_ At' ct _ hst (by have := List.length_filter_le thB (l.take k); rw [List.length_take] at this; unfold Qz; omega) (fun x hx => (List.mem_filter.1 hx).2) (Qax hmt)).mono ?_
           rintro _ wa ⟨rfl,hxa⟩
           have hE := hE.trans hxa
           refine ⟨Mod.of_ext hxa,?_⟩;conv=>whnf
           intro b7 w7 hn7
           have hb7 : w5.heap.size ≤ b7 := by rw [hn7.block]; exact hE.size
           have hE := hE.trans hn7.ext
           refine ⟨Mod.of_ext hn7.ext,?_⟩;conv=>whnf
           refine Qd Qa (e := ty98) rfl (hn7.At) rfl rfl rfl (by simp [Qi,itC,Value.oneCell']) fun w8 h8 ho8 => ?_
           refine ⟨Qj ho8 hb7,?_⟩;conv=>whnf
           exact ⟨b7,⟨ho8.ext hE hb7,h8⟩,⟨rfl,rfl,rfl,rfl,rfl,rfl,trivial⟩⟩
         · intro b7 w7 hn7
           have hb7 : w5.heap.size ≤ b7 := by rw [hn7.block]; exact hE.size
           have hE := hE.trans hn7.ext
           refine ⟨Mod.of_ext hn7.ext,?_⟩;conv=>whnf
           refine (Qj3 (Qz (l.take k)) e.item e.at_ At' ct _ (hst.ext hn7.ext) (by have := List.length_filter_le thB (l.take k); rw [List.length_take] at this; unfold Qz; omega) (fun x hx => (List.mem_filter.1 hx).2) (Qax hmt)).mono ?_
           rintro _ wa ⟨rfl,hxa⟩
           have hE := hE.trans hxa
           refine ⟨Mod.of_ext hxa,?_⟩;conv=>whnf
           refine Qd Qa (e := ty98) rfl (hn7.At.ext hxa) rfl rfl rfl (by simp [Qi,itC,Value.oneCell']) fun w8 h8 ho8 => ?_
           refine ⟨Qj ho8 hb7,?_⟩;conv=>whnf
           exact ⟨b7,⟨ho8.ext hE hb7,h8⟩,⟨rfl,rfl,rfl,rfl,rfl,rfl,trivial⟩⟩
       · intro b7 w7 hn7
         have hb7 : w5.heap.size ≤ b7 := by rw [hn7.block]; exact hE.size
         have hE := hE.trans hn7.ext
         refine ⟨Mod.of_ext hn7.ext,?_⟩;conv=>whnf
         refine (Qrz (l.take k) k hkl _ c _ (hstk.ext ((hx2.trans hx25).trans hE)) (by rw [List.length_take]; omega)).mono ?_
         rintro _ wt ⟨At',ct,rfl,hst,hxt⟩
         have hE := hE.trans hxt
         refine ⟨Mod.of_ext hxt,?_⟩;conv=>whnf
         refine (Qj3 (Qz (l.take k)) e.item e.at_ At' ct _ hst (by have := List.length_filter_le thB (l.take k); rw [List.length_take] at this; unfold Qz; omega) (fun x hx => (List.mem_filter.1 hx).2) (Qax hmt)).mono ?_
         rintro _ wa ⟨rfl,hxa⟩
         have hE := hE.trans hxa
         refine ⟨Mod.of_ext hxa,?_⟩;conv=>whnf
         refine Qd Qa (e := ty98) rfl ((hn7.At.ext hxt).ext hxa) rfl rfl rfl (by simp [Qi,itC,Value.oneCell']) fun w8 h8 ho8 => ?_
         refine ⟨Qj ho8 hb7,?_⟩;conv=>whnf
         exact ⟨b7,⟨ho8.ext hE hb7,h8⟩,⟨rfl,rfl,rfl,rfl,rfl,rfl,trivial⟩⟩
     rintro b6 w6 ⟨hx56,h6⟩
     generalize Qmd e.item ((Qz (l.take k)).filter (thQ e.item e.at_)) = it at h6 htg2 htz
     (conv=>whnf);repeat(refine Sg ?_;(conv=>whnf))
     refine ⟨.string it.tags,h6.one rfl,?_⟩; (conv=>whnf);repeat(refine Sg ?_;(conv=>whnf))
     refine ⟨sz2 (by decide) (by omega),?_⟩; (conv=>whnf);repeat(refine Sg ?_;(conv=>whnf))
     refine (Qql (Qfk it.tags) w6 (by unfold Qfk; rw [ByteArray.size_append]; have : (⟨#[59]⟩ : ByteArray).size = 1 := rfl; omega)).mono ?_
     rintro _ w7 ⟨A6,c6,rfl,htown,hx67⟩
     rw [← htg2] at htown ⊢
     have hx26 := (hx25.trans hx56).trans hx67
     replace htown : Own Qcj 1 9 w2.heap.size w7 A6 c6 tg := Qhp htown (hx25.trans hx56).size
     have hown6 := hown.ext hx26
     have hx6 := hx2.trans hx26
     have h7 := (h5.ext hx56).ext hx67
     (conv=>whnf);repeat(refine Sg ?_;(conv=>whnf))
     refine ⟨evC e,⟨rfl,h7.all⟩,?_⟩; (conv=>whnf);repeat(refine Sg ?_;(conv=>whnf))
     intro b8 w8 hn8; (conv=>whnf);repeat(refine Sg ?_;(conv=>whnf))
     refine Qm Qq4 (l := T) (news := [(e,(A6,tg.length,c6))]) rfl (hown6.ext hn8.ext) rfl (Qq4.new1 (x := (e,(A6,tg.length,c6))) hn8) (by simp; omega) ((hx6.trans hn8.ext).size) fun A9 c9 w9 hown9 hg9 hA9 => ?_
     have hx9 := Ql (hx6.trans hn8.ext) hg9 (Qw hown6)
     have s26 := hx26.size
     have hT9 : Qad w9 (TgR w9 A9) (T ++ [(e,(A6,tg.length,c6))]) (Qcw (l.take (k + 1))) := by
      rw [htk,Qcg,if_pos hpe,← htg]
      refine ((hT.extR (hx26.trans hn8.ext)).keepR (fun k' hk1 hk2 => Qbe hg9 hA9 k' hk1 hk2) hg9.size).snocR ⟨rfl,rfl,?_,fun a ha => ?_⟩
      · refine Qa9 ((htown.sl Xz).ext hn8.ext) fun a ha => (Qbe hg9 hA9 a.block (by have := (htown.block ha).2; have := hn8.ext.size; omega) ?_).1
        rintro ⟨y,hy,he⟩
        have h1 := (htown.block ha).1
        have h2 := (hown.block hy).2
        omega
      · have h1 := (htown.block ha)
        have h3 := hn8.ext.size
        refine ⟨by have := hg9.size; omega,(Qbe hg9 hA9 a.block (by omega) ?_).2⟩
        rintro ⟨y,hy,he⟩
        have h2 := (hown.block hy).2
        omega
     have hTl9 : (T ++ [(e,(A6,tg.length,c6))]).length ≤ k + 1 := by simp; omega
     generalize T ++ [(e,(A6,tg.length,c6))] = T9 at hown9 hT9 hTl9 ⊢
     (conv=>whnf);repeat(refine Sg ?_;(conv=>whnf))
     refine ⟨_,wrap_succ (by omega),?_⟩; (conv=>whnf);repeat(refine Sg ?_;(conv=>whnf))
     exact ⟨(k + 1,A9,c9,T9),by simp only; omega,⟨by simp only; omega,hx9,hTl9,hT9,hown9⟩,⟨rfl,rfl,rfl,trivial⟩⟩
   · intro hi
     have hi : e.item = ⟨#[]⟩ := by simpa using hi
     obtain ⟨tg,htg⟩ : ∃ tg,tg = Qku (Qz (l.take k)) e := ⟨_,rfl⟩
     have htg2 : tg = [] := by rw [htg]; unfold Qku; rw [if_pos hi]
     obtain ⟨A6,hA6⟩ : ∃ A6 : Option Addr,A6 = some ⟨b5,0,none⟩ := ⟨_,rfl⟩
     obtain ⟨c6,hc6⟩ : ∃ c6 : Nat,c6 = 0 := ⟨_,rfl⟩
     have htown : Own Qcj 1 9 w2.heap.size w5 A6 c6 tg := by rw [hA6,hc6,htg2]; exact o5
     have hx26 := hx25
     have hown6 := hown.ext hx26
     have hx6 := hx2.trans hx26
     have hz : (Value.slice (some ⟨b5,0,none⟩) 0 0) = .slice A6 tg.length c6 := by rw [hA6,hc6,htg2]; rfl
     (conv=>whnf);repeat(refine Sg ?_;(conv=>whnf))
     refine ⟨evC e,⟨rfl,h5.all⟩,?_⟩; (conv=>whnf);repeat(refine Sg ?_;(conv=>whnf))
     rw [hz]
     intro b8 w8 hn8; (conv=>whnf);repeat(refine Sg ?_;(conv=>whnf))
     refine Qm Qq4 (l := T) (news := [(e,(A6,tg.length,c6))]) rfl (hown6.ext hn8.ext) rfl (Qq4.new1 (x := (e,(A6,tg.length,c6))) hn8) (by simp; omega) ((hx6.trans hn8.ext).size) fun A9 c9 w9 hown9 hg9 hA9 => ?_
     have hx9 := Ql (hx6.trans hn8.ext) hg9 (Qw hown6)
     have s26 := hx26.size
     have hT9 : Qad w9 (TgR w9 A9) (T ++ [(e,(A6,tg.length,c6))]) (Qcw (l.take (k + 1))) := by
      rw [htk,Qcg,if_pos hpe,← htg]
      refine ((hT.extR (hx26.trans hn8.ext)).keepR (fun k' hk1 hk2 => Qbe hg9 hA9 k' hk1 hk2) hg9.size).snocR ⟨rfl,rfl,?_,fun a ha => ?_⟩
      · refine Qa9 ((htown.sl Xz).ext hn8.ext) fun a ha => (Qbe hg9 hA9 a.block (by have := (htown.block ha).2; have := hn8.ext.size; omega) ?_).1
        rintro ⟨y,hy,he⟩
        have h1 := (htown.block ha).1
        have h2 := (hown.block hy).2
        omega
      · have h1 := (htown.block ha)
        have h3 := hn8.ext.size
        refine ⟨by have := hg9.size; omega,(Qbe hg9 hA9 a.block (by omega) ?_).2⟩
        rintro ⟨y,hy,he⟩
        have h2 := (hown.block hy).2
        omega
     have hTl9 : (T ++ [(e,(A6,tg.length,c6))]).length ≤ k + 1 := by simp; omega
     generalize T ++ [(e,(A6,tg.length,c6))] = T9 at hown9 hT9 hTl9 ⊢
     (conv=>whnf);repeat(refine Sg ?_;(conv=>whnf))
     refine ⟨_,wrap_succ (by omega),?_⟩; (conv=>whnf);repeat(refine Sg ?_;(conv=>whnf))
     exact ⟨(k + 1,A9,c9,T9),by simp only; omega,⟨by simp only; omega,hx9,hTl9,hT9,hown9⟩,⟨rfl,rfl,rfl,trivial⟩⟩
 · intro hc
   have hc : l.length ≤ k := by simpa using hc
   rw [List.take_of_length_le hc] at hT
   conv=>whnf
   exact ⟨B,d,T,rfl,hown.sl Qct,hT,by omega,hx2⟩
set_option maxHeartbeats 2000000 in
theorem Qn7 (D:List (Ev × SV)) (R:List Row) (half now:Int) (person:ByteArray) (A:Option Addr) (c:Nat) (w:World) (hs:Sl Qb7 9 w A D) (hT:Qad w (TgR w A) D R) (hl:D.length < 1000) (hm:∀ r ∈ R,Xp r.1 = true ∧ r.2.length ≤ 8) (hh:1 ≤ half ∧ half ≤ 1099511627776) (hn:0 ≤ now ∧ now ≤ 1099511627776) :
 Cal Tryz.prog 101 [.slice A D.length c,.int .i64 half,.string person,.int .i64 now] w fun r w' => ∃ A' c' L,r = .slice A' L.length c' ∧ Sl Qhd 2 w' A' L ∧ Q3x (Qk7 half now (rowsOf R person)) L ∧ L.length < 1000000 ∧ Ext w w' := by
 have hRm : ∀ r ∈ rowsOf R person,Xp r.1 = true ∧ r.2.length ≤ 8 := fun r hr => hm r (List.mem_filter.1 hr).1
 have hDO : (Xd D person).length ≤ D.length := List.length_filter_le _ _
 have hfb := fun t => Qiu (half := half) (now := now) (fun r hr => (hRm r hr).1) t
 have hfz := fun t => Qzx (half := half) (now := now) (R := rowsOf R person) (t := t)
 have hfm : ∀ j t,0 ≤ Qk7 half now ((rowsOf R person).take j) t ∧ Qk7 half now ((rowsOf R person).take j) t ≤ ((rowsOf R person).take j).length * 5242880 := fun j t => Qiu (fun r hr => (hRm r (List.mem_of_mem_take hr)).1) t
 refine Fi Tryz.func101 rfl _ rfl rfl ?_;conv=>whnf
 intro b1 w1 hn1;conv=>whnf
 have hx1 := hn1.ext
 have o1 : SlT w1 (some ⟨b1,0,none⟩) [] := Sl.nil
 refine (Qt7 D R person A c w1 (hs.ext hx1) (hT.extR hx1) (by omega)).mono ?_
 rintro _ w2 ⟨A2,c2,rfl,hs2,hT2,hx2⟩
 replace o1 := o1.ext hx2
 replace hx1 := hx1.trans hx2
 have hT2l : ∀ k,(fun k => k < w1.heap.size) k → k < w2.heap.size := fun k hk => Nat.lt_of_lt_of_le hk hx2.size
 have hlen := hT2.len
 have hgetT : ∀ {w':World},Ext w2 w' → ∀ i (hi:i < (Xd D person).length),∃ d r,(Xd D person)[i]? = some d ∧ (rowsOf R person)[i]? = some r ∧ d.1 = r.1 ∧ d.2.2.1 = r.2.length ∧ SlT w' d.2.1 r.2 ∧ Xp r.1 = true ∧ r.2.length ≤ 8 ∧ (rowsOf R person).take (i + 1) = (rowsOf R person).take i ++ [r] := fun hx i hi => by
  have hi2 : i < (rowsOf R person).length := by omega
  have h := (hT2.ext hT2l hx).ev i _ _ (List.getElem?_eq_getElem hi) (List.getElem?_eq_getElem hi2)
  have hr := hRm _ (List.getElem_mem hi2)
  exact ⟨_,_,List.getElem?_eq_getElem hi,List.getElem?_eq_getElem hi2,h.1,h.2.1,h.2.2.1,hr.1,hr.2,List.take_succ_eq_append_getElem hi2⟩
 generalize Xd D person = O at hs2 hT2 hDO hlen hgetT ⊢
 have hu0 : ∀ x,x ∈ ([] : List ByteArray) ↔ Qxy ((rowsOf R person).take 0) x := by simp [Qxy]
 generalize rowsOf R person = RO at hT2 hRm hfb hfz hfm hlen hgetT hu0 ⊢
 conv=>whnf
 refine Qg Qa (fun (q:Nat × Option Addr × Nat × List ByteArray) w' => q.1 ≤ O.length ∧ Ext w2 w' ∧ SlT w' q.2.1 q.2.2.2 ∧ q.2.2.2.Nodup ∧ (∀ x,x ∈ q.2.2.2 ↔ Qxy (RO.take q.1) x) ∧ q.2.2.2.length ≤ 8 * q.1)
  (fun | (i,B,d,T) => [(1,.int .i64 half),(3,.int .i64 now),(10,.slice A2 O.length c2),(9,.slice B T.length d),(25,.slice A2 O.length c2),(26,.int .i64 O.length),(27,.int .i64 (i:Nat))]) (fun q => O.length - q.1) (0,some ⟨b1,0,none⟩,0,[]) ⟨Nat.zero_le _,Ext.refl _,o1,List.nodup_nil,hu0,by simp⟩ ⟨rfl,rfl,rfl,rfl,rfl,rfl,rfl,trivial⟩ ?_
 clear hu0 o1
 rintro ⟨i,B,d,T⟩ w3 ⟨hi,hx3,hsT,hnT,hmT,hlT⟩
 simp only at hi hsT hnT hmT hlT
 conv=>whnf
 constructor
 · intro hlt
   have hlt : i < O.length := by simpa using hlt
   obtain ⟨dd,r,hd,hr,h1,h2,h3,h4,h5,htk⟩ := hgetT hx3 i hlt
   obtain ⟨a4,hA4,hc4⟩ := (hs2.ext hx3) i dd hd
   subst hA4
   (conv=>whnf);repeat(refine Sg ?_;(conv=>whnf))
   refine ⟨a4,⟨rfl,by omega,by omega⟩,?_⟩; (conv=>whnf);repeat(refine Sg ?_;(conv=>whnf))
   refine ⟨Qb7 dd,⟨rfl,hc4⟩,?_⟩; (conv=>whnf);repeat(refine Sg ?_;(conv=>whnf))
   intro b5 w5 hn5; (conv=>whnf);repeat(refine Sg ?_;(conv=>whnf))
   refine Qd Qa (e := ty120) rfl hn5.At rfl rfl rfl (Qcm dd) fun w6 h6 ho6 => ?_
   have h6 : At w6 b5 120 (Qb7 dd) := h6
   have hx36 : Ext w3 w6 := ho6.ext hn5.ext (by rw [hn5.block]; exact Nat.le_refl _)
   clear ho6 hn5
   (conv=>whnf);repeat(refine Sg ?_;(conv=>whnf))
   refine ⟨.slice dd.2.1 dd.2.2.1 dd.2.2.2,h6.one rfl,?_⟩; (conv=>whnf);repeat(refine Sg ?_;(conv=>whnf))
   rw [h2]
   refine Qg Qa (fun (q:Nat × Option Addr × Nat × List ByteArray) w' => q.1 ≤ r.2.length ∧ Ext w6 w' ∧ SlT w' q.2.1 q.2.2.2 ∧ q.2.2.2.Nodup ∧ (∀ x,x ∈ q.2.2.2 ↔ Qxy (RO.take i) x ∨ x ∈ r.2.take q.1) ∧ q.2.2.2.length ≤ 8 * i + q.1)
    (fun | (j,B,d,T) => [(1,.int .i64 half),(3,.int .i64 now),(10,.slice (some a4) O.length c2),(9,.slice B T.length d),(25,.slice (some a4) O.length c2),(26,.int .i64 O.length),(27,.int .i64 (i:Nat)),(32,.slice dd.2.1 r.2.length dd.2.2.2),(33,.int .i64 r.2.length),(34,.int .i64 (j:Nat))]) (fun q => r.2.length - q.1) (0,B,d,T) ⟨Nat.zero_le _,Ext.refl _,hsT.ext hx36,hnT,fun x => by rw [hmT]; simp,by simpa using hlT⟩ ⟨rfl,rfl,rfl,rfl,rfl,rfl,rfl,rfl,rfl,rfl,trivial⟩ ?_
   clear hsT hnT hmT hlT
   rintro ⟨j,B,d,T⟩ w7 ⟨hj,hx7,hsT,hnT,hmT,hlT⟩
   simp only at hj hsT hnT hmT hlT
   conv=>whnf
   constructor
   · intro hlt2
     have hlt2 : j < r.2.length := by simpa using hlt2
     obtain ⟨a8,hA8,hc8⟩ := ((h3.ext hx36).ext hx7).get hlt2
     have htk2 := Xr r.2 j hlt2
     generalize r.2[j] = t at hc8 htk2
     (conv=>whnf);repeat(refine Sg ?_;(conv=>whnf))
     refine ⟨a8,⟨hA8,by omega,by omega⟩,?_⟩; (conv=>whnf);repeat(refine Sg ?_;(conv=>whnf))
     refine ⟨.string t,Q5 hc8,?_⟩; (conv=>whnf);repeat(refine Sg ?_;(conv=>whnf))
     refine (Qu1 T t B d w7 hsT (by omega) hnT).mono ?_
     rintro _ w8 ⟨B8,d8,T8,rfl,hs8,hn8,hm8,hl8,hx8⟩; (conv=>whnf);repeat(refine Sg ?_;(conv=>whnf))
     refine ⟨_,wrap_succ (by omega),?_⟩; (conv=>whnf);repeat(refine Sg ?_;(conv=>whnf))
     refine ⟨(j + 1,B8,d8,T8),by simp only; omega,⟨by simp only; omega,hx7.trans hx8,hs8,hn8,fun x => ?_,by simp only; omega⟩,⟨rfl,rfl,rfl,rfl,rfl,rfl,rfl,rfl,rfl,rfl,trivial⟩⟩
     simp only
     rw [hm8,hmT,htk2,List.mem_append,List.mem_singleton,or_assoc]
   · intro hge
     have hge : r.2.length ≤ j := by simpa using hge
     rw [List.take_of_length_le hge] at hmT
     (conv=>whnf);repeat(refine Sg ?_;(conv=>whnf))
     refine ⟨_,wrap_succ (by omega),?_⟩; (conv=>whnf);repeat(refine Sg ?_;(conv=>whnf))
     refine ⟨(i + 1,B,d,T),by simp only; omega,⟨by simp only; omega,hx3.trans (hx36.trans hx7),hsT,hnT,fun x => ?_,by simp only; omega⟩,⟨rfl,rfl,rfl,rfl,rfl,rfl,rfl,trivial⟩⟩
     simp only
     rw [hmT,htk]
     unfold Qxy
     constructor
     · rintro (⟨y,hy,hx⟩ | hx)
       · exact ⟨y,by simp [hy],hx⟩
       · exact ⟨r,by simp,hx⟩
     · rintro ⟨y,hy,hx⟩
       rcases List.mem_append.1 hy with hy | hy
       · exact .inl ⟨y,hy,hx⟩
       · rw [List.mem_singleton] at hy
         subst hy
         exact .inr hx
 intro hge
 have hge : O.length ≤ i := by simpa using hge
 rw [List.take_of_length_le (by omega)] at hmT
 (conv=>whnf);repeat(refine Sg ?_;(conv=>whnf))
 intro b4 w4 hn4; (conv=>whnf);repeat(refine Sg ?_;(conv=>whnf))
 have hx4 := hx3.trans hn4.ext
 have hsT4 := hsT.ext hn4.ext
 have o4 : Sl Qhd 2 w4 (some ⟨b4,0,none⟩) [] := Sl.nil
 obtain ⟨f,hf⟩ : ∃ f,f = Qk7 half now RO := ⟨_,rfl⟩
 rw [← hf] at hfb hfz ⊢
 refine Qg Qa (fun (q:Nat × Option Addr × Nat × List Ct) w' => q.1 ≤ T.length ∧ Ext w4 w' ∧ Sl Qhd 2 w' q.2.1 q.2.2.2 ∧ q.2.2.2.Perm (Qyc f (T.take q.1)))
  (fun | (k,B',d',L) => [(1,.int .i64 half),(3,.int .i64 now),(10,.slice A2 O.length c2),(15,.slice B' L.length d'),(44,.slice B T.length d),(45,.int .i64 T.length),(46,.int .i64 (k:Nat))]) (fun q => T.length - q.1) (0,some ⟨b4,0,none⟩,0,[]) ⟨Nat.zero_le _,Ext.refl _,o4,by simp [Qyc]⟩ ⟨rfl,rfl,rfl,rfl,rfl,rfl,rfl,trivial⟩ ?_
 have hdn := hnT
 rintro ⟨k,B',d',L⟩ w5 ⟨hk,hx5,hs5,hp5⟩
 simp only at hk hs5 hp5
 have hLl : L.length ≤ k := by
  have h1 := hp5.length_eq
  have h2 := Q37 f (T.take k)
  rw [List.length_take] at h2
  omega
 conv=>whnf
 constructor
 · intro hlt
   have hlt : k < T.length := by simpa using hlt
   obtain ⟨a6,hA6,hc6⟩ := (hsT4.ext hx5).get hlt
   subst hA6
   have htk := Xr T k hlt
   generalize T[k] = t at hc6 htk
   have hsn : Qyc f (T.take (k + 1)) = Qyc f (T.take k) ++ if 0 < f t then [(t,f t)] else [] := by rw [htk,Q07]
   (conv=>whnf);repeat(refine Sg ?_;(conv=>whnf))
   refine ⟨a6,⟨rfl,by omega,by omega⟩,?_⟩; (conv=>whnf);repeat(refine Sg ?_;(conv=>whnf))
   refine ⟨.string t,Q5 hc6,?_⟩; (conv=>whnf);repeat(refine Sg ?_;(conv=>whnf))
   refine Qg Qa (fun (q:Nat × Int) w' => q.1 ≤ O.length ∧ q.2 = Qk7 half now (RO.take q.1) t ∧ Ext w5 w')
    (fun | (j,n) => [(1,.int .i64 half),(3,.int .i64 now),(10,.slice A2 O.length c2),(15,.slice B' L.length d'),(44,.slice (some a6) T.length d),(45,.int .i64 T.length),(46,.int .i64 (k:Nat)),(17,.string t),(18,.int .i64 n),(50,.slice A2 O.length c2),(51,.int .i64 O.length),(52,.int .i64 (j:Nat))]) (fun q => O.length - q.1) (0,0) ⟨Nat.zero_le _,rfl,Ext.refl _⟩ ⟨rfl,rfl,rfl,rfl,rfl,rfl,rfl,rfl,rfl,rfl,rfl,rfl,trivial⟩ ?_
   rintro ⟨j,n⟩ w6 ⟨hj,hn',hx6⟩
   simp only at hj hn'
   have hx06 := (hx4.trans hx5).trans hx6
   conv=>whnf
   constructor
   · intro hlt2
     have hlt2 : j < O.length := by simpa using hlt2
     obtain ⟨dd,r,hd,hr,h1,h2,h3,h4,h5,htk2⟩ := hgetT hx06 j hlt2
     obtain ⟨a7,hA7,hc7⟩ := (hs2.ext hx06) j dd hd
     subst hA7
     have hst : Qk7 half now (RO.take (j + 1)) t = n + if t ∈ r.2 then Qjr half now r.1 else 0 := by rw [htk2,Qp8,← hn']
     have hb0 := hfm j t
     have hb1 := hfm (j + 1) t
     rw [List.length_take] at hb0 hb1
     rw [← hn'] at hb0
     (conv=>whnf);repeat(refine Sg ?_;(conv=>whnf))
     refine ⟨a7,⟨rfl,by omega,by omega⟩,?_⟩; (conv=>whnf);repeat(refine Sg ?_;(conv=>whnf))
     refine ⟨Qb7 dd,⟨rfl,hc7⟩,?_⟩; (conv=>whnf);repeat(refine Sg ?_;(conv=>whnf))
     intro b8 w8 hn8; (conv=>whnf);repeat(refine Sg ?_;(conv=>whnf))
     refine Qd Qa (e := ty120) rfl hn8.At rfl rfl rfl (Qcm dd) fun w9 h9 ho9 => ?_
     have h9 : At w9 b8 120 (Qb7 dd) := h9
     have hx69 : Ext w6 w9 := ho9.ext hn8.ext (by rw [hn8.block]; exact Nat.le_refl _)
     clear ho9 hn8
     (conv=>whnf);repeat(refine Sg ?_;(conv=>whnf))
     refine ⟨.slice dd.2.1 dd.2.2.1 dd.2.2.2,h9.one rfl,?_⟩; (conv=>whnf);repeat(refine Sg ?_;(conv=>whnf))
     rw [h2]
     refine (Qnd r.2 t dd.2.1 dd.2.2.2 w9 (h3.ext hx69) (by omega)).mono ?_
     rintro _ w10 ⟨rfl,hw10⟩
     replace hw10 := hw10.symm
     subst hw10
     (conv=>whnf);repeat(refine Sg ?_;(conv=>whnf))
     constructor
     · intro hq
       have hq : t ∈ r.2 := Qfc.1 hq
       rw [if_pos hq] at hst
       have hwl := Qb1 h4
       have hat := Qh4 h4
       have hwb := Qbw (now - r.1.at_) half
       have hmul : 0 ≤ Qjr half now r.1 ∧ Qjr half now r.1 ≤ 5242880 := by
        unfold Qjr
        refine ⟨Int.mul_nonneg hwl.1 hwb.1,?_⟩
        have : Qo r.1 * Q7 (now - r.1.at_) half ≤ 5 * 1048576 := Int.mul_le_mul hwl.2 hwb.2 hwb.1 (by omega)
        omega
       have hde : dd.1 = r.1 := h1
       have hmu2 : 0 ≤ Qo r.1 * Q7 (now - r.1.at_) half ∧ Qo r.1 * Q7 (now - r.1.at_) half ≤ 5242880 := hmul
       (conv=>whnf);repeat(refine Sg ?_;(conv=>whnf))
       refine Dr .ext [0,1,2,4,5,6,7,8,9,3,10,11,12,13] [] ?_;conv=>whnf
       have hxd := (Ext.refl w9).drew
       replace h9 := h9.ext hxd
       replace hx69 := hx69.trans hxd
       generalize w9.drew = w11 at h9 hx69 ⊢
       refine ⟨evC dd.1,⟨rfl,fun i v hv => h9.all i v (by show (evC dd.1 ++ [Value.slice dd.2.1 dd.2.2.1 dd.2.2.2])[i]? = some v; rw [List.getElem?_append_left (List.getElem?_eq_some_iff.1 hv).1]; exact hv)⟩,?_⟩;conv=>whnf
       refine ⟨.int .i64 dd.1.at_,h9.one rfl,?_⟩;conv=>whnf
       rw [hde]
       refine ⟨now - r.1.at_,wrap_eq rfl ⟨by omega,by omega⟩,?_⟩;conv=>whnf
       refine (Qog r.1 w11).mono ?_
       rintro _ w12 ⟨rfl,hx12⟩
       refine ⟨hx12,?_⟩;conv=>whnf
       refine (Qmm (now - r.1.at_) half ⟨by omega,by omega⟩ ⟨by omega,by omega⟩ w12).mono ?_
       rintro _ w13 ⟨rfl,hw13⟩
       replace hw13 := hw13.symm
       subst hw13
       refine ⟨Ext.refl _,?_⟩;conv=>whnf
       refine ⟨Qjr half now r.1,wrap_eq rfl ⟨by omega,by omega⟩,?_⟩;conv=>whnf
       refine ⟨n + Qjr half now r.1,wrap_eq rfl ⟨by omega,by omega⟩,?_⟩; (conv=>whnf);repeat(refine Sg ?_;(conv=>whnf))
       refine ⟨_,wrap_succ (by omega),?_⟩; (conv=>whnf);repeat(refine Sg ?_;(conv=>whnf))
       exact ⟨(j + 1,n + Qjr half now r.1),by simp only; omega,⟨by simp only; omega,hst.symm,hx6.trans (hx69.trans hx12)⟩,⟨rfl,rfl,rfl,rfl,rfl,rfl,rfl,rfl,rfl,rfl,rfl,rfl,trivial⟩⟩
     · intro hq
       have hq : ¬ t ∈ r.2 := by
        have hq : inT r.2 t = false := hq
        exact Qns.1 hq
       rw [if_neg hq,Int.add_zero] at hst
       (conv=>whnf);repeat(refine Sg ?_;(conv=>whnf))
       refine ⟨_,wrap_succ (by omega),?_⟩; (conv=>whnf);repeat(refine Sg ?_;(conv=>whnf))
       exact ⟨(j + 1,n),by simp only; omega,⟨by simp only; omega,hst.symm,hx6.trans hx69⟩,⟨rfl,rfl,rfl,rfl,rfl,rfl,rfl,rfl,rfl,rfl,rfl,rfl,trivial⟩⟩
   · intro hge2
     have hge2 : O.length ≤ j := by simpa using hge2
     rw [List.take_of_length_le (by omega)] at hn'
     have hft : n = f t := by rw [hf,hn']
     subst hft
     (conv=>whnf);repeat(refine Sg ?_;(conv=>whnf))
     constructor
     · intro hq
       have hq : 0 < f t := by simpa using hq
       rw [if_pos hq] at hsn
       (conv=>whnf);repeat(refine Sg ?_;(conv=>whnf))
       refine (Quy L (t,f t) B' d' w6 (hs5.ext hx6) (by omega)).mono ?_
       rintro _ w7 ⟨B7,d7,L7,rfl,hs7,hp7,hx7⟩; (conv=>whnf);repeat(refine Sg ?_;(conv=>whnf))
       refine ⟨_,wrap_succ (by omega),?_⟩; (conv=>whnf);repeat(refine Sg ?_;(conv=>whnf))
       refine ⟨(k + 1,B7,d7,L7),by simp only; omega,⟨by simp only; omega,hx5.trans (hx6.trans hx7),hs7,?_⟩,⟨rfl,rfl,rfl,rfl,rfl,rfl,rfl,trivial⟩⟩
       simp only
       rw [hsn]
       exact hp7.trans ((hp5.cons _).trans (List.perm_append_comm (l₁ := [(t,f t)])))
     · intro hq
       have hq : ¬ 0 < f t := by simpa using hq
       rw [if_neg hq,List.append_nil] at hsn
       (conv=>whnf);repeat(refine Sg ?_;(conv=>whnf))
       refine ⟨_,wrap_succ (by omega),?_⟩; (conv=>whnf);repeat(refine Sg ?_;(conv=>whnf))
       exact ⟨(k + 1,B',d',L),by simp only; omega,⟨by simp only; omega,hx5.trans hx6,hs5.ext hx6,by simp only; rw [hsn]; exact hp5⟩,⟨rfl,rfl,rfl,rfl,rfl,rfl,rfl,trivial⟩⟩
 · intro hge
   have hge : T.length ≤ k := by simpa using hge
   rw [List.take_of_length_le hge] at hp5
   conv=>whnf
   refine ⟨B',d',L,rfl,hs5,Q5w hnT (fun t ht => ?_) hp5,by omega,hx1.trans (hx4.trans hx5)⟩
   refine (hmT t).2 (Classical.byContradiction fun h => ?_)
   have := hfz t h
   omega
end Go.Proofs.YtoancknoinilaaaGreatDoor
