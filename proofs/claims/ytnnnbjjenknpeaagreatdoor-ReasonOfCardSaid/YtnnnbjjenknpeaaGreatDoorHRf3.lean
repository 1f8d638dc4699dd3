import Derived.Test.YtnnnbjjenknpeaaGreatDoorHRf2
/- The reference's crowd: in,Put,Worth,Weight,Own,Taste; its rows. -/
set_option linter.unusedVariables false
set_option linter.unusedSimpArgs false
namespace Go.Proofs.YtnnnbjjenknpeaaGreatDoor
open Go.Se Go.RowKit
theorem Qxg (l:List ByteArray) (s:ByteArray) (A:Option Addr) (c:Nat) (w:World) (hs:Sl Qck 1 w A l) (hl:l.length < 1000000000) :
 Cal Tryz.prog 132 [.slice A l.length c,.string s] w fun r w' => r = .bool (inT l s) ∧ w' = w := by
 refine Fi Tryz.func132 rfl _ rfl rfl ?_;conv=>whnf
 refine Qg Qa (fun (k:Nat) w' => k ≤ l.length ∧ w' = w ∧ s ∉ l.take k)
  (fun k => [(0,.slice A l.length c),(1,.string s),(5,.int .i64 k)]) (fun k => l.length - k) 0 ⟨by omega,rfl,by simp⟩ ⟨rfl,rfl,rfl,trivial⟩ ?_
 rintro k w1 ⟨hk,rfl,hall⟩
 conv=>whnf
 constructor
 · intro hlt
   have hlt : k < l.length := by simpa using hlt
   obtain ⟨a,rfl,hc⟩ := hs.get hlt
   have htk := Xp l k hlt
   have hin := List.getElem_mem hlt
   generalize l[k] = x at hc htk hin
   conv=>whnf
   refine ⟨a,⟨rfl,by omega,by omega⟩,?_⟩;conv=>whnf
   refine ⟨.string x,Qz hc,?_⟩;conv=>whnf
   constructor
   · intro h
     have h : x = s := by simpa using h
     subst h
     conv=>whnf
     exact ⟨by rw [Qeb.2 hin],rfl⟩
   · intro h
     have h : ¬ x = s := by simpa using h
     conv=>whnf
     refine ⟨_,wrap_succ (by omega),?_⟩;conv=>whnf
     exact ⟨k + 1,by omega,⟨by omega,rfl,by rw [htk]; simp [hall,Ne.symm h]⟩,⟨rfl,rfl,rfl,trivial⟩⟩
 · intro hge
   have hge : l.length ≤ k := by simpa using hge
   rw [List.take_of_length_le hge] at hall
   conv=>whnf
   exact ⟨by rw [Qk3.2 hall],rfl⟩
set_option maxHeartbeats 1000000 in
theorem Qtd (l:List ByteArray) (s:ByteArray) (A:Option Addr) (c:Nat) (w:World) (hs:SlT w A l) (hl:l.length < 1000000) (hn:l.Nodup) :
 Cal Tryz.prog 83 [.slice A l.length c,.string s] w fun r w' => ∃ A' c' L,r = .slice A' L.length c' ∧ SlT w' A' L ∧ L.Nodup ∧ (∀ x,x ∈ L ↔ x ∈ l ∨ x = s) ∧ L.length ≤ l.length + 1 ∧ Ext w w' := by
 refine Fi Tryz.func83 rfl _ rfl rfl ?_;conv=>whnf
 refine (Qxg l s A c w hs (by omega)).mono ?_
 rintro _ w0 ⟨rfl,hw0⟩
 subst hw0
 conv=>whnf
 constructor
 · intro h
   have h : s ∈ l := Qeb.1 h
   conv=>whnf
   exact ⟨A,c,l,rfl,hs,hn,fun x => ⟨.inl,fun hx => hx.elim id (fun e => e ▸ h)⟩,by omega,Ext.refl _⟩
 intro h
 have h : s ∉ l := Qk3.1 h
 conv=>whnf
 intro b1 w1 hn1;conv=>whnf
 have o1 := Xn.made (base := w0.heap.size) hn1 (Nat.le_refl _)
 refine Qg Qa (fun (q:Nat × Option Addr × Nat × List ByteArray × Bool) w' => q.1 ≤ l.length ∧ Ext w0 w' ∧ q.2.2.2.1.Perm (if q.2.2.2.2 = true then s :: l.take q.1 else l.take q.1) ∧ Own Qck 1 9 w0.heap.size w' q.2.1 q.2.2.1 q.2.2.2.1)
  (fun | (k,B,d,T,dn) => [(0,.slice A l.length c),(1,.string s),(5,.slice B T.length d),(6,.bool dn),(7,.int .i64 (k:Nat))]) (fun q => l.length - q.1) (0,some ⟨b1,0,none⟩,0,[],false) ⟨Nat.zero_le _,hn1.ext,by simp,o1⟩ ⟨rfl,rfl,rfl,rfl,rfl,trivial⟩ ?_
 rintro ⟨k,B,d,T,dn⟩ w2 ⟨hk,hx2,hT,hown⟩
 simp only at hk hT hown
 have hTl : T.length ≤ k + 1 := by
  rw [hT.length_eq]
  split <;> simp <;> omega
 conv=>whnf
 constructor
 · intro hlt
   have hlt : k < l.length := by simpa using hlt
   obtain ⟨a2,hA,hc2⟩ := (hs.ext hx2).get hlt
   subst hA
   have htk := Xp l k hlt
   have hsl2 := hs
   generalize hy : l[k] = y at hc2 htk
   (conv=>whnf);repeat(refine Sg ?_;(conv=>whnf))
   refine ⟨a2,fun _ => ⟨rfl,by omega,by omega⟩,?_⟩; (conv=>whnf);repeat(refine Sg ?_;(conv=>whnf))
   refine ⟨.string y,fun _ => Qz hc2,?_⟩; (conv=>whnf);repeat(refine Sg ?_;(conv=>whnf))
   constructor
   · intro hq
     have hq : (!dn && bLt s y) = true := hq
     have hq : dn = false ∧ bLt s y = true := by simpa using hq
     obtain ⟨rfl,_⟩ := hq
     have hT : T.Perm (l.take k) := hT
     (conv=>whnf);repeat(refine Sg ?_;(conv=>whnf))
     intro b3 w3 hn3; (conv=>whnf);repeat(refine Sg ?_;(conv=>whnf))
     refine Qq Xn (l := T) (news := [s]) rfl (hown.ext hn3.ext) rfl (Xn.new1 (x := s) hn3) (by simp; omega) ((hx2.trans hn3.ext).size) fun A4 c4 w4 hown4 hg4 hA4 => ?_
     have hx4 := Qn (hx2.trans hn3.ext) hg4 (Q5 hown)
     have hT4 : (T ++ [s]).Perm (s :: l.take k) := (List.perm_append_comm).trans (hT.cons s)
     have hT4l : (T ++ [s]).length = T.length + 1 := by simp
     generalize T ++ [s] = T4 at hown4 hT4 hT4l ⊢
     obtain ⟨a5,hA5,hc5⟩ := (hs.ext hx4).get hlt
     obtain rfl : a2 = a5 := by simpa using hA5
     rw [hy] at hc5
     (conv=>whnf);repeat(refine Sg ?_;(conv=>whnf))
     refine ⟨a2,⟨rfl,by omega,by omega⟩,?_⟩; (conv=>whnf);repeat(refine Sg ?_;(conv=>whnf))
     refine ⟨.string y,Qz hc5,?_⟩; (conv=>whnf);repeat(refine Sg ?_;(conv=>whnf))
     intro b6 w6 hn6; (conv=>whnf);repeat(refine Sg ?_;(conv=>whnf))
     refine Qq Xn (l := T4) (news := [y]) rfl (hown4.ext hn6.ext) rfl (Xn.new1 (x := y) hn6) (by simp; omega) ((hx4.trans hn6.ext).size) fun A7 c7 w7 hown7 hg7 hA7 => ?_
     have hx7 := Qn (hx4.trans hn6.ext) hg7 (Q5 hown4)
     have hT7 : (T4 ++ [y]).Perm (s :: l.take (k + 1)) := by
      rw [htk]
      exact hT4.append_right [y]
     generalize T4 ++ [y] = T7 at hown7 hT7 ⊢
     (conv=>whnf);repeat(refine Sg ?_;(conv=>whnf))
     refine ⟨_,wrap_succ (by omega),?_⟩; (conv=>whnf);repeat(refine Sg ?_;(conv=>whnf))
     exact ⟨(k + 1,A7,c7,T7,true),by simp only; omega,⟨by simp only; omega,hx7,hT7,hown7⟩,⟨rfl,rfl,rfl,rfl,rfl,trivial⟩⟩
   · intro _
     (conv=>whnf);repeat(refine Sg ?_;(conv=>whnf))
     refine ⟨a2,⟨rfl,by omega,by omega⟩,?_⟩; (conv=>whnf);repeat(refine Sg ?_;(conv=>whnf))
     refine ⟨.string y,Qz hc2,?_⟩; (conv=>whnf);repeat(refine Sg ?_;(conv=>whnf))
     intro b6 w6 hn6; (conv=>whnf);repeat(refine Sg ?_;(conv=>whnf))
     refine Qq Xn (l := T) (news := [y]) rfl (hown.ext hn6.ext) rfl (Xn.new1 (x := y) hn6) (by simp; omega) ((hx2.trans hn6.ext).size) fun A7 c7 w7 hown7 hg7 hA7 => ?_
     have hx7 := Qn (hx2.trans hn6.ext) hg7 (Q5 hown)
     have hT7 : (T ++ [y]).Perm (if dn = true then s :: l.take (k + 1) else l.take (k + 1)) := by
      rw [htk]
      refine (hT.append_right [y]).trans ?_
      cases dn <;> simp
     generalize T ++ [y] = T7 at hown7 hT7 ⊢
     (conv=>whnf);repeat(refine Sg ?_;(conv=>whnf))
     refine ⟨_,wrap_succ (by omega),?_⟩; (conv=>whnf);repeat(refine Sg ?_;(conv=>whnf))
     exact ⟨(k + 1,A7,c7,T7,dn),by simp only; omega,⟨by simp only; omega,hx7,hT7,hown7⟩,⟨rfl,rfl,rfl,rfl,rfl,trivial⟩⟩
 · intro hge
   have hge : l.length ≤ k := by simpa using hge
   rw [List.take_of_length_le hge] at hT
   have hfin : ∀ {L:List ByteArray},L.Perm (s :: l) → L.Nodup ∧ (∀ x,x ∈ L ↔ x ∈ l ∨ x = s) ∧ L.length ≤ l.length + 1 := fun hp =>
    ⟨hp.nodup_iff.2 (List.nodup_cons.2 ⟨h,hn⟩),fun x => by rw [hp.mem_iff,List.mem_cons]; exact or_comm,by rw [hp.length_eq]; simp⟩
   (conv=>whnf);repeat(refine Sg ?_;(conv=>whnf))
   constructor
   · intro hq
     have hq : dn = false := by simpa using hq
     subst hq
     have hT : T.Perm l := hT
     (conv=>whnf);repeat(refine Sg ?_;(conv=>whnf))
     intro b3 w3 hn3; (conv=>whnf);repeat(refine Sg ?_;(conv=>whnf))
     refine Qq Xn (l := T) (news := [s]) rfl (hown.ext hn3.ext) rfl (Xn.new1 (x := s) hn3) (by simp; omega) ((hx2.trans hn3.ext).size) fun A4 c4 w4 hown4 hg4 hA4 => ?_
     have hx4 := Qn (hx2.trans hn3.ext) hg4 (Q5 hown)
     have hT4 : (T ++ [s]).Perm (s :: l) := (List.perm_append_comm).trans (hT.cons s)
     generalize T ++ [s] = T4 at hown4 hT4 ⊢
     obtain ⟨f1,f2,f3⟩ := hfin hT4
     (conv=>whnf);repeat(refine Sg ?_;(conv=>whnf))
     exact ⟨A4,c4,T4,rfl,hown4.sl Xn.sz,f1,f2,f3,hx4⟩
   · intro hq
     have hq : dn = true := by simpa using hq
     subst hq
     obtain ⟨f1,f2,f3⟩ := hfin hT
     (conv=>whnf);repeat(refine Sg ?_;(conv=>whnf))
     exact ⟨B,d,T,rfl,hown.sl Xn.sz,f1,f2,f3,hx2⟩
theorem Qou (e:Ev) (w:World) : Cal Tryz.prog 82 [evV e] w fun r w' => r = .int .i64 (Qo e) ∧ Ext w w' := by
 refine Fi Tryz.func82 rfl _ rfl rfl ?_;conv=>whnf
 intro b w1 hn
 have hb := hn.At
 conv=>whnf
 refine ⟨_,hb.one rfl,?_⟩;conv=>whnf
 refine ⟨fun h1 => ?_,fun h1 => ?_⟩
 · have h1 : e.kind = 1 := by simpa using h1
   conv=>whnf
   exact ⟨by unfold Qo; rw [if_pos h1],hn.ext⟩
 have h1 : ¬ e.kind = 1 := by simpa using h1
 conv=>whnf
 refine ⟨fun h2 => ?_,fun h2 => ?_⟩
 · have h2 : e.kind = 2 := by simpa using h2
   conv=>whnf
   exact ⟨by unfold Qo; rw [if_neg h1,if_pos h2],hn.ext⟩
 have h2 : ¬ e.kind = 2 := by simpa using h2
 conv=>whnf
 refine ⟨fun h3 => ?_,fun h3 => ?_⟩
 · have h3 : e.kind = 3 := by simpa using h3
   conv=>whnf
   exact ⟨by unfold Qo; rw [if_neg h1,if_neg h2,if_pos h3],hn.ext⟩
 have h3 : ¬ e.kind = 3 := by simpa using h3
 conv=>whnf
 refine ⟨fun h4 => ?_,fun h4 => ?_⟩
 · have h4 : e.kind = 4 := by simpa using h4
   conv=>whnf
   refine ⟨_,hb.one rfl,?_⟩;conv=>whnf
   exact ⟨by unfold Qo; rw [if_neg h1,if_neg h2,if_neg h3,if_pos h4],hn.ext⟩
 have h4 : ¬ e.kind = 4 := by simpa using h4
 conv=>whnf
 exact ⟨by unfold Qo; rw [if_neg h1,if_neg h2,if_neg h3,if_neg h4],hn.ext⟩
theorem Q01 : Qpg Tryz.prog 74 85 Qcz 9 120 := ⟨by kernel_rfl,⟨_,ty85_ok,rfl,rfl⟩,by85,by decide,by decide,Qdo,Qej⟩
theorem Q0n {e:Ev} (hm:Xu e = true) : peB e = true ↔ e.kind < 11 := by
 have hk := Qob hm
 unfold peB thB
 simp only [Bool.and_eq_true,Bool.not_eq_true',decide_eq_false_iff_not]
 omega
theorem Qqu (l:List Ev) (n:Nat) (hn:n = l.length) (A:Option Addr) (c:Nat) (w:World) (hs:SlE w A l) (hl:l.length < 1000000) :
 Cal Tryz.prog 41 [.slice A n c] w fun r w' => ∃ A' c',r = .slice A' (Qj l).length c' ∧ SlE w' A' (Qj l) ∧ Ext w w' := by
 subst hn
 exact Qjj l A c w hs hl
set_option maxHeartbeats 2000000 in
theorem Qm9 (l:List Ev) (A:Option Addr) (c:Nat) (w:World) (hs:SlE w A l) (hcap:l.length ≤ c) (hl:l.length < 1000) (hm:∀ e ∈ l,Xu e = true) :
 Cal Tryz.prog 39 [.slice A l.length c] w fun r w' => ∃ A' c' D,r = .slice A' D.length c' ∧ Sl Qcz 9 w' A' D ∧ Qax w' (TgR w' A') D (Qfa l) ∧ D.length ≤ l.length ∧ Ext w w' := by
 refine Fi Tryz.func39 rfl _ rfl rfl ?_;conv=>whnf
 intro b1 w1 hn1;conv=>whnf
 have o1 := Q01.made (base := w.heap.size) hn1 (Nat.le_refl _)
 refine Qg Qa (fun (k:Nat × Option Addr × Nat × List (Ev × SV)) w' => k.1 ≤ l.length ∧ Ext w w' ∧ k.2.2.2.length ≤ k.1 ∧ Qax w' (TgR w' k.2.1) k.2.2.2 (Qfa (l.take k.1)) ∧ Own Qcz 9 85 w.heap.size w' k.2.1 k.2.2.1 k.2.2.2)
  (fun | (k,B,d,T) => [(0,.slice A l.length c),(3,.slice B T.length d),(4,.int .i64 k)]) (fun k => l.length - k.1) (0,some ⟨b1,0,none⟩,0,[]) ⟨by simp,hn1.ext,by simp,Qax.nilR,o1⟩ ⟨rfl,rfl,rfl,trivial⟩ ?_
 rintro ⟨k,B,d,T⟩ w2 ⟨hk,hx2,hTl,hT,hown⟩
 simp only at hk hTl hT hown
 conv=>whnf
 constructor
 · intro hc
   have hc : k < l.length := by simpa using hc
   obtain ⟨a2,hA2,hce⟩ := (hs.ext hx2).get hc
   subst hA2
   have htk := Xp l k hc
   have hme := hm l[k] (List.getElem_mem hc)
   have hmt : ∀ e ∈ l.take k,Xu e = true := fun e he => hm e (List.mem_of_mem_take he)
   have hstk := Qbl (Qlr hs k) 0 c (by rw [List.length_take]; omega)
   rw [List.drop_zero] at hstk
   have hkl : k = (l.take k).length := by rw [List.length_take]; omega
   generalize l[k] = e at hce htk hme
   (conv=>whnf);repeat(refine Sg ?_;(conv=>whnf))
   refine ⟨a2,⟨rfl,by omega,by omega⟩,?_⟩; (conv=>whnf);repeat(refine Sg ?_;(conv=>whnf))
   refine ⟨evC e,⟨rfl,hce⟩,?_⟩; (conv=>whnf);repeat(refine Sg ?_;(conv=>whnf))
   intro b3 w3 hn3; (conv=>whnf);repeat(refine Sg ?_;(conv=>whnf))
   refine Qd Qa (e := ty53) rfl hn3.At rfl rfl rfl (Qc0 e) fun w4 h4 ho4 => ?_
   have h4 : At w4 b3 53 (evC e) := h4
   have hx24 : Ext w2 w4 := ho4.ext hn3.ext (by rw [hn3.block]; exact Nat.le_refl _)
   clear ho4 hn3
   (conv=>whnf);repeat(refine Sg ?_;(conv=>whnf))
   refine ⟨.int .i64 e.kind,h4.one rfl,?_⟩; (conv=>whnf);repeat(refine Sg ?_;(conv=>whnf))
   constructor
   · intro hq
     have hq : 11 ≤ e.kind := by simpa using hq
     have hpe : ¬ peB e = true := fun h => by have := (Q0n hme).1 h; omega
     (conv=>whnf);repeat(refine Sg ?_;(conv=>whnf))
     refine ⟨_,wrap_succ (by omega),?_⟩; (conv=>whnf);repeat(refine Sg ?_;(conv=>whnf))
     refine ⟨(k + 1,B,d,T),by simp only; omega,⟨by simp only; omega,hx2.trans hx24,by simp only; omega,?_,hown.ext hx24⟩,⟨rfl,rfl,rfl,trivial⟩⟩
     simp only
     rw [htk,Qcg,if_neg hpe,List.append_nil]
     exact hT.extR hx24
   intro hq
   have hq : ¬ 11 ≤ e.kind := by simpa using hq
   have hpe : peB e = true := (Q0n hme).2 (by omega)
   (conv=>whnf);repeat(refine Sg ?_;(conv=>whnf))
   intro b5 w5 hn5; (conv=>whnf);repeat(refine Sg ?_;(conv=>whnf))
   have o5 := Xn.made (base := w2.heap.size) hn5 hx24.size
   have hx25 := hx24.trans hn5.ext
   have h5 := h4.ext hn5.ext
   refine ⟨.string e.item,h5.one rfl,?_⟩; (conv=>whnf);repeat(refine Sg ?_;(conv=>whnf))
   constructor
   · intro hi
     have hi : ¬ e.item = ⟨#[]⟩ := by simpa using hi
     obtain ⟨tg,htg⟩ : ∃ tg,tg = Qf7 (Qj (l.take k)) e := ⟨_,rfl⟩
     have htg2 : tg = Qw (Qdy (Qgs e.item ((Qj (l.take k)).filter (thQ e.item e.at_))).tags) := by rw [htg]; unfold Qf7; rw [if_neg hi]
     have htz := Qbz e.item ((Qj (l.take k)).filter (thQ e.item e.at_)) fun x hx => X4 hmt x (List.mem_filter.1 hx).1
     refine Qi2 (ι := Nat) (fun b => [(0,.slice (some a2) l.length c),(3,.slice B T.length d),(4,.int .i64 k),(5,.pointer (some ⟨b3,0,none⟩)),(6,.slice (some ⟨b5,0,none⟩) 0 0),(7,.pointer (some ⟨b,0,none⟩))]) (fun b w' => Ext w5 w' ∧ At w' b 77 (itC (Qgs e.item ((Qj (l.take k)).filter (thQ e.item e.at_))))) ?_ ?_
     · refine Qfq (.mods (fun k => w5.heap.size ≤ k)) (Pl.seq [0,1,2,4,5,6,7] (Pl.two 3 (Pl.seq [] (Pl.two 8 (Pl.seq [9,10,11,12,13,14] Pl.done) 12 (Pl.seq [8,9,10,11,13,14] Pl.done))) 12 (Pl.seq [3,8,9,10,11,13,14] Pl.done))) (by intro h; cases h) Qa mixed (by kernel_rfl) ?_;conv=>whnf
       have hb3 := h5.lt
       have hE : Ext w5 w5.drew := (Ext.refl w5).drew
       replace h5 : At w5.drew b3 53 (evC e) := h5
       generalize w5.drew = w6 at hE h5 ⊢
       refine ⟨⟨by omega,by omega,by omega,by omega⟩,?_⟩;conv=>whnf
       refine ⟨.string e.item,⟨h5.one rfl,by show ¬ (w5.heap.size ≤ b3); omega⟩,?_⟩;conv=>whnf
       refine ⟨.int .i64 e.at_,⟨h5.one rfl,by show ¬ (w5.heap.size ≤ b3); omega⟩,?_⟩;conv=>whnf
       refine ⟨?_,?_⟩
       · refine (Qqu (l.take k) k hkl _ c _ (hstk.ext ((hx2.trans hx25).trans hE)) (by rw [List.length_take]; omega)).mono ?_
         rintro _ wt ⟨At',ct,rfl,hst,hxt⟩
         have hE := hE.trans hxt
         refine ⟨Mod.of_ext hxt,?_⟩;conv=>whnf
         refine ⟨?_,?_⟩
         · refine (Qkc (Qj (l.take k)) e.item e.at_ At' ct _ hst (by have := List.length_filter_le thB (l.take k); rw [List.length_take] at this; unfold Qj; omega) (fun x hx => (List.mem_filter.1 hx).2) (X4 hmt)).mono ?_
           rintro _ wa ⟨rfl,hxa⟩
           have hE := hE.trans hxa
           refine ⟨Mod.of_ext hxa,?_⟩;conv=>whnf
           intro b7 w7 hn7
           have hb7 : w5.heap.size ≤ b7 := by rw [hn7.block]; exact hE.size
           have hE := hE.trans hn7.ext
           refine ⟨Mod.of_ext hn7.ext,?_⟩;conv=>whnf
           refine Qd Qa (e := ty77) rfl (hn7.At) rfl rfl rfl (by simp [Qh,itC,Value.oneCell']) fun w8 h8 ho8 => ?_
           refine ⟨Qi ho8 hb7,?_⟩;conv=>whnf
           exact ⟨b7,⟨ho8.ext hE hb7,h8⟩,⟨rfl,rfl,rfl,rfl,rfl,rfl,trivial⟩⟩
         · intro b7 w7 hn7
           have hb7 : w5.heap.size ≤ b7 := by rw [hn7.block]; exact hE.size
           have hE := hE.trans hn7.ext
           refine ⟨Mod.of_ext hn7.ext,?_⟩;conv=>whnf
           refine (Qkc (Qj (l.take k)) e.item e.at_ At' ct _ (hst.ext hn7.ext) (by have := List.length_filter_le thB (l.take k); rw [List.length_take] at this; unfold Qj; omega) (fun x hx => (List.mem_filter.1 hx).2) (X4 hmt)).mono ?_
           rintro _ wa ⟨rfl,hxa⟩
           have hE := hE.trans hxa
           refine ⟨Mod.of_ext hxa,?_⟩;conv=>whnf
           refine Qd Qa (e := ty77) rfl (hn7.At.ext hxa) rfl rfl rfl (by simp [Qh,itC,Value.oneCell']) fun w8 h8 ho8 => ?_
           refine ⟨Qi ho8 hb7,?_⟩;conv=>whnf
           exact ⟨b7,⟨ho8.ext hE hb7,h8⟩,⟨rfl,rfl,rfl,rfl,rfl,rfl,trivial⟩⟩
       · intro b7 w7 hn7
         have hb7 : w5.heap.size ≤ b7 := by rw [hn7.block]; exact hE.size
         have hE := hE.trans hn7.ext
         refine ⟨Mod.of_ext hn7.ext,?_⟩;conv=>whnf
         refine (Qqu (l.take k) k hkl _ c _ (hstk.ext ((hx2.trans hx25).trans hE)) (by rw [List.length_take]; omega)).mono ?_
         rintro _ wt ⟨At',ct,rfl,hst,hxt⟩
         have hE := hE.trans hxt
         refine ⟨Mod.of_ext hxt,?_⟩;conv=>whnf
         refine (Qkc (Qj (l.take k)) e.item e.at_ At' ct _ hst (by have := List.length_filter_le thB (l.take k); rw [List.length_take] at this; unfold Qj; omega) (fun x hx => (List.mem_filter.1 hx).2) (X4 hmt)).mono ?_
         rintro _ wa ⟨rfl,hxa⟩
         have hE := hE.trans hxa
         refine ⟨Mod.of_ext hxa,?_⟩;conv=>whnf
         refine Qd Qa (e := ty77) rfl ((hn7.At.ext hxt).ext hxa) rfl rfl rfl (by simp [Qh,itC,Value.oneCell']) fun w8 h8 ho8 => ?_
         refine ⟨Qi ho8 hb7,?_⟩;conv=>whnf
         exact ⟨b7,⟨ho8.ext hE hb7,h8⟩,⟨rfl,rfl,rfl,rfl,rfl,rfl,trivial⟩⟩
     rintro b6 w6 ⟨hx56,h6⟩
     generalize Qgs e.item ((Qj (l.take k)).filter (thQ e.item e.at_)) = it at h6 htg2 htz
     (conv=>whnf);repeat(refine Sg ?_;(conv=>whnf))
     refine ⟨.string it.tags,h6.one rfl,?_⟩; (conv=>whnf);repeat(refine Sg ?_;(conv=>whnf))
     refine ⟨sz2 (by decide) (by omega),?_⟩; (conv=>whnf);repeat(refine Sg ?_;(conv=>whnf))
     refine (Qlp (Qdy it.tags) w6 (by unfold Qdy; rw [ByteArray.size_append]; have : (⟨#[59]⟩ : ByteArray).size = 1 := rfl; omega)).mono ?_
     rintro _ w7 ⟨A6,c6,rfl,htown,hx67⟩
     rw [← htg2] at htown ⊢
     have hx26 := (hx25.trans hx56).trans hx67
     replace htown : Own Qck 1 9 w2.heap.size w7 A6 c6 tg := Qfn htown (hx25.trans hx56).size
     have hown6 := hown.ext hx26
     have hx6 := hx2.trans hx26
     have h7 := (h5.ext hx56).ext hx67
     (conv=>whnf);repeat(refine Sg ?_;(conv=>whnf))
     refine ⟨evC e,⟨rfl,h7.all⟩,?_⟩; (conv=>whnf);repeat(refine Sg ?_;(conv=>whnf))
     intro b8 w8 hn8; (conv=>whnf);repeat(refine Sg ?_;(conv=>whnf))
     refine Qq Q01 (l := T) (news := [(e,(A6,tg.length,c6))]) rfl (hown6.ext hn8.ext) rfl (Q01.new1 (x := (e,(A6,tg.length,c6))) hn8) (by simp; omega) ((hx6.trans hn8.ext).size) fun A9 c9 w9 hown9 hg9 hA9 => ?_
     have hx9 := Qn (hx6.trans hn8.ext) hg9 (Q5 hown6)
     have s26 := hx26.size
     have hT9 : Qax w9 (TgR w9 A9) (T ++ [(e,(A6,tg.length,c6))]) (Qfa (l.take (k + 1))) := by
      rw [htk,Qcg,if_pos hpe,← htg]
      refine ((hT.extR (hx26.trans hn8.ext)).keepR (fun k' hk1 hk2 => Qa8 hg9 hA9 k' hk1 hk2) hg9.size).snocR ⟨rfl,rfl,?_,fun a ha => ?_⟩
      · refine Qa3 ((htown.sl Xw).ext hn8.ext) fun a ha => (Qa8 hg9 hA9 a.block (by have := (htown.block ha).2; have := hn8.ext.size; omega) ?_).1
        rintro ⟨y,hy,he⟩
        have h1 := (htown.block ha).1
        have h2 := (hown.block hy).2
        omega
      · have h1 := (htown.block ha)
        have h3 := hn8.ext.size
        refine ⟨by have := hg9.size; omega,(Qa8 hg9 hA9 a.block (by omega) ?_).2⟩
        rintro ⟨y,hy,he⟩
        have h2 := (hown.block hy).2
        omega
     have hTl9 : (T ++ [(e,(A6,tg.length,c6))]).length ≤ k + 1 := by simp; omega
     generalize T ++ [(e,(A6,tg.length,c6))] = T9 at hown9 hT9 hTl9 ⊢
     (conv=>whnf);repeat(refine Sg ?_;(conv=>whnf))
     refine ⟨_,wrap_succ (by omega),?_⟩; (conv=>whnf);repeat(refine Sg ?_;(conv=>whnf))
     exact ⟨(k + 1,A9,c9,T9),by simp only; omega,⟨by simp only; omega,hx9,hTl9,hT9,hown9⟩,⟨rfl,rfl,rfl,trivial⟩⟩
   · intro hi
     have hi : e.item = ⟨#[]⟩ := by simpa using hi
     obtain ⟨tg,htg⟩ : ∃ tg,tg = Qf7 (Qj (l.take k)) e := ⟨_,rfl⟩
     have htg2 : tg = [] := by rw [htg]; unfold Qf7; rw [if_pos hi]
     obtain ⟨A6,hA6⟩ : ∃ A6 : Option Addr,A6 = some ⟨b5,0,none⟩ := ⟨_,rfl⟩
     obtain ⟨c6,hc6⟩ : ∃ c6 : Nat,c6 = 0 := ⟨_,rfl⟩
     have htown : Own Qck 1 9 w2.heap.size w5 A6 c6 tg := by rw [hA6,hc6,htg2]; exact o5
     have hx26 := hx25
     have hown6 := hown.ext hx26
     have hx6 := hx2.trans hx26
     have hz : (Value.slice (some ⟨b5,0,none⟩) 0 0) = .slice A6 tg.length c6 := by rw [hA6,hc6,htg2]; rfl
     (conv=>whnf);repeat(refine Sg ?_;(conv=>whnf))
     refine ⟨evC e,⟨rfl,h5.all⟩,?_⟩; (conv=>whnf);repeat(refine Sg ?_;(conv=>whnf))
     rw [hz]
     intro b8 w8 hn8; (conv=>whnf);repeat(refine Sg ?_;(conv=>whnf))
     refine Qq Q01 (l := T) (news := [(e,(A6,tg.length,c6))]) rfl (hown6.ext hn8.ext) rfl (Q01.new1 (x := (e,(A6,tg.length,c6))) hn8) (by simp; omega) ((hx6.trans hn8.ext).size) fun A9 c9 w9 hown9 hg9 hA9 => ?_
     have hx9 := Qn (hx6.trans hn8.ext) hg9 (Q5 hown6)
     have s26 := hx26.size
     have hT9 : Qax w9 (TgR w9 A9) (T ++ [(e,(A6,tg.length,c6))]) (Qfa (l.take (k + 1))) := by
      rw [htk,Qcg,if_pos hpe,← htg]
      refine ((hT.extR (hx26.trans hn8.ext)).keepR (fun k' hk1 hk2 => Qa8 hg9 hA9 k' hk1 hk2) hg9.size).snocR ⟨rfl,rfl,?_,fun a ha => ?_⟩
      · refine Qa3 ((htown.sl Xw).ext hn8.ext) fun a ha => (Qa8 hg9 hA9 a.block (by have := (htown.block ha).2; have := hn8.ext.size; omega) ?_).1
        rintro ⟨y,hy,he⟩
        have h1 := (htown.block ha).1
        have h2 := (hown.block hy).2
        omega
      · have h1 := (htown.block ha)
        have h3 := hn8.ext.size
        refine ⟨by have := hg9.size; omega,(Qa8 hg9 hA9 a.block (by omega) ?_).2⟩
        rintro ⟨y,hy,he⟩
        have h2 := (hown.block hy).2
        omega
     have hTl9 : (T ++ [(e,(A6,tg.length,c6))]).length ≤ k + 1 := by simp; omega
     generalize T ++ [(e,(A6,tg.length,c6))] = T9 at hown9 hT9 hTl9 ⊢
     (conv=>whnf);repeat(refine Sg ?_;(conv=>whnf))
     refine ⟨_,wrap_succ (by omega),?_⟩; (conv=>whnf);repeat(refine Sg ?_;(conv=>whnf))
     exact ⟨(k + 1,A9,c9,T9),by simp only; omega,⟨by simp only; omega,hx9,hTl9,hT9,hown9⟩,⟨rfl,rfl,rfl,trivial⟩⟩
 · intro hc
   have hc : l.length ≤ k := by simpa using hc
   rw [List.take_of_length_le hc] at hT
   conv=>whnf
   exact ⟨B,d,T,rfl,hown.sl Qdo,hT,by omega,hx2⟩
end Go.Proofs.YtnnnbjjenknpeaaGreatDoor
