/- Several texts in one: Ct, Pl5, Pl6, Sm. -/
import Derived.Test.YtoancknoinilaaaGreatDoorGF
import Derived.Test.YtoancknoinilaaaGreatDoorGC
import Derived.Test.YtoancknoinilaaaGreatDoorGH
set_option linter.unusedVariables false
set_option linter.unusedSimpArgs false
namespace Go.Proofs.YtoancknoinilaaaGreatDoor
open Go.Se Go.RowKit
theorem Qsb (s:ByteArray) (w:World) (hs:s.size < 1000000000000000000) : Cal Tryz.prog 99 [.string s] w fun r w' => r = .string (X3 s) ∧ w' = w := by
 refine Fi Tryz.func99 rfl _ rfl rfl ?_;conv=>whnf
 refine Qg Qa (fun (k:Nat) w' => k ≤ s.size ∧ w' = w ∧ ∀ i (hi:i < s.data.toList.length),i < k → (s.data.toList[i] == 59) = false)
  (fun k => [(0,.string s),(3,.int .i64 k)]) (fun k => s.size - k) 0 ⟨by omega,rfl,fun i _ h => by omega⟩ ⟨rfl,rfl,trivial⟩ ?_
 rintro k w1 ⟨hk,rfl,hall⟩
 conv=>whnf
 constructor
 · intro hlt
   have hlt : k < s.size := by simpa using hlt
   have hlt' : k < s.data.toList.length := by simpa using hlt
   conv=>whnf
   refine ⟨s.data.toList[k],⟨by omega,bytes_at s k hlt⟩,?_⟩;conv=>whnf
   rw [Q4j]
   refine ⟨fun hc => ?_,fun hc => ?_⟩
   · have hp : Xv s = some k := by
      unfold Xv
      rw [List.findIdx?_eq_some_iff_getElem]
      exact ⟨hlt',hc,fun j hj => by rw [hall j (by omega) hj]; simp⟩
     have hr : X3 s = s.extract (k + 1) s.size := by unfold X3; rw [hp]
     rw [hr]
     conv=>whnf
     refine ⟨_,wrap_succ (by omega),?_⟩;conv=>whnf
     refine ⟨⟨by omega,by omega⟩,?_⟩;conv=>whnf
     exact ⟨rfl,rfl⟩
   · (conv=>whnf)
     refine ⟨_,wrap_succ (by omega),?_⟩;conv=>whnf
     refine ⟨k + 1,by omega,⟨by omega,rfl,fun i hi hik => ?_⟩,⟨rfl,rfl,trivial⟩⟩
     by_cases e : i = k
     · subst e; exact hc
     · exact hall i hi (by omega)
 · intro hge
   have hge : s.size ≤ k := by simpa using hge
   have hp : Xv s = none := by
    unfold Xv
    rw [List.findIdx?_eq_none_iff]
    intro x hx
    obtain ⟨i,hi,rfl⟩ := List.getElem_of_mem hx
    exact hall i hi (by have:i < s.size := by simpa using hi
                        omega)
   have hr : X3 s = ⟨#[]⟩ := by unfold X3; rw [hp]
   rw [hr]
   conv=>whnf
   exact ⟨rfl,rfl⟩
theorem Qi7 (l:List Ev) (A:Option Addr) (c:Nat) (w:World) (hs:SlE w A l) (hl:l.length < 1000000) :
 Cal Tryz.prog 51 [.slice A l.length c] w fun r w' => ∃ A' c',r = .slice A' (Qz l).length c' ∧ SlE w' A' (Qz l) ∧ Ext w w' := by
 refine Fi Tryz.func51 rfl _ rfl rfl ?_;conv=>whnf
 intro b1 w1 hn1;conv=>whnf
 have o1 := Qw0.made (base := w.heap.size) hn1 (Nat.le_refl _)
 refine Qg Qa (fun (k:Nat × Option Addr × Nat × List Ev) w' => k.1 ≤ l.length ∧ Ext w w' ∧ k.2.2.2 = Qz (l.take k.1) ∧ Own evC 8 53 w.heap.size w' k.2.1 k.2.2.1 k.2.2.2)
  (fun | (k,B,d,T) => [(0,.slice A l.length c),(3,.slice B T.length d),(4,.int .i64 k)]) (fun k => l.length - k.1) (0,some ⟨b1,0,none⟩,0,[]) ⟨by simp,hn1.ext,rfl,o1⟩ ⟨rfl,rfl,rfl,trivial⟩ ?_
 rintro ⟨k,B,d,T⟩ w2 ⟨hk,hx2,hT,hown⟩
 simp only at hk hT hown
 have hTl : T.length ≤ k := by
  rw [hT]
  have := List.length_filter_le thB (l.take k)
  rw [List.length_take] at this
  unfold Qz; omega
 conv=>whnf
 constructor
 · intro hc
   have hc : k < l.length := by simpa using hc
   obtain ⟨a2,rfl,hce⟩ := (hs.ext hx2).get hc
   have htk := Xr l k hc
   generalize l[k] = e at hce htk
   have hsn : Qz (l.take (k + 1)) = T ++ if thB e then [e] else [] := by
    rw [htk,hT]; unfold Qz; rw [List.filter_append]
    cases h : thB e <;> simp [List.filter_cons,h]
   conv=>whnf
   repeat(refine Sg ?_;(conv=>whnf))
   refine ⟨a2,⟨rfl,by omega,by omega⟩,?_⟩;conv=>whnf
   refine ⟨_,cells_at hce (k := 3) rfl,?_⟩;conv=>whnf
   refine ⟨a2,fun _ => ⟨rfl,by omega,by omega⟩,?_⟩;conv=>whnf
   refine ⟨_,fun _ => cells_at hce (k := 3) rfl,?_⟩;conv=>whnf
   refine ⟨a2,fun _ => ⟨rfl,by omega,by omega⟩,?_⟩;conv=>whnf
   refine ⟨_,fun _ => cells_at hce (k := 3) rfl,?_⟩;conv=>whnf
   constructor
   · intro hq
     have hq : thB e = true := by unfold thB; simp at hq ⊢; omega
     rw [hq,if_pos rfl] at hsn
     conv=>whnf
     refine ⟨a2,⟨rfl,by omega,by omega⟩,?_⟩;conv=>whnf
     refine ⟨evC e,⟨rfl,hce⟩,?_⟩;conv=>whnf
     intro b3 w3 hn3;conv=>whnf
     refine Qm Qw0 (l := T) (news := [e]) rfl (hown.ext hn3.ext) rfl (Qw0.new1 (x := e) hn3) (by simp; omega) ((hx2.trans hn3.ext).size) fun A' c' w4 hown4 hg4 hA4 => ?_
     have hx4 := Ql (hx2.trans hn3.ext) hg4 (Qw hown)
     generalize hT1 : T ++ [e] = T1 at hown4 hsn ⊢
     conv=>whnf
     refine ⟨_,wrap_succ (by omega),?_⟩;conv=>whnf
     exact ⟨(k + 1,A',c',T1),by simp only; omega,⟨by simp only; omega,hx4,hsn.symm,hown4⟩,⟨rfl,rfl,rfl,trivial⟩⟩
   · intro hq
     have hq : thB e = false := by unfold thB; simp at hq ⊢; omega
     rw [hq] at hsn
     simp only [Bool.false_eq_true,if_false,List.append_nil] at hsn
     conv=>whnf
     refine ⟨_,wrap_succ (by omega),?_⟩;conv=>whnf
     exact ⟨(k + 1,B,d,T),by simp only; omega,⟨by simp only; omega,hx2,hsn.symm,hown⟩,⟨rfl,rfl,rfl,trivial⟩⟩
 · intro hc
   have hc : l.length ≤ k := by simpa using hc
   rw [List.take_of_length_le hc] at hT
   rw [← hT]
   conv=>whnf
   exact ⟨B,d,rfl,hown.sl Xw,hx2⟩
theorem Q59 (row:List St) (t:Int) : (stN row t = 0 ∨ ∃ s,row[stN row t - 1]? = some s ∧ s.at_ ≤ t) ∧ (stN row t = row.length ∨ ∃ s,row[stN row t]? = some s ∧ t < s.at_) ∧ stN row t ≤ row.length := by
 unfold stN
 induction row with
 | nil => simp
 | cons a row ih =>
   rw [List.takeWhile_cons]
   by_cases h : a.at_ ≤ t
   · rw [if_pos (by simpa using h)]
     obtain ⟨i1,i2,i3⟩ := ih
     simp only [List.length_cons]
     generalize (row.takeWhile fun s => decide (s.at_ ≤ t)).length = n at *
     refine ⟨.inr ?_,?_,by omega⟩
     · rcases i1 with rfl | ⟨s,hs,hle⟩
       · exact ⟨a,by simp,h⟩
       · cases n with
         | zero => exact ⟨a,by simp,h⟩
         | succ n => exact ⟨s,by simpa using hs,hle⟩
     · rcases i2 with h2 | ⟨s,hs,hlt⟩
       · exact .inl (by omega)
       · exact .inr ⟨s,by simpa using hs,hlt⟩
   · rw [if_neg (by simpa using h)]
     exact ⟨.inl rfl,.inr ⟨a,rfl,by omega⟩,by simp⟩
def thQ (name:ByteArray) (t:Int) (e:Ev) : Bool := decide (e.item = name) && decide (e.at_ ≤ t)
def Qc2 (name:ByteArray) (es:List Ev) : St := es.foldl Qae (Qgi name)
theorem Qca (name:ByteArray) (es:List Ev) (e:Ev) : Qc2 name (es ++ [e]) = Qae (Qc2 name es) e := by simp [Qc2]
theorem Qt5 (s:St) (e:Ev) : (Qae s e).item.name = s.item.name := by unfold Qae; split <;> (try split) <;> rfl
theorem Qx5 (name:ByteArray) (es:List Ev) : (Qc2 name es).item.name = name := by
 induction es using Qy with
 | h0 => rfl
 | h1 l a ih => rw [Qca,Qt5,ih]
def Qmd (name:ByteArray) (es:List Ev) : It := if es.isEmpty then Qbl else (Qc2 name es).item
theorem Q1x (name:ByteArray) (es:List Ev) : { Qmd name es with name := name } = (Qc2 name es).item := by
 unfold Qmd
 have h := Qx5 name es
 cases es with
 | nil => rfl
 | cons a es =>
   simp only [List.isEmpty_cons,Bool.false_eq_true,if_false]
   generalize (Qc2 name (a :: es)).item = i at h ⊢
   subst h
   rfl
theorem Qh1 {row:List St} {t:Int} (h:∀ s ∈ row,s.at_ ≤ t) : stN row t = row.length := by
 unfold stN
 have : row.takeWhile (fun s => decide (s.at_ ≤ t)) = row := by
  have := List.takeWhile_append_of_pos (l₂ := []) (p := fun s : St => decide (s.at_ ≤ t)) (l₁ := row) (fun s hs => by simpa using h s hs)
  simpa using this
 rw [this]
theorem Q0y : ∀ (cs:List Ev),Rise cs → ∀ (name:ByteArray) (t:Int),
 (stN (Xf cs name) t = 0 ↔ cs.filter (thQ name t) = []) ∧ (stN (Xf cs name) t ≠ 0 → (Xf cs name)[stN (Xf cs name) t - 1]? = some (Qc2 name (cs.filter (thQ name t)))) := by
 refine Qy ?_ ?_
 · intro _ name t
   simp [Xf,stN]
 · intro cs e ih h name t
   have h1 : Rise cs := (List.pairwise_append.1 h).1
   have h2 := (List.pairwise_append.1 h).2.2
   obtain ⟨i1,i2⟩ := ih h1 name t
   obtain ⟨r1,r2⟩ := Qi8 cs h1 name
   rw [Qdu,List.filter_append]
   unfold Qim Qo6
   by_cases hn : name = e.item
   · rw [if_pos hn]
     subst hn
     generalize hrow : Xf cs e.item = row at *
     have hle : ∀ s ∈ row,s.at_ ≤ e.at_ := fun s hs => by
      obtain ⟨e',he',h3,_⟩ := r2 s hs
      have := Qy9 (h2 e' he' e (by simp)); omega
     by_cases ht : e.at_ ≤ t
     · have hq : thQ e.item t e = true := by simp [thQ,ht]
       have hall : ∀ s ∈ row ++ [Qgp row e],s.at_ ≤ t := fun s hs => by
        rcases List.mem_append.1 hs with hs | hs
        · have := hle s hs; omega
        · simp at hs; subst hs; unfold Qgp; rw [Qh2]; exact ht
       have hN : stN row t = row.length := Qh1 fun s hs => hall s (by simp [hs])
       rw [Qh1 hall]
       refine ⟨by simp [List.filter_cons,hq],fun _ => ?_⟩
       simp only [List.filter_cons,hq,if_true,List.filter_nil,Qca]
       rw [List.length_append,List.length_singleton,Nat.add_sub_cancel,List.getElem?_append_right (Nat.le_refl _),Nat.sub_self]
       unfold Qgp
       rw [hN] at i1 i2
       congr 2
       by_cases h0 : row.length = 0
       · have h3 := i1.1 h0
         rw [h3,List.length_eq_zero_iff.1 h0]
         rfl
       · rw [List.getLast?_eq_getElem?,i2 h0]; rfl
     · have hq : thQ e.item t e = false := by simp [thQ,ht]
       have hN : stN (row ++ [Qgp row e]) t = stN row t := by
        unfold stN
        rw [List.takeWhile_append]
        split
        · rw [List.takeWhile_cons_of_neg (by unfold Qgp; rw [Qh2]; simpa using ht)]
          simp; omega
        · rfl
       rw [hN]
       simp only [List.filter_cons,hq,Bool.false_eq_true,if_false,List.filter_nil,List.append_nil]
       refine ⟨i1,fun h0 => ?_⟩
       have := (Q59 row t).2.2
       rw [List.getElem?_append_left (by omega)]
       exact i2 h0
   · rw [if_neg hn]
     have hq : thQ name t e = false := by simp [thQ,Ne.symm hn]
     simp only [List.filter_cons,hq,Bool.false_eq_true,if_false,List.filter_nil,List.append_nil]
     exact ⟨i1,i2⟩
theorem Qls {cs:List Ev} (h:Rise cs) (name:ByteArray) (t:Int) : Qco cs name t = (Qmd name (cs.filter (thQ name t)),!(cs.filter (thQ name t)).isEmpty) := by
 obtain ⟨h1,h2⟩ := Q0y cs h name t
 unfold Qco Qmd
 by_cases h0 : stN (Xf cs name) t = 0
 · have h3 := h1.1 h0
   rw [h3,h0]
   cases (Xf cs name)[0 - 1]? <;> rfl
 · have h3 : cs.filter (thQ name t) ≠ [] := fun h => h0 (h1.2 h)
   rw [h2 h0]
   simp only [if_neg h0]
   generalize cs.filter (thQ name t) = F at h3
   cases F with
   | nil => exact absurd rfl h3
   | cons a es => rfl
theorem Qj3 (cs:List Ev) (name:ByteArray) (t:Int) (A:Option Addr) (c:Nat) (w:World) (hs:SlE w A cs) (hl:cs.length < 1000000) (hk:∀ e ∈ cs,thB e = true) (hm:∀ e ∈ cs,Xp e = true) :
 Cal Tryz.prog 50 [.slice A cs.length c,.string name,.int .i64 t] w fun r w' => r = .tuple #[.agg (itC (Qmd name (cs.filter (thQ name t)))).toArray,.bool (!(cs.filter (thQ name t)).isEmpty)] ∧ Ext w w' := by
 refine Fi Tryz.func50 rfl _ rfl rfl ?_;conv=>whnf
 intro b1 w1 hn1;conv=>whnf
 intro b2 w2 hn2;conv=>whnf
 have e1 := hn1.block
 have e2 := hn2.block
 have s1 := hn1.size
 have s2 := hn2.size
 refine Qd Qa (e := ty98) rfl hn2.At rfl rfl rfl (by simp [Qi,Value.oneCell']) fun w3 h3 ho3 => ?_
 have h3 : At w3 b2 _ (itC Qbl) := h3
 have s3 := ho3.size
 have hx3 : Ext w w3 := ho3.ext (hn1.ext.trans hn2.ext) (by omega)
 have h31 : At w3 b1 _ (itC Qbl) := ho3.at_ (hn1.At.ext hn2.ext) (by omega)
 clear hn1 hn2 ho3
 conv=>whnf
 refine Qg Qa (fun (k:Nat × List Ev) w' => k.1 ≤ cs.length ∧ Ext w w' ∧ w3.heap.size ≤ w'.heap.size ∧ k.2 = (cs.take k.1).filter (thQ name t) ∧ At w' b1 98 (itC Qbl) ∧ At w' b2 98 (itC (Qmd name k.2)))
  (fun | (k,F) => [(0,.slice A cs.length c),(1,.string name),(2,.int .i64 t),(6,.pointer (some ⟨b1,0,none⟩)),(8,.pointer (some ⟨b2,0,none⟩)),(9,.bool (!F.isEmpty)),(10,.bool (Qc2 name F).born),(11,.int .i64 k)]) (fun k => cs.length - k.1) (0,[]) ⟨by simp,hx3,Nat.le_refl _,rfl,h31,h3⟩ ⟨rfl,rfl,rfl,rfl,rfl,rfl,rfl,rfl,trivial⟩ ?_
 clear h31 h3 hx3
 rintro ⟨k,F⟩ w4 ⟨hkl,hx4,hz4,hF,h41,h42⟩
 simp only at hkl hF h42
 conv=>whnf
 constructor
 · intro hc
   have hc : k < cs.length := by simpa using hc
   obtain ⟨a2,rfl,hce⟩ := (hs.ext hx4).get hc
   have htk := Xr cs k hc
   have hke := hk cs[k] (List.getElem_mem hc)
   have hme := hm cs[k] (List.getElem_mem hc)
   generalize cs[k] = e at hce htk hke hme
   have htx := Qc5 hme
   have hsn : (cs.take (k + 1)).filter (thQ name t) = F ++ if thQ name t e then [e] else [] := by
    rw [htk,hF]; rw [List.filter_append]
    cases h : thQ name t e <;> simp [List.filter_cons,h]
   conv=>whnf
   repeat(refine Sg ?_;(conv=>whnf))
   refine ⟨a2,⟨rfl,by omega,by omega⟩,?_⟩;conv=>whnf
   refine ⟨evC e,⟨rfl,hce⟩,?_⟩;conv=>whnf
   intro b5 w5 hn5;conv=>whnf
   have e5 := hn5.block
   have s5 := hn5.size
   refine Qd Qa (e := ty53) rfl hn5.At rfl rfl rfl (by simp [Qi,evC,Value.oneCell']) fun w6 h6 ho6 => ?_
   have h6 : At w6 b5 _ (evC e) := h6
   have s6 := ho6.size
   have hx46 : Ext w4 w6 := ho6.ext hn5.ext (by omega)
   have hx6 := hx4.trans hx46
   have h61 := h41.ext hx46
   have h62 := h42.ext hx46
   have b2l := h42.lt
   have b1l := h41.lt
   clear hn5 ho6 hce h41 h42 hx46 hx4
   conv=>whnf
   refine ⟨_,h6.one rfl,?_⟩;conv=>whnf
   refine ⟨_,fun _ => h6.one rfl,?_⟩;conv=>whnf
   constructor
   · intro hq
     have hq : thQ name t e = false := by
      revert hq; unfold thQ
      by_cases k1 : e.item = name <;> by_cases k2 : e.at_ ≤ t <;> simp [k1,k2] <;> omega
     rw [hq] at hsn
     simp only [Bool.false_eq_true,if_false,List.append_nil] at hsn
     conv=>whnf
     refine ⟨_,wrap_succ (by omega),?_⟩;conv=>whnf
     exact ⟨(k + 1,F),by simp only; omega,⟨by simp only; omega,hx6,by omega,hsn.symm,h61,h62⟩,⟨rfl,rfl,rfl,rfl,rfl,rfl,rfl,rfl,trivial⟩⟩
   · intro hq
     have hq : thQ name t e = true := by
      revert hq; unfold thQ
      by_cases k1 : e.item = name <;> by_cases k2 : e.at_ ≤ t <;> simp [k1,k2] <;> omega
     rw [hq,if_pos rfl] at hsn
     have hF1 : (!(F ++ [e]).isEmpty) = true := by cases F <;> rfl
     have hit : Qmd name (F ++ [e]) = (Qae (Qc2 name F) e).item := by
      unfold Qmd
      rw [Qca,if_neg (by simp)]
     have hst := Qca name F e
     have hnm := Q1x name F
     generalize hT1 : F ++ [e] = F1 at hsn hF1 hit hst
     generalize Qmd name F = i0 at h62 hnm
     generalize hs0 : Qc2 name F = s0 at hnm hit hst ⊢
     generalize hs1 : Qc2 name F1 = s1 at hst
     subst hst
     have hfin : ∀ w',Ext w w' → w4.heap.size ≤ w'.heap.size → At w' b1 98 (itC Qbl) → At w' b2 98 (itC (Qae s0 e).item) → k + 1 ≤ cs.length ∧ Ext w w' ∧ w3.heap.size ≤ w'.heap.size ∧ F1 = (cs.take (k + 1)).filter (thQ name t) ∧ At w' b1 98 (itC Qbl) ∧ At w' b2 98 (itC (Qmd name F1)) :=
      fun w' q1 q2 q3 q4 => ⟨by omega,q1,by omega,hsn.symm,q3,by rw [hit]; exact q4⟩
     conv=>whnf
     refine Qd Qa (e := ty9) rfl h62 rfl rfl rfl (by simp [Qi,Value.oneCell']) fun w7 h7 ho7 => ?_
     have h7 : At w7 b2 _ (itC { i0 with name := name }) := h7
     rw [hnm] at h7
     have s7 := ho7.size
     have hx7 := ho7.ext hx6 (by omega)
     have h71 := ho7.at_ h61 (by omega)
     have h75 := ho7.at_ h6 (by omega)
     clear h62 h61 h6 ho7 hx6 hnm
     conv=>whnf
     refine ⟨_,h75.one rfl,?_⟩;conv=>whnf
     refine ⟨fun k1 => ?_,fun k1 => ?_⟩
     · have k1 : e.kind = 11 := by simpa using k1
       conv=>whnf
       refine Dr (.mods (fun k => k = b2)) [0,1,3,4,6,7,8,2,5,9,10,11,12,13,14] [15] ?_;conv=>whnf
       replace h75 : At w7.drew b5 _ _ := h75
       replace h71 : At w7.drew b1 _ _ := h71
       replace h7 : At w7.drew b2 _ _ := h7
       replace hx7 := hx7.drew
       replace s7 : w7.drew.heap.size = w6.heap.size := s7
       generalize w7.drew = w8 at h75 h71 h7 hx7 s7 ⊢
       have hne : b5 ≠ b2 := by omega
       refine ⟨_,⟨h75.one rfl,by rw [add_block]; exact hne⟩,?_⟩;conv=>whnf
       refine ⟨_,⟨h75.one rfl,by rw [add_block]; exact hne⟩,?_⟩;conv=>whnf
       refine ⟨_,⟨h75.one rfl,by rw [add_block]; exact hne⟩,?_⟩;conv=>whnf
       refine (Qkn e.text w8 (by omega)).mono ?_
       rintro _ _ ⟨rfl,rfl⟩
       refine ⟨Mod.refl _ _,?_⟩;conv=>whnf
       refine (Qsb e.text _ (by omega)).mono ?_
       rintro _ _ ⟨rfl,rfl⟩
       refine ⟨Mod.refl _ _,?_⟩;conv=>whnf
       refine Qd Qa (e := ty4) rfl h7 rfl rfl rfl (by simp [Qi,Value.oneCell']) fun w9 h9 ho9 => ?_
       refine ⟨Qj ho9 rfl,?_⟩;conv=>whnf
       refine Qd Qa (e := ty9) rfl h9 rfl rfl rfl (by simp [Qi,Value.oneCell']) fun w10 h10 ho10 => ?_
       refine ⟨Qj ho10 rfl,?_⟩;conv=>whnf
       refine Qd Qa (e := ty9) rfl h10 rfl rfl rfl (by simp [Qi,Value.oneCell']) fun w11 h11 ho11 => ?_
       refine ⟨Qj ho11 rfl,?_⟩;conv=>whnf
       refine Qd Qa (e := ty3) rfl h11 rfl rfl rfl (by simp [Qi,Value.oneCell']) fun w12 h12 ho12 => ?_
       have h12 : At w12 b2 _ (itC { s0.item with listed := true,maker := Qal e.text,tags := X3 e.text,price := e.val }) := h12
       have t9 := ho9.size
       have t10 := ho10.size
       have t11 := ho11.size
       have t12 := ho12.size
       have hx12 := ho12.ext (ho11.ext (ho10.ext (ho9.ext hx7 (by omega)) (by omega)) (by omega)) (by omega)
       have h121 := ho12.at_ (ho11.at_ (ho10.at_ (ho9.at_ h71 (by omega)) (by omega)) (by omega)) (by omega)
       have h125 := ho12.at_ (ho11.at_ (ho10.at_ (ho9.at_ h75 (by omega)) (by omega)) (by omega)) (by omega)
       clear h7 h71 h75 h9 h10 h11 ho9 ho10 ho11 ho12 hx7
       conv=>whnf
       constructor
       · intro hb
         have hb : s0.born = false := by rw [← hs0]; simpa using hb
         conv=>whnf
         refine ⟨_,h125.one rfl,?_⟩;conv=>whnf
         refine Qd Qa (e := ty3) rfl h12 rfl rfl rfl (by simp [Qi,Value.oneCell']) fun w13 h13 ho13 => ?_
         have s13 := ho13.size
         conv=>whnf
         refine ⟨_,wrap_succ (by omega),?_⟩;conv=>whnf
         refine ⟨(k + 1,F1),by simp only; omega,hfin _ (ho13.ext hx12 (by omega)) (by omega) (ho13.at_ h121 (by omega)) ?_,⟨rfl,rfl,rfl,rfl,rfl,by rw [hF1]; rfl,?_,rfl,trivial⟩⟩
         · unfold Qae
           rw [if_pos k1,hb]
           exact h13
         · show some (Value.bool true) = some (Value.bool (Qc2 name F1).born)
           rw [hs1]; unfold Qae; rw [if_pos k1]
       · intro hb
         have hb : s0.born = true := by rw [← hs0]; simpa using hb
         conv=>whnf
         refine ⟨_,wrap_succ (by omega),?_⟩;conv=>whnf
         refine ⟨(k + 1,F1),by simp only; omega,hfin _ hx12 (by omega) h121 ?_,⟨rfl,rfl,rfl,rfl,rfl,by rw [hF1]; rfl,?_,rfl,trivial⟩⟩
         · unfold Qae
           rw [if_pos k1,hb]
           exact h12
         · show some (Value.bool (Qc2 name F).born) = some (Value.bool (Qc2 name F1).born)
           rw [hs1,hs0]; unfold Qae; rw [if_pos k1,hb]
     · have k1 : ¬ e.kind = 11 := by simpa using k1
       conv=>whnf
       constructor
       · intro k2
         have k2 : e.kind = 13 := by simpa using k2
         conv=>whnf
         refine Qd Qa (e := ty4) rfl h7 rfl rfl rfl (by simp [Qi,Value.oneCell']) fun w13 h13 ho13 => ?_
         have s13 := ho13.size
         conv=>whnf
         refine ⟨_,wrap_succ (by omega),?_⟩;conv=>whnf
         refine ⟨(k + 1,F1),by simp only; omega,hfin _ (ho13.ext hx7 (by omega)) (by omega) (ho13.at_ h71 (by omega)) ?_,⟨rfl,rfl,rfl,rfl,rfl,by rw [hF1]; rfl,?_,rfl,trivial⟩⟩
         · unfold Qae
           rw [if_neg k1,if_neg (by omega)]
           exact h13
         · show some (Value.bool (Qc2 name F).born) = some (Value.bool (Qc2 name F1).born)
           rw [hs1,hs0]; unfold Qae; rw [if_neg k1,if_neg (by omega)]
       · intro k2
         have k2 : ¬ e.kind = 13 := by simpa using k2
         have k3 : e.kind = 12 := by unfold thB at hke; simp at hke; omega
         conv=>whnf
         refine ⟨fun _ => ?_,fun h => (by simp at h; omega)⟩
         conv=>whnf
         refine ⟨_,h75.one rfl,?_⟩;conv=>whnf
         refine Qd Qa (e := ty3) rfl h7 rfl rfl rfl (by simp [Qi,Value.oneCell']) fun w13 h13 ho13 => ?_
         have s13 := ho13.size
         conv=>whnf
         refine ⟨_,wrap_succ (by omega),?_⟩;conv=>whnf
         refine ⟨(k + 1,F1),by simp only; omega,hfin _ (ho13.ext hx7 (by omega)) (by omega) (ho13.at_ h71 (by omega)) ?_,⟨rfl,rfl,rfl,rfl,rfl,by rw [hF1]; rfl,?_,rfl,trivial⟩⟩
         · unfold Qae
           rw [if_neg k1,if_pos k3]
           exact h13
         · show some (Value.bool (Qc2 name F).born) = some (Value.bool (Qc2 name F1).born)
           rw [hs1,hs0]; unfold Qae; rw [if_neg k1,if_pos k3]
 · intro hc
   have hc : cs.length ≤ k := by simpa using hc
   rw [List.take_of_length_le hc] at hF
   rw [← hF]
   have b1l := h41.lt
   conv=>whnf
   refine ⟨_,⟨rfl,h42.all⟩,?_⟩;conv=>whnf
   refine Qd Qa (e := ty98) rfl h41 rfl rfl rfl (by simp [Qi,itC,Value.oneCell']) fun w6 h6 ho6 => ?_
   have h6 : At w6 b1 _ (itC (Qmd name F)) := h6
   conv=>whnf
   refine ⟨_,⟨rfl,h6.all⟩,?_⟩;conv=>whnf
   exact ⟨rfl,ho6.ext hx4 (by omega)⟩
structure Sto {α:Type} (lt:α → α → Bool) : Prop where
 irrefl : ∀ a,lt a a = false
 trans : ∀ {a b c},lt a b = true → lt b c = true → lt a c = true
 tri : ∀ {a b},lt a b = false → lt b a = false → a = b
theorem Qo7 : Sto bLt := ⟨Qag,Qb4,Qce⟩
def SG {α:Type} (lt:α → α → Bool) (l:List α) : Prop := l.Pairwise fun x y => lt x y = true
theorem SG.nodup {α:Type} {lt:α → α → Bool} (O:Sto lt) {l:List α} (h:SG lt l) : l.Nodup := h.imp fun h e => by rw [e,O.irrefl] at h; cases h
theorem Qqn {α:Type} {lt:α → α → Bool} (O:Sto lt) {a b:α} (h:lt a b = true) : lt b a = false := by
 cases hb : lt b a with
 | false => rfl
 | true => have := O.trans h hb; rw [O.irrefl] at this; cases this
theorem Qrk {α:Type} {lt:α → α → Bool} (O:Sto lt) {l m:List α} (h1:SG lt l) (h2:SG lt m) (hm:∀ x,x ∈ l ↔ x ∈ m) : l = m :=
 List.Perm.eq_of_pairwise (le := fun a b => lt b a = false) (fun a b _ _ h1 h2 => O.tri h2 h1) (h1.imp fun h => Qqn O h) (h2.imp fun h => Qqn O h) (Qft (h1.nodup O) (h2.nodup O) (fun x hx => (hm x).1 hx) fun x hx => (hm x).2 hx)
section
variable {α:Type} [DecidableEq α] {lt:α → α → Bool}
def Qep (lt:α → α → Bool) (l:List α) (a:α) : List α :=
 if (l.dropWhile fun x => lt x a).head? = some a then l else l.takeWhile (fun x => lt x a) ++ a :: l.dropWhile (fun x => lt x a)
theorem Qoc (a:α) : Qep lt [] a = [a] := by simp [Qep]
theorem Qlh (x:α) (l:List α) (a:α) : Qep lt (x :: l) a = if lt x a = true then x :: Qep lt l a else if x = a then x :: l else a :: x :: l := by
 unfold Qep
 rw [List.takeWhile_cons,List.dropWhile_cons]
 cases h : lt x a with
 | true =>
   simp only [if_true]
   split <;> simp
 | false =>
   simp only [Bool.false_eq_true,if_false,List.head?_cons,Option.some.injEq,List.nil_append]
theorem Qkc {x a:α} : ∀ {l:List α},x ∈ Qep lt l a ↔ x ∈ l ∨ x = a
 | [] => by rw [Qoc]; simp
 | y :: l => by
   have ih := Qkc (x := x) (a := a) (l := l)
   rw [Qlh]
   split
   · rw [List.mem_cons,ih,List.mem_cons]; exact or_assoc.symm
   · split
     · next h =>
       subst h
       constructor
       · exact .inl
       · rintro (h | rfl)
         · exact h
         · simp
     · rw [List.mem_cons]; exact or_comm
theorem Qte (O:Sto lt) {a:α} : ∀ {l:List α},SG lt l → SG lt (Qep lt l a)
 | [],_ => by rw [Qoc]; exact List.pairwise_singleton _ _
 | y :: l,h => by
   have h' := List.pairwise_cons.1 h
   have ih := Qte O (a := a) h'.2
   rw [Qlh]
   split
   · next hy =>
     refine List.pairwise_cons.2 ⟨fun x hx => ?_,ih⟩
     rcases Qkc.1 hx with hx | rfl
     · exact h'.1 x hx
     · exact hy
   · next hy =>
     split
     · exact h
     · next hne =>
       have hay : lt a y = true := by
        cases hq : lt a y with
        | true => rfl
        | false => exact absurd (O.tri (by simpa using hy) hq) hne
       refine List.pairwise_cons.2 ⟨fun x hx => ?_,h⟩
       rcases List.mem_cons.1 hx with rfl | hx
       · exact hay
       · exact O.trans hay (h'.1 x hx)
def Qbq (lt:α → α → Bool) (l:List α) : List α := l.foldl (Qep lt) []
theorem Qer (l:List α) (a:α) : Qbq lt (l ++ [a]) = Qep lt (Qbq lt l) a := by unfold Qbq; rw [List.foldl_append]; rfl
theorem Qiw {x:α} : ∀ l : List α,x ∈ Qbq lt l ↔ x ∈ l := by
 refine Qy (by simp [Qbq]) fun l a ih => ?_
 rw [Qer,Qkc,ih,List.mem_append,List.mem_singleton]
theorem Qzq (O:Sto lt) : ∀ l : List α,SG lt (Qbq lt l) := by
 refine Qy List.Pairwise.nil fun l a ih => ?_
 rw [Qer]
 exact Qte O ih
theorem Qjy (a:α) : ∀ l : List α,(Qep lt l a).length ≤ l.length + 1
 | [] => by rw [Qoc]; simp
 | y :: l => by
   have ih := Qjy a l
   rw [Qlh]
   split
   · simp; omega
   · split <;> simp
theorem Qgc : ∀ l : List α,(Qbq lt l).length ≤ l.length := by
 refine Qy (by simp [Qbq]) fun l a ih => ?_
 rw [Qer]
 have := Qjy (lt := lt) a (Qbq lt l)
 simp; omega
end
theorem Qje {l:List ByteArray} (h:l.Nodup) : SG bLt (Qab l) := by
 have h1 := Qhf l
 have h2 : (Qab l).Pairwise (· ≠ ·) := List.nodup_iff_pairwise_ne.1 ((Qcb l).nodup_iff.2 h)
 refine (List.Pairwise.and h1 h2).imp ?_
 rintro a b ⟨h3,h4⟩
 cases hc : bLt a b with
 | true => rfl
 | false => exact absurd (Qce hc h3) h4
theorem Qp3 {l:List Int} (h:l.Nodup) : (Qdr l).Pairwise (· < ·) := by
 have h1 := Qli l
 have h2 : (Qdr l).Pairwise (· ≠ ·) := List.nodup_iff_pairwise_ne.1 ((Qdb l).nodup_iff.2 h)
 refine (List.Pairwise.and h1 h2).imp ?_
 rintro a b ⟨h3,h4⟩
 omega
theorem Qgt (l:List ByteArray) : SG bLt (Qe0 l) := Qje (Qd6 l)
theorem Qvt (l:List ByteArray) (s:ByteArray) : Qep bLt (Qe0 l) s = Qe0 (l ++ [s]) :=
 Qrk Qo7 (Qte Qo7 (Qgt l)) (Qgt _) fun x => by rw [Qkc,Qc1,Qc1,List.mem_append,List.mem_singleton]
theorem Qzb (l:List ByteArray) : Qe0 (Qe0 l) = Qe0 l := Qm4 fun x => Qc1
abbrev Ad3 := ByteArray × Int × ByteArray
def adE (e:Ev) : Ad3 := (e.person,e.at_,e.item)
def ahB (a b:Ad3) : Bool := if a.1 = b.1 then (if a.2.1 = b.2.1 then bLt a.2.2 b.2.2 else decide (a.2.1 < b.2.1)) else bLt a.1 b.1
theorem Qlv {a b:Ad3} : ahB a b = true ↔ bLt a.1 b.1 = true ∨ (a.1 = b.1 ∧ (a.2.1 < b.2.1 ∨ (a.2.1 = b.2.1 ∧ bLt a.2.2 b.2.2 = true))) := by
 unfold ahB
 by_cases h1 : a.1 = b.1
 · have hi : bLt a.1 b.1 = false := by rw [h1]; exact Qag _
   rw [if_pos h1]
   by_cases h2 : a.2.1 = b.2.1
   · rw [if_pos h2]
     constructor
     · intro h; exact .inr ⟨h1,.inr ⟨h2,h⟩⟩
     · rintro (h | ⟨_,h | ⟨_,h⟩⟩)
       · rw [hi] at h; cases h
       · omega
       · exact h
   · rw [if_neg h2,decide_eq_true_eq]
     constructor
     · intro h; exact .inr ⟨h1,.inl h⟩
     · rintro (h | ⟨_,h | ⟨h,_⟩⟩)
       · rw [hi] at h; cases h
       · exact h
       · exact absurd h h2
 · rw [if_neg h1]
   constructor
   · exact .inl
   · rintro (h | ⟨h,_⟩)
     · exact h
     · exact absurd h h1
theorem Q4s : Sto ahB where
 irrefl a := by unfold ahB; rw [if_pos rfl,if_pos rfl]; exact Qag _
 trans := by
  intro a b c h k
  rw [Qlv] at *
  rcases h with h | ⟨h,h'⟩ <;> rcases k with k | ⟨k,k'⟩
  · exact .inl (Qb4 h k)
  · exact .inl (k ▸ h)
  · exact .inl (h ▸ k)
  · refine .inr ⟨h.trans k,?_⟩
    rcases h' with h' | ⟨h',h2⟩ <;> rcases k' with k' | ⟨k',k2⟩
    · exact .inl (by omega)
    · exact .inl (by omega)
    · exact .inl (by omega)
    · exact .inr ⟨by omega,Qb4 h2 k2⟩
 tri := by
  intro a b h k
  obtain ⟨a1,a2,a3⟩ := a
  obtain ⟨b1,b2,b3⟩ := b
  rw [← Bool.not_eq_true,Qlv] at h k
  simp only at h k
  have e1 : a1 = b1 := Qce (by rw [← Bool.not_eq_true]; exact fun x => h (.inl x)) (by rw [← Bool.not_eq_true]; exact fun x => k (.inl x))
  subst e1
  have e2 : a2 = b2 := by
   rcases Int.lt_trichotomy a2 b2 with x | x | x
   · exact absurd (.inr ⟨rfl,.inl x⟩) h
   · exact x
   · exact absurd (.inr ⟨rfl,.inl x⟩) k
  subst e2
  have e3 : a3 = b3 := Qce (by rw [← Bool.not_eq_true]; exact fun x => h (.inr ⟨rfl,.inr ⟨rfl,x⟩⟩)) (by rw [← Bool.not_eq_true]; exact fun x => k (.inr ⟨rfl,.inr ⟨rfl,x⟩⟩))
  rw [e3]
def tks (ss:Ses) (p:ByteArray) : Qds := (Qe ss p).getD []
theorem Qki (s:Ses) (P I:ByteArray) (T:Int) (p:ByteArray) : tks (Q2e s P T I) p = if p = P then Xc (tks s P) T (Xc ((Qe (tks s P) T).getD []) I true) else tks s p := by
 unfold tks Q2e
 rw [Xn]
 split <;> rfl
theorem Qfw {κ β:Type} [DecidableEq κ] {k x:κ} {v:β} {l:List (κ × β)} : x ∈ (Xc l k v).map (·.1) ↔ x ∈ l.map (·.1) ∨ x = k := by
 rw [Qeo]
 split
 · next h =>
   constructor
   · exact .inl
   · rintro (h1 | rfl)
     · exact h1
     · exact h
 · rw [List.mem_append,List.mem_singleton]
theorem Qul (m:Qds) (T t:Int) (x:List (ByteArray × Bool)) : Xi (Xc m T x) t = if t = T then x.map (·.1) else Xi m t := by
 unfold Xi
 rw [Xn]
 split <;> rfl
structure Q5k (ss:Ses) (l:List Ev) : Prop where
 keys : ss.Pairwise (fun x y => x.1 ≠ y.1)
 ticks : ∀ p,(tks ss p).Pairwise (fun x y => x.1 ≠ y.1)
 item : ∀ p t i,i ∈ Xi (tks ss p) t ↔ ∃ e ∈ l,e.person = p ∧ e.at_ = t ∧ e.item = i
 tick : ∀ p t,t ∈ (tks ss p).map (·.1) ↔ ∃ e ∈ l,e.person = p ∧ e.at_ = t
 person : ∀ p,p ∈ ss.map (·.1) ↔ ∃ e ∈ l,e.person = p
theorem Q48 : ∀ l : List Ev,Q5k (Qf9 l) l := by
 refine Qy ⟨List.Pairwise.nil,fun p => List.Pairwise.nil,fun p t i => by simp [Qf9,tks,Qe,Xi],fun p t => by simp [Qf9,tks,Qe],fun p => by simp [Qf9]⟩ fun l e ih => ?_
 rw [Qsk]
 refine ⟨Qbb ih.keys,fun p => ?_,fun p t i => ?_,fun p t => ?_,fun p => ?_⟩
 · rw [Qki]
   split
   · exact Qbb (ih.ticks _)
   · exact ih.ticks p
 · rw [Qki]
   have hx : (∃ x ∈ l ++ [e],x.person = p ∧ x.at_ = t ∧ x.item = i) ↔ (∃ x ∈ l,x.person = p ∧ x.at_ = t ∧ x.item = i) ∨ (e.person = p ∧ e.at_ = t ∧ e.item = i) := by
    constructor
    · rintro ⟨x,hx,h⟩
      rcases List.mem_append.1 hx with hx | hx
      · exact .inl ⟨x,hx,h⟩
      · rw [List.mem_singleton] at hx; subst hx; exact .inr h
    · rintro (⟨x,hx,h⟩ | h)
      · exact ⟨x,by simp [hx],h⟩
      · exact ⟨e,by simp,h⟩
   rw [hx,← ih.item]
   by_cases hp : p = e.person
   · subst hp
     rw [if_pos rfl,Qul]
     by_cases ht : t = e.at_
     · subst ht
       rw [if_pos rfl,Qfw]
       show (i ∈ Xi (tks (Qf9 l) e.person) e.at_ ∨ i = e.item) ↔ _
       constructor
       · rintro (h | h)
         · exact .inl h
         · exact .inr ⟨rfl,rfl,h.symm⟩
       · rintro (h | ⟨_,_,h⟩)
         · exact .inl h
         · exact .inr h.symm
     · rw [if_neg ht]
       constructor
       · exact .inl
       · rintro (h | ⟨_,h,_⟩)
         · exact h
         · exact absurd h.symm ht
   · rw [if_neg hp]
     constructor
     · exact .inl
     · rintro (h | ⟨h,_⟩)
       · exact h
       · exact absurd h.symm hp
 · rw [Qki]
   have hx : (∃ x ∈ l ++ [e],x.person = p ∧ x.at_ = t) ↔ (∃ x ∈ l,x.person = p ∧ x.at_ = t) ∨ (e.person = p ∧ e.at_ = t) := by
    constructor
    · rintro ⟨x,hx,h⟩
      rcases List.mem_append.1 hx with hx | hx
      · exact .inl ⟨x,hx,h⟩
      · rw [List.mem_singleton] at hx; subst hx; exact .inr h
    · rintro (⟨x,hx,h⟩ | h)
      · exact ⟨x,by simp [hx],h⟩
      · exact ⟨e,by simp,h⟩
   rw [hx,← ih.tick]
   by_cases hp : p = e.person
   · subst hp
     rw [if_pos rfl,Qfw]
     constructor
     · rintro (h | h)
       · exact .inl h
       · exact .inr ⟨rfl,h.symm⟩
     · rintro (h | ⟨_,h⟩)
       · exact .inl h
       · exact .inr h.symm
   · rw [if_neg hp]
     constructor
     · exact .inl
     · rintro (h | ⟨h,_⟩)
       · exact h
       · exact absurd h.symm hp
 · show p ∈ (Xc _ _ _).map (·.1) ↔ _
   rw [Qfw,ih.person]
   constructor
   · rintro (⟨x,hx,h⟩ | rfl)
     · exact ⟨x,by simp [hx],h⟩
     · exact ⟨e,by simp,rfl⟩
   · rintro ⟨x,hx,h⟩
     rcases List.mem_append.1 hx with hx | hx
     · exact .inl ⟨x,hx,h⟩
     · rw [List.mem_singleton] at hx; subst hx; exact .inr h.symm
def Qn0 (p:ByteArray) (k:Qds) (t:Int) : List Ad3 := (Qe0 (Xi k t)).map fun i => (p,t,i)
def Qt1 (ss:Ses) (p:ByteArray) : List Ad3 := (Qdr ((tks ss p).map (·.1))).flatMap (Qn0 p (tks ss p))
def Q3g (ss:Ses) : List Ad3 := (Qab (ss.map (·.1))).flatMap (Qt1 ss)
theorem Qk0 {β:Type} {L:List (Int × β)} (h:L.Pairwise (fun x y => x.1 ≠ y.1)) : (L.map (·.1)).Nodup := by
 rw [List.nodup_iff_pairwise_ne,List.pairwise_map]; exact h
theorem Q34 (p:ByteArray) (k:Qds) (t:Int) : SG ahB (Qn0 p k t) := by
 unfold SG Qn0
 rw [List.pairwise_map]
 refine List.Pairwise.imp ?_ (Qgt (Xi k t))
 intro a b h
 exact Qlv.2 (.inr ⟨rfl,.inr ⟨rfl,h⟩⟩)
theorem Qh9 {p:ByteArray} {k:Qds} {t:Int} {x:Ad3} : x ∈ Qn0 p k t ↔ x.1 = p ∧ x.2.1 = t ∧ x.2.2 ∈ Xi k t := by
 unfold Qn0
 rw [List.mem_map]
 constructor
 · rintro ⟨i,hi,rfl⟩; exact ⟨rfl,rfl,Qc1.1 hi⟩
 · rintro ⟨h1,h2,h3⟩; exact ⟨x.2.2,Qc1.2 h3,by rw [← h1,← h2]⟩
theorem Q2q {ss:Ses} {l:List Ev} (h:Q5k ss l) (p:ByteArray) : SG ahB (Qt1 ss p) := by
 unfold SG Qt1
 rw [List.pairwise_flatMap]
 refine ⟨fun t _ => Q34 _ _ _,(Qp3 (Qk0 (h.ticks p))).imp fun hlt x hx y hy => ?_⟩
 obtain ⟨x1,x2,_⟩ := Qh9.1 hx
 obtain ⟨y1,y2,_⟩ := Qh9.1 hy
 exact Qlv.2 (.inr ⟨x1.trans y1.symm,.inl (by omega)⟩)
theorem Qhu {ss:Ses} {l:List Ev} (h:Q5k ss l) {p:ByteArray} {x:Ad3} : x ∈ Qt1 ss p ↔ x.1 = p ∧ ∃ e ∈ l,adE e = x := by
 unfold Qt1
 rw [List.mem_flatMap]
 constructor
 · rintro ⟨t,_,hx⟩
   obtain ⟨h1,h2,h3⟩ := Qh9.1 hx
   obtain ⟨e,he,e1,e2,e3⟩ := (h.item _ _ _).1 h3
   exact ⟨h1,e,he,by unfold adE; rw [e1,e2,e3,← h1,← h2]⟩
 · rintro ⟨h1,e,he,rfl⟩
   refine ⟨e.at_,Qlk.2 ((h.tick _ _).2 ⟨e,he,h1,rfl⟩),Qh9.2 ⟨h1,rfl,(h.item _ _ _).2 ⟨e,he,h1,rfl,rfl⟩⟩⟩
theorem Q3h (l:List Ev) : Q3g (Qf9 l) = Qbq ahB (l.map adE) := by
 have h := Q48 l
 refine Qrk Q4s ?_ (Qzq Q4s _) fun x => ?_
 · unfold SG Q3g
   rw [List.pairwise_flatMap]
   refine ⟨fun p _ => Q2q h p,(Qje (Qda h.keys)).imp fun hlt x hx y hy => ?_⟩
   have h1 := ((Qhu h).1 hx).1
   have h2 := ((Qhu h).1 hy).1
   exact Qlv.2 (.inl (by rw [h1,h2]; exact hlt))
 · rw [Qiw]
   unfold Q3g
   rw [List.mem_flatMap,List.mem_map]
   constructor
   · rintro ⟨p,_,hx⟩
     exact ((Qhu h).1 hx).2
   · rintro ⟨e,he,rfl⟩
     exact ⟨e.person,Qk3.2 ((h.person _).2 ⟨e,he,rfl⟩),(Qhu h).2 ⟨rfl,e,he,rfl⟩⟩
def Qaf (gap:Int) (acc:List Sn) (a:Ad3) : List Sn :=
 match acc.getLast? with
 | some g => if g.person = a.1 ∧ a.2.1 - g.to_ ≤ gap then acc.dropLast ++ [⟨a.1,g.from_,a.2.1,Qep bLt g.items a.2.2⟩] else acc ++ [⟨a.1,a.2.1,a.2.1,[a.2.2]⟩]
 | none => acc ++ [⟨a.1,a.2.1,a.2.1,[a.2.2]⟩]
theorem Qfo (gap:Int) (acc:List Sn) (g:Sn) (a:Ad3) : Qaf gap (acc ++ [g]) a = if g.person = a.1 ∧ a.2.1 - g.to_ ≤ gap then acc ++ [⟨a.1,g.from_,a.2.1,Qep bLt g.items a.2.2⟩] else (acc ++ [g]) ++ [⟨a.1,a.2.1,a.2.1,[a.2.2]⟩] := by
 unfold Qaf
 rw [List.getLast?_append,List.getLast?_singleton,Option.some_or,List.dropLast_concat]
def allL (gap:Int) (L:List Ad3) : List Sn := L.foldl (Qaf gap) []
theorem Qok (gap:Int) (hg:0 ≤ gap) (p:ByteArray) (t:Int) : ∀ (its:List ByteArray) (acc:List Sn) (f:Int) (X:List ByteArray),(its.map fun i => ((p,t,i) : Ad3)).foldl (Qaf gap) (acc ++ [⟨p,f,t,Qe0 X⟩]) = acc ++ [⟨p,f,t,Qe0 (X ++ its)⟩]
 | [],acc,f,X => by simp
 | i :: its,acc,f,X => by
   have ih := Qok gap hg p t its acc f (X ++ [i])
   rw [List.map_cons,List.foldl_cons,Qfo,if_pos ⟨rfl,by simp only; omega⟩,Qvt,ih]
   simp
theorem Q23 (i:ByteArray) : Qe0 [i] = [i] := by simp [Qe0,Q06,Qab]
theorem Q3y (gap:Int) (hg:0 ≤ gap) (p:ByteArray) (k:Qds) (t:Int) (hne:Xi k t ≠ []) :
 (∀ (acc:List Sn),(∀ g,acc.getLast? = some g → g.person ≠ p ∨ gap < t - g.to_) → (Qn0 p k t).foldl (Qaf gap) acc = acc ++ [⟨p,t,t,Qe0 (Xi k t)⟩]) ∧
 (∀ (acc:List Sn) (f u:Int) (X:List ByteArray),t - u ≤ gap → (Qn0 p k t).foldl (Qaf gap) (acc ++ [⟨p,f,u,Qe0 X⟩]) = acc ++ [⟨p,f,t,Qe0 (X ++ Xi k t)⟩]) := by
 have hex : Qe0 (Xi k t) ≠ [] := by
  intro h
  cases hq : Xi k t with
  | nil => exact hne hq
  | cons y l =>
    have : y ∈ Qe0 (Xi k t) := Qc1.2 (by rw [hq]; simp)
    rw [h] at this
    simp at this
 unfold Qn0
 cases hs : Qe0 (Xi k t) with
 | nil => exact absurd hs hex
 | cons i its =>
   have hss : Qe0 (i :: its) = Qe0 (Xi k t) := by rw [← hs,Qzb]
   refine ⟨fun acc hacc => ?_,fun acc f u X hu => ?_⟩
   · have h1 : Qaf gap acc (p,t,i) = acc ++ [⟨p,t,t,Qe0 [i]⟩] := by
      unfold Qaf
      rw [Q23]
      cases hl : acc.getLast? with
      | none => rfl
      | some g =>
        simp only
        rw [if_neg]
        rintro ⟨h2,h3⟩
        rcases hacc g hl with h | h
        · exact h h2
        · have h3 : t - g.to_ ≤ gap := h3
          omega
     rw [List.map_cons,List.foldl_cons,h1,Qok gap hg]
     rw [show [i] ++ its = i :: its from rfl,hss,hs]
   · rw [List.map_cons,List.foldl_cons,Qfo,if_pos ⟨rfl,hu⟩,Qvt,Qok gap hg]
     have : Qe0 (X ++ [i] ++ its) = Qe0 (X ++ Xi k t) := Qm4 fun x => by
      have hx : x ∈ i :: its ↔ x ∈ Xi k t := by rw [← hs]; exact Qc1
      have h4 : x ∈ X ++ [i] ++ its ↔ x ∈ X ∨ x ∈ i :: its := by simp [or_assoc]
      rw [h4,hx,List.mem_append]
     rw [this]
theorem Qxg (gap:Int) (hg:0 ≤ gap) (p:ByteArray) (k:Qds) (acc:List Sn) (hacc:∀ g,acc.getLast? = some g → g.person ≠ p) : ∀ ts : List Int,(∀ t ∈ ts,Xi k t ≠ []) → (ts.flatMap (Qn0 p k)).foldl (Qaf gap) acc = acc ++ (Qe5 gap k ts).map (Q2f p) := by
 refine Qy (fun _ => by simp [Qe5]) fun ts t ih h => ?_
 have ih := ih fun x hx => h x (by simp [hx])
 obtain ⟨hA,hB⟩ := Q3y gap hg p k t (h t (by simp))
 rw [List.flatMap_append,List.foldl_append,ih,Qgb]
 simp only [List.flatMap_cons,List.flatMap_nil,List.append_nil]
 generalize Qe5 gap k ts = G
 clear ih
 unfold Qcc
 cases hG : G.getLast? with
 | none =>
   have : G = [] := by simpa using hG
   subst this
   simp only [List.map_nil,List.append_nil,List.map_cons]
   rw [hA acc fun g hl => .inl (hacc g hl)]
   rfl
 | some g =>
   obtain ⟨G',rfl⟩ : ∃ G',G = G' ++ [g] := by
    have := List.getLast?_eq_some_iff.1 hG
    obtain ⟨ys,h⟩ := this
    exact ⟨ys,h⟩
   simp only [List.dropLast_concat]
   by_cases hc : gap < t - g.2.1
   · rw [if_pos hc,hA _ fun g' hl => ?_]
     · simp [Q2f]
     · rw [List.map_append,← List.append_assoc,List.map_cons,List.map_nil,List.getLast?_append,List.getLast?_singleton,Option.some_or] at hl
       injection hl with hl
       subst hl
       exact .inr hc
   · rw [if_neg hc,List.map_append,← List.append_assoc,List.map_cons,List.map_nil]
     rw [show Q2f p g = ⟨p,g.1,g.2.1,Qe0 g.2.2⟩ from rfl,hB _ _ _ _ (by omega),List.map_append,List.append_assoc]
     rfl
theorem Q0e {gap:Int} {ss:Ses} {p:ByteArray} {x:Sn} (h:x ∈ Qem gap ss p) : x.person = p := by
 unfold Qem at h
 obtain ⟨g,_,rfl⟩ := List.mem_map.1 h
 rfl
theorem Qm9 (gap:Int) (hg:0 ≤ gap) (ss:Ses) (hne:∀ p t,t ∈ (tks ss p).map (·.1) → Xi (tks ss p) t ≠ []) : ∀ (ps:List ByteArray) (acc:List Sn),ps.Nodup → (∀ g,acc.getLast? = some g → g.person ∉ ps) → (ps.flatMap (Qt1 ss)).foldl (Qaf gap) acc = acc ++ ps.flatMap (Qem gap ss)
 | [],acc,_,_ => by simp
 | p :: ps,acc,hn,hl => by
   rw [List.nodup_cons] at hn
   rw [List.flatMap_cons,List.foldl_append,List.flatMap_cons]
   have h1 : (Qt1 ss p).foldl (Qaf gap) acc = acc ++ Qem gap ss p := Qxg gap hg p (tks ss p) acc (fun g hg he => hl g hg (by rw [he]; simp)) _ fun t ht => hne p t (Qlk.1 ht)
   rw [h1,Qm9 gap hg ss hne ps _ hn.2 ?_,List.append_assoc]
   intro g hgl
   rw [List.getLast?_append] at hgl
   cases hq : (Qem gap ss p).getLast? with
   | none =>
     rw [hq,Option.none_or] at hgl
     exact fun hm => hl g hgl (by simp [hm])
   | some x =>
     rw [hq,Option.some_or] at hgl
     injection hgl with hgl
     subst hgl
     rw [Q0e (List.mem_of_getLast? hq)]
     exact hn.1
theorem Qsz (gap:Int) (hg:0 ≤ gap) (l:List Ev) : allL gap (Qbq ahB (l.map adE)) = Qfy gap (Qf9 l) := by
 have h := Q48 l
 rw [← Q3h]
 unfold allL Q3g Qfy
 rw [Qm9 gap hg (Qf9 l) (fun p t ht hne => ?_) _ [] ((Qcb _).nodup_iff.2 (Qda h.keys)) (by simp),List.nil_append]
 obtain ⟨e,he,e1,e2⟩ := (h.tick p t).1 ht
 have := (h.item p t e.item).2 ⟨e,he,e1,e2,rfl⟩
 rw [hne] at this
 simp at this
def Qdt (i:Nat) : Int := ((1048576 / 2 ^ i : Nat) : Int)
theorem Qmx (i:Nat) : Qdt (i + 1) = (Qdt i).tdiv 2 := by
 unfold Qdt
 rw [Int.tdiv_eq_ediv_of_nonneg (Int.natCast_nonneg _),Nat.pow_succ,← Nat.div_div_eq_div_mul]
 generalize 1048576 / 2 ^ i = m
 omega
theorem Qea {i:Nat} (h:21 ≤ i) : Qdt i = 0 := by
 unfold Qdt
 have : 2 ^ 21 ≤ 2 ^ i := Nat.pow_le_pow_right (by omega) h
 rw [Nat.div_eq_of_lt (by omega)]
 rfl
theorem Q1l {i:Nat} (h:i ≤ 20) : 0 < Qdt i := by
 unfold Qdt
 have h1 : 2 ^ i ≤ 2 ^ 20 := Nat.pow_le_pow_right (by omega) h
 have h2 : 0 < 2 ^ i := Nat.pow_pos (by omega)
 have : 0 < 1048576 / 2 ^ i := Nat.div_pos (by omega) h2
 omega
theorem Qhv (i:Nat) : 0 ≤ Qdt i ∧ Qdt i ≤ 1048576 := by
 unfold Qdt
 have := Nat.div_le_self 1048576 (2 ^ i)
 generalize 1048576 / 2 ^ i = m at this ⊢
 omega
theorem Ql5 {age half:Int} (h:¬ age < 0) : Q7 age half = Qdt (age / max half 1).toNat := by
 unfold Q7
 rw [if_neg h]
 have h2 : 0 ≤ age / max half 1 := Int.ediv_nonneg (by omega) (by omega)
 split
 · rw [Qea (by omega)]
 · unfold Qdt
   rw [Int.fdiv_eq_ediv_of_nonneg _ (Int.le_of_lt (Int.pow_pos (by omega)))]
   simp
theorem Qf4 {age half:Int} (h:age < 0) : Q7 age half = 0 := by unfold Q7; rw [if_pos h]
theorem Qqp (r:ByteArray) : X3 (Qfk r) = r := by
 have hl : (Qfk r).data.toList = 59 :: r.data.toList := by unfold Qfk; simp
 have hp : Xv (Qfk r) = some 0 := by unfold Xv; rw [hl]; rfl
 unfold X3
 rw [hp]
 simp only
 apply Qz0
 have h2 : ∀ s : ByteArray,s.toList = s.data.toList := fun s => by rw [ByteArray.toList_eq]
 rw [h2,h2,Qdx,hl]
 have : (Qfk r).size = r.size + 1 := by
  have := congrArg List.length hl
  simpa using this
 rw [this]
 simp
 exact List.take_of_length_le (by simp)
theorem Q02 (s:ByteArray) : Qu (Qfk (X3 s)) = Qu s := by rw [Qdl,Qqp,Qdl s]
theorem Qiy : Qu (Qfk ⟨#[]⟩) = [] := by rw [Qdl,Qqp,if_pos rfl]
def Q4t (l:List ByteArray) : Prop := (∀ t ∈ l,Qn t = true) ∧ SG bLt l ∧ l.length ≤ 8
theorem Q5j {l:List ByteArray} (h:Qe4 l = true) (h8:l.length ≤ 8) : Q4t l := by
 unfold Qe4 at h
 rw [List.all_eq_true] at h
 have hk : ∀ i (hi:i < l.length),Qn l[i] = true ∧ (i = 0 ∨ bLt (l.getD (i - 1) .empty) l[i] = true) := fun i hi => by
  have := h i (List.mem_range.2 hi)
  unfold Qld at this
  rw [getD_lt hi] at this
  simpa using this
 refine ⟨fun t ht => ?_,?_,h8⟩
 · obtain ⟨i,hi,rfl⟩ := List.getElem_of_mem ht
   exact (hk i hi).1
 · have hs : ∀ d i (hi:i + d + 1 < l.length),bLt (l[i]'(by omega)) (l[i + d + 1]'hi) = true := by
    intro d
    induction d with
    | zero =>
      intro i hi
      have := (hk (i + 1) hi).2
      rw [Nat.add_sub_cancel,getD_lt (by omega)] at this
      rcases this with h | h
      · omega
      · exact h
    | succ d ih =>
      intro i hi
      have h1 := ih i (by omega)
      have := (hk (i + (d + 1) + 1) hi).2
      rw [show i + (d + 1) + 1 - 1 = i + d + 1 by omega,getD_lt (by omega)] at this
      rcases this with h | h
      · omega
      · exact Qb4 h1 h
   unfold SG
   rw [List.pairwise_iff_getElem]
   intro i j hi hj hij
   have := hs (j - i - 1) i (by omega)
   have e : i + (j - i - 1) + 1 = j := by omega
   simp only [e] at this
   exact this
theorem Q6o (name:ByteArray) : ∀ es : List Ev,(∀ e ∈ es,Xp e = true) → Q4t (Qu (Qfk (Qc2 name es).item.tags)) := by
 refine Qy (fun _ => ?_) fun es e ih h => ?_
 · show Q4t (Qu (Qfk ⟨#[]⟩))
   rw [Qiy]
   exact ⟨by simp,List.Pairwise.nil,by simp⟩
 · have ih := ih fun x hx => h x (by simp [hx])
   have he := h e (by simp)
   rw [Qca]
   unfold Qae
   split
   · next hk =>
     show Q4t (Qu (Qfk (X3 e.text)))
     rw [Q02]
     have hl : Qbj e.text = true := by
      rcases Qbx (Qcx.1 he).kind with hq | hq | hq | hq | hq | hq | hq
      all_goals first | (exfalso; omega) | exact hq.2.2.2.1
     unfold Qbj at hl
     simp only [Bool.and_eq_true] at hl
     exact Q5j hl.2.1 (by simpa using hl.2.2)
   · split
     · exact ih
     · exact ih
theorem Qkx (name:ByteArray) (es:List Ev) (h:∀ e ∈ es,Xp e = true) : Q4t (Qu (Qfk (Qmd name es).tags)) := by
 unfold Qmd
 split
 · show Q4t (Qu (Qfk ⟨#[]⟩))
   rw [Qiy]
   exact ⟨by simp,List.Pairwise.nil,by simp⟩
 · exact Q6o name es h
def Qku (cs:List Ev) (e:Ev) : List ByteArray := if e.item = ⟨#[]⟩ then [] else Qu (Qfk (Qmd e.item (cs.filter (thQ e.item e.at_))).tags)
def Qt9 (z:List Ev) : List Ev × List Row := z.foldl (fun s e => (s.1 ++ [e],s.2 ++ if peB e = true then [(e,Qku (Qz s.1) e)] else [])) ([],[])
def Qcw (z:List Ev) : List Row := (Qt9 z).2
theorem Q6n : ∀ z : List Ev,(Qt9 z).1 = z := by
 refine Qy rfl fun z e ih => ?_
 unfold Qt9 at *
 rw [List.foldl_append]
 simp only [List.foldl_cons,List.foldl_nil]
 rw [ih]
theorem Qcg (z:List Ev) (e:Ev) : Qcw (z ++ [e]) = Qcw z ++ if peB e = true then [(e,Qku (Qz z) e)] else [] := by
 have h := Q6n z
 unfold Qcw Qt9 at *
 rw [List.foldl_append]
 simp only [List.foldl_cons,List.foldl_nil]
 rw [h]
theorem Q0v (z:List Ev) : (Qcw z).length ≤ z.length := by
 induction z using Qy with
 | h0 => simp [Qcw,Qt9]
 | h1 z e ih =>
   rw [Qcg]
   split <;> simp <;> omega
theorem Qzg (z:List Ev) : (Qcw z).map (·.1) = Qav z := by
 induction z using Qy with
 | h0 => rfl
 | h1 z e ih =>
   rw [Qcg]
   unfold Qav at *
   rw [List.filter_append,List.map_append,ih]
   cases h : peB e <;> simp [h]
theorem Qs5 {l:List ByteArray} {t x:ByteArray} : x ∈ Qa6 l t ↔ x ∈ l ∨ (x = t ∧ Qn t = true) := by
 unfold Qa6
 split
 · next h =>
   rw [List.mem_append,List.mem_singleton]
   have hn : Qn t = true := by simp at h; exact h.1
   simp [hn]
 · next h =>
   constructor
   · exact .inl
   · rintro (h1 | ⟨rfl,h2⟩)
     · exact h1
     · rw [h2,Bool.true_and,Bool.not_eq_true,Bool.not_eq_false',Lib.containsS_iff] at h
       exact h
theorem Qzf {x:ByteArray} (tg:List ByteArray) : x ∈ Qa0 tg ↔ x ∈ tg ∧ Qn x = true := by
 have : ∀ (tg l:List ByteArray),x ∈ tg.foldl Qa6 l ↔ x ∈ l ∨ (x ∈ tg ∧ Qn x = true) := by
  intro tg
  induction tg with
  | nil => intro l; simp
  | cons t tg ih =>
    intro l
    rw [List.foldl_cons,ih,Qs5,List.mem_cons]
    constructor
    · rintro ((h | ⟨rfl,h⟩) | ⟨h1,h2⟩)
      · exact .inl h
      · exact .inr ⟨.inl rfl,h⟩
      · exact .inr ⟨.inr h1,h2⟩
    · rintro (h | ⟨rfl | h1,h2⟩)
      · exact .inl (.inl h)
      · exact .inl (.inr ⟨rfl,h2⟩)
      · exact .inr ⟨h1,h2⟩
 unfold Qa0
 rw [this]
 simp
theorem Qt8 (tg:List ByteArray) : (Qa0 tg).Nodup := by
 have : ∀ (tg l:List ByteArray),l.Nodup → (tg.foldl Qa6 l).Nodup := by
  intro tg
  induction tg with
  | nil => intro l h; exact h
  | cons t tg ih =>
    intro l h
    rw [List.foldl_cons]
    refine ih _ ?_
    unfold Qa6
    split
    · next hc =>
      have hn : t ∉ l := by
       intro hm
       have := (Lib.containsS_iff _ _).2 hm
       rw [this] at hc
       simp at hc
      rw [List.nodup_append]
      refine ⟨h,by simp,?_⟩
      intro a ha b hb
      rw [List.mem_singleton] at hb
      subst hb
      exact fun e => hn (e ▸ ha)
    · exact h
 exact this tg [] List.nodup_nil
theorem Qax {z:List Ev} (h:∀ e ∈ z,Xp e = true) : ∀ e ∈ Qz z,Xp e = true := fun e he => h e (List.mem_filter.1 he).1
theorem Qi1 {z:List Ev} (h:Rise z) : Rise (Qz z) := h.sublist List.filter_sublist
theorem Q1w {cs:List Ev} (hr:Rise cs) (hm:∀ e ∈ cs,Xp e = true) (ht:∀ e ∈ cs,thB e = true) (e:Ev) (x:ByteArray) : x ∈ Qa0 (Qas cs e) ↔ x ∈ Qku cs e := by
 have hsub : ∀ y ∈ cs.filter (thQ e.item e.at_),Xp y = true := fun y hy => hm y (List.mem_filter.1 hy).1
 have htg := Qkx e.item (cs.filter (thQ e.item e.at_)) hsub
 rw [Qzf]
 unfold Qas Qku
 rw [Qls hr]
 simp only
 by_cases h0 : cs.filter (thQ e.item e.at_) = []
 · rw [h0]
   simp only [List.isEmpty_nil,Bool.not_true,Bool.false_eq_true,if_false,List.not_mem_nil,false_and]
   have : Qu (Qfk (Qmd e.item []).tags) = [] := Qiy
   rw [this]
   simp
 · have h1 : (cs.filter (thQ e.item e.at_)).isEmpty = false := by simpa using h0
   rw [h1]
   simp only [Bool.not_false,if_true]
   have h2 : e.item ≠ ⟨#[]⟩ := by
    intro hi
    cases hq : cs.filter (thQ e.item e.at_) with
    | nil => exact h0 hq
    | cons y l =>
      have hy : y ∈ cs.filter (thQ e.item e.at_) := by rw [hq]; simp
      have hyc := List.mem_filter.1 hy
      have hyi : y.item = e.item := by
       have := hyc.2
       unfold thQ at this
       simp at this
       exact this.1
      have hyn : Qn y.item = true := by
       have hk := ht y hyc.1
       unfold thB at hk
       simp only [decide_eq_true_eq] at hk
       rcases Qbx (Qcx.1 (hm y hyc.1)).kind with hq | hq | hq | hq | hq | hq | hq
       all_goals first | (exfalso; omega) | exact hq.2.2.1
      rw [hyi,hi] at hyn
      exact absurd hyn (by decide)
   rw [if_neg h2]
   constructor
   · exact fun h => h.1
   · exact fun h => ⟨h,htg.1 x h⟩
def Qk7 (half now:Int) (R:List Row) (t:ByteArray) : Int := ((R.filter fun r => decide (t ∈ r.2)).map fun r => Qjr half now r.1).sum
theorem Qp8 (half now:Int) (R:List Row) (r:Row) (t:ByteArray) : Qk7 half now (R ++ [r]) t = Qk7 half now R t + if t ∈ r.2 then Qjr half now r.1 else 0 := by
 unfold Qk7
 rw [List.filter_append,List.map_append,List.sum_append]
 by_cases h : t ∈ r.2 <;> simp [h]
theorem Qln (R:List Row) (r:Row) (person:ByteArray) : rowsOf (R ++ [r]) person = rowsOf R person ++ if r.1.person = person then [r] else [] := by
 unfold rowsOf
 rw [List.filter_append]
 by_cases h : r.1.person = person <;> simp [h]
theorem Qv5 (width:Int) (z:List Ev) (e:Ev) : (Qq width (z ++ [e])).rs = (Qq width z).rs ++ if peB e = true then [(e,Qa0 (Qas (Qz z) e))] else [] := by
 have hc := (Qdk width z).1
 rw [Qb5]
 unfold Qcy peB thB
 by_cases h1 : e.kind = 11 ∨ e.kind = 12 ∨ e.kind = 13
 · simp [h1]
 · rw [if_neg h1]
   by_cases h2 : e.kind = 14
   · simp [h2]
   · rw [if_neg h2,← hc]
     simp only [h1,h2,decide_false,Bool.not_false,Bool.and_self,if_true]
     split <;> rfl
theorem Q3i (width half now:Int) (person t:ByteArray) : ∀ z : List Ev,Rise z → (∀ e ∈ z,Xp e = true) → Qvf half now (rowsOf (Qq width z).rs person) t = Qk7 half now (rowsOf (Qcw z) person) t := by
 refine Qy (fun _ _ => by simp [Qq,Qy8,rowsOf,Qvf,Qk7,Qcw,Qt9]) fun z e ih hr hm => ?_
 have hr1 : Rise z := (List.pairwise_append.1 hr).1
 have hm1 : ∀ x ∈ z,Xp x = true := fun x hx => hm x (by simp [hx])
 have ih := ih hr1 hm1
 rw [Qv5,Qcg]
 cases hp : peB e with
 | false => simpa using ih
 | true =>
   rw [if_pos rfl,if_pos rfl,Qln,Qln]
   simp only
   by_cases hq : e.person = person
   · rw [if_pos hq,if_pos hq,Qp8,← ih]
     have hs := Q1w (Qi1 hr1) (Qax hm1) (fun x hx => (List.mem_filter.1 hx).2) e t
     unfold Qvf
     rw [List.filter_append,List.map_append,List.sum_append]
     congr 1
     by_cases h1 : t ∈ Qku (Qz z) e
     · rw [if_pos h1]
       by_cases h2 : e.at_ ≤ now
       · simp [h2,hs.2 h1]
       · have : Qjr half now e = 0 := by
          unfold Qjr
          rw [Qf4 (by omega)]
          simp
         simp [h2,this]
     · rw [if_neg h1]
       have h3 : ¬ t ∈ Qa0 (Qas (Qz z) e) := fun h => h1 (hs.1 h)
       simp [h3]
   · rw [if_neg hq,if_neg hq,List.append_nil,List.append_nil,ih]
theorem Qk6 (width:Int) : ∀ z : List Ev,Rise z → (∀ e ∈ z,Xp e = true) → ∀ r ∈ (Qq width z).rs,Xp r.1 = true ∧ r.2.Nodup ∧ r.2.length ≤ 8 := by
 refine Qy (fun _ _ r hr => by simp [Qq,Qy8] at hr) fun z e ih hR hm => ?_
 have hr1 : Rise z := (List.pairwise_append.1 hR).1
 have hm1 : ∀ x ∈ z,Xp x = true := fun x hx => hm x (by simp [hx])
 have ih := ih hr1 hm1
 rw [Qv5]
 intro r hr
 rcases List.mem_append.1 hr with hr | hr
 · exact ih r hr
 · split at hr
   · rw [List.mem_singleton] at hr
     subst hr
     refine ⟨hm e (by simp),Qt8 _,Nat.le_trans (Qqd _) ?_⟩
     unfold Qas
     split
     · rw [Qls (Qi1 hr1)]
       exact (Qkx e.item _ fun y hy => Qax hm1 y (List.mem_filter.1 hy).1).2.2
     · simp
   · simp at hr
def Qd9 (f:ByteArray → Int) (tags:List ByteArray) : Int := (tags.map f).sum
theorem Q1r (x:ByteArray) (n:Int) : ∀ tags : List ByteArray,tags.Nodup → (tags.map fun t => if t = x then n else 0).sum = if x ∈ tags then n else 0
 | [],_ => by simp
 | a :: tags,h => by
   rw [List.nodup_cons] at h
   have ih := Q1r x n tags h.2
   rw [List.map_cons,List.sum_cons,ih]
   by_cases hx : a = x
   · subst hx
     rw [if_pos rfl,if_neg h.1,if_pos (by simp)]; omega
   · rw [if_neg hx]
     by_cases h2 : x ∈ tags
     · rw [if_pos h2,if_pos (by simp [h2])]; omega
     · rw [if_neg h2,if_neg (by simp [h2]; exact fun e => hx e.symm)]; omega
theorem Q1y {α:Type} (f g:α → Int) : ∀ l : List α,(l.map fun x => f x + g x).sum = (l.map f).sum + (l.map g).sum
 | [] => rfl
 | x :: l => by
   have := Q1y f g l
   simp only [List.map_cons,List.sum_cons]
   omega
theorem Qwk {tags:List ByteArray} (ht:tags.Nodup) : ∀ L : List (ByteArray × Int),L.Pairwise (fun x y => x.1 ≠ y.1) → ((L.filter fun x => decide (x.1 ∈ tags)).map (·.2)).sum = (tags.map fun t => (Qe L t).getD 0).sum
 | [],_ => by
   have : (tags.map fun t => (Qe ([] : List (ByteArray × Int)) t).getD 0).sum = 0 := Qfe _ fun x _ => rfl
   rw [this]; rfl
 | x :: L,h => by
   rw [List.pairwise_cons] at h
   have ih := Qwk ht L h.2
   have h0 : Qe L x.1 = none := Qde.2 fun y hy e => h.1 y hy e.symm
   have hs : (tags.map fun t => (Qe (x :: L) t).getD 0) = tags.map fun t => (if t = x.1 then x.2 else 0) + (Qe L t).getD 0 := by
    apply List.map_congr_left
    intro t _
    rw [Qby]
    by_cases hx : t = x.1
    · rw [if_pos hx,if_pos hx,hx,h0]; simp
    · rw [if_neg hx,if_neg hx]; omega
   rw [hs,Q1y,Q1r _ _ _ ht,← ih,List.filter_cons]
   by_cases hx : x.1 ∈ tags
   · rw [if_pos (by simp [hx]),if_pos hx,List.map_cons,List.sum_cons]
   · rw [if_neg (by simp [hx]),if_neg hx]; omega
theorem Qrj {L:List (ByteArray × Int)} (h:L.Pairwise (fun x y => x.1 ≠ y.1)) (hp:∀ t,0 ≤ (Qe L t).getD 0) (t:ByteArray) : (Qe (L.filter fun x => decide (0 < x.2)) t).getD 0 = (Qe L t).getD 0 := by
 induction L with
 | nil => rfl
 | cons x L ih =>
   rw [List.pairwise_cons] at h
   have h0 : Qe L x.1 = none := Qde.2 fun y hy e => h.1 y hy e.symm
   have hp' : ∀ t,0 ≤ (Qe L t).getD 0 := fun t => by
    by_cases hx : t = x.1
    · rw [hx,h0]; simp
    · have := hp t
      rw [Qby,if_neg hx] at this
      exact this
   have ih := ih h.2 hp'
   have hx0 : 0 ≤ x.2 := by
    have := hp x.1
    rw [Qby,if_pos rfl] at this
    exact this
   rw [List.filter_cons]
   by_cases h1 : 0 < x.2
   · rw [if_pos (by simpa using h1),Qby,Qby]
     split
     · rfl
     · exact ih
   · rw [if_neg (by simpa using h1),ih,Qby]
     split
     · next hx =>
       rw [hx,h0]
       simp
       omega
     · rfl
theorem Q0s {half now:Int} {rows:List Row} (hr:∀ r ∈ rows,Xp r.1 = true ∧ r.2.Nodup) (hl:rows.length < 1000000) {tags:List ByteArray} (ht:tags.Nodup) {F:List (ByteArray × Int)} (hF:F.Perm (Q6y half now rows)) :
 ((F.filter fun x => decide (x.1 ∈ tags)).map (·.2)).sum = Qd9 (Qvf half now rows) tags := by
 rw [Qwi ((hF.filter _).map _)]
 have hk := Qz9 half now rows
 have hk2 : (Q6y half now rows).Pairwise (fun x y => x.1 ≠ y.1) := hk.sublist List.filter_sublist
 rw [Qwk ht _ hk2]
 unfold Qd9
 congr 1
 apply List.map_congr_left
 intro t _
 have hg := fun t => Qzi half now t rows hr hl
 unfold Q6y
 rw [Qrj hk fun t => by rw [(hg t).1]; exact (hg t).2.1]
 exact (hg t).1
def Qf2 (S:List Sn) (person item:ByteArray) (b:Int) (e:Ev) : Int :=
 if e.person ≠ person ∨ e.item = item ∨ Qo e = 0 then b
 else if 0 < Qaa S item e.item ∧ b < (Qaa S item e.item : Int) * Qaa S item e.item * 1048576 / ((Qaa S item item:Int) * Qaa S e.item e.item) then (Qaa S item e.item : Int) * Qaa S item e.item * 1048576 / ((Qaa S item item:Int) * Qaa S e.item e.item) else b
def Q5i (S:List Sn) (person item:ByteArray) (z:List Ev) : Int := z.foldl (Qf2 S person item) 0
theorem Qrn (S:List Sn) (person item:ByteArray) (z:List Ev) (e:Ev) : Q5i S person item (z ++ [e]) = Qf2 S person item (Q5i S person item z) e := by unfold Q5i; rw [List.foldl_append]; rfl
theorem Qmy {a b c d:Int} (ha:0 ≤ a) (hb:0 < b) (hd:0 < d) (h:a * d ≤ c * b) : a * 1048576 / b ≤ c * 1048576 / d := by
 rw [Int.le_ediv_iff_mul_le hd]
 have h1 : a * 1048576 / b * b ≤ a * 1048576 := Int.ediv_mul_le _ (by omega)
 have h2 : a * 1048576 / b * b * d ≤ a * 1048576 * d := Int.mul_le_mul_of_nonneg_right h1 (by omega)
 have h3 : a * 1048576 * d = a * d * 1048576 := by rw [Int.mul_assoc,Int.mul_comm 1048576 d,← Int.mul_assoc]
 have h4 : a * d * 1048576 ≤ c * b * 1048576 := Int.mul_le_mul_of_nonneg_right h (by omega)
 have h5 : c * b * 1048576 = c * 1048576 * b := by rw [Int.mul_assoc,Int.mul_comm b 1048576,← Int.mul_assoc]
 have h6 : a * 1048576 / b * b * d = a * 1048576 / b * d * b := by rw [Int.mul_assoc,Int.mul_comm b d,← Int.mul_assoc]
 have h7 : a * 1048576 / b * d * b ≤ c * 1048576 * b := by omega
 exact Int.le_of_mul_le_mul_right h7 hb
theorem Q3q {e:Ev} (h:peB e = false) : Qo e = 0 := by
 unfold peB thB at h
 unfold Qo
 have : (e.kind = 11 ∨ e.kind = 12 ∨ e.kind = 13) ∨ e.kind = 14 := by
  by_cases h1 : e.kind = 11 ∨ e.kind = 12 ∨ e.kind = 13
  · exact .inl h1
  · simp [h1] at h
    exact .inr h
 rw [if_neg (by omega),if_neg (by omega),if_neg (by omega),if_neg (by omega)]
theorem Qkr (z:List Ev) (person:ByteArray) (e:Ev) : Qgz (z ++ [e]) person = Qgz z person ++ if peB e = true ∧ e.person = person then [e] else [] := by
 unfold Qgz hist Qav
 rw [List.filter_append,List.filter_append]
 cases h : peB e <;> by_cases h2 : e.person = person <;> simp [h,h2]
theorem Q5a (S:List Sn) (person item:ByteArray) (z:List Ev) (hm:∀ e ∈ z,Xp e = true) : Q5i S person item z = 1048576 * (Qe8 S item (Qgz z person)).1 / (Qe8 S item (Qgz z person)).2 := by
 induction z using Qy with
 | h0 => simp [Q5i,Qgz,hist,Qav,Qe8]
 | h1 z e ih =>
   have ih := ih fun x hx => hm x (by simp [hx])
   have hw := (Qb1 (hm e (by simp))).1
   rw [Qrn]
   unfold Qf2
   by_cases hskip : e.person ≠ person ∨ e.item = item ∨ Qo e = 0
   · rw [if_pos hskip,ih]
     by_cases hin : peB e = true ∧ e.person = person
     · rw [Qkr,if_pos hin,Qgd]
       have : Qbs S item (Qe8 S item (Qgz z person)) e = Qe8 S item (Qgz z person) := by
        unfold Qbs
        rw [if_pos]
        rcases hskip with h | h | h
        · exact absurd hin.2 h
        · exact .inr h
        · exact .inl (by omega)
       rw [this]
     · rw [Qkr,if_neg hin,List.append_nil]
   · rw [if_neg hskip]
     have hp : e.person = person := Classical.byContradiction fun h => hskip (.inl h)
     have hi : ¬ e.item = item := fun h => hskip (.inr (.inl h))
     have hw0 : ¬ Qo e = 0 := fun h => hskip (.inr (.inr h))
     have hpe : peB e = true := by
      cases h : peB e with
      | true => rfl
      | false => exact absurd (Q3q h) hw0
     rw [Qkr,if_pos (show peB e = true ∧ e.person = person from ⟨hpe,hp⟩),Qgd,ih]
     have hN : (S.length : Int) * S.length ≤ (S.length : Int) * S.length + 1 := by omega
     have hN1 : (1:Int) ≤ (S.length : Int) * S.length + 1 := by
      have : (0:Int) ≤ (S.length : Int) * S.length := Int.mul_nonneg (by omega) (by omega)
      omega
     have hbo := Qzo hN hN1 item (Qgz z person)
     have hlo := Qua hN hN1 item e.item
     generalize Qe8 S item (Qgz z person) = b at hbo
     have hst : Qbs S item b e = if Qtw b (Qgs S item e.item) = true then Qgs S item e.item else b := by
      unfold Qbs
      rw [if_neg]
      rintro (h | h)
      · omega
      · exact hi h
     rw [hst]
     have hpl := Qib S item e.item
     have hpl2 : Qaa S item e.item ≤ Xk S e.item := by rw [Qrd]; exact Qib S e.item item
     rw [Qh8,Qh8]
     by_cases h0 : Xk S item = 0 ∨ Xk S e.item = 0
     · have hl0 : Qgs S item e.item = (0,1) := by unfold Qgs; rw [if_pos h0]
       have hn0 : Qaa S item e.item = 0 := by omega
       rw [hl0,if_neg (by omega),if_neg]
       unfold Qtw
       have := hbo.1
       simp only [decide_eq_true_eq]
       omega
     · have hl1 : Qgs S item e.item = ((Qaa S item e.item : Int) * Qaa S item e.item,(Xk S item:Int) * Xk S e.item) := by
        unfold Qgs
        rw [if_neg h0,if_neg (fun h => hi h.symm)]
       rw [hl1] at hlo ⊢
       have hd := hlo.2.2.1
       have hn := hlo.1
       have hb2 := hbo.2.2.1
       simp only at hd hn
       generalize hnn : (Qaa S item e.item : Int) * Qaa S item e.item = nn at hd hn ⊢
       generalize (Xk S item:Int) * Xk S e.item = ab at hd ⊢
       have hcm : ∀ x : Int,1048576 * x = x * 1048576 := fun x => Int.mul_comm _ _
       unfold Qtw
       simp only [decide_eq_true_eq]
       rw [hcm]
       by_cases hlt : b.1 * ab < nn * b.2
       · rw [if_pos hlt]
         simp only
         rw [hcm]
         have hmono := Qmy (a := b.1) (b := b.2) (c := nn) (d := ab) hbo.1 (by omega) (by omega) (by omega)
         have hpos : 0 < Qaa S item e.item := by
          rcases Nat.eq_zero_or_pos (Qaa S item e.item) with h | h
          · rw [h] at hnn
            simp at hnn
            subst hnn
            have : 0 ≤ b.1 * ab := Int.mul_nonneg hbo.1 (by omega)
            omega
          · exact h
         by_cases hc : b.1 * 1048576 / b.2 < nn * 1048576 / ab
         · rw [if_pos ⟨hpos,hc⟩]
         · rw [if_neg (fun h => hc h.2)]
           omega
       · rw [if_neg hlt,hcm,if_neg]
         rintro ⟨_,hc⟩
         have := Qmy (a := nn) (b := ab) (c := b.1) (d := b.2) hn (by omega) (by omega) (by omega)
         omega
def Qph (c:Cfg) (fresh old:Int) : Int := if fresh = 0 ∨ fresh < c.floor then 0 else min (fresh * 1048576 / (old + 1)) 1099511627776
abbrev Ct := ByteArray × Int
def Qhd (x:Ct) : List Value := [.string x.1,.int .i64 x.2]
theorem Qv7 (x:Ct) : (Qhd x).length = 2 := rfl
theorem Qo4 (x:Ct) : ∀ u ∈ Qhd x,u.oneCell' = true := by simp [Qhd,Value.oneCell']
theorem Qi5 : Qpw Tryz.prog 163 166 Qhd 2 24 := ⟨by kernel_rfl,⟨_,ty166_ok,rfl,rfl⟩,by166,by decide,by decide,Qv7,Qo4⟩
theorem Q4e {z:List Ev} (h:∀ e ∈ z,Xp e = true) : ∀ e ∈ z.filter wpB,Xp e = true := fun e he => h e (List.mem_filter.1 he).1
theorem Qh4 {e:Ev} (h:Xp e = true) : 0 ≤ e.at_ ∧ e.at_ ≤ 1099511627776 := by
 have := (Qcx.1 h).at_
 exact this
theorem Qqq {c:Cfg} (h:Qpu c = true) : (1 ≤ c.half ∧ c.half ≤ 1099511627776) ∧ (1 ≤ c.width ∧ c.width ≤ 1099511627776) ∧ (1 ≤ c.span ∧ c.span ≤ 1099511627776) ∧ c.span.tmod c.width = 0 ∧ (0 ≤ c.gap ∧ c.gap ≤ 1099511627776) ∧ (0 ≤ c.floor ∧ c.floor ≤ 1048576) ∧ (0 ≤ c.crowd ∧ c.crowd ≤ 1048576) := by
 unfold Qpu inB at h
 simp only [Bool.and_eq_true,decide_eq_true_eq] at h
 obtain ⟨⟨⟨⟨⟨⟨h1,h2⟩,h3⟩,h4⟩,h5⟩,h6⟩,h7⟩ := h
 exact ⟨h1,h2,h3,h4,h5,h6,h7⟩
theorem Qpk {n:Int} (h:1 ≤ n ∧ n ≤ 1099511627776) : Q8 n = n := by unfold Q8; omega
theorem Qfj {t width:Int} (hw:1 ≤ width) (h:-4398046511104 ≤ t ∧ t ≤ 4398046511104) : -4398046511104 ≤ t / width ∧ t / width ≤ 4398046511104 := by
 constructor
 · rw [Int.le_ediv_iff_mul_le (by omega)]
   have : -4398046511104 * width ≤ -4398046511104 * 1 := Int.mul_le_mul_of_nonpos_left (by omega) (by omega)
   omega
 · rcases Int.lt_or_le t 0 with h1 | h1
   · have := Int.ediv_neg_of_neg_of_pos h1 (show 0 < width by omega)
     omega
   · have := Int.ediv_le_self width h1
     omega
theorem Qgx {w:World} {T:Nat → Prop} (person:ByteArray) : ∀ {D:List (Ev × SV)} {rs:List Row},Qad w T D rs → Qad w T (Xd D person) (rowsOf rs person)
 | [],rs,h => by
   have : rs = [] := by have := h.len; simpa using this.symm
   subst this
   exact h
 | d :: D,[],h => by have := h.len; simp at this
 | d :: D,r :: rs,h => by
   have h0 := h.ev 0 d r rfl rfl
   have hT : Qad w T D rs := ⟨by have := h.len; simpa using this,fun i d r hd hr => h.ev (i + 1) d r hd hr⟩
   have ih := Qgx person hT
   unfold Xd rowsOf at *
   simp only [List.filter_cons,h0.1]
   split
   · refine ⟨by simp [ih.len],fun i d' r' hd hr => ?_⟩
     cases i with
     | zero =>
       simp at hd hr
       subst hd; subst hr
       exact h0
     | succ i => exact ih.ev i d' r' (by simpa using hd) (by simpa using hr)
   · exact ih
theorem Qad.ext {w w1:World} {T:Nat → Prop} {D:List (Ev × SV)} {rs:List Row} (h:Qad w T D rs) (hT:∀ k,T k → k < w.heap.size) (hx:Ext w w1) : Qad w1 T D rs :=
 ⟨h.len,fun i d r hd hr => by
  obtain ⟨h1,h2,h3,h4⟩ := h.ev i d r hd hr
  exact ⟨h1,h2,h3.ext hx,h4⟩⟩
theorem Qlb {w w1 w2:World} {T:Nat → Prop} (hx:Ext w w1) (hT:∀ k,T k → w.heap.size ≤ k) (hM:Mod T w1 w2) : Ext w w2 :=
 (Qr (Mod.of_ext (S := fun _ => False) hx) (hM.mono fun k _ hk => .inr (hT k hk))).ext fun _ _ h => h
theorem Qdy (e:Ev) (w:World) : Cal Tryz.prog 26 [evV e] w fun r w' => r = .int .i64 (Qo e) ∧ Ext w w' := by
 refine Fi Tryz.func26 rfl _ rfl rfl ?_;conv=>whnf
 intro b w1 hn
 have hb := hn.At
 conv=>whnf
 refine ⟨_,hb.one rfl,?_⟩;conv=>whnf
 refine ⟨fun h1 => ?_,fun h1 => ?_⟩
 · have h1 : e.kind = 1 := by simpa using h1
   conv=>whnf
   exact ⟨by unfold Qo; rw [if_pos h1],hn.ext⟩
 have h1 : ¬ e.kind = 1 := by simpa using h1
 conv=>whnf
 refine ⟨fun h2 => ?_,fun h2 => ?_⟩
 · have h2 : e.kind = 2 := by simpa using h2
   conv=>whnf
   exact ⟨by unfold Qo; rw [if_neg h1,if_pos h2],hn.ext⟩
 have h2 : ¬ e.kind = 2 := by simpa using h2
 conv=>whnf
 refine ⟨fun h3 => ?_,fun h3 => ?_⟩
 · have h3 : e.kind = 3 := by simpa using h3
   conv=>whnf
   exact ⟨by unfold Qo; rw [if_neg h1,if_neg h2,if_pos h3],hn.ext⟩
 have h3 : ¬ e.kind = 3 := by simpa using h3
 conv=>whnf
 refine ⟨fun h4 => ?_,fun h4 => ?_⟩
 · have h4 : e.kind = 4 := by simpa using h4
   conv=>whnf
   refine ⟨_,hb.one rfl,?_⟩;conv=>whnf
   exact ⟨by unfold Qo; rw [if_neg h1,if_neg h2,if_neg h3,if_pos h4],hn.ext⟩
 have h4 : ¬ e.kind = 4 := by simpa using h4
 conv=>whnf
 exact ⟨by unfold Qo; rw [if_neg h1,if_neg h2,if_neg h3,if_neg h4],hn.ext⟩
def Qmt (c:Cfg) (z:List Ev) : List Sn := Qfy (Qr6 c.gap) (Qf9 (z.filter wpB))
def Q6u (c:Cfg) (z:List Ev) (person item:ByteArray) : Int := 1048576 * (Qe8 (Qmt c z) item (Qgz z person)).1 / (Qe8 (Qmt c z) item (Qgz z person)).2
def Qg5 (z:List Ev) (item:ByteArray) (now:Int) : It := Qmd item ((Qz z).filter (thQ item now))
def Qe7 (c:Cfg) (now:Int) : Int := now - now.tmod (Q8 c.width)
end Go.Proofs.YtoancknoinilaaaGreatDoor
