import Derived.Test.YteabekcdcphjpaaGreatDoorHMg9
import Derived.Test.YteabekcdcphjpaaGreatDoorGZC
import Derived.Test.YteabekcdcphjpaaGreatDoorGJ
import Derived.Test.YteabekcdcphjpaaGreatDoorGXB
/- Are two of one identity one event? -/
set_option linter.unusedVariables false
set_option linter.unusedSimpArgs false
namespace Go.Proofs.YteabekcdcphjpaaGreatDoor
open Go.Se Go.RowKit Go.Shelf
set_option maxHeartbeats 1000000 in
theorem Qyg (l:List Ev) (A:Option Addr) (cap:Nat) (w:World) (hs:SlE w A l) (hl:l.length < 1000000) :
 Cal Tryz.prog 20 [.slice A l.length cap] w fun r w' => ∃ b : Bool,r = .bool b ∧ (b = true → Qfk l) ∧ Ext w w' := by
 refine Fi Tryz.func20 rfl _ rfl rfl ?_;conv=>whnf
 refine Qg Qa (fun (i:Nat) w' => i ≤ l.length ∧ Ext w w' ∧ ∀ (p q:Nat) x y,q < p → p < i → l[p]? = some x → l[q]? = some y → idE x = idE y → x = y)
  (fun i => [(0,.slice A l.length cap),(3,.int .i64 (i:Nat))]) (fun i => l.length - i) 0 ⟨Nat.zero_le _,Ext.refl _,fun p q x y _ h => absurd h (Nat.not_lt_zero _)⟩ ⟨rfl,rfl,trivial⟩ ?_
 rintro i w1 ⟨hi,hx1,hall⟩
 (conv=>whnf);repeat(refine Sg ?_;(conv=>whnf))
 constructor
 · intro hlt
   have hlt : i < l.length := by simpa using hlt
   have hix : l[i]? = some l[i] := List.getElem?_eq_getElem hlt
   (conv=>whnf);repeat(refine Sg ?_;(conv=>whnf))
   refine Qg Qa (fun (k:Nat) w' => k ≤ i ∧ Ext w w' ∧ ∀ (q:Nat) y,q < k → l[q]? = some y → idE l[i] = idE y → l[i] = y)
    (fun k => [(0,.slice A l.length cap),(3,.int .i64 (i:Nat)),(4,.int .i64 (k:Nat))]) (fun k => i - k) 0 ⟨Nat.zero_le _,hx1,fun q y h => absurd h (Nat.not_lt_zero _)⟩ ⟨rfl,rfl,rfl,trivial⟩ ?_
   rintro k w2 ⟨hk,hx2,hin⟩
   (conv=>whnf);repeat(refine Sg ?_;(conv=>whnf))
   constructor
   · intro hlt2
     have hlt2 : k < i := by simpa using hlt2
     have hkl : k < l.length := by omega
     obtain ⟨a,hA,hc⟩ := (hs.ext hx2).get hlt
     obtain ⟨a',hA',hd⟩ := (hs.ext hx2).get hkl
     obtain rfl : a = a' := by rw [hA] at hA'; simpa using hA'
     have hkx : l[k]? = some l[k] := List.getElem?_eq_getElem hkl
     generalize l[k] = f at hd hkx
     generalize l[i] = e at hc hin hix
     (conv=>whnf);repeat(refine Sg ?_;(conv=>whnf))
     refine Dr .ext [0,1,2,3,4,5,6,7,8,9,10,11,12,13,14,15,16,17,18,19,20,21,22,23,24,25,26,27,28,29,30,31,32,33,34] [] ?_;conv=>whnf
     have hxd : Ext w2 w2.drew := (Ext.refl w2).drew
     replace hc := hxd.cells hc
     replace hd := hxd.cells hd
     replace hx2 := hx2.trans hxd
     generalize w2.drew = w3 at hc hd hx2 ⊢
     clear hxd
     refine ⟨a,⟨hA,by omega,by omega⟩,?_⟩;conv=>whnf
     refine ⟨_,cells_at hc (k := 0) rfl,?_⟩;conv=>whnf
     refine ⟨a,⟨hA,by omega,by omega⟩,?_⟩;conv=>whnf
     refine ⟨_,cells_at hd (k := 0) rfl,?_⟩;conv=>whnf
     refine ⟨a,fun _ => ⟨hA,by omega,by omega⟩,?_⟩;conv=>whnf
     refine ⟨_,fun _ => cells_at hc (k := 1) rfl,?_⟩;conv=>whnf
     refine ⟨a,fun _ => ⟨hA,by omega,by omega⟩,?_⟩;conv=>whnf
     refine ⟨_,fun _ => cells_at hd (k := 1) rfl,?_⟩;conv=>whnf
     refine ⟨a,fun _ => ⟨hA,by omega,by omega⟩,?_⟩;conv=>whnf
     refine ⟨evC e,fun _ => ⟨rfl,hc⟩,?_⟩;conv=>whnf
     refine ⟨a,fun _ => ⟨hA,by omega,by omega⟩,?_⟩;conv=>whnf
     refine ⟨evC f,fun _ => ⟨rfl,hd⟩,?_⟩;conv=>whnf
     refine ⟨_,fun _ => Q91 e f _ _,?_⟩;conv=>whnf
     constructor
     · intro _
       (conv=>whnf);repeat(refine Sg ?_;(conv=>whnf))
       exact ⟨false,rfl,fun h => (by cases h),hx2⟩
     · intro hq
       have hq : ((decide (e.src = f.src) && decide (e.num = f.num)) && !decide (e = f)) = false := hq
       (conv=>whnf);repeat(refine Sg ?_;(conv=>whnf))
       refine ⟨_,wrap_succ (by omega),?_⟩; (conv=>whnf);repeat(refine Sg ?_;(conv=>whnf))
       refine ⟨k + 1,by omega,⟨by omega,hx2,fun q y hqk hqy hid => ?_⟩,⟨rfl,rfl,rfl,trivial⟩⟩
       by_cases hqe : q = k
       · subst hqe
         rw [hkx] at hqy
         cases hqy
         unfold idE at hid
         simp only [Prod.mk.injEq] at hid
         simp [hid.1,hid.2] at hq
         exact hq
       · exact hin q y (by omega) hqy hid
   · intro hge
     have hge : i ≤ k := by simpa using hge
     (conv=>whnf);repeat(refine Sg ?_;(conv=>whnf))
     refine ⟨_,wrap_succ (by omega),?_⟩; (conv=>whnf);repeat(refine Sg ?_;(conv=>whnf))
     refine ⟨i + 1,by omega,⟨by omega,hx2,fun p q x y hqp hpi hpx hqy hid => ?_⟩,⟨rfl,rfl,trivial⟩⟩
     by_cases hpe : p = i
     · subst hpe
       rw [hix] at hpx
       cases hpx
       exact hin q y (by omega) hqy hid
     · exact hall p q x y hqp (by omega) hpx hqy hid
 · intro hge
   have hge : l.length ≤ i := by simpa using hge
   (conv=>whnf);repeat(refine Sg ?_;(conv=>whnf))
   refine ⟨true,rfl,fun _ x hx y hy hid => ?_,hx1⟩
   obtain ⟨p,hp,hpx⟩ := List.getElem_of_mem hx
   obtain ⟨q,hq,hqy⟩ := List.getElem_of_mem hy
   have h1 : l[p]? = some x := by rw [List.getElem?_eq_getElem hp,hpx]
   have h2 : l[q]? = some y := by rw [List.getElem?_eq_getElem hq,hqy]
   rcases Nat.lt_trichotomy p q with h | h | h
   · exact (hall q p y x h (by omega) h2 h1 hid.symm).symm
   · subst h
     rw [h1] at h2; cases h2; rfl
   · exact hall p q x y h (by omega) h1 h2 hid
theorem Qmr (w:World) : Cal Tryz.prog 14 [.slice none 0 0] w fun r w' => r = .pointer none ∧ Ext w w' := by
 refine Fi Tryz.func14 rfl _ rfl rfl ?_;conv=>whnf
 constructor
 · intro _
   (conv=>whnf);repeat(refine Sg ?_;(conv=>whnf))
   exact ⟨rfl,Ext.refl _⟩
 · intro h; simp at h
theorem Qqg (w:World) : Cal Tryz.prog 17 [.slice none 0 0] w fun r w' => r = .pointer none ∧ Ext w w' := by
 refine Fi Tryz.func17 rfl _ rfl rfl ?_;conv=>whnf
 constructor
 · intro _
   (conv=>whnf);repeat(refine Sg ?_;(conv=>whnf))
   exact ⟨rfl,Ext.refl _⟩
 · intro h; simp at h
theorem Qqf (w:World) : Cal Tryz.prog 22 [.slice none 0 0] w fun r w' => ∃ p S,r = .pointer (some ⟨p,0,none⟩) ∧ X3 w' S p [] ∧ Ext w w' := by
 have hB : Beside w w.heap.size ⟨0,0,0,0,0,0⟩ (Qhu none) [] [] (fun _ _ => False) := ⟨rfl,by simp,by simp,by simp⟩
 refine (Qif hB (Nat.le_refl _) (fun k h => by cases h) (by simp) (by simp) none 0 Sl.nil fun _ h => h).mono ?_
 rintro _ w' ⟨p,t,sh,S,T',rfl,_,hp,hT,hSp,_,_,_,_,hM⟩
 refine ⟨p,fun k => k = p ∨ S k,rfl,⟨t,sh,hp,hT.keep fun k _ hk => ⟨rfl,.inr hk,fun e => hSp (e ▸ hk)⟩,.inl rfl⟩,hM.ext fun k _ h => ?_⟩
 obtain ⟨_,h⟩ := h
 exact h
theorem Qj7 (w:World) (S:Nat → Prop) (p:Nat) (Ss:List Sn) (h:X3 w S p Ss) (a b:ByteArray) :
 Cal Tryz.prog 29 [.pointer (some ⟨p,0,none⟩),.string a,.string b] w fun r w' => r = .int .i64 ((if a = b then Xx Ss a else Qbv Ss a b : Nat) : Int) ∧ w' = w := by
 by_cases hab : a = b
 · subst hab
   rw [if_pos rfl]
   refine Fi Tryz.func29 rfl _ rfl rfl ?_;conv=>whnf
   constructor
   · intro _
     (conv=>whnf);repeat(refine Sg ?_;(conv=>whnf))
     refine (Qfz w S p Ss h a).mono ?_
     rintro _ w1 ⟨rfl,rfl⟩
     (conv=>whnf);repeat(refine Sg ?_;(conv=>whnf))
     exact ⟨rfl,rfl⟩
   · intro hc
     simp at hc
 · rw [if_neg hab]
   exact Qmd w S p Ss h a b hab
end Go.Proofs.YteabekcdcphjpaaGreatDoor
