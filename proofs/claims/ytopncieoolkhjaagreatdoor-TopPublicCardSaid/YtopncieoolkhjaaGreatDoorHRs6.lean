import Derived.Test.YtopncieoolkhjaaGreatDoorHRs5
import Derived.Test.YtopncieoolkhjaaGreatDoorHPl8
import Derived.Test.YtopncieoolkhjaaGreatDoorGW
/- The walk of reason.own. -/
set_option linter.unusedVariables false
set_option linter.unusedSimpArgs false
namespace Go.Proofs.YtopncieoolkhjaaGreatDoor
open Go.Se Go.RowKit
def Q64 (b6 b12 b11 b13 b10 b9:Nat) : List Value :=
 let nv := Value.func (.func 112) #[] #[]
 let lk := Value.func (.func 106) #[] #[.pointer (some ⟨b6,0,none⟩),.pointer (some ⟨b12,0,none⟩),.pointer (some ⟨b11,0,none⟩),.pointer (some ⟨b13,0,none⟩)]
 let mk := Value.func (.func 111) #[] #[.pointer (some ⟨b10,0,none⟩),.pointer (some ⟨b9,0,none⟩)]
 [nv,lk,lk,lk,lk,nv,nv,mk,mk,nv,nv]
theorem Q53 {b6 b12 b11 b13 b10 b9:Nat} {k:Int} (h0:0 ≤ k) (h1:k < 11) : ∃ fv,nth (Q64 b6 b12 b11 b13 b10 b9) k.toNat = some fv ∧
 ((1 ≤ k ∧ k ≤ 4 ∧ fv = .func (.func 106) #[] #[.pointer (some ⟨b6,0,none⟩),.pointer (some ⟨b12,0,none⟩),.pointer (some ⟨b11,0,none⟩),.pointer (some ⟨b13,0,none⟩)])
   ∨ ((k = 7 ∨ k = 8) ∧ fv = .func (.func 111) #[] #[.pointer (some ⟨b10,0,none⟩),.pointer (some ⟨b9,0,none⟩)])
   ∨ (¬ (1 ≤ k ∧ k ≤ 4) ∧ ¬ (k = 7 ∨ k = 8) ∧ fv = .func (.func 112) #[] #[])) := by
 obtain ⟨n,rfl⟩ : ∃ n : Nat,k = n := ⟨k.toNat,by omega⟩
 rw [Int.toNat_natCast]
 rcases n with _ | _ | _ | _ | _ | _ | _ | _ | _ | _ | _ | n
 all_goals first
  | omega
  | exact ⟨_,rfl,.inl ⟨by omega,by omega,rfl⟩⟩
  | exact ⟨_,rfl,.inr (.inl ⟨by omega,rfl⟩)⟩
  | exact ⟨_,rfl,.inr (.inr ⟨by omega,by omega,rfl⟩)⟩
theorem Qyj {z:List Ev} {person:ByteArray} {e:Ev} (h:e ∈ Qfc z person) : e ∈ z ∧ peB e = true ∧ e.person = person := by
 unfold Qfc hist Xn at h
 obtain ⟨h1,h2⟩ := List.mem_filter.1 h
 obtain ⟨h3,h4⟩ := List.mem_filter.1 h1
 exact ⟨h3,h4,by simpa using h2⟩
theorem Qvh {c:Cfg} {z:List Ev} {item:ByteArray} {now:Int} {e:Ev} (h1:¬ (1 ≤ e.kind ∧ e.kind ≤ 4)) (h2:¬ (e.kind = 7 ∨ e.kind = 8)) : Qdl c z item now e = false := by
 unfold Qdl Qlu
 rw [if_neg h2]
 have : Qr e = 0 := by
  unfold Qr
  rw [if_neg (by omega),if_neg (by omega),if_neg (by omega),if_neg (by omega)]
 rw [this]
 rfl
set_option maxHeartbeats 4000000 in
theorem Q18 {w:World} {T:Nat → Prop} {p:Nat} {c:Cfg} {z:List Ev} (hW:WT w T p c z) (hok:Q3z c z) (hg:Gl w) (hTw:∀ k,T k → 10 ≤ k) (person item:ByteArray) (now:Int) :
 Cal Tryz.prog 53 [.pointer (some ⟨p,0,none⟩),.string person,.string item,.int .i64 now] w fun r w' => ∃ A c',r = .slice A (Qn2 c z person item now).length c' ∧ Own evC 8 49 w.heap.size w' A c' (Qn2 c z person item now) ∧ Mod T w w' ∧ ∃ T',WT w' T' p c z ∧ (∀ k,T' k → T k ∨ w.heap.size ≤ k) ∧ ∀ a,A = some a → ¬ T' a.block := by
 have hlen := hok.len
 obtain ⟨v0,T0,hQ0,_⟩ := id hW
 have hzm := hQ0.may
 have hzr := hQ0.rise
 have hsz := hg.size
 have hsl := (Q5k c z hzm hok.len).len
 refine Fi Tryz.func53 rfl _ rfl rfl ?_;conv=>whnf
 intro b6 w1 hn1; (conv=>whnf);repeat(refine Sg ?_;(conv=>whnf))
 have h6 : At w1 b6 9 [.string item] := hn1.At
 have hx1 := hn1.ext
 have hb6 : w.heap.size ≤ b6 := by rw [hn1.block]; exact Nat.le_refl _
 clear hn1
 have hQ := hQ0.ext hx1
 refine Qin (ι := Nat × Nat) (fun q => [(0,.pointer (some ⟨p,0,none⟩)),(1,.string person),(6,.pointer (some ⟨b6,0,none⟩)),(9,.pointer (some ⟨q.1,0,none⟩)),(10,.pointer (some ⟨q.2,0,none⟩))]) (fun q w' => Ext w1 w' ∧ At w' q.1 187 (itC (Qbp (Qi z) item now).1) ∧ At w' q.2 4 [.bool (Qbp (Qi z) item now).2] ∧ w1.heap.size ≤ q.1 ∧ w1.heap.size ≤ q.2) ?_ ?_
 · refine Qvr (.mods (fun k => w1.heap.size ≤ k)) (Pq.seq [0,2,3] (Pq.three 1 (Pq.three 4 (Pq.seq [5,6,7] (Pq.two 8 (Pq.one 9 (Pq.seq [10,11] Pq.done)) 9 (Pq.one 8 (Pq.seq [10,11] Pq.done)))) 8 (Pq.two 4 (Pq.seq [5,6,7] (Pq.one 9 (Pq.seq [10,11] Pq.done))) 9 (Pq.one 4 (Pq.seq [5,6,7] (Pq.seq [10,11] Pq.done)))) 9 (Pq.two 4 (Pq.seq [5,6,7] (Pq.one 8 (Pq.seq [10,11] Pq.done))) 8 (Pq.one 4 (Pq.seq [5,6,7] (Pq.seq [10,11] Pq.done))))) 8 (Pq.two 1 (Pq.two 4 (Pq.seq [5,6,7] (Pq.one 9 (Pq.seq [10,11] Pq.done))) 9 (Pq.one 4 (Pq.seq [5,6,7] (Pq.seq [10,11] Pq.done)))) 9 (Pq.one 1 (Pq.one 4 (Pq.seq [5,6,7] (Pq.seq [10,11] Pq.done))))) 9 (Pq.two 1 (Pq.two 4 (Pq.seq [5,6,7] (Pq.one 8 (Pq.seq [10,11] Pq.done))) 8 (Pq.one 4 (Pq.seq [5,6,7] (Pq.seq [10,11] Pq.done)))) 8 (Pq.one 1 (Pq.one 4 (Pq.seq [5,6,7] (Pq.seq [10,11] Pq.done))))))) (by intro h; cases h) Qa mixed (by kernel_rfl) ?_;conv=>whnf
   have hE : Ext w1 w1.drew := (Ext.refl w1).drew
   have hb6l := h6.lt
   have h6d : At w1.drew b6 9 [.string item] := h6
   generalize w1.drew = wd at hE h6d ⊢
   refine ⟨.string item,⟨h6d.one0,by show ¬ (w1.heap.size ≤ b6); omega⟩,?_⟩;conv=>whnf
   refine ⟨?_,?_,?_⟩
   · refine (Xu (hQ.ext hE)).mono ?_
     rintro _ wc ⟨pc,S,rfl,hcat,hxc⟩
     have hE := hE.trans hxc
     refine ⟨Mod.of_ext hxc,?_⟩;conv=>whnf
     refine ⟨?_,?_,?_⟩
     · refine (Xa _ S pc _ hcat item now hQ.rows).mono ?_
       rintro _ wa ⟨rfl,hxa⟩
       have hE := hE.trans hxa
       refine ⟨Mod.of_ext hxa,?_⟩;conv=>whnf
       refine ⟨?_,?_⟩
       · intro b9 w8 hn8
         have hb9 : w1.heap.size ≤ b9 := by rw [hn8.block]; exact hE.size
         have hE := hE.trans hn8.ext
         have h9 := hn8.At
         refine ⟨Mod.of_ext hn8.ext,?_⟩;conv=>whnf
         intro b10 w9 hn9
         have hb10 : w1.heap.size ≤ b10 := by rw [hn9.block]; exact hE.size
         have hne : b9 ≠ b10 := by have := h9.lt; rw [hn9.block]; omega
         have hE := hE.trans hn9.ext
         have h10 := hn9.At
         have h9 := h9.ext hn9.ext
         refine ⟨Mod.of_ext hn9.ext,?_⟩;conv=>whnf
         refine Qc Qa (e := ty187) rfl h9 rfl rfl rfl (by simp [Qg,itC,Value.oneCell']) fun w12 h12 ho12 => ?_
         refine ⟨Qh ho12 hb9,?_⟩;conv=>whnf
         refine Qc Qa (e := ty4) rfl ((ho12.block b10 hne.symm).trans h10) rfl rfl rfl (by simp [Qg,Value.oneCell']) fun w13 h13 ho13 => ?_
         refine ⟨Qh ho13 hb10,?_⟩;conv=>whnf
         exact ⟨(b9,b10),⟨ho13.ext (ho12.ext hE hb9) hb10,(ho13.block b9 hne).trans h12,h13,hb9,hb10⟩,⟨rfl,rfl,rfl,rfl,rfl,trivial⟩⟩
       · intro b10 w9 hn9
         have hb10 : w1.heap.size ≤ b10 := by rw [hn9.block]; exact hE.size
         have hE := hE.trans hn9.ext
         have h10 := hn9.At
         refine ⟨Mod.of_ext hn9.ext,?_⟩;conv=>whnf
         intro b9 w8 hn8
         have hb9 : w1.heap.size ≤ b9 := by rw [hn8.block]; exact hE.size
         have hne : b9 ≠ b10 := by have := h10.lt; rw [hn8.block]; omega
         have h10 := h10.ext hn8.ext
         have hE := hE.trans hn8.ext
         have h9 := hn8.At
         refine ⟨Mod.of_ext hn8.ext,?_⟩;conv=>whnf
         refine Qc Qa (e := ty187) rfl h9 rfl rfl rfl (by simp [Qg,itC,Value.oneCell']) fun w12 h12 ho12 => ?_
         refine ⟨Qh ho12 hb9,?_⟩;conv=>whnf
         refine Qc Qa (e := ty4) rfl ((ho12.block b10 hne.symm).trans h10) rfl rfl rfl (by simp [Qg,Value.oneCell']) fun w13 h13 ho13 => ?_
         refine ⟨Qh ho13 hb10,?_⟩;conv=>whnf
         exact ⟨(b9,b10),⟨ho13.ext (ho12.ext hE hb9) hb10,(ho13.block b9 hne).trans h12,h13,hb9,hb10⟩,⟨rfl,rfl,rfl,rfl,rfl,trivial⟩⟩
     · intro b9 w8 hn8
       have hb9 : w1.heap.size ≤ b9 := by rw [hn8.block]; exact hE.size
       have hE := hE.trans hn8.ext
       have h9 := hn8.At
       have hcat := hcat.ext hn8.ext
       refine ⟨Mod.of_ext hn8.ext,?_⟩;conv=>whnf
       refine ⟨?_,?_⟩
       · refine (Xa _ S pc _ hcat item now hQ.rows).mono ?_
         rintro _ wa ⟨rfl,hxa⟩
         have hE := hE.trans hxa
         have h9 := h9.ext hxa
         refine ⟨Mod.of_ext hxa,?_⟩;conv=>whnf
         intro b10 w9 hn9
         have hb10 : w1.heap.size ≤ b10 := by rw [hn9.block]; exact hE.size
         have hne : b9 ≠ b10 := by have := h9.lt; rw [hn9.block]; omega
         have hE := hE.trans hn9.ext
         have h10 := hn9.At
         have h9 := h9.ext hn9.ext
         refine ⟨Mod.of_ext hn9.ext,?_⟩;conv=>whnf
         refine Qc Qa (e := ty187) rfl h9 rfl rfl rfl (by simp [Qg,itC,Value.oneCell']) fun w12 h12 ho12 => ?_
         refine ⟨Qh ho12 hb9,?_⟩;conv=>whnf
         refine Qc Qa (e := ty4) rfl ((ho12.block b10 hne.symm).trans h10) rfl rfl rfl (by simp [Qg,Value.oneCell']) fun w13 h13 ho13 => ?_
         refine ⟨Qh ho13 hb10,?_⟩;conv=>whnf
         exact ⟨(b9,b10),⟨ho13.ext (ho12.ext hE hb9) hb10,(ho13.block b9 hne).trans h12,h13,hb9,hb10⟩,⟨rfl,rfl,rfl,rfl,rfl,trivial⟩⟩
       · intro b10 w9 hn9
         have hb10 : w1.heap.size ≤ b10 := by rw [hn9.block]; exact hE.size
         have hne : b9 ≠ b10 := by have := h9.lt; rw [hn9.block]; omega
         have hE := hE.trans hn9.ext
         have h10 := hn9.At
         have h9 := h9.ext hn9.ext
         have hcat := hcat.ext hn9.ext
         refine ⟨Mod.of_ext hn9.ext,?_⟩;conv=>whnf
         refine (Xa _ S pc _ hcat item now hQ.rows).mono ?_
         rintro _ wa ⟨rfl,hxa⟩
         have hE := hE.trans hxa
         have h9 := h9.ext hxa
         have h10 := h10.ext hxa
         refine ⟨Mod.of_ext hxa,?_⟩;conv=>whnf
         refine Qc Qa (e := ty187) rfl h9 rfl rfl rfl (by simp [Qg,itC,Value.oneCell']) fun w12 h12 ho12 => ?_
         refine ⟨Qh ho12 hb9,?_⟩;conv=>whnf
         refine Qc Qa (e := ty4) rfl ((ho12.block b10 hne.symm).trans h10) rfl rfl rfl (by simp [Qg,Value.oneCell']) fun w13 h13 ho13 => ?_
         refine ⟨Qh ho13 hb10,?_⟩;conv=>whnf
         exact ⟨(b9,b10),⟨ho13.ext (ho12.ext hE hb9) hb10,(ho13.block b9 hne).trans h12,h13,hb9,hb10⟩,⟨rfl,rfl,rfl,rfl,rfl,trivial⟩⟩
     · intro b10 w9 hn9
       have hb10 : w1.heap.size ≤ b10 := by rw [hn9.block]; exact hE.size
       have hE := hE.trans hn9.ext
       have h10 := hn9.At
       have hcat := hcat.ext hn9.ext
       refine ⟨Mod.of_ext hn9.ext,?_⟩;conv=>whnf
       refine ⟨?_,?_⟩
       · refine (Xa _ S pc _ hcat item now hQ.rows).mono ?_
         rintro _ wa ⟨rfl,hxa⟩
         have hE := hE.trans hxa
         have h10 := h10.ext hxa
         refine ⟨Mod.of_ext hxa,?_⟩;conv=>whnf
         intro b9 w8 hn8
         have hb9 : w1.heap.size ≤ b9 := by rw [hn8.block]; exact hE.size
         have hne : b9 ≠ b10 := by have := h10.lt; rw [hn8.block]; omega
         have h10 := h10.ext hn8.ext
         have hE := hE.trans hn8.ext
         have h9 := hn8.At
         refine ⟨Mod.of_ext hn8.ext,?_⟩;conv=>whnf
         refine Qc Qa (e := ty187) rfl h9 rfl rfl rfl (by simp [Qg,itC,Value.oneCell']) fun w12 h12 ho12 => ?_
         refine ⟨Qh ho12 hb9,?_⟩;conv=>whnf
         refine Qc Qa (e := ty4) rfl ((ho12.block b10 hne.symm).trans h10) rfl rfl rfl (by simp [Qg,Value.oneCell']) fun w13 h13 ho13 => ?_
         refine ⟨Qh ho13 hb10,?_⟩;conv=>whnf
         exact ⟨(b9,b10),⟨ho13.ext (ho12.ext hE hb9) hb10,(ho13.block b9 hne).trans h12,h13,hb9,hb10⟩,⟨rfl,rfl,rfl,rfl,rfl,trivial⟩⟩
       · intro b9 w8 hn8
         have hb9 : w1.heap.size ≤ b9 := by rw [hn8.block]; exact hE.size
         have hne : b9 ≠ b10 := by have := h10.lt; rw [hn8.block]; omega
         have h10 := h10.ext hn8.ext
         have hE := hE.trans hn8.ext
         have h9 := hn8.At
         have hcat := hcat.ext hn8.ext
         refine ⟨Mod.of_ext hn8.ext,?_⟩;conv=>whnf
         refine (Xa _ S pc _ hcat item now hQ.rows).mono ?_
         rintro _ wa ⟨rfl,hxa⟩
         have hE := hE.trans hxa
         have h9 := h9.ext hxa
         have h10 := h10.ext hxa
         refine ⟨Mod.of_ext hxa,?_⟩;conv=>whnf
         refine Qc Qa (e := ty187) rfl h9 rfl rfl rfl (by simp [Qg,itC,Value.oneCell']) fun w12 h12 ho12 => ?_
         refine ⟨Qh ho12 hb9,?_⟩;conv=>whnf
         refine Qc Qa (e := ty4) rfl ((ho12.block b10 hne.symm).trans h10) rfl rfl rfl (by simp [Qg,Value.oneCell']) fun w13 h13 ho13 => ?_
         refine ⟨Qh ho13 hb10,?_⟩;conv=>whnf
         exact ⟨(b9,b10),⟨ho13.ext (ho12.ext hE hb9) hb10,(ho13.block b9 hne).trans h12,h13,hb9,hb10⟩,⟨rfl,rfl,rfl,rfl,rfl,trivial⟩⟩
   · intro b9 w8 hn8
     have hb9 : w1.heap.size ≤ b9 := by rw [hn8.block]; exact hE.size
     have hE := hE.trans hn8.ext
     have h9 := hn8.At
     refine ⟨Mod.of_ext hn8.ext,?_⟩;conv=>whnf
     refine ⟨?_,?_⟩
     · refine (Xu (hQ.ext hE)).mono ?_
       rintro _ wc ⟨pc,S,rfl,hcat,hxc⟩
       have hE := hE.trans hxc
       have h9 := h9.ext hxc
       refine ⟨Mod.of_ext hxc,?_⟩;conv=>whnf
       refine ⟨?_,?_⟩
       · refine (Xa _ S pc _ hcat item now hQ.rows).mono ?_
         rintro _ wa ⟨rfl,hxa⟩
         have hE := hE.trans hxa
         have h9 := h9.ext hxa
         refine ⟨Mod.of_ext hxa,?_⟩;conv=>whnf
         intro b10 w9 hn9
         have hb10 : w1.heap.size ≤ b10 := by rw [hn9.block]; exact hE.size
         have hne : b9 ≠ b10 := by have := h9.lt; rw [hn9.block]; omega
         have hE := hE.trans hn9.ext
         have h10 := hn9.At
         have h9 := h9.ext hn9.ext
         refine ⟨Mod.of_ext hn9.ext,?_⟩;conv=>whnf
         refine Qc Qa (e := ty187) rfl h9 rfl rfl rfl (by simp [Qg,itC,Value.oneCell']) fun w12 h12 ho12 => ?_
         refine ⟨Qh ho12 hb9,?_⟩;conv=>whnf
         refine Qc Qa (e := ty4) rfl ((ho12.block b10 hne.symm).trans h10) rfl rfl rfl (by simp [Qg,Value.oneCell']) fun w13 h13 ho13 => ?_
         refine ⟨Qh ho13 hb10,?_⟩;conv=>whnf
         exact ⟨(b9,b10),⟨ho13.ext (ho12.ext hE hb9) hb10,(ho13.block b9 hne).trans h12,h13,hb9,hb10⟩,⟨rfl,rfl,rfl,rfl,rfl,trivial⟩⟩
       · intro b10 w9 hn9
         have hb10 : w1.heap.size ≤ b10 := by rw [hn9.block]; exact hE.size
         have hne : b9 ≠ b10 := by have := h9.lt; rw [hn9.block]; omega
         have hE := hE.trans hn9.ext
         have h10 := hn9.At
         have h9 := h9.ext hn9.ext
         have hcat := hcat.ext hn9.ext
         refine ⟨Mod.of_ext hn9.ext,?_⟩;conv=>whnf
         refine (Xa _ S pc _ hcat item now hQ.rows).mono ?_
         rintro _ wa ⟨rfl,hxa⟩
         have hE := hE.trans hxa
         have h9 := h9.ext hxa
         have h10 := h10.ext hxa
         refine ⟨Mod.of_ext hxa,?_⟩;conv=>whnf
         refine Qc Qa (e := ty187) rfl h9 rfl rfl rfl (by simp [Qg,itC,Value.oneCell']) fun w12 h12 ho12 => ?_
         refine ⟨Qh ho12 hb9,?_⟩;conv=>whnf
         refine Qc Qa (e := ty4) rfl ((ho12.block b10 hne.symm).trans h10) rfl rfl rfl (by simp [Qg,Value.oneCell']) fun w13 h13 ho13 => ?_
         refine ⟨Qh ho13 hb10,?_⟩;conv=>whnf
         exact ⟨(b9,b10),⟨ho13.ext (ho12.ext hE hb9) hb10,(ho13.block b9 hne).trans h12,h13,hb9,hb10⟩,⟨rfl,rfl,rfl,rfl,rfl,trivial⟩⟩
     · intro b10 w9 hn9
       have hb10 : w1.heap.size ≤ b10 := by rw [hn9.block]; exact hE.size
       have hne : b9 ≠ b10 := by have := h9.lt; rw [hn9.block]; omega
       have hE := hE.trans hn9.ext
       have h10 := hn9.At
       have h9 := h9.ext hn9.ext
       refine ⟨Mod.of_ext hn9.ext,?_⟩;conv=>whnf
       refine (Xu (hQ.ext hE)).mono ?_
       rintro _ wc ⟨pc,S,rfl,hcat,hxc⟩
       have hE := hE.trans hxc
       have h9 := h9.ext hxc
       have h10 := h10.ext hxc
       refine ⟨Mod.of_ext hxc,?_⟩;conv=>whnf
       refine (Xa _ S pc _ hcat item now hQ.rows).mono ?_
       rintro _ wa ⟨rfl,hxa⟩
       have hE := hE.trans hxa
       have h9 := h9.ext hxa
       have h10 := h10.ext hxa
       refine ⟨Mod.of_ext hxa,?_⟩;conv=>whnf
       refine Qc Qa (e := ty187) rfl h9 rfl rfl rfl (by simp [Qg,itC,Value.oneCell']) fun w12 h12 ho12 => ?_
       refine ⟨Qh ho12 hb9,?_⟩;conv=>whnf
       refine Qc Qa (e := ty4) rfl ((ho12.block b10 hne.symm).trans h10) rfl rfl rfl (by simp [Qg,Value.oneCell']) fun w13 h13 ho13 => ?_
       refine ⟨Qh ho13 hb10,?_⟩;conv=>whnf
       exact ⟨(b9,b10),⟨ho13.ext (ho12.ext hE hb9) hb10,(ho13.block b9 hne).trans h12,h13,hb9,hb10⟩,⟨rfl,rfl,rfl,rfl,rfl,trivial⟩⟩
   · intro b10 w9 hn9
     have hb10 : w1.heap.size ≤ b10 := by rw [hn9.block]; exact hE.size
     have hE := hE.trans hn9.ext
     have h10 := hn9.At
     refine ⟨Mod.of_ext hn9.ext,?_⟩;conv=>whnf
     refine ⟨?_,?_⟩
     · refine (Xu (hQ.ext hE)).mono ?_
       rintro _ wc ⟨pc,S,rfl,hcat,hxc⟩
       have hE := hE.trans hxc
       have h10 := h10.ext hxc
       refine ⟨Mod.of_ext hxc,?_⟩;conv=>whnf
       refine ⟨?_,?_⟩
       · refine (Xa _ S pc _ hcat item now hQ.rows).mono ?_
         rintro _ wa ⟨rfl,hxa⟩
         have hE := hE.trans hxa
         have h10 := h10.ext hxa
         refine ⟨Mod.of_ext hxa,?_⟩;conv=>whnf
         intro b9 w8 hn8
         have hb9 : w1.heap.size ≤ b9 := by rw [hn8.block]; exact hE.size
         have hne : b9 ≠ b10 := by have := h10.lt; rw [hn8.block]; omega
         have h10 := h10.ext hn8.ext
         have hE := hE.trans hn8.ext
         have h9 := hn8.At
         refine ⟨Mod.of_ext hn8.ext,?_⟩;conv=>whnf
         refine Qc Qa (e := ty187) rfl h9 rfl rfl rfl (by simp [Qg,itC,Value.oneCell']) fun w12 h12 ho12 => ?_
         refine ⟨Qh ho12 hb9,?_⟩;conv=>whnf
         refine Qc Qa (e := ty4) rfl ((ho12.block b10 hne.symm).trans h10) rfl rfl rfl (by simp [Qg,Value.oneCell']) fun w13 h13 ho13 => ?_
         refine ⟨Qh ho13 hb10,?_⟩;conv=>whnf
         exact ⟨(b9,b10),⟨ho13.ext (ho12.ext hE hb9) hb10,(ho13.block b9 hne).trans h12,h13,hb9,hb10⟩,⟨rfl,rfl,rfl,rfl,rfl,trivial⟩⟩
       · intro b9 w8 hn8
         have hb9 : w1.heap.size ≤ b9 := by rw [hn8.block]; exact hE.size
         have hne : b9 ≠ b10 := by have := h10.lt; rw [hn8.block]; omega
         have h10 := h10.ext hn8.ext
         have hE := hE.trans hn8.ext
         have h9 := hn8.At
         have hcat := hcat.ext hn8.ext
         refine ⟨Mod.of_ext hn8.ext,?_⟩;conv=>whnf
         refine (Xa _ S pc _ hcat item now hQ.rows).mono ?_
         rintro _ wa ⟨rfl,hxa⟩
         have hE := hE.trans hxa
         have h9 := h9.ext hxa
         have h10 := h10.ext hxa
         refine ⟨Mod.of_ext hxa,?_⟩;conv=>whnf
         refine Qc Qa (e := ty187) rfl h9 rfl rfl rfl (by simp [Qg,itC,Value.oneCell']) fun w12 h12 ho12 => ?_
         refine ⟨Qh ho12 hb9,?_⟩;conv=>whnf
         refine Qc Qa (e := ty4) rfl ((ho12.block b10 hne.symm).trans h10) rfl rfl rfl (by simp [Qg,Value.oneCell']) fun w13 h13 ho13 => ?_
         refine ⟨Qh ho13 hb10,?_⟩;conv=>whnf
         exact ⟨(b9,b10),⟨ho13.ext (ho12.ext hE hb9) hb10,(ho13.block b9 hne).trans h12,h13,hb9,hb10⟩,⟨rfl,rfl,rfl,rfl,rfl,trivial⟩⟩
     · intro b9 w8 hn8
       have hb9 : w1.heap.size ≤ b9 := by rw [hn8.block]; exact hE.size
       have hne : b9 ≠ b10 := by have := h10.lt; rw [hn8.block]; omega
       have h10 := h10.ext hn8.ext
       have hE := hE.trans hn8.ext
       have h9 := hn8.At
       refine ⟨Mod.of_ext hn8.ext,?_⟩;conv=>whnf
       refine (Xu (hQ.ext hE)).mono ?_
       rintro _ wc ⟨pc,S,rfl,hcat,hxc⟩
       have hE := hE.trans hxc
       have h9 := h9.ext hxc
       have h10 := h10.ext hxc
       refine ⟨Mod.of_ext hxc,?_⟩;conv=>whnf
       refine (Xa _ S pc _ hcat item now hQ.rows).mono ?_
       rintro _ wa ⟨rfl,hxa⟩
       have hE := hE.trans hxa
       have h9 := h9.ext hxa
       have h10 := h10.ext hxa
       refine ⟨Mod.of_ext hxa,?_⟩;conv=>whnf
       refine Qc Qa (e := ty187) rfl h9 rfl rfl rfl (by simp [Qg,itC,Value.oneCell']) fun w12 h12 ho12 => ?_
       refine ⟨Qh ho12 hb9,?_⟩;conv=>whnf
       refine Qc Qa (e := ty4) rfl ((ho12.block b10 hne.symm).trans h10) rfl rfl rfl (by simp [Qg,Value.oneCell']) fun w13 h13 ho13 => ?_
       refine ⟨Qh ho13 hb10,?_⟩;conv=>whnf
       exact ⟨(b9,b10),⟨ho13.ext (ho12.ext hE hb9) hb10,(ho13.block b9 hne).trans h12,h13,hb9,hb10⟩,⟨rfl,rfl,rfl,rfl,rfl,trivial⟩⟩
 rintro ⟨b9,b10⟩ w2 ⟨hx12,h9,h10,hb9,hb10⟩
 simp only at h9 h10 hb9 hb10
 have hcd := Qdb (Qb6 hzr) item now
 rw [hcd] at h9 h10
 have hthere : (!((Qi z).filter (thQ item now)).isEmpty) = Qkg z item now := rfl
 have hitd : Qnl item ((Qi z).filter (thQ item now)) = Qgp z item now := rfl
 simp only [hthere,hitd] at h9 h10
 have htz : (Qgp z item now).tags.size < 1000 := Qdr item ((Qi z).filter (thQ item now)) fun y hy => Qcl hzm y (List.mem_filter.1 hy).1
 have htl : (Qlg z item now).length ≤ 8 := (Qkh item ((Qi z).filter (thQ item now)) fun y hy => Qcl hzm y (List.mem_filter.1 hy).1).2.2
 have hx2 := hx1.trans hx12
 replace h6 := h6.ext hx12
 have s1 := hx1.size
 (conv=>whnf);repeat(refine Sg ?_;(conv=>whnf))
 refine ⟨.string (Qgp z item now).tags,h9.one rfl,?_⟩; (conv=>whnf);repeat(refine Sg ?_;(conv=>whnf))
 refine ⟨sz2 (by decide) (by omega),?_⟩; (conv=>whnf);repeat(refine Sg ?_;(conv=>whnf))
 refine (Qbz (Qex (Qgp z item now).tags) w2 (hg.ext hx2) (by unfold Qex; rw [ByteArray.size_append]; have : (⟨#[59]⟩ : ByteArray).size = 1 := rfl; omega)).mono ?_
 rintro _ w3 ⟨A3,c3,rfl,hs3,hA3,hx3⟩
 have hti : Qw (Qex (Qgp z item now).tags) = Qlg z item now := rfl
 rw [hti] at hs3 ⊢
 (conv=>whnf);repeat(refine Sg ?_;(conv=>whnf))
 intro b11 w4 hn4; (conv=>whnf);repeat(refine Sg ?_;(conv=>whnf))
 refine Qc Qa (e := ty36) rfl hn4.At rfl rfl rfl (by simp [Qg,Value.oneCell']) fun w5 h11 ho5 => ?_
 have h11 : At w5 b11 36 [.slice A3 (Qlg z item now).length c3] := h11
 have hx25 : Ext w2 w5 := ho5.ext (hx3.trans hn4.ext) (by rw [hn4.block]; exact hx3.size)
 have hb11 : w2.heap.size ≤ b11 := by rw [hn4.block]; exact hx3.size
 have hs5 : SlT w5 A3 (Qlg z item now) := Qur.stay hs3 fun a ha hlt => (ho5.block _ (fun e => by rw [hn4.block] at e; omega)).trans (hn4.ext.block _ hlt)
 clear ho5 hn4 hs3 hx3
 replace h6 := h6.ext hx25
 replace h9 := h9.ext hx25
 replace h10 := h10.ext hx25
 have hx5 := hx2.trans hx25
 have s2 := hx2.size
 (conv=>whnf);repeat(refine Sg ?_;(conv=>whnf))
 refine (Qlo (hW.ext hx5) (Q5k c z hzm hok.len)).mono ?_
 rintro _ w6 ⟨pp,T',rfl,hW6,hT6,hM6,hpp,hppT,hP6⟩
 have hTl := hW.lt
 have s5 := hx5.size
 have hnT : ∀ k,w.heap.size ≤ k → k < w5.heap.size → w6.heap[k]? = w5.heap[k]? := fun k h1 h2 => hM6.block k h2 fun h => by have := hTl k h; omega
 replace h6 : At w6 b6 9 [.string item] := (hnT b6 hb6 h6.lt).trans h6
 replace h9 : At w6 b9 187 _ := (hnT b9 (by omega) h9.lt).trans h9
 replace h10 : At w6 b10 4 _ := (hnT b10 (by omega) h10.lt).trans h10
 replace h11 : At w6 b11 36 _ := (hnT b11 (by omega) h11.lt).trans h11
 have hg6 : Gl w6 := (hg.ext hx5).mod hM6 hTw
 have h12l := hpp
 (conv=>whnf);repeat(refine Sg ?_;(conv=>whnf))
 intro b12 w7 hn7; (conv=>whnf);repeat(refine Sg ?_;(conv=>whnf))
 refine Qc Qa (e := ty80) rfl hn7.At rfl rfl rfl (by simp [Qg,Value.oneCell']) fun w8 h12 ho8 => ?_
 have h12 : At w8 b12 80 [.pointer (some ⟨pp,0,none⟩)] := h12
 have hb12 : w6.heap.size ≤ b12 := by rw [hn7.block]; exact Nat.le_refl _
 have hx68 : Ext w6 w8 := ho8.ext hn7.ext hb12
 clear ho8 hn7
 (conv=>whnf);repeat(refine Sg ?_;(conv=>whnf))
 refine (Qoz p z (fun _ => False) w8).mono ?_
 rintro _ w9 ⟨bw,ba,rfl,hbw,hba,hbal,hap9,hx9⟩; (conv=>whnf);repeat(refine Sg ?_;(conv=>whnf))
 intro b13 w10 hn10; (conv=>whnf);repeat(refine Sg ?_;(conv=>whnf))
 refine Qc Qa (e := ty218) rfl hn10.At rfl rfl rfl (by simp [Qg,apV,Value.oneCell']) fun w11 h13 ho11 => ?_
 have h13 : At w11 b13 218 [apV bw ba] := h13
 have hb13 : w9.heap.size ≤ b13 := by rw [hn10.block]; exact Nat.le_refl _
 have hx911 : Ext w9 w11 := ho11.ext hn10.ext hb13
 clear ho11 hn10
 (conv=>whnf);repeat(refine Sg ?_;(conv=>whnf))
 intro b17 w12 hn12; (conv=>whnf);repeat(refine Sg ?_;(conv=>whnf))
 refine Qc Qa (e := ty224) rfl hn12.At rfl rfl rfl (by simp [Qg,Q64,Value.oneCell']) fun w13 h17 ho13 => ?_
 have h17 : At w13 b17 224 (Q64 b6 b12 b11 b13 b10 b9) := h17
 have hb17 : w11.heap.size ≤ b17 := by rw [hn12.block]; exact Nat.le_refl _
 have hx1113 : Ext w11 w13 := ho13.ext hn12.ext hb17
 clear ho13 hn12
 have hx613 := hx68.trans (hx9.trans (hx911.trans hx1113))
 have hx813 := hx9.trans (hx911.trans hx1113)
 have s6 := hM6.size
 have s8 := hx68.size
 have s9 := hx9.size
 have s11 := hx911.size
 have s13 := hx1113.size
 have lbw := hap9.wb.lt
 have l6 := h6.lt
 have l9 := h9.lt
 have l10 := h10.lt
 have l11 := h11.lt
 have l12 := h12.lt
 have hT'l := hW6.lt
 have hppl : pp < w6.heap.size := by obtain ⟨t,sh,h,_⟩ := hP6; exact h.lt
 have hLk : Q28 w13 p bw ba b6 b12 b11 b13 pp c z item (Qlg z item now) (fun _ => False) := by
  refine ⟨hap9.ext (hx911.trans hx1113),by omega,h6.ext hx613,h12.ext hx813,⟨fun k => k = pp ∨ T' k,hP6.keep fun k hk hs => ⟨hx613.block k hk,hs⟩,?_⟩,⟨A3,c3,h11.ext hx613,?_,fun a ha hn => ?_⟩,h13.ext hx1113,by omega,by omega,by omega,by omega⟩
  · rintro (h | h)
    · omega
    · have := hT'l ba h; omega
  · refine Qur.stay hs5 fun a ha hlt => (hx613.block a.block (by omega)).trans (hM6.block a.block hlt fun h => ?_)
    have h1 := hTl _ h
    have h2 := hA3 a ha
    omega
  · have h2 := hA3 a ha
    obtain ⟨y,ys,hyy⟩ := List.exists_cons_of_ne_nil hn
    have hs5' := hs5
    rw [hyy] at hs5'
    obtain ⟨a',ha',hc'⟩ := hs5' 0 y rfl
    have : a' = a := by rw [ha] at ha'; injection ha' with e; exact e.symm
    subst this
    have hl := cell_lt (Xb hc')
    rw [add_block] at hl
    omega
 have hW13 := hW6.ext hx613
 have hg13 := hg6.ext hx613
 replace h9 := h9.ext hx613
 replace h10 := h10.ext hx613
 have hM13 : Mod T w w13 := ((Mod.of_ext hx5).trans hM6).trans (Mod.of_ext hx613)
 have hb9a : b9 ≠ ba := by omega
 have hb10a : b10 ≠ ba := by omega
 have hb17a : b17 ≠ ba := by omega
 (conv=>whnf);repeat(refine Sg ?_;(conv=>whnf))
 obtain ⟨v1,T1,hQ13,_⟩ := id hW13
 refine (Qb4 hQ13).mono ?_
 rintro _ w14 ⟨pw,S4,rfl,hcr,hx14⟩; (conv=>whnf);repeat(refine Sg ?_;(conv=>whnf))
 have hcp := (Qbx c.width z).2
 have hzp : (Xn z).length < 1000000 := by
  have h2 := List.length_filter_le peB z
  unfold Xn
  omega
 refine (Qiv w14 S4 pw _ _ hcr person (by
  have : (evs (Qm c.width z).rs).length = (Xn z).length := by rw [hcp]
  simp [evs] at this
  omega)).mono ?_
 rintro _ w15 ⟨A15,c15,rfl,ho15,hx15⟩
 rw [hcp] at ho15 ⊢
 have hHe : hist (Xn z) person = Qfc z person := rfl
 rw [hHe] at ho15 ⊢
 have hHl := Qt2 z person
 have hHm : ∀ e ∈ Qfc z person,e ∈ z ∧ peB e = true := fun e he => ⟨(Qyj he).1,(Qyj he).2.1⟩
 unfold Qn2
 generalize Qfc z person = H at ho15 hHl hHm ⊢
 have hx1315 := hx14.trans hx15
 have s15 := hx1315.size
 have hsH := ho15.sl Qa5
 have hHa : ∀ a,A15 = some a → a.block ≠ ba := fun a ha => by
  have h1 := (ho15.block ha).1
  have h2 := hx14.size
  omega
 have hHb : ∀ a,A15 = some a → a.block < w15.heap.size := fun a ha => (ho15.block ha).2
 clear ho15 hcr hcp
 replace hLk := hLk.ext hx1315
 have hW15 := hW13.ext hx1315
 have hg15 := hg13.ext hx1315
 replace h9 := h9.ext hx1315
 replace h10 := h10.ext hx1315
 replace h17 := h17.ext hx1315
 have hM15 := hM13.trans (Mod.of_ext hx1315)
 have hTba : ¬ T' ba := fun h => by have := hT'l ba h; omega
 have hba10 : 10 ≤ ba := by omega
 (conv=>whnf);repeat(refine Sg ?_;(conv=>whnf))
 refine Qj Qa (fun (q:Nat × Option Addr × Nat × List Ev) w' => q.1 ≤ H.length ∧ q.2.2.2 = (H.take q.1).filter (Qdl c z item now) ∧ Own evC 8 49 w15.heap.size w' q.2.1 q.2.2.1 q.2.2.2 ∧ ApAt w' p bw ba z (rowB q.2.1) ∧ Mod (fun k => k = ba) w15 w')
  (fun | (k,B,d,U) => [(17,.pointer (some ⟨b17,0,none⟩)),(18,.slice B U.length d),(54,.slice A15 H.length c15),(55,.int .i64 H.length),(56,.int .i64 (k:Nat))]) (fun q => H.length - q.1) (0,none,0,[]) ⟨Nat.zero_le _,rfl,Own.nil,hLk.ap.keepR (fun k _ _ => ⟨rfl,fun h => by obtain ⟨a,ha,_⟩ := h; cases ha⟩) id id,Mod.refl _ _⟩ ⟨rfl,rfl,rfl,rfl,rfl,trivial⟩ ?_
 rintro ⟨k,B,d,U⟩ w16 ⟨hk,hU,hown,hap,hM16⟩
 simp only at hk hU hown hap
 have hUl : U.length ≤ k := by
  rw [hU]
  have := List.length_filter_le (Qdl c z item now) (H.take k)
  rw [List.length_take] at this
  omega
 conv=>whnf
 constructor
 · intro hlt
   have hlt : k < H.length := by simpa using hlt
   obtain ⟨a,hA,hc⟩ := (Qbb hsH fun a ha => hM16.block a.block (hHb a ha) (hHa a ha)).get hlt
   subst hA
   have htk := Qck H k hlt
   have hme := hHm H[k] (List.getElem_mem hlt)
   generalize H[k] = e at hc htk hme
   obtain ⟨hez,hpe⟩ := hme
   have hmm := hzm e hez
   have hkd := Qns hmm
   have hk11 := (Q6g hmm).1 hpe
   have hsn : (H.take (k + 1)).filter (Qdl c z item now) = U ++ if Qdl c z item now e = true then [e] else [] := by
    rw [htk,hU,List.filter_append]
    cases h : Qdl c z item now e <;> simp [h]
   have hLk16 := hLk.go hap hM16
   have hW16 := hW15.keep fun b hb => hM16.block b (hW15.lt b hb) (fun e => hTba (e ▸ hb))
   have hg16 := hg15.mod hM16 fun k hk => by rw [hk]; exact hba10
   have h9' := h9.mod hM16 hb9a
   have h10' := h10.mod hM16 hb10a
   have h17' := h17.mod hM16 hb17a
   (conv=>whnf);repeat(refine Sg ?_;(conv=>whnf))
   refine ⟨a,⟨rfl,by omega,by omega⟩,?_⟩; (conv=>whnf);repeat(refine Sg ?_;(conv=>whnf))
   refine ⟨evC e,⟨rfl,hc⟩,?_⟩; (conv=>whnf);repeat(refine Sg ?_;(conv=>whnf))
   intro b20 w17 hn17; (conv=>whnf);repeat(refine Sg ?_;(conv=>whnf))
   refine Qc Qa (e := ty49) rfl hn17.At rfl rfl rfl (Qaw e) fun w18 h20 ho18 => ?_
   have h20 : At w18 b20 49 (evC e) := h20
   have hb20 : w16.heap.size ≤ b20 := by rw [hn17.block]; exact Nat.le_refl _
   have hx1618 : Ext w16 w18 := ho18.ext hn17.ext hb20
   have s16 := hM16.size
   clear ho18 hn17
   (conv=>whnf);repeat(refine Sg ?_;(conv=>whnf))
   refine Qin (ι := Unit) (fun _ => [(17,.pointer (some ⟨b17,0,none⟩)),(18,.slice B U.length d),(20,.pointer (some ⟨b20,0,none⟩)),(54,.slice (some a) H.length c15),(55,.int .i64 H.length),(56,.int .i64 (k:Nat)),(65,.bool (Qdl c z item now e))]) (fun _ w' => ApAt w' p bw ba z (rowB B) ∧ Mod (fun k => k = ba) w18 w') ?_ ?_
   · refine Dr .same [0,1,2,3,4] [5] ?_;conv=>whnf
     have hxd : Ext w18 w18.drew := (Ext.refl w18).drew
     have h20d := h20.ext hxd
     have hxa := hx1618.trans hxd
     generalize w18.drew = w19 at hxd h20d hxa ⊢
     refine ⟨.int .i64 e.kind,h20d.one rfl,?_⟩;conv=>whnf
     refine ⟨⟨by omega,by omega⟩,?_⟩;conv=>whnf
     obtain ⟨fv,hfv,hcase⟩ := Q53 (b6 := b6) (b12 := b12) (b11 := b11) (b13 := b13) (b10 := b10) (b9 := b9) hkd.1 hk11
     rcases hcase with ⟨k1,k2,rfl⟩ | ⟨k1,rfl⟩ | ⟨k1,k2,rfl⟩
     · have hcv : Qdl c z item now e = Qlu c z item (Qlg z item now) e := by unfold Qdl; rw [if_neg (by omega)]
       rw [hcv]
       refine ⟨_,(h17'.ext hxa).one (by rw [Nat.mul_one]; exact hfv),?_⟩;conv=>whnf
       refine ⟨evC e,⟨rfl,h20d.all⟩,?_⟩;conv=>whnf
       refine (Qv9 (hW16.ext hxa) (hg16.ext hxa) hlen (hLk16.ext hxa) (fun k hk => by obtain ⟨y,hy,rfl⟩ := hk; have := (hown.block hy).2; have := hxa.size; omega) (by omega) hsl e hez hpe).mono ?_
       rintro _ w20 ⟨rfl,hap20,hM20⟩;conv=>whnf
       exact ⟨(),⟨hap20,(Mod.of_ext hxd).trans hM20⟩,⟨rfl,rfl,rfl,rfl,rfl,rfl,rfl,trivial⟩⟩
     · have hcv : Qdl c z item now e = (Qkg z item now && decide (e.text = (Qgp z item now).maker)) := by unfold Qdl; rw [if_pos k1]
       rw [hcv]
       refine ⟨_,(h17'.ext hxa).one (by rw [Nat.mul_one]; exact hfv),?_⟩;conv=>whnf
       refine ⟨evC e,⟨rfl,h20d.all⟩,?_⟩;conv=>whnf
       refine (Qwb b10 b9 _ _ e w19 (h10'.ext hxa) (h9'.ext hxa)).mono ?_
       rintro _ w20 ⟨rfl,hx20⟩;conv=>whnf
       exact ⟨(),⟨(hap.ext hxa).ext hx20,Mod.of_ext (hxd.trans hx20)⟩,⟨rfl,rfl,rfl,rfl,rfl,rfl,rfl,trivial⟩⟩
     · rw [Qvh k1 k2]
       refine ⟨_,(h17'.ext hxa).one (by rw [Nat.mul_one]; exact hfv),?_⟩;conv=>whnf
       refine ⟨evC e,⟨rfl,h20d.all⟩,?_⟩;conv=>whnf
       refine (Qwc e w19).mono ?_
       rintro _ w20 ⟨rfl,hx20⟩;conv=>whnf
       exact ⟨(),⟨(hap.ext hxa).ext hx20,Mod.of_ext (hxd.trans hx20)⟩,⟨rfl,rfl,rfl,rfl,rfl,rfl,rfl,trivial⟩⟩
   rintro _ w20 ⟨hap20,hM20⟩
   have hM1520 := hM16.trans ((Mod.of_ext hx1618).trans hM20)
   have hb20a : b20 ≠ ba := by omega
   have h20' := h20.mod hM20 hb20a
   have hown20 := (hown.ext hx1618).keep fun a ha => hM20.block a.block (by have := ((hown.ext hx1618).block ha).2; omega) (fun e => by have := ((hown.ext hx1618).block ha).1; omega)
   (conv=>whnf);repeat(refine Sg ?_;(conv=>whnf))
   constructor
   · intro hq
     have hq : Qdl c z item now e = true := hq
     rw [if_pos hq] at hsn
     (conv=>whnf);repeat(refine Sg ?_;(conv=>whnf))
     refine ⟨evC e,⟨rfl,h20'.all⟩,?_⟩; (conv=>whnf);repeat(refine Sg ?_;(conv=>whnf))
     intro b21 w21 hn21; (conv=>whnf);repeat(refine Sg ?_;(conv=>whnf))
     refine X4 Qoa (l := U) (news := [e]) rfl (hown20.ext hn21.ext) rfl (Qoa.new1 (x := e) hn21) (by simp; omega) (by have := hM1520.size; have := hn21.ext.size; omega) fun A22 c22 w22 hown22 hg22 hA22 => ?_
     have hM22 : Mod (fun k => k = ba) w15 w22 := Qn (hM1520.trans (Mod.of_ext hn21.ext)) ((Xq (S := fun k => w15.heap.size ≤ k) hg22 (Qdu (hown20.ext hn21.ext))).mono fun k _ hk => .inr hk)
     have hnB : ∀ b,b < w15.heap.size → ¬ rowB B b := fun b hb h => by
      obtain ⟨y,hy,rfl⟩ := h
      have := (hown20.block hy).1
      omega
     have hap22 : ApAt w22 p bw ba z (rowB A22) := (hap20.ext hn21.ext).keepR (fun k hk hn => Qv2 hg22 hA22 k hk hn) (hnB bw (by omega)) (hnB ba (by omega))
     generalize U ++ [e] = U2 at hown22 hsn ⊢
     (conv=>whnf);repeat(refine Sg ?_;(conv=>whnf))
     refine ⟨_,wrap_succ (by omega),?_⟩; (conv=>whnf);repeat(refine Sg ?_;(conv=>whnf))
     exact ⟨(k + 1,A22,c22,U2),by simp only; omega,⟨by simp only; omega,hsn.symm,hown22,hap22,hM22⟩,⟨rfl,rfl,rfl,rfl,rfl,trivial⟩⟩
   · intro hq
     have hq : ¬ Qdl c z item now e = true := by rw [Bool.not_eq_true]; exact hq
     rw [if_neg hq,List.append_nil] at hsn
     (conv=>whnf);repeat(refine Sg ?_;(conv=>whnf))
     refine ⟨_,wrap_succ (by omega),?_⟩; (conv=>whnf);repeat(refine Sg ?_;(conv=>whnf))
     exact ⟨(k + 1,B,d,U),by simp only; omega,⟨by simp only; omega,hsn.symm,hown20,hap20,hM1520⟩,⟨rfl,rfl,rfl,rfl,rfl,trivial⟩⟩
 · intro hge
   have hge : H.length ≤ k := by simpa using hge
   rw [List.take_of_length_le hge] at hU
   rw [← hU]
   (conv=>whnf);repeat(refine Sg ?_;(conv=>whnf))
   refine ⟨B,d,rfl,Qg0 hown (by have := hM15.size; omega),Qn hM15 (hM16.mono fun k _ hk => .inr (by rw [hk]; omega)),T',hW15.keep fun b hb => hM16.block b (hW15.lt b hb) (fun e => hTba (e ▸ hb)),fun k hk => (hT6 k hk).imp id fun h => by omega,fun a ha h => ?_⟩
   have h1 := (hown.block ha).1
   have h2 := hT'l a.block h
   omega
end Go.Proofs.YtopncieoolkhjaaGreatDoor
