/- Several texts in one: Rf1, Rf2, Rf3. -/
import Derived.Test.YtopncieoolkhjaaGreatDoorGN
import Derived.Test.YtopncieoolkhjaaGreatDoorHSe7
import Derived.Test.YtopncieoolkhjaaGreatDoorHPl8
import Derived.Test.YtopncieoolkhjaaGreatDoorGL
set_option linter.unusedVariables false
set_option linter.unusedSimpArgs false
namespace Go.Proofs.YtopncieoolkhjaaGreatDoor
open Go.Se Go.RowKit
theorem Qli (age half:Int) (ha:-4611686018427387904 ≤ age ∧ age ≤ 4611686018427387904) (hh:half ≤ 4611686018427387904) (w:World) :
 Cal Tryz.prog 70 [.int .i64 age,.int .i64 half] w fun r w' => r = .int .i64 (Xh age half) ∧ w' = w := by
 refine Fi Tryz.func70 rfl _ rfl rfl ?_;conv=>whnf
 refine Q9 Qa (ι := Int) (fun q => [(0,.int .i64 age),(1,.int .i64 q)]) (fun q w' => q = max half 1 ∧ w' = w) ?_ ?_
 · (conv=>whnf)
   constructor
   · intro hc
     have hc : half < 1 := by simpa using hc
     conv=>whnf
     exact ⟨1,⟨by omega,rfl⟩,⟨rfl,rfl,trivial⟩⟩
   · intro hc
     have hc : ¬ half < 1 := by simpa using hc
     conv=>whnf
     exact ⟨half,⟨by omega,rfl⟩,⟨rfl,rfl,trivial⟩⟩
 rintro h w1 ⟨hh1,hw1⟩
 subst hw1
 have hh2 : 1 ≤ h ∧ h ≤ 4611686018427387904 := by omega
 conv=>whnf
 constructor
 · intro hc
   have hc : age < 0 := by simpa using hc
   conv=>whnf
   exact ⟨by rw [Qmr hc],rfl⟩
 intro hc
 have hc : ¬ age < 0 := by simpa using hc
 rw [Qss hc,← hh1]
 conv=>whnf
 refine Qe Qa (fun (q:Nat × Int) w' => q.1 * h ≤ age ∧ q.2 = age - q.1 * h ∧ w' = w1) (fun | (i,t) => [(0,.int .i64 t),(1,.int .i64 h),(5,.int .i64 (Qd2 i))]) (fun q => 21 - q.1) (0,age) ⟨by simp; omega,by simp,rfl⟩ ⟨rfl,rfl,rfl,trivial⟩ ?_
 rintro ⟨i,t⟩ w2 ⟨hi,ht,hw2⟩
 simp only at hi ht
 subst hw2
 have hi0 : 0 ≤ (i:Int) * h := Int.mul_nonneg (by omega) (by omega)
 have hm : ((i + 1 : Nat) : Int) * h = i * h + h := by rw [Int.natCast_succ,Int.add_mul,Int.one_mul]
 conv=>whnf
 constructor
 · intro hq
   have hq : h ≤ t ∧ 0 < Qd2 i := by simpa using hq
   have hi20 : i ≤ 20 := by
    rcases Nat.lt_or_ge 20 i with h1 | h1
    · have := Qfu (i := i) (by omega); omega
    · exact h1
   have hb := Qnf i
   have hb1 := Qnf (i + 1)
   have hs := Qvq i
   conv=>whnf
   refine ⟨t - h,wrap_eq rfl ⟨by omega,by omega⟩,?_⟩;conv=>whnf
   refine ⟨Qd2 (i + 1),⟨by decide,wrap_eq hs ⟨by omega,by omega⟩⟩,?_⟩;conv=>whnf
   exact ⟨(i + 1,t - h),by simp only; omega,⟨by simp only; omega,by simp only; omega,rfl⟩,⟨rfl,rfl,rfl,trivial⟩⟩
 · intro hq
   have hq : ¬ (h ≤ t ∧ 0 < Qd2 i) := by
    have hq : (decide (h ≤ t) && decide (0 < Qd2 i)) = false := hq
    simpa using hq
   have hb := Qnf i
   have hdle : (i:Int) ≤ age / h := (Int.le_ediv_iff_mul_le (by omega)).2 hi
   have hd0 : 0 ≤ age / h := Int.ediv_nonneg (by omega) (by omega)
   have hval : Qd2 (age / h).toNat = Qd2 i := by
    by_cases h1 : h ≤ t
    · have hz : ¬ 0 < Qd2 i := fun h2 => hq ⟨h1,h2⟩
      have hi21 : 21 ≤ i := by
       rcases Nat.lt_or_ge i 21 with h2 | h2
       · exact absurd (Qx7 (by omega)) hz
       · exact h2
      rw [Qfu hi21,Qfu (by omega)]
    · have : age / h < ((i + 1 : Nat) : Int) := Int.ediv_lt_of_lt_mul (by omega) (by rw [hm]; omega)
      have : (age / h).toNat = i := by omega
      rw [this]
   rw [hval]
   conv=>whnf
   exact ⟨rfl,rfl⟩
abbrev A11 := ByteArray × Int × Int
def Qod (x:A11) : List Value := [.string x.1,.int .i64 x.2.1,.int .i64 x.2.2]
theorem Qiy (x:A11) : (Qod x).length = 3 := rfl
theorem Qsy (x:A11) : ∀ u ∈ Qod x,u.oneCell' = true := by simp [Qod,Value.oneCell']
theorem Qfh : Qqf Tryz.prog 146 151 Qod 3 32 := ⟨by kernel_rfl,⟨_,ty151_ok,rfl,rfl⟩,by151,by decide,by decide,Qiy,Qsy⟩
def Quw (x:A11) : Prop := (1 ≤ x.1.size ∧ x.1.size ≤ 24) ∧ (0 ≤ x.2.1 ∧ x.2.1 ≤ 1099511627776) ∧ (0 ≤ x.2.2 ∧ x.2.2 ≤ 1048576)
theorem Qr1 (x:A11) (h:Quw x) (w:World) : Cal Tryz.prog 130 [.agg (Qod x).toArray] w fun r w' => r = .bool true ∧ Ext w w' := by
 obtain ⟨h1,h2,h3⟩ := h
 refine Fi Tryz.func130 rfl _ rfl rfl ?_;conv=>whnf
 intro b1 w1 hn1
 have hb : At w1 b1 _ (Qod x) := hn1.At
 conv=>whnf
 refine ⟨.string x.1,hb.one rfl,?_⟩;conv=>whnf
 refine ⟨.string x.1,fun _ => hb.one rfl,?_⟩;conv=>whnf
 refine ⟨.int .i64 x.2.1,fun _ => hb.one rfl,?_⟩;conv=>whnf
 refine ⟨.int .i64 x.2.1,fun _ => hb.one rfl,?_⟩;conv=>whnf
 refine ⟨.int .i64 x.2.2,fun _ => hb.one rfl,?_⟩;conv=>whnf
 refine ⟨.int .i64 x.2.2,fun _ => hb.one rfl,?_⟩;conv=>whnf
 refine ⟨?_,hn1.ext⟩
 have e1 : decide ((1:Int) ≤ x.1.size) = true := by simp; omega
 have e2 : decide ((x.1.size : Int) ≤ 24) = true := by simp; omega
 simp [e1,e2,h2.1,h2.2,h3.1,h3.2]
def C11 (w:World) (p:Nat) (half:Int) (L:List A11) : Prop := ∃ A c,At w p 148 [.int .i64 half,.slice A L.length c,.int .i64 L.length] ∧ Sl Qod 3 w A L ∧ ∀ a,A = some a → a.block ≠ p
theorem C11.ext {w w1:World} {p:Nat} {half:Int} {L:List A11} (h:C11 w p half L) (hx:Ext w w1) : C11 w1 p half L := by
 obtain ⟨A,c,h1,h2,h3⟩ := h
 exact ⟨A,c,h1.ext hx,h2.ext hx,h3⟩
theorem Qr5 (w:World) (p:Nat) (half:Int) (L:List A11) (h:C11 w p half L) (x:A11) (hx0:Quw x) (hl:L.length < 100000) :
 Cal Tryz.prog 69 [.pointer (some ⟨p,0,none⟩),.agg (Qod x).toArray] w fun r w' => r = .bool true ∧ C11 w' p half (L ++ [x]) ∧ Mod (fun k => k = p) w w' := by
 obtain ⟨A,c,hp,hsl,hA⟩ := h
 have hpl := hp.lt
 refine Fi Tryz.func69 rfl _ rfl rfl ?_;conv=>whnf
 intro b1 w1 hn1
 have hb : At w1 b1 _ (Qod x) := hn1.At
 have hx1 := hn1.ext
 have hb1 := hn1.block
 conv=>whnf
 refine ⟨Qod x,⟨rfl,hb.all⟩,?_⟩;conv=>whnf
 refine (Qr1 x hx0 w1).mono ?_
 rintro _ w2 ⟨rfl,hx2⟩
 replace hb := hb.ext hx2
 replace hx1 := hx1.trans hx2
 replace hp := hp.ext hx1
 replace hsl := hsl.ext hx1
 clear hn1 hx2
 conv=>whnf
 refine ⟨.int .i64 L.length,fun _ => hp.one rfl,?_⟩;conv=>whnf
 constructor
 · intro hc
   exfalso
   simp at hc
   omega
 intro _
 conv=>whnf
 refine Qn0 (ι := Option Addr × Nat) (fun j => [(0,.pointer (some ⟨p,0,none⟩))]) (fun j w' => Mod (fun k => k = p) w2 w' ∧ At w' p 148 [.int .i64 half,.slice j.1 (L ++ [x]).length j.2,.int .i64 L.length] ∧ Own Qod 3 151 w2.heap.size w' j.1 j.2 (L ++ [x])) ?_ ?_
 · refine Qlw (.mods (fun k => w2.heap.size ≤ k)) (Pl.seq [0,2,3,4,5,7] (Pl.two 1 (Pl.seq [] (Pl.two 6 (Pl.seq [8,9] Pl.done) 8 (Pl.seq [6,9] Pl.done))) 8 (Pl.seq [1,6,9] Pl.done))) [10,11,12] (by intro h; cases h) Qa mixed (by kernel_rfl) ?_;conv=>whnf
   have hp2 := hp.lt
   have hb2 := hb.lt
   have hp3 : At w2.drew p 148 [.int .i64 half,.slice A L.length c,.int .i64 L.length] := hp
   replace hb : At w2.drew b1 _ (Qod x) := hb
   replace hsl := hsl.ext (Ext.refl w2).drew
   have hx3 := (Ext.refl w2).drew
   generalize w2.drew = w3 at hp3 hb hsl hx3 ⊢
   refine ⟨.slice A L.length c,⟨hp3.one rfl,by show ¬ (w2.heap.size ≤ p); omega⟩,?_⟩;conv=>whnf
   refine ⟨Qod x,⟨rfl,hb.all,by show ¬ (w2.heap.size ≤ b1); omega⟩,?_⟩;conv=>whnf
   refine ⟨?_,?_⟩
   · intro b6 w6 hn6
     have o6 := (Qfh).made (base := w2.heap.size) hn6 (hx3).size
     refine ⟨Mod.of_ext hn6.ext,?_⟩;conv=>whnf
     refine ⟨?_,?_⟩
     · refine Qn Qfh (l := []) (news := L) rfl (o6) (rfl) ((hsl).ext hn6.ext) (by simp; omega) (Nat.le_trans (hx3).size hn6.ext.size) fun A7 c7 w7 hown7 hg7 hA7 => ?_
       refine ⟨Qp hg7 (Qz o6),?_⟩;conv=>whnf
       intro b8 w8 hn8
       refine ⟨Mod.of_ext hn8.ext,?_⟩;conv=>whnf
       refine Qn Qfh (l := L) (news := [x]) rfl (hown7.ext hn8.ext) rfl ((Qfh).new1 hn8) (by simp; omega) (Nat.le_trans (Nat.le_trans (Nat.le_trans (hx3).size hn6.ext.size) hg7.size) hn8.ext.size) fun A9 c9 w9 hown9 hg9 hA9 => ?_
       refine ⟨Qp hg9 (Qz hown7),?_⟩;conv=>whnf
       have hE9 := Ql ((Ql ((hx3).trans hn6.ext) hg7 (Qz o6)).trans hn8.ext) hg9 (Qz hown7)
       generalize L ++ [x] = L9 at hown9 ⊢
       refine Qh Qa (e := ty146) rfl ((hp).ext hE9) rfl rfl rfl (by simp [Qj,Value.oneCell']) fun w10 h10 ho10 => ?_
       conv=>whnf
       exact ⟨(A9,c9),⟨(Mod.of_ext hE9).trans (Qi ho10 rfl),h10,hown9.keep fun a ha => ho10.block a.block (fun e => by have := (hown9.block ha).1; have := (hp).lt; omega)⟩,⟨rfl,trivial⟩⟩
     · intro b8 w8 hn8
       refine ⟨Mod.of_ext hn8.ext,?_⟩;conv=>whnf
       refine Qn Qfh (l := []) (news := L) rfl (o6.ext hn8.ext) (rfl) (((hsl).ext hn6.ext).ext hn8.ext) (by simp; omega) (Nat.le_trans (Nat.le_trans (hx3).size hn6.ext.size) hn8.ext.size) fun A7 c7 w7 hown7 hg7 hA7 => ?_
       refine ⟨Qp hg7 (Qz o6),?_⟩;conv=>whnf
       have h8 := Qcs ((Qfh).new1 hn8) (w1 := w7) (fun a' ha' => by
        obtain rfl : (⟨b8,0,none⟩ : Addr) = a' := by simpa using ha'
        exact hg7.block b8 (by rw [hn8.block]; have := hn6.size; have := hn8.size; omega) (fun e' => by
         have h68 : b8 = b6 := by simpa using e'
         have := hn6.size
         have := hn8.size
         rw [hn6.block,hn8.block] at h68
         omega))
       refine Qn Qfh (l := L) (news := [x]) rfl (hown7) rfl (h8) (by simp; omega) (Nat.le_trans (Nat.le_trans (Nat.le_trans (hx3).size hn6.ext.size) hn8.ext.size) hg7.size) fun A9 c9 w9 hown9 hg9 hA9 => ?_
       refine ⟨Qp hg9 (Qz hown7),?_⟩;conv=>whnf
       have hE9 := Ql (Ql (((hx3).trans hn6.ext).trans hn8.ext) hg7 (Qz o6)) hg9 (Qz hown7)
       generalize L ++ [x] = L9 at hown9 ⊢
       refine Qh Qa (e := ty146) rfl ((hp).ext hE9) rfl rfl rfl (by simp [Qj,Value.oneCell']) fun w10 h10 ho10 => ?_
       conv=>whnf
       exact ⟨(A9,c9),⟨(Mod.of_ext hE9).trans (Qi ho10 rfl),h10,hown9.keep fun a ha => ho10.block a.block (fun e => by have := (hown9.block ha).1; have := (hp).lt; omega)⟩,⟨rfl,trivial⟩⟩
   · intro b8 w8 hn8
     refine ⟨Mod.of_ext hn8.ext,?_⟩;conv=>whnf
     intro b6 w6 hn6
     have o6 := (Qfh).made (base := w2.heap.size) hn6 (Nat.le_trans (hx3).size hn8.ext.size)
     refine ⟨Mod.of_ext hn6.ext,?_⟩;conv=>whnf
     refine Qn Qfh (l := []) (news := L) rfl (o6) (rfl) (((hsl).ext hn8.ext).ext hn6.ext) (by simp; omega) (Nat.le_trans (Nat.le_trans (hx3).size hn8.ext.size) hn6.ext.size) fun A7 c7 w7 hown7 hg7 hA7 => ?_
     refine ⟨Qp hg7 (Qz o6),?_⟩;conv=>whnf
     have h8 := Qcs (((Qfh).new1 hn8).ext hn6.ext) (w1 := w7) (fun a' ha' => by
      obtain rfl : (⟨b8,0,none⟩ : Addr) = a' := by simpa using ha'
      exact hg7.block b8 (by rw [hn8.block]; have := hn6.size; have := hn8.size; omega) (fun e' => by
       have h68 : b8 = b6 := by simpa using e'
       have := hn6.size
       have := hn8.size
       rw [hn6.block,hn8.block] at h68
       omega))
     refine Qn Qfh (l := L) (news := [x]) rfl (hown7) rfl (h8) (by simp; omega) (Nat.le_trans (Nat.le_trans (Nat.le_trans (hx3).size hn8.ext.size) hn6.ext.size) hg7.size) fun A9 c9 w9 hown9 hg9 hA9 => ?_
     refine ⟨Qp hg9 (Qz hown7),?_⟩;conv=>whnf
     have hE9 := Ql (Ql (((hx3).trans hn8.ext).trans hn6.ext) hg7 (Qz o6)) hg9 (Qz hown7)
     generalize L ++ [x] = L9 at hown9 ⊢
     refine Qh Qa (e := ty146) rfl ((hp).ext hE9) rfl rfl rfl (by simp [Qj,Value.oneCell']) fun w10 h10 ho10 => ?_
     conv=>whnf
     exact ⟨(A9,c9),⟨(Mod.of_ext hE9).trans (Qi ho10 rfl),h10,hown9.keep fun a ha => ho10.block a.block (fun e => by have := (hown9.block ha).1; have := (hp).lt; omega)⟩,⟨rfl,trivial⟩⟩
 rintro ⟨A3,c3⟩ w3 ⟨hM3,hp3,hown3⟩
 simp only at hp3 hown3
 have hll : ((L ++ [x]).length : Int) = L.length + 1 := by simp
 have hl2 : (L ++ [x]).length = L.length + 1 := by simp
 generalize L ++ [x] = L1 at hp3 hown3 hll hl2 ⊢
 conv=>whnf
 refine ⟨.int .i64 L.length,hp3.one rfl,?_⟩;conv=>whnf
 refine ⟨(L.length : Int) + 1,wrap_eq rfl ⟨by omega,by omega⟩,?_⟩;conv=>whnf
 refine Qh Qa (e := ty3) rfl hp3 rfl rfl rfl (by simp [Qj,Value.oneCell']) fun w4 h4 ho4 => ?_
 conv=>whnf
 refine ⟨rfl,⟨A3,c3,by rw [hll]; exact h4,ho4.sl (hown3.sl Qiy) (fun a ha e => by have := (hown3.block ha).1; have := hx1.size; omega),fun a ha e => by have := (hown3.block ha).1; have := hx1.size; omega⟩,?_⟩
 exact ((Mod.of_ext hx1).trans hM3).trans (Qi ho4 rfl)
def Qlg (half now:Int) (key:ByteArray) (L:List A11) : Int := ((L.filter fun x => decide (x.1 = key) && decide (x.2.1 ≤ now)).map fun x => x.2.2 * Xh (now - x.2.1) half).sum
theorem Qmc (half now:Int) (key:ByteArray) (L:List A11) (x:A11) : Qlg half now key (L ++ [x]) = Qlg half now key L + if x.1 = key ∧ x.2.1 ≤ now then x.2.2 * Xh (now - x.2.1) half else 0 := by
 unfold Qlg
 rw [List.filter_append,List.map_append,List.sum_append]
 by_cases h1 : x.1 = key <;> by_cases h2 : x.2.1 ≤ now <;> simp [h1,h2]
theorem Qkk {half now:Int} {key:ByteArray} {L:List A11} (h:∀ x ∈ L,Quw x) : 0 ≤ Qlg half now key L ∧ Qlg half now key L ≤ L.length * 1099511627776 := by
 have hb := Qec (fun x:A11 => x.2.2 * Xh (now - x.2.1) half) 1099511627776 (L.filter fun x => decide (x.1 = key) && decide (x.2.1 ≤ now)) fun x hx => by
  have h1 := (h x (List.mem_filter.1 hx).1).2.2
  have h2 := Qdp (now - x.2.1) half
  refine ⟨Int.mul_nonneg h1.1 h2.1,?_⟩
  have : x.2.2 * Xh (now - x.2.1) half ≤ 1048576 * 1048576 := Int.mul_le_mul h1.2 h2.2 h2.1 (by omega)
  omega
 have hl := List.length_filter_le (fun x:A11 => decide (x.1 = key) && decide (x.2.1 ≤ now)) L
 unfold Qlg
 exact ⟨hb.1,Int.le_trans hb.2 (Int.mul_le_mul_of_nonneg_right (by omega) (by omega))⟩
set_option maxHeartbeats 1000000 in
theorem Qwc (w:World) (p:Nat) (half:Int) (L:List A11) (h:C11 w p half L) (hok:∀ x ∈ L,Quw x) (hl:L.length < 1000) (hh:1 ≤ half ∧ half ≤ 1099511627776) (key:ByteArray) (now:Int) (hn:0 ≤ now ∧ now ≤ 1099511627776) :
 Cal Tryz.prog 29 [.pointer (some ⟨p,0,none⟩),.string key,.int .i64 now] w fun r w' => r = .int .i64 (Qlg half now key L) ∧ Ext w w' := by
 obtain ⟨A,c,hp,hsl,hA⟩ := h
 refine Fi Tryz.func29 rfl _ rfl rfl ?_;conv=>whnf
 refine Qe Qa (fun (q:Nat × Int) w' => q.1 ≤ L.length ∧ q.2 = Qlg half now key (L.take q.1) ∧ Ext w w')
  (fun | (i,n) => [(0,.pointer (some ⟨p,0,none⟩)),(1,.string key),(2,.int .i64 now),(7,.int .i64 n),(8,.int .i64 (i:Nat))]) (fun q => L.length - q.1) (0,0) ⟨Nat.zero_le _,rfl,Ext.refl _⟩ ⟨rfl,rfl,rfl,rfl,rfl,trivial⟩ ?_
 rintro ⟨i,n⟩ w1 ⟨hi,hnn,hx1⟩
 simp only at hi hnn
 have hp1 := hp.ext hx1
 have hs1 := hsl.ext hx1
 conv=>whnf
 refine ⟨.slice A L.length c,hp1.one rfl,?_⟩;conv=>whnf
 constructor
 · intro hlt
   have hlt : i < L.length ∧ 0 ≤ now := by simpa using hlt
   obtain ⟨a,hAa,hc⟩ := hs1.get hlt.1
   subst hAa
   have htk : Qlg half now key (L.take (i + 1)) = n + if L[i].1 = key ∧ L[i].2.1 ≤ now then L[i].2.2 * Xh (now - L[i].2.1) half else 0 := by rw [hnn,List.take_succ_eq_append_getElem hlt.1,Qmc]
   have hb0 := Qkk (half := half) (now := now) (key := key) (L := L.take i) fun x hx => hok x (List.mem_of_mem_take hx)
   have hb1 := Qkk (half := half) (now := now) (key := key) (L := L.take (i + 1)) fun x hx => hok x (List.mem_of_mem_take hx)
   rw [← hnn] at hb0
   rw [List.length_take] at hb0 hb1
   have hxo := hok L[i] (List.getElem_mem hlt.1)
   generalize L[i] = x at hc htk hxo
   have hwb := Qdp (now - x.2.1) half
   have hmul : 0 ≤ x.2.2 * Xh (now - x.2.1) half ∧ x.2.2 * Xh (now - x.2.1) half ≤ 1099511627776 := by
    refine ⟨Int.mul_nonneg hxo.2.2.1 hwb.1,?_⟩
    have : x.2.2 * Xh (now - x.2.1) half ≤ 1048576 * 1048576 := Int.mul_le_mul hxo.2.2.2 hwb.2 hwb.1 (by omega)
    omega
   (conv=>whnf);repeat(refine Sg ?_;(conv=>whnf))
   refine ⟨.slice (some a) L.length c,hp1.one rfl,?_⟩; (conv=>whnf);repeat(refine Sg ?_;(conv=>whnf))
   refine ⟨a,⟨rfl,by omega,by omega⟩,?_⟩; (conv=>whnf);repeat(refine Sg ?_;(conv=>whnf))
   refine ⟨.string x.1,cells_at hc (k := 0) rfl,?_⟩; (conv=>whnf);repeat(refine Sg ?_;(conv=>whnf))
   refine ⟨.slice (some a) L.length c,fun _ => hp1.one rfl,?_⟩; (conv=>whnf);repeat(refine Sg ?_;(conv=>whnf))
   refine ⟨a,fun _ => ⟨rfl,by omega,by omega⟩,?_⟩; (conv=>whnf);repeat(refine Sg ?_;(conv=>whnf))
   refine ⟨.int .i64 x.2.1,fun _ => cells_at hc (k := 1) rfl,?_⟩; (conv=>whnf);repeat(refine Sg ?_;(conv=>whnf))
   constructor
   · intro hq
     have hq : x.1 = key ∧ x.2.1 ≤ now := by simpa using hq
     rw [if_pos hq] at htk
     rw [htk] at hb1
     (conv=>whnf);repeat(refine Sg ?_;(conv=>whnf))
     refine Dr .ext [0,1,2,3,4,5,6,7,8,9,10,11,12,13,14,15,16,17,18,19,20,21,22,23,24,25,26] [] ?_;conv=>whnf
     have hxd := hx1.drew
     have hp2 := hp.ext hxd
     obtain ⟨a',hAa',hc2⟩ := (hsl.ext hxd).get hlt.1
     obtain rfl : a = a' := by simpa using hAa'
     replace hc2 : Q8 w1.drew (a.add (i * 3)) (Qod x) := hc
     generalize w1.drew = w2 at hxd hp2 hc2 ⊢
     refine ⟨.slice (some a) L.length c,hp2.one rfl,?_⟩;conv=>whnf
     refine ⟨a,⟨rfl,by omega,by omega⟩,?_⟩;conv=>whnf
     refine ⟨.int .i64 x.2.2,cells_at hc2 (k := 2) rfl,?_⟩;conv=>whnf
     refine ⟨.slice (some a) L.length c,hp2.one rfl,?_⟩;conv=>whnf
     refine ⟨a,⟨rfl,by omega,by omega⟩,?_⟩;conv=>whnf
     refine ⟨.int .i64 x.2.1,cells_at hc2 (k := 1) rfl,?_⟩;conv=>whnf
     refine ⟨now - x.2.1,wrap_eq rfl ⟨by have := hxo.2.1; omega,by have := hxo.2.1; omega⟩,?_⟩;conv=>whnf
     refine ⟨.int .i64 half,hp2.one rfl,?_⟩;conv=>whnf
     refine (Qli (now - x.2.1) half ⟨by have := hxo.2.1; omega,by have := hxo.2.1; omega⟩ (by omega) w2).mono ?_
     rintro _ w3 ⟨rfl,hw3⟩
     subst hw3
     refine ⟨Ext.refl _,?_⟩;conv=>whnf
     refine ⟨x.2.2 * Xh (now - x.2.1) half,wrap_eq rfl ⟨by omega,by omega⟩,?_⟩;conv=>whnf
     refine ⟨n + x.2.2 * Xh (now - x.2.1) half,wrap_eq rfl ⟨by omega,by omega⟩,?_⟩; (conv=>whnf);repeat(refine Sg ?_;(conv=>whnf))
     refine ⟨_,wrap_succ (by omega),?_⟩; (conv=>whnf);repeat(refine Sg ?_;(conv=>whnf))
     exact ⟨(i + 1,n + x.2.2 * Xh (now - x.2.1) half),by simp only; omega,⟨by simp only; omega,htk.symm,hxd⟩,⟨rfl,rfl,rfl,rfl,rfl,trivial⟩⟩
   · intro hq
     have hq : ¬ (x.1 = key ∧ x.2.1 ≤ now) := by
      have hq : (decide (x.1 = key) && decide (x.2.1 ≤ now)) = false := hq
      simpa using hq
     rw [if_neg hq,Int.add_zero] at htk
     (conv=>whnf);repeat(refine Sg ?_;(conv=>whnf))
     refine ⟨_,wrap_succ (by omega),?_⟩; (conv=>whnf);repeat(refine Sg ?_;(conv=>whnf))
     exact ⟨(i + 1,n),by simp only; omega,⟨by simp only; omega,htk.symm,hx1⟩,⟨rfl,rfl,rfl,rfl,rfl,trivial⟩⟩
 · intro hge
   have hge : L.length ≤ i := by
    have hge : (decide ((i:Int) < L.length) && decide ((0:Int) ≤ now)) = false := hge
    simp at hge
    omega
   rw [List.take_of_length_le hge] at hnn
   rw [← hnn]
   conv=>whnf
   exact ⟨rfl,hx1⟩
def Qsz (e:Ev) : A11 := (e.item,e.at_,Qo e)
theorem Q18 {e:Ev} (hm:Xo e = true) (hw:wpB e = true) : Quw (Qsz e) := by
 have h0 : 0 < Qo e := by simpa [wpB] using hw
 have h1 := Qan (Qb9 hm h0).2
 have h2 := Ql7 hm
 have h3 := Qex hm
 unfold Quw Qsz
 simp only
 omega
theorem Qv6 (half now:Int) (key:ByteArray) (l:List Ev) : Qlg half now key (l.map Qsz) = Qv7 l half key now := by
 induction l using Qy with
 | h0 => rfl
 | h1 l e ih =>
   rw [List.map_append,List.map_cons,List.map_nil,Qmc,ih]
   unfold Qv7 Qsz
   rw [List.filter_append,List.map_append,List.sum_append]
   by_cases h1 : e.item = key
   · by_cases h2 : e.at_ ≤ now
     · simp [h1,h2]
     · have := Qmr (half := half) (show now - e.at_ < 0 by omega)
       simp [h1,h2,this]
   · simp [h1]
set_option maxHeartbeats 1000000 in
theorem Qnv (l:List Ev) (A:Option Addr) (c:Nat) (half:Int) (w:World) (hs:SlE w A l) (hl:l.length < 1000) (hm:∀ e ∈ l,Xo e = true) :
 Cal Tryz.prog 28 [.slice A l.length c,.int .i64 half] w fun r w' => ∃ p,r = .pointer (some ⟨p,0,none⟩) ∧ C11 w' p half ((l.filter wpB).map Qsz) ∧ Ext w w' := by
 refine Fi Tryz.func28 rfl _ rfl rfl ?_;conv=>whnf
 intro p w1 hn1;conv=>whnf
 have e1 := hn1.block
 have h0 : C11 w1 p half [] := ⟨none,0,hn1.At,Sl.nil,by simp⟩
 refine Qe Qa (fun (i:Nat) w' => i ≤ l.length ∧ C11 w' p half (((l.take i).filter wpB).map Qsz) ∧ Ext w w')
  (fun i => [(0,.slice A l.length c),(5,.pointer (some ⟨p,0,none⟩)),(6,.int .i64 (i:Nat))]) (fun i => l.length - i) 0 ⟨Nat.zero_le _,h0,hn1.ext⟩ ⟨rfl,rfl,rfl,trivial⟩ ?_
 clear h0 hn1
 rintro i w2 ⟨hi,hC,hx2⟩
 conv=>whnf
 constructor
 · intro hlt
   have hlt : i < l.length := by simpa using hlt
   obtain ⟨a,hA,hc⟩ := (hs.ext hx2).get hlt
   subst hA
   have htk : ((l.take (i + 1)).filter wpB).map Qsz = ((l.take i).filter wpB).map Qsz ++ if wpB l[i] = true then [Qsz l[i]] else [] := by
    rw [List.take_succ_eq_append_getElem hlt,List.filter_append,List.map_append]
    congr 1
    cases h : wpB l[i] <;> simp [h]
   have hml := hm l[i] (List.getElem_mem hlt)
   have hlen : (((l.take i).filter wpB).map Qsz).length < 100000 := by
    rw [List.length_map]
    have := List.length_filter_le wpB (l.take i)
    rw [List.length_take] at this
    omega
   generalize l[i] = e at hc htk hml
   generalize ((l.take i).filter wpB).map Qsz = L at hC htk hlen
   (conv=>whnf);repeat(refine Sg ?_;(conv=>whnf))
   refine ⟨a,⟨rfl,by omega,by omega⟩,?_⟩; (conv=>whnf);repeat(refine Sg ?_;(conv=>whnf))
   refine ⟨evC e,⟨rfl,hc⟩,?_⟩; (conv=>whnf);repeat(refine Sg ?_;(conv=>whnf))
   refine (Qdn e w2).mono ?_
   rintro _ w3 ⟨rfl,hx3⟩
   have hx23 := hx2.trans hx3
   replace hC := hC.ext hx3
   (conv=>whnf);repeat(refine Sg ?_;(conv=>whnf))
   constructor
   · intro hq
     have hq : 0 < Qo e := by simpa using hq
     have hwp : wpB e = true := by simpa [wpB] using hq
     rw [if_pos hwp] at htk
     (conv=>whnf);repeat(refine Sg ?_;(conv=>whnf))
     refine Dr .same [0,1,2,3,4,5,6,7,8,9,10,11,12] [13] ?_;conv=>whnf
     have hxd := hx23.drew
     obtain ⟨a',hA',hcd⟩ := (hs.ext hxd).get hlt
     obtain rfl : a = a' := by simpa using hA'
     replace hcd : Q8 w3.drew (a.add (i * 8)) (evC e) := hx3.cells hc
     replace hC := hC.ext (Ext.refl w3).drew
     generalize w3.drew = w4 at hxd hcd hC ⊢
     refine ⟨a,⟨rfl,by omega,by omega⟩,?_⟩;conv=>whnf
     refine ⟨.string e.item,cells_at hcd (k := 5) rfl,?_⟩;conv=>whnf
     refine ⟨a,⟨rfl,by omega,by omega⟩,?_⟩;conv=>whnf
     refine ⟨.int .i64 e.at_,cells_at hcd (k := 2) rfl,?_⟩;conv=>whnf
     refine (Qr5 w4 p half L hC (Qsz e) (Q18 hml hwp) hlen).mono ?_
     rintro _ w5 ⟨rfl,hC5,hM5⟩
     have hx5 := Qnc (T := fun k => k = p) hxd (fun k hk => by rw [hk,e1]; exact Nat.le_refl _) hM5
     (conv=>whnf);repeat(refine Sg ?_;(conv=>whnf))
     refine ⟨_,wrap_succ (by omega),?_⟩; (conv=>whnf);repeat(refine Sg ?_;(conv=>whnf))
     exact ⟨i + 1,by omega,⟨by omega,by rw [htk]; exact hC5,hx5⟩,⟨rfl,rfl,rfl,trivial⟩⟩
   · intro hq
     have hq : ¬ 0 < Qo e := by simpa using hq
     have hwp : wpB e = false := by simpa [wpB] using hq
     rw [hwp] at htk
     simp only [Bool.false_eq_true,if_false,List.append_nil] at htk
     (conv=>whnf);repeat(refine Sg ?_;(conv=>whnf))
     refine ⟨_,wrap_succ (by omega),?_⟩; (conv=>whnf);repeat(refine Sg ?_;(conv=>whnf))
     exact ⟨i + 1,by omega,⟨by omega,by rw [htk]; exact hC,hx23⟩,⟨rfl,rfl,rfl,trivial⟩⟩
 · intro hge
   have hge : l.length ≤ i := by simpa using hge
   rw [List.take_of_length_le hge] at hC
   conv=>whnf
   exact ⟨p,rfl,hC,hx2⟩
theorem Q1r : Qqf Tryz.prog 161 165 Qod 3 32 := ⟨by kernel_rfl,⟨_,ty165_ok,rfl,rfl⟩,by165,by decide,by decide,Qiy,Qsy⟩
def P9 (w:World) (p:Nat) (width:Int) (L:List S9) : Prop := ∃ A c,At w p 163 [.int .i64 width,.slice A L.length c,.int .i64 L.length] ∧ Sl Qod 3 w A L ∧ ∀ a,A = some a → a.block ≠ p
theorem P9.ext {w w1:World} {p:Nat} {width:Int} {L:List S9} (h:P9 w p width L) (hx:Ext w w1) : P9 w1 p width L := by
 obtain ⟨A,c,h1,h2,h3⟩ := h
 exact ⟨A,c,h1.ext hx,h2.ext hx,h3⟩
theorem Qwi (width:Int) (w:World) : Cal Tryz.prog 72 [.int .i64 width] w fun r w' => ∃ p,r = .pointer (some ⟨p,0,none⟩) ∧ w.heap.size ≤ p ∧ P9 w' p (Xq width) [] ∧ Ext w w' := by
 refine Fi Tryz.func72 rfl _ rfl rfl ?_;conv=>whnf
 intro p w1 hn1;conv=>whnf
 exact ⟨p,rfl,by rw [hn1.block]; exact Nat.le_refl _,⟨none,0,hn1.At,Sl.nil,by simp⟩,hn1.ext⟩
theorem Qul (w:World) (p:Nat) (width:Int) (v1 v2:Value) (hp:At w p 163 [.int .i64 width,v1,v2]) (hw:1 ≤ width ∧ width ≤ 1099511627776) (t:Int) (ht:-4398046511104 ≤ t ∧ t ≤ 4398046511104) :
 Cal Tryz.prog 74 [.pointer (some ⟨p,0,none⟩),.int .i64 t] w fun r w' => r = .int .i64 (t / width) ∧ w' = w := by
 have hd : t.tdiv width = t / width + if 0 ≤ t ∨ width ∣ t then 0 else width.sign := Int.tdiv_eq_ediv
 have hm := Int.tmod_eq_emod (a := t) (b := width)
 have hs : width.sign = 1 := Int.sign_eq_one_of_pos (by omega)
 have h5 : 0 ≤ t % width := Int.emod_nonneg _ (by omega)
 have h6 : t % width < width := Int.emod_lt_of_pos _ (by omega)
 have hna : (width.natAbs : Int) = width := by omega
 have hdv : width ∣ t ↔ t % width = 0 := Int.dvd_iff_emod_eq_zero
 have hr := Qjs hw.1 ht
 rw [hs] at hd
 refine Fi Tryz.func74 rfl _ rfl rfl ?_;conv=>whnf
 refine ⟨_,hp.one0,?_⟩;conv=>whnf
 by_cases hc : 0 ≤ t ∨ width ∣ t
 · rw [if_pos hc] at hd hm
   refine ⟨t / width,⟨by omega,wrap_eq (by omega) ⟨by omega,by omega⟩⟩,?_⟩; (conv=>whnf);repeat(refine Sg ?_;(conv=>whnf))
   refine ⟨_,fun _ => hp.one0,?_⟩; (conv=>whnf);repeat(refine Sg ?_;(conv=>whnf))
   refine ⟨t.tmod width,fun _ => ⟨by omega,rfl⟩,?_⟩; (conv=>whnf);repeat(refine Sg ?_;(conv=>whnf))
   constructor
   · intro q
     have q : t < 0 ∧ ¬ t.tmod width = 0 := by simpa using q
     omega
   · intro _
     conv=>whnf
     exact ⟨rfl,rfl⟩
 · rw [if_neg hc] at hd hm
   have hneg : t < 0 := by omega
   have hd0 := Int.ediv_neg_of_neg_of_pos hneg (show 0 < width by omega)
   refine ⟨t / width + 1,⟨by omega,wrap_eq (by omega) ⟨by omega,by omega⟩⟩,?_⟩; (conv=>whnf);repeat(refine Sg ?_;(conv=>whnf))
   refine ⟨_,fun _ => hp.one0,?_⟩; (conv=>whnf);repeat(refine Sg ?_;(conv=>whnf))
   refine ⟨t.tmod width,fun _ => ⟨by omega,rfl⟩,?_⟩; (conv=>whnf);repeat(refine Sg ?_;(conv=>whnf))
   constructor
   · intro _
     conv=>whnf
     refine ⟨t / width,wrap_eq (by omega) ⟨by omega,by omega⟩,?_⟩;conv=>whnf
     exact ⟨rfl,rfl⟩
   · intro q
     have q : ¬ (t < 0 ∧ ¬ t.tmod width = 0) := by simpa using q
     omega
theorem Qme (w:World) (p:Nat) (width:Int) (L:List S9) (h:P9 w p width L) (hw:1 ≤ width ∧ width ≤ 1099511627776) (t:Int) (ht:-4398046511104 ≤ t ∧ t ≤ 4398046511104) :
 Cal Tryz.prog 74 [.pointer (some ⟨p,0,none⟩),.int .i64 t] w fun r w' => r = .int .i64 (t / width) ∧ Ext w w' := by
 obtain ⟨A,c,hp,_,_⟩ := h
 refine (Qul w p width _ _ hp hw t ht).mono ?_
 rintro r w' ⟨h1,h2⟩
 exact ⟨h1,by rw [h2]; exact Ext.refl _⟩
set_option maxHeartbeats 1000000 in
theorem Qwj (w:World) (p:Nat) (width:Int) (L:List S9) (h:P9 w p width L) (hw:1 ≤ width ∧ width ≤ 1099511627776) (hok:∀ x ∈ L,0 ≤ x.2.2 ∧ x.2.2 ≤ 1048576) (hl:L.length < 1000000) (key:ByteArray) (a b:Int) (ha:-4398046511104 ≤ a ∧ a ≤ 4398046511104) (hb:-4398046511104 ≤ b ∧ b ≤ 4398046511104) :
 Cal Tryz.prog 33 [.pointer (some ⟨p,0,none⟩),.string key,.int .i64 a,.int .i64 b] w fun r w' => r = .int .i64 (pa9 L key (a / width) (b / width)) ∧ Ext w w' := by
 have hP := h
 obtain ⟨A,c,hp,hsl,hA⟩ := h
 refine Fi Tryz.func33 rfl _ rfl rfl ?_;conv=>whnf
 refine Qe Qa (fun (q:Nat × Int) w' => q.1 ≤ L.length ∧ q.2 = pa9 (L.take q.1) key (a / width) (b / width) ∧ Ext w w')
  (fun | (i,n) => [(0,.pointer (some ⟨p,0,none⟩)),(1,.string key),(2,.int .i64 a),(3,.int .i64 b),(9,.int .i64 n),(10,.int .i64 (i:Nat))]) (fun q => L.length - q.1) (0,0) ⟨Nat.zero_le _,rfl,Ext.refl _⟩ ⟨rfl,rfl,rfl,rfl,rfl,rfl,trivial⟩ ?_
 rintro ⟨i,n⟩ w1 ⟨hi,hnn,hx1⟩
 simp only at hi hnn
 have hp1 := hp.ext hx1
 conv=>whnf
 refine ⟨.slice A L.length c,hp1.one rfl,?_⟩;conv=>whnf
 constructor
 · intro hlt
   have hlt : i < L.length := by simpa using hlt
   obtain ⟨a0,hAa,hc⟩ := (hsl.ext hx1).get hlt
   subst hAa
   have htk : pa9 (L.take (i + 1)) key (a / width) (b / width) = n + if q9 key (a / width) (b / width) L[i] = true then L[i].2.2 else 0 := by rw [hnn,List.take_succ_eq_append_getElem hlt,Q1h]
   have hb1 := Qy0 (L := L.take (i + 1)) (fun x hx => hok x (List.mem_of_mem_take hx)) key (a / width) (b / width)
   rw [List.length_take] at hb1
   generalize L[i] = x at hc htk
   (conv=>whnf);repeat(refine Sg ?_;(conv=>whnf))
   refine Dr .ext [0,1,2,3,4,5,6,7,8,9,10,11,12,13,14,15,16,17,18,19,20,21,22,23,24,25,26,27,28,29,30,31,32,33,34,35,36,37] [] ?_;conv=>whnf
   have hxd := (Ext.refl w1).drew
   replace hx1 := hx1.drew
   replace hp1 := hp1.ext hxd
   replace hc : Q8 w1.drew (a0.add (i * 3)) (Qod x) := hc
   generalize w1.drew = w2 at hx1 hp1 hc ⊢
   refine ⟨.slice (some a0) L.length c,hp1.one rfl,?_⟩;conv=>whnf
   refine ⟨a0,⟨rfl,by omega,by omega⟩,?_⟩;conv=>whnf
   refine ⟨.string x.1,cells_at hc (k := 0) rfl,?_⟩;conv=>whnf
   refine ⟨.slice (some a0) L.length c,fun _ => hp1.one rfl,?_⟩;conv=>whnf
   refine ⟨a0,fun _ => ⟨rfl,by omega,by omega⟩,?_⟩;conv=>whnf
   refine ⟨.int .i64 x.2.1,fun _ => cells_at hc (k := 1) rfl,?_⟩;conv=>whnf
   refine ⟨Unit,fun _ => (.int .i64 (a / width)),fun _ w' => Ext w2 w',(),fun hg => ((Qme w2 p width L (hP.ext hx1) hw a ha)).mono fun r w' h => ⟨(),h.1,h.2⟩,?_⟩
   intro _ w3 h2
   have hx3 : Ext w2 w3 := by
    rcases h2 with ⟨_,h⟩ | ⟨_,h⟩
    · exact h
    · rw [h]; exact Ext.refl _
   clear h2
   refine ⟨hx3,?_⟩
   conv=>whnf
   replace hx1 := hx1.trans hx3
   replace hp1 := hp1.ext hx3
   replace hc := hx3.cells hc
   refine ⟨.slice (some a0) L.length c,fun _ => hp1.one rfl,?_⟩;conv=>whnf
   refine ⟨a0,fun _ => ⟨rfl,by omega,by omega⟩,?_⟩;conv=>whnf
   refine ⟨.int .i64 x.2.1,fun _ => cells_at hc (k := 1) rfl,?_⟩;conv=>whnf
   refine ⟨Unit,fun _ => (.int .i64 (b / width)),fun _ w' => Ext w3 w',(),fun hg => ((Qme w3 p width L (hP.ext hx1) hw b hb)).mono fun r w' h => ⟨(),h.1,h.2⟩,?_⟩
   intro _ w4 h2
   have hx4 : Ext w3 w4 := by
    rcases h2 with ⟨_,h⟩ | ⟨_,h⟩
    · exact h
    · rw [h]; exact Ext.refl _
   clear h2
   refine ⟨hx4,?_⟩
   conv=>whnf
   replace hx1 := hx1.trans hx4
   replace hp1 := hp1.ext hx4
   replace hc := hx4.cells hc
   (conv=>whnf);repeat(refine Sg ?_;(conv=>whnf))
   have hqq : (((decide (x.1 = key)) && (decide (a / width ≤ x.2.1))) && (decide (x.2.1 < b / width))) = q9 key (a / width) (b / width) x := Bool.and_assoc _ _ _
   constructor
   · intro hq
     have hq : q9 key (a / width) (b / width) x = true := by rw [← hqq]; exact hq
     rw [if_pos hq] at htk
     rw [htk] at hb1
     (conv=>whnf);repeat(refine Sg ?_;(conv=>whnf))
     refine ⟨.slice (some a0) L.length c,hp1.one rfl,?_⟩; (conv=>whnf);repeat(refine Sg ?_;(conv=>whnf))
     refine ⟨a0,⟨rfl,by omega,by omega⟩,?_⟩; (conv=>whnf);repeat(refine Sg ?_;(conv=>whnf))
     refine ⟨.int .i64 x.2.2,cells_at hc (k := 2) rfl,?_⟩; (conv=>whnf);repeat(refine Sg ?_;(conv=>whnf))
     refine ⟨n + x.2.2,wrap_eq rfl ⟨by omega,by omega⟩,?_⟩; (conv=>whnf);repeat(refine Sg ?_;(conv=>whnf))
     refine ⟨_,wrap_succ (by omega),?_⟩; (conv=>whnf);repeat(refine Sg ?_;(conv=>whnf))
     exact ⟨(i + 1,n + x.2.2),by simp only; omega,⟨by simp only; omega,htk.symm,hx1⟩,⟨rfl,rfl,rfl,rfl,rfl,rfl,trivial⟩⟩
   · intro hq
     have hq : ¬ q9 key (a / width) (b / width) x = true := by rw [← hqq,Bool.not_eq_true]; exact hq
     rw [if_neg hq,Int.add_zero] at htk
     (conv=>whnf);repeat(refine Sg ?_;(conv=>whnf))
     refine ⟨_,wrap_succ (by omega),?_⟩; (conv=>whnf);repeat(refine Sg ?_;(conv=>whnf))
     exact ⟨(i + 1,n),by simp only; omega,⟨by simp only; omega,htk.symm,hx1⟩,⟨rfl,rfl,rfl,rfl,rfl,rfl,trivial⟩⟩
 · intro hge
   have hge : L.length ≤ i := by simpa using hge
   rw [List.take_of_length_le hge] at hnn
   rw [← hnn]
   conv=>whnf
   exact ⟨rfl,hx1⟩
set_option maxHeartbeats 1000000 in
theorem Qwh (w:World) (p:Nat) (width:Int) (L:List S9) (h:P9 w p width L) (hw:1 ≤ width ∧ width ≤ 1099511627776) (hl:L.length < 100000) (key:ByteArray) (hk:1 ≤ key.size ∧ key.size ≤ 24) (t:Int) (ht:0 ≤ t ∧ t ≤ 1099511627776) (n:Int) (hn:0 ≤ n ∧ n ≤ 1048576) :
 Cal Tryz.prog 73 [.pointer (some ⟨p,0,none⟩),.string key,.int .i64 t,.int .i64 n] w fun r w' => r = .bool true ∧ P9 w' p width (L ++ [(key,t / width,n)]) ∧ Mod (fun k => k = p) w w' := by
 obtain ⟨A,c,hp,hsl,hA⟩ := h
 have hpl := hp.lt
 refine Fi Tryz.func73 rfl _ rfl rfl ?_;conv=>whnf
 refine ⟨.int .i64 L.length,fun _ => hp.one rfl,?_⟩;conv=>whnf
 constructor
 · intro hc
   exfalso
   simp at hc
   omega
 intro _
 conv=>whnf
 intro b6 w6 hn6;conv=>whnf
 have o6 := Q1r.made (base := w.heap.size) hn6 (Nat.le_refl _)
 have hE := hn6.ext
 refine ⟨.slice A L.length c,(hp.ext hE).one rfl,?_⟩;conv=>whnf
 refine Qn Q1r (l := []) (news := L) rfl o6 rfl (hsl.ext hE) (by simp; omega) hE.size fun A7 c7 w7 hown7 hg7 hA7 => ?_
 have hE7 := Ql hE hg7 (Qz o6)
 conv=>whnf
 refine (Qul _ p width _ _ (hp.ext hE7) hw t ⟨by omega,by omega⟩).mono ?_
 rintro _ wp ⟨rfl,hwp⟩
 replace hwp := hwp.symm
 subst hwp
 conv=>whnf
 intro b8 w8 hn8;conv=>whnf
 have hE8 := hE7.trans hn8.ext
 refine Qn Q1r (l := L) (news := [(key,t / width,n)]) rfl (hown7.ext hn8.ext) rfl (Q1r.new1 (x := (key,t / width,n)) hn8) (by simp; omega) hE8.size fun A9 c9 w9 hown9 hg9 hA9 => ?_
 have hE9 := Ql hE8 hg9 (Qz hown7)
 have hll : ((L ++ [(key,t / width,n)]).length : Int) = L.length + 1 := by simp
 generalize L ++ [(key,t / width,n)] = L1 at hown9 hll ⊢
 conv=>whnf
 refine Qh Qa (e := ty161) rfl (hp.ext hE9) rfl rfl rfl (by simp [Qj,Value.oneCell']) fun w10 h10 ho10 => ?_
 have h10 : At w10 p 163 [.int .i64 width,.slice A9 L1.length c9,.int .i64 L.length] := h10
 have hown10 : Own Qod 3 165 w.heap.size w10 A9 c9 L1 := hown9.keep fun a ha => ho10.block a.block (fun e => by have := (hown9.block ha).1; omega)
 have hM10 : Mod (fun k => k = p) w w10 := (Mod.of_ext hE9).trans (Qi ho10 rfl)
 conv=>whnf
 refine ⟨.int .i64 L.length,h10.one rfl,?_⟩;conv=>whnf
 refine ⟨(L.length : Int) + 1,wrap_eq rfl ⟨by omega,by omega⟩,?_⟩;conv=>whnf
 refine Qh Qa (e := ty3) rfl h10 rfl rfl rfl (by simp [Qj,Value.oneCell']) fun w11 h11 ho11 => ?_
 conv=>whnf
 refine ⟨rfl,⟨A9,c9,by rw [hll]; exact h11,ho11.sl (hown10.sl Qiy) (fun a ha e => by have := (hown10.block ha).1; omega),fun a ha e => by have := (hown10.block ha).1; omega⟩,?_⟩
 exact hM10.trans (Qi ho11 rfl)
theorem Q5j {width:Int} {e:Ev} (hm:Xo e = true) : 0 ≤ (s9E width e).2.2 ∧ (s9E width e).2.2 ≤ 1048576 := by
 have h := Qex hm
 show 0 ≤ Qo e ∧ Qo e ≤ 1048576
 omega
set_option maxHeartbeats 1000000 in
theorem Qr4 (l:List Ev) (A:Option Addr) (c:Nat) (width:Int) (hwd:1 ≤ width ∧ width ≤ 1099511627776) (w:World) (hs:SlE w A l) (hl:l.length < 1000) (hm:∀ e ∈ l,Xo e = true) :
 Cal Tryz.prog 32 [.slice A l.length c,.int .i64 width] w fun r w' => ∃ p,r = .pointer (some ⟨p,0,none⟩) ∧ P9 w' p width ((l.filter wpB).map (s9E width)) ∧ Ext w w' := by
 have hhn := Qj1 hwd
 refine Fi Tryz.func32 rfl _ rfl rfl ?_;conv=>whnf
 refine (Qwi width w).mono ?_
 rintro _ w1 ⟨p,rfl,hpn,h0,hx1⟩
 rw [hhn] at h0
 conv=>whnf
 refine Qe Qa (fun (i:Nat) w' => i ≤ l.length ∧ P9 w' p width (((l.take i).filter wpB).map (s9E width)) ∧ Ext w w')
  (fun i => [(0,.slice A l.length c),(5,.pointer (some ⟨p,0,none⟩)),(6,.int .i64 (i:Nat))]) (fun i => l.length - i) 0 ⟨Nat.zero_le _,h0,hx1⟩ ⟨rfl,rfl,rfl,trivial⟩ ?_
 clear h0 hx1
 rintro i w2 ⟨hi,hC,hx2⟩
 conv=>whnf
 constructor
 · intro hlt
   have hlt : i < l.length := by simpa using hlt
   obtain ⟨a,hA,hc⟩ := (hs.ext hx2).get hlt
   subst hA
   have htk : ((l.take (i + 1)).filter wpB).map (s9E width) = ((l.take i).filter wpB).map (s9E width) ++ if wpB l[i] = true then [s9E width l[i]] else [] := by
    rw [List.take_succ_eq_append_getElem hlt,List.filter_append,List.map_append]
    congr 1
    cases h : wpB l[i] <;> simp [h]
   have hml := hm l[i] (List.getElem_mem hlt)
   have hlen : (((l.take i).filter wpB).map (s9E width)).length < 100000 := by
    rw [List.length_map]
    have := List.length_filter_le wpB (l.take i)
    rw [List.length_take] at this
    omega
   generalize l[i] = e at hc htk hml
   generalize ((l.take i).filter wpB).map (s9E width) = L at hC htk hlen
   (conv=>whnf);repeat(refine Sg ?_;(conv=>whnf))
   refine ⟨a,⟨rfl,by omega,by omega⟩,?_⟩; (conv=>whnf);repeat(refine Sg ?_;(conv=>whnf))
   refine ⟨evC e,⟨rfl,hc⟩,?_⟩; (conv=>whnf);repeat(refine Sg ?_;(conv=>whnf))
   refine (Qdn e w2).mono ?_
   rintro _ w3 ⟨rfl,hx3⟩
   have hx23 := hx2.trans hx3
   replace hC := hC.ext hx3
   have hce := hx3.cells hc
   (conv=>whnf);repeat(refine Sg ?_;(conv=>whnf))
   constructor
   · intro hq
     have hq : 0 < Qo e := by simpa using hq
     have hwp : wpB e = true := by simpa [wpB] using hq
     rw [if_pos hwp] at htk
     have hno := Qb9 hml hq
     have hnm := Qan hno.2
     have hat := Ql7 hml
     have hwl := Qex hml
     (conv=>whnf);repeat(refine Sg ?_;(conv=>whnf))
     refine Dr .same [0,1,2,3,4,5,6,7,8,9,10,11] [12] ?_;conv=>whnf
     have hxd := hx23.drew
     replace hC := hC.ext (Ext.refl w3).drew
     replace hce : Q8 w3.drew (a.add (i * 8)) (evC e) := hce
     generalize w3.drew = w4 at hxd hC hce ⊢
     refine ⟨a,⟨rfl,by omega,by omega⟩,?_⟩;conv=>whnf
     refine ⟨.string e.item,cells_at hce (k := 5) rfl,?_⟩;conv=>whnf
     refine ⟨a,⟨rfl,by omega,by omega⟩,?_⟩;conv=>whnf
     refine ⟨.int .i64 e.at_,cells_at hce (k := 2) rfl,?_⟩;conv=>whnf
     refine (Qwh w4 p width L hC hwd hlen e.item (by omega) e.at_ hat (Qo e) (by omega)).mono ?_
     rintro _ w5 ⟨rfl,hC5,hM5⟩
     have hx5 := Qnc (T := fun k => k = p) hxd (fun k hk => by rw [hk]; exact hpn) hM5
     (conv=>whnf);repeat(refine Sg ?_;(conv=>whnf))
     refine ⟨_,wrap_succ (by omega),?_⟩; (conv=>whnf);repeat(refine Sg ?_;(conv=>whnf))
     exact ⟨i + 1,by omega,⟨by omega,by rw [htk]; exact hC5,hx5⟩,⟨rfl,rfl,rfl,trivial⟩⟩
   · intro hq
     have hq : ¬ 0 < Qo e := by simpa using hq
     have hwp : wpB e = false := by simpa [wpB] using hq
     rw [hwp] at htk
     simp only [Bool.false_eq_true,if_false,List.append_nil] at htk
     (conv=>whnf);repeat(refine Sg ?_;(conv=>whnf))
     refine ⟨_,wrap_succ (by omega),?_⟩; (conv=>whnf);repeat(refine Sg ?_;(conv=>whnf))
     exact ⟨i + 1,by omega,⟨by omega,by rw [htk]; exact hC,hx23⟩,⟨rfl,rfl,rfl,trivial⟩⟩
 · intro hge
   have hge : l.length ≤ i := by simpa using hge
   rw [List.take_of_length_le hge] at hC
   conv=>whnf
   exact ⟨p,rfl,hC,hx2⟩
theorem Q4u {e:Ev} (hm:Xo e = true) : peB e = true ↔ e.kind < 11 := by
 have hk := Qt3 hm
 unfold peB thB
 simp only [Bool.and_eq_true,Bool.not_eq_true',decide_eq_false_iff_not]
 omega
theorem Qzm (l:List Ev) (n:Nat) (hn:n = l.length) (A:Option Addr) (c:Nat) (w:World) (hs:SlE w A l) (hl:l.length < 1000000) :
 Cal Tryz.prog 41 [.slice A n c] w fun r w' => ∃ A' c',r = .slice A' (Xc l).length c' ∧ SlE w' A' (Xc l) ∧ Ext w w' := by
 subst hn
 exact Qpl l A c w hs hl
end Go.Proofs.YtopncieoolkhjaaGreatDoor
