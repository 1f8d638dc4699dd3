/- Several texts in one: Gv1, Gv2, Gv3, Zs, Gx1, Gx2. -/
import Derived.Test.YtopncieoolkhjaaGreatDoorGN
import Derived.Test.YtopncieoolkhjaaGreatDoorGK
import Derived.Test.YtopncieoolkhjaaGreatDoorGH
import Derived.Test.YtopncieoolkhjaaGreatDoorGI
import Derived.Test.YtopncieoolkhjaaGreatDoorHSfRise
import Derived.Test.YtopncieoolkhjaaGreatDoorGL
set_option linter.unusedVariables false
set_option linter.unusedSimpArgs false
namespace Go.Proofs.YtopncieoolkhjaaGreatDoor
open Go.Se Go.RowKit
open Go.Maps Go.Sort Go.Shelf
structure Q5d (s:Qa6) (N:Int) : Prop where
 keys : s.Pairwise (fun x y => x.1 ≠ y.1)
 small : Qf2 s N
 N0 : 0 ≤ N
 sum : s.length * N < 4611686018427387904
 len : s.length < 1000000
theorem Qze (s:Qa6) (key:ByteArray) : (Qdi s key).length ≤ s.length := by
 unfold Qdi; rw [List.length_map]; exact List.length_filter_le _ _
theorem Qwf {s:Qa6} {N:Int} (ok:Q5d s N) (key:ByteArray) (lo hi:Int) (row:List Int) : 0 ≤ Q0e s key lo hi row ∧ Q0e s key lo hi row ≤ row.length * N := by
 have hb := Qec (fun n:Int => (Qd s (key,n)).getD 0) N (row.filter fun n => decide (lo ≤ n) && decide (n < hi)) fun x _ => by
  have := Qeg ok.small ok.N0 (key,x)
  exact ⟨this.1,this.2.1⟩
 have hl := List.length_filter_le (fun n:Int => decide (lo ≤ n) && decide (n < hi)) row
 unfold Q0e
 exact ⟨hb.1,Int.le_trans hb.2 (Int.mul_le_mul_of_nonneg_right (by omega) ok.N0)⟩
set_option maxHeartbeats 1000000 in
theorem Qv4 (w:World) (S:Nat → Prop) (p:Nat) (width n:Int) (s:Qa6) (h:Qof w S p width n s) (hw:1 ≤ width ∧ width ≤ 1099511627776) (N:Int) (ok:Q5d s N) (key:ByteArray) (a b:Int) (ha:-4398046511104 ≤ a ∧ a ≤ 4398046511104) (hb:-4398046511104 ≤ b ∧ b ≤ 4398046511104) :
 Cal Tryz.prog 31 [.pointer (some ⟨p,0,none⟩),.string key,.int .i64 a,.int .i64 b] w fun r w' => r = .int .i64 (paS s key (a / width) (b / width)) ∧ w' = w := by
 obtain ⟨bs,br,L,R,h⟩ := h
 have hh := h.head
 have hlo := Qjs hw.1 ha
 have hhi := Qjs hw.1 hb
 have hpb := fun lo hi => Qy2 ok.small ok.N0 key lo hi
 have hsm := ok.sum
 have hrow := (h.rows.own key).1.sl Qcb
 have hlook := h.rows.look Q32 Xm (e := ty85) ty85_ok rfl key (cl := .same) Qr
 have hsl : ∀ x,RdS Tryz.prog .same w (Instr.lookup 153 (.map (some bs)) (cel x) false) (vi ((Qd s x).getD 0)) := fun x => by
  have := Qai Q31 Qqy (e := ty2) ty2_ok (cl := .same) Qr h.sums x
  rw [show (Qd (X6 vi s) x).getD ty2.zero = vi ((Qd s x).getD 0) from Qac vi _ _ 0] at this
  exact this
 have hrl := Qze s key
 have hlen := ok.len
 have hall := Q1s ok.keys key (a / width) (b / width)
 have hrb := Qwf ok key (a / width) (b / width)
 have hN0 := ok.N0
 have hcell := fun n => Qeg ok.small ok.N0 (key,n)
 generalize Qdi s key = row at hrow hlook hrl hall
 generalize (rowAt L key).1 = A0 at hrow hlook
 generalize (rowAt L key).2 = c0 at hrow hlook
 refine Fi Tryz.func31 rfl _ rfl rfl ?_;conv=>whnf
 refine (Ql9 w p width n bs br hh hw a ⟨by omega,by omega⟩).mono ?_
 rintro _ _ ⟨rfl,rfl⟩;conv=>whnf
 refine (Ql9 _ p width n bs br hh hw b ⟨by omega,by omega⟩).mono ?_
 rintro _ w1 ⟨rfl,hw1⟩
 subst hw1
 generalize a / width = lo at *
 generalize b / width = hi at *
 conv=>whnf
 refine ⟨hi - lo,wrap_eq rfl ⟨by omega,by omega⟩,?_⟩;conv=>whnf
 refine ⟨.map (some br),hh.one rfl,?_⟩;conv=>whnf
 refine ⟨_,hlook,?_⟩;conv=>whnf
 constructor
 · intro hc
   have hc : hi - lo < row.length ∧ 0 ≤ lo := by simpa using hc
   conv=>whnf
   refine Qe Qa (fun (q:Nat × Int × Int) w' => (q.1 = 0 ∨ lo + q.1 ≤ hi) ∧ q.2.1 = lo + q.1 ∧ q.2.2 = paS s key lo (lo + q.1) ∧ w' = w1)
    (fun | (k,n,t) => [(0,.pointer (some ⟨p,0,none⟩)),(1,.string key),(10,.int .i64 hi),(11,.int .i64 t),(12,.int .i64 n)]) (fun q => (hi - lo).toNat - q.1) (0,lo,0) ⟨.inl rfl,by simp,(Qkj (by simp)).symm,rfl⟩ ⟨rfl,rfl,rfl,rfl,rfl,trivial⟩ ?_
   rintro ⟨k,n,t⟩ w2 ⟨hk,hn,ht,hw2⟩
   simp only at hk hn ht
   subst hw2
   conv=>whnf
   constructor
   · intro hlt
     have hlt : n < hi := by simpa using hlt
     have hst := Q1i ok.keys key lo (lo + k) (by omega)
     have e1 : lo + (k:Int) + 1 = lo + ((k + 1 : Nat) : Int) := by omega
     rw [e1,← ht,← hn] at hst
     have hb1 := hpb lo (lo + ((k + 1 : Nat) : Int))
     have hb2 := hpb lo (lo + (k:Int))
     rw [← ht] at hb2
     rw [hst] at hb1
     conv=>whnf
     refine ⟨.map (some bs),hh.one rfl,?_⟩;conv=>whnf
     refine ⟨_,hsl (key,n),?_⟩;conv=>whnf
     refine ⟨t + (Qd s (key,n)).getD 0,wrap_eq rfl ⟨by omega,by omega⟩,?_⟩;conv=>whnf
     refine ⟨n + 1,wrap_eq rfl ⟨by omega,by omega⟩,?_⟩;conv=>whnf
     exact ⟨(k + 1,n + 1,t + (Qd s (key,n)).getD 0),by simp only; omega,⟨.inr (by simp only; omega),by simp only; omega,hst.symm,rfl⟩,⟨rfl,rfl,rfl,rfl,rfl,trivial⟩⟩
   · intro hge
     have hge : hi ≤ n := by simpa using hge
     conv=>whnf
     refine ⟨?_,rfl⟩
     rw [ht]
     rcases hk with rfl | hk
     · have h1 : paS s key lo (lo + ((0:Nat) : Int)) = 0 := Qkj (by omega)
       have h2 : paS s key lo hi = 0 := Qkj (by omega)
       rw [h1,h2]
     · have : lo + (k:Int) = hi := by omega
       rw [this]
 · intro _
   conv=>whnf
   refine ⟨.map (some br),hh.one rfl,?_⟩;conv=>whnf
   refine ⟨_,hlook,?_⟩;conv=>whnf
   refine Qe Qa (fun (q:Nat × Int) w' => q.1 ≤ row.length ∧ q.2 = Q0e s key lo hi (row.take q.1) ∧ w' = w1)
    (fun | (k,t) => [(0,.pointer (some ⟨p,0,none⟩)),(1,.string key),(9,.int .i64 lo),(10,.int .i64 hi),(11,.int .i64 t),(58,.slice A0 row.length c0),(59,.int .i64 row.length),(60,.int .i64 (k:Nat))]) (fun q => row.length - q.1) (0,0) ⟨Nat.zero_le _,rfl,rfl⟩ ⟨rfl,rfl,rfl,rfl,rfl,rfl,rfl,rfl,trivial⟩ ?_
   rintro ⟨k,t⟩ w2 ⟨hk,ht,hw2⟩
   simp only at hk ht
   subst hw2
   conv=>whnf
   constructor
   · intro hlt
     have hlt : k < row.length := by simpa using hlt
     obtain ⟨a2,hA,hc2⟩ := hrow.get hlt
     subst hA
     have htk : Q0e s key lo hi (row.take (k + 1)) = t + if lo ≤ row[k] ∧ row[k] < hi then (Qd s (key,row[k])).getD 0 else 0 := by rw [ht,List.take_succ_eq_append_getElem hlt,Qzd]
     have hb1 := (hrb (row.take (k + 1)))
     have hl1 : ((row.take (k + 1)).length : Int) * N ≤ s.length * N := Int.mul_le_mul_of_nonneg_right (by rw [List.length_take]; omega) hN0
     generalize row[k] = y at hc2 htk
     (conv=>whnf);repeat(refine Sg ?_;(conv=>whnf))
     refine ⟨a2,⟨rfl,by omega,by omega⟩,?_⟩; (conv=>whnf);repeat(refine Sg ?_;(conv=>whnf))
     refine ⟨.int .i64 y,Xj hc2,?_⟩; (conv=>whnf);repeat(refine Sg ?_;(conv=>whnf))
     constructor
     · intro hc
       have hc : lo ≤ y ∧ y < hi := by simpa using hc
       rw [if_pos hc] at htk
       rw [htk] at hb1
       (conv=>whnf);repeat(refine Sg ?_;(conv=>whnf))
       refine ⟨.map (some bs),hh.one rfl,?_⟩; (conv=>whnf);repeat(refine Sg ?_;(conv=>whnf))
       refine ⟨_,hsl (key,y),?_⟩; (conv=>whnf);repeat(refine Sg ?_;(conv=>whnf))
       refine ⟨t + (Qd s (key,y)).getD 0,wrap_eq rfl ⟨by omega,by omega⟩,?_⟩; (conv=>whnf);repeat(refine Sg ?_;(conv=>whnf))
       refine ⟨_,wrap_succ (by omega),?_⟩; (conv=>whnf);repeat(refine Sg ?_;(conv=>whnf))
       exact ⟨(k + 1,t + (Qd s (key,y)).getD 0),by simp only; omega,⟨by simp only; omega,htk.symm,rfl⟩,⟨rfl,rfl,rfl,rfl,rfl,rfl,rfl,rfl,trivial⟩⟩
     · intro hc
       have hc : ¬ (lo ≤ y ∧ y < hi) := by
        have hc : (decide (lo ≤ y) && decide (y < hi)) = false := hc
        simpa using hc
       rw [if_neg hc,Int.add_zero] at htk
       (conv=>whnf);repeat(refine Sg ?_;(conv=>whnf))
       refine ⟨_,wrap_succ (by omega),?_⟩; (conv=>whnf);repeat(refine Sg ?_;(conv=>whnf))
       exact ⟨(k + 1,t),by simp only; omega,⟨by simp only; omega,htk.symm,rfl⟩,⟨rfl,rfl,rfl,rfl,rfl,rfl,rfl,rfl,trivial⟩⟩
   · intro hge
     have hge : row.length ≤ k := by simpa using hge
     rw [List.take_of_length_le hge,hall] at ht
     rw [ht]
     conv=>whnf
     exact ⟨rfl,rfl⟩
end Go.Proofs.YtopncieoolkhjaaGreatDoor
namespace Go.Proofs.YtopncieoolkhjaaGreatDoor
open Go.Se Go.RowKit
open Go.Maps Go.Sort Go.Shelf
theorem Qsa (l:List ByteArray) {ss:List (List UInt8)} (hp:ss.Perm (l.map fun x => x.data.toList)) : (ss.mergeSort fun x y => decide (x ≤ y)).map (fun x => (⟨x.toArray⟩ : ByteArray)) = Xn l := by
 apply Qcm
 · have h1 := (List.mergeSort_perm ss fun x y => decide (x ≤ y)).trans hp
   have h2 := h1.map (fun x => (⟨x.toArray⟩ : ByteArray))
   simpa [List.map_map,Function.comp_def] using h2
 · unfold Srt
   rw [List.pairwise_map]
   have := List.pairwise_mergeSort (le := fun x y : List UInt8 => decide (x ≤ y)) (fun a b c h1 h2 => by simp only [decide_eq_true_eq] at *; exact List.le_trans h1 h2) (fun a b => by simp only [Bool.or_eq_true,decide_eq_true_eq]; exact List.le_total a b) ss
   refine this.imp fun {a b} h => ?_
   simp only [decide_eq_true_eq] at h
   unfold bLt
   rw [ByteArray.toList_eq,ByteArray.toList_eq,bytesLess_eq]
   simpa using h
theorem Qpv (l:List ByteArray) (A:Option Addr) (c base:Nat) (w:World) (hown:Own Qcn 1 9 base w A c l) (hl:l.length < 1000000) :
 Cal Tryz.prog 138 [.slice A l.length c] w fun r w' => r = .tuple #[] ∧ SlT w' A (Xn l) ∧ ∀ w0,Ext w0 w → w0.heap.size ≤ base → Ext w0 w' := by
 have hok : Qql Tryz.prog 138 := ⟨_,Tryz.func138,rfl,rfl⟩
 by_cases h0 : l = []
 · subst h0
   refine Qce hok (AnyM.slices_Sort_string_none Tryz.sort138 A c w) ?_
   rintro w' rfl
   exact ⟨rfl,by rw [Qks]; exact Sl.nil,fun w0 h _ => h⟩
 · have hsl := hown.sl Qak
   have hpos : 0 < l.length := List.length_pos_iff.2 h0
   rcases hown.2 with ⟨_,h1⟩ | ⟨g,cap,cur,hv,hb,hg,hc1,hc2,hc3,hc4⟩
   · omega
   injection hv with hA _ hcc
   subst hA
   subst hcc
   obtain ⟨ss,hss⟩ : ∃ ss,ss = l.map fun x => x.data.toList := ⟨_,rfl⟩
   have hsl2 : ss.length = l.length := by rw [hss,List.length_map]
   have hH : Holds encStr w g 0 ss.toArray := by
    intro j hj
    have hj' : j < l.length := by rw [← hsl2]; simpa using hj
    obtain ⟨a,ha,hca⟩ := hsl.get hj'
    have ha' : a = ⟨g,0,none⟩ := by simpa using ha.symm
    have hcell := Xj hca
    rw [ha',Qfo,Nat.mul_one] at hcell
    refine ⟨?_,by unfold World.frozen?; rw [hg]; simp⟩
    rw [Nat.zero_add,hcell]
    simp [hss,encStr,hj']
   have hbl : g < w.heap.size := lt_of_block hg
   have hcall := AnyM.slices_Sort_string Tryz.sort138 g 0 c ss w hH hbl (by omega)
   rw [hsl2] at hcall
   refine Qce hok hcall ?_
   rintro w' ⟨k,os,rfl⟩
   have hz := Qsa l (ss := ss) (by rw [hss])
   have hml : (ss.mergeSort fun x y => decide (x ≤ y)).length = ss.length := List.length_mergeSort _
   generalize (ss.mergeSort fun x y => decide (x ≤ y)) = ms at hz hml
   have hH2 : Holds encStr (grow (putRow encStr (Go.Sort.ahead w k) g 0 ms.toArray) os) g 0 ms.toArray := by
    refine holds_grow _ _ _ _ _ _ ?_ (holds_putRow _ _ _ _ ss.toArray _ (holds_ahead _ _ _ _ _ _ hH) (by simpa using hml))
    show g < ((Go.Sort.ahead w k).heap.modify g _).size
    rw [Array.size_modify]; exact hbl
   refine ⟨rfl,?_,?_⟩
   · intro i x hi
     rw [← hz,List.getElem?_map] at hi
     cases hq : ms[i]? with
     | none => rw [hq] at hi; simp at hi
     | some y =>
       rw [hq] at hi
       simp at hi
       subst hi
       have hil : i < ms.length := (List.getElem?_eq_some_iff.1 hq).1
       have := (hH2 i (by simpa using hil)).1
       refine ⟨_,rfl,fun j v hj => ?_⟩
       have hj0 : j = 0 := by
        have := (List.getElem?_eq_some_iff.1 hj).1
        simp [Qcn] at this
        exact this
       subst hj0
       have hyv : ms.toArray[i]! = y := by
        have := (List.getElem?_eq_some_iff.1 hq).2
        simp [hil,this]
       rw [hyv] at this
       rw [Xd,Qfo,Nat.mul_one]
       simp [Qcn] at hj
       rw [← hj]
       rw [Nat.zero_add] at this
       exact this
   · intro w0 h0 hb0
     have hx1 : Ext w0 (putRow encStr (Go.Sort.ahead w k) g 0 ms.toArray) := by
      refine ⟨h0.os,h0.tape,h0.output,?_,fun k' hk => ?_⟩
      · show w0.heap.size ≤ ((Go.Sort.ahead w k).heap.modify g _).size
        rw [Array.size_modify]; exact h0.size
      · have : (putRow encStr (Go.Sort.ahead w k) g 0 ms.toArray).heap[k']? = (Go.Sort.ahead w k).heap[k']? := Qdv _ _ _ _ (by omega)
        rw [this]; exact h0.block k' hk
     exact hx1.trans (Qgv _ os)
end Go.Proofs.YtopncieoolkhjaaGreatDoor
namespace Go.Proofs.YtopncieoolkhjaaGreatDoor
open Go.Se Go.RowKit Go.Sort
abbrev Ri := ByteArray × Int × Int
def Q5q (x:Ri) : Prop := (0 ≤ x.2.1 ∧ x.2.1 ≤ 10000000) ∧ (0 ≤ x.2.2 ∧ x.2.2 ≤ 10000000)
abbrev RiS := { x:Ri // Q5q x }
instance : Inhabited RiS := ⟨⟨(⟨#[]⟩,0,0),by unfold Q5q; simp⟩⟩
end Go.Proofs.YtopncieoolkhjaaGreatDoor
namespace Go.Proofs.YtopncieoolkhjaaGreatDoor
open Go.Se Go.RowKit
theorem Qe2 (gap:Int) (L:List Ad3) (a:Ad3) : allL gap (L ++ [a]) = X8 gap (allL gap L) a := by unfold allL; rw [List.foldl_append]; rfl
theorem Qqn (gap:Int) (acc:List Sn) (a:Ad3) : (X8 gap acc a).length ≤ acc.length + 1 := by
 unfold X8
 split
 · split
   · simp
   · simp
 · simp
theorem Q0j (gap:Int) : ∀ L : List Ad3,(allL gap L).length ≤ L.length := by
 refine Qy (by simp [allL]) fun L a ih => ?_
 rw [Qe2]
 have := Qqn gap (allL gap L) a
 simp; omega
theorem Qu3 (gap:Int) : ∀ L : List Ad3,∀ q ∈ allL gap L,q.items.length ≤ L.length := by
 refine Qy (fun q hq => by simp [allL] at hq) fun L a ih q hq => ?_
 rw [Qe2] at hq
 rw [List.length_append,List.length_singleton]
 unfold X8 at hq
 split at hq
 · next g hg =>
   have hgm : g ∈ allL gap L := List.mem_of_getLast? hg
   have hgl := ih g hgm
   split at hq
   · rcases List.mem_append.1 hq with hq | hq
     · have := ih q (List.dropLast_subset _ hq); omega
     · rw [List.mem_singleton] at hq
       subst hq
       have := Qi5 (lt := bLt) a.2.2 g.items
       simp only
       omega
   · rcases List.mem_append.1 hq with hq | hq
     · have := ih q hq; omega
     · rw [List.mem_singleton] at hq
       subst hq
       simp
 · rcases List.mem_append.1 hq with hq | hq
   · have := ih q hq; omega
   · rw [List.mem_singleton] at hq
     subst hq
     simp
theorem Q2n (T:Int) (I:ByteArray) : ∀ m : Qdh,((Q7 m T (Q7 ((Qd m T).getD []) I true)).map fun x => x.2.length).sum ≤ (m.map fun x => x.2.length).sum + 1
 | [] => by simp [Q7,Qd]
 | y :: m => by
   have ih := Q2n T I m
   rw [Qlo]
   unfold Q7
   by_cases h : T = y.1
   · rw [if_pos h,if_pos h]
     have := Qfq I true y.2
     simp only [Option.getD_some,List.map_cons,List.sum_cons]
     omega
   · rw [if_neg h,if_neg h]
     simp only [List.map_cons,List.sum_cons]
     omega
theorem Q42 : ∀ l : List Ev,∀ p,((tks (Qcc l) p).map fun x => x.2.length).sum ≤ l.length := by
 refine Qy (fun p => by simp [Qcc,tks,Qd]) fun l e ih p => ?_
 rw [Qse,Qji,List.length_append,List.length_singleton]
 split
 · next h =>
   have h1 := Q2n e.at_ e.item (tks (Qcc l) e.person)
   have h2 := ih e.person
   omega
 · have := ih p; omega
theorem Qz0 {α:Type} [DecidableEq α] {V E:List α} (hn:V.Nodup) (hs:∀ x ∈ V,x ∈ E) : V.length ≤ E.length := Qjf hn hs
theorem Q6a (gap:Int) (hg:0 ≤ gap) (l:List Ev) (hlm:∀ e ∈ l,Xo e = true ∧ wpB e = true) (hll:l.length < 1000) : Q5e gap (Qcc l) ∧ Qxk (Qey gap (Qcc l)) ∧ (Qey gap (Qcc l)).length < 1000 := by
 have hsa := Qzt gap hg l
 have hE : Qey gap (Qcc l) = allL gap (Qbr ahB (l.map adE)) := hsa.symm
 have is := Q3t l
 have hil := Qhu (lt := ahB) (l.map adE)
 rw [List.length_map] at hil
 have hname : ∀ e ∈ l,e.person.size ≤ 1000 ∧ e.item.size ≤ 1000 := fun e he => by
  have h := hlm e he
  have hw : 0 < Qo e := by simpa [wpB] using h.2
  have hn := Qb9 h.1 hw
  have h1 := Qkd hn.1
  have h2 := Qkd hn.2
  omega
 have hper : (Qcc l).length ≤ l.length := by
  have := Qz0 (V := (Qcc l).map (·.1)) (E := l.map (·.person)) (Qa8 is.keys) fun x hx => by
   obtain ⟨e,he,h⟩ := (is.person x).1 hx
   exact List.mem_map.2 ⟨e,he,h⟩
  simpa using this
 have htk : ∀ p,(tks (Qcc l) p).length ≤ l.length := fun p => by
  have := Qz0 (V := (tks (Qcc l) p).map (·.1)) (E := l.map (·.at_)) (Qj7 (is.ticks p)) fun x hx => by
   obtain ⟨e,he,_,h⟩ := (is.tick p x).1 hx
   exact List.mem_map.2 ⟨e,he,h⟩
  simpa using this
 refine ⟨⟨fun x hx => ?_,fun p => ⟨fun x hx => ?_,fun x hx y hy => ?_,?_,?_⟩,by omega,fun ps hps => ?_⟩,fun q hq => ?_,?_⟩
 · obtain ⟨e,he,h⟩ := (is.person x.1).1 (List.mem_map.2 ⟨x,hx,rfl⟩)
   rw [← h]
   exact (hname e he).1
 · obtain ⟨e,he,_,h⟩ := (is.tick p x.1).1 (List.mem_map.2 ⟨x,hx,rfl⟩)
   rw [← h]
   exact (Qcq.1 (hlm e he).1).at_
 · have hl := Qd5 (is.ticks p) (show (x.1,x.2) ∈ tks (Qcc l) p from hx)
   have hy1 : y.1 ∈ Xk (tks (Qcc l) p) x.1 := by
    unfold Xk
    rw [hl]
    exact List.mem_map.2 ⟨y,hy,rfl⟩
   obtain ⟨e,he,_,_,h⟩ := (is.item p x.1 y.1).1 hy1
   rw [← h]
   exact (hname e he).2
 · have := htk p
   show (tks (Qcc l) p).length < _
   omega
 · have := Q42 l p
   show ((tks (Qcc l) p).map _).sum < _
   omega
 · have h1 : ps.length ≤ l.length := by
    have := hps.length_le
    rw [Qeb,List.length_map] at this
    omega
   have h2 : ∀ ps : List ByteArray,(ps.flatMap (Qbh gap (Qcc l))).length ≤ ps.length * l.length := by
    intro ps
    induction ps with
    | nil => simp
    | cons p ps ih =>
      rw [List.flatMap_cons,List.length_append,List.length_cons,Nat.succ_mul]
      have h3 : (Qbh gap (Qcc l) p).length ≤ l.length := by
       unfold Qbh
       rw [List.length_map]
       have := Qtm gap ((Qd (Qcc l) p).getD [])
       have := htk p
       unfold tks at this
       omega
      omega
   have h3 := h2 ps
   have h4 : ps.length * l.length ≤ 999 * 999 := Nat.mul_le_mul (by omega) (by omega)
   omega
 · have h1 := hq
   rw [hE] at hq
   have h2 := Qu3 _ _ q hq
   unfold Qey at h1
   obtain ⟨p,_,hp⟩ := List.mem_flatMap.1 h1
   unfold Qbh at hp
   obtain ⟨g,_,hgq⟩ := List.mem_map.1 hp
   exact ⟨g.2.2,by rw [← hgq]; rfl,by omega⟩
 · rw [hE]
   have := Q0j gap (Qbr ahB (l.map adE))
   omega
theorem Q38 (c:Cfg) (z:List Ev) (hm:∀ e ∈ z,Xo e = true) (hz:z.length < 1000) : Q4a c z := by
 have hll := List.length_filter_le wpB z
 have h := Q6a (Qih c.gap) (by unfold Qih; omega) (z.filter wpB) (fun e he => ⟨hm e (List.mem_filter.1 he).1,(List.mem_filter.1 he).2⟩) (by omega)
 exact ⟨h.1,h.2.1,h.2.2⟩
theorem Qsi {α:Type} (f:α → Nat) (M:Nat) : ∀ l : List α,(∀ x ∈ l,f x ≤ M) → (l.map f).sum ≤ l.length * M
 | [],_ => by simp
 | x :: l,h => by
   have h1 := h x (by simp)
   have ih := Qsi f M l fun y hy => h y (by simp [hy])
   rw [List.map_cons,List.sum_cons,List.length_cons,Nat.succ_mul]
   omega
theorem Qzj (width:Int) (z:List Ev) : (Qq width z).rs.length ≤ z.length := by
 have h := (Qat width z).2
 have h1 := congrArg List.length h
 unfold evs at h1
 rw [List.length_map] at h1
 rw [h1]
 exact List.length_filter_le _ _
theorem Q5h (width:Int) {z:List Ev} (hm:∀ e ∈ z,Xo e = true) (hz:z.length < 100000) : Q5d (Q1n width (z.filter wpB)) 10000000 := by
 have hc := Qf4 width z hm
 have hps := (Qfr width z).2.1
 have h1 := hc.ps
 have h2 := hc.pl
 rw [hps] at h1 h2
 exact ⟨Q3m width _,Qd9 h1 (by omega),by omega,by omega,by omega⟩
end Go.Proofs.YtopncieoolkhjaaGreatDoor
