/- Several texts in one: Gv1, Gv2, Gv3, Zs, Gx1, Gx2. -/
import Derived.Test.YteabekcdcphjpaaGreatDoorGN
import Derived.Test.YteabekcdcphjpaaGreatDoorGK
import Derived.Test.YteabekcdcphjpaaGreatDoorGH
import Derived.Test.YteabekcdcphjpaaGreatDoorGI
import Derived.Test.YteabekcdcphjpaaGreatDoorHSfRise
import Derived.Test.YteabekcdcphjpaaGreatDoorGL
set_option linter.unusedVariables false
set_option linter.unusedSimpArgs false
namespace Go.Proofs.YteabekcdcphjpaaGreatDoor
open Go.Se Go.RowKit
open Go.Maps Go.Sort Go.Shelf
structure Q62 (s:Xq) (N:Int) : Prop where
 keys : s.Pairwise (fun x y => x.1 ≠ y.1)
 small : Qc5 s N
 N0 : 0 ≤ N
 sum : s.length * N < 4611686018427387904
 len : s.length < 1000000
theorem Qmn (s:Xq) (key:ByteArray) : (Xy s key).length ≤ s.length := by
 unfold Xy; rw [List.length_map]; exact List.length_filter_le _ _
theorem Qz0 {s:Xq} {N:Int} (ok:Q62 s N) (key:ByteArray) (lo hi:Int) (row:List Int) : 0 ≤ Q4r s key lo hi row ∧ Q4r s key lo hi row ≤ row.length * N := by
 have hb := Qc3 (fun n:Int => (Qc s (key,n)).getD 0) N (row.filter fun n => decide (lo ≤ n) && decide (n < hi)) fun x _ => by
  have := Qey ok.small ok.N0 (key,x)
  exact ⟨this.1,this.2.1⟩
 have hl := List.length_filter_le (fun n:Int => decide (lo ≤ n) && decide (n < hi)) row
 unfold Q4r
 exact ⟨hb.1,Int.le_trans hb.2 (Int.mul_le_mul_of_nonneg_right (by omega) ok.N0)⟩
set_option maxHeartbeats 1000000 in
theorem Qji (w:World) (S:Nat → Prop) (p:Nat) (width n:Int) (s:Xq) (h:Qgv w S p width n s) (hw:1 ≤ width ∧ width ≤ 1099511627776) (N:Int) (ok:Q62 s N) (key:ByteArray) (a b:Int) (ha:-4398046511104 ≤ a ∧ a ≤ 4398046511104) (hb:-4398046511104 ≤ b ∧ b ≤ 4398046511104) :
 Cal Tryz.prog 18 [.pointer (some ⟨p,0,none⟩),.string key,.int .i64 a,.int .i64 b] w fun r w' => r = .int .i64 (paS s key (a / width) (b / width)) ∧ w' = w := by
 obtain ⟨bs,br,L,R,h⟩ := h
 have hh := h.head
 have hlo := Qhx hw.1 ha
 have hhi := Qhx hw.1 hb
 have hpb := fun lo hi => Q21 ok.small ok.N0 key lo hi
 have hsm := ok.sum
 have hrow := (h.rows.own key).1.sl Qct
 have hlook := h.rows.look Q0q Xi (e := ty129) ty129_ok rfl key (cl := .same) Qo
 have hsl : ∀ x,RdS Tryz.prog .same w (Instr.lookup 130 (.map (some bs)) (cel x) false) (vi ((Qc s x).getD 0)) := fun x => by
  have := Qby Q6u Qt6 (e := ty2) ty2_ok (cl := .same) Qo h.sums x
  rw [show (Qc (Xk vi s) x).getD ty2.zero = vi ((Qc s x).getD 0) from Qbd vi _ _ 0] at this
  exact this
 have hrl := Qmn s key
 have hlen := ok.len
 have hall := Q6g ok.keys key (a / width) (b / width)
 have hrb := Qz0 ok key (a / width) (b / width)
 have hN0 := ok.N0
 have hcell := fun n => Qey ok.small ok.N0 (key,n)
 generalize Xy s key = row at hrow hlook hrl hall
 generalize (rowAt L key).1 = A0 at hrow hlook
 generalize (rowAt L key).2 = c0 at hrow hlook
 refine Fi Tryz.func18 rfl _ rfl rfl ?_;conv=>whnf
 refine (Qgm w p width n bs br hh hw a ⟨by omega,by omega⟩).mono ?_
 rintro _ _ ⟨rfl,rfl⟩;conv=>whnf
 refine (Qgm _ p width n bs br hh hw b ⟨by omega,by omega⟩).mono ?_
 rintro _ w1 ⟨rfl,hw1⟩
 subst hw1
 generalize a / width = lo at *
 generalize b / width = hi at *
 conv=>whnf
 refine ⟨hi - lo,wrap_eq rfl ⟨by omega,by omega⟩,?_⟩;conv=>whnf
 refine ⟨.map (some br),hh.one rfl,?_⟩;conv=>whnf
 refine ⟨_,hlook,?_⟩;conv=>whnf
 constructor
 · intro hc
   have hc : hi - lo < row.length ∧ 0 ≤ lo := by simpa using hc
   conv=>whnf
   refine Qg Qa (fun (q:Nat × Int × Int) w' => (q.1 = 0 ∨ lo + q.1 ≤ hi) ∧ q.2.1 = lo + q.1 ∧ q.2.2 = paS s key lo (lo + q.1) ∧ w' = w1)
    (fun | (k,n,t) => [(0,.pointer (some ⟨p,0,none⟩)),(1,.string key),(10,.int .i64 hi),(11,.int .i64 t),(12,.int .i64 n)]) (fun q => (hi - lo).toNat - q.1) (0,lo,0) ⟨.inl rfl,by simp,(Qmf (by simp)).symm,rfl⟩ ⟨rfl,rfl,rfl,rfl,rfl,trivial⟩ ?_
   rintro ⟨k,n,t⟩ w2 ⟨hk,hn,ht,hw2⟩
   simp only at hk hn ht
   subst hw2
   conv=>whnf
   constructor
   · intro hlt
     have hlt : n < hi := by simpa using hlt
     have hst := Q57 ok.keys key lo (lo + k) (by omega)
     have e1 : lo + (k:Int) + 1 = lo + ((k + 1 : Nat) : Int) := by omega
     rw [e1,← ht,← hn] at hst
     have hb1 := hpb lo (lo + ((k + 1 : Nat) : Int))
     have hb2 := hpb lo (lo + (k:Int))
     rw [← ht] at hb2
     rw [hst] at hb1
     conv=>whnf
     refine ⟨.map (some bs),hh.one rfl,?_⟩;conv=>whnf
     refine ⟨_,hsl (key,n),?_⟩;conv=>whnf
     refine ⟨t + (Qc s (key,n)).getD 0,wrap_eq rfl ⟨by omega,by omega⟩,?_⟩;conv=>whnf
     refine ⟨n + 1,wrap_eq rfl ⟨by omega,by omega⟩,?_⟩;conv=>whnf
     exact ⟨(k + 1,n + 1,t + (Qc s (key,n)).getD 0),by simp only; omega,⟨.inr (by simp only; omega),by simp only; omega,hst.symm,rfl⟩,⟨rfl,rfl,rfl,rfl,rfl,trivial⟩⟩
   · intro hge
     have hge : hi ≤ n := by simpa using hge
     conv=>whnf
     refine ⟨?_,rfl⟩
     rw [ht]
     rcases hk with rfl | hk
     · have h1 : paS s key lo (lo + ((0:Nat) : Int)) = 0 := Qmf (by omega)
       have h2 : paS s key lo hi = 0 := Qmf (by omega)
       rw [h1,h2]
     · have : lo + (k:Int) = hi := by omega
       rw [this]
 · intro _
   conv=>whnf
   refine ⟨.map (some br),hh.one rfl,?_⟩;conv=>whnf
   refine ⟨_,hlook,?_⟩;conv=>whnf
   refine Qg Qa (fun (q:Nat × Int) w' => q.1 ≤ row.length ∧ q.2 = Q4r s key lo hi (row.take q.1) ∧ w' = w1)
    (fun | (k,t) => [(0,.pointer (some ⟨p,0,none⟩)),(1,.string key),(9,.int .i64 lo),(10,.int .i64 hi),(11,.int .i64 t),(58,.slice A0 row.length c0),(59,.int .i64 row.length),(60,.int .i64 (k:Nat))]) (fun q => row.length - q.1) (0,0) ⟨Nat.zero_le _,rfl,rfl⟩ ⟨rfl,rfl,rfl,rfl,rfl,rfl,rfl,rfl,trivial⟩ ?_
   rintro ⟨k,t⟩ w2 ⟨hk,ht,hw2⟩
   simp only at hk ht
   subst hw2
   conv=>whnf
   constructor
   · intro hlt
     have hlt : k < row.length := by simpa using hlt
     obtain ⟨a2,hA,hc2⟩ := hrow.get hlt
     subst hA
     have htk : Q4r s key lo hi (row.take (k + 1)) = t + if lo ≤ row[k] ∧ row[k] < hi then (Qc s (key,row[k])).getD 0 else 0 := by rw [ht,List.take_succ_eq_append_getElem hlt,Q3k]
     have hb1 := (hrb (row.take (k + 1)))
     have hl1 : ((row.take (k + 1)).length : Int) * N ≤ s.length * N := Int.mul_le_mul_of_nonneg_right (by rw [List.length_take]; omega) hN0
     generalize row[k] = y at hc2 htk
     (conv=>whnf);repeat(refine Sg ?_;(conv=>whnf))
     refine ⟨a2,⟨rfl,by omega,by omega⟩,?_⟩; (conv=>whnf);repeat(refine Sg ?_;(conv=>whnf))
     refine ⟨.int .i64 y,Qv hc2,?_⟩; (conv=>whnf);repeat(refine Sg ?_;(conv=>whnf))
     constructor
     · intro hc
       have hc : lo ≤ y ∧ y < hi := by simpa using hc
       rw [if_pos hc] at htk
       rw [htk] at hb1
       (conv=>whnf);repeat(refine Sg ?_;(conv=>whnf))
       refine ⟨.map (some bs),hh.one rfl,?_⟩; (conv=>whnf);repeat(refine Sg ?_;(conv=>whnf))
       refine ⟨_,hsl (key,y),?_⟩; (conv=>whnf);repeat(refine Sg ?_;(conv=>whnf))
       refine ⟨t + (Qc s (key,y)).getD 0,wrap_eq rfl ⟨by omega,by omega⟩,?_⟩; (conv=>whnf);repeat(refine Sg ?_;(conv=>whnf))
       refine ⟨_,wrap_succ (by omega),?_⟩; (conv=>whnf);repeat(refine Sg ?_;(conv=>whnf))
       exact ⟨(k + 1,t + (Qc s (key,y)).getD 0),by simp only; omega,⟨by simp only; omega,htk.symm,rfl⟩,⟨rfl,rfl,rfl,rfl,rfl,rfl,rfl,rfl,trivial⟩⟩
     · intro hc
       have hc : ¬ (lo ≤ y ∧ y < hi) := by
        have hc : (decide (lo ≤ y) && decide (y < hi)) = false := hc
        simpa using hc
       rw [if_neg hc,Int.add_zero] at htk
       (conv=>whnf);repeat(refine Sg ?_;(conv=>whnf))
       refine ⟨_,wrap_succ (by omega),?_⟩; (conv=>whnf);repeat(refine Sg ?_;(conv=>whnf))
       exact ⟨(k + 1,t),by simp only; omega,⟨by simp only; omega,htk.symm,rfl⟩,⟨rfl,rfl,rfl,rfl,rfl,rfl,rfl,rfl,trivial⟩⟩
   · intro hge
     have hge : row.length ≤ k := by simpa using hge
     rw [List.take_of_length_le hge,hall] at ht
     rw [ht]
     conv=>whnf
     exact ⟨rfl,rfl⟩
def Qjm (lo hi:Int) (x:Int) : Bool := decide (lo ≤ x) && decide (x < hi)
theorem Qy6 (bl bh:Nat) (lo hi x:Int) (w:World) (hl:At w bl 3 [.int .i64 lo]) (hh:At w bh 3 [.int .i64 hi]) :
 Cal Tryz.prog 91 [.int .i64 x,.pointer (some ⟨bl,0,none⟩),.pointer (some ⟨bh,0,none⟩)] w fun r w' => r = .bool (Qjm lo hi x) ∧ w' = w := by
 refine Fi Tryz.func91 rfl _ rfl rfl ?_;conv=>whnf
 refine ⟨.int .i64 lo,hl.one0,?_⟩;conv=>whnf
 refine ⟨.int .i64 hi,fun _ => hh.one0,?_⟩;conv=>whnf
 exact ⟨rfl,rfl⟩
theorem Q19 (bl bh:Nat) (lo hi:Int) (row:List Int) (A:Option Addr) (c:Nat) (w:World) (hs:Sl Qku 1 w A row) (hlen:row.length < 1000000) (hl:At w bl 3 [.int .i64 lo]) (hh:At w bh 3 [.int .i64 hi]) :
 Cal Tryz.prog 164 [.slice A row.length c,.func (.func 91) #[] #[.pointer (some ⟨bl,0,none⟩),.pointer (some ⟨bh,0,none⟩)]] w fun r w' => (∃ i : Int,r = .int .i64 i ∧ -1 ≤ i ∧ (0 ≤ i ↔ row.any (Qjm lo hi) = true)) ∧ w' = w := by
 refine Fi Tryz.func164 rfl _ rfl rfl ?_;conv=>whnf
 refine Qg Qa (fun (k:Nat) w' => k ≤ row.length ∧ (row.take k).any (Qjm lo hi) = false ∧ w' = w)
  (fun k => [(0,.slice A row.length c),(1,.func (.func 91) #[] #[.pointer (some ⟨bl,0,none⟩),.pointer (some ⟨bh,0,none⟩)]),(7,.int .i64 row.length),(8,.int .i64 (k:Nat))]) (fun k => row.length - k) 0 ⟨Nat.zero_le _,rfl,rfl⟩ ⟨rfl,rfl,rfl,rfl,trivial⟩ ?_
 rintro k w2 ⟨hk,hno,hw2⟩
 subst hw2
 conv=>whnf
 constructor
 · intro hlt
   have hlt : k < row.length := by simpa using hlt
   obtain ⟨a2,hA,hc2⟩ := hs.get hlt
   subst hA
   have htk : (row.take (k + 1)).any (Qjm lo hi) = Qjm lo hi row[k] := by rw [List.take_succ_eq_append_getElem hlt,List.any_append,hno]; simp
   have hmem : row[k] ∈ row := List.getElem_mem hlt
   generalize row[k] = y at hc2 htk hmem
   conv=>whnf
   refine ⟨a2,⟨rfl,by omega,by omega⟩,?_⟩;conv=>whnf
   refine ⟨.int .i64 y,Qv hc2,?_⟩;conv=>whnf
   refine (Qy6 bl bh lo hi y w2 hl hh).mono ?_
   rintro _ _ ⟨rfl,rfl⟩
   generalize hq : Qjm lo hi y = q at htk ⊢
   conv=>whnf
   constructor
   · intro hc
     have hc : q = true := hc
     conv=>whnf
     refine ⟨⟨k,rfl,by omega,?_⟩,rfl⟩
     simp only [Int.natCast_nonneg,true_iff,List.any_eq_true]
     exact ⟨y,hmem,by rw [hq,hc]⟩
   · intro hc
     have hc : q = false := hc
     conv=>whnf
     refine ⟨_,wrap_succ (by omega),?_⟩;conv=>whnf
     exact ⟨k + 1,by omega,⟨by omega,by rw [htk,hc],rfl⟩,⟨rfl,rfl,rfl,rfl,trivial⟩⟩
 · intro hge
   have hge : row.length ≤ k := by simpa using hge
   rw [List.take_of_length_le hge] at hno
   conv=>whnf
   exact ⟨⟨-1,rfl,by omega,by rw [hno]; simp⟩,rfl⟩
theorem Q15 (bl bh:Nat) (lo hi:Int) (row:List Int) (A:Option Addr) (c:Nat) (w:World) (hs:Sl Qku 1 w A row) (hlen:row.length < 1000000) (hl:At w bl 3 [.int .i64 lo]) (hh:At w bh 3 [.int .i64 hi]) :
 Cal Tryz.prog 90 [.slice A row.length c,.func (.func 91) #[] #[.pointer (some ⟨bl,0,none⟩),.pointer (some ⟨bh,0,none⟩)]] w fun r w' => r = .bool (row.any (Qjm lo hi)) ∧ w' = w := by
 refine Fi Tryz.func90 rfl _ rfl rfl ?_;conv=>whnf
 refine (Q19 bl bh lo hi row A c w hs hlen hl hh).mono ?_
 rintro _ _ ⟨⟨i,rfl,hi1,hi2⟩,rfl⟩
 conv=>whnf
 refine ⟨?_,rfl⟩
 cases hq : row.any (Qjm lo hi) with
 | true => rw [decide_eq_true (hi2.2 hq)]
 | false => rw [decide_eq_false (fun h => by rw [hi2.1 h] at hq; cases hq)]
end Go.Proofs.YteabekcdcphjpaaGreatDoor
namespace Go.Proofs.YteabekcdcphjpaaGreatDoor
open Go.Se Go.RowKit
open Go.Maps Go.Sort Go.Shelf
def Qat (s:Xq) (lo hi:Int) : List ByteArray := Qc8 ((s.filter fun x => Qjm lo hi x.1.2).map (·.1.1))
theorem Qwj {s:Xq} {key:ByteArray} {lo hi:Int} : (Xy s key).any (Qjm lo hi) = true ↔ ∃ x ∈ s,x.1.1 = key ∧ Qjm lo hi x.1.2 = true := by
 unfold Xy
 rw [List.any_eq_true]
 constructor
 · rintro ⟨y,hy,h⟩
   obtain ⟨x,hx,rfl⟩ := List.mem_map.1 hy
   obtain ⟨h1,h2⟩ := List.mem_filter.1 hx
   exact ⟨x,h1,by simpa using h2,h⟩
 · rintro ⟨x,hx,h1,h2⟩
   exact ⟨x.1.2,List.mem_map.2 ⟨x,List.mem_filter.2 ⟨hx,by simpa using h1⟩,rfl⟩,h2⟩
theorem Qrz {s:Xq} {key:ByteArray} {lo hi:Int} : key ∈ Qat s lo hi ↔ (Xy s key).any (Qjm lo hi) = true := by
 unfold Qat
 rw [Xz,Qwj,List.mem_map]
 constructor
 · rintro ⟨x,hx,rfl⟩
   obtain ⟨h1,h2⟩ := List.mem_filter.1 hx
   exact ⟨x,h1,rfl,h2⟩
 · rintro ⟨x,hx,h1,h2⟩
   exact ⟨x,List.mem_filter.2 ⟨hx,h2⟩,h1⟩
theorem Qr0 {s:Xq} {N:Int} (h:Qc5 s N) {key:ByteArray} {lo hi:Int} : key ∈ Qat s lo hi ↔ 0 < paS s key lo hi := by
 rw [Qrz,Qwj]
 induction s with
 | nil => simp [paS]
 | cons x s ih =>
   have ih := ih fun y hy => h y (by simp [hy])
   have hx := (h x (by simp)).1
   have h0 : 0 ≤ paS s key lo hi := (Qc3 (fun y:PK × Int => y.2) N _ fun y hy => by have := h y (by simp [(List.mem_filter.1 hy).1]); exact ⟨by omega,this.2⟩).1
   rw [Qp7]
   constructor
   · rintro ⟨y,hy,h1,h2⟩
     rcases List.mem_cons.1 hy with rfl | hy
     · have h2 : lo ≤ y.1.2 ∧ y.1.2 < hi := by simpa [Qjm] using h2
       rw [if_pos ⟨h1,h2⟩]; omega
     · have := ih.1 ⟨y,hy,h1,h2⟩
       split <;> omega
   · intro hp
     by_cases hc : x.1.1 = key ∧ lo ≤ x.1.2 ∧ x.1.2 < hi
     · exact ⟨x,by simp,hc.1,by simp [Qjm,hc.2]⟩
     · rw [if_neg hc,Int.zero_add] at hp
       obtain ⟨y,hy,h1⟩ := ih.2 hp
       exact ⟨y,by simp [hy],h1⟩
theorem Q2f (s:Xq) (lo hi:Int) : (Qat s lo hi).length ≤ s.length := by
 unfold Qat
 have h1 := Qkx ((s.filter fun x => Qjm lo hi x.1.2).map (·.1.1))
 have h2 := List.length_filter_le (fun x:PK × Int => Qjm lo hi x.1.2) s
 rw [List.length_map] at h1
 omega
theorem Qvl (l:List ByteArray) {ss:List (List UInt8)} (hp:ss.Perm (l.map fun x => x.data.toList)) : (ss.mergeSort fun x y => decide (x ≤ y)).map (fun x => (⟨x.toArray⟩ : ByteArray)) = Xr l := by
 apply Qc1
 · have h1 := (List.mergeSort_perm ss fun x y => decide (x ≤ y)).trans hp
   have h2 := h1.map (fun x => (⟨x.toArray⟩ : ByteArray))
   simpa [List.map_map,Function.comp_def] using h2
 · unfold Srt
   rw [List.pairwise_map]
   have := List.pairwise_mergeSort (le := fun x y : List UInt8 => decide (x ≤ y)) (fun a b c h1 h2 => by simp only [decide_eq_true_eq] at *; exact List.le_trans h1 h2) (fun a b => by simp only [Bool.or_eq_true,decide_eq_true_eq]; exact List.le_total a b) ss
   refine this.imp fun {a b} h => ?_
   simp only [decide_eq_true_eq] at h
   unfold bLt
   rw [ByteArray.toList_eq,ByteArray.toList_eq,bytesLess_eq]
   simpa using h
theorem Qka (l:List ByteArray) (A:Option Addr) (c base:Nat) (w:World) (hown:Own Qbr 1 9 base w A c l) (hl:l.length < 1000000) :
 Cal Tryz.prog 92 [.slice A l.length c] w fun r w' => r = .tuple #[] ∧ SlT w' A (Xr l) ∧ ∀ w0,Ext w0 w → w0.heap.size ≤ base → Ext w0 w' := by
 have hok : Qox Tryz.prog 92 := ⟨_,Tryz.func92,rfl,rfl⟩
 by_cases h0 : l = []
 · subst h0
   refine Qbq hok (AnyM.slices_Sort_string_none Tryz.sort92 A c w) ?_
   rintro w' rfl
   exact ⟨rfl,by rw [Qih]; exact Sl.nil,fun w0 h _ => h⟩
 · have hsl := hown.sl X0
   have hpos : 0 < l.length := List.length_pos_iff.2 h0
   rcases hown.2 with ⟨_,h1⟩ | ⟨g,cap,cur,hv,hb,hg,hc1,hc2,hc3,hc4⟩
   · omega
   injection hv with hA _ hcc
   subst hA
   subst hcc
   obtain ⟨ss,hss⟩ : ∃ ss,ss = l.map fun x => x.data.toList := ⟨_,rfl⟩
   have hsl2 : ss.length = l.length := by rw [hss,List.length_map]
   have hH : Holds encStr w g 0 ss.toArray := by
    intro j hj
    have hj' : j < l.length := by rw [← hsl2]; simpa using hj
    obtain ⟨a,ha,hca⟩ := hsl.get hj'
    have ha' : a = ⟨g,0,none⟩ := by simpa using ha.symm
    have hcell := Qv hca
    rw [ha',Qkk,Nat.mul_one] at hcell
    refine ⟨?_,by unfold World.frozen?; rw [hg]; simp⟩
    rw [Nat.zero_add,hcell]
    simp [hss,encStr,hj']
   have hbl : g < w.heap.size := lt_of_block hg
   have hcall := AnyM.slices_Sort_string Tryz.sort92 g 0 c ss w hH hbl (by omega)
   rw [hsl2] at hcall
   refine Qbq hok hcall ?_
   rintro w' ⟨k,os,rfl⟩
   have hz := Qvl l (ss := ss) (by rw [hss])
   have hml : (ss.mergeSort fun x y => decide (x ≤ y)).length = ss.length := List.length_mergeSort _
   generalize (ss.mergeSort fun x y => decide (x ≤ y)) = ms at hz hml
   have hH2 : Holds encStr (grow (putRow encStr (Go.Sort.ahead w k) g 0 ms.toArray) os) g 0 ms.toArray := by
    refine holds_grow _ _ _ _ _ _ ?_ (holds_putRow _ _ _ _ ss.toArray _ (holds_ahead _ _ _ _ _ _ hH) (by simpa using hml))
    show g < ((Go.Sort.ahead w k).heap.modify g _).size
    rw [Array.size_modify]; exact hbl
   refine ⟨rfl,?_,?_⟩
   · intro i x hi
     rw [← hz,List.getElem?_map] at hi
     cases hq : ms[i]? with
     | none => rw [hq] at hi; simp at hi
     | some y =>
       rw [hq] at hi
       simp at hi
       subst hi
       have hil : i < ms.length := (List.getElem?_eq_some_iff.1 hq).1
       have := (hH2 i (by simpa using hil)).1
       refine ⟨_,rfl,fun j v hj => ?_⟩
       have hj0 : j = 0 := by
        have := (List.getElem?_eq_some_iff.1 hj).1
        simp [Qbr] at this
        exact this
       subst hj0
       have hyv : ms.toArray[i]! = y := by
        have := (List.getElem?_eq_some_iff.1 hq).2
        simp [hil,this]
       rw [hyv] at this
       rw [Xf,Qkk,Nat.mul_one]
       simp [Qbr] at hj
       rw [← hj]
       rw [Nat.zero_add] at this
       exact this
   · intro w0 h0 hb0
     have hx1 : Ext w0 (putRow encStr (Go.Sort.ahead w k) g 0 ms.toArray) := by
      refine ⟨h0.os,h0.tape,h0.output,?_,fun k' hk => ?_⟩
      · show w0.heap.size ≤ ((Go.Sort.ahead w k).heap.modify g _).size
        rw [Array.size_modify]; exact h0.size
      · have : (putRow encStr (Go.Sort.ahead w k) g 0 ms.toArray).heap[k']? = (Go.Sort.ahead w k).heap[k']? := Qeh _ _ _ _ (by omega)
        rw [this]; exact h0.block k' hk
     exact hx1.trans (Qhz _ os)
set_option maxHeartbeats 1000000 in
theorem Qj8 (w:World) (S:Nat → Prop) (p:Nat) (width n:Int) (s:Xq) (h:Qgv w S p width n s) (hw:1 ≤ width ∧ width ≤ 1099511627776) (N:Int) (ok:Q62 s N) (a b:Int) (ha:-4398046511104 ≤ a ∧ a ≤ 4398046511104) (hb:-4398046511104 ≤ b ∧ b ≤ 4398046511104) :
 Cal Tryz.prog 26 [.pointer (some ⟨p,0,none⟩),.int .i64 a,.int .i64 b] w fun r w' => ∃ A c,r = .slice A (Qat s (a / width) (b / width)).length c ∧ SlT w' A (Qat s (a / width) (b / width)) ∧ (∀ x,A = some x → w.heap.size ≤ x.block) ∧ Ext w w' := by
 obtain ⟨bs,br,L,R,h⟩ := h
 have hh := h.head
 have hm := h.rows.map
 have hlen := ok.len
 have hLl : L.length ≤ s.length := by
  have h1 : (L.map (·.1)).Nodup := Qal h.rows.keys
  have h2 : ∀ x ∈ L.map (·.1),x ∈ s.map (fun y => y.1.1) := fun x hx => by
   obtain ⟨y,hy,rfl⟩ := List.mem_map.1 hx
   have hne := h.rows.ne y hy
   cases hq : Xy s y.1 with
   | nil => exact absurd hq hne
   | cons n l =>
     have hn : n ∈ Xy s y.1 := by rw [hq]; simp
     unfold Xy at hn
     obtain ⟨z,hz,_⟩ := List.mem_map.1 hn
     obtain ⟨h3,h4⟩ := List.mem_filter.1 hz
     exact List.mem_map.2 ⟨z,h3,by simpa using h4⟩
  have := Qfb h1 h2
  simpa using this
 have hK : ∀ out : List ByteArray,out.Perm ((L.map (·.1)).filter fun k => (Xy s k).any (Qjm (a / width) (b / width))) → Xr out = Qat s (a / width) (b / width) := fun out hp => by
  refine Qhj ?_ fun x => ?_
  · exact hp.nodup_iff.2 ((Qal h.rows.keys).sublist List.filter_sublist)
  · rw [hp.mem_iff,List.mem_filter]
    have hm1 : x ∈ ((s.filter fun x => Qjm (a / width) (b / width) x.1.2).map (·.1.1)) ↔ (Xy s x).any (Qjm (a / width) (b / width)) = true := by
     rw [← Qrz]; unfold Qat; rw [Xz]
    rw [hm1]
    constructor
    · exact fun hx => hx.2
    · intro hx
      refine ⟨?_,hx⟩
      rw [Qgl]
      cases hq : Qc L x with
      | some v => rfl
      | none =>
        have := h.rows.all x hq
        rw [this] at hx
        simp at hx
 have hlo := Qhx hw.1 ha
 have hhi := Qhx hw.1 hb
 refine Fi Tryz.func26 rfl _ rfl rfl ?_;conv=>whnf
 refine (Qgm w p width n bs br hh hw a ⟨by omega,by omega⟩).mono ?_
 rintro _ _ ⟨rfl,rfl⟩;conv=>whnf
 refine (Qgm _ p width n bs br hh hw b ⟨by omega,by omega⟩).mono ?_
 rintro _ w1 ⟨rfl,hw1⟩
 subst hw1
 generalize a / width = lo at *
 generalize b / width = hi at *
 conv=>whnf
 intro b3 w3 hn3;conv=>whnf
 intro b4 w4 hn4;conv=>whnf
 have e3 := hn3.block; have e4 := hn4.block; have s3 := hn3.size
 refine Qj Qa (e := ty3) rfl (hn3.At.ext hn4.ext) rfl rfl rfl (by simp [Qm,Value.oneCell']) fun w5 h5 ho5 => ?_;conv=>whnf
 have h45 : At w5 b4 3 [.int .i64 0] := (ho5.block b4 (by omega)).trans hn4.At
 refine Qj Qa (e := ty3) rfl h45 rfl rfl rfl (by simp [Qm,Value.oneCell']) fun w6 h6 ho6 => ?_
 have hx6 : Ext w1 w6 := ho6.ext (ho5.ext (hn3.ext.trans hn4.ext) (by omega)) (by omega)
 have h63 : At w6 b3 3 [.int .i64 lo] := (ho6.block b3 (by omega)).trans h5
 have h64 : At w6 b4 3 [.int .i64 hi] := h6
 clear h5 h45 h6 ho5 ho6 hn3 hn4
 conv=>whnf
 refine ⟨.map (some br),(hh.ext hx6).one rfl,?_⟩;conv=>whnf
 refine map_range Q0q (hm.ext hx6) fun w7 hi7 hx7 => ?_
 generalize hr : w6.heap.size = r at hi7 ⊢
 have hx := hx6.trans hx7
 have h73 := h63.ext hx7
 have h74 := h64.ext hx7
 have l3 := h63.lt
 have l4 := h64.lt
 have s6 := hx6.size
 have hbrlt := hm.lt
 have hr7 : r < w7.heap.size := hi7.lt
 conv=>whnf
 refine Qg Qa (fun (i:List (ByteArray × (Option Addr × Nat)) × Option Addr × Nat × List ByteArray) w' => Ext w1 w' ∧ w7.heap.size ≤ w'.heap.size ∧ At w' b3 3 [.int .i64 lo] ∧ At w' b4 3 [.int .i64 hi] ∧ Iter w' r br Value.string (toV (Xy s) L) (toV (Xy s) i.1) ∧ i.2.2.2 = (i.1.map (·.1)).filter (fun k => (Xy s k).any (Qjm lo hi)) ∧ Own Qbr 1 9 w7.heap.size w' i.2.1 i.2.2.1 i.2.2.2)
  (fun | (vs,A,d,F) => [(7,.pointer (some ⟨b3,0,none⟩)),(8,.pointer (some ⟨b4,0,none⟩)),(9,.slice A F.length d),(22,.pointer (some ⟨r,0,none⟩))]) (fun i => L.length - i.1.length) ([],none,0,[]) ⟨hx,Nat.le_refl _,h73,h74,hi7,rfl,Own.nil⟩ ⟨rfl,rfl,rfl,rfl,trivial⟩ ?_
 clear hi7 h73 h74
 rintro ⟨vs,A,d,F⟩ w8 ⟨hx8,z8,h83,h84,hi8,hF,hown8⟩
 simp only at hi8 hF hown8
 have hFl : F.length ≤ vs.length := by
  rw [hF]
  have := List.length_filter_le (fun k => (Xy s k).any (Qjm lo hi)) (vs.map (·.1))
  rw [List.length_map] at this
  exact this
 conv=>whnf
 refine Qao hi8 (fun hp => ?_) (fun x w9 hin hnew hlt hi9 ho9 hen => ?_)
 · have hp1 : (vs.map (·.1)).Perm (L.map (·.1)) := by
    have := hp.map (·.1)
    simpa [toV,List.map_map,Function.comp_def] using this
   have hvl : vs.length = L.length := by simpa using hp1.length_eq
   have hk := hK F (by rw [hF]; exact hp1.filter _)
   conv=>whnf
   constructor
   · intro hx; cases hx
   intro _
   conv=>whnf
   refine (Qka F A d w7.heap.size w8 hown8 (by omega)).mono ?_
   rintro _ w9 ⟨rfl,hsl9,hx9⟩
   conv=>whnf
   have hl9 : F.length = (Qat s lo hi).length := by rw [← hk,Qcg]
   refine ⟨A,d,by rw [hl9],?_,fun x hx' => by have := (hown8.block hx').1; have := hx.size; omega,hx9 w1 hx8 (by have := hx.size; omega)⟩
   rw [← hk]
   exact hsl9
 · obtain ⟨y,hy,rfl⟩ := List.mem_map.1 hin
   have hlt : vs.length < L.length := by simpa [toV] using hlt
   have hvs : toV (Xy s) vs ++ [(y.1,Value.slice y.2.1 (Xy s y.1).length y.2.2)] = toV (Xy s) (vs ++ [y]) := by simp [toV]
   rw [hvs] at hi9
   have s9 := ho9.size
   have hx9 := ho9.ext hx8 (by omega)
   have hown9 := hown8.keep fun a ha => ho9.block _ (fun e => by have := (hown8.block ha).1; have := hx7.size; have := hi8.lt; omega)
   have h93 := (ho9.block b3 (by omega)).trans h83
   have h94 := (ho9.block b4 (by omega)).trans h84
   have hsn : ((vs ++ [y]).map (·.1)).filter (fun k => (Xy s k).any (Qjm lo hi)) = F ++ if (Xy s y.1).any (Qjm lo hi) = true then [y.1] else [] := by
    rw [List.map_append,List.filter_append,hF]
    cases hq : (Xy s y.1).any (Qjm lo hi) <;> simp [hq]
   have hrow : Sl Qku 1 w9 y.2.1 (Xy s y.1) := by
    have hro := h.rows.row y hy
    refine Qej (hro.1.sl Qct) fun a ha => ?_
    have hal := (hro.1.block ha).2
    exact (ho9.block a.block (by omega)).trans (hx8.block a.block hal)
   have hrl := Qmn s y.1
   (conv=>whnf);repeat(refine Sg ?_;(conv=>whnf))
   constructor
   · intro _
     (conv=>whnf);repeat(refine Sg ?_;(conv=>whnf))
     refine Xc (hen w9 rfl rfl) ?_
     generalize Xy s y.1 = row at hrow hrl hsn ⊢
     (conv=>whnf);repeat(refine Sg ?_;(conv=>whnf))
     refine (Q15 b3 b4 lo hi row y.2.1 y.2.2 w9 hrow (by omega) h93 h94).mono ?_
     rintro _ w10 ⟨rfl,hw10⟩
     subst hw10
     generalize hq : row.any (Qjm lo hi) = q at hsn
     (conv=>whnf);repeat(refine Sg ?_;(conv=>whnf))
     constructor
     · intro hc
       have hc : q = true := hc
       rw [if_pos hc] at hsn
       (conv=>whnf);repeat(refine Sg ?_;(conv=>whnf))
       intro b11 w11 hn11; (conv=>whnf);repeat(refine Sg ?_;(conv=>whnf))
       refine Qlc (l := F) (news := [y.1]) (hown9.ext hn11.ext) (Qcf X0 (l := [y.1]) hn11) (by simp; omega) (by have := hn11.size; omega) fun A' c' w12 hown12 hg12 hA12 => ?_
       have s11 := hn11.size
       have s12 := hg12.size
       have hx12 := Qag (hx9.trans hn11.ext) hg12 (fun k hk => by have := Qg3 hown9 k hk; have := hx7.size; omega)
       have hbl : ∀ k,k < w7.heap.size → w12.heap[k]? = w10.heap[k]? := fun k hk => (hg12.block k (by omega) (fun e => by have := Qg3 hown9 k e.symm; omega)).trans (hn11.ext.block k (by omega))
       have hi12 := hi9.keep (hbl br (by have := hx7.size; omega)) (hbl r hr7)
       have h123 := (hbl b3 (by have := hx7.size; omega)).trans h93
       have h124 := (hbl b4 (by have := hx7.size; omega)).trans h94
       generalize F ++ [y.1] = F1 at hown12 hsn ⊢
       (conv=>whnf);repeat(refine Sg ?_;(conv=>whnf))
       exact ⟨(vs ++ [y],A',c',F1),by simp; omega,⟨hx12,by omega,h123,h124,hi12,hsn.symm,hown12⟩,⟨rfl,rfl,rfl,rfl,trivial⟩⟩
     · intro hc
       have hc : q = false := hc
       rw [hc] at hsn
       simp only [Bool.false_eq_true,if_false,List.append_nil] at hsn
       (conv=>whnf);repeat(refine Sg ?_;(conv=>whnf))
       exact ⟨(vs ++ [y],A,d,F),by simp; omega,⟨hx9,by omega,h93,h94,hi9,hsn.symm,hown9⟩,⟨rfl,rfl,rfl,rfl,trivial⟩⟩
   · intro h; cases h
theorem Qme (w:World) (S:Nat → Prop) (p:Nat) (width n:Int) (s:Xq) (h:Qgv w S p width n s) (hw:1 ≤ width ∧ width ≤ 1099511627776) (N:Int) (ok:Q62 s N) (a b:Int) (ha:-4398046511104 ≤ a ∧ a ≤ 4398046511104) (hb:-4398046511104 ≤ b ∧ b ≤ 4398046511104) :
 Cal Tryz.prog 26 [.pointer (some ⟨p,0,none⟩),.int .i64 a,.int .i64 b] w fun r w' => ∃ A c,r = .slice A (Qat s (a / width) (b / width)).length c ∧ SlT w' A (Qat s (a / width) (b / width)) ∧ Ext w w' :=
 (Qj8 w S p width n s h hw N ok a b ha hb).mono fun r w' ⟨A,c,h1,h2,_,h3⟩ => ⟨A,c,h1,h2,h3⟩
end Go.Proofs.YteabekcdcphjpaaGreatDoor
namespace Go.Proofs.YteabekcdcphjpaaGreatDoor
open Go.Se Go.RowKit Go.Sort
abbrev Ri := ByteArray × Int × Int
def Xbe (x:Ri) : Prop := (0 ≤ x.2.1 ∧ x.2.1 ≤ 10000000) ∧ (0 ≤ x.2.2 ∧ x.2.2 ≤ 10000000)
abbrev RiS := { x:Ri // Xbe x }
instance : Inhabited RiS := ⟨⟨(⟨#[]⟩,0,0),by unfold Xbe; simp⟩⟩
end Go.Proofs.YteabekcdcphjpaaGreatDoor
namespace Go.Proofs.YteabekcdcphjpaaGreatDoor
open Go.Se Go.RowKit
theorem Qfl (gap:Int) (L:List Ad3) (a:Ad3) : allL gap (L ++ [a]) = Qaw gap (allL gap L) a := by unfold allL; rw [List.foldl_append]; rfl
theorem Qtx (gap:Int) (acc:List Sn) (a:Ad3) : (Qaw gap acc a).length ≤ acc.length + 1 := by
 unfold Qaw
 split
 · split
   · simp
   · simp
 · simp
theorem Q4z (gap:Int) : ∀ L : List Ad3,(allL gap L).length ≤ L.length := by
 refine Qy (by simp [allL]) fun L a ih => ?_
 rw [Qfl]
 have := Qtx gap (allL gap L) a
 simp; omega
theorem Qnp (gap:Int) : ∀ L : List Ad3,∀ q ∈ allL gap L,q.items.length ≤ L.length := by
 refine Qy (fun q hq => by simp [allL] at hq) fun L a ih q hq => ?_
 rw [Qfl] at hq
 rw [List.length_append,List.length_singleton]
 unfold Qaw at hq
 split at hq
 · next g hg =>
   have hgm : g ∈ allL gap L := List.mem_of_getLast? hg
   have hgl := ih g hgm
   split at hq
   · rcases List.mem_append.1 hq with hq | hq
     · have := ih q (List.dropLast_subset _ hq); omega
     · rw [List.mem_singleton] at hq
       subst hq
       have := Qpo (lt := bLt) a.2.2 g.items
       simp only
       omega
   · rcases List.mem_append.1 hq with hq | hq
     · have := ih q hq; omega
     · rw [List.mem_singleton] at hq
       subst hq
       simp
 · rcases List.mem_append.1 hq with hq | hq
   · have := ih q hq; omega
   · rw [List.mem_singleton] at hq
     subst hq
     simp
theorem Q7l (T:Int) (I:ByteArray) : ∀ m : Qd1,((Qz m T (Qz ((Qc m T).getD []) I true)).map fun x => x.2.length).sum ≤ (m.map fun x => x.2.length).sum + 1
 | [] => by simp [Qz,Qc]
 | y :: m => by
   have ih := Q7l T I m
   rw [Qnr]
   unfold Qz
   by_cases h : T = y.1
   · rw [if_pos h,if_pos h]
     have := Qez I true y.2
     simp only [Option.getD_some,List.map_cons,List.sum_cons]
     omega
   · rw [if_neg h,if_neg h]
     simp only [List.map_cons,List.sum_cons]
     omega
theorem Xaj : ∀ l : List Ev,∀ p,((tks (Qdn l) p).map fun x => x.2.length).sum ≤ l.length := by
 refine Qy (fun p => by simp [Qdn,tks,Qc]) fun l e ih p => ?_
 rw [Qqq,Qk2,List.length_append,List.length_singleton]
 split
 · next h =>
   have h1 := Q7l e.at_ e.item (tks (Qdn l) e.person)
   have h2 := ih e.person
   omega
 · have := ih p; omega
theorem Q4a {α:Type} [DecidableEq α] {V E:List α} (hn:V.Nodup) (hs:∀ x ∈ V,x ∈ E) : V.length ≤ E.length := Qfb hn hs
theorem Xbu (gap:Int) (hg:0 ≤ gap) (l:List Ev) (hlm:∀ e ∈ l,Xj e = true ∧ wpB e = true) (hll:l.length < 1000) : Xay gap (Qdn l) ∧ Q07 (Qg4 gap (Qdn l)) ∧ (Qg4 gap (Qdn l)).length < 1000 := by
 have hsa := Qqm gap hg l
 have hE : Qg4 gap (Qdn l) = allL gap (Qd7 ahB (l.map adE)) := hsa.symm
 have is := Q6m l
 have hil := Qn3 (lt := ahB) (l.map adE)
 rw [List.length_map] at hil
 have hname : ∀ e ∈ l,e.person.size ≤ 1000 ∧ e.item.size ≤ 1000 := fun e he => by
  have h := hlm e he
  have hw : 0 < Qw e := by simpa [wpB] using h.2
  have hn := Qhp h.1 hw
  have h1 := Qab hn.1
  have h2 := Qab hn.2
  omega
 have hper : (Qdn l).length ≤ l.length := by
  have := Q4a (V := (Qdn l).map (·.1)) (E := l.map (·.person)) (Qal is.keys) fun x hx => by
   obtain ⟨e,he,h⟩ := (is.person x).1 hx
   exact List.mem_map.2 ⟨e,he,h⟩
  simpa using this
 have htk : ∀ p,(tks (Qdn l) p).length ≤ l.length := fun p => by
  have := Q4a (V := (tks (Qdn l) p).map (·.1)) (E := l.map (·.at_)) (Ql2 (is.ticks p)) fun x hx => by
   obtain ⟨e,he,_,h⟩ := (is.tick p x).1 hx
   exact List.mem_map.2 ⟨e,he,h⟩
  simpa using this
 refine ⟨⟨fun x hx => ?_,fun p => ⟨fun x hx => ?_,fun x hx y hy => ?_,?_,?_⟩,by omega,fun ps hps => ?_⟩,fun q hq => ?_,?_⟩
 · obtain ⟨e,he,h⟩ := (is.person x.1).1 (List.mem_map.2 ⟨x,hx,rfl⟩)
   rw [← h]
   exact (hname e he).1
 · obtain ⟨e,he,_,h⟩ := (is.tick p x.1).1 (List.mem_map.2 ⟨x,hx,rfl⟩)
   rw [← h]
   exact (Qb2.1 (hlm e he).1).at_
 · have hl := Xh (is.ticks p) (show (x.1,x.2) ∈ tks (Qdn l) p from hx)
   have hy1 : y.1 ∈ Xl (tks (Qdn l) p) x.1 := by
    unfold Xl
    rw [hl]
    exact List.mem_map.2 ⟨y,hy,rfl⟩
   obtain ⟨e,he,_,_,h⟩ := (is.item p x.1 y.1).1 hy1
   rw [← h]
   exact (hname e he).2
 · have := htk p
   show (tks (Qdn l) p).length < _
   omega
 · have := Xaj l p
   show ((tks (Qdn l) p).map _).sum < _
   omega
 · have h1 : ps.length ≤ l.length := by
    have := hps.length_le
    rw [Qcg,List.length_map] at this
    omega
   have h2 : ∀ ps : List ByteArray,(ps.flatMap (Qc0 gap (Qdn l))).length ≤ ps.length * l.length := by
    intro ps
    induction ps with
    | nil => simp
    | cons p ps ih =>
      rw [List.flatMap_cons,List.length_append,List.length_cons,Nat.succ_mul]
      have h3 : (Qc0 gap (Qdn l) p).length ≤ l.length := by
       unfold Qc0
       rw [List.length_map]
       have := Q5p gap ((Qc (Qdn l) p).getD [])
       have := htk p
       unfold tks at this
       omega
      omega
   have h3 := h2 ps
   have h4 : ps.length * l.length ≤ 999 * 999 := Nat.mul_le_mul (by omega) (by omega)
   omega
 · have h1 := hq
   rw [hE] at hq
   have h2 := Qnp _ _ q hq
   unfold Qg4 at h1
   obtain ⟨p,_,hp⟩ := List.mem_flatMap.1 h1
   unfold Qc0 at hp
   obtain ⟨g,_,hgq⟩ := List.mem_map.1 hp
   exact ⟨g.2.2,by rw [← hgq]; rfl,by omega⟩
 · rw [hE]
   have := Q4z gap (Qd7 ahB (l.map adE))
   omega
theorem Q0w (c:Cfg) (z:List Ev) (hm:∀ e ∈ z,Xj e = true) (hz:z.length < 1000) : Xat c z := by
 have hll := List.length_filter_le wpB z
 have h := Xbu (Qw0 c.gap) (by unfold Qw0; omega) (z.filter wpB) (fun e he => ⟨hm e (List.mem_filter.1 he).1,(List.mem_filter.1 he).2⟩) (by omega)
 exact ⟨h.1,h.2.1,h.2.2⟩
theorem Qvt {α:Type} (f:α → Nat) (M:Nat) : ∀ l : List α,(∀ x ∈ l,f x ≤ M) → (l.map f).sum ≤ l.length * M
 | [],_ => by simp
 | x :: l,h => by
   have h1 := h x (by simp)
   have ih := Qvt f M l fun y hy => h y (by simp [hy])
   rw [List.map_cons,List.sum_cons,List.length_cons,Nat.succ_mul]
   omega
theorem Q3q (width:Int) (z:List Ev) : (Qe width z).rs.length ≤ z.length := by
 have h := (Qdr width z).2
 have h1 := congrArg List.length h
 unfold evs at h1
 rw [List.length_map] at h1
 rw [h1]
 exact List.length_filter_le _ _
theorem Xac (width:Int) {z:List Ev} (hm:∀ e ∈ z,Xj e = true) (hz:z.length < 100000) : Q62 (Qid width (z.filter wpB)) 10000000 := by
 have hc := Qa3 width z hm
 have hps := (Qcs width z).2.1
 have h1 := hc.ps
 have h2 := hc.pl
 rw [hps] at h1 h2
 exact ⟨Q8u width _,Qdk h1 (by omega),by omega,by omega,by omega⟩
end Go.Proofs.YteabekcdcphjpaaGreatDoor
