/- Several texts in one: Gv1, Gv2, Gv3, Zs, Gx1, Gx2. -/
import Derived.Test.YtopncieoolkhjaaGreatDoorGN
import Derived.Test.YtopncieoolkhjaaGreatDoorGK
import Derived.Test.YtopncieoolkhjaaGreatDoorGH
import Derived.Test.YtopncieoolkhjaaGreatDoorGI
import Derived.Test.YtopncieoolkhjaaGreatDoorHSfRise
import Derived.Test.YtopncieoolkhjaaGreatDoorGL
set_option linter.unusedVariables false
set_option linter.unusedSimpArgs false
namespace Go.Proofs.YtopncieoolkhjaaGreatDoor
open Go.Se Go.RowKit
open Go.Maps Go.Sort Go.Shelf
structure Q5w (s:X8) (N:Int) : Prop where
 keys : s.Pairwise (fun x y => x.1 ≠ y.1)
 small : Qe1 s N
 N0 : 0 ≤ N
 sum : s.length * N < 4611686018427387904
 len : s.length < 1000000
theorem Qqc (s:X8) (key:ByteArray) : (Qab s key).length ≤ s.length := by
 unfold Qab; rw [List.length_map]; exact List.length_filter_le _ _
theorem Qwn {s:X8} {N:Int} (ok:Q5w s N) (key:ByteArray) (lo hi:Int) (row:List Int) : 0 ≤ Q1b s key lo hi row ∧ Q1b s key lo hi row ≤ row.length * N := by
 have hb := Qdi (fun n:Int => (Qe s (key,n)).getD 0) N (row.filter fun n => decide (lo ≤ n) && decide (n < hi)) fun x _ => by
  have := Qen ok.small ok.N0 (key,x)
  exact ⟨this.1,this.2.1⟩
 have hl := List.length_filter_le (fun n:Int => decide (lo ≤ n) && decide (n < hi)) row
 unfold Q1b
 exact ⟨hb.1,Int.le_trans hb.2 (Int.mul_le_mul_of_nonneg_right (by omega) ok.N0)⟩
set_option maxHeartbeats 1000000 in
theorem Qmj (w:World) (S:Nat → Prop) (p:Nat) (width n:Int) (s:X8) (h:Qlz w S p width n s) (hw:1 ≤ width ∧ width ≤ 1099511627776) (N:Int) (ok:Q5w s N) (key:ByteArray) (a b:Int) (ha:-4398046511104 ≤ a ∧ a ≤ 4398046511104) (hb:-4398046511104 ≤ b ∧ b ≤ 4398046511104) :
 Cal Tryz.prog 31 [.pointer (some ⟨p,0,none⟩),.string key,.int .i64 a,.int .i64 b] w fun r w' => r = .int .i64 (paS s key (a / width) (b / width)) ∧ w' = w := by
 obtain ⟨bs,br,L,R,h⟩ := h
 have hh := h.head
 have hlo := Qg6 hw.1 ha
 have hhi := Qg6 hw.1 hb
 have hpb := fun lo hi => Qkv ok.small ok.N0 key lo hi
 have hsm := ok.sum
 have hrow := (h.rows.own key).1.sl Qa8
 have hlook := h.rows.look Q22 Xg (e := ty85) ty85_ok rfl key (cl := .same) Qo
 have hsl : ∀ x,RdS Tryz.prog .same w (Instr.lookup 153 (.map (some bs)) (cel x) false) (vi ((Qe s x).getD 0)) := fun x => by
  have := Qac Q5e Qrj (e := ty2) ty2_ok (cl := .same) Qo h.sums x
  rw [show (Qe (Xw vi s) x).getD ty2.zero = vi ((Qe s x).getD 0) from Qag vi _ _ 0] at this
  exact this
 have hrl := Qqc s key
 have hlen := ok.len
 have hall := Q2i ok.keys key (a / width) (b / width)
 have hrb := Qwn ok key (a / width) (b / width)
 have hN0 := ok.N0
 have hcell := fun n => Qen ok.small ok.N0 (key,n)
 generalize Qab s key = row at hrow hlook hrl hall
 generalize (rowAt L key).1 = A0 at hrow hlook
 generalize (rowAt L key).2 = c0 at hrow hlook
 refine Fi Tryz.func31 rfl _ rfl rfl ?_;conv=>whnf
 refine (Qf3 w p width n bs br hh hw a ⟨by omega,by omega⟩).mono ?_
 rintro _ _ ⟨rfl,rfl⟩;conv=>whnf
 refine (Qf3 _ p width n bs br hh hw b ⟨by omega,by omega⟩).mono ?_
 rintro _ w1 ⟨rfl,hw1⟩
 subst hw1
 generalize a / width = lo at *
 generalize b / width = hi at *
 conv=>whnf
 refine ⟨hi - lo,wrap_eq rfl ⟨by omega,by omega⟩,?_⟩;conv=>whnf
 refine ⟨.map (some br),hh.one rfl,?_⟩;conv=>whnf
 refine ⟨_,hlook,?_⟩;conv=>whnf
 constructor
 · intro hc
   have hc : hi - lo < row.length ∧ 0 ≤ lo := by simpa using hc
   conv=>whnf
   refine Qj Qa (fun (q:Nat × Int × Int) w' => (q.1 = 0 ∨ lo + q.1 ≤ hi) ∧ q.2.1 = lo + q.1 ∧ q.2.2 = paS s key lo (lo + q.1) ∧ w' = w1)
    (fun | (k,n,t) => [(0,.pointer (some ⟨p,0,none⟩)),(1,.string key),(10,.int .i64 hi),(11,.int .i64 t),(12,.int .i64 n)]) (fun q => (hi - lo).toNat - q.1) (0,lo,0) ⟨.inl rfl,by simp,(Qkw (by simp)).symm,rfl⟩ ⟨rfl,rfl,rfl,rfl,rfl,trivial⟩ ?_
   rintro ⟨k,n,t⟩ w2 ⟨hk,hn,ht,hw2⟩
   simp only at hk hn ht
   subst hw2
   conv=>whnf
   constructor
   · intro hlt
     have hlt : n < hi := by simpa using hlt
     have hst := Q2a ok.keys key lo (lo + k) (by omega)
     have e1 : lo + (k:Int) + 1 = lo + ((k + 1 : Nat) : Int) := by omega
     rw [e1,← ht,← hn] at hst
     have hb1 := hpb lo (lo + ((k + 1 : Nat) : Int))
     have hb2 := hpb lo (lo + (k:Int))
     rw [← ht] at hb2
     rw [hst] at hb1
     conv=>whnf
     refine ⟨.map (some bs),hh.one rfl,?_⟩;conv=>whnf
     refine ⟨_,hsl (key,n),?_⟩;conv=>whnf
     refine ⟨t + (Qe s (key,n)).getD 0,wrap_eq rfl ⟨by omega,by omega⟩,?_⟩;conv=>whnf
     refine ⟨n + 1,wrap_eq rfl ⟨by omega,by omega⟩,?_⟩;conv=>whnf
     exact ⟨(k + 1,n + 1,t + (Qe s (key,n)).getD 0),by simp only; omega,⟨.inr (by simp only; omega),by simp only; omega,hst.symm,rfl⟩,⟨rfl,rfl,rfl,rfl,rfl,trivial⟩⟩
   · intro hge
     have hge : hi ≤ n := by simpa using hge
     conv=>whnf
     refine ⟨?_,rfl⟩
     rw [ht]
     rcases hk with rfl | hk
     · have h1 : paS s key lo (lo + ((0:Nat) : Int)) = 0 := Qkw (by omega)
       have h2 : paS s key lo hi = 0 := Qkw (by omega)
       rw [h1,h2]
     · have : lo + (k:Int) = hi := by omega
       rw [this]
 · intro _
   conv=>whnf
   refine ⟨.map (some br),hh.one rfl,?_⟩;conv=>whnf
   refine ⟨_,hlook,?_⟩;conv=>whnf
   refine Qj Qa (fun (q:Nat × Int) w' => q.1 ≤ row.length ∧ q.2 = Q1b s key lo hi (row.take q.1) ∧ w' = w1)
    (fun | (k,t) => [(0,.pointer (some ⟨p,0,none⟩)),(1,.string key),(9,.int .i64 lo),(10,.int .i64 hi),(11,.int .i64 t),(58,.slice A0 row.length c0),(59,.int .i64 row.length),(60,.int .i64 (k:Nat))]) (fun q => row.length - q.1) (0,0) ⟨Nat.zero_le _,rfl,rfl⟩ ⟨rfl,rfl,rfl,rfl,rfl,rfl,rfl,rfl,trivial⟩ ?_
   rintro ⟨k,t⟩ w2 ⟨hk,ht,hw2⟩
   simp only at hk ht
   subst hw2
   conv=>whnf
   constructor
   · intro hlt
     have hlt : k < row.length := by simpa using hlt
     obtain ⟨a2,hA,hc2⟩ := hrow.get hlt
     subst hA
     have htk : Q1b s key lo hi (row.take (k + 1)) = t + if lo ≤ row[k] ∧ row[k] < hi then (Qe s (key,row[k])).getD 0 else 0 := by rw [ht,List.take_succ_eq_append_getElem hlt,Qzy]
     have hb1 := (hrb (row.take (k + 1)))
     have hl1 : ((row.take (k + 1)).length : Int) * N ≤ s.length * N := Int.mul_le_mul_of_nonneg_right (by rw [List.length_take]; omega) hN0
     generalize row[k] = y at hc2 htk
     (conv=>whnf);repeat(refine Sg ?_;(conv=>whnf))
     refine ⟨a2,⟨rfl,by omega,by omega⟩,?_⟩; (conv=>whnf);repeat(refine Sg ?_;(conv=>whnf))
     refine ⟨.int .i64 y,Xb hc2,?_⟩; (conv=>whnf);repeat(refine Sg ?_;(conv=>whnf))
     constructor
     · intro hc
       have hc : lo ≤ y ∧ y < hi := by simpa using hc
       rw [if_pos hc] at htk
       rw [htk] at hb1
       (conv=>whnf);repeat(refine Sg ?_;(conv=>whnf))
       refine ⟨.map (some bs),hh.one rfl,?_⟩; (conv=>whnf);repeat(refine Sg ?_;(conv=>whnf))
       refine ⟨_,hsl (key,y),?_⟩; (conv=>whnf);repeat(refine Sg ?_;(conv=>whnf))
       refine ⟨t + (Qe s (key,y)).getD 0,wrap_eq rfl ⟨by omega,by omega⟩,?_⟩; (conv=>whnf);repeat(refine Sg ?_;(conv=>whnf))
       refine ⟨_,wrap_succ (by omega),?_⟩; (conv=>whnf);repeat(refine Sg ?_;(conv=>whnf))
       exact ⟨(k + 1,t + (Qe s (key,y)).getD 0),by simp only; omega,⟨by simp only; omega,htk.symm,rfl⟩,⟨rfl,rfl,rfl,rfl,rfl,rfl,rfl,rfl,trivial⟩⟩
     · intro hc
       have hc : ¬ (lo ≤ y ∧ y < hi) := by
        have hc : (decide (lo ≤ y) && decide (y < hi)) = false := hc
        simpa using hc
       rw [if_neg hc,Int.add_zero] at htk
       (conv=>whnf);repeat(refine Sg ?_;(conv=>whnf))
       refine ⟨_,wrap_succ (by omega),?_⟩; (conv=>whnf);repeat(refine Sg ?_;(conv=>whnf))
       exact ⟨(k + 1,t),by simp only; omega,⟨by simp only; omega,htk.symm,rfl⟩,⟨rfl,rfl,rfl,rfl,rfl,rfl,rfl,rfl,trivial⟩⟩
   · intro hge
     have hge : row.length ≤ k := by simpa using hge
     rw [List.take_of_length_le hge,hall] at ht
     rw [ht]
     conv=>whnf
     exact ⟨rfl,rfl⟩
def Qi8 (lo hi:Int) (x:Int) : Bool := decide (lo ≤ x) && decide (x < hi)
theorem Qv4 (bl bh:Nat) (lo hi x:Int) (w:World) (hl:At w bl 3 [.int .i64 lo]) (hh:At w bh 3 [.int .i64 hi]) :
 Cal Tryz.prog 263 [.int .i64 x,.pointer (some ⟨bl,0,none⟩),.pointer (some ⟨bh,0,none⟩)] w fun r w' => r = .bool (Qi8 lo hi x) ∧ w' = w := by
 refine Fi Tryz.func263 rfl _ rfl rfl ?_;conv=>whnf
 refine ⟨.int .i64 lo,hl.one0,?_⟩;conv=>whnf
 refine ⟨.int .i64 hi,fun _ => hh.one0,?_⟩;conv=>whnf
 exact ⟨rfl,rfl⟩
theorem Qym (bl bh:Nat) (lo hi:Int) (row:List Int) (A:Option Addr) (c:Nat) (w:World) (hs:Sl Qjh 1 w A row) (hlen:row.length < 1000000) (hl:At w bl 3 [.int .i64 lo]) (hh:At w bh 3 [.int .i64 hi]) :
 Cal Tryz.prog 293 [.slice A row.length c,.func (.func 263) #[] #[.pointer (some ⟨bl,0,none⟩),.pointer (some ⟨bh,0,none⟩)]] w fun r w' => (∃ i : Int,r = .int .i64 i ∧ -1 ≤ i ∧ (0 ≤ i ↔ row.any (Qi8 lo hi) = true)) ∧ w' = w := by
 refine Fi Tryz.func293 rfl _ rfl rfl ?_;conv=>whnf
 refine Qj Qa (fun (k:Nat) w' => k ≤ row.length ∧ (row.take k).any (Qi8 lo hi) = false ∧ w' = w)
  (fun k => [(0,.slice A row.length c),(1,.func (.func 263) #[] #[.pointer (some ⟨bl,0,none⟩),.pointer (some ⟨bh,0,none⟩)]),(7,.int .i64 row.length),(8,.int .i64 (k:Nat))]) (fun k => row.length - k) 0 ⟨Nat.zero_le _,rfl,rfl⟩ ⟨rfl,rfl,rfl,rfl,trivial⟩ ?_
 rintro k w2 ⟨hk,hno,hw2⟩
 subst hw2
 conv=>whnf
 constructor
 · intro hlt
   have hlt : k < row.length := by simpa using hlt
   obtain ⟨a2,hA,hc2⟩ := hs.get hlt
   subst hA
   have htk : (row.take (k + 1)).any (Qi8 lo hi) = Qi8 lo hi row[k] := by rw [List.take_succ_eq_append_getElem hlt,List.any_append,hno]; simp
   have hmem : row[k] ∈ row := List.getElem_mem hlt
   generalize row[k] = y at hc2 htk hmem
   conv=>whnf
   refine ⟨a2,⟨rfl,by omega,by omega⟩,?_⟩;conv=>whnf
   refine ⟨.int .i64 y,Xb hc2,?_⟩;conv=>whnf
   refine (Qv4 bl bh lo hi y w2 hl hh).mono ?_
   rintro _ _ ⟨rfl,rfl⟩
   generalize hq : Qi8 lo hi y = q at htk ⊢
   conv=>whnf
   constructor
   · intro hc
     have hc : q = true := hc
     conv=>whnf
     refine ⟨⟨k,rfl,by omega,?_⟩,rfl⟩
     simp only [Int.natCast_nonneg,true_iff,List.any_eq_true]
     exact ⟨y,hmem,by rw [hq,hc]⟩
   · intro hc
     have hc : q = false := hc
     conv=>whnf
     refine ⟨_,wrap_succ (by omega),?_⟩;conv=>whnf
     exact ⟨k + 1,by omega,⟨by omega,by rw [htk,hc],rfl⟩,⟨rfl,rfl,rfl,rfl,trivial⟩⟩
 · intro hge
   have hge : row.length ≤ k := by simpa using hge
   rw [List.take_of_length_le hge] at hno
   conv=>whnf
   exact ⟨⟨-1,rfl,by omega,by rw [hno]; simp⟩,rfl⟩
theorem Qyh (bl bh:Nat) (lo hi:Int) (row:List Int) (A:Option Addr) (c:Nat) (w:World) (hs:Sl Qjh 1 w A row) (hlen:row.length < 1000000) (hl:At w bl 3 [.int .i64 lo]) (hh:At w bh 3 [.int .i64 hi]) :
 Cal Tryz.prog 262 [.slice A row.length c,.func (.func 263) #[] #[.pointer (some ⟨bl,0,none⟩),.pointer (some ⟨bh,0,none⟩)]] w fun r w' => r = .bool (row.any (Qi8 lo hi)) ∧ w' = w := by
 refine Fi Tryz.func262 rfl _ rfl rfl ?_;conv=>whnf
 refine (Qym bl bh lo hi row A c w hs hlen hl hh).mono ?_
 rintro _ _ ⟨⟨i,rfl,hi1,hi2⟩,rfl⟩
 conv=>whnf
 refine ⟨?_,rfl⟩
 cases hq : row.any (Qi8 lo hi) with
 | true => rw [decide_eq_true (hi2.2 hq)]
 | false => rw [decide_eq_false (fun h => by rw [hi2.1 h] at hq; cases hq)]
end Go.Proofs.YtopncieoolkhjaaGreatDoor
namespace Go.Proofs.YtopncieoolkhjaaGreatDoor
open Go.Se Go.RowKit
open Go.Maps Go.Sort Go.Shelf
structure WC {α:Type} (c:α → α → Int) : Prop where
 anti : ∀ a b,c a b < 0 ↔ 0 < c b a
 le : ∀ {a b d},c a b ≤ 0 → c b d ≤ 0 → c a d ≤ 0
theorem WC.swo {α:Type} {c:α → α → Int} (h:WC c) : Go.Sort.SWO (ltOf c) where
 irrefl a := by
  have := h.anti a a
  simp only [ltOf,decide_eq_false_iff_not]
  omega
 trans a b d h1 h2 := by
  simp only [ltOf,decide_eq_true_eq] at *
  have h3 := h.le (a := a) (b := b) (d := d) (by omega) (by omega)
  have h4 := (h.anti a b).1 h1
  rcases Int.lt_or_le (c a d) 0 with h5 | h5
  · exact h5
  · exfalso
    have h6 : c d a ≤ 0 := by
     have := (h.anti a d)
     omega
    have h7 := h.le (a := b) (b := d) (d := a) (by omega) h6
    omega
 ntrans a b d h1 h2 := by
  simp only [ltOf,decide_eq_false_iff_not] at *
  have h3 : c b a ≤ 0 := by have := h.anti a b; omega
  have h4 : c d b ≤ 0 := by have := h.anti b d; omega
  have h5 := h.le h4 h3
  have := h.anti a d
  omega
def Q5n {α:Type} (c d:α → α → Int) (a b:α) : Int := if c a b ≠ 0 then c a b else d a b
theorem WC.lex {α:Type} {c d:α → α → Int} (h:WC c) (k:WC d) : WC (Q5n c d) where
 anti a b := by
  unfold Q5n
  have h1 := h.anti a b
  have h2 := h.anti b a
  have k1 := k.anti a b
  by_cases h0 : c a b = 0
  · rw [if_neg (by omega),if_neg (by omega)]; exact k1
  · rw [if_pos h0,if_pos (by omega)]; exact h1
 le := by
  intro a b e h1 h2
  unfold Q5n at *
  have a1 := h.anti a b
  have a2 := h.anti b a
  have b1 := h.anti b e
  have b2 := h.anti e b
  have c1 := h.anti a e
  have c2 := h.anti e a
  have l1 : c a b ≤ 0 := by split at h1 <;> omega
  have l2 : c b e ≤ 0 := by split at h2 <;> omega
  have l3 := h.le l1 l2
  split
  · exact l3
  · next h0 =>
    have h0 : c a e = 0 := by omega
    have m1 := h.le (a := b) (b := e) (d := a) l2 (by omega)
    have m2 := h.le (a := e) (b := a) (d := b) (by omega) l1
    rw [if_neg (by omega)] at h1 h2
    exact k.le h1 h2
theorem Q6v {α:Type} (f:α → Int) : WC (fun a b => Qey (f a) (f b)) where
 anti a b := by unfold Qey; split <;> split <;> (try split) <;> (try split) <;> omega
 le := by intro a b d h1 h2; unfold Qey at *; split at h1 <;> split at h2 <;> (try split at h1) <;> (try split at h2) <;> split <;> (try split) <;> omega
theorem WC.flip {α:Type} {c:α → α → Int} (h:WC c) : WC (fun a b => c b a) := ⟨fun a b => h.anti b a,fun h1 h2 => h.le h2 h1⟩
theorem Q5h {α:Type} (f:α → ByteArray) : WC (fun a b => Qf8 (f a) (f b)) where
 anti a b := by
  unfold Qf8
  cases h1 : bLt (f a) (f b) <;> cases h2 : bLt (f b) (f a) <;> simp
  rw [Qca h1] at h2; cases h2
 le := by
  intro a b d h1 h2
  have k1 : bLt (f b) (f a) = false := by
   unfold Qf8 at h1
   cases h3 : bLt (f a) (f b) <;> cases h4 : bLt (f b) (f a) <;> simp [h3,h4] at h1 ⊢
   rw [Qca h3] at h4; cases h4
  have k2 : bLt (f d) (f b) = false := by
   unfold Qf8 at h2
   cases h3 : bLt (f b) (f d) <;> cases h4 : bLt (f d) (f b) <;> simp [h3,h4] at h2 ⊢
   rw [Qca h3] at h4; cases h4
  have k3 : bLt (f d) (f a) = false := Ql3 k2 k1
  unfold Qf8
  cases h3 : bLt (f a) (f d) <;> simp [k3]
theorem Q1n {a b:Int × Int} : Qrm a b < 0 ↔ a.1 * b.2 < b.1 * a.2 := by
 unfold Qrm
 split
 · omega
 split
 · omega
 · omega
theorem Qm7 {a b:Int × Int} : 0 < Qrm a b ↔ b.1 * a.2 < a.1 * b.2 := by
 unfold Qrm
 split
 · omega
 split
 · omega
 · omega
theorem Q6w {α:Type} (f:α → Int × Int) (hf:∀ a,0 < (f a).2) : WC (fun a b => Qrm (f a) (f b)) where
 anti a b := by rw [Q1n,Qm7]
 le := by
  intro a b d h1 h2
  have k1 : ¬ (f b).1 * (f a).2 < (f a).1 * (f b).2 := fun h => by have := Qm7.2 h; omega
  have k2 : ¬ (f d).1 * (f b).2 < (f b).1 * (f d).2 := fun h => by have := Qm7.2 h; omega
  have k3 : ¬ (f d).1 * (f a).2 < (f a).1 * (f d).2 := by
   intro h
   have e1 : (f a).1 * (f b).2 * (f d).2 ≤ (f b).1 * (f a).2 * (f d).2 := Int.mul_le_mul_of_nonneg_right (by omega) (Int.le_of_lt (hf d))
   have e2 : (f b).1 * (f d).2 * (f a).2 ≤ (f d).1 * (f b).2 * (f a).2 := Int.mul_le_mul_of_nonneg_right (by omega) (Int.le_of_lt (hf a))
   have e3 : (f d).1 * (f a).2 * (f b).2 < (f a).1 * (f d).2 * (f b).2 := Int.mul_lt_mul_of_pos_right h (hf b)
   have r1 : (f a).1 * (f b).2 * (f d).2 = (f a).1 * (f d).2 * (f b).2 := by rw [Int.mul_assoc,Int.mul_comm (f b).2,← Int.mul_assoc]
   have r2 : (f b).1 * (f a).2 * (f d).2 = (f b).1 * (f d).2 * (f a).2 := by rw [Int.mul_assoc,Int.mul_comm (f a).2,← Int.mul_assoc]
   have r3 : (f d).1 * (f b).2 * (f a).2 = (f d).1 * (f a).2 * (f b).2 := by rw [Int.mul_assoc,Int.mul_comm (f b).2,← Int.mul_assoc]
   omega
  rcases Int.lt_or_le 0 (Qrm (f a) (f d)) with h | h
  · exact absurd (Qm7.1 h) k3
  · exact h
def Qfd (s:X8) (lo hi:Int) : List ByteArray := Qev ((s.filter fun x => Qi8 lo hi x.1.2).map (·.1.1))
theorem Qtn {s:X8} {key:ByteArray} {lo hi:Int} : (Qab s key).any (Qi8 lo hi) = true ↔ ∃ x ∈ s,x.1.1 = key ∧ Qi8 lo hi x.1.2 = true := by
 unfold Qab
 rw [List.any_eq_true]
 constructor
 · rintro ⟨y,hy,h⟩
   obtain ⟨x,hx,rfl⟩ := List.mem_map.1 hy
   obtain ⟨h1,h2⟩ := List.mem_filter.1 hx
   exact ⟨x,h1,by simpa using h2,h⟩
 · rintro ⟨x,hx,h1,h2⟩
   exact ⟨x.1.2,List.mem_map.2 ⟨x,List.mem_filter.2 ⟨hx,by simpa using h1⟩,rfl⟩,h2⟩
theorem Qps {s:X8} {key:ByteArray} {lo hi:Int} : key ∈ Qfd s lo hi ↔ (Qab s key).any (Qi8 lo hi) = true := by
 unfold Qfd
 rw [Qcz,Qtn,List.mem_map]
 constructor
 · rintro ⟨x,hx,rfl⟩
   obtain ⟨h1,h2⟩ := List.mem_filter.1 hx
   exact ⟨x,h1,rfl,h2⟩
 · rintro ⟨x,hx,h1,h2⟩
   exact ⟨x,List.mem_filter.2 ⟨hx,h2⟩,h1⟩
theorem Qyt {s:X8} {N:Int} (h:Qe1 s N) {key:ByteArray} {lo hi:Int} : key ∈ Qfd s lo hi ↔ 0 < paS s key lo hi := by
 rw [Qps,Qtn]
 induction s with
 | nil => simp [paS]
 | cons x s ih =>
   have ih := ih fun y hy => h y (by simp [hy])
   have hx := (h x (by simp)).1
   have h0 : 0 ≤ paS s key lo hi := (Qdi (fun y:PK × Int => y.2) N _ fun y hy => by have := h y (by simp [(List.mem_filter.1 hy).1]); exact ⟨by omega,this.2⟩).1
   rw [Qn3]
   constructor
   · rintro ⟨y,hy,h1,h2⟩
     rcases List.mem_cons.1 hy with rfl | hy
     · have h2 : lo ≤ y.1.2 ∧ y.1.2 < hi := by simpa [Qi8] using h2
       rw [if_pos ⟨h1,h2⟩]; omega
     · have := ih.1 ⟨y,hy,h1,h2⟩
       split <;> omega
   · intro hp
     by_cases hc : x.1.1 = key ∧ lo ≤ x.1.2 ∧ x.1.2 < hi
     · exact ⟨x,by simp,hc.1,by simp [Qi8,hc.2]⟩
     · rw [if_neg hc,Int.zero_add] at hp
       obtain ⟨y,hy,h1⟩ := ih.2 hp
       exact ⟨y,by simp [hy],h1⟩
theorem Qpr (s:X8) (lo hi:Int) : (Qfd s lo hi).length ≤ s.length := by
 unfold Qfd
 have h1 := Q2k ((s.filter fun x => Qi8 lo hi x.1.2).map (·.1.1))
 have h2 := List.length_filter_le (fun x:PK × Int => Qi8 lo hi x.1.2) s
 rw [List.length_map] at h1
 omega
theorem Qst (l:List ByteArray) {ss:List (List UInt8)} (hp:ss.Perm (l.map fun x => x.data.toList)) : (ss.mergeSort fun x y => decide (x ≤ y)).map (fun x => (⟨x.toArray⟩ : ByteArray)) = Xz l := by
 apply Qcj
 · have h1 := (List.mergeSort_perm ss fun x y => decide (x ≤ y)).trans hp
   have h2 := h1.map (fun x => (⟨x.toArray⟩ : ByteArray))
   simpa [List.map_map,Function.comp_def] using h2
 · unfold Srt
   rw [List.pairwise_map]
   have := List.pairwise_mergeSort (le := fun x y : List UInt8 => decide (x ≤ y)) (fun a b c h1 h2 => by simp only [decide_eq_true_eq] at *; exact List.le_trans h1 h2) (fun a b => by simp only [Bool.or_eq_true,decide_eq_true_eq]; exact List.le_total a b) ss
   refine this.imp fun {a b} h => ?_
   simp only [decide_eq_true_eq] at h
   unfold bLt
   rw [ByteArray.toList_eq,ByteArray.toList_eq,bytesLess_eq]
   simpa using h
theorem Qqj (l:List ByteArray) (A:Option Addr) (c base:Nat) (w:World) (hown:Own Qd3 1 9 base w A c l) (hl:l.length < 1000000) :
 Cal Tryz.prog 138 [.slice A l.length c] w fun r w' => r = .tuple #[] ∧ SlT w' A (Xz l) ∧ ∀ w0,Ext w0 w → w0.heap.size ≤ base → Ext w0 w' := by
 have hok : Qra Tryz.prog 138 := ⟨_,Tryz.func138,rfl,rfl⟩
 by_cases h0 : l = []
 · subst h0
   refine Qbq hok (AnyM.slices_Sort_string_none Tryz.sort138 A c w) ?_
   rintro w' rfl
   exact ⟨rfl,by rw [Qk8]; exact Sl.nil,fun w0 h _ => h⟩
 · have hsl := hown.sl Qav
   have hpos : 0 < l.length := List.length_pos_iff.2 h0
   rcases hown.2 with ⟨_,h1⟩ | ⟨g,cap,cur,hv,hb,hg,hc1,hc2,hc3,hc4⟩
   · omega
   injection hv with hA _ hcc
   subst hA
   subst hcc
   obtain ⟨ss,hss⟩ : ∃ ss,ss = l.map fun x => x.data.toList := ⟨_,rfl⟩
   have hsl2 : ss.length = l.length := by rw [hss,List.length_map]
   have hH : Holds encStr w g 0 ss.toArray := by
    intro j hj
    have hj' : j < l.length := by rw [← hsl2]; simpa using hj
    obtain ⟨a,ha,hca⟩ := hsl.get hj'
    have ha' : a = ⟨g,0,none⟩ := by simpa using ha.symm
    have hcell := Xb hca
    rw [ha',Qfu,Nat.mul_one] at hcell
    refine ⟨?_,by unfold World.frozen?; rw [hg]; simp⟩
    rw [Nat.zero_add,hcell]
    simp [hss,encStr,hj']
   have hbl : g < w.heap.size := lt_of_block hg
   have hcall := AnyM.slices_Sort_string Tryz.sort138 g 0 c ss w hH hbl (by omega)
   rw [hsl2] at hcall
   refine Qbq hok hcall ?_
   rintro w' ⟨k,os,rfl⟩
   have hz := Qst l (ss := ss) (by rw [hss])
   have hml : (ss.mergeSort fun x y => decide (x ≤ y)).length = ss.length := List.length_mergeSort _
   generalize (ss.mergeSort fun x y => decide (x ≤ y)) = ms at hz hml
   have hH2 : Holds encStr (grow (putRow encStr (Go.Sort.ahead w k) g 0 ms.toArray) os) g 0 ms.toArray := by
    refine holds_grow _ _ _ _ _ _ ?_ (holds_putRow _ _ _ _ ss.toArray _ (holds_ahead _ _ _ _ _ _ hH) (by simpa using hml))
    show g < ((Go.Sort.ahead w k).heap.modify g _).size
    rw [Array.size_modify]; exact hbl
   refine ⟨rfl,?_,?_⟩
   · intro i x hi
     rw [← hz,List.getElem?_map] at hi
     cases hq : ms[i]? with
     | none => rw [hq] at hi; simp at hi
     | some y =>
       rw [hq] at hi
       simp at hi
       subst hi
       have hil : i < ms.length := (List.getElem?_eq_some_iff.1 hq).1
       have := (hH2 i (by simpa using hil)).1
       refine ⟨_,rfl,fun j v hj => ?_⟩
       have hj0 : j = 0 := by
        have := (List.getElem?_eq_some_iff.1 hj).1
        simp [Qd3] at this
        exact this
       subst hj0
       have hyv : ms.toArray[i]! = y := by
        have := (List.getElem?_eq_some_iff.1 hq).2
        simp [hil,this]
       rw [hyv] at this
       rw [Xd,Qfu,Nat.mul_one]
       simp [Qd3] at hj
       rw [← hj]
       rw [Nat.zero_add] at this
       exact this
   · intro w0 h0 hb0
     have hx1 : Ext w0 (putRow encStr (Go.Sort.ahead w k) g 0 ms.toArray) := by
      refine ⟨h0.os,h0.tape,h0.output,?_,fun k' hk => ?_⟩
      · show w0.heap.size ≤ ((Go.Sort.ahead w k).heap.modify g _).size
        rw [Array.size_modify]; exact h0.size
      · have : (putRow encStr (Go.Sort.ahead w k) g 0 ms.toArray).heap[k']? = (Go.Sort.ahead w k).heap[k']? := Qd2 _ _ _ _ (by omega)
        rw [this]; exact h0.block k' hk
     exact hx1.trans (Qg8 _ os)
set_option maxHeartbeats 1000000 in
theorem Qsb (w:World) (S:Nat → Prop) (p:Nat) (width n:Int) (s:X8) (h:Qlz w S p width n s) (hw:1 ≤ width ∧ width ≤ 1099511627776) (N:Int) (ok:Q5w s N) (a b:Int) (ha:-4398046511104 ≤ a ∧ a ≤ 4398046511104) (hb:-4398046511104 ≤ b ∧ b ≤ 4398046511104) :
 Cal Tryz.prog 224 [.pointer (some ⟨p,0,none⟩),.int .i64 a,.int .i64 b] w fun r w' => ∃ A c,r = .slice A (Qfd s (a / width) (b / width)).length c ∧ SlT w' A (Qfd s (a / width) (b / width)) ∧ Ext w w' := by
 obtain ⟨bs,br,L,R,h⟩ := h
 have hh := h.head
 have hm := h.rows.map
 have hlen := ok.len
 have hLl : L.length ≤ s.length := by
  have h1 : (L.map (·.1)).Nodup := Qc3 h.rows.keys
  have h2 : ∀ x ∈ L.map (·.1),x ∈ s.map (fun y => y.1.1) := fun x hx => by
   obtain ⟨y,hy,rfl⟩ := List.mem_map.1 hx
   have hne := h.rows.ne y hy
   cases hq : Qab s y.1 with
   | nil => exact absurd hq hne
   | cons n l =>
     have hn : n ∈ Qab s y.1 := by rw [hq]; simp
     unfold Qab at hn
     obtain ⟨z,hz,_⟩ := List.mem_map.1 hn
     obtain ⟨h3,h4⟩ := List.mem_filter.1 hz
     exact List.mem_map.2 ⟨z,h3,by simpa using h4⟩
  have := Qok h1 h2
  simpa using this
 have hK : ∀ out : List ByteArray,out.Perm ((L.map (·.1)).filter fun k => (Qab s k).any (Qi8 (a / width) (b / width))) → Xz out = Qfd s (a / width) (b / width) := fun out hp => by
  refine Qsl ?_ fun x => ?_
  · exact hp.nodup_iff.2 ((Qc3 h.rows.keys).sublist List.filter_sublist)
  · rw [hp.mem_iff,List.mem_filter]
    have hm1 : x ∈ ((s.filter fun x => Qi8 (a / width) (b / width) x.1.2).map (·.1.1)) ↔ (Qab s x).any (Qi8 (a / width) (b / width)) = true := by
     rw [← Qps]; unfold Qfd; rw [Qcz]
    rw [hm1]
    constructor
    · exact fun hx => hx.2
    · intro hx
      refine ⟨?_,hx⟩
      rw [Q15]
      cases hq : Qe L x with
      | some v => rfl
      | none =>
        have := h.rows.all x hq
        rw [this] at hx
        simp at hx
 have hlo := Qg6 hw.1 ha
 have hhi := Qg6 hw.1 hb
 refine Fi Tryz.func224 rfl _ rfl rfl ?_;conv=>whnf
 refine (Qf3 w p width n bs br hh hw a ⟨by omega,by omega⟩).mono ?_
 rintro _ _ ⟨rfl,rfl⟩;conv=>whnf
 refine (Qf3 _ p width n bs br hh hw b ⟨by omega,by omega⟩).mono ?_
 rintro _ w1 ⟨rfl,hw1⟩
 subst hw1
 generalize a / width = lo at *
 generalize b / width = hi at *
 conv=>whnf
 intro b3 w3 hn3;conv=>whnf
 intro b4 w4 hn4;conv=>whnf
 have e3 := hn3.block; have e4 := hn4.block; have s3 := hn3.size
 refine Qc Qa (e := ty3) rfl (hn3.At.ext hn4.ext) rfl rfl rfl (by simp [Qg,Value.oneCell']) fun w5 h5 ho5 => ?_;conv=>whnf
 have h45 : At w5 b4 3 [.int .i64 0] := (ho5.block b4 (by omega)).trans hn4.At
 refine Qc Qa (e := ty3) rfl h45 rfl rfl rfl (by simp [Qg,Value.oneCell']) fun w6 h6 ho6 => ?_
 have hx6 : Ext w1 w6 := ho6.ext (ho5.ext (hn3.ext.trans hn4.ext) (by omega)) (by omega)
 have h63 : At w6 b3 3 [.int .i64 lo] := (ho6.block b3 (by omega)).trans h5
 have h64 : At w6 b4 3 [.int .i64 hi] := h6
 clear h5 h45 h6 ho5 ho6 hn3 hn4
 conv=>whnf
 refine ⟨.map (some br),(hh.ext hx6).one rfl,?_⟩;conv=>whnf
 refine map_range Q22 (hm.ext hx6) fun w7 hi7 hx7 => ?_
 generalize hr : w6.heap.size = r at hi7 ⊢
 have hx := hx6.trans hx7
 have h73 := h63.ext hx7
 have h74 := h64.ext hx7
 have l3 := h63.lt
 have l4 := h64.lt
 have s6 := hx6.size
 have hbrlt := hm.lt
 have hr7 : r < w7.heap.size := hi7.lt
 conv=>whnf
 refine Qj Qa (fun (i:List (ByteArray × (Option Addr × Nat)) × Option Addr × Nat × List ByteArray) w' => Ext w1 w' ∧ w7.heap.size ≤ w'.heap.size ∧ At w' b3 3 [.int .i64 lo] ∧ At w' b4 3 [.int .i64 hi] ∧ Iter w' r br Value.string (toV (Qab s) L) (toV (Qab s) i.1) ∧ i.2.2.2 = (i.1.map (·.1)).filter (fun k => (Qab s k).any (Qi8 lo hi)) ∧ Own Qd3 1 9 w7.heap.size w' i.2.1 i.2.2.1 i.2.2.2)
  (fun | (vs,A,d,F) => [(7,.pointer (some ⟨b3,0,none⟩)),(8,.pointer (some ⟨b4,0,none⟩)),(9,.slice A F.length d),(22,.pointer (some ⟨r,0,none⟩))]) (fun i => L.length - i.1.length) ([],none,0,[]) ⟨hx,Nat.le_refl _,h73,h74,hi7,rfl,Own.nil⟩ ⟨rfl,rfl,rfl,rfl,trivial⟩ ?_
 clear hi7 h73 h74
 rintro ⟨vs,A,d,F⟩ w8 ⟨hx8,z8,h83,h84,hi8,hF,hown8⟩
 simp only at hi8 hF hown8
 have hFl : F.length ≤ vs.length := by
  rw [hF]
  have := List.length_filter_le (fun k => (Qab s k).any (Qi8 lo hi)) (vs.map (·.1))
  rw [List.length_map] at this
  exact this
 conv=>whnf
 refine Qf2 hi8 (fun hp => ?_) (fun x w9 hin hnew hlt hi9 ho9 hen => ?_)
 · have hp1 : (vs.map (·.1)).Perm (L.map (·.1)) := by
    have := hp.map (·.1)
    simpa [toV,List.map_map,Function.comp_def] using this
   have hvl : vs.length = L.length := by simpa using hp1.length_eq
   have hk := hK F (by rw [hF]; exact hp1.filter _)
   conv=>whnf
   constructor
   · intro hx; cases hx
   intro _
   conv=>whnf
   refine (Qqj F A d w7.heap.size w8 hown8 (by omega)).mono ?_
   rintro _ w9 ⟨rfl,hsl9,hx9⟩
   conv=>whnf
   have hl9 : F.length = (Qfd s lo hi).length := by rw [← hk,Qek]
   refine ⟨A,d,by rw [hl9],?_,hx9 w1 hx8 (by have := hx.size; omega)⟩
   rw [← hk]
   exact hsl9
 · obtain ⟨y,hy,rfl⟩ := List.mem_map.1 hin
   have hlt : vs.length < L.length := by simpa [toV] using hlt
   have hvs : toV (Qab s) vs ++ [(y.1,Value.slice y.2.1 (Qab s y.1).length y.2.2)] = toV (Qab s) (vs ++ [y]) := by simp [toV]
   rw [hvs] at hi9
   have s9 := ho9.size
   have hx9 := ho9.ext hx8 (by omega)
   have hown9 := hown8.keep fun a ha => ho9.block _ (fun e => by have := (hown8.block ha).1; have := hx7.size; have := hi8.lt; omega)
   have h93 := (ho9.block b3 (by omega)).trans h83
   have h94 := (ho9.block b4 (by omega)).trans h84
   have hsn : ((vs ++ [y]).map (·.1)).filter (fun k => (Qab s k).any (Qi8 lo hi)) = F ++ if (Qab s y.1).any (Qi8 lo hi) = true then [y.1] else [] := by
    rw [List.map_append,List.filter_append,hF]
    cases hq : (Qab s y.1).any (Qi8 lo hi) <;> simp [hq]
   have hrow : Sl Qjh 1 w9 y.2.1 (Qab s y.1) := by
    have hro := h.rows.row y hy
    refine Qbb (hro.1.sl Qa8) fun a ha => ?_
    have hal := (hro.1.block ha).2
    exact (ho9.block a.block (by omega)).trans (hx8.block a.block hal)
   have hrl := Qqc s y.1
   (conv=>whnf);repeat(refine Sg ?_;(conv=>whnf))
   constructor
   · intro _
     (conv=>whnf);repeat(refine Sg ?_;(conv=>whnf))
     refine Qbg (hen w9 rfl rfl) ?_
     generalize Qab s y.1 = row at hrow hrl hsn ⊢
     (conv=>whnf);repeat(refine Sg ?_;(conv=>whnf))
     refine (Qyh b3 b4 lo hi row y.2.1 y.2.2 w9 hrow (by omega) h93 h94).mono ?_
     rintro _ w10 ⟨rfl,hw10⟩
     subst hw10
     generalize hq : row.any (Qi8 lo hi) = q at hsn
     (conv=>whnf);repeat(refine Sg ?_;(conv=>whnf))
     constructor
     · intro hc
       have hc : q = true := hc
       rw [if_pos hc] at hsn
       (conv=>whnf);repeat(refine Sg ?_;(conv=>whnf))
       intro b11 w11 hn11; (conv=>whnf);repeat(refine Sg ?_;(conv=>whnf))
       refine Qju (l := F) (news := [y.1]) (hown9.ext hn11.ext) (Qdw Qav (l := [y.1]) hn11) (by simp; omega) (by have := hn11.size; omega) fun A' c' w12 hown12 hg12 hA12 => ?_
       have s11 := hn11.size
       have s12 := hg12.size
       have hx12 := Xo (hx9.trans hn11.ext) hg12 (fun k hk => by have := Qdu hown9 k hk; have := hx7.size; omega)
       have hbl : ∀ k,k < w7.heap.size → w12.heap[k]? = w10.heap[k]? := fun k hk => (hg12.block k (by omega) (fun e => by have := Qdu hown9 k e.symm; omega)).trans (hn11.ext.block k (by omega))
       have hi12 := hi9.keep (hbl br (by have := hx7.size; omega)) (hbl r hr7)
       have h123 := (hbl b3 (by have := hx7.size; omega)).trans h93
       have h124 := (hbl b4 (by have := hx7.size; omega)).trans h94
       generalize F ++ [y.1] = F1 at hown12 hsn ⊢
       (conv=>whnf);repeat(refine Sg ?_;(conv=>whnf))
       exact ⟨(vs ++ [y],A',c',F1),by simp; omega,⟨hx12,by omega,h123,h124,hi12,hsn.symm,hown12⟩,⟨rfl,rfl,rfl,rfl,trivial⟩⟩
     · intro hc
       have hc : q = false := hc
       rw [hc] at hsn
       simp only [Bool.false_eq_true,if_false,List.append_nil] at hsn
       (conv=>whnf);repeat(refine Sg ?_;(conv=>whnf))
       exact ⟨(vs ++ [y],A,d,F),by simp; omega,⟨hx9,by omega,h93,h94,hi9,hsn.symm,hown9⟩,⟨rfl,rfl,rfl,rfl,trivial⟩⟩
   · intro h; cases h
end Go.Proofs.YtopncieoolkhjaaGreatDoor
namespace Go.Proofs.YtopncieoolkhjaaGreatDoor
open Go.Se Go.RowKit Go.Sort
abbrev Ri := ByteArray × Int × Int
def riC (x:Ri) : List Value := [.string x.1,.int .i64 x.2.1,.int .i64 x.2.2]
theorem Qzt (x:Ri) : (riC x).length = 3 := rfl
theorem Qsh (x:Ri) : ∀ u ∈ riC x,u.oneCell' = true := by simp [riC,Value.oneCell']
theorem Q6j : Qrb Tryz.prog 277 280 riC 3 32 := ⟨by kernel_rfl,⟨_,ty280_ok,rfl,rfl⟩,by280,by decide,by decide,Qzt,Qsh⟩
def riR (x:Ri) : Int × Int := (x.2.1,x.2.2 + 1)
def Q08 (x:Ri) : Prop := (0 ≤ x.2.1 ∧ x.2.1 ≤ 10000000) ∧ (0 ≤ x.2.2 ∧ x.2.2 ≤ 10000000)
theorem Qzu {x:Ri} (h:Q08 x) : Qov 100000000 (riR x) := by
 unfold Q08 at h
 unfold Qov riR
 simp only
 omega
theorem Qnt {A B:Array Obj} {b:Nat} (hb:A.size ≤ b) (f:Obj → Obj) : (A ++ B).modify b f = A ++ B.modify (b - A.size) f := by
 apply Array.ext_getElem?
 intro i
 rw [Array.getElem?_modify,Array.getElem?_append,Array.getElem?_append,Array.getElem?_modify]
 by_cases h1 : b = i
 · subst h1
   rw [if_pos rfl,if_neg (by omega),if_neg (by omega),if_pos rfl]
 · rw [if_neg h1]
   by_cases h2 : i < A.size
   · rw [if_pos h2,if_pos h2]
   · rw [if_neg h2,if_neg h2,if_neg (by omega)]
theorem Q55 {w0 w:World} {b:Nat} {cs:Array Value} (h:Gr w0 w) (hb:w0.heap.size ≤ b) : Gr w0 (w.setRow b cs) := by
 obtain ⟨q,os,rfl⟩ := h
 have key := Qnt (A := w0.heap) (B := os) hb (fun | .cells _ elem frozen => Obj.cells cs elem frozen | o => o)
 exact ⟨q,_,congrArg (fun h => ({ heap := h,tape := w0.tape,drawn := w0.drawn + q,os := w0.os,output := w0.output } : World)) key⟩
theorem Q2o {P:Program} {T:Tab} (hT:Qar P T) {t:TypeId} {e:TyE} (ht:Qgh T t = some e) {w0 w:World} (hg:Gr w0 w) {R:Value → World → Prop} {b tb off:Nat} {l:List Value} {v:Value} {p:Addr} (h:At w b tb l) (hb:w0.heap.size ≤ b) (hp:p = ⟨b,off,none⟩) (hn:(Qg v).length = e.size) (hle:Nat.ble (off + e.size) l.length = true) (hone:∀ u ∈ Qg v,u.oneCell' = true)
 (hk:∀ w',At w' b tb (spl l off (Qg v)) → Gr w0 w' → R undef w') : Qrc P (Instr.storeAt t (.pointer (some p)) v) w R := by
 subst hp
 have hst := run_storeCells_at P b off tb (Qg v) 0 l.toArray w h (by have := Nat.le_of_ble_eq_true hle; simp; omega) hone
 have hvs : v.cells.size = e.size := by rw [← hn,← Qaf]; simp
 refine ⟨w.setRow b (spl l off (Qg v)).toArray,?_,hk _ ?_ (Q55 hg hb)⟩
 · simp [Instr.storeAt,Instr.sureAddr,storeVar,Qh3 (hT.get ht),hvs,Qaf]
   simpa [spl] using hst
 · have := setRow_heap w b l.toArray (spl l off (Qg v)).toArray tb (0,0) h
   simpa [Se.At,spl] using this
theorem Qgt (x:Ri) (h:Q08 x) (w:World) : Cal Tryz.prog 180 [.agg (riC x).toArray] w fun r w' => r = Q5s (riR x) ∧ Gr w w' := by
 obtain ⟨h1,h2⟩ := h
 refine Fi Tryz.func180 rfl _ rfl rfl ?_;conv=>whnf
 intro b1 w1 hn1;conv=>whnf
 intro b2 w2 hn2;conv=>whnf
 have a1 : At w2 b1 _ (riC x) := hn1.At.ext hn2.ext
 have hg2 := (Qff hn1).trans (Qff hn2)
 have e2 := hn2.block
 have s1 := hn1.ext.size
 refine ⟨.int .i64 x.2.1,a1.one rfl,?_⟩;conv=>whnf
 refine ⟨.int .i64 x.2.2,fun _ => a1.one rfl,?_⟩;conv=>whnf
 refine ⟨.int .i64 x.2.2,fun _ => a1.one rfl,?_⟩;conv=>whnf
 constructor
 · intro hc
   exfalso
   simp at hc
   omega
 intro _
 conv=>whnf
 refine ⟨.int .i64 x.2.1,a1.one rfl,?_⟩;conv=>whnf
 refine ⟨.int .i64 x.2.2,a1.one rfl,?_⟩;conv=>whnf
 refine ⟨x.2.2 + 1,wrap_eq rfl ⟨by omega,by omega⟩,?_⟩;conv=>whnf
 refine Q2o Qa (e := ty221) rfl hg2 hn2.At (by omega) rfl rfl rfl (by simp [Qg,Value.oneCell']) fun w3 h3 hg3 => ?_
 conv=>whnf
 refine ⟨Qqa (riR x),⟨rfl,h3.all⟩,?_⟩;conv=>whnf
 exact ⟨rfl,hg3⟩
def Q39 (a b:Ri) : Int := orL [Qrm (riR b) (riR a),Qey b.2.1 a.2.1,Qf8 a.1 b.1]
theorem Qvl (a b:Ri) (ha:Q08 a) (hb:Q08 b) (w:World) : Cal Tryz.prog 226 [.agg (riC a).toArray,.agg (riC b).toArray] w fun r w' => r = .int .i64 (Q39 a b) ∧ Gr w w' := by
 refine Fi Tryz.func226 rfl _ rfl rfl ?_;conv=>whnf
 intro b1 w1 hn1;conv=>whnf
 intro b2 w2 hn2
 have h1 : At w2 b1 _ (riC a) := hn1.At.ext hn2.ext
 have h2 : At w2 b2 _ (riC b) := hn2.At
 have hx := (Qff hn1).trans ((Qff hn2).trans (Gr.drew w2))
 conv=>whnf
 refine Dr .ext [0,2,5,6,7,8,10,11,12,13,1,3,4,9] [14,15,16,17] ?_;conv=>whnf
 replace h1 : At w2.drew b1 _ _ := h1
 replace h2 : At w2.drew b2 _ _ := h2
 generalize w2.drew = w3 at h1 h2 hx ⊢
 refine ⟨riC b,⟨rfl,h2.all⟩,?_⟩;conv=>whnf
 refine ⟨riC a,⟨rfl,h1.all⟩,?_⟩;conv=>whnf
 refine ⟨_,h2.one rfl,?_⟩;conv=>whnf
 refine ⟨_,h1.one rfl,?_⟩;conv=>whnf
 refine ⟨_,h1.one rfl,?_⟩;conv=>whnf
 refine ⟨_,h2.one rfl,?_⟩;conv=>whnf
 refine (Qgt b hb w3).mono ?_
 rintro _ w4 ⟨rfl,hg4⟩
 refine ⟨hg4.ext,?_⟩;conv=>whnf
 refine (Qgt a ha w4).mono ?_
 rintro _ w5 ⟨rfl,hg5⟩
 refine ⟨hg5.ext,?_⟩;conv=>whnf
 refine (Qho (by omega) (riR b) (riR a) (Qzu hb) (Qzu ha) w5).mono ?_
 rintro _ w6 ⟨rfl,hg6⟩
 refine ⟨hg6.ext,?_⟩;conv=>whnf
 refine (Ql7 _ _ _).mono ?_; rintro _ w7 ⟨rfl,hw7⟩
 subst hw7
 refine ⟨Ext.refl _,?_⟩;conv=>whnf
 refine (Qj1 _ _ _).mono ?_; rintro _ w8 ⟨rfl,hw8⟩
 subst hw8
 conv=>whnf
 intro b9 w9 hn9;conv=>whnf
 refine (Qr9 [Qrm (riR b) (riR a),Qey b.2.1 a.2.1,Qf8 a.1 b.1] _ _ _ (Qdw (enc := Qjh) Qa8 hn9) (by simp)).mono ?_
 rintro _ w10 ⟨rfl,hw10⟩
 subst hw10
 conv=>whnf
 exact ⟨rfl,(hx.trans (hg4.trans (hg5.trans hg6))).trans (Qff hn9)⟩
abbrev RiS := { x:Ri // Q08 x }
instance : Inhabited RiS := ⟨⟨(⟨#[]⟩,0,0),by unfold Q08; simp⟩⟩
def Qx8 (a b:RiS) : Int := Q39 a.1 b.1
theorem Qx9 : Qx8 = Q5n (fun a b:RiS => Qrm (riR b.1) (riR a.1)) (Q5n (fun a b:RiS => Qey b.1.2.1 a.1.2.1) (fun a b:RiS => Qf8 a.1.1 b.1.1)) := by
 funext a b
 unfold Qx8 Q39 Q5n orL
 by_cases h1 : Qrm (riR b.1) (riR a.1) = 0
 · by_cases h2 : Qey b.1.2.1 a.1.2.1 = 0
   · by_cases h3 : Qf8 a.1.1 b.1.1 = 0 <;> simp [h1,h2,h3]
   · simp [h1,h2]
 · simp [h1]
theorem Qya : SWO (ltOf Qx8) := by
 rw [Qx9]
 refine (WC.lex (WC.flip (Q6w (fun x:RiS => riR x.1) fun x => ?_)) (WC.lex (WC.flip (Q6v fun x:RiS => x.1.2.1)) (Q5h fun x:RiS => x.1.1))).swo
 have := x.2.2.1
 unfold riR
 simp only
 omega
theorem Qss (l:List RiS) (A:Option Addr) (c base:Nat) (w:World) (hown:Own (fun x:RiS => riC x.1) 3 280 base w A c l) (hl:l.length < 1000000) :
 Cal Tryz.prog 225 [.slice A l.length c,.func (.func 226) #[] #[]] w fun r w' => r = .tuple #[] ∧ ∃ F : List RiS,F.Perm l ∧ Srt (ltOf Qx8) F ∧ Sl (fun x:RiS => riC x.1) 3 w' A F ∧ ∀ w0,Ext w0 w → w0.heap.size ≤ base → Ext w0 w' :=
 Qqk Tryz.sortRise (enc := fun x : RiS => riC x.1) (by decide) Tryz.isAgg280 Tryz.sizeOf280 (fun x => Qzt x.1) (fun x => Qsh x.1) Qx8 Qya ⟨_,Tryz.func225,rfl,rfl⟩ (enters_of Tryz.func226 (by kernel_rfl) rfl) l A c base w hown hl (fun x y w' _ => Qvl x.1 y.1 x.2 y.2 w') (cb := #[])
def Q4y (s:X8) (l1 l2 l3:Int) (key:ByteArray) : Ri := (key,paS s key l2 l3,paS s key l1 l2)
def Qge (s:X8) (l1 l2 l3 floor:Int) (K:List ByteArray) : List Ri := (K.map (Q4y s l1 l2 l3)).filter fun r => decide (floor ≤ r.2.1)
theorem Qo2 {l:List Ri} (h:∀ x ∈ l,Q08 x) : ∃ L : List RiS,L.map (·.1) = l := by
 induction l with
 | nil => exact ⟨[],rfl⟩
 | cons x l ih =>
   obtain ⟨L,hL⟩ := ih fun y hy => h y (by simp [hy])
   exact ⟨⟨x,h x (by simp)⟩ :: L,by rw [List.map_cons,hL]⟩
theorem Q4v {α β:Type} {enc:α → List Value} {sz:Nat} {te:TypeId} {base:Nat} {w:World} {A:Option Addr} {c:Nat} {f:β → α} {l:List β} (h:Own enc sz te base w A c (l.map f)) : Own (fun x => enc (f x)) sz te base w A c l := by
 unfold Own at *
 rw [List.length_map,List.flatMap_map] at h
 exact h
theorem Q6l {α β:Type} {enc:α → List Value} {sz:Nat} {w:World} {A:Option Addr} {f:β → α} {l:List β} (h:Sl (fun x => enc (f x)) sz w A l) : Sl enc sz w A (l.map f) := by
 intro i x hi
 rw [List.getElem?_map] at hi
 cases hq : l[i]? with
 | none => rw [hq] at hi; simp at hi
 | some y =>
   rw [hq] at hi
   simp at hi
   subst hi
   exact h i y hq
set_option maxHeartbeats 1000000 in
theorem Qsi (w:World) (S:Nat → Prop) (p:Nat) (width n:Int) (s:X8) (h:Qlz w S p width n s) (hw:1 ≤ width ∧ width ≤ 1099511627776) (ok:Q5w s 10000000) (hsum:∀ key lo hi,paS s key lo hi ≤ 10000000) (span now floor:Int) (hs:1 ≤ span ∧ span ≤ 1099511627776) (hd:span.tmod width = 0) (hn:0 ≤ now ∧ now ≤ 1099511627776) :
 Cal Tryz.prog 179 [.pointer (some ⟨p,0,none⟩),.int .i64 span,.int .i64 now,.int .i64 floor] w fun r w' => ∃ A c F,r = .slice A F.length c ∧ F.Perm (Qge s ((now - now.tmod width - 2 * span) / width) ((now - now.tmod width - span) / width) ((now - now.tmod width) / width) floor (Qfd s ((now - now.tmod width - span) / width) ((now - now.tmod width) / width))) ∧ Sl riC 3 w' A F ∧ Ext w w' := by
 have hm0 : 0 ≤ now.tmod width := Int.tmod_nonneg _ hn.1
 have hm1 : now.tmod width < width := Int.tmod_lt_of_pos _ (by omega)
 have hlen := ok.len
 have hps := fun key lo hi => (Qkv ok.small ok.N0 key lo hi).1
 refine Fi Tryz.func179 rfl _ rfl rfl ?_;conv=>whnf
 refine ⟨_,Qb8 Q7g _ _ _,?_⟩;conv=>whnf
 refine ⟨Unit,fun _ => (.int .i64 width),fun _ w' => Ext w w',(),fun hg => ((Qi0 w S p width n s h)).mono fun r w' h => ⟨(),h.1,h.2⟩,?_⟩
 intro _ w1 h2
 have hx1 : Ext w w1 := by
  rcases h2 with ⟨_,h⟩ | ⟨_,h⟩
  · exact h
  · rw [h]; exact Ext.refl _
 clear h2
 conv=>whnf
 refine ⟨span.tmod width,fun _ => ⟨by omega,rfl⟩,?_⟩;conv=>whnf
 constructor
 · intro hc
   exfalso
   simp [hd] at hc
   omega
 intro _
 conv=>whnf
 refine (Qi0 w1 S p width n s (h.ext hx1)).mono ?_
 rintro _ w1b ⟨rfl,hx1b⟩
 replace hx1 := hx1.trans hx1b
 conv=>whnf
 refine ⟨now.tmod width,⟨by omega,rfl⟩,?_⟩;conv=>whnf
 refine ⟨now - now.tmod width,wrap_eq rfl ⟨by omega,by omega⟩,?_⟩;conv=>whnf
 have hb1 : 0 ≤ now - now.tmod width := by
  have := Int.tmod_add_mul_tdiv now width
  have h2 : 0 ≤ now.tdiv width := Int.tdiv_nonneg hn.1 (by omega)
  have h3 : 0 ≤ width * now.tdiv width := Int.mul_nonneg (by omega) h2
  omega
 have hb2 : now - now.tmod width ≤ 1099511627776 := by omega
 generalize now - now.tmod width = b at hb1 hb2 ⊢
 refine ⟨b - span,wrap_eq rfl ⟨by omega,by omega⟩,?_⟩;conv=>whnf
 refine (Qsb _ S p width n s (h.ext hx1) hw _ ok (b - span) b ⟨by omega,by omega⟩ ⟨by omega,by omega⟩).mono ?_
 rintro _ w2 ⟨KA,Kc,rfl,hK,hx2⟩
 have hKl := Qpr s ((b - span) / width) (b / width)
 generalize Qfd s ((b - span) / width) (b / width) = K at hK hKl ⊢
 replace hx2 := hx1.trans hx2
 have hrn := fun k (hk:k < K.length) => (List.take_succ_eq_append_getElem hk)
 conv=>whnf
 refine Qj Qa (fun (i:Nat × Option Addr × Nat × List Ri) w' => i.1 ≤ K.length ∧ Ext w2 w' ∧ i.2.2.2 = Qge s ((b - 2 * span) / width) ((b - span) / width) (b / width) floor (K.take i.1) ∧ Own riC 3 280 w2.heap.size w' i.2.1 i.2.2.1 i.2.2.2)
  (fun | (k,A,d,F) => [(0,.pointer (some ⟨p,0,none⟩)),(1,.int .i64 span),(3,.int .i64 floor),(9,.int .i64 b),(10,.slice A F.length d),(50,.slice KA K.length Kc),(51,.int .i64 K.length),(52,.int .i64 (k:Nat))]) (fun i => K.length - i.1) (0,none,0,[]) ⟨Nat.zero_le _,Ext.refl _,rfl,Own.nil⟩ ⟨rfl,rfl,rfl,rfl,rfl,rfl,rfl,rfl,trivial⟩ ?_
 rintro ⟨k,A,d,F⟩ w3 ⟨hk,hx3,hF,hown3⟩
 simp only at hk hF hown3
 have hFl : F.length ≤ k := by
  rw [hF]
  unfold Qge
  refine Nat.le_trans (List.length_filter_le _ _) ?_
  rw [List.length_map,List.length_take]
  omega
 conv=>whnf
 constructor
 · intro hlt
   have hlt : k < K.length := by simpa using hlt
   obtain ⟨a2,hA,hc2⟩ := (hK.ext hx3).get hlt
   subst hA
   have htk : Qge s ((b - 2 * span) / width) ((b - span) / width) (b / width) floor (K.take (k + 1)) = F ++ if floor ≤ (Q4y s ((b - 2 * span) / width) ((b - span) / width) (b / width) K[k]).2.1 then [Q4y s ((b - 2 * span) / width) ((b - span) / width) (b / width) K[k]] else [] := by
    rw [hF,List.take_succ_eq_append_getElem hlt]
    unfold Qge
    rw [List.map_append,List.filter_append]
    congr 1
    by_cases hq : floor ≤ (Q4y s ((b - 2 * span) / width) ((b - span) / width) (b / width) K[k]).2.1 <;> simp [hq]
   generalize K[k] = key at hc2 htk
   (conv=>whnf);repeat(refine Sg ?_;(conv=>whnf))
   refine ⟨a2,⟨rfl,by omega,by omega⟩,?_⟩; (conv=>whnf);repeat(refine Sg ?_;(conv=>whnf))
   refine ⟨.string key,Xb hc2,?_⟩; (conv=>whnf);repeat(refine Sg ?_;(conv=>whnf))
   refine ⟨b - span,wrap_eq rfl ⟨by omega,by omega⟩,?_⟩; (conv=>whnf);repeat(refine Sg ?_;(conv=>whnf))
   have hP3 := h.ext (hx2.trans hx3)
   refine (Qmj w3 S p width n s hP3 hw _ ok key (b - span) b ⟨by omega,by omega⟩ ⟨by omega,by omega⟩).mono ?_
   rintro _ w3' ⟨rfl,hw3⟩
   subst hw3
   (conv=>whnf);repeat(refine Sg ?_;(conv=>whnf))
   refine ⟨2 * span,wrap_eq rfl ⟨by omega,by omega⟩,?_⟩; (conv=>whnf);repeat(refine Sg ?_;(conv=>whnf))
   refine ⟨b - 2 * span,wrap_eq rfl ⟨by omega,by omega⟩,?_⟩; (conv=>whnf);repeat(refine Sg ?_;(conv=>whnf))
   refine ⟨b - span,wrap_eq rfl ⟨by omega,by omega⟩,?_⟩; (conv=>whnf);repeat(refine Sg ?_;(conv=>whnf))
   refine (Qmj _ S p width n s hP3 hw _ ok key (b - 2 * span) (b - span) ⟨by omega,by omega⟩ ⟨by omega,by omega⟩).mono ?_
   rintro _ w3'' ⟨rfl,hw3⟩
   subst hw3
   obtain ⟨x,hx⟩ : ∃ x,x = Q4y s ((b - 2 * span) / width) ((b - span) / width) (b / width) key := ⟨_,rfl⟩
   rw [← hx] at htk
   have hx21 : paS s key ((b - span) / width) (b / width) = x.2.1 := by rw [hx]; rfl
   have hx22 : paS s key ((b - 2 * span) / width) ((b - span) / width) = x.2.2 := by rw [hx]; rfl
   have hx1' : key = x.1 := by rw [hx]; rfl
   rw [hx21,hx22,hx1']
   clear hx hx21 hx22 hx1'
   (conv=>whnf);repeat(refine Sg ?_;(conv=>whnf))
   intro b4 w4 hn4; (conv=>whnf);repeat(refine Sg ?_;(conv=>whnf))
   refine Qc Qa (e := ty280) rfl hn4.At rfl rfl rfl (by simp [Qg,Value.oneCell']) fun w5 h5 ho5 => ?_
   have h5 : At w5 b4 280 (riC x) := h5
   have e4 := hn4.block
   have s3 := hx3.size
   have hx35 : Ext w3'' w5 := ho5.ext hn4.ext (by omega)
   have hx5 := hx3.trans hx35
   have hown5 := hown3.ext hx35
   clear ho5 hn4
   (conv=>whnf);repeat(refine Sg ?_;(conv=>whnf))
   refine ⟨.int .i64 x.2.1,h5.one rfl,?_⟩; (conv=>whnf);repeat(refine Sg ?_;(conv=>whnf))
   constructor
   · intro hc
     have hc : floor ≤ x.2.1 := by simpa using hc
     rw [if_pos hc] at htk
     (conv=>whnf);repeat(refine Sg ?_;(conv=>whnf))
     refine ⟨riC x,⟨rfl,h5.all⟩,?_⟩; (conv=>whnf);repeat(refine Sg ?_;(conv=>whnf))
     intro b6 w6 hn6; (conv=>whnf);repeat(refine Sg ?_;(conv=>whnf))
     refine X4 Q6j (l := F) (news := [x]) rfl (hown5.ext hn6.ext) rfl (Q6j.new1 (x := x) hn6) (by simp; omega) ((hx5.trans hn6.ext).size) fun A' c' w7 hown7 hg7 hA7 => ?_
     have hx7 := Xo (hx5.trans hn6.ext) hg7 (Qdu hown5)
     generalize F ++ [x] = F1 at hown7 htk ⊢
     (conv=>whnf);repeat(refine Sg ?_;(conv=>whnf))
     refine ⟨_,wrap_succ (by omega),?_⟩; (conv=>whnf);repeat(refine Sg ?_;(conv=>whnf))
     exact ⟨(k + 1,A',c',F1),by simp only; omega,⟨by simp only; omega,hx7,htk.symm,hown7⟩,⟨rfl,rfl,rfl,rfl,rfl,rfl,rfl,rfl,trivial⟩⟩
   · intro hc
     have hc : ¬ floor ≤ x.2.1 := by simpa using hc
     rw [if_neg hc,List.append_nil] at htk
     (conv=>whnf);repeat(refine Sg ?_;(conv=>whnf))
     refine ⟨_,wrap_succ (by omega),?_⟩; (conv=>whnf);repeat(refine Sg ?_;(conv=>whnf))
     exact ⟨(k + 1,A,d,F),by simp only; omega,⟨by simp only; omega,hx5,htk.symm,hown5⟩,⟨rfl,rfl,rfl,rfl,rfl,rfl,rfl,rfl,trivial⟩⟩
 · intro hge
   have hge : K.length ≤ k := by simpa using hge
   rw [List.take_of_length_le hge] at hF
   rw [← hF]
   have hokF : ∀ x ∈ F,Q08 x := fun x hx => by
    rw [hF] at hx
    unfold Qge at hx
    obtain ⟨y,_,rfl⟩ := List.mem_map.1 (List.mem_filter.1 hx).1
    exact ⟨⟨hps _ _ _,hsum _ _ _⟩,⟨hps _ _ _,hsum _ _ _⟩⟩
   obtain ⟨L,hL⟩ := Qo2 hokF
   have hLl : L.length = F.length := by rw [← hL,List.length_map]
   have hownL : Own (fun x:RiS => riC x.1) 3 280 w2.heap.size w3 A d L := Q4v (f := fun x : RiS => x.1) (by rw [hL]; exact hown3)
   have hsort := Qss L A d w2.heap.size w3 hownL (by omega)
   rw [hLl] at hsort
   conv=>whnf
   refine hsort.mono ?_
   rintro _ w4 ⟨rfl,F4,hp4,hs4,hsl4,hx4⟩
   conv=>whnf
   have hpF := hp4.map (fun x:RiS => x.1)
   rw [hL] at hpF
   exact ⟨A,d,F4.map (·.1),by rw [hpF.length_eq],hpF,Q6l hsl4,hx4 w (hx2.trans hx3) hx2.size⟩
end Go.Proofs.YtopncieoolkhjaaGreatDoor
namespace Go.Proofs.YtopncieoolkhjaaGreatDoor
open Go.Se Go.RowKit
theorem Qe3 (gap:Int) (L:List Ad3) (a:Ad3) : allL gap (L ++ [a]) = Xl gap (allL gap L) a := by unfold allL; rw [List.foldl_append]; rfl
theorem Qre (gap:Int) (acc:List Sn) (a:Ad3) : (Xl gap acc a).length ≤ acc.length + 1 := by
 unfold Xl
 split
 · split
   · simp
   · simp
 · simp
theorem Q1d (gap:Int) : ∀ L : List Ad3,(allL gap L).length ≤ L.length := by
 refine Qv (by simp [allL]) fun L a ih => ?_
 rw [Qe3]
 have := Qre gap (allL gap L) a
 simp; omega
theorem Qvd (gap:Int) : ∀ L : List Ad3,∀ q ∈ allL gap L,q.items.length ≤ L.length := by
 refine Qv (fun q hq => by simp [allL] at hq) fun L a ih q hq => ?_
 rw [Qe3] at hq
 rw [List.length_append,List.length_singleton]
 unfold Xl at hq
 split at hq
 · next g hg =>
   have hgm : g ∈ allL gap L := List.mem_of_getLast? hg
   have hgl := ih g hgm
   split at hq
   · rcases List.mem_append.1 hq with hq | hq
     · have := ih q (List.dropLast_subset _ hq); omega
     · rw [List.mem_singleton] at hq
       subst hq
       have := Qnj (lt := bLt) a.2.2 g.items
       simp only
       omega
   · rcases List.mem_append.1 hq with hq | hq
     · have := ih q hq; omega
     · rw [List.mem_singleton] at hq
       subst hq
       simp
 · rcases List.mem_append.1 hq with hq | hq
   · have := ih q hq; omega
   · rw [List.mem_singleton] at hq
     subst hq
     simp
theorem Q3t (T:Int) (I:ByteArray) : ∀ m : Qdk,((Q3 m T (Q3 ((Qe m T).getD []) I true)).map fun x => x.2.length).sum ≤ (m.map fun x => x.2.length).sum + 1
 | [] => by simp [Q3,Qe]
 | y :: m => by
   have ih := Q3t T I m
   rw [Qbd]
   unfold Q3
   by_cases h : T = y.1
   · rw [if_pos h,if_pos h]
     have := Qeo I true y.2
     simp only [Option.getD_some,List.map_cons,List.sum_cons]
     omega
   · rw [if_neg h,if_neg h]
     simp only [List.map_cons,List.sum_cons]
     omega
theorem Q6m : ∀ l : List Ev,∀ p,((tks (Qgf l) p).map fun x => x.2.length).sum ≤ l.length := by
 refine Qv (fun p => by simp [Qgf,tks,Qe]) fun l e ih p => ?_
 rw [Qsz,Qjp,List.length_append,List.length_singleton]
 split
 · next h =>
   have h1 := Q3t e.at_ e.item (tks (Qgf l) e.person)
   have h2 := ih e.person
   omega
 · have := ih p; omega
theorem Q0g {α:Type} [DecidableEq α] {V E:List α} (hn:V.Nodup) (hs:∀ x ∈ V,x ∈ E) : V.length ≤ E.length := Qok hn hs
theorem Q7s (gap:Int) (hg:0 ≤ gap) (l:List Ev) (hlm:∀ e ∈ l,Xy e = true ∧ wpB e = true) (hll:l.length < 1000) : Q60 gap (Qgf l) ∧ Qxs (Qhq gap (Qgf l)) ∧ (Qhq gap (Qgf l)).length < 1000 := by
 have hsa := Qsq gap hg l
 have hE : Qhq gap (Qgf l) = allL gap (Qec ahB (l.map adE)) := hsa.symm
 have is := Q45 l
 have hil := Qv3 (lt := ahB) (l.map adE)
 rw [List.length_map] at hil
 have hname : ∀ e ∈ l,e.person.size ≤ 1000 ∧ e.item.size ≤ 1000 := fun e he => by
  have h := hlm e he
  have hw : 0 < Qr e := by simpa [wpB] using h.2
  have hn := Qlm h.1 hw
  have h1 := Qkr hn.1
  have h2 := Qkr hn.2
  omega
 have hper : (Qgf l).length ≤ l.length := by
  have := Q0g (V := (Qgf l).map (·.1)) (E := l.map (·.person)) (Qc3 is.keys) fun x hx => by
   obtain ⟨e,he,h⟩ := (is.person x).1 hx
   exact List.mem_map.2 ⟨e,he,h⟩
  simpa using this
 have htk : ∀ p,(tks (Qgf l) p).length ≤ l.length := fun p => by
  have := Q0g (V := (tks (Qgf l) p).map (·.1)) (E := l.map (·.at_)) (Qkj (is.ticks p)) fun x hx => by
   obtain ⟨e,he,_,h⟩ := (is.tick p x).1 hx
   exact List.mem_map.2 ⟨e,he,h⟩
  simpa using this
 refine ⟨⟨fun x hx => ?_,fun p => ⟨fun x hx => ?_,fun x hx y hy => ?_,?_,?_⟩,by omega,fun ps hps => ?_⟩,fun q hq => ?_,?_⟩
 · obtain ⟨e,he,h⟩ := (is.person x.1).1 (List.mem_map.2 ⟨x,hx,rfl⟩)
   rw [← h]
   exact (hname e he).1
 · obtain ⟨e,he,_,h⟩ := (is.tick p x.1).1 (List.mem_map.2 ⟨x,hx,rfl⟩)
   rw [← h]
   exact (Qb2.1 (hlm e he).1).at_
 · have hl := Qee (is.ticks p) (show (x.1,x.2) ∈ tks (Qgf l) p from hx)
   have hy1 : y.1 ∈ Xf (tks (Qgf l) p) x.1 := by
    unfold Xf
    rw [hl]
    exact List.mem_map.2 ⟨y,hy,rfl⟩
   obtain ⟨e,he,_,_,h⟩ := (is.item p x.1 y.1).1 hy1
   rw [← h]
   exact (hname e he).2
 · have := htk p
   show (tks (Qgf l) p).length < _
   omega
 · have := Q6m l p
   show ((tks (Qgf l) p).map _).sum < _
   omega
 · have h1 : ps.length ≤ l.length := by
    have := hps.length_le
    rw [Qek,List.length_map] at this
    omega
   have h2 : ∀ ps : List ByteArray,(ps.flatMap (Qej gap (Qgf l))).length ≤ ps.length * l.length := by
    intro ps
    induction ps with
    | nil => simp
    | cons p ps ih =>
      rw [List.flatMap_cons,List.length_append,List.length_cons,Nat.succ_mul]
      have h3 : (Qej gap (Qgf l) p).length ≤ l.length := by
       unfold Qej
       rw [List.length_map]
       have := Q1z gap ((Qe (Qgf l) p).getD [])
       have := htk p
       unfold tks at this
       omega
      omega
   have h3 := h2 ps
   have h4 : ps.length * l.length ≤ 999 * 999 := Nat.mul_le_mul (by omega) (by omega)
   omega
 · have h1 := hq
   rw [hE] at hq
   have h2 := Qvd _ _ q hq
   unfold Qhq at h1
   obtain ⟨p,_,hp⟩ := List.mem_flatMap.1 h1
   unfold Qej at hp
   obtain ⟨g,_,hgq⟩ := List.mem_map.1 hp
   exact ⟨g.2.2,by rw [← hgq]; rfl,by omega⟩
 · rw [hE]
   have := Q1d gap (Qec ahB (l.map adE))
   omega
theorem Q5k (c:Cfg) (z:List Ev) (hm:∀ e ∈ z,Xy e = true) (hz:z.length < 1000) : Q61 c z := by
 have hll := List.length_filter_le wpB z
 have h := Q7s (Qrw c.gap) (by unfold Qrw; omega) (z.filter wpB) (fun e he => ⟨hm e (List.mem_filter.1 he).1,(List.mem_filter.1 he).2⟩) (by omega)
 exact ⟨h.1,h.2.1,h.2.2⟩
theorem Qoi {w:World} {T:Nat → Prop} {p:Nat} {c:Cfg} {z:List Ev} {v:Value} (h:WQ w T p c z v) (person item:ByteArray) (now:Int) (hn:0 ≤ now ∧ now ≤ 1099511627776) :
 Cal Tryz.prog 114 [.pointer (some ⟨p,0,none⟩),.string person,.string item,.int .i64 now] w fun r w' => r = .int .i64 (Qsf c z person item now 0) ∧ Ext w w' := by
 have hpm := Q3v h.may
 have hb := Qzl hpm (Q7 c.half) item now
 have hl := List.length_filter_le wpB z
 have hz := h.len
 refine Fi Tryz.func114 rfl _ rfl rfl ?_;conv=>whnf
 refine (Qn7 h).mono ?_
 rintro _ w1 ⟨pd,S,rfl,hc,hx1⟩
 rw [(Qjd c.width z).1] at hc
 conv=>whnf
 refine (Qvo w1 S pd _ _ _ hc item now hn fun r hr x hx => ?_).mono ?_
 · obtain ⟨e,he,h1,_⟩ := Q1s _ item r hr x hx
   rw [← h1]
   exact Qy8 (hpm e he)
 rintro r w2 ⟨hr,hx2⟩
 have hv : Qgl (Qyd (z.filter wpB)) (Q7 c.half) item now = Q3i (z.filter wpB) (Q7 c.half) item now := by
  unfold Qgl
  rw [Q51 _ _ _ _ (fun e he => (List.mem_filter.1 he).2)]
  exact (wrap_eq rfl ⟨by omega,by omega⟩).symm
 rw [hv] at hr
 subst hr
 conv=>whnf
 refine (Qkc _ w2).mono ?_
 rintro _ _ ⟨rfl,rfl⟩;conv=>whnf
 exact ⟨rfl,hx1.trans hx2⟩
theorem Qhp (c:Cfg) (z:List Ev) (h:Rise z) (item:ByteArray) (now:Int) : (Qbp (Qi z) item now).1 = Qgp z item now := by
 rw [Qdb (Qb6 h)]
 rfl
theorem Qr0 (l:List ByteArray) (A:Option Addr) (c:Nat) (x:ByteArray) (w:World) (hs:SlT w A l) (hl:l.length < 1000000) :
 Cal Tryz.prog 175 [.slice A l.length c,.string x] w fun r w' => (∃ i : Int,r = .int .i64 i ∧ -1 ≤ i ∧ (0 ≤ i ↔ x ∈ l)) ∧ w' = w := by
 refine Fi Tryz.func175 rfl _ rfl rfl ?_;conv=>whnf
 refine Qj Qa (fun (k:Nat) w' => k ≤ l.length ∧ x ∉ l.take k ∧ w' = w)
  (fun k => [(0,.slice A l.length c),(1,.string x),(7,.int .i64 l.length),(8,.int .i64 (k:Nat))]) (fun k => l.length - k) 0 ⟨Nat.zero_le _,by simp,rfl⟩ ⟨rfl,rfl,rfl,rfl,trivial⟩ ?_
 rintro k w2 ⟨hk,hno,hw2⟩
 subst hw2
 conv=>whnf
 constructor
 · intro hlt
   have hlt : k < l.length := by simpa using hlt
   obtain ⟨a2,hA,hc2⟩ := hs.get hlt
   subst hA
   have htk : x ∈ l.take (k + 1) ↔ x = l[k] := by rw [List.take_succ_eq_append_getElem hlt,List.mem_append,List.mem_singleton]; simp [hno]
   have hmem : l[k] ∈ l := List.getElem_mem hlt
   generalize l[k] = y at hc2 htk hmem
   conv=>whnf
   refine ⟨a2,⟨rfl,by omega,by omega⟩,?_⟩;conv=>whnf
   refine ⟨.string y,Xb hc2,?_⟩;conv=>whnf
   constructor
   · intro hc
     have hc : x = y := by simpa using hc
     conv=>whnf
     exact ⟨⟨k,rfl,by omega,by simp [hc,hmem]⟩,rfl⟩
   · intro hc
     have hc : ¬ x = y := by simpa using hc
     conv=>whnf
     refine ⟨_,wrap_succ (by omega),?_⟩;conv=>whnf
     exact ⟨k + 1,by omega,⟨by omega,fun h => hc (htk.1 h),rfl⟩,⟨rfl,rfl,rfl,rfl,trivial⟩⟩
 · intro hge
   have hge : l.length ≤ k := by simpa using hge
   rw [List.take_of_length_le hge] at hno
   conv=>whnf
   exact ⟨⟨-1,rfl,by omega,by simp [hno]⟩,rfl⟩
theorem Qd1 (l:List ByteArray) (A:Option Addr) (c:Nat) (x:ByteArray) (w:World) (hs:SlT w A l) (hl:l.length < 1000000) :
 Cal Tryz.prog 110 [.slice A l.length c,.string x] w fun r w' => r = .bool (decide (x ∈ l)) ∧ w' = w := by
 refine Fi Tryz.func110 rfl _ rfl rfl ?_;conv=>whnf
 refine (Qr0 l A c x w hs hl).mono ?_
 rintro _ _ ⟨⟨i,rfl,hi1,hi2⟩,rfl⟩
 conv=>whnf
 refine ⟨?_,rfl⟩
 by_cases hq : x ∈ l
 · rw [decide_eq_true (hi2.2 hq),decide_eq_true hq]
 · rw [decide_eq_false (fun h => hq (hi2.1 h)),decide_eq_false hq]
def Qqz (tags:List ByteArray) (F:List Ct) : Int := ((F.filter fun x => decide (x.1 ∈ tags)).map (·.2)).sum
theorem Q02 (tags:List ByteArray) (F:List Ct) (x:Ct) : Qqz tags (F ++ [x]) = Qqz tags F + if x.1 ∈ tags then x.2 else 0 := by
 unfold Qqz
 rw [List.filter_append,List.map_append,List.sum_append]
 by_cases h : x.1 ∈ tags <;> simp [h]
theorem Qop {tags:List ByteArray} : ∀ {F:List Ct},(∀ x ∈ F,0 ≤ x.2) → 0 ≤ Qqz tags F
 | [],_ => by simp [Qqz]
 | x :: F,h => by
   have ih := Qop (tags := tags) (F := F) fun y hy => h y (by simp [hy])
   have := h x (by simp)
   unfold Qqz at *
   rw [List.filter_cons]
   split
   · rw [List.map_cons,List.sum_cons]; omega
   · exact ih
theorem Q01 {tags:List ByteArray} {F:List Ct} (h:∀ x ∈ F,0 ≤ x.2) (k:Nat) : 0 ≤ Qqz tags (F.take k) ∧ Qqz tags (F.take k) ≤ Qqz tags F := by
 refine ⟨Qop fun x hx => h x (List.mem_of_mem_take hx),?_⟩
 have h1 : 0 ≤ Qqz tags (F.drop k) := Qop fun x hx => h x (List.mem_of_mem_drop hx)
 have h2 : Qqz tags F = Qqz tags (F.take k) + Qqz tags (F.drop k) := by
  unfold Qqz
  rw [← List.sum_append,← List.map_append,← List.filter_append,List.take_append_drop]
 omega
theorem Qs4 {α:Type} (f:α → Nat) (M:Nat) : ∀ l : List α,(∀ x ∈ l,f x ≤ M) → (l.map f).sum ≤ l.length * M
 | [],_ => by simp
 | x :: l,h => by
   have h1 := h x (by simp)
   have ih := Qs4 f M l fun y hy => h y (by simp [hy])
   rw [List.map_cons,List.sum_cons,List.length_cons,Nat.succ_mul]
   omega
theorem Q3o (width:Int) (z:List Ev) : (Qm width z).rs.length ≤ z.length := by
 have h := (Qbx width z).2
 have h1 := congrArg List.length h
 unfold evs at h1
 rw [List.length_map] at h1
 rw [h1]
 exact List.length_filter_le _ _
theorem Qwo (R:List Row) (person:ByteArray) : (rowsOf R person).length ≤ R.length := List.length_filter_le _ _
theorem Qqw (f:ByteArray → Int) (M:Int) (hM:0 ≤ M) (tags:List ByteArray) (h8:tags.length ≤ 8) (h:∀ t,0 ≤ f t ∧ f t ≤ M) : 0 ≤ Qfr f tags ∧ Qfr f tags ≤ 8 * M := by
 have hb := Qdi f M tags fun x _ => h x
 unfold Qfr
 refine ⟨hb.1,Int.le_trans hb.2 (Int.mul_le_mul_of_nonneg_right (by omega) hM)⟩
set_option maxHeartbeats 1000000 in
theorem Qs2 {w:World} {T:Nat → Prop} {p:Nat} {c:Cfg} {z:List Ev} {v:Value} (h:WQ w T p c z v) (hg:Gl w) (hz:z.length < 100000) (person item:ByteArray) (now:Int) (hn:0 ≤ now ∧ now ≤ 1099511627776) :
 Cal Tryz.prog 115 [.pointer (some ⟨p,0,none⟩),.string person,.string item,.int .i64 now] w fun r w' => r = .int .i64 (Qsf c z person item now 1) ∧ Ext w w' := by
 have hit := Qhp c z h.rise item now
 have htgo := Qkh item ((Qi z).filter (thQ item now)) fun y hy => Qcl h.may y (List.mem_filter.1 hy).1
 have hrs := Qj2 c.width z h.rise h.may
 have hrl := Q3o c.width z
 have hrw : Qsf c z person item now 1 = if (Qgp z item now).listed = true then min (Qfr (Q0x (Q7 c.half) now (rowsOf (Qk1 z) person)) (Qw (Qex (Qgp z item now).tags))) 1099511627776 else 0 := by
  unfold Qsf; rw [if_neg (by decide),if_pos rfl]
 rw [hrw]
 have hts : Q0x (Q7 c.half) now (rowsOf (Qk1 z) person) = Qu5 (Q7 c.half) now (rowsOf (Qm c.width z).rs person) := by
  funext t; exact (Q2y c.width (Q7 c.half) now person t z h.rise h.may).symm
 rw [hts]
 have htg := Qh9 (Qi z) (fun e he => h.may e ((List.mem_filter.1 he).1)) item now
 rw [hit] at htg
 have htgo : Q31 (Qw (Qex (Qgp z item now).tags)) := htgo
 refine Fi Tryz.func115 rfl _ rfl rfl ?_;conv=>whnf
 refine (Xu h).mono ?_
 rintro _ w1 ⟨pc,S,rfl,hcat,hx1⟩;conv=>whnf
 refine (Xa _ S pc _ hcat item now h.rows).mono ?_
 rintro _ w2 ⟨rfl,hx2⟩
 rw [hit]
 generalize Qgp z item now = it at htg htgo ⊢
 conv=>whnf
 intro b3 w3 hn3;conv=>whnf
 refine Qc Qa (e := ty187) rfl hn3.At rfl rfl rfl (by simp [Qg,itC,Value.oneCell']) fun w4 h4 ho4 => ?_
 have e3 := hn3.block
 have hx4 : Ext w w4 := ho4.ext ((hx1.trans hx2).trans hn3.ext) (by have := (hx1.trans hx2).size; omega)
 have h4 : At w4 b3 187 (itC it) := h4
 clear ho4
 conv=>whnf
 refine ⟨.bool it.listed,h4.one rfl,?_⟩;conv=>whnf
 constructor
 · intro hl
   have hl : it.listed = false := by simpa using hl
   conv=>whnf
   exact ⟨by rw [hl]; rfl,hx4⟩
 intro hl
 have hl : it.listed = true := by simpa using hl
 rw [if_pos hl]
 conv=>whnf
 refine ⟨.string it.tags,h4.one rfl,?_⟩;conv=>whnf
 refine ⟨sz2 (by decide) (by omega),?_⟩;conv=>whnf
 refine (Qbz (Qex it.tags) w4 (hg.ext hx4) (by unfold Qex; rw [ByteArray.size_append]; have : (⟨#[59]⟩ : ByteArray).size = 1 := rfl; omega)).mono ?_
 rintro _ w5 ⟨A5,c5,rfl,hs5,_,hx5⟩
 generalize Qw (Qex it.tags) = tg at hs5 htgo ⊢
 conv=>whnf
 refine (Qb4 (h.ext (hx4.trans hx5))).mono ?_
 rintro _ w6 ⟨pw,S6,rfl,hcr,hx6⟩
 generalize (Qm c.width z).rs = rs at hcr hrs hrl ⊢
 conv=>whnf
 refine (Qxa w6 S6 pw _ rs hcr person now (by omega) (fun r hr => ⟨(hrs r hr).1,(Qy8 (hrs r hr).1).1⟩) (by
  have := Qs4 (fun r:Row => r.2.length) 8 rs fun r hr => (hrs r hr).2.2
  omega) (by omega)).mono ?_
 rintro _ w7 ⟨A7,c7,F,rfl,hF,_,hs7,hx7⟩
 have hrows : ∀ r ∈ rowsOf rs person,Xy r.1 = true ∧ r.2.Nodup := fun r hr => ⟨(hrs r (List.mem_filter.1 hr).1).1,(hrs r (List.mem_filter.1 hr).1).2.1⟩
 have hrol := Qwo rs person
 have hts := Q0u hrows (by omega) (htgo.2.1.nodup Qoj) hF
 have hpos : ∀ x ∈ F,0 ≤ x.2 := fun x hx => by
  have := (List.mem_filter.1 (hF.mem_iff.1 hx)).2
  simp at this
  omega
 have hget := fun t => Q00 (Q7 c.half) now t (rowsOf rs person) hrows (by omega)
 have hV := Qqw (Qu5 (Q7 c.half) now (rowsOf rs person)) ((rowsOf rs person).length * 5242880) (by omega) tg htgo.2.2 fun t => ⟨(hget t).2.1,(hget t).2.2.1⟩
 have hparts := fun k => Q01 (tags := tg) hpos k
 have hFl : F.length < 1000000 := by
  have h1 := hF.length_eq
  have h2 : (Q5t (Q7 c.half) now (rowsOf rs person)).length ≤ (Qtc (Q7 c.half) now (rowsOf rs person)).length := List.length_filter_le _ _
  have h3 := Qu4 (Q7 c.half) now (rowsOf rs person)
  have h4 := Qs4 (fun r:Row => r.2.length) 8 (rowsOf rs person) fun r hr => (hrs r (List.mem_filter.1 hr).1).2.2
  omega
 have hts : Qqz tg F = Qfr (Qu5 (Q7 c.half) now (rowsOf rs person)) tg := hts
 rw [← hts] at hV ⊢
 clear hget hts hF
 have h8 : tg.length ≤ 8 := htgo.2.2
 have hs5' := hs5.ext (hx6.trans hx7)
 conv=>whnf
 refine Qj Qa (fun (q:Nat × Int) w' => q.1 ≤ F.length ∧ q.2 = Qqz tg (F.take q.1) ∧ Ext w7 w')
  (fun | (k,t) => [(11,.slice A5 tg.length c5),(12,.int .i64 t),(34,.slice A7 F.length c7),(35,.int .i64 F.length),(36,.int .i64 (k:Nat))]) (fun q => F.length - q.1) (0,0) ⟨Nat.zero_le _,rfl,Ext.refl _⟩ ⟨rfl,rfl,rfl,rfl,rfl,trivial⟩ ?_
 rintro ⟨k,t⟩ w8 ⟨hk,ht,hx8⟩
 simp only at hk ht
 conv=>whnf
 constructor
 · intro hlt
   have hlt : k < F.length := by simpa using hlt
   obtain ⟨a9,hA9,hc9⟩ := (hs7.ext hx8).get hlt
   subst hA9
   have htk : Qqz tg (F.take (k + 1)) = t + if F[k].1 ∈ tg then F[k].2 else 0 := by rw [ht,List.take_succ_eq_append_getElem hlt,Q02]
   have hp2 := hparts (k + 1)
   generalize F[k] = x at hc9 htk
   (conv=>whnf);repeat(refine Sg ?_;(conv=>whnf))
   refine ⟨a9,⟨rfl,by omega,by omega⟩,?_⟩; (conv=>whnf);repeat(refine Sg ?_;(conv=>whnf))
   refine ⟨Qxl x,⟨rfl,hc9⟩,?_⟩; (conv=>whnf);repeat(refine Sg ?_;(conv=>whnf))
   intro b9 w9 hn9; (conv=>whnf);repeat(refine Sg ?_;(conv=>whnf))
   refine Qc Qa (e := ty193) rfl hn9.At rfl rfl rfl (Qm9 x) fun w10 h10 ho10 => ?_
   have h10 : At w10 b9 193 (Qxl x) := h10
   have e9 := hn9.block
   have hx810 : Ext w8 w10 := ho10.ext hn9.ext (by omega)
   have hx10 := hx8.trans hx810
   clear ho10 hn9
   (conv=>whnf);repeat(refine Sg ?_;(conv=>whnf))
   refine ⟨.string x.1,h10.one rfl,?_⟩; (conv=>whnf);repeat(refine Sg ?_;(conv=>whnf))
   refine (Qd1 tg A5 c5 x.1 w10 (hs5'.ext hx10) (by omega)).mono ?_
   rintro _ w11 ⟨rfl,hw11⟩
   subst hw11
   (conv=>whnf);repeat(refine Sg ?_;(conv=>whnf))
   constructor
   · intro hc
     have hc : x.1 ∈ tg := by simpa using hc
     rw [if_pos hc] at htk
     rw [htk] at hp2
     (conv=>whnf);repeat(refine Sg ?_;(conv=>whnf))
     refine ⟨.int .i64 x.2,h10.one rfl,?_⟩; (conv=>whnf);repeat(refine Sg ?_;(conv=>whnf))
     refine ⟨t + x.2,wrap_eq rfl ⟨by omega,by omega⟩,?_⟩; (conv=>whnf);repeat(refine Sg ?_;(conv=>whnf))
     refine ⟨_,wrap_succ (by omega),?_⟩; (conv=>whnf);repeat(refine Sg ?_;(conv=>whnf))
     exact ⟨(k + 1,t + x.2),by simp only; omega,⟨by simp only; omega,htk.symm,hx10⟩,⟨rfl,rfl,rfl,rfl,rfl,trivial⟩⟩
   · intro hc
     have hc : ¬ x.1 ∈ tg := by simpa using hc
     rw [if_neg hc,Int.add_zero] at htk
     (conv=>whnf);repeat(refine Sg ?_;(conv=>whnf))
     refine ⟨_,wrap_succ (by omega),?_⟩; (conv=>whnf);repeat(refine Sg ?_;(conv=>whnf))
     exact ⟨(k + 1,t),by simp only; omega,⟨by simp only; omega,htk.symm,hx10⟩,⟨rfl,rfl,rfl,rfl,rfl,trivial⟩⟩
 · intro hge
   have hge : F.length ≤ k := by simpa using hge
   rw [List.take_of_length_le hge] at ht
   rw [← ht]
   conv=>whnf
   refine (Qkc _ w8).mono ?_
   rintro _ _ ⟨rfl,rfl⟩;conv=>whnf
   exact ⟨rfl,(hx4.trans hx5).trans ((hx6.trans hx7).trans hx8)⟩
theorem Qqe {w:World} {T:Nat → Prop} {p:Nat} {c:Cfg} {z:List Ev} {v:Value} (h:WQ w T p c z v) (person item:ByteArray) (now:Int) :
 Cal Tryz.prog 118 [.pointer (some ⟨p,0,none⟩),.string person,.string item,.int .i64 now] w fun r w' => r = .int .i64 (Qsf c z person item now 4) ∧ Ext w w' := by
 have hit := Qhp c z h.rise item now
 have hrs := Qj2 c.width z h.rise h.may
 have hrl := Q3o c.width z
 have hzl := h.len
 have hev := (Qbx c.width z).2
 have hrw : Qsf c z person item now 4 = if (Qgp z item now).listed = true ∧ Qt1 z person (Qgp z item now).maker = true then 1048576 else 0 := by
  unfold Qsf; rw [if_neg (by decide),if_neg (by decide),if_neg (by decide),if_neg (by decide),if_pos rfl]
 have hfol : ∀ maker,(decide (maker ∈ Xz ((Qax (Xt (Qm c.width z).rs).follows person (hist (evs (Qm c.width z).rs) person)).map (·.1)))) = Qt1 z person maker := fun maker => by
  rw [Bool.eq_iff_iff,decide_eq_true_eq,Qk7,Q4h,hev,Qvz]
 rw [hrw]
 have hfl : (Xz ((Qax (Xt (Qm c.width z).rs).follows person (hist (evs (Qm c.width z).rs) person)).map (·.1))).length < 1000000 := by
  rw [Qek,List.length_map]
  have h1 : ∀ (fl:List (LK × Bool)) (hh:List Ev),(Qax fl person hh).length ≤ hh.length := fun fl => by
   refine Qv (by simp [Qax]) fun hh e ih => ?_
   rw [Qer]
   split
   · have := Qeo e.text true (Qax fl person hh)
     simp; omega
   · simp; omega
  have h2 := h1 (Xt (Qm c.width z).rs).follows (hist (evs (Qm c.width z).rs) person)
  have h3 : (hist (evs (Qm c.width z).rs) person).length ≤ (evs (Qm c.width z).rs).length := List.length_filter_le _ _
  have h4 : (evs (Qm c.width z).rs).length = (Qm c.width z).rs.length := List.length_map _
  omega
 refine Fi Tryz.func118 rfl _ rfl rfl ?_;conv=>whnf
 refine (Xu h).mono ?_
 rintro _ w1 ⟨pc,S,rfl,hcat,hx1⟩;conv=>whnf
 refine (Xa _ S pc _ hcat item now h.rows).mono ?_
 rintro _ w2 ⟨rfl,hx2⟩
 rw [hit]
 generalize Qgp z item now = it
 conv=>whnf
 intro b3 w3 hn3;conv=>whnf
 refine Qc Qa (e := ty187) rfl hn3.At rfl rfl rfl (by simp [Qg,itC,Value.oneCell']) fun w4 h4 ho4 => ?_
 have e3 := hn3.block
 have hx4 : Ext w w4 := ho4.ext ((hx1.trans hx2).trans hn3.ext) (by have := (hx1.trans hx2).size; omega)
 have h4 : At w4 b3 187 (itC it) := h4
 clear ho4
 conv=>whnf
 repeat(refine Sg ?_;(conv=>whnf))
 refine Dr .ext [0,1,2,3,5,7,8,4,6] [9,10] ?_;conv=>whnf
 refine ⟨.bool it.listed,h4.one rfl,?_⟩;conv=>whnf
 refine ⟨.string it.maker,fun _ => h4.one rfl,?_⟩;conv=>whnf
 replace hx4 := hx4.drew
 refine ⟨Nat,fun pw => .pointer (some ⟨pw,0,none⟩),fun pw w' => (∃ S,Qam w' S pw (Q7 c.half) (Qm c.width z).rs) ∧ Ext w4.drew w',0,fun _ => (Qb4 (h.ext hx4)).mono fun r w' hh => ?_,?_⟩
 · obtain ⟨pw,S,h1,h2,h3⟩ := hh
   exact ⟨pw,h1,⟨S,h2⟩,h3⟩
 intro pw w5 h5
 have hx5 : Ext w4.drew w5 := by
  rcases h5 with ⟨_,hh⟩ | ⟨_,hh⟩
  · exact hh.2
  · rw [hh]; exact Ext.refl _
 have hcr : it.listed = true → ∃ S,Qam w5 S pw (Q7 c.half) (Qm c.width z).rs := fun hl => by
  rcases h5 with ⟨_,hh⟩ | ⟨hg,_⟩
  · exact hh.1
  · exact (hg ⟨hl,trivial⟩).elim
 clear h5
 refine ⟨hx5,?_⟩
 have hmk : ∀ (S:Nat → Prop),Qam w5 S pw (Q7 c.half) (Qm c.width z).rs → _ := fun S hc => Qr5 w5 S pw _ _ hc (fun r hr => (hrs r hr).1) (by omega) person
 generalize Xz ((Qax (Xt (Qm c.width z).rs).follows person (hist (evs (Qm c.width z).rs) person)).map (·.1)) = M at hfol hfl hmk
 conv=>whnf
 refine ⟨Option Addr × Nat,fun q => .slice q.1 M.length q.2,fun q w' => SlT w' q.1 M ∧ Ext w5 w',(none,0),fun hg => ?_,?_⟩
 · obtain ⟨S,hc⟩ := hcr hg
   refine (hmk S hc).mono ?_
   rintro r w' ⟨A,c6,hr,ho,hx⟩
   exact ⟨(A,c6),hr,ho.sl Qav,hx⟩
 rintro ⟨A,c6⟩ w6 h6
 have hx6 : Ext w5 w6 := by
  rcases h6 with ⟨_,hh⟩ | ⟨_,hh⟩
  · exact hh.2
  · rw [hh]; exact Ext.refl _
 have hs6 : it.listed = true → SlT w6 A M := fun hl => by
  rcases h6 with ⟨_,hh⟩ | ⟨hg,_⟩
  · exact hh.1
  · exact (hg ⟨hl,trivial⟩).elim
 clear h6
 have hct : it.listed = true → Cal Tryz.prog 110 [.slice A M.length c6,.string it.maker] w6 fun r w' => r = .bool (Qt1 z person it.maker) ∧ Ext w6 w' := fun hl => (Qd1 M A c6 it.maker w6 (hs6 hl) hfl).mono fun r w' hh => ⟨by rw [hh.1,hfol],by rw [hh.2]; exact Ext.refl _⟩
 refine ⟨hx6,?_⟩
 conv=>whnf
 refine ⟨Unit,fun _ => (.bool (Qt1 z person it.maker)),fun _ w' => Ext w6 w',(),fun hg => ((hct hg)).mono fun r w' h => ⟨(),h.1,h.2⟩,?_⟩
 intro _ w7 h2
 have hx7 : Ext w6 w7 := by
  rcases h2 with ⟨_,h⟩ | ⟨_,h⟩
  · exact h
  · rw [h]; exact Ext.refl _
 clear h2
 conv=>whnf
 constructor
 · intro hc
   have hc : it.listed = true ∧ Qt1 z person it.maker = true := by simpa using hc
   conv=>whnf
   exact ⟨by rw [if_pos hc],(hx4.trans hx5).trans (hx6.trans hx7)⟩
 intro hc
 have hc : ¬ (it.listed = true ∧ Qt1 z person it.maker = true) := by
  have hc : (it.listed && Qt1 z person it.maker) = false := hc
  simpa using hc
 conv=>whnf
 exact ⟨by rw [if_neg hc],(hx4.trans hx5).trans (hx6.trans hx7)⟩
theorem Q69 (width:Int) {z:List Ev} (hm:∀ e ∈ z,Xy e = true) (hz:z.length < 100000) : Q5w (Qxp width (z.filter wpB)) 10000000 := by
 have hc := Qgb width z hm
 have hps := (Qjd width z).2.1
 have h1 := hc.ps
 have h2 := hc.pl
 rw [hps] at h1 h2
 exact ⟨Q4w width _,Qeh h1 (by omega),by omega,by omega,by omega⟩
theorem Q68 (width:Int) {z:List Ev} (hm:∀ e ∈ z,Xy e = true) (hz:z.length < 100000) (key:ByteArray) (lo hi:Int) : paS (Qxp width (z.filter wpB)) key lo hi ≤ 10000000 := by
 have hl := List.length_filter_le wpB z
 rw [Q3j width key lo hi _ fun e he => (List.mem_filter.1 he).2]
 have := (Q2b (Q3v hm) width key lo hi).2
 omega
set_option maxHeartbeats 1000000 in
theorem Qsx {w:World} {T:Nat → Prop} {p:Nat} {c:Cfg} {z:List Ev} {v:Value} (h:WQ w T p c z v) (hcf:Qrk c = true) (hz:z.length < 100000) (person item:ByteArray) (now:Int) (hn:0 ≤ now ∧ now ≤ 1099511627776) :
 Cal Tryz.prog 117 [.pointer (some ⟨p,0,none⟩),.string person,.string item,.int .i64 now] w fun r w' => r = .int .i64 (Qsf c z person item now 3) ∧ Ext w w' := by
 obtain ⟨c1,c2,c3,c4,c5,c6,c7⟩ := Q50 hcf
 have hwid := Q4o c2
 have ok := Q69 c.width h.may hz
 have hle := Q68 c.width h.may hz
 have hsum := fun key lo hi => Q3j c.width key lo hi (z.filter wpB) fun e he => (List.mem_filter.1 he).2
 have hrw : Qsf c z person item now 3 = Qwm c (paE (z.filter wpB) c.width item ((Qn5 c now - c.span) / Q7 c.width) (Qn5 c now / Q7 c.width)) (paE (z.filter wpB) c.width item ((Qn5 c now - 2 * c.span) / Q7 c.width) ((Qn5 c now - c.span) / Q7 c.width)) := by
  unfold Qsf; rw [if_neg (by decide),if_neg (by decide),if_neg (by decide),if_pos rfl]
 rw [hrw,← hsum,← hsum]
 unfold Qn5
 refine Fi Tryz.func117 rfl _ rfl rfl ?_;conv=>whnf
 refine (Qfk h).mono ?_
 rintro _ w1 ⟨rfl,hx1⟩;conv=>whnf
 intro b2 w2 hn2;conv=>whnf
 refine Qc Qa (e := ty25) rfl hn2.At rfl rfl rfl (by simp [Qg,Q5m,Qo6,Value.oneCell']) fun w3 h3 ho3 => ?_
 have e2 := hn2.block
 have hx3 : Ext w w3 := ho3.ext (hx1.trans hn2.ext) (by have := hx1.size; omega)
 have h3 : At w3 b2 25 (Qo6 c) := h3
 clear ho3
 conv=>whnf
 refine Dr .ext [0,2,3,4,5,6,9,1,7,8] [] ?_;conv=>whnf
 refine ⟨_,h3.one rfl,?_⟩;conv=>whnf
 refine ⟨_,h3.one rfl,?_⟩;conv=>whnf
 replace hx3 := hx3.drew
 refine (Qse (h.ext hx3)).mono ?_
 rintro _ w4 ⟨pp,S,rfl,hpa,hx4⟩
 rw [(Qjd c.width z).2.1] at hpa
 refine ⟨hx4,?_⟩;conv=>whnf
 refine (Qsi w4 S pp (Q7 c.width) _ _ hpa (by omega) ok hle c.span now c.floor c3 (by rw [hwid]; exact c4) hn).mono ?_
 rintro _ w5 ⟨A5,cc5,F,rfl,hF,hs5,hx5⟩
 refine ⟨hx5,?_⟩
 have hps := fun key lo hi => (Qkv ok.small ok.N0 key lo hi).1
 have hkp := fun (lo hi:Int) => Qyt ok.small (key := item) (lo := lo) (hi := hi)
 have hKl := fun lo hi => Qpr (Qxp c.width (z.filter wpB)) lo hi
 have hslen := ok.len
 generalize Qxp c.width (z.filter wpB) = s at *
 generalize (now - now.tmod (Q7 c.width) - 2 * c.span) / Q7 c.width = l1 at *
 generalize (now - now.tmod (Q7 c.width) - c.span) / Q7 c.width = l2 at *
 generalize (now - now.tmod (Q7 c.width)) / Q7 c.width = l3 at *
 have hmem : ∀ x ∈ F,Q08 x ∧ c.floor ≤ x.2.1 ∧ x.1 ∈ Qfd s l2 l3 ∧ x = Q4y s l1 l2 l3 x.1 := fun x hx => by
  have hx := hF.mem_iff.1 hx
  unfold Qge at hx
  obtain ⟨hx1,hx2⟩ := List.mem_filter.1 hx
  obtain ⟨key,hk,rfl⟩ := List.mem_map.1 hx1
  exact ⟨⟨⟨hps _ _ _,hle _ _ _⟩,⟨hps _ _ _,hle _ _ _⟩⟩,by simpa using hx2,hk,rfl⟩
 have hin : item ∈ Qfd s l2 l3 → c.floor ≤ paS s item l2 l3 → Q4y s l1 l2 l3 item ∈ F := fun h1 h2 => by
  refine hF.mem_iff.2 ?_
  unfold Qge
  exact List.mem_filter.2 ⟨List.mem_map.2 ⟨item,h1,rfl⟩,decide_eq_true h2⟩
 have hFl : F.length < 1000000 := by
  have h1 := hF.length_eq
  have h2 : (Qge s l1 l2 l3 c.floor (Qfd s l2 l3)).length ≤ (Qfd s l2 l3).length := by
   unfold Qge
   refine Nat.le_trans (List.length_filter_le _ _) ?_
   rw [List.length_map]
   exact Nat.le_refl _
  have h3 := hKl l2 l3
  omega
 clear hF hKl
 conv=>whnf
 refine Qj Qa (fun (k:Nat) w' => k ≤ F.length ∧ (∀ x ∈ F.take k,x.1 ≠ item) ∧ Ext w5 w') (fun k => [(2,.string item),(24,.slice A5 F.length cc5),(25,.int .i64 F.length),(26,.int .i64 (k:Nat))]) (fun k => F.length - k) 0 ⟨Nat.zero_le _,by simp,Ext.refl _⟩ ⟨rfl,rfl,rfl,rfl,trivial⟩ ?_
 rintro k w6 ⟨hk,hno,hx6⟩
 have hx := hx3.trans (hx4.trans (hx5.trans hx6))
 conv=>whnf
 constructor
 · intro hlt
   have hlt : k < F.length := by simpa using hlt
   obtain ⟨a7,hA7,hc7⟩ := (hs5.ext hx6).get hlt
   subst hA7
   have htk : ∀ y ∈ F.take (k + 1),y.1 ≠ item ∨ y = F[k] := fun y hy => by
    rw [List.take_succ_eq_append_getElem hlt] at hy
    rcases List.mem_append.1 hy with hy | hy
    · exact .inl (hno y hy)
    · exact .inr (by simpa using hy)
   obtain ⟨m1,m2,m3,m4⟩ := hmem F[k] (List.getElem_mem hlt)
   generalize F[k] = x at hc7 htk m1 m2 m3 m4
   (conv=>whnf);repeat(refine Sg ?_;(conv=>whnf))
   refine ⟨a7,⟨rfl,by omega,by omega⟩,?_⟩; (conv=>whnf);repeat(refine Sg ?_;(conv=>whnf))
   refine ⟨riC x,⟨rfl,hc7⟩,?_⟩; (conv=>whnf);repeat(refine Sg ?_;(conv=>whnf))
   intro b8 w8 hn8; (conv=>whnf);repeat(refine Sg ?_;(conv=>whnf))
   refine Qc Qa (e := ty280) rfl hn8.At rfl rfl rfl (Qsh x) fun w9 h9 ho9 => ?_
   have h9 : At w9 b8 280 (riC x) := h9
   have e8 := hn8.block
   have hx69 : Ext w6 w9 := ho9.ext hn8.ext (by omega)
   clear ho9 hn8
   (conv=>whnf);repeat(refine Sg ?_;(conv=>whnf))
   refine ⟨.string x.1,h9.one rfl,?_⟩; (conv=>whnf);repeat(refine Sg ?_;(conv=>whnf))
   constructor
   · intro hc
     have hc : x.1 ≠ item := by simpa using hc
     (conv=>whnf);repeat(refine Sg ?_;(conv=>whnf))
     refine ⟨_,wrap_succ (by omega),?_⟩; (conv=>whnf);repeat(refine Sg ?_;(conv=>whnf))
     refine ⟨k + 1,by omega,⟨by omega,fun y hy => ?_,hx6.trans hx69⟩,⟨rfl,rfl,rfl,rfl,trivial⟩⟩
     rcases htk y hy with h | h
     · exact h
     · rw [h]; exact hc
   · intro hc
     have hc : x.1 = item := by simpa using hc
     have hpos := (hkp l2 l3).1 (hc ▸ m3)
     have hx21 : x.2.1 = paS s item l2 l3 := by rw [m4,hc]; rfl
     have hx22 : x.2.2 = paS s item l1 l2 := by rw [m4,hc]; rfl
     have hval : Qwm c (paS s item l2 l3) (paS s item l1 l2) = min (1048576 * (riR x).1 / (riR x).2) 1099511627776 := by
      unfold Qwm riR
      simp only
      rw [hx21] at m2
      rw [if_neg (by omega),hx21,hx22,Int.mul_comm]
     rw [hval]
     have hro := Qzu m1
     (conv=>whnf);repeat(refine Sg ?_;(conv=>whnf))
     refine ⟨riC x,⟨rfl,h9.all⟩,?_⟩; (conv=>whnf);repeat(refine Sg ?_;(conv=>whnf))
     refine (Qgt x m1 w9).mono ?_
     rintro _ w10 ⟨rfl,hg10⟩
     generalize riR x = q at hro
     (conv=>whnf);repeat(refine Sg ?_;(conv=>whnf))
     intro b11 w11 hn11; (conv=>whnf);repeat(refine Sg ?_;(conv=>whnf))
     refine Qc Qa (e := ty221) rfl hn11.At rfl rfl rfl (Qn8 q) fun w12 h12 ho12 => ?_
     have h12 : At w12 b11 221 (Qqa q) := h12
     have e11 := hn11.block
     have hx12 : Ext w10 w12 := ho12.ext hn11.ext (by omega)
     clear ho12 hn11
     (conv=>whnf);repeat(refine Sg ?_;(conv=>whnf))
     refine ⟨.int .i64 q.1,h12.one rfl,?_⟩; (conv=>whnf);repeat(refine Sg ?_;(conv=>whnf))
     refine ⟨.int .i64 q.2,h12.one rfl,?_⟩; (conv=>whnf);repeat(refine Sg ?_;(conv=>whnf))
     refine (Qmp (N := 100000000) (by omega) 1048576 ⟨by omega,by omega⟩ q hro w12).mono ?_
     rintro _ w13 ⟨rfl,hx13⟩; (conv=>whnf);repeat(refine Sg ?_;(conv=>whnf))
     constructor
     · intro hh; cases hh
     intro _
     (conv=>whnf);repeat(refine Sg ?_;(conv=>whnf))
     refine (Qkc _ w13).mono ?_
     rintro _ _ ⟨rfl,rfl⟩; (conv=>whnf);repeat(refine Sg ?_;(conv=>whnf))
     exact ⟨rfl,hx.trans (hx69.trans (hg10.ext.trans (hx12.trans hx13)))⟩
 · intro hge
   have hge : F.length ≤ k := by simpa using hge
   rw [List.take_of_length_le hge] at hno
   have hval : Qwm c (paS s item l2 l3) (paS s item l1 l2) = 0 := by
    unfold Qwm
    rw [if_pos]
    by_cases h1 : item ∈ Qfd s l2 l3
    · by_cases h2 : c.floor ≤ paS s item l2 l3
      · exact absurd rfl (hno _ (hin h1 h2))
      · exact .inr (by omega)
    · have := hps item l2 l3
      have h2 : ¬ 0 < paS s item l2 l3 := fun h => h1 ((hkp l2 l3).2 h)
      exact .inl (by omega)
   rw [hval]
   conv=>whnf
   exact ⟨rfl,hx⟩
def Q4x (c:Cfg) (z:List Ev) (person item:ByteArray) (now x:Int) : Int := if 0 ≤ x ∧ x < 6 ∧ 0 ≤ now ∧ now ≤ 1099511627776 then Qsf c z person item now x.toNat else 0
theorem Qyp {z:List Ev} (hm:∀ e ∈ z,Xy e = true) (item:ByteArray) (now:Int) : 0 ≤ (Qgp z item now).born ∧ (Qgp z item now).born ≤ 1099511627776 := by
 have h : ∀ es : List Ev,(∀ e ∈ es,Xy e = true) → 0 ≤ (Qlv item es).item.born ∧ (Qlv item es).item.born ≤ 1099511627776 := by
  refine Qv (fun _ => by simp [Qlv,Qgg,Qcn]) fun es e ih hm => ?_
  have ih := ih fun x hx => hm x (by simp [hx])
  have he := Qy8 (hm e (by simp))
  rw [Qf6]
  unfold Qbt
  split
  · simp only
    split
    · exact ih
    · exact he
  · split
    · exact ih
    · exact ih
 unfold Qgp Qnl
 split
 · simp [Qcn]
 · exact h _ fun e he => Qcl hm e (List.mem_filter.1 he).1
structure Q3z (c:Cfg) (z:List Ev) : Prop where
 cfg : Qrk c = true
 len : z.length < 1000
theorem Qhu {w:World} {T:Nat → Prop} {p:Nat} {c:Cfg} {z:List Ev} (h:WT w T p c z) (hok:Q3z c z) (hg:Gl w) (person item:ByteArray) (now x:Int) :
 Cal Tryz.prog 12 [.pointer (some ⟨p,0,none⟩),.int .i64 x,.string person,.string item,.int .i64 now] w fun r w' => r = .int .i64 (Q4x c z person item now x) ∧ Mod T w w' ∧ ∃ T',WT w' T' p c z ∧ ∀ k,T' k → T k ∨ w.heap.size ≤ k := by
 have hlen := hok.len
 obtain ⟨v0,T0,hQ,hT0,_,_⟩ := id h
 have hfin : ∀ {w1:World},Ext w w1 → Mod T w w1 ∧ ∃ T',WT w1 T' p c z ∧ ∀ k,T' k → T k ∨ w.heap.size ≤ k := fun hx => ⟨Mod.of_ext hx,T,h.ext hx,fun k hk => .inl hk⟩
 refine Fi Tryz.func12 rfl _ rfl rfl ?_;conv=>whnf
 refine (Qsv w).mono ?_
 rintro _ w1 ⟨rfl,hx1⟩;conv=>whnf
 intro b2 w2 hn2;conv=>whnf
 refine Qc Qa (e := ty118) rfl hn2.At rfl rfl rfl (by simp [Qg,Q52,Value.oneCell']) fun w3 h3 ho3 => ?_
 have h3 : At w3 b2 118 Q52 := h3
 have e2 := hn2.block
 have hx3 : Ext w w3 := ho3.ext (hx1.trans hn2.ext) (by have := hx1.size; omega)
 clear ho3 hn2
 conv=>whnf
 constructor
 · intro hc
   have hc : ¬ (0 ≤ x ∧ x < 6 ∧ 0 ≤ now ∧ now ≤ 1099511627776) := by
    simp at hc
    omega
   conv=>whnf
   exact ⟨by unfold Q4x; rw [if_neg hc],hfin hx3⟩
 intro hc
 have hc : 0 ≤ x ∧ x < 6 ∧ 0 ≤ now ∧ now ≤ 1099511627776 := by
  simp at hc
  omega
 have hrx : Q4x c z person item now x = Qsf c z person item now x.toNat := by unfold Q4x; rw [if_pos hc]
 rw [hrx]
 obtain ⟨hx0,hx6,hnow⟩ := hc
 conv=>whnf
 refine ⟨⟨by omega,by omega⟩,?_⟩;conv=>whnf
 obtain ⟨k,rfl⟩ : ∃ k : Nat,x = k := ⟨x.toNat,by omega⟩
 rw [Int.toNat_natCast]
 rcases k with _ | _ | _ | _ | _ | _ | k
 · refine ⟨.func (.func 114) #[] #[],h3.one rfl,?_⟩;conv=>whnf
   refine (Qoi (hQ.ext hx3) person item now hnow).mono ?_
   rintro _ w4 ⟨rfl,hx4⟩;conv=>whnf
   exact ⟨rfl,hfin (hx3.trans hx4)⟩
 · refine ⟨.func (.func 115) #[] #[],h3.one rfl,?_⟩;conv=>whnf
   refine (Qs2 (hQ.ext hx3) (hg.ext hx3) (by omega) person item now hnow).mono ?_
   rintro _ w4 ⟨rfl,hx4⟩;conv=>whnf
   exact ⟨rfl,hfin (hx3.trans hx4)⟩
 · refine ⟨.func (.func 116) #[] #[],h3.one rfl,?_⟩;conv=>whnf
   refine (Qza (h.ext hx3) (Q5k c z hQ.may hok.len) person item now).mono ?_
   rintro _ w4 ⟨rfl,hM4,T',hW4,hT4⟩;conv=>whnf
   refine ⟨?_,(Mod.of_ext hx3).trans hM4,T',hW4,fun k hk => ?_⟩
   · unfold Qsf; rw [if_neg (by decide),if_neg (by decide),if_pos rfl]
   · rcases hT4 k hk with h | h
     · exact .inl h
     · exact .inr (by have := hx3.size; omega)
 · refine ⟨.func (.func 117) #[] #[],h3.one rfl,?_⟩;conv=>whnf
   refine (Qsx (hQ.ext hx3) hok.cfg (by omega) person item now hnow).mono ?_
   rintro _ w4 ⟨rfl,hx4⟩;conv=>whnf
   exact ⟨rfl,hfin (hx3.trans hx4)⟩
 · refine ⟨.func (.func 118) #[] #[],h3.one rfl,?_⟩;conv=>whnf
   refine (Qqe (hQ.ext hx3) person item now).mono ?_
   rintro _ w4 ⟨rfl,hx4⟩;conv=>whnf
   exact ⟨rfl,hfin (hx3.trans hx4)⟩
 · refine ⟨.func (.func 119) #[] #[],h3.one rfl,?_⟩;conv=>whnf
   have hb := Qyp hQ.may item now
   rw [← Qhp c z hQ.rise item now] at hb
   refine (Qv0 (hQ.ext hx3) person item now hnow hb).mono ?_
   rintro _ w4 ⟨rfl,hx4⟩;conv=>whnf
   refine ⟨?_,hfin (hx3.trans hx4)⟩
   rw [Qhp c z hQ.rise item now]
   rfl
 · omega
end Go.Proofs.YtopncieoolkhjaaGreatDoor
