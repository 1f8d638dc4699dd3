/- Several texts in one: SkC, Gt1, Sc2, Sc3, Sc4, Sc5, Sc6. -/
import Derived.Test.YtopncieoolkhjaaGreatDoorGN
import Derived.Test.YtopncieoolkhjaaGreatDoorGI
import Derived.Test.YtopncieoolkhjaaGreatDoorHSfCount
import Derived.Test.YtopncieoolkhjaaGreatDoorGH
import Derived.Test.YtopncieoolkhjaaGreatDoorHSfRise
import Derived.Test.YtopncieoolkhjaaGreatDoorGC
set_option linter.unusedVariables false
set_option linter.unusedSimpArgs false
namespace Go.Proofs.YtopncieoolkhjaaGreatDoor
open Go.Se Go.RowKit Go.Sort
theorem Qkf (a:ByteArray) (w:World) : Cal Tryz.prog 148 [.string a] w fun r w' => r = .bool false ∧ w' = w := by
 refine Fi Tryz.func148 rfl _ rfl rfl ?_;conv=>whnf
 exact ⟨by simp,rfl⟩
theorem Qj1 (a b:ByteArray) (w:World) : Cal Tryz.prog 87 [.string a,.string b] w fun r w' => r = .int .i64 (Qf8 a b) ∧ w' = w := by
 refine Fi Tryz.func87 rfl _ rfl rfl ?_;conv=>whnf
 refine (Qkf a w).mono ?_
 rintro _ _ ⟨rfl,rfl⟩
 conv=>whnf
 refine (Qkf b _).mono ?_
 rintro _ _ ⟨rfl,rfl⟩
 conv=>whnf
 constructor
 · intro h; cases h
 intro _
 conv=>whnf
 constructor
 · intro h; cases h
 intro _
 conv=>whnf
 constructor
 · intro h
   have h : bLt a b = true := h
   conv=>whnf
   exact ⟨by unfold Qf8; rw [if_pos h],rfl⟩
 intro h
 have h : bLt a b = false := h
 conv=>whnf
 constructor
 · intro k
   have k : bLt b a = true := by
    have k : (!(bLt a b || decide (a = b))) = true := k
    cases hh : bLt b a with
    | true => rfl
    | false =>
      have := Qbw h hh
      subst this
      simp at k
   conv=>whnf
   exact ⟨by unfold Qf8; rw [h,if_neg (by simp),if_pos k],rfl⟩
 intro k
 have k : bLt b a = false := by
  have k : (!(bLt a b || decide (a = b))) = false := k
  rw [h] at k
  have : a = b := by simpa using k
  subst this
  exact h
 conv=>whnf
 exact ⟨by unfold Qf8; rw [h,k,if_neg (by simp),if_neg (by simp)],rfl⟩
theorem Qke (a:Int) (w:World) : Cal Tryz.prog 147 [.int .i64 a] w fun r w' => r = .bool false ∧ w' = w := by
 refine Fi Tryz.func147 rfl _ rfl rfl ?_;conv=>whnf
 exact ⟨by simp,rfl⟩
theorem Ql7 (a b:Int) (w:World) : Cal Tryz.prog 86 [.int .i64 a,.int .i64 b] w fun r w' => r = .int .i64 (Qey a b) ∧ w' = w := by
 refine Fi Tryz.func86 rfl _ rfl rfl ?_;conv=>whnf
 refine (Qke a w).mono ?_
 rintro _ _ ⟨rfl,rfl⟩
 conv=>whnf
 refine (Qke b _).mono ?_
 rintro _ _ ⟨rfl,rfl⟩
 conv=>whnf
 constructor
 · intro h; cases h
 intro _
 conv=>whnf
 constructor
 · intro h; cases h
 intro _
 conv=>whnf
 constructor
 · intro h
   have h : a < b := by simpa using h
   conv=>whnf
   exact ⟨by unfold Qey; rw [if_pos h],rfl⟩
 intro h
 have h : ¬ a < b := by simpa using h
 conv=>whnf
 constructor
 · intro k
   have k : b < a := by simpa using k
   conv=>whnf
   exact ⟨by unfold Qey; rw [if_neg h,if_pos k],rfl⟩
 intro k
 have k : ¬ b < a := by simpa using k
 conv=>whnf
 exact ⟨by unfold Qey; rw [if_neg h,if_neg k],rfl⟩
def Q1m (a b:Ct) : Int := orL [Qey b.2 a.2,Qf8 a.1 b.1]
theorem Qvk (a b:Ct) (w:World) : Cal Tryz.prog 84 [.agg (Qxl a).toArray,.agg (Qxl b).toArray] w fun r w' => r = .int .i64 (Q1m a b) ∧ Gr w w' := by
 refine Fi Tryz.func84 rfl _ rfl rfl ?_;conv=>whnf
 intro b1 w1 hn1;conv=>whnf
 intro b2 w2 hn2
 have h1 := hn1.At.ext hn2.ext
 have h2 := hn2.At
 have hx := (Qff hn1).trans ((Qff hn2).trans (Gr.drew w2))
 conv=>whnf
 refine Dr .ext [0,1,2,3,5,6,7,8,4] [9,10,11,12] ?_;conv=>whnf
 replace h1 : At w2.drew b1 _ _ := h1
 replace h2 : At w2.drew b2 _ _ := h2
 generalize w2.drew = w3 at h1 h2 hx ⊢
 refine ⟨_,h2.one rfl,?_⟩;conv=>whnf
 refine ⟨_,h1.one rfl,?_⟩;conv=>whnf
 refine ⟨_,h1.one rfl,?_⟩;conv=>whnf
 refine ⟨_,h2.one rfl,?_⟩;conv=>whnf
 refine (Ql7 _ _ _).mono ?_; rintro _ _ ⟨rfl,rfl⟩
 refine ⟨Ext.refl _,?_⟩;conv=>whnf
 refine (Qj1 _ _ _).mono ?_; rintro _ _ ⟨rfl,rfl⟩;conv=>whnf
 intro b6 w6 hn6;conv=>whnf
 refine (Qr9 [Qey b.2 a.2,Qf8 a.1 b.1] _ _ _ (Qdw (enc := Qjh) Qa8 hn6) (by simp)).mono ?_
 rintro _ _ ⟨rfl,rfl⟩;conv=>whnf
 exact ⟨rfl,hx.trans (Qff hn6)⟩
def Q3f (a b:Ct) : Bool := decide (b.2 < a.2) || (decide (a.2 = b.2) && bLt a.1 b.1)
theorem Qy4 : ltOf Q1m = Q3f := by
 funext a b
 unfold ltOf Q1m Q3f orL Qey Qf8
 rcases Int.lt_trichotomy b.2 a.2 with h | h | h
 · simp [h]
 · rw [h]
   cases h1 : bLt a.1 b.1 <;> cases h2 : bLt b.1 a.1 <;> simp
 · have h1 : ¬ b.2 < a.2 := by omega
   have h2 : ¬ a.2 = b.2 := by omega
   simp [h,h1,h2]
theorem Qud {a b:Ct} : Q3f a b = true ↔ b.2 < a.2 ∨ (a.2 = b.2 ∧ bLt a.1 b.1 = true) := by simp [Q3f]
theorem Que {a b:Ct} : Q3f a b = false ↔ ¬ b.2 < a.2 ∧ (a.2 = b.2 → bLt a.1 b.1 = false) := by
 rw [← Bool.not_eq_true,Qud]
 constructor
 · intro h
   refine ⟨fun h1 => h (.inl h1),fun h1 => ?_⟩
   cases hb : bLt a.1 b.1 with
   | false => rfl
   | true => exact absurd (.inr ⟨h1,hb⟩) h
 · rintro ⟨h1,h2⟩ (h3 | ⟨h3,h4⟩)
   · exact h1 h3
   · rw [h2 h3] at h4; cases h4
theorem Q13 : Go.Sort.SWO Q3f where
 irrefl x := by rw [Que]; exact ⟨by omega,fun _ => Xm _⟩
 trans x y z h k := by
  rw [Qud] at *
  rcases h with h | ⟨h,h'⟩ <;> rcases k with k | ⟨k,k'⟩
  · exact .inl (by omega)
  · exact .inl (by omega)
  · exact .inl (by omega)
  · exact .inr ⟨by omega,Qa6 h' k'⟩
 ntrans x y z h k := by
  rw [Que] at *
  refine ⟨by omega,fun he => ?_⟩
  have h1 := h.1
  have k1 := k.1
  exact Ql3 (h.2 (by omega)) (k.2 (by omega))
theorem Qsr (l:List Ct) (A:Option Addr) (c base:Nat) (w:World) (hown:Own Qxl 2 193 base w A c l) (hl:l.length < 1000000) :
 Cal Tryz.prog 83 [.slice A l.length c,.func (.func 84) #[] #[]] w fun r w' => r = .tuple #[] ∧ ∃ F,F.Perm l ∧ Srt Q3f F ∧ Sl Qxl 2 w' A F ∧ ∀ w0,Ext w0 w → w0.heap.size ≤ base → Ext w0 w' := by
 have := Qqk Tryz.sortCount (by decide) Tryz.isAgg193 Tryz.sizeOf193 Qtt Qm9 Q1m (by rw [Qy4]; exact Q13) ⟨_,Tryz.func83,rfl,rfl⟩ (enters_of Tryz.func84 (by kernel_rfl) rfl) l A c base w hown hl (fun x y w' _ => Qvk x y w') (cb := #[])
 rw [Qy4] at this
 exact this
end Go.Proofs.YtopncieoolkhjaaGreatDoor
namespace Go.Proofs.YtopncieoolkhjaaGreatDoor
open Go.Se Go.RowKit
theorem Q5f : Tryz.prog.underlying 194 = some (.map 9 2) := by kernel_rfl
theorem Q3e {α:Type} (f:α → Nat) : ∀ {l:List α} {x:α},x ∈ l → f x ≤ (l.map f).sum
 | [],x,h => by simp at h
 | a :: l,x,h => by
   simp only [List.map_cons,List.sum_cons]
   rcases List.mem_cons.1 h with rfl | h
   · omega
   · have := Q3e f h; omega
set_option maxHeartbeats 1000000 in
theorem Qxa (w:World) (S:Nat → Prop) (p:Nat) (half:Int) (rs:List Row) (h:Qam w S p half rs) (person:ByteArray) (now:Int) (hnow:now ≤ 4611686018427387904) (hm:∀ r ∈ rs,Xy r.1 = true ∧ 0 ≤ r.1.at_) (hl:(rs.map fun r => r.2.length).sum < 1000000) (hl2:rs.length < 1000000) :
 Cal Tryz.prog 45 [.pointer (some ⟨p,0,none⟩),.string person,.int .i64 now] w fun r w' => ∃ A c F,r = .slice A F.length c ∧ F.Perm (Q5t half now (rowsOf rs person)) ∧ Srt Q3f F ∧ Sl Qxl 2 w' A F ∧ Ext w w' := by
 obtain ⟨bp,b,D,L,R,Tg,h⟩ := h
 have hT := Qlh person h.tags
 have hown := (h.rows.own person).1
 have hsl0 := hown.sl Qe9
 have hmp : ∀ r ∈ rowsOf rs person,Xy r.1 = true ∧ 0 ≤ r.1.at_ := fun r hr => hm r (List.mem_filter.1 hr).1
 have hsum : ((rowsOf rs person).map fun r => r.2.length).sum < 1000000 := by
  have : ∀ l : List Row,((rowsOf l person).map fun r => r.2.length).sum ≤ (l.map fun r => r.2.length).sum := by
   intro l
   induction l with
   | nil => simp [rowsOf]
   | cons a l ih =>
     unfold rowsOf at *
     simp only [List.filter_cons]
     split
     · simp only [List.map_cons,List.sum_cons]; omega
     · simp only [List.map_cons,List.sum_cons]; omega
  have := this rs
  omega
 have hrl : (rowsOf rs person).length ≤ rs.length := List.length_filter_le _ _
 refine Fi Tryz.func45 rfl _ rfl rfl ?_;conv=>whnf
 intro b1 w1 hn1; (conv=>whnf);repeat(refine Sg ?_;(conv=>whnf))
 have hm1 : MapAt w1 b1 Value.string [] := MapAt.new hn1
 have hx1 := hn1.ext
 have e1 := hn1.block
 have hhead := h.head
 refine ⟨.map (some bp),(h.head.ext hx1).one rfl,?_⟩; (conv=>whnf);repeat(refine Sg ?_;(conv=>whnf))
 have hrows := h.rows.look Qfs Xg (e := ty138) ty138_ok rfl person (cl := .ext) (Qji h.rows.map.lt)
 refine ⟨_,fun w' hw => (by cases hw; exact hrows w1 hx1),?_⟩; (conv=>whnf);repeat(refine Sg ?_;(conv=>whnf))
 clear hrows
 generalize rowsOf rs person = rows at *
 generalize Xr D person = row at *
 generalize (rowAt L person).1 = A at *
 generalize (rowAt L person).2 = c at *
 have hlen : row.length = rows.length := hT.len
 refine Qj Qa (fun (q:Nat × List (ByteArray × Int)) w' => q.1 ≤ row.length ∧ Ext w w' ∧ b1 < w'.heap.size ∧ q.2 = Qtc half now (rows.take q.1) ∧ MapAt w' b1 Value.string (Xw vi q.2))
  (fun | (k,_) => [(0,.pointer (some ⟨p,0,none⟩)),(2,.int .i64 now),(7,.map (some b1)),(22,.slice A row.length c),(23,.int .i64 row.length),(24,.int .i64 k)]) (fun q => row.length - q.1) (0,[]) ⟨by simp,hx1,hm1.lt,rfl,hm1⟩ ⟨rfl,rfl,rfl,rfl,rfl,rfl,trivial⟩ ?_
 rintro ⟨k,m⟩ w2 ⟨hk,hx2,hb2,hmm,hmap⟩
 simp only at hk hmm hmap
 (conv=>whnf);repeat(refine Sg ?_;(conv=>whnf))
 constructor
 · intro hlt
   have hlt : k < row.length := by simpa using hlt
   obtain ⟨a,hA,hc⟩ := (hsl0.ext hx2).get hlt
   subst hA
   obtain ⟨q1,q2,q3,q4⟩ := hT.ev k row[k] (rows[k]'(by omega)) (List.getElem?_eq_getElem _) (List.getElem?_eq_getElem _)
   have hmk := hmp _ (List.getElem_mem (show k < rows.length by omega))
   have hrb := Nat.lt_of_le_of_lt (Q3e (fun r:Row => r.2.length) (List.getElem_mem (show k < rows.length by omega))) hsum
   have htk : Qtc half now (rows.take (k + 1)) = Qd5 half now m (rows[k]'(by omega)) := by
    rw [List.take_succ_eq_append_getElem (by omega),Qh2,hmm]
   generalize rows[k]'(by omega) = r at q1 q2 q3 hmk htk hrb
   generalize row[k] = d at hc q1 q2 q3 q4
   obtain ⟨d1,dA,dn,dc⟩ := d
   simp only at q1 q2 q3 q4
   subst q1
   subst q2
   (conv=>whnf);repeat(refine Sg ?_;(conv=>whnf))
   refine ⟨a,⟨rfl,by omega,by omega⟩,?_⟩; (conv=>whnf);repeat(refine Sg ?_;(conv=>whnf))
   refine ⟨Qf9 (r.1,dA,r.2.length,dc),⟨rfl,hc⟩,?_⟩; (conv=>whnf);repeat(refine Sg ?_;(conv=>whnf))
   intro b3 w3 hn3; (conv=>whnf);repeat(refine Sg ?_;(conv=>whnf))
   refine Qc Qa (e := ty140) rfl hn3.At rfl rfl rfl (Qfa _) fun w4 h4 ho4 => ?_
   have h4' : At w4 b3 140 ([] ++ (evC r.1 ++ [.slice dA r.2.length dc])) := h4
   have e3 := hn3.block
   have hx24 : Ext w2 w4 := ho4.ext hn3.ext (by omega)
   have hx4 : Ext w w4 := hx2.trans hx24
   have hmap4 := hmap.ext hx24
   clear ho4
   (conv=>whnf);repeat(refine Sg ?_;(conv=>whnf))
   refine ⟨.int .i64 r.1.at_,h4.one rfl,?_⟩; (conv=>whnf);repeat(refine Sg ?_;(conv=>whnf))
   constructor
   · intro hgt
     have hgt : now < r.1.at_ := by simpa using hgt
     have hst : Qd5 half now m r = m := by unfold Qd5; rw [if_pos hgt]
     (conv=>whnf);repeat(refine Sg ?_;(conv=>whnf))
     refine ⟨_,wrap_succ (by omega),?_⟩; (conv=>whnf);repeat(refine Sg ?_;(conv=>whnf))
     exact ⟨(k + 1,m),by simp only; omega,⟨by simp only; omega,hx4,hmap4.lt,by rw [htk,hst],hmap4⟩,⟨rfl,rfl,rfl,rfl,rfl,rfl,trivial⟩⟩
   · intro hgt
     have hgt : ¬ now < r.1.at_ := by simpa using hgt
     have hst : Qd5 half now m r = r.2.foldl (Qbu (Qqy half now r.1)) m := by unfold Qd5; rw [if_neg hgt]
     have hb := Qmx (half := half) (now := now) hmk.1
     (conv=>whnf);repeat(refine Sg ?_;(conv=>whnf))
     refine Dr .ext [0,1,3,4,5,6,7,8,9,10,11,2] [12,13,14] ?_;conv=>whnf
     refine ⟨evC r.1,⟨rfl,At.sub h4'⟩,?_⟩; (conv=>whnf);repeat(refine Sg ?_;(conv=>whnf))
     refine ⟨.int .i64 r.1.at_,h4.one rfl,?_⟩; (conv=>whnf);repeat(refine Sg ?_;(conv=>whnf))
     refine ⟨now - r.1.at_,wrap_eq rfl ⟨by omega,by omega⟩,?_⟩; (conv=>whnf);repeat(refine Sg ?_;(conv=>whnf))
     refine ⟨_,(hhead.ext hx4).one rfl,?_⟩; (conv=>whnf);repeat(refine Sg ?_;(conv=>whnf))
     replace hx4 := hx4.drew
     replace h4 : At w4.drew b3 _ _ := h4
     replace hmap4 := hmap4.ext (Ext.refl w4).drew
     refine (Qc7 r.1 w4.drew).mono ?_
     rintro _ w5 ⟨rfl,hx5⟩
     refine ⟨hx5,?_⟩; (conv=>whnf);repeat(refine Sg ?_;(conv=>whnf))
     refine (Qgx (now - r.1.at_) half ⟨by omega,by omega⟩ w5).mono ?_
     rintro _ _ ⟨rfl,rfl⟩; (conv=>whnf);repeat(refine Sg ?_;(conv=>whnf))
     have hwr : Qqy half now r.1 = IntKind.i64.wrap (Qr r.1 * X9 (now - r.1.at_) half) := by
      rw [show Qr r.1 * X9 (now - r.1.at_) half = Qqy half now r.1 from rfl]
      exact wrap_eq rfl ⟨by omega,by omega⟩
     refine ⟨Qqy half now r.1,hwr,?_⟩; (conv=>whnf);repeat(refine Sg ?_;(conv=>whnf))
     clear hwr
     replace hx4 := hx4.trans hx5
     replace h4 := h4.ext hx5
     replace hmap4 := hmap4.ext hx5
     refine ⟨_,h4.one rfl,?_⟩; (conv=>whnf);repeat(refine Sg ?_;(conv=>whnf))
     have hq3 := q3.ext hx4
     generalize Qqy half now r.1 = n at hb hst ⊢
     refine Qj Qa (fun (q:Nat × List (ByteArray × Int)) w' => q.1 ≤ r.2.length ∧ Ext w w' ∧ q.2 = (r.2.take q.1).foldl (Qbu n) m ∧ MapAt w' b1 Value.string (Xw vi q.2))
      (fun | (j,_) => [(0,.pointer (some ⟨p,0,none⟩)),(2,.int .i64 now),(7,.map (some b1)),(22,.slice (some a) row.length c),(23,.int .i64 row.length),(24,.int .i64 k),(10,.int .i64 n),(48,.slice dA r.2.length dc),(49,.int .i64 r.2.length),(50,.int .i64 j)]) (fun q => r.2.length - q.1) (0,m) ⟨by simp,hx4,rfl,hmap4⟩ ⟨rfl,rfl,rfl,rfl,rfl,rfl,rfl,rfl,rfl,rfl,trivial⟩ ?_
     clear hmap4 h4 h4'
     rintro ⟨j,m'⟩ w6 ⟨hj,hx6,hm',hmap6⟩
     simp only at hj hm' hmap6
     (conv=>whnf);repeat(refine Sg ?_;(conv=>whnf))
     constructor
     · intro hlt2
       have hlt2 : j < r.2.length := by simpa using hlt2
       obtain ⟨a2,hA2,hc2⟩ := (q3.ext hx6).get hlt2
       subst hA2
       have hjk : (r.2.take (j + 1)).foldl (Qbu n) m = Qbu n m' (r.2[j]) := by
        rw [List.take_succ_eq_append_getElem hlt2,Qte,hm']
       generalize r.2[j] = t at hc2 hjk
       (conv=>whnf);repeat(refine Sg ?_;(conv=>whnf))
       refine ⟨a2,⟨rfl,by omega,by omega⟩,?_⟩; (conv=>whnf);repeat(refine Sg ?_;(conv=>whnf))
       refine ⟨.string t,Xb hc2,?_⟩; (conv=>whnf);repeat(refine Sg ?_;(conv=>whnf))
       refine ⟨_,Qac Q5f (Qq Xg) (e := ty2) ty2_ok Qo hmap6 t,?_⟩
       have hz : (Qe (Xw vi m') t).getD (ty2).zero = vi ((Qe m' t).getD 0) := by
        unfold Xw; rw [Qed]; cases Qe m' t <;> rfl
       rw [hz]
       (conv=>whnf);repeat(refine Sg ?_;(conv=>whnf))
       refine ⟨_,rfl,?_⟩; (conv=>whnf);repeat(refine Sg ?_;(conv=>whnf))
       refine Qs Q5f (Qq Xg) hmap6 t _ fun w7 hmap7 ho7 => ?_
       have hx7 : Ext w w7 := ho7.ext hx6 (by omega)
       have hmap7 : MapAt w7 b1 Value.string (Xw vi (Qbu n m' t)) := by
        have e : Q3 (Xw vi m') t (vi (IntKind.i64.wrap ((Qe m' t).getD 0 + n))) = Xw vi (Qbu n m' t) := by unfold Qbu Xw; rw [Qet]
        rw [← e]; exact hmap7
       (conv=>whnf);repeat(refine Sg ?_;(conv=>whnf))
       refine ⟨_,wrap_succ (by omega),?_⟩; (conv=>whnf);repeat(refine Sg ?_;(conv=>whnf))
       exact ⟨(j + 1,Qbu n m' t),by simp only; omega,⟨by simp only; omega,hx7,hjk.symm,hmap7⟩,⟨rfl,rfl,rfl,rfl,rfl,rfl,rfl,rfl,rfl,rfl,trivial⟩⟩
     · intro hge2
       have hge2 : r.2.length ≤ j := by simpa using hge2
       rw [List.take_of_length_le hge2] at hm'
       (conv=>whnf);repeat(refine Sg ?_;(conv=>whnf))
       refine ⟨_,wrap_succ (by omega),?_⟩; (conv=>whnf);repeat(refine Sg ?_;(conv=>whnf))
       exact ⟨(k + 1,m'),by simp only; omega,⟨by simp only; omega,hx6,hmap6.lt,by rw [htk,hst,hm'],hmap6⟩,⟨rfl,rfl,rfl,rfl,rfl,rfl,trivial⟩⟩
 · intro hge
   have hge : row.length ≤ k := by simpa using hge
   rw [List.take_of_length_le (by omega)] at hmm
   have hML : m.length ≤ (rows.map fun r => r.2.length).sum := by rw [hmm]; exact Qu4 half now rows
   unfold Q5t
   rw [← hmm]
   clear hmm
   (conv=>whnf);repeat(refine Sg ?_;(conv=>whnf))
   refine map_range Q5f hmap fun w3 hi3 hx3 => ?_
   have hrw : w.heap.size ≤ w2.heap.size := hx2.size
   generalize hr : w2.heap.size = r at hi3 ⊢
   have hx3 := hx2.trans hx3
   (conv=>whnf);repeat(refine Sg ?_;(conv=>whnf))
   refine Qj Qa (fun (q:List (ByteArray × Int) × Option Addr × Nat × List Ct) w' => Ext w w' ∧ Iter w' r b1 Value.string (Xw vi m) (Xw vi q.1) ∧ q.2.2.2 = q.1.filter (fun x => decide (0 < x.2)) ∧ Own Qxl 2 193 w.heap.size w' q.2.1 q.2.2.1 q.2.2.2 ∧ ∀ a,q.2.1 = some a → a.block ≠ b1 ∧ a.block ≠ r)
    (fun | (_,A,c,F) => [(62,.pointer (some ⟨r,0,none⟩)),(13,.slice A F.length c)]) (fun q => m.length - q.1.length) ([],none,0,[]) ⟨hx3,hi3,rfl,Own.nil,by simp⟩ ⟨rfl,rfl,trivial⟩ ?_
   clear hi3 hx3
   rintro ⟨vs,A',c',F⟩ w4 ⟨hx4,hi4,hF,hown4,hne4⟩
   simp only at hi4 hF hown4 hne4
   have hFl : F.length ≤ vs.length := by rw [hF]; exact List.length_filter_le _ _
   (conv=>whnf);repeat(refine Sg ?_;(conv=>whnf))
   refine Qf2 hi4 (fun hp => ?_) (fun x w5 hin hnew hlt hi5 ho5 hen => ?_)
   · have hp : vs.Perm m := by
      have h1 := hp.map (fun x:ByteArray × Value => (x.1,match x.2 with | .int _ n => n | _ => 0))
      simpa [Xw,List.map_map,Function.comp_def,vi] using h1
     have hvl := hp.length_eq
     (conv=>whnf);repeat(refine Sg ?_;(conv=>whnf))
     constructor
     · intro hh; cases hh
     intro _
     (conv=>whnf);repeat(refine Sg ?_;(conv=>whnf))
     refine (Qsr F A' c' w.heap.size w4 hown4 (by omega)).mono ?_
     rintro _ w6 ⟨rfl,F6,hp6,hs6,hsl6,hx6⟩
     (conv=>whnf);repeat(refine Sg ?_;(conv=>whnf))
     refine ⟨A',c',F6,by rw [hp6.length_eq],hp6.trans ?_,hs6,hsl6,hx6 w hx4 (Nat.le_refl _)⟩
     rw [hF]
     exact hp.filter _
   · obtain ⟨y,hy,rfl⟩ := List.mem_map.1 hin
     have hlt : vs.length < m.length := by simpa [Xw] using hlt
     have hvs : Xw vi vs ++ [(y.1,vi y.2)] = Xw vi (vs ++ [y]) := by simp [Xw]
     rw [hvs] at hi5
     have hx5 := ho5.ext hx4 (by omega)
     have hown5 := hown4.keep (w' := w5) fun a ha => ho5.block a.block (hne4 a ha).2
     (conv=>whnf);repeat(refine Sg ?_;(conv=>whnf))
     constructor
     · intro _
       (conv=>whnf);repeat(refine Sg ?_;(conv=>whnf))
       refine Qbg (hen w5 rfl rfl) ?_
       (conv=>whnf);repeat(refine Sg ?_;(conv=>whnf))
       constructor
       · intro hpos
         have hpos : 0 < y.2 := by simpa using hpos
         (conv=>whnf);repeat(refine Sg ?_;(conv=>whnf))
         intro b6 w6 hn6; (conv=>whnf);repeat(refine Sg ?_;(conv=>whnf))
         refine X4 Q6h (l := F) (news := [y]) rfl (hown5.ext hn6.ext) rfl (Q6h.new1 (x := y) hn6) (by simp; omega) (Nat.le_trans hx5.size hn6.ext.size) fun A7 c7 w7 hown7 hg7 hA7 => ?_
         have hx7 := Xo (hx5.trans hn6.ext) hg7 (Qdu hown5)
         have hi6 := hi5.ext hn6.ext
         have hi7 : Iter w7 r b1 Value.string (Xw vi m) (Xw vi (vs ++ [y])) := hi6.keep (hg7.block b1 hi6.map.lt fun e => by
          cases A' with
          | none => simp at e
          | some x => simp at e; exact (hne4 x rfl).1 e.symm) (hg7.block r hi6.lt fun e => by
          cases A' with
          | none => simp at e
          | some x => simp at e; exact (hne4 x rfl).2 e.symm)
         have hne7 : ∀ a,A7 = some a → a.block ≠ b1 ∧ a.block ≠ r := by
          intro x hx
          subst hx
          rcases hA7 with h | h | h
          · exact hne4 x h.symm
          · cases A' with
            | none => simp at h
            | some y => simp at h; rw [h]; exact hne4 y rfl
          · simp at h
            have := hi6.map.lt
            have := hi6.lt
            omega
         generalize hF1 : F ++ [y] = F1 at hown7 ⊢
         (conv=>whnf);repeat(refine Sg ?_;(conv=>whnf))
         exact ⟨(vs ++ [y],A7,c7,F1),by simp; omega,⟨hx7,hi7,by simp only; rw [← hF1,hF]; simp [hpos],hown7,hne7⟩,⟨rfl,rfl,trivial⟩⟩
       · intro hpos
         have hpos : ¬ 0 < y.2 := by simpa using hpos
         (conv=>whnf);repeat(refine Sg ?_;(conv=>whnf))
         exact ⟨(vs ++ [y],A',c',F),by simp; omega,⟨hx5,hi5,by simp only; rw [hF]; simp [hpos],hown5,hne4⟩,⟨rfl,rfl,trivial⟩⟩
     · intro hh; cases hh
theorem Qr5 (w:World) (S:Nat → Prop) (p:Nat) (half:Int) (rs:List Row) (h:Qam w S p half rs) (hm:∀ r ∈ rs,Xy r.1 = true) (hl:rs.length < 1000000) (person:ByteArray) :
 Cal Tryz.prog 46 [.pointer (some ⟨p,0,none⟩),.string person] w fun r w' => ∃ A c,r = .slice A (Xz ((Qax (Xt rs).follows person (hist (evs rs) person)).map (·.1))).length c ∧ Own Qd3 1 9 w.heap.size w' A c (Xz ((Qax (Xt rs).follows person (hist (evs rs) person)).map (·.1))) ∧ Ext w w' := by
 obtain ⟨bp,b,D,L,R,Tg,h⟩ := h
 have hhd := Qmb h.tags person
 have hown := (h.rows.own person).1
 have hsl0 := hown.sl Qe9
 have hfl := h.maps.follows
 have hdl : (Xr D person).length ≤ rs.length := by
  rw [← h.tags.len]; exact List.length_filter_le _ _
 have hmp : ∀ e ∈ hist (evs rs) person,Xy e = true := fun e he => by
  obtain ⟨r,hr,rfl⟩ := List.mem_map.1 (List.mem_filter.1 he).1
  exact hm r hr
 have hmd : ∀ d ∈ Xr D person,Xy d.1 = true := fun d hd => hmp _ (by rw [← hhd]; exact List.mem_map.2 ⟨d,hd,rfl⟩)
 rw [← hhd]
 refine Fi Tryz.func46 rfl _ rfl rfl ?_;conv=>whnf
 refine ⟨.map (some b.follows),h.head.one rfl,?_⟩; (conv=>whnf);repeat(refine Sg ?_;(conv=>whnf))
 refine Cal.mono (R := fun r w' => ∃ A c,r = .slice A (Xz ((Qax (Xt rs).follows person ((Xr D person).map (·.1))).map (·.1))).length c ∧ Own Qd3 1 9 w.heap.size w' A c (Xz ((Qax (Xt rs).follows person ((Xr D person).map (·.1))).map (·.1))) ∧ Ext w w') ?_ ?_
 rotate_left
 · rintro _ w1 ⟨A,c,rfl,h1,h2⟩; (conv=>whnf);repeat(refine Sg ?_;(conv=>whnf))
   exact ⟨A,c,rfl,h1,h2⟩
 refine Fi Tryz.func88 rfl _ rfl rfl ?_;conv=>whnf
 intro b1 w1 hn1; (conv=>whnf);repeat(refine Sg ?_;(conv=>whnf))
 have hm1 : MapAt w1 b1 Value.string [] := MapAt.new hn1
 have hx1 := hn1.ext
 have e1 := hn1.block
 refine ⟨.map (some bp),(h.head.ext hx1).one rfl,?_⟩; (conv=>whnf);repeat(refine Sg ?_;(conv=>whnf))
 have hrows := h.rows.look Qfs Xg (e := ty138) ty138_ok rfl person (cl := .ext) (Qji h.rows.map.lt)
 refine ⟨_,fun w' hw => (by cases hw; exact hrows w1 hx1),?_⟩; (conv=>whnf);repeat(refine Sg ?_;(conv=>whnf))
 clear hrows hhd
 generalize (Xt rs).follows = fl at *
 generalize Xr D person = row at *
 generalize (rowAt L person).1 = A at *
 generalize (rowAt L person).2 = c at *
 refine Qj Qa (fun (q:Nat × List (ByteArray × Bool)) w' => q.1 ≤ row.length ∧ Ext w w' ∧ q.2 = Qax fl person ((row.take q.1).map (·.1)) ∧ MapAt w' b1 Value.string (Xw Value.bool q.2))
  (fun | (k,_) => [(1,.string person),(2,.int .i64 7),(3,.map (some b.follows)),(9,.map (some b1)),(18,.slice A row.length c),(19,.int .i64 row.length),(20,.int .i64 k)]) (fun q => row.length - q.1) (0,[]) ⟨by simp,hx1,rfl,hm1⟩ ⟨rfl,rfl,rfl,rfl,rfl,rfl,rfl,trivial⟩ ?_
 rintro ⟨k,m⟩ w2 ⟨hk,hx2,hmm,hmap⟩
 simp only at hk hmm hmap
 (conv=>whnf);repeat(refine Sg ?_;(conv=>whnf))
 constructor
 · intro hlt
   have hlt : k < row.length := by simpa using hlt
   obtain ⟨a,hA,hc⟩ := (hsl0.ext hx2).get hlt
   subst hA
   have htk : Qax fl person ((row.take (k + 1)).map (·.1)) = if (row[k]).1.kind = 7 ∧ (Qe fl (person,(row[k]).1.text)).getD false = true then Q3 m (row[k]).1.text true else m := by
    rw [List.take_succ_eq_append_getElem hlt,List.map_append,List.map_cons,List.map_nil,Qer,← hmm]
   generalize row[k] = d at hc htk
   (conv=>whnf);repeat(refine Sg ?_;(conv=>whnf))
   refine ⟨a,⟨rfl,by omega,by omega⟩,?_⟩; (conv=>whnf);repeat(refine Sg ?_;(conv=>whnf))
   refine ⟨Qf9 d,⟨rfl,hc⟩,?_⟩; (conv=>whnf);repeat(refine Sg ?_;(conv=>whnf))
   intro b3 w3 hn3; (conv=>whnf);repeat(refine Sg ?_;(conv=>whnf))
   refine Qc Qa (e := ty140) rfl hn3.At rfl rfl rfl (Qfa _) fun w4 h4 ho4 => ?_
   have e3 := hn3.block
   have hx24 : Ext w2 w4 := ho4.ext hn3.ext (by omega)
   have hx4 : Ext w w4 := hx2.trans hx24
   have hmap4 := hmap.ext hx24
   have h4 : At w4 b3 140 (Qf9 d) := h4
   clear ho4
   (conv=>whnf);repeat(refine Sg ?_;(conv=>whnf))
   refine ⟨.int .i64 d.1.kind,h4.one rfl,?_⟩; (conv=>whnf);repeat(refine Sg ?_;(conv=>whnf))
   refine ⟨.string d.1.text,fun _ => h4.one rfl,?_⟩; (conv=>whnf);repeat(refine Sg ?_;(conv=>whnf))
   have hlk := Qac Qis Qay (e := ty4) ty4_ok (cl := .same) Qo (hfl.ext hx4) ((person,d.1.text) : LK)
   have hz : (Qe (Xw Value.bool fl) ((person,d.1.text) : LK)).getD (ty4).zero = .bool ((Qe fl (person,d.1.text)).getD false) := by
    unfold Xw; rw [Qed]; cases Qe fl (person,d.1.text) <;> rfl
   rw [hz] at hlk
   refine ⟨_,fun _ => hlk,?_⟩
   generalize (Qe fl (person,d.1.text)).getD false = hv at htk ⊢
   (conv=>whnf);repeat(refine Sg ?_;(conv=>whnf))
   constructor
   · intro hc1
     have hc1 : d.1.kind = 7 ∧ hv = true := by simpa using hc1
     rw [if_pos hc1] at htk
     (conv=>whnf);repeat(refine Sg ?_;(conv=>whnf))
     refine ⟨.string d.1.text,h4.one rfl,?_⟩; (conv=>whnf);repeat(refine Sg ?_;(conv=>whnf))
     refine Qs Qly (Qq Xg) hmap4 d.1.text _ fun w7 hmap7 ho7 => ?_
     have hx7 : Ext w w7 := ho7.ext hx4 (by omega)
     have hmap7 : MapAt w7 b1 Value.string (Xw Value.bool (Q3 m d.1.text true)) := by
      have e : Q3 (Xw Value.bool m) d.1.text (.bool true) = Xw Value.bool (Q3 m d.1.text true) := by unfold Xw; rw [Qet]
      rw [← e]; exact hmap7
     (conv=>whnf);repeat(refine Sg ?_;(conv=>whnf))
     refine ⟨_,wrap_succ (by omega),?_⟩; (conv=>whnf);repeat(refine Sg ?_;(conv=>whnf))
     exact ⟨(k + 1,Q3 m d.1.text true),by simp only; omega,⟨by simp only; omega,hx7,htk.symm,hmap7⟩,⟨rfl,rfl,rfl,rfl,rfl,rfl,rfl,trivial⟩⟩
   · intro hc1
     have hc1 : ¬ (d.1.kind = 7 ∧ hv = true) := by simpa using hc1
     rw [if_neg hc1] at htk
     (conv=>whnf);repeat(refine Sg ?_;(conv=>whnf))
     refine ⟨_,wrap_succ (by omega),?_⟩; (conv=>whnf);repeat(refine Sg ?_;(conv=>whnf))
     exact ⟨(k + 1,m),by simp only; omega,⟨by simp only; omega,hx4,htk.symm,hmap4⟩,⟨rfl,rfl,rfl,rfl,rfl,rfl,rfl,trivial⟩⟩
 · intro hge
   have hge : row.length ≤ k := by simpa using hge
   rw [List.take_of_length_le hge] at hmm
   have hkeys : ∀ x ∈ m,x.1.size ≤ 1000000 := by
    intro x hx
    have hx1 : x.1 ∈ m.map (·.1) := List.mem_map.2 ⟨x,hx,rfl⟩
    rw [hmm,Qma] at hx1
    obtain ⟨e,he,_,h2,_⟩ := hx1
    obtain ⟨d,hd,rfl⟩ := List.mem_map.1 he
    have := Qdt (hmd d hd)
    rw [← h2]; omega
   have hml : m.length ≤ row.length := by
    have : ∀ h : List Ev,(Qax fl person h).length ≤ h.length := by
     refine Qv (by simp [Qax]) fun l e ih => ?_
     rw [Qer]
     have := Qeo e.text true (Qax fl person l)
     split <;> simp <;> omega
    have := this (row.map (·.1))
    rw [← hmm] at this
    simpa using this
   rw [← hmm]
   have hvk : (Xw Value.bool m).map (·.1) = m.map (·.1) := by simp [Xw]
   (conv=>whnf);repeat(refine Sg ?_;(conv=>whnf))
   refine (Qme (some b1) w2).mono ?_
   rintro _ w3 ⟨rfl,hc3,hx3⟩; (conv=>whnf);repeat(refine Sg ?_;(conv=>whnf))
   refine (Qi3 hc3 (hmap.ext hx3) (by intro x hx; obtain ⟨y,hy,rfl⟩ := List.mem_map.1 hx; exact hkeys y hy) (by simp [Xw]; omega)).mono ?_
   rintro _ w4 ⟨A4,c4,rfl,ho,hx4⟩
   rw [hvk] at ho ⊢
   (conv=>whnf);repeat(refine Sg ?_;(conv=>whnf))
   exact ⟨A4,c4,rfl,Qg0 ho (Nat.le_trans hx2.size hx3.size),hx2.trans (hx3.trans hx4)⟩
open Go.Maps Go.Sort Go.Shelf
theorem Qf3 (w:World) (p:Nat) (width n:Int) (bs br:Nat) (hp:At w p 156 [vi width,vi n,.map (some bs),.map (some br)]) (hw:1 ≤ width ∧ width ≤ 1099511627776) (t:Int) (ht:-9223372036854775807 ≤ t ∧ t ≤ 9223372036854775807) :
 Cal Tryz.prog 71 [.pointer (some ⟨p,0,none⟩),.int .i64 t] w fun r w' => r = .int .i64 (t / width) ∧ w' = w := by
 have hd : t.tdiv width = t / width + if 0 ≤ t ∨ width ∣ t then 0 else width.sign := Int.tdiv_eq_ediv
 have hm := Int.tmod_eq_emod (a := t) (b := width)
 have hs : width.sign = 1 := Int.sign_eq_one_of_pos (by omega)
 have h5 : 0 ≤ t % width := Int.emod_nonneg _ (by omega)
 have h6 : t % width < width := Int.emod_lt_of_pos _ (by omega)
 have hna : (width.natAbs : Int) = width := by omega
 rw [hs] at hd
 have hr1 : -9223372036854775807 ≤ t / width := by
  have := Int.ediv_emod_unique (a := t) (b := width) (r := t % width) (q := t / width) (by omega)
  rcases Int.lt_or_le t 0 with h | h
  · have : t ≤ t / width := by
     rw [Int.le_ediv_iff_mul_le (by omega)]
     have : t * width ≤ t * 1 := Int.mul_le_mul_of_nonpos_left (by omega) (by omega)
     omega
    omega
  · have := Int.ediv_nonneg h (show 0 ≤ width by omega); omega
 have hr2 : t / width ≤ 9223372036854775806 ∨ (0 ≤ t ∧ t / width ≤ t) := by
  rcases Int.lt_or_le t 0 with h | h
  · left
    have := Int.ediv_neg_of_neg_of_pos h (show 0 < width by omega)
    omega
  · right; exact ⟨h,Int.ediv_le_self _ h⟩
 refine Fi Tryz.func71 rfl _ rfl rfl ?_;conv=>whnf
 refine ⟨_,hp.one0,?_⟩;conv=>whnf
 by_cases hc : 0 ≤ t ∨ width ∣ t
 · rw [if_pos hc] at hd hm
   refine ⟨t / width,⟨by omega,wrap_eq (by omega) ⟨by omega,by omega⟩⟩,?_⟩;conv=>whnf
   refine Qb Qa ?_;conv=>whnf
   refine ⟨_,hp.one0,?_⟩;conv=>whnf
   refine ⟨t.tmod width,⟨by omega,rfl⟩,?_⟩;conv=>whnf
   constructor
   · intro q
     have q : t.tmod width < 0 := by simpa using q
     omega
   · intro _
     conv=>whnf
     exact ⟨rfl,rfl⟩
 · rw [if_neg hc] at hd hm
   have hneg : t < 0 := by omega
   have hd0 := Int.ediv_neg_of_neg_of_pos hneg (show 0 < width by omega)
   refine ⟨t / width + 1,⟨by omega,wrap_eq (by omega) ⟨by omega,by omega⟩⟩,?_⟩;conv=>whnf
   refine Qb Qa ?_;conv=>whnf
   refine ⟨_,hp.one0,?_⟩;conv=>whnf
   refine ⟨t.tmod width,⟨by omega,rfl⟩,?_⟩;conv=>whnf
   constructor
   · intro _
     conv=>whnf
     refine ⟨t / width,wrap_eq (by omega) ⟨by omega,by omega⟩,?_⟩;conv=>whnf
     exact ⟨rfl,rfl⟩
   · intro q
     have q : ¬ t.tmod width < 0 := by simpa using q
     omega
theorem Qi0 (w:World) (S:Nat → Prop) (p:Nat) (width n:Int) (s:X8) (h:Qlz w S p width n s) :
 Cal Tryz.prog 34 [.pointer (some ⟨p,0,none⟩)] w fun r w' => r = .int .i64 width ∧ Ext w w' := by
 obtain ⟨bs,br,L,R,h⟩ := h
 refine Fi Tryz.func34 rfl _ rfl rfl ?_;conv=>whnf
 refine ⟨_,h.head.one rfl,?_⟩;conv=>whnf
 exact ⟨rfl,Ext.refl _⟩
theorem Qlz.ext {w w1:World} {S:Nat → Prop} {p:Nat} {width n:Int} {s:X8} (h:Qlz w S p width n s) (hx:Ext w w1) : Qlz w1 S p width n s := h.keep fun k hk hs => ⟨hx.block k hk,hs⟩
theorem Q7g : Tryz.prog.underlying 74 = some (.pointer (Tryz.prog.pointee 74)) := by kernel_rfl
end Go.Proofs.YtopncieoolkhjaaGreatDoor
namespace Go.Proofs.YtopncieoolkhjaaGreatDoor
open Go.Se Go.RowKit
theorem Qkc (n:Int) (w:World) : Cal Tryz.prog 176 [.int .i64 n] w fun r w' => r = .int .i64 (min n 1099511627776) ∧ w' = w := by
 refine Fi Tryz.func176 rfl _ rfl rfl ?_;conv=>whnf
 exact ⟨rfl,rfl⟩
theorem Qv0 {w:World} {T:Nat → Prop} {p:Nat} {c:Cfg} {z:List Ev} {v:Value} (h:WQ w T p c z v) (person item:ByteArray) (now:Int) (hn:0 ≤ now ∧ now ≤ 1099511627776) (hb:0 ≤ (Qbp (Qi z) item now).1.born ∧ (Qbp (Qi z) item now).1.born ≤ 1099511627776) :
 Cal Tryz.prog 119 [.pointer (some ⟨p,0,none⟩),.string person,.string item,.int .i64 now] w fun r w' => r = .int .i64 (if (Qbp (Qi z) item now).1.listed = true then X9 (now - (Qbp (Qi z) item now).1.born) c.half else 0) ∧ Ext w w' := by
 refine Fi Tryz.func119 rfl _ rfl rfl ?_;conv=>whnf
 refine (Xu h).mono ?_
 rintro _ w1 ⟨pc,S,rfl,hcat,hx1⟩;conv=>whnf
 refine (Xa _ S pc _ hcat item now h.rows).mono ?_
 rintro _ w2 ⟨rfl,hx2⟩
 generalize Qbp (Qi z) item now = it at hb ⊢
 conv=>whnf
 intro b3 w3 hn3;conv=>whnf
 refine Qc Qa (e := ty187) rfl hn3.At rfl rfl rfl (by simp [Qg,itC,Value.oneCell']) fun w4 h4 ho4 => ?_
 have e3 := hn3.block
 have hx4 : Ext w w4 := ho4.ext ((hx1.trans hx2).trans hn3.ext) (by have := (hx1.trans hx2).size; omega)
 have h4 : At w4 b3 187 (itC it.1) := h4
 clear ho4
 conv=>whnf
 refine ⟨.bool it.1.listed,h4.one rfl,?_⟩;conv=>whnf
 constructor
 · intro hl
   have hl : it.1.listed = false := by simpa using hl
   conv=>whnf
   exact ⟨by rw [hl]; rfl,hx4⟩
 intro hl
 have hl : it.1.listed = true := by simpa using hl
 rw [if_pos hl]
 conv=>whnf
 refine Dr .ext [0,1,2,3,4,5,6] [7,8] ?_;conv=>whnf
 refine ⟨.int .i64 it.1.born,h4.one rfl,?_⟩;conv=>whnf
 refine ⟨now - it.1.born,wrap_eq rfl ⟨by omega,by omega⟩,?_⟩;conv=>whnf
 replace hx4 := hx4.drew
 refine (Qfk (h.ext hx4)).mono ?_
 rintro _ w5 ⟨rfl,hx5⟩
 refine ⟨hx5,?_⟩;conv=>whnf
 refine (Qgx (now - it.1.born) c.half ⟨by omega,by omega⟩ w5).mono ?_
 rintro _ _ ⟨rfl,rfl⟩;conv=>whnf
 exact ⟨rfl,hx4.trans hx5⟩
def Q52 : List Value := [.func (.func 114) #[] #[],.func (.func 115) #[] #[],.func (.func 116) #[] #[],.func (.func 117) #[] #[],.func (.func 118) #[] #[],.func (.func 119) #[] #[]]
theorem Qsv (w:World) : Cal Tryz.prog 56 [] w fun r w' => r = .agg Q52.toArray ∧ Ext w w' := by
 refine Fi Tryz.func56 rfl _ rfl rfl ?_;conv=>whnf
 intro b1 w1 hn1;conv=>whnf
 refine Qc Qa (e := ty118) rfl hn1.At rfl rfl rfl (by simp [Qg,Value.oneCell']) fun w2 h2 ho2 => ?_
 have h2 : At w2 b1 118 Q52 := h2
 have e1 := hn1.block
 conv=>whnf
 refine ⟨Q52,⟨rfl,h2.all⟩,?_⟩;conv=>whnf
 exact ⟨rfl,ho2.ext hn1.ext (by omega)⟩
def Qli (l:List Pt) : Int := IntKind.i64.wrap ((l.map fun x => x.2.2).sum)
theorem Q5c : Qli [] = 0 := Q06
theorem Q2x (l:List Pt) (x:Pt) : Qli (l ++ [x]) = IntKind.i64.wrap (Qli l + x.2.2) := by
 unfold Qli
 rw [Qit,List.map_append,List.sum_append]
 simp
theorem Qxd (l:List Pt) (A:Option Addr) (c:Nat) (w:World) (hs:Sl ptC 3 w A l) (hl:l.length < 1000000) :
 Cal Tryz.prog 113 [.slice A l.length c] w fun r w' => r = .int .i64 (Qli l) ∧ Ext w w' := by
 refine Fi Tryz.func113 rfl _ rfl rfl ?_;conv=>whnf
 refine Qj Qa (fun (q:Nat × Int) w' => q.1 ≤ l.length ∧ q.2 = Qli (l.take q.1) ∧ Ext w w')
  (fun | (k,s) => [(6,.slice A l.length c),(7,.int .i64 l.length),(8,.int .i64 k),(3,.int .i64 s)]) (fun q => l.length - q.1) (0,0) ⟨by simp,Q5c.symm,Ext.refl _⟩ ⟨rfl,rfl,rfl,rfl,trivial⟩ ?_
 rintro ⟨k,s⟩ w1 ⟨hk,hs1,hx1⟩
 simp only at hk hs1
 conv=>whnf
 constructor
 · intro hlt
   have hlt : k < l.length := by simpa using hlt
   obtain ⟨a,hA,hc⟩ := (hs.ext hx1).get hlt
   subst hA
   have htk : Qli (l.take (k + 1)) = IntKind.i64.wrap (s + (l[k]).2.2) := by rw [hs1,List.take_succ_eq_append_getElem hlt,Q2x]
   generalize l[k] = x at hc htk
   conv=>whnf
   refine ⟨a,⟨rfl,by omega,by omega⟩,?_⟩;conv=>whnf
   refine ⟨ptC x,⟨rfl,hc⟩,?_⟩;conv=>whnf
   intro b2 w2 hn2;conv=>whnf
   refine Qc Qa (e := ty226) rfl hn2.At rfl rfl rfl (Qzn x) fun w3 h3 ho3 => ?_
   have h3 : At w3 b2 226 (ptC x) := h3
   have e2 := hn2.block
   have hx3 : Ext w w3 := ho3.ext (hx1.trans hn2.ext) (by have := hx1.size; omega)
   clear ho3
   conv=>whnf
   refine ⟨.int .i64 x.2.2,h3.one rfl,?_⟩;conv=>whnf
   refine ⟨_,rfl,?_⟩;conv=>whnf
   refine ⟨_,wrap_succ (by omega),?_⟩;conv=>whnf
   exact ⟨(k + 1,_),by simp; omega,⟨by simp; omega,htk.symm,hx3⟩,⟨rfl,rfl,rfl,rfl,trivial⟩⟩
 · intro hge
   have hge : l.length ≤ k := by simpa using hge
   conv=>whnf
   exact ⟨by rw [hs1,List.take_of_length_le hge],hx1⟩
def Qo8 (n:Int) : Int := min (max n 0) 1000
def Qot (F a:Nat → Int) (n:Nat) : List Pt := (List.range n).map fun (k:Nat) => ((k:Int),F k,IntKind.i64.wrap (F k * Qo8 (a k)))
theorem Qzo (F a:Nat → Int) (n:Nat) : Qot F a (n + 1) = Qot F a n ++ [((n:Int),F n,IntKind.i64.wrap (F n * Qo8 (a n)))] := by
 unfold Qot; rw [List.range_succ,List.map_append]; rfl
theorem Q2f (F a:Nat → Int) (n:Nat) : (Qot F a n).length = n := by simp [Qot]
def wsV (a:Nat → Int) : Value := .agg #[.int .i64 (a 0),.int .i64 (a 1),.int .i64 (a 2),.int .i64 (a 3),.int .i64 (a 4),.int .i64 (a 5)]
theorem Q2n (F a:Nat → Int) (J:Nat → (Nat → Prop) → World → Prop) (T0:Nat → Prop) (p:Nat) (person item:ByteArray) (now:Int) (w:World) (hJ:J 0 T0 w) (hJlt:∀ k T w1,J k T w1 → ∀ b,T b → b < w1.heap.size) (hJk:∀ k T w1 w2,J k T w1 → Mod (fun b => ¬ T b ∧ w.heap.size ≤ b) w1 w2 → J k T w2)
 (hraw:∀ k,k < 6 → ∀ T w1,J k T w1 → Cal Tryz.prog 12 [.pointer (some ⟨p,0,none⟩),.int .i64 (k:Nat),.string person,.string item,.int .i64 now] w1 fun r w' => r = .int .i64 (F k) ∧ Mod T w1 w' ∧ ∃ T',J (k + 1) T' w' ∧ ∀ b,T' b → T b ∨ w1.heap.size ≤ b) :
 Cal Tryz.prog 54 [.pointer (some ⟨p,0,none⟩),wsV a,.string person,.string item,.int .i64 now] w fun r w' => ∃ A cap T,r = .tuple #[.slice A 6 cap,.int .i64 (Qli (Qot F a 6))] ∧ Own ptC 3 226 w.heap.size w' A cap (Qot F a 6) ∧ J 6 T w' ∧ (∀ b,T b → T0 b ∨ w.heap.size ≤ b) ∧ (∀ a,A = some a → ¬ T a.block) ∧ Mod T0 w w' := by
 refine Fi Tryz.func54 rfl _ rfl rfl ?_;conv=>whnf
 intro b1 w1 hn1;conv=>whnf
 refine ⟨_,⟨rfl,hn1.At.all⟩,?_⟩;conv=>whnf
 refine Qj Qa (fun (q:Nat × Option Addr × Nat × List Pt) w' => q.1 ≤ 6 ∧ q.2.2.2 = Qot F a q.1 ∧ (∃ T,J q.1 T w' ∧ (∀ b,T b → T0 b ∨ w.heap.size ≤ b) ∧ ∀ a,q.2.1 = some a → ¬ T a.block) ∧ Mod T0 w w' ∧ Own ptC 3 226 w.heap.size w' q.2.1 q.2.2.1 q.2.2.2)
  (fun | (k,A,cap,T) => [(0,.pointer (some ⟨p,0,none⟩)),(2,.string person),(3,.string item),(4,.int .i64 now),(16,wsV a),(17,.int .i64 k),(12,.slice A T.length cap)]) (fun q => 6 - q.1) (0,none,0,[]) ⟨by simp,rfl,⟨T0,hJk _ _ _ _ hJ (Mod.of_ext hn1.ext),fun b hb => .inl hb,by simp⟩,Mod.of_ext hn1.ext,Own.nil⟩ ⟨rfl,rfl,rfl,rfl,rfl,rfl,rfl,trivial⟩ ?_
 rintro ⟨k,A,cap,Q⟩ w2 ⟨hk,hT,⟨T,hJ2,hT0,hTA⟩,hM,hown⟩
 simp only at hk hT hJ2 hown hTA
 have hlen : Q.length = k := by rw [hT,Q2f]
 conv=>whnf
 constructor
 · intro hlt
   have hlt : k < 6 := by
    have : (k:Int) < 6 := by simpa using hlt
    omega
   have hst := Qzo F a k
   rw [← hT] at hst
   conv=>whnf
   refine ⟨.int .i64 (a k),Qh5 Tryz.underlying27 Tryz.isAgg3 Tryz.sizeOf3 hlt (by rcases k with _ | _ | _ | _ | _ | _ | k <;> first | rfl | omega),?_⟩;conv=>whnf
   refine (hraw k hlt T w2 hJ2).mono ?_
   rintro _ w3 ⟨rfl,hM3,T3,hJ3,hT3⟩
   have hown3 := hown.keep (w' := w3) fun a ha => hM3.block a.block (hown.block ha).2 (hTA a ha)
   generalize F k = n at hst ⊢
   generalize a k = m at hst ⊢
   have s2 := hM.size
   have s3 := hM3.size
   conv=>whnf
   refine ⟨_,rfl,?_⟩;conv=>whnf
   intro b4 w4 hn4;conv=>whnf
   have s4 := hn4.ext.size
   have hJ4 := hJk _ _ _ _ hJ3 (Mod.of_ext hn4.ext)
   refine X4 Q6i (l := Q) (news := [((k:Int),n,IntKind.i64.wrap (n * Qo8 m))]) rfl (hown3.ext hn4.ext) rfl (Q6i.new1 (x := ((k:Int),n,IntKind.i64.wrap (n * Qo8 m))) hn4) (by simp; omega) (by omega) fun A5 c5 w5 hown5 hg5 hA5 => ?_
   have hA3 : ∀ a,A = some a → ¬ T3 a.block := fun a ha h3 => by
    rcases hT3 _ h3 with h3 | h3
    · exact hTA a ha h3
    · have := (hown.block ha).2; omega
   have hJ5 : J (k + 1) T3 w5 := hJk _ _ _ _ hJ4 (Xq hg5 fun b hb => by
    cases A with
    | none => simp at hb
    | some x => simp at hb; rw [← hb]; exact ⟨hA3 x rfl,(hown.block rfl).1⟩)
   have hM5 : Mod T0 w w5 := by
    refine Qn (Qn hM (hM3.mono fun b _ hb => hT0 b hb)) ?_
    exact (Mod.of_ext hn4.ext).trans (Xq hg5 fun b hb => .inr (Qdu hown b hb))
   have hA5 : ∀ a,A5 = some a → ¬ T3 a.block := by
    intro x hx h3
    have hlt5 := hJlt _ _ _ hJ4 _ h3
    subst hx
    rcases hA5 with h | h | h
    · exact hA3 x h.symm h3
    · cases A with
      | none => simp at h
      | some y => simp at h; rw [h] at h3; exact hA3 y rfl h3
    · simp at h; omega
   generalize hT1 : Q ++ [((k:Int),n,IntKind.i64.wrap (n * Qo8 m))] = Q1 at hown5 hst ⊢
   conv=>whnf
   refine ⟨_,wrap_succ (by omega),?_⟩;conv=>whnf
   refine ⟨(k + 1,A5,c5,Q1),by simp only; omega,⟨by simp only; omega,hst.symm,⟨T3,hJ5,fun b hb => ?_,hA5⟩,hM5,hown5⟩,⟨rfl,rfl,rfl,rfl,rfl,rfl,rfl,trivial⟩⟩
   rcases hT3 b hb with h | h
   · exact hT0 b h
   · exact .inr (by omega)
 · intro hge
   have hge : k = 6 := by
    have : ¬ (k:Int) < 6 := by simpa using hge
    omega
   subst hge
   rw [← hT]
   have h6 : (.slice A 6 cap : Value) = .slice A Q.length cap := by rw [hlen]
   conv=>whnf
   refine (Qxd Q A cap w2 (hown.sl Qzm) (by omega)).mono ?_
   rintro _ w3 ⟨rfl,hx3⟩;conv=>whnf
   exact ⟨A,cap,T,by rw [h6],hown.ext hx3,hJk _ _ _ _ hJ2 (Mod.of_ext hx3),hT0,hTA,hM.trans (Mod.of_ext hx3)⟩
end Go.Proofs.YtopncieoolkhjaaGreatDoor
