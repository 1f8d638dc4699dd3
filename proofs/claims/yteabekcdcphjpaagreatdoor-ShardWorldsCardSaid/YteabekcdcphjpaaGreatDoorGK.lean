/- Several texts in one: SkC, Gt1, Sc2, Sc3, Sc4, Sc5. -/
import Derived.Test.YteabekcdcphjpaaGreatDoorGN
import Derived.Test.YteabekcdcphjpaaGreatDoorGI
import Derived.Test.YteabekcdcphjpaaGreatDoorHSfCount
import Derived.Test.YteabekcdcphjpaaGreatDoorGH
import Derived.Test.YteabekcdcphjpaaGreatDoorHSfRise
import Derived.Test.YteabekcdcphjpaaGreatDoorGC
set_option linter.unusedVariables false
set_option linter.unusedSimpArgs false
namespace Go.Proofs.YteabekcdcphjpaaGreatDoor
open Go.Se Go.RowKit Go.Sort
theorem Qly (a:ByteArray) (w:World) : Cal Tryz.prog 163 [.string a] w fun r w' => r = .bool false ∧ w' = w := by
 refine Fi Tryz.func163 rfl _ rfl rfl ?_;conv=>whnf
 exact ⟨by simp,rfl⟩
theorem Qlh (a b:ByteArray) (w:World) : Cal Tryz.prog 88 [.string a,.string b] w fun r w' => r = .int .i64 (Qkf a b) ∧ w' = w := by
 refine Fi Tryz.func88 rfl _ rfl rfl ?_;conv=>whnf
 refine (Qly a w).mono ?_
 rintro _ _ ⟨rfl,rfl⟩
 conv=>whnf
 refine (Qly b _).mono ?_
 rintro _ _ ⟨rfl,rfl⟩
 conv=>whnf
 constructor
 · intro h; cases h
 intro _
 conv=>whnf
 constructor
 · intro h; cases h
 intro _
 conv=>whnf
 constructor
 · intro h
   have h : bLt a b = true := h
   conv=>whnf
   exact ⟨by unfold Qkf; rw [if_pos h],rfl⟩
 intro h
 have h : bLt a b = false := h
 conv=>whnf
 constructor
 · intro k
   have k : bLt b a = true := by
    have k : (!(bLt a b || decide (a = b))) = true := k
    cases hh : bLt b a with
    | true => rfl
    | false =>
      have := Qbz h hh
      subst this
      simp at k
   conv=>whnf
   exact ⟨by unfold Qkf; rw [h,if_neg (by simp),if_pos k],rfl⟩
 intro k
 have k : bLt b a = false := by
  have k : (!(bLt a b || decide (a = b))) = false := k
  rw [h] at k
  have : a = b := by simpa using k
  subst this
  exact h
 conv=>whnf
 exact ⟨by unfold Qkf; rw [h,k,if_neg (by simp),if_neg (by simp)],rfl⟩
theorem Qlx (a:Int) (w:World) : Cal Tryz.prog 162 [.int .i64 a] w fun r w' => r = .bool false ∧ w' = w := by
 refine Fi Tryz.func162 rfl _ rfl rfl ?_;conv=>whnf
 exact ⟨by simp,rfl⟩
theorem Qnz (a b:Int) (w:World) : Cal Tryz.prog 87 [.int .i64 a,.int .i64 b] w fun r w' => r = .int .i64 (Qg7 a b) ∧ w' = w := by
 refine Fi Tryz.func87 rfl _ rfl rfl ?_;conv=>whnf
 refine (Qlx a w).mono ?_
 rintro _ _ ⟨rfl,rfl⟩
 conv=>whnf
 refine (Qlx b _).mono ?_
 rintro _ _ ⟨rfl,rfl⟩
 conv=>whnf
 constructor
 · intro h; cases h
 intro _
 conv=>whnf
 constructor
 · intro h; cases h
 intro _
 conv=>whnf
 constructor
 · intro h
   have h : a < b := by simpa using h
   conv=>whnf
   exact ⟨by unfold Qg7; rw [if_pos h],rfl⟩
 intro h
 have h : ¬ a < b := by simpa using h
 conv=>whnf
 constructor
 · intro k
   have k : b < a := by simpa using k
   conv=>whnf
   exact ⟨by unfold Qg7; rw [if_neg h,if_pos k],rfl⟩
 intro k
 have k : ¬ b < a := by simpa using k
 conv=>whnf
 exact ⟨by unfold Qg7; rw [if_neg h,if_neg k],rfl⟩
def Qyq (a b:Ct) : Int := orL [Qg7 b.2 a.2,Qkf a.1 b.1]
theorem Qyr (a b:Ct) (w:World) : Cal Tryz.prog 109 [.agg (Qd4 a).toArray,.agg (Qd4 b).toArray] w fun r w' => r = .int .i64 (Qyq a b) ∧ Gr w w' := by
 refine Fi Tryz.func109 rfl _ rfl rfl ?_;conv=>whnf
 intro b1 w1 hn1;conv=>whnf
 intro b2 w2 hn2
 have h1 := hn1.At.ext hn2.ext
 have h2 := hn2.At
 have hx := (Qn9 hn1).trans ((Qn9 hn2).trans (Gr.drew w2))
 conv=>whnf
 refine Dr .ext [0,1,2,3,5,6,7,8,4] [9,10,11,12] ?_;conv=>whnf
 replace h1 : At w2.drew b1 _ _ := h1
 replace h2 : At w2.drew b2 _ _ := h2
 generalize w2.drew = w3 at h1 h2 hx ⊢
 refine ⟨_,h2.one rfl,?_⟩;conv=>whnf
 refine ⟨_,h1.one rfl,?_⟩;conv=>whnf
 refine ⟨_,h1.one rfl,?_⟩;conv=>whnf
 refine ⟨_,h2.one rfl,?_⟩;conv=>whnf
 refine (Qnz _ _ _).mono ?_; rintro _ _ ⟨rfl,rfl⟩
 refine ⟨Ext.refl _,?_⟩;conv=>whnf
 refine (Qlh _ _ _).mono ?_; rintro _ _ ⟨rfl,rfl⟩;conv=>whnf
 intro b6 w6 hn6;conv=>whnf
 refine (Qu5 [Qg7 b.2 a.2,Qkf a.1 b.1] _ _ _ (Qcf (enc := Qku) Qct hn6) (by simp)).mono ?_
 rintro _ _ ⟨rfl,rfl⟩;conv=>whnf
 exact ⟨rfl,hx.trans (Qn9 hn6)⟩
def Ql5 (a b:Ct) : Bool := decide (b.2 < a.2) || (decide (a.2 = b.2) && bLt a.1 b.1)
theorem Qpv : ltOf Qyq = Ql5 := by
 funext a b
 unfold ltOf Qyq Ql5 orL Qg7 Qkf
 rcases Int.lt_trichotomy b.2 a.2 with h | h | h
 · simp [h]
 · rw [h]
   cases h1 : bLt a.1 b.1 <;> cases h2 : bLt b.1 a.1 <;> simp
 · have h1 : ¬ b.2 < a.2 := by omega
   have h2 : ¬ a.2 = b.2 := by omega
   simp [h,h1,h2]
theorem Qxc {a b:Ct} : Ql5 a b = true ↔ b.2 < a.2 ∨ (a.2 = b.2 ∧ bLt a.1 b.1 = true) := by simp [Ql5]
theorem Qxd {a b:Ct} : Ql5 a b = false ↔ ¬ b.2 < a.2 ∧ (a.2 = b.2 → bLt a.1 b.1 = false) := by
 rw [← Bool.not_eq_true,Qxc]
 constructor
 · intro h
   refine ⟨fun h1 => h (.inl h1),fun h1 => ?_⟩
   cases hb : bLt a.1 b.1 with
   | false => rfl
   | true => exact absurd (.inr ⟨h1,hb⟩) h
 · rintro ⟨h1,h2⟩ (h3 | ⟨h3,h4⟩)
   · exact h1 h3
   · rw [h2 h3] at h4; cases h4
theorem Qxb : Go.Sort.SWO Ql5 where
 irrefl x := by rw [Qxd]; exact ⟨by omega,fun _ => Qae _⟩
 trans x y z h k := by
  rw [Qxc] at *
  rcases h with h | ⟨h,h'⟩ <;> rcases k with k | ⟨k,k'⟩
  · exact .inl (by omega)
  · exact .inl (by omega)
  · exact .inl (by omega)
  · exact .inr ⟨by omega,Qbb h' k'⟩
 ntrans x y z h k := by
  rw [Qxd] at *
  refine ⟨by omega,fun he => ?_⟩
  have h1 := h.1
  have k1 := k.1
  exact Qyj (h.2 (by omega)) (k.2 (by omega))
theorem Qvk (l:List Ct) (A:Option Addr) (c base:Nat) (w:World) (hown:Own Qd4 2 98 base w A c l) (hl:l.length < 1000000) :
 Cal Tryz.prog 84 [.slice A l.length c,.func (.func 109) #[] #[]] w fun r w' => r = .tuple #[] ∧ ∃ F,F.Perm l ∧ Srt Ql5 F ∧ Sl Qd4 2 w' A F ∧ ∀ w0,Ext w0 w → w0.heap.size ≤ base → Ext w0 w' := by
 have := Qsu Tryz.sortCount (by decide) Tryz.isAgg98 Tryz.sizeOf98 Qko Qpa Qyq (by rw [Qpv]; exact Qxb) ⟨_,Tryz.func84,rfl,rfl⟩ (enters_of Tryz.func109 (by kernel_rfl) rfl) l A c base w hown hl (fun x y w' _ => Qyr x y w') (cb := #[])
 rw [Qpv] at this
 exact this
end Go.Proofs.YteabekcdcphjpaaGreatDoor
namespace Go.Proofs.YteabekcdcphjpaaGreatDoor
open Go.Se Go.RowKit
theorem Q9b : Tryz.prog.underlying 182 = some (.map 9 2) := by kernel_rfl
theorem Q7b {α:Type} (f:α → Nat) : ∀ {l:List α} {x:α},x ∈ l → f x ≤ (l.map f).sum
 | [],x,h => by simp at h
 | a :: l,x,h => by
   simp only [List.map_cons,List.sum_cons]
   rcases List.mem_cons.1 h with rfl | h
   · omega
   · have := Q7b f h; omega
set_option maxHeartbeats 1000000 in
theorem Qv0 (w:World) (S:Nat → Prop) (p:Nat) (half:Int) (rs:List Row) (h:Qef w S p half rs) (person:ByteArray) (now:Int) (hnow:now ≤ 9223372036854775807) (hm:∀ r ∈ rs,Xj r.1 = true ∧ 0 ≤ r.1.at_) (hl:(rs.map fun r => r.2.length).sum < 1000000) (hl2:rs.length < 1000000) :
 Cal Tryz.prog 47 [.pointer (some ⟨p,0,none⟩),.string person,.int .i64 now] w fun r w' => ∃ A c F,r = .slice A F.length c ∧ F.Perm (Q6q half now (rowsOf rs person)) ∧ Srt Ql5 F ∧ Sl Qd4 2 w' A F ∧ (∀ a,A = some a → w.heap.size ≤ a.block) ∧ Ext w w' := by
 obtain ⟨bp,b,D,L,R,Tg,h⟩ := h
 have hT := Qm8 person h.tags
 have hown := (h.rows.own person).1
 have hsl0 := hown.sl Qlk
 have hmp : ∀ r ∈ rowsOf rs person,Xj r.1 = true ∧ 0 ≤ r.1.at_ := fun r hr => hm r (List.mem_filter.1 hr).1
 have hsum : ((rowsOf rs person).map fun r => r.2.length).sum < 1000000 := by
  have : ∀ l : List Row,((rowsOf l person).map fun r => r.2.length).sum ≤ (l.map fun r => r.2.length).sum := by
   intro l
   induction l with
   | nil => simp [rowsOf]
   | cons a l ih =>
     unfold rowsOf at *
     simp only [List.filter_cons]
     split
     · simp only [List.map_cons,List.sum_cons]; omega
     · simp only [List.map_cons,List.sum_cons]; omega
  have := this rs
  omega
 have hrl : (rowsOf rs person).length ≤ rs.length := List.length_filter_le _ _
 refine Fi Tryz.func47 rfl _ rfl rfl ?_;conv=>whnf
 intro b1 w1 hn1; (conv=>whnf);repeat(refine Sg ?_;(conv=>whnf))
 have hm1 : MapAt w1 b1 Value.string [] := MapAt.new hn1
 have hx1 := hn1.ext
 have e1 := hn1.block
 have hhead := h.head
 refine ⟨.map (some bp),(h.head.ext hx1).one rfl,?_⟩; (conv=>whnf);repeat(refine Sg ?_;(conv=>whnf))
 have hrows := h.rows.look Qnc Xi (e := ty177) ty177_ok rfl person (cl := .ext) (Qh3 h.rows.map.lt)
 refine ⟨_,fun w' hw => (by cases hw; exact hrows w1 hx1),?_⟩; (conv=>whnf);repeat(refine Sg ?_;(conv=>whnf))
 clear hrows
 generalize rowsOf rs person = rows at *
 generalize Qay D person = row at *
 generalize (rowAt L person).1 = A at *
 generalize (rowAt L person).2 = c at *
 have hlen : row.length = rows.length := hT.len
 refine Qg Qa (fun (q:Nat × List (ByteArray × Int)) w' => q.1 ≤ row.length ∧ Ext w w' ∧ b1 < w'.heap.size ∧ q.2 = Qx1 half now (rows.take q.1) ∧ MapAt w' b1 Value.string (Xk vi q.2))
  (fun | (k,_) => [(0,.pointer (some ⟨p,0,none⟩)),(2,.int .i64 now),(7,.map (some b1)),(22,.slice A row.length c),(23,.int .i64 row.length),(24,.int .i64 k)]) (fun q => row.length - q.1) (0,[]) ⟨by simp,hx1,hm1.lt,rfl,hm1⟩ ⟨rfl,rfl,rfl,rfl,rfl,rfl,trivial⟩ ?_
 rintro ⟨k,m⟩ w2 ⟨hk,hx2,hb2,hmm,hmap⟩
 simp only at hk hmm hmap
 (conv=>whnf);repeat(refine Sg ?_;(conv=>whnf))
 constructor
 · intro hlt
   have hlt : k < row.length := by simpa using hlt
   obtain ⟨a,hA,hc⟩ := (hsl0.ext hx2).get hlt
   subst hA
   obtain ⟨q1,q2,q3,q4⟩ := hT.ev k row[k] (rows[k]'(by omega)) (List.getElem?_eq_getElem _) (List.getElem?_eq_getElem _)
   have hmk := hmp _ (List.getElem_mem (show k < rows.length by omega))
   have hrb := Nat.lt_of_le_of_lt (Q7b (fun r:Row => r.2.length) (List.getElem_mem (show k < rows.length by omega))) hsum
   have htk : Qx1 half now (rows.take (k + 1)) = Qel half now m (rows[k]'(by omega)) := by
    rw [List.take_succ_eq_append_getElem (by omega),Qiq,hmm]
   generalize rows[k]'(by omega) = r at q1 q2 q3 hmk htk hrb
   generalize row[k] = d at hc q1 q2 q3 q4
   obtain ⟨d1,dA,dn,dc⟩ := d
   simp only at q1 q2 q3 q4
   subst q1
   subst q2
   (conv=>whnf);repeat(refine Sg ?_;(conv=>whnf))
   refine ⟨a,⟨rfl,by omega,by omega⟩,?_⟩; (conv=>whnf);repeat(refine Sg ?_;(conv=>whnf))
   refine ⟨Qi2 (r.1,dA,r.2.length,dc),⟨rfl,hc⟩,?_⟩; (conv=>whnf);repeat(refine Sg ?_;(conv=>whnf))
   intro b3 w3 hn3; (conv=>whnf);repeat(refine Sg ?_;(conv=>whnf))
   refine Qj Qa (e := ty184) rfl hn3.At rfl rfl rfl (Qll _) fun w4 h4 ho4 => ?_
   have h4' : At w4 b3 184 ([] ++ (evC r.1 ++ [.slice dA r.2.length dc])) := h4
   have e3 := hn3.block
   have hx24 : Ext w2 w4 := ho4.ext hn3.ext (by omega)
   have hx4 : Ext w w4 := hx2.trans hx24
   have hmap4 := hmap.ext hx24
   clear ho4
   (conv=>whnf);repeat(refine Sg ?_;(conv=>whnf))
   refine ⟨.int .i64 r.1.at_,h4.one rfl,?_⟩; (conv=>whnf);repeat(refine Sg ?_;(conv=>whnf))
   constructor
   · intro hgt
     have hgt : now < r.1.at_ := by simpa using hgt
     have hst : Qel half now m r = m := by unfold Qel; rw [if_pos hgt]
     (conv=>whnf);repeat(refine Sg ?_;(conv=>whnf))
     refine ⟨_,wrap_succ (by omega),?_⟩; (conv=>whnf);repeat(refine Sg ?_;(conv=>whnf))
     exact ⟨(k + 1,m),by simp only; omega,⟨by simp only; omega,hx4,hmap4.lt,by rw [htk,hst],hmap4⟩,⟨rfl,rfl,rfl,rfl,rfl,rfl,trivial⟩⟩
   · intro hgt
     have hgt : ¬ now < r.1.at_ := by simpa using hgt
     have hst : Qel half now m r = r.2.foldl (Qck (Q05 half now r.1)) m := by unfold Qel; rw [if_neg hgt]
     have hb := Qos (half := half) (now := now) hmk.1
     (conv=>whnf);repeat(refine Sg ?_;(conv=>whnf))
     refine Dr .ext [0,1,3,4,5,6,7,8,9,10,11,2] [12,13,14] ?_;conv=>whnf
     refine ⟨evC r.1,⟨rfl,At.sub h4'⟩,?_⟩; (conv=>whnf);repeat(refine Sg ?_;(conv=>whnf))
     refine ⟨.int .i64 r.1.at_,h4.one rfl,?_⟩; (conv=>whnf);repeat(refine Sg ?_;(conv=>whnf))
     refine ⟨now - r.1.at_,wrap_eq rfl ⟨by omega,by omega⟩,?_⟩; (conv=>whnf);repeat(refine Sg ?_;(conv=>whnf))
     refine ⟨_,(hhead.ext hx4).one rfl,?_⟩; (conv=>whnf);repeat(refine Sg ?_;(conv=>whnf))
     replace hx4 := hx4.drew
     replace h4 : At w4.drew b3 _ _ := h4
     replace hmap4 := hmap4.ext (Ext.refl w4).drew
     refine (Qgr r.1 w4.drew).mono ?_
     rintro _ w5 ⟨rfl,hx5⟩
     refine ⟨hx5,?_⟩; (conv=>whnf);repeat(refine Sg ?_;(conv=>whnf))
     refine (Qne (now - r.1.at_) half ⟨by omega,by omega⟩ w5).mono ?_
     rintro _ _ ⟨rfl,rfl⟩; (conv=>whnf);repeat(refine Sg ?_;(conv=>whnf))
     have hwr : Q05 half now r.1 = IntKind.i64.wrap (Qw r.1 * Qa0 (now - r.1.at_) half) := by
      rw [show Qw r.1 * Qa0 (now - r.1.at_) half = Q05 half now r.1 from rfl]
      exact wrap_eq rfl ⟨by omega,by omega⟩
     refine ⟨Q05 half now r.1,hwr,?_⟩; (conv=>whnf);repeat(refine Sg ?_;(conv=>whnf))
     clear hwr
     replace hx4 := hx4.trans hx5
     replace h4 := h4.ext hx5
     replace hmap4 := hmap4.ext hx5
     refine ⟨_,h4.one rfl,?_⟩; (conv=>whnf);repeat(refine Sg ?_;(conv=>whnf))
     have hq3 := q3.ext hx4
     generalize Q05 half now r.1 = n at hb hst ⊢
     refine Qg Qa (fun (q:Nat × List (ByteArray × Int)) w' => q.1 ≤ r.2.length ∧ Ext w w' ∧ q.2 = (r.2.take q.1).foldl (Qck n) m ∧ MapAt w' b1 Value.string (Xk vi q.2))
      (fun | (j,_) => [(0,.pointer (some ⟨p,0,none⟩)),(2,.int .i64 now),(7,.map (some b1)),(22,.slice (some a) row.length c),(23,.int .i64 row.length),(24,.int .i64 k),(10,.int .i64 n),(48,.slice dA r.2.length dc),(49,.int .i64 r.2.length),(50,.int .i64 j)]) (fun q => r.2.length - q.1) (0,m) ⟨by simp,hx4,rfl,hmap4⟩ ⟨rfl,rfl,rfl,rfl,rfl,rfl,rfl,rfl,rfl,rfl,trivial⟩ ?_
     clear hmap4 h4 h4'
     rintro ⟨j,m'⟩ w6 ⟨hj,hx6,hm',hmap6⟩
     simp only at hj hm' hmap6
     (conv=>whnf);repeat(refine Sg ?_;(conv=>whnf))
     constructor
     · intro hlt2
       have hlt2 : j < r.2.length := by simpa using hlt2
       obtain ⟨a2,hA2,hc2⟩ := (q3.ext hx6).get hlt2
       subst hA2
       have hjk : (r.2.take (j + 1)).foldl (Qck n) m = Qck n m' (r.2[j]) := by
        rw [List.take_succ_eq_append_getElem hlt2,Qv5,hm']
       generalize r.2[j] = t at hc2 hjk
       (conv=>whnf);repeat(refine Sg ?_;(conv=>whnf))
       refine ⟨a2,⟨rfl,by omega,by omega⟩,?_⟩; (conv=>whnf);repeat(refine Sg ?_;(conv=>whnf))
       refine ⟨.string t,Qv hc2,?_⟩; (conv=>whnf);repeat(refine Sg ?_;(conv=>whnf))
       refine ⟨_,Qby Q9b (Qp Xi) (e := ty2) ty2_ok Qo hmap6 t,?_⟩
       have hz : (Qc (Xk vi m') t).getD (ty2).zero = vi ((Qc m' t).getD 0) := by
        unfold Xk; rw [Qfv]; cases Qc m' t <;> rfl
       rw [hz]
       (conv=>whnf);repeat(refine Sg ?_;(conv=>whnf))
       refine ⟨_,rfl,?_⟩; (conv=>whnf);repeat(refine Sg ?_;(conv=>whnf))
       refine Qr Q9b (Qp Xi) hmap6 t _ fun w7 hmap7 ho7 => ?_
       have hx7 : Ext w w7 := ho7.ext hx6 (by omega)
       have hmap7 : MapAt w7 b1 Value.string (Xk vi (Qck n m' t)) := by
        have e : Qz (Xk vi m') t (vi (IntKind.i64.wrap ((Qc m' t).getD 0 + n))) = Xk vi (Qck n m' t) := by unfold Qck Xk; rw [Qgj]
        rw [← e]; exact hmap7
       (conv=>whnf);repeat(refine Sg ?_;(conv=>whnf))
       refine ⟨_,wrap_succ (by omega),?_⟩; (conv=>whnf);repeat(refine Sg ?_;(conv=>whnf))
       exact ⟨(j + 1,Qck n m' t),by simp only; omega,⟨by simp only; omega,hx7,hjk.symm,hmap7⟩,⟨rfl,rfl,rfl,rfl,rfl,rfl,rfl,rfl,rfl,rfl,trivial⟩⟩
     · intro hge2
       have hge2 : r.2.length ≤ j := by simpa using hge2
       rw [List.take_of_length_le hge2] at hm'
       (conv=>whnf);repeat(refine Sg ?_;(conv=>whnf))
       refine ⟨_,wrap_succ (by omega),?_⟩; (conv=>whnf);repeat(refine Sg ?_;(conv=>whnf))
       exact ⟨(k + 1,m'),by simp only; omega,⟨by simp only; omega,hx6,hmap6.lt,by rw [htk,hst,hm'],hmap6⟩,⟨rfl,rfl,rfl,rfl,rfl,rfl,trivial⟩⟩
 · intro hge
   have hge : row.length ≤ k := by simpa using hge
   rw [List.take_of_length_le (by omega)] at hmm
   have hML : m.length ≤ (rows.map fun r => r.2.length).sum := by rw [hmm]; exact Qx2 half now rows
   unfold Q6q
   rw [← hmm]
   clear hmm
   (conv=>whnf);repeat(refine Sg ?_;(conv=>whnf))
   refine map_range Q9b hmap fun w3 hi3 hx3 => ?_
   have hrw : w.heap.size ≤ w2.heap.size := hx2.size
   generalize hr : w2.heap.size = r at hi3 ⊢
   have hx3 := hx2.trans hx3
   (conv=>whnf);repeat(refine Sg ?_;(conv=>whnf))
   refine Qg Qa (fun (q:List (ByteArray × Int) × Option Addr × Nat × List Ct) w' => Ext w w' ∧ Iter w' r b1 Value.string (Xk vi m) (Xk vi q.1) ∧ q.2.2.2 = q.1.filter (fun x => decide (0 < x.2)) ∧ Own Qd4 2 98 w.heap.size w' q.2.1 q.2.2.1 q.2.2.2 ∧ ∀ a,q.2.1 = some a → a.block ≠ b1 ∧ a.block ≠ r)
    (fun | (_,A,c,F) => [(62,.pointer (some ⟨r,0,none⟩)),(13,.slice A F.length c)]) (fun q => m.length - q.1.length) ([],none,0,[]) ⟨hx3,hi3,rfl,Own.nil,by simp⟩ ⟨rfl,rfl,trivial⟩ ?_
   clear hi3 hx3
   rintro ⟨vs,A',c',F⟩ w4 ⟨hx4,hi4,hF,hown4,hne4⟩
   simp only at hi4 hF hown4 hne4
   have hFl : F.length ≤ vs.length := by rw [hF]; exact List.length_filter_le _ _
   (conv=>whnf);repeat(refine Sg ?_;(conv=>whnf))
   refine Qao hi4 (fun hp => ?_) (fun x w5 hin hnew hlt hi5 ho5 hen => ?_)
   · have hp : vs.Perm m := by
      have h1 := hp.map (fun x:ByteArray × Value => (x.1,match x.2 with | .int _ n => n | _ => 0))
      simpa [Xk,List.map_map,Function.comp_def,vi] using h1
     have hvl := hp.length_eq
     (conv=>whnf);repeat(refine Sg ?_;(conv=>whnf))
     constructor
     · intro hh; cases hh
     intro _
     (conv=>whnf);repeat(refine Sg ?_;(conv=>whnf))
     refine (Qvk F A' c' w.heap.size w4 hown4 (by omega)).mono ?_
     rintro _ w6 ⟨rfl,F6,hp6,hs6,hsl6,hx6⟩
     (conv=>whnf);repeat(refine Sg ?_;(conv=>whnf))
     refine ⟨A',c',F6,by rw [hp6.length_eq],hp6.trans ?_,hs6,hsl6,fun a ha => (hown4.block ha).1,hx6 w hx4 (Nat.le_refl _)⟩
     rw [hF]
     exact hp.filter _
   · obtain ⟨y,hy,rfl⟩ := List.mem_map.1 hin
     have hlt : vs.length < m.length := by simpa [Xk] using hlt
     have hvs : Xk vi vs ++ [(y.1,vi y.2)] = Xk vi (vs ++ [y]) := by simp [Xk]
     rw [hvs] at hi5
     have hx5 := ho5.ext hx4 (by omega)
     have hown5 := hown4.keep (w' := w5) fun a ha => ho5.block a.block (hne4 a ha).2
     (conv=>whnf);repeat(refine Sg ?_;(conv=>whnf))
     constructor
     · intro _
       (conv=>whnf);repeat(refine Sg ?_;(conv=>whnf))
       refine Xc (hen w5 rfl rfl) ?_
       (conv=>whnf);repeat(refine Sg ?_;(conv=>whnf))
       constructor
       · intro hpos
         have hpos : 0 < y.2 := by simpa using hpos
         (conv=>whnf);repeat(refine Sg ?_;(conv=>whnf))
         intro b6 w6 hn6; (conv=>whnf);repeat(refine Sg ?_;(conv=>whnf))
         refine Qcl Q6f (l := F) (news := [y]) rfl (hown5.ext hn6.ext) rfl (Q6f.new1 (x := y) hn6) (by simp; omega) (Nat.le_trans hx5.size hn6.ext.size) fun A7 c7 w7 hown7 hg7 hA7 => ?_
         have hx7 := Qag (hx5.trans hn6.ext) hg7 (Qg3 hown5)
         have hi6 := hi5.ext hn6.ext
         have hi7 : Iter w7 r b1 Value.string (Xk vi m) (Xk vi (vs ++ [y])) := hi6.keep (hg7.block b1 hi6.map.lt fun e => by
          cases A' with
          | none => simp at e
          | some x => simp at e; exact (hne4 x rfl).1 e.symm) (hg7.block r hi6.lt fun e => by
          cases A' with
          | none => simp at e
          | some x => simp at e; exact (hne4 x rfl).2 e.symm)
         have hne7 : ∀ a,A7 = some a → a.block ≠ b1 ∧ a.block ≠ r := by
          intro x hx
          subst hx
          rcases hA7 with h | h | h
          · exact hne4 x h.symm
          · cases A' with
            | none => simp at h
            | some y => simp at h; rw [h]; exact hne4 y rfl
          · simp at h
            have := hi6.map.lt
            have := hi6.lt
            omega
         generalize hF1 : F ++ [y] = F1 at hown7 ⊢
         (conv=>whnf);repeat(refine Sg ?_;(conv=>whnf))
         exact ⟨(vs ++ [y],A7,c7,F1),by simp; omega,⟨hx7,hi7,by simp only; rw [← hF1,hF]; simp [hpos],hown7,hne7⟩,⟨rfl,rfl,trivial⟩⟩
       · intro hpos
         have hpos : ¬ 0 < y.2 := by simpa using hpos
         (conv=>whnf);repeat(refine Sg ?_;(conv=>whnf))
         exact ⟨(vs ++ [y],A',c',F),by simp; omega,⟨hx5,hi5,by simp only; rw [hF]; simp [hpos],hown5,hne4⟩,⟨rfl,rfl,trivial⟩⟩
     · intro hh; cases hh
open Go.Maps Go.Sort Go.Shelf
theorem Qgm (w:World) (p:Nat) (width n:Int) (bs br:Nat) (hp:At w p 133 [vi width,vi n,.map (some bs),.map (some br)]) (hw:1 ≤ width ∧ width ≤ 1099511627776) (t:Int) (ht:-9223372036854775807 ≤ t ∧ t ≤ 9223372036854775807) :
 Cal Tryz.prog 80 [.pointer (some ⟨p,0,none⟩),.int .i64 t] w fun r w' => r = .int .i64 (t / width) ∧ w' = w := by
 have hd : t.tdiv width = t / width + if 0 ≤ t ∨ width ∣ t then 0 else width.sign := Int.tdiv_eq_ediv
 have hm := Int.tmod_eq_emod (a := t) (b := width)
 have hs : width.sign = 1 := Int.sign_eq_one_of_pos (by omega)
 have h5 : 0 ≤ t % width := Int.emod_nonneg _ (by omega)
 have h6 : t % width < width := Int.emod_lt_of_pos _ (by omega)
 have hna : (width.natAbs : Int) = width := by omega
 rw [hs] at hd
 have hr1 : -9223372036854775807 ≤ t / width := by
  have := Int.ediv_emod_unique (a := t) (b := width) (r := t % width) (q := t / width) (by omega)
  rcases Int.lt_or_le t 0 with h | h
  · have : t ≤ t / width := by
     rw [Int.le_ediv_iff_mul_le (by omega)]
     have : t * width ≤ t * 1 := Int.mul_le_mul_of_nonpos_left (by omega) (by omega)
     omega
    omega
  · have := Int.ediv_nonneg h (show 0 ≤ width by omega); omega
 have hr2 : t / width ≤ 9223372036854775806 ∨ (0 ≤ t ∧ t / width ≤ t) := by
  rcases Int.lt_or_le t 0 with h | h
  · left
    have := Int.ediv_neg_of_neg_of_pos h (show 0 < width by omega)
    omega
  · right; exact ⟨h,Int.ediv_le_self _ h⟩
 refine Fi Tryz.func80 rfl _ rfl rfl ?_;conv=>whnf
 refine ⟨_,hp.one0,?_⟩;conv=>whnf
 by_cases hc : 0 ≤ t ∨ width ∣ t
 · rw [if_pos hc] at hd hm
   refine ⟨t / width,⟨by omega,wrap_eq (by omega) ⟨by omega,by omega⟩⟩,?_⟩;conv=>whnf
   refine Qb Qa ?_;conv=>whnf
   refine ⟨_,hp.one0,?_⟩;conv=>whnf
   refine ⟨t.tmod width,⟨by omega,rfl⟩,?_⟩;conv=>whnf
   constructor
   · intro q
     have q : t.tmod width < 0 := by simpa using q
     omega
   · intro _
     conv=>whnf
     exact ⟨rfl,rfl⟩
 · rw [if_neg hc] at hd hm
   have hneg : t < 0 := by omega
   have hd0 := Int.ediv_neg_of_neg_of_pos hneg (show 0 < width by omega)
   refine ⟨t / width + 1,⟨by omega,wrap_eq (by omega) ⟨by omega,by omega⟩⟩,?_⟩;conv=>whnf
   refine Qb Qa ?_;conv=>whnf
   refine ⟨_,hp.one0,?_⟩;conv=>whnf
   refine ⟨t.tmod width,⟨by omega,rfl⟩,?_⟩;conv=>whnf
   constructor
   · intro _
     conv=>whnf
     refine ⟨t / width,wrap_eq (by omega) ⟨by omega,by omega⟩,?_⟩;conv=>whnf
     exact ⟨rfl,rfl⟩
   · intro q
     have q : ¬ t.tmod width < 0 := by simpa using q
     omega
theorem Qgv.ext {w w1:World} {S:Nat → Prop} {p:Nat} {width n:Int} {s:Xq} (h:Qgv w S p width n s) (hx:Ext w w1) : Qgv w1 S p width n s := h.keep fun k hk hs => ⟨hx.block k hk,hs⟩
end Go.Proofs.YteabekcdcphjpaaGreatDoor
namespace Go.Proofs.YteabekcdcphjpaaGreatDoor
open Go.Se Go.RowKit
end Go.Proofs.YteabekcdcphjpaaGreatDoor
