/- Several texts in one: So1, So2, So3, So4, So5, So6, Ew1, Ew2, Ew3, Txt, Onc, Lst, Wo1, Jo1, Rw. -/
import Derived.Test.YteabekcdcphjpaaGreatDoorGB
import Derived.Test.YteabekcdcphjpaaGreatDoorHShelf
import Derived.Test.YteabekcdcphjpaaGreatDoorGA
import Derived.Laws.Cover3
import Derived.Laws.Pointers
import Derived.Lib.IndexBytes
import Derived.Lib.SplitLaws
import Derived.Lib.CountLaws
set_option linter.unusedVariables false
set_option linter.unusedSimpArgs false
namespace Go.Proofs.YteabekcdcphjpaaGreatDoor
open Go.Se Go.RowKit
theorem Qbq {P:Program} {f:FuncId} {args:List Value} {w:World} {v:Value} {Q:World → Prop} (ok:Qox P f) (h:Calls P f args.toArray w fun e w' => e = .returned v ∧ Q w') {R:Value → World → Prop} (hR:∀ w',Q w' → R v w') : Cal P f args w R :=
 ⟨ok,h.mono fun e w' ⟨he,hq⟩ => ⟨v,he,hR w' hq⟩⟩
theorem Qp3 : Qox Tryz.prog 199 := ⟨_,Tryz.func199,rfl,rfl⟩
theorem Qm4 (a b:ByteArray) (w:World) : Cal Tryz.prog 199 [.string a,.string b] w fun r w' => r = .int .i64 (Qkf a b) ∧ w' = w :=
 Qbq Qp3 (Tryz.strings_Compare a b w) fun w' hw => ⟨by rw [Q7w],hw⟩
theorem Qn5 (a:Int) (w:World) : Cal Tryz.prog 245 [.int .i64 a] w fun r w' => r = .bool false ∧ w' = w := by
 refine Fi Tryz.func245 rfl _ rfl rfl ?_;conv=>whnf
 exact ⟨by simp,rfl⟩
theorem Qlg (a b:Int) (w:World) : Cal Tryz.prog 198 [.int .i64 a,.int .i64 b] w fun r w' => r = .int .i64 (Qg7 a b) ∧ w' = w := by
 refine Fi Tryz.func198 rfl _ rfl rfl ?_;conv=>whnf
 refine (Qn5 a w).mono ?_
 rintro _ _ ⟨rfl,rfl⟩
 conv=>whnf
 refine (Qn5 b _).mono ?_
 rintro _ _ ⟨rfl,rfl⟩
 conv=>whnf
 constructor
 · intro h; cases h
 intro _
 conv=>whnf
 constructor
 · intro h; cases h
 intro _
 conv=>whnf
 constructor
 · intro h
   have h : a < b := by simpa using h
   conv=>whnf
   exact ⟨by unfold Qg7; rw [if_pos h],rfl⟩
 intro h
 have h : ¬ a < b := by simpa using h
 conv=>whnf
 constructor
 · intro k
   have k : b < a := by simpa using k
   conv=>whnf
   exact ⟨by unfold Qg7; rw [if_neg h,if_pos k],rfl⟩
 intro k
 have k : ¬ b < a := by simpa using k
 conv=>whnf
 exact ⟨by unfold Qg7; rw [if_neg h,if_neg k],rfl⟩
def Qku (z:Int) : List Value := [.int .i64 z]
theorem Qct (z:Int) : (Qku z).length = 1 := rfl
theorem Q5r (z:Int) : ∀ u ∈ Qku z,u.oneCell' = true := by simp [Qku,Value.oneCell']
abbrev SlI := Sl Qku 1
def orL (l:List Int) : Int := (l.find? (fun z => decide (z ≠ 0))).getD 0
theorem Qu5 (l:List Int) (A:Option Addr) (c:Nat) (w:World) (hs:SlI w A l) (hl:l.length < 1000000000000) :
 Cal Tryz.prog 86 [.slice A l.length c] w fun r w' => r = .int .i64 (orL l) ∧ w' = w := by
 refine Fi Tryz.func86 rfl _ rfl rfl ?_;conv=>whnf
 refine Qg Qa (fun (k:Nat) w' => k ≤ l.length ∧ w' = w ∧ ∀ i (hi:i < l.length),i < k → l[i] = 0)
  (fun k => [(6,.slice A l.length c),(7,.int .i64 l.length),(8,.int .i64 k),(3,.int .i64 0)]) (fun k => l.length - k) 0 ⟨by omega,rfl,fun i _ h => by omega⟩ ⟨rfl,rfl,rfl,rfl,trivial⟩ ?_
 rintro k w1 ⟨hk,rfl,hall⟩
 conv=>whnf
 constructor
 · intro hlt
   have hlt : k < l.length := by simpa using hlt
   conv=>whnf
   obtain ⟨a,rfl,hc⟩ := hs.get hlt
   refine ⟨a,⟨rfl,by omega,by omega⟩,?_⟩;conv=>whnf
   refine ⟨.int .i64 l[k],Qv hc,?_⟩;conv=>whnf
   constructor
   · intro h
     have h : l[k] ≠ 0 := by simpa using h
     conv=>whnf
     refine ⟨?_,rfl⟩
     unfold orL
     have : l.find? (fun z => decide (z ≠ 0)) = some l[k] := by
      rw [List.find?_eq_some_iff_getElem]
      refine ⟨by simpa using h,k,hlt,rfl,fun j hj => ?_⟩
      rw [hall j (by omega) hj]; simp
     rw [this]; rfl
   · intro h
     have h : l[k] = 0 := by simpa using h
     conv=>whnf
     refine ⟨_,wrap_succ (by omega),?_⟩;conv=>whnf
     refine ⟨k + 1,by omega,⟨by omega,rfl,fun i hi hik => ?_⟩,⟨rfl,rfl,rfl,rfl,trivial⟩⟩
     by_cases e : i = k
     · subst e; exact h
     · exact hall i hi (by omega)
 · intro hge
   have hge : l.length ≤ k := by simpa using hge
   conv=>whnf
   refine ⟨?_,rfl⟩
   have : l.find? (fun z => decide (z ≠ 0)) = none := by
    rw [List.find?_eq_none]
    intro x hx
    obtain ⟨i,hi,rfl⟩ := List.getElem_of_mem hx
    rw [hall i hi (by omega)]; simp
   unfold orL
   rw [this]; rfl
theorem Qbc (a b:Ev) (w:World) : Cal Tryz.prog 144 [evV a,evV b] w fun r w' => r = .int .i64 (Qjy a b) ∧ Ext w w' := by
 refine Fi Tryz.func144 rfl _ rfl rfl ?_;conv=>whnf
 intro b1 w1 hn1;conv=>whnf
 intro b2 w2 hn2
 have h1 := hn1.At.ext hn2.ext
 have h2 := hn2.At
 have hx := hn1.ext.trans hn2.ext
 conv=>whnf
 refine Dr .ext [0,1,2,3,5,6,7,8,10,11,12,13,4,9] [14,15,16,17] ?_;conv=>whnf
 replace h1 : At w2.drew b1 _ _ := h1
 replace h2 : At w2.drew b2 _ _ := h2
 replace hx : Ext w w2.drew := hx.drew
 generalize w2.drew = w3 at h1 h2 hx ⊢
 refine ⟨_,h1.one rfl,?_⟩;conv=>whnf
 refine ⟨_,h2.one rfl,?_⟩;conv=>whnf
 refine ⟨_,h1.one0,?_⟩;conv=>whnf
 refine ⟨_,h2.one0,?_⟩;conv=>whnf
 refine ⟨_,h1.one rfl,?_⟩;conv=>whnf
 refine ⟨_,h2.one rfl,?_⟩;conv=>whnf
 refine (Qlg _ _ _).mono ?_; rintro _ _ ⟨rfl,rfl⟩
 refine ⟨Ext.refl _,?_⟩;conv=>whnf
 refine (Qm4 _ _ _).mono ?_; rintro _ _ ⟨rfl,rfl⟩
 refine ⟨Ext.refl _,?_⟩;conv=>whnf
 refine (Qlg _ _ _).mono ?_; rintro _ _ ⟨rfl,rfl⟩;conv=>whnf
 intro b6 w6 hn6;conv=>whnf
 refine (Qu5 [Qg7 a.at_ b.at_,Qkf a.src b.src,Qg7 a.num b.num] _ _ _ (Qcf (enc := Qku) Qct hn6) (by simp)).mono ?_
 rintro _ _ ⟨rfl,rfl⟩;conv=>whnf
 refine ⟨?_,hx.trans hn6.ext⟩
 unfold Qjy orL
 congr 1
 by_cases p : Qg7 a.at_ b.at_ = 0
 · by_cases q : Qkf a.src b.src = 0
   · by_cases r : Qg7 a.num b.num = 0 <;> simp [p,q,r]
   · simp [p,q]
 · simp [p]
def Blk (A:Option Addr) (k:Nat) : Prop := ∃ a,A = some a ∧ k = a.block
theorem Only.blk {w w':World} {a:Addr} (h:Only w w' a.block) : Mod (Blk (some a)) w w' := h.mod.mono fun k _ e => ⟨a,rfl,e⟩
theorem X9 {w w1 w2:World} {S:Nat → Prop} (hx:Ext w w1) (hm:Mod S w1 w2) (h:∀ k,S k → w.heap.size ≤ k) : Ext w w2 :=
 ⟨hm.os.trans hx.os,hm.tape.trans hx.tape,hm.output.trans hx.output,Nat.le_trans hx.size hm.size,fun i hi => (hm.block i (Nat.lt_of_lt_of_le hi hx.size) (fun hs => by have := h i hs; omega)).trans (hx.block i hi)⟩
section
variable {α:Type}
theorem Qk0 (P r s:List α) (u v:α) : (P ++ u :: (r ++ v :: s))[P.length]? = some u := by simp
theorem Qk1 (P r s:List α) (u v:α) : (P ++ u :: (r ++ v :: s))[P.length + 1 + r.length]? = some v := by
 rw [List.getElem?_append_right (by omega),show P.length + 1 + r.length - P.length = r.length + 1 by omega]
 simp
theorem Qqv (P r s:List α) (u v:α) : ((P ++ u :: (r ++ v :: s)).set P.length v).set (P.length + 1 + r.length) u = P ++ v :: (r ++ u :: s) := by
 rw [List.set_append_right _ _ (by omega),Nat.sub_self,List.set_cons_zero,List.set_append_right _ _ (by omega),show P.length + 1 + r.length - P.length = r.length + 1 by omega,List.set_cons_succ,List.set_append_right _ _ (by omega),Nat.sub_self,List.set_cons_zero]
theorem Qs8 (P r s:List α) (u v:α) : ((P ++ u :: (r ++ v :: s)).set (P.length + 1 + r.length) u).set P.length v = P ++ v :: (r ++ u :: s) := by
 rw [List.set_comm _ _ (by omega),Qqv]
theorem Qta {x:List α} {k:Nat} (h:k < x.length) : x = x.take k ++ x[k] :: x.drop (k + 1) := by
 rw [← List.drop_eq_getElem_cons h,List.take_append_drop]
end
theorem Qcx {w:World} {A:Option Addr} {c base:Nat} {d:List Ev} {k:Nat} {x:Ev} (h:Own evC 8 66 base w A c d) (hk:d[k]? = some x) : ∃ a,A = some a ∧ X7 w (a.add (k * 8)) (evC x) :=
 h.sl Qb1 k x hk
theorem Qdh {m n:Nat} (h:n ≤ m) (hm:m < 9223372036854775807) : ((m - n : Nat) : Int) = IntKind.i64.wrap ((m:Int) - (n:Int)) := by
 rw [← wrap_i64 ⟨by omega,by omega⟩]; omega
theorem wrap_eq {z x:Int} (h:z = x) (hb:-9223372036854775808 ≤ x ∧ x ≤ 9223372036854775807) : z = IntKind.i64.wrap x := by rw [h]; exact wrap_i64 hb
theorem Qfy {w:World} {a:Addr} {c base:Nat} {d:List Ev} {k:Nat} (x:Ev) (hk:k < d.length) (hown:Own evC 8 66 base w (some a) c d) {R:Value → World → Prop}
 (h:∀ w',Own evC 8 66 base w' (some a) c (d.set k x) → Only w w' a.block → R undef w') : Qyb Tryz.prog (Instr.storeAt 66 (.pointer (some (a.add (k * 8)))) (.agg (evC x).toArray)) w R :=
 Q39 (enc := evC) (sz := 8) (T := Tt) Qa (e := ty66) rfl rfl Qb1 Qe1 hk x rfl hown h
theorem Qek (p x q y s:List Ev) (n a b:Nat) (fv:Value) (A:Option Addr) (c base:Nat) (w:World) (hx:x.length = n) (hy:y.length = n) (ha:p.length = a) (hb:p.length + n + q.length = b) (L:Nat) (hL:(p ++ x ++ q ++ y ++ s).length = L) (hLs:L < 1000000000000)
 (hown:Own evC 8 66 base w A c (p ++ x ++ q ++ y ++ s)) :
 Cal Tryz.prog 300 [.slice A L c,.int .i64 a,.int .i64 b,.int .i64 n,fv] w fun r w' => r = .tuple #[] ∧ Own evC 8 66 base w' A c (p ++ y ++ q ++ x ++ s) ∧ Mod (Blk A) w w' := by
 refine Fi Tryz.func300 rfl _ rfl rfl ?_;conv=>whnf
 refine Qg Qa (fun (k:Nat) w' => k ≤ n ∧ Own evC 8 66 base w' A c (p ++ (y.take k ++ x.drop k) ++ q ++ (x.take k ++ y.drop k) ++ s) ∧ Mod (Blk A) w w')
  (fun k => [(0,.slice A L c),(1,.int .i64 a),(2,.int .i64 b),(3,.int .i64 n),(4,fv),(10,.int .i64 k)]) (fun k => n - k) 0 ⟨by omega,by simpa using hown,Mod.refl _ _⟩ ⟨rfl,rfl,rfl,rfl,rfl,rfl,trivial⟩ ?_
 rintro k w1 ⟨hk,hown1,hm⟩
 conv=>whnf
 constructor
 · intro hlt
   have hlt : k < n := by simpa using hlt
   have e1 : p ++ (y.take k ++ x.drop k) ++ q ++ (x.take k ++ y.drop k) ++ s = (p ++ y.take k) ++ x[k] :: ((x.drop (k + 1) ++ q ++ x.take k) ++ y[k] :: (y.drop (k + 1) ++ s)) := by
    rw [List.drop_eq_getElem_cons (l := x) (by omega),List.drop_eq_getElem_cons (l := y) (by omega)]
    simp only [List.append_assoc,List.cons_append,List.nil_append]
   have e2 : p ++ (y.take (k + 1) ++ x.drop (k + 1)) ++ q ++ (x.take (k + 1) ++ y.drop (k + 1)) ++ s = (p ++ y.take k) ++ y[k] :: ((x.drop (k + 1) ++ q ++ x.take k) ++ x[k] :: (y.drop (k + 1) ++ s)) := by
    rw [List.take_succ_eq_append_getElem (l := x) (by omega),List.take_succ_eq_append_getElem (l := y) (by omega)]
    simp only [List.append_assoc,List.cons_append,List.nil_append]
   rw [e1] at hown1
   have hi : (p ++ y.take k).length = a + k := by simp; omega
   have hj : (p ++ y.take k).length + 1 + (x.drop (k + 1) ++ q ++ x.take k).length = b + k := by simp; omega
   have g1 := Qk0 (p ++ y.take k) (x.drop (k + 1) ++ q ++ x.take k) (y.drop (k + 1) ++ s) x[k] y[k]
   have g2 := Qk1 (p ++ y.take k) (x.drop (k + 1) ++ q ++ x.take k) (y.drop (k + 1) ++ s) x[k] y[k]
   have g3 := Qqv (p ++ y.take k) (x.drop (k + 1) ++ q ++ x.take k) (y.drop (k + 1) ++ s) x[k] y[k]
   rw [hi] at g1; rw [hj] at g2; rw [hj,hi,← e2] at g3
   have hdl : ((p ++ y.take k) ++ x[k] :: ((x.drop (k + 1) ++ q ++ x.take k) ++ y[k] :: (y.drop (k + 1) ++ s))).length = L := by
    rw [← e1,← hL]; simp; omega
   generalize (p ++ y.take k) ++ x[k] :: ((x.drop (k + 1) ++ q ++ x.take k) ++ y[k] :: (y.drop (k + 1) ++ s)) = d at hown1 g1 g2 g3 hdl
   have hal : a + k < L := by rw [← hdl]; exact (List.getElem?_eq_some_iff.1 g1).1
   have hbl : b + k < L := by rw [← hdl]; exact (List.getElem?_eq_some_iff.1 g2).1
   obtain ⟨a0,hA,hc2⟩ := Qcx hown1 g2
   obtain ⟨_,_,hc1⟩ := Qcx hown1 g1
   subst hA
   obtain rfl : a0 = _ := by injection ‹some a0 = some _›
   conv=>whnf
   refine Qcw (.mods (Blk (some a0))) [(0,true),(1,true),(2,true),(3,true),(4,false),(5,false),(6,false),(7,false),(8,true),(9,true),(10,true),(11,true),(12,true),(13,true),(14,true),(15,true),(16,true),(17,true),(18,true),(19,true),(20,true)] [21,22] [23] [21,23] Qa mixed (by kernel_rfl) (by first | (intro h; cases h; done) | (intro _; rfl)) ?_;conv=>whnf
   refine ⟨((a + k : Nat) : Int),Qa9 (by omega),?_⟩;conv=>whnf
   refine ⟨((b + k : Nat) : Int),Qa9 (by omega),?_⟩;conv=>whnf
   refine ⟨((b + k : Nat) : Int),Qa9 (by omega),?_⟩;conv=>whnf
   refine ⟨a0,⟨rfl,by omega,by omega⟩,?_⟩;conv=>whnf
   refine ⟨evC y[k],⟨rfl,hc2⟩,?_⟩;conv=>whnf
   refine ⟨((a + k : Nat) : Int),Qa9 (by omega),?_⟩;conv=>whnf
   refine ⟨a0,⟨rfl,by omega,by omega⟩,?_⟩;conv=>whnf
   refine ⟨evC x[k],⟨rfl,hc1⟩,?_⟩;conv=>whnf
   refine ⟨a0,⟨rfl,by omega,by omega⟩,?_⟩;conv=>whnf
   refine Qfy (w := w1.drew) (k := a + k) y[k] (by omega) hown1 fun w2 hown2 ho2 => ?_
   refine ⟨ho2.blk,?_⟩;conv=>whnf
   refine ⟨a0,⟨rfl,by omega,by omega⟩,?_⟩;conv=>whnf
   refine Qfy (k := b + k) x[k] (by simp; omega) hown2 fun w3 hown3 ho3 => ?_
   rw [g3] at hown3
   conv=>whnf
   refine ⟨_,wrap_succ (by omega),?_⟩;conv=>whnf
   exact ⟨k + 1,by omega,⟨by omega,hown3,(hm.trans (Mod.trans (b := w1.drew) ⟨rfl,rfl,rfl,Nat.le_refl _,fun _ _ _ => rfl⟩ (ho2.blk.trans ho3.blk)))⟩,⟨rfl,rfl,rfl,rfl,rfl,rfl,trivial⟩⟩
 · intro hge
   have hge : n ≤ k := by simpa using hge
   have hkn : k = n := by omega
   subst hkn
   conv=>whnf
   rw [List.take_of_length_le (l := y) (by omega),List.take_of_length_le (l := x) (by omega),List.drop_of_length_le (l := x) (by omega),List.drop_of_length_le (l := y) (by omega)] at hown1
   exact ⟨rfl,by simpa using hown1,hm⟩
theorem Mod.drew {S:Nat → Prop} (w:World) : Mod S w w.drew := ⟨rfl,rfl,rfl,Nat.le_refl _,fun _ _ _ => rfl⟩
theorem Qvc (p x y s:List Ev) (a m b:Nat) (fv:Value) (A:Option Addr) (c base:Nat) (w:World) (hx0:x ≠ []) (hy0:y ≠ []) (ha:p.length = a) (hm:p.length + x.length = m) (hb:p.length + x.length + y.length = b) (L:Nat) (hL:(p ++ x ++ y ++ s).length = L) (hLs:L < 1000000000000)
 (hown:Own evC 8 66 base w A c (p ++ x ++ y ++ s)) :
 Cal Tryz.prog 285 [.slice A L c,.int .i64 a,.int .i64 m,.int .i64 b,fv] w fun r w' => r = .tuple #[] ∧ Own evC 8 66 base w' A c (p ++ y ++ x ++ s) ∧ Mod (Blk A) w w' := by
 have hL' : p.length + x.length + y.length + s.length = L := by rw [← hL]; simp; omega
 refine Fi Tryz.func285 rfl _ rfl rfl ?_;conv=>whnf
 refine ⟨((m - a : Nat) : Int),Qdh (by omega) (by omega),?_⟩;conv=>whnf
 refine ⟨((b - m : Nat) : Int),Qdh (by omega) (by omega),?_⟩;conv=>whnf
 refine Qg Qa (fun (i:List Ev × List Ev × List Ev × List Ev) w' => i.1.length + i.2.1.length = m ∧ i.2.1 ≠ [] ∧ i.2.2.1 ≠ [] ∧ i.1.length + i.2.1.length + i.2.2.1.length + i.2.2.2.length = L ∧ i.1 ++ i.2.2.1 ++ i.2.1 ++ i.2.2.2 = p ++ y ++ x ++ s ∧ Own evC 8 66 base w' A c (i.1 ++ i.2.1 ++ i.2.2.1 ++ i.2.2.2) ∧ Mod (Blk A) w w')
  (fun i => [(0,.slice A L c),(2,.int .i64 m),(4,fv),(10,.int .i64 i.2.1.length),(11,.int .i64 i.2.2.1.length)]) (fun i => i.2.1.length + i.2.2.1.length) (p,x,y,s)
  ⟨hm,hx0,hy0,hL',rfl,hown,Mod.refl _ _⟩ ⟨rfl,rfl,rfl,int_eq (by simp only; omega),int_eq (by simp only; omega),trivial⟩ ?_
 rintro ⟨P,X,Y,S⟩ w1 ⟨h1,hX0,hY0,hl,hT,hown1,hm1⟩
 simp only at h1 hX0 hY0 hl hT hown1
 have hXp := List.length_pos_iff.2 hX0
 have hYp := List.length_pos_iff.2 hY0
 conv=>whnf
 constructor
 · intro hne
   have hne : X.length ≠ Y.length := by simp at hne; omega
   conv=>whnf
   constructor
   · intro hgt
     have hgt : Y.length < X.length := by simpa using hgt
     obtain ⟨X1,X2,rfl,hX1⟩ : ∃ X1 X2,X = X1 ++ X2 ∧ X1.length = Y.length := ⟨X.take Y.length,X.drop Y.length,by simp,by simp; omega⟩
     simp only [List.length_append] at *
     conv=>whnf
     refine ⟨((m - (X1.length + X2.length) : Nat) : Int),wrap_eq (by omega) ⟨by omega,by omega⟩,?_⟩;conv=>whnf
     refine (Qek P X1 X2 Y S Y.length (m - (X1.length + X2.length)) m fv A c base w1 hX1 rfl (by omega) (by omega) L (by simp; omega) hLs (by simpa using hown1)).mono ?_
     rintro _ w2 ⟨rfl,hown2,hm2⟩;conv=>whnf
     refine ⟨((X2.length : Nat) : Int),wrap_eq (by omega) ⟨by omega,by omega⟩,?_⟩;conv=>whnf
     refine ⟨(P ++ Y,X2,X1,S),by simp; omega,⟨by simp; omega,?_,?_,by simp; omega,by simpa using hT,by simpa using hown2,hm1.trans hm2⟩,⟨rfl,rfl,rfl,rfl,int_eq (by simp only; omega),trivial⟩⟩
     · rw [← List.length_pos_iff]; simp only; omega
     · rw [← List.length_pos_iff]; simp only; omega
   · intro hle
     have hle : X.length < Y.length := by simp at hle; omega
     obtain ⟨Y1,Y2,rfl,hY2⟩ : ∃ Y1 Y2,Y = Y1 ++ Y2 ∧ Y2.length = X.length := ⟨Y.take (Y.length - X.length),Y.drop (Y.length - X.length),by simp,by simp; omega⟩
     simp only [List.length_append] at *
     conv=>whnf
     refine ⟨((m - X.length : Nat) : Int),Qdh (by omega) (by omega),?_⟩;conv=>whnf
     refine ⟨((m + (Y1.length + Y2.length) : Nat) : Int),wrap_eq (by omega) ⟨by omega,by omega⟩,?_⟩;conv=>whnf
     refine ⟨((m + (Y1.length + Y2.length) - X.length : Nat) : Int),Qdh (by omega) (by omega),?_⟩;conv=>whnf
     refine (Qek P X Y1 Y2 S X.length (m - X.length) (m + (Y1.length + Y2.length) - X.length) fv A c base w1 rfl hY2 (by omega) (by omega) L (by simp; omega) hLs (by simpa using hown1)).mono ?_
     rintro _ w2 ⟨rfl,hown2,hm2⟩;conv=>whnf
     refine ⟨((Y1.length : Nat) : Int),wrap_eq (by omega) ⟨by omega,by omega⟩,?_⟩;conv=>whnf
     refine ⟨(P,Y2,Y1,X ++ S),by simp; omega,⟨by simp; omega,?_,?_,by simp; omega,by simpa using hT,by simpa using hown2,hm1.trans hm2⟩,⟨rfl,rfl,rfl,int_eq (by simp only; omega),rfl,trivial⟩⟩
     · rw [← List.length_pos_iff]; simp only; omega
     · rw [← List.length_pos_iff]; simp only; omega
 · intro heq
   have heq : X.length = Y.length := by simp at heq; omega
   conv=>whnf
   refine ⟨((m - X.length : Nat) : Int),Qdh (by omega) (by omega),?_⟩;conv=>whnf
   refine (Qek P X [] Y S X.length (m - X.length) m fv A c base w1 rfl heq.symm (by omega) (by simp; omega) L (by simp; omega) hLs (by simpa using hown1)).mono ?_
   rintro _ w2 ⟨rfl,hown2,hm2⟩;conv=>whnf
   refine ⟨rfl,?_,hm1.trans hm2⟩
   rw [← hT]
   simpa using hown2
abbrev Qo9 : Value := .func (.func 144) #[] #[]
theorem Q0f {α:Type} {lt:α → α → Bool} (O:Swo lt) {z1 z2:List α} {v:α} (hs:Srt lt (z1 ++ z2)) (h2:∀ u ∈ z2,lt v u = true) (h1:∀ u,z1.getLast? = some u → lt v u = false) : Srt lt (z1 ++ v :: z2) := by
 refine Srt.append hs.left (List.pairwise_cons.2 ⟨fun u hu => O.asymm _ _ (h2 u hu),hs.right⟩) fun u hu t ht => ?_
 rcases List.mem_cons.1 ht with rfl | ht
 · rcases List.eq_nil_or_concat z1 with rfl | ⟨z,l,hz⟩
   · simp at hu
   · have hz' : z1 = z ++ [l] := by simpa using hz
     subst hz'
     have hl := h1 l (by simp)
     rcases List.mem_append.1 hu with hu | hu
     · exact O.trans u l t (hs.left.across u hu l (by simp)) hl
     · simp at hu; subst hu; exact hl
 · exact hs.across u hu t ht
theorem Qgz (p x s:List Ev) (a b:Nat) (A:Option Addr) (c base:Nat) (w:World) (ha:p.length = a) (hb:p.length + x.length = b) (L:Nat) (hL:p.length + x.length + s.length = L) (hLs:L < 1000000000000)
 (hown:Own evC 8 66 base w A c (p ++ x ++ s)) :
 Cal Tryz.prog 270 [.slice A L c,.int .i64 a,.int .i64 b,Qo9] w fun r w' => r = .tuple #[] ∧ ∃ z,z.Perm x ∧ Srt Q7 z ∧ Own evC 8 66 base w' A c (p ++ z ++ s) ∧ Mod (Blk A) w w' := by
 refine Fi Tryz.func270 rfl _ rfl rfl ?_;conv=>whnf
 refine ⟨_,wrap_succ (by omega),?_⟩;conv=>whnf
 refine Qg Qa (fun (i:Nat × List Ev) w' => (i.1 = a + i.2.length ∨ x = [] ∧ i.2 = [] ∧ i.1 = a + 1) ∧ i.2.length ≤ x.length ∧ i.2.Perm (x.take i.2.length) ∧ Srt Q7 i.2 ∧ Own evC 8 66 base w' A c (p ++ i.2 ++ (x.drop i.2.length ++ s)) ∧ Mod (Blk A) w w')
  (fun | (i,_) => [(0,.slice A L c),(1,.int .i64 a),(2,.int .i64 b),(3,Qo9),(8,.int .i64 i)]) (fun i => x.length - i.2.length) (a + 1,x.take 1) ?_ ⟨rfl,rfl,rfl,rfl,rfl,trivial⟩ ?_
 · cases x with
   | nil => exact ⟨.inr ⟨rfl,rfl,rfl⟩,by simp,by simp,Srt.nil,by simpa using hown,Mod.refl _ _⟩
   | cons y x => exact ⟨.inl (by simp),by simp,by simp,by simp [Srt],by simpa using hown,Mod.refl _ _⟩
 rintro ⟨i,z⟩ w1 ⟨hi,hzl,hzp,hzs,hown1,hm1⟩
 simp only at hi hzl hzp hown1
 conv=>whnf
 constructor
 · intro hlt
   have hlt : i < b := by simpa using hlt
   have hi : i = a + z.length := by
    rcases hi with h | ⟨h,h2,h3⟩
    · exact h
    · subst h; simp at hb; omega
   have hzx : z.length < x.length := by omega
   have hdr : x.drop z.length = x[z.length] :: x.drop (z.length + 1) := List.drop_eq_getElem_cons hzx
   have htk : x.take (z.length + 1) = x.take z.length ++ [x[z.length]] := List.take_succ_eq_append_getElem hzx
   rw [hdr] at hown1
   generalize x[z.length] = v at hown1 hdr htk
   conv=>whnf
   refine Qg Qa (fun (q:List Ev × List Ev) w' => z = q.1 ++ q.2 ∧ (∀ u ∈ q.2,Q7 v u = true) ∧ Own evC 8 66 base w' A c (p ++ q.1 ++ v :: (q.2 ++ (x.drop (z.length + 1) ++ s))) ∧ Mod (Blk A) w w')
    (fun | (z1,_) => [(0,.slice A L c),(1,.int .i64 a),(2,.int .i64 b),(3,Qo9),(8,.int .i64 i),(9,.int .i64 ((a + z1.length : Nat) : Int))]) (fun q => q.1.length) (z,[]) ⟨by simp,by simp,by simpa using hown1,hm1⟩ ⟨rfl,rfl,rfl,rfl,rfl,int_eq (by omega),trivial⟩ ?_
   rintro ⟨z1,z2⟩ w2 ⟨hz,hz2,hown2,hm2⟩
   simp only at hz hown2
   have hzlen : z.length = z1.length + z2.length := by rw [hz]; simp
   conv=>whnf
   refine Dr .same [0,1,2,3,4,5,6,7,8,9,10,11,12,13] [14,15,16] ?_;conv=>whnf
   replace hown2 : Own evC 8 66 base w2.drew A c _ := hown2
   replace hm2 : Mod (Blk A) w w2.drew := hm2.trans (Mod.drew _)
   generalize w2.drew = w3 at hown2 hm2 ⊢
   have hg1 : (p ++ z1 ++ v :: (z2 ++ (x.drop (z.length + 1) ++ s)))[a + z1.length]? = some v := by
    rw [List.getElem?_append_right (by simp; omega)]; simp [ha]
   obtain ⟨a0,hA,hc1⟩ := Qcx hown2 hg1
   subst hA
   have hd : ∀ {m n:Nat},decide ((m:Int) < (n:Int)) = true → m < n := fun h => by simpa using h
   obtain ⟨u,hu⟩ : ∃ u,z1 ≠ [] → ∃ zz,z1 = zz ++ [u] := by
    rcases List.eq_nil_or_concat z1 with h | ⟨zz,l,h⟩
    · exact ⟨v,fun hh => absurd h hh⟩
    · exact ⟨l,fun _ => ⟨zz,by simpa using h⟩⟩
   have hc0 : z1 ≠ [] → X7 w3 (a0.add ((a + z1.length - 1) * 8)) (evC u) := fun hne => by
    obtain ⟨zz,hzz⟩ := hu hne
    have : (p ++ z1 ++ v :: (z2 ++ (x.drop (z.length + 1) ++ s)))[a + z1.length - 1]? = some u := by
     rw [hzz,show a + (zz ++ [u]).length - 1 = (p ++ zz).length by simp; omega,show p ++ (zz ++ [u]) ++ v :: (z2 ++ (x.drop (z.length + 1) ++ s)) = (p ++ zz) ++ u :: (v :: (z2 ++ (x.drop (z.length + 1) ++ s))) by simp]
     simp
    obtain ⟨a1,h1,h2⟩ := Qcx hown2 this
    obtain rfl : a0 = a1 := by injection h1
    exact h2
   have hne : ∀ {m:Nat},a < a + z1.length → z1 ≠ [] := fun h e => by rw [e] at h; simp at h
   refine ⟨a0,fun hg => ⟨rfl,by omega,by omega⟩,?_⟩;conv=>whnf
   refine ⟨evC v,fun hg => ⟨rfl,hc1⟩,?_⟩;conv=>whnf
   refine ⟨((a + z1.length - 1 : Nat) : Int),fun hg => wrap_eq (by have := hd hg; omega) ⟨by omega,by omega⟩,?_⟩;conv=>whnf
   refine ⟨a0,fun hg => ⟨rfl,by omega,by omega⟩,?_⟩;conv=>whnf
   refine ⟨evC u,fun hg => ⟨rfl,hc0 (hne (m := 0) (hd hg))⟩,?_⟩;conv=>whnf
   refine ⟨Unit,fun _ => .int .i64 (Qjy v u),fun _ w' => Ext w3 w',(),fun hg => (Qbc v u w3).mono (fun r w' h => ⟨(),h.1,h.2⟩),fun _ w4 h4 => ?_⟩
   have hx4 : Ext w3 w4 := by
    rcases h4 with ⟨_,h⟩ | ⟨_,h⟩
    · exact h
    · rw [h]; exact Ext.refl _
   clear h4
   have hown4 := hown2.ext hx4
   have hm4 : Mod (Blk (some a0)) w w4 := hm2.trans (Mod.of_ext hx4)
   conv=>whnf
   constructor
   · intro hcnd
     have hcnd : (decide ((a:Int) < ((a + z1.length : Nat) : Int)) && decide (Qjy v u < 0)) = true := hcnd
     rw [Bool.and_eq_true,Qcd] at hcnd
     obtain ⟨zz,rfl⟩ := hu (hne (m := 0) (hd hcnd.1))
     have hvu := hcnd.2
     have e0 : p ++ (zz ++ [u]) ++ v :: (z2 ++ (x.drop (z.length + 1) ++ s)) = (p ++ zz) ++ u :: ([] ++ v :: (z2 ++ (x.drop (z.length + 1) ++ s))) := by simp
     rw [e0] at hown4
     have g1 := Qs8 (p ++ zz) [] (z2 ++ (x.drop (z.length + 1) ++ s)) u v
     have hdl : ((p ++ zz) ++ u :: ([] ++ v :: (z2 ++ (x.drop (z.length + 1) ++ s)))).length = L := by simp at hzlen ⊢; omega
     have hi1 : (p ++ zz).length = a + zz.length := by simp; omega
     have f1 := Qk0 (p ++ zz) [] (z2 ++ (x.drop (z.length + 1) ++ s)) u v
     have f2 := Qk1 (p ++ zz) [] (z2 ++ (x.drop (z.length + 1) ++ s)) u v
     rw [hi1] at g1 f1 f2
     simp only [List.length_nil,Nat.add_zero] at g1 f2
     have hlz : (zz ++ [u]).length = zz.length + 1 := by simp
     generalize hdd : (p ++ zz) ++ u :: ([] ++ v :: (z2 ++ (x.drop (z.length + 1) ++ s))) = d at hown4 g1 hdl f1 f2
     obtain ⟨_,hA1,hcu⟩ := Qcx hown4 f1
     obtain rfl : a0 = _ := by injection hA1
     obtain ⟨_,hA2,hcv⟩ := Qcx hown4 f2
     obtain rfl : a0 = _ := by injection hA2
     conv=>whnf
     refine Qcw (.mods (Blk (some a0))) [(0,true),(1,true),(2,false),(3,false),(4,false),(5,true),(6,true),(7,true),(8,true),(9,true),(10,true),(11,true),(12,true),(13,true),(14,true)] [15,16] [17] [15,17] Qa mixed (by kernel_rfl) (by first | (intro h; cases h; done) | (intro _; rfl)) ?_;conv=>whnf
     refine ⟨((a + zz.length : Nat) : Int),wrap_eq (by rw [hlz]; omega) ⟨by omega,by omega⟩,?_⟩;conv=>whnf
     refine ⟨((a + zz.length : Nat) : Int),wrap_eq (by rw [hlz]; omega) ⟨by omega,by omega⟩,?_⟩;conv=>whnf
     refine ⟨a0,⟨rfl,by omega,by omega⟩,?_⟩;conv=>whnf
     refine ⟨evC u,⟨rfl,hcu⟩,?_⟩;conv=>whnf
     refine ⟨a0,⟨rfl,by omega,by omega⟩,?_⟩;conv=>whnf
     refine ⟨evC v,⟨rfl,by rw [hlz]; exact hcv⟩,?_⟩;conv=>whnf
     refine ⟨a0,⟨rfl,by omega,by omega⟩,?_⟩;conv=>whnf
     refine Qfy (w := w4.drew) (k := a + (zz ++ [u]).length) u (by rw [hdl,hlz]; simp at hzlen; omega) hown4 fun w5 hown5 ho5 => ?_
     refine ⟨ho5.blk,?_⟩;conv=>whnf
     refine ⟨a0,⟨rfl,by omega,by omega⟩,?_⟩;conv=>whnf
     refine Qfy (k := a + zz.length) v (by rw [List.length_set,hdl]; simp at hzlen; omega) hown5 fun w6 hown6 ho6 => ?_
     rw [hlz,← Nat.add_assoc,g1] at hown6
     conv=>whnf
     refine ⟨((a + zz.length : Nat) : Int),wrap_eq (by rw [hlz]; omega) ⟨by omega,by omega⟩,?_⟩;conv=>whnf
     refine ⟨(zz,u :: z2),by simp,⟨by rw [hz]; simp,?_,by simpa using hown6,hm4.trans ((Mod.drew _).trans (ho5.blk.trans ho6.blk))⟩,⟨rfl,rfl,rfl,rfl,rfl,rfl,trivial⟩⟩
     intro y hy
     rcases List.mem_cons.1 hy with rfl | hy
     · exact hvu
     · exact hz2 y hy
   · intro hcnd
     have hcnd : (decide ((a:Int) < ((a + z1.length : Nat) : Int)) && decide (Qjy v u < 0)) = false := hcnd
     rw [Qcd] at hcnd
     conv=>whnf
     refine ⟨_,wrap_succ (by omega),?_⟩;conv=>whnf
     have hll : (z1 ++ v :: z2).length = z.length + 1 := by simp; omega
     refine ⟨(i + 1,z1 ++ v :: z2),by simp only [hll]; omega,⟨.inl (by simp only [hll]; omega),by simp only [hll]; omega,?_,?_,?_,hm4⟩,⟨rfl,rfl,rfl,rfl,rfl,trivial⟩⟩
     · simp only [hll]
       rw [htk]
       refine List.Perm.trans ?_ (hzp.append_right [v])
       rw [hz]
       exact List.perm_middle.trans (by rw [List.append_assoc]; exact (List.perm_append_comm (l₁ := [v])).trans (by simp))
     · refine Q0f Qaa (by rw [← hz]; exact hzs) hz2 fun t ht => ?_
       have hne1 : z1 ≠ [] := fun e => by rw [e] at ht; simp at ht
       obtain ⟨zz,hzz⟩ := hu hne1
       rw [hzz] at ht
       obtain rfl : u = t := by simpa using ht
       have hpos := List.length_pos_iff.2 hne1
       have : decide ((a:Int) < ((a + z1.length : Nat) : Int)) = true := by simp; omega
       rw [this,Bool.true_and] at hcnd
       exact hcnd
     · simp only [hll]
       simpa using hown4
 · intro hge
   have hge : b ≤ i := by simpa using hge
   conv=>whnf
   have hzx : z.length = x.length := by
    rcases hi with h | ⟨h,h2,h3⟩
    · omega
    · rw [h,h2]
   refine ⟨rfl,z,?_,hzs,?_,hm1⟩
   · rw [hzx,List.take_length] at hzp; exact hzp
   · rw [hzx,List.drop_length] at hown1; simpa using hown1
theorem Qlu (n:Nat) : (0:Int) ≤ 1 ∧ ((n / 2 : Nat) : Int) = Int.fdiv (n:Int) (2 ^ (min (1:Int).toNat IntKind.u64.bits)) := by
 refine ⟨by decide,?_⟩
 have : (2:Int) ^ (min (1:Int).toNat IntKind.u64.bits) = 2 := by decide
 rw [this,Int.fdiv_eq_ediv_of_nonneg _ (by decide)]
 omega
theorem Qtm {n:Nat} (h:n ≤ 9223372036854775807) : (n:Int) = IntKind.u64.wrap (n:Int) := wrap_u64 ⟨by omega,by omega⟩
theorem Qtl {n:Nat} (h:n ≤ 9223372036854775807) : (n:Int) = IntKind.i64.wrap (n:Int) := wrap_i64 ⟨by omega,by omega⟩
section
variable {α:Type} {lt:α → α → Bool}
theorem Ql3 {l:List α} {i:Nat} {u:α} (h0:0 < i) (h:l[i - 1]? = some u) : (l.take i).getLast? = some u := by
 have hlt : i - 1 < l.length := (List.getElem?_eq_some_iff.1 h).1
 obtain ⟨i,rfl⟩ : ∃ j,i = j + 1 := ⟨i - 1,by omega⟩
 have : l[i] = u := by simp at h hlt; rw [List.getElem?_eq_getElem hlt] at h; simpa using h
 rw [List.take_succ_eq_append_getElem (by omega)]
 simp [this]
theorem head_drop {l:List α} {i:Nat} {u:α} (h:l[i]? = some u) : (l.drop i).head? = some u := by
 rw [List.head?_drop]; exact h
theorem Qxu (O:Swo lt) {y:List α} {v:α} {i:Nat} (hi:i ≤ y.length) (hs:Srt lt y) (h1:i = 0 ∨ ∃ u,y[i - 1]? = some u ∧ lt v u = false) (h2:i = y.length ∨ ∃ u,y[i]? = some u ∧ lt u v = false) : Srt lt (y.take i ++ v :: y.drop i) := by
 have hs' : Srt lt (y.take i ++ y.drop i) := by rw [List.take_append_drop]; exact hs
 have k1 := Qpr (x := y.take i) (y := [v]) O hs'.left (Srt.one v) (fun a b ha hb => by
  obtain rfl : v = b := by simpa using hb
  rcases h1 with rfl | ⟨u,hu,hl⟩
  · simp at ha
  · by_cases hi0 : i = 0
    · subst hi0; simp at ha
    · rw [Ql3 (by omega) hu] at ha
      obtain rfl : u = a := by simpa using ha
      exact hl)
 have k2 := Qpr (x := [v]) (y := y.drop i) O (Srt.one v) hs'.right (fun a b ha hb => by
  obtain rfl : v = a := by simpa using ha
  rcases h2 with rfl | ⟨u,hu,hl⟩
  · simp at hb
  · rw [head_drop hu] at hb
    obtain rfl : u = b := by simpa using hb
    exact hl)
 refine hs'.left.append (List.pairwise_cons.2 ⟨fun t ht => k2 v (by simp) t ht,hs'.right⟩) fun t ht u hu => ?_
 rcases List.mem_cons.1 hu with rfl | hu
 · exact k1 t ht u (by simp)
 · exact hs'.across t ht u hu
end
theorem Qvp {y:List Ev} {i:Nat} {u v:Ev} (h:y[i]? = some u) (hl:Q7 u v = true) : y[i]? = some u ∧ Q7 v u = false := ⟨h,Qaa.asymm _ _ hl⟩
set_option maxHeartbeats 4000000 in
theorem Qim : ∀ (N:Nat) (p x y s:List Ev) (a m b:Nat) (A:Option Addr) (c base:Nat) (w:World) (hN:x.length + y.length ≤ N) (hx0:0 < x.length) (hy0:0 < y.length) (hsx:Srt Q7 x) (hsy:Srt Q7 y) (ha:p.length = a) (hm:p.length + x.length = m) (hb:p.length + x.length + y.length = b) (L:Nat) (hL:p.length + x.length + y.length + s.length = L) (hLs:L < 1000000000000)
 (hown:Own evC 8 66 base w A c (p ++ x ++ y ++ s)),
 Cal Tryz.prog 271 [.slice A L c,.int .i64 a,.int .i64 m,.int .i64 b,Qo9] w fun r w' => r = .tuple #[] ∧ ∃ z,z.Perm (x ++ y) ∧ Srt Q7 z ∧ Own evC 8 66 base w' A c (p ++ z ++ s) ∧ Mod (Blk A) w w' := by
 intro N
 induction N with
 | zero => intro p x y s a m b A c base w hN hx0; omega
 | succ N ih =>
   intro p x y s a m b A c base w hN hx0 hy0 hsx hsy ha hm hb L hL hLs hown
   have hd : ∀ {m n:Nat},decide ((m:Int) < (n:Int)) = true → m < n := fun h => by simpa using h
   have hd' : ∀ {m n:Nat},decide ((m:Int) < (n:Int)) = false → n ≤ m := fun h => by simpa using h
   refine Fi Tryz.func271 rfl _ rfl rfl ?_;conv=>whnf
   refine ⟨((m - a : Nat) : Int),Qdh (by omega) (by omega),?_⟩;conv=>whnf
   constructor
   · intro h1
     have h1 : x.length = 1 := by simp at h1; omega
     obtain ⟨v,rfl⟩ := List.length_eq_one_iff.1 h1
     have hv1 : [v].length = 1 := rfl
     have hvat : (p ++ [v] ++ y ++ s)[a]? = some v := by rw [← ha]; simp
     obtain ⟨a0,hA,hcv⟩ := Qcx hown hvat
     subst hA
     conv=>whnf
     refine Qg Qa (fun (q:Nat × Nat) w' => q.1 ≤ q.2 ∧ q.2 ≤ y.length ∧ (q.1 = 0 ∨ ∃ u,y[q.1 - 1]? = some u ∧ Q7 v u = false) ∧ (q.2 = y.length ∨ ∃ u,y[q.2]? = some u ∧ Q7 u v = false) ∧ Ext w w')
      (fun | (i,j) => [(0,.slice (some a0) L c),(1,.int .i64 a),(2,.int .i64 m),(3,.int .i64 b),(4,Qo9),(10,.int .i64 ((m + i : Nat) : Int)),(11,.int .i64 ((m + j : Nat) : Int))]) (fun q => q.2 - q.1) (0,y.length)
      ⟨by simp,by simp,.inl rfl,.inl rfl,Ext.refl _⟩ ⟨rfl,rfl,rfl,rfl,rfl,rfl,int_eq (by omega),trivial⟩ ?_
     rintro ⟨i,j⟩ w1 ⟨hij,hjy,hi,hj,hx1⟩
     simp only at hij hjy hi hj
     conv=>whnf
     constructor
     · intro hlt
       have hlt : i < j := by have := hd hlt; omega
       obtain ⟨h,hh⟩ : ∃ h,h = (i + j) / 2 := ⟨_,rfl⟩
       have hhm : (m + i + (m + j)) / 2 = m + h := by omega
       have hhy : h < y.length := by omega
       have hhat : (p ++ [v] ++ y ++ s)[m + h]? = some y[h] := by
        rw [List.getElem?_append_left (by simp; omega),List.getElem?_append_right (by simp; omega)]
        rw [show m + h - (p ++ [v]).length = h by simp; omega]
        exact List.getElem?_eq_getElem hhy
       obtain ⟨_,hA1,hch⟩ := Qcx hown hhat
       obtain rfl : a0 = _ := by injection hA1
       have hyh : y[h]? = some y[h] := List.getElem?_eq_getElem hhy
       generalize y[h] = u at hch hyh
       conv=>whnf
       refine ⟨((m + i + (m + j) : Nat) : Int),Qa9 (by omega),?_⟩;conv=>whnf
       refine ⟨((m + i + (m + j) : Nat) : Int),Qtm (by omega),?_⟩;conv=>whnf
       refine ⟨((m + h : Nat) : Int),by rw [← hhm]; exact Qlu _,?_⟩;conv=>whnf
       refine ⟨((m + h : Nat) : Int),Qtl (by omega),?_⟩;conv=>whnf
       refine Dr .same [0,1,2,3,4,5,6,7,8] [9,10] ?_;conv=>whnf
       replace hx1 : Ext w w1.drew := hx1.drew
       generalize w1.drew = w2 at hx1 ⊢
       refine ⟨a0,⟨rfl,by omega,by omega⟩,?_⟩;conv=>whnf
       refine ⟨evC u,⟨rfl,hx1.cells hch⟩,?_⟩;conv=>whnf
       refine ⟨a0,⟨rfl,by omega,by omega⟩,?_⟩;conv=>whnf
       refine ⟨evC v,⟨rfl,hx1.cells hcv⟩,?_⟩;conv=>whnf
       refine (Qbc u v w2).mono ?_
       rintro _ w3 ⟨rfl,hx3⟩
       conv=>whnf
       constructor
       · intro hc
         have hc : Q7 u v = true := by rw [← Qcd]; exact hc
         conv=>whnf
         refine ⟨((m + (h + 1) : Nat) : Int),wrap_eq (by omega) ⟨by omega,by omega⟩,?_⟩;conv=>whnf
         exact ⟨(h + 1,j),by simp only; omega,⟨by simp only; omega,hjy,.inr ⟨u,Qvp (by simpa using hyh) hc⟩,hj,hx1.trans hx3⟩,⟨rfl,rfl,rfl,rfl,rfl,rfl,rfl,trivial⟩⟩
       · intro hc
         have hc : Q7 u v = false := by rw [← Qcd]; exact hc
         conv=>whnf
         exact ⟨(i,h),by simp only; omega,⟨by simp only; omega,by simp only; omega,hi,.inr ⟨u,hyh,hc⟩,hx1.trans hx3⟩,⟨rfl,rfl,rfl,rfl,rfl,rfl,rfl,trivial⟩⟩
     · intro hge
       have hge : j ≤ i := by have := hd' hge; omega
       obtain rfl : i = j := by omega
       have hsr := Qxu Qaa hjy hsy hi hj
       have hpr : (y.take i ++ v :: y.drop i).Perm ([v] ++ y) := by
        refine List.perm_middle.trans ?_
        rw [List.take_append_drop]; exact List.Perm.refl _
       have hown1 := hown.ext hx1
       have hlt1 : (y.take i).length = i := by simp; omega
       have hyd : y = y.take i ++ y.drop i := (List.take_append_drop i y).symm
       have hdl : (y.drop i).length = y.length - i := by simp
       generalize y.take i = y1 at hsr hpr hlt1 hyd
       generalize y.drop i = y2 at hsr hpr hyd hdl
       subst hyd
       have hly : (y1 ++ y2).length = y1.length + y2.length := List.length_append
       conv=>whnf
       refine Qg Qa (fun (k:Nat) w' => k ≤ i ∧ Own evC 8 66 base w' (some a0) c (p ++ y1.take k ++ v :: (y1.drop k ++ (y2 ++ s))) ∧ Mod (Blk (some a0)) w w')
        (fun k => [(0,.slice (some a0) L c),(1,.int .i64 a),(2,.int .i64 m),(3,.int .i64 b),(4,Qo9),(10,.int .i64 ((m + i : Nat) : Int)),(13,.int .i64 ((a + k : Nat) : Int))]) (fun k => i - k) 0
        ⟨by omega,by simpa using hown1,Mod.of_ext hx1⟩ ⟨rfl,rfl,rfl,rfl,rfl,rfl,rfl,trivial⟩ ?_
       rintro k w2 ⟨hk,hown2,hm2⟩
       conv=>whnf
       refine ⟨((a + i : Nat) : Int),wrap_eq (by omega) ⟨by omega,by omega⟩,?_⟩;conv=>whnf
       constructor
       · intro hlt
         have hlt : k < i := by have := hd hlt; omega
         have hdk : y1.drop k = y1[k] :: y1.drop (k + 1) := List.drop_eq_getElem_cons (by omega)
         have htk : y1.take (k + 1) = y1.take k ++ [y1[k]] := List.take_succ_eq_append_getElem (by omega)
         generalize y1[k] = u at hdk htk
         have e0 : p ++ y1.take k ++ v :: (y1.drop k ++ (y2 ++ s)) = (p ++ y1.take k) ++ v :: ([] ++ u :: (y1.drop (k + 1) ++ (y2 ++ s))) := by rw [hdk]; simp
         rw [e0] at hown2
         have hi1 : (p ++ y1.take k).length = a + k := by simp; omega
         have g1 := Qqv (p ++ y1.take k) [] (y1.drop (k + 1) ++ (y2 ++ s)) v u
         have f1 := Qk0 (p ++ y1.take k) [] (y1.drop (k + 1) ++ (y2 ++ s)) v u
         have f2 := Qk1 (p ++ y1.take k) [] (y1.drop (k + 1) ++ (y2 ++ s)) v u
         rw [hi1] at g1 f1 f2
         simp only [List.length_nil,Nat.add_zero] at g1 f2
         have hdl : ((p ++ y1.take k) ++ v :: ([] ++ u :: (y1.drop (k + 1) ++ (y2 ++ s)))).length = L := by simp at hL ⊢; omega
         generalize (p ++ y1.take k) ++ v :: ([] ++ u :: (y1.drop (k + 1) ++ (y2 ++ s))) = d at hown2 g1 f1 f2 hdl
         obtain ⟨_,hA1,hcu⟩ := Qcx hown2 f1
         obtain rfl : a0 = _ := by injection hA1
         obtain ⟨_,hA2,hcw⟩ := Qcx hown2 f2
         obtain rfl : a0 = _ := by injection hA2
         have hkL : a + k + 1 < L := by rw [← hdl]; exact (List.getElem?_eq_some_iff.1 f2).1
         conv=>whnf
         refine Qcw (.mods (Blk (some a0))) [(0,true),(1,true),(2,false),(3,false),(4,false),(5,true),(6,true),(7,true),(8,true),(9,true),(10,true),(11,true),(12,true),(13,true),(14,true)] [15,16] [17] [15,17] Qa mixed (by kernel_rfl) (by first | (intro h; cases h; done) | (intro _; rfl)) ?_;conv=>whnf
         refine ⟨((a + k + 1 : Nat) : Int),wrap_succ (by omega),?_⟩;conv=>whnf
         refine ⟨((a + k + 1 : Nat) : Int),wrap_succ (by omega),?_⟩;conv=>whnf
         refine ⟨a0,⟨rfl,by omega,by omega⟩,?_⟩;conv=>whnf
         refine ⟨evC u,⟨rfl,hcw⟩,?_⟩;conv=>whnf
         refine ⟨a0,⟨rfl,by omega,by omega⟩,?_⟩;conv=>whnf
         refine ⟨evC v,⟨rfl,hcu⟩,?_⟩;conv=>whnf
         refine ⟨a0,⟨rfl,by omega,by omega⟩,?_⟩;conv=>whnf
         refine Qfy (w := w2.drew) (k := a + k) u (by omega) hown2 fun w5 hown5 ho5 => ?_
         refine ⟨ho5.blk,?_⟩;conv=>whnf
         refine ⟨a0,⟨rfl,by omega,by omega⟩,?_⟩;conv=>whnf
         refine Qfy (k := a + k + 1) v (by rw [List.length_set,hdl]; omega) hown5 fun w6 hown6 ho6 => ?_
         rw [g1] at hown6
         conv=>whnf
         refine ⟨((a + (k + 1) : Nat) : Int),wrap_eq (by omega) ⟨by omega,by omega⟩,?_⟩;conv=>whnf
         refine ⟨k + 1,by omega,⟨by omega,by rw [htk]; simpa using hown6,hm2.trans ((Mod.drew _).trans (ho5.blk.trans ho6.blk))⟩,⟨rfl,rfl,rfl,rfl,rfl,rfl,rfl,trivial⟩⟩
       · intro hge
         have hge : i ≤ k := by have := hd' hge; omega
         rw [List.take_of_length_le (l := y1) (by omega),List.drop_of_length_le (l := y1) (by omega)] at hown2
         conv=>whnf
         exact ⟨rfl,_,hpr,hsr,by simpa using hown2,hm2⟩
   intro h1
   have hxl : 2 ≤ x.length := by simp at h1; omega
   clear h1
   conv=>whnf
   refine ⟨((b - m : Nat) : Int),Qdh (by omega) (by omega),?_⟩;conv=>whnf
   constructor
   · intro h1
     have h1 : y.length = 1 := by simp at h1; omega
     obtain ⟨v,rfl⟩ := List.length_eq_one_iff.1 h1
     have hv1 : [v].length = 1 := rfl
     have hvat : (p ++ x ++ [v] ++ s)[m]? = some v := by
      rw [show p ++ x ++ [v] ++ s = (p ++ x) ++ v :: s by simp,show m = (p ++ x).length by simp; omega]; simp
     obtain ⟨a0,hA,hcv⟩ := Qcx hown hvat
     subst hA
     conv=>whnf
     refine Qg Qa (fun (q:Nat × Nat) w' => q.1 ≤ q.2 ∧ q.2 ≤ x.length ∧ (q.1 = 0 ∨ ∃ u,x[q.1 - 1]? = some u ∧ Q7 v u = false) ∧ (q.2 = x.length ∨ ∃ u,x[q.2]? = some u ∧ Q7 u v = false) ∧ Ext w w')
      (fun | (i,j) => [(0,.slice (some a0) L c),(1,.int .i64 a),(2,.int .i64 m),(3,.int .i64 b),(4,Qo9),(14,.int .i64 ((a + i : Nat) : Int)),(15,.int .i64 ((a + j : Nat) : Int))]) (fun q => q.2 - q.1) (0,x.length)
      ⟨by simp,by simp,.inl rfl,.inl rfl,Ext.refl _⟩ ⟨rfl,rfl,rfl,rfl,rfl,rfl,int_eq (by omega),trivial⟩ ?_
     rintro ⟨i,j⟩ w1 ⟨hij,hjy,hi,hj,hx1⟩
     simp only at hij hjy hi hj
     conv=>whnf
     constructor
     · intro hlt
       have hlt : i < j := by have := hd hlt; omega
       obtain ⟨h,hh⟩ : ∃ h,h = (i + j) / 2 := ⟨_,rfl⟩
       have hhm : (a + i + (a + j)) / 2 = a + h := by omega
       have hhy : h < x.length := by omega
       have hhat : (p ++ x ++ [v] ++ s)[a + h]? = some x[h] := by
        rw [List.append_assoc,List.append_assoc,List.getElem?_append_right (by omega),List.getElem?_append_left (by omega)]
        rw [show a + h - p.length = h by omega]
        exact List.getElem?_eq_getElem hhy
       obtain ⟨_,hA1,hch⟩ := Qcx hown hhat
       obtain rfl : a0 = _ := by injection hA1
       have hyh : x[h]? = some x[h] := List.getElem?_eq_getElem hhy
       generalize x[h] = u at hch hyh
       conv=>whnf
       refine ⟨((a + i + (a + j) : Nat) : Int),Qa9 (by omega),?_⟩;conv=>whnf
       refine ⟨((a + i + (a + j) : Nat) : Int),Qtm (by omega),?_⟩;conv=>whnf
       refine ⟨((a + h : Nat) : Int),by rw [← hhm]; exact Qlu _,?_⟩;conv=>whnf
       refine ⟨((a + h : Nat) : Int),Qtl (by omega),?_⟩;conv=>whnf
       refine Dr .same [0,1,2,3,4,5,6,7,8] [9,10,11] ?_;conv=>whnf
       replace hx1 : Ext w w1.drew := hx1.drew
       generalize w1.drew = w2 at hx1 ⊢
       refine ⟨a0,⟨rfl,by omega,by omega⟩,?_⟩;conv=>whnf
       refine ⟨evC v,⟨rfl,hx1.cells hcv⟩,?_⟩;conv=>whnf
       refine ⟨a0,⟨rfl,by omega,by omega⟩,?_⟩;conv=>whnf
       refine ⟨evC u,⟨rfl,hx1.cells hch⟩,?_⟩;conv=>whnf
       refine (Qbc v u w2).mono ?_
       rintro _ w3 ⟨rfl,hx3⟩
       conv=>whnf
       constructor
       · intro hc
         have hc : Q7 v u = false := by rw [← Qcd]; simpa using hc
         conv=>whnf
         refine ⟨((a + (h + 1) : Nat) : Int),wrap_eq (by omega) ⟨by omega,by omega⟩,?_⟩;conv=>whnf
         exact ⟨(h + 1,j),by simp only; omega,⟨by simp only; omega,hjy,.inr ⟨u,by simpa using hyh,hc⟩,hj,hx1.trans hx3⟩,⟨rfl,rfl,rfl,rfl,rfl,rfl,rfl,trivial⟩⟩
       · intro hc
         have hc : Q7 v u = true := by rw [← Qcd]; simpa using hc
         conv=>whnf
         exact ⟨(i,h),by simp only; omega,⟨by simp only; omega,by simp only; omega,hi,.inr ⟨u,hyh,Qaa.asymm _ _ hc⟩,hx1.trans hx3⟩,⟨rfl,rfl,rfl,rfl,rfl,rfl,rfl,trivial⟩⟩
     · intro hge
       have hge : j ≤ i := by have := hd' hge; omega
       obtain rfl : i = j := by omega
       have hsr := Qxu Qaa hjy hsx hi hj
       have hpr : (x.take i ++ v :: x.drop i).Perm (x ++ [v]) := by
        refine List.perm_middle.trans ?_
        rw [List.take_append_drop]; exact (List.perm_append_comm (l₁ := [v])).trans (List.Perm.refl _)
       have hown1 := hown.ext hx1
       have hlt1 : (x.take i).length = i := by simp; omega
       have hyd : x = x.take i ++ x.drop i := (List.take_append_drop i x).symm
       have hdl : (x.drop i).length = x.length - i := by simp
       generalize x.take i = x1 at hsr hpr hlt1 hyd
       generalize x.drop i = x2 at hsr hpr hyd hdl
       subst hyd
       have hlx : (x1 ++ x2).length = x1.length + x2.length := List.length_append
       conv=>whnf
       refine Qg Qa (fun (k:Nat) w' => k ≤ x2.length ∧ Own evC 8 66 base w' (some a0) c (p ++ x1 ++ x2.take k ++ v :: (x2.drop k ++ s)) ∧ Mod (Blk (some a0)) w w')
        (fun k => [(0,.slice (some a0) L c),(1,.int .i64 a),(2,.int .i64 m),(3,.int .i64 b),(4,Qo9),(14,.int .i64 ((a + i : Nat) : Int)),(17,.int .i64 ((a + i + k : Nat) : Int))]) (fun k => k) x2.length
        ⟨by omega,by simpa using hown1,Mod.of_ext hx1⟩ ⟨rfl,rfl,rfl,rfl,rfl,rfl,int_eq (by omega),trivial⟩ ?_
       rintro k w2 ⟨hk,hown2,hm2⟩
       conv=>whnf
       constructor
       · intro hlt
         have hlt : 0 < k := by have := hd hlt; omega
         obtain ⟨k,rfl⟩ : ∃ j,k = j + 1 := ⟨k - 1,by omega⟩
         have hdk : x2.drop k = x2[k] :: x2.drop (k + 1) := List.drop_eq_getElem_cons (by omega)
         have htk : x2.take (k + 1) = x2.take k ++ [x2[k]] := List.take_succ_eq_append_getElem (by omega)
         generalize x2[k] = u at hdk htk
         have e0 : p ++ x1 ++ x2.take (k + 1) ++ v :: (x2.drop (k + 1) ++ s) = (p ++ x1 ++ x2.take k) ++ u :: ([] ++ v :: (x2.drop (k + 1) ++ s)) := by rw [htk]; simp
         rw [e0] at hown2
         have hi1 : (p ++ x1 ++ x2.take k).length = a + i + k := by simp; omega
         have g1 := Qs8 (p ++ x1 ++ x2.take k) [] (x2.drop (k + 1) ++ s) u v
         have f1 := Qk0 (p ++ x1 ++ x2.take k) [] (x2.drop (k + 1) ++ s) u v
         have f2 := Qk1 (p ++ x1 ++ x2.take k) [] (x2.drop (k + 1) ++ s) u v
         rw [hi1] at g1 f1 f2
         simp only [List.length_nil,Nat.add_zero] at g1 f2
         have hdl : ((p ++ x1 ++ x2.take k) ++ u :: ([] ++ v :: (x2.drop (k + 1) ++ s))).length = L := by simp at hL ⊢; omega
         generalize (p ++ x1 ++ x2.take k) ++ u :: ([] ++ v :: (x2.drop (k + 1) ++ s)) = d at hown2 g1 f1 f2 hdl
         obtain ⟨_,hA1,hcu⟩ := Qcx hown2 f1
         obtain rfl : a0 = _ := by injection hA1
         obtain ⟨_,hA2,hcw⟩ := Qcx hown2 f2
         obtain rfl : a0 = _ := by injection hA2
         have hkL : a + i + k + 1 < L := by rw [← hdl]; exact (List.getElem?_eq_some_iff.1 f2).1
         conv=>whnf
         refine Qcw (.mods (Blk (some a0))) [(0,true),(1,true),(2,false),(3,false),(4,false),(5,true),(6,true),(7,true),(8,true),(9,true),(10,true),(11,true),(12,true),(13,true),(14,true)] [15,16] [17] [15,17] Qa mixed (by kernel_rfl) (by first | (intro h; cases h; done) | (intro _; rfl)) ?_;conv=>whnf
         refine ⟨((a + i + k : Nat) : Int),wrap_eq (by omega) ⟨by omega,by omega⟩,?_⟩;conv=>whnf
         refine ⟨((a + i + k : Nat) : Int),wrap_eq (by omega) ⟨by omega,by omega⟩,?_⟩;conv=>whnf
         refine ⟨a0,⟨rfl,by omega,by omega⟩,?_⟩;conv=>whnf
         refine ⟨evC u,⟨rfl,hcu⟩,?_⟩;conv=>whnf
         refine ⟨a0,⟨rfl,by omega,by omega⟩,?_⟩;conv=>whnf
         refine ⟨evC v,⟨rfl,hcw⟩,?_⟩;conv=>whnf
         refine ⟨a0,⟨rfl,by omega,by omega⟩,?_⟩;conv=>whnf
         refine Qfy (w := w2.drew) (k := a + i + k + 1) u (by omega) hown2 fun w5 hown5 ho5 => ?_
         refine ⟨ho5.blk,?_⟩;conv=>whnf
         refine ⟨a0,⟨rfl,by omega,by omega⟩,?_⟩;conv=>whnf
         refine Qfy (k := a + i + k) v (by rw [List.length_set,hdl]; omega) hown5 fun w6 hown6 ho6 => ?_
         rw [g1] at hown6
         conv=>whnf
         refine ⟨((a + i + k : Nat) : Int),wrap_eq (by omega) ⟨by omega,by omega⟩,?_⟩;conv=>whnf
         refine ⟨k,by omega,⟨by omega,by rw [hdk]; simpa using hown6,hm2.trans ((Mod.drew _).trans (ho5.blk.trans ho6.blk))⟩,⟨rfl,rfl,rfl,rfl,rfl,rfl,rfl,trivial⟩⟩
       · intro hge
         have hge : k = 0 := by have := hd' hge; omega
         subst hge
         conv=>whnf
         exact ⟨rfl,_,hpr,hsr,by simpa using hown2,hm2⟩
   intro h1
   have hyl : 2 ≤ y.length := by simp at h1; omega
   clear h1
   obtain ⟨mid,hmid⟩ : ∃ mid,mid = (a + b) / 2 := ⟨_,rfl⟩
   have hne : p ++ x ++ y ++ s ≠ [] := fun e => by
    have h0 : (p ++ x ++ y ++ s).length = 0 := by rw [e]; rfl
    simp only [List.length_append] at h0
    omega
   obtain ⟨a0,hA⟩ : ∃ a0,A = some a0 := by
    obtain ⟨e,he⟩ : ∃ e,(p ++ x ++ y ++ s)[0]? = some e := ⟨_,List.getElem?_eq_getElem (List.length_pos_iff.2 hne)⟩
    obtain ⟨a0,h,_⟩ := Qcx hown he
    exact ⟨a0,h⟩
   subst hA
   conv=>whnf
   refine ⟨((a + b : Nat) : Int),Qa9 (by omega),?_⟩;conv=>whnf
   refine ⟨((a + b : Nat) : Int),Qtm (by omega),?_⟩;conv=>whnf
   refine ⟨(mid:Int),by rw [hmid]; exact Qlu _,?_⟩;conv=>whnf
   refine ⟨(mid:Int),Qtl (by omega),?_⟩;conv=>whnf
   refine ⟨((mid + m : Nat) : Int),Qa9 (by omega),?_⟩;conv=>whnf
   refine Q9 Qa (ι := Nat × Nat) (fun | (s0,r0) => [(0,.slice (some a0) L c),(1,.int .i64 a),(2,.int .i64 m),(3,.int .i64 b),(4,Qo9),(18,.int .i64 mid),(19,.int .i64 ((mid + m : Nat) : Int)),(20,.int .i64 s0),(21,.int .i64 r0)])
    (fun q w' => w' = w ∧ ((mid < m ∧ q.1 + b = mid + m ∧ q.2 = mid) ∨ (m ≤ mid ∧ q.1 = a ∧ q.2 = m))) ?_ ?_
   · constructor
     · intro hgt
       have hgt := hd hgt
       conv=>whnf
       refine ⟨((mid + m - b : Nat) : Int),Qdh (by omega) (by omega),?_⟩;conv=>whnf
       exact ⟨(mid + m - b,mid),⟨rfl,.inl ⟨hgt,by simp only; omega,rfl⟩⟩,⟨rfl,rfl,rfl,rfl,rfl,rfl,rfl,rfl,rfl,trivial⟩⟩
     · intro hle
       have hle := hd' hle
       conv=>whnf
       exact ⟨(a,m),⟨rfl,.inr ⟨hle,rfl,rfl⟩⟩,⟨rfl,rfl,rfl,rfl,rfl,rfl,rfl,rfl,rfl,trivial⟩⟩
   rintro ⟨s0,r0⟩ w1 ⟨rfl,hsr⟩
   simp only at hsr
   have hb1 : a ≤ s0 ∧ s0 ≤ r0 ∧ r0 ≤ m ∧ m + r0 ≤ mid + m ∧ mid + m ≤ b + s0 ∧ a < mid ∧ mid < b := by omega
   conv=>whnf
   refine ⟨((mid + m - 1 : Nat) : Int),wrap_eq (by omega) ⟨by omega,by omega⟩,?_⟩;conv=>whnf
   have hxat : ∀ i,a ≤ i → i < m → ∃ u,x[i - a]? = some u ∧ X7 w1 (a0.add (i * 8)) (evC u) := by
    intro i h1 h2
    have hlt : i - a < x.length := by omega
    have : (p ++ x ++ y ++ s)[i]? = some x[i - a] := by
     rw [List.append_assoc,List.append_assoc,List.getElem?_append_right (by omega),List.getElem?_append_left (by omega)]
     rw [show i - p.length = i - a by omega]
     exact List.getElem?_eq_getElem hlt
    obtain ⟨a1,h3,h4⟩ := Qcx hown this
    obtain rfl : a0 = a1 := by injection h3
    exact ⟨_,List.getElem?_eq_getElem hlt,h4⟩
   have hyat : ∀ i,m ≤ i → i < b → ∃ u,y[i - m]? = some u ∧ X7 w1 (a0.add (i * 8)) (evC u) := by
    intro i h1 h2
    have hlt : i - m < y.length := by omega
    have : (p ++ x ++ y ++ s)[i]? = some y[i - m] := by
     rw [List.append_assoc,List.getElem?_append_right (by simp; omega),List.getElem?_append_left (by simp; omega)]
     rw [show i - (p ++ x).length = i - m by simp; omega]
     exact List.getElem?_eq_getElem hlt
    obtain ⟨a1,h3,h4⟩ := Qcx hown this
    obtain rfl : a0 = a1 := by injection h3
    exact ⟨_,List.getElem?_eq_getElem hlt,h4⟩
   refine Qg Qa (fun (q:Nat × Nat) w' => s0 ≤ q.1 ∧ q.1 ≤ q.2 ∧ q.2 ≤ r0 ∧ (q.1 = s0 ∨ ∃ u v,x[q.1 - 1 - a]? = some u ∧ y[mid + m - q.1 - m]? = some v ∧ Q7 v u = false) ∧ (q.2 = r0 ∨ ∃ u v,x[q.2 - a]? = some u ∧ y[mid + m - 1 - q.2 - m]? = some v ∧ Q7 v u = true) ∧ Ext w1 w')
    (fun | (st,r) => [(0,.slice (some a0) L c),(1,.int .i64 a),(2,.int .i64 m),(3,.int .i64 b),(4,Qo9),(18,.int .i64 mid),(19,.int .i64 ((mid + m : Nat) : Int)),(22,.int .i64 ((mid + m - 1 : Nat) : Int)),(20,.int .i64 st),(21,.int .i64 r)]) (fun q => q.2 - q.1) (s0,r0)
    ⟨Nat.le_refl _,by simp only; omega,Nat.le_refl _,.inl rfl,.inl rfl,Ext.refl _⟩ ⟨rfl,rfl,rfl,rfl,rfl,rfl,rfl,rfl,rfl,rfl,trivial⟩ ?_
   rintro ⟨st,r⟩ w2 ⟨hs1,hs2,hs3,hs4,hs5,hx2⟩
   simp only at hs1 hs2 hs3 hs4 hs5
   conv=>whnf
   constructor
   · intro hlt
     have hlt : st < r := hd hlt
     obtain ⟨h,hh⟩ : ∃ h,h = (st + r) / 2 := ⟨_,rfl⟩
     obtain ⟨u,hu,hcu⟩ := hxat h (by omega) (by omega)
     obtain ⟨v,hv,hcv⟩ := hyat (mid + m - 1 - h) (by omega) (by omega)
     conv=>whnf
     refine ⟨((st + r : Nat) : Int),Qa9 (by omega),?_⟩;conv=>whnf
     refine ⟨((st + r : Nat) : Int),Qtm (by omega),?_⟩;conv=>whnf
     refine ⟨(h:Int),by rw [hh]; exact Qlu _,?_⟩;conv=>whnf
     refine ⟨(h:Int),Qtl (by omega),?_⟩;conv=>whnf
     refine Dr .same [0,1,2,3,4,5,6,7,8,9,10] [11,12,13] ?_;conv=>whnf
     replace hx2 : Ext w1 w2.drew := hx2.drew
     generalize w2.drew = w3 at hx2 ⊢
     refine ⟨((mid + m - 1 - h : Nat) : Int),Qdh (by omega) (by omega),?_⟩;conv=>whnf
     refine ⟨a0,⟨rfl,by omega,by omega⟩,?_⟩;conv=>whnf
     refine ⟨evC v,⟨rfl,hx2.cells hcv⟩,?_⟩;conv=>whnf
     refine ⟨a0,⟨rfl,by omega,by omega⟩,?_⟩;conv=>whnf
     refine ⟨evC u,⟨rfl,hx2.cells hcu⟩,?_⟩;conv=>whnf
     refine (Qbc v u w3).mono ?_
     rintro _ w4 ⟨rfl,hx4⟩
     conv=>whnf
     constructor
     · intro hc
       have hc : Q7 v u = false := by rw [← Qcd]; simpa using hc
       conv=>whnf
       refine ⟨_,wrap_succ (by omega),?_⟩;conv=>whnf
       refine ⟨(h + 1,r),by simp only; omega,⟨by simp only; omega,by simp only; omega,hs3,.inr ⟨u,v,by simpa using hu,?_,hc⟩,hs5,hx2.trans hx4⟩,⟨rfl,rfl,rfl,rfl,rfl,rfl,rfl,rfl,rfl,rfl,trivial⟩⟩
       rw [← hv]; congr 1; simp only; omega
     · intro hc
       have hc : Q7 v u = true := by rw [← Qcd]; simpa using hc
       conv=>whnf
       exact ⟨(st,h),by simp only; omega,⟨hs1,by simp only; omega,by simp only; omega,hs4,.inr ⟨u,v,hu,hv,hc⟩,hx2.trans hx4⟩,⟨rfl,rfl,rfl,rfl,rfl,rfl,rfl,rfl,rfl,rfl,trivial⟩⟩
   · intro hge
     have hge : r ≤ st := hd' hge
     obtain rfl : st = r := by omega
     obtain ⟨en,hen⟩ : ∃ en,en = mid + m - st := ⟨_,rfl⟩
     have hown2 := hown.ext hx2
     have hm2 : Mod (Blk (some a0)) w1 w2 := Mod.of_ext hx2
     -- the four parts
     have hxd : x = x.take (st - a) ++ x.drop (st - a) := (List.take_append_drop _ _).symm
     have hyd : y = y.take (en - m) ++ y.drop (en - m) := (List.take_append_drop _ _).symm
     have hq1 : ∀ u v,(x.take (st - a)).getLast? = some u → (y.drop (en - m)).head? = some v → Q7 v u = false := by
      intro u v h1 h2
      rcases hs4 with h | ⟨u',v',hu,hv,hl⟩
      · rcases hsr with ⟨e1,e2,e3⟩ | ⟨e1,e2,e3⟩
        · rw [List.drop_of_length_le (by omega)] at h2; simp at h2
        · rw [show st - a = 0 by omega] at h1; simp at h1
      · by_cases h0 : st - a = 0
        · rw [h0] at h1; simp at h1
        · rw [Ql3 (by omega) (by rw [← hu]; congr 1; omega)] at h1
          rw [head_drop (by rw [← hv]; congr 1; omega)] at h2
          obtain rfl : u' = u := by simpa using h1
          obtain rfl : v' = v := by simpa using h2
          exact hl
     have hq2 : ∀ u v,(y.take (en - m)).getLast? = some u → (x.drop (st - a)).head? = some v → Q7 v u = false := by
      intro u v h1 h2
      rcases hs5 with h | ⟨u',v',hu,hv,hl⟩
      · rcases hsr with ⟨e1,e2,e3⟩ | ⟨e1,e2,e3⟩
        · rw [show en - m = 0 by omega] at h1; simp at h1
        · rw [List.drop_of_length_le (by omega)] at h2; simp at h2
      · by_cases h0 : en - m = 0
        · rw [h0] at h1; simp at h1
        · rw [Ql3 (by omega) (by rw [← hv]; congr 1; omega)] at h1
          rw [head_drop hu] at h2
          obtain rfl : v' = u := by simpa using h1
          obtain rfl : u' = v := by simpa using h2
          exact Qaa.asymm _ _ hl
     have l1 : (x.take (st - a)).length = st - a := by simp; omega
     have l2 : (x.drop (st - a)).length = m - st := by simp; omega
     have l3 : (y.take (en - m)).length = mid - st := by simp; omega
     have l4 : (y.drop (en - m)).length = b - en := by simp; omega
     generalize x.take (st - a) = x1 at hxd hq1 l1
     generalize x.drop (st - a) = x2 at hxd hq2 l2
     generalize y.take (en - m) = y1 at hyd hq2 l3
     generalize y.drop (en - m) = y2 at hyd hq1 l4
     clear hs4 hs5 hxat hyat hsr
     subst hxd hyd
     have hlx : (x1 ++ x2).length = x1.length + x2.length := List.length_append
     have hly : (y1 ++ y2).length = y1.length + y2.length := List.length_append
     conv=>whnf
     refine ⟨(en:Int),wrap_eq (by omega) ⟨by omega,by omega⟩,?_⟩;conv=>whnf
     refine Q9 Qa (ι := Unit) (fun _ => [(0,.slice (some a0) L c),(1,.int .i64 a),(2,.int .i64 m),(3,.int .i64 b),(4,Qo9),(18,.int .i64 mid),(20,.int .i64 st),(24,.int .i64 en)])
      (fun _ w' => Own evC 8 66 base w' (some a0) c (p ++ x1 ++ y1 ++ x2 ++ y2 ++ s) ∧ Mod (Blk (some a0)) w1 w') ?_ ?_
     · constructor
       · intro hc
         have hc : (decide ((st:Int) < (m:Int)) && decide ((m:Int) < (en:Int))) = true := hc
         rw [Bool.and_eq_true] at hc
         have c1 := hd hc.1
         have c2 := hd hc.2
         conv=>whnf
         refine (Qvc (p ++ x1) x2 y1 (y2 ++ s) st m en Qo9 (some a0) c base w2 (List.length_pos_iff.1 (by omega)) (List.length_pos_iff.1 (by omega)) (by simp; omega) (by simp; omega) (by simp; omega) L (by simp; omega) hLs (by simpa using hown2)).mono ?_
         rintro _ w3 ⟨rfl,hown3,hm3⟩;conv=>whnf
         exact ⟨(),⟨by simpa using hown3,hm2.trans hm3⟩,⟨rfl,rfl,rfl,rfl,rfl,rfl,rfl,rfl,trivial⟩⟩
       · intro hc
         have hc : (decide ((st:Int) < (m:Int)) && decide ((m:Int) < (en:Int))) = false := hc
         conv=>whnf
         refine ⟨(),⟨?_,hm2⟩,⟨rfl,rfl,rfl,rfl,rfl,rfl,rfl,rfl,trivial⟩⟩
         have : x2 = [] ∨ y1 = [] := by
          rw [← List.length_eq_zero_iff,← List.length_eq_zero_iff]
          rw [Bool.and_eq_false_iff] at hc
          rcases hc with h | h
          · have := hd' h; omega
          · have := hd' h; omega
         rcases this with h | h <;> (subst h; simpa using hown2)
     rintro _ w3 ⟨hown3,hm3⟩
     conv=>whnf
     have hsx1 := hsx.left
     have hsx2 := hsx.right
     have hsy1 := hsy.left
     have hsy2 := hsy.right
     refine Q9 Qa (ι := List Ev) (fun _ => [(0,.slice (some a0) L c),(1,.int .i64 a),(2,.int .i64 m),(3,.int .i64 b),(4,Qo9),(18,.int .i64 mid),(20,.int .i64 st),(24,.int .i64 en)])
      (fun z w' => z.Perm (x1 ++ y1) ∧ Srt Q7 z ∧ Own evC 8 66 base w' (some a0) c (p ++ z ++ x2 ++ y2 ++ s) ∧ Mod (Blk (some a0)) w1 w') ?_ ?_
     · constructor
       · intro hc
         have hc : (decide ((a:Int) < (st:Int)) && decide ((st:Int) < (mid:Int))) = true := hc
         rw [Bool.and_eq_true] at hc
         have c1 := hd hc.1
         have c2 := hd hc.2
         conv=>whnf
         refine (ih p x1 y1 (x2 ++ y2 ++ s) a st mid (some a0) c base w3 (by omega) (by omega) (by omega) hsx1 hsy1 ha (by omega) (by omega) L (by simp; omega) hLs (by simpa using hown3)).mono ?_
         rintro _ w4 ⟨rfl,z,hz1,hz2,hown4,hm4⟩;conv=>whnf
         exact ⟨z,⟨hz1,hz2,by simpa using hown4,hm3.trans hm4⟩,⟨rfl,rfl,rfl,rfl,rfl,rfl,rfl,rfl,trivial⟩⟩
       · intro hc
         have hc : (decide ((a:Int) < (st:Int)) && decide ((st:Int) < (mid:Int))) = false := hc
         conv=>whnf
         refine ⟨x1 ++ y1,⟨List.Perm.refl _,?_,by simpa using hown3,hm3⟩,⟨rfl,rfl,rfl,rfl,rfl,rfl,rfl,rfl,trivial⟩⟩
         have : x1 = [] ∨ y1 = [] := by
          rw [← List.length_eq_zero_iff,← List.length_eq_zero_iff]
          rw [Bool.and_eq_false_iff] at hc
          rcases hc with h | h
          · have := hd' h; omega
          · have := hd' h; omega
         rcases this with h | h
         · subst h; simpa using hsy1
         · subst h; simpa using hsx1
     rintro z1 w4 ⟨hp1,hs1',hown4,hm4⟩
     have hz1 := hp1.length_eq
     simp only [List.length_append] at hz1
     conv=>whnf
     constructor
     · intro hc
       have hc : (decide ((mid:Int) < (en:Int)) && decide ((en:Int) < (b:Int))) = true := hc
       rw [Bool.and_eq_true] at hc
       have c1 := hd hc.1
       have c2 := hd hc.2
       conv=>whnf
       refine (ih (p ++ z1) x2 y2 s mid en b (some a0) c base w4 (by omega) (by omega) (by omega) hsx2 hsy2 (by simp; omega) (by simp; omega) (by simp; omega) L (by simp; omega) hLs (by simpa using hown4)).mono ?_
       rintro _ w5 ⟨rfl,z2,hp2,hs2',hown5,hm5⟩;conv=>whnf
       obtain ⟨k1,k2⟩ := Qs2 Qaa hsx hsy hq1 hq2 hp1 hp2 hs1' hs2'
       exact ⟨rfl,z1 ++ z2,k2,k1,by simpa using hown5,hm4.trans hm5⟩
     · intro hc
       have hc : (decide ((mid:Int) < (en:Int)) && decide ((en:Int) < (b:Int))) = false := hc
       conv=>whnf
       have : Srt Q7 (x2 ++ y2) := by
        have : x2 = [] ∨ y2 = [] := by
         rw [← List.length_eq_zero_iff,← List.length_eq_zero_iff]
         rw [Bool.and_eq_false_iff] at hc
         rcases hc with h | h
         · have := hd' h; omega
         · have := hd' h; omega
        rcases this with h | h
        · subst h; simpa using hsy2
        · subst h; simpa using hsx2
       obtain ⟨k1,k2⟩ := Qs2 Qaa hsx hsy hq1 hq2 hp1 (List.Perm.refl _) hs1' this
       exact ⟨rfl,z1 ++ (x2 ++ y2),k2,k1,by simpa using hown4,hm4⟩
section
variable {α:Type} {lt:α → α → Bool}
inductive Qwe (lt:α → α → Bool) (bs:Nat) : List α → Prop
 | last (r:List α) : r.length ≤ bs → Srt lt r → Qwe lt bs r
 | cons (r t:List α) : r.length = bs → Srt lt r → Qwe lt bs t → Qwe lt bs (r ++ t)
def Full (lt:α → α → Bool) (bs:Nat) (z:List α) : Prop := ∃ L : List (List α),z = L.flatten ∧ ∀ r ∈ L,r.length = bs ∧ Srt lt r
theorem Full.nil (bs:Nat) : Full lt bs ([] : List α) := ⟨[],rfl,by simp⟩
theorem Full.snoc {bs:Nat} {z r:List α} (h:Full lt bs z) (hr:r.length = bs) (hs:Srt lt r) : Full lt bs (z ++ r) := by
 obtain ⟨L,rfl,hL⟩ := h
 refine ⟨L ++ [r],by simp,fun x hx => ?_⟩
 rcases List.mem_append.1 hx with hx | hx
 · exact hL x hx
 · simp at hx; subst hx; exact ⟨hr,hs⟩
theorem Full.runs {bs:Nat} {z t:List α} (h:Full lt bs z) (ht:Qwe lt bs t) : Qwe lt bs (z ++ t) := by
 obtain ⟨L,rfl,hL⟩ := h
 induction L with
 | nil => simpa using ht
 | cons r L ih =>
   simp only [List.flatten_cons,List.append_assoc]
   exact .cons _ _ (hL r (by simp)).1 (hL r (by simp)).2 (ih fun x hx => hL x (by simp [hx]))
theorem Qqd {bs:Nat} {d:List α} (h:Qwe lt bs d) (hl:d.length ≤ bs) : Srt lt d := by
 induction h with
 | last r _ hs => exact hs
 | cons r t hr hs ht ih =>
   have : t = [] := by rw [← List.length_eq_zero_iff]; simp at hl; omega
   subst this; simpa using hs
theorem Qqc {bs:Nat} {d:List α} (h:Qwe lt bs d) (hl:bs < d.length) : ∃ r t,d = r ++ t ∧ r.length = bs ∧ Srt lt r ∧ Qwe lt bs t := by
 cases h with
 | last _ h1 _ => omega
 | cons r t hr hs ht => exact ⟨r,t,rfl,hr,hs,ht⟩
theorem Q3s {bs:Nat} {d:List α} (h:Qwe lt bs d) (hl:bs ≤ d.length) : ∃ r t,d = r ++ t ∧ r.length = bs ∧ Srt lt r ∧ Qwe lt bs t := by
 rcases Nat.lt_or_eq_of_le hl with hl | hl
 · exact Qqc h hl
 · exact ⟨d,[],by simp,hl.symm,Qqd h (by omega),.last _ (by simp) Srt.nil⟩
end
set_option maxHeartbeats 4000000 in
theorem Qvr (x:List Ev) (A:Option Addr) (c base:Nat) (w:World) (n:Nat) (hn:x.length = n) (hLs:n < 100000000000)
 (hown:Own evC 8 66 base w A c x) :
 Cal Tryz.prog 247 [.slice A n c,.int .i64 n,Qo9] w fun r w' => r = .tuple #[] ∧ ∃ z,z.Perm x ∧ Srt Q7 z ∧ Own evC 8 66 base w' A c z ∧ Mod (Blk A) w w' := by
 have hd : ∀ {m n:Nat},decide ((m:Int) < (n:Int)) = true → m < n := fun h => by simpa using h
 have hd' : ∀ {m n:Nat},decide ((m:Int) < (n:Int)) = false → n ≤ m := fun h => by simpa using h
 have hl : ∀ {m n:Nat},decide ((m:Int) ≤ (n:Int)) = true → m ≤ n := fun h => by simpa using h
 have hl' : ∀ {m n:Nat},decide ((m:Int) ≤ (n:Int)) = false → n < m := fun h => by simpa using h
 refine Fi Tryz.func247 rfl _ rfl rfl ?_;conv=>whnf
 refine Qg Qa (fun (q:List Ev × List Ev) w' => Full Q7 20 q.1 ∧ (q.1 ++ q.2).Perm x ∧ q.1.length + q.2.length = n ∧ Own evC 8 66 base w' A c (q.1 ++ q.2) ∧ Mod (Blk A) w w')
  (fun | (z,_) => [(0,.slice A n c),(1,.int .i64 n),(2,Qo9),(6,.int .i64 20),(7,.int .i64 (z.length : Nat)),(8,.int .i64 ((z.length + 20 : Nat) : Int))]) (fun q => q.2.length) ([],x)
  ⟨Full.nil _,List.Perm.refl _,by simpa using hn,by simpa using hown,Mod.refl _ _⟩ ⟨rfl,rfl,rfl,rfl,rfl,rfl,trivial⟩ ?_
 rintro ⟨z,t⟩ w1 ⟨hf,hp,hlen,hown1,hm1⟩
 simp only at hp hlen hown1
 conv=>whnf
 constructor
 · intro hle
   have hle := hl hle
   obtain ⟨r,t',ht,hr⟩ : ∃ r t',t = r ++ t' ∧ r.length = 20 := ⟨t.take 20,t.drop 20,by simp,by simp; omega⟩
   have hlt : t.length = r.length + t'.length := by rw [ht]; simp
   conv=>whnf
   refine (Qgz z r t' z.length (z.length + 20) A c base w1 rfl (by omega) n (by omega) (by omega) (by rw [ht] at hown1; simpa using hown1)).mono ?_
   rintro _ w2 ⟨rfl,r',hrp,hrs,hown2,hm2⟩;conv=>whnf
   have hrl := hrp.length_eq
   refine ⟨((z.length + 20 + 20 : Nat) : Int),Qa9 (by omega),?_⟩;conv=>whnf
   refine ⟨(z ++ r',t'),by simp only; omega,⟨hf.snoc (by omega) hrs,?_,by simp only [List.length_append]; omega,hown2,hm1.trans hm2⟩,⟨rfl,rfl,rfl,rfl,int_eq (by rw [List.length_append]; omega),int_eq (by rw [List.length_append]; omega),trivial⟩⟩
   refine List.Perm.trans ?_ hp
   rw [ht]
   simp only
   rw [List.append_assoc]
   exact List.Perm.append_left z (hrp.append_right t')
 intro hgt
 have hgt := hl' hgt
 conv=>whnf
 refine (Qgz z t [] z.length n A c base w1 rfl (by omega) n (by simp; omega) (by omega) (by simpa using hown1)).mono ?_
 rintro _ w2 ⟨rfl,r',hrp,hrs,hown2,hm2⟩
 have hrl := hrp.length_eq
 have hruns : Qwe Q7 20 (z ++ r') := hf.runs (.last _ (by omega) hrs)
 have hpm : (z ++ r').Perm x := (List.Perm.append_left z hrp).trans hp
 have hln : (z ++ r').length = n := by simp; omega
 have hown2' : Own evC 8 66 base w2 A c (z ++ r') := by simpa using hown2
 conv=>whnf
 refine Qg Qa (fun (q:Nat × List Ev) w' => 0 < q.1 ∧ q.1 < 2 * n + 40 ∧ Qwe Q7 q.1 q.2 ∧ q.2.Perm x ∧ q.2.length = n ∧ Own evC 8 66 base w' A c q.2 ∧ Mod (Blk A) w w')
  (fun | (bs,_) => [(0,.slice A n c),(1,.int .i64 n),(2,Qo9),(6,.int .i64 (bs:Nat))]) (fun q => n - q.1) (20,z ++ r')
  ⟨by simp,by simp only; omega,hruns,hpm,hln,hown2',hm1.trans hm2⟩ ⟨rfl,rfl,rfl,rfl,trivial⟩ ?_
 clear hruns hpm hln hown2' hown2 hrp hrs hrl hf hp hlen hown1 hgt
 rintro ⟨bs,d⟩ w3 ⟨hbs,hbs2,hruns,hpm,hln,hown3,hm3⟩
 simp only at hbs hbs2 hruns hpm hln hown3
 conv=>whnf
 constructor
 · intro hlt
   have hlt := hd hlt
   conv=>whnf
   refine ⟨((2 * bs : Nat) : Int),wrap_eq (by omega) ⟨by omega,by omega⟩,?_⟩;conv=>whnf
   refine Qg Qa (fun (q:List Ev × List Ev) w' => Full Q7 (2 * bs) q.1 ∧ Qwe Q7 bs q.2 ∧ (q.1 ++ q.2).Perm x ∧ q.1.length + q.2.length = n ∧ Own evC 8 66 base w' A c (q.1 ++ q.2) ∧ Mod (Blk A) w w')
    (fun | (z,_) => [(0,.slice A n c),(1,.int .i64 n),(2,Qo9),(6,.int .i64 (bs:Nat)),(7,.int .i64 (z.length : Nat)),(8,.int .i64 ((z.length + 2 * bs : Nat) : Int))]) (fun q => q.2.length) ([],d)
    ⟨Full.nil _,hruns,by simpa using hpm,by simpa using hln,by simpa using hown3,hm3⟩ ⟨rfl,rfl,rfl,rfl,rfl,int_eq (by simp),trivial⟩ ?_
   rintro ⟨z,t⟩ w4 ⟨hf,hrt,hp,hlen,hown4,hm4⟩
   simp only at hrt hp hlen hown4
   conv=>whnf
   constructor
   · intro hle
     have hle := hl hle
     obtain ⟨r1,t1,ht1,hr1,hs1,hrt1⟩ := Qqc hrt (by omega)
     have hlt1 : t.length = r1.length + t1.length := by rw [ht1]; simp
     obtain ⟨r2,t2,ht2,hr2,hs2,hrt2⟩ := Q3s hrt1 (by omega)
     have hlt2 : t1.length = r2.length + t2.length := by rw [ht2]; simp
     conv=>whnf
     refine ⟨((z.length + bs : Nat) : Int),Qa9 (by omega),?_⟩;conv=>whnf
     refine (Qim _ z r1 r2 t2 z.length (z.length + bs) (z.length + 2 * bs) A c base w4 (Nat.le_refl _) (by omega) (by omega) hs1 hs2 rfl (by omega) (by omega) n (by omega) (by omega) (by rw [ht1,ht2] at hown4; simpa using hown4)).mono ?_
     rintro _ w5 ⟨rfl,r',hrp,hrs,hown5,hm5⟩
     have hrl := hrp.length_eq
     simp only [List.length_append] at hrl
     conv=>whnf
     refine ⟨((2 * bs : Nat) : Int),wrap_eq (by omega) ⟨by omega,by omega⟩,?_⟩;conv=>whnf
     refine ⟨((z.length + 2 * bs + 2 * bs : Nat) : Int),Qa9 (by omega),?_⟩;conv=>whnf
     refine ⟨(z ++ r',t2),by simp only; omega,⟨hf.snoc (by omega) hrs,hrt2,?_,by simp only [List.length_append]; omega,hown5,hm4.trans hm5⟩,⟨rfl,rfl,rfl,rfl,int_eq (by rw [List.length_append]; omega),int_eq (by rw [List.length_append]; omega),trivial⟩⟩
     refine List.Perm.trans ?_ hp
     rw [ht1,ht2]
     simp only
     rw [List.append_assoc,← List.append_assoc r1]
     exact List.Perm.append_left z (hrp.append_right t2)
   intro hgt
   have hgt := hl' hgt
   conv=>whnf
   refine Q9 Qa (ι := List Ev) (fun _ => [(0,.slice A n c),(1,.int .i64 n),(2,Qo9),(6,.int .i64 (bs:Nat))])
    (fun d' w' => Qwe Q7 (2 * bs) d' ∧ d'.Perm x ∧ d'.length = n ∧ Own evC 8 66 base w' A c d' ∧ Mod (Blk A) w w') ?_ ?_
   · (conv=>whnf)
     refine ⟨((z.length + bs : Nat) : Int),Qa9 (by omega),?_⟩;conv=>whnf
     constructor
     · intro hlt2
       have hlt2 := hd hlt2
       obtain ⟨r1,t1,ht1,hr1,hs1,hrt1⟩ := Qqc hrt (by omega)
       have hlt1 : t.length = r1.length + t1.length := by rw [ht1]; simp
       have hs2 := Qqd hrt1 (by omega)
       conv=>whnf
       refine (Qim _ z r1 t1 [] z.length (z.length + bs) n A c base w4 (Nat.le_refl _) (by omega) (by omega) hs1 hs2 rfl (by omega) (by omega) n (by simp; omega) (by omega) (by rw [ht1] at hown4; simpa using hown4)).mono ?_
       rintro _ w5 ⟨rfl,r',hrp,hrs,hown5,hm5⟩
       have hrl := hrp.length_eq
       simp only [List.length_append] at hrl
       conv=>whnf
       refine ⟨z ++ r',⟨hf.runs (.last _ (by omega) hrs),?_,by simp; omega,by simpa using hown5,hm4.trans hm5⟩,⟨rfl,rfl,rfl,rfl,trivial⟩⟩
       refine List.Perm.trans (List.Perm.append_left z hrp) ?_
       rw [← ht1]; exact hp
     · intro hge
       have hge := hd' hge
       conv=>whnf
       exact ⟨z ++ t,⟨hf.runs (.last _ (by omega) (Qqd hrt (by omega))),hp,by simp; omega,hown4,hm4⟩,⟨rfl,rfl,rfl,rfl,trivial⟩⟩
   rintro d' w5 ⟨hr5,hp5,hl5,hown5,hm5⟩
   conv=>whnf
   refine ⟨((2 * bs : Nat) : Int),wrap_eq (by omega) ⟨by omega,by omega⟩,?_⟩;conv=>whnf
   exact ⟨(2 * bs,d'),by simp only; omega,⟨by simp only; omega,by simp only; omega,hr5,hp5,hl5,hown5,hm5⟩,⟨rfl,rfl,rfl,rfl,trivial⟩⟩
 · intro hge
   have hge := hd' hge
   conv=>whnf
   exact ⟨rfl,d,hpm,Qqd hruns (by omega),hown3,hm3⟩
theorem Qm0 (x:List Ev) (A:Option Addr) (c base:Nat) (w:World) (n:Nat) (hn:x.length = n) (hLs:n < 100000000000)
 (hown:Own evC 8 66 base w A c x) :
 Cal Tryz.prog 201 [.slice A n c,Qo9] w fun r w' => r = .tuple #[] ∧ ∃ z,z.Perm x ∧ Srt Q7 z ∧ Own evC 8 66 base w' A c z ∧ Mod (Blk A) w w' := by
 refine Fi Tryz.func201 rfl _ rfl rfl ?_;conv=>whnf
 refine (Qvr x A c base w n hn hLs hown).mono ?_
 rintro _ w1 ⟨rfl,h⟩;conv=>whnf
 exact ⟨rfl,h⟩
section
variable {P:Program}
theorem Qds {t e:TypeId} (h:P.underlying t = some (.slice e)) (A:Option Addr) (n c:Nat) (ox oy:Operand) : Qq9 P t ox oy (.slice A n c) (.slice none 0 0) A.isNone := by
 intro w
 have h1 := run_equal_slice_nil (P := P) w t e A n c h
 constructor
 · simp [eqGuard,binOp,h1]
 · simp [eqGuard,binOp,h1]
theorem Xw {t k e:TypeId} (h:P.underlying t = some (.map k e)) (m:Option Nat) (ox oy:Operand) : Qq9 P t ox oy (.map m) (.map none) m.isNone := by
 intro w
 have h1 := run_equal_map_nil (P := P) w t k e m h
 constructor
 · simp [eqGuard,binOp,h1]
 · simp [eqGuard,binOp,h1]
end
theorem Q7m : Tryz.prog.underlying 24 = some (.slice 66) := by kernel_rfl
theorem Qiz {w:World} {A:Option Addr} {c base:Nat} {l:List Ev} {R:Value → World → Prop} {ty:TypeId} (hown:Own evC 8 66 base w A c l) {B:Option Addr} {cB:Nat} {news:List Ev} (hs:SlE w B news) (hl:l.length + news.length < 1000000000000) (hbase:base ≤ w.heap.size)
 (h:∀ A' c' w',Own evC 8 66 base w' A' c' (l ++ news) → w.grownBy w' (A.map (·.block)) → (A' = A ∨ A'.map (·.block) = A.map (·.block) ∨ A'.map (·.block) = some w.heap.size) → R (.slice A' (l ++ news).length c') w') :
 Qkj Tryz.prog (Builtin.append_ #[24,24] ty [.slice A l.length c,.slice B news.length cB].toArray) w R :=
 Qbl (bytes := 96) ty66_ok Q7m by66 rfl rfl (by decide) Qb1 Qe1 hown hs (by omega) (by omega) hbase h
theorem Xag {w:World} {A:Option Addr} {c base:Nat} {l:List Ev} (h:Own evC 8 66 base w A c l) : ∀ k,A.map (·.block) = some k → base ≤ k := by
 intro k hk
 cases A with
 | none => simp at hk
 | some a => have := h.block (a := a) rfl; simp at hk; omega
theorem Qyp (x:List Ev) (A:Option Addr) (c:Nat) (w:World) (hs:SlE w A x) (hl:x.length < 1000000000000) :
 Cal Tryz.prog 200 [.slice A x.length c] w fun r w' => ∃ A' c',r = .slice A' x.length c' ∧ Own evC 8 66 w.heap.size w' A' c' x ∧ Ext w w' := by
 refine Fi Tryz.func200 rfl _ rfl rfl ?_;conv=>whnf
 refine ⟨_,Qds Q7m A _ _ _ _,?_⟩;conv=>whnf
 constructor
 · intro h
   obtain rfl : A = none := by simpa using h
   have hx : x = [] := by
    cases x with
    | nil => rfl
    | cons e x => obtain ⟨a,ha,_⟩ := hs 0 e rfl; cases ha
   subst hx
   conv=>whnf
   exact ⟨none,0,rfl,Own.nil,Ext.refl _⟩
 · intro h
   conv=>whnf
   intro b1 w1 hn1;conv=>whnf
   refine Qiz (l := []) (base := w.heap.size) (Own.made hn1 (Nat.le_refl _)) (hs.ext hn1.ext) (by simpa using hl) hn1.ext.size ?_
   intro A' c' w' hown hg hA
   conv=>whnf
   refine ⟨A',c',by simp,by simpa using hown,Qag hn1.ext hg fun k hk => ?_⟩
   have : k = b1 := by simpa using hk.symm
   rw [this,hn1.block]; exact Nat.le_refl _
theorem Q1s (A:Option Addr) (n c:Nat) (w:World) (h:n ≤ c) :
 Cal Tryz.prog 202 [.slice A n c] w fun r w' => r = .slice A n n ∧ w' = w := by
 refine Fi Tryz.func202 rfl _ rfl rfl ?_;conv=>whnf
 refine ⟨⟨by simp,by omega,by omega,by omega⟩,?_⟩;conv=>whnf
 refine ⟨?_,rfl⟩
 cases A <;> simp [Addr.add]
theorem Qy0 {w w1 w2:World} {A:Option Addr} (hx:Ext w w1) (hm:Mod (Blk A) w1 w2) (h:∀ a,A = some a → w.heap.size ≤ a.block) : Ext w w2 :=
 X9 hx hm fun k hk => by obtain ⟨a,ha,rfl⟩ := hk; exact h a ha
structure Gl (w:World) : Prop where
 maxLen : ∃ m,w.cell? ⟨2,0,none⟩ = some (.int .i64 m)
 pow10 : Lib.TabIs Tryz.prog w "internal/strconv.uint64pow10" .u64 Lib.pow10Tab
 kinds : X7 w ⟨0,0,none⟩ (kindNames.map Value.string)
 size : 10 ≤ w.heap.size
theorem Xbk : Tryz.prog.globalNamed "internal/strconv.uint64pow10" = some 1 := by kernel_rfl
theorem Gl.keep {w w':World} (h:Gl w) (hk:∀ k,k < 10 → w'.heap[k]? = w.heap[k]?) (hs:w.heap.size ≤ w'.heap.size) : Gl w' where
 maxLen := by obtain ⟨m,hm⟩ := h.maxLen; exact ⟨m,by rw [World.cell?_of_block (w := w) (hk _ (by decide))]; exact hm⟩
 pow10 := by
  have := h.pow10
  unfold Lib.TabIs World.var? at this ⊢
  rw [Xbk] at this ⊢
  simp only [Option.bind_some] at this ⊢
  rw [hk _ (by decide)]; exact this
 kinds := fun j v hj => by
  rw [World.cell?_of_block (w := w) (hk _ (by rw [add_block]; decide))]; exact h.kinds j v hj
 size := Nat.le_trans h.size hs
theorem Gl.ext {w w':World} (h:Gl w) (hx:Ext w w') : Gl w' := h.keep (fun k hk => hx.block k (Nat.lt_of_lt_of_le hk h.size)) hx.size
theorem Gl.mod {w w':World} {S:Nat → Prop} (h:Gl w) (hx:Mod S w w') (hs:∀ k,S k → 10 ≤ k) : Gl w' :=
 h.keep (fun k hk => hx.block k (Nat.lt_of_lt_of_le hk h.size) (fun q => by have := hs k q; omega)) hx.size
theorem Gl.only {w w':World} {b:Nat} (h:Gl w) (hx:Only w w' b) (hb:10 ≤ b) : Gl w' := h.keep (fun k hk => hx.block k (by omega)) (by rw [hx.size]; exact Nat.le_refl _)
theorem Qlo (w:World) (n:Nat) : Ext w (w.drewN n) := ⟨rfl,rfl,rfl,Nat.le_refl _,fun _ _ => rfl⟩
theorem Qhz (w:World) (os:Array Obj) : Ext w (Go.Sort.grow w os) := by
 refine ⟨rfl,rfl,rfl,by simp [Go.Sort.grow],fun k hk => ?_⟩
 simp only [Go.Sort.grow]
 rw [Array.getElem?_append_left hk]
theorem Qur (c:UInt8) : ∀ l : List UInt8,Lib.indexByte l c = match l.findIdx? (· == c) with | some i => (i:Int) | none => -1
 | [] => rfl
 | b :: l => by
   unfold Lib.indexByte
   rw [Qur c l,List.findIdx?_cons]
   cases hb : (b == c) with
   | true => simp
   | false =>
     simp only [Bool.false_eq_true,if_false]
     cases l.findIdx? (· == c) with
     | none => simp
     | some i => simp
theorem Q8e (s:ByteArray) : Lib.index s.data.toList [59] = Qea s := by
 rw [Lib.index_one,Qur]; rfl
def Qau (s:ByteArray) : ByteArray := match Qai s with | some i => s.extract (i + 1) s.size | none => ⟨#[]⟩
theorem Xab : Qox Tryz.prog 196 := ⟨_,Tryz.func196,rfl,rfl⟩
theorem Qkp (s:ByteArray) (w:World) (hg:Gl w) (hs:s.size < 4000000000) :
 Cal Tryz.prog 196 [.string s,.string ⟨#[59]⟩] w fun r w' => r = .tuple #[.string (Qak s),.string (Qau s),.bool (Qai s).isSome] ∧ Ext w w' := by
 obtain ⟨m,hm⟩ := hg.maxLen
 refine Qbq Xab (Tryz.strings_Cut s ⟨#[59]⟩ m w (by omega) hm) ?_
 rintro w' ⟨n,rfl⟩
 refine ⟨?_,Qlo w n⟩
 have h1 : Lib.cut s.data.toList [59] = ((Qak s).data.toList,(Qau s).data.toList,(Qai s).isSome) := by
  unfold Lib.cut
  rw [Q8e]
  unfold Qea Qak Qau
  cases hp : Qai s with
  | none => simp
  | some i =>
    have := Qf3 hp
    simp only [Int.natCast_nonneg,if_true,Int.toNat_natCast,Option.isSome_some,Qd6]
    have hl : s.data.toList.length = s.size := by simp
    simp only [List.drop_zero,Nat.sub_zero,List.length_cons,List.length_nil,Nat.zero_add]
    rw [List.take_of_length_le (l := s.data.toList.drop (i + 1)) (by simp)]
 show Value.tuple #[.string ⟨(Lib.cut s.data.toList [59]).1.toArray⟩,.string ⟨(Lib.cut s.data.toList [59]).2.1.toArray⟩,.bool (Lib.cut s.data.toList [59]).2.2] = _
 rw [h1]
theorem Qse {c:UInt8} : ∀ {a b:List UInt8},(∀ x ∈ a,x ≠ c) → partsOf c (a ++ c :: b) = a :: partsOf c b
 | [],b,_ => by simp [partsOf]
 | x :: a,b,h => by
   simp only [List.cons_append,partsOf]
   rw [if_neg (h x (by simp)),Qse (a := a) (fun y hy => h y (by simp [hy]))]
theorem Qm2 : ∀ (n:Nat) (s:ByteArray),s.size ≤ n → Lib.splitB ⟨#[44]⟩ 0 (Lib.countB s ⟨#[44]⟩) s = Qa8 44 s := by
 intro n
 induction n with
 | zero =>
   intro s hs
   have : s.data.toList = [] := List.length_eq_zero_iff.1 (by simpa using hs)
   have hi : Lib.indexB s ⟨#[44]⟩ = -1 := by
    show Lib.index s.data.toList [44] = -1
    rw [this]; rfl
   rw [Lib.splitB_miss _ _ _ _ hi]
   unfold Qa8
   rw [this]
   simp [partsOf,bytesOf]
   apply ByteArray.ext
   apply Array.ext'
   simpa using this
 | succ n ih =>
   intro s hs
   have hix : Lib.indexB s ⟨#[44]⟩ = match s.data.toList.findIdx? (· == 44) with | some i => (i:Int) | none => -1 := by
    show Lib.index s.data.toList [44] = _
    rw [Lib.index_one,Qur]
   cases hf : s.data.toList.findIdx? (· == 44) with
   | none =>
     rw [hf] at hix
     rw [Lib.splitB_miss _ _ _ _ hix]
     unfold Qa8
     rw [Qjk (fun x hx => by rw [List.findIdx?_eq_none_iff] at hf; have := hf x hx; simpa using this)]
     rfl
   | some i =>
     rw [hf] at hix
     simp only at hix
     rw [List.findIdx?_eq_some_iff_getElem] at hf
     obtain ⟨hi,hc,hall⟩ := hf
     have hi' : i < s.size := by simpa using hi
     have hsz1 : (⟨#[44]⟩ : ByteArray).size = 1 := rfl
     rw [Lib.countB_hit s _ i (by decide) hix,Nat.add_comm,Lib.splitB_hit _ _ _ _ _ hix,hsz1,ih _ (by rw [ByteArray.size_extract]; omega)]
     have hdec : s.data.toList = s.data.toList.take i ++ 44 :: s.data.toList.drop (i + 1) := by
      have h44 : s.data.toList[i] = 44 := by simpa using hc
      rw [← h44]
      exact Qta hi
     unfold Qa8
     conv => rhs; rw [hdec]
     rw [Qse (fun x hx => by
      obtain ⟨j,hj,rfl⟩ := List.getElem_of_mem hx
      simp at hj
      have := hall j (by omega)
      simpa using this)]
     rw [List.map_cons]
     congr 1
     · rw [Qda]; simp
     · rw [Qd6]
       rw [List.take_of_length_le (by simp)]
theorem Qkq (l:List ByteArray) : l.flatMap Qbr = l.map Value.string := by
 induction l with
 | nil => rfl
 | cons x l ih => rw [List.flatMap_cons,ih]; rfl
theorem Qxj : Qox Tryz.prog 244 := ⟨_,Tryz.func244,rfl,rfl⟩
theorem Q0e (s:ByteArray) (w:World) (hg:Gl w) (hs:s.size < 4000000000) :
 Cal Tryz.prog 244 [.string s,.string ⟨#[44]⟩] w fun r w' => ∃ A c,r = .slice A (Qa8 44 s).length c ∧ SlT w' A (Qa8 44 s) ∧ Ext w w' := by
 obtain ⟨m,hm⟩ := hg.maxLen
 refine Qbq Qxj (Tryz.strings_Split s ⟨#[44]⟩ m w (by omega) hm (by decide)) ?_
 rintro w' rfl
 have hlen := Lib.splitB_all ⟨#[44]⟩ (by decide) 0 _ s rfl
 have hsp := Qm2 s.size s (Nat.le_refl _)
 rw [hsp] at hlen
 have hn : New w (w.alloc (.cells ((Qa8 44 s).flatMap Qbr).toArray 9)) w.heap.size (.cells ((Qa8 44 s).flatMap Qbr).toArray 9) := ⟨rfl,rfl⟩
 refine ⟨some ⟨w.heap.size,0,none⟩,Lib.countB s ⟨#[44]⟩ + 1,by rw [hlen],?_,?_⟩
 · rw [hsp,← Qkq]; exact Qcf X0 hn
 · rw [hsp,← Qkq]; exact hn.ext
theorem Qdx (s:ByteArray) : Qu s = if Qau s = ⟨#[]⟩ then [] else Qa8 44 (Qau s) := by
 unfold Qu Qau
 cases hp : Qai s with
 | none => simp
 | some i =>
   have := Qf3 hp
   simp only
   by_cases h : i + 1 = s.size
   · have : s.extract (i + 1) s.size = ⟨#[]⟩ := by
      rw [Qda,h]; simp [bytesOf]
     rw [if_pos h,if_pos this]
   · have : s.extract (i + 1) s.size ≠ ⟨#[]⟩ := fun e => by
      have := congrArg ByteArray.size e
      rw [ByteArray.size_extract] at this
      have h0 : (⟨#[]⟩ : ByteArray).size = 0 := rfl
      omega
     rw [if_neg h,if_neg this]
theorem Qyy (s:ByteArray) (w:World) (hg:Gl w) (hs:s.size < 4000000000) :
 Cal Tryz.prog 197 [.string s] w fun r w' => ∃ A c,r = .slice A (Qu s).length c ∧ SlT w' A (Qu s) ∧ Ext w w' := by
 have hrs : (Qau s).size ≤ s.size := by
  unfold Qau
  split
  · rw [ByteArray.size_extract]; omega
  · exact Nat.zero_le _
 refine Fi Tryz.func197 rfl _ rfl rfl ?_;conv=>whnf
 refine (Qkp s w hg hs).mono ?_
 rintro _ w1 ⟨rfl,hx1⟩;conv=>whnf
 constructor
 · intro h
   have h : Qau s = ⟨#[]⟩ := by simpa using h
   conv=>whnf
   have ht : Qu s = [] := by rw [Qdx,if_pos h]
   exact ⟨none,0,by rw [ht]; rfl,by rw [ht]; exact Sl.nil,hx1⟩
 · intro h
   have h : ¬ Qau s = ⟨#[]⟩ := by simpa using h
   conv=>whnf
   refine (Q0e (Qau s) w1 (hg.ext hx1) (by omega)).mono ?_
   rintro _ w2 ⟨A,c,rfl,hsl,hx2⟩;conv=>whnf
   have ht : Qu s = Qa8 44 (Qau s) := by rw [Qdx,if_neg h]
   exact ⟨A,c,by rw [ht],by rw [ht]; exact hsl,hx1.trans hx2⟩
theorem Qcn (s:ByteArray) (w:World) : Cal Tryz.prog 142 [.string s] w fun r w' => r = .bool (Qi s) ∧ w' = w := by
 refine Fi Tryz.func142 rfl _ rfl rfl ?_;conv=>whnf
 constructor
 · intro h
   have h : (decide ((s.size : Int) < 1) || decide ((24:Int) < s.size)) = true := h
   conv=>whnf
   refine ⟨?_,rfl⟩
   have : Qi s = false := by
    unfold Qi
    simp only [Bool.or_eq_true,decide_eq_true_eq] at h
    rcases h with h | h
    · have : decide (1 ≤ s.size) = false := decide_eq_false (by omega)
      rw [this]; rfl
    · have : decide (s.size ≤ 24) = false := decide_eq_false (by omega)
      rw [this]; simp
   rw [this]
 · intro h
   have h : (decide ((s.size : Int) < 1) || decide ((24:Int) < s.size)) = false := h
   simp only [Bool.or_eq_false_iff,decide_eq_false_iff_not] at h
   conv=>whnf
   have hlen : s.data.toList.length = s.size := by simp
   refine Qg Qa (fun (k:Nat) w' => k ≤ s.size ∧ w' = w ∧ ∀ i (hi:i < s.data.toList.length),i < k → Qg2 s.data.toList[i] = true)
    (fun k => [(0,.string s),(14,.int .i64 s.size),(15,.int .i64 k)]) (fun k => s.size - k) 0 ⟨by omega,rfl,fun i _ h => by omega⟩ ⟨rfl,rfl,rfl,trivial⟩ ?_
   rintro k w1 ⟨hk,rfl,hall⟩
   conv=>whnf
   constructor
   · intro hlt
     have hlt : k < s.size := by simpa using hlt
     conv=>whnf
     refine ⟨s.data.toList[k]'(by omega),⟨by omega,bytes_at s k hlt⟩,?_⟩;conv=>whnf
     have hch : ∀ c : UInt8,(((decide ((97:Int) ≤ c.toNat) && decide ((c.toNat : Int) ≤ 122)) || (decide ((48:Int) ≤ c.toNat) && decide ((c.toNat : Int) ≤ 57))) || decide ((c.toNat : Int) = 45)) = Qg2 c := fun c => rfl
     constructor
     · intro hb
       have hb : Qg2 (s.data.toList[k]'(by omega)) = false := by
        rw [← hch]; simpa only [Bool.not_eq_true'] using hb
       conv=>whnf
       refine ⟨?_,rfl⟩
       have : Qi s = false := by
        unfold Qi
        have : s.data.toList.all Qg2 = false := Qtz (by omega) hb
        rw [this]; simp
       rw [this]
     · intro hb
       have hb : Qg2 (s.data.toList[k]'(by omega)) = true := by
        rw [← hch]; simpa only [Bool.not_eq_false'] using hb
       conv=>whnf
       refine ⟨_,wrap_succ (by omega),?_⟩;conv=>whnf
       refine ⟨k + 1,by omega,⟨by omega,rfl,fun i hi hik => ?_⟩,⟨rfl,rfl,rfl,trivial⟩⟩
       by_cases e : i = k
       · subst e; exact hb
       · exact hall i hi (by omega)
   · intro hge
     have hge : s.size ≤ k := by simpa using hge
     conv=>whnf
     refine ⟨?_,rfl⟩
     have : Qi s = true := by
      unfold Qi
      have h3 : s.data.toList.all Qg2 = true := Qo3 hall (by omega)
      rw [h3]
      simp
      omega
     rw [this]
theorem Qr4 (s:ByteArray) (w:World) (hg:Gl w) (hs:s.size < 4000000000) :
 Cal Tryz.prog 143 [.string s] w fun r w' => r = .bool (Qa7 s) ∧ Ext w w' := by
 refine Fi Tryz.func143 rfl _ rfl rfl ?_;conv=>whnf
 refine (Qkp s w hg hs).mono ?_
 rintro _ w1 ⟨rfl,hx1⟩;conv=>whnf
 refine ⟨Unit,fun _ => .bool (Qi (Qak s)),fun _ w' => w' = w1,(),fun _ => (Qcn (Qak s) w1).mono fun r w' h => ⟨(),h.1,h.2⟩,?_⟩
 intro _ w2 h2
 obtain rfl : w2 = w1 := by
  rcases h2 with ⟨_,h⟩ | ⟨_,h⟩ <;> exact h
 clear h2
 conv=>whnf
 constructor
 · intro h
   have h : ((!(Qai s).isSome) || !Qi (Qak s)) = true := h
   conv=>whnf
   refine ⟨?_,hx1⟩
   have : Qa7 s = false := by
    unfold Qa7
    revert h
    cases (Qai s).isSome <;> cases Qi (Qak s) <;> simp
   rw [this]
 · intro h
   have h : ((!(Qai s).isSome) || !Qi (Qak s)) = false := h
   have hl : Qa7 s = (Qff (Qu s) && decide ((Qu s).length ≤ 8)) := by
    unfold Qa7
    revert h
    cases (Qai s).isSome <;> cases Qi (Qak s) <;> simp
   conv=>whnf
   refine (Qyy s w2 (hg.ext hx1) hs).mono ?_
   rintro _ w3 ⟨A',c',rfl,hsl,hx3⟩;conv=>whnf
   have htl := Qqw s
   constructor
   · intro h8
     have h8 : 8 < (Qu s).length := by simp at h8; omega
     conv=>whnf
     refine ⟨?_,hx1.trans hx3⟩
     have : decide ((Qu s).length ≤ 8) = false := decide_eq_false (by omega)
     rw [hl,this,Bool.and_false]
   · intro h8
     have h8 : (Qu s).length ≤ 8 := by simp at h8; omega
     have hl8 : Qa7 s = Qff (Qu s) := by
      rw [hl,decide_eq_true h8,Bool.and_true]
     conv=>whnf
     refine Qg Qa (fun (k:Nat) w' => k ≤ (Qu s).length ∧ Ext w3 w' ∧ ∀ i,i < k → Qm6 (Qu s) i = true)
      (fun k => [(6,.slice A' (Qu s).length c'),(27,.slice A' (Qu s).length c'),(28,.int .i64 (Qu s).length),(29,.int .i64 k)]) (fun k => (Qu s).length - k) 0 ⟨by omega,Ext.refl _,fun i h => by omega⟩ ⟨rfl,rfl,rfl,rfl,trivial⟩ ?_
     rintro k w5 ⟨hk,hx5,hall⟩
     conv=>whnf
     constructor
     · intro hlt
       have hlt : k < (Qu s).length := by simpa using hlt
       obtain ⟨a,rfl,hc⟩ := (hsl.ext hx5).getS hlt
       conv=>whnf
       refine ⟨a,⟨rfl,by omega,by omega⟩,?_⟩;conv=>whnf
       refine ⟨_,hc,?_⟩;conv=>whnf
       refine (Qcn ((Qu s).getD k .empty) w5).mono ?_
       rintro _ w6 ⟨rfl,rfl⟩
       conv=>whnf
       refine ⟨(k:Int) - 1,fun _ _ => wrap_i64 ⟨by omega,by omega⟩,?_⟩;conv=>whnf
       refine ⟨a,fun h1 h2 => ⟨rfl,?_,?_⟩,?_⟩
       · first | (simp at h1; omega) | (simp at h2; omega)
       · omega
       conv=>whnf
       refine ⟨.string ((Qu s).getD (k - 1) .empty),fun h1 h2 => ?_,?_⟩
       · obtain ⟨a2,e2,hc2⟩ := (hsl.ext hx5).getS (k := k - 1) (by omega)
         obtain rfl : a = a2 := by simpa using e2
         have e3 : ((k:Int) - 1).toNat = k - 1 := by omega
         exact (congrArg (fun n => w6.cell? (a.add (n * 1))) e3).trans hc2
       conv=>whnf
       have hcond : ((!Qi ((Qu s).getD k .empty)) || (decide ((0:Int) < k) && !bLt ((Qu s).getD (k - 1) .empty) ((Qu s).getD k .empty))) = !Qm6 (Qu s) k := by
        unfold Qm6
        cases Qi ((Qu s).getD k .empty) <;> cases k <;> simp
       constructor
       · intro hh
         have hh := hcond.symm.trans hh
         simp only [Bool.not_eq_true'] at hh
         conv=>whnf
         refine ⟨?_,hx1.trans (hx3.trans hx5)⟩
         rw [hl8,Qop hlt hh]
       · intro hh
         have hh := hcond.symm.trans hh
         simp only [Bool.not_eq_false'] at hh
         conv=>whnf
         refine ⟨_,wrap_succ (by omega),?_⟩;conv=>whnf
         refine ⟨k + 1,by omega,⟨by omega,hx5,fun i hik => ?_⟩,⟨rfl,rfl,rfl,rfl,trivial⟩⟩
         by_cases e : i = k
         · subst e; exact hh
         · exact hall i (by omega)
     · intro hge
       have hge : (Qu s).length ≤ k := by simpa using hge
       conv=>whnf
       refine ⟨?_,hx1.trans (hx3.trans hx5)⟩
       rw [hl8,Qoo hall hge]
theorem Qxe (a b:Int) : decide (a < b) = !decide (b ≤ a) := by
 rw [← decide_not]; exact decide_eq_decide.2 ⟨fun h => by omega,fun h => by omega⟩
theorem Qh5 (e:Ev) (w:World) (hg:Gl w) (hs:e.text.size < 4000000000) :
 Cal Tryz.prog 72 [evV e] w fun r w' => r = .bool (Xj e) ∧ Ext w w' := by
 refine Fi Tryz.func72 rfl _ rfl rfl ?_;conv=>whnf
 intro b w1 hn
 have hb := hn.At
 conv=>whnf
 refine ⟨_,hb.one rfl,?_⟩;conv=>whnf
 refine (Qcn e.src w1).mono ?_
 rintro _ w2 ⟨rfl,rfl⟩
 conv=>whnf
 refine ⟨_,fun _ => hb.one rfl,?_⟩;conv=>whnf
 refine ⟨_,fun _ => hb.one rfl,?_⟩;conv=>whnf
 refine ⟨_,fun _ => hb.one rfl,?_⟩;conv=>whnf
 refine ⟨_,fun _ => hb.one rfl,?_⟩;conv=>whnf
 have hb5 : (((((!Qi e.src) || decide (e.num < 1)) || decide (1099511627776 < e.num)) || decide (e.at_ < 0)) || decide (1099511627776 < e.at_)) = !(Qi e.src && inB e.num 1 1099511627776 && inB e.at_ 0 1099511627776) := by
  have q1 : decide (e.num < 1) = !decide (1 ≤ e.num) := Qxe _ _
  have q2 : decide (1099511627776 < e.num) = !decide (e.num ≤ 1099511627776) := Qxe _ _
  have q3 : decide (e.at_ < 0) = !decide (0 ≤ e.at_) := Qxe _ _
  have q4 : decide (1099511627776 < e.at_) = !decide (e.at_ ≤ 1099511627776) := Qxe _ _
  unfold inB
  rw [q1,q2,q3,q4]
  cases Qi e.src <;> cases decide (1 ≤ e.num) <;> cases decide (e.num ≤ 1099511627776) <;> cases decide (0 ≤ e.at_) <;> cases decide (e.at_ ≤ 1099511627776) <;> rfl
 constructor
 · intro h
   have h := hb5.symm.trans h
   rw [Bool.not_eq_true'] at h
   conv=>whnf
   refine ⟨?_,hn.ext⟩
   have : Xj e = false := by unfold Xj; rw [h,Bool.false_and]
   rw [this]
 intro h
 have h := hb5.symm.trans h
 rw [Bool.not_eq_false'] at h
 have hm : Xj e = Qc4 e := by unfold Xj; rw [h,Bool.true_and]
 clear hb5 h
 rw [hm]
 conv=>whnf
 refine Dr .ext [0,1,3,4,6,7,8,2,5,9,10,11] [] ?_;conv=>whnf
 have hx5 : Ext w w2.drew := hn.ext.drew
 have hb5 : At w2.drew b 66 (evC e) := hb
 have hg5 := hg.ext hx5
 generalize w2.drew = w3 at hx5 hb5 hg5 ⊢
 refine ⟨_,hb5.one rfl,?_⟩;conv=>whnf
 refine ⟨_,hb5.one rfl,?_⟩;conv=>whnf
 refine ⟨_,hb5.one rfl,?_⟩;conv=>whnf
 refine (Qcn e.person w3).mono ?_; rintro _ w4 ⟨rfl,rfl⟩
 refine ⟨Ext.refl _,?_⟩;conv=>whnf
 refine (Qcn e.item w4).mono ?_; rintro _ w5 ⟨rfl,rfl⟩
 refine ⟨Ext.refl _,?_⟩;conv=>whnf
 refine Qb Qa ?_;conv=>whnf
 refine ⟨_,hb5.one rfl,?_⟩;conv=>whnf
 refine Q9 Qa (ι := Bool) (fun i => [(1,.pointer (some ⟨b,0,none⟩)),(3,.bool (Qi e.person)),(4,.bool (Qi e.item)),(5,.bool (decide (e.text = ⟨#[]⟩))),(40,.int .i64 e.kind),(41,.bool i)]) (fun i w' => i = k6 e ∧ w' = w5) ?_ ?_
 · (conv=>whnf)
   refine ⟨fun h0' => ?_,fun h0' => ?_⟩
   · (conv=>whnf)
     exact ⟨_,⟨by unfold k6; simp at h0'; simp [h0'],rfl⟩,⟨rfl,rfl,rfl,rfl,rfl,rfl,trivial⟩⟩
   conv=>whnf
   refine ⟨fun h1' => ?_,fun h1' => ?_⟩
   · (conv=>whnf)
     exact ⟨_,⟨by unfold k6; simp at h1'; simp [h1'],rfl⟩,⟨rfl,rfl,rfl,rfl,rfl,rfl,trivial⟩⟩
   conv=>whnf
   refine ⟨fun h2' => ?_,fun h2' => ?_⟩
   · (conv=>whnf)
     exact ⟨_,⟨by unfold k6; simp at h2'; simp [h2'],rfl⟩,⟨rfl,rfl,rfl,rfl,rfl,rfl,trivial⟩⟩
   conv=>whnf
   refine ⟨fun h3' => ?_,fun h3' => ?_⟩
   · (conv=>whnf)
     exact ⟨_,⟨by unfold k6; simp at h3'; simp [h3'],rfl⟩,⟨rfl,rfl,rfl,rfl,rfl,rfl,trivial⟩⟩
   conv=>whnf
   refine ⟨fun h4' => ?_,fun h4' => ?_⟩
   · (conv=>whnf)
     exact ⟨_,⟨by unfold k6; simp at h4'; simp [h4'],rfl⟩,⟨rfl,rfl,rfl,rfl,rfl,rfl,trivial⟩⟩
   conv=>whnf
   exact ⟨_,⟨by unfold k6; simp at h0' h1' h2' h3' h4'; simp [h0',h1',h2',h3',h4'],rfl⟩,⟨rfl,rfl,rfl,rfl,rfl,rfl,trivial⟩⟩
 rintro _ w9 ⟨rfl,hw9⟩
 replace hw9 := hw9.symm
 subst hw9
 conv=>whnf
 refine ⟨fun k1 => ?_,fun k1 => ?_⟩
 · (conv=>whnf)
   refine ⟨_,fun _ => hb5.one rfl,?_⟩;conv=>whnf
   refine ⟨?_,hx5⟩
   unfold Qc4
   rw [k1,cond_true]
   cases Qi e.person <;> cases Qi e.item <;> cases decide (e.text = ⟨#[]⟩) <;> cases decide (e.val = 0) <;> rfl
 conv=>whnf
 refine ⟨fun k2 => ?_,fun k2 => ?_⟩
 · (conv=>whnf)
   refine ⟨_,fun _ => hb5.one rfl,?_⟩;conv=>whnf
   refine ⟨_,fun _ => hb5.one rfl,?_⟩;conv=>whnf
   refine ⟨?_,hx5⟩
   unfold Qc4 inB
   rw [k1,cond_false,k2,cond_true]
   cases Qi e.person <;> cases Qi e.item <;> cases decide (e.text = ⟨#[]⟩) <;> cases decide (1 ≤ e.val) <;> cases decide (e.val ≤ 5) <;> rfl
 conv=>whnf
 refine Q9 Qa (ι := Bool) (fun i => [(1,.pointer (some ⟨b,0,none⟩)),(3,.bool (Qi e.person)),(4,.bool (Qi e.item)),(5,.bool (decide (e.text = ⟨#[]⟩))),(40,.int .i64 e.kind),(79,.bool i)]) (fun i w' => i = k4 e ∧ w' = w5) ?_ ?_
 · (conv=>whnf)
   refine ⟨fun h0' => ?_,fun h0' => ?_⟩
   · (conv=>whnf)
     exact ⟨_,⟨by unfold k4; simp at h0'; simp [h0'],rfl⟩,⟨rfl,rfl,rfl,rfl,rfl,rfl,trivial⟩⟩
   conv=>whnf
   refine ⟨fun h1' => ?_,fun h1' => ?_⟩
   · (conv=>whnf)
     exact ⟨_,⟨by unfold k4; simp at h1'; simp [h1'],rfl⟩,⟨rfl,rfl,rfl,rfl,rfl,rfl,trivial⟩⟩
   conv=>whnf
   refine ⟨fun h2' => ?_,fun h2' => ?_⟩
   · (conv=>whnf)
     exact ⟨_,⟨by unfold k4; simp at h2'; simp [h2'],rfl⟩,⟨rfl,rfl,rfl,rfl,rfl,rfl,trivial⟩⟩
   conv=>whnf
   exact ⟨_,⟨by unfold k4; simp at h0' h1' h2'; simp [h0',h1',h2'],rfl⟩,⟨rfl,rfl,rfl,rfl,rfl,rfl,trivial⟩⟩
 rintro _ w9 ⟨rfl,hw9⟩
 replace hw9 := hw9.symm
 subst hw9
 conv=>whnf
 refine ⟨fun k3 => ?_,fun k3 => ?_⟩
 · (conv=>whnf)
   refine ⟨_,fun _ => hb5.one rfl,?_⟩;conv=>whnf
   refine ⟨_,fun _ => hb5.one rfl,?_⟩;conv=>whnf
   refine ⟨_,fun _ => hb5.one rfl,?_⟩;conv=>whnf
   refine ⟨Unit,fun _ => .bool (Qi e.text),fun _ w' => w' = w5,(),fun _ => (Qcn e.text w5).mono fun r w' h => ⟨(),h.1,h.2⟩,?_⟩
   intro _ w6 h6
   obtain rfl : w6 = w5 := by
    rcases h6 with ⟨_,h⟩ | ⟨_,h⟩ <;> exact h
   clear h6
   conv=>whnf
   refine ⟨?_,hx5⟩
   unfold Qc4
   rw [k1,cond_false,k2,cond_false,k3,cond_true]
   cases Qi e.person <;> cases decide (e.item = ⟨#[]⟩) <;> cases Qi e.text <;> cases decide (e.val = 0) <;> rfl
 conv=>whnf
 refine ⟨fun k4' => ?_,fun k4' => ?_⟩
 · (conv=>whnf)
   refine ⟨_,hb5.one rfl,?_⟩;conv=>whnf
   refine ⟨_,fun _ => hb5.one rfl,?_⟩;conv=>whnf
   refine ⟨_,fun _ => hb5.one rfl,?_⟩;conv=>whnf
   refine ⟨_,fun _ => hb5.one rfl,?_⟩;conv=>whnf
   refine ⟨Unit,fun _ => .bool (Qa7 e.text),fun _ w' => Ext w5 w',(),fun _ => (Qr4 e.text w5 hg5 hs).mono fun r w' h => ⟨(),h.1,h.2⟩,?_⟩
   intro _ w6 h6
   have hx6 : Ext w5 w6 := by
    rcases h6 with ⟨_,h⟩ | ⟨_,h⟩
    · exact h
    · rw [h]; exact Ext.refl _
   clear h6
   conv=>whnf
   refine ⟨?_,hx5.trans hx6⟩
   unfold Qc4 inB
   rw [k1,cond_false,k2,cond_false,k3,cond_false,k4',cond_true]
   cases decide (e.person = ⟨#[]⟩) <;> cases Qi e.item <;> cases Qa7 e.text <;> cases decide (0 ≤ e.val) <;> cases decide (e.val ≤ 1048576) <;> rfl
 conv=>whnf
 refine ⟨fun k5 => ?_,fun k5 => ?_⟩
 · (conv=>whnf)
   refine ⟨_,hb5.one rfl,?_⟩;conv=>whnf
   refine ⟨_,fun _ => hb5.one rfl,?_⟩;conv=>whnf
   refine ⟨_,fun _ => hb5.one rfl,?_⟩;conv=>whnf
   refine ⟨?_,hx5⟩
   unfold Qc4 inB
   rw [k1,cond_false,k2,cond_false,k3,cond_false,k4',cond_false,k5,cond_true]
   cases decide (e.person = ⟨#[]⟩) <;> cases Qi e.item <;> cases decide (e.text = ⟨#[]⟩) <;> cases decide (0 ≤ e.val) <;> cases decide (e.val ≤ 1048576) <;> rfl
 conv=>whnf
 refine ⟨fun k7 => ?_,fun k7 => ?_⟩
 · (conv=>whnf)
   refine ⟨_,hb5.one rfl,?_⟩;conv=>whnf
   refine ⟨_,fun _ => hb5.one rfl,?_⟩;conv=>whnf
   refine ⟨?_,hx5⟩
   unfold Qc4
   rw [k1,cond_false,k2,cond_false,k3,cond_false,k4',cond_false,k5,cond_false,k7,cond_true]
   cases decide (e.person = ⟨#[]⟩) <;> cases Qi e.item <;> cases decide (e.text = ⟨#[]⟩) <;> cases decide (e.val = 0) <;> rfl
 conv=>whnf
 refine ⟨fun k8 => ?_,fun k8 => ?_⟩
 · (conv=>whnf)
   refine ⟨_,fun _ => hb5.one rfl,?_⟩;conv=>whnf
   refine ⟨_,fun _ => hb5.one rfl,?_⟩;conv=>whnf
   refine ⟨?_,hx5⟩
   unfold Qc4
   rw [k1,cond_false,k2,cond_false,k3,cond_false,k4',cond_false,k5,cond_false,k7,cond_false,k8,cond_true]
   cases Qi e.person <;> cases decide (e.item = ⟨#[]⟩) <;> cases decide (e.text = ⟨#[]⟩) <;> cases decide (e.val = 0) <;> rfl
 conv=>whnf
 refine ⟨?_,hx5⟩
 unfold Qc4
 rw [k1,cond_false,k2,cond_false,k3,cond_false,k4',cond_false,k5,cond_false,k7,cond_false,k8]
 rfl
def Qw (e:Ev) : Int := if e.kind = 1 then 1 else if e.kind = 2 then 3 else if e.kind = 3 then 5 else if e.kind = 4 then e.val else 0
theorem Qgr (e:Ev) (w:World) : Cal Tryz.prog 108 [evV e] w fun r w' => r = .int .i64 (Qw e) ∧ Ext w w' := by
 refine Fi Tryz.func108 rfl _ rfl rfl ?_;conv=>whnf
 intro b w1 hn
 have hb := hn.At
 conv=>whnf
 refine ⟨_,hb.one rfl,?_⟩;conv=>whnf
 refine ⟨fun h1 => ?_,fun h1 => ?_⟩
 · have h1 : e.kind = 1 := by simpa using h1
   conv=>whnf
   exact ⟨by unfold Qw; rw [if_pos h1],hn.ext⟩
 have h1 : ¬ e.kind = 1 := by simpa using h1
 conv=>whnf
 refine ⟨fun h2 => ?_,fun h2 => ?_⟩
 · have h2 : e.kind = 2 := by simpa using h2
   conv=>whnf
   exact ⟨by unfold Qw; rw [if_neg h1,if_pos h2],hn.ext⟩
 have h2 : ¬ e.kind = 2 := by simpa using h2
 conv=>whnf
 refine ⟨fun h3 => ?_,fun h3 => ?_⟩
 · have h3 : e.kind = 3 := by simpa using h3
   conv=>whnf
   exact ⟨by unfold Qw; rw [if_neg h1,if_neg h2,if_pos h3],hn.ext⟩
 have h3 : ¬ e.kind = 3 := by simpa using h3
 conv=>whnf
 refine ⟨fun h4 => ?_,fun h4 => ?_⟩
 · have h4 : e.kind = 4 := by simpa using h4
   conv=>whnf
   refine ⟨_,hb.one rfl,?_⟩;conv=>whnf
   exact ⟨by unfold Qw; rw [if_neg h1,if_neg h2,if_neg h3,if_pos h4],hn.ext⟩
 have h4 : ¬ e.kind = 4 := by simpa using h4
 conv=>whnf
 exact ⟨by unfold Qw; rw [if_neg h1,if_neg h2,if_neg h3,if_neg h4],hn.ext⟩
theorem Qdv {s:ByteArray} (h:Qi s = true) : 1 ≤ s.size ∧ s.size ≤ 24 := by
 unfold Qi at h
 simp only [Bool.and_eq_true,decide_eq_true_eq] at h
 exact h.1
theorem Qi6 {s:ByteArray} (h:s = ⟨#[]⟩) : s.size = 0 := by rw [h]; rfl
theorem Qgy {n lo hi:Int} : inB n lo hi = true ↔ lo ≤ n ∧ n ≤ hi := by simp [inB]
structure Xbm (e:Ev) : Prop where
 src : Qi e.src = true
 num : 1 ≤ e.num ∧ e.num ≤ 1099511627776
 at_ : 0 ≤ e.at_ ∧ e.at_ ≤ 1099511627776
 kind : Qc4 e = true
theorem Qb2 {e:Ev} : Xj e = true ↔ Xbm e := by
 unfold Xj
 simp only [Bool.and_eq_true,Qgy]
 exact ⟨fun h => ⟨h.1.1.1,h.1.1.2,h.1.2,h.2⟩,fun h => ⟨⟨⟨h.src,h.num⟩,h.at_⟩,h.kind⟩⟩
theorem Qa4 {e:Ev} (h:Qc4 e = true) :
 ((e.kind = 0 ∨ e.kind = 1 ∨ e.kind = 2 ∨ e.kind = 3 ∨ e.kind = 5 ∨ e.kind = 6) ∧ Qi e.person = true ∧ Qi e.item = true ∧ e.text = ⟨#[]⟩ ∧ e.val = 0) ∨
 (e.kind = 4 ∧ Qi e.person = true ∧ Qi e.item = true ∧ e.text = ⟨#[]⟩ ∧ 1 ≤ e.val ∧ e.val ≤ 5) ∨
 ((e.kind = 7 ∨ e.kind = 8 ∨ e.kind = 9 ∨ e.kind = 10) ∧ Qi e.person = true ∧ e.item = ⟨#[]⟩ ∧ Qi e.text = true ∧ e.val = 0) ∨
 (e.kind = 11 ∧ e.person = ⟨#[]⟩ ∧ Qi e.item = true ∧ Qa7 e.text = true ∧ 0 ≤ e.val ∧ e.val ≤ 1048576) ∨
 (e.kind = 12 ∧ e.person = ⟨#[]⟩ ∧ Qi e.item = true ∧ e.text = ⟨#[]⟩ ∧ 0 ≤ e.val ∧ e.val ≤ 1048576) ∨
 (e.kind = 13 ∧ e.person = ⟨#[]⟩ ∧ Qi e.item = true ∧ e.text = ⟨#[]⟩ ∧ e.val = 0) ∨
 (e.kind = 14 ∧ Qi e.person = true ∧ e.item = ⟨#[]⟩ ∧ e.text = ⟨#[]⟩ ∧ e.val = 0) := by
 unfold Qc4 at h
 cases h1 : k6 e <;> simp only [h1,cond_true,cond_false] at h
 · cases h2 : decide (e.kind = 4) <;> simp only [h2,cond_true,cond_false] at h
   · cases h3 : k4 e <;> simp only [h3,cond_true,cond_false] at h
     · cases h4 : decide (e.kind = 11) <;> simp only [h4,cond_true,cond_false] at h
       · cases h5 : decide (e.kind = 12) <;> simp only [h5,cond_true,cond_false] at h
         · cases h6 : decide (e.kind = 13) <;> simp only [h6,cond_true,cond_false] at h
           · cases h7 : decide (e.kind = 14) <;> simp only [h7,cond_true,cond_false] at h
             · cases h
             · simp [Bool.and_eq_true,Qgy] at h h7
               simp [*]
           · simp [Bool.and_eq_true,Qgy] at h h6
             simp [*]
         · simp [Bool.and_eq_true,Qgy] at h h5
           simp [*]
       · simp [Bool.and_eq_true,Qgy] at h h4
         simp [*]
     · simp [Bool.and_eq_true,Qgy] at h
       unfold k4 at h3
       simp at h3
       simp [*]
       omega
   · simp [Bool.and_eq_true,Qgy] at h h2
     simp [*]
 · simp [Bool.and_eq_true,Qgy] at h
   unfold k6 at h1
   simp at h1
   simp [*]
   omega
theorem Qpw {e:Ev} (h:Xj e = true) (ht:e.text.size < 1000000) : FOk e := by
 have h := Qb2.1 h
 have hs := Qdv h.src
 have hn := h.num
 have ha := h.at_
 rcases Qa4 h.kind with ⟨k,p,i,t,v⟩ | ⟨k,p,i,t,v⟩ | ⟨k,p,i,t,v⟩ | ⟨k,p,i,t,v⟩ | ⟨k,p,i,t,v⟩ | ⟨k,p,i,t,v⟩ | ⟨k,p,i,t,v⟩ <;>
  (refine ⟨by omega,by omega,by omega,by omega,by omega,?_,?_,ht⟩ <;> first | (have := Qdv p; omega) | (have := Qdv i; omega) | (have := Qi6 p; omega) | (have := Qi6 i; omega))
theorem Q8p : Qox Tryz.prog 39 := ⟨_,Tryz.func39,rfl,rfl⟩
theorem Qah (n:Int) (w:World) (hg:Gl w) (h0:0 ≤ n) (h1:n < 9223372036854775808) : Cal Tryz.prog 39 [.int .i64 n] w fun r w' => r = .string (Qug n.toNat) ∧ Ext w w' := by
 refine Qbq Q8p (Tryz.strconv_Itoa n (by omega) (by omega) w hg.pow10) ?_
 rintro w' ⟨k,os,rfl⟩
 refine ⟨?_,(Qlo w k).trans (Qhz _ _)⟩
 have : n = (n.toNat : Int) := by omega
 unfold Qug bytesOf
 rw [← Lib.itoa_nonneg,← this]
theorem Q2w : Qox Tryz.prog 44 := ⟨_,Tryz.func44,rfl,rfl⟩
theorem Q72 (n:Nat) : Qug n ≠ ⟨#[]⟩ := fun e => by
 have := congrArg ByteArray.size e
 unfold Qug at this
 rw [Qnw] at this
 have h0 : (⟨#[]⟩ : ByteArray).size = 0 := rfl
 rw [h0] at this
 have h1 := List.length_eq_zero_iff.1 this
 rw [Lib.decDigits] at h1
 split at h1 <;> simp at h1
theorem Qkz {s:ByteArray} (h:s ≠ ⟨#[]⟩) : Xt s = s := by unfold Xt; rw [decide_eq_false h]; rfl
theorem Q96 {e:Ev} (h:0 ≤ e.kind ∧ e.kind < 15) : knB e ≠ ⟨#[]⟩ := by
 unfold knB
 obtain ⟨k,hk⟩ : ∃ k : Nat,e.kind = k := ⟨e.kind.toNat,by omega⟩
 rw [hk]
 have : k < 15 := by omega
 intro e0
 have := congrArg ByteArray.size e0
 rcases k with _ | _ | _ | _ | _ | _ | _ | _ | _ | _ | _ | _ | _ | _ | _ | k <;> first | (exact absurd this (by decide)) | omega
def Qaj (e:Ev) : List ByteArray := [e.src,Qug e.num.toNat,Qug e.at_.toNat,knB e,e.person,e.item,Qug e.val.toNat,e.text]
theorem Q5s {e:Ev} (hs:e.src ≠ ⟨#[]⟩) (hk:0 ≤ e.kind ∧ e.kind < 15) : (⟨(Lib.join ((((Qaj e).map Xt)).map (·.data.toList)) [32]).toArray⟩ : ByteArray) = Qgx e := by
 unfold Qaj
 simp only [List.map_cons,List.map_nil,Qkz hs,Qkz (Q72 _),Qkz (Q96 hk)]
 apply ByteArray.ext
 apply Array.ext'
 simp [Lib.join,List.intercalate,List.intersperse,Qgx,spB]
theorem Qrv {e:Ev} (hf:FOk e) : (Qgx e).size ≤ 10000000 := by
 have h1 := hf.src; have h2 := hf.person; have h3 := hf.item; have h4 := hf.text
 have d1 := Qhw e.num.toNat (by have := hf.num; omega)
 have d2 := Qhw e.at_.toNat (by have := hf.at_; omega)
 have d3 := Qhw e.val.toNat (by have := hf.val; omega)
 have hs : ∀ s : ByteArray,s.size < 1000000 → (Xt s).size < 1000000 := by
  intro s h
  unfold Xt
  cases decide (s = ⟨#[]⟩)
  · exact h
  · exact (by decide:(⟨#[46]⟩ : ByteArray).size < 1000000)
 have s1 := hs _ h2; have s2 := hs _ h3; have s3 := hs _ h4
 have hk : (knB e).size ≤ 10 := by
  unfold knB
  obtain ⟨k,hk⟩ : ∃ k : Nat,e.kind = k := ⟨e.kind.toNat,by have := hf.kind; omega⟩
  rw [hk]
  have : k < 15 := by have := hf.kind; omega
  rcases k with _ | _ | _ | _ | _ | _ | _ | _ | _ | _ | _ | _ | _ | _ | _ | k <;> first | decide | omega
 have hsp : spB.size = 1 := rfl
 unfold Qgx
 simp only [ByteArray.size_append]
 omega
theorem Qhb (e:Ev) (w:World) (hg:Gl w) (hm:Xj e = true) (hf:FOk e) :
 Cal Tryz.prog 40 [evV e] w fun r w' => r = .string (Qgx e) ∧ Ext w w' := by
 refine Fi Tryz.func40 rfl _ rfl rfl ?_;conv=>whnf
 intro b w1 hn
 have hb := hn.At
 conv=>whnf
 refine ⟨evC e,⟨rfl,hb.all⟩,?_⟩;conv=>whnf
 refine (Qh5 e w1 (hg.ext hn.ext) (by have := hf.text; omega)).mono ?_
 rintro _ w2 ⟨rfl,hx2⟩;conv=>whnf
 rw [hm]
 constructor
 · intro h; cases h
 intro _
 have hkk := hf.kind
 obtain ⟨k,hk⟩ : ∃ k : Nat,e.kind = k := ⟨e.kind.toNat,by omega⟩
 conv=>whnf
 refine Dr .ext [0,1,2,3,5,6,8,9,10,11,12,13,14,15,16,17,19,20,4,7,18] [21,22] ?_;conv=>whnf
 have hb2 : At w2.drew b 66 (evC e) := hb.ext hx2.drew
 have hx3 : Ext w w2.drew := (hn.ext.trans hx2).drew
 generalize w2.drew = w3 at hb2 hx3 ⊢
 have hg3 := hg.ext hx3
 refine ⟨_,hb2.one rfl,?_⟩;conv=>whnf
 refine ⟨_,hb2.one rfl,?_⟩;conv=>whnf
 refine ⟨_,hb2.one rfl,?_⟩;conv=>whnf
 refine ⟨_,hb2.one rfl,?_⟩;conv=>whnf
 have hcell : w3.cell? ((⟨0,0,none⟩ : Addr).add (e.kind.toNat * 1)) = some (.string (knB e)) := by
  have := hg3.kinds k (.string (knB e)) (by
   unfold knB
   rw [hk]
   have : k < 15 := by omega
   rcases k with _ | _ | _ | _ | _ | _ | _ | _ | _ | _ | _ | _ | _ | _ | _ | k <;> first | rfl | omega)
  rw [hk]
  simpa using this
 refine ⟨⟨hkk.1,hkk.2⟩,?_⟩;conv=>whnf
 refine ⟨.string (knB e),hcell,?_⟩;conv=>whnf
 refine ⟨_,hb2.one rfl,?_⟩;conv=>whnf
 refine ⟨_,hb2.one rfl,?_⟩;conv=>whnf
 refine ⟨_,hb2.one rfl,?_⟩;conv=>whnf
 refine ⟨_,hb2.one rfl,?_⟩;conv=>whnf
 refine (Qah e.num w3 hg3 hf.num.1 hf.num.2).mono ?_; rintro _ w4 ⟨rfl,hx4⟩
 refine ⟨hx4,?_⟩;conv=>whnf
 refine (Qah e.at_ w4 (hg3.ext hx4) hf.at_.1 hf.at_.2).mono ?_; rintro _ w5 ⟨rfl,hx5⟩
 refine ⟨hx5,?_⟩;conv=>whnf
 refine (Qah e.val w5 ((hg3.ext hx4).ext hx5) hf.val.1 hf.val.2).mono ?_; rintro _ w6 ⟨rfl,hx6⟩
 refine ⟨hx6,?_⟩;conv=>whnf
 intro b7 w7 hn7
 have hx7 : Ext w w7 := ((((hx3.trans hx4).trans hx5).trans hx6).trans hn7.ext)
 have hb7 : At w7 b7 9 ((Qaj e).map Value.string) := hn7.At
 have hbb : w.heap.size ≤ b7 := by rw [hn7.block]; exact (((hx3.trans hx4).trans hx5).trans hx6).size
 conv=>whnf
 have hwl : (Qaj e).length = 8 := rfl
 refine Qg Qa (fun (k:Nat) w' => k ≤ 8 ∧ Ext w w' ∧ At w' b7 9 (((Qaj e).take k).map (fun s => Value.string (Xt s)) ++ ((Qaj e).drop k).map Value.string))
  (fun k => [(3,.slice (some ⟨b7,0,none⟩) 8 8),(31,.slice (some ⟨b7,0,none⟩) 8 8),(32,.int .i64 8),(33,.int .i64 k)]) (fun k => 8 - k) 0 ⟨by omega,hx7,by simpa using hb7⟩ ⟨rfl,rfl,rfl,rfl,trivial⟩ ?_
 clear hb7 hx7 hn7 hb2 hb hn
 rintro k w8 ⟨hk8,hx8,hb8⟩
 conv=>whnf
 constructor
 · intro hlt
   have hlt : k < 8 := by simp at hlt; omega
   have hkl : k < (Qaj e).length := by omega
   rw [List.drop_eq_getElem_cons hkl,List.map_cons] at hb8
   have htk : (Qaj e).take (k + 1) = (Qaj e).take k ++ [(Qaj e)[k]] := List.take_succ_eq_append_getElem hkl
   have hcell := hb8.cell k
   rw [List.getElem?_append_right (by simp; omega)] at hcell
   rw [show k - (((Qaj e).take k).map (fun s => Value.string (Xt s))).length = 0 by simp; omega] at hcell
   generalize hx : (Qaj e)[k] = x at hb8 htk hcell
   have hcell : w8.cell? ((⟨b7,0,none⟩ : Addr).add ((k:Int).toNat * 1)) = some (.string x) := by
    rw [show ((k:Int).toNat * 1) = k by simp,Xa]; simpa using hcell
   conv=>whnf
   refine Q9 Qa (ι := Unit) (fun _ => [(3,.slice (some ⟨b7,0,none⟩) 8 8),(31,.slice (some ⟨b7,0,none⟩) 8 8),(32,.int .i64 8),(33,.int .i64 k)])
    (fun _ w' => Ext w w' ∧ At w' b7 9 (((Qaj e).take (k + 1)).map (fun s => Value.string (Xt s)) ++ ((Qaj e).drop (k + 1)).map Value.string)) ?_ ?_
   · (conv=>whnf)
     refine ⟨⟨b7,0,none⟩,⟨rfl,by omega,by omega⟩,?_⟩;conv=>whnf
     refine ⟨.string x,hcell,?_⟩;conv=>whnf
     constructor
     · intro h
       have h : x = ⟨#[]⟩ := by simpa using h
       conv=>whnf
       refine ⟨⟨b7,0,none⟩,⟨rfl,by omega,by omega⟩,?_⟩;conv=>whnf
       have hadr : (⟨b7,0,none⟩ : Addr).add ((k:Int).toNat * 1) = ⟨b7,k,none⟩ := by rw [Xa]; simp
       rw [hadr]
       refine Qdg Qa (e := ty9) rfl hb8 rfl ?_ (by simp [Qm,Value.oneCell']) fun w9 h9 ho9 => ?_
       · show k + 1 ≤ _
         simp; omega
       conv=>whnf
       refine ⟨(),⟨ho9.ext hx8 hbb,?_⟩,⟨rfl,rfl,rfl,rfl,trivial⟩⟩
       rw [htk]
       have hsp : spl (((Qaj e).take k).map (fun s => Value.string (Xt s)) ++ Value.string x :: ((Qaj e).drop (k + 1)).map Value.string) k (Qm (.string ⟨#[46]⟩)) = ((Qaj e).take k ++ [x]).map (fun s => Value.string (Xt s)) ++ ((Qaj e).drop (k + 1)).map Value.string := by
        have hl : (((Qaj e).take k).map (fun s => Value.string (Xt s))).length = k := by simp; omega
        unfold spl Qm
        rw [List.take_append_of_le_length (by omega),List.take_of_length_le (by omega),List.drop_append,hl]
        rw [List.drop_of_length_le (by simp; omega)]
        simp only [List.length_cons,List.length_nil,Nat.zero_add,List.nil_append]
        rw [show k + 1 - k = 1 by omega,h]
        simp [Xt]
       rw [← hsp]; exact h9
     · intro h
       have h : ¬ x = ⟨#[]⟩ := by simpa using h
       conv=>whnf
       refine ⟨(),⟨hx8,?_⟩,⟨rfl,rfl,rfl,rfl,trivial⟩⟩
       rw [htk]
       simpa [Qkz h] using hb8
   rintro _ w9 ⟨hx9,hb9⟩
   conv=>whnf
   refine ⟨_,wrap_succ (by omega),?_⟩;conv=>whnf
   exact ⟨k + 1,by omega,⟨by omega,hx9,hb9⟩,⟨rfl,rfl,rfl,rfl,trivial⟩⟩
 · intro hge
   have hge : k = 8 := by simp at hge; omega
   subst hge
   have hb9 : At w8 b7 9 (((Qaj e).map Xt).map Value.string) := by
    have h1 : (Qaj e).take 8 = Qaj e := rfl
    have h2 : (Qaj e).drop 8 = [] := rfl
    rw [h1,h2] at hb8
    have h3 : ((Qaj e).map Xt).map Value.string = (Qaj e).map (fun s => Value.string (Xt s)) := by rw [List.map_map]; rfl
    rw [h3]
    simpa using hb8
   conv=>whnf
   have hcells : ∀ (j:Nat) x,((Qaj e).map Xt)[j]? = some x → w8.cell? ⟨b7,0 + j,none⟩ = some (.string x) := by
    intro j x hj
    rw [Nat.zero_add,hb9.cell j,List.getElem?_map,hj]; rfl
   have hsrc : e.src ≠ ⟨#[]⟩ := fun h0 => by
    have := (Qdv (Qb2.1 hm).src).1
    rw [Qi6 h0] at this; omega
   have hjf := Q5s hsrc hkk
   refine (Qbq Q2w (Tryz.strings_Join b7 0 8 ((Qaj e).map Xt) ⟨#[32]⟩ w8 hcells hb9.lt (by simp [Qaj]) (by simp [Qaj]) ?_) (R := fun r w' => r = .string (Qgx e) ∧ Ext w8 w') ?_).mono ?_
   · have h1 := Qrv hf
     rw [← hjf] at h1
     have h2 : ∀ L : List UInt8,(⟨L.toArray⟩ : ByteArray).size = L.length := fun L => by simp [ByteArray.size]
     rw [h2] at h1
     show (Lib.join (((Qaj e).map Xt).map (·.data.toList)) [32]).length ≤ _
     omega
   · intro w' hw'
     exact ⟨by rw [← hjf],hw'⟩
   · rintro _ w10 ⟨rfl,hx10⟩;conv=>whnf
     exact ⟨rfl,hx8.trans hx10⟩
theorem Qsg (c:UInt8) : ∀ l : List UInt8,((partsOf c l).map (fun p => p.length + 1)).sum = l.length + 1
 | [] => by simp [partsOf]
 | x :: r => by
   have ih := Qsg c r
   unfold partsOf
   by_cases hx : x = c
   · rw [if_pos hx]; simp at ih ⊢; omega
   · rw [if_neg hx]
     cases hp : partsOf c r with
     | nil => exact absurd hp (Q6a c r)
     | cons q t => rw [hp] at ih; simp at ih ⊢; omega
theorem Q7k {α:Type} (f:α → Nat) (n:Nat) : ∀ l : List α,(∀ x ∈ l,f x ≤ n) → (l.map f).sum ≤ l.length * n
 | [],_ => by simp
 | a :: l,h => by
   have h1 := h a (by simp)
   have h2 := Q7k f n l fun x hx => h x (by simp [hx])
   simp [Nat.add_mul]; omega
theorem Qab {s:ByteArray} (h:Qi s = true) : s.size ≤ 24 := (Qdv h).2
theorem Q0j {l:List ByteArray} (h:Qff l = true) : ∀ x ∈ l,Qi x = true := by
 intro x hx
 obtain ⟨i,hi,rfl⟩ := List.getElem_of_mem hx
 unfold Qff at h
 rw [List.all_eq_true] at h
 have h1 := h i (List.mem_range.2 hi)
 unfold Qm6 at h1
 rw [getD_lt hi] at h1
 simp at h1
 exact h1.1
theorem Qy9 {s:ByteArray} (h:Qa7 s = true) : s.size < 1000 := by
 unfold Qa7 at h
 simp only [Bool.and_eq_true,decide_eq_true_eq] at h
 obtain ⟨⟨h1,h2⟩,h3,h4⟩ := h
 obtain ⟨i,hi⟩ := Option.isSome_iff_exists.1 h1
 have hlt := Qf3 hi
 have hm := Qab h2
 unfold Qak at hm
 rw [hi] at hm
 simp at hm
 by_cases hz : i + 1 = s.size
 · omega
 · rw [Qm7 hi hz] at h3 h4
   have hs := Qsg 44 (s.extract (i + 1) s.size).data.toList
   have hb := Q7k (fun p:List UInt8 => p.length + 1) 25 (partsOf 44 (s.extract (i + 1) s.size).data.toList) fun p hp => by
    have := Qab (Q0j h3 (bytesOf p) (List.mem_map.2 ⟨p,hp,rfl⟩))
    have e : (bytesOf p).size = p.length := by simp [bytesOf,ByteArray.size]
    omega
   unfold Qa8 at h4
   rw [List.length_map] at h4
   have he : (s.extract (i + 1) s.size).data.toList.length = s.size - (i + 1) := by simp
   rw [he] at hs
   have : (partsOf 44 (s.extract (i + 1) s.size).data.toList).length * 25 ≤ 8 * 25 := Nat.mul_le_mul_right _ h4
   omega
theorem Qd8 {e:Ev} (h:Xj e = true) : e.text.size < 1000 := by
 have hk := Qa4 (Qb2.1 h).kind
 have h0 : (⟨#[]⟩ : ByteArray).size = 0 := rfl
 rcases hk with ⟨_,_,_,h,_⟩ | ⟨_,_,_,h,_⟩ | ⟨_,_,_,h,_⟩ | ⟨_,_,_,h,_⟩ | ⟨_,_,_,h,_⟩ | ⟨_,_,_,h,_⟩ | ⟨_,_,_,h,_⟩
 · rw [h,h0]; omega
 · rw [h,h0]; omega
 · have := Qab h; omega
 · exact Qy9 h
 · rw [h,h0]; omega
 · rw [h,h0]; omega
 · rw [h,h0]; omega
theorem Q5w {e:Ev} (h:Xj e = true) : 0 ≤ e.kind ∧ e.kind ≤ 14 := by
 have hk := Qa4 (Qb2.1 h).kind
 omega
theorem Qfc {e:Ev} (h:Xj e = true) : 0 ≤ Qw e ∧ Qw e ≤ 5 := by
 have hk := Qa4 (Qb2.1 h).kind
 unfold Qw
 repeat' split
 all_goals omega
theorem Qhp {e:Ev} (h:Xj e = true) (hw:0 < Qw e) : Qi e.person = true ∧ Qi e.item = true := by
 have hk := Qa4 (Qb2.1 h).kind
 have : e.kind = 1 ∨ e.kind = 2 ∨ e.kind = 3 ∨ e.kind = 4 := by
  unfold Qw at hw
  by_cases h1 : e.kind = 1
  · omega
  by_cases h2 : e.kind = 2
  · omega
  by_cases h3 : e.kind = 3
  · omega
  by_cases h4 : e.kind = 4
  · omega
  rw [if_neg h1,if_neg h2,if_neg h3,if_neg h4] at hw; omega
 rcases hk with hk | hk | hk | hk | hk | hk | hk
 · exact ⟨hk.2.1,hk.2.2.1⟩
 · exact ⟨hk.2.1,hk.2.2.1⟩
 all_goals exfalso; omega
theorem Qmm (s:ByteArray) : (Qau s).size ≤ s.size := by
 unfold Qau
 split
 · rw [ByteArray.size_extract]; omega
 · exact Nat.zero_le _
end Go.Proofs.YteabekcdcphjpaaGreatDoor
namespace Go.Proofs.YteabekcdcphjpaaGreatDoor
open Go.Se
def Xbc (l:List UInt8) : Nat := l.foldl (fun a c => 10 * a + (c.toNat - 48)) 0
theorem Qpg (m:Nat) : (UInt8.ofNat (48 + m % 10)).toNat = 48 + m % 10 := by
 rw [UInt8.toNat_ofNat']; omega
theorem Qrp {m:Nat} (h:¬ 9 < m) : Lib.decDigits m = [UInt8.ofNat (48 + m % 10)] := by
 rw [Lib.decDigits_one (by omega),Nat.mod_eq_of_lt (by omega)]
theorem Qx6 (m:Nat) : Xbc (Lib.decDigits m) = m := by
 induction m using Nat.strongRecOn with
 | ind m ih =>
   by_cases h : 9 < m
   · rw [Qwt h]
     have := ih (m / 10) (by omega)
     unfold Xbc at this ⊢
     rw [List.foldl_append,this]
     simp only [List.foldl_cons,List.foldl_nil,Qpg]
     omega
   · rw [Qrp h]
     unfold Xbc
     simp only [List.foldl_cons,List.foldl_nil,Qpg]
     omega
theorem Q70 {a b:Nat} (h:Lib.decDigits a = Lib.decDigits b) : a = b := by rw [← Qx6 a,← Qx6 b,h]
theorem Qro (m:Nat) : ∀ c ∈ Lib.decDigits m,48 ≤ c.toNat ∧ c.toNat ≤ 57 := by
 induction m using Nat.strongRecOn with
 | ind m ih =>
   intro c hc
   by_cases h : 9 < m
   · rw [Qwt h,List.mem_append] at hc
     rcases hc with hc | hc
     · exact ih (m / 10) (by omega) c hc
     · simp only [List.mem_singleton] at hc
       rw [hc,Qpg]; omega
   · rw [Qrp h] at hc
     simp only [List.mem_singleton] at hc
     rw [hc,Qpg]; omega
theorem Qij : ∀ {a b r s:List UInt8},(∀ x ∈ a,x ≠ 32) → (∀ x ∈ b,x ≠ 32) → a ++ 32 :: r = b ++ 32 :: s → a = b ∧ r = s
 | [],[],r,s,_,_,h => ⟨rfl,by simpa using h⟩
 | [],y :: b,r,s,_,hb,h => by
   simp only [List.nil_append,List.cons_append,List.cons.injEq] at h
   exact absurd h.1.symm (hb y (by simp))
 | x :: a,[],r,s,ha,_,h => by
   simp only [List.nil_append,List.cons_append,List.cons.injEq] at h
   exact absurd h.1 (ha x (by simp))
 | x :: a,y :: b,r,s,ha,hb,h => by
   simp only [List.cons_append,List.cons.injEq] at h
   obtain ⟨h1,h2⟩ := Qij (fun z hz => ha z (by simp [hz])) (fun z hz => hb z (by simp [hz])) h.2
   exact ⟨by rw [h.1,h1],h2⟩
theorem Q8k {s:ByteArray} (h:Qi s = true) : ∀ x ∈ s.data.toList,x ≠ 32 := by
 unfold Qi at h
 simp only [Bool.and_eq_true] at h
 intro x hx e
 have := List.all_eq_true.1 h.2 x hx
 rw [e] at this
 exact absurd this (by decide)
def Q73 : ByteArray := ⟨#[46]⟩
theorem Qxh {s:ByteArray} (h:Qi s = true) : s ≠ Q73 := by
 rintro rfl
 exact absurd h (by decide)
theorem Q2g {s:ByteArray} (h:Qa7 s = true) : s ≠ Q73 := by
 rintro rfl
 unfold Qa7 at h
 simp only [Bool.and_eq_true] at h
 exact absurd h.1.1 (by decide)
theorem Qep : (⟨#[]⟩ : ByteArray) ≠ Q73 := by
 intro h
 have := congrArg ByteArray.size h
 exact absurd this (by decide)
theorem Qqn {s t:ByteArray} (hs:s ≠ Q73) (ht:t ≠ Q73) (h:Xt s = Xt t) : s = t := by
 unfold Xt at h
 by_cases h1 : s = ⟨#[]⟩ <;> by_cases h2 : t = ⟨#[]⟩ <;> simp only [h1,h2,decide_true,decide_false,cond_true,cond_false] at h
 · rw [h1,h2]
 · exact absurd h.symm ht
 · exact absurd h hs
 · exact h
theorem Qqo {s:ByteArray} (h:s = ⟨#[]⟩ ∨ Qi s = true) : ∀ x ∈ (Xt s).data.toList,x ≠ 32 := by
 rcases h with rfl | h
 · decide
 · unfold Xt
   by_cases h1 : s = ⟨#[]⟩
   · rw [h1] at h; exact absurd h (by decide)
   · simp only [h1,decide_false,cond_false]; exact Q8k h
theorem Q98 : ∀ k,k < 15 → ∀ x ∈ (kindNames.getD k .empty).data.toList,x ≠ 32 := by decide +kernel
theorem Q97 : ∀ k,k < 15 → ∀ j,j < 15 → (kindNames.getD k .empty).data.toList = (kindNames.getD j .empty).data.toList → k = j := by decide +kernel
theorem Qr8 {e:Ev} (h:Xj e = true) : (e.person = ⟨#[]⟩ ∨ Qi e.person = true) ∧ (e.item = ⟨#[]⟩ ∨ Qi e.item = true) ∧ e.text ≠ Q73 ∧ 0 ≤ e.val ∧ 0 ≤ e.kind ∧ e.kind < 15 := by
 rcases Qa4 (Qb2.1 h).kind with ⟨hk,h1,h2,h3,h4⟩ | ⟨hk,h1,h2,h3,h4⟩ | ⟨hk,h1,h2,h3,h4⟩ | ⟨hk,h1,h2,h3,h4⟩ | ⟨hk,h1,h2,h3,h4⟩ | ⟨hk,h1,h2,h3,h4⟩ | ⟨hk,h1,h2,h3,h4⟩
 · exact ⟨.inr h1,.inr h2,h3 ▸ Qep,by omega,by omega,by omega⟩
 · exact ⟨.inr h1,.inr h2,h3 ▸ Qep,by omega,by omega,by omega⟩
 · exact ⟨.inr h1,.inl h2,Qxh h3,by omega,by omega,by omega⟩
 · exact ⟨.inl h1,.inr h2,Q2g h3,by omega,by omega,by omega⟩
 · exact ⟨.inl h1,.inr h2,h3 ▸ Qep,by omega,by omega,by omega⟩
 · exact ⟨.inl h1,.inr h2,h3 ▸ Qep,by omega,by omega,by omega⟩
 · exact ⟨.inr h1,.inl h2,h3 ▸ Qep,by omega,by omega,by omega⟩
theorem Qdc {s:ByteArray} (h:s = ⟨#[]⟩ ∨ Qi s = true) : s ≠ Q73 := by
 rcases h with rfl | h
 · exact Qep
 · exact Qxh h
theorem Q5o (e:Ev) : (Qgx e).data.toList = (e.src.data.toList ++ 32 :: (Lib.decDigits e.num.toNat ++ 32 :: (Lib.decDigits e.at_.toNat ++ [32]))) ++
 ((knB e).data.toList ++ 32 :: ((Xt e.person).data.toList ++ 32 :: ((Xt e.item).data.toList ++ 32 :: (Lib.decDigits e.val.toNat ++ 32 :: (Xt e.text).data.toList)))) := by
 unfold Qgx Qug bytesOf spB
 simp
theorem Qpf {a b:ByteArray} (h:a.data.toList = b.data.toList) : a = b := ByteArray.ext (Array.ext' h)
theorem Q77 {a b:Ev} (ha:Xj a = true) (hb:Xj b = true) (h1:a.src = b.src) (h2:a.num = b.num) (h3:a.at_ = b.at_) (h:Qgx a = Qgx b) : a = b := by
 have h' := congrArg (fun x:ByteArray => x.data.toList) h
 simp only [Q5o] at h'
 rw [h1,h2,h3] at h'
 have h' := List.append_cancel_left h'
 obtain ⟨p1,p2,p3,p4,p5,p6⟩ := Qr8 ha
 obtain ⟨q1,q2,q3,q4,q5,q6⟩ := Qr8 hb
 obtain ⟨e1,h'⟩ := Qij (Q98 _ (by omega)) (Q98 _ (by omega)) h'
 obtain ⟨e2,h'⟩ := Qij (Qqo p1) (Qqo q1) h'
 obtain ⟨e3,h'⟩ := Qij (Qqo p2) (Qqo q2) h'
 obtain ⟨e4,h'⟩ := Qij (fun x hx e => by have := Qro _ x hx; rw [e] at this; exact absurd this (by decide)) (fun x hx e => by have := Qro _ x hx; rw [e] at this; exact absurd this (by decide)) h'
 have k1 := Q97 _ (by omega) _ (by omega) e1
 have k2 := Qqn (Qdc p1) (Qdc q1) (Qpf e2)
 have k3 := Qqn (Qdc p2) (Qdc q2) (Qpf e3)
 have k4 := Q70 e4
 have k5 := Qqn p3 q3 (Qpf h')
 apply Ev.ext <;> first | assumption | omega
theorem Qi0 (a b:Ev) : Qax a b = true ↔ Q7 a b = true ∨ (Q7 b a = false ∧ bLt (Qgx a) (Qgx b) = true) := by
 unfold Qax
 cases h1 : Q7 a b <;> cases h2 : Q7 b a <;> simp
theorem Qe0 (a:Ev) : Qax a a = false := by
 rw [← Bool.not_eq_true,Qi0]
 rintro (h | ⟨_,h⟩)
 · rw [Qaa.irrefl] at h; cases h
 · rw [Qae] at h; cases h
theorem Qpt {a b c:Ev} (h1:Q7 a b = false) (h2:Q7 b c = false) : Q7 a c = false := Qaa.trans c b a h2 h1
theorem Qg1 {a b c:Ev} (h1:Q7 a b = true) (h2:Q7 c b = false) : Q7 a c = true := by
 cases h : Q7 a c
 · have := Qpt h h2; rw [h1] at this; cases this
 · rfl
theorem Qpu {a b c:Ev} (h1:Q7 b a = false) (h2:Q7 b c = true) : Q7 a c = true := by
 cases h : Q7 a c
 · have := Qpt h1 h; rw [h2] at this; cases this
 · rfl
theorem Qrg {a b c:Ev} (h1:Qax a b = true) (h2:Qax b c = true) : Qax a c = true := by
 rw [Qi0] at h1 h2 ⊢
 rcases h1 with h1 | ⟨h1,f1⟩ <;> rcases h2 with h2 | ⟨h2,f2⟩
 · exact .inl (Qg1 h1 (Qaa.asymm _ _ h2))
 · exact .inl (Qg1 h1 h2)
 · exact .inl (Qpu h1 h2)
 · exact .inr ⟨Qpt h2 h1,Qbb f1 f2⟩
theorem Qrf {a b:Ev} (ha:Xj a = true) (hb:Xj b = true) (h1:Qax a b = false) (h2:Qax b a = false) : a = b := by
 rw [← Bool.not_eq_true,Qi0,not_or] at h1 h2
 have l1 : Q7 a b = false := by simpa using h1.1
 have l2 : Q7 b a = false := by simpa using h2.1
 obtain ⟨e1,e2,e3⟩ := Qgi l1 l2
 refine Q77 ha hb e2 e3 e1 (Qbz ?_ ?_)
 · cases h : bLt (Qgx a) (Qgx b)
   · rfl
   · exact absurd ⟨l2,h⟩ h1.2
 · cases h : bLt (Qgx b) (Qgx a)
   · rfl
   · exact absurd ⟨l1,h⟩ h2.2
def idE (e:Ev) : ByteArray × Int := (e.src,e.num)
theorem Qdl {e x:Ev} : Qb7 e x = true ↔ idE x = idE e := by simp [Qb7,idE]
structure Qnn (l z:List Ev) : Prop where
 ids : z.Pairwise (fun a b => idE a ≠ idE b)
 all : ∀ y ∈ l,∃ x ∈ z,idE x = idE y
 mem : ∀ x,x ∈ z ↔ x ∈ l ∧ ∀ y ∈ l,idE y = idE x → Qax y x = false
theorem Qw1 {z:List Ev} (h:z.Pairwise (fun a b => idE a ≠ idE b)) {x y:Ev} (hx:x ∈ z) (hy:y ∈ z) (he:idE x = idE y) : x = y := by
 induction z with
 | nil => cases hx
 | cons u z ih =>
   rw [List.pairwise_cons] at h
   rcases List.mem_cons.1 hx with h1 | h1 <;> rcases List.mem_cons.1 hy with h2 | h2
   · rw [h1,h2]
   · rw [h1] at he; exact absurd he (h.1 y h2)
   · rw [h2] at he; exact absurd he.symm (h.1 x h1)
   · exact ih h.2 h1 h2
theorem Q18 {z:List Ev} {k:Nat} {e:Ev} (hk:k < z.length) (he:idE z[k] = idE e) (h:z.Pairwise (fun a b => idE a ≠ idE b)) : (z.set k e).Pairwise (fun a b => idE a ≠ idE b) := by
 have h1 : (z.set k e).map idE = z.map idE := by
  rw [List.map_set,← he]
  apply List.ext_getElem?
  intro i
  rw [List.getElem?_set]
  by_cases hi : k = i
  · subst hi; simp [hk]
  · simp [hi]
 have h2 : (z.map idE).Pairwise (· ≠ ·) := by rw [List.pairwise_map]; exact h
 rw [← h1,List.pairwise_map] at h2
 exact h2
theorem Ql7 {z:List Ev} {k:Nat} {e:Ev} (hk:k < z.length) (he:idE z[k] = idE e) (h:z.Pairwise (fun a b => idE a ≠ idE b)) (x:Ev) : x ∈ z.set k e ↔ x = e ∨ (x ∈ z ∧ idE x ≠ idE e) := by
 constructor
 · intro hx
   rcases List.mem_or_eq_of_mem_set hx with h1 | h1
   · by_cases hid : idE x = idE e
     · refine .inl (Qw1 (Q18 hk he h) hx (List.mem_set hk e) hid)
     · exact .inr ⟨h1,hid⟩
   · exact .inl h1
 · rintro (rfl | ⟨hx,hid⟩)
   · exact List.mem_set hk x
   · obtain ⟨i,hi,rfl⟩ := List.getElem_of_mem hx
     have hne : k ≠ i := by rintro rfl; exact hid he
     rw [List.mem_iff_getElem?]
     exact ⟨i,by rw [List.getElem?_set_ne hne]; exact List.getElem?_eq_getElem hi⟩
theorem Qnn.step {l z:List Ev} (h:Qnn l z) {e:Ev} (hl:∀ x ∈ l,Xj x = true) (hm:Xj e = true) : Qnn (l ++ [e]) (Qap z e) := by
 have inl : ∀ {x},x ∈ z → x ∈ l := fun hx => ((h.mem _).1 hx).1
 unfold Qap
 cases hf : z.findIdx? (Qb7 e) with
 | none =>
   have hn : ∀ x ∈ z,idE x ≠ idE e := fun x hx => by
    have := List.findIdx?_eq_none_iff.1 hf x hx
    intro e'
    rw [Qdl.2 e'] at this; cases this
   have hn' : ∀ y ∈ l,idE y ≠ idE e := fun y hy e' => by
    obtain ⟨x,hx,hid⟩ := h.all y hy
    exact hn x hx (hid.trans e')
   simp only
   refine ⟨?_,?_,fun x => ?_⟩
   · rw [List.pairwise_append]
     refine ⟨h.ids,by simp,fun a ha b hb => ?_⟩
     rw [List.mem_singleton.1 hb]; exact hn a ha
   · intro y hy
     rcases List.mem_append.1 hy with hy | hy
     · obtain ⟨x,hx,hid⟩ := h.all y hy
       exact ⟨x,by simp [hx],hid⟩
     · exact ⟨e,by simp,by rw [List.mem_singleton.1 hy]⟩
   · simp only [List.mem_append,List.mem_singleton]
     constructor
     · rintro (hx | rfl)
       · refine ⟨.inl (inl hx),fun y hy hid => ?_⟩
         rcases hy with hy | rfl
         · exact ((h.mem x).1 hx).2 y hy hid
         · exact absurd hid.symm (hn x hx)
       · refine ⟨.inr rfl,fun y hy hid => ?_⟩
         rcases hy with hy | rfl
         · exact absurd hid (hn' y hy)
         · exact Qe0 _
     · rintro ⟨hx | rfl,hy⟩
       · exact .inl ((h.mem x).2 ⟨hx,fun y hyl => hy y (.inl hyl)⟩)
       · exact .inr rfl
 | some k =>
   obtain ⟨hk,hs,_⟩ := List.findIdx?_eq_some_iff_getElem.1 hf
   have hid := Qdl.1 hs
   have hold : z[k] ∈ z := List.getElem_mem hk
   have hmo : Xj z[k] = true := hl _ (inl hold)
   simp only
   rw [getD_lt hk]
   cases hb : Qax e z[k] with
   | false =>
     simp only [cond_false]
     refine ⟨h.ids,?_,fun x => ?_⟩
     · intro y hy
       rcases List.mem_append.1 hy with hy | hy
       · exact h.all y hy
       · rw [List.mem_singleton.1 hy]; exact ⟨_,hold,hid⟩
     · simp only [List.mem_append,List.mem_singleton]
       constructor
       · intro hx
         refine ⟨.inl (inl hx),fun y hy he => ?_⟩
         rcases hy with hy | rfl
         · exact ((h.mem x).1 hx).2 y hy he
         · rw [Qw1 h.ids hx hold (he.symm.trans hid.symm)]; exact hb
       · rintro ⟨hx | rfl,hy⟩
         · exact (h.mem x).2 ⟨hx,fun y hyl => hy y (.inl hyl)⟩
         · rw [Qrf hm hmo hb (hy _ (.inl (inl hold)) hid)]; exact hold
   | true =>
     simp only [cond_true]
     refine ⟨Q18 hk hid h.ids,?_,fun x => ?_⟩
     · intro y hy
       by_cases he : idE y = idE e
       · exact ⟨e,List.mem_set hk e,he.symm⟩
       · rcases List.mem_append.1 hy with hy | hy
         · obtain ⟨x,hx,hxy⟩ := h.all y hy
           exact ⟨x,(Ql7 hk hid h.ids x).2 (.inr ⟨hx,fun e' => he (hxy.symm.trans e')⟩),hxy⟩
         · exact absurd (by rw [List.mem_singleton.1 hy]) he
     · rw [Ql7 hk hid h.ids x]
       simp only [List.mem_append,List.mem_singleton]
       constructor
       · rintro (rfl | ⟨hx,hne⟩)
         · refine ⟨.inr rfl,fun y hy he => ?_⟩
           rcases hy with hy | rfl
           · cases hc : Qax y x
             · rfl
             · have h1 := Qrg hc hb
               rw [((h.mem _).1 hold).2 y hy (he.trans hid.symm)] at h1; cases h1
           · exact Qe0 _
         · refine ⟨.inl (inl hx),fun y hy he => ?_⟩
           rcases hy with hy | rfl
           · exact ((h.mem x).1 hx).2 y hy he
           · exact absurd he.symm hne
       · rintro ⟨hx | rfl,hy⟩
         · have hz := (h.mem x).2 ⟨hx,fun y hyl => hy y (.inl hyl)⟩
           refine .inr ⟨hz,fun he => ?_⟩
           have h1 := hy e (.inr rfl) he.symm
           rw [Qw1 h.ids hz hold (he.trans hid.symm),hb] at h1; cases h1
         · exact .inl rfl
theorem Q2x {l2:List Ev} : ∀ {l z:List Ev},Qnn l z → (∀ x ∈ l,Xj x = true) → (∀ x ∈ l2,Xj x = true) → Qnn (l ++ l2) (l2.foldl Qap z) := by
 induction l2 with
 | nil => intro l z h _ _; simpa using h
 | cons e l2 ih =>
   intro l z h hl hl2
   have := ih (h.step hl (hl2 e (by simp))) (fun x hx => by
    rcases List.mem_append.1 hx with hx | hx
    · exact hl x hx
    · rw [List.mem_singleton.1 hx]; exact hl2 e (by simp)) (fun x hx => hl2 x (by simp [hx]))
   simpa using this
theorem Q2y {l:List Ev} (h:∀ x ∈ l,Xj x = true) : Qnn l (Qdw l) := by
 have := Q2x (l2 := l) (l := []) (z := []) ⟨by simp,by simp,by simp⟩ (by simp) h
 simpa [Qdw] using this
theorem Q0d {z z':List Ev} (hp:z.Perm z') (hi:z.Pairwise (fun a b => idE a ≠ idE b)) (hs:Srt Q7 z) (hs':Srt Q7 z') : z = z' :=
 Qom hp hs hs' fun x hx y hy h1 h2 => by
  obtain ⟨_,e2,e3⟩ := Qgi h1 h2
  exact Qw1 hi hx hy (by unfold idE; rw [e2,e3])
theorem Qw2 {z z':List Ev} (hp:z.Perm z') (hi:z'.Pairwise (fun a b => idE a ≠ idE b)) : z.Pairwise (fun a b => idE a ≠ idE b) :=
 (hp.pairwise_iff (fun h e => h e.symm)).2 hi
end Go.Proofs.YteabekcdcphjpaaGreatDoor
namespace Go.Proofs.YteabekcdcphjpaaGreatDoor
open Go.Se Go.RowKit
abbrev IdS := ByteArray × Int
theorem Qym (a b:Ev) : Qax a b = bif decide (Qjy a b = 0) then bLt (Qgx a) (Qgx b) else decide (Qjy a b < 0) := by
 rw [Qcd]
 unfold Qax
 by_cases h0 : Qjy a b = 0
 · have hz := (Qlf a b).1 h0
   have h1 : Q7 a b = false := by rw [← Qcd,h0]; rfl
   have h2 : Q7 b a = false := by rw [← Qcd,(Qlf b a).2 ⟨hz.1.symm,hz.2.1.symm,hz.2.2.symm⟩]; rfl
   simp [h0,h1,h2]
 · simp only [h0,decide_false,cond_false]
   cases h1 : Q7 a b
   · cases h2 : Q7 b a
     · obtain hz := Qgi h1 h2
       exact absurd ((Qlf a b).2 hz) h0
     · rfl
   · rfl
def X6 (out:List Ev) : List (IdS × Value) := out.map fun e => (idE e,evV e)
theorem Qzb (out:List Ev) (e:Ev) : Qc (X6 out) (idE e) = (out.find? (Qb7 e)).map evV := by
 induction out with
 | nil => rfl
 | cons x out ih =>
   simp only [X6,List.map_cons,Qc,List.find?_cons]
   by_cases h : idE e = idE x
   · rw [if_pos h,Qdl.2 h.symm]; rfl
   · rw [if_neg h]
     have : Qb7 e x = false := by rw [← Bool.not_eq_true,Qdl]; exact fun h' => h h'.symm
     rw [this]; exact ih
theorem Qr2 (e:Ev) : ∀ out : List Ev,Qz (X6 out) (idE e) (evV e) = X6 (match out.findIdx? (Qb7 e) with | none => out ++ [e] | some k => out.set k e)
 | [] => rfl
 | x :: out => by
   have ih := Qr2 e out
   simp only [X6,List.map_cons,Qz,List.findIdx?_cons] at ih ⊢
   by_cases h : idE e = idE x
   · rw [if_pos h,Qdl.2 h.symm]
     simp [h]
   · rw [if_neg h]
     have : Qb7 e x = false := by rw [← Bool.not_eq_true,Qdl]; exact fun h' => h h'.symm
     rw [this,ih]
     cases out.findIdx? (Qb7 e) <;> simp
theorem Qzc {out:List Ev} {e:Ev} :
 (out.find? (Qb7 e) = none → Qz (X6 out) (idE e) (evV e) = X6 (Qap out e)) ∧
 (∀ old,out.find? (Qb7 e) = some old → Qax e old = true → Qz (X6 out) (idE e) (evV e) = X6 (Qap out e)) ∧
 (∀ old,out.find? (Qb7 e) = some old → Qax e old = false → X6 out = X6 (Qap out e)) := by
 have hf : ∀ (l:List Ev),l.find? (Qb7 e) = (l.findIdx? (Qb7 e)).map fun k => l.getD k e := by
  intro l
  induction l with
  | nil => rfl
  | cons x l ih =>
    rw [List.find?_cons,List.findIdx?_cons]
    cases h : Qb7 e x
    · simp only [cond_false,ih]
      cases l.findIdx? (Qb7 e) <;> simp
    · simp
 rw [Qr2,hf out]
 unfold Qap
 cases hk : out.findIdx? (Qb7 e) with
 | none => simp
 | some k =>
   refine ⟨by simp,fun old h1 h2 => ?_,fun old h1 h2 => ?_⟩
   · have h1 : out.getD k e = old := by simpa using h1
     simp only [h1,h2,cond_true]
   · have h1 : out.getD k e = old := by simpa using h1
     simp only [h1,h2,cond_false]
theorem Q51 (l:List Ev) (e:Ev) : Qdw (l ++ [e]) = Qap (Qdw l) e := by simp [Qdw]
def evZ : Ev := ⟨⟨#[]⟩,0,0,0,⟨#[]⟩,⟨#[]⟩,0,⟨#[]⟩⟩
def Xbj : Value → Ev
 | .agg cs => match cs.toList with
   | [.string a,.int _ b,.int _ c,.int _ d,.string e,.string f,.int _ g,.string h] => ⟨a,b,c,d,e,f,g,h⟩
   | _ => evZ
 | _ => evZ
theorem Q5c (e:Ev) : Xbj (evV e) = e := rfl
theorem Qof {z out:List Ev} (h:(X6 z).Perm (X6 out)) : z.Perm out := by
 have := h.map fun x => Xbj x.2
 simpa [X6,Q5c,Function.comp_def] using this
def Grow (S:Nat → Prop) (w:World) (k:Nat) : Prop := S k ∨ w.heap.size ≤ k
theorem Qan {S:Nat → Prop} {w w':World} {row:Option Nat} (hg:w.grownBy w' row) (hr:∀ k,row = some k → S k) : Mod S w w' :=
 ⟨hg.os,hg.tape,hg.output,hg.size,fun k hk hs => hg.block k hk (fun e => hs (hr k e.symm))⟩
theorem Ql {S:Nat → Prop} {w w':World} {b:Nat} (ho:Only w w' b) (hb:S b) : Mod S w w' := ho.mod.mono fun k _ e => by rw [e]; exact hb
theorem Qn {S:Nat → Prop} {w w1 w2:World} (h:Mod S w w1) (k:Mod (Grow S w) w1 w2) : Mod S w w2 :=
 ⟨k.os.trans h.os,k.tape.trans h.tape,k.output.trans h.output,Nat.le_trans h.size k.size,fun i hi hs =>
  (k.block i (Nat.lt_of_lt_of_le hi h.size) (fun hg => hg.elim hs (fun hh => by omega))).trans (h.block i hi hs)⟩
theorem Qj {P:Program} {T:Tab} (hT:Qba P T) {t:TypeId} {e:TyE} (ht:Qhm T t = some e) {w:World} {R:Value → World → Prop} {b tb off:Nat} {l:List Value} {v:Value} {p:Addr} (h:At w b tb l) (hp:p = ⟨b,off,none⟩) (hn:(Qm v).length = e.size) (hle:Nat.ble (off + e.size) l.length = true) (hone:∀ u ∈ Qm v,u.oneCell' = true)
 (hk:∀ w',At w' b tb (spl l off (Qm v)) → Only w w' b → R undef w') : Qyb P (Instr.storeAt t (.pointer (some p)) v) w R := by
 subst hp; exact Qdg hT ht h hn (Nat.le_of_ble_eq_true hle) hone hk
section
variable {α:Type} {enc:α → List Value} {sz:Nat} {te:TypeId} {w w1 w2 w3:World} {S S':Nat → Prop} {bm:Nat} {rows:ByteArray → List α} {L:List (ByteArray × (Option Addr × Nat))} {P:Program} {mt kt et:TypeId}
def toV (rows:ByteArray → List α) (L:List (ByteArray × (Option Addr × Nat))) : List (ByteArray × Value) := L.map fun x => (x.1,Value.slice x.2.1 (rows x.1).length x.2.2)
structure Qbs (enc:α → List Value) (sz:Nat) (te:TypeId) (w:World) (S:Nat → Prop) (bm:Nat) (rows:ByteArray → List α) (L:List (ByteArray × (Option Addr × Nat))) : Prop where
 mine : S bm
 map : MapAt w bm Value.string (toV rows L)
 row : ∀ x ∈ L,Own enc sz te 0 w x.2.1 x.2.2 (rows x.1) ∧ ∀ a,x.2.1 = some a → S a.block ∧ a.block ≠ bm
 ne : ∀ x ∈ L,rows x.1 ≠ []
 apart : L.Pairwise (fun x y => ∀ a a',x.2.1 = some a → y.2.1 = some a' → a.block ≠ a'.block)
 all : ∀ k,Qc L k = none → rows k = []
theorem Qbs.keys (h:Qbs enc sz te w S bm rows L) : L.Pairwise (fun x y => x.1 ≠ y.1) := by
 have := h.map.keys
 unfold toV at this
 rw [List.pairwise_map] at this
 exact this
theorem Qxa (k:ByteArray) : ∀ L : List (ByteArray × (Option Addr × Nat)),Qc (toV rows L) k = (Qc L k).map fun p => Value.slice p.1 (rows k).length p.2
 | [] => rfl
 | x :: L => by
   simp only [toV,List.map_cons,Qc]
   by_cases e : k = x.1
   · subst e; simp
   · rw [if_neg e,if_neg e]; exact Qxa k L
theorem Qbs.keep (h:Qbs enc sz te w S bm rows L) (hk:∀ k,k < w.heap.size → S k → w1.heap[k]? = w.heap[k]? ∧ S' k) : Qbs enc sz te w1 S' bm rows L where
 mine := (hk bm h.map.lt h.mine).2
 map := h.map.keep (hk bm h.map.lt h.mine).1
 row x hx := by
  obtain ⟨h1,h2⟩ := h.row x hx
  exact ⟨h1.keep fun a ha => (hk a.block (h1.block ha).2 (h2 a ha).1).1,fun a ha => ⟨(hk a.block (h1.block ha).2 (h2 a ha).1).2,(h2 a ha).2⟩⟩
 ne := h.ne
 apart := h.apart
 all := h.all
def rowAt (L:List (ByteArray × (Option Addr × Nat))) (k:ByteArray) : Option Addr × Nat := (Qc L k).getD (none,0)
theorem Qbs.own (h:Qbs enc sz te w S bm rows L) (k:ByteArray) : Own enc sz te 0 w (rowAt L k).1 (rowAt L k).2 (rows k) ∧ ∀ a,(rowAt L k).1 = some a → S a.block ∧ a.block ≠ bm := by
 unfold rowAt
 cases hk : Qc L k with
 | none => rw [h.all k hk]; exact ⟨Own.nil,fun a ha => by simp at ha⟩
 | some p =>
   have := h.row _ (Xg hk)
   exact this
theorem Qbs.look (h:Qbs enc sz te w S bm rows L) (ht:P.underlying mt = some (.map kt et)) (hkt:P.underlying kt = some .string) {e:TyE} (he:Xp P et = some e) (hz:e.zero = .slice none 0 0) (k:ByteArray) {cl:Cl} (hc:Kept cl w bm) :
 RdS P cl w (Instr.lookup mt (.map (some bm)) (.string k) false) (.slice (rowAt L k).1 (rows k).length (rowAt L k).2) := by
 have := Qby ht (Qp hkt) he hc h.map k
 rw [Qxa,hz] at this
 unfold rowAt
 cases hk : Qc L k with
 | none => rw [hk] at this; rw [h.all k hk]; exact this
 | some p => rw [hk] at this; exact this
def Qho (rows:ByteArray → List α) (k:ByteArray) (r:List α) (x:ByteArray) : List α := if x = k then r else rows x
theorem Qqx {k:ByteArray} {p:Option Addr × Nat} {r:List α} : ∀ {L:List (ByteArray × (Option Addr × Nat))},L.Pairwise (fun x y => x.1 ≠ y.1) → toV (Qho rows k r) (Qz L k p) = Qz (toV rows L) k (.slice p.1 r.length p.2)
 | [],_ => by simp [toV,Qz,Qho]
 | x :: L,hp => by
   rw [List.pairwise_cons] at hp
   simp only [toV,List.map_cons,Qz]
   by_cases e : k = x.1
   · subst e
     simp only [if_true,List.map_cons,Qho]
     congr 1
     apply List.map_congr_left
     intro y hy
     simp only [if_neg (fun e:y.1 = x.1 => hp.1 y hy e.symm)]
   · simp only [if_neg e,List.map_cons,Qho,if_neg (fun q:x.1 = k => e q.symm)]
     congr 1
     exact Qqx hp.2
theorem Qwh {β:Type} {R:ByteArray × β → ByteArray × β → Prop} {k:ByteArray} {p:β} : ∀ {L:List (ByteArray × β)},L.Pairwise R → (∀ y ∈ L,y.1 ≠ k → R (k,p) y) → (∀ y ∈ L,y.1 ≠ k → R y (k,p)) → L.Pairwise (fun x y => x.1 ≠ y.1) → (Qz L k p).Pairwise R
 | [],_,_,_,_ => by simp [Qz]
 | x :: L,hp,h1,h2,hk => by
   rw [List.pairwise_cons] at hp hk
   simp only [Qz]
   by_cases e : k = x.1
   · subst e
     rw [if_pos rfl,List.pairwise_cons]
     exact ⟨fun y hy => h1 y (by simp [hy]) (fun q => hk.1 y hy q.symm),hp.2⟩
   · rw [if_neg e,List.pairwise_cons]
     refine ⟨fun y hy => ?_,Qwh hp.2 (fun y hy => h1 y (by simp [hy])) (fun y hy => h2 y (by simp [hy])) hk.2⟩
     rcases Qbw hy with rfl | hy
     · exact h2 x (by simp) (fun q => e q.symm)
     · exact hp.1 y hy
theorem Qbs.push (h:Qbs enc sz te w S bm rows L) {k:ByteArray} {r:List α} (hr:r ≠ []) {A':Option Addr} {c':Nat} (hx:Ext w w1) (hg:w1.grownBy w2 ((rowAt L k).1.map (·.block))) (hA:A' = (rowAt L k).1 ∨ A'.map (·.block) = (rowAt L k).1.map (·.block) ∨ A'.map (·.block) = some w1.heap.size)
 (hown:Own enc sz te 0 w2 A' c' r) (hm:MapAt w3 bm Value.string (Qz (toV rows L) k (.slice A' r.length c'))) (ho:Only w2 w3 bm) : Qbs enc sz te w3 (Grow S w) bm (Qho rows k r) (Qz L k (A',c')) := by
 have hbm := h.map.lt
 have hblk : ∀ a,A' = some a → a.block ≠ bm ∧ Grow S w a.block ∧ ((∃ a0,(rowAt L k).1 = some a0 ∧ a0.block = a.block) ∨ a.block = w1.heap.size) := by
  intro a ha
  subst ha
  have h2 := (h.own k).2
  have hs := hx.size
  rcases hA with hA | hA | hA
  · obtain ⟨q1,q2⟩ := h2 a hA.symm
    exact ⟨q2,.inl q1,.inl ⟨a,hA.symm,rfl⟩⟩
  · cases hr0 : (rowAt L k).1 with
    | none => rw [hr0] at hA; simp at hA
    | some a0 =>
      rw [hr0] at hA
      obtain ⟨q1,q2⟩ := h2 a0 hr0
      have e : a.block = a0.block := by simpa using hA
      rw [e]
      exact ⟨q2,.inl q1,.inl ⟨a0,rfl,rfl⟩⟩
  · have e : a.block = w1.heap.size := by simpa using hA
    rw [e]
    exact ⟨by omega,.inr hs,.inr rfl⟩
 have hoth : ∀ x ∈ L,x.1 ≠ k → Own enc sz te 0 w3 x.2.1 x.2.2 (rows x.1) ∧ (∀ a,x.2.1 = some a → S a.block ∧ a.block ≠ bm) ∧ ∀ a a',x.2.1 = some a → A' = some a' → a.block ≠ a'.block := by
  intro x hxL hne
  obtain ⟨h1,h2⟩ := h.row x hxL
  have hap : ∀ a a0,x.2.1 = some a → (rowAt L k).1 = some a0 → a.block ≠ a0.block := by
   intro a a0 ha ha0
   unfold rowAt at ha0
   cases hk : Qc L k with
   | none => rw [hk] at ha0; simp at ha0
   | some p =>
     rw [hk] at ha0
     have hin := Xg hk
     have hpw := h.apart
     have : ∀ {L:List (ByteArray × (Option Addr × Nat))},L.Pairwise (fun x y => ∀ a a',x.2.1 = some a → y.2.1 = some a' → a.block ≠ a'.block) → x ∈ L → (k,p) ∈ L → a.block ≠ a0.block := by
      intro L
      induction L with
      | nil => intro _ h; simp at h
      | cons y L ih =>
        intro hp m1 m2
        rw [List.pairwise_cons] at hp
        rcases List.mem_cons.1 m1 with e1 | n1 <;> rcases List.mem_cons.1 m2 with e2 | n2
        · exact absurd (by rw [e1,← e2]) hne
        · subst e1; exact hp.1 _ n2 a a0 ha (by simpa using ha0)
        · subst e2; exact fun q => hp.1 _ n1 a0 a (by simpa using ha0) ha q.symm
        · exact ih hp.2 n1 n2
     exact this hpw hxL hin
  refine ⟨h1.keep fun a ha => ?_,h2,fun a a' ha ha' => ?_⟩
  · have hlt := (h1.block ha).2
    have hs := hx.size
    rw [ho.block _ (h2 a ha).2,hg.block _ (by omega) ?_,hx.block _ hlt]
    intro e
    cases hr0 : (rowAt L k).1 with
    | none => rw [hr0] at e; simp at e
    | some a0 => rw [hr0] at e; exact hap a a0 ha hr0 (by simpa using e)
  · have hlt := (h1.block ha).2
    have hs := hx.size
    rcases (hblk a' ha').2.2 with ⟨a0,q1,q2⟩ | q
    · rw [← q2]; exact hap a a0 ha q1
    · rw [q]; omega
 refine ⟨.inl h.mine,?_,?_,?_,?_,?_⟩
 · rw [Qqx h.keys]; exact hm
 · intro x hx'
   rcases Qbw hx' with rfl | hxL
   · refine ⟨?_,fun a ha => ⟨(hblk a ha).2.1,(hblk a ha).1⟩⟩
     simp only [Qho,if_true]
     exact hown.keep fun a ha => ho.block _ (hblk a ha).1
   · by_cases e : x.1 = k
     · have hin : ∀ {L:List (ByteArray × (Option Addr × Nat))},L.Pairwise (fun x y => x.1 ≠ y.1) → x ∈ Qz L k (A',c') → x.1 = k → x = (k,(A',c')) := by
        intro L hp hm' he
        have h1 := Xh (X8 hp) (k := x.1) (v := x.2) (by simpa using hm')
        rw [he,Qs] at h1
        have : (A',c') = x.2 := by simpa using h1
        rw [this,← he]
       have := hin h.keys hx' e
       subst this
       refine ⟨?_,fun a ha => ⟨(hblk a ha).2.1,(hblk a ha).1⟩⟩
       simp only [Qho,if_true]
       exact hown.keep fun a ha => ho.block _ (hblk a ha).1
     · obtain ⟨q1,q2,_⟩ := hoth x hxL e
       simp only [Qho,if_neg e]
       exact ⟨q1,fun a ha => ⟨.inl (q2 a ha).1,(q2 a ha).2⟩⟩
 · intro x hx'
   by_cases e : x.1 = k
   · simp only [Qho,if_pos e]; exact hr
   · rcases Qbw hx' with rfl | hxL
     · exact absurd rfl e
     · simp only [Qho,if_neg e]; exact h.ne x hxL
 · refine Qwh h.apart (fun y hy hne a a' ha ha' => ?_) (fun y hy hne a a' ha ha' => ?_) h.keys
   · exact fun q => (hoth y hy hne).2.2 a' a ha' ha q.symm
   · exact (hoth y hy hne).2.2 a a' ha ha'
 · intro k' hk'
   rw [Q5] at hk'
   by_cases e : k' = k
   · rw [if_pos e] at hk'; cases hk'
   · rw [if_neg e] at hk'
     simp only [Qho,if_neg e]
     exact h.all k' hk'
theorem Qbs.new {b:Nat} (hn:New w w1 b (.map #[] 0)) (hb:S b) : Qbs enc sz te w1 S b (fun _ => []) [] :=
 ⟨hb,MapAt.new hn,by simp,by simp,by simp,fun _ _ => rfl⟩
end
theorem Q8x {α:Type} {enc:α → List Value} {sz:Nat} {w:World} {A:Option Addr} {l:List α} (h:Sl enc sz w A l) (k:Nat) : Sl enc sz w (A.map (·.add (k * sz))) (l.drop k) := fun i x hi => by
 rw [List.getElem?_drop] at hi
 obtain ⟨a,rfl,hc⟩ := h (k + i) x hi
 refine ⟨a.add (k * sz),rfl,?_⟩
 rw [Xf,← Nat.add_mul]
 exact hc
theorem Qoj {α:Type} {enc:α → List Value} {sz:Nat} {w:World} {A:Option Addr} {l:List α} (h:Sl enc sz w A l) (k c:Nat) (hc:l.length ≤ c) : Sl enc sz w (if c = k then A else A.map (·.add (k * sz))) (l.drop k) := by
 split
 · rw [List.drop_eq_nil_of_le (by omega)]; exact Sl.nil
 · exact Q8x h k
theorem Q3z {α:Type} {enc:α → List Value} {sz:Nat} {w w1:World} {A:Option Addr} {l:List α} (h:Sl enc sz w A l) (hk:∀ a,A = some a → w1.heap[a.block]? = w.heap[a.block]?) : Sl enc sz w1 A l := fun i x hi => by
 obtain ⟨a,ha,hc⟩ := h i x hi
 refine ⟨a,ha,fun j v hj => ?_⟩
 have := hc j v hj
 rw [World.cell?_of_block (w := w) (by rw [add_block,add_block]; exact hk a ha)]
 exact this
theorem Own.base {α:Type} {enc:α → List Value} {sz te:Nat} {base base':Nat} {w:World} {A:Option Addr} {c:Nat} {l:List α} (h:Own enc sz te base w A c l) (hb:base' ≤ base) : Own enc sz te base' w A c l := by
 refine ⟨h.1,?_⟩
 rcases h.2 with h0 | ⟨g,cap,cur,hv,hg,h1⟩
 · exact .inl h0
 · exact .inr ⟨g,cap,cur,hv,by omega,h1⟩
structure Q0y {α:Type} (P:Program) (t te:TypeId) (enc:α → List Value) (sz bytes:Nat) : Prop where
 und : P.underlying t = some (.slice te)
 ty : ∃ ety,Xp P te = some ety ∧ ety.size = sz ∧ (Qm ety.zero).length = sz
 by_ : (P.info? te).map (·.bytes) = some bytes
 small : bytes ≤ 1000
 pos : 0 < sz
 sz : ∀ x,(enc x).length = sz
 one : ∀ x,∀ u ∈ enc x,u.oneCell' = true
section
variable {α:Type} {P:Program} {t te:TypeId} {enc:α → List Value} {sz bytes:Nat}
theorem Qcl (R0:Q0y P t te enc sz bytes) {w:World} {A:Option Addr} {c base:Nat} {l:List α} {R:Value → World → Prop} {ty:TypeId} {n m:Nat} (hn:n = l.length) (hown:Own enc sz te base w A c l) {B:Option Addr} {cB:Nat} {news:List α} (hm:m = news.length) (hs:Sl enc sz w B news) (hl:l.length + news.length < 100000000000) (hbase:base ≤ w.heap.size)
 (h:∀ A' c' w',Own enc sz te base w' A' c' (l ++ news) → w.grownBy w' (A.map (·.block)) → (A' = A ∨ A'.map (·.block) = A.map (·.block) ∨ A'.map (·.block) = some w.heap.size) → R (.slice A' (l ++ news).length c') w') :
 Qkj P (Builtin.append_ #[t,t] ty [.slice A n c,.slice B m cB].toArray) w R := by
 obtain ⟨ety,h1,h2,h3⟩ := R0.ty
 subst hn hm
 have hb : (l.length + news.length) * bytes ≤ 100000000000 * 1000 := Nat.mul_le_mul (by omega) R0.small
 exact Qbl h1 R0.und R0.by_ h2 h3 R0.pos R0.sz R0.one hown hs (by omega) (by omega) hbase h
theorem Q0y.made (R0:Q0y P t te enc sz bytes) {w w1:World} {b base:Nat} (h:New w w1 b (.cells ([] : List Value).toArray te)) (hb:base ≤ w.heap.size) : Own enc sz te base w1 (some ⟨b,0,none⟩) 0 [] := Own.made h hb
theorem Q0y.new1 (R0:Q0y P t te enc sz bytes) {w w1:World} {b:Nat} {x:α} (h:New w w1 b (.cells (enc x).toArray te)) : Sl enc sz w1 (some ⟨b,0,none⟩) [x] := by
 have h' : New w w1 b (.cells ([x].flatMap enc).toArray te) := by simpa using h
 exact Qcf R0.sz h'
theorem Q0y.stay (R0:Q0y P t te enc sz bytes) {w w1:World} {A:Option Addr} {l:List α} (h:Sl enc sz w A l) (hk:∀ a,A = some a → a.block < w.heap.size → w1.heap[a.block]? = w.heap[a.block]?) : Sl enc sz w1 A l := fun i x hi => by
 obtain ⟨a,ha,hc⟩ := h i x hi
 have h0 : ∃ v,(enc x)[0]? = some v := by
  have := R0.sz x
  have hp := R0.pos
  exact ⟨_,List.getElem?_eq_getElem (by omega)⟩
 obtain ⟨v,hv⟩ := h0
 have hlt := cell_lt (hc 0 v hv)
 rw [add_block,add_block] at hlt
 refine ⟨a,ha,fun j v hj => ?_⟩
 rw [World.cell?_of_block (w := w) (by rw [add_block,add_block]; exact hk a ha hlt)]
 exact hc j v hj
theorem Qg3 {w:World} {A:Option Addr} {c base:Nat} {l:List α} (h:Own enc sz te base w A c l) : ∀ k,A.map (·.block) = some k → base ≤ k := by
 intro k hk
 cases A with
 | none => simp at hk
 | some a => have := h.block (a := a) rfl; simp at hk; omega
end
theorem Qxs : Q0y Tryz.prog 56 9 Qbr 1 16 := ⟨Q89,⟨_,ty9_ok,rfl,rfl⟩,by9,by decide,by decide,X0,Qqt⟩
end Go.Proofs.YteabekcdcphjpaaGreatDoor
