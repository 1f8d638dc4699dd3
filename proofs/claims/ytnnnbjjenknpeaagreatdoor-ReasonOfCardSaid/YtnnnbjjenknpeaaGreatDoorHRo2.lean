import Derived.Test.YtnnnbjjenknpeaaGreatDoorHRo1
import Derived.Test.YtnnnbjjenknpeaaGreatDoorHRa1
import Derived.Test.YtnnnbjjenknpeaaGreatDoorHRs7
import Derived.Test.YtnnnbjjenknpeaaGreatDoorHRf5
/- The reference's helpers: in,Has,Count,Likeness,Fans. -/
set_option linter.unusedVariables false
set_option linter.unusedSimpArgs false
namespace Go.Proofs.YtnnnbjjenknpeaaGreatDoor
open Go.Se Go.RowKit
theorem Qy9 {w:World} {a:Addr} {d:Ev × SV} (h:Q7 w a (Qcz d)) : Q7 w a (evC d.1) := fun j v hj => h j v (by
 have : Qcz d = evC d.1 ++ [.slice d.2.1 d.2.2.1 d.2.2.2] := rfl
 rw [this,List.getElem?_append_left (by have := (List.getElem?_eq_some_iff.1 hj).1; omega)]
 exact hj)
theorem Qxh (l:List ByteArray) (s:ByteArray) (A:Option Addr) (c:Nat) (w:World) (hs:Sl Qck 1 w A l) (hl:l.length < 1000000000) :
 Cal Tryz.prog 45 [.slice A l.length c,.string s] w fun r w' => r = .bool (inT l s) ∧ w' = w := by
 refine Fi Tryz.func45 rfl _ rfl rfl ?_;conv=>whnf
 refine Qg Qa (fun (k:Nat) w' => k ≤ l.length ∧ w' = w ∧ s ∉ l.take k)
  (fun k => [(0,.slice A l.length c),(1,.string s),(5,.int .i64 k)]) (fun k => l.length - k) 0 ⟨by omega,rfl,by simp⟩ ⟨rfl,rfl,rfl,trivial⟩ ?_
 rintro k w1 ⟨hk,rfl,hall⟩
 conv=>whnf
 constructor
 · intro hlt
   have hlt : k < l.length := by simpa using hlt
   obtain ⟨a,rfl,hc⟩ := hs.get hlt
   have htk := Xp l k hlt
   have hin := List.getElem_mem hlt
   generalize l[k] = x at hc htk hin
   conv=>whnf
   refine ⟨a,⟨rfl,by omega,by omega⟩,?_⟩;conv=>whnf
   refine ⟨.string x,Qz hc,?_⟩;conv=>whnf
   constructor
   · intro h
     have h : x = s := by simpa using h
     subst h
     conv=>whnf
     exact ⟨by rw [Qeb.2 hin],rfl⟩
   · intro h
     have h : ¬ x = s := by simpa using h
     conv=>whnf
     refine ⟨_,wrap_succ (by omega),?_⟩;conv=>whnf
     exact ⟨k + 1,by omega,⟨by omega,rfl,by rw [htk]; simp [hall,Ne.symm h]⟩,⟨rfl,rfl,rfl,trivial⟩⟩
 · intro hge
   have hge : l.length ≤ k := by simpa using hge
   rw [List.take_of_length_le hge] at hall
   conv=>whnf
   exact ⟨by rw [Qk3.2 hall],rfl⟩
theorem Qlm (d:SnH) (l:List ByteArray) (s:ByteArray) (w:World) (hn:d.2.2.2.2.1 = l.length) (hs:SlT w d.2.2.2.1 l) (hl:l.length < 1000000000) :
 Cal Tryz.prog 135 [.agg (seC d).toArray,.string s] w fun r w' => r = .bool (inT l s) ∧ Ext w w' := by
 obtain ⟨d1,d2,d3,dA,dn,dc⟩ := d
 simp only at hn hs
 subst hn
 refine Fi Tryz.func135 rfl _ rfl rfl ?_;conv=>whnf
 intro b1 w1 hn1;conv=>whnf
 have h1 : At w1 b1 161 (seC (d1,d2,d3,dA,l.length,dc)) := hn1.At
 have hs1 := hs.ext hn1.ext
 refine Qg Qa (fun (k:Nat) w' => k ≤ l.length ∧ w' = w1 ∧ s ∉ l.take k)
  (fun k => [(1,.string s),(2,.pointer (some ⟨b1,0,none⟩)),(5,.int .i64 k)]) (fun k => l.length - k) 0 ⟨by omega,rfl,by simp⟩ ⟨rfl,rfl,rfl,trivial⟩ ?_
 rintro k w2 ⟨hk,rfl,hall⟩
 conv=>whnf
 refine ⟨.slice dA l.length dc,h1.one rfl,?_⟩;conv=>whnf
 constructor
 · intro hlt
   have hlt : k < l.length := by simpa using hlt
   obtain ⟨a,rfl,hc⟩ := hs1.get hlt
   have htk := Xp l k hlt
   have hin := List.getElem_mem hlt
   generalize l[k] = x at hc htk hin
   conv=>whnf
   refine ⟨.slice (some a) l.length dc,h1.one rfl,?_⟩;conv=>whnf
   refine ⟨a,⟨rfl,by omega,by omega⟩,?_⟩;conv=>whnf
   refine ⟨.string x,Qz hc,?_⟩;conv=>whnf
   constructor
   · intro h
     have h : x = s := by simpa using h
     subst h
     conv=>whnf
     exact ⟨by rw [Qeb.2 hin],hn1.ext⟩
   · intro h
     have h : ¬ x = s := by simpa using h
     conv=>whnf
     refine ⟨_,wrap_succ (by omega),?_⟩;conv=>whnf
     exact ⟨k + 1,by omega,⟨by omega,rfl,by rw [htk]; simp [hall,Ne.symm h]⟩,⟨rfl,rfl,rfl,trivial⟩⟩
 · intro hge
   have hge : l.length ≤ k := by simpa using hge
   rw [List.take_of_length_le hge] at hall
   conv=>whnf
   exact ⟨by rw [Qk3.2 hall],hn1.ext⟩
set_option maxHeartbeats 1000000 in
theorem Qe9 (T:List SnH) (Q:List Sn) (A:Option Addr) (c:Nat) (a b:ByteArray) (w:World) (n0:Nat) (hs:Sl seC 4 w A T) (hq:Qai w n0 (rowB A) T Q) (hl:T.length < 1000000) (hil:∀ q ∈ Q,q.items.length < 1000000) :
 Cal Tryz.prog 91 [.slice A T.length c,.string a,.string b] w fun r w' => r = .int .i64 (Qet Q a b:Nat) ∧ Ext w w' := by
 have hlen := hq.len
 refine Fi Tryz.func91 rfl _ rfl rfl ?_;conv=>whnf
 refine Qg Qa (fun (q:Nat × Nat) w' => q.1 ≤ T.length ∧ q.2 = Qet (Q.take q.1) a b ∧ Ext w w')
  (fun | (i,n) => [(0,.slice A T.length c),(1,.string a),(2,.string b),(7,.int .i64 (n:Nat)),(8,.int .i64 (i:Nat))]) (fun q => T.length - q.1) (0,0) ⟨Nat.zero_le _,rfl,Ext.refl _⟩ ⟨rfl,rfl,rfl,rfl,rfl,trivial⟩ ?_
 rintro ⟨i,n⟩ w1 ⟨hi,hn,hx1⟩
 simp only at hi hn
 have hnb := Qg7 (Q.take i) a b
 rw [← hn,List.length_take] at hnb
 conv=>whnf
 constructor
 · intro hlt
   have hlt : i < T.length := by simpa using hlt
   obtain ⟨a2,hA,hc⟩ := hs.get hlt
   subst hA
   have hlq : i < Q.length := by omega
   have hsn := hq.at_ i T[i] Q[i] (List.getElem?_eq_getElem hlt) (List.getElem?_eq_getElem hlq)
   have htk : Qet (Q.take (i + 1)) a b = n + if hasB a Q[i] && hasB b Q[i] then 1 else 0 := by
    rw [hn,List.take_succ_eq_append_getElem hlq]
    unfold Qet
    rw [List.filter_append,List.length_append]
    congr 1
    cases hh : hasB a Q[i] && hasB b Q[i] <;> simp [hh]
   have hql := hil Q[i] (List.getElem_mem hlq)
   generalize Q[i] = q at hsn htk hql
   generalize T[i] = d at hc hsn
   obtain ⟨_,_,_,h4,h5,_,_⟩ := hsn
   have hin : ∀ x,inT q.items x = hasB x q := fun x => by
    rw [Bool.eq_iff_iff,Qeb]
    unfold hasB
    simp
   replace hc := hx1.cells hc
   (conv=>whnf);repeat(refine Sg ?_;(conv=>whnf))
   refine ⟨a2,⟨rfl,by omega,by omega⟩,?_⟩; (conv=>whnf);repeat(refine Sg ?_;(conv=>whnf))
   refine ⟨seC d,⟨rfl,hc⟩,?_⟩; (conv=>whnf);repeat(refine Sg ?_;(conv=>whnf))
   refine (Qlm d q.items a w1 h4 (h5.ext hx1) (by omega)).mono ?_
   rintro _ w2 ⟨rfl,hx2⟩
   replace hc := hx2.cells hc
   replace hx2 := hx1.trans hx2
   (conv=>whnf);repeat(refine Sg ?_;(conv=>whnf))
   refine ⟨a2,fun _ => ⟨rfl,by omega,by omega⟩,?_⟩; (conv=>whnf);repeat(refine Sg ?_;(conv=>whnf))
   refine ⟨seC d,fun _ => ⟨rfl,hc⟩,?_⟩; (conv=>whnf);repeat(refine Sg ?_;(conv=>whnf))
   refine ⟨Unit,fun _ => (.bool (inT q.items b)),fun _ w' => Ext w2 w',(),fun hg => ((Qlm d q.items b w2 h4 (h5.ext hx2) (by omega))).mono fun r w' h => ⟨(),h.1,h.2⟩,?_⟩
   intro _ w3 h2
   have hx3 : Ext w2 w3 := by
    rcases h2 with ⟨_,h⟩ | ⟨_,h⟩
    · exact h
    · rw [h]; exact Ext.refl _
   clear h2
   conv=>whnf
   have hx13 := hx2.trans hx3
   (conv=>whnf);repeat(refine Sg ?_;(conv=>whnf))
   constructor
   · intro hq
     have hq : (hasB a q && hasB b q) = true := by
      rw [← hin,← hin]
      simpa using hq
     rw [hq,if_pos rfl] at htk
     (conv=>whnf);repeat(refine Sg ?_;(conv=>whnf))
     refine ⟨_,wrap_succ (by omega),?_⟩; (conv=>whnf);repeat(refine Sg ?_;(conv=>whnf))
     refine ⟨_,wrap_succ (by omega),?_⟩; (conv=>whnf);repeat(refine Sg ?_;(conv=>whnf))
     exact ⟨(i + 1,n + 1),by simp only; omega,⟨by simp only; omega,htk.symm,hx13⟩,⟨rfl,rfl,rfl,rfl,rfl,trivial⟩⟩
   · intro hq
     have hq : (hasB a q && hasB b q) = false := by
      rw [← hin,← hin]
      simpa using hq
     rw [hq] at htk
     simp only [Bool.false_eq_true,if_false,Nat.add_zero] at htk
     (conv=>whnf);repeat(refine Sg ?_;(conv=>whnf))
     refine ⟨_,wrap_succ (by omega),?_⟩; (conv=>whnf);repeat(refine Sg ?_;(conv=>whnf))
     exact ⟨(i + 1,n),by simp only; omega,⟨by simp only; omega,htk.symm,hx13⟩,⟨rfl,rfl,rfl,rfl,rfl,trivial⟩⟩
 · intro hge
   have hge : T.length ≤ i := by simpa using hge
   rw [List.take_of_length_le (by omega)] at hn
   rw [← hn]
   conv=>whnf
   exact ⟨rfl,hx1⟩
theorem Qqs (T:List SnH) (Q:List Sn) (A:Option Addr) (c:Nat) (a b:ByteArray) (w:World) (n0:Nat) (hs:Sl seC 4 w A T) (hq:Qai w n0 (rowB A) T Q) (hl:T.length < 1000000) (hil:∀ q ∈ Q,q.items.length < 1000000) :
 Cal Tryz.prog 46 [.slice A T.length c,.string a,.string b] w fun r w' => r = .tuple #[.int .i64 (Qen Q a b).1,.int .i64 (Qen Q a b).2] ∧ Ext w w' := by
 have hlen := hq.len
 have p1 := Qqg Q a
 have p2 := Qqg Q b
 have q1 := Qg7 Q a a
 have q2 := Qg7 Q b b
 have q3 := Qg7 Q a b
 refine Fi Tryz.func46 rfl _ rfl rfl ?_;conv=>whnf
 refine (Qe9 T Q A c a a w n0 hs hq hl hil).mono ?_
 rintro _ w1 ⟨rfl,hx1⟩;conv=>whnf
 refine (Qe9 T Q A c b b w1 n0 (hs.ext hx1) (hq.ext hx1) hl hil).mono ?_
 rintro _ w2 ⟨rfl,hx2⟩;conv=>whnf
 have hx := hx1.trans hx2
 refine (Qe9 T Q A c a b w2 n0 (hs.ext hx) (hq.ext hx) hl hil).mono ?_
 rintro _ w3 ⟨rfl,hx3⟩
 replace hx := hx.trans hx3
 unfold Qen
 rw [p1] at q1 ⊢
 rw [p2] at q2 ⊢
 generalize Qad Q a = n at q1 ⊢
 generalize Qad Q b = m at q2 ⊢
 generalize Qet Q a b = k at q3 ⊢
 clear p1 p2
 conv=>whnf
 constructor
 · intro h
   have h : n = 0 ∨ m = 0 := by
    have h : (decide ((n:Int) = 0) || decide ((m:Int) = 0)) = true := h
    simp only [Bool.or_eq_true,decide_eq_true_eq] at h
    omega
   rw [if_pos h]
   conv=>whnf
   exact ⟨rfl,hx⟩
 intro h
 have h : ¬ (n = 0 ∨ m = 0) := by
  have h : (decide ((n:Int) = 0) || decide ((m:Int) = 0)) = false := h
  simp only [Bool.or_eq_false_iff,decide_eq_false_iff_not] at h
  omega
 rw [if_neg h]
 conv=>whnf
 constructor
 · intro he
   have he : a = b := by simpa using he
   rw [if_pos he]
   conv=>whnf
   exact ⟨rfl,hx⟩
 intro he
 have he : ¬ a = b := by simpa using he
 rw [if_neg he]
 have m1 : k * k ≤ 1000000 * 1000000 := Nat.mul_le_mul (by omega) (by omega)
 have m2 : n * m ≤ 1000000 * 1000000 := Nat.mul_le_mul (by omega) (by omega)
 conv=>whnf
 refine ⟨(k:Int) * k,wrap_eq rfl ⟨by have : (0:Int) ≤ (k:Int) * k := Int.mul_nonneg (by omega) (by omega); omega,by rw [← Int.natCast_mul]; omega⟩,?_⟩;conv=>whnf
 refine ⟨(n:Int) * m,wrap_eq rfl ⟨by have : (0:Int) ≤ (n:Int) * m := Int.mul_nonneg (by omega) (by omega); omega,by rw [← Int.natCast_mul]; omega⟩,?_⟩;conv=>whnf
 exact ⟨rfl,hx⟩
theorem Qwn (item:ByteArray) : ∀ z : List Ev,(Qn4 z item).Nodup := by
 refine Qy List.nodup_nil fun z e ih => ?_
 rw [Qhp]
 unfold Qio
 split
 · split
   · exact ih
   · next h =>
     rw [List.nodup_append]
     refine ⟨ih,by simp,fun x hx y hy => ?_⟩
     rw [List.mem_singleton] at hy
     subst hy
     rintro rfl
     exact h hx
 · exact ih
theorem Qzc (z:List Ev) (e:Ev) (item:ByteArray) (h:e.item = item ∧ 0 < Qo e) (x:ByteArray) : x ∈ Qn4 (z ++ [e]) item ↔ x ∈ Qn4 z item ∨ x = e.person := by
 rw [Qhp]
 unfold Qio
 rw [if_pos h]
 split
 · next hp => exact ⟨.inl,fun hx => hx.elim id fun e' => e' ▸ hp⟩
 · rw [List.mem_append,List.mem_singleton]
theorem Qzb (z:List Ev) (e:Ev) (item:ByteArray) (h:¬ (e.item = item ∧ 0 < Qo e)) : Qn4 (z ++ [e]) item = Qn4 z item := by
 rw [Qhp]
 unfold Qio
 rw [if_neg h]
set_option maxHeartbeats 1000000 in
theorem Qqq (D:List (Ev × SV)) (item:ByteArray) (A:Option Addr) (c:Nat) (w:World) (hs:Sl Qcz 9 w A D) (hl:D.length < 100000) :
 Cal Tryz.prog 38 [.slice A D.length c,.string item] w fun r w' => r = .int .i64 ((Qn4 (D.map (·.1)) item).length : Nat) ∧ Ext w w' := by
 refine Fi Tryz.func38 rfl _ rfl rfl ?_;conv=>whnf
 intro b1 w1 hn1;conv=>whnf
 have o1 := Xn.made (base := w.heap.size) hn1 (Nat.le_refl _)
 refine Qg Qa (fun (q:Nat × Option Addr × Nat × List ByteArray) w' => q.1 ≤ D.length ∧ Ext w w' ∧ SlT w' q.2.1 q.2.2.2 ∧ q.2.2.2.Nodup ∧ (∀ x,x ∈ q.2.2.2 ↔ x ∈ Qn4 ((D.take q.1).map (·.1)) item) ∧ q.2.2.2.length ≤ q.1)
  (fun | (k,B,d,T) => [(0,.slice A D.length c),(1,.string item),(5,.slice B T.length d),(6,.int .i64 (k:Nat))]) (fun q => D.length - q.1) (0,some ⟨b1,0,none⟩,0,[]) ⟨Nat.zero_le _,hn1.ext,o1.sl Xw,List.nodup_nil,by simp [Qn4],Nat.le_refl _⟩ ⟨rfl,rfl,rfl,rfl,trivial⟩ ?_
 rintro ⟨k,B,d,T⟩ w2 ⟨hk,hx2,hsT,hnd,hmem,hTl⟩
 simp only at hk hsT hnd hmem hTl
 conv=>whnf
 constructor
 · intro hlt
   have hlt : k < D.length := by simpa using hlt
   obtain ⟨a,hA,hc⟩ := (hs.ext hx2).get hlt
   subst hA
   have htk : (D.take (k + 1)).map (·.1) = (D.take k).map (·.1) ++ [D[k].1] := by rw [List.take_succ_eq_append_getElem hlt,List.map_append]; rfl
   have hst := Qzc ((D.take k).map (·.1)) D[k].1 item
   have hsk := Qzb ((D.take k).map (·.1)) D[k].1 item
   rw [← htk] at hst hsk
   generalize D[k] = x at hc hst hsk
   obtain ⟨e,sv⟩ := x
   simp only at hst hsk
   have hce : Q7 w2 ((a.add (k * 9)).add 0) (evC e) := Qy9 hc
   (conv=>whnf);repeat(refine Sg ?_;(conv=>whnf))
   refine ⟨a,⟨rfl,by omega,by omega⟩,?_⟩; (conv=>whnf);repeat(refine Sg ?_;(conv=>whnf))
   refine ⟨.string e.item,cells_at hc (k := 5) rfl,?_⟩; (conv=>whnf);repeat(refine Sg ?_;(conv=>whnf))
   refine ⟨a,fun _ => ⟨rfl,by omega,by omega⟩,?_⟩; (conv=>whnf);repeat(refine Sg ?_;(conv=>whnf))
   refine ⟨evC e,fun _ => ⟨rfl,hce⟩,?_⟩; (conv=>whnf);repeat(refine Sg ?_;(conv=>whnf))
   refine ⟨Unit,fun _ => (.int .i64 (Qo e)),fun _ w' => Ext w2 w',(),fun hg => ((Qou e w2)).mono fun r w' h => ⟨(),h.1,h.2⟩,?_⟩
   intro _ w3 h2
   have hx3 : Ext w2 w3 := by
    rcases h2 with ⟨_,h⟩ | ⟨_,h⟩
    · exact h
    · rw [h]; exact Ext.refl _
   clear h2
   conv=>whnf
   replace hx2 := hx2.trans hx3
   replace hsT := hsT.ext hx3
   replace hc := hx3.cells hc
   clear hx3 hce
   (conv=>whnf);repeat(refine Sg ?_;(conv=>whnf))
   constructor
   · intro hq
     have hq : e.item = item ∧ 0 < Qo e := by
      have hq : (decide (e.item = item) && decide (0 < Qo e)) = true := hq
      simpa using hq
     (conv=>whnf);repeat(refine Sg ?_;(conv=>whnf))
     refine ⟨a,⟨rfl,by omega,by omega⟩,?_⟩; (conv=>whnf);repeat(refine Sg ?_;(conv=>whnf))
     refine ⟨.string e.person,cells_at hc (k := 4) rfl,?_⟩; (conv=>whnf);repeat(refine Sg ?_;(conv=>whnf))
     refine (Qtd T e.person B d w3 hsT (by omega) hnd).mono ?_
     rintro _ w4 ⟨B',d',T',rfl,hsT',hnd',hm',hl',hx4⟩
     (conv=>whnf);repeat(refine Sg ?_;(conv=>whnf))
     refine ⟨_,wrap_succ (by omega),?_⟩; (conv=>whnf);repeat(refine Sg ?_;(conv=>whnf))
     refine ⟨(k + 1,B',d',T'),by simp only; omega,⟨by simp only; omega,hx2.trans hx4,hsT',hnd',fun y => ?_,by simp only; omega⟩,⟨rfl,rfl,rfl,rfl,trivial⟩⟩
     simp only
     rw [hst hq,hm',hmem]
   · intro hq
     have hq : ¬ (e.item = item ∧ 0 < Qo e) := by
      have hq : (decide (e.item = item) && decide (0 < Qo e)) = false := hq
      simpa using hq
     (conv=>whnf);repeat(refine Sg ?_;(conv=>whnf))
     refine ⟨_,wrap_succ (by omega),?_⟩; (conv=>whnf);repeat(refine Sg ?_;(conv=>whnf))
     refine ⟨(k + 1,B,d,T),by simp only; omega,⟨by simp only; omega,hx2,hsT,hnd,fun y => ?_,by simp only; omega⟩,⟨rfl,rfl,rfl,rfl,trivial⟩⟩
     simp only
     rw [hsk hq,hmem]
 · intro hge
   have hge : D.length ≤ k := by simpa using hge
   rw [List.take_of_length_le hge] at hmem
   have hp := Qd5 hnd (Qwn item (D.map (·.1))) (fun x hx => (hmem x).1 hx) fun x hx => (hmem x).2 hx
   rw [← hp.length_eq]
   conv=>whnf
   exact ⟨rfl,hx2⟩
theorem Qqr (c:Cfg) (l:List Ev) (A:Option Addr) (cap:Nat) (item:ByteArray) (w:World) (hs:SlE w A l) (hcap:l.length ≤ cap) (hl:l.length < 1000) (hm:∀ e ∈ l,Xu e = true) :
 Cal Tryz.prog 16 [Q2k c,.slice A l.length cap,.string item] w fun r w' => r = .int .i64 (Qse c l item) ∧ Ext w w' := by
 have hF : Qwo (Qp c.width l).rs item = ((Qn4 (Xt l) item).length : Int) := Qsf c.width l item
 unfold Qse
 rw [hF]
 refine Fi Tryz.func16 rfl _ rfl rfl ?_;conv=>whnf
 intro b1 w1 hn1;conv=>whnf
 have h1 : At w1 b1 23 (Qmt c) := hn1.At
 refine (Qm9 l A cap w1 (hs.ext hn1.ext) hcap hl hm).mono ?_
 rintro _ w2 ⟨A2,c2,D,rfl,hs2,hT2,hl2,hx2⟩;conv=>whnf
 refine (Qqq D item A2 c2 w2 hs2 (by omega)).mono ?_
 rintro _ w3 ⟨rfl,hx3⟩
 rw [hT2.evs]
 have : evs (Qfa l) = Xt l := Q05 l
 rw [this]
 generalize (Qn4 (Xt l) item).length = n
 have h3 := (h1.ext hx2).ext hx3
 have hx := (hn1.ext.trans hx2).trans hx3
 clear hs2 hT2 hn1
 conv=>whnf
 refine ⟨.int .i64 c.crowd,h3.one rfl,?_⟩;conv=>whnf
 constructor
 · intro h
   have h : (n:Int) < c.crowd := by simpa using h
   rw [if_neg (by omega)]
   conv=>whnf
   exact ⟨rfl,hx⟩
 · intro h
   have h : ¬ (n:Int) < c.crowd := by simpa using h
   rw [if_pos (by omega)]
   conv=>whnf
   exact ⟨rfl,hx⟩
end Go.Proofs.YtnnnbjjenknpeaaGreatDoor
