import Derived.Test.YtoancknoinilaaaGreatDoorHRf1
import Derived.Test.YtoancknoinilaaaGreatDoorHPl8
import Derived.Test.YtoancknoinilaaaGreatDoorGL
/- The reference's panes: New,Pane,Add,Sum; what rises; who is followed. -/
set_option linter.unusedVariables false
set_option linter.unusedSimpArgs false
namespace Go.Proofs.YtoancknoinilaaaGreatDoor
open Go.Se Go.RowKit
theorem Q32 : Qpw Tryz.prog 228 232 Qpx 3 32 := ⟨by kernel_rfl,⟨_,ty232_ok,rfl,rfl⟩,by232,by decide,by decide,Qj7,Qva⟩
def P9 (w:World) (p:Nat) (width:Int) (L:List S9) : Prop := ∃ A c,At w p 230 [.int .i64 width,.slice A L.length c,.int .i64 L.length] ∧ Sl Qpx 3 w A L ∧ ∀ a,A = some a → a.block ≠ p
theorem P9.ext {w w1:World} {p:Nat} {width:Int} {L:List S9} (h:P9 w p width L) (hx:Ext w w1) : P9 w1 p width L := by
 obtain ⟨A,c,h1,h2,h3⟩ := h
 exact ⟨A,c,h1.ext hx,h2.ext hx,h3⟩
theorem Qx8 (width:Int) (w:World) : Cal Tryz.prog 172 [.int .i64 width] w fun r w' => ∃ p,r = .pointer (some ⟨p,0,none⟩) ∧ w.heap.size ≤ p ∧ P9 w' p (Q8 width) [] ∧ Ext w w' := by
 refine Fi Tryz.func172 rfl _ rfl rfl ?_;conv=>whnf
 intro p w1 hn1;conv=>whnf
 exact ⟨p,rfl,by rw [hn1.block]; exact Nat.le_refl _,⟨none,0,hn1.At,Sl.nil,by simp⟩,hn1.ext⟩
theorem Qvr (w:World) (p:Nat) (width:Int) (v1 v2:Value) (hp:At w p 230 [.int .i64 width,v1,v2]) (hw:1 ≤ width ∧ width ≤ 1099511627776) (t:Int) (ht:-4398046511104 ≤ t ∧ t ≤ 4398046511104) :
 Cal Tryz.prog 174 [.pointer (some ⟨p,0,none⟩),.int .i64 t] w fun r w' => r = .int .i64 (t / width) ∧ w' = w := by
 have hd : t.tdiv width = t / width + if 0 ≤ t ∨ width ∣ t then 0 else width.sign := Int.tdiv_eq_ediv
 have hm := Int.tmod_eq_emod (a := t) (b := width)
 have hs : width.sign = 1 := Int.sign_eq_one_of_pos (by omega)
 have h5 : 0 ≤ t % width := Int.emod_nonneg _ (by omega)
 have h6 : t % width < width := Int.emod_lt_of_pos _ (by omega)
 have hna : (width.natAbs : Int) = width := by omega
 have hdv : width ∣ t ↔ t % width = 0 := Int.dvd_iff_emod_eq_zero
 have hr := Qfj hw.1 ht
 rw [hs] at hd
 refine Fi Tryz.func174 rfl _ rfl rfl ?_;conv=>whnf
 refine ⟨_,hp.one0,?_⟩;conv=>whnf
 by_cases hc : 0 ≤ t ∨ width ∣ t
 · rw [if_pos hc] at hd hm
   refine ⟨t / width,⟨by omega,wrap_eq (by omega) ⟨by omega,by omega⟩⟩,?_⟩; (conv=>whnf);repeat(refine Sg ?_;(conv=>whnf))
   refine ⟨_,fun _ => hp.one0,?_⟩; (conv=>whnf);repeat(refine Sg ?_;(conv=>whnf))
   refine ⟨t.tmod width,fun _ => ⟨by omega,rfl⟩,?_⟩; (conv=>whnf);repeat(refine Sg ?_;(conv=>whnf))
   constructor
   · intro q
     have q : t < 0 ∧ ¬ t.tmod width = 0 := by simpa using q
     omega
   · intro _
     conv=>whnf
     exact ⟨rfl,rfl⟩
 · rw [if_neg hc] at hd hm
   have hneg : t < 0 := by omega
   have hd0 := Int.ediv_neg_of_neg_of_pos hneg (show 0 < width by omega)
   refine ⟨t / width + 1,⟨by omega,wrap_eq (by omega) ⟨by omega,by omega⟩⟩,?_⟩; (conv=>whnf);repeat(refine Sg ?_;(conv=>whnf))
   refine ⟨_,fun _ => hp.one0,?_⟩; (conv=>whnf);repeat(refine Sg ?_;(conv=>whnf))
   refine ⟨t.tmod width,fun _ => ⟨by omega,rfl⟩,?_⟩; (conv=>whnf);repeat(refine Sg ?_;(conv=>whnf))
   constructor
   · intro _
     conv=>whnf
     refine ⟨t / width,wrap_eq (by omega) ⟨by omega,by omega⟩,?_⟩;conv=>whnf
     exact ⟨rfl,rfl⟩
   · intro q
     have q : ¬ (t < 0 ∧ ¬ t.tmod width = 0) := by simpa using q
     omega
theorem Qm7 (w:World) (p:Nat) (width:Int) (L:List S9) (h:P9 w p width L) (hw:1 ≤ width ∧ width ≤ 1099511627776) (t:Int) (ht:-4398046511104 ≤ t ∧ t ≤ 4398046511104) :
 Cal Tryz.prog 174 [.pointer (some ⟨p,0,none⟩),.int .i64 t] w fun r w' => r = .int .i64 (t / width) ∧ Ext w w' := by
 obtain ⟨A,c,hp,_,_⟩ := h
 refine (Qvr w p width _ _ hp hw t ht).mono ?_
 rintro r w' ⟨h1,h2⟩
 exact ⟨h1,by rw [h2]; exact Ext.refl _⟩
set_option maxHeartbeats 1000000 in
theorem Qnl (w:World) (p:Nat) (width:Int) (L:List S9) (h:P9 w p width L) (hw:1 ≤ width ∧ width ≤ 1099511627776) (hok:∀ x ∈ L,0 ≤ x.2.2 ∧ x.2.2 ≤ 1048576) (hl:L.length < 1000000) (key:ByteArray) (a b:Int) (ha:-4398046511104 ≤ a ∧ a ≤ 4398046511104) (hb:-4398046511104 ≤ b ∧ b ≤ 4398046511104) :
 Cal Tryz.prog 106 [.pointer (some ⟨p,0,none⟩),.string key,.int .i64 a,.int .i64 b] w fun r w' => r = .int .i64 (pa9 L key (a / width) (b / width)) ∧ Ext w w' := by
 have hP := h
 obtain ⟨A,c,hp,hsl,hA⟩ := h
 refine Fi Tryz.func106 rfl _ rfl rfl ?_;conv=>whnf
 refine Qg Qa (fun (q:Nat × Int) w' => q.1 ≤ L.length ∧ q.2 = pa9 (L.take q.1) key (a / width) (b / width) ∧ Ext w w')
  (fun | (i,n) => [(0,.pointer (some ⟨p,0,none⟩)),(1,.string key),(2,.int .i64 a),(3,.int .i64 b),(9,.int .i64 n),(10,.int .i64 (i:Nat))]) (fun q => L.length - q.1) (0,0) ⟨Nat.zero_le _,rfl,Ext.refl _⟩ ⟨rfl,rfl,rfl,rfl,rfl,rfl,trivial⟩ ?_
 rintro ⟨i,n⟩ w1 ⟨hi,hnn,hx1⟩
 simp only at hi hnn
 have hp1 := hp.ext hx1
 conv=>whnf
 refine ⟨.slice A L.length c,hp1.one rfl,?_⟩;conv=>whnf
 constructor
 · intro hlt
   have hlt : i < L.length := by simpa using hlt
   obtain ⟨a0,hAa,hc⟩ := (hsl.ext hx1).get hlt
   subst hAa
   have htk : pa9 (L.take (i + 1)) key (a / width) (b / width) = n + if q9 key (a / width) (b / width) L[i] = true then L[i].2.2 else 0 := by rw [hnn,List.take_succ_eq_append_getElem hlt,Q2y]
   have hb1 := Q03 (L := L.take (i + 1)) (fun x hx => hok x (List.mem_of_mem_take hx)) key (a / width) (b / width)
   rw [List.length_take] at hb1
   generalize L[i] = x at hc htk
   (conv=>whnf);repeat(refine Sg ?_;(conv=>whnf))
   refine Dr .ext [0,1,2,3,4,5,6,7,8,9,10,11,12,13,14,15,16,17,18,19,20,21,22,23,24,25,26,27,28,29,30,31,32,33,34,35,36,37] [] ?_;conv=>whnf
   have hxd := (Ext.refl w1).drew
   replace hx1 := hx1.drew
   replace hp1 := hp1.ext hxd
   replace hc : Xa w1.drew (a0.add (i * 3)) (Qpx x) := hc
   generalize w1.drew = w2 at hx1 hp1 hc ⊢
   refine ⟨.slice (some a0) L.length c,hp1.one rfl,?_⟩;conv=>whnf
   refine ⟨a0,⟨rfl,by omega,by omega⟩,?_⟩;conv=>whnf
   refine ⟨.string x.1,cells_at hc (k := 0) rfl,?_⟩;conv=>whnf
   refine ⟨.slice (some a0) L.length c,fun _ => hp1.one rfl,?_⟩;conv=>whnf
   refine ⟨a0,fun _ => ⟨rfl,by omega,by omega⟩,?_⟩;conv=>whnf
   refine ⟨.int .i64 x.2.1,fun _ => cells_at hc (k := 1) rfl,?_⟩;conv=>whnf
   refine ⟨Unit,fun _ => (.int .i64 (a / width)),fun _ w' => Ext w2 w',(),fun hg => ((Qm7 w2 p width L (hP.ext hx1) hw a ha)).mono fun r w' h => ⟨(),h.1,h.2⟩,?_⟩
   intro _ w3 h2
   have hx3 : Ext w2 w3 := by
    rcases h2 with ⟨_,h⟩ | ⟨_,h⟩
    · exact h
    · rw [h]; exact Ext.refl _
   clear h2
   refine ⟨hx3,?_⟩
   conv=>whnf
   replace hx1 := hx1.trans hx3
   replace hp1 := hp1.ext hx3
   replace hc := hx3.cells hc
   refine ⟨.slice (some a0) L.length c,fun _ => hp1.one rfl,?_⟩;conv=>whnf
   refine ⟨a0,fun _ => ⟨rfl,by omega,by omega⟩,?_⟩;conv=>whnf
   refine ⟨.int .i64 x.2.1,fun _ => cells_at hc (k := 1) rfl,?_⟩;conv=>whnf
   refine ⟨Unit,fun _ => (.int .i64 (b / width)),fun _ w' => Ext w3 w',(),fun hg => ((Qm7 w3 p width L (hP.ext hx1) hw b hb)).mono fun r w' h => ⟨(),h.1,h.2⟩,?_⟩
   intro _ w4 h2
   have hx4 : Ext w3 w4 := by
    rcases h2 with ⟨_,h⟩ | ⟨_,h⟩
    · exact h
    · rw [h]; exact Ext.refl _
   clear h2
   refine ⟨hx4,?_⟩
   conv=>whnf
   replace hx1 := hx1.trans hx4
   replace hp1 := hp1.ext hx4
   replace hc := hx4.cells hc
   (conv=>whnf);repeat(refine Sg ?_;(conv=>whnf))
   have hqq : (((decide (x.1 = key)) && (decide (a / width ≤ x.2.1))) && (decide (x.2.1 < b / width))) = q9 key (a / width) (b / width) x := Bool.and_assoc _ _ _
   constructor
   · intro hq
     have hq : q9 key (a / width) (b / width) x = true := by rw [← hqq]; exact hq
     rw [if_pos hq] at htk
     rw [htk] at hb1
     (conv=>whnf);repeat(refine Sg ?_;(conv=>whnf))
     refine ⟨.slice (some a0) L.length c,hp1.one rfl,?_⟩; (conv=>whnf);repeat(refine Sg ?_;(conv=>whnf))
     refine ⟨a0,⟨rfl,by omega,by omega⟩,?_⟩; (conv=>whnf);repeat(refine Sg ?_;(conv=>whnf))
     refine ⟨.int .i64 x.2.2,cells_at hc (k := 2) rfl,?_⟩; (conv=>whnf);repeat(refine Sg ?_;(conv=>whnf))
     refine ⟨n + x.2.2,wrap_eq rfl ⟨by omega,by omega⟩,?_⟩; (conv=>whnf);repeat(refine Sg ?_;(conv=>whnf))
     refine ⟨_,wrap_succ (by omega),?_⟩; (conv=>whnf);repeat(refine Sg ?_;(conv=>whnf))
     exact ⟨(i + 1,n + x.2.2),by simp only; omega,⟨by simp only; omega,htk.symm,hx1⟩,⟨rfl,rfl,rfl,rfl,rfl,rfl,trivial⟩⟩
   · intro hq
     have hq : ¬ q9 key (a / width) (b / width) x = true := by rw [← hqq,Bool.not_eq_true]; exact hq
     rw [if_neg hq,Int.add_zero] at htk
     (conv=>whnf);repeat(refine Sg ?_;(conv=>whnf))
     refine ⟨_,wrap_succ (by omega),?_⟩; (conv=>whnf);repeat(refine Sg ?_;(conv=>whnf))
     exact ⟨(i + 1,n),by simp only; omega,⟨by simp only; omega,htk.symm,hx1⟩,⟨rfl,rfl,rfl,rfl,rfl,rfl,trivial⟩⟩
 · intro hge
   have hge : L.length ≤ i := by simpa using hge
   rw [List.take_of_length_le hge] at hnn
   rw [← hnn]
   conv=>whnf
   exact ⟨rfl,hx1⟩
set_option maxHeartbeats 1000000 in
theorem Qwv (w:World) (p:Nat) (width:Int) (L:List S9) (h:P9 w p width L) (hw:1 ≤ width ∧ width ≤ 1099511627776) (hl:L.length < 100000) (key:ByteArray) (hk:1 ≤ key.size ∧ key.size ≤ 24) (t:Int) (ht:0 ≤ t ∧ t ≤ 1099511627776) (n:Int) (hn:0 ≤ n ∧ n ≤ 1048576) :
 Cal Tryz.prog 173 [.pointer (some ⟨p,0,none⟩),.string key,.int .i64 t,.int .i64 n] w fun r w' => r = .bool true ∧ P9 w' p width (L ++ [(key,t / width,n)]) ∧ Mod (fun k => k = p) w w' := by
 obtain ⟨A,c,hp,hsl,hA⟩ := h
 have hpl := hp.lt
 refine Fi Tryz.func173 rfl _ rfl rfl ?_;conv=>whnf
 refine ⟨.int .i64 L.length,fun _ => hp.one rfl,?_⟩;conv=>whnf
 constructor
 · intro hc
   exfalso
   simp at hc
   omega
 intro _
 conv=>whnf
 intro b6 w6 hn6;conv=>whnf
 have o6 := Q32.made (base := w.heap.size) hn6 (Nat.le_refl _)
 have hE := hn6.ext
 refine ⟨.slice A L.length c,(hp.ext hE).one rfl,?_⟩;conv=>whnf
 refine Qm Q32 (l := []) (news := L) rfl o6 rfl (hsl.ext hE) (by simp; omega) hE.size fun A7 c7 w7 hown7 hg7 hA7 => ?_
 have hE7 := Ql hE hg7 (Qw o6)
 conv=>whnf
 refine (Qvr _ p width _ _ (hp.ext hE7) hw t ⟨by omega,by omega⟩).mono ?_
 rintro _ wp ⟨rfl,hwp⟩
 replace hwp := hwp.symm
 subst hwp
 conv=>whnf
 intro b8 w8 hn8;conv=>whnf
 have hE8 := hE7.trans hn8.ext
 refine Qm Q32 (l := L) (news := [(key,t / width,n)]) rfl (hown7.ext hn8.ext) rfl (Q32.new1 (x := (key,t / width,n)) hn8) (by simp; omega) hE8.size fun A9 c9 w9 hown9 hg9 hA9 => ?_
 have hE9 := Ql hE8 hg9 (Qw hown7)
 have hll : ((L ++ [(key,t / width,n)]).length : Int) = L.length + 1 := by simp
 generalize L ++ [(key,t / width,n)] = L1 at hown9 hll ⊢
 conv=>whnf
 refine Qd Qa (e := ty228) rfl (hp.ext hE9) rfl rfl rfl (by simp [Qi,Value.oneCell']) fun w10 h10 ho10 => ?_
 have h10 : At w10 p 230 [.int .i64 width,.slice A9 L1.length c9,.int .i64 L.length] := h10
 have hown10 : Own Qpx 3 232 w.heap.size w10 A9 c9 L1 := hown9.keep fun a ha => ho10.block a.block (fun e => by have := (hown9.block ha).1; omega)
 have hM10 : Mod (fun k => k = p) w w10 := (Mod.of_ext hE9).trans (Qj ho10 rfl)
 conv=>whnf
 refine ⟨.int .i64 L.length,h10.one rfl,?_⟩;conv=>whnf
 refine ⟨(L.length : Int) + 1,wrap_eq rfl ⟨by omega,by omega⟩,?_⟩;conv=>whnf
 refine Qd Qa (e := ty3) rfl h10 rfl rfl rfl (by simp [Qi,Value.oneCell']) fun w11 h11 ho11 => ?_
 conv=>whnf
 refine ⟨rfl,⟨A9,c9,by rw [hll]; exact h11,ho11.sl (hown10.sl Qj7) (fun a ha e => by have := (hown10.block ha).1; omega),fun a ha e => by have := (hown10.block ha).1; omega⟩,?_⟩
 exact hM10.trans (Qj ho11 rfl)
theorem Q8b {width:Int} {e:Ev} (hm:Xp e = true) : 0 ≤ (s9E width e).2.2 ∧ (s9E width e).2.2 ≤ 1048576 := by
 have h := Qb1 hm
 show 0 ≤ Qo e ∧ Qo e ≤ 1048576
 omega
set_option maxHeartbeats 1000000 in
theorem Qt2 (l:List Ev) (A:Option Addr) (c:Nat) (width:Int) (hwd:1 ≤ width ∧ width ≤ 1099511627776) (w:World) (hs:SlE w A l) (hl:l.length < 1000) (hm:∀ e ∈ l,Xp e = true) :
 Cal Tryz.prog 105 [.slice A l.length c,.int .i64 width] w fun r w' => ∃ p,r = .pointer (some ⟨p,0,none⟩) ∧ P9 w' p width ((l.filter wpB).map (s9E width)) ∧ Ext w w' := by
 have hhn := Qpk hwd
 refine Fi Tryz.func105 rfl _ rfl rfl ?_;conv=>whnf
 refine (Qx8 width w).mono ?_
 rintro _ w1 ⟨p,rfl,hpn,h0,hx1⟩
 rw [hhn] at h0
 conv=>whnf
 refine Qg Qa (fun (i:Nat) w' => i ≤ l.length ∧ P9 w' p width (((l.take i).filter wpB).map (s9E width)) ∧ Ext w w')
  (fun i => [(0,.slice A l.length c),(5,.pointer (some ⟨p,0,none⟩)),(6,.int .i64 (i:Nat))]) (fun i => l.length - i) 0 ⟨Nat.zero_le _,h0,hx1⟩ ⟨rfl,rfl,rfl,trivial⟩ ?_
 clear h0 hx1
 rintro i w2 ⟨hi,hC,hx2⟩
 conv=>whnf
 constructor
 · intro hlt
   have hlt : i < l.length := by simpa using hlt
   obtain ⟨a,hA,hc⟩ := (hs.ext hx2).get hlt
   subst hA
   have htk : ((l.take (i + 1)).filter wpB).map (s9E width) = ((l.take i).filter wpB).map (s9E width) ++ if wpB l[i] = true then [s9E width l[i]] else [] := by
    rw [List.take_succ_eq_append_getElem hlt,List.filter_append,List.map_append]
    congr 1
    cases h : wpB l[i] <;> simp [h]
   have hml := hm l[i] (List.getElem_mem hlt)
   have hlen : (((l.take i).filter wpB).map (s9E width)).length < 100000 := by
    rw [List.length_map]
    have := List.length_filter_le wpB (l.take i)
    rw [List.length_take] at this
    omega
   generalize l[i] = e at hc htk hml
   generalize ((l.take i).filter wpB).map (s9E width) = L at hC htk hlen
   (conv=>whnf);repeat(refine Sg ?_;(conv=>whnf))
   refine ⟨a,⟨rfl,by omega,by omega⟩,?_⟩; (conv=>whnf);repeat(refine Sg ?_;(conv=>whnf))
   refine ⟨evC e,⟨rfl,hc⟩,?_⟩; (conv=>whnf);repeat(refine Sg ?_;(conv=>whnf))
   refine (Qdy e w2).mono ?_
   rintro _ w3 ⟨rfl,hx3⟩
   have hx23 := hx2.trans hx3
   replace hC := hC.ext hx3
   have hce := hx3.cells hc
   (conv=>whnf);repeat(refine Sg ?_;(conv=>whnf))
   constructor
   · intro hq
     have hq : 0 < Qo e := by simpa using hq
     have hwp : wpB e = true := by simpa [wpB] using hq
     rw [if_pos hwp] at htk
     have hno := Qbt hml hq
     have hnm := X8 hno.2
     have hat := Qh4 hml
     have hwl := Qb1 hml
     (conv=>whnf);repeat(refine Sg ?_;(conv=>whnf))
     refine Dr .same [0,1,2,3,4,5,6,7,8,9,10,11] [12] ?_;conv=>whnf
     have hxd := hx23.drew
     replace hC := hC.ext (Ext.refl w3).drew
     replace hce : Xa w3.drew (a.add (i * 8)) (evC e) := hce
     generalize w3.drew = w4 at hxd hC hce ⊢
     refine ⟨a,⟨rfl,by omega,by omega⟩,?_⟩;conv=>whnf
     refine ⟨.string e.item,cells_at hce (k := 5) rfl,?_⟩;conv=>whnf
     refine ⟨a,⟨rfl,by omega,by omega⟩,?_⟩;conv=>whnf
     refine ⟨.int .i64 e.at_,cells_at hce (k := 2) rfl,?_⟩;conv=>whnf
     refine (Qwv w4 p width L hC hwd hlen e.item (by omega) e.at_ hat (Qo e) (by omega)).mono ?_
     rintro _ w5 ⟨rfl,hC5,hM5⟩
     have hx5 := Qlb (T := fun k => k = p) hxd (fun k hk => by rw [hk]; exact hpn) hM5
     (conv=>whnf);repeat(refine Sg ?_;(conv=>whnf))
     refine ⟨_,wrap_succ (by omega),?_⟩; (conv=>whnf);repeat(refine Sg ?_;(conv=>whnf))
     exact ⟨i + 1,by omega,⟨by omega,by rw [htk]; exact hC5,hx5⟩,⟨rfl,rfl,rfl,trivial⟩⟩
   · intro hq
     have hq : ¬ 0 < Qo e := by simpa using hq
     have hwp : wpB e = false := by simpa [wpB] using hq
     rw [hwp] at htk
     simp only [Bool.false_eq_true,if_false,List.append_nil] at htk
     (conv=>whnf);repeat(refine Sg ?_;(conv=>whnf))
     refine ⟨_,wrap_succ (by omega),?_⟩; (conv=>whnf);repeat(refine Sg ?_;(conv=>whnf))
     exact ⟨i + 1,by omega,⟨by omega,by rw [htk]; exact hC,hx23⟩,⟨rfl,rfl,rfl,trivial⟩⟩
 · intro hge
   have hge : l.length ≤ i := by simpa using hge
   rw [List.take_of_length_le hge] at hC
   conv=>whnf
   exact ⟨p,rfl,hC,hx2⟩
theorem Qg1 (n:Int) (w:World) : Cal Tryz.prog 52 [.int .i64 n] w fun r w' => r = .int .i64 (min n 1099511627776) ∧ w' = w := by
 refine Fi Tryz.func52 rfl _ rfl rfl ?_;conv=>whnf
 constructor
 · intro hc
   have hc : 1099511627776 < n := by simpa using hc
   conv=>whnf
   exact ⟨by rw [show min n 1099511627776 = 1099511627776 by omega],rfl⟩
 · intro hc
   have hc : ¬ 1099511627776 < n := by simpa using hc
   conv=>whnf
   exact ⟨by rw [show min n 1099511627776 = n by omega],rfl⟩
set_option maxHeartbeats 1000000 in
theorem Qrw (c:Cfg) (hcf:Qpu c = true) (l:List Ev) (A:Option Addr) (cap:Nat) (item:ByteArray) (now:Int) (hn:0 ≤ now ∧ now ≤ 1099511627776) (w:World) (hs:SlE w A l) (hl:l.length < 1000) (hm:∀ e ∈ l,Xp e = true) :
 Cal Tryz.prog 58 [Qwd c,.slice A l.length cap,.string item,.int .i64 now] w fun r w' => r = .int .i64 (Qph c (paE (l.filter wpB) c.width item ((Qe7 c now - c.span) / Q8 c.width) (Qe7 c now / Q8 c.width)) (paE (l.filter wpB) c.width item ((Qe7 c now - 2 * c.span) / Q8 c.width) ((Qe7 c now - c.span) / Q8 c.width))) ∧ Ext w w' := by
 obtain ⟨c1,c2,c3,c4,c5,c6,c7⟩ := Qqq hcf
 have hwid := Qpk c2
 have hws := fun e (he:e ∈ l.filter wpB) => hm e (List.mem_filter.1 he).1
 have hpb := fun lo hi => Qvv (l := l.filter wpB) hws c.width item lo hi
 have hfl := List.length_filter_le wpB l
 have hpe := fun lo hi => Q5h c.width (l.filter wpB) item lo hi
 rw [hwid] at hpe ⊢
 have hpn : Qe7 c now = now.tdiv c.width * c.width := by unfold Qe7; rw [hwid,Q2s (by omega) hn.1]
 have hpv : Qe7 c now = now - now.tmod c.width := by unfold Qe7; rw [hwid]
 have hq0 : 0 ≤ now.tdiv c.width ∧ now.tdiv c.width ≤ now := by
  rw [Int.tdiv_eq_ediv_of_nonneg hn.1]
  exact ⟨Int.ediv_nonneg hn.1 (by omega),Int.ediv_le_self _ hn.1⟩
 have hpr : 0 ≤ now.tmod c.width ∧ now.tmod c.width ≤ now := by
  refine ⟨Int.tmod_nonneg _ hn.1,?_⟩
  have h1 := Int.tmod_def now c.width
  have h2 : 0 ≤ c.width * now.tdiv c.width := Int.mul_nonneg (by omega) hq0.1
  omega
 generalize hP : Qe7 c now = P at hpn hpv ⊢
 refine Fi Tryz.func58 rfl _ rfl rfl ?_;conv=>whnf
 intro b1 w1 hn1;conv=>whnf
 have h1 : At w1 b1 _ (Qju c) := hn1.At
 have hx1 := hn1.ext
 clear hn1
 refine ⟨_,h1.one rfl,?_⟩;conv=>whnf
 refine (Qt2 l A cap c.width c2 w1 (hs.ext hx1) hl hm).mono ?_
 rintro _ w2 ⟨p,rfl,hp2,hx2⟩
 replace h1 := h1.ext hx2
 replace hx1 := hx1.trans hx2
 have hLl : ((l.filter wpB).map (s9E c.width)).length < 1000000 := by rw [List.length_map]; omega
 have hLok : ∀ x ∈ (l.filter wpB).map (s9E c.width),0 ≤ x.2.2 ∧ x.2.2 ≤ 1048576 := fun x hx => by
  obtain ⟨e,he,rfl⟩ := List.mem_map.1 hx
  exact Q8b (hws e he)
 generalize (l.filter wpB).map (s9E c.width) = L at hp2 hLl hLok hpe
 conv=>whnf
 refine Dr .same [0,1,2,3,4,5,6,7] [] ?_;conv=>whnf
 have hxd := (Ext.refl w2).drew
 replace h1 := h1.ext hxd
 replace hp2 := hp2.ext hxd
 replace hx1 := hx1.trans hxd
 generalize w2.drew = w3 at h1 hp2 hx1 ⊢
 refine ⟨_,h1.one rfl,?_⟩;conv=>whnf
 refine ⟨now.tdiv c.width,⟨by omega,wrap_eq rfl ⟨by omega,by omega⟩⟩,?_⟩;conv=>whnf
 refine ⟨_,h1.one rfl,?_⟩;conv=>whnf
 refine ⟨P,wrap_eq hpn ⟨by omega,by omega⟩,?_⟩;conv=>whnf
 refine Dr .ext [0,1,2,3,4,5,6,8,9,10,11,12,13,14,15,16,17,18,7] [19,20,21] ?_;conv=>whnf
 have hxd := (Ext.refl w3).drew
 replace h1 := h1.ext hxd
 replace hp2 := hp2.ext hxd
 replace hx1 := hx1.trans hxd
 generalize w3.drew = w4 at h1 hp2 hx1 ⊢
 refine ⟨_,h1.one rfl,?_⟩;conv=>whnf
 refine ⟨P - c.span,wrap_eq rfl ⟨by omega,by omega⟩,?_⟩;conv=>whnf
 refine ⟨_,h1.one rfl,?_⟩;conv=>whnf
 refine ⟨2 * c.span,wrap_eq rfl ⟨by omega,by omega⟩,?_⟩;conv=>whnf
 refine ⟨P - 2 * c.span,wrap_eq rfl ⟨by omega,by omega⟩,?_⟩;conv=>whnf
 refine ⟨_,h1.one rfl,?_⟩;conv=>whnf
 refine ⟨P - c.span,wrap_eq rfl ⟨by omega,by omega⟩,?_⟩;conv=>whnf
 refine (Qnl w4 p c.width L hp2 c2 hLok hLl item (P - c.span) P ⟨by omega,by omega⟩ ⟨by omega,by omega⟩).mono ?_
 rintro _ w5 ⟨rfl,hx5⟩
 refine ⟨hx5,?_⟩;conv=>whnf
 replace h1 := h1.ext hx5
 replace hp2 := hp2.ext hx5
 replace hx1 := hx1.trans hx5
 refine (Qnl w5 p c.width L hp2 c2 hLok hLl item (P - 2 * c.span) (P - c.span) ⟨by omega,by omega⟩ ⟨by omega,by omega⟩).mono ?_
 rintro _ w6 ⟨rfl,hx6⟩
 replace h1 := h1.ext hx6
 replace hx1 := hx1.trans hx6
 rw [hpe,hpe]
 have hf := hpb ((P - c.span) / c.width) (P / c.width)
 have ho := hpb ((P - 2 * c.span) / c.width) ((P - c.span) / c.width)
 generalize paE (l.filter wpB) c.width item ((P - c.span) / c.width) (P / c.width) = fresh at hf ⊢
 generalize paE (l.filter wpB) c.width item ((P - 2 * c.span) / c.width) ((P - c.span) / c.width) = old at ho ⊢
 (conv=>whnf);repeat(refine Sg ?_;(conv=>whnf))
 refine ⟨_,fun _ => h1.one rfl,?_⟩; (conv=>whnf);repeat(refine Sg ?_;(conv=>whnf))
 constructor
 · intro hc
   have hc : fresh = 0 ∨ fresh < c.floor := by simpa using hc
   (conv=>whnf);repeat(refine Sg ?_;(conv=>whnf))
   exact ⟨by unfold Qph; rw [if_pos hc],hx1⟩
 intro hc
 have hc : ¬ (fresh = 0 ∨ fresh < c.floor) := by
  have hc : (decide (fresh = 0) || decide (fresh < c.floor)) = false := hc
  simpa using hc
 have hdv : (fresh * 1048576).tdiv (old + 1) = fresh * 1048576 / (old + 1) := Int.tdiv_eq_ediv_of_nonneg (by omega)
 have hd1 := Int.ediv_nonneg (show 0 ≤ fresh * 1048576 by omega) (show 0 ≤ old + 1 by omega)
 have hd2 := Int.ediv_le_self (a := fresh * 1048576) (old + 1) (by omega)
 (conv=>whnf);repeat(refine Sg ?_;(conv=>whnf))
 refine ⟨fresh * 1048576,wrap_eq rfl ⟨by omega,by omega⟩,?_⟩; (conv=>whnf);repeat(refine Sg ?_;(conv=>whnf))
 refine ⟨old + 1,wrap_eq rfl ⟨by omega,by omega⟩,?_⟩; (conv=>whnf);repeat(refine Sg ?_;(conv=>whnf))
 refine ⟨fresh * 1048576 / (old + 1),⟨by omega,wrap_eq hdv.symm ⟨by omega,by omega⟩⟩,?_⟩; (conv=>whnf);repeat(refine Sg ?_;(conv=>whnf))
 refine (Qg1 _ w6).mono ?_
 rintro _ _ ⟨rfl,rfl⟩; (conv=>whnf);repeat(refine Sg ?_;(conv=>whnf))
 exact ⟨by unfold Qph; rw [if_neg hc],hx1⟩
theorem Qnx (l:List Ev) (A:Option Addr) (c:Nat) (person maker:ByteArray) (w:World) (hs:SlE w A l) (hl:l.length < 1000000) :
 Cal Tryz.prog 59 [.slice A l.length c,.string person,.string maker] w fun r w' => r = .bool (Qmc l person maker) ∧ Ext w w' := by
 rw [← Q44]
 refine Fi Tryz.func59 rfl _ rfl rfl ?_;conv=>whnf
 refine Qg Qa (fun (q:Nat × Bool) w' => q.1 ≤ l.length ∧ q.2 = Q6t (l.take q.1) person maker ∧ Ext w w')
  (fun | (i,b) => [(0,.slice A l.length c),(1,.string person),(2,.string maker),(7,.bool b),(8,.int .i64 (i:Nat))]) (fun q => l.length - q.1) (0,false) ⟨Nat.zero_le _,rfl,Ext.refl _⟩ ⟨rfl,rfl,rfl,rfl,rfl,trivial⟩ ?_
 rintro ⟨i,b⟩ w1 ⟨hi,hb,hx1⟩
 simp only at hi hb
 conv=>whnf
 constructor
 · intro hlt
   have hlt : i < l.length := by simpa using hlt
   obtain ⟨a,hA,hc⟩ := (hs.ext hx1).get hlt
   subst hA
   have htk : Q6t (l.take (i + 1)) person maker = if flB person maker l[i] = true then decide (l[i].kind = 7) else b := by rw [List.take_succ_eq_append_getElem hlt,Qpy,hb]
   generalize l[i] = e at hc htk
   (conv=>whnf);repeat(refine Sg ?_;(conv=>whnf))
   refine ⟨a,⟨rfl,by omega,by omega⟩,?_⟩; (conv=>whnf);repeat(refine Sg ?_;(conv=>whnf))
   refine ⟨evC e,⟨rfl,hc⟩,?_⟩; (conv=>whnf);repeat(refine Sg ?_;(conv=>whnf))
   intro b2 w2 hn2; (conv=>whnf);repeat(refine Sg ?_;(conv=>whnf))
   refine Qd Qa (e := ty53) rfl hn2.At rfl rfl rfl (Qdp e) fun w3 h3 ho3 => ?_
   have h3 : At w3 b2 53 (evC e) := h3
   have hx13 : Ext w1 w3 := ho3.ext hn2.ext (by rw [hn2.block]; exact Nat.le_refl _)
   clear ho3 hn2
   (conv=>whnf);repeat(refine Sg ?_;(conv=>whnf))
   refine ⟨.string e.person,h3.one rfl,?_⟩; (conv=>whnf);repeat(refine Sg ?_;(conv=>whnf))
   refine ⟨.string e.text,fun _ => h3.one rfl,?_⟩; (conv=>whnf);repeat(refine Sg ?_;(conv=>whnf))
   refine ⟨.int .i64 e.kind,fun _ => h3.one rfl,?_⟩; (conv=>whnf);repeat(refine Sg ?_;(conv=>whnf))
   refine ⟨.int .i64 e.kind,fun _ _ => h3.one rfl,?_⟩; (conv=>whnf);repeat(refine Sg ?_;(conv=>whnf))
   have hfl : (((decide (e.person = person)) && (decide (e.text = maker))) && ((decide (e.kind = 7)) || (decide (e.kind = 8)))) = flB person maker e := Bool.and_assoc _ _ _
   constructor
   · intro hq
     have hq : flB person maker e = true := by rw [← hfl]; exact hq
     rw [if_pos hq] at htk
     (conv=>whnf);repeat(refine Sg ?_;(conv=>whnf))
     refine ⟨.int .i64 e.kind,h3.one rfl,?_⟩; (conv=>whnf);repeat(refine Sg ?_;(conv=>whnf))
     refine ⟨_,wrap_succ (by omega),?_⟩; (conv=>whnf);repeat(refine Sg ?_;(conv=>whnf))
     exact ⟨(i + 1,decide (e.kind = 7)),by simp only; omega,⟨by simp only; omega,htk.symm,hx1.trans hx13⟩,⟨rfl,rfl,rfl,rfl,rfl,trivial⟩⟩
   · intro hq
     have hq : ¬ flB person maker e = true := by rw [← hfl,Bool.not_eq_true]; exact hq
     rw [if_neg hq] at htk
     (conv=>whnf);repeat(refine Sg ?_;(conv=>whnf))
     refine ⟨_,wrap_succ (by omega),?_⟩; (conv=>whnf);repeat(refine Sg ?_;(conv=>whnf))
     exact ⟨(i + 1,b),by simp only; omega,⟨by simp only; omega,htk.symm,hx1.trans hx13⟩,⟨rfl,rfl,rfl,rfl,rfl,trivial⟩⟩
 · intro hge
   have hge : l.length ≤ i := by simpa using hge
   rw [List.take_of_length_le hge] at hb
   rw [← hb]
   conv=>whnf
   exact ⟨rfl,hx1⟩
end Go.Proofs.YtoancknoinilaaaGreatDoor
