import Derived.Test.YtopncieoolkhjaaGreatDoorGF
import Derived.Test.YtopncieoolkhjaaGreatDoorGC
import Derived.Test.YtopncieoolkhjaaGreatDoorGI
import Derived.Shelf.Slices.Cells
/- slices.Compact at []int; catalog.Changes (as in the price laws). -/
set_option linter.unusedVariables false
set_option linter.unusedSimpArgs false
namespace Go.Proofs
open Go.Shelf
def Tryz.compI_ren : Go.Shelf.Ren := ⟨fun | 20 => 80 | n => n,fun | 22 => 85 | n => n,fun | n => n⟩
theorem Tryz.compI : Go.Proofs.Lays2.n20 Tryz.prog Tryz.compI_ren := {
 mixed := by kernel_rfl
 f20 := Tryz.func80.trans (congrArg some (by kernel_rfl))
 t0 := Tryz.underlying0
 a0 := Tryz.isAgg0
 z0 := Tryz.sizeOf0
 v0 := Tryz.zeroValue0
 t3 := Tryz.underlying3
 a3 := Tryz.isAgg3
 z3 := Tryz.sizeOf3
 v3 := Tryz.zeroValue3
 t4 := Tryz.underlying4
 a4 := Tryz.isAgg4
 z4 := Tryz.sizeOf4
 v4 := Tryz.zeroValue4
 t22 := Tryz.underlying85
 a22 := Tryz.isAgg85
 z22 := Tryz.sizeOf85
 v22 := Tryz.zeroValue85
 i3 := by kernel_rfl }
end Go.Proofs
namespace Go.Proofs.YtopncieoolkhjaaGreatDoor
open Go.Se Go.RowKit
theorem Qjo {B:Nat} {a:World} (b:Nat) (hb:B ≤ b) : ∀ (vs:List Value) (o:Nat) {w:World},Below B a w → Below B a (w.setCells b o vs)
 | [],_,_,h => h
 | v :: r,o,_,h => Qjo b hb r (o + 1) (h.setCell (p := ⟨b,o,none⟩) hb v)
theorem Q2g : Qqf Tryz.prog 85 3 Ql1 1 8 := ⟨Qz4,⟨_,ty3_ok,rfl,rfl⟩,by3,by decide,by decide,Qcb,Qtr⟩
theorem Qvz : Qql Tryz.prog 80 := ⟨_,Tryz.func80,rfl,rfl⟩
theorem mem_compact (zs:List Int) (t:Int) : t ∈ Lib.compact zs ↔ t ∈ zs := by
 have key : ∀ m,m ≤ zs.length → ∀ t,t ∈ Lib.compactUpTo zs.toArray m ↔ t ∈ zs.take m := by
  intro m
  induction m with
  | zero => intro _ t; simp [Lib.compactUpTo]
  | succ m ih =>
    intro hm t
    rw [Lib.compactUpTo_succ,Xu zs m (by omega),List.mem_append,List.mem_append,ih (by omega) t]
    have he : zs.toArray[m]! = zs[m] := by simp [show m < zs.length by omega]
    rw [he]
    cases hk : Lib.keeps zs.toArray m with
    | true => simp
    | false =>
      have hk' : ¬ (m = 0 ∨ zs.toArray[m]! ≠ zs.toArray[m - 1]!) := by
       intro h
       have : Lib.keeps zs.toArray m = true := by simp only [Lib.keeps]; exact decide_eq_true h
       rw [hk] at this; cases this
      have hm0 : m ≠ 0 := fun h => hk' (.inl h)
      have h2 : zs.toArray[m]! = zs.toArray[m - 1]! := Classical.byContradiction fun h => hk' (.inr h)
      rw [he] at h2
      have h3 : zs.toArray[m - 1]! = zs[m - 1]'(by omega) := by simp [show m - 1 < zs.length by omega]
      rw [h3] at h2
      have h4 : zs[m] ∈ zs.take m := by
       rw [h2,List.mem_take_iff_getElem]
       exact ⟨m - 1,by omega,rfl⟩
      constructor
      · rintro (h | h)
        · exact .inl h
        · simp at h
      · rintro (h | h)
        · exact .inl h
        · simp at h; subst h; exact .inl h4
 have := key zs.length (Nat.le_refl _) t
 rwa [List.take_length] at this
theorem Qop (l:List Int) (A:Option Addr) (c base:Nat) (w:World) (hown:Own Ql1 1 3 base w A c l) (hl:l.length < 1000000000000) :
 Cal Tryz.prog 80 [.slice A l.length c] w fun r w' => ∃ L,r = .slice A L.length c ∧ (∀ t,t ∈ L ↔ t ∈ l) ∧ L.length ≤ l.length ∧ SlI w' A L ∧ ∀ w0,Ext w0 w → w0.heap.size ≤ base → Ext w0 w' := by
 by_cases h2 : l.length < 2
 · refine Fi Tryz.func80 rfl _ rfl rfl ?_;conv=>whnf
   refine ⟨fun _ => ?_,fun h => (by simp at h; omega)⟩
   conv=>whnf
   exact ⟨l,rfl,fun _ => Iff.rfl,Nat.le_refl _,hown.sl Qcb,fun w0 h _ => h⟩
 · have hsl := hown.sl Qcb
   rcases hown.2 with ⟨_,h0⟩ | ⟨g,cap,cur,hv,hb,hg,hc1,hc2,hc3,hc4⟩
   · omega
   injection hv with hA _ hcc
   subst hA
   subst hcc
   have hcell : ∀ j,j < l.length → w.cell? ⟨g,0 + j,none⟩ = some (.int .i64 (l.getD j 0)) := by
    intro j hj
    obtain ⟨a,ha,hca⟩ := hsl.get hj
    have ha' : a = ⟨g,0,none⟩ := by simpa using ha.symm
    have := hca 0 _ rfl
    rw [ha',Xd,Qfo] at this
    rw [List.getD_eq_getElem?_getD,List.getElem?_eq_getElem hj]
    simpa using this
   refine Qce Qvz (Any.slices_Compact_int_cells Tryz.compI g 0 l.length c l w (Nat.le_refl _) (by omega) hc1 hcell (fun j _ => by unfold World.frozen?; rw [hg]; simp)) ?_
   rintro w' ⟨q,rfl⟩
   rw [List.take_length]
   have hle := Lib.compact_length_le l
   generalize hL : Lib.compact l = L at hle
   refine ⟨L,rfl,fun t => by rw [← hL]; exact mem_compact l t,hle,?_,?_⟩
   · intro i x hi
     have hlt : i < L.length := (List.getElem?_eq_some_iff.1 hi).1
     refine ⟨_,rfl,fun j v hj => ?_⟩
     have hj0 : j = 0 := by
      have := (List.getElem?_eq_some_iff.1 hj).1
      rw [Qcb] at this; omega
     subst hj0
     have hvx : v = .int .i64 x := by simpa [Ql1] using hj.symm
     have := World.cell?_setCells_in g ((L ++ List.replicate (l.length - L.length) 0).map (Value.int .i64)) 0 (w.drewN q) (fun j hj => by
      have hj' : j < l.length := by simp at hj; omega
      have := hcell j hj'
      show (w.cell? _).isSome = true
      rw [this]; rfl) i (by simp; omega)
     have hx : L[i] = x := by rw [List.getElem?_eq_getElem hlt] at hi; simpa using hi
     rw [Xd,Qfo]
     simp only [Nat.mul_one,Nat.add_zero,Nat.zero_add] at this ⊢
     rw [this,hvx]
     rw [List.getElem_map,List.getElem_append_left hlt,hx]
   · intro w0 h0 hb0
     have h1 : Ext w0 (w.drewN q) := h0.trans (Qjv w q)
     exact Qjo g (by omega) _ _ h1
def Qoa (row:List St) : List Int := row.map (·.at_)
theorem Qvc (w:World) (S:Nat → Prop) (p:Nat) (cs:List Ev) (h:Qf9 w S p cs) (name:ByteArray) (hl:(Q5 cs name).length < 1000000) :
 Cal Tryz.prog 40 [.pointer (some ⟨p,0,none⟩),.string name] w fun r w' => ∃ A c L,r = .slice A L.length c ∧ (∀ t,t ∈ L ↔ t ∈ Qoa (Q5 cs name)) ∧ L.length ≤ (Q5 cs name).length ∧ SlI w' A L ∧ Ext w w' := by
 obtain ⟨bm,L,h⟩ := h
 refine Fi Tryz.func40 rfl _ rfl rfl ?_;conv=>whnf
 refine ⟨.map (some bm),h.head.one rfl,?_⟩;conv=>whnf
 refine ⟨_,h.rows.look Qqa Xm (e := ty182) ty182_ok rfl name Qr,?_⟩
 have hown := (h.rows.own name).1
 generalize hrow : Q5 cs name = row at *
 generalize (rowAt L name).1 = A at *
 generalize (rowAt L name).2 = c at *
 have hs : Sl stC 9 w A row := hown.sl Qkv
 clear hown h
 obtain ⟨T,hT⟩ : ∃ T,T = Qoa row := ⟨_,rfl⟩
 have hTl : T.length = row.length := by rw [hT]; simp [Qoa]
 rw [← hT]
 have hTk : ∀ k (hk:k < row.length),T[k]'(by omega) = (row[k]).at_ := fun k hk => by subst hT; simp [Qoa]
 conv=>whnf
 refine Qe Qa (fun (k:Nat × Option Addr × Nat) w' => k.1 ≤ row.length ∧ Ext w w' ∧ Own Ql1 1 3 w.heap.size w' k.2.1 k.2.2 (T.take k.1))
  (fun | (k,B,d) => [(5,.slice B k d),(13,.slice A row.length c),(14,.int .i64 row.length),(15,.int .i64 k)]) (fun k => row.length - k.1) (0,none,0) ⟨by simp,Ext.refl _,Own.nil⟩ ⟨rfl,rfl,rfl,rfl,trivial⟩ ?_
 rintro ⟨k,B,d⟩ w1 ⟨hk,hx1,hown⟩
 simp only at hk hown
 conv=>whnf
 constructor
 · intro hc
   have hc : k < row.length := by simpa using hc
   obtain ⟨a2,rfl,hce⟩ := (hs.ext hx1).get hc
   have htk := Xu T k (by omega)
   have hlk : (T.take k).length = k := by rw [List.length_take]; omega
   have hlk1 : (T.take (k + 1)).length = k + 1 := by rw [List.length_take]; omega
   have hte := hTk k hc
   generalize T[k]'(by omega) = t at htk hte
   generalize row[k] = s at hce hte
   subst hte
   obtain ⟨T1,hT1⟩ : ∃ T1,T1 = T.take (k + 1) := ⟨_,rfl⟩
   rw [← hT1] at htk hlk1
   generalize hT0 : T.take k = T0 at htk hlk hown
   conv=>whnf
   refine ⟨a2,⟨rfl,by omega,by omega⟩,?_⟩;conv=>whnf
   refine ⟨stC s,⟨rfl,hce⟩,?_⟩;conv=>whnf
   intro b7 w7 hn7;conv=>whnf
   have e7 := hn7.block
   refine Qh Qa (e := ty189) rfl hn7.At rfl rfl rfl (by simp [Qj,stC,Value.oneCell']) fun w8 h8 ho8 => ?_
   have h8 : At w8 b7 _ (stC s) := h8
   have hx8 : Ext w1 w8 := ho8.ext hn7.ext (by omega)
   replace hx1 := hx1.trans hx8
   replace hown := hown.ext hx8
   clear hn7 ho8 hce
   conv=>whnf
   refine ⟨_,h8.one rfl,?_⟩;conv=>whnf
   intro b9 w9 hn9;conv=>whnf
   refine Qn Q2g (l := T0) (news := [s.at_]) hlk.symm (hown.ext hn9.ext) rfl (Q2g.new1 (x := s.at_) hn9) (by simp; omega) ((hx1.trans hn9.ext).size) fun A' c' w10 hown10 hg10 hA10 => ?_
   have hx10 := Ql (hx1.trans hn9.ext) hg10 (Qz hown)
   rw [← htk] at hown10 ⊢
   rw [hlk1]
   conv=>whnf
   refine ⟨_,wrap_succ (by omega),?_⟩;conv=>whnf
   refine ⟨(k + 1,A',c'),by simp only; omega,⟨by simp only; omega,hx10,?_⟩,⟨rfl,rfl,rfl,rfl,trivial⟩⟩
   simp only
   rw [← hT1]; exact hown10
 · intro hc
   have hc : row.length ≤ k := by simpa using hc
   obtain rfl : k = T.length := by omega
   rw [List.take_length] at hown
   conv=>whnf
   refine (Qop T B d w.heap.size w1 hown (by omega)).mono ?_
   rintro _ w2 ⟨L2,rfl,hm,hle,hs2,hx2⟩;conv=>whnf
   exact ⟨B,d,L2,rfl,hm,by omega,hs2,hx2 w hx1 (Nat.le_refl _)⟩
end Go.Proofs.YtopncieoolkhjaaGreatDoor
