/- Several texts in one: Cp1, Cp2, Cp3, Cp4, Cp5, Cp6. -/
import Derived.Test.YteabekcdcphjpaaGreatDoorHCp0
import Derived.Test.YteabekcdcphjpaaGreatDoorHCloneL
import Derived.Test.YteabekcdcphjpaaGreatDoorGB
import Derived.Test.YteabekcdcphjpaaGreatDoorGC
import Derived.Test.YteabekcdcphjpaaGreatDoorGE
import Derived.Test.YteabekcdcphjpaaGreatDoorGI
import Derived.Shelf.SlMaps.Clone
set_option linter.unusedVariables false
set_option linter.unusedSimpArgs false
namespace Go.Proofs.YteabekcdcphjpaaGreatDoor
open Go.Se Go.RowKit Go.Shelf
theorem Qgc {κ:Type} [DecidableEq κ] {enc:κ → Value} {P:Program} {ρ:Ren} (S:SlLaysW.n5 P ρ) (hok:Qox P (ρ.f 5)) {w:World} {b:Nat} {L:List (κ × Value)} (hm:MapAt w b enc L) :
 Cal P (ρ.f 5) [.map (some b)] w fun r w' => ∃ b',r = .map (some b') ∧ MapAt w' b' enc L ∧ w.heap.size ≤ b' ∧ Ext w w' := by
 obtain ⟨E,c,hE,rfl⟩ := hm
 refine Qbq hok (AnyW.maps_Clone S b _ c w hE.block) ?_
 rintro w' rfl
 exact ⟨w.heap.size,rfl,⟨E,c,⟨heap_alloc_new w _,hE.rising,hE.below,hE.keys⟩,rfl⟩,Nat.le_refl _,(Below.refl _ _).alloc (Nat.le_refl _) _⟩
theorem Qjw {w:World} {b:Nat} {L:List (Int × Value)} (hm:MapAt w b vi L) : Cal Tryz.prog 147 [.map (some b)] w fun r w' => ∃ b',r = .map (some b') ∧ MapAt w' b' vi L ∧ w.heap.size ≤ b' ∧ Ext w w' :=
 Qgc Tryz.clone147 ⟨_,Tryz.func147,rfl,rfl⟩ hm
theorem Qfs {w:World} {b:Nat} {L:List (PK × Value)} (hm:MapAt w b cel L) : Cal Tryz.prog 150 [.map (some b)] w fun r w' => ∃ b',r = .map (some b') ∧ MapAt w' b' cel L ∧ w.heap.size ≤ b' ∧ Ext w w' :=
 Qgc Tryz.clone150 ⟨_,Tryz.func150,rfl,rfl⟩ hm
theorem Qe2 {κ:Type} [DecidableEq κ] {enc:κ → Value} {w:World} {r b:Nat} {L vs:List (κ × Value)} (hi:Iter w r b enc L vs) : r < w.heap.size := by
 obtain ⟨E,c,V,si,c0,hE,rfl,hr,_⟩ := hi
 exact lt_of_block hr
def Q4u {κ β:Type} [DecidableEq κ] (s' s:List (κ × β)) : Prop := ∀ k,Qc s' k = Qc s k
set_option maxHeartbeats 2000000 in
theorem Qt9 (w:World) (S:Nat → Prop) (p:Nat) (half n:Int) (s:Qch) (h:Qfj w S p half n s) :
 Cal Tryz.prog 75 [.pointer (some ⟨p,0,none⟩)] w fun r w' => ∃ p' s',r = .pointer (some ⟨p',0,none⟩) ∧ Qfj w' (fun k => w.heap.size ≤ k) p' half n s' ∧ Q4u s' s ∧ Ext w w' := by
 obtain ⟨bm,hC⟩ := h
 obtain ⟨L,col,hm⟩ := hC.sums
 have hhead := hC.head
 have hmap := hm.map
 have hown : ∀ y ∈ L,MapAt w y.2.1 vi (Xk vi y.2.2) := fun y hy => (hm.own y hy).2
 have heq := hm.eq
 have hkeys := hm.keys
 have hbm := hmap.lt
 have hpl := hhead.lt
 clear hm hC
 refine Fi Tryz.func75 rfl _ rfl rfl ?_;conv=>whnf
 refine Dr .ext [0,1,2,3,4,5,6,7,8,9,10,11,12,13,14] [15,16] ?_;conv=>whnf
 have hx0 : Ext w w.drew := (Ext.refl w).drew
 have hh0 := hhead.ext hx0
 have hm0 := hmap.ext hx0
 generalize w.drew = w0 at hx0 hh0 hm0 ⊢
 refine ⟨_,hh0.one rfl,?_⟩; (conv=>whnf);repeat(refine Sg ?_;(conv=>whnf))
 refine ⟨_,hh0.one rfl,?_⟩; (conv=>whnf);repeat(refine Sg ?_;(conv=>whnf))
 refine ⟨_,hh0.one rfl,?_⟩; (conv=>whnf);repeat(refine Sg ?_;(conv=>whnf))
 refine ⟨_,Ql6 Qte (Qh3 hm0.lt) hm0,?_⟩; (conv=>whnf);repeat(refine Sg ?_;(conv=>whnf))
 intro b1 w1 hn1
 refine ⟨hn1.ext,?_⟩; (conv=>whnf);repeat(refine Sg ?_;(conv=>whnf))
 intro b2 w2 hn2; (conv=>whnf);repeat(refine Sg ?_;(conv=>whnf))
 have e1 := hn1.block
 have e2 := hn2.block
 have s1 := hn1.size
 have s0 := hx0.size
 have hx2 := hx0.trans (hn1.ext.trans hn2.ext)
 have hb2 : At w2 b2 125 [vi half,vi n,.map (some b1)] := hn2.At
 have hM2 : MapOf Value.string Qnm w2 (fun k => w.heap.size ≤ k ∧ k ≠ b2) b1 ([] : Qch) := (MapOf.new (S := fun k => w.heap.size ≤ k ∧ k ≠ b2) hn1 ⟨by omega,by omega⟩).keep Q8 fun k hk hs => ⟨hn2.ext.block k hk,hs⟩
 have hb1l : b1 < w2.heap.size := by have := hn2.size; omega
 have hb2l := hb2.lt
 clear hn1 hn2 hh0 hm0 hx0
 refine ⟨_,(hhead.ext hx2).one rfl,?_⟩;conv=>whnf
 refine map_range Qte (hmap.ext hx2) fun w3 hi3 hx3 => ?_
 generalize hr : w2.heap.size = r at hi3 ⊢
 (conv=>whnf);repeat(refine Sg ?_;(conv=>whnf))
 refine Qg Qa (fun (q:List (ByteArray × Value) × Qch) w' => Ext w w' ∧ Iter w' r bm Value.string (L.map fun x => (x.1,Value.map (some x.2.1))) q.1 ∧ MapOf Value.string Qnm w' (fun k => w.heap.size ≤ k ∧ k ≠ b2 ∧ k ≠ r) b1 q.2 ∧ At w' b2 125 [vi half,vi n,.map (some b1)] ∧ ∀ k : ByteArray,(k ∈ q.1.map (fun x:ByteArray × Value => x.1) → Qc q.2 k = Qc s k) ∧ (k ∉ q.1.map (fun x:ByteArray × Value => x.1) → Qc q.2 k = none))
  (fun _ => [(3,.pointer (some ⟨b2,0,none⟩)),(26,.pointer (some ⟨r,0,none⟩))]) (fun q => L.length - q.1.length) ([],[]) ⟨hx2.trans hx3,hi3,hM2.keep Q8 fun k hk hs => ⟨hx3.block k hk,hs.1,hs.2,by omega⟩,hb2.ext hx3,fun k => ⟨fun h => by simp at h,fun _ => rfl⟩⟩ ⟨rfl,rfl,trivial⟩ ?_
 rintro ⟨vs,s'⟩ w4 ⟨hx4,hi4,hM4,hb4,hal⟩
 simp only at hi4 hM4 hal
 (conv=>whnf);repeat(refine Sg ?_;(conv=>whnf))
 refine Qao hi4 (fun hp => ?_) (fun x w5 hin hnew hlt hi5 ho5 hen => ?_)
 · (conv=>whnf);repeat(refine Sg ?_;(conv=>whnf))
   constructor
   · intro hh; cases hh
   intro _
   (conv=>whnf);repeat(refine Sg ?_;(conv=>whnf))
   refine ⟨b2,s',rfl,⟨b1,by omega,hb4,hM4.keep Q8 fun k hk hs => ⟨rfl,hs.1,hs.2.1⟩⟩,fun k => ?_,hx4⟩
   by_cases hk : k ∈ vs.map (fun x:ByteArray × Value => x.1)
   · exact (hal k).1 hk
   · rw [(hal k).2 hk]
     cases hq : Qc s k with
     | none => rfl
     | some v =>
       exfalso
       have h1 := Xg hq
       rw [← heq] at h1
       obtain ⟨y,hy,he⟩ := List.mem_map.1 h1
       refine hk ((hp.map (·.1)).mem_iff.2 (List.mem_map.2 ⟨_,List.mem_map.2 ⟨y,hy,rfl⟩,?_⟩))
       exact (Prod.ext_iff.1 he).1
 · obtain ⟨y,hy,rfl⟩ : ∃ y ∈ L,x = (y.1,Value.map (some y.2.1)) := by
    obtain ⟨y,hy,he⟩ := List.mem_map.1 hin
    exact ⟨y,hy,he.symm⟩
   have hx5 : Ext w w5 := ho5.ext hx4 (by have := hx2.size; omega)
   have hlt : vs.length < L.length := by simpa using hlt
   have hrow := (hown y hy).ext hx5
   have hM5 := hM4.keep Q8 (w1 := w5) (S' := fun k => w.heap.size ≤ k ∧ k ≠ b2 ∧ k ≠ r) fun k hk hs => ⟨ho5.block k hs.2.2,hs⟩
   have hb5 := ho5.at_ hb4 (by omega)
   have hnk : Qc s' y.1 = none := by
    refine (hal y.1).2 fun hk => ?_
    obtain ⟨v,hv,he⟩ := List.mem_map.1 hk
    exact hnew v hv he
   have hys : Qc s y.1 = some y.2.2 := by
    rw [← heq]
    exact Xh (by rw [List.pairwise_map]; exact hkeys) (List.mem_map.2 ⟨y,hy,rfl⟩)
   (conv=>whnf);repeat(refine Sg ?_;(conv=>whnf))
   constructor
   · intro _
     (conv=>whnf);repeat(refine Sg ?_;(conv=>whnf))
     refine Xc (hen w5 rfl rfl) ?_
     (conv=>whnf);repeat(refine Sg ?_;(conv=>whnf))
     refine Dr .ext [0,1,2,3,4,5,6] [7] ?_;conv=>whnf
     have hxd : Ext w5 w5.drew := (Ext.refl w5).drew
     replace hi5 := hi5.ext hxd
     replace hM5 := hM5.keep Q8 (w1 := w5.drew) (S' := fun k => w.heap.size ≤ k ∧ k ≠ b2 ∧ k ≠ r) fun k hk hs => ⟨hxd.block k hk,hs⟩
     replace hb5 := hb5.ext hxd
     replace hrow := hrow.ext hxd
     replace hx5 := hx5.trans hxd
     generalize w5.drew = w6 at hi5 hM5 hb5 hrow hx5 ⊢
     refine ⟨_,hb5.one rfl,?_⟩; (conv=>whnf);repeat(refine Sg ?_;(conv=>whnf))
     refine (Qjw hrow).mono ?_
     rintro _ w7 ⟨b',rfl,hrow',hb',hx7⟩
     refine ⟨hx7,?_⟩; (conv=>whnf);repeat(refine Sg ?_;(conv=>whnf))
     refine hM5.insert Q8 Qte (Qp Xi) y.1 hnk hx7 ⟨by omega,hrow'⟩ fun w8 hM8 ho8 => ?_
     (conv=>whnf);repeat(refine Sg ?_;(conv=>whnf))
     refine ⟨(vs ++ [(y.1,Value.map (some y.2.1))],Qz s' y.1 y.2.2),by simp; omega,⟨ho8.ext (hx5.trans hx7) (by omega),(hi5.ext hx7).keep (ho8.block bm (by omega)) (ho8.block r (by omega)),hM8.keep Q8 fun k hk hs => ⟨rfl,?_⟩,ho8.at_ (hb5.ext hx7) (by omega),fun k => ?_⟩,⟨rfl,rfl,trivial⟩⟩
     · rcases hs with hs | hs
       · exact hs
       · have h1 := Qe2 hi5
         have h2 := hb5.lt
         have h3 := hx5.size
         exact ⟨by omega,by omega,by omega⟩
     · show (k ∈ (vs ++ [(y.1,Value.map (some y.2.1))]).map (fun x:ByteArray × Value => x.1) → Qc (Qz s' y.1 y.2.2) k = Qc s k) ∧ (k ∉ (vs ++ [(y.1,Value.map (some y.2.1))]).map (fun x:ByteArray × Value => x.1) → Qc (Qz s' y.1 y.2.2) k = none)
       rw [Q5,List.map_append,List.map_cons,List.map_nil,List.mem_append,List.mem_singleton]
       by_cases hk : k = y.1
       · subst hk
         rw [if_pos rfl,hys]
         exact ⟨fun _ => rfl,fun h => absurd (.inr rfl) h⟩
       · rw [if_neg hk]
         exact ⟨fun h => (hal k).1 (h.elim id fun h => absurd h hk),fun h => (hal k).2 fun h2 => h (.inl h2)⟩
   · intro hh; cases hh
theorem Qkn {κ β:Type} [DecidableEq κ] {k:κ} {v:β} : ∀ {l:List (κ × β)},Qc l k = none → Qz l k v = l ++ [(k,v)]
 | [],_ => rfl
 | x :: l,h => by
   unfold Qc at h
   unfold Qz
   by_cases e : k = x.1
   · rw [if_pos e] at h; cases h
   · rw [if_neg e] at h ⊢
     rw [Qkn h]; rfl
theorem Qo4 {κ β:Type} [DecidableEq κ] {k:κ} {l:List (κ × β)} (hp:l.Pairwise fun x y => x.1 ≠ y.1) (h:Qc l k = none) : ∀ x ∈ l,x.1 ≠ k := fun x hx e => by
 have := Xh hp (k := x.1) (v := x.2) hx
 rw [e,h] at this
 cases this
section
variable {α:Type} {enc:α → List Value} {sz:Nat} {te:TypeId} {w w2 w3:World} {S:Nat → Prop} {bm:Nat} {rows:ByteArray → List α} {L:List (ByteArray × (Option Addr × Nat))}
theorem Qbs.insert (h:Qbs enc sz te w S bm rows L) {k:ByteArray} (hk:Qc L k = none) {r:List α} (hr:r ≠ []) {A':Option Addr} {c':Nat} (hx:Ext w w2) (hown:Own enc sz te w.heap.size w2 A' c' r)
 (hm:MapAt w3 bm Value.string (Qz (toV rows L) k (.slice A' r.length c'))) (ho:Only w2 w3 bm) : Qbs enc sz te w3 (Grow S w) bm (Qho rows k r) (Qz L k (A',c')) := by
 have hbm := h.map.lt
 have hnk := Qo4 h.keys hk
 have hA : ∀ a,A' = some a → w.heap.size ≤ a.block := fun a ha => (hown.block ha).1
 refine ⟨.inl h.mine,by rw [Qqx h.keys]; exact hm,fun x hx' => ?_,fun x hx' => ?_,?_,fun j hj => ?_⟩
 · rw [Qkn hk,List.mem_append,List.mem_singleton] at hx'
   rcases hx' with hx' | rfl
   · obtain ⟨h1,h2⟩ := h.row x hx'
     have hu : Qho rows k r x.1 = rows x.1 := if_neg (hnk x hx')
     rw [hu]
     exact ⟨h1.keep fun a ha => (ho.block _ (h2 a ha).2).trans (hx.block _ (h1.block ha).2),fun a ha => ⟨.inl (h2 a ha).1,(h2 a ha).2⟩⟩
   · have hu : Qho rows k r k = r := if_pos rfl
     rw [hu]
     exact ⟨(hown.base (Nat.zero_le _)).keep fun a ha => ho.block _ (by have := hA a ha; omega),fun a ha => ⟨.inr (hA a ha),by have := hA a ha; omega⟩⟩
 · rw [Qkn hk,List.mem_append,List.mem_singleton] at hx'
   rcases hx' with hx' | rfl
   · have hu : Qho rows k r x.1 = rows x.1 := if_neg (hnk x hx')
     rw [hu]
     exact h.ne x hx'
   · have hu : Qho rows k r k = r := if_pos rfl
     rw [hu]
     exact hr
 · rw [Qkn hk,List.pairwise_append]
   refine ⟨h.apart,List.pairwise_singleton _ _,fun x hx' y hy a a' ha ha' => ?_⟩
   rw [List.mem_singleton] at hy
   subst hy
   have h1 := ((h.row x hx').1.block ha).2
   have h2 := hA a' ha'
   omega
 · rw [Q5] at hj
   unfold Qho
   by_cases e : j = k
   · rw [if_pos e] at hj; cases hj
   · rw [if_neg e] at hj ⊢
     exact h.all j hj
end
theorem Q9d : Tryz.prog.underlying 129 = some (.slice 3) := by kernel_rfl
theorem Q3j : Q0y Tryz.prog 129 3 Qku 1 8 := ⟨by kernel_rfl,⟨_,ty3_ok,rfl,rfl⟩,by3,by decide,by decide,Qct,fun x => by simp [Qku,Value.oneCell']⟩
theorem Qt7 (x:List Int) (A:Option Addr) (c:Nat) (w:World) (hs:SlI w A x) (hl:x.length < 1000000) :
 Cal Tryz.prog 151 [.slice A x.length c] w fun r w' => ∃ A' c',r = .slice A' x.length c' ∧ Own Qku 1 3 w.heap.size w' A' c' x ∧ Ext w w' := by
 refine Fi Tryz.func151 rfl _ rfl rfl ?_;conv=>whnf
 refine ⟨_,Qds Q9d A _ _ _ _,?_⟩;conv=>whnf
 constructor
 · intro h
   obtain rfl : A = none := by simpa using h
   have hx : x = [] := by
    cases x with
    | nil => rfl
    | cons e x => obtain ⟨a,ha,_⟩ := hs 0 e rfl; cases ha
   subst hx
   conv=>whnf
   exact ⟨none,0,rfl,Own.nil,Ext.refl _⟩
 · intro h
   conv=>whnf
   intro b1 w1 hn1;conv=>whnf
   have o1 := Q3j.made (base := w.heap.size) hn1 (Nat.le_refl _)
   refine Qcl Q3j (l := []) (news := x) rfl o1 rfl (hs.ext hn1.ext) (by simp; omega) hn1.ext.size fun A2 c2 w2 hown2 hg2 hA2 => ?_
   have hx2 := Qag hn1.ext hg2 (Qg3 o1)
   rw [List.nil_append] at hown2 ⊢
   conv=>whnf
   exact ⟨A2,c2,rfl,hown2,hx2⟩
set_option maxHeartbeats 2000000 in
theorem Qua (w:World) (S:Nat → Prop) (p:Nat) (width n:Int) (s:Xq) (h:Qgv w S p width n s) (hrl:∀ key,(Xy s key).length < 1000000) :
 Cal Tryz.prog 78 [.pointer (some ⟨p,0,none⟩)] w fun r w' => ∃ p',r = .pointer (some ⟨p',0,none⟩) ∧ Qgv w' (fun k => w.heap.size ≤ k) p' width n s ∧ Ext w w' := by
 obtain ⟨bs,br,L,R,hP⟩ := h
 have hhead := hP.head
 have hsums := hP.sums
 have hrows := hP.rows
 have hbr := hrows.map.lt
 refine Fi Tryz.func78 rfl _ rfl rfl ?_;conv=>whnf
 refine Q3u (ι := Nat × Nat × Nat) (fun q => [(0,.pointer (some ⟨p,0,none⟩)),(3,.pointer (some ⟨q.1,0,none⟩))])
  (fun q w' => Ext w w' ∧ At w' q.1 133 [vi width,vi n,.map (some q.2.1),.map (some q.2.2)] ∧ MapAt w' q.2.1 cel (Xk vi s) ∧ MapAt w' q.2.2 Value.string ([] : List (ByteArray × Value)) ∧ (w.heap.size ≤ q.1 ∧ w.heap.size ≤ q.2.1 ∧ w.heap.size ≤ q.2.2) ∧ q.2.1 ≠ q.1 ∧ q.2.2 ≠ q.1 ∧ q.2.2 ≠ q.2.1) ?_ ?_
 · refine Qlm .ext (Pl.seq [0,1,2,3,4,5,6,7,8,9,10,11] (Pl.two 12 (Pl.seq [13,14,15,16] Pl.done) 13 (Pl.seq [12,14,15,16] Pl.done))) (by intro h; cases h) Qa mixed (by kernel_rfl) ?_;conv=>whnf
   have hx0 : Ext w w.drew := (Ext.refl w).drew
   have hh0 := hhead.ext hx0
   have hm0 := hsums.ext hx0
   generalize w.drew = w0 at hx0 hh0 hm0 ⊢
   have s0 := hx0.size
   refine ⟨_,hh0.one rfl,?_⟩;conv=>whnf
   refine ⟨_,hh0.one rfl,?_⟩;conv=>whnf
   refine ⟨_,hh0.one rfl,?_⟩;conv=>whnf
   refine ⟨?_,?_⟩
   · refine (Qfs hm0).mono ?_
     rintro _ w1 ⟨b',rfl,hb',hge,hx1⟩
     refine ⟨hx1,?_⟩;conv=>whnf
     intro b2 w2 hn2
     refine ⟨hn2.ext,?_⟩;conv=>whnf
     intro b3 w3 hn3
     have e2 := hn2.block
     have e3 := hn3.block
     have s1 := hx1.size
     have s2 := hn2.size
     have l1 := hb'.lt
     refine ⟨hn3.ext,?_⟩;conv=>whnf
     exact ⟨(b3,b',b2),⟨(hx0.trans hx1).trans (hn2.ext.trans hn3.ext),hn3.At,hb'.ext (hn2.ext.trans hn3.ext),(MapAt.new hn2).ext hn3.ext,⟨by simp only; omega,by simp only; omega,by simp only; omega⟩,by simp only; omega,by simp only; omega,by simp only; omega⟩,⟨rfl,rfl,trivial⟩⟩
   · intro b2 w1 hn1
     refine ⟨hn1.ext,?_⟩;conv=>whnf
     refine (Qfs (hm0.ext hn1.ext)).mono ?_
     rintro _ w2 ⟨b',rfl,hb',hge,hx2⟩
     refine ⟨hx2,?_⟩;conv=>whnf
     intro b3 w3 hn3
     have e1 := hn1.block
     have e3 := hn3.block
     have s1 := hn1.size
     have s2 := hx2.size
     have l1 := hb'.lt
     refine ⟨hn3.ext,?_⟩;conv=>whnf
     exact ⟨(b3,b',b2),⟨(hx0.trans hn1.ext).trans (hx2.trans hn3.ext),hn3.At,hb'.ext hn3.ext,((MapAt.new hn1).ext hx2).ext hn3.ext,⟨by simp only; omega,by simp only; omega,by simp only; omega⟩,by simp only; omega,by simp only; omega,by simp only; omega⟩,⟨rfl,rfl,trivial⟩⟩
 rintro ⟨p',bs',br'⟩ w1 ⟨hx1,hh1,hs1,hr1,⟨g1,g2,g3⟩,n1,n2,n3⟩
 simp only at hh1 hs1 hr1 g1 g2 g3 n1 n2 n3
 (conv=>whnf);repeat(refine Sg ?_;(conv=>whnf))
 refine ⟨_,(hhead.ext hx1).one rfl,?_⟩;conv=>whnf
 refine map_range Q0q (hrows.map.ext hx1) fun w2 hi2 hx2 => ?_
 generalize hr : w1.heap.size = r at hi2 ⊢
 have l1 := hh1.lt
 have l2 := hs1.lt
 have l3 := hr1.lt
 (conv=>whnf);repeat(refine Sg ?_;(conv=>whnf))
 refine Qg Qa (fun (q:List (ByteArray × Value) × (ByteArray → List Int) × List (ByteArray × (Option Addr × Nat))) w' => Ext w w' ∧ Iter w' r br Value.string (toV (Xy s) L) q.1 ∧ Qbs Qku 1 3 w' (fun k => w.heap.size ≤ k ∧ k ≠ p' ∧ k ≠ bs' ∧ k ≠ r) br' q.2.1 q.2.2 ∧ At w' p' 133 [vi width,vi n,.map (some bs'),.map (some br')] ∧ MapAt w' bs' cel (Xk vi s) ∧ ∀ k : ByteArray,(k ∈ q.1.map (fun x:ByteArray × Value => x.1) → q.2.1 k = Xy s k) ∧ (k ∉ q.1.map (fun x:ByteArray × Value => x.1) → q.2.1 k = [] ∧ Qc q.2.2 k = none))
  (fun _ => [(3,.pointer (some ⟨p',0,none⟩)),(26,.pointer (some ⟨r,0,none⟩))]) (fun q => L.length - q.1.length) ([],(fun _ => []),[]) ⟨hx1.trans hx2,hi2,⟨⟨by omega,by omega,by omega,by omega⟩,hr1.ext hx2,by simp,by simp,by simp,fun _ _ => rfl⟩,hh1.ext hx2,hs1.ext hx2,fun k => ⟨fun h => by simp at h,fun _ => ⟨rfl,rfl⟩⟩⟩ ⟨rfl,rfl,trivial⟩ ?_
 rintro ⟨vs,f,L'⟩ w4 ⟨hx4,hi4,hR4,hh4,hs4,hal⟩
 simp only at hi4 hR4 hal
 have hLl : (toV (Xy s) L).length = L.length := by simp [toV]
 (conv=>whnf);repeat(refine Sg ?_;(conv=>whnf))
 refine Qao hi4 (fun hp => ?_) (fun x w5 hin hnew hlt hi5 ho5 hen => ?_)
 · (conv=>whnf);repeat(refine Sg ?_;(conv=>whnf))
   constructor
   · intro hh; cases hh
   intro _
   (conv=>whnf);repeat(refine Sg ?_;(conv=>whnf))
   have hf : f = Xy s := funext fun k => by
    by_cases hk : k ∈ vs.map (fun x:ByteArray × Value => x.1)
    · exact (hal k).1 hk
    · rw [((hal k).2 hk).1]
      refine (hrows.all k ?_).symm
      cases hq : Qc L k with
      | none => rfl
      | some v =>
        exfalso
        refine hk ((hp.map (·.1)).mem_iff.2 (List.mem_map.2 ⟨(k,Value.slice v.1 (Xy s k).length v.2),?_,rfl⟩))
        unfold toV
        exact List.mem_map.2 ⟨(k,v),Xg hq,rfl⟩
   subst hf
   exact ⟨p',rfl,⟨bs',br',L',_,⟨by omega,by omega,n1⟩,hh4,hs4,hR4,fun k hk => ⟨hk.1,hk.2.1,hk.2.2.1⟩⟩,hx4⟩
 · obtain ⟨y,hy,rfl⟩ : ∃ y ∈ L,x = (y.1,Value.slice y.2.1 (Xy s y.1).length y.2.2) := by
    unfold toV at hin
    obtain ⟨y,hy,he⟩ := List.mem_map.1 hin
    exact ⟨y,hy,he.symm⟩
   have hx5 : Ext w w5 := ho5.ext hx4 (by have := hx1.size; omega)
   have hlt : vs.length < L.length := by omega
   have hrow : SlI w5 y.2.1 (Xy s y.1) := ((hrows.row y hy).1.sl Qct).ext hx5
   have hrne := hrows.ne y hy
   have hyl := hrl y.1
   have hR5 := hR4.keep (w1 := w5) (S' := fun k => w.heap.size ≤ k ∧ k ≠ p' ∧ k ≠ bs' ∧ k ≠ r) fun k hk hs => ⟨ho5.block k hs.2.2.2,hs⟩
   have hh5 := ho5.at_ hh4 (by omega)
   have hs5 := hs4.only ho5 (by omega)
   have hnk : y.1 ∉ vs.map (fun x:ByteArray × Value => x.1) := fun hk => by
    obtain ⟨v,hv,he⟩ := List.mem_map.1 hk
    exact hnew v hv he
   have hlk := ((hal y.1).2 hnk).2
   generalize hrw : Xy s y.1 = row at hrow hrne hyl hi5 hen
   (conv=>whnf);repeat(refine Sg ?_;(conv=>whnf))
   constructor
   · intro _
     (conv=>whnf);repeat(refine Sg ?_;(conv=>whnf))
     refine Xc (hen w5 rfl rfl) ?_
     (conv=>whnf);repeat(refine Sg ?_;(conv=>whnf))
     refine Dr .ext [0,1,2,3,4,5,6] [7] ?_;conv=>whnf
     have hxd : Ext w5 w5.drew := (Ext.refl w5).drew
     replace hi5 := hi5.ext hxd
     replace hR5 := hR5.keep (w1 := w5.drew) (S' := fun k => w.heap.size ≤ k ∧ k ≠ p' ∧ k ≠ bs' ∧ k ≠ r) fun k hk hs => ⟨hxd.block k hk,hs⟩
     replace hh5 := hh5.ext hxd
     replace hs5 := hs5.ext hxd
     replace hrow := hrow.ext hxd
     replace hx5 := hx5.trans hxd
     generalize w5.drew = w6 at hi5 hR5 hh5 hs5 hrow hx5 ⊢
     refine ⟨_,hh5.one rfl,?_⟩; (conv=>whnf);repeat(refine Sg ?_;(conv=>whnf))
     refine (Qt7 row y.2.1 y.2.2 w6 hrow hyl).mono ?_
     rintro _ w7 ⟨A',c',rfl,hown',hx7⟩
     refine ⟨hx7,?_⟩; (conv=>whnf);repeat(refine Sg ?_;(conv=>whnf))
     refine Qr Q0q (Qp Xi) (hR5.map.ext hx7) y.1 _ fun w8 hm8 ho8 => ?_
     have hR8 := hR5.insert hlk hrne hx7 hown' hm8 ho8
     have h1 := Qe2 hi5
     have h2 := hh5.lt
     have h3 := hs5.lt
     have h4 := hx5.size
     have h5 := hR5.map.lt
     (conv=>whnf);repeat(refine Sg ?_;(conv=>whnf))
     refine ⟨(vs ++ [(y.1,Value.slice y.2.1 row.length y.2.2)],Qho f y.1 row,Qz L' y.1 (A',c')),by simp; omega,⟨ho8.ext (hx5.trans hx7) (by omega),(hi5.ext hx7).keep (ho8.block br (by omega)) (ho8.block r (by omega)),hR8.keep fun k hk hs => ⟨rfl,?_⟩,ho8.at_ (hh5.ext hx7) (by omega),(hs5.ext hx7).only ho8 (by omega),fun k => ?_⟩,⟨rfl,rfl,trivial⟩⟩
     · rcases hs with hs | hs
       · exact hs
       · exact ⟨by omega,by omega,by omega,by omega⟩
     · show (k ∈ (vs ++ [(y.1,Value.slice y.2.1 row.length y.2.2)]).map (fun x:ByteArray × Value => x.1) → Qho f y.1 row k = Xy s k) ∧ (k ∉ (vs ++ [(y.1,Value.slice y.2.1 row.length y.2.2)]).map (fun x:ByteArray × Value => x.1) → Qho f y.1 row k = [] ∧ Qc (Qz L' y.1 (A',c')) k = none)
       rw [Q5,List.map_append,List.map_cons,List.map_nil,List.mem_append,List.mem_singleton]
       unfold Qho
       by_cases hk : k = y.1
       · subst hk
         rw [if_pos rfl,if_pos rfl]
         exact ⟨fun _ => hrw.symm,fun h => absurd (.inr rfl) h⟩
       · rw [if_neg hk,if_neg hk]
         exact ⟨fun h => (hal k).1 (h.elim id fun h => absurd h hk),fun h => (hal k).2 fun h2 => h (.inl h2)⟩
   · intro hh; cases hh
theorem Xan : Tryz.prog.underlying 39 = some (.pointer (Tryz.prog.pointee 39)) := by kernel_rfl
theorem Xao : Tryz.prog.underlying 43 = some (.pointer (Tryz.prog.pointee 43)) := by kernel_rfl
def Q6y (p:Nat) : List Value := [.pointer (some ⟨p,0,none⟩)]
theorem Qx9 (p:Nat) : (Q6y p).length = 1 := rfl
end Go.Proofs.YteabekcdcphjpaaGreatDoor
