import Derived.Test.YtopncieoolkhjaaGreatDoorHWp1
import Derived.Test.YtopncieoolkhjaaGreatDoorHWq2
import Derived.Test.YtopncieoolkhjaaGreatDoorGM
import Derived.Test.YtopncieoolkhjaaGreatDoorGK
/- Like texts,like counts; the names of the things that are listed (for WorldAlone). -/
set_option linter.unusedVariables false
set_option linter.unusedSimpArgs false
namespace Go.Proofs.YtopncieoolkhjaaGreatDoor
open Go.Se Go.RowKit
theorem Qia (l:List ByteArray) (A B:Option Addr) (c d:Nat) (w:World) (hs:SlT w A l) (hm:SlT w B l) (hl:l.length < 1000000) :
 Cal Tryz.prog 43 [.slice A l.length c,.slice B l.length d] w fun r w' => r = .bool true ∧ Ext w w' := by
 refine Fi Tryz.func43 rfl _ rfl rfl ?_;conv=>whnf
 constructor
 · intro h; simp at h
 intro _
 (conv=>whnf);repeat(refine Sg ?_;(conv=>whnf))
 refine Qe Qa (fun (k:Nat) w' => k ≤ l.length ∧ Ext w w')
  (fun k => [(0,.slice A l.length c),(1,.slice B l.length d),(5,.int .i64 (k:Nat))]) (fun k => l.length - k) 0 ⟨Nat.zero_le _,Ext.refl _⟩ ⟨rfl,rfl,rfl,trivial⟩ ?_
 rintro k w1 ⟨hk,hx⟩
 conv=>whnf
 constructor
 · intro hlt
   have hlt : k < l.length := by simpa using hlt
   obtain ⟨a,rfl,hc⟩ := (hs.ext hx).get hlt
   obtain ⟨b,rfl,hd⟩ := (hm.ext hx).get hlt
   generalize l[k] = x at hc hd
   (conv=>whnf);repeat(refine Sg ?_;(conv=>whnf))
   refine Dr .same [0,1,2,3,4,5,6,7,8] [] ?_;conv=>whnf
   have hxd : Ext w1 w1.drew := (Ext.refl w1).drew
   replace hc := hxd.cells hc
   replace hd := hxd.cells hd
   replace hx := hx.trans hxd
   generalize w1.drew = w2 at hc hd hx ⊢
   refine ⟨a,⟨rfl,by omega,by omega⟩,?_⟩;conv=>whnf
   refine ⟨.string x,Xj hc,?_⟩;conv=>whnf
   refine ⟨b,⟨rfl,by omega,by omega⟩,?_⟩;conv=>whnf
   refine ⟨.string x,Xj hd,?_⟩; (conv=>whnf);repeat(refine Sg ?_;(conv=>whnf))
   constructor
   · intro h; simp at h
   intro _
   (conv=>whnf);repeat(refine Sg ?_;(conv=>whnf))
   refine ⟨_,wrap_succ (by omega),?_⟩; (conv=>whnf);repeat(refine Sg ?_;(conv=>whnf))
   exact ⟨k + 1,by omega,⟨by omega,hx⟩,⟨rfl,rfl,rfl,trivial⟩⟩
 · intro _
   (conv=>whnf);repeat(refine Sg ?_;(conv=>whnf))
   exact ⟨rfl,hx⟩
theorem Q5z (a:Ct) (ox oy:Operand) : Qmv Tryz.prog 193 ox oy (.agg (Qlf a).toArray) (.agg (Qlf a).toArray) true := by
 have h := Qfa (ox := ox) (oy := oy) Qa st193 (xs := Qlf a) (ys := Qlf a) (b := decide (a.1 = a.1) && (decide (a.2 = a.2) && true)) rfl
 simpa using h
theorem Qq0 (l:List Ct) (A B:Option Addr) (c d:Nat) (w:World) (hs:Sl Qlf 2 w A l) (hm:Sl Qlf 2 w B l) (hl:l.length < 1000000000000) :
 Cal Tryz.prog 44 [.slice A l.length c,.slice B l.length d] w fun r w' => r = .bool true ∧ Ext w w' := by
 refine Fi Tryz.func44 rfl _ rfl rfl ?_;conv=>whnf
 constructor
 · intro h; simp at h
 intro _
 (conv=>whnf);repeat(refine Sg ?_;(conv=>whnf))
 refine Qe Qa (fun (k:Nat) w' => k ≤ l.length ∧ Ext w w')
  (fun k => [(0,.slice A l.length c),(1,.slice B l.length d),(5,.int .i64 (k:Nat))]) (fun k => l.length - k) 0 ⟨Nat.zero_le _,Ext.refl _⟩ ⟨rfl,rfl,rfl,trivial⟩ ?_
 rintro k w1 ⟨hk,hx⟩
 conv=>whnf
 constructor
 · intro hlt
   have hlt : k < l.length := by simpa using hlt
   obtain ⟨a,rfl,hc⟩ := (hs.ext hx).get hlt
   obtain ⟨b,rfl,hd⟩ := (hm.ext hx).get hlt
   generalize l[k] = x at hc hd
   (conv=>whnf);repeat(refine Sg ?_;(conv=>whnf))
   refine Dr .same [0,1,2,3,4,5,6,7,8] [] ?_;conv=>whnf
   have hxd : Ext w1 w1.drew := (Ext.refl w1).drew
   replace hc := hxd.cells hc
   replace hd := hxd.cells hd
   replace hx := hx.trans hxd
   generalize w1.drew = w2 at hc hd hx ⊢
   refine ⟨a,⟨rfl,by omega,by omega⟩,?_⟩;conv=>whnf
   refine ⟨Qlf x,⟨rfl,hc⟩,?_⟩;conv=>whnf
   refine ⟨b,⟨rfl,by omega,by omega⟩,?_⟩;conv=>whnf
   refine ⟨Qlf x,⟨rfl,hd⟩,?_⟩;conv=>whnf
   refine ⟨_,Q5z x _ _,?_⟩; (conv=>whnf);repeat(refine Sg ?_;(conv=>whnf))
   constructor
   · intro h; simp at h
   intro _
   (conv=>whnf);repeat(refine Sg ?_;(conv=>whnf))
   refine ⟨_,wrap_succ (by omega),?_⟩; (conv=>whnf);repeat(refine Sg ?_;(conv=>whnf))
   exact ⟨k + 1,by omega,⟨by omega,hx⟩,⟨rfl,rfl,rfl,trivial⟩⟩
 · intro _
   (conv=>whnf);repeat(refine Sg ?_;(conv=>whnf))
   exact ⟨rfl,hx⟩
theorem Qxz {F F' L:List Ct} (h:F.Perm L) (h':F'.Perm L) (hs:Srt Qtz F) (hs':Srt Qtz F') : F = F' := by
 refine Qmk (h.trans h'.symm) hs hs' fun x _ y _ h1 h2 => ?_
 unfold Qtz at h1 h2
 simp only [Bool.or_eq_false_iff,decide_eq_false_iff_not,Bool.and_eq_false_iff] at h1 h2
 have e2 : x.2 = y.2 := by omega
 have e1 : x.1 = y.1 := by
  have q1 : bLt x.1 y.1 = false := h1.2.elim (fun h => absurd e2 h) id
  have q2 : bLt y.1 x.1 = false := h2.2.elim (fun h => absurd e2.symm h) id
  exact Qbm q1 q2
 exact Prod.ext e1 e2
def Qf1 (cs:List Ev) (t:Int) (name:ByteArray) : Bool := (Qbn cs name t).2 && (Qbn cs name t).1.listed
theorem Q0m (it:It) (w:World) : Cal Tryz.prog 90 [.agg (itC it).toArray] w fun r w' => r = .bool true ∧ Ext w w' := by
 refine Fi Tryz.func90 rfl _ rfl rfl ?_;conv=>whnf
 intro b w1 hn; (conv=>whnf);repeat(refine Sg ?_;(conv=>whnf))
 exact ⟨rfl,hn.ext⟩
theorem Qzh {w:World} {S:Nat → Prop} {bm:Nat} {cs:List Ev} {L:List (ByteArray × (Option Addr × Nat))} (h:Qbx stC 9 189 w S bm (Q5 cs) L) : L.length ≤ cs.length := by
 have hn : (L.map (·.1)).Nodup := Qa8 h.keys
 have hs : ∀ x ∈ L.map (·.1),x ∈ cs.map (·.item) := fun x hx => by
  obtain ⟨y,hy,rfl⟩ := List.mem_map.1 hx
  have hne := h.ne y hy
  obtain ⟨s,hs⟩ := List.exists_mem_of_ne_nil _ hne
  obtain ⟨e,he,hi,_⟩ := (Qxv y.1 s.at_ cs).1 (List.mem_map.2 ⟨s,hs,rfl⟩)
  exact List.mem_map.2 ⟨e,he,hi⟩
 have := Qjf hn hs
 simpa using this
theorem Q1x {α:Type} (rows:ByteArray → List α) (L:List (ByteArray × (Option Addr × Nat))) : (toV rows L).map (·.1) = L.map (·.1) := by unfold toV; rw [List.map_map]; rfl
set_option maxHeartbeats 1000000 in
theorem Qxc (w:World) (S:Nat → Prop) (p:Nat) (cs:List Ev) (h:Qf9 w S p cs) (t:Int) (hl:∀ name,(Q5 cs name).length < 1000000000000) (hcl:cs.length < 100000) :
 Cal Tryz.prog 89 [.pointer (some ⟨p,0,none⟩),.int .i64 t,.func (.func 90) #[] #[]] w fun r w' => ∃ A c K,r = .slice A (Xn K).length c ∧ SlT w' A (Xn K) ∧ K.Nodup ∧ (∀ x,x ∈ K ↔ Qf1 cs t x = true) ∧ K.length < 1000000 ∧ Ext w w' := by
 obtain ⟨bm,L,hC⟩ := id h
 have hLl := Qzh hC.rows
 have hkn : (L.map (·.1)).Nodup := Qa8 hC.rows.keys
 have hin : ∀ x,Qf1 cs t x = true → x ∈ L.map (·.1) := fun x hx => by
  rw [Qt5]
  cases hq : Qd L x with
  | some v => rfl
  | none =>
    have h0 := hC.rows.all x hq
    unfold Qf1 Qbn at hx
    rw [h0] at hx
    simp at hx
 have hmap := hC.rows.map
 refine Fi Tryz.func89 rfl _ rfl rfl ?_;conv=>whnf
 refine ⟨.map (some bm),hC.head.one rfl,?_⟩; (conv=>whnf);repeat(refine Sg ?_;(conv=>whnf))
 refine map_range Qqa hmap fun w3 hi3 hx3 => ?_
 have hs3 : w.heap.size < w3.heap.size := hi3.lt
 generalize hr : w.heap.size = r at hi3 hs3 ⊢
 (conv=>whnf);repeat(refine Sg ?_;(conv=>whnf))
 refine Qe Qa (fun (q:List (ByteArray × Value) × Option Addr × Nat × List ByteArray) w' => Ext w w' ∧ Iter w' r bm Value.string (toV (Q5 cs) L) q.1 ∧ q.2.2.2 = (q.1.map (·.1)).filter (Qf1 cs t) ∧ q.1.length ≤ L.length ∧ Own Qcn 1 9 w3.heap.size w' q.2.1 q.2.2.1 q.2.2.2 ∧ w3.heap.size ≤ w'.heap.size)
  (fun | (vs,A,c,K) => [(0,.pointer (some ⟨p,0,none⟩)),(1,.int .i64 t),(2,.func (.func 90) #[] #[]),(7,.slice A K.length c),(15,.pointer (some ⟨r,0,none⟩))]) (fun q => L.length - q.1.length) ([],none,0,[]) ⟨hx3,hi3,rfl,Nat.zero_le _,Own.nil,Nat.le_refl _⟩ ⟨rfl,rfl,rfl,rfl,rfl,trivial⟩ ?_
 clear hi3 hx3
 rintro ⟨vs,A,c,K⟩ w4 ⟨hx4,hi4,hK,hvl,hown,h34⟩
 simp only at hi4 hK hvl hown
 have hKl : K.length ≤ vs.length := by
  rw [hK]
  have := List.length_filter_le (Qf1 cs t) (vs.map (·.1))
  rw [List.length_map] at this
  exact this
 conv=>whnf
 refine Qfw hi4 (fun hp => ?_) (fun x w5 hxin hnew hlt hi5 ho5 hen => ?_)
 · (conv=>whnf);repeat(refine Sg ?_;(conv=>whnf))
   constructor
   · intro hh; cases hh
   intro _
   have hpk : (vs.map (·.1)).Perm (L.map (·.1)) := by
    have := hp.map (·.1)
    rw [Q1x] at this
    exact this
   have hKn : K.Nodup := by rw [hK]; exact (hpk.nodup_iff.2 hkn).sublist List.filter_sublist
   have hKm : ∀ x,x ∈ K ↔ Qf1 cs t x = true := fun x => by
    rw [hK,List.mem_filter]
    exact ⟨fun h => h.2,fun h => ⟨hpk.mem_iff.2 (hin x h),h⟩⟩
   (conv=>whnf);repeat(refine Sg ?_;(conv=>whnf))
   refine (Qpv K A c w3.heap.size w4 hown (by omega)).mono ?_
   rintro _ w5 ⟨rfl,hsl,hx5⟩
   (conv=>whnf);repeat(refine Sg ?_;(conv=>whnf))
   refine ⟨A,c,K,?_,hsl,hKn,hKm,by omega,hx5 w hx4 (by omega)⟩
   rw [Qeb]
 · have hx5 := ho5.ext hx4 (by omega)
   have hown5 : Own Qcn 1 9 w3.heap.size w5 A c K := hown.keep fun a ha => ho5.block _ (by have := (hown.block ha).1; omega)
   have hlt : vs.length < L.length := by simpa [toV] using hlt
   have hsn : ((vs ++ [x]).map (·.1)).filter (Qf1 cs t) = K ++ if Qf1 cs t x.1 = true then [x.1] else [] := by
    rw [List.map_append,List.filter_append,hK]
    congr 1
    by_cases hq : Qf1 cs t x.1 = true
    · simp [hq]
    · simp [hq]
   have s5 := ho5.size
   (conv=>whnf);repeat(refine Sg ?_;(conv=>whnf))
   constructor
   · intro _
     (conv=>whnf);repeat(refine Sg ?_;(conv=>whnf))
     refine Qbt (hen w5 rfl rfl) ?_
     (conv=>whnf);repeat(refine Sg ?_;(conv=>whnf))
     refine (Qhk w5 S p cs (h.ext hx5) x.1 t (hl x.1)).mono ?_
     rintro _ w6 ⟨rfl,hx6⟩
     (conv=>whnf);repeat(refine Sg ?_;(conv=>whnf))
     intro b9 w7 hn7; (conv=>whnf);repeat(refine Sg ?_;(conv=>whnf))
     refine Qh Qa (e := ty187) rfl hn7.At rfl rfl rfl (by simp [Qj,itC,Value.oneCell']) fun w8 h9 ho8 => ?_
     have h9 : At w8 b9 187 (itC (Qbn cs x.1 t).1) := h9
     have hx58 : Ext w5 w8 := ho8.ext (hx6.trans hn7.ext) (by rw [hn7.block]; exact hx6.size)
     clear ho8 hn7 hx6
     (conv=>whnf);repeat(refine Sg ?_;(conv=>whnf))
     refine ⟨.bool (Qbn cs x.1 t).1.listed,fun _ => h9.one rfl,?_⟩; (conv=>whnf);repeat(refine Sg ?_;(conv=>whnf))
     refine ⟨itC (Qbn cs x.1 t).1,fun _ => ⟨rfl,h9.all⟩,?_⟩; (conv=>whnf);repeat(refine Sg ?_;(conv=>whnf))
     refine ⟨Unit,fun _ => (.bool true),fun _ w' => Ext w8 w',(),fun hg => ((Q0m (Qbn cs x.1 t).1 w8)).mono fun r w' h => ⟨(),h.1,h.2⟩,?_⟩
     intro _ w9 h2
     have hx89 : Ext w8 w9 := by
      rcases h2 with ⟨_,h⟩ | ⟨_,h⟩
      · exact h
      · rw [h]; exact Ext.refl _
     clear h2
     conv=>whnf
     have hx59 := hx58.trans hx89
     have hi9 := hi5.ext hx59
     have hown9 := hown5.ext hx59
     have hx9 := hx5.trans hx59
     have s9 := hx59.size
     clear hx58 hx89 h9 hi5 hown5
     (conv=>whnf);repeat(refine Sg ?_;(conv=>whnf))
     constructor
     · intro hq
       have hq : Qf1 cs t x.1 = true := by
        have : (((Qbn cs x.1 t).2 && (Qbn cs x.1 t).1.listed) && true) = true := hq
        rw [Bool.and_true] at this
        exact this
       rw [if_pos hq] at hsn
       (conv=>whnf);repeat(refine Sg ?_;(conv=>whnf))
       intro bb wb hnb; (conv=>whnf);repeat(refine Sg ?_;(conv=>whnf))
       refine Qn Qag (l := K) (news := [x.1]) rfl (hown9.ext hnb.ext) rfl (Qag.new1 (x := x.1) hnb) (by simp; omega) (by have := hnb.size; omega) fun A6 c6 w6 hown6 hg6 hA6 => ?_
       have hr6 : ∀ k,A.map (·.block) = some k → w3.heap.size ≤ k := Qz (hown9.ext hnb.ext)
       have hx6 : Ext w w6 := Ql (hx9.trans hnb.ext) hg6 (fun k hk => by have := hr6 k hk; omega)
       have hi6 : Iter w6 r bm Value.string (toV (Q5 cs) L) (vs ++ [x]) := by
        have hib := hi9.ext hnb.ext
        have hbl := hmap.lt
        exact hib.keep (hg6.block bm hib.map.lt fun e => by have := hr6 bm e.symm; omega) (hg6.block r hib.lt fun e => by have := hr6 r e.symm; omega)
       have sb := hnb.size
       have s6 := hg6.size
       generalize K ++ [x.1] = K2 at hown6 hsn ⊢
       (conv=>whnf);repeat(refine Sg ?_;(conv=>whnf))
       exact ⟨(vs ++ [x],A6,c6,K2),by simp; omega,⟨hx6,hi6,hsn.symm,by simp; omega,hown6,by omega⟩,⟨rfl,rfl,rfl,rfl,rfl,trivial⟩⟩
     · intro hq
       have hq : ¬ Qf1 cs t x.1 = true := fun h => by
        have : (((Qbn cs x.1 t).2 && (Qbn cs x.1 t).1.listed) && true) = false := hq
        rw [Bool.and_true] at this
        unfold Qf1 at h
        rw [this] at h
        cases h
       rw [if_neg hq,List.append_nil] at hsn
       (conv=>whnf);repeat(refine Sg ?_;(conv=>whnf))
       exact ⟨(vs ++ [x],A,c,K),by simp; omega,⟨hx9,hi9,hsn.symm,by simp; omega,hown9,by omega⟩,⟨rfl,rfl,rfl,rfl,rfl,trivial⟩⟩
   · intro hh; cases hh
theorem Qvx (w:World) (S:Nat → Prop) (p:Nat) (cs:List Ev) (h:Qf9 w S p cs) (t:Int) (hl:∀ name,(Q5 cs name).length < 1000000000000) (hcl:cs.length < 100000) :
 Cal Tryz.prog 47 [.pointer (some ⟨p,0,none⟩),.int .i64 t] w fun r w' => ∃ A c K,r = .slice A (Xn K).length c ∧ SlT w' A (Xn K) ∧ K.Nodup ∧ (∀ x,x ∈ K ↔ Qf1 cs t x = true) ∧ K.length < 1000000 ∧ Ext w w' := by
 refine Fi Tryz.func47 rfl _ rfl rfl ?_;conv=>whnf
 refine (Qxc w S p cs h t hl hcl).mono ?_
 rintro _ w2 ⟨A,c,K,rfl,h2,h3,h4,h5,h6⟩
 (conv=>whnf);repeat(refine Sg ?_;(conv=>whnf))
 exact ⟨A,c,K,rfl,h2,h3,h4,h5,h6⟩
end Go.Proofs.YtopncieoolkhjaaGreatDoor
