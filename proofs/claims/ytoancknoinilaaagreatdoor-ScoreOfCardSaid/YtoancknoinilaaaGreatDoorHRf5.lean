import Derived.Test.YtoancknoinilaaaGreatDoorHRf4
import Derived.Test.YtoancknoinilaaaGreatDoorGM
/- The reference's Taste and Raw: all raw points. -/
set_option linter.unusedVariables false
set_option linter.unusedSimpArgs false
namespace Go.Proofs.YtoancknoinilaaaGreatDoor
open Go.Se Go.RowKit
theorem Q3p : ∀ z : List Ev,(∀ e ∈ z,Xp e = true) → ∀ r ∈ Qcw z,Xp r.1 = true ∧ r.2.length ≤ 8 := by
 refine Qy (fun _ r hr => by simp [Qcw,Qt9] at hr) fun z e ih hm r hr => ?_
 rw [Qcg] at hr
 rcases List.mem_append.1 hr with hr | hr
 · exact ih (fun x hx => hm x (by simp [hx])) r hr
 · split at hr
   · rw [List.mem_singleton] at hr
     subst hr
     refine ⟨hm e (by simp),?_⟩
     show (Qku (Qz z) e).length ≤ 8
     unfold Qku
     split
     · simp
     · exact (Qkx e.item _ fun y hy => Qax (fun x hx => hm x (by simp [hx])) y (List.mem_filter.1 hy).1).2.2
   · simp at hr
set_option maxHeartbeats 2000000 in
theorem Qn3 (c:Cfg) (hcf:Qpu c = true) (l:List Ev) (A:Option Addr) (cap:Nat) (hcap:l.length ≤ cap) (person:ByteArray) (tags:List ByteArray) (B:Option Addr) (capB:Nat) (now:Int) (hn:0 ≤ now ∧ now ≤ 1099511627776) (w:World) (hs:SlE w A l) (hl:l.length < 1000) (hm:∀ e ∈ l,Xp e = true) (ht:SlT w B tags) (htl:tags.length ≤ 8) :
 Cal Tryz.prog 55 [Qwd c,.slice A l.length cap,.string person,.slice B tags.length capB,.int .i64 now] w fun r w' => r = .int .i64 (min (Qd9 (Qk7 c.half now (rowsOf (Qcw l) person)) tags) 1099511627776) ∧ Ext w w' := by
 obtain ⟨c1,c2,c3,c4,c5,c6,c7⟩ := Qqq hcf
 have hrok := Q3p l hm
 have hrl := Q0v l
 have hol := List.length_filter_le (fun r:Row => decide (r.1.person = person)) (Qcw l)
 have hfb := fun t => Qiu (half := c.half) (now := now) (R := rowsOf (Qcw l) person) (fun r hr => (hrok r (List.mem_filter.1 hr).1).1) t
 refine Fi Tryz.func55 rfl _ rfl rfl ?_;conv=>whnf
 intro b1 w1 hn1;conv=>whnf
 have h1 : At w1 b1 _ (Qju c) := hn1.At
 refine Dr .ext [0,2,3,4,5,1] [6,7] ?_;conv=>whnf
 have hx1 := hn1.ext.drew
 replace h1 := h1.ext (Ext.refl w1).drew
 generalize w1.drew = w2 at hx1 h1 ⊢
 refine ⟨.int .i64 c.half,h1.one rfl,?_⟩;conv=>whnf
 refine (Qxu l A cap w2 (hs.ext hx1) hcap hl hm).mono ?_
 rintro _ w3 ⟨A3,c3',D,rfl,hs3,hT3,hD3,hx3⟩
 refine ⟨hx3,?_⟩;conv=>whnf
 refine (Qn7 D (Qcw l) c.half now person A3 c3' w3 hs3 hT3 (by omega) hrok c1 hn).mono ?_
 rintro _ w4 ⟨A4,c4',L,rfl,hs4,hL,hLl,hx4⟩
 have hx04 := (hx1.trans hx3).trans hx4
 have hol : ((rowsOf (Qcw l) person).length : Int) ≤ 1000 := by unfold rowsOf; omega
 generalize hf : Qk7 c.half now (rowsOf (Qcw l) person) = f at hfb hL ⊢
 have hLb : ∀ x ∈ L,0 ≤ x.2 ∧ x.2 ≤ 5242880000 := fun x hx => by
  obtain ⟨h2,h3⟩ := hL.mem x hx
  have := (hfb x.1).2
  omega
 have hpb : ∀ j t,0 ≤ Qbr (L.take j) t ∧ Qbr (L.take j) t ≤ 5242880000 := fun j t => by
  refine Qqc (by omega) ?_ (fun x hx => hLb x (List.mem_of_mem_take hx)) t
  rw [List.map_take]
  exact hL.nodup.sublist (List.take_sublist _ _)
 rw [← Qz4 hL (fun t => (hfb t).1)]
 clear hL hf hfb hrok
 have ht4 := ht.ext hx04
 (conv=>whnf);repeat(refine Sg ?_;(conv=>whnf))
 refine Qg Qa (fun (q:Nat × Int) w' => q.1 ≤ tags.length ∧ q.2 = Qjf L (tags.take q.1) ∧ (0 ≤ q.2 ∧ q.2 ≤ q.1 * 5242880000) ∧ Ext w4 w')
  (fun | (i,n) => [(3,.slice B tags.length capB),(11,.slice A4 L.length c4'),(12,.int .i64 n),(13,.int .i64 (i:Nat))]) (fun q => tags.length - q.1) (0,0) ⟨Nat.zero_le _,by simp [Qjf],by simp,Ext.refl _⟩ ⟨rfl,rfl,rfl,rfl,trivial⟩ ?_
 rintro ⟨i,n⟩ w5 ⟨hi,hn',hnb,hx5⟩
 simp only at hi hn' hnb
 conv=>whnf
 constructor
 · intro hlt
   have hlt : i < tags.length := by simpa using hlt
   obtain ⟨a6,hA6,hc6⟩ := (ht4.ext hx5).get hlt
   subst hA6
   have htk : Qjf L (tags.take (i + 1)) = n + Qbr L tags[i] := by rw [List.take_succ_eq_append_getElem hlt,Qtm,← hn']
   generalize tags[i] = t at hc6 htk
   (conv=>whnf);repeat(refine Sg ?_;(conv=>whnf))
   refine Qg Qa (fun (q:Nat × Int) w' => q.1 ≤ L.length ∧ q.2 = n + Qbr (L.take q.1) t ∧ Ext w5 w')
    (fun | (j,m) => [(3,.slice (some a6) tags.length capB),(11,.slice A4 L.length c4'),(12,.int .i64 m),(13,.int .i64 (i:Nat)),(14,.int .i64 (j:Nat))]) (fun q => L.length - q.1) (0,n) ⟨Nat.zero_le _,by simp [Qbr],Ext.refl _⟩ ⟨rfl,rfl,rfl,rfl,rfl,trivial⟩ ?_
   rintro ⟨j,m⟩ w6 ⟨hj,hm',hx6⟩
   simp only at hj hm'
   conv=>whnf
   constructor
   · intro hlt2
     have hlt2 : j < L.length := by simpa using hlt2
     obtain ⟨a7,hA7,hc7⟩ := (hs4.ext (hx5.trans hx6)).get hlt2
     subst hA7
     have htk2 : Qbr (L.take (j + 1)) t = Qbr (L.take j) t + if L[j].1 = t then L[j].2 else 0 := by rw [List.take_succ_eq_append_getElem hlt2,Qsu]
     have hb1 := hpb j t
     have hb2 := hpb (j + 1) t
     have hc6' := hx6.cells hc6
     generalize L[j] = x at hc7 htk2
     (conv=>whnf);repeat(refine Sg ?_;(conv=>whnf))
     refine Dr .same [0,1,2,3,4,5,6,7,8,9] [] ?_;conv=>whnf
     have hxd := (Ext.refl w6).drew
     replace hx6 := hx6.trans hxd
     replace hc7 := hxd.cells hc7
     replace hc6' := hxd.cells hc6'
     generalize w6.drew = w7 at hx6 hc7 hc6' ⊢
     refine ⟨a7,⟨rfl,by omega,by omega⟩,?_⟩;conv=>whnf
     refine ⟨.string x.1,cells_at hc7 (k := 0) rfl,?_⟩;conv=>whnf
     refine ⟨a6,⟨rfl,by omega,by omega⟩,?_⟩;conv=>whnf
     refine ⟨.string t,Q5 hc6',?_⟩;conv=>whnf
     constructor
     · intro hq
       have hq : x.1 = t := by simpa using hq
       rw [if_pos hq] at htk2
       (conv=>whnf);repeat(refine Sg ?_;(conv=>whnf))
       refine ⟨a7,⟨rfl,by omega,by omega⟩,?_⟩; (conv=>whnf);repeat(refine Sg ?_;(conv=>whnf))
       refine ⟨.int .i64 x.2,cells_at hc7 (k := 1) rfl,?_⟩; (conv=>whnf);repeat(refine Sg ?_;(conv=>whnf))
       refine ⟨m + x.2,wrap_eq rfl ⟨by omega,by omega⟩,?_⟩; (conv=>whnf);repeat(refine Sg ?_;(conv=>whnf))
       refine ⟨_,wrap_succ (by omega),?_⟩; (conv=>whnf);repeat(refine Sg ?_;(conv=>whnf))
       exact ⟨(j + 1,m + x.2),by simp only; omega,⟨by simp only; omega,by simp only; omega,hx6⟩,⟨rfl,rfl,rfl,rfl,rfl,trivial⟩⟩
     · intro hq
       have hq : ¬ x.1 = t := by simpa using hq
       rw [if_neg hq] at htk2
       (conv=>whnf);repeat(refine Sg ?_;(conv=>whnf))
       refine ⟨_,wrap_succ (by omega),?_⟩; (conv=>whnf);repeat(refine Sg ?_;(conv=>whnf))
       exact ⟨(j + 1,m),by simp only; omega,⟨by simp only; omega,by simp only; omega,hx6⟩,⟨rfl,rfl,rfl,rfl,rfl,trivial⟩⟩
   · intro hge2
     have hge2 : L.length ≤ j := by simpa using hge2
     have hb := hpb j t
     rw [List.take_of_length_le hge2] at hm' hb
     (conv=>whnf);repeat(refine Sg ?_;(conv=>whnf))
     refine ⟨_,wrap_succ (by omega),?_⟩; (conv=>whnf);repeat(refine Sg ?_;(conv=>whnf))
     exact ⟨(i + 1,m),by simp only; omega,⟨by simp only; omega,by simp only; omega,by simp only; omega,hx5.trans hx6⟩,⟨rfl,rfl,rfl,rfl,trivial⟩⟩
 · intro hge
   have hge : tags.length ≤ i := by simpa using hge
   rw [List.take_of_length_le hge] at hn'
   rw [← hn']
   conv=>whnf
   refine (Qg1 _ w5).mono ?_
   rintro _ _ ⟨rfl,rfl⟩;conv=>whnf
   exact ⟨rfl,hx04.trans hx5⟩
theorem Q42 {c:Cfg} {z:List Ev} {person item:ByteArray} {now:Int} (hn:0 ≤ now ∧ now ≤ 1099511627776) (k:Nat) (hk:k < 6) : Qxc c z person item now (k:Int) = Qhe c z person item now k := by
 unfold Qxc
 rw [if_pos ⟨by omega,by omega,hn⟩,Int.toNat_natCast]
set_option maxHeartbeats 2000000 in
theorem Qz2 (c:Cfg) (hcf:Qpu c = true) (l:List Ev) (A:Option Addr) (cap:Nat) (hcap:l.length ≤ cap) (x:Int) (person item:ByteArray) (now:Int) (w:World) (hs:SlE w A l) (hl:l.length < 1000) (hm:∀ e ∈ l,Xp e = true) :
 Cal Tryz.prog 19 [Qwd c,.slice A l.length cap,.int .i64 x,.string person,.string item,.int .i64 now] w fun r w' => r = .int .i64 (Qxc c l person item now x) ∧ Ext w w' := by
 obtain ⟨c1,c2,c3,c4,c5,c6,c7⟩ := Qqq hcf
 have hhid := Qpk c1
 have hfl := List.length_filter_le wpB l
 refine Fi Tryz.func19 rfl _ rfl rfl ?_;conv=>whnf
 intro b1 w1 hn1;conv=>whnf
 have h1 : At w1 b1 _ (Qju c) := hn1.At
 have hx1 := hn1.ext
 clear hn1
 constructor
 · intro hc
   have hc : now < 0 ∨ 1099511627776 < now := by simpa using hc
   conv=>whnf
   refine ⟨?_,hx1⟩
   unfold Qxc
   rw [if_neg (by omega)]
 intro hc
 have hnow : 0 ≤ now ∧ now ≤ 1099511627776 := by
  have hc : (decide (now < 0) || decide (1099511627776 < now)) = false := hc
  simp at hc
  omega
 conv=>whnf
 refine (Qi7 l A cap w1 (hs.ext hx1) (by omega)).mono ?_
 rintro _ w2 ⟨A2,c2',rfl,hs2,hx2⟩;conv=>whnf
 refine (Qj3 (Qz l) item now A2 c2' w2 hs2 (by have := List.length_filter_le thB l; unfold Qz; omega) (fun y hy => (List.mem_filter.1 hy).2) (Qax hm)).mono ?_
 rintro _ w3 ⟨rfl,hx3⟩;conv=>whnf
 intro b4 w4 hn4;conv=>whnf
 refine Qd Qa (e := ty98) rfl hn4.At rfl rfl rfl (by simp [Qi,itC,Value.oneCell']) fun w5 h5 ho5 => ?_
 have h5 : At w5 b4 98 (itC (Qg5 l item now)) := h5
 have hx35 : Ext w3 w5 := ho5.ext hn4.ext (by rw [hn4.block]; exact Nat.le_refl _)
 have hx15 := (hx2.trans hx3).trans hx35
 have hx5 := hx1.trans hx15
 replace h1 := h1.ext hx15
 have hit := Qkx item ((Qz l).filter (thQ item now)) fun y hy => Qax hm y (List.mem_filter.1 hy).1
 have htz := Qji item ((Qz l).filter (thQ item now)) fun y hy => Qax hm y (List.mem_filter.1 hy).1
 have hbn := Qqh hm item now
 have hit : Q4t (Qu (Qfk (Qg5 l item now).tags)) := hit
 have htz : (Qg5 l item now).tags.size < 1000 := htz
 clear ho5 hn4 hs2 hx35 hx2 hx3 hx15
 have hrw : ∀ k : Nat,k < 6 → x = k → Qxc c l person item now x = Qhe c l person item now k := fun k hk e => by rw [e]; exact Q42 hnow k hk
 (conv=>whnf);repeat(refine Sg ?_;(conv=>whnf))
 constructor
 · intro h0
   have h0 : x = 0 := by simpa using h0
   rw [hrw 0 (by omega) h0]
   conv=>whnf
   refine ⟨.int .i64 c.half,h1.one rfl,?_⟩;conv=>whnf
   refine (Qpe l A cap c.half w5 (hs.ext hx5) hl hm).mono ?_
   rintro _ w6 ⟨p,rfl,hC,hx6⟩;conv=>whnf
   refine (Qyo w6 p c.half _ hC (fun y hy => by
    obtain ⟨e,he,rfl⟩ := List.mem_map.1 hy
    obtain ⟨he1,he2⟩ := List.mem_filter.1 he
    exact Q4c (hm e he1) he2) (by rw [List.length_map]; omega) c1 item now hnow).mono ?_
   rintro _ w7 ⟨rfl,hx7⟩
   rw [Qw3]
   conv=>whnf
   refine (Qg1 _ w7).mono ?_
   rintro _ _ ⟨rfl,rfl⟩;conv=>whnf
   refine ⟨?_,hx5.trans (hx6.trans hx7)⟩
   unfold Qhe
   rw [if_pos rfl,hhid]
 intro n0
 have n0 : ¬ x = 0 := by simpa using n0
 (conv=>whnf);repeat(refine Sg ?_;(conv=>whnf))
 constructor
 · intro h0
   have h0 : x = 1 := by simpa using h0
   rw [hrw 1 (by omega) h0]
   have hr1 : Qhe c l person item now 1 = if (Qg5 l item now).listed = true then min (Qd9 (Qk7 c.half now (rowsOf (Qcw l) person)) (Qu (Qfk (Qg5 l item now).tags))) 1099511627776 else 0 := by
    unfold Qhe
    rw [if_neg (by decide),if_pos rfl,hhid]
   rw [hr1]
   generalize Qg5 l item now = it at h5 hit htz hbn ⊢
   (conv=>whnf);repeat(refine Sg ?_;(conv=>whnf))
   refine ⟨.bool it.listed,h5.one rfl,?_⟩; (conv=>whnf);repeat(refine Sg ?_;(conv=>whnf))
   constructor
   · intro hli
     have hli : it.listed = true := hli
     rw [if_pos hli]
     (conv=>whnf);repeat(refine Sg ?_;(conv=>whnf))
     refine Dr .ext [0,1,2,3,4,5,7,6] [8,9] ?_;conv=>whnf
     have hxd := (Ext.refl w5).drew
     replace h1 := h1.ext hxd
     replace h5 := h5.ext hxd
     replace hx5 := hx5.trans hxd
     generalize w5.drew = w6 at h1 h5 hx5 ⊢
     refine ⟨Qju c,⟨rfl,h1.all⟩,?_⟩;conv=>whnf
     refine ⟨.string it.tags,h5.one rfl,?_⟩;conv=>whnf
     refine ⟨sz2 (by decide) (by omega),?_⟩;conv=>whnf
     refine (Qnk (Qfk it.tags) w6 (by unfold Qfk; rw [ByteArray.size_append]; have : (⟨#[59]⟩ : ByteArray).size = 1 := rfl; omega)).mono ?_
     rintro _ w7 ⟨A7,c7',rfl,hs7,hx7⟩
     refine ⟨hx7,?_⟩;conv=>whnf
     refine (Qn3 c hcf l A cap hcap person _ A7 c7' now hnow w7 (hs.ext (hx5.trans hx7)) hl hm hs7 hit.2.2).mono ?_
     rintro _ w8 ⟨rfl,hx8⟩;conv=>whnf
     exact ⟨rfl,(hx5.trans hx7).trans hx8⟩
   · intro hli
     have hli : it.listed = false := hli
     rw [hli]
     (conv=>whnf);repeat(refine Sg ?_;(conv=>whnf))
     exact ⟨rfl,hx5⟩
 intro n1
 have n1 : ¬ x = 1 := by simpa using n1
 (conv=>whnf);repeat(refine Sg ?_;(conv=>whnf))
 constructor
 · intro h0
   have h0 : x = 2 := by simpa using h0
   rw [hrw 2 (by omega) h0]
   (conv=>whnf);repeat(refine Sg ?_;(conv=>whnf))
   refine ⟨Qju c,⟨rfl,h1.all⟩,?_⟩; (conv=>whnf);repeat(refine Sg ?_;(conv=>whnf))
   refine (Q00 c hcf l A cap person item w5 (hs.ext hx5) hl hm).mono ?_
   rintro _ w6 ⟨rfl,hx6⟩; (conv=>whnf);repeat(refine Sg ?_;(conv=>whnf))
   refine ⟨?_,hx5.trans hx6⟩
   unfold Qhe
   rw [if_neg (by decide),if_neg (by decide),if_pos rfl]
 intro n2
 have n2 : ¬ x = 2 := by simpa using n2
 (conv=>whnf);repeat(refine Sg ?_;(conv=>whnf))
 constructor
 · intro h0
   have h0 : x = 3 := by simpa using h0
   rw [hrw 3 (by omega) h0]
   (conv=>whnf);repeat(refine Sg ?_;(conv=>whnf))
   refine ⟨Qju c,⟨rfl,h1.all⟩,?_⟩; (conv=>whnf);repeat(refine Sg ?_;(conv=>whnf))
   refine (Qrw c hcf l A cap item now hnow w5 (hs.ext hx5) hl hm).mono ?_
   rintro _ w6 ⟨rfl,hx6⟩; (conv=>whnf);repeat(refine Sg ?_;(conv=>whnf))
   refine ⟨?_,hx5.trans hx6⟩
   unfold Qhe
   rw [if_neg (by decide),if_neg (by decide),if_neg (by decide),if_pos rfl]
 intro n3
 have n3 : ¬ x = 3 := by simpa using n3
 (conv=>whnf);repeat(refine Sg ?_;(conv=>whnf))
 constructor
 · intro h0
   have h0 : x = 4 := by simpa using h0
   rw [hrw 4 (by omega) h0]
   have hr1 : Qhe c l person item now 4 = if (Qg5 l item now).listed = true ∧ Qmc l person (Qg5 l item now).maker = true then 1048576 else 0 := by
    unfold Qhe
    rw [if_neg (by decide),if_neg (by decide),if_neg (by decide),if_neg (by decide),if_pos rfl]
   rw [hr1]
   generalize Qg5 l item now = it at h5 hit htz hbn ⊢
   (conv=>whnf);repeat(refine Sg ?_;(conv=>whnf))
   refine ⟨.bool it.listed,h5.one rfl,?_⟩; (conv=>whnf);repeat(refine Sg ?_;(conv=>whnf))
   refine ⟨.string it.maker,fun _ => h5.one rfl,?_⟩; (conv=>whnf);repeat(refine Sg ?_;(conv=>whnf))
   refine ⟨Unit,fun _ => (.bool (Qmc l person it.maker)),fun _ w' => Ext w5 w',(),fun hg => ((Qnx l A cap person it.maker w5 (hs.ext hx5) (by omega))).mono fun r w' h => ⟨(),h.1,h.2⟩,?_⟩
   intro _ w6 h2
   have hx6 : Ext w5 w6 := by
    rcases h2 with ⟨_,h⟩ | ⟨_,h⟩
    · exact h
    · rw [h]; exact Ext.refl _
   clear h2
   conv=>whnf
   (conv=>whnf);repeat(refine Sg ?_;(conv=>whnf))
   constructor
   · intro hq
     have hq : it.listed = true ∧ Qmc l person it.maker = true := by simpa using hq
     rw [if_pos hq]
     (conv=>whnf);repeat(refine Sg ?_;(conv=>whnf))
     exact ⟨rfl,hx5.trans hx6⟩
   · intro hq
     have hq : ¬ (it.listed = true ∧ Qmc l person it.maker = true) := by
      have hq : (it.listed && Qmc l person it.maker) = false := hq
      rintro ⟨h1,h2⟩
      rw [h1,h2] at hq
      cases hq
     rw [if_neg hq]
     (conv=>whnf);repeat(refine Sg ?_;(conv=>whnf))
     exact ⟨rfl,hx5.trans hx6⟩
 intro n4
 have n4 : ¬ x = 4 := by simpa using n4
 (conv=>whnf);repeat(refine Sg ?_;(conv=>whnf))
 constructor
 · intro h0
   have h0 : x = 5 := by simpa using h0
   rw [hrw 5 (by omega) h0]
   have hr1 : Qhe c l person item now 5 = if (Qg5 l item now).listed = true then Q7 (now - (Qg5 l item now).born) c.half else 0 := by
    unfold Qhe
    rw [if_neg (by decide),if_neg (by decide),if_neg (by decide),if_neg (by decide),if_neg (by decide),if_pos rfl]
   rw [hr1]
   generalize Qg5 l item now = it at h5 hit htz hbn ⊢
   (conv=>whnf);repeat(refine Sg ?_;(conv=>whnf))
   refine ⟨.bool it.listed,h5.one rfl,?_⟩; (conv=>whnf);repeat(refine Sg ?_;(conv=>whnf))
   constructor
   · intro hli
     have hli : it.listed = true := hli
     rw [if_pos hli]
     (conv=>whnf);repeat(refine Sg ?_;(conv=>whnf))
     refine ⟨.int .i64 it.born,h5.one rfl,?_⟩; (conv=>whnf);repeat(refine Sg ?_;(conv=>whnf))
     refine ⟨now - it.born,wrap_eq rfl ⟨by omega,by omega⟩,?_⟩; (conv=>whnf);repeat(refine Sg ?_;(conv=>whnf))
     refine ⟨.int .i64 c.half,h1.one rfl,?_⟩; (conv=>whnf);repeat(refine Sg ?_;(conv=>whnf))
     refine (Qgm (now - it.born) c.half ⟨by omega,by omega⟩ (by omega) w5).mono ?_
     rintro _ w6 ⟨rfl,hw6⟩
     replace hw6 := hw6.symm
     subst hw6
     (conv=>whnf);repeat(refine Sg ?_;(conv=>whnf))
     exact ⟨rfl,hx5⟩
   · intro hli
     have hli : it.listed = false := hli
     rw [hli]
     (conv=>whnf);repeat(refine Sg ?_;(conv=>whnf))
     exact ⟨rfl,hx5⟩
 intro n5
 have n5 : ¬ x = 5 := by simpa using n5
 (conv=>whnf);repeat(refine Sg ?_;(conv=>whnf))
 refine ⟨?_,hx5⟩
 unfold Qxc
 rw [if_neg (by omega)]
end Go.Proofs.YtoancknoinilaaaGreatDoor
