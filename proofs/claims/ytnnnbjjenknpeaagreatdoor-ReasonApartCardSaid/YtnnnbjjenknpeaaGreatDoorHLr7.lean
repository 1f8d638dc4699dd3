import Derived.Test.YtnnnbjjenknpeaaGreatDoorHSam
import Derived.Test.YtnnnbjjenknpeaaGreatDoorGO
import Derived.Test.YtnnnbjjenknpeaaGreatDoorHRbd
import Derived.Test.YtnnnbjjenknpeaaGreatDoorHSe8
import Derived.Test.YtnnnbjjenknpeaaGreatDoorGT
/- The law ReasonApart. -/
set_option linter.unusedVariables false
set_option linter.unusedSimpArgs false
namespace Go.Proofs.YtnnnbjjenknpeaaGreatDoor
open Go.Se Go.RowKit
def zzB : ByteArray := ⟨#[122,122]⟩
def zzE (t:Int) : Ev := ⟨zzB,1,t,1,zzB,zzB,0,⟨#[]⟩⟩
theorem Q4n {t:Int} (h:0 ≤ t ∧ t ≤ 65535) : Xm (zzE t) = true := by
 have h1 : Qcl (zzE t) = Qcl (zzE 0) := rfl
 have h2 : Qcl (zzE 0) = true := by decide +kernel
 have h3 : Qm zzB = true := by decide +kernel
 exact Qcb.2 ⟨h3,⟨by show (1:Int) ≤ 1; omega,by show (1:Int) ≤ 1099511627776; omega⟩,⟨h.1,by show t ≤ 1099511627776; omega⟩,h1.trans h2⟩
theorem Q8a (t:Int) : wpB (zzE t) = true := by
 have h1 : wpB (zzE t) = wpB (zzE 0) := rfl
 rw [h1]
 decide +kernel
theorem Q3w {l:List Ev} {t:Int} (h:0 ≤ t ∧ t ≤ 65535) (hl:∀ e ∈ l,e.person ≠ zzB ∧ e.src ≠ zzB ∧ e.item ≠ zzB) : Apart l (zzE t) :=
 ⟨Q4n h,Q8a t,fun e he => (hl e he).2.1,fun e he => (hl e he).1,fun e he => (hl e he).2.2⟩
theorem Q7j {n:Int} (h:(Lit.int .u16 n).wf = true) : 0 ≤ n ∧ n ≤ 65535 := by
 simpa [Lit.wf,IntKind.min,IntKind.max,IntKind.signed,IntKind.bits] using h
theorem Q2h {c:Cfg} {l:List Ev} {person item:ByteArray} (h:Q34 c l person item = true) : item.size ≤ 60 := by
 unfold Q34 at h
 simp only [Bool.and_eq_true,decide_eq_true_eq] at h
 omega
theorem Qyy {c:Cfg} {l:List Ev} {person item:ByteArray} (h:Q34 c l person item = true) : ∀ e ∈ l,e.text.size < 1000000 := fun e he => by
 unfold Q34 at h
 simp only [Bool.and_eq_true,Bool.not_eq_true'] at h
 have h2 := h.1.1.1.2
 rw [List.any_eq_false] at h2
 have := h2 e he
 simp [Q15] at this
 omega
theorem wrap_in (x:Int) : -9223372036854775808 ≤ IntKind.i64.wrap x ∧ IntKind.i64.wrap x ≤ 9223372036854775807 := by
 simp only [IntKind.wrap,IntKind.bits,IntKind.signed]
 simp
 split <;> omega
theorem Q4l (l:List Pt) : -9223372036854775808 ≤ Qgh l ∧ Qgh l ≤ 9223372036854775807 := wrap_in _
theorem Q39 {F a:Nat → Int} (hF:∀ k,0 ≤ F k ∧ F k ≤ 1099511627776) : ∀ p ∈ Qlw F a 6,Q7r p := fun p hp => by
 unfold Qlw at hp
 obtain ⟨k,_,rfl⟩ := List.mem_map.1 hp
 have := hF k
 exact ⟨⟨by show _ ≤ F k; omega,by show F k ≤ _; omega⟩,wrap_in _⟩
theorem Qyw (c:Cfg) (z:List Ev) (item:ByteArray) (hz:z.length < 1000) : -9223372036854775808 ≤ Qkk c z item ∧ Qkk c z item ≤ 9223372036854775807 := by
 have h : Qpr (Qn c.width z).rs item = ((Qr9 (Xc z) item).length : Int) := Qgx c.width z item
 have h1 : ∀ z : List Ev,(Qr9 z item).length ≤ z.length := by
  refine Qq (by simp [Qr9]) fun z e ih => ?_
  rw [Qhm,List.length_append]
  unfold Qgw
  split
  · split
    · simp only [List.length_cons,List.length_nil]; omega
    · rw [List.length_append]; simp only [List.length_cons,List.length_nil]; omega
  · simp only [List.length_cons,List.length_nil]; omega
 have h2 := h1 (Xc z)
 have h3 : (Xc z).length ≤ z.length := List.length_filter_le peB z
 unfold Qkk
 rw [h]
 split <;> omega
theorem Q24 {c:Cfg} {z:List Ev} {person item:ByteArray} {now:Int} (h:∀ e ∈ z,e.text.size < 1000000) : ∀ e ∈ Qst c z person item now,e.text.size < 1000000 := fun e he => h e (Qsc (List.mem_filter.1 he).1).1
section
variable {α:Type} {enc:α → List Value} {sz te base:Nat} {w wc wd:World} {A:Option Addr} {c:Nat} {l:List α}
theorem Qzz (h:Own enc sz te base w A c l) {x:Addr} (hx:A = some x) : ∃ cur,w.heap[x.block]? = some (.cells cur te (0,0)) := by
 rcases h.2 with ⟨hv,h0⟩ | ⟨g,cap,cur,hv,hb,hg,h1⟩
 · injection hv with hv; rw [hx] at hv; cases hv
 · injection hv with hv
   rw [hx] at hv
   injection hv with hv
   subst hv
   exact ⟨cur,hg⟩
theorem own_ne {b t:Nat} {l1:List Value} (h:Own enc sz te base w A c l) (h1:At w b t l1) (ht:t ≠ te) : ∀ x,A = some x → x.block ≠ b := fun x hx e => by
 obtain ⟨cur,h2⟩ := Qzz h hx
 have h1 : w.heap[b]? = _ := h1
 rw [e,h1] at h2
 simp at h2
 exact ht h2.2
theorem Qx {b11 b12 t:Nat} {l1 l2:List Value} (q:Own enc sz te base w A c l) (h11:At w b11 t l1) (h12:At w b12 t l2) (ht:t ≠ te) (hoc:Only w wc b11) (hod:Only wc wd b12) : Own enc sz te base wd A c l :=
 (q.keep fun x hx => hoc.block x.block (own_ne q h11 ht x hx)).keep fun x hx => hod.block x.block (own_ne q h12 ht x hx)
theorem Qbb {S:Nat → Prop} (q:Own enc sz te base w A c l) (hm:Mod S w wc) (hS:∀ k,S k → k < base) : Own enc sz te base wc A c l :=
 q.keep fun x hx => hm.block x.block (q.block hx).2 fun h => by have := hS _ h; have := (q.block hx).1; omega
end
set_option maxHeartbeats 8000000 in
theorem reasonApart_spec (c:Cfg) (l:List Ev) (a:Nat → Int) (person item:ByteArray) (now:Int) (A:Option Addr) (cap:Nat) (t:Int) (w:World) (hg0:Gl w) (hnm:Q1w w) (ht:0 ≤ t ∧ t ≤ 65535) (hs:SlE w A l) :
 Cal Tryz.prog 8 [.agg (plC c A l.length cap a person item now).toArray,.int .u16 t] w fun r w' => r = .bool true ∧ Ext w w' := by
 have hsz := hg0.size
 refine Fi Tryz.func8 rfl _ rfl rfl ?_;conv=>whnf
 intro b1 w1 hn1; (conv=>whnf);repeat(refine Sg ?_;(conv=>whnf))
 have h1 : At w1 b1 28 (plC c A l.length cap a person item now) := hn1.At
 have hx := hn1.ext
 have g1 : w.heap.size ≤ b1 := by rw [hn1.block]; exact Nat.le_refl _
 clear hn1
 refine ⟨plC c A l.length cap a person item now,⟨rfl,h1.all⟩,?_⟩; (conv=>whnf);repeat(refine Sg ?_;(conv=>whnf))
 refine (Q2i c l A cap a person item now w1 (hs.ext hx)).mono ?_
 rintro _ w2 ⟨rfl,hx2⟩
 replace h1 := h1.ext hx2
 replace hx := hx.trans hx2
 clear hx2
 generalize hq : Q34 c l person item = q
 (conv=>whnf);repeat(refine Sg ?_;(conv=>whnf))
 refine ⟨.string person,fun _ => h1.one rfl,?_⟩; (conv=>whnf);repeat(refine Sg ?_;(conv=>whnf))
 constructor
 · intro _
   (conv=>whnf);repeat(refine Sg ?_;(conv=>whnf))
   refine (Qic w2 (hg0.ext hx)).mono ?_
   rintro _ w3 ⟨rfl,hx3⟩; (conv=>whnf);repeat(refine Sg ?_;(conv=>whnf))
   exact ⟨rfl,hx.trans hx3⟩
 intro hc
 have hc : q = true ∧ person ≠ zzB := by
  have hc : (!q || decide (person = zzB)) = false := hc
  simp only [Bool.or_eq_false_iff,Bool.not_eq_false',decide_eq_false_iff_not] at hc
  exact hc
 obtain ⟨hc,hpz⟩ := hc
 subst hc
 obtain ⟨hcf,hl,hm⟩ := Q6y hq
 have hit := Q2h hq
 have hlt := Qyy hq
 clear hq
 (conv=>whnf);repeat(refine Sg ?_;(conv=>whnf))
 refine ⟨plC c A l.length cap a person item now,⟨rfl,h1.all⟩,?_⟩; (conv=>whnf);repeat(refine Sg ?_;(conv=>whnf))
 refine (Q20 c l A cap a person item now w2 (hg0.ext hx) (hs.ext hx) hcf (by omega) hm).mono ?_
 rintro _ w3 ⟨p,T,rfl,hWT,hT,hx3⟩
 have l1 := h1.lt
 have g2 := hx.size
 have hTb : ¬ T b1 := fun h => by have := hT _ h; omega
 have hTw : ∀ k,T k → w.heap.size ≤ k := fun k hk => by have := hT k hk; omega
 replace h1 := h1.ext hx3
 replace hx := hx.trans hx3
 clear hx3 hT
 have hzl := Qjj l
 (conv=>whnf);repeat(refine Sg ?_;(conv=>whnf))
 refine ⟨.slice A l.length cap,h1.one rfl,?_⟩; (conv=>whnf);repeat(refine Sg ?_;(conv=>whnf))
 refine Qj Qa (fun (k:Nat) w' => k ≤ l.length ∧ Ext w3 w' ∧ ∀ e ∈ l.take k,e.person ≠ zzB ∧ e.src ≠ zzB ∧ e.item ≠ zzB)
  (fun k => [(1,.int .u16 t),(2,.pointer (some ⟨b1,0,none⟩)),(5,.pointer (some ⟨p,0,none⟩)),(25,.slice A l.length cap),(26,.int .i64 l.length),(27,.int .i64 (k:Nat))]) (fun k => l.length - k) 0 ⟨Nat.zero_le _,Ext.refl _,by simp⟩ ⟨rfl,rfl,rfl,rfl,rfl,rfl,trivial⟩ ?_
 rintro k w4 ⟨hk,hx4,hall⟩
 conv=>whnf
 constructor
 · intro hlt'
   have hlt' : k < l.length := by simpa using hlt'
   obtain ⟨a5,hA5,hc5⟩ := (hs.ext (hx.trans hx4)).get hlt'
   subst hA5
   have htk := Qem l k hlt'
   generalize l[k] = e at hc5 htk
   (conv=>whnf);repeat(refine Sg ?_;(conv=>whnf))
   refine ⟨a5,⟨rfl,by omega,by omega⟩,?_⟩; (conv=>whnf);repeat(refine Sg ?_;(conv=>whnf))
   refine ⟨evC e,⟨rfl,hc5⟩,?_⟩; (conv=>whnf);repeat(refine Sg ?_;(conv=>whnf))
   intro b7 w5 hn5; (conv=>whnf);repeat(refine Sg ?_;(conv=>whnf))
   refine Qc Qa (e := ty53) rfl hn5.At rfl rfl rfl (Qdh e) fun w6 h6 ho6 => ?_
   have h6 : At w6 b7 53 (evC e) := h6
   have hx46 : Ext w4 w6 := ho6.ext hn5.ext (by rw [hn5.block]; exact Nat.le_refl _)
   clear ho6 hn5
   (conv=>whnf);repeat(refine Sg ?_;(conv=>whnf))
   refine ⟨.string e.person,h6.one rfl,?_⟩; (conv=>whnf);repeat(refine Sg ?_;(conv=>whnf))
   refine ⟨.string e.src,fun _ => h6.one rfl,?_⟩; (conv=>whnf);repeat(refine Sg ?_;(conv=>whnf))
   refine ⟨.string e.item,fun _ => h6.one rfl,?_⟩; (conv=>whnf);repeat(refine Sg ?_;(conv=>whnf))
   constructor
   · intro _
     (conv=>whnf);repeat(refine Sg ?_;(conv=>whnf))
     refine (Qic w6 (hg0.ext ((hx.trans hx4).trans hx46))).mono ?_
     rintro _ w7 ⟨rfl,hx7⟩; (conv=>whnf);repeat(refine Sg ?_;(conv=>whnf))
     exact ⟨rfl,((hx.trans hx4).trans hx46).trans hx7⟩
   · intro hno
     have hno : e.person ≠ zzB ∧ e.src ≠ zzB ∧ e.item ≠ zzB := by
      have hno : ((decide (e.person = zzB) || decide (e.src = zzB)) || decide (e.item = zzB)) = false := hno
      simp only [Bool.or_eq_false_iff,decide_eq_false_iff_not] at hno
      exact ⟨hno.1.1,hno.1.2,hno.2⟩
     (conv=>whnf);repeat(refine Sg ?_;(conv=>whnf))
     refine ⟨_,wrap_succ (by omega),?_⟩; (conv=>whnf);repeat(refine Sg ?_;(conv=>whnf))
     refine ⟨k + 1,by omega,⟨by omega,hx4.trans hx46,fun x hx' => ?_⟩,⟨rfl,rfl,rfl,rfl,rfl,rfl,trivial⟩⟩
     rw [htk] at hx'
     rcases List.mem_append.1 hx' with h | h
     · exact hall x h
     · rw [List.mem_singleton] at h; rw [h]; exact hno
 · intro hge
   have hge : l.length ≤ k := by simpa using hge
   rw [List.take_of_length_le hge] at hall
   have hap := Q3w ht hall
   have hZ := Q4t hm hap
   have hs4 := hs.ext (hx.trans hx4)
   have s3 := hx.size
   have s4 := hx4.size
   replace h1 := h1.ext hx4
   replace hWT := hWT.ext hx4
   replace hx := hx.trans hx4
   have hTl4 := hWT.lt
   clear hge hk hx4 hs
   (conv=>whnf);repeat(refine Sg ?_;(conv=>whnf))
   refine ⟨_,Qad Q6a _ _ _,?_⟩; (conv=>whnf);repeat(refine Sg ?_;(conv=>whnf))
   constructor
   · intro h; simp at h
   intro _
   (conv=>whnf);repeat(refine Sg ?_;(conv=>whnf))
   refine ⟨t,wrap_eq rfl ⟨by omega,by omega⟩,?_⟩; (conv=>whnf);repeat(refine Sg ?_;(conv=>whnf))
   intro b8 w5 hn5; (conv=>whnf);repeat(refine Sg ?_;(conv=>whnf))
   refine Qc Qa (e := ty53) rfl hn5.At rfl rfl rfl (Qdh (zzE t)) fun u6 h8 ho6 => ?_
   have h8 : At u6 b8 53 (evC (zzE t)) := h8
   have hx46 : Ext w4 u6 := ho6.ext hn5.ext (by rw [hn5.block]; exact Nat.le_refl _)
   clear ho6 hn5
   have hs6 := hs4.ext hx46
   replace h1 := h1.ext hx46
   replace hWT := hWT.ext hx46
   replace hx := hx.trans hx46
   have s6 := hx46.size
   have hTl6 : ∀ k,T k → k < u6.heap.size := fun k hk => by have := hTl4 k hk; omega
   have hll : (l ++ [zzE t]).length = l.length + 1 := by simp
   have hlm : ∀ e ∈ l ++ [zzE t],Xm e = true := fun e he => (List.mem_append.1 he).elim (hm e) fun h => by rw [List.mem_singleton] at h; rw [h]; exact Q4n ht
   have hzl2 := Qjj (l ++ [zzE t])
   clear hs4 hx46
   (conv=>whnf);repeat(refine Sg ?_;(conv=>whnf))
   refine Qlc (ι := Nat) (fun p2 => [(2,.pointer (some ⟨b1,0,none⟩)),(5,.pointer (some ⟨p,0,none⟩)),(9,.pointer (some ⟨p2,0,none⟩)),(10,.int .i64 0)]) (fun p2 w' => (∃ Tv,WT w' Tv p2 c (Xq (l ++ [zzE t])) ∧ ∀ k,Tv k → u6.heap.size ≤ k) ∧ Ext u6 w') ?_ ?_
   · refine Qki (.mods (fun k => u6.heap.size ≤ k)) (Pl.seq [0,1,3,4,6] (Pl.two 2 (Pl.seq [] (Pl.two 5 (Pl.seq [7,8,9,10,11,12,13,14] Pl.done) 7 (Pl.seq [5,8,9,10,11,12,13,14] Pl.done))) 7 (Pl.seq [2,5,8,9,10,11,12,13,14] Pl.done))) (by intro h; cases h) Qa mixed (by kernel_rfl) ?_;conv=>whnf
     have l1 := h1.lt
     have l8 := h8.lt
     have hE : Ext u6 u6.drew := (Ext.refl u6).drew
     have h1d := h1.ext hE
     have h8d := h8.ext hE
     generalize u6.drew = wd at hE h1d h8d ⊢
     refine ⟨Qph c,⟨rfl,Qz7 h1d,by show ¬ (u6.heap.size ≤ b1); omega⟩,?_⟩;conv=>whnf
     refine ⟨.slice A l.length cap,⟨h1d.one rfl,by show ¬ (u6.heap.size ≤ b1); omega⟩,?_⟩;conv=>whnf
     refine ⟨evC (zzE t),⟨rfl,h8d.all,by show ¬ (u6.heap.size ≤ b8); omega⟩,?_⟩;conv=>whnf
     have hE := hE
     refine ⟨?_,?_⟩
     · intro b6 w6 hn6
       have o6 := (Qfr).made (base := u6.heap.size) hn6 hE.size
       have hE := hE.trans hn6.ext
       refine ⟨Mod.of_ext hn6.ext,?_⟩;conv=>whnf
       refine ⟨?_,?_⟩
       · refine Xt Qfr (l := []) (news := l) rfl o6 (rfl) ((hs6).ext hE) (by simp; omega) hE.size fun A7 c7 w7 hown7 hg7 hA7 => ?_
         have hE := Xp hE hg7 (Qbe o6)
         refine ⟨Xd hg7 (Qbe o6),?_⟩;conv=>whnf
         intro b8 w8 hn8
         have h8 := (Qfr).new1 (x := (zzE t)) hn8
         have hown7 := hown7.ext hn8.ext
         have hE := hE.trans hn8.ext
         refine ⟨Mod.of_ext hn8.ext,?_⟩;conv=>whnf
         refine Xt Qfr (l := l) (news := [(zzE t)]) rfl hown7 rfl h8 (by simp; omega) hE.size fun A9 c9 w9 hown9 hg9 hA9 => ?_
         have hE := Xp hE hg9 (Qbe hown7)
         refine ⟨Xd hg9 (Qbe hown7),?_⟩;conv=>whnf
         generalize l ++ [zzE t] = L9 at hown9 hll hlm ⊢
         refine (Qfi c hcf L9 A9 c9 _ (hg0.ext (hx.trans hE)) (hown9.sl Qak) (by omega) hlm).mono ?_
         rintro _ w10 ⟨p2,rfl,hW10,hx10⟩
         obtain ⟨Tv,hWV,hVk⟩ := hW10.t
         have s10 := hE.size
         refine ⟨Mod.of_ext hx10,?_⟩;conv=>whnf
         exact ⟨p2,⟨⟨Tv,hWV,fun k hk => by have := hVk k hk; omega⟩,hE.trans hx10⟩,⟨rfl,rfl,rfl,rfl,trivial⟩⟩
       · intro b8 w8 hn8
         have h8 := (Qfr).new1 (x := (zzE t)) hn8
         have o6 := o6.ext hn8.ext
         have hE := hE.trans hn8.ext
         refine ⟨Mod.of_ext hn8.ext,?_⟩;conv=>whnf
         refine Xt Qfr (l := []) (news := l) rfl o6 (rfl) ((hs6).ext hE) (by simp; omega) hE.size fun A7 c7 w7 hown7 hg7 hA7 => ?_
         have h8 := Qon h8 (w1 := w7) (fun a' ha' => by
          obtain rfl : (⟨b8,0,none⟩ : Addr) = a' := by simpa using ha'
          exact hg7.block b8 (by rw [hn8.block]; have := hn6.size; have := hn8.size; omega) (fun e' => by
           have h68 : b8 = b6 := by simpa using e'
           have := hn6.size
           have := hn8.size
           rw [hn6.block,hn8.block] at h68
           omega))
         have hE := Xp hE hg7 (Qbe o6)
         refine ⟨Xd hg7 (Qbe o6),?_⟩;conv=>whnf
         refine Xt Qfr (l := l) (news := [(zzE t)]) rfl hown7 rfl h8 (by simp; omega) hE.size fun A9 c9 w9 hown9 hg9 hA9 => ?_
         have hE := Xp hE hg9 (Qbe hown7)
         refine ⟨Xd hg9 (Qbe hown7),?_⟩;conv=>whnf
         generalize l ++ [zzE t] = L9 at hown9 hll hlm ⊢
         refine (Qfi c hcf L9 A9 c9 _ (hg0.ext (hx.trans hE)) (hown9.sl Qak) (by omega) hlm).mono ?_
         rintro _ w10 ⟨p2,rfl,hW10,hx10⟩
         obtain ⟨Tv,hWV,hVk⟩ := hW10.t
         have s10 := hE.size
         refine ⟨Mod.of_ext hx10,?_⟩;conv=>whnf
         exact ⟨p2,⟨⟨Tv,hWV,fun k hk => by have := hVk k hk; omega⟩,hE.trans hx10⟩,⟨rfl,rfl,rfl,rfl,trivial⟩⟩
     · intro b8 w8 hn8
       have h8 := (Qfr).new1 (x := (zzE t)) hn8
       have hE := hE.trans hn8.ext
       refine ⟨Mod.of_ext hn8.ext,?_⟩;conv=>whnf
       intro b6 w6 hn6
       have o6 := (Qfr).made (base := u6.heap.size) hn6 hE.size
       have hE := hE.trans hn6.ext
       have h8 := h8.ext hn6.ext
       refine ⟨Mod.of_ext hn6.ext,?_⟩;conv=>whnf
       refine Xt Qfr (l := []) (news := l) rfl o6 (rfl) ((hs6).ext hE) (by simp; omega) hE.size fun A7 c7 w7 hown7 hg7 hA7 => ?_
       have h8 := Qon h8 (w1 := w7) (fun a' ha' => by
        obtain rfl : (⟨b8,0,none⟩ : Addr) = a' := by simpa using ha'
        exact hg7.block b8 (by rw [hn8.block]; have := hn6.size; have := hn8.size; omega) (fun e' => by
         have h68 : b8 = b6 := by simpa using e'
         have := hn6.size
         have := hn8.size
         rw [hn6.block,hn8.block] at h68
         omega))
       have hE := Xp hE hg7 (Qbe o6)
       refine ⟨Xd hg7 (Qbe o6),?_⟩;conv=>whnf
       refine Xt Qfr (l := l) (news := [(zzE t)]) rfl hown7 rfl h8 (by simp; omega) hE.size fun A9 c9 w9 hown9 hg9 hA9 => ?_
       have hE := Xp hE hg9 (Qbe hown7)
       refine ⟨Xd hg9 (Qbe hown7),?_⟩;conv=>whnf
       generalize l ++ [zzE t] = L9 at hown9 hll hlm ⊢
       refine (Qfi c hcf L9 A9 c9 _ (hg0.ext (hx.trans hE)) (hown9.sl Qak) (by omega) hlm).mono ?_
       rintro _ w10 ⟨p2,rfl,hW10,hx10⟩
       obtain ⟨Tv,hWV,hVk⟩ := hW10.t
       have s10 := hE.size
       refine ⟨Mod.of_ext hx10,?_⟩;conv=>whnf
       exact ⟨p2,⟨⟨Tv,hWV,fun k hk => by have := hVk k hk; omega⟩,hE.trans hx10⟩,⟨rfl,rfl,rfl,rfl,trivial⟩⟩
   rintro p2 w7 ⟨⟨Tv,hV,hVk⟩,hx67⟩
   have hW := hWT.ext hx67
   have l1 := h1.lt
   have l16 : b1 < u6.heap.size := l1
   replace h1 := h1.ext hx67
   replace hx := hx.trans hx67
   have s7 := hx67.size
   have hVl := hV.lt
   have hTl : ∀ k,T k → k < w7.heap.size := fun k hk => by have := hTl6 k hk; omega
   have hdis : ∀ k,T k → ¬ Tv k := fun k hk hv => by have := hTl6 k hk; have := hVk k hv; omega
   have hVb : ¬ Tv b1 := fun h => by have := hVk _ h; omega
   have hok : Q6f c (Xq l) := ⟨hcf,by omega⟩
   have hokv : Q6f c (Xq (l ++ [zzE t])) := ⟨hcf,by omega⟩
   have hT10 : ∀ k,T k → 10 ≤ k := fun k hk => by have := hTw k hk; omega
   have s6w : w.heap.size ≤ u6.heap.size := by omega
   have hV10 : ∀ k,Tv k → 10 ≤ k := fun k hk => by have := hVk k hk; omega
   have hSw : ∀ k,(T k ∨ Tv k ∨ w7.heap.size ≤ k) → w.heap.size ≤ k := fun k hk => by
    rcases hk with h | h | h
    · exact hTw k h
    · have := hVk k h; omega
    · omega
   have hg7 := hg0.ext hx
   have hgm : ∀ {u:World},Mod (fun k => T k ∨ Tv k ∨ w7.heap.size ≤ k) w7 u → Gl u := fun hM => hg7.mod hM fun k hk => by have := hSw k hk; omega
   have hzm : ∀ e ∈ Xq l,Xm e = true := fun e he => hm e (Qce he)
   have hzvm : ∀ e ∈ Xq (l ++ [zzE t]),Xm e = true := fun e he => hlm e (Qce he)
   have hF1 : ∀ k : Nat,0 ≤ Qoh c (Xq l) person item now k ∧ Qoh c (Xq l) person item now k ≤ 1099511627776 := fun k => Qqm hzm (by have := (Qqt c (Xq l) (by omega) hzm).1; omega) person item now k
   have hF2 : ∀ k : Nat,0 ≤ Qoh c (Xq (l ++ [zzE t])) person item now k ∧ Qoh c (Xq (l ++ [zzE t])) person item now k ≤ 1099511627776 := fun k => Qqm hzvm (by have := (Qqt c (Xq (l ++ [zzE t])) (by omega) hzvm).1; omega) person item now k
   have hQ1 := Q39 (a := a) hF1
   have hQ2 := Q39 (a := a) hF2
   have hf1 := Qyw c (Xq l) item (by omega)
   have hf2 := Qyw c (Xq (l ++ [zzE t])) item (by omega)
   have hot : ∀ e ∈ Qst c (Xq l) person item now,e.text.size < 1000000 := Q24 fun e he => hlt e (Qce he)
   have hol := Q5q c (Xq l) person item now
   have hOe := hZ.own c hpz item now
   have hFe : item ≠ zzB → Qoh c (Xq (l ++ [zzE t])) person item now = Qoh c (Xq l) person item now := fun h => funext fun k => hZ.rawx c hpz h now k
   have hfe : item ≠ zzB → Qkk c (Xq (l ++ [zzE t])) item = Qkk c (Xq l) item := fun h => by
    have h2 : Qpr (Qn c.width (Xq (l ++ [zzE t]))).rs item = Qpr (Qn c.width (Xq l)).rs item := hZ.fans c.width h
    unfold Qkk
    rw [h2]
   have hcW := fun {u:World} (hW:WT u T p c (Xq l)) (hg:Gl u) => Qey hW hok hg hT10 a person item now
   have hcV := fun {u:World} (hV:WT u Tv p2 c (Xq (l ++ [zzE t]))) (hg:Gl u) => Qey hV hokv hg hV10 a person item now
   simp only [hOe] at hcV
   have hQe : item ≠ zzB → Qlw (Qoh c (Xq (l ++ [zzE t])) person item now) a 6 = Qlw (Qoh c (Xq l) person item now) a 6 := fun h => by rw [hFe h]
   have hl1 : (Qlw (Qoh c (Xq l) person item now) a 6).length = 6 := Qod _ _ _
   have hl2 : (Qlw (Qoh c (Xq (l ++ [zzE t])) person item now) a 6).length = 6 := Qod _ _ _
   generalize Qlw (Qoh c (Xq (l ++ [zzE t])) person item now) a 6 = Q2 at hcV hQ2 hQe hl2
   generalize Qlw (Qoh c (Xq l) person item now) a 6 = Q1 at hcW hQ1 hQe hl1
   generalize Qkk c (Xq (l ++ [zzE t])) item = f2 at hcV hf2 hfe
   generalize Qkk c (Xq l) item = f1 at hcW hf1 hfe
   generalize Qst c (Xq l) person item now = O at hcW hcV hot hol
   generalize Xq (l ++ [zzE t]) = z2 at hV hcV
   generalize Xq l = z1 at hW hcW hol hzl
   have hO1000 : O.length ≤ 1000 := by omega
   clear hWT hx67 h8 hs6 hZ hap hall hlt hzm hzvm hF1 hF2 hOe hFe hok hokv hT10 hV10 hlm hll hzl2 hm hTl6 hTl4 hol hzl
   (conv=>whnf);repeat(refine Sg ?_;(conv=>whnf))
   refine ⟨_,fun _ => Qad Q6a _ _ _,?_⟩; (conv=>whnf);repeat(refine Sg ?_;(conv=>whnf))
   constructor
   · intro h; simp at h
   intro _
   (conv=>whnf);repeat(refine Sg ?_;(conv=>whnf))
   refine Qlc (ι := Option Addr × Nat × Option Addr × Nat × Option Addr × Nat × Option Addr × Nat × Nat × Nat) (fun q => [(2,.pointer (some ⟨b1,0,none⟩)),(11,.pointer (some ⟨q.2.2.2.2.2.2.2.2.1,0,none⟩)),(12,.pointer (some ⟨q.2.2.2.2.2.2.2.2.2,0,none⟩))])
    (fun | (A1,c1,A2,c2,B1,d1,B2,d2,b11,b12),w' => Own ptC 3 43 w7.heap.size w' A1 c1 Q1 ∧ Own evC 8 53 w7.heap.size w' A2 c2 O ∧ Own ptC 3 43 w7.heap.size w' B1 d1 Q2 ∧ Own evC 8 53 w7.heap.size w' B2 d2 O ∧ At w' b11 36 (rsC item A1 6 c1 (Qgh Q1) A2 O.length c2 f1) ∧ At w' b12 36 (rsC item B1 6 d1 (Qgh Q2) B2 O.length d2 f2) ∧ Mod (fun k => T k ∨ Tv k ∨ w7.heap.size ≤ k) w7 w') ?_ ?_
   · refine Qmh (.mods (fun k => T k ∨ Tv k ∨ w7.heap.size ≤ k)) (Pq.seq [0,1,2,3,4,5,6,7,8,10,11,12,13,14,15,16,17,18] (Pq.three 9 (Pq.three 19 (Pq.two 20 (Pq.one 21 (Pq.seq [22,23] Pq.done)) 21 (Pq.one 20 (Pq.seq [22,23] Pq.done))) 20 (Pq.two 19 (Pq.one 21 (Pq.seq [22,23] Pq.done)) 21 (Pq.one 19 (Pq.seq [22,23] Pq.done))) 21 (Pq.two 19 (Pq.one 20 (Pq.seq [22,23] Pq.done)) 20 (Pq.one 19 (Pq.seq [22,23] Pq.done)))) 20 (Pq.two 9 (Pq.two 19 (Pq.one 21 (Pq.seq [22,23] Pq.done)) 21 (Pq.one 19 (Pq.seq [22,23] Pq.done))) 21 (Pq.one 9 (Pq.one 19 (Pq.seq [22,23] Pq.done)))) 21 (Pq.two 9 (Pq.two 19 (Pq.one 20 (Pq.seq [22,23] Pq.done)) 20 (Pq.one 19 (Pq.seq [22,23] Pq.done))) 20 (Pq.one 9 (Pq.one 19 (Pq.seq [22,23] Pq.done)))))) (by intro h; cases h) Qa mixed (by kernel_rfl) ?_;conv=>whnf
     have l1 := h1.lt
     have hE : Mod (fun k => T k ∨ Tv k ∨ w7.heap.size ≤ k) w7 w7.drew := Mod.of_ext (Ext.refl w7).drew
     have h1d := h1.ext (Ext.refl w7).drew
     have hW := hW.ext (Ext.refl w7).drew
     have hV := hV.ext (Ext.refl w7).drew
     have hb1s : ¬ (T b1 ∨ Tv b1 ∨ w7.heap.size ≤ b1) := by rintro (h | h | h); exact hTb h; exact hVb h; omega
     generalize w7.drew = wd at hE h1d hW hV ⊢
     refine ⟨wsC a,⟨rfl,Q7b h1d,hb1s⟩,?_⟩;conv=>whnf
     refine ⟨.string person,⟨h1d.one rfl,hb1s⟩,?_⟩;conv=>whnf
     refine ⟨.string item,⟨h1d.one rfl,hb1s⟩,?_⟩;conv=>whnf
     refine ⟨.int .i64 now,⟨h1d.one rfl,hb1s⟩,?_⟩;conv=>whnf
     refine ⟨wsC a,⟨rfl,Q7b h1d,hb1s⟩,?_⟩;conv=>whnf
     refine ⟨.string person,⟨h1d.one rfl,hb1s⟩,?_⟩;conv=>whnf
     refine ⟨.string item,⟨h1d.one rfl,hb1s⟩,?_⟩;conv=>whnf
     refine ⟨.int .i64 now,⟨h1d.one rfl,hb1s⟩,?_⟩;conv=>whnf
     refine ⟨?_,?_,?_⟩
     · refine (hcW hW (hgm hE)).mono ?_
       rintro _ wa ⟨A1,c1,A2,c2,T1,rfl,hp,ho,_,_,_,_,_,hm⟩
       have q1 := hp.base hE.size
       have o1 := ho.base hE.size
       have hV := hV.mod hm hdis
       have hE := hE.trans (hm.mono fun k _ h => .inl h)
       refine ⟨hm.mono fun k _ h => .inl h,?_⟩;conv=>whnf
       refine ⟨?_,?_,?_⟩
       · refine (hcV hV (hgm hE)).mono ?_
         rintro _ wb ⟨B1,d1,B2,d2,T2,rfl,hp,ho,_,_,_,_,_,hm⟩
         have q2 := hp.base hE.size
         have o2 := ho.base hE.size
         have q1 := Qbb q1 hm hVl
         have o1 := Qbb o1 hm hVl
         have hE := hE.trans (hm.mono fun k _ h => .inr (.inl h))
         refine ⟨hm.mono fun k _ h => .inr (.inl h),?_⟩;conv=>whnf
         refine ⟨?_,?_⟩
         · intro b11 wn hn
           have hb11 : w7.heap.size ≤ b11 := by rw [hn.block]; exact hE.size
           have q1 := q1.ext hn.ext
           have o1 := o1.ext hn.ext
           have q2 := q2.ext hn.ext
           have o2 := o2.ext hn.ext
           have h11 := hn.At
           have hE := hE.trans (Mod.of_ext hn.ext)
           refine ⟨Mod.of_ext hn.ext,?_⟩;conv=>whnf
           intro b12 wn hn
           have hb12 : w7.heap.size ≤ b12 := by rw [hn.block]; exact hE.size
           have hne : b11 ≠ b12 := by have := h11.lt; rw [hn.block]; omega
           have q1 := q1.ext hn.ext
           have o1 := o1.ext hn.ext
           have q2 := q2.ext hn.ext
           have o2 := o2.ext hn.ext
           have h11 := h11.ext hn.ext
           have h12 := hn.At
           have hE := hE.trans (Mod.of_ext hn.ext)
           refine ⟨Mod.of_ext hn.ext,?_⟩;conv=>whnf
           refine Qc Qa (e := ty36) rfl h11 rfl rfl rfl (by simp [Qh,rsC,Value.oneCell']) fun wc k11 hoc => ?_
           refine ⟨Qe hoc (.inr (.inr hb11)),?_⟩;conv=>whnf
           refine Qc Qa (e := ty36) rfl ((hoc.block b12 hne.symm).trans h12) rfl rfl rfl (by simp [Qh,rsC,Value.oneCell']) fun wd k12 hod => ?_
           refine ⟨Qe hod (.inr (.inr hb12)),?_⟩;conv=>whnf
           exact ⟨(A1,c1,A2,c2,B1,d1,B2,d2,b11,b12),⟨Qx q1 h11 h12 (by decide) hoc hod,Qx o1 h11 h12 (by decide) hoc hod,Qx q2 h11 h12 (by decide) hoc hod,Qx o2 h11 h12 (by decide) hoc hod,(hod.block b11 hne).trans k11,k12,(hE.trans (Qe hoc (.inr (.inr hb11)))).trans (Qe hod (.inr (.inr hb12)))⟩,⟨rfl,rfl,rfl,trivial⟩⟩
         · intro b12 wn hn
           have hb12 : w7.heap.size ≤ b12 := by rw [hn.block]; exact hE.size
           have q1 := q1.ext hn.ext
           have o1 := o1.ext hn.ext
           have q2 := q2.ext hn.ext
           have o2 := o2.ext hn.ext
           have h12 := hn.At
           have hE := hE.trans (Mod.of_ext hn.ext)
           refine ⟨Mod.of_ext hn.ext,?_⟩;conv=>whnf
           intro b11 wn hn
           have hb11 : w7.heap.size ≤ b11 := by rw [hn.block]; exact hE.size
           have hne : b11 ≠ b12 := by have := h12.lt; rw [hn.block]; omega
           have q1 := q1.ext hn.ext
           have o1 := o1.ext hn.ext
           have q2 := q2.ext hn.ext
           have o2 := o2.ext hn.ext
           have h12 := h12.ext hn.ext
           have h11 := hn.At
           have hE := hE.trans (Mod.of_ext hn.ext)
           refine ⟨Mod.of_ext hn.ext,?_⟩;conv=>whnf
           refine Qc Qa (e := ty36) rfl h11 rfl rfl rfl (by simp [Qh,rsC,Value.oneCell']) fun wc k11 hoc => ?_
           refine ⟨Qe hoc (.inr (.inr hb11)),?_⟩;conv=>whnf
           refine Qc Qa (e := ty36) rfl ((hoc.block b12 hne.symm).trans h12) rfl rfl rfl (by simp [Qh,rsC,Value.oneCell']) fun wd k12 hod => ?_
           refine ⟨Qe hod (.inr (.inr hb12)),?_⟩;conv=>whnf
           exact ⟨(A1,c1,A2,c2,B1,d1,B2,d2,b11,b12),⟨Qx q1 h11 h12 (by decide) hoc hod,Qx o1 h11 h12 (by decide) hoc hod,Qx q2 h11 h12 (by decide) hoc hod,Qx o2 h11 h12 (by decide) hoc hod,(hod.block b11 hne).trans k11,k12,(hE.trans (Qe hoc (.inr (.inr hb11)))).trans (Qe hod (.inr (.inr hb12)))⟩,⟨rfl,rfl,rfl,trivial⟩⟩
       · intro b11 wn hn
         have hb11 : w7.heap.size ≤ b11 := by rw [hn.block]; exact hE.size
         have hV := hV.ext hn.ext
         have q1 := q1.ext hn.ext
         have o1 := o1.ext hn.ext
         have h11 := hn.At
         have hE := hE.trans (Mod.of_ext hn.ext)
         refine ⟨Mod.of_ext hn.ext,?_⟩;conv=>whnf
         refine ⟨?_,?_⟩
         · refine (hcV hV (hgm hE)).mono ?_
           rintro _ wb ⟨B1,d1,B2,d2,T2,rfl,hp,ho,_,_,_,_,_,hm⟩
           have q2 := hp.base hE.size
           have o2 := ho.base hE.size
           have q1 := Qbb q1 hm hVl
           have o1 := Qbb o1 hm hVl
           have h11 := h11.mod hm fun h => by have := hVl _ h; omega
           have hE := hE.trans (hm.mono fun k _ h => .inr (.inl h))
           refine ⟨hm.mono fun k _ h => .inr (.inl h),?_⟩;conv=>whnf
           intro b12 wn hn
           have hb12 : w7.heap.size ≤ b12 := by rw [hn.block]; exact hE.size
           have hne : b11 ≠ b12 := by have := h11.lt; rw [hn.block]; omega
           have q1 := q1.ext hn.ext
           have o1 := o1.ext hn.ext
           have q2 := q2.ext hn.ext
           have o2 := o2.ext hn.ext
           have h11 := h11.ext hn.ext
           have h12 := hn.At
           have hE := hE.trans (Mod.of_ext hn.ext)
           refine ⟨Mod.of_ext hn.ext,?_⟩;conv=>whnf
           refine Qc Qa (e := ty36) rfl h11 rfl rfl rfl (by simp [Qh,rsC,Value.oneCell']) fun wc k11 hoc => ?_
           refine ⟨Qe hoc (.inr (.inr hb11)),?_⟩;conv=>whnf
           refine Qc Qa (e := ty36) rfl ((hoc.block b12 hne.symm).trans h12) rfl rfl rfl (by simp [Qh,rsC,Value.oneCell']) fun wd k12 hod => ?_
           refine ⟨Qe hod (.inr (.inr hb12)),?_⟩;conv=>whnf
           exact ⟨(A1,c1,A2,c2,B1,d1,B2,d2,b11,b12),⟨Qx q1 h11 h12 (by decide) hoc hod,Qx o1 h11 h12 (by decide) hoc hod,Qx q2 h11 h12 (by decide) hoc hod,Qx o2 h11 h12 (by decide) hoc hod,(hod.block b11 hne).trans k11,k12,(hE.trans (Qe hoc (.inr (.inr hb11)))).trans (Qe hod (.inr (.inr hb12)))⟩,⟨rfl,rfl,rfl,trivial⟩⟩
         · intro b12 wn hn
           have hb12 : w7.heap.size ≤ b12 := by rw [hn.block]; exact hE.size
           have hne : b11 ≠ b12 := by have := h11.lt; rw [hn.block]; omega
           have hV := hV.ext hn.ext
           have q1 := q1.ext hn.ext
           have o1 := o1.ext hn.ext
           have h11 := h11.ext hn.ext
           have h12 := hn.At
           have hE := hE.trans (Mod.of_ext hn.ext)
           refine ⟨Mod.of_ext hn.ext,?_⟩;conv=>whnf
           refine (hcV hV (hgm hE)).mono ?_
           rintro _ wb ⟨B1,d1,B2,d2,T2,rfl,hp,ho,_,_,_,_,_,hm⟩
           have q2 := hp.base hE.size
           have o2 := ho.base hE.size
           have q1 := Qbb q1 hm hVl
           have o1 := Qbb o1 hm hVl
           have h11 := h11.mod hm fun h => by have := hVl _ h; omega
           have h12 := h12.mod hm fun h => by have := hVl _ h; omega
           have hE := hE.trans (hm.mono fun k _ h => .inr (.inl h))
           refine ⟨hm.mono fun k _ h => .inr (.inl h),?_⟩;conv=>whnf
           refine Qc Qa (e := ty36) rfl h11 rfl rfl rfl (by simp [Qh,rsC,Value.oneCell']) fun wc k11 hoc => ?_
           refine ⟨Qe hoc (.inr (.inr hb11)),?_⟩;conv=>whnf
           refine Qc Qa (e := ty36) rfl ((hoc.block b12 hne.symm).trans h12) rfl rfl rfl (by simp [Qh,rsC,Value.oneCell']) fun wd k12 hod => ?_
           refine ⟨Qe hod (.inr (.inr hb12)),?_⟩;conv=>whnf
           exact ⟨(A1,c1,A2,c2,B1,d1,B2,d2,b11,b12),⟨Qx q1 h11 h12 (by decide) hoc hod,Qx o1 h11 h12 (by decide) hoc hod,Qx q2 h11 h12 (by decide) hoc hod,Qx o2 h11 h12 (by decide) hoc hod,(hod.block b11 hne).trans k11,k12,(hE.trans (Qe hoc (.inr (.inr hb11)))).trans (Qe hod (.inr (.inr hb12)))⟩,⟨rfl,rfl,rfl,trivial⟩⟩
       · intro b12 wn hn
         have hb12 : w7.heap.size ≤ b12 := by rw [hn.block]; exact hE.size
         have hV := hV.ext hn.ext
         have q1 := q1.ext hn.ext
         have o1 := o1.ext hn.ext
         have h12 := hn.At
         have hE := hE.trans (Mod.of_ext hn.ext)
         refine ⟨Mod.of_ext hn.ext,?_⟩;conv=>whnf
         refine ⟨?_,?_⟩
         · refine (hcV hV (hgm hE)).mono ?_
           rintro _ wb ⟨B1,d1,B2,d2,T2,rfl,hp,ho,_,_,_,_,_,hm⟩
           have q2 := hp.base hE.size
           have o2 := ho.base hE.size
           have q1 := Qbb q1 hm hVl
           have o1 := Qbb o1 hm hVl
           have h12 := h12.mod hm fun h => by have := hVl _ h; omega
           have hE := hE.trans (hm.mono fun k _ h => .inr (.inl h))
           refine ⟨hm.mono fun k _ h => .inr (.inl h),?_⟩;conv=>whnf
           intro b11 wn hn
           have hb11 : w7.heap.size ≤ b11 := by rw [hn.block]; exact hE.size
           have hne : b11 ≠ b12 := by have := h12.lt; rw [hn.block]; omega
           have q1 := q1.ext hn.ext
           have o1 := o1.ext hn.ext
           have q2 := q2.ext hn.ext
           have o2 := o2.ext hn.ext
           have h12 := h12.ext hn.ext
           have h11 := hn.At
           have hE := hE.trans (Mod.of_ext hn.ext)
           refine ⟨Mod.of_ext hn.ext,?_⟩;conv=>whnf
           refine Qc Qa (e := ty36) rfl h11 rfl rfl rfl (by simp [Qh,rsC,Value.oneCell']) fun wc k11 hoc => ?_
           refine ⟨Qe hoc (.inr (.inr hb11)),?_⟩;conv=>whnf
           refine Qc Qa (e := ty36) rfl ((hoc.block b12 hne.symm).trans h12) rfl rfl rfl (by simp [Qh,rsC,Value.oneCell']) fun wd k12 hod => ?_
           refine ⟨Qe hod (.inr (.inr hb12)),?_⟩;conv=>whnf
           exact ⟨(A1,c1,A2,c2,B1,d1,B2,d2,b11,b12),⟨Qx q1 h11 h12 (by decide) hoc hod,Qx o1 h11 h12 (by decide) hoc hod,Qx q2 h11 h12 (by decide) hoc hod,Qx o2 h11 h12 (by decide) hoc hod,(hod.block b11 hne).trans k11,k12,(hE.trans (Qe hoc (.inr (.inr hb11)))).trans (Qe hod (.inr (.inr hb12)))⟩,⟨rfl,rfl,rfl,trivial⟩⟩
         · intro b11 wn hn
           have hb11 : w7.heap.size ≤ b11 := by rw [hn.block]; exact hE.size
           have hne : b11 ≠ b12 := by have := h12.lt; rw [hn.block]; omega
           have hV := hV.ext hn.ext
           have q1 := q1.ext hn.ext
           have o1 := o1.ext hn.ext
           have h12 := h12.ext hn.ext
           have h11 := hn.At
           have hE := hE.trans (Mod.of_ext hn.ext)
           refine ⟨Mod.of_ext hn.ext,?_⟩;conv=>whnf
           refine (hcV hV (hgm hE)).mono ?_
           rintro _ wb ⟨B1,d1,B2,d2,T2,rfl,hp,ho,_,_,_,_,_,hm⟩
           have q2 := hp.base hE.size
           have o2 := ho.base hE.size
           have q1 := Qbb q1 hm hVl
           have o1 := Qbb o1 hm hVl
           have h11 := h11.mod hm fun h => by have := hVl _ h; omega
           have h12 := h12.mod hm fun h => by have := hVl _ h; omega
           have hE := hE.trans (hm.mono fun k _ h => .inr (.inl h))
           refine ⟨hm.mono fun k _ h => .inr (.inl h),?_⟩;conv=>whnf
           refine Qc Qa (e := ty36) rfl h11 rfl rfl rfl (by simp [Qh,rsC,Value.oneCell']) fun wc k11 hoc => ?_
           refine ⟨Qe hoc (.inr (.inr hb11)),?_⟩;conv=>whnf
           refine Qc Qa (e := ty36) rfl ((hoc.block b12 hne.symm).trans h12) rfl rfl rfl (by simp [Qh,rsC,Value.oneCell']) fun wd k12 hod => ?_
           refine ⟨Qe hod (.inr (.inr hb12)),?_⟩;conv=>whnf
           exact ⟨(A1,c1,A2,c2,B1,d1,B2,d2,b11,b12),⟨Qx q1 h11 h12 (by decide) hoc hod,Qx o1 h11 h12 (by decide) hoc hod,Qx q2 h11 h12 (by decide) hoc hod,Qx o2 h11 h12 (by decide) hoc hod,(hod.block b11 hne).trans k11,k12,(hE.trans (Qe hoc (.inr (.inr hb11)))).trans (Qe hod (.inr (.inr hb12)))⟩,⟨rfl,rfl,rfl,trivial⟩⟩
     · intro b11 wn hn
       have hb11 : w7.heap.size ≤ b11 := by rw [hn.block]; exact hE.size
       have hW := hW.ext hn.ext
       have hV := hV.ext hn.ext
       have h11 := hn.At
       have hE := hE.trans (Mod.of_ext hn.ext)
       refine ⟨Mod.of_ext hn.ext,?_⟩;conv=>whnf
       refine ⟨?_,?_⟩
       · refine (hcW hW (hgm hE)).mono ?_
         rintro _ wa ⟨A1,c1,A2,c2,T1,rfl,hp,ho,_,_,_,_,_,hm⟩
         have q1 := hp.base hE.size
         have o1 := ho.base hE.size
         have hV := hV.mod hm hdis
         have h11 := h11.mod hm fun h => by have := hTl _ h; omega
         have hE := hE.trans (hm.mono fun k _ h => .inl h)
         refine ⟨hm.mono fun k _ h => .inl h,?_⟩;conv=>whnf
         refine ⟨?_,?_⟩
         · refine (hcV hV (hgm hE)).mono ?_
           rintro _ wb ⟨B1,d1,B2,d2,T2,rfl,hp,ho,_,_,_,_,_,hm⟩
           have q2 := hp.base hE.size
           have o2 := ho.base hE.size
           have q1 := Qbb q1 hm hVl
           have o1 := Qbb o1 hm hVl
           have h11 := h11.mod hm fun h => by have := hVl _ h; omega
           have hE := hE.trans (hm.mono fun k _ h => .inr (.inl h))
           refine ⟨hm.mono fun k _ h => .inr (.inl h),?_⟩;conv=>whnf
           intro b12 wn hn
           have hb12 : w7.heap.size ≤ b12 := by rw [hn.block]; exact hE.size
           have hne : b11 ≠ b12 := by have := h11.lt; rw [hn.block]; omega
           have q1 := q1.ext hn.ext
           have o1 := o1.ext hn.ext
           have q2 := q2.ext hn.ext
           have o2 := o2.ext hn.ext
           have h11 := h11.ext hn.ext
           have h12 := hn.At
           have hE := hE.trans (Mod.of_ext hn.ext)
           refine ⟨Mod.of_ext hn.ext,?_⟩;conv=>whnf
           refine Qc Qa (e := ty36) rfl h11 rfl rfl rfl (by simp [Qh,rsC,Value.oneCell']) fun wc k11 hoc => ?_
           refine ⟨Qe hoc (.inr (.inr hb11)),?_⟩;conv=>whnf
           refine Qc Qa (e := ty36) rfl ((hoc.block b12 hne.symm).trans h12) rfl rfl rfl (by simp [Qh,rsC,Value.oneCell']) fun wd k12 hod => ?_
           refine ⟨Qe hod (.inr (.inr hb12)),?_⟩;conv=>whnf
           exact ⟨(A1,c1,A2,c2,B1,d1,B2,d2,b11,b12),⟨Qx q1 h11 h12 (by decide) hoc hod,Qx o1 h11 h12 (by decide) hoc hod,Qx q2 h11 h12 (by decide) hoc hod,Qx o2 h11 h12 (by decide) hoc hod,(hod.block b11 hne).trans k11,k12,(hE.trans (Qe hoc (.inr (.inr hb11)))).trans (Qe hod (.inr (.inr hb12)))⟩,⟨rfl,rfl,rfl,trivial⟩⟩
         · intro b12 wn hn
           have hb12 : w7.heap.size ≤ b12 := by rw [hn.block]; exact hE.size
           have hne : b11 ≠ b12 := by have := h11.lt; rw [hn.block]; omega
           have hV := hV.ext hn.ext
           have q1 := q1.ext hn.ext
           have o1 := o1.ext hn.ext
           have h11 := h11.ext hn.ext
           have h12 := hn.At
           have hE := hE.trans (Mod.of_ext hn.ext)
           refine ⟨Mod.of_ext hn.ext,?_⟩;conv=>whnf
           refine (hcV hV (hgm hE)).mono ?_
           rintro _ wb ⟨B1,d1,B2,d2,T2,rfl,hp,ho,_,_,_,_,_,hm⟩
           have q2 := hp.base hE.size
           have o2 := ho.base hE.size
           have q1 := Qbb q1 hm hVl
           have o1 := Qbb o1 hm hVl
           have h11 := h11.mod hm fun h => by have := hVl _ h; omega
           have h12 := h12.mod hm fun h => by have := hVl _ h; omega
           have hE := hE.trans (hm.mono fun k _ h => .inr (.inl h))
           refine ⟨hm.mono fun k _ h => .inr (.inl h),?_⟩;conv=>whnf
           refine Qc Qa (e := ty36) rfl h11 rfl rfl rfl (by simp [Qh,rsC,Value.oneCell']) fun wc k11 hoc => ?_
           refine ⟨Qe hoc (.inr (.inr hb11)),?_⟩;conv=>whnf
           refine Qc Qa (e := ty36) rfl ((hoc.block b12 hne.symm).trans h12) rfl rfl rfl (by simp [Qh,rsC,Value.oneCell']) fun wd k12 hod => ?_
           refine ⟨Qe hod (.inr (.inr hb12)),?_⟩;conv=>whnf
           exact ⟨(A1,c1,A2,c2,B1,d1,B2,d2,b11,b12),⟨Qx q1 h11 h12 (by decide) hoc hod,Qx o1 h11 h12 (by decide) hoc hod,Qx q2 h11 h12 (by decide) hoc hod,Qx o2 h11 h12 (by decide) hoc hod,(hod.block b11 hne).trans k11,k12,(hE.trans (Qe hoc (.inr (.inr hb11)))).trans (Qe hod (.inr (.inr hb12)))⟩,⟨rfl,rfl,rfl,trivial⟩⟩
       · intro b12 wn hn
         have hb12 : w7.heap.size ≤ b12 := by rw [hn.block]; exact hE.size
         have hne : b11 ≠ b12 := by have := h11.lt; rw [hn.block]; omega
         have hW := hW.ext hn.ext
         have hV := hV.ext hn.ext
         have h11 := h11.ext hn.ext
         have h12 := hn.At
         have hE := hE.trans (Mod.of_ext hn.ext)
         refine ⟨Mod.of_ext hn.ext,?_⟩;conv=>whnf
         refine (hcW hW (hgm hE)).mono ?_
         rintro _ wa ⟨A1,c1,A2,c2,T1,rfl,hp,ho,_,_,_,_,_,hm⟩
         have q1 := hp.base hE.size
         have o1 := ho.base hE.size
         have hV := hV.mod hm hdis
         have h11 := h11.mod hm fun h => by have := hTl _ h; omega
         have h12 := h12.mod hm fun h => by have := hTl _ h; omega
         have hE := hE.trans (hm.mono fun k _ h => .inl h)
         refine ⟨hm.mono fun k _ h => .inl h,?_⟩;conv=>whnf
         refine (hcV hV (hgm hE)).mono ?_
         rintro _ wb ⟨B1,d1,B2,d2,T2,rfl,hp,ho,_,_,_,_,_,hm⟩
         have q2 := hp.base hE.size
         have o2 := ho.base hE.size
         have q1 := Qbb q1 hm hVl
         have o1 := Qbb o1 hm hVl
         have h11 := h11.mod hm fun h => by have := hVl _ h; omega
         have h12 := h12.mod hm fun h => by have := hVl _ h; omega
         have hE := hE.trans (hm.mono fun k _ h => .inr (.inl h))
         refine ⟨hm.mono fun k _ h => .inr (.inl h),?_⟩;conv=>whnf
         refine Qc Qa (e := ty36) rfl h11 rfl rfl rfl (by simp [Qh,rsC,Value.oneCell']) fun wc k11 hoc => ?_
         refine ⟨Qe hoc (.inr (.inr hb11)),?_⟩;conv=>whnf
         refine Qc Qa (e := ty36) rfl ((hoc.block b12 hne.symm).trans h12) rfl rfl rfl (by simp [Qh,rsC,Value.oneCell']) fun wd k12 hod => ?_
         refine ⟨Qe hod (.inr (.inr hb12)),?_⟩;conv=>whnf
         exact ⟨(A1,c1,A2,c2,B1,d1,B2,d2,b11,b12),⟨Qx q1 h11 h12 (by decide) hoc hod,Qx o1 h11 h12 (by decide) hoc hod,Qx q2 h11 h12 (by decide) hoc hod,Qx o2 h11 h12 (by decide) hoc hod,(hod.block b11 hne).trans k11,k12,(hE.trans (Qe hoc (.inr (.inr hb11)))).trans (Qe hod (.inr (.inr hb12)))⟩,⟨rfl,rfl,rfl,trivial⟩⟩
     · intro b12 wn hn
       have hb12 : w7.heap.size ≤ b12 := by rw [hn.block]; exact hE.size
       have hW := hW.ext hn.ext
       have hV := hV.ext hn.ext
       have h12 := hn.At
       have hE := hE.trans (Mod.of_ext hn.ext)
       refine ⟨Mod.of_ext hn.ext,?_⟩;conv=>whnf
       refine ⟨?_,?_⟩
       · refine (hcW hW (hgm hE)).mono ?_
         rintro _ wa ⟨A1,c1,A2,c2,T1,rfl,hp,ho,_,_,_,_,_,hm⟩
         have q1 := hp.base hE.size
         have o1 := ho.base hE.size
         have hV := hV.mod hm hdis
         have h12 := h12.mod hm fun h => by have := hTl _ h; omega
         have hE := hE.trans (hm.mono fun k _ h => .inl h)
         refine ⟨hm.mono fun k _ h => .inl h,?_⟩;conv=>whnf
         refine ⟨?_,?_⟩
         · refine (hcV hV (hgm hE)).mono ?_
           rintro _ wb ⟨B1,d1,B2,d2,T2,rfl,hp,ho,_,_,_,_,_,hm⟩
           have q2 := hp.base hE.size
           have o2 := ho.base hE.size
           have q1 := Qbb q1 hm hVl
           have o1 := Qbb o1 hm hVl
           have h12 := h12.mod hm fun h => by have := hVl _ h; omega
           have hE := hE.trans (hm.mono fun k _ h => .inr (.inl h))
           refine ⟨hm.mono fun k _ h => .inr (.inl h),?_⟩;conv=>whnf
           intro b11 wn hn
           have hb11 : w7.heap.size ≤ b11 := by rw [hn.block]; exact hE.size
           have hne : b11 ≠ b12 := by have := h12.lt; rw [hn.block]; omega
           have q1 := q1.ext hn.ext
           have o1 := o1.ext hn.ext
           have q2 := q2.ext hn.ext
           have o2 := o2.ext hn.ext
           have h12 := h12.ext hn.ext
           have h11 := hn.At
           have hE := hE.trans (Mod.of_ext hn.ext)
           refine ⟨Mod.of_ext hn.ext,?_⟩;conv=>whnf
           refine Qc Qa (e := ty36) rfl h11 rfl rfl rfl (by simp [Qh,rsC,Value.oneCell']) fun wc k11 hoc => ?_
           refine ⟨Qe hoc (.inr (.inr hb11)),?_⟩;conv=>whnf
           refine Qc Qa (e := ty36) rfl ((hoc.block b12 hne.symm).trans h12) rfl rfl rfl (by simp [Qh,rsC,Value.oneCell']) fun wd k12 hod => ?_
           refine ⟨Qe hod (.inr (.inr hb12)),?_⟩;conv=>whnf
           exact ⟨(A1,c1,A2,c2,B1,d1,B2,d2,b11,b12),⟨Qx q1 h11 h12 (by decide) hoc hod,Qx o1 h11 h12 (by decide) hoc hod,Qx q2 h11 h12 (by decide) hoc hod,Qx o2 h11 h12 (by decide) hoc hod,(hod.block b11 hne).trans k11,k12,(hE.trans (Qe hoc (.inr (.inr hb11)))).trans (Qe hod (.inr (.inr hb12)))⟩,⟨rfl,rfl,rfl,trivial⟩⟩
         · intro b11 wn hn
           have hb11 : w7.heap.size ≤ b11 := by rw [hn.block]; exact hE.size
           have hne : b11 ≠ b12 := by have := h12.lt; rw [hn.block]; omega
           have hV := hV.ext hn.ext
           have q1 := q1.ext hn.ext
           have o1 := o1.ext hn.ext
           have h12 := h12.ext hn.ext
           have h11 := hn.At
           have hE := hE.trans (Mod.of_ext hn.ext)
           refine ⟨Mod.of_ext hn.ext,?_⟩;conv=>whnf
           refine (hcV hV (hgm hE)).mono ?_
           rintro _ wb ⟨B1,d1,B2,d2,T2,rfl,hp,ho,_,_,_,_,_,hm⟩
           have q2 := hp.base hE.size
           have o2 := ho.base hE.size
           have q1 := Qbb q1 hm hVl
           have o1 := Qbb o1 hm hVl
           have h11 := h11.mod hm fun h => by have := hVl _ h; omega
           have h12 := h12.mod hm fun h => by have := hVl _ h; omega
           have hE := hE.trans (hm.mono fun k _ h => .inr (.inl h))
           refine ⟨hm.mono fun k _ h => .inr (.inl h),?_⟩;conv=>whnf
           refine Qc Qa (e := ty36) rfl h11 rfl rfl rfl (by simp [Qh,rsC,Value.oneCell']) fun wc k11 hoc => ?_
           refine ⟨Qe hoc (.inr (.inr hb11)),?_⟩;conv=>whnf
           refine Qc Qa (e := ty36) rfl ((hoc.block b12 hne.symm).trans h12) rfl rfl rfl (by simp [Qh,rsC,Value.oneCell']) fun wd k12 hod => ?_
           refine ⟨Qe hod (.inr (.inr hb12)),?_⟩;conv=>whnf
           exact ⟨(A1,c1,A2,c2,B1,d1,B2,d2,b11,b12),⟨Qx q1 h11 h12 (by decide) hoc hod,Qx o1 h11 h12 (by decide) hoc hod,Qx q2 h11 h12 (by decide) hoc hod,Qx o2 h11 h12 (by decide) hoc hod,(hod.block b11 hne).trans k11,k12,(hE.trans (Qe hoc (.inr (.inr hb11)))).trans (Qe hod (.inr (.inr hb12)))⟩,⟨rfl,rfl,rfl,trivial⟩⟩
       · intro b11 wn hn
         have hb11 : w7.heap.size ≤ b11 := by rw [hn.block]; exact hE.size
         have hne : b11 ≠ b12 := by have := h12.lt; rw [hn.block]; omega
         have hW := hW.ext hn.ext
         have hV := hV.ext hn.ext
         have h12 := h12.ext hn.ext
         have h11 := hn.At
         have hE := hE.trans (Mod.of_ext hn.ext)
         refine ⟨Mod.of_ext hn.ext,?_⟩;conv=>whnf
         refine (hcW hW (hgm hE)).mono ?_
         rintro _ wa ⟨A1,c1,A2,c2,T1,rfl,hp,ho,_,_,_,_,_,hm⟩
         have q1 := hp.base hE.size
         have o1 := ho.base hE.size
         have hV := hV.mod hm hdis
         have h11 := h11.mod hm fun h => by have := hTl _ h; omega
         have h12 := h12.mod hm fun h => by have := hTl _ h; omega
         have hE := hE.trans (hm.mono fun k _ h => .inl h)
         refine ⟨hm.mono fun k _ h => .inl h,?_⟩;conv=>whnf
         refine (hcV hV (hgm hE)).mono ?_
         rintro _ wb ⟨B1,d1,B2,d2,T2,rfl,hp,ho,_,_,_,_,_,hm⟩
         have q2 := hp.base hE.size
         have o2 := ho.base hE.size
         have q1 := Qbb q1 hm hVl
         have o1 := Qbb o1 hm hVl
         have h11 := h11.mod hm fun h => by have := hVl _ h; omega
         have h12 := h12.mod hm fun h => by have := hVl _ h; omega
         have hE := hE.trans (hm.mono fun k _ h => .inr (.inl h))
         refine ⟨hm.mono fun k _ h => .inr (.inl h),?_⟩;conv=>whnf
         refine Qc Qa (e := ty36) rfl h11 rfl rfl rfl (by simp [Qh,rsC,Value.oneCell']) fun wc k11 hoc => ?_
         refine ⟨Qe hoc (.inr (.inr hb11)),?_⟩;conv=>whnf
         refine Qc Qa (e := ty36) rfl ((hoc.block b12 hne.symm).trans h12) rfl rfl rfl (by simp [Qh,rsC,Value.oneCell']) fun wd k12 hod => ?_
         refine ⟨Qe hod (.inr (.inr hb12)),?_⟩;conv=>whnf
         exact ⟨(A1,c1,A2,c2,B1,d1,B2,d2,b11,b12),⟨Qx q1 h11 h12 (by decide) hoc hod,Qx o1 h11 h12 (by decide) hoc hod,Qx q2 h11 h12 (by decide) hoc hod,Qx o2 h11 h12 (by decide) hoc hod,(hod.block b11 hne).trans k11,k12,(hE.trans (Qe hoc (.inr (.inr hb11)))).trans (Qe hod (.inr (.inr hb12)))⟩,⟨rfl,rfl,rfl,trivial⟩⟩
   rintro ⟨A1,c1,A2,c2,B1,d1,B2,d2,b11,b12⟩ w8 ⟨q1,o1,q2,o2,h11,h12,hM8⟩
   have hb1s : ¬ (T b1 ∨ Tv b1 ∨ w7.heap.size ≤ b1) := by
    rintro (h | h | h)
    · exact hTb h
    · exact hVb h
    · omega
   replace h1 := h1.mod hM8 hb1s
   replace hx := Qr8 hx hSw hM8
   have q1 := q1.sl Qoc
   have q2 := q2.sl Qoc
   have o1 := o1.sl Qak
   have o2 := o2.sl Qak
   clear hcW hcV hgm hW hV hdis hM8 hTb hVb hb1s hSw
   (conv=>whnf);repeat(refine Sg ?_;(conv=>whnf))
   refine Dr .ext [0,1,2,3,4,5,6,7,8,9,10,12,11] [13,14,15,16,17,18,19,20] ?_;conv=>whnf
   have hxd : Ext w8 w8.drew := (Ext.refl w8).drew
   replace h1 := h1.ext hxd
   replace h11 := h11.ext hxd
   replace h12 := h12.ext hxd
   replace hx := hx.trans hxd
   replace q1 := q1.ext hxd
   replace q2 := q2.ext hxd
   replace o1 := o1.ext hxd
   replace o2 := o2.ext hxd
   generalize w8.drew = w9 at h1 h11 h12 hx q1 q2 o1 o2 ⊢
   clear hxd
   refine ⟨.slice A2 O.length c2,h11.one rfl,?_⟩;conv=>whnf
   refine ⟨.slice B2 O.length d2,h12.one rfl,?_⟩;conv=>whnf
   refine (Q0r O O A2 B2 c2 d2 w9 o1 o2 (by omega)).mono ?_
   rintro _ w10 ⟨rfl,hx10⟩
   rw [decide_eq_true rfl]
   refine ⟨hx10,?_⟩;conv=>whnf
   replace h1 := h1.ext hx10
   replace h11 := h11.ext hx10
   replace h12 := h12.ext hx10
   replace hx := hx.trans hx10
   replace q1 := q1.ext hx10
   replace q2 := q2.ext hx10
   replace o1 := o1.ext hx10
   replace o2 := o2.ext hx10
   clear hx10
   refine ⟨.string item,fun _ => h1.one rfl,?_⟩;conv=>whnf
   refine ⟨rsC item A1 6 c1 (Qgh Q1) A2 O.length c2 f1,fun _ _ => ⟨rfl,h11.all⟩,?_⟩;conv=>whnf
   refine ⟨rsC item B1 6 d1 (Qgh Q2) B2 O.length d2 f2,fun _ _ => ⟨rfl,h12.all⟩,?_⟩;conv=>whnf
   have htx1 := Qrc item (Qgh Q1) A1 c1 Q1 A2 c2 O f1 w10 (hg0.ext hx) (hnm.ext hg0 hx) q1 o1 (by omega) (by omega) hO1000 (Q4l _) hf1 hQ1 hot
   rw [hl1] at htx1
   refine ⟨Unit,fun _ => (.string (Qfq item (Qgh Q1) Q1 O f1)),fun _ w' => Ext w10 w',(),fun hg hg1 => (htx1).mono fun r w' h => ⟨(),h.1,h.2⟩,?_⟩
   intro _ w11 h2
   have hx11 : Ext w10 w11 := by
    rcases h2 with ⟨_,h⟩ | ⟨_,h⟩
    · exact h
    · rw [h]; exact Ext.refl _
   clear h2
   refine ⟨hx11,?_⟩
   conv=>whnf
   replace hx := hx.trans hx11
   replace q2 := q2.ext hx11
   replace o2 := o2.ext hx11
   have htx2 := Qrc item (Qgh Q2) B1 d1 Q2 B2 d2 O f2 w11 (hg0.ext hx) (hnm.ext hg0 hx) q2 o2 (by omega) (by omega) hO1000 (Q4l _) hf2 hQ2 hot
   rw [hl2] at htx2
   refine ⟨Unit,fun _ => (.string (Qfq item (Qgh Q2) Q2 O f2)),fun _ w' => Ext w11 w',(),fun hg hg1 => (htx2).mono fun r w' h => ⟨(),h.1,h.2⟩,?_⟩
   intro _ w12 h2
   have hx12 : Ext w11 w12 := by
    rcases h2 with ⟨_,h⟩ | ⟨_,h⟩
    · exact h
    · rw [h]; exact Ext.refl _
   clear h2
   conv=>whnf
   replace hx := hx.trans hx12
   (conv=>whnf);repeat(refine Sg ?_;(conv=>whnf))
   refine ⟨Unit,fun _ => (.bool true),fun _ w' => Ext w12 w',(),fun hg => ((Qic w12 (hg0.ext hx))).mono fun r w' h => ⟨(),h.1,h.2⟩,?_⟩
   intro _ w13 h2
   have hx13 : Ext w12 w13 := by
    rcases h2 with ⟨_,h⟩ | ⟨_,h⟩
    · exact h
    · rw [h]; exact Ext.refl _
   clear h2
   conv=>whnf
   (conv=>whnf);repeat(refine Sg ?_;(conv=>whnf))
   refine ⟨?_,hx.trans hx13⟩
   have hfin : (decide (item = zzB) || decide (Qfq item (Qgh Q1) Q1 O f1 = Qfq item (Qgh Q2) Q2 O f2)) = true := by
    by_cases h : item = zzB
    · simp [h]
    · rw [hQe h,hfe h]; simp
   have hfin : (decide (item = (⟨#[122,122]⟩ : ByteArray)) || decide (Qfq item (Qgh Q1) Q1 O f1 = Qfq item (Qgh Q2) Q2 O f2)) = true := hfin
   simp [hfin]
end Go.Proofs.YtnnnbjjenknpeaaGreatDoor
