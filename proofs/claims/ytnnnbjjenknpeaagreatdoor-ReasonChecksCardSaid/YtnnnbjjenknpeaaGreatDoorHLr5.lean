import Derived.Test.YtnnnbjjenknpeaaGreatDoorHLr1
/- The law ReasonChecks. -/
set_option linter.unusedVariables false
set_option linter.unusedSimpArgs false
namespace Go.Proofs.YtnnnbjjenknpeaaGreatDoor
open Go.Se Go.RowKit
theorem Qxd (l m:List Pt) (A B:Option Addr) (c d:Nat) (w:World) (hs:Sl ptC 3 w A l) (hm:Sl ptC 3 w B m) (hl:l.length < 1000000000000) :
 Cal Tryz.prog 53 [.slice A l.length c,.slice B m.length d] w fun r w' => r = .bool (decide (l = m)) ∧ Ext w w' := by
 refine Fi Tryz.func53 rfl _ rfl rfl ?_;conv=>whnf
 constructor
 · intro h1
   have h1 : l.length ≠ m.length := by simp at h1; omega
   conv=>whnf
   exact ⟨by rw [decide_eq_false (fun e => h1 (by rw [e]))],Ext.refl _⟩
 · intro h1
   have h1 : l.length = m.length := by simp at h1; omega
   conv=>whnf
   refine Qi Qa (fun (k:Nat) w' => k ≤ l.length ∧ Ext w w' ∧ l.take k = m.take k)
    (fun k => [(0,.slice A l.length c),(1,.slice B m.length d),(12,.int .i64 l.length),(13,.int .i64 (k:Nat))]) (fun k => l.length - k) 0 ⟨by omega,Ext.refl _,by simp⟩ ⟨rfl,rfl,rfl,rfl,trivial⟩ ?_
   rintro k w1 ⟨hk,hx,hall⟩
   conv=>whnf
   constructor
   · intro hlt
     have hlt : k < l.length := by simpa using hlt
     have hlt' : k < m.length := by omega
     obtain ⟨a,rfl,hc⟩ := hs.get hlt
     obtain ⟨b,rfl,hd⟩ := hm.get hlt'
     (conv=>whnf);repeat(refine Sg ?_;(conv=>whnf))
     refine Dr .same [0,1,2,3,4,5,6,7,8] [] ?_;conv=>whnf
     refine ⟨a,⟨rfl,by omega,by omega⟩,?_⟩;conv=>whnf
     refine ⟨ptC l[k],⟨rfl,hx.cells hc⟩,?_⟩;conv=>whnf
     refine ⟨b,⟨rfl,by omega,by omega⟩,?_⟩;conv=>whnf
     refine ⟨ptC m[k],⟨rfl,hx.cells hd⟩,?_⟩;conv=>whnf
     refine ⟨_,Q86 l[k] m[k] _ _,?_⟩; (conv=>whnf);repeat(refine Sg ?_;(conv=>whnf))
     constructor
     · intro he
       have he : l[k] ≠ m[k] := by simpa using he
       (conv=>whnf);repeat(refine Sg ?_;(conv=>whnf))
       refine ⟨by rw [decide_eq_false (fun e => he (by simp [e]))],hx.drew⟩
     · intro he
       have he : l[k] = m[k] := by simpa using he
       (conv=>whnf);repeat(refine Sg ?_;(conv=>whnf))
       refine ⟨_,wrap_succ (by omega),?_⟩; (conv=>whnf);repeat(refine Sg ?_;(conv=>whnf))
       refine ⟨k + 1,by omega,⟨by omega,hx.drew,?_⟩,⟨rfl,rfl,rfl,rfl,trivial⟩⟩
       rw [List.take_succ_eq_append_getElem hlt,List.take_succ_eq_append_getElem hlt',hall,he]
   · intro hge
     have hge : l.length ≤ k := by simpa using hge
     (conv=>whnf);repeat(refine Sg ?_;(conv=>whnf))
     rw [List.take_of_length_le hge,List.take_of_length_le (by omega)] at hall
     exact ⟨by rw [decide_eq_true hall],hx⟩
theorem Qxc (l m:List Ev) (A B:Option Addr) (c d:Nat) (w:World) (hs:Sl evC 8 w A l) (hm:Sl evC 8 w B m) (hl:l.length < 1000000000000) :
 Cal Tryz.prog 54 [.slice A l.length c,.slice B m.length d] w fun r w' => r = .bool (decide (l = m)) ∧ Ext w w' := by
 refine Fi Tryz.func54 rfl _ rfl rfl ?_;conv=>whnf
 constructor
 · intro h1
   have h1 : l.length ≠ m.length := by simp at h1; omega
   conv=>whnf
   exact ⟨by rw [decide_eq_false (fun e => h1 (by rw [e]))],Ext.refl _⟩
 · intro h1
   have h1 : l.length = m.length := by simp at h1; omega
   conv=>whnf
   refine Qi Qa (fun (k:Nat) w' => k ≤ l.length ∧ Ext w w' ∧ l.take k = m.take k)
    (fun k => [(0,.slice A l.length c),(1,.slice B m.length d),(12,.int .i64 l.length),(13,.int .i64 (k:Nat))]) (fun k => l.length - k) 0 ⟨by omega,Ext.refl _,by simp⟩ ⟨rfl,rfl,rfl,rfl,trivial⟩ ?_
   rintro k w1 ⟨hk,hx,hall⟩
   conv=>whnf
   constructor
   · intro hlt
     have hlt : k < l.length := by simpa using hlt
     have hlt' : k < m.length := by omega
     obtain ⟨a,rfl,hc⟩ := hs.get hlt
     obtain ⟨b,rfl,hd⟩ := hm.get hlt'
     (conv=>whnf);repeat(refine Sg ?_;(conv=>whnf))
     refine Dr .same [0,1,2,3,4,5,6,7,8] [] ?_;conv=>whnf
     refine ⟨a,⟨rfl,by omega,by omega⟩,?_⟩;conv=>whnf
     refine ⟨evC l[k],⟨rfl,hx.cells hc⟩,?_⟩;conv=>whnf
     refine ⟨b,⟨rfl,by omega,by omega⟩,?_⟩;conv=>whnf
     refine ⟨evC m[k],⟨rfl,hx.cells hd⟩,?_⟩;conv=>whnf
     refine ⟨_,Q8y l[k] m[k] _ _,?_⟩; (conv=>whnf);repeat(refine Sg ?_;(conv=>whnf))
     constructor
     · intro he
       have he : l[k] ≠ m[k] := by simpa using he
       (conv=>whnf);repeat(refine Sg ?_;(conv=>whnf))
       refine ⟨by rw [decide_eq_false (fun e => he (by simp [e]))],hx.drew⟩
     · intro he
       have he : l[k] = m[k] := by simpa using he
       (conv=>whnf);repeat(refine Sg ?_;(conv=>whnf))
       refine ⟨_,wrap_succ (by omega),?_⟩; (conv=>whnf);repeat(refine Sg ?_;(conv=>whnf))
       refine ⟨k + 1,by omega,⟨by omega,hx.drew,?_⟩,⟨rfl,rfl,rfl,rfl,trivial⟩⟩
       rw [List.take_succ_eq_append_getElem hlt,List.take_succ_eq_append_getElem hlt',hall,he]
   · intro hge
     have hge : l.length ≤ k := by simpa using hge
     (conv=>whnf);repeat(refine Sg ?_;(conv=>whnf))
     rw [List.take_of_length_le hge,List.take_of_length_le (by omega)] at hall
     exact ⟨by rw [decide_eq_true hall],hx⟩
theorem Qpu (x:Int) : IntKind.i64.wrap (x + 1) ≠ x := by
 simp only [IntKind.wrap,IntKind.bits,IntKind.signed]
 simp
 split <;> omega
def Qni (tot fan tt ff:Int) (Q Q1:List Pt) (O O1:List Ev) : Bool := ((decide (tt = tot) && decide (ff = fan)) && decide (Q1 = Q)) && decide (O1 = O)
set_option maxHeartbeats 2000000 in
theorem Qw0 {w:World} {T:Nat → Prop} {p:Nat} {c:Cfg} {z:List Ev} (hW:WT w T p c z) (hok:Q2t c z) (hg:Gl w) (hT:∀ k,T k → 10 ≤ k) (a:Nat → Int) (person item:ByteArray) (now tt ff:Int) (A1:Option Addr) (c1 n1:Nat) (Q1:List Pt) (A2:Option Addr) (c2 n2:Nat) (O1:List Ev) (h1:Sl ptC 3 w A1 Q1) (h2:SlE w A2 O1) (e1:n1 = Q1.length) (e2:n2 = O1.length) (l1:Q1.length < 1000000) (l2:O1.length < 1000000) (m1:∀ x,A1 = some x → ¬ T x.block) (m2:∀ x,A2 = some x → ¬ T x.block) :
 Cal Tryz.prog 27 [.pointer (some ⟨p,0,none⟩),.agg (wsC a).toArray,.string person,.int .i64 now,.agg (rsC item A1 n1 c1 tt A2 n2 c2 ff).toArray] w fun r w' => r = .bool (Qni (Qjw (Qh6 (Qju c z person item now) a 6)) (Qjr c z item) tt ff (Qh6 (Qju c z person item now) a 6) Q1 (Qj8 c z person item now) O1) ∧ (∃ T',WT w' T' p c z ∧ ∀ k,T' k → T k ∨ w.heap.size ≤ k) ∧ Mod T w w' := by
 have hsz := hg.size
 subst e1 e2
 refine Fi Tryz.func27 rfl _ rfl rfl ?_;conv=>whnf
 intro b6 w1 hn1; (conv=>whnf);repeat(refine Sg ?_;(conv=>whnf))
 have h6 : At w1 b6 26 (wsC a) := hn1.At
 intro b9 w2 hn2; (conv=>whnf);repeat(refine Sg ?_;(conv=>whnf))
 have h9 : At w2 b9 36 (rsC item A1 Q1.length c1 tt A2 O1.length c2 ff) := hn2.At
 have hTl := hW.lt
 have n9 : ¬ T b9 := fun h => by have := hTl _ h; have := hn1.ext.size; have := hn2.block; omega
 replace h6 := h6.ext hn2.ext
 have hx := hn1.ext.trans hn2.ext
 clear hn1 hn2
 refine ⟨wsC a,⟨rfl,h6.all⟩,?_⟩; (conv=>whnf);repeat(refine Sg ?_;(conv=>whnf))
 refine ⟨.string item,h9.one rfl,?_⟩; (conv=>whnf);repeat(refine Sg ?_;(conv=>whnf))
 refine (Qbf (hW.ext hx) hok (hg.ext hx) hT a person item now).mono ?_
 rintro _ w3 ⟨B1,d1,B2,d2,T3,rfl,hp3,ho3,_,_,_,hW3,hT3,hM3⟩
 have hs1 := Q6q.stay (h1.ext hx) fun x hx' hlt => hM3.block x.block hlt (m1 x hx')
 have hs2 := Qls.stay (h2.ext hx) fun x hx' hlt => hM3.block x.block hlt (m2 x hx')
 replace h9 := h9.mod hM3 n9
 have hr1 := hp3.sl Qcd
 have hr2 := ho3.sl Xu
 have hQl : (Qh6 (Qju c z person item now) a 6).length = 6 := Qj9 _ _ _
 have s2 := hx.size
 generalize Qjw (Qh6 (Qju c z person item now) a 6) = tot
 generalize Qh6 (Qju c z person item now) a 6 = Q at hr1 hQl ⊢
 generalize Qjr c z item = fan
 generalize Qj8 c z person item now = O at hr2 ⊢
 clear hp3 ho3
 (conv=>whnf);repeat(refine Sg ?_;(conv=>whnf))
 intro b11 w4 hn4; (conv=>whnf);repeat(refine Sg ?_;(conv=>whnf))
 refine Qc Qa (e := ty36) rfl hn4.At rfl rfl rfl (by simp [Qh,rsC,Value.oneCell']) fun w5 h11 ho5 => ?_
 have h11 : At w5 b11 36 (rsC item B1 6 d1 tot B2 O.length d2 fan) := h11
 have hx35 : Ext w3 w5 := ho5.ext hn4.ext (by rw [hn4.block]; exact Nat.le_refl _)
 clear ho5 hn4
 replace hs1 := hs1.ext hx35
 replace hs2 := hs2.ext hx35
 replace hr1 := hr1.ext hx35
 replace hr2 := hr2.ext hx35
 replace h9 := h9.ext hx35
 (conv=>whnf);repeat(refine Sg ?_;(conv=>whnf))
 refine ⟨.int .i64 tt,h9.one rfl,?_⟩; (conv=>whnf);repeat(refine Sg ?_;(conv=>whnf))
 refine ⟨.int .i64 tot,h11.one rfl,?_⟩; (conv=>whnf);repeat(refine Sg ?_;(conv=>whnf))
 refine ⟨.int .i64 ff,fun _ => h9.one rfl,?_⟩; (conv=>whnf);repeat(refine Sg ?_;(conv=>whnf))
 refine ⟨.int .i64 fan,fun _ => h11.one rfl,?_⟩; (conv=>whnf);repeat(refine Sg ?_;(conv=>whnf))
 refine ⟨.slice A1 Q1.length c1,fun _ => h9.one rfl,?_⟩; (conv=>whnf);repeat(refine Sg ?_;(conv=>whnf))
 refine ⟨.slice B1 6 d1,fun _ => h11.one rfl,?_⟩; (conv=>whnf);repeat(refine Sg ?_;(conv=>whnf))
 have heq := Qxd Q1 Q A1 B1 c1 d1 w5 hs1 hr1 (by omega)
 rw [hQl] at heq
 refine ⟨Unit,fun _ => (.bool (decide (Q1 = Q))),fun _ w' => Ext w5 w',(),fun hg => (heq).mono fun r w' h => ⟨(),h.1,h.2⟩,?_⟩
 intro _ w6 h2
 have hx6 : Ext w5 w6 := by
  rcases h2 with ⟨_,h⟩ | ⟨_,h⟩
  · exact h
  · rw [h]; exact Ext.refl _
 clear h2
 conv=>whnf
 refine ⟨.slice A2 O1.length c2,fun _ => (h9.ext hx6).one rfl,?_⟩; (conv=>whnf);repeat(refine Sg ?_;(conv=>whnf))
 refine ⟨.slice B2 O.length d2,fun _ => (h11.ext hx6).one rfl,?_⟩; (conv=>whnf);repeat(refine Sg ?_;(conv=>whnf))
 refine ⟨Unit,fun _ => (.bool (decide (O1 = O))),fun _ w' => Ext w6 w',(),fun hg => ((Qxc O1 O A2 B2 c2 d2 w6 (hs2.ext hx6) (hr2.ext hx6) (by omega))).mono fun r w' h => ⟨(),h.1,h.2⟩,?_⟩
 intro _ w7 h2
 have hx7 : Ext w6 w7 := by
  rcases h2 with ⟨_,h⟩ | ⟨_,h⟩
  · exact h
  · rw [h]; exact Ext.refl _
 clear h2
 conv=>whnf
 exact ⟨rfl,⟨T3,hW3.ext (hx35.trans (hx6.trans hx7)),fun k hk => (hT3 k hk).imp id fun h => by omega⟩,((Mod.of_ext hx).trans hM3).trans (Mod.of_ext (hx35.trans (hx6.trans hx7)))⟩
theorem Qyb (tot fan:Int) (Q:List Pt) (O:List Ev) : Qni tot fan tot fan Q Q O O = true := by simp [Qni]
theorem Qdt {tot fan tt ff:Int} {Q Q1:List Pt} {O O1:List Ev} (h:tt ≠ tot ∨ ff ≠ fan ∨ Q1 ≠ Q ∨ O1 ≠ O) : Qni tot fan tt ff Q Q1 O O1 = false := by
 unfold Qni
 rcases h with h | h | h | h <;> simp [h]
set_option maxHeartbeats 4000000 in
theorem reasonChecks_spec (c:Cfg) (l:List Ev) (a:Nat → Int) (person item:ByteArray) (now which:Int) (odd:Ev) (A:Option Addr) (cap:Nat) (w:World) (hg0:Gl w) (hs:SlE w A l) :
 Cal Tryz.prog 7 [.agg (plC c A l.length cap a person item now).toArray,.int .u8 which,evV odd] w fun r w' => r = .bool true ∧ Ext w w' := by
 have hsz := hg0.size
 refine Fi Tryz.func7 rfl _ rfl rfl ?_;conv=>whnf
 intro b1 w1 hn1; (conv=>whnf);repeat(refine Sg ?_;(conv=>whnf))
 have h1 : At w1 b1 28 (plC c A l.length cap a person item now) := hn1.At
 intro b2 w2 hn2; (conv=>whnf);repeat(refine Sg ?_;(conv=>whnf))
 have h2 : At w2 b2 53 (evC odd) := hn2.At
 have hx := hn1.ext.trans hn2.ext
 have g1 : w.heap.size ≤ b1 := by rw [hn1.block]; exact Nat.le_refl _
 have g2' : w.heap.size ≤ b2 := by rw [hn2.block]; exact hn1.ext.size
 replace h1 := h1.ext hn2.ext
 clear hn1 hn2
 refine ⟨plC c A l.length cap a person item now,⟨rfl,h1.all⟩,?_⟩; (conv=>whnf);repeat(refine Sg ?_;(conv=>whnf))
 refine (Qj1 c l A cap a person item now w2 (hs.ext hx)).mono ?_
 rintro _ w3 ⟨rfl,hx3⟩
 replace h1 := h1.ext hx3
 replace h2 := h2.ext hx3
 replace hx := hx.trans hx3
 clear hx3
 generalize hq : Q5z c l person item = q
 (conv=>whnf);repeat(refine Sg ?_;(conv=>whnf))
 refine ⟨evC odd,fun _ => ⟨rfl,h2.all⟩,?_⟩; (conv=>whnf);repeat(refine Sg ?_;(conv=>whnf))
 refine ⟨Unit,fun _ => (.bool (Qsp 100 odd)),fun _ w' => Ext w3 w',(),fun hg => ((Qve odd 100 w3)).mono fun r w' h => ⟨(),h.1,h.2⟩,?_⟩
 intro _ w4 h2
 have hx4 : Ext w3 w4 := by
  rcases h2 with ⟨_,h⟩ | ⟨_,h⟩
  · exact h
  · rw [h]; exact Ext.refl _
 clear h2
 conv=>whnf
 replace h1 := h1.ext hx4
 replace h2 := h2.ext hx4
 replace hx := hx.trans hx4
 clear hx4
 constructor
 · intro _
   (conv=>whnf);repeat(refine Sg ?_;(conv=>whnf))
   refine (Qab w4 (hg0.ext hx)).mono ?_
   rintro _ w5 ⟨rfl,hx5⟩; (conv=>whnf);repeat(refine Sg ?_;(conv=>whnf))
   exact ⟨rfl,hx.trans hx5⟩
 intro hc
 have hc : ((!q) || Qsp 100 odd) = false := hc
 have hc : q = true := by simpa using (Bool.or_eq_false_iff.1 hc).1
 subst hc
 obtain ⟨hcf,hl,hm⟩ := Qvo hq
 clear hq
 (conv=>whnf);repeat(refine Sg ?_;(conv=>whnf))
 refine ⟨plC c A l.length cap a person item now,⟨rfl,h1.all⟩,?_⟩; (conv=>whnf);repeat(refine Sg ?_;(conv=>whnf))
 refine (Qj7 c l A cap a person item now w4 (hg0.ext hx) (hs.ext hx) hcf (by omega) hm).mono ?_
 rintro _ w5 ⟨p,T,rfl,hWT,hT,hx5⟩
 have l1 := h1.lt
 have l2 := h2.lt
 have g2 := hx.size
 have hTb' : ¬ T b1 := fun h => by have := hT _ h; omega
 have hTb2 : ¬ T b2 := fun h => by have := hT _ h; omega
 have hTw : ∀ k,T k → w.heap.size ≤ k := fun k hk => by have := hT k hk; omega
 replace h1 := h1.ext hx5
 replace h2 := h2.ext hx5
 replace hx := hx.trans hx5
 clear hx5 hT hs l1 l2
 have hzl := Qf6 l
 generalize Qbn l = z at hWT hzl
 have hok : Q2t c z := ⟨hcf,by omega⟩
 (conv=>whnf);repeat(refine Sg ?_;(conv=>whnf))
 refine ⟨_,Xm Qy3 _ _ _,?_⟩; (conv=>whnf);repeat(refine Sg ?_;(conv=>whnf))
 constructor
 · intro h; simp at h
 intro _
 (conv=>whnf);repeat(refine Sg ?_;(conv=>whnf))
 refine ⟨wsC a,⟨rfl,Qx6 h1⟩,?_⟩; (conv=>whnf);repeat(refine Sg ?_;(conv=>whnf))
 refine ⟨.string person,h1.one rfl,?_⟩; (conv=>whnf);repeat(refine Sg ?_;(conv=>whnf))
 refine ⟨.string item,h1.one rfl,?_⟩; (conv=>whnf);repeat(refine Sg ?_;(conv=>whnf))
 refine ⟨.int .i64 now,h1.one rfl,?_⟩; (conv=>whnf);repeat(refine Sg ?_;(conv=>whnf))
 refine (Qbf hWT hok (hg0.ext hx) (fun k hk => by have := hTw k hk; omega) a person item now).mono ?_
 rintro _ w6 ⟨A1,c1,A2,c2,T6,rfl,hp6,ho6,hne,hA1,hA2,hW6,hT6,hM6⟩
 have hck := fun (w:World) (T:Nat → Prop) (hW:WT w T p c z) (hg:Gl w) (hT:∀ k,T k → 10 ≤ k) (tt ff:Int) (A1:Option Addr) (c1 n1:Nat) (Q1:List Pt) (A2:Option Addr) (c2 n2:Nat) (O1:List Ev) => Qw0 hW hok hg hT a person item now tt ff A1 c1 n1 Q1 A2 c2 n2 O1
 have hQl : (Qh6 (Qju c z person item now) a 6).length = 6 := Qj9 _ _ _
 have hOl := Q05 c z person item now
 generalize Qjw (Qh6 (Qju c z person item now) a 6) = tot at hck ⊢
 generalize Qh6 (Qju c z person item now) a 6 = Q at hp6 hck hQl
 generalize Qjr c z item = fan at hck ⊢
 generalize Qj8 c z person item now = O at ho6 hck hOl ⊢
 have s5 := hx.size
 have l1 := h1.lt
 have l2 := h2.lt
 have s6 := hM6.size
 have hT6l := hW6.lt
 have hTw6 : ∀ k,T6 k → w.heap.size ≤ k := fun k hk => (hT6 k hk).elim (hTw k) fun h => by omega
 have n1 : ¬ T6 b1 := fun h => (hT6 _ h).elim hTb' fun h => by omega
 have n2 : ¬ T6 b2 := fun h => (hT6 _ h).elim hTb2 fun h => by omega
 replace h1 := h1.mod hM6 hTb'
 replace h2 := h2.mod hM6 hTb2
 replace hx := Qdn hx hTw hM6
 have hb1 : ∀ x,A1 = some x → w5.heap.size ≤ x.block ∧ x.block < w6.heap.size := fun x hx => hp6.block hx
 have hb2 : ∀ x,A2 = some x → w5.heap.size ≤ x.block ∧ x.block < w6.heap.size := fun x hx => ho6.block hx
 clear hM6 hT6 hWT hTb' hTb2 hTw
 (conv=>whnf);repeat(refine Sg ?_;(conv=>whnf))
 intro b8 w7 hn7; (conv=>whnf);repeat(refine Sg ?_;(conv=>whnf))
 refine Qc Qa (e := ty36) rfl hn7.At rfl rfl rfl (by simp [Qh,rsC,Value.oneCell']) fun w8 h8 ho8 => ?_
 have h8 : At w8 b8 36 (rsC item A1 6 c1 tot A2 O.length c2 fan) := h8
 have e8 := hn7.block
 have hx68 : Ext w6 w8 := ho8.ext hn7.ext (by omega)
 clear ho8 hn7
 have n8 : ¬ T6 b8 := fun h => by have := hT6l _ h; omega
 replace h1 := h1.ext hx68
 replace h2 := h2.ext hx68
 replace hx := hx.trans hx68
 have hp8 := hp6.ext hx68
 have ho8 := ho6.ext hx68
 have hW8 := hW6.ext hx68
 have s8 := hx68.size
 have l8 := h8.lt
 clear hx68 hp6 ho6 hW6
 (conv=>whnf);repeat(refine Sg ?_;(conv=>whnf))
 refine ⟨wsC a,⟨rfl,Qx6 h1⟩,?_⟩; (conv=>whnf);repeat(refine Sg ?_;(conv=>whnf))
 refine ⟨.string person,h1.one rfl,?_⟩; (conv=>whnf);repeat(refine Sg ?_;(conv=>whnf))
 refine ⟨.int .i64 now,h1.one rfl,?_⟩; (conv=>whnf);repeat(refine Sg ?_;(conv=>whnf))
 refine ⟨rsC item A1 6 c1 tot A2 O.length c2 fan,⟨rfl,h8.all⟩,?_⟩; (conv=>whnf);repeat(refine Sg ?_;(conv=>whnf))
 refine (hck w8 T6 hW8 (hg0.ext hx) (fun k hk => by have := hTw6 k hk; omega) tot fan A1 c1 6 Q A2 c2 O.length O (hp8.sl Qcd) (ho8.sl Xu) hQl.symm rfl (by omega) (by omega) hA1 hA2).mono ?_
 rintro _ w9 ⟨rfl,⟨T9,hW9,hT9⟩,hM9⟩
 rw [Qyb]
 replace h1 := h1.mod hM9 n1
 replace h2 := h2.mod hM9 n2
 replace h8 := h8.mod hM9 n8
 have hp9 := hp8.keep fun x hx => hM9.block x.block (hp8.block hx).2 (hA1 x hx)
 have ho9 := ho8.keep fun x hx => hM9.block x.block (ho8.block hx).2 (hA2 x hx)
 replace hx := Qdn hx hTw6 hM9
 have hTw9 : ∀ k,T9 k → w.heap.size ≤ k := fun k hk => (hT9 k hk).elim (hTw6 k) fun h => by omega
 have m1 : ¬ T9 b1 := fun h => (hT9 _ h).elim n1 fun h => by omega
 have m8 : ¬ T9 b8 := fun h => (hT9 _ h).elim n8 fun h => by omega
 have mA1 : ∀ x,A1 = some x → ¬ T9 x.block := fun x hx h => (hT9 _ h).elim (hA1 x hx) fun h => by have := hb1 x hx; omega
 have mA2 : ∀ x,A2 = some x → ¬ T9 x.block := fun x hx h => (hT9 _ h).elim (hA2 x hx) fun h => by have := hb2 x hx; omega
 have hT9l := hW9.lt
 have s9 := hM9.size
 clear hM9 hT9 hW8 hp8 ho8 hA1 hA2 hTw6 n1 n2 n8
 (conv=>whnf);repeat(refine Sg ?_;(conv=>whnf))
 refine ⟨.slice A1 6 c1,fun _ => h8.one rfl,?_⟩; (conv=>whnf);repeat(refine Sg ?_;(conv=>whnf))
 constructor
 · intro h; simp at h
 intro _
 (conv=>whnf);repeat(refine Sg ?_;(conv=>whnf))
 refine ⟨.slice A1 6 c1,h8.one rfl,?_⟩; (conv=>whnf);repeat(refine Sg ?_;(conv=>whnf))
 obtain ⟨x0,hx0⟩ : ∃ x,Q[0]? = some x := ⟨_,List.getElem?_eq_getElem (by omega)⟩
 obtain ⟨a1,rfl,hc0⟩ := (hp9.sl Qcd) 0 x0 hx0
 refine ⟨a1,⟨rfl,by omega,by omega⟩,?_⟩; (conv=>whnf);repeat(refine Sg ?_;(conv=>whnf))
 refine ⟨ptC x0,⟨rfl,hc0⟩,?_⟩; (conv=>whnf);repeat(refine Sg ?_;(conv=>whnf))
 intro b9 w10 hn10; (conv=>whnf);repeat(refine Sg ?_;(conv=>whnf))
 refine Qc Qa (e := ty43) rfl hn10.At rfl rfl rfl (Qlp x0) fun w11 h9 ho11 => ?_
 have h9 : At w11 b9 43 (ptC x0) := h9
 have e9 := hn10.block
 have hx911 : Ext w9 w11 := ho11.ext hn10.ext (by omega)
 clear ho11 hn10 hc0
 replace h1 := h1.ext hx911
 replace h2 := h2.ext hx911
 replace h8 := h8.ext hx911
 replace hx := hx.trans hx911
 have hp := hp9.ext hx911
 have ho := ho9.ext hx911
 have hW := hW9.ext hx911
 have m9 : ¬ T9 b9 := fun h => by have := hT9l _ h; omega
 have s11 := hx911.size
 clear hx911 hp9 ho9 hW9
 conv=>whnf
 refine Qy Qa (ι := Option Addr × Nat × Nat × Int × Option Addr × Nat × Nat × Int × List Pt × List Ev) (fun _ => [(3,.pointer (some ⟨b1,0,none⟩)),(7,.pointer (some ⟨p,0,none⟩)),(8,.pointer (some ⟨b8,0,none⟩))])
  (fun | (B1,n1,d1,tt,B2,n2,d2,ff,Q1,O1),w' => At w' b8 36 (rsC item B1 n1 d1 tt B2 n2 d2 ff) ∧ Sl ptC 3 w' B1 Q1 ∧ SlE w' B2 O1 ∧ n1 = Q1.length ∧ n2 = O1.length ∧ Q1.length < 1000000 ∧ O1.length < 1000000 ∧ (∀ x,B1 = some x → ¬ T9 x.block) ∧ (∀ x,B2 = some x → ¬ T9 x.block) ∧ Qni tot fan tt ff Q Q1 O O1 = false ∧ Mod (fun k => ¬ T9 k ∧ w5.heap.size ≤ k) w11 w') ?_ ?_
 · have keepQ : ∀ w',Only w11 w' b8 → Sl ptC 3 w' (some a1) Q ∧ SlE w' A2 O := fun w' h => ⟨(hp.keep fun x hx => h.block x.block (by have := hb1 x hx; omega)).sl Qcd,(ho.keep fun x hx => h.block x.block (by have := hb2 x hx; omega)).sl Xu⟩
   have in8 : ¬ T9 b8 ∧ w5.heap.size ≤ b8 := ⟨m8,by omega⟩
   (conv=>whnf);repeat(refine Sg ?_;(conv=>whnf))
   refine ⟨which.tmod 7,⟨by omega,rfl⟩,?_⟩
   generalize which.tmod 7 = m
   (conv=>whnf);repeat(refine Sg ?_;(conv=>whnf))
   constructor
   · intro _
     (conv=>whnf);repeat(refine Sg ?_;(conv=>whnf))
     refine ⟨.int .i64 tot,h8.one rfl,?_⟩; (conv=>whnf);repeat(refine Sg ?_;(conv=>whnf))
     refine ⟨_,rfl,?_⟩; (conv=>whnf);repeat(refine Sg ?_;(conv=>whnf))
     refine Qc Qa (e := ty2) (off := 2) rfl h8 rfl rfl rfl (by simp [Qh,Value.oneCell']) fun w12 h12 ho12 => ?_
     (conv=>whnf);repeat(refine Sg ?_;(conv=>whnf))
     obtain ⟨k1,k2⟩ := keepQ w12 ho12
     exact ⟨(some a1,6,c1,IntKind.i64.wrap (tot + 1),A2,O.length,c2,fan,Q,O),⟨h12,k1,k2,hQl.symm,rfl,by omega,by omega,mA1,mA2,Qdt (.inl (Qpu tot)),Qg ho12 in8⟩,⟨rfl,rfl,rfl,trivial⟩⟩
   intro _
   (conv=>whnf);repeat(refine Sg ?_;(conv=>whnf))
   constructor
   · intro _
     (conv=>whnf);repeat(refine Sg ?_;(conv=>whnf))
     refine ⟨.int .i64 fan,h8.one rfl,?_⟩; (conv=>whnf);repeat(refine Sg ?_;(conv=>whnf))
     refine ⟨_,rfl,?_⟩; (conv=>whnf);repeat(refine Sg ?_;(conv=>whnf))
     refine Qc Qa (e := ty3) (off := 4) rfl h8 rfl rfl rfl (by simp [Qh,Value.oneCell']) fun w12 h12 ho12 => ?_
     (conv=>whnf);repeat(refine Sg ?_;(conv=>whnf))
     obtain ⟨k1,k2⟩ := keepQ w12 ho12
     exact ⟨(some a1,6,c1,tot,A2,O.length,c2,IntKind.i64.wrap (fan + 1),Q,O),⟨h12,k1,k2,hQl.symm,rfl,by omega,by omega,mA1,mA2,Qdt (.inr (.inl (Qpu fan))),Qg ho12 in8⟩,⟨rfl,rfl,rfl,trivial⟩⟩
   intro _
   (conv=>whnf);repeat(refine Sg ?_;(conv=>whnf))
   constructor
   · intro _
     (conv=>whnf);repeat(refine Sg ?_;(conv=>whnf))
     refine ⟨.slice A2 O.length c2,h8.one rfl,?_⟩; (conv=>whnf);repeat(refine Sg ?_;(conv=>whnf))
     refine ⟨evC odd,⟨rfl,h2.all⟩,?_⟩; (conv=>whnf);repeat(refine Sg ?_;(conv=>whnf))
     intro b12 w12 hn12; (conv=>whnf);repeat(refine Sg ?_;(conv=>whnf))
     have s12 := hn12.ext.size
     refine Qay Qls (l := O) (news := [odd]) rfl (ho.ext hn12.ext) rfl (Qls.new1 (x := odd) hn12) (by simp; omega) (by omega) fun A13 c13 w13 hown13 hg13 hA13 => ?_
     have hM13 : Mod (fun k => A2.map (·.block) = some k) w12 w13 := Xv hg13 fun k hk => hk
     have hin : ∀ k,A2.map (·.block) = some k → ¬ T9 k ∧ w5.heap.size ≤ k ∧ k < w6.heap.size ∧ k ≠ a1.block := fun k hk => by
      cases A2 with
      | none => cases hk
      | some y =>
        have hk : y.block = k := by simpa using hk
        subst hk
        exact ⟨mA2 y rfl,(hb2 y rfl).1,(hb2 y rfl).2,fun e => hne a1 y rfl rfl e.symm⟩
     have h8' := (h8.ext hn12.ext).mod hM13 fun h => by have := hin _ h; omega
     have k1 : Sl ptC 3 w13 (some a1) Q := ((hp.ext hn12.ext).keep fun x hx => hM13.block x.block ((hp.ext hn12.ext).block hx).2 fun h => by injection hx with hx; subst hx; exact (hin _ h).2.2.2 rfl).sl Qcd
     (conv=>whnf);repeat(refine Sg ?_;(conv=>whnf))
     refine Qc Qa (e := ty24) (off := 3) rfl h8' rfl rfl rfl (by simp [Qh,Value.oneCell']) fun w14 h14 ho14 => ?_
     have n13 : ∀ y,A13 = some y → ¬ T9 y.block ∧ y.block ≠ b8 := fun y hy => by
      rcases hA13 with h | h | h
      · rw [h] at hy
        exact ⟨mA2 y hy,by have := hb2 y hy; omega⟩
      · rw [hy] at h
        have := hin y.block h.symm
        exact ⟨this.1,by omega⟩
      · rw [hy] at h
        have h : y.block = w12.heap.size := by simpa using h
        refine ⟨fun h' => ?_,by omega⟩
        have := hT9l _ h'
        omega
     (conv=>whnf);repeat(refine Sg ?_;(conv=>whnf))
     exact ⟨(some a1,6,c1,tot,A13,(O ++ [odd]).length,c13,fan,Q,O ++ [odd]),⟨h14,Qa8 k1 fun x hx => ho14.block x.block (by have := hb1 x hx; omega),(hown13.keep fun x hx => ho14.block x.block (n13 x hx).2).sl Xu,hQl.symm,rfl,by omega,by simp; omega,mA1,fun y hy => (n13 y hy).1,Qdt (.inr (.inr (.inr fun h => by have := congrArg List.length h; simp at this))),((Mod.of_ext hn12.ext).trans (hM13.mono fun k _ hk => ⟨(hin k hk).1,(hin k hk).2.1⟩)).trans (Qg ho14 in8)⟩,⟨rfl,rfl,rfl,trivial⟩⟩
   intro _
   (conv=>whnf);repeat(refine Sg ?_;(conv=>whnf))
   constructor
   · intro _
     (conv=>whnf);repeat(refine Sg ?_;(conv=>whnf))
     refine ⟨.slice A2 O.length c2,h8.one rfl,?_⟩; (conv=>whnf);repeat(refine Sg ?_;(conv=>whnf))
     constructor
     · intro _
       (conv=>whnf);repeat(refine Sg ?_;(conv=>whnf))
       refine (Qab w11 (hg0.ext hx)).mono ?_
       rintro _ w12 ⟨rfl,hx12⟩; (conv=>whnf);repeat(refine Sg ?_;(conv=>whnf))
       exact ⟨rfl,hx.trans hx12⟩
     intro h0
     have h0 : O.length ≠ 0 := by simpa using h0
     have hoc := ho.le
     (conv=>whnf);repeat(refine Sg ?_;(conv=>whnf))
     refine ⟨.slice A2 O.length c2,h8.one rfl,?_⟩; (conv=>whnf);repeat(refine Sg ?_;(conv=>whnf))
     refine ⟨⟨by omega,by omega,by omega,by omega⟩,?_⟩; (conv=>whnf);repeat(refine Sg ?_;(conv=>whnf))
     refine Qc Qa (e := ty24) (off := 3) rfl h8 rfl rfl rfl (by simp [Qh,Value.oneCell']) fun w12 h12 ho12 => ?_
     obtain ⟨k1,k2⟩ := keepQ w12 ho12
     (conv=>whnf);repeat(refine Sg ?_;(conv=>whnf))
     refine ⟨(some a1,6,c1,tot,if c2 = 1 then A2 else A2.map (·.add (1 * 8)),O.length - 1,c2 - 1,fan,Q,O.drop 1),⟨h12,k1,Qno k2 1 c2 hoc,hQl.symm,by simp,by omega,by simp; omega,mA1,fun y hy => ?_,Qdt (.inr (.inr (.inr fun h => by have := congrArg List.length h; simp at this; omega))),Qg ho12 in8⟩,⟨rfl,rfl,rfl,trivial⟩⟩
     split at hy
     · exact mA2 y hy
     · cases A2 with
       | none => cases hy
       | some y0 =>
         have hy : y0.add (1 * 8) = y := by simpa using hy
         subst hy
         rw [add_block]
         exact mA2 y0 rfl
   intro _
   (conv=>whnf);repeat(refine Sg ?_;(conv=>whnf))
   constructor
   · intro _
     (conv=>whnf);repeat(refine Sg ?_;(conv=>whnf))
     refine ⟨.int .i64 x0.2.1,h9.one rfl,?_⟩; (conv=>whnf);repeat(refine Sg ?_;(conv=>whnf))
     refine ⟨_,rfl,?_⟩; (conv=>whnf);repeat(refine Sg ?_;(conv=>whnf))
     refine Qc Qa (e := ty2) (off := 1) rfl h9 rfl rfl rfl (by simp [Qh,Value.oneCell']) fun w12 h12 ho12 => ?_
     have h12 : At w12 b9 43 (ptC (x0.1,IntKind.i64.wrap (x0.2.1 + 1),x0.2.2)) := h12
     have h8' := (ho12.block b8 (by omega)).trans h8
     have hp' := hp.keep fun x hx => ho12.block x.block (by have := hb1 x hx; omega)
     have ho' := ho.keep fun x hx => ho12.block x.block (by have := hb2 x hx; omega)
     (conv=>whnf);repeat(refine Sg ?_;(conv=>whnf))
     refine ⟨.slice (some a1) 6 c1,At.one h8' rfl,?_⟩; (conv=>whnf);repeat(refine Sg ?_;(conv=>whnf))
     refine ⟨ptC (x0.1,IntKind.i64.wrap (x0.2.1 + 1),x0.2.2),⟨rfl,h12.all⟩,?_⟩; (conv=>whnf);repeat(refine Sg ?_;(conv=>whnf))
     refine ⟨a1,⟨rfl,by omega,by omega⟩,?_⟩; (conv=>whnf);repeat(refine Sg ?_;(conv=>whnf))
     refine Ql5 Qa (e := ty43) rfl rfl Qcd Qlp (k := 0) (by omega) (x0.1,IntKind.i64.wrap (x0.2.1 + 1),x0.2.2) rfl hp' fun w13 hp13 ho13 => ?_
     (conv=>whnf);repeat(refine Sg ?_;(conv=>whnf))
     refine ⟨(some a1,6,c1,tot,A2,O.length,c2,fan,Q.set 0 (x0.1,IntKind.i64.wrap (x0.2.1 + 1),x0.2.2),O),⟨(ho13.block b8 (by have := hb1 a1 rfl; omega)).trans h8',hp13.sl Qcd,(ho'.keep fun x hx => ho13.block x.block fun e => hne a1 x rfl hx e.symm).sl Xu,by simp [hQl],rfl,by simp [hQl],by omega,mA1,mA2,Qdt (.inr (.inr (.inl fun h => ?_))),(Qg ho12 ⟨m9,by omega⟩).trans (Qg ho13 ⟨mA1 a1 rfl,by have := hb1 a1 rfl; omega⟩)⟩,⟨rfl,rfl,rfl,trivial⟩⟩
     have h1 : (Q.set 0 (x0.1,IntKind.i64.wrap (x0.2.1 + 1),x0.2.2))[0]? = Q[0]? := by rw [h]
     rw [hx0,List.getElem?_set_self (by omega)] at h1
     injection h1 with h1
     have h2 : IntKind.i64.wrap (x0.2.1 + 1) = x0.2.1 := congrArg (fun q:Pt => q.2.1) h1
     exact Qpu _ h2
   intro _
   (conv=>whnf);repeat(refine Sg ?_;(conv=>whnf))
   constructor
   · intro _
     have hpc := hp.le
     (conv=>whnf);repeat(refine Sg ?_;(conv=>whnf))
     refine ⟨.slice (some a1) 6 c1,h8.one rfl,?_⟩; (conv=>whnf);repeat(refine Sg ?_;(conv=>whnf))
     refine ⟨⟨by omega,by omega,by omega,by omega⟩,?_⟩; (conv=>whnf);repeat(refine Sg ?_;(conv=>whnf))
     refine Qc Qa (e := ty34) (off := 1) rfl h8 rfl rfl rfl (by simp [Qh,Value.oneCell']) fun w12 h12 ho12 => ?_
     obtain ⟨k1,k2⟩ := keepQ w12 ho12
     (conv=>whnf);repeat(refine Sg ?_;(conv=>whnf))
     refine ⟨(if c1 = 1 then some a1 else (some a1).map (·.add (1 * 3)),6 - 1,c1 - 1,tot,A2,O.length,c2,fan,Q.drop 1,O),⟨h12,Qno k1 1 c1 (by omega),k2,by simp [hQl],rfl,by simp; omega,by omega,fun y hy => ?_,mA2,Qdt (.inr (.inr (.inl fun h => by have := congrArg List.length h; simp at this; omega))),Qg ho12 in8⟩,⟨rfl,rfl,rfl,trivial⟩⟩
     split at hy
     · exact mA1 y hy
     · have hy : a1.add (1 * 3) = y := by simpa using hy
       subst hy
       rw [add_block]
       exact mA1 a1 rfl
   intro _
   (conv=>whnf);repeat(refine Sg ?_;(conv=>whnf))
   refine ⟨.int .i64 x0.1,h9.one rfl,?_⟩; (conv=>whnf);repeat(refine Sg ?_;(conv=>whnf))
   refine ⟨_,rfl,?_⟩; (conv=>whnf);repeat(refine Sg ?_;(conv=>whnf))
   refine Qc Qa (e := ty41) (off := 0) rfl h9 rfl rfl rfl (by simp [Qh,Value.oneCell']) fun w12 h12 ho12 => ?_
   have h12 : At w12 b9 43 (ptC (IntKind.i64.wrap (x0.1 + 1),x0.2.1,x0.2.2)) := h12
   have h8' := (ho12.block b8 (by omega)).trans h8
   have hp' := hp.keep fun x hx => ho12.block x.block (by have := hb1 x hx; omega)
   have ho' := ho.keep fun x hx => ho12.block x.block (by have := hb2 x hx; omega)
   (conv=>whnf);repeat(refine Sg ?_;(conv=>whnf))
   refine ⟨.slice (some a1) 6 c1,At.one h8' rfl,?_⟩; (conv=>whnf);repeat(refine Sg ?_;(conv=>whnf))
   refine ⟨ptC (IntKind.i64.wrap (x0.1 + 1),x0.2.1,x0.2.2),⟨rfl,h12.all⟩,?_⟩; (conv=>whnf);repeat(refine Sg ?_;(conv=>whnf))
   refine ⟨a1,⟨rfl,by omega,by omega⟩,?_⟩; (conv=>whnf);repeat(refine Sg ?_;(conv=>whnf))
   refine Ql5 Qa (e := ty43) rfl rfl Qcd Qlp (k := 0) (by omega) (IntKind.i64.wrap (x0.1 + 1),x0.2.1,x0.2.2) rfl hp' fun w13 hp13 ho13 => ?_
   (conv=>whnf);repeat(refine Sg ?_;(conv=>whnf))
   refine ⟨(some a1,6,c1,tot,A2,O.length,c2,fan,Q.set 0 (IntKind.i64.wrap (x0.1 + 1),x0.2.1,x0.2.2),O),⟨(ho13.block b8 (by have := hb1 a1 rfl; omega)).trans h8',hp13.sl Qcd,(ho'.keep fun x hx => ho13.block x.block fun e => hne a1 x rfl hx e.symm).sl Xu,by simp [hQl],rfl,by simp [hQl],by omega,mA1,mA2,Qdt (.inr (.inr (.inl fun h => ?_))),(Qg ho12 ⟨m9,by omega⟩).trans (Qg ho13 ⟨mA1 a1 rfl,by have := hb1 a1 rfl; omega⟩)⟩,⟨rfl,rfl,rfl,trivial⟩⟩
   have h1 : (Q.set 0 (IntKind.i64.wrap (x0.1 + 1),x0.2.1,x0.2.2))[0]? = Q[0]? := by rw [h]
   rw [hx0,List.getElem?_set_self (by omega)] at h1
   injection h1 with h1
   have h2 : IntKind.i64.wrap (x0.1 + 1) = x0.1 := congrArg (fun q:Pt => q.1) h1
   exact Qpu _ h2
 rintro ⟨B1,n1,d1,tt,B2,n2,d2,ff,Q1,O1⟩ w12 ⟨k8,k1,k2,k3,k4,k5,k6,k7,k9,k10,hM12⟩
 have hx12 := Qdn hx (fun k hk => Nat.le_trans s5 hk.2) hM12
 have h1' := h1.mod hM12 fun h => by have := h.2; omega
 have hW12 := hW.mod hM12 fun k h hk => h.1 hk
 (conv=>whnf);repeat(refine Sg ?_;(conv=>whnf))
 refine ⟨wsC a,⟨rfl,Qx6 h1'⟩,?_⟩; (conv=>whnf);repeat(refine Sg ?_;(conv=>whnf))
 refine ⟨.string person,h1'.one rfl,?_⟩; (conv=>whnf);repeat(refine Sg ?_;(conv=>whnf))
 refine ⟨.int .i64 now,h1'.one rfl,?_⟩; (conv=>whnf);repeat(refine Sg ?_;(conv=>whnf))
 refine ⟨rsC item B1 n1 d1 tt B2 n2 d2 ff,⟨rfl,k8.all⟩,?_⟩; (conv=>whnf);repeat(refine Sg ?_;(conv=>whnf))
 refine (hck w12 T9 hW12 (hg0.ext hx12) (fun k hk => by have := hTw9 k hk; omega) tt ff B1 d1 n1 Q1 B2 d2 n2 O1 k1 k2 k3 k4 k5 k6 k7 k9).mono ?_
 rintro _ w13 ⟨rfl,_,hM13⟩
 rw [k10]
 replace hx12 := Qdn hx12 hTw9 hM13
 (conv=>whnf);repeat(refine Sg ?_;(conv=>whnf))
 refine ⟨Unit,fun _ => (.bool true),fun _ w' => Ext w13 w',(),fun hg => ((Qab w13 (hg0.ext hx12))).mono fun r w' h => ⟨(),h.1,h.2⟩,?_⟩
 intro _ w14 h2
 have hx14 : Ext w13 w14 := by
  rcases h2 with ⟨_,h⟩ | ⟨_,h⟩
  · exact h
  · rw [h]; exact Ext.refl _
 clear h2
 conv=>whnf
 exact ⟨by simp,hx12.trans hx14⟩
end Go.Proofs.YtnnnbjjenknpeaaGreatDoor
