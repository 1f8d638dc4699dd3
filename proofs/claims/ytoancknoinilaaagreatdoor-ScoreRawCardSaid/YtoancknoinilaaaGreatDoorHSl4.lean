import Derived.Test.YtoancknoinilaaaGreatDoorHRf5
import Derived.Test.YtoancknoinilaaaGreatDoorHSv
/- The law ScoreRaw. -/
set_option linter.unusedVariables false
set_option linter.unusedSimpArgs false
namespace Go.Proofs.YtoancknoinilaaaGreatDoor
open Go.Se Go.RowKit
theorem Qx7 {c:Cfg} {z:List Ev} (hz:(Qib c z).length ≤ 1000) (person item:ByteArray) : 0 ≤ Q2p c z person item ∧ Q2p c z person item ≤ 1099511627776 := by
 have hN : ((Qib c z).length : Int) * (Qib c z).length ≤ 1000000 := by
  have : ((Qib c z).length : Int) * (Qib c z).length ≤ 1000 * 1000 := Int.mul_le_mul (by omega) (by omega) (by omega) (by omega)
  omega
 have hb := Quw hN (by omega) item (Qfv z person)
 unfold Q2p
 generalize Qeu (Qib c z) item (Qfv z person) = b at hb
 obtain ⟨h1,h2,h3,h4⟩ := hb
 refine ⟨Int.ediv_nonneg (by omega) (by omega),?_⟩
 have := Int.ediv_le_self b.2 (a := 1048576 * b.1) (by omega)
 omega
theorem Qza {c:Cfg} {z:List Ev} (hm:∀ e ∈ z,Xo e = true) (hz:(Qib c z).length ≤ 1000) (person item:ByteArray) (now x:Int) : 0 ≤ Qqk c z person item now x ∧ Qqk c z person item now x ≤ 1099511627776 := by
 unfold Qqk
 split
 · next hx =>
   unfold Qgy
   split
   · have h := (Qq8 (Qvw hm) (Q7 c.half) item now).1
     omega
   split
   · split
     · have hrm : ∀ r ∈ rowsOf (Qb1 z) person,Xo r.1 = true := fun r hr => by
        have h1 : r.1 ∈ (Qb1 z).map (·.1) := List.mem_map.2 ⟨r,(List.mem_filter.1 hr).1,rfl⟩
        rw [Qr1] at h1
        exact hm _ (List.mem_filter.1 h1).1
       have h := (Qa9 (Qj3 (Q7 c.half) now (rowsOf (Qb1 z) person)) ((rowsOf (Qb1 z) person).length * 5242880) (Qs (Qe9 (Qgf z item now).tags)) fun t _ => Qf8 hrm t).1
       unfold Qdu
       omega
     · omega
   split
   · exact Qx7 hz person item
   split
   · unfold Qmk
     split
     · omega
     · have h1 := fun lo hi => (Qpf (Qvw hm) c.width item lo hi).1
       have h2 := Int.ediv_nonneg (Int.mul_nonneg (h1 ((Qcz c now - c.span) / Q7 c.width) (Qcz c now / Q7 c.width)) (show (0:Int) ≤ 1048576 by omega)) (show 0 ≤ paE (z.filter wpB) c.width item ((Qcz c now - 2 * c.span) / Q7 c.width) ((Qcz c now - c.span) / Q7 c.width) + 1 by have := h1 ((Qcz c now - 2 * c.span) / Q7 c.width) ((Qcz c now - c.span) / Q7 c.width); omega)
       omega
   split
   · split <;> omega
   split
   · split
     · have := Qa8 (now - (Qgf z item now).born) c.half
       omega
     · omega
   · omega
 · omega
theorem Q5j {c:Cfg} {z:List Ev} (hz:z.length < 1000) (hm:∀ e ∈ z,Xo e = true) : (Qib c z).length ≤ 1000 := by
 have h := (Q7p c z hm hz).len
 omega
set_option maxHeartbeats 1000000 in
theorem scoreRaw_spec (c:Cfg) (l:List Ev) (x:Int) (person item:ByteArray) (now:Int) (A:Option Addr) (cap:Nat) (w:World) (hg0:Gl w) (hs:SlE w A l) :
 Cal Tryz.prog 3 [Qvl c,.slice A l.length cap,.int .i64 x,.string person,.string item,.int .i64 now] w fun r w' => r = .bool true ∧ Ext w w' := by
 refine Fi Tryz.func3 rfl _ rfl rfl ?_;conv=>whnf
 intro b1 w1 hn1;conv=>whnf
 refine (Qrl w1 (hg0.ext hn1.ext)).mono ?_
 rintro _ w2 ⟨rfl,hx2⟩;conv=>whnf
 refine ⟨fun h => (by simp at h),fun _ => ?_⟩
 have hx := hn1.ext.trans hx2
 have hc1 : At w2 b1 _ (Qjt c) := hn1.At.ext hx2
 have hb1w : w.heap.size ≤ b1 := by rw [hn1.block]; exact Nat.le_refl _
 clear hn1 hx2
 conv=>whnf
 refine ⟨Qjt c,⟨rfl,hc1.all⟩,?_⟩;conv=>whnf
 refine (Qyr 24 (by omega) c l A cap person item w2 (hs.ext hx)).mono ?_
 rintro _ w3 ⟨rfl,hx3⟩
 replace hx := hx.trans hx3
 replace hc1 := hc1.ext hx3
 clear hx3
 generalize hq : hvB 24 c l person item = q
 conv=>whnf
 constructor
 · intro _; (conv=>whnf); exact ⟨rfl,hx⟩
 intro hc
 have hc : q = false := hc
 subst hc
 obtain ⟨hl,hm,hcf⟩ := Q7h hq
 clear hq
 conv=>whnf
 refine ⟨Qjt c,⟨rfl,hc1.all⟩,?_⟩;conv=>whnf
 refine (Qqn c hcf l A cap w3 (hg0.ext hx) (hs.ext hx) (by omega) hm).mono ?_
 rintro _ w4 ⟨p,rfl,hW,hx4⟩
 have hb3 := hx.size
 have hb1l := hc1.lt
 obtain ⟨T,hWT,hTb⟩ := hW.t
 have hTw : ∀ k,T k → w.heap.size ≤ k := fun k hk => Nat.le_trans hb3 (hTb k hk)
 have hT1 : ¬ T b1 := fun h => by have := hTb b1 h; omega
 replace hx := hx.trans hx4
 replace hc1 := hc1.ext hx4
 have hzm := hW.may
 have hzl := Qo1 l
 clear hW hTb hb3 hx4 hb1l
 conv=>whnf
 refine (Qrw hWT ⟨hcf,by omega⟩ (hg0.ext hx) person item now x).mono ?_
 rintro _ w5 ⟨rfl,hM5,_⟩
 have hx5 := Qk7 hx hTw hM5
 replace hc1 := hc1.mod hM5 hT1
 have hrb := Qza hzm (Q5j (c := c) (by omega) hzm) person item now x
 conv=>whnf
 refine Dr .ext [0,1,2,3,4,5,7,8,9,10,6,11,12,13,14,15,16,17,18,19,20,21,22] [] ?_;conv=>whnf
 replace hx5 := hx5.drew
 replace hc1 := hc1.ext (Ext.refl w5).drew
 generalize w5.drew = w6 at hx5 hc1 ⊢
 refine ⟨Qjt c,fun _ => ⟨rfl,hc1.all⟩,?_⟩;conv=>whnf
 refine ⟨Option Addr × Nat,fun q => .slice q.1 (Qel l).length q.2,fun q w' => SlE w' q.1 (Qel l) ∧ (Qel l).length ≤ q.2 ∧ Ext w6 w',(none,0),fun _ => (Q1y l A cap w6 (hs.ext hx5) (by omega) hm).mono fun r w' h => ?_,?_⟩
 · obtain ⟨A',c',h1,h2,h3,h4⟩ := h
   exact ⟨(A',c'),h1,h2,h3.1,h4⟩
 rintro ⟨A7,c7⟩ w7 h7
 obtain ⟨hs7,hc7,hx7⟩ : SlE w7 A7 (Qel l) ∧ (Qel l).length ≤ c7 ∧ Ext w6 w7 := by
  rcases h7 with ⟨_,h⟩ | ⟨h,_⟩
  · exact h
  · exact (h ⟨by decide,trivial⟩).elim
 clear h7
 refine ⟨hx7,?_⟩
 generalize Qel l = z at hzm hzl hs7 hc7 hrb ⊢
 conv=>whnf
 refine ⟨Unit,fun _ => (.int .i64 (Qqk c z person item now x)),fun _ w' => Ext w7 w',(),fun hg => ((Q15 c hcf z A7 c7 hc7 x person item now w7 hs7 (by omega) hzm)).mono fun r w' h => ⟨(),h.1,h.2⟩,?_⟩
 intro _ w8 h2
 have hx8 : Ext w7 w8 := by
  rcases h2 with ⟨_,h⟩ | ⟨_,h⟩
  · exact h
  · rw [h]; exact Ext.refl _
 clear h2
 refine ⟨hx8,?_⟩
 conv=>whnf
 refine ⟨?_,(hx5.trans hx7).trans hx8⟩
 generalize Qqk c z person item now x = n at hrb ⊢
 have h1 : decide ((0:Int) ≤ n) = true := decide_eq_true hrb.1
 have h2 : decide (n ≤ (1099511627776:Int)) = true := decide_eq_true hrb.2
 simp [h1,h2]
end Go.Proofs.YtoancknoinilaaaGreatDoor
