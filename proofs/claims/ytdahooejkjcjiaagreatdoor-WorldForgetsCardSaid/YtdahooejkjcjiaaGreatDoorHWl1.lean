import Derived.Test.YtdahooejkjcjiaaGreatDoorGX
import Derived.Test.YtdahooejkjcjiaaGreatDoorGH
import Derived.Test.YtdahooejkjcjiaaGreatDoorGI
/- The example of the world's chapter. -/
set_option linter.unusedVariables false
set_option linter.unusedSimpArgs false
namespace Go.Proofs.YtdahooejkjcjiaaGreatDoor
open Go.Se Go.RowKit
def Q2z : Cfg := ⟨10,10,0,10,0,0⟩
def lv1 : Ev := ⟨⟨#[115]⟩,1,5,1,⟨#[112]⟩,⟨#[97]⟩,0,⟨#[]⟩⟩
def lv2 : Ev := ⟨⟨#[115]⟩,2,9,14,⟨#[112]⟩,⟨#[]⟩,0,⟨#[]⟩⟩
def Q3m : WS := Qp0 10 WS0 lv1
def Q51 : WS := Qp0 10 Q3m lv2
theorem Q8y : Qme WS0 lv1 = 0 := by decide +kernel
theorem Q8z : Qme Q3m lv2 = 0 := by decide +kernel
theorem Q80 : X9 Q3m.ct.ds (Qw 10) ⟨#[97]⟩ 5 = 1048576 := by decide +kernel
theorem Q81 : X9 Q51.ct.ds (Qw 10) ⟨#[97]⟩ 9 = 0 := by decide +kernel
theorem Q8r : Q51.es.length = 1 := by decide +kernel
theorem Q82 : ∀ x ∈ (Qd Q3m.ct.ds ⟨#[97]⟩).getD [],0 ≤ x.1 ∧ x.1 ≤ 1099511627776 := by decide +kernel
theorem Q83 : ∀ x ∈ (Qd Q51.ct.ds ⟨#[97]⟩).getD [],0 ≤ x.1 ∧ x.1 ≤ 1099511627776 := by decide +kernel
theorem Q84 : Q3m.es.length < 100000 := by decide +kernel
theorem getD_some {α:Type} {o:Option (List α)} {P:α → Prop} (h:∀ x ∈ o.getD [],P x) : ∀ r,o = some r → ∀ x ∈ r,P x := fun r hr x hx => h x (by rw [hr]; exact hx)
theorem Q8i : Tryz.prog.underlying 27 = some (.pointer (Tryz.prog.pointee 27)) := by kernel_rfl
section
variable {w:World} {base p:Nat} {c:Cfg} {s:WS} {col:Nat → Nat} {q:WP} {A:Option Addr} {cap:Nat}
theorem Qra (h:Qa5 w base p c s col q A cap) : Cal Tryz.prog 31 [.pointer (some ⟨p,0,none⟩)] w fun r w' => r = .pointer (some ⟨q.pd,0,none⟩) ∧ Ext w w' := by
 refine Fi Tryz.func31 rfl _ rfl rfl ?_;conv=>whnf
 refine ⟨_,h.head.one rfl,?_⟩;conv=>whnf
 exact ⟨rfl,Ext.refl _⟩
theorem Qzz (h:Qa5 w base p c s col q A cap) (hl:s.es.length < 1000000) : Cal Tryz.prog 20 [.pointer (some ⟨p,0,none⟩)] w fun r w' => ∃ A' c',r = .slice A' s.es.length c' ∧ SlE w' A' s.es ∧ Ext w w' := by
 refine Fi Tryz.func20 rfl _ rfl rfl ?_;conv=>whnf
 refine ⟨_,h.head.one rfl,?_⟩;conv=>whnf
 refine (Qmx s.es A cap w (h.evs.sl Q3) (by omega)).mono ?_
 rintro _ w2 ⟨A',c',rfl,hown,hx⟩; (conv=>whnf);repeat(refine Sg ?_;(conv=>whnf))
 exact ⟨A',c',rfl,hown.sl Q3,hx⟩
end
theorem Qbz.low {w:World} {base p:Nat} {c:Cfg} {s:WS} {col:Nat → Nat} (h:Qbz w base p c s col) : ∀ k,col k ≠ 0 → base ≤ k := fun k hk => by
 obtain ⟨q,A,cap,hL⟩ := h.1
 exact hL.low.2 k hk
set_option maxHeartbeats 2000000 in
theorem Qhq (w:World) (hg0:Gl w) : Cal Tryz.prog 8 [] w fun r w' => r = .bool true ∧ Ext w w' := by
 have hsz := hg0.size
 refine Fi Tryz.func8 rfl _ rfl rfl ?_;conv=>whnf
 refine (Qfj Q2z w hsz (by rfl)).mono ?_
 rintro _ w1 ⟨p,rfl,hW,hx⟩
 obtain ⟨col,hC⟩ := hW.col
 clear hW
 (conv=>whnf);repeat(refine Sg ?_;(conv=>whnf))
 refine ⟨_,fun _ => Qcx Q8i _ _ _,?_⟩; (conv=>whnf);repeat(refine Sg ?_;(conv=>whnf))
 constructor
 · intro h; simp at h
 intro _
 (conv=>whnf);repeat(refine Sg ?_;(conv=>whnf))
 refine (Qj9 w1 _ p Q2z (by rfl) WS0 col hC (hg0.ext hx) (Q5x _) (by decide) lv1 (by decide)).mono ?_
 rintro _ w2 ⟨rfl,col2,hC2,_,hM2⟩
 have hI1 := (Q5x Q2z).add lv1
 have hE : Qp0 Q2z.width WS0 lv1 = Q3m := rfl
 rw [hE] at hC2 hI1
 rw [Q8y]
 replace hx := Qz hx hM2 hC.low
 clear hM2 hC hE
 (conv=>whnf);repeat(refine Sg ?_;(conv=>whnf))
 obtain ⟨⟨q,A,cap,hL⟩,_⟩ := id hC2
 refine (Qra hL).mono ?_
 rintro _ w3 ⟨rfl,hx3⟩
 replace hL := hL.ext hx3
 replace hC2 := hC2.ext hx3
 replace hx := hx.trans hx3
 clear hx3
 (conv=>whnf);repeat(refine Sg ?_;(conv=>whnf))
 refine (Qix w3 _ q.pd _ _ _ hL.cts.dec ⟨#[97]⟩ 5 ⟨by decide,by decide⟩ (getD_some Q82)).mono ?_
 rintro _ w4 ⟨rfl,hx4⟩
 rw [show X9 Q3m.ct.ds (Qw Q2z.half) ⟨#[97]⟩ 5 = 1048576 from Q80]
 replace hC2 := hC2.ext hx4
 replace hx := hx.trans hx4
 clear hL hx4
 (conv=>whnf);repeat(refine Sg ?_;(conv=>whnf))
 refine (Qj9 w4 _ p Q2z (by rfl) Q3m col2 hC2 (hg0.ext hx) hI1 Q84 lv2 (by decide)).mono ?_
 rintro _ w5 ⟨rfl,Q24,hC5,_,hM5⟩
 have hE : Qp0 Q2z.width Q3m lv2 = Q51 := rfl
 rw [hE] at hC5
 rw [Q8z]
 replace hx := Qz hx hM5 hC2.low
 obtain ⟨⟨q5,A5,cap5,hL⟩,_⟩ := hC5
 clear hM5 hC2 hE hI1
 (conv=>whnf);repeat(refine Sg ?_;(conv=>whnf))
 refine ⟨Unit,fun _ => (.pointer (some ⟨q5.pd,0,none⟩)),fun _ w' => Ext w5 w',(),fun hg => ((Qra hL)).mono fun r w' h => ⟨(),h.1,h.2⟩,?_⟩
 intro _ w6 h2
 have hx6 : Ext w5 w6 := by
  rcases h2 with ⟨_,h⟩ | ⟨_,h⟩
  · exact h
  · rw [h]; exact Ext.refl _
 clear h2
 conv=>whnf
 replace hL := hL.ext hx6
 replace hx := hx.trans hx6
 refine ⟨Unit,fun _ => (.int .i64 (X9 Q51.ct.ds (Qw Q2z.half) ⟨#[97]⟩ 9)),fun _ w' => Ext w6 w',(),fun hg => ((Qix w6 _ q5.pd _ _ _ hL.cts.dec ⟨#[97]⟩ 9 ⟨by decide,by decide⟩ (getD_some Q83))).mono fun r w' h => ⟨(),h.1,h.2⟩,?_⟩
 intro _ w7 h2
 have hx7 : Ext w6 w7 := by
  rcases h2 with ⟨_,h⟩ | ⟨_,h⟩
  · exact h
  · rw [h]; exact Ext.refl _
 clear h2
 conv=>whnf
 replace hL := hL.ext hx7
 replace hx := hx.trans hx7
 refine ⟨Option Addr × Nat,fun i => .slice i.1 Q51.es.length i.2,fun _ w' => Ext w7 w',(none,0),fun _ => (Qzz hL (by rw [Q8r]; decide)).mono fun r w' ⟨A',c',h1,_,h2⟩ => ⟨(A',c'),h1,h2⟩,?_⟩
 rintro ⟨A8,c8⟩ w8 h8
 have hx8 : Ext w7 w8 := by
  rcases h8 with ⟨_,h⟩ | ⟨_,h⟩
  · exact h
  · rw [h]; exact Ext.refl _
 (conv=>whnf);repeat(refine Sg ?_;(conv=>whnf))
 refine ⟨?_,hx.trans hx8⟩
 rw [show X9 Q51.ct.ds (Qw Q2z.half) ⟨#[97]⟩ 9 = 0 from Q81,Q8r]
 rfl
end Go.Proofs.YtdahooejkjcjiaaGreatDoor
