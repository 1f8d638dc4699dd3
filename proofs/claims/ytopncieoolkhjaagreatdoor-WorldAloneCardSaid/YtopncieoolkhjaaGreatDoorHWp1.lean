import Derived.Test.YtopncieoolkhjaaGreatDoorHWl1
import Derived.Test.YtopncieoolkhjaaGreatDoorHWq1
import Derived.Test.YtopncieoolkhjaaGreatDoorHRf4
import Derived.Test.YtopncieoolkhjaaGreatDoorGJ
import Derived.Test.YtopncieoolkhjaaGreatDoorHRsC
import Derived.Test.YtopncieoolkhjaaGreatDoorHSam
import Derived.Test.YtopncieoolkhjaaGreatDoorGM
import Derived.Test.YtopncieoolkhjaaGreatDoorHRs7
/- The world's parts and the document's,by themselves (for WorldParts). -/
set_option linter.unusedVariables false
set_option linter.unusedSimpArgs false
namespace Go.Proofs.YtopncieoolkhjaaGreatDoor
open Go.Se Go.RowKit
section
variable {w:World} {T:Nat → Prop} {p:Nat} {c:Cfg} {z:List Ev} {v:Value} {col:Nat → Nat} {q:WP} {A:Option Addr} {n cap:Nat} {any:Bool} {last:Ev}
theorem Qdm (h:WQL w T p c z v col q A n cap any last) : Cal Tryz.prog 22 [.pointer (some ⟨p,0,none⟩)] w fun r w' => r = .pointer (some ⟨q.pw,0,none⟩) ∧ Ext w w' := by
 refine Fi Tryz.func22 rfl _ rfl rfl ?_;conv=>whnf
 refine ⟨_,h.head.one rfl,?_⟩;conv=>whnf
 exact ⟨rfl,Ext.refl _⟩
theorem Qwb (h:WQL w T p c z v col q A n cap any last) : Cal Tryz.prog 26 [.pointer (some ⟨p,0,none⟩)] w fun r w' => r = .pointer (some ⟨q.pd,0,none⟩) ∧ Ext w w' := by
 refine Fi Tryz.func26 rfl _ rfl rfl ?_;conv=>whnf
 refine ⟨_,h.head.one rfl,?_⟩;conv=>whnf
 exact ⟨rfl,Ext.refl _⟩
theorem Quh (h:WQL w T p c z v col q A n cap any last) : Cal Tryz.prog 30 [.pointer (some ⟨p,0,none⟩)] w fun r w' => r = .pointer (some ⟨q.pp,0,none⟩) ∧ Ext w w' := by
 refine Fi Tryz.func30 rfl _ rfl rfl ?_;conv=>whnf
 refine ⟨_,h.head.one rfl,?_⟩;conv=>whnf
 exact ⟨rfl,Ext.refl _⟩
theorem Qgi (h:WQL w T p c z v col q A n cap any last) : Cal Tryz.prog 37 [.pointer (some ⟨p,0,none⟩)] w fun r w' => r = .pointer (some ⟨q.ps,0,none⟩) ∧ Ext w w' := by
 refine Fi Tryz.func37 rfl _ rfl rfl ?_;conv=>whnf
 refine ⟨_,h.head.one rfl,?_⟩;conv=>whnf
 exact ⟨rfl,Ext.refl _⟩
theorem Qh3 (h:WQL w T p c z v col q A n cap any last) : Cal Tryz.prog 39 [.pointer (some ⟨p,0,none⟩)] w fun r w' => r = .pointer (some ⟨q.pc,0,none⟩) ∧ Ext w w' := by
 refine Fi Tryz.func39 rfl _ rfl rfl ?_;conv=>whnf
 refine ⟨_,h.head.one rfl,?_⟩;conv=>whnf
 exact ⟨rfl,Ext.refl _⟩
theorem Q1p (h:WQL w T p c z v col q A n cap any last) (hm:∀ e ∈ z,Xo e = true) (hz:z.length < 1000) (item:ByteArray) (now:Int) (hn:0 ≤ now ∧ now ≤ 1099511627776) :
 Cal Tryz.prog 27 [.pointer (some ⟨q.pd,0,none⟩),.string item,.int .i64 now] w fun r w' => r = .int .i64 (Qv7 (z.filter wpB) (Xq c.half) item now) ∧ Ext w w' := by
 have hpm := Q49 hm
 have hb := Qy7 hpm (Xq c.half) item now
 have hl := List.length_filter_le wpB z
 have hc := h.cts.dec
 rw [(Qfr c.width z).1] at hc
 refine (Qhl w _ q.pd _ _ _ hc item now hn fun r hr x hx => ?_).mono ?_
 · obtain ⟨e,he,h1,_⟩ := Q0x _ item r hr x hx
   rw [← h1]
   exact Ql7 (hpm e he)
 rintro r w2 ⟨hr,hx2⟩
 have hv : Qcp (Qx0 (z.filter wpB)) (Xq c.half) item now = Qv7 (z.filter wpB) (Xq c.half) item now := by
  unfold Qcp
  rw [Q4k _ _ _ _ (fun e he => (List.mem_filter.1 he).2)]
  exact (wrap_eq rfl ⟨by omega,by omega⟩).symm
 exact ⟨by rw [hr,hv],hx2⟩
theorem Q4y (h:WQL w T p c z v col q A n cap any last) (hcf:Qlb c = true) (hm:∀ e ∈ z,Xo e = true) (hz:z.length < 1000) (item:ByteArray) (now:Int) (hn:0 ≤ now ∧ now ≤ 1099511627776) :
 Cal Tryz.prog 31 [.pointer (some ⟨q.pp,0,none⟩),.string item,.int .i64 0,.int .i64 now] w fun r w' => r = .int .i64 (paE (z.filter wpB) c.width item (0 / Xq c.width) (now / Xq c.width)) ∧ Ext w w' := by
 obtain ⟨c1,c2,_⟩ := Qon hcf
 have hwid := Qj1 c2
 have hp := h.cts.pane
 rw [(Qfr c.width z).2.1] at hp
 refine (Qv4 w _ q.pp (Xq c.width) _ _ hp (by omega) _ (Q5h c.width hm (by omega)) item 0 now ⟨by omega,by omega⟩ ⟨by omega,by omega⟩).mono ?_
 rintro _ w' ⟨rfl,rfl⟩
 exact ⟨by rw [Q4v _ _ _ _ _ (fun e he => (List.mem_filter.1 he).2)],Ext.refl _⟩
theorem Q1q (h:WQL w T p c z v col q A n cap any last) (hcf:Qlb c = true) : Cal Tryz.prog 34 [.pointer (some ⟨q.pp,0,none⟩)] w fun r w' => r = .int .i64 c.width ∧ Ext w w' := by
 obtain ⟨c1,c2,_⟩ := Qon hcf
 have := Qpa w _ q.pp (Xq c.width) _ _ h.cts.pane
 rw [Qj1 c2] at this
 exact this
theorem Q3n (h:WQL w T p c z v col q A n cap any last) (item:ByteArray) : Cal Tryz.prog 23 [.pointer (some ⟨q.pw,0,none⟩),.string item] w fun r w' => r = .int .i64 ((Qti z item).length : Nat) ∧ Ext w w' := by
 refine (Qx3 w _ q.pw _ _ h.cts.crowd item).mono ?_
 rintro _ w' ⟨rfl,rfl⟩
 refine ⟨?_,Ext.refl _⟩
 have : Q01 (Qq c.width z).rs item = ((Qti z item).length : Int) := by
  unfold Q01
  rw [Qrb,Q4l,Q0z]
 rw [this]
theorem Qh4 (h:WQL w T p c z v col q A n cap any last) (hz:z.length < 1000) (person:ByteArray) : Cal Tryz.prog 25 [.pointer (some ⟨q.pw,0,none⟩),.string person] w fun r w' => ∃ i : Option Addr × Nat,r = .slice i.1 (Qen z person).length i.2 ∧ SlE w' i.1 (Qen z person) ∧ Ext w w' := by
 have hcp := (Qat c.width z).2
 have hzp : (Qbf z).length < 1000000 := by
  have h2 := List.length_filter_le peB z
  unfold Qbf
  omega
 have := Qow w _ q.pw _ _ h.cts.crowd person (by
  have : (evs (Qq c.width z).rs).length = (Qbf z).length := by rw [hcp]
  simp [evs] at this
  omega)
 rw [hcp] at this
 refine this.mono ?_
 rintro _ w' ⟨A',c',rfl,hown,hx⟩
 exact ⟨(A',c'),rfl,hown.sl Xb,hx⟩
theorem Q4w (h:WQL w T p c z v col q A n cap any last) (hcf:Qlb c = true) (hok:Q4a c z) : Cal Tryz.prog 38 [.pointer (some ⟨q.ps,0,none⟩)] w fun r w' => ∃ i : Option Addr × Nat,r = .slice i.1 (Qip c z).length i.2 ∧ Ext w w' := by
 have hc := h.cts.ses
 rw [(Qfr c.width z).2.2] at hc
 refine (Qmf w _ q.ps _ _ hc (Qrg _) hok.ses).mono ?_
 rintro _ w' ⟨A',c',U,rfl,_,hS,hx⟩
 refine ⟨(A',c'),?_,hx⟩
 rw [hS.len]
 rfl
theorem Qwa (h:WQL w T p c z v col q A n cap any last) (hm:∀ e ∈ z,Xo e = true) (hz:z.length < 1000) (item:ByteArray) : Cal Tryz.prog 40 [.pointer (some ⟨q.pc,0,none⟩),.string item] w fun r w' => ∃ i : Option Addr × Nat × Nat,r = .slice i.1 i.2.1 i.2.2 ∧ i.2.1 ≤ (Xc z).length ∧ Ext w w' := by
 have hc := h.cts.cat
 rw [(Qat c.width z).1] at hc
 have hb := (Qaf (Xc z) (Qk4 hm) item).1
 have hl := List.length_filter_le thB z
 have hl' : (Xc z).length ≤ z.length := hl
 refine (Qvc w _ q.pc _ hc item (by omega)).mono ?_
 rintro _ w' ⟨A',c',L,rfl,_,hL,_,hx⟩
 exact ⟨(A',L.length,c'),rfl,by simp only; omega,hx⟩
end
theorem Q1t (w:World) (pp:Nat) (c:Cfg) (hcf:Qlb c = true) (z:List Ev) (h:C11 w pp c.half ((z.filter wpB).map Qsz)) (hm:∀ e ∈ z,Xo e = true) (hz:z.length < 1000) (item:ByteArray) (now:Int) (hn:0 ≤ now ∧ now ≤ 1099511627776) :
 Cal Tryz.prog 29 [.pointer (some ⟨pp,0,none⟩),.string item,.int .i64 now] w fun r w' => r = .int .i64 (Qv7 (z.filter wpB) (Xq c.half) item now) ∧ Ext w w' := by
 obtain ⟨c1,c2,_⟩ := Qon hcf
 have hl := List.length_filter_le wpB z
 refine (Qwc w pp c.half _ h (fun x hx => ?_) (by rw [List.length_map]; omega) c1 item now hn).mono ?_
 · obtain ⟨e,he,rfl⟩ := List.mem_map.1 hx
   obtain ⟨h1,h2⟩ := List.mem_filter.1 he
   exact Q18 (hm e h1) h2
 rintro _ w' ⟨rfl,hx⟩
 exact ⟨by rw [Qv6,Qj1 c1],hx⟩
theorem Q40 (w:World) (pp:Nat) (c:Cfg) (hcf:Qlb c = true) (z:List Ev) (h:P9 w pp c.width ((z.filter wpB).map (s9E c.width))) (hm:∀ e ∈ z,Xo e = true) (hz:z.length < 1000) (item:ByteArray) (now:Int) (hn:0 ≤ now ∧ now ≤ 1099511627776) :
 Cal Tryz.prog 33 [.pointer (some ⟨pp,0,none⟩),.string item,.int .i64 0,.int .i64 now] w fun r w' => r = .int .i64 (paE (z.filter wpB) c.width item (0 / Xq c.width) (now / Xq c.width)) ∧ Ext w w' := by
 obtain ⟨c1,c2,_⟩ := Qon hcf
 have hwid := Qj1 c2
 have hl := List.length_filter_le wpB z
 refine (Qwj w pp c.width _ h c2 (fun x hx => ?_) (by rw [List.length_map]; omega) item 0 now ⟨by omega,by omega⟩ ⟨by omega,by omega⟩).mono ?_
 · obtain ⟨e,he,rfl⟩ := List.mem_map.1 hx
   exact Q5j (hm e (List.mem_filter.1 he).1)
 rintro _ w' ⟨rfl,hx⟩
 have := Q3k c.width (z.filter wpB) item (0 / c.width) (now / c.width)
 rw [hwid] at this ⊢
 exact ⟨by rw [this],hx⟩
theorem Q21 (item:ByteArray) : ∀ z : List Ev,(Qti z item).length ≤ z.length := by
 refine Qy (by simp [Qti]) fun z e ih => ?_
 rw [Qgw,List.length_append,List.length_singleton]
 split
 · have := Qy8 (Qti z item) e.person
   omega
 · omega
def Q3g (c:Cfg) (l:List Ev) (person item:ByteArray) (now:Int) : Bool := (((((((decide ((30:Int) < l.length)) || l.any (Q0o 300)) || !l.all Xo) || !Qlb c) || decide ((100:Int) < person.size)) || decide ((100:Int) < item.size)) || decide (now < 0)) || decide ((1099511627776:Int) < now)
theorem Q1e {c:Cfg} {l:List Ev} {person item:ByteArray} {now:Int} (h:Q3g c l person item now = false) : l.length ≤ 30 ∧ (∀ e ∈ l,Xo e = true) ∧ Qlb c = true ∧ (0 ≤ now ∧ now ≤ 1099511627776) := by
 unfold Q3g at h
 simp only [Bool.or_eq_false_iff,Bool.not_eq_false',decide_eq_false_iff_not,List.all_eq_true] at h
 obtain ⟨⟨⟨⟨⟨⟨⟨h1,h2⟩,h3⟩,h4⟩,h5⟩,h6⟩,h7⟩,h8⟩ := h
 exact ⟨by omega,h3,h4,by omega,by omega⟩
theorem Qs6 {l:List Ev} (h:l.any (Q0o 300) = false) : ∀ e ∈ l,e.text.size < 1000000000000 := fun e he => by
 have := (List.any_eq_false.1 h) e he
 simp [Q0o] at this
 omega
end Go.Proofs.YtopncieoolkhjaaGreatDoor
