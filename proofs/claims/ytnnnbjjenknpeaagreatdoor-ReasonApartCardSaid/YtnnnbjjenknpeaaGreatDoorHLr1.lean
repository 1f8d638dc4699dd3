import Derived.Test.YtnnnbjjenknpeaaGreatDoorHRs7
/- The reason's laws: how they begin; their example. -/
set_option linter.unusedVariables false
set_option linter.unusedSimpArgs false
namespace Go.Proofs.YtnnnbjjenknpeaaGreatDoor
open Go.Se Go.RowKit
theorem Q6a : Tryz.prog.underlying 31 = some (.pointer (Tryz.prog.pointee 31)) := by kernel_rfl
theorem Q8d (a b:Ev) (ox oy:Operand) : Qro Tryz.prog 53 ox oy (evV a) (evV b) (decide (a = b)) := by
 have h := Qpp (ox := ox) (oy := oy) Qa st53 (xs := evC a) (ys := evC b) (b := decide (a.src = b.src) && (decide (a.num = b.num) && (decide (a.at_ = b.at_) && (decide (a.kind = b.kind) && (decide (a.person = b.person) && (decide (a.item = b.item) && (decide (a.val = b.val) && (decide (a.text = b.text) && true)))))))) rfl
 have e : (decide (a.src = b.src) && (decide (a.num = b.num) && (decide (a.at_ = b.at_) && (decide (a.kind = b.kind) && (decide (a.person = b.person) && (decide (a.item = b.item) && (decide (a.val = b.val) && (decide (a.text = b.text) && true)))))))) = decide (a = b) := by
  rw [Bool.eq_iff_iff]
  simp only [Bool.and_eq_true,decide_eq_true_eq,Ev.ext_iff,and_true]
 rw [e] at h
 exact h
def plC (c:Cfg) (A:Option Addr) (n cap:Nat) (a:Nat → Int) (person item:ByteArray) (now:Int) : List Value :=
 [vi c.half,vi c.width,vi c.gap,vi c.span,vi c.floor,vi c.crowd,.slice A n cap,.int .i64 (a 0),.int .i64 (a 1),.int .i64 (a 2),.int .i64 (a 3),.int .i64 (a 4),.int .i64 (a 5),.string person,.string item,.int .i64 now]
theorem Qz7 {w:World} {b t:Nat} {c:Cfg} {A:Option Addr} {n cap:Nat} {a:Nat → Int} {person item:ByteArray} {now:Int} (h:At w b t (plC c A n cap a person item now)) : Xr w ⟨b,0,none⟩ (Qph c) :=
 At.sub (pre := []) (post := (plC c A n cap a person item now).drop 6) h
theorem Q7b {w:World} {b t:Nat} {c:Cfg} {A:Option Addr} {n cap:Nat} {a:Nat → Int} {person item:ByteArray} {now:Int} (h:At w b t (plC c A n cap a person item now)) : Xr w ((⟨b,0,none⟩ : Addr).add 7) (wsC a) :=
 At.sub (pre := (plC c A n cap a person item now).take 7) (post := (plC c A n cap a person item now).drop 13) h
def Q34 (c:Cfg) (l:List Ev) (person item:ByteArray) : Bool := ((((Qrk c && decide ((l.length : Int) ≤ 20)) && !(l.any (Q15 100))) && l.all Xm) && decide ((person.size : Int) ≤ 60)) && decide ((item.size : Int) ≤ 60)
theorem Q6y {c:Cfg} {l:List Ev} {person item:ByteArray} (h:Q34 c l person item = true) : Qrk c = true ∧ l.length ≤ 20 ∧ ∀ e ∈ l,Xm e = true := by
 unfold Q34 at h
 simp only [Bool.and_eq_true,decide_eq_true_eq,List.all_eq_true] at h
 obtain ⟨⟨⟨⟨⟨h1,h2⟩,h3⟩,h4⟩,h5⟩,h6⟩ := h
 exact ⟨h1,by omega,h4⟩
theorem Q49 {c:Cfg} {l:List Ev} (h:((Qrk c && decide ((l.length : Int) ≤ 20)) && !(l.any (Q15 100))) = true) : l.length < 1000000000000 := by
 simp only [Bool.and_eq_true,decide_eq_true_eq] at h
 omega
theorem Q2j {c:Cfg} {l:List Ev} (h:((Qrk c && decide ((l.length : Int) ≤ 20)) && !(l.any (Q15 100))) = true) {e:Ev} (he:e ∈ l) : e.text.size < 1000000000000 := by
 simp only [Bool.and_eq_true,decide_eq_true_eq,Bool.not_eq_true'] at h
 have h2 := h.2
 rw [List.any_eq_false] at h2
 have := h2 e he
 simp [Q15] at this
 omega
theorem Q2i (c:Cfg) (l:List Ev) (A:Option Addr) (cap:Nat) (a:Nat → Int) (person item:ByteArray) (now:Int) (w:World) (hs:SlE w A l) :
 Cal Tryz.prog 10 [.agg (plC c A l.length cap a person item now).toArray] w fun r w' => r = .bool (Q34 c l person item) ∧ Ext w w' := by
 refine Fi Tryz.func10 rfl _ rfl rfl ?_;conv=>whnf
 intro b1 w1 hn1;conv=>whnf
 have h1 : At w1 b1 28 (plC c A l.length cap a person item now) := hn1.At
 have hx := hn1.ext
 clear hn1
 refine ⟨Qph c,⟨rfl,Qz7 h1⟩,?_⟩;conv=>whnf
 refine (Qqn c w1).mono ?_
 rintro _ w2 ⟨rfl,hx2⟩
 replace h1 := h1.ext hx2
 replace hx := hx.trans hx2
 conv=>whnf
 refine ⟨.slice A l.length cap,fun _ => h1.one rfl,?_⟩;conv=>whnf
 refine ⟨.slice A l.length cap,fun _ => h1.one rfl,?_⟩;conv=>whnf
 refine ⟨Unit,fun _ => (.bool (l.any (Q15 100))),fun _ w' => Ext w2 w',(),fun hg => ((Q00 l A cap 100 w2 (hs.ext hx) (by simp at hg; omega))).mono fun r w' h => ⟨(),h.1,h.2⟩,?_⟩
 intro _ w3 h2
 have hx3 : Ext w2 w3 := by
  rcases h2 with ⟨_,h⟩ | ⟨_,h⟩
  · exact h
  · rw [h]; exact Ext.refl _
 clear h2
 conv=>whnf
 replace h1 := h1.ext hx3
 replace hx := hx.trans hx3
 refine ⟨.slice A l.length cap,fun _ => h1.one rfl,?_⟩;conv=>whnf
 refine ⟨Unit,fun _ => (.bool (l.all Xm)),fun _ w' => Ext w3 w',(),fun hg => ((Q1z l A cap w3 (hs.ext hx) (Q49 hg) (fun e he => Q2j hg he))).mono fun r w' h => ⟨(),h.1,h.2⟩,?_⟩
 intro _ w4 h2
 have hx4 : Ext w3 w4 := by
  rcases h2 with ⟨_,h⟩ | ⟨_,h⟩
  · exact h
  · rw [h]; exact Ext.refl _
 clear h2
 conv=>whnf
 replace h1 := h1.ext hx4
 replace hx := hx.trans hx4
 refine ⟨.string person,fun _ => h1.one rfl,?_⟩;conv=>whnf
 refine ⟨.string item,fun _ => h1.one rfl,?_⟩;conv=>whnf
 exact ⟨rfl,hx⟩
theorem Q20 (c:Cfg) (l:List Ev) (A:Option Addr) (cap:Nat) (a:Nat → Int) (person item:ByteArray) (now:Int) (w:World) (hg0:Gl w) (hs:SlE w A l) (hcf:Qrk c = true) (hl:l.length < 1000000) (hm:∀ e ∈ l,Xm e = true) :
 Cal Tryz.prog 12 [.agg (plC c A l.length cap a person item now).toArray] w fun r w' => ∃ p T,r = .pointer (some ⟨p,0,none⟩) ∧ WT w' T p c (Xq l) ∧ (∀ k,T k → w.heap.size ≤ k) ∧ Ext w w' := by
 refine Fi Tryz.func12 rfl _ rfl rfl ?_;conv=>whnf
 intro b1 w1 hn1;conv=>whnf
 have h1 : At w1 b1 28 (plC c A l.length cap a person item now) := hn1.At
 have hx := hn1.ext
 clear hn1
 refine ⟨Qph c,⟨rfl,Qz7 h1⟩,?_⟩;conv=>whnf
 refine ⟨.slice A l.length cap,h1.one rfl,?_⟩;conv=>whnf
 refine (Qfi c hcf l A cap w1 (hg0.ext hx) (hs.ext hx) hl hm).mono ?_
 rintro _ w2 ⟨p,rfl,hW,hx2⟩
 obtain ⟨T,hWT,hT⟩ := hW.t
 conv=>whnf
 refine ⟨fun h => (by simp at h),fun _ => ?_⟩
 conv=>whnf
 exact ⟨p,T,rfl,hWT,fun k hk => Nat.le_trans hx.size (hT k hk),hx.trans hx2⟩
def Q7t : Cfg := ⟨10,1,0,1,0,2⟩
def aw1 : Ev := ⟨⟨#[115]⟩,1,0,11,⟨#[]⟩,⟨#[97]⟩,0,⟨#[109,59,120]⟩⟩
def aw2 : Ev := ⟨⟨#[115]⟩,2,5,1,⟨#[112]⟩,⟨#[97]⟩,0,⟨#[]⟩⟩
theorem Q3z : ∀ e ∈ [aw1,aw2],Xm e = true := by decide +kernel
theorem Q4v : Xq [aw1,aw2] = [aw1,aw2] := by
 have h : Qjf (Qbf [aw1,aw2]) = [aw1,aw2] := by decide +kernel
 exact (Qyf Q3z (by rw [h]) (by unfold Srt; decide +kernel)).symm
theorem Q6s : Qst Q7t [aw1,aw2] ⟨#[112]⟩ ⟨#[97]⟩ 5 = [aw2] := by decide +kernel
theorem Q4w : Qkk Q7t [aw1,aw2] ⟨#[97]⟩ = 0 := by decide +kernel
theorem Qic (w:World) (hg0:Gl w) : Cal Tryz.prog 11 [] w fun r w' => r = .bool true ∧ Ext w w' := by
 refine Fi Tryz.func11 rfl _ rfl rfl ?_;conv=>whnf
 intro b1 w1 hn1;conv=>whnf
 have hs1 : SlE w1 (some ⟨b1,0,none⟩) [aw1,aw2] := Qcu Qak hn1
 have hx := hn1.ext
 have l1 : b1 < w1.heap.size := by rw [hn1.block,hn1.size]; omega
 have g1 : w.heap.size ≤ b1 := by rw [hn1.block]; exact Nat.le_refl _
 clear hn1
 refine (Qfi Q7t (by rfl) [aw1,aw2] (some ⟨b1,0,none⟩) 2 w1 (hg0.ext hx) hs1 (by decide) Q3z).mono ?_
 rintro _ w2 ⟨p,rfl,hW,hx2⟩
 rw [Q4v] at hW
 obtain ⟨T,hWT,hT⟩ := hW.t
 have hsz := hg0.size
 have hs12 := hx.size
 replace hx := hx.trans hx2
 replace hs1 := hs1.ext hx2
 (conv=>whnf);repeat(refine Sg ?_;(conv=>whnf))
 refine ⟨_,fun _ => Qad Q6a _ _ _,?_⟩; (conv=>whnf);repeat(refine Sg ?_;(conv=>whnf))
 constructor
 · intro h; simp at h
 intro _
 (conv=>whnf);repeat(refine Sg ?_;(conv=>whnf))
 have hof := Qey hWT ⟨by rfl,by decide⟩ (hg0.ext hx) (fun b hb => by have := hT b hb; omega) ones ⟨#[112]⟩ ⟨#[97]⟩ 5
 rw [Q6s,Q4w] at hof
 refine hof.mono ?_
 clear hof
 rintro _ w3 ⟨A1,c1,A2,c2,T3,rfl,_,hown2,_,_,_,_,_,hM3⟩
 have hx3 : Ext w w3 := Qr8 hx (fun k hk => by have := hT k hk; omega) hM3
 replace hs1 := Qfr.stay hs1 fun a ha hlt => hM3.block a.block hlt fun h => by
  injection ha with ha
  subst ha
  have := hT _ h
  show False
  simp only at this
  omega
 generalize Qgh (Qlw (Qoh Q7t [aw1,aw2] ⟨#[112]⟩ ⟨#[97]⟩ 5) ones 6) = tt
 obtain ⟨a2,rfl,hc2⟩ := (hown2.sl Qak).get (k := 0) (by decide)
 obtain ⟨a1,ha1,hc1⟩ := hs1.get (k := 1) (by decide)
 injection ha1 with ha1
 subst ha1
 conv=>whnf
 intro b4 w4 hn4;conv=>whnf
 refine Qc Qa (e := ty36) rfl hn4.At rfl rfl rfl (by simp [Qh,rsC,Value.oneCell']) fun w5 h5 ho5 => ?_
 have h5 : At w5 b4 36 (rsC ⟨#[97]⟩ A1 6 c1 tt (some a2) 1 c2 0) := h5
 have hx35 : Ext w3 w5 := ho5.ext hn4.ext (by rw [hn4.block]; exact Nat.le_refl _)
 clear ho5 hn4
 replace hx3 := hx3.trans hx35
 replace hc1 := hx35.cells hc1
 replace hc2 := hx35.cells hc2
 (conv=>whnf);repeat(refine Sg ?_;(conv=>whnf))
 refine Dr .same [0,1,2,3,4,5,6,7,8,9,10,11,12,13,14,15,16,17,18,19,20,21,22,23,24,25,26,27,28,29,30] [] ?_;conv=>whnf
 have hxd : Ext w5 w5.drew := (Ext.refl w5).drew
 replace h5 := h5.ext hxd
 replace hx3 := hx3.trans hxd
 replace hc1 := hxd.cells hc1
 replace hc2 := hxd.cells hc2
 generalize w5.drew = w6 at hx3 h5 hc1 hc2 ⊢
 refine ⟨.string ⟨#[97]⟩,h5.one rfl,?_⟩;conv=>whnf
 refine ⟨.slice (some a2) 1 c2,fun _ => h5.one rfl,?_⟩;conv=>whnf
 refine ⟨.slice (some a2) 1 c2,fun _ => h5.one rfl,?_⟩;conv=>whnf
 refine ⟨a2,fun _ => ⟨rfl,by omega,by omega⟩,?_⟩;conv=>whnf
 refine ⟨evC aw2,fun _ => ⟨rfl,hc2⟩,?_⟩;conv=>whnf
 refine ⟨⟨b1,0,none⟩,fun _ => ⟨rfl,by omega,by omega⟩,?_⟩;conv=>whnf
 refine ⟨evC aw2,fun _ => ⟨rfl,hc1⟩,?_⟩;conv=>whnf
 refine ⟨_,fun _ => Q8d aw2 aw2 _ _,?_⟩;conv=>whnf
 refine ⟨.int .i64 0,fun _ => h5.one rfl,?_⟩;conv=>whnf
 refine ⟨.slice A1 6 c1,fun _ => h5.one rfl,?_⟩; (conv=>whnf);repeat(refine Sg ?_;(conv=>whnf))
 exact ⟨by simp,hx3⟩
end Go.Proofs.YtnnnbjjenknpeaaGreatDoor
