import Derived.Test.YtnnnbjjenknpeaaGreatDoorHRs7
/- The reason's laws: how they begin; their example. -/
set_option linter.unusedVariables false
set_option linter.unusedSimpArgs false
namespace Go.Proofs.YtnnnbjjenknpeaaGreatDoor
open Go.Se Go.RowKit
theorem Q7q : Tryz.prog.underlying 31 = some (.pointer (Tryz.prog.pointee 31)) := by kernel_rfl
theorem Q8h (a b:Ev) (ox oy:Operand) : Qnl Tryz.prog 53 ox oy (evV a) (evV b) (decide (a = b)) := by
 have h := Qfr (ox := ox) (oy := oy) Qa st53 (xs := evC a) (ys := evC b) (b := decide (a.src = b.src) && (decide (a.num = b.num) && (decide (a.at_ = b.at_) && (decide (a.kind = b.kind) && (decide (a.person = b.person) && (decide (a.item = b.item) && (decide (a.val = b.val) && (decide (a.text = b.text) && true)))))))) rfl
 have e : (decide (a.src = b.src) && (decide (a.num = b.num) && (decide (a.at_ = b.at_) && (decide (a.kind = b.kind) && (decide (a.person = b.person) && (decide (a.item = b.item) && (decide (a.val = b.val) && (decide (a.text = b.text) && true)))))))) = decide (a = b) := by
  rw [Bool.eq_iff_iff]
  simp only [Bool.and_eq_true,decide_eq_true_eq,Ev.ext_iff,and_true]
 rw [e] at h
 exact h
def plC (c:Cfg) (A:Option Addr) (n cap:Nat) (a:Nat → Int) (person item:ByteArray) (now:Int) : List Value :=
 [vi c.half,vi c.width,vi c.gap,vi c.span,vi c.floor,vi c.crowd,.slice A n cap,.int .i64 (a 0),.int .i64 (a 1),.int .i64 (a 2),.int .i64 (a 3),.int .i64 (a 4),.int .i64 (a 5),.string person,.string item,.int .i64 now]
theorem Qvk {w:World} {b t:Nat} {c:Cfg} {A:Option Addr} {n cap:Nat} {a:Nat → Int} {person item:ByteArray} {now:Int} (h:At w b t (plC c A n cap a person item now)) : Q7 w ⟨b,0,none⟩ (Qmt c) :=
 At.sub (pre := []) (post := (plC c A n cap a person item now).drop 6) h
theorem Q7e {w:World} {b t:Nat} {c:Cfg} {A:Option Addr} {n cap:Nat} {a:Nat → Int} {person item:ByteArray} {now:Int} (h:At w b t (plC c A n cap a person item now)) : Q7 w ((⟨b,0,none⟩ : Addr).add 7) (wsC a) :=
 At.sub (pre := (plC c A n cap a person item now).take 7) (post := (plC c A n cap a person item now).drop 13) h
def Q7w (c:Cfg) (l:List Ev) (person item:ByteArray) : Bool := ((((Qpq c && decide ((l.length : Int) ≤ 20)) && !(l.any (Q4d 100))) && l.all Xu) && decide ((person.size : Int) ≤ 60)) && decide ((item.size : Int) ≤ 60)
theorem Q63 {c:Cfg} {l:List Ev} {person item:ByteArray} (h:Q7w c l person item = true) : Qpq c = true ∧ l.length ≤ 20 ∧ ∀ e ∈ l,Xu e = true := by
 unfold Q7w at h
 simp only [Bool.and_eq_true,decide_eq_true_eq,List.all_eq_true] at h
 obtain ⟨⟨⟨⟨⟨h1,h2⟩,h3⟩,h4⟩,h5⟩,h6⟩ := h
 exact ⟨h1,by omega,h4⟩
theorem Q5h {c:Cfg} {l:List Ev} (h:((Qpq c && decide ((l.length : Int) ≤ 20)) && !(l.any (Q4d 100))) = true) : l.length < 1000000000000 := by
 simp only [Bool.and_eq_true,decide_eq_true_eq] at h
 omega
theorem Q2v {c:Cfg} {l:List Ev} (h:((Qpq c && decide ((l.length : Int) ≤ 20)) && !(l.any (Q4d 100))) = true) {e:Ev} (he:e ∈ l) : e.text.size < 1000000000000 := by
 simp only [Bool.and_eq_true,decide_eq_true_eq,Bool.not_eq_true'] at h
 have h2 := h.2
 rw [List.any_eq_false] at h2
 have := h2 e he
 simp [Q4d] at this
 omega
theorem Q2u (c:Cfg) (l:List Ev) (A:Option Addr) (cap:Nat) (a:Nat → Int) (person item:ByteArray) (now:Int) (w:World) (hs:SlE w A l) :
 Cal Tryz.prog 10 [.agg (plC c A l.length cap a person item now).toArray] w fun r w' => r = .bool (Q7w c l person item) ∧ Ext w w' := by
 refine Fi Tryz.func10 rfl _ rfl rfl ?_;conv=>whnf
 intro b1 w1 hn1;conv=>whnf
 have h1 : At w1 b1 28 (plC c A l.length cap a person item now) := hn1.At
 have hx := hn1.ext
 clear hn1
 refine ⟨Qmt c,⟨rfl,Qvk h1⟩,?_⟩;conv=>whnf
 refine (Qqo c w1).mono ?_
 rintro _ w2 ⟨rfl,hx2⟩
 replace h1 := h1.ext hx2
 replace hx := hx.trans hx2
 conv=>whnf
 refine ⟨.slice A l.length cap,fun _ => h1.one rfl,?_⟩;conv=>whnf
 refine ⟨.slice A l.length cap,fun _ => h1.one rfl,?_⟩;conv=>whnf
 refine ⟨Unit,fun _ => (.bool (l.any (Q4d 100))),fun _ w' => Ext w2 w',(),fun hg => ((Q1g l A cap 100 w2 (hs.ext hx) (by simp at hg; omega))).mono fun r w' h => ⟨(),h.1,h.2⟩,?_⟩
 intro _ w3 h2
 have hx3 : Ext w2 w3 := by
  rcases h2 with ⟨_,h⟩ | ⟨_,h⟩
  · exact h
  · rw [h]; exact Ext.refl _
 clear h2
 conv=>whnf
 replace h1 := h1.ext hx3
 replace hx := hx.trans hx3
 refine ⟨.slice A l.length cap,fun _ => h1.one rfl,?_⟩;conv=>whnf
 refine ⟨Unit,fun _ => (.bool (l.all Xu)),fun _ w' => Ext w3 w',(),fun hg => ((Q2c l A cap w3 (hs.ext hx) (Q5h hg) (fun e he => Q2v hg he))).mono fun r w' h => ⟨(),h.1,h.2⟩,?_⟩
 intro _ w4 h2
 have hx4 : Ext w3 w4 := by
  rcases h2 with ⟨_,h⟩ | ⟨_,h⟩
  · exact h
  · rw [h]; exact Ext.refl _
 clear h2
 conv=>whnf
 replace h1 := h1.ext hx4
 replace hx := hx.trans hx4
 refine ⟨.string person,fun _ => h1.one rfl,?_⟩;conv=>whnf
 refine ⟨.string item,fun _ => h1.one rfl,?_⟩;conv=>whnf
 exact ⟨rfl,hx⟩
theorem Q3b (c:Cfg) (l:List Ev) (A:Option Addr) (cap:Nat) (a:Nat → Int) (person item:ByteArray) (now:Int) (w:World) (hg0:Gl w) (hs:SlE w A l) (hcf:Qpq c = true) (hl:l.length < 1000000) (hm:∀ e ∈ l,Xu e = true) :
 Cal Tryz.prog 12 [.agg (plC c A l.length cap a person item now).toArray] w fun r w' => ∃ p T,r = .pointer (some ⟨p,0,none⟩) ∧ WT w' T p c (Qfl l) ∧ (∀ k,T k → w.heap.size ≤ k) ∧ Ext w w' := by
 refine Fi Tryz.func12 rfl _ rfl rfl ?_;conv=>whnf
 intro b1 w1 hn1;conv=>whnf
 have h1 : At w1 b1 28 (plC c A l.length cap a person item now) := hn1.At
 have hx := hn1.ext
 clear hn1
 refine ⟨Qmt c,⟨rfl,Qvk h1⟩,?_⟩;conv=>whnf
 refine ⟨.slice A l.length cap,h1.one rfl,?_⟩;conv=>whnf
 refine (Qqc c hcf l A cap w1 (hg0.ext hx) (hs.ext hx) hl hm).mono ?_
 rintro _ w2 ⟨p,rfl,hW,hx2⟩
 obtain ⟨T,hWT,hT⟩ := hW.t
 conv=>whnf
 refine ⟨fun h => (by simp at h),fun _ => ?_⟩
 conv=>whnf
 exact ⟨p,T,rfl,hWT,fun k hk => Nat.le_trans hx.size (hT k hk),hx.trans hx2⟩
def Q7u : Cfg := ⟨10,1,0,1,0,2⟩
def aw1 : Ev := ⟨⟨#[115]⟩,1,0,11,⟨#[]⟩,⟨#[97]⟩,0,⟨#[109,59,120]⟩⟩
def aw2 : Ev := ⟨⟨#[115]⟩,2,5,1,⟨#[112]⟩,⟨#[97]⟩,0,⟨#[]⟩⟩
theorem Q4c : ∀ e ∈ [aw1,aw2],Xu e = true := by decide +kernel
theorem Q46 : Qfl [aw1,aw2] = [aw1,aw2] := by
 have h : Qiu (Qa6 [aw1,aw2]) = [aw1,aw2] := by decide +kernel
 exact (Qrw Q4c (by rw [h]) (by unfold Srt; decide +kernel)).symm
theorem Q60 : Qsy Q7u [aw1,aw2] ⟨#[112]⟩ ⟨#[97]⟩ 5 = [aw2] := by decide +kernel
theorem Q47 : Qse Q7u [aw1,aw2] ⟨#[97]⟩ = 0 := by decide +kernel
theorem Qmq (w:World) (hg0:Gl w) : Cal Tryz.prog 11 [] w fun r w' => r = .bool true ∧ Ext w w' := by
 refine Fi Tryz.func11 rfl _ rfl rfl ?_;conv=>whnf
 intro b1 w1 hn1;conv=>whnf
 have hs1 : SlE w1 (some ⟨b1,0,none⟩) [aw1,aw2] := Qbr Xo hn1
 have hx := hn1.ext
 have l1 : b1 < w1.heap.size := by rw [hn1.block,hn1.size]; omega
 have g1 : w.heap.size ≤ b1 := by rw [hn1.block]; exact Nat.le_refl _
 clear hn1
 refine (Qqc Q7u (by rfl) [aw1,aw2] (some ⟨b1,0,none⟩) 2 w1 (hg0.ext hx) hs1 (by decide) Q4c).mono ?_
 rintro _ w2 ⟨p,rfl,hW,hx2⟩
 rw [Q46] at hW
 obtain ⟨T,hWT,hT⟩ := hW.t
 have hsz := hg0.size
 have hs12 := hx.size
 replace hx := hx.trans hx2
 replace hs1 := hs1.ext hx2
 (conv=>whnf);repeat(refine Sg ?_;(conv=>whnf))
 refine ⟨_,fun _ => Qa7 Q7q _ _ _,?_⟩; (conv=>whnf);repeat(refine Sg ?_;(conv=>whnf))
 constructor
 · intro h; simp at h
 intro _
 (conv=>whnf);repeat(refine Sg ?_;(conv=>whnf))
 have hof := reasonOf_spec hWT ⟨by rfl,by decide⟩ (hg0.ext hx) (fun b hb => by have := hT b hb; omega) ones ⟨#[112]⟩ ⟨#[97]⟩ 5
 rw [Q60,Q47] at hof
 refine hof.mono ?_
 clear hof
 rintro _ w3 ⟨A1,c1,A2,c2,T3,rfl,_,hown2,_,_,_,_,_,hM3⟩
 have hx3 : Ext w w3 := Qin hx (fun k hk => by have := hT k hk; omega) hM3
 replace hs1 := Qf0.stay hs1 fun a ha hlt => hM3.block a.block hlt fun h => by
  injection ha with ha
  subst ha
  have := hT _ h
  show False
  simp only at this
  omega
 generalize Qmi (Qpd (Q0u Q7u [aw1,aw2] ⟨#[112]⟩ ⟨#[97]⟩ 5) ones 6) = tt
 obtain ⟨a2,rfl,hc2⟩ := (hown2.sl Xo).get (k := 0) (by decide)
 obtain ⟨a1,ha1,hc1⟩ := hs1.get (k := 1) (by decide)
 injection ha1 with ha1
 subst ha1
 conv=>whnf
 intro b4 w4 hn4;conv=>whnf
 refine Qd Qa (e := ty36) rfl hn4.At rfl rfl rfl (by simp [Qh,rsC,Value.oneCell']) fun w5 h5 ho5 => ?_
 have h5 : At w5 b4 36 (rsC ⟨#[97]⟩ A1 6 c1 tt (some a2) 1 c2 0) := h5
 have hx35 : Ext w3 w5 := ho5.ext hn4.ext (by rw [hn4.block]; exact Nat.le_refl _)
 clear ho5 hn4
 replace hx3 := hx3.trans hx35
 replace hc1 := hx35.cells hc1
 replace hc2 := hx35.cells hc2
 (conv=>whnf);repeat(refine Sg ?_;(conv=>whnf))
 refine Dr .same [0,1,2,3,4,5,6,7,8,9,10,11,12,13,14,15,16,17,18,19,20,21,22,23,24,25,26,27,28,29,30] [] ?_;conv=>whnf
 have hxd : Ext w5 w5.drew := (Ext.refl w5).drew
 replace h5 := h5.ext hxd
 replace hx3 := hx3.trans hxd
 replace hc1 := hxd.cells hc1
 replace hc2 := hxd.cells hc2
 generalize w5.drew = w6 at hx3 h5 hc1 hc2 ⊢
 refine ⟨.string ⟨#[97]⟩,h5.one rfl,?_⟩;conv=>whnf
 refine ⟨.slice (some a2) 1 c2,fun _ => h5.one rfl,?_⟩;conv=>whnf
 refine ⟨.slice (some a2) 1 c2,fun _ => h5.one rfl,?_⟩;conv=>whnf
 refine ⟨a2,fun _ => ⟨rfl,by omega,by omega⟩,?_⟩;conv=>whnf
 refine ⟨evC aw2,fun _ => ⟨rfl,hc2⟩,?_⟩;conv=>whnf
 refine ⟨⟨b1,0,none⟩,fun _ => ⟨rfl,by omega,by omega⟩,?_⟩;conv=>whnf
 refine ⟨evC aw2,fun _ => ⟨rfl,hc1⟩,?_⟩;conv=>whnf
 refine ⟨_,fun _ => Q8h aw2 aw2 _ _,?_⟩;conv=>whnf
 refine ⟨.int .i64 0,fun _ => h5.one rfl,?_⟩;conv=>whnf
 refine ⟨.slice A1 6 c1,fun _ => h5.one rfl,?_⟩; (conv=>whnf);repeat(refine Sg ?_;(conv=>whnf))
 exact ⟨by simp,hx3⟩
end Go.Proofs.YtnnnbjjenknpeaaGreatDoor
