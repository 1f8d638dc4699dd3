import Derived.Test.YtoancknoinilaaaGreatDoorHSl4
/- The law ScoreOf. -/
set_option linter.unusedVariables false
set_option linter.unusedSimpArgs false
namespace Go.Proofs.YtoancknoinilaaaGreatDoor
open Go.Se Go.RowKit
theorem Q2u (F a:Nat → Int) (k:Nat) : Qsw (Qjn F a (k + 1)) = IntKind.i64.wrap (Qsw (Qjn F a k) + IntKind.i64.wrap (F k * Qbp (a k))) := by
 rw [Qqb,Qwq]
set_option maxHeartbeats 2000000 in
theorem scoreOf_spec (c:Cfg) (l:List Ev) (a:Nat → Int) (person item:ByteArray) (now:Int) (A:Option Addr) (cap:Nat) (w:World) (hg0:Gl w) (hs:SlE w A l) :
 Cal Tryz.prog 4 [Qwd c,.slice A l.length cap,.agg (wsC a).toArray,.string person,.string item,.int .i64 now] w fun r w' => r = .bool true ∧ Ext w w' := by
 refine Fi Tryz.func4 rfl _ rfl rfl ?_;conv=>whnf
 intro b1 w1 hn1;conv=>whnf
 intro b2 w2 hn2;conv=>whnf
 have hx2 := hn1.ext.trans hn2.ext
 refine (Qq7 w2 (hg0.ext hx2)).mono ?_
 rintro _ w3 ⟨rfl,hx3⟩;conv=>whnf
 refine ⟨fun h => (by simp at h),fun _ => ?_⟩
 have hx := hx2.trans hx3
 have hc1 : At w3 b1 23 (Qju c) := (hn1.At.ext hn2.ext).ext hx3
 have ha2 : At w3 b2 37 (wsC a) := hn2.At.ext hx3
 have hb1w : w.heap.size ≤ b1 := by rw [hn1.block]; exact Nat.le_refl _
 have hb2w : w.heap.size ≤ b2 := by rw [hn2.block]; exact hn1.ext.size
 clear hn1 hn2 hx3 hx2
 conv=>whnf
 refine ⟨Qju c,⟨rfl,hc1.all⟩,?_⟩;conv=>whnf
 refine (Qyq 20 (by omega) c l A cap person item w3 (hs.ext hx)).mono ?_
 rintro _ w4 ⟨rfl,hx4⟩
 replace hx := hx.trans hx4
 replace hc1 := hc1.ext hx4
 replace ha2 := ha2.ext hx4
 clear hx4
 generalize hq : hvB 20 c l person item = q
 conv=>whnf
 constructor
 · intro _; (conv=>whnf); exact ⟨rfl,hx⟩
 intro hc
 have hc : q = false := hc
 subst hc
 obtain ⟨hl,hm,hcf⟩ := Q7o hq
 clear hq
 conv=>whnf
 refine ⟨Qju c,⟨rfl,hc1.all⟩,?_⟩;conv=>whnf
 refine (Qra c hcf l A cap w4 (hg0.ext hx) (hs.ext hx) (by omega) hm).mono ?_
 rintro _ w5 ⟨p,rfl,hW,hx5⟩
 have hzm := hW.may
 obtain ⟨T,hWT,hTb⟩ := hW.t
 have hb4 := hx.size
 have hb1l := hc1.lt
 have hb2l := ha2.lt
 have hTw : ∀ k,T k → w.heap.size ≤ k := fun k hk => Nat.le_trans hb4 (hTb k hk)
 have hT1 : ¬ T b1 := fun h => by have := hTb b1 h; omega
 have hT2 : ¬ T b2 := fun h => by have := hTb b2 h; omega
 have hsz := hg0.size
 replace hx := hx.trans hx5
 replace hc1 := hc1.ext hx5
 replace ha2 := ha2.ext hx5
 have hzl := Qnu l
 clear hW hTb hb4 hx5 hb1l hb2l
 conv=>whnf
 refine (Q0h l A cap w5 (hs.ext hx) (by omega) hm).mono ?_
 rintro _ w6 ⟨A6,c6,rfl,hs6,hcap6,hx6⟩
 have hT6 : ∀ b,A6 = some b → ¬ T b.block := fun b hb h => by
  have h1 := hWT.lt _ h
  have h2 := (hcap6.2 b hb).1
  omega
 replace hWT := hWT.ext hx6
 replace hx := hx.trans hx6
 replace hc1 := hc1.ext hx6
 replace ha2 := ha2.ext hx6
 clear hx6
 generalize Qg0 l = z at hWT hzl hzm hs6 hcap6
 have hok : Q73 c z := ⟨hcf,by omega⟩
 conv=>whnf
 refine ⟨wsC a,⟨rfl,ha2.all⟩,?_⟩;conv=>whnf
 refine (Qqi hWT hok (hg0.ext hx) (fun b hb => Nat.le_trans hsz (hTw b hb)) a person item now).mono ?_
 rintro _ w7 ⟨A7,c7,T7,rfl,hown7,hWT7,hT7,hA7,hM7⟩
 have hx7 := Qlb hx hTw hM7
 replace hc1 := hc1.mod hM7 hT1
 replace ha2 := ha2.mod hM7 hT2
 have hs7 := hown7.sl Qnz
 have hrl : ∀ b,A7 = some b → w.heap.size ≤ b.block := fun b hb => Nat.le_trans hx.size (hown7.block hb).1
 have hs67 : SlE w7 A6 z := Qa9 hs6 fun b hb => hM7.block _ (hcap6.2 b hb).2 (hT6 b hb)
 clear hs6 hM7 hWT hT6 hx
 obtain ⟨F,hF⟩ : ∃ F,F = Q4y c z person item now := ⟨_,rfl⟩
 have hFk : ∀ k : Nat,Qxc c z person item now (k:Nat) = F k := fun k => by rw [hF]; rfl
 rw [← hF] at hs7 ⊢
 have hall : ∀ k : Nat,k < 6 → (Qjn F a 6)[k]? = some ((k:Int),F k,IntKind.i64.wrap (F k * Qbp (a k))) := fun k hk => Q58 F a hk
 have hQl : (Qjn F a 6).length = 6 := Qv8 _ _ _
 obtain ⟨Q,hQ⟩ : ∃ Q,Q = Qjn F a 6 := ⟨_,rfl⟩
 have hst := Q2u F a
 obtain ⟨S,hS⟩ : ∃ S : Nat → Int,S = fun k => Qsw (Qjn F a k) := ⟨_,rfl⟩
 have hS0 : S 0 = 0 := by rw [hS]; exact Quq
 have hS6 : Qsw Q = S 6 := by rw [hS,hQ]
 have hSs : ∀ k,S (k + 1) = IntKind.i64.wrap (S k + IntKind.i64.wrap (F k * Qbp (a k))) := fun k => by rw [hS]; exact hst k
 rw [show Qsw (Qjn F a 6) = S 6 by rw [hS]]
 rw [← hQ] at hs7 hall hQl
 clear hst hS hQ
 conv=>whnf
 refine ⟨fun h => (by simp at h),fun _ => ?_⟩
 conv=>whnf
 refine Qg Qa (fun (q:Nat × Int) w' => q.1 ≤ 6 ∧ q.2 = S q.1 ∧ Ext w7 w')
  (fun | (k,n) => [(3,.string person),(4,.string item),(5,.int .i64 now),(6,.pointer (some ⟨b1,0,none⟩)),(8,.pointer (some ⟨b2,0,none⟩)),(15,.slice A6 z.length c6),(16,.slice A7 6 c7),(17,.int .i64 (S 6)),(18,.int .i64 n),(19,.int .i64 (k:Nat))]) (fun q => 6 - q.1) (0,0) ⟨by simp,hS0.symm,Ext.refl _⟩ ⟨rfl,rfl,rfl,rfl,rfl,rfl,rfl,rfl,rfl,rfl,trivial⟩ ?_
 rintro ⟨k,n⟩ w8 ⟨hk,hn,hx8⟩
 simp only at hk hn
 conv=>whnf
 constructor
 · intro hlt
   have hlt : k < 6 := by
    have : (k:Int) < 6 := by simpa using hlt
    omega
   have hg1 := hall k hlt
   have hSk := hSs k
   rw [← hn] at hSk
   (conv=>whnf);repeat(refine Sg ?_;(conv=>whnf))
   refine ⟨Qju c,⟨rfl,(hc1.ext hx8).all⟩,?_⟩; (conv=>whnf);repeat(refine Sg ?_;(conv=>whnf))
   refine (Qz2 c hcf z A6 c6 hcap6.1 k person item now w8 (hs67.ext hx8) (by omega) hzm).mono ?_
   rintro _ w9 ⟨rfl,hx9⟩
   rw [hFk]
   generalize F k = fk at hg1 hSk ⊢
   (conv=>whnf);repeat(refine Sg ?_;(conv=>whnf))
   refine Dr .ext [0,1,2,3,4,5,6,7,8,9,10,11,12,13] [] ?_;conv=>whnf
   have hx10 := (hx8.trans hx9).drew
   generalize w9.drew = w10 at hx10 ⊢
   have ha10 := ha2.ext hx10
   obtain ⟨a12,rfl,hc12⟩ := (hs7.ext hx10) k _ hg1
   refine ⟨a12,⟨rfl,by omega,by omega⟩,?_⟩;conv=>whnf
   refine ⟨ptC ((k:Int),fk,IntKind.i64.wrap (fk * Qbp (a k))),⟨rfl,hc12⟩,?_⟩;conv=>whnf
   refine ⟨⟨by omega,by omega⟩,?_⟩;conv=>whnf
   refine ⟨.int .i64 (a k),ha10.one (by rw [Int.toNat_natCast,Nat.mul_one]; exact Q69 a hlt),?_⟩;conv=>whnf
   refine (Qmf (a k) w10).mono ?_
   rintro _ w11 ⟨rfl,hw11⟩
   replace hw11 := hw11.symm
   subst hw11
   refine ⟨Ext.refl _,?_⟩;conv=>whnf
   refine ⟨IntKind.i64.wrap (fk * Qbp (a k)),rfl,?_⟩;conv=>whnf
   refine ⟨_,Q7x ((k:Int),fk,IntKind.i64.wrap (fk * Qbp (a k))) ((k:Int),fk,IntKind.i64.wrap (fk * Qbp (a k))) _ _,?_⟩; (conv=>whnf);repeat(refine Sg ?_;(conv=>whnf))
   refine ⟨fun h => (by simp at h),fun _ => ?_⟩
   (conv=>whnf);repeat(refine Sg ?_;(conv=>whnf))
   refine ⟨a12,⟨rfl,by omega,by omega⟩,?_⟩; (conv=>whnf);repeat(refine Sg ?_;(conv=>whnf))
   refine ⟨.int .i64 (IntKind.i64.wrap (fk * Qbp (a k))),cells_at hc12 (k := 2) rfl,?_⟩; (conv=>whnf);repeat(refine Sg ?_;(conv=>whnf))
   refine ⟨S (k + 1),hSk,?_⟩; (conv=>whnf);repeat(refine Sg ?_;(conv=>whnf))
   refine ⟨_,wrap_succ (by omega),?_⟩; (conv=>whnf);repeat(refine Sg ?_;(conv=>whnf))
   exact ⟨(k + 1,S (k + 1)),by simp only; omega,⟨by simp only; omega,rfl,hx10⟩,⟨rfl,rfl,rfl,rfl,rfl,rfl,rfl,rfl,rfl,rfl,trivial⟩⟩
 · intro hge
   have hge : k = 6 := by
    have : ¬ (k:Int) < 6 := by simpa using hge
    omega
   subst hge
   subst hn
   have htt := Qfz Q A7 c7 w8 (hs7.ext hx8) (by omega)
   rw [hS6,hQl] at htt
   (conv=>whnf);repeat(refine Sg ?_;(conv=>whnf))
   refine ⟨Unit,fun _ => (.int .i64 (S 6)),fun _ w' => Ext w8 w',(),fun hg => (htt).mono fun r w' h => ⟨(),h.1,h.2⟩,?_⟩
   intro _ w9 h2
   have hx9 : Ext w8 w9 := by
    rcases h2 with ⟨_,h⟩ | ⟨_,h⟩
    · exact h
    · rw [h]; exact Ext.refl _
   clear h2
   conv=>whnf
   have ht0 := Qfz [] none 0 w9 Sl.nil (by decide)
   rw [Quq] at ht0
   refine ⟨Unit,fun _ => (.int .i64 0),fun _ w' => Ext w9 w',(),fun hg => (ht0).mono fun r w' h => ⟨(),h.1,h.2⟩,?_⟩
   intro _ w10 h2
   have hx10 : Ext w9 w10 := by
    rcases h2 with ⟨_,h⟩ | ⟨_,h⟩
    · exact h
    · rw [h]; exact Ext.refl _
   clear h2
   conv=>whnf
   exact ⟨by simp,hx7.trans (hx8.trans (hx9.trans hx10))⟩
end Go.Proofs.YtoancknoinilaaaGreatDoor
