import Derived.Test.YteabekcdcphjpaaGreatDoorGK
/- Like texts,like counts. -/
set_option linter.unusedVariables false
set_option linter.unusedSimpArgs false
namespace Go.Proofs.YteabekcdcphjpaaGreatDoor
open Go.Se Go.RowKit
theorem Qjs (l:List ByteArray) (A B:Option Addr) (c d:Nat) (w:World) (hs:SlT w A l) (hm:SlT w B l) (hl:l.length < 1000000) :
 Cal Tryz.prog 25 [.slice A l.length c,.slice B l.length d] w fun r w' => r = .bool true ∧ Ext w w' := by
 refine Fi Tryz.func25 rfl _ rfl rfl ?_;conv=>whnf
 constructor
 · intro h; simp at h
 intro _
 (conv=>whnf);repeat(refine Sg ?_;(conv=>whnf))
 refine Qg Qa (fun (k:Nat) w' => k ≤ l.length ∧ Ext w w')
  (fun k => [(0,.slice A l.length c),(1,.slice B l.length d),(5,.int .i64 (k:Nat))]) (fun k => l.length - k) 0 ⟨Nat.zero_le _,Ext.refl _⟩ ⟨rfl,rfl,rfl,trivial⟩ ?_
 rintro k w1 ⟨hk,hx⟩
 conv=>whnf
 constructor
 · intro hlt
   have hlt : k < l.length := by simpa using hlt
   obtain ⟨a,rfl,hc⟩ := (hs.ext hx).get hlt
   obtain ⟨b,rfl,hd⟩ := (hm.ext hx).get hlt
   generalize l[k] = x at hc hd
   (conv=>whnf);repeat(refine Sg ?_;(conv=>whnf))
   refine Dr .same [0,1,2,3,4,5,6,7,8] [] ?_;conv=>whnf
   have hxd : Ext w1 w1.drew := (Ext.refl w1).drew
   replace hc := hxd.cells hc
   replace hd := hxd.cells hd
   replace hx := hx.trans hxd
   generalize w1.drew = w2 at hc hd hx ⊢
   refine ⟨a,⟨rfl,by omega,by omega⟩,?_⟩;conv=>whnf
   refine ⟨.string x,Qv hc,?_⟩;conv=>whnf
   refine ⟨b,⟨rfl,by omega,by omega⟩,?_⟩;conv=>whnf
   refine ⟨.string x,Qv hd,?_⟩; (conv=>whnf);repeat(refine Sg ?_;(conv=>whnf))
   constructor
   · intro h; simp at h
   intro _
   (conv=>whnf);repeat(refine Sg ?_;(conv=>whnf))
   refine ⟨_,wrap_succ (by omega),?_⟩; (conv=>whnf);repeat(refine Sg ?_;(conv=>whnf))
   exact ⟨k + 1,by omega,⟨by omega,hx⟩,⟨rfl,rfl,rfl,trivial⟩⟩
 · intro _
   (conv=>whnf);repeat(refine Sg ?_;(conv=>whnf))
   exact ⟨rfl,hx⟩
theorem Xbq (a:Ct) (ox oy:Operand) : Qq9 Tryz.prog 98 ox oy (.agg (Qd4 a).toArray) (.agg (Qd4 a).toArray) true := by
 have h := Qjz (ox := ox) (oy := oy) Qa st98 (xs := Qd4 a) (ys := Qd4 a) (b := decide (a.1 = a.1) && (decide (a.2 = a.2) && true)) rfl
 simpa using h
theorem Qud (l:List Ct) (A B:Option Addr) (c d:Nat) (w:World) (hs:Sl Qd4 2 w A l) (hm:Sl Qd4 2 w B l) (hl:l.length < 1000000000000) :
 Cal Tryz.prog 23 [.slice A l.length c,.slice B l.length d] w fun r w' => r = .bool true ∧ Ext w w' := by
 refine Fi Tryz.func23 rfl _ rfl rfl ?_;conv=>whnf
 constructor
 · intro h; simp at h
 intro _
 (conv=>whnf);repeat(refine Sg ?_;(conv=>whnf))
 refine Qg Qa (fun (k:Nat) w' => k ≤ l.length ∧ Ext w w')
  (fun k => [(0,.slice A l.length c),(1,.slice B l.length d),(5,.int .i64 (k:Nat))]) (fun k => l.length - k) 0 ⟨Nat.zero_le _,Ext.refl _⟩ ⟨rfl,rfl,rfl,trivial⟩ ?_
 rintro k w1 ⟨hk,hx⟩
 conv=>whnf
 constructor
 · intro hlt
   have hlt : k < l.length := by simpa using hlt
   obtain ⟨a,rfl,hc⟩ := (hs.ext hx).get hlt
   obtain ⟨b,rfl,hd⟩ := (hm.ext hx).get hlt
   generalize l[k] = x at hc hd
   (conv=>whnf);repeat(refine Sg ?_;(conv=>whnf))
   refine Dr .same [0,1,2,3,4,5,6,7,8] [] ?_;conv=>whnf
   have hxd : Ext w1 w1.drew := (Ext.refl w1).drew
   replace hc := hxd.cells hc
   replace hd := hxd.cells hd
   replace hx := hx.trans hxd
   generalize w1.drew = w2 at hc hd hx ⊢
   refine ⟨a,⟨rfl,by omega,by omega⟩,?_⟩;conv=>whnf
   refine ⟨Qd4 x,⟨rfl,hc⟩,?_⟩;conv=>whnf
   refine ⟨b,⟨rfl,by omega,by omega⟩,?_⟩;conv=>whnf
   refine ⟨Qd4 x,⟨rfl,hd⟩,?_⟩;conv=>whnf
   refine ⟨_,Xbq x _ _,?_⟩; (conv=>whnf);repeat(refine Sg ?_;(conv=>whnf))
   constructor
   · intro h; simp at h
   intro _
   (conv=>whnf);repeat(refine Sg ?_;(conv=>whnf))
   refine ⟨_,wrap_succ (by omega),?_⟩; (conv=>whnf);repeat(refine Sg ?_;(conv=>whnf))
   exact ⟨k + 1,by omega,⟨by omega,hx⟩,⟨rfl,rfl,rfl,trivial⟩⟩
 · intro _
   (conv=>whnf);repeat(refine Sg ?_;(conv=>whnf))
   exact ⟨rfl,hx⟩
end Go.Proofs.YteabekcdcphjpaaGreatDoor
