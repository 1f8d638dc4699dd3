/- Several texts in one: Se7, Se8, RsC, Rs2. -/
import Derived.Test.YtohkipkjleldpaaGreatDoorGA
import Derived.Test.YtohkipkjleldpaaGreatDoorGF
import Derived.Test.YtohkipkjleldpaaGreatDoorGC
import Derived.Test.YtohkipkjleldpaaGreatDoorGI
import Derived.Shelf.Slices.Cells
import Derived.Test.YtohkipkjleldpaaGreatDoorGO
import Derived.Test.YtohkipkjleldpaaGreatDoorGL
import Derived.Test.YtohkipkjleldpaaGreatDoorHPl8
set_option linter.unusedVariables false
set_option linter.unusedSimpArgs false
namespace Go.Se
open Go.RowKit
section
variable {P:Program} {T:Tab} {N:Nat} {cl:Cl} {ops:List Oper}
end
section
variable {P:Program} {T:Tab} {N:Nat} {cl:Cl} {ops:List Oper}
end
end Go.Se
namespace Go.Proofs
open Go.Shelf
end Go.Proofs
namespace Go.Proofs.YtohkipkjleldpaaGreatDoor
open Go.Se Go.RowKit
theorem Qum (l:List Ev) (A:Option Addr) (c:Nat) (w:World) (hs:SlE w A l) (hl:l.length<1000000) :
 Cal Tryz.prog 28 [.slice A l.length c] w fun r w'=>∃ A' c',r = .slice A' l.length c'∧Own evC 8 38 w.heap.size w' A' c' l∧(A'=none→l = [])∧Ext w w':=by
 refine Fi Tryz.func28 rfl _ rfl rfl (Hh ?_);refine⟨_,Xu Qys A _ _ _ _,Gg ?_⟩;constructor
 · intro hq
   have hA:A=none:=by simpa using hq
   have hl0:l = []:=by
    cases l with
    | nil=>rfl
    | cons x l =>
      obtain⟨a,ha,_⟩:=hs 0 x rfl;rw[hA] at ha;cases ha
   subst hl0;refine Gg ?_
   exact⟨none,0,rfl,Own.nil,fun _=>rfl,Ext.refl _⟩
 · intro hq
   refine Gg ?_;intro b1 w1 hn1;refine Gg ?_;have o1:=Qkk.made (base:=w.heap.size) hn1 (Nat.le_refl _);refine Qs Qkk (l := []) (news:=l) rfl o1 rfl (hs.ext hn1.ext) (by simp;omega) hn1.ext.size fun A2 c2 w2 hown2 hg2 hA2 => ?_
   have hx2:=Qr hn1.ext hg2 (Xy o1);rw[List.nil_append] at hown2 ⊢;refine Gg ?_;refine⟨A2,c2,rfl,hown2,fun h => ?_,hx2⟩
   exfalso
   rcases hA2 with h2 | h2 | h2
   · rw[h] at h2;cases h2
   · rw[h] at h2;simp at h2
   · rw[h] at h2;simp at h2
theorem Quz {w:World} {T:Nat→Prop} {p:Nat} {c:Cfg} {z:List Ev} (h:WT w T p c z) :
 Cal Tryz.prog 10 [.pointer (some ⟨p,0,none⟩)] w fun r w'=>∃ A c',r = .slice A z.length c'∧Own evC 8 38 w.heap.size w' A c' z∧(A=none→z = [])∧Ext w w':=by
 obtain⟨v,T0,hQ,_⟩:=h;have hzl:=hQ.len;obtain⟨col,q,A,n,cap,any,last,hL⟩:=hQ.at_;obtain⟨hn,hsl,_⟩:=hL.evs;subst hn;refine Fi Tryz.func10 rfl _ rfl rfl (Hh ?_);refine⟨.slice A z.length cap,hL.head.one rfl,Gg ?_⟩;refine(Qum z A cap w hsl hzl).mono ?_;rintro _ w1 ⟨A1,c1,rfl,h1,h2,h3⟩;refine Gg ?_
 exact⟨A1,c1,rfl,h1,h2,h3⟩
end Go.Proofs.YtohkipkjleldpaaGreatDoor
