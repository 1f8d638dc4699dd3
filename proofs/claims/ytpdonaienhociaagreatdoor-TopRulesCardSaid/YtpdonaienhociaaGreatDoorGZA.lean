import Derived.Test.YtpdonaienhociaaGreatDoorGB
set_option linter.all false
namespace Go.Proofs.YtpdonaienhociaaGreatDoor
open Go.Se Go.RowKit
def Xg6 (a b:Int):Int:=IntKind.u64.wrap (BitVec.ofInt 64 a ^^^ BitVec.ofInt 64 b).toNat
def Xh3 (a b:Int):Int:=IntKind.u64.wrap (a*b)
def hx (h b:Int):Int:=Xh3 (Xg6 h b) 1099511628211
def hbytes (h:Int) (l:List UInt8):Int:=l.foldl (fun h c=>hx h c.toNat) h
def hword (h:Int) (s:Bj):Int:=hx (hbytes h s.data.toList) 256
def hstep (h:Int) (n:Nat) (m:Int):Int:=Xh3 (Xg6 h (h.fdiv (2 ^ n))) m
def hfin (h:Int):Int :=
 let a:=hstep h 31 9202087104158670213
 let b:=hstep a 27 9356908073163150413
 Xg6 b (b.fdiv (2 ^ 33))
def hash (seed:Int) (words:List Bj):Int:=hfin (words.foldl hword (IntKind.u64.wrap (seed+11400714819323198485)))
abbrev Xju:=Sl (fun s:Bj => [Value.string s]) 1
theorem Q6n (c:UInt8):((c.toNat:Nat):Int)=IntKind.u64.wrap (c.toNat:Nat):=wrap_u64 ⟨Om,by have:=c.toNat_lt;omega⟩
theorem Q7f (s:Bj) (k:Nat) (h:k<s.size):s[k]? = some (s.data.toList[k]'(Su h)):=by
 rw[getElem?_pos s k h];rfl
theorem Qx2 (h:Int) (l:List UInt8) (k:Nat) (hk:k<l.length):hx (hbytes h (l.take k)) (l[k]).toNat=hbytes h (l.take (k+1)):=by
 rw[Za hk,hbytes,hbytes,Zt];rfl
theorem foldl_snoc {α β:Type} (f:β->α->β) (b:β) (l:List α) (k:Nat) (hk:k<l.length):f ((l.take k).foldl f b) l[k]=(l.take (k+1)).foldl f b:=by
 rw[Za hk,Zt];rfl
theorem Qei (seed:Int) (words:List Bj) (A:Option Addr) (c:Nat) (w:World) (hs:Xju w A words) (hl:words.length<1000000000000) (hb:∀ s∈words,s.size<1000000000000000) :
 Cal Tryz.prog 33 [.int .u64 seed,.slice A words.length c] w fun r w'=>r = .int .u64 (hash seed words)/\w'=w:=by
 refine Fi Tryz.func33 rfl _ rfl rfl (Hh ?_);refine⟨_,rfl,Hh ?_⟩
 refine Qh Qb (fun(k:Nat) w'=>k<=words.length/\w'=w)
  (fun k => [(11,.slice A words.length c),(12,Vj words.length),(13,Vj k),(5,.int .u64 ((words.take k).foldl hword (IntKind.u64.wrap (seed+11400714819323198485))))]) (fun k=>words.length-k) 0 ⟨Om,rfl⟩ Rr ?_
 rintro k w1 ⟨hk,rfl⟩;refine Hh ?_;constructor
 . intro hlt;have hlt:k<words.length:=Su hlt;have hsm:=hb _ (Zx hlt);refine Hh ?_;obtain⟨a,rfl,hc⟩:=hs.get hlt;refine⟨a,Ix,Hh ?_⟩;refine⟨.string words[k],Qs hc,Hh ?_⟩;generalize hh:(words.take k).foldl hword (IntKind.u64.wrap (seed+11400714819323198485))=h0
   refine Qh Qb (fun(j:Nat) w'=>j<=words[k].size/\w'=w1)
    (fun j => [(11,.slice (some a) words.length c),(12,Vj words.length),(13,Vj k),(7,.string words[k]),(18,Vj words[k].size),(19,Vj j),(5,.int .u64 (hbytes h0 (words[k].data.toList.take j)))]) (fun j=>words[k].size-j) 0 ⟨Om,rfl⟩ Rr ?_
   rintro j w2 ⟨hj,rfl⟩;refine Hh ?_;constructor
   . intro hjl;have hjl:j<words[k].size:=Su hjl;have hjl':j<words[k].data.toList.length:=Su hjl;refine Hh ?_;refine⟨words[k].data.toList[j],⟨Om,Q7f _ _ hjl⟩,Hh ?_⟩;refine⟨_,Q6n _,Hh ?_⟩;refine⟨_,rfl,Hh ?_⟩;refine⟨_,rfl,Hh ?_⟩;refine⟨_,wrap_succ Om,Hh ?_⟩;refine⟨j+1,Om,⟨Om,rfl⟩,⟨rfl,rfl,rfl,rfl,rfl,rfl,?_,trivial⟩⟩;rw[<- Qx2 _ _ _ hjl'];rfl
   . intro hjl
     have hjl:j=words[k].size:=by have:words[k].size<=j:=Su hjl
                                  omega
     refine Hh ?_;refine⟨_,rfl,Hh ?_⟩;refine⟨_,rfl,Hh ?_⟩;refine⟨_,wrap_succ Om,Hh ?_⟩;refine⟨k+1,Om,⟨Om,rfl⟩,⟨rfl,rfl,rfl,?_,trivial⟩⟩;rw[<- foldl_snoc hword _ words k hlt,hh,Zb (by simp;omega)];rfl
 . intro hge;have hge:words.length<=k:=Su hge;rw[Zb hge];refine Hh ?_;refine⟨_,⟨by decide,rfl⟩,Hh ?_⟩;refine⟨_,rfl,Hh ?_⟩;refine⟨_,rfl,Hh ?_⟩;refine⟨_,⟨by decide,rfl⟩,Hh ?_⟩;refine⟨_,rfl,Hh ?_⟩;refine⟨_,rfl,Hh ?_⟩;refine⟨_,⟨by decide,rfl⟩,Hh ?_⟩;refine⟨_,rfl,Hh ?_⟩;exact⟨rfl,rfl⟩
