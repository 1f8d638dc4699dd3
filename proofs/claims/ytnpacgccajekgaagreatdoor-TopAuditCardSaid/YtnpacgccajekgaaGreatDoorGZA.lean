import Derived.Test.YtnpacgccajekgaaGreatDoorGB
set_option linter.all false
namespace Go.Proofs.YtnpacgccajekgaaGreatDoor
open Go.Se Go.RowKit
def Xks(a b:Int):Int:=IntKind.u64.wrap (BitVec.ofInt 64 a ^^^ BitVec.ofInt 64 b).toNat
def Xll(a b:Int):Int:=IntKind.u64.wrap (a*b)
def hx(h b:Int):Int:=Xll (Xks h b) 1099511628211
def hbytes(h:Int)(l:List UInt8):Int:=l.foldl (fun h c=>hx h c.toNat) h
def hword(h:Int)(s:Bj):Int:=hx (hbytes h s.data.toList) 256
def hstep(h:Int)(n:Nat)(m:Int):Int:=Xll (Xks h (h.fdiv (2^n))) m
def hfin(h:Int):Int:=
 let a:=hstep h 31 9202087104158670213
 let b:=hstep a 27 9356908073163150413
 Xks b (b.fdiv (2^33))
def hash(seed:Int)(a:List Bj):Int:=hfin (a.foldl hword (IntKind.u64.wrap (seed+11400714819323198485)))
abbrev Xnj:=Sl (fun s:Bj=>[Value.string s]) 1
theorem Q8n(c:UInt8):((c.toNat:Nat):Int)=IntKind.u64.wrap (c.toNat:Nat):=wrap_u64 ⟨Om,by have:=c.toNat_lt;omega⟩
theorem Q9o(s:Bj)(k:Nat)(h):s[k]?=some (s.data.toList[k]'(Su h)):=by
 rw[getElem?_pos s k h];rfl
theorem Qzp(h)(l:List UInt8)(k)(a:k<l.length):hx (hbytes h (l.take k)) (l[k]).toNat=hbytes h (l.take (k+1)):=by
 rw[Za a,hbytes,hbytes,Zv];rfl
theorem foldl_snoc{α β:Type}(f)(b:β)(l:List α)(k)(a:k<l.length):f ((l.take k).foldl f b) l[k]=(l.take (k+1)).foldl f b:=by
 rw[Za a,Zv];rfl
theorem Qdv(seed b A c w)(n:Xnj w A b)(x:b.length<1000000000000)(h:∀s∈b,s.size<1000000000000000) :
 Cal Tryz.prog 31 [.int .u64 seed,.slice A b.length c] w fun r w'=>r=.int .u64 (hash seed b)/\w'=w:=by
 refine Fi Tryz.func31 rfl _ rfl rfl (Hh ?_);refine⟨_,rfl,Hh ?_⟩
 refine Qh Qb (fun(k:Nat) w'=>k<=b.length/\w'=w)
  (fun k=>[(11,.slice A b.length c),(12,Vj b.length),(13,Vj k),(5,.int .u64 ((b.take k).foldl hword (IntKind.u64.wrap (seed+11400714819323198485))))]) (fun k=>b.length-k) 0 ⟨Om,rfl⟩ Rr ?_
 rintro k o ⟨v,rfl⟩;refine Hh ?_;constructor
 .intro e;have e:k<b.length:=Su e;have y:=h _ (Zu e);refine Hh ?_;obtain⟨a,rfl,i⟩:=n.get e;refine⟨a,Ix,Hh ?_⟩;refine⟨.string b[k],Qp i,Hh ?_⟩;generalize l:(b.take k).foldl hword (IntKind.u64.wrap (seed+11400714819323198485))=g
  refine Qh Qb (fun(j:Nat) w'=>j<=b[k].size/\w'=o)
   (fun j=>[(11,.slice (some a) b.length c),(12,Vj b.length),(13,Vj k),(7,.string b[k]),(18,Vj b[k].size),(19,Vj j),(5,.int .u64 (hbytes g (b[k].data.toList.take j)))]) (fun j=>b[k].size-j) 0 ⟨Om,rfl⟩ Rr ?_
  rintro j z ⟨u,rfl⟩;refine Hh ?_;constructor
  .intro d;have d:j<b[k].size:=Su d;have m:j<b[k].data.toList.length:=Su d;refine Hh ?_;refine⟨b[k].data.toList[j],⟨Om,Q9o _ _ d⟩,Hh ?_⟩;refine⟨_,Q8n _,Hh ?_⟩;refine⟨_,rfl,Hh ?_⟩;refine⟨_,rfl,Hh ?_⟩;refine⟨_,wrap_succ Om,Hh ?_⟩;refine⟨j+1,Om,⟨Om,rfl⟩,⟨rfl,rfl,rfl,rfl,rfl,rfl,?_,trivial⟩⟩;rw[<- Qzp _ _ _ m];rfl
  .intro d
   have d:j=b[k].size:=by have:b[k].size<=j:=Su d
                          omega
   refine Hh ?_;refine⟨_,rfl,Hh ?_⟩;refine⟨_,rfl,Hh ?_⟩;refine⟨_,wrap_succ Om,Hh ?_⟩;refine⟨k+1,Om,⟨Om,rfl⟩,⟨rfl,rfl,rfl,?_,trivial⟩⟩;rw[<- foldl_snoc hword _ b k e,l,Zd (by simp;omega)];rfl
 .intro f;have f:b.length<=k:=Su f;rw[Zd f];refine Hh ?_;refine⟨_,⟨by decide,rfl⟩,Hh ?_⟩;refine⟨_,rfl,Hh ?_⟩;refine⟨_,rfl,Hh ?_⟩;refine⟨_,⟨by decide,rfl⟩,Hh ?_⟩;refine⟨_,rfl,Hh ?_⟩;refine⟨_,rfl,Hh ?_⟩;refine⟨_,⟨by decide,rfl⟩,Hh ?_⟩;refine⟨_,rfl,Hh ?_⟩;exact⟨rfl,rfl⟩
