/- Several texts in one: Hash. -/
import Derived.Test.YtohkipkjleldpaaGreatDoorGB
set_option linter.unusedVariables false
set_option linter.unusedSimpArgs false
namespace Go.Proofs.YtohkipkjleldpaaGreatDoor
open Go.Se Go.RowKit
def Xb1 (a b:Int):Int:=IntKind.u64.wrap (BitVec.ofInt 64 a ^^^ BitVec.ofInt 64 b).toNat
def Xcs (a b:Int):Int:=IntKind.u64.wrap (a*b)
def hx (h b:Int):Int:=Xcs (Xb1 h b) 1099511628211
def hbytes (h:Int) (l:List UInt8):Int:=l.foldl (fun h c=>hx h c.toNat) h
def hword (h:Int) (s:ByteArray):Int:=hx (hbytes h s.data.toList) 256
def hstep (h:Int) (n:Nat) (m:Int):Int:=Xcs (Xb1 h (h.fdiv (2 ^ n))) m
def hfin (h:Int):Int :=
 let a:=hstep h 31 9202087104158670213
 let b:=hstep a 27 9356908073163150413
 Xb1 b (b.fdiv (2 ^ 33))
def hash (seed:Int) (words:List ByteArray):Int:=hfin (words.foldl hword (IntKind.u64.wrap (seed+11400714819323198485)))
abbrev Xel:=Sl (fun s:ByteArray => [Value.string s]) 1
theorem Q2l (c:UInt8):((c.toNat:Nat):Int)=IntKind.u64.wrap (c.toNat:Nat):=wrap_u64 ⟨by omega,by have:=c.toNat_lt;omega⟩
theorem Q3e (s:ByteArray) (k:Nat) (h:k<s.size):s[k]? = some (s.data.toList[k]'(by simpa using h)):=by
 rw[getElem?_pos s k h]
 rfl
theorem Qu6 (h:Int) (l:List UInt8) (k:Nat) (hk:k<l.length):hx (hbytes h (l.take k)) (l[k]).toNat=hbytes h (l.take (k+1)):=by
 rw[List.take_succ_eq_append_getElem hk,hbytes,hbytes,List.foldl_append];rfl
theorem foldl_snoc {α β:Type} (f:β→α→β) (b:β) (l:List α) (k:Nat) (hk:k<l.length):f ((l.take k).foldl f b) l[k]=(l.take (k+1)).foldl f b:=by
 rw[List.take_succ_eq_append_getElem hk,List.foldl_append];rfl
theorem Q3j (seed:Int) (words:List ByteArray) (A:Option Addr) (c:Nat) (w:World) (hs:Xel w A words) (hl:words.length<1000000000000) (hb:∀ s∈words,s.size<1000000000000000) :
 Cal Tryz.prog 44 [.int .u64 seed,.slice A words.length c] w fun r w'=>r = .int .u64 (hash seed words)∧w'=w:=by
 refine Fi Tryz.func44 rfl _ rfl rfl (Hh ?_);refine⟨_,rfl,Hh ?_⟩
 refine Qh Qa (fun(k:Nat) w'=>k≤words.length∧w'=w)
  (fun k => [(11,.slice A words.length c),(12,.int .i64 words.length),(13,.int .i64 k),(5,.int .u64 ((words.take k).foldl hword (IntKind.u64.wrap (seed+11400714819323198485))))]) (fun k=>words.length-k) 0 ⟨by omega,rfl⟩ Rr ?_
 rintro k w1 ⟨hk,rfl⟩
 conv=>whnf
 constructor
 · intro hlt
   have hlt:k<words.length:=by simpa using hlt
   have hsm:=hb _ (List.getElem_mem hlt)
   conv=>whnf
   obtain⟨a,rfl,hc⟩:=hs.get hlt;refine⟨a,Ix,Hh ?_⟩;refine⟨.string words[k],Qv hc,Hh ?_⟩;generalize hh:(words.take k).foldl hword (IntKind.u64.wrap (seed+11400714819323198485))=h0
   refine Qh Qa (fun(j:Nat) w'=>j≤words[k].size∧w'=w1)
    (fun j => [(11,.slice (some a) words.length c),(12,.int .i64 words.length),(13,.int .i64 k),(7,.string words[k]),(18,.int .i64 words[k].size),(19,.int .i64 j),(5,.int .u64 (hbytes h0 (words[k].data.toList.take j)))]) (fun j=>words[k].size-j) 0 ⟨by omega,rfl⟩ Rr ?_
   rintro j w2 ⟨hj,rfl⟩
   conv=>whnf
   constructor
   · intro hjl
     have hjl:j<words[k].size:=by simpa using hjl
     have hjl':j<words[k].data.toList.length:=by simpa using hjl
     conv=>whnf
     refine⟨words[k].data.toList[j],⟨by omega,Q3e _ _ hjl⟩,Hh ?_⟩;refine⟨_,Q2l _,Hh ?_⟩;refine⟨_,rfl,Hh ?_⟩;refine⟨_,rfl,Hh ?_⟩;refine⟨_,wrap_succ (by omega),Hh ?_⟩;refine⟨j+1,by omega,⟨by omega,rfl⟩,⟨rfl,rfl,rfl,rfl,rfl,rfl,?_,trivial⟩⟩;rw[← Qu6 _ _ _ hjl'];rfl
   · intro hjl
     have hjl:j=words[k].size:=by have:words[k].size≤j:=by simpa using hjl
                                  omega
     conv=>whnf
     refine⟨_,rfl,Hh ?_⟩;refine⟨_,rfl,Hh ?_⟩;refine⟨_,wrap_succ (by omega),Hh ?_⟩;refine⟨k+1,by omega,⟨by omega,rfl⟩,⟨rfl,rfl,rfl,?_,trivial⟩⟩;rw[← foldl_snoc hword _ words k hlt,hh,List.take_of_length_le (by simp;omega)];rfl
 · intro hge
   have hge:words.length≤k:=by simpa using hge
   rw[List.take_of_length_le hge]
   conv=>whnf
   refine⟨_,⟨by decide,rfl⟩,Hh ?_⟩;refine⟨_,rfl,Hh ?_⟩;refine⟨_,rfl,Hh ?_⟩;refine⟨_,⟨by decide,rfl⟩,Hh ?_⟩;refine⟨_,rfl,Hh ?_⟩;refine⟨_,rfl,Hh ?_⟩;refine⟨_,⟨by decide,rfl⟩,Hh ?_⟩;refine⟨_,rfl,Hh ?_⟩
   exact⟨rfl,rfl⟩
end Go.Proofs.YtohkipkjleldpaaGreatDoor
