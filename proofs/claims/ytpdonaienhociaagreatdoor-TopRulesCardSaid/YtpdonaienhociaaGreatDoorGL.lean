import Derived.Test.YtpdonaienhociaaGreatDoorGJ
set_option linter.all false
namespace Go.Proofs.YtpdonaienhociaaGreatDoor
open Go.Se Go.RowKit
def Q4f (c:Cfg) (z:List Ev) (person item:Bj) (now:Int) (k:Nat):Int :=
 if k=0 then min (Xej (z.filter wpB) (Xd c.half) item now) 1099511627776
 else if k=1 then(if(Qmd z item now).listed=true then min (Ql3 (Xew (Xd c.half) now (rowsOf (Qv6 z) person)) (Xg (Qgr (Qmd z item now).tags))) 1099511627776 else 0)
 else if k=2 then Xi8 c z person item
 else if k=3 then Q4k c (paE (z.filter wpB) c.width item ((Qis c now-c.span)/Xd c.width) (Qis c now/Xd c.width)) (paE (z.filter wpB) c.width item ((Qis c now-2*c.span)/Xd c.width) ((Qis c now-c.span)/Xd c.width))
 else if k=4 then(if(Qmd z item now).listed=true/\Q0t z person (Qmd z item now).maker=true then 1048576 else 0)
 else if k=5 then(if(Qmd z item now).listed=true then Qas (now-(Qmd z item now).born) c.half else 0)
 else 0
structure Behind (now:Int) (person:Bj) (M:List Ev):Prop where
 at_:∀ e∈M,now<e.at_
 worth:∀ e∈M,Qy e<=0
 person:∀ e∈M,e.person≠person
theorem Qkc {α:Type} {p:α->Bool} {l:List α} {k:Nat} (hk:k<=l.length) (h1:∀ x∈l.take k,p x=true) (h2:k=l.length\/∃ x,l[k]? = some x/\p x=false):l.takeWhile p=l.take k/\l.dropWhile p=l.drop k:=by
 have hd:(l.drop k).takeWhile p = []/\(l.drop k).dropWhile p=l.drop k:=by
  rcases h2 with rfl | ⟨x,hx,hp⟩
  . simp
  . have hlt:k<l.length:=(Zi.1 hx).1;have hxe:l[k]=x:=by rw[Zd hlt] at hx;simpa using hx
    rw[Zak hlt,hxe];simp[hp]
 constructor
 . conv=>lhs;rw[<- Zah k l]
   rw[Zce h1,hd.1,Zw]
 . conv=>lhs;rw[<- Zah k l]
   rw[List.dropWhile_append_of_pos h1,hd.2]
