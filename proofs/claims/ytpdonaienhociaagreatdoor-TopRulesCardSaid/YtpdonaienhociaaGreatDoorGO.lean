import Derived.Test.YtpdonaienhociaaGreatDoorGM
set_option linter.all false
namespace Go.Proofs.YtpdonaienhociaaGreatDoor
open Go.Se Go.RowKit
def Qg2 (z:List Ev) (e:Ev):List Ev:=z.takeWhile fun x=>Q5 x e
theorem Xch (e:Ev):Q5 e e=false:=by
 rw[<- Zad,Qe5];rintro (h | ⟨_,h | ⟨_,h⟩⟩)
 . omega
 . rw[Xr] at h;cases h
 . omega
theorem Q6g {l1 l2:List Ev} {e:Ev} (h:Rise (l1++e :: l2)):Qg2 (l1++e :: l2) e=l1:=by
 unfold Qg2;rw[Zce fun x hx=>(Z4.1 h).2.2 x hx e (by simp),List.takeWhile_cons,Xch];simp
theorem Qrn {z:List Ev} {e x:Ev} (h:x∈Qg2 z e):x∈z:=(Zck _).mem h
def Qp0 (z:List Ev) (e:Ev):List Bj:=Xg (Qgr (Qtz e.item ((Ql (Qg2 z e)).filter (thQ e.item e.at_))).tags)
theorem Xc2 {e:Ev} (h:peB e=true):thB e=false:=by
 unfold peB at h
 cases hq:thB e with
 | false=>rfl
 | true=>rw[hq] at h;simp at h
theorem Qzv {z:List Ev} (h:Rise z) {e:Ev} (he:e∈z) (hp:thB e=false) (hno:∀ x∈Ql z,x.item=e.item->x.at_≠e.at_):(Ql z).filter (thQ e.item e.at_)=(Ql (Qg2 z e)).filter (thQ e.item e.at_):=by
 obtain⟨l1,l2,rfl⟩:=List.append_of_mem he;rw[Q6g h];unfold Ql at *;rw[Zq,Zq]
 have:((e :: l2).filter thB).filter (thQ e.item e.at_) = []:=by
  rw[List.filter_eq_nil_iff];intro x hx hq;obtain⟨hx1,hx2⟩:=Ze.1 hx;have hq:x.item=e.item/\x.at_<=e.at_:=by simpa [thQ] using hq
  rcases Zr.1 hx1 with rfl | hx1
  . rw[hp] at hx2;cases hx2
  . have hl:=(Z9.1 (Z4.1 h).2.1).1 x hx1;have:=Qyf hl;exact hno x (Ze.2 ⟨by simp[hx1],hx2⟩) hq.1 Om
 rw[this,Zw]
theorem Q6q (name:Bj) (t:Int):∀ cs:List Ev,t∈(Qz cs name).map (·.at_)↔∃ x∈cs,x.item=name/\x.at_=t:=by
 refine Qv (by simp[Qz]) fun cs e ih => ?_
 have hx:(∃ x∈cs ++ [e],x.item=name/\x.at_=t)↔(∃ x∈cs,x.item=name/\x.at_=t)\/(e.item=name/\e.at_=t):=by
  constructor
  . rintro ⟨x,hx,h⟩;rcases Zj.1 hx with hx | hx
    . exact .inl ⟨x,hx,h⟩
    . rw[Zk] at hx;subst hx;exact .inr h
  . rintro (⟨x,hx,h⟩ | h)
    . exact⟨x,by simp[hx],h⟩
    . exact⟨e,by simp,h⟩
 rw[Qba,hx,<- ih];unfold Qff Ql4
 by_cases hn:name=e.item
 . subst hn;rw[if_pos rfl,Zp,Zj,Zm,Zb8,Zk];have:(Qfb (Qz cs e.item) e).at_=e.at_:=Qf8 _ _;rw[this];constructor
   . rintro (h | h)
     . exact .inl h
     . exact .inr ⟨rfl,h.symm⟩
   . rintro (h | ⟨_,h⟩)
     . exact .inl h
     . exact .inr h.symm
 . rw[if_neg hn];constructor
   . exact .inl
   . rintro (h | ⟨h,_⟩)
     . exact h
     . exact absurd h.symm hn
def Qyg (c:Cfg) (z:List Ev) (item:Bj) (tags:List Bj) (e:Ev):Bool:=decide (0<Qy e)&&((!decide (e.item=item)&&decide (0<(Qgw (Qg0 c z) e.item item).1))||(Qp0 z e).any fun t=>decide (t∈tags))
def Qx9 (z:List Ev) (item:Bj) (now:Int):Bool := !((Ql z).filter (thQ item now)).isEmpty
def Qzr (z:List Ev) (item:Bj) (now:Int):List Bj:=Xg (Qgr (Qmd z item now).tags)
def Qh5 (c:Cfg) (z:List Ev) (item:Bj) (now:Int) (e:Ev):Bool:=if e.kind=7\/e.kind=8 then Qx9 z item now&&decide (e.text=(Qmd z item now).maker) else Qyg c z item (Qzr z item now) e
def Qvt (c:Cfg) (z:List Ev) (person item:Bj) (now:Int):List Ev:=(Qej z person).filter (Qh5 c z item now)
theorem Xf6 (c:Cfg) (z:List Ev) (person item:Bj) (now:Int):(Qvt c z person item now).length<=z.length:=by
 have h1:=Zc (Qh5 c z item now) (Qej z person);have h2:=Qmq z person;unfold Qvt;omega
