import Derived.Test.YtpdonaienhociaaGreatDoorGZA
import Derived.Test.YtpdonaienhociaaGreatDoorGYF
import Derived.Test.YtpdonaienhociaaGreatDoorGXE
set_option linter.all false
namespace Go.Proofs.YtpdonaienhociaaGreatDoor
open Go.Se Go.RowKit Go.Sort
structure Ch where
 item:Bj
 maker:Bj
 tags:Bj
 score:Int
deriving DecidableEq
def chC (x:Ch):List Value := [.string x.item,.string x.maker,.string x.tags,Vj x.score]
theorem Qge (x:Ch):(chC x).length=4:=rfl
theorem Qrq (x:Ch):∀ u∈chC x,u.oneCell'=true:=by
 intro u hu;simp[chC] at hu;rcases hu with rfl | rfl | rfl | rfl <;> rfl
def Qig (a b:Ch):Int:=orL [Qcy b.score a.score,Qch a.item b.item,Qch a.maker b.maker,Qch a.tags b.tags]
theorem Quo:Qig=Qt0 (fun a b:Ch=>Qcy b.score a.score) (Qt0 (fun a b:Ch=>Qch a.item b.item) (Qt0 (fun a b:Ch=>Qch a.maker b.maker) (fun a b:Ch=>Qch a.tags b.tags))):=by
 funext a b;unfold Qig Qt0 orL
 by_cases h1:Qcy b.score a.score=0
 . by_cases h2:Qch a.item b.item=0
   . by_cases h3:Qch a.maker b.maker=0
     . by_cases h4:Qch a.tags b.tags=0 <;> simp[h1,h2,h3,h4]
     . simp[h1,h2,h3]
   . simp[h1,h2]
 . simp[h1]
theorem Qrr:WC Qig:=by
 rw[Quo];exact(WC.flip (Q14 fun x:Ch=>x.score)).lex ((Qi1 fun x:Ch=>x.item).lex ((Qi1 fun x:Ch=>x.maker).lex (Qi1 fun x:Ch=>x.tags)))
theorem Xbz {a b:Ch} (h:ltOf Qig a b=false) (k:ltOf Qig b a=false):a=b:=by
 have e:Qig a b=0:=(by unfold ltOf at h k;simp only[decide_eq_false_iff_not] at h k;have:=Qrr.anti b a;omega);rw[Quo] at e;unfold Qt0 at e
 have hs:Qcy b.score a.score=0:=by
  by_cases h1:Qcy b.score a.score=0
  . exact h1
  . rw[if_pos h1] at e;exact absurd e h1
 rw[if_neg Om] at e
 have hi:Qch a.item b.item=0:=by
  by_cases h1:Qch a.item b.item=0
  . exact h1
  . rw[if_pos h1] at e;exact absurd e h1
 rw[if_neg Om] at e
 have hm:Qch a.maker b.maker=0:=by
  by_cases h1:Qch a.maker b.maker=0
  . exact h1
  . rw[if_pos h1] at e;exact absurd e h1
 rw[if_neg Om] at e
 have hs2:a.score=b.score:=by
  unfold Qcy at hs;split at hs
  . omega
  . split at hs <;> omega
 cases a;cases b;simp only at *;rw[Qbx.1 hi,Qbx.1 hm,Qbx.1 e,hs2]
def Qgq (r:List Ch) (x:Ch):List Ch:=if x.item∈r.map (·.item) then r else r ++ [x]
def Qow (l:List Ch):List Ch:=(Qhl (ltOf Qig) l).foldl Qgq []
theorem Xie {r l:List Ch} {x:Ch} (h:x∈l.foldl Qgq r):x∈r\/x∈l:=by
 induction l generalizing r with
 | nil=>exact .inl h
 | cons y l ih =>
   rcases ih h with h | h
   . unfold Qgq at h;split at h
     . exact .inl h
     . rcases Zj.1 h with h | h
       . exact .inl h
       . exact .inr (Zr.2 (.inl (Zk.1 h)))
   . exact .inr (List.mem_cons_of_mem _ h)
theorem Xem (r l:List Ch):(l.foldl Qgq r).length<=r.length+l.length:=by
 induction l generalizing r with
 | nil=>simp
 | cons y l ih =>
   refine Zv (ih _) ?_;unfold Qgq;split
   . (simp) <;> omega
   . (simp) <;> omega
theorem Q1m {l:List Ch} {x:Ch} (h:x∈Qow l):x∈l:=by
 rcases Xie h with h | h
 . cases h
 . exact(Qb6 _ _).mem_iff.1 h
theorem Q1l (l:List Ch):(Qow l).length<=l.length:=by
 have:=Xem [] (Qhl (ltOf Qig) l);rw[(Qb6 (ltOf Qig) l).length_eq] at this;simpa [Qow] using this
abbrev Mk:=Bool×Bj
def mkC (m:Mk):List Value := [.bool m.1,.string m.2]
def mkV (m:Mk):Value := .agg #[.bool m.1,.string m.2]
theorem Qyn (m:Mk):(mkC m).length=2:=rfl
theorem Xf1 {a b:Mk} (h:mkV a=mkV b):a=b:=by
 obtain⟨a1,a2⟩:=a;obtain⟨b1,b2⟩:=b;simpa [mkV] using h
instance memDecM (a:Mk) (l:List Mk):Decidable (a∈l):=decidable_of_iff (l.any (fun b=>decide (b=a))=true) (by simp)
def Qib (l:List Mk) (t:Bj):List Mk:=if t≠⟨#[]⟩/\(true,t)∉l then l ++ [(true,t)] else l
def Qgp (x:Ch):List Mk:=(Qbs 44 x.tags).foldl Qib (if x.maker≠⟨#[]⟩ then [(false,x.maker)] else [])
theorem Xeg (l:List Mk) (ts:List Bj):(ts.foldl Qib l).length<=l.length+ts.length:=by
 induction ts generalizing l with
 | nil=>simp
 | cons t ts ih =>
   refine Zv (ih _) ?_;unfold Qib;split
   . (simp) <;> omega
   . (simp) <;> omega
structure Caps where
 size:Int
 maker:Int
 tag:Int
def Qnh (c:Caps):List Value := [Vj c.size,Vj c.maker,Vj c.tag]
def Qko (c:Caps) (T:List (Mk×Int)) (m:Mk):Bool:=decide (1<=(if m.1=true then c.tag else c.maker))&&decide ((if m.1=true then c.tag else c.maker)<=(Qe T m).getD 0)
def Qgs (T:List (Mk×Int)) (m:Mk):List (Mk×Int):=Xc T m ((Qe T m).getD 0+1)
def Qdy (c:Caps) (s:List Ch×List (Mk×Int)) (x:Ch):List Ch×List (Mk×Int) :=
 if c.size<=(s.1.length:Int) then s
 else if(Qgp x).any (Qko c s.2)=true then s
 else(s.1 ++ [x],(Qgp x).foldl Qgs s.2)
def Qf1 (c:Caps) (l:List Ch):List Ch:=((Qow l).foldl (Qdy c) ([],[])).1
theorem Q95 {c:Caps} {s:List Ch×List (Mk×Int)} (h:c.size<=(s.1.length:Int)):∀ l:List Ch,l.foldl (Qdy c) s=s
 | []=>rfl
 | x :: l=>by
   rw[Zap];have:Qdy c s x=s:=by unfold Qdy;rw[if_pos h]
   rw[this];exact Q95 h l
theorem Q97 (c:Caps):∀ (l:List Ch) (s:List Ch×List (Mk×Int)),∃ k,(l.foldl (Qdy c) s).1=s.1++k/\k.Sublist l
 | [],s=>⟨[],by simp,List.Sublist.slnil⟩
 | x :: l,s=>by
   rw[Zap];obtain⟨k,h1,h2⟩:=Q97 c l (Qdy c s x)
   by_cases hx:(Qdy c s x).1=s.1
   . exact⟨k,by rw[h1,hx],h2.cons _⟩
   . have:(Qdy c s x).1=s.1 ++ [x]:=by
      unfold Qdy at hx ⊢;split at hx
      . exact absurd rfl hx
      . rename_i hc;rw[if_neg hc];split at hx
        . exact absurd rfl hx
        . rename_i hm;rw[if_neg hm]
     exact⟨x :: k,by rw[h1,this];simp,h2.cons_cons _⟩
theorem Qwc (c:Caps) (l:List Ch):(Qf1 c l).Sublist (Qow l):=by
 obtain⟨k,h1,h2⟩:=Q97 c (Qow l) ([],[]);unfold Qf1;rw[h1];simpa using h2
theorem Qwb {c:Caps} {l:List Ch} {x:Ch} (h:x∈Qf1 c l):x∈l:=Q1m ((Qwc c l).subset h)
theorem Qoz (c:Caps) (l:List Ch):(Qf1 c l).length<=l.length:=Zv (Qwc c l).length_le (Q1l l)
def Qgt (r:List Bj) (s:Bj):List Bj:=if s∈r then r else r ++ [s]
def Qca (l:List Bj):List Bj:=l.foldl Qgt []
theorem Xiq {r l:List Bj} {x:Bj} (h:x∈l.foldl Qgt r):x∈r\/x∈l:=by
 induction l generalizing r with
 | nil=>exact .inl h
 | cons y l ih =>
   rcases ih h with h | h
   . unfold Qgt at h;split at h
     . exact .inl h
     . rcases Zj.1 h with h | h
       . exact .inl h
       . exact .inr (Zr.2 (.inl (Zk.1 h)))
   . exact .inr (List.mem_cons_of_mem _ h)
theorem Xex (r l:List Bj):(l.foldl Qgt r).length<=r.length+l.length:=by
 induction l generalizing r with
 | nil=>simp
 | cons y l ih =>
   refine Zv (ih _) ?_;unfold Qgt;split
   . (simp) <;> omega
   . (simp) <;> omega
theorem Q5n {l:List Bj} {x:Bj} (h:x∈Qca l):x∈l:=by
 rcases Xiq h with h | h
 . cases h
 . exact h
theorem Qga (l:List Bj):(Qca l).length<=l.length:=by
 have:=Xex [] l;simpa [Qca] using this
def Q2s (f:Bj->Int) (a b:Bj):Int:=orL [Qcy (f a) (f b),Qch a b]
theorem Q0i (f:Bj->Int):Q2s f=Qt0 (fun a b=>Qcy (f a) (f b)) (fun a b=>Qch a b):=by
 funext a b;unfold Q2s Qt0 orL
 by_cases h1:Qcy (f a) (f b)=0
 . by_cases h2:Qch a b=0 <;> simp[h1,h2]
 . simp[h1]
theorem Qrs (f:Bj->Int):WC (Q2s f):=by
 rw[Q0i];exact(Q14 f).lex (Qi1 fun x:Bj=>x)
theorem Xff {f:Bj->Int} {a b:Bj} (h:ltOf (Q2s f) a b=false) (k:ltOf (Q2s f) b a=false):a=b:=by
 have e:Q2s f a b=0:=(by unfold ltOf at h k;simp only[decide_eq_false_iff_not] at h k;have:=(Qrs f).anti b a;omega);rw[Q0i] at e;unfold Qt0 at e;split at e
 . rename_i h1;exact absurd e h1
 exact Qbx.1 e
def Qmc (seed:Int) (s:Bj):Int:=hash seed [s]
def Qhh (seed:Int) (l:List Bj):List Bj:=Qhl (ltOf (Q2s (Qmc seed))) (Qca l)
abbrev MxS:=List Bj×List Bj×List Bj
def Qha (every:Int) (s:MxS) (i:Nat):MxS :=
 if 1<=every/\((i:Int)+1).tmod every=0/\s.2.2 ≠ [] then(s.1 ++ [s.2.2.headD ⟨#[]⟩],s.2.1,s.2.2.tail)
 else(s.1 ++ [s.2.1.headD ⟨#[]⟩],s.2.1.tail,s.2.2)
def Xg9 (seed:Int) (main other:List Bj) (every:Int):List Bj :=
 ((List.range (Qca main).length).foldl (Qha every) ([],Qca main,(Qhh seed other).filter fun s=>decide (s∉Qca main))).1
theorem Q8m (every:Int) (F D:List Bj):∀ k,k<=F.length->let s:=(List.range k).foldl (Qha every) ([],F,D);s.1.length=k/\(∀ x∈s.1,x∈F\/x∈D)/\s.2.1 <:+ F/\s.2.2 <:+ D/\F.length<=s.2.1.length+k
 | 0,_=>⟨rfl,by simp,List.suffix_refl _,List.suffix_refl _,by simp⟩
 | k+1,hk=>by
   obtain⟨h1,h2,h3,h4,h5⟩:=Q8m every F D k Om;rw[Zc6,Zt];simp only[Zap,List.foldl_nil];generalize (List.range k).foldl (Qha every) ([],F,D)=s at h1 h2 h3 h4 h5;obtain⟨l,f,d⟩:=s;simp only at h1 h2 h3 h4 h5;unfold Qha;split
   . rename_i hc;simp only
     cases d with
     | nil=>exact absurd rfl hc.2.2
     | cons y d =>
       refine⟨by simp[h1],fun x hx => ?_,h3,(List.suffix_cons y d).trans h4,Om⟩;rcases Zj.1 hx with hx | hx
       . exact h2 x hx
       . have:x=y:=Su hx;exact .inr (this ▸ h4.subset (List.mem_cons_self ..))
   . simp only
     cases f with
     | nil=>simp at h5;omega
     | cons y f =>
       refine⟨by simp[h1],fun x hx => ?_,(List.suffix_cons y f).trans h3,h4,by simp at h5 ⊢;omega⟩;rcases Zj.1 hx with hx | hx
       . exact h2 x hx
       . have:x=y:=Su hx;exact .inl (this ▸ h3.subset (List.mem_cons_self ..))
theorem Q8k (seed:Int) (main other:List Bj) (every:Int):(Xg9 seed main other every).length=(Qca main).length :=
 (Q8m every (Qca main) ((Qhh seed other).filter fun s=>decide (s∉Qca main)) _ (Zg _)).1
def Qqr (kk:Int) (fl:List (LK×Bool)) (person:Bj) (h:List Ev):List (Bj×Bool) :=
 h.foldl (fun m e=>if e.kind=kk/\(Qe fl (person,e.text)).getD false=true then Xc m e.text true else m) []
theorem Qjr (kk:Int) (fl:List (LK×Bool)) (person:Bj) (h:List Ev) (e:Ev):Qqr kk fl person (h ++ [e])=if e.kind=kk/\(Qe fl (person,e.text)).getD false=true then Xc (Qqr kk fl person h) e.text true else Qqr kk fl person h:=by unfold Qqr;rw[Zt];rfl
theorem Xck (kk:Int) (fl:List (LK×Bool)) (person:Bj) (x:Bj):∀ h:List Ev,x∈(Qqr kk fl person h).map (·.1)↔∃ e∈h,e.kind=kk/\e.text=x/\(Qe fl (person,x)).getD false=true:=by
 refine Qv (by simp[Qqr]) fun h e ih => ?_
 rw[Qjr];split
 . next hc =>
   rw[Qed];constructor
   . intro hx
     have:x=e.text\/x∈(Qqr kk fl person h).map (·.1):=by
      split at hx
      . exact .inr hx
      . rcases Zj.1 hx with hx | hx
        . exact .inr hx
        . exact .inl (Su hx)
     rcases this with rfl | hx
     . exact⟨e,by simp,hc.1,rfl,hc.2⟩
     . obtain⟨y,hy,h1⟩:=ih.1 hx;exact⟨y,by simp[hy],h1⟩
   . rintro ⟨y,hy,h1,rfl,h2⟩;rcases Zj.1 hy with hy | hy
     . have:=ih.2 ⟨y,hy,h1,rfl,h2⟩;split
       . exact this
       . exact Zj.2 (.inl this)
     . have hy:y=e:=Su hy;subst hy;split
       . assumption
       . simp
 . next hc =>
   rw[ih];constructor
   . rintro ⟨y,hy,h1⟩;exact⟨y,by simp[hy],h1⟩
   . rintro ⟨y,hy,h1,rfl,h2⟩;rcases Zj.1 hy with hy | hy
     . exact⟨y,hy,h1,rfl,h2⟩
     . have hy:y=e:=Su hy;subst hy;exact absurd ⟨h1,h2⟩ hc
def Xiz (kk:Int) (fl:List (LK×Bool)) (person:Bj) (h:List Ev):List Bj:=Xi ((Qqr kk fl person h).map (·.1))
def Q5x (rs:List Row) (person:Bj):List Bj:=Xiz 9 (Xk rs).mutes person (hist (evs rs) person)
def Qu6 (rs:List Row) (person:Bj):List Bj:=Xiz 7 (Xk rs).follows person (hist (evs rs) person)
structure Fct where
 it:It
 now:Int
 age:Int
 fans:Int
 follows:Bool
 done:Bool
def Qqe (f:Fct):List Value:=itC f.it ++ [Vj f.now,Vj f.age,Vj f.fans,.bool f.follows,.bool f.done]
def Qg6 (c:Cfg) (z:List Ev) (person item:Bj) (now:Int):Fct :=
 ⟨Qbr z item now,now,if Qlj z item now=true then IntKind.i64.wrap (now-(Qbr z item now).born) else 0,Qjk (Qi c.width z).rs item,
  if Qlj z item now=true then decide ((Qbr z item now).maker∈Qu6 (Qi c.width z).rs person) else false,Qij (Qi c.width z).rs person item⟩
def Qt2 (c:Cfg) (z:List Ev) (person item:Bj) (now:Int):List Bool :=
 let f:=Qg6 c z person item now
 let rs:=(Qi c.width z).rs
 [!f.it.listed,decide (f.it.stock=0),Q5w rs person item||decide (f.it.maker∈Q5x rs person),f.done,decide (f.fans<c.crowd)&&decide (c.span<f.age),!decide (0<f.it.stock)]
def Qpl (c:Cfg) (z:List Ev) (person item:Bj) (now:Int):Nat:=match (Qt2 c z person item now).findIdx? (· == true) with
 | none=>0
 | some i=>i+1
def chF (c:Cfg) (z:List Ev) (a:Nat->Int) (person:Bj) (now:Int) (item:Bj):Ch:=⟨item,(Qbr z item now).maker,(Qbr z item now).tags,Qmi (Qlt (Qs6 c z person item now) a 6)⟩
def Qtx (c:Cfg) (z:List Ev) (a:Nat->Int) (person:Bj) (now limit:Int):List Ch:=((Qgd c z person now limit).filter fun x=>decide (Qpl c z person x now=0)).map (chF c z a person now)
end Go.Proofs.YtpdonaienhociaaGreatDoor
namespace Go.Proofs.YtpdonaienhociaaGreatDoor
open Go.Se Go.RowKit
theorem Q31 (w:World) (S:Nat->Prop) (p:Nat) (half:Int) (rs:List Row) (h:X3 w S p half rs) (hm:∀ r∈rs,X0 r.1=true) (hl:rs.length<1000000) (person:Bj) :
 Cal Tryz.prog 44 [Pj p,.string person] w fun r w'=>∃ A c,r = .slice A (Xi ((Qqr 9 (Xk rs).mutes person (hist (evs rs) person)).map (·.1))).length c/\Own Qab 1 9 w.heap.size w' A c (Xi ((Qqr 9 (Xk rs).mutes person (hist (evs rs) person)).map (·.1)))/\Ext w w':=by
 obtain⟨bp,b,D,L,R,Tg,h⟩:=h;have hhd:=Qkq h.tags person;have hown:=(h.rows.own person).1;have hsl0:=hown.sl Qfp;have hfl:=h.maps.mutes;have hdl:(Xy D person).length<=rs.length:=(by rw[<- h.tags.len];exact Zc _ _);have hmp:∀ e∈hist (evs rs) person,X0 e=true:=fun e he=>(by obtain⟨r,hr,rfl⟩:=Zh.1 (Ze.1 he).1;exact hm r hr)
 have hmd:∀ d∈Xy D person,X0 d.1=true:=fun d hd=>hmp _ (by rw[<- hhd];exact Zh.2 ⟨d,hd,rfl⟩)
 rw[<- hhd];refine Fi Tryz.func44 rfl _ rfl rfl (Hh ?_);refine⟨.map (some b.mutes),h.head.one rfl,Gg ?_⟩;refine Cal.mono (R:=fun r w'=>∃ A c,r = .slice A (Xi ((Qqr 9 (Xk rs).mutes person ((Xy D person).map (·.1))).map (·.1))).length c/\Own Qab 1 9 w.heap.size w' A c (Xi ((Qqr 9 (Xk rs).mutes person ((Xy D person).map (·.1))).map (·.1)))/\Ext w w') ?_ ?_
 rotate_left
 . rintro _ w1 ⟨A,c,rfl,h1,h2⟩;refine Gg ?_;exact⟨A,c,rfl,h1,h2⟩
 refine Fi Tryz.func98 rfl _ rfl rfl (Hh ?_);intro b1 w1 hn1;refine Gg ?_;have hm1:MapAt w1 b1 Value.string []:=MapAt.new hn1;have hx1:=hn1.ext;have e1:=hn1.block;refine⟨.map (some bp),(h.head.ext hx1).one rfl,Gg ?_⟩;have hrows:=h.rows.look Qf9 Xb (e:=ty274) ty274_ok rfl person (cl := .ext) (Qhv h.rows.map.lt);refine⟨_,fun w' hw=>(by cases hw;exact hrows w1 hx1),Gg ?_⟩;clear hrows hhd;generalize (Xk rs).mutes=fl at *;generalize Xy D person=row at *;generalize (rowAt L person).1=A at *;generalize (rowAt L person).2=c at *
 refine Qh Qb (fun(q:Nat×List (Bj×Bool)) w'=>q.1<=row.length/\Ext w w'/\q.2=Qqr 9 fl person ((row.take q.1).map (·.1))/\MapAt w' b1 Value.string (Xj Value.bool q.2))
  (fun | (k,_) => [(1,.string person),(2,Vj 9),(3,.map (some b.mutes)),(9,.map (some b1)),(18,.slice A row.length c),(19,Vj row.length),(20,Vj k)]) (fun q=>row.length-q.1) (0,[]) ⟨by simp,hx1,rfl,hm1⟩ Rr ?_
 rintro ⟨k,m⟩ w2 ⟨hk,hx2,hmm,hmap⟩;simp only at hk hmm hmap;refine Gg ?_;constructor
 . intro hlt;have hlt:k<row.length:=Su hlt;obtain⟨a,hA,hc⟩:=(hsl0.ext hx2).get hlt;subst hA;have htk:Qqr 9 fl person ((row.take (k+1)).map (·.1))=if(row[k]).1.kind=9/\(Qe fl (person,(row[k]).1.text)).getD false=true then Xc m (row[k]).1.text true else m:=(by rw[Za hlt,Zp,Zm,Zb8,Qjr,<- hmm])
   generalize row[k]=d at hc htk;refine Gg ?_;refine⟨a,Ix,Gg ?_⟩;refine⟨Qgu d,⟨rfl,hc⟩,Gg ?_⟩;intro b3 w3 hn3;refine Gg ?_;refine Qc Qb (e:=ty276) rfl hn3.At rfl rfl rfl (Qfq _) fun w4 h4 ho4 => ?_
   have e3:=hn3.block;have hx24:Ext w2 w4:=ho4.ext hn3.ext Om;have hx4:Ext w w4:=hx2.trans hx24;have hmap4:=hmap.ext hx24;have h4:At w4 b3 276 (Qgu d):=h4;clear ho4;refine Gg ?_;refine⟨Vj d.1.kind,h4.one rfl,Gg ?_⟩;refine⟨.string d.1.text,fun _=>h4.one rfl,Gg ?_⟩;have hlk:=Xz Qh6 Qa6 (e:=ty4) ty4_ok (cl := .same) Qp (hfl.ext hx4) ((person,d.1.text):LK);have hz:(Qe (Xj Value.bool fl) ((person,d.1.text):LK)).getD (ty4).zero = .bool ((Qe fl (person,d.1.text)).getD false):=(by unfold Xj;rw[Qek];cases Qe fl (person,d.1.text) <;> rfl);rw[hz] at hlk;refine⟨_,fun _=>hlk,?_⟩;generalize (Qe fl (person,d.1.text)).getD false=hv at htk ⊢;refine Gg ?_;constructor
   . intro hc1;have hc1:d.1.kind=9/\hv=true:=Su hc1;rw[if_pos hc1] at htk;refine Gg ?_;refine⟨.string d.1.text,h4.one rfl,Gg ?_⟩;refine Qx Qpf (Qo Xb) hmap4 d.1.text _ fun w7 hmap7 ho7 => ?_
     have hx7:Ext w w7:=ho7.ext hx4 Om
     have hmap7:MapAt w7 b1 Value.string (Xj Value.bool (Xc m d.1.text true)):=by
      have e:Xc (Xj Value.bool m) d.1.text (.bool true)=Xj Value.bool (Xc m d.1.text true):=by unfold Xj;rw[Qe7]
      rw[<- e];exact hmap7
     refine Gg ?_;refine⟨_,wrap_succ Om,Gg ?_⟩;exact⟨(k+1,Xc m d.1.text true),Sj,⟨Sj,hx7,htk.symm,hmap7⟩,Rr⟩
   . intro hc1;have hc1:¬ (d.1.kind=9/\hv=true):=Su hc1;rw[if_neg hc1] at htk;refine Gg ?_;refine⟨_,wrap_succ Om,Gg ?_⟩;exact⟨(k+1,m),Sj,⟨Sj,hx4,htk.symm,hmap4⟩,Rr⟩
 . intro hge;have hge:row.length<=k:=Su hge;rw[Zb hge] at hmm;have hkeys:∀ x∈m,x.1.size<=1000000:=(by intro x hx;have hx1:x.1∈m.map (·.1):=Zh.2 ⟨x,hx,rfl⟩;rw[hmm,Xck] at hx1;obtain⟨e,he,_,h2,_⟩:=hx1;obtain⟨d,hd,rfl⟩:=Zh.1 he;have:=Qdc (hmd d hd);rw[<- h2];omega)
   have hml:m.length<=row.length:=by
    have:∀ h:List Ev,(Qqr 9 fl person h).length<=h.length:=by
     refine Qv (by simp[Qqr]) fun l e ih => ?_
     rw[Qjr];have:=Qb3 e.text true (Qqr 9 fl person l);split <;> simp <;> omega
    have:=this (row.map (·.1));rw[<- hmm] at this;simpa using this
   rw[<- hmm];have hvk:(Xj Value.bool m).map (·.1)=m.map (·.1):=by simp[Xj]
   refine Gg ?_;refine(Qks (some b1) w2).mono ?_;rintro _ w3 ⟨rfl,hc3,hx3⟩;refine Gg ?_;refine(Qhm hc3 (hmap.ext hx3) (by intro x hx;obtain⟨y,hy,rfl⟩:=Zh.1 hx;exact hkeys y hy) (by simp[Xj];omega)).mono ?_;rintro _ w4 ⟨A4,c4,rfl,ho,hx4⟩;rw[hvk] at ho ⊢;refine Gg ?_;exact⟨A4,c4,rfl,Qg5 ho (Zv hx2.size hx3.size),hx2.trans (hx3.trans hx4)⟩
theorem Q7w {z:List Ev} {item:Bj} {now:Int} (h:Qlj z item now=false):Qbr z item now=Qbt:=by
 unfold Qlj at h;unfold Qbr;unfold Xw at h ⊢;split at h
 . split at h
   . rename_i hq;simp[*]
   . cases h
 . simp[*]
theorem Xcj (kk:Int) (fl:List (LK×Bool)) (person:Bj):∀ h:List Ev,(Qqr kk fl person h).length<=h.length:=by
 refine Qv (by simp[Qqr]) fun l e ih => ?_
 rw[Qjr];have:=Qb3 e.text true (Qqr kk fl person l);split <;> simp <;> omega
theorem Q07 (kk:Int) (fl:List (LK×Bool)) (person:Bj) (h:List Ev):(Xiz kk fl person h).length<=h.length:=by
 unfold Xiz;rw[Qcf,Zf];exact Xcj kk fl person h
theorem Qva (rs:List Row) (person:Bj):(hist (evs rs) person).length<=rs.length:=by
 refine Zv (Zc _ _) ?_;simp[evs]
def Xj0:Fct:=⟨Qbt,0,0,0,false,false⟩
theorem Qr4 (f:Fct):∀ u∈Qqe f,u.oneCell'=true:=by simp[Qqe,itC,Value.oneCell']
set_option maxHeartbeats 4000000 in
theorem Q3c {w:World} {T:Nat->Prop} {p:Nat} {c:Cfg} {z:List Ev} (hW:WT w T p c z) (hok:Qm7 c z) (person item:Bj) (now:Int) :
 Cal Tryz.prog 40 [Pj p,.string person,.string item,Vj now] w fun r w'=>r = .agg (Qqe (Qg6 c z person item now)).toArray/\Ext w w':=by
 obtain⟨v,T0,hQ,_⟩:=hW;have hzl:=hok.len;have hrs:=Qeg c.width z hQ.rise hQ.may;have hrl:=Qv7 c.width z;have hrm:∀ r∈(Qi c.width z).rs,X0 r.1=true:=fun r hr=>(hrs r hr).1
 refine Fi Tryz.func40 rfl _ rfl rfl (Hh ?_);intro b8 w1 hn1;have h8:At w1 b8 127 (Qqe Xj0):=hn1.At;have e8:=hn1.block;have s1:=hn1.size;have hx1:=hn1.ext;clear hn1;refine Gg ?_;refine(X6 (hQ.ext hx1)).mono ?_;rintro _ w2 ⟨pw,S2,rfl,hc2,hx2⟩;refine Gg ?_;refine(Qu2 w2 S2 pw _ _ hc2 item).mono ?_;rintro _ w2 ⟨rfl,rfl⟩;refine Gg ?_;have hx02:=hx1.trans hx2;refine(X6 (hQ.ext hx02)).mono ?_;rintro _ w3 ⟨pw3,S3,rfl,hc3,hx3⟩;refine Gg ?_;refine(Qu0 w3 S3 pw3 _ _ hc3 person item).mono ?_;rintro _ w4 ⟨rfl,hx4⟩;refine Gg ?_;have hx04:=hx02.trans (hx3.trans hx4);replace h8:=h8.ext (hx2.trans (hx3.trans hx4));clear hc2 hc3 hx2 hx3 hx4 hx02 hx1;intro b9 w5 hn5;refine Gg ?_;refine Qc Qb (e:=ty127) rfl hn5.At rfl rfl rfl Oj fun w6 h9 ho6 => ?_
 have h9:At w6 b9 127 (Qqe ⟨Qbt,now,0,Qjk (Qi c.width z).rs item,false,Qij (Qi c.width z).rs person item⟩):=h9;have e9:=hn5.block;have s4:=hx04.size;have hx46:Ext w4 w6:=ho6.ext hn5.ext (by rw[hn5.block];exact Zg _);have hx06:=hx04.trans hx46;have l8:=h8.lt;replace h8:=h8.ext hx46;clear ho6 hn5 hx46 hx04;refine Gg ?_;refine(Xh (hQ.ext hx06)).mono ?_;rintro _ w7 ⟨pc,S7,rfl,hc7,hx7⟩;refine Gg ?_;refine(Q7 w7 S7 pc _ hc7 item now hQ.rows).mono ?_;rintro _ w8 ⟨rfl,hx8⟩;have hia:(Xw (Ql z) item now).1=Qbr z item now:=rfl;have his:(Xw (Ql z) item now).2=Qlj z item now:=rfl;rw[hia,his];have hfac:Qg6 c z person item now=⟨Qbr z item now,now,if Qlj z item now=true then IntKind.i64.wrap (now-(Qbr z item now).born) else 0,Qjk (Qi c.width z).rs item,if Qlj z item now=true then decide ((Qbr z item now).maker∈Qu6 (Qi c.width z).rs person) else false,Qij (Qi c.width z).rs person item⟩:=rfl;rw[hfac];have hnone:=Q7w (z:=z) (item:=item) (now:=now);generalize Qbr z item now=it at hnone ⊢;generalize Qlj z item now=is at hnone ⊢;have hx78:=hx7.trans hx8;replace h8:=h8.ext hx78;replace h9:=h9.ext hx78;replace hx06:=hx06.trans hx78;have z9:=h9.lt;clear hc7 hx7 hx8 hx78 hia his hfac;refine Gg ?_;intro b10 w9 hn9;refine Gg ?_;refine Qc Qb (e:=ty59) rfl hn9.At rfl rfl rfl (by simp[Qg,itC,Value.oneCell']) fun w10 h10 ho10 => ?_
 have h10:At w10 b10 59 (itC it):=h10;have e10:=hn9.block;have hx10:Ext w8 w10:=ho10.ext hn9.ext (by rw[hn9.block];exact Zg _);replace h8:=h8.ext hx10;replace h9:=h9.ext hx10;replace hx06:=hx06.trans hx10;clear ho10 hn9 hx10;refine Gg ?_;constructor
 . intro hq;have hq:is=false:=Su hq;have hz:=hnone hq;subst hz hq;refine Gg ?_;refine⟨Qqe ⟨Qbt,now,0,Qjk (Qi c.width z).rs item,false,Qij (Qi c.width z).rs person item⟩,⟨rfl,h9.all⟩,Gg ?_⟩;refine Qc Qb (e:=ty127) rfl h8 rfl rfl rfl (Qr4 _) fun w11 h11 ho11 => ?_
   have h11:At w11 b8 127 (Qqe ⟨Qbt,now,0,Qjk (Qi c.width z).rs item,false,Qij (Qi c.width z).rs person item⟩):=h11;refine Gg ?_;exact⟨_,⟨rfl,h11.all⟩,by simp,ho11.ext hx06 Om⟩
 intro hq;have hq:is=true:=Su hq;subst hq;refine Gg ?_;refine⟨itC it,⟨rfl,h10.all⟩,Gg ?_⟩;refine Qc Qb (e:=ty59) rfl h9 rfl rfl rfl (by simp[Qg,itC,Value.oneCell']) fun w11 h91 ho11 => ?_
 have h91:At w11 b9 127 (Qqe ⟨it,now,0,Qjk (Qi c.width z).rs item,false,Qij (Qi c.width z).rs person item⟩):=h91;replace h8:=ho11.at_ h8 Om;replace h10:=ho11.at_ h10 Om;replace hx06:=ho11.ext hx06 Om;clear ho11 h9;refine Gg ?_;refine⟨Vj it.born,h10.one rfl,Gg ?_⟩;refine⟨_,rfl,Gg ?_⟩;refine Qc Qb (e:=ty3) rfl h91 rfl rfl rfl Oj fun w12 h92 ho12 => ?_
 have h92:At w12 b9 127 (Qqe ⟨it,now,IntKind.i64.wrap (now-it.born),Qjk (Qi c.width z).rs item,false,Qij (Qi c.width z).rs person item⟩):=h92;replace h8:=ho12.at_ h8 Om;replace h10:=ho12.at_ h10 Om;replace hx06:=ho12.ext hx06 Om;clear ho12 h91;refine Gg ?_;refine Dr .ext [0,2,4,5,1,3] [6,7,8] (Hh ?_);replace h8:At w12.drew b8 _ _:=h8;replace h92:At w12.drew b9 _ _:=h92;replace h10:At w12.drew b10 _ _:=h10;replace hx06:=hx06.drew;generalize w12.drew=w13 at h8 h92 h10 hx06 ⊢;refine⟨.string it.maker,h10.one rfl,Hh ?_⟩;refine(X6 (hQ.ext hx06)).mono ?_;rintro _ w14 ⟨pw4,S4,rfl,hc4,hx14⟩;refine⟨hx14,Hh ?_⟩;refine(Qio w14 S4 pw4 _ _ hc4 hrm Om person).mono ?_;rintro _ w15 ⟨A15,c15,rfl,hown15,hx15⟩;refine⟨hx15,Hh ?_⟩;have hs15:SlT w15 A15 (Qu6 (Qi c.width z).rs person):=hown15.sl Qw;have hfl:(Qu6 (Qi c.width z).rs person).length<1000000:=(by have h1:=Q07 7 (Xk (Qi c.width z).rs).follows person (hist (evs (Qi c.width z).rs) person);have h2:=Qva (Qi c.width z).rs person;unfold Qu6;omega);refine(Qay (Qu6 (Qi c.width z).rs person) A15 c15 it.maker w15 hs15 hfl).mono ?_;rintro _ w15 ⟨rfl,rfl⟩;refine Hh ?_;have hx16:=hx14.trans hx15;refine Qc Qb (e:=ty4) rfl (h92.ext hx16) rfl rfl rfl Oj fun w17 h97 ho17 => ?_
 have h97:At w17 b9 127 (Qqe ⟨it,now,IntKind.i64.wrap (now-it.born),Qjk (Qi c.width z).rs item,decide (it.maker∈Qu6 (Qi c.width z).rs person),Qij (Qi c.width z).rs person item⟩):=h97;replace h8:=ho17.at_ (h8.ext hx16) Om;replace hx06:=ho17.ext (hx06.trans hx16) Om;clear ho17 h92 hown15 hc4;refine Gg ?_;refine⟨_,⟨rfl,h97.all⟩,Gg ?_⟩;refine Qc Qb (e:=ty127) rfl h8 rfl rfl rfl (Qr4 _) fun w18 h18 ho18 => ?_
 have h18:At w18 b8 127 (Qqe ⟨it,now,IntKind.i64.wrap (now-it.born),Qjk (Qi c.width z).rs item,decide (it.maker∈Qu6 (Qi c.width z).rs person),Qij (Qi c.width z).rs person item⟩):=h18;refine Gg ?_;exact⟨_,⟨rfl,h18.all⟩,by simp,ho18.ext hx06 Om⟩
theorem Q9p:Ql9 Tryz.prog 177 174 mkC 2 24:=⟨by kernel_rfl,⟨_,ty174_ok,rfl,rfl⟩,by174,by decide,by decide,Qyn,fun x=>by simp[mkC,Value.oneCell']⟩
theorem mkEq (a b:Mk) (ox oy:Operand):Qm4 Tryz.prog 174 ox oy (mkV a) (mkV b) (decide (a=b)):=by
 have h:=Qe1 (ox:=ox) (oy:=oy) Qb st174 (xs:=mkC a) (ys:=mkC b) (b:=decide (a.1=b.1)&&(decide (a.2=b.2)&&true)) rfl;have e:(decide (a.1=b.1)&&(decide (a.2=b.2)&&true))=decide (a=b):=(by rw[Zbx];simp only[Zl,decide_eq_true_eq,Prod.ext_iff,and_true]);rw[e] at h;exact h
theorem Qvc (l:List Mk) (A:Option Addr) (c:Nat) (x:Mk) (w:World) (hs:Sl mkC 2 w A l) (hl:l.length<1000000) :
 Cal Tryz.prog 195 [.slice A l.length c,mkV x] w fun r w'=>(∃ i:Int,r = Vj i/\(decide (0<=i)=decide (x∈l)))/\Ext w w':=by
 refine Fi Tryz.func195 rfl _ rfl rfl (Hh ?_);intro b1 w1 hn1;have h1:At w1 b1 174 (mkC x):=hn1.At;have hx1:=hn1.ext;clear hn1;refine Gg ?_;refine Qh Qb (fun(k:Nat) w'=>k<=l.length/\x∉l.take k/\Ext w1 w') (fun k => [(0,.slice A l.length c),(3,Pj b1),(7,Vj l.length),(8,Vj (k:Nat))]) (fun k=>l.length-k) 0 ⟨Zu _,by simp,Ext.refl _⟩ Rr ?_;rintro k w2 ⟨hk,hn,hx2⟩;refine Gg ?_;constructor
 . intro hlt;have hlt:k<l.length:=Su hlt;refine Gg ?_;refine Dr .same [0,1,2,3,4,5] [] (Hh ?_);replace hx2:Ext w1 w2.drew:=hx2.drew;generalize w2.drew=w3 at hx2 ⊢;obtain⟨a,rfl,hc⟩:=(hs.ext (hx1.trans hx2)).get hlt;have h3:=h1.ext hx2;refine⟨mkC x,⟨rfl,h3.all⟩,Hh ?_⟩;refine⟨a,Ix,Hh ?_⟩;refine⟨mkC l[k],⟨rfl,hc⟩,Hh ?_⟩;refine⟨_,mkEq x l[k] _ _,Hh ?_⟩;constructor
   . intro he;have he:x=l[k]:=Su he;refine Gg ?_;refine⟨⟨(k:Nat),rfl,?_⟩,hx1.trans hx2⟩;have:x∈l:=by rw[he];exact Zx hlt
     simp[this]
   . intro he;have he:¬ x=l[k]:=Su he;refine Gg ?_;refine⟨_,wrap_succ Om,Gg ?_⟩;refine⟨k+1,Om,⟨Om,?_,hx2⟩,Rr⟩;rw[Za hlt];intro hm;rcases Zj.1 hm with h | h
     . exact hn h
     . exact he (Zk.1 h)
 . intro hge;have hge:l.length<=k:=Su hge;rw[Zb hge] at hn;refine Gg ?_;refine⟨⟨-1,rfl,?_⟩,hx1.trans hx2⟩;simp[hn]
theorem Qno (l:List Mk) (A:Option Addr) (c:Nat) (x:Mk) (w:World) (hs:Sl mkC 2 w A l) (hl:l.length<1000000) :
 Cal Tryz.prog 132 [.slice A l.length c,mkV x] w fun r w'=>r = .bool (decide (x∈l))/\Ext w w':=by
 refine Fi Tryz.func132 rfl _ rfl rfl (Hh ?_);intro b1 w1 hn1;have h1:At w1 b1 174 (mkC x):=hn1.At;have hx1:=hn1.ext;clear hn1;refine Gg ?_;refine⟨mkC x,⟨rfl,h1.all⟩,Gg ?_⟩;refine(Qvc l A c x w1 (hs.ext hx1) hl).mono ?_;rintro _ w2 ⟨⟨i,rfl,hi⟩,hx2⟩;refine Gg ?_;exact⟨by rw[hi],hx1.trans hx2⟩
theorem Qqx (s:Bj):(Qbs 44 s).length<=s.size+1:=by
 have:=Qor 44 s.data.toList;unfold Qbs;rw[Zf];simpa using this
set_option maxHeartbeats 2000000 in
theorem Q30 (x:Ch) (w:World) (hg:Gl w) (ht:x.tags.size<1000) :
 Cal Tryz.prog 77 [.agg (chC x).toArray] w fun r w'=>∃ A c,r = .slice A (Qgp x).length c/\Own mkC 2 174 w.heap.size w' A c (Qgp x)/\Ext w w':=by
 refine Fi Tryz.func77 rfl _ rfl rfl (Hh ?_);intro b1 w1 hn1;have h1:At w1 b1 68 (chC x):=hn1.At;have hx1:=hn1.ext;clear hn1;refine Hh ?_;refine Xl Qb (ι:=Option Addr×Nat) (fun i => [(1,Pj b1),(3,.slice i.1 (if x.maker≠⟨#[]⟩ then [((false,x.maker):Mk)] else []).length i.2)]) (fun i w'=>Ext w1 w'/\Own mkC 2 174 w.heap.size w' i.1 i.2 (if x.maker≠⟨#[]⟩ then [(false,x.maker)] else [])) ?_ ?_
 . refine Gg ?_;refine⟨.string x.maker,h1.one rfl,Gg ?_⟩;constructor
   . intro hq;have hq:x.maker≠⟨#[]⟩:=Su hq;rw[if_pos hq];refine Gg ?_;refine⟨.string x.maker,h1.one rfl,Gg ?_⟩;intro b2 w2 hn2;refine Gg ?_;refine Qq Q9p (l := []) (news := [(false,x.maker)]) rfl Own.nil rfl (Q9p.new1 (x:=(false,x.maker)) hn2) (by simp) (hx1.trans hn2.ext).size fun A3 c3 w3 hown3 hg3 hA3 => ?_
     refine Gg ?_;exact⟨(A3,c3),⟨Qu hn2.ext hg3 (fun k hk=>by cases hk),hown3⟩,Rr⟩
   . intro hq;have hq:¬ x.maker≠⟨#[]⟩:=Su hq;rw[if_neg hq];refine Gg ?_;exact⟨(none,0),⟨Ext.refl _,Own.nil⟩,Rr⟩
 rintro ⟨A2,c2⟩ w2 ⟨hx2,hown2⟩;simp only at hown2;unfold Qgp;have hMl:(if x.maker≠⟨#[]⟩ then [((false,x.maker):Mk)] else []).length<=1:=by split <;> simp
 generalize (if x.maker≠⟨#[]⟩ then [((false,x.maker):Mk)] else [])=M0 at hown2 hMl ⊢;replace h1:=h1.ext hx2;replace hx2:=hx1.trans hx2;clear hx1;refine Gg ?_;refine⟨.string x.tags,h1.one rfl,Gg ?_⟩;refine(Qo6 x.tags w2 (hg.ext hx2) Om).mono ?_;rintro _ w3 ⟨A5,c5,rfl,hs5,hA5,hx3⟩;have hA2:∀ b,A2=some b->∀ a,A5=some a->b.block≠a.block:=fun b hb a ha=>by have:=(hown2.block hb).2;have:=hA5 a ha;omega
 have hPl:=Qqx x.tags;generalize Qbs 44 x.tags=P at hs5 hPl ⊢;replace hown2:=hown2.ext hx3;replace hx2:=hx2.trans hx3;clear hx3 h1;refine Gg ?_
 refine Qh Qb (fun(q:Nat×Option Addr×Nat×List Mk) w'=>q.1<=P.length/\Ext w w'/\q.2.2.2=(P.take q.1).foldl Qib M0/\Own mkC 2 174 w.heap.size w' q.2.1 q.2.2.1 q.2.2.2/\(∀ b,q.2.1=some b->∀ a,A5=some a->b.block≠a.block)/\SlT w' A5 P)
  (fun | (k,B,d,L) => [(3,.slice B L.length d),(18,.slice A5 P.length c5),(19,Vj P.length),(20,Vj (k:Nat))]) (fun q=>P.length-q.1) (0,A2,c2,M0) ⟨Zu _,hx2,rfl,hown2,hA2,hs5⟩ Rr ?_
 clear hown2 hs5 hx2;rintro ⟨k,B,d,L⟩ w4 ⟨hk,hx4,hL,hown,hB,hs4⟩;simp only at hk hL hown hB;have hLl:L.length<=1+k:=(by have:=Xeg M0 (P.take k);rw[<- hL,Zn] at this;omega);refine Gg ?_;constructor
 . intro hlt;have hlt:k<P.length:=Su hlt;obtain⟨a,rfl,hc⟩:=hs4.get hlt;have hz4:=cell_lt (Qs (show Xp w4 (a.add (k*1)) [Value.string P[k]] from hc));rw[add_block] at hz4;have htk:(P.take (k+1)).foldl Qib M0=Qib L P[k]:=by rw[Za hlt,Zt,<- hL];rfl
   generalize P[k]=t at hc htk;refine Gg ?_;refine⟨a,Ix,Gg ?_⟩;refine⟨.string t,Qs hc,Gg ?_⟩;intro b5 w5 hn5;refine Gg ?_;refine Qc Qb (e:=ty174) rfl hn5.At rfl rfl rfl Oj fun w6 h6 ho6 => ?_
   have h6:At w6 b5 174 (mkC (true,t)):=h6;have hx46:Ext w4 w6:=ho6.ext hn5.ext (by rw[hn5.block];exact Zg _);clear ho6 hn5;refine Gg ?_;refine⟨mkC (true,t),fun _=>⟨rfl,h6.all⟩,Gg ?_⟩;refine⟨Unit,fun _=>(.bool (decide ((true,t)∈L))),fun _ w'=>Ext w6 w',(),fun hg=>((Qno L B d (true,t) w6 ((hown.sl Qyn).ext hx46) Om)).mono fun r w' h=>⟨(),h.1,h.2⟩,?_⟩;intro _ w7 h2
   have hx7:Ext w6 w7:=by
    rcases h2 with⟨_,h⟩ | ⟨_,h⟩
    . exact h
    . rw[h];exact Ext.refl _
   clear h2;refine Hh ?_;have hx47:=hx46.trans hx7;have hx47s:=hx47.size;have h7:=h6.ext hx7;have hown7:=hown.ext hx47;have hs7:=hs4.ext hx47;have hx07:=hx4.trans hx47;clear hx46 hx7 hx47 h6 hown hs4 hx4;constructor
   . intro hq;have hq:t≠⟨#[]⟩/\(true,t)∉L:=Su hq;have hst:Qib L t=L ++ [(true,t)]:=by unfold Qib;rw[if_pos hq]
     rw[hst] at htk;refine Gg ?_;refine⟨mkC (true,t),⟨rfl,h7.all⟩,Gg ?_⟩;intro b8 w8 hn8;refine Gg ?_;refine Qq Q9p (l:=L) (news := [(true,t)]) rfl (hown7.ext hn8.ext) rfl (Q9p.new1 (x:=(true,t)) hn8) (by simp;omega) (hx07.trans hn8.ext).size fun A9 c9 w9 hown9 hg9 hA9 => ?_
     have hx9:=Qu (hx07.trans hn8.ext) hg9 (Xq (hown7.ext hn8.ext))
     have hs9:SlT w9 (some a) P:=X7.stay (hs7.ext hn8.ext) fun b hb hlt2=>hg9.block _ hlt2 fun e=>by
      cases hb
      cases hq:B with
      | none=>rw[hq] at e;simp at e
      | some b=>rw[hq] at e;simp at e;exact hB b hq a rfl e.symm
     have hB9:∀ b,A9=some b->∀ a',some a=some a'->b.block≠a'.block:=fun b hb a' ha'=>by
      cases ha';subst hb;rcases hA9 with q | q | q
      . exact hB b q.symm a rfl
      . cases hq:B with
        | none=>rw[hq] at q;simp at q
        | some b0=>rw[hq] at q;simp at q;rw[q];exact hB b0 hq a rfl
      . simp at q;have:=hn8.size;have:=hx47s;omega
     generalize hL2:L ++ [((true,t):Mk)]=L2 at hown9 htk ⊢;refine Gg ?_;refine⟨_,wrap_succ Om,Gg ?_⟩;exact⟨(k+1,A9,c9,L2),Sj,⟨Sj,hx9,htk.symm,hown9,hB9,hs9⟩,Rr⟩
   . intro hq;have hq:¬ (t≠⟨#[]⟩/\(true,t)∉L):=(by intro h;have hq:((!decide (t=⟨#[]⟩)) && !decide ((true,t)∈L))=false:=hq;simp[h.1,h.2] at hq);have hst:Qib L t=L:=by unfold Qib;rw[if_neg hq]
     rw[hst] at htk;refine Gg ?_;refine⟨_,wrap_succ Om,Gg ?_⟩;exact⟨(k+1,B,d,L),Sj,⟨Sj,hx07,htk.symm,hown7,hB,hs7⟩,Rr⟩
 intro hge;have hge:P.length<=k:=Su hge;rw[Zb hge] at hL;refine Gg ?_;rw[<- hL];exact⟨B,d,rfl,hown,hx4⟩
