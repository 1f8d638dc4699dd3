/- Several texts in one: Wo2, Wo3, Wo4, Wo5, Wo6, Wo7. -/
import Derived.Test.YtohkipkjleldpaaGreatDoorGC
set_option linter.unusedVariables false
set_option linter.unusedSimpArgs false
namespace Go.Proofs.YtohkipkjleldpaaGreatDoor
open Go.Se Go.RowKit
theorem Qu {α:Type} {P:List α→Prop} (h0:P []) (h1:∀ l a,P l→P (l ++ [a])) (l:List α):P l:=by
 have:∀ r:List α,P r.reverse:=by
  intro r
  induction r with
  | nil=>exact h0
  | cons a r ih=>rw[List.reverse_cons];exact h1 _ _ ih
 have h:=this l.reverse
 rwa [List.reverse_reverse] at h
def Qt0:Ev:=⟨⟨#[]⟩,0,0,0,⟨#[]⟩,⟨#[]⟩,0,⟨#[]⟩⟩
def Qek (l:List Ev):Ev:=l.getLast?.getD Qt0
structure It where
 name:ByteArray
 maker:ByteArray
 tags:ByteArray
 stock:Int
 price:Int
 born:Int
 listed:Bool
deriving DecidableEq
def itC (i:It):List Value := [.string i.name,.string i.maker,.string i.tags,.int .i64 i.stock,.int .i64 i.price,.int .i64 i.born,.bool i.listed]
def Qc6:It:=⟨⟨#[]⟩,⟨#[]⟩,⟨#[]⟩,0,0,0,false⟩
structure St where
 at_:Int
 born:Bool
 item:It
deriving DecidableEq
def stC (s:St):List Value := [.int .i64 s.at_,.bool s.born,.string s.item.name,.string s.item.maker,.string s.item.tags,.int .i64 s.item.stock,.int .i64 s.item.price,.int .i64 s.item.born,.bool s.item.listed]
theorem Qqt (s:St):(stC s).length=9:=rfl
theorem Qwl (s:St):∀ u∈stC s,u.oneCell'=true:=by simp[stC,Value.oneCell']
def Qio (name:ByteArray):St:=⟨0,false,{ Qc6 with name:=name }⟩
def Qb9 (s:St) (e:Ev):St :=
 if e.kind=11 then⟨e.at_,true,{ s.item with listed:=true,maker:=Qb3 e.text,tags:=Qau e.text,price:=e.val,born:=if s.born then s.item.born else e.at_ }⟩
 else if e.kind=12 then⟨e.at_,s.born,{ s.item with stock:=e.val }⟩
 else⟨e.at_,s.born,{ s.item with listed:=false }⟩
def Qe7 (row:List St) (e:Ev):St:=Qb9 (row.getLast?.getD (Qio e.item)) e
def Qfa (rows:ByteArray→List St) (e:Ev):ByteArray→List St:=Qkl rows e.item (rows e.item ++ [Qe7 (rows e.item) e])
def Qw (cs:List Ev):ByteArray→List St:=cs.foldl Qfa (fun _ => [])
theorem Qba (cs:List Ev) (e:Ev):Qw (cs ++ [e])=Qfa (Qw cs) e:=by unfold Qw;rw[List.foldl_append];rfl
theorem Qgf (s:St) (e:Ev):(Qb9 s e).at_=e.at_:=by unfold Qb9;split <;> (try split) <;> rfl
def Rise (l:List Ev):Prop:=l.Pairwise (fun a b=>Qx a b=true)
theorem Q34 {a b:Ev} (h:Qx a b=true):a.at_≤b.at_:=by rw[Qfi] at h;omega
theorem Qn2 {a b c:Ev} (h:Qx a b=true) (k:Qx b c=true):Qx a c=true:=by
 cases hc:Qx a c with
 | true=>rfl
 | false =>
   have h1:=Qad.asymm _ _ h;have:=Qad.trans c a b hc h1;rw[k] at this;cases this
theorem Q47 {l:List Ev} {e:Ev} (h:Rise l) (hl:l = []∨Qx (Qek l) e=true):Rise (l ++ [e]):=by
 unfold Rise at *;rw[List.pairwise_append];refine⟨h,by simp,fun a ha b hb => ?_⟩
 simp at hb;subst hb
 rcases hl with rfl | hl
 · simp at ha
 · rcases List.eq_nil_or_concat l with rfl | ⟨l',z,hz⟩
   · simp at ha
   · have hz':l=l' ++ [z]:=by simpa using hz
     subst hz';have hlz:Qek (l' ++ [z])=z:=by simp[Qek]
     rw[hlz] at hl;rcases List.mem_append.1 ha with ha | ha
     · exact Qn2 ((List.pairwise_append.1 h).2.2 a ha z (by simp)) hl
     · simp at ha;subst ha;exact hl
theorem Q46 {l:List Ev} {e:Ev} (h:Rise (l ++ [e])):l = []∨Qx (Qek l) e=true:=by
 rcases List.eq_nil_or_concat l with rfl | ⟨l',z,hz⟩
 · exact .inl rfl
 · have hz':l=l' ++ [z]:=by simpa using hz
   subst hz';have hlz:Qek (l' ++ [z])=z:=by simp[Qek]
   rw[hlz]
   exact .inr ((List.pairwise_append.1 h).2.2 z (by simp) e (by simp))
theorem Qjx:∀ (cs:List Ev),Rise cs→∀ name,(Qw cs name).Pairwise (fun a b=>a.at_≤b.at_)∧∀ s∈Qw cs name,∃ e∈cs,s.at_=e.at_∧e.item=name:=by
 refine Qu ?_ ?_
 · intro _ name;simp[Qw]
 · intro cs e ih h name
   have h1:Rise cs:=(List.pairwise_append.1 h).1;have h2:=(List.pairwise_append.1 h).2.2;rw[Qba];unfold Qfa Qkl
   by_cases hn:name=e.item
   · rw[if_pos hn]
     subst hn;obtain⟨p1,p2⟩:=ih h1 e.item;refine⟨List.pairwise_append.2 ⟨p1,by simp,fun a ha b hb => ?_⟩,fun s hs => ?_⟩
     · simp at hb;subst hb
       obtain⟨e',he',h3,_⟩:=p2 a ha;unfold Qe7;rw[Qgf,h3]
       exact Q34 (h2 e' he' e (by simp))
     · rcases List.mem_append.1 hs with hs | hs
       · obtain⟨e',he',h3,h4⟩:=p2 s hs
         exact⟨e',by simp[he'],h3,h4⟩
       · simp at hs;subst hs
         exact⟨e,by simp,Qgf _ _,rfl⟩
   · rw[if_neg hn]
     obtain⟨p1,p2⟩:=ih h1 name
     exact⟨p1,fun s hs=>by obtain⟨e',he',h3⟩:=p2 s hs;exact⟨e',by simp[he'],h3⟩⟩
def stN (row:List St) (t:Int):Nat:=(row.takeWhile (fun s=>decide (s.at_≤t))).length
def X6 (cs:List Ev) (name:ByteArray) (t:Int):It×Bool:=match (Qw cs name)[stN (Qw cs name) t-1]? with
 | some s=>if stN (Qw cs name) t=0 then(Qc6,false) else(s.item,true)
 | none=>(Qc6,false)
theorem Q1d {row:List St} {t:Int} (hp:row.Pairwise (fun a b=>a.at_≤b.at_)) {k:Nat} (hk:k≤row.length) (h1:k=0∨∃ s,row[k-1]? = some s∧s.at_≤t) (h2:k=row.length∨∃ s,row[k]? = some s∧t<s.at_):stN row t=k:=by
 unfold stN
 have hall:∀ s∈row.take k,decide (s.at_≤t)=true:=by
  intro s hs;obtain⟨i,hi,rfl⟩:=List.getElem_of_mem hs
  simp at hi
  simp only[List.getElem_take,decide_eq_true_eq];rcases h1 with rfl | ⟨s',hs',hle⟩
  · omega
  · have hlt:k-1<row.length:=(List.getElem?_eq_some_iff.1 hs').1
    rw[List.getElem?_eq_getElem hlt] at hs';have hs'':row[k-1]=s':=by simpa using hs'
    by_cases e:i=k-1
    · subst e;rw[hs''];exact hle
    · have:=List.pairwise_iff_getElem.1 hp i (k-1) (by omega) hlt (by omega)
      rw[hs''] at this;omega
 have hdr:(row.drop k).takeWhile (fun s=>decide (s.at_≤t)) = []:=by
  rcases h2 with rfl | ⟨s,hs,hlt⟩
  · simp
  · have hk2:k<row.length:=(List.getElem?_eq_some_iff.1 hs).1
    rw[List.drop_eq_getElem_cons hk2,List.takeWhile_cons];have:row[k]=s:=by rw[List.getElem?_eq_getElem hk2] at hs;simpa using hs
    rw[this,if_neg (by simp;omega)]
 conv=>lhs;rw[← List.take_append_drop k row]
 rw[List.takeWhile_append_of_pos hall,hdr]
 simp[hk]
theorem Qv5 (g:FuncId) (caps:List Value) (hcap:caps ≠ []) (n:Nat) (q:Nat→Bool) (w:World) (hn:n<1000000000000)
 (hf:∀ i,i<n→∀ w1,Ext w w1→Cal Tryz.prog g (.int .i64 (i:Nat) :: caps) w1 fun r w2=>r = .bool (q i)∧Ext w1 w2) :
 Cal Tryz.prog 127 [.int .i64 n,.func (.func g) #[] caps.toArray] w fun r w'=>∃ k:Nat,r = .int .i64 (k:Nat)∧k≤n∧(k=0∨q (k-1)=false)∧(k=n∨q k=true)∧Ext w w':=by
 obtain⟨c0,cr,rfl⟩:=List.exists_cons_of_ne_nil hcap;refine Fi Tryz.func127 rfl _ rfl rfl (Hh ?_)
 refine Qh Qa (fun(p:Nat×Nat) w'=>p.1≤p.2∧p.2≤n∧(p.1=0∨q (p.1-1)=false)∧(p.2=n∨q p.2=true)∧Ext w w')
  (fun | (i,j) => [(1,.func (.func g) #[] (c0 :: cr).toArray),(5,.int .i64 (i:Nat)),(6,.int .i64 (j:Nat))]) (fun p=>p.2-p.1) (0,n) ⟨by simp,by simp,.inl rfl,.inl rfl,Ext.refl _⟩ Rr ?_
 rintro ⟨i,j⟩ w1 ⟨hij,hjn,hi,hj,hx1⟩;simp only at hij hjn hi hj
 conv=>whnf
 constructor
 · intro hlt
   have hlt:i<j:=by simpa using hlt
   obtain⟨h,hh⟩:∃ h,h=(i+j)/2:=⟨_,rfl⟩
   conv=>whnf
   refine⟨((i+j:Nat):Int),Qaq (by omega),Hh ?_⟩;refine⟨((i+j:Nat):Int),Qos (by omega),Hh ?_⟩;refine⟨(h:Int),by rw[hh];exact Qja _,Hh ?_⟩;refine⟨(h:Int),Qor (by omega),Hh ?_⟩;refine(hf h (by omega) w1 hx1).mono ?_;rintro _ w2 ⟨rfl,hx2⟩;conv=>whnf
   constructor
   · intro hc
     have hc:q h=false:=by simpa using hc
     conv=>whnf
     refine⟨_,wrap_succ (by omega),Hh ?_⟩
     exact⟨(h+1,j),by simp only;omega,⟨by simp only;omega,hjn,.inr (by simpa using hc),hj,hx1.trans hx2⟩,Rr⟩
   · intro hc
     have hc:q h=true:=by simpa using hc
     conv=>whnf
     exact⟨(i,h),by simp only;omega,⟨by simp only;omega,by simp only;omega,hi,.inr hc,hx1.trans hx2⟩,Rr⟩
 · intro hge
   have hge:j≤i:=by simpa using hge
   obtain rfl:i=j:=by omega
   conv=>whnf
   exact⟨i,rfl,hjn,hi,hj,hx1⟩
def Xcf (cs:List Ev) (bm:Nat):List Value := .bool (!cs.isEmpty) :: (evC (Qek cs) ++ [.map (some bm)])
structure Xei (w:World) (S:Nat→Prop) (p:Nat) (cs:List Ev) (bm:Nat) (L:List (ByteArray×(Option Addr×Nat))):Prop where
 mine:S p
 rise:Rise cs
 head:At w p 202 (Xcf cs bm)
 rows:Qa0 stC 9 249 w (fun k=>S k∧k≠p) bm (Qw cs) L
def Qg0 (w:World) (S:Nat→Prop) (p:Nat) (cs:List Ev):Prop:=∃ bm L,Xei w S p cs bm L
theorem Qg0.keep {w w1:World} {S S':Nat→Prop} {p:Nat} {cs:List Ev} (h:Qg0 w S p cs) (hk:∀ k,k<w.heap.size→S k→w1.heap[k]? = w.heap[k]? ∧ S' k):Qg0 w1 S' p cs:=by
 obtain⟨bm,L,h⟩:=h;refine⟨bm,L,(hk p h.head.lt h.mine).2,h.rise,(hk p h.head.lt h.mine).1.trans h.head,h.rows.keep fun k hk1 hk2 => ?_⟩;obtain⟨q1,q2⟩:=hk k hk1 hk2.1
 exact⟨q1,q2,hk2.2⟩
theorem Qg0.ext {w w1:World} {S:Nat→Prop} {p:Nat} {cs:List Ev} (h:Qg0 w S p cs) (hx:Ext w w1):Qg0 w1 S p cs:=h.keep fun k hk hs=>⟨hx.block k hk,hs⟩
theorem Qyr:Tryz.prog.underlying 200=some (.map 9 246):=by kernel_rfl
theorem Xc:Tryz.prog.underlying 9=some .string:=by kernel_rfl
theorem Quk (w:World):Cal Tryz.prog 57 [] w fun r w'=>∃ p,r = .pointer (some ⟨p,0,none⟩)∧Qg0 w' (fun k=>w.heap.size≤k) p []∧Ext w w':=by
 refine Fi Tryz.func57 rfl _ rfl rfl (Hh ?_);intro b1 w1 hn1;conv=>whnf
 intro b2 w2 hn2;conv=>whnf
 refine⟨b2,rfl,⟨b1,[],?_,List.Pairwise.nil,hn2.At,?_⟩,hn1.ext.trans hn2.ext⟩
 · rw[hn2.block];exact hn1.ext.size
 · have h1:=hn1.block
   have h2:=hn2.block;have h3:=hn1.size
   exact(Qa0.new (S:=fun k=>w.heap.size≤k∧k≠b2) hn1 ⟨by omega,by omega⟩).keep fun k hk hs=>⟨hn2.ext.block k hk,hs⟩
theorem Quj (row:List St) (A:Option Addr) (c b5 b8:Nat) (t:Int) (i:Nat) (hi:i<row.length) (w:World) (h5:At w b5 3 [.int .i64 t]) (h8:At w b8 246 [.slice A row.length c]) (hs:Sl stC 9 w A row) :
 Cal Tryz.prog 128 [.int .i64 (i:Nat),.pointer (some ⟨b8,0,none⟩),.pointer (some ⟨b5,0,none⟩)] w fun r w'=>r = .bool (decide (t<(row[i]).at_))∧Ext w w':=by
 refine Fi Tryz.func128 rfl _ rfl rfl (Hh ?_);refine Dr .same [0,1,2,3,4,5,6,7] [] (Hh ?_);obtain⟨a,rfl,hc⟩:=hs.get hi;refine⟨_,h8.one0,Hh ?_⟩;refine⟨a,Ix,Hh ?_⟩;refine⟨_,cells_at hc (k:=0) rfl,Hh ?_⟩;refine⟨_,h5.one0,Hh ?_⟩
 exact⟨rfl,(Ext.refl _).drew⟩
theorem Qgm (w:World) (S:Nat→Prop) (p:Nat) (cs:List Ev) (h:Qg0 w S p cs) (name:ByteArray) (t:Int) (hl:(Qw cs name).length<1000000000000) :
 Cal Tryz.prog 78 [.pointer (some ⟨p,0,none⟩),.string name,.int .i64 t] w fun r w'=>r = .tuple #[.agg (itC (X6 cs name t).1).toArray,.bool (X6 cs name t).2]∧Ext w w':=by
 obtain⟨bm,L,h⟩:=h;have hrise:=(Qjx cs h.rise name).1;refine Fi Tryz.func78 rfl _ rfl rfl (Hh ?_);intro b1 w1 hn1;conv=>whnf
 intro b2 w2 hn2;have hx2:=hn1.ext.trans hn2.ext;have hp:=h.head.ext hx2;have hr:=h.rows.keep (w1:=w2) (S':=fun k=>S k∧k≠p) fun k hk hs=>⟨hx2.block k hk,hs⟩
 conv=>whnf
 refine⟨.map (some bm),hp.one rfl,Hh ?_⟩;refine⟨_,hr.look Qyr Xc (e:=ty246) ty246_ok rfl name Qm,Hh ?_⟩;have hown:=(hr.own name).1;generalize hrow:Qw cs name=row at *;generalize (rowAt L name).1=A at *;generalize (rowAt L name).2=c at *;intro b3 w3 hn3;conv=>whnf
 refine Qd Qa (e:=ty246) rfl hn3.At rfl rfl rfl (by simp[Qg,Value.oneCell']) fun w4 h4 ho4 => ?_
 have hb2:b2<w3.heap.size:=by have:=hn2.At.lt;have:=hn3.ext.size;omega
 have hne23:b2≠b3:=by have:=hn2.At.lt;rw[hn3.block];omega
 have hb1:b1<w2.heap.size:=by have:=hn1.At.lt;have:=hn2.ext.size;omega
 have hne13:b1≠b3:=by rw[hn3.block];omega
 have hx4:Ext w2 w4:=ho4.ext hn3.ext (by rw[hn3.block];exact Nat.le_refl _);have h41:At w4 b1 3 [.int .i64 t]:=(hn1.At.ext hn2.ext).ext hx4;have h42:At w4 b2 167 (itC Qc6):=(hn2.At (t:=167) (l:=itC Qc6)).ext hx4;have h43:At w4 b3 246 [.slice A row.length c]:=h4;have hs4:Sl stC 9 w4 A row:=(hown.ext hx4).sl Qqt;clear h4
 conv=>whnf
 refine⟨_,h43.one0,Hh ?_⟩;refine(Qv5 128 [.pointer (some ⟨b3,0,none⟩),.pointer (some ⟨b1,0,none⟩)] (by simp) row.length (fun i=>decide (t<(row.getD i ⟨0,false,Qc6⟩).at_)) w4 hl ?_).mono ?_
 · intro i hi w5 hx5
   refine(Quj row A c b1 b3 t i hi w5 (h41.ext hx5) (h43.ext hx5) (hs4.ext hx5)).mono ?_;rintro r w6 ⟨rfl,hx6⟩
   exact⟨by rw[List.getD_eq_getElem?_getD,List.getElem?_eq_getElem hi];rfl,hx6⟩
 rintro _ w5 ⟨k,rfl,hkn,hk1,hk2,hx5⟩
 have hkk:stN row t=k:=by
  refine Q1d hrise hkn ?_ ?_
  · rcases hk1 with h0 | h0
    · exact .inl h0
    · by_cases hz:k=0
      · exact .inl hz
      · refine .inr ⟨row[k-1]'(by omega),List.getElem?_eq_getElem _,?_⟩
        rw[List.getD_eq_getElem?_getD,List.getElem?_eq_getElem (by omega)] at h0
        simp at h0;exact h0
  · rcases hk2 with h0 | h0
    · exact .inl h0
    · by_cases hz:k=row.length
      · exact .inl hz
      · refine .inr ⟨row[k]'(by omega),List.getElem?_eq_getElem _,?_⟩
        rw[List.getD_eq_getElem?_getD,List.getElem?_eq_getElem (by omega)] at h0
        simp at h0;exact h0
 have hcat:X6 cs name t=match row[k-1]? with | some s=>if k=0 then(Qc6,false) else(s.item,true) | none=>(Qc6,false):=by
  unfold X6;rw[hrow,hkk]
 conv=>whnf
 constructor
 · intro h0
   have h0:k=0:=by simp at h0;omega
   have hcat0:X6 cs name t=(Qc6,false):=by
    rw[hcat];cases row[k-1]? <;> simp[h0]
   conv=>whnf
   refine Qd Qa (e:=ty167) rfl (h42.ext hx5) rfl rfl rfl (by simp[Qg,Value.oneCell']) fun w6 h6 ho6 => ?_
   conv=>whnf
   refine⟨itC Qc6,⟨rfl,h6.all⟩,Hh ?_⟩;refine⟨by rw[hcat0],ho6.ext (hx2.trans (hx4.trans hx5)) ?_⟩;rw[hn2.block];exact hn1.ext.size
 · intro h0
   have h0:0<k:=by simp at h0;omega
   have hlt:k-1<row.length:=by omega
   have hcat1:X6 cs name t=((row[k-1]).item,true):=by
    rw[hcat,List.getElem?_eq_getElem hlt];simp;omega
   obtain⟨a,hA,hc⟩:=(hs4.ext hx5).get hlt;subst hA
   conv=>whnf
   refine⟨_,(h43.ext hx5).one0,Hh ?_⟩;refine⟨((k-1:Nat):Int),wrap_eq (by omega) ⟨by omega,by omega⟩,Hh ?_⟩;refine⟨a,Ix,Hh ?_⟩;refine⟨itC (row[k-1]).item,⟨rfl,?_⟩,?_⟩
   · intro j v hj
     rw[Xe]
     have:=hc (2+j) v (by
      show (stC row[k-1])[2+j]? = some v
      rw[← hj,Nat.add_comm];rfl)
     exact this
   conv=>whnf
   refine Qd Qa (e:=ty167) rfl (h42.ext hx5) rfl rfl rfl (by simp[Qg,itC,Value.oneCell']) fun w6 h6 ho6 => ?_
   conv=>whnf
   refine⟨itC (row[k-1]).item,⟨rfl,h6.all⟩,Hh ?_⟩;refine⟨by rw[hcat1],ho6.ext (hx2.trans (hx4.trans hx5)) ?_⟩;rw[hn2.block];exact hn1.ext.size
theorem Qxb {a b:Int}:Qd0 a b=1↔b<a:=by unfold Qd0;split <;> (try split) <;> omega
theorem Q7b {a b:ByteArray}:Qd7 a b=1↔bLt b a=true:=by
 unfold Qd7
 split
 · rename_i h;rw[Qcv h];simp
 · split
   · rename_i h;simp[h]
   · rename_i h;simp[h]
theorem Qo1 {a b:Ev} (h:Qx b a=true):Qfz a b=1:=by
 rw[Qfi] at h;unfold Qfz;rcases h with h | ⟨h1,h | ⟨h2,h3⟩⟩
 · have:Qd0 a.at_ b.at_=1:=Qxb.2 h
   rw[this];simp
 · have e1:Qd0 a.at_ b.at_=0:=Qdq.2 h1.symm
   have e2:Qd7 a.src b.src=1:=Q7b.2 h;rw[e1,e2];simp
 · have e1:Qd0 a.at_ b.at_=0:=Qdq.2 h1.symm
   have e2:Qd7 a.src b.src=0:=Qds.2 h2.symm;have e3:Qd0 a.num b.num=1:=Qxb.2 h3;rw[e1,e2,e3];simp
theorem At.sub {w:World} {b t:Nat} {pre cs post:List Value} (h:At w b t (pre++(cs++post))):Xo w ((⟨b,0,none⟩:Addr).add pre.length) cs:=fun j v hj=>by
 have hlt:j<cs.length:=(List.getElem?_eq_some_iff.1 hj).1;rw[Xe,Qz,h.cell,List.getElem?_append_right (by omega),show pre.length+j-pre.length=j by omega,List.getElem?_append_left hlt,hj]
theorem Qse (cs:List Ev) (e:Ev):Qek (cs ++ [e])=e:=by simp[Qek]
theorem Qzo (cs:List Ev) (e:Ev):(cs ++ [e]).isEmpty=false:=by cases cs <;> rfl
theorem Xdh:Tryz.prog.underlying 246=some (.slice 249):=by kernel_rfl
set_option maxHeartbeats 2000000 in
theorem Qoz (w:World) (S:Nat→Prop) (p:Nat) (cs:List Ev) (h:Qg0 w S p cs) (hg:Gl w) (hS:∀ k,S k→10≤k) (e:Ev) (hm:Xn e=true) (hk:e.kind=11∨e.kind=12∨e.kind=13) (ht:e.text.size<1000000) (hl:cs = []∨Qx (Qek cs) e=true) (hlen:(Qw cs e.item).length<1000000) :
 Cal Tryz.prog 98 [.pointer (some ⟨p,0,none⟩),evV e] w fun r w'=>r = .bool true∧Qg0 w' (Grow S w) p (cs ++ [e])∧Mod S w w':=by
 obtain⟨bm,L,h⟩:=h;have hplt:=h.head.lt;refine Fi Tryz.func98 rfl _ rfl rfl (Hh ?_);intro b1 w1 hn1;have hb1:=hn1.At;have hb1p:b1≠p:=by rw[hn1.block];omega
 have hb1l:w.heap.size≤b1:=by rw[hn1.block];exact Nat.le_refl _
 conv=>whnf
 refine⟨evC e,⟨rfl,hb1.all⟩,Hh ?_⟩;refine(Qkv e w1 (hg.ext hn1.ext) (by omega)).mono ?_;rintro _ w2 ⟨rfl,hx2⟩;have hb2:=hb1.ext hx2;have hxx2:=hn1.ext.trans hx2
 conv=>whnf
 refine⟨_,fun _=>hb2.one rfl,Hh ?_⟩;refine⟨_,fun _ _=>hb2.one rfl,Hh ?_⟩;refine⟨_,fun _ _=>hb2.one rfl,Hh ?_⟩
 have hcond:((!Xn e)||(((!decide (e.kind=11))&&(!decide (e.kind=12)))&&(!decide (e.kind=13))))=false:=by
  rw[hm];rcases hk with hk | hk | hk <;> simp[hk]
 constructor
 · intro hc
   have hc:=hcond.symm.trans hc
   cases hc
 intro _;clear hcond
 conv=>whnf
 refine Dr .same [0,1,2,3,4,5,6,7,8,9] [10,11,12] (Hh ?_);have hb3:At w2.drew b1 _ _:=hb2;have hx3:Ext w w2.drew:=hxx2.drew;generalize w2.drew=w3 at hb3 hx3 ⊢;have hp3:=h.head.ext hx3;refine⟨_,hp3.one0,Hh ?_⟩;refine⟨evC e,fun _=>⟨rfl,hb3.all⟩,Hh ?_⟩;refine⟨evC (Qek cs),fun _=>⟨rfl,At.sub (pre := [.bool (!cs.isEmpty)]) hp3⟩,Hh ?_⟩;refine⟨Unit,fun _ => .int .i64 (Qfz e (Qek cs)),fun _ w'=>Ext w3 w',(),fun _=>(Qbb e (Qek cs) w3).mono (fun r w' h=>⟨(),h.1,h.2⟩),fun _ w4 h4 => ?_⟩
 have hx34:Ext w3 w4:=by
  rcases h4 with⟨_,h⟩ | ⟨_,h⟩
  · exact h
  · rw[h];exact Ext.refl _
 clear h4
 have hcond:((!cs.isEmpty)&&(!decide (Qfz e (Qek cs)=1)))=false:=by
  rcases hl with rfl | hl
  · rfl
  · rw[Qo1 hl];simp
 conv=>whnf
 constructor
 · intro hc
   have hc:=hcond.symm.trans hc
   cases hc
 intro _;clear hcond;have hx4:=hx3.trans hx34;have hb4:=hb3.ext hx34;have hp4:=h.head.ext hx4
 conv=>whnf
 refine Qcy (.mods (fun k=>k=p)) [(0,true),(1,false),(2,false),(3,true),(4,true)] [5,6,7] [8] [5,8] Qa mixed (by kernel_rfl) (by first | (intro h;cases h;done) | (intro _;rfl)) (Hh ?_);replace hb4:At w4.drew b1 _ _:=hb4;replace hp4:At w4.drew p _ _:=hp4;replace hx4:Ext w w4.drew:=hx4.drew;generalize w4.drew=w5 at hb4 hp4 hx4 ⊢;refine⟨evC e,⟨rfl,hb4.all,hb1p⟩,Hh ?_⟩;refine Qd Qa (e:=ty4) rfl hp4 rfl rfl rfl (by simp[Qg,Value.oneCell']) fun w6 h6 ho6 => ?_
 refine⟨Qi ho6 rfl,Hh ?_⟩;refine Qd Qa (e:=ty38) rfl h6 rfl rfl rfl (Qbo e) fun w7 h7 ho7 => ?_
 have hp7:At w7 p 202 (Xcf (cs ++ [e]) bm):=by
  unfold Xcf;rw[Qse,Qzo];exact h7
 have hb7:=ho7.at_ (ho6.at_ hb4 hb1p) hb1p;have hm7:Mod S w w7:=(Mod.of_ext hx4).trans ((Qi ho6 h.mine).trans (Qi ho7 h.mine))
 have hrows:Qa0 stC 9 249 w7 (fun k=>S k∧k≠p) bm (Qw cs) L:=h.rows.keep fun k hk1 hk2=>by
  refine⟨?_,hk2⟩;rw[ho7.block k hk2.2,ho6.block k hk2.2,hx4.block k hk1]
 clear h7 ho7 h6 ho6 hp4 hb4 hx4 hx34 hx3 hb3 hp3 hb2 hxx2 hx2
 conv=>whnf
 refine Dr .same [0,1,2,3,4,5,6,7] [] (Hh ?_);replace hp7:At w7.drew p _ _:=hp7;replace hb7:At w7.drew b1 _ _:=hb7;replace hm7:Mod S w w7.drew:=hm7.trans (Mod.drew _);replace hrows:Qa0 stC 9 249 w7.drew (fun k=>S k∧k≠p) bm (Qw cs) L:=hrows.keep fun k _ hk2=>⟨rfl,hk2⟩
 generalize w7.drew=w8 at hp7 hb7 hm7 hrows ⊢;refine⟨.map (some bm),hp7.one rfl,Hh ?_⟩;refine⟨_,hb7.one rfl,Hh ?_⟩;refine⟨_,hrows.look Qyr Xc (e:=ty246) ty246_ok rfl e.item Qm,Hh ?_⟩;refine⟨_,hb7.one rfl,Hh ?_⟩;intro b6 w9 hn9;conv=>whnf
 refine Qd Qa (e:=ty249) rfl hn9.At rfl rfl rfl (Qwl (Qio e.item)) fun w10 h10 ho10 => ?_
 have hb6:w8.heap.size=b6:=hn9.block.symm;have hs8:=hm7.size;have h10':At w10 b6 249 (stC (Qio e.item)):=h10;have hx10:Ext w8 w10:=ho10.ext hn9.ext (by omega);clear h10;have hrl:=hrows.own e.item;generalize hrow:Qw cs e.item=row at *;generalize hA:(rowAt L e.item).1=A at *;generalize hC:(rowAt L e.item).2=c at *
 conv=>whnf
 -- the last state
 refine Xh Qa (ι:=Unit) (fun _ => [(0,.pointer (some ⟨p,0,none⟩)),(3,.pointer (some ⟨b1,0,none⟩)),(5,.slice A row.length c),(6,.pointer (some ⟨b6,0,none⟩))])
  (fun _ w'=>Ext w8 w'∧At w' b6 249 (stC (row.getLast?.getD (Qio e.item)))) ?_ ?_
 · (conv=>whnf)
   constructor
   · intro hpos
     have hpos:0<row.length:=by simp at hpos;omega
     obtain⟨a,hA',hc⟩:=((hrl.1.ext hx10).sl Qqt).get (k:=row.length-1) (by omega);subst hA'
     have hlast:row.getLast?.getD (Qio e.item)=row[row.length-1]:=by
      rw[List.getLast?_eq_getElem?,List.getElem?_eq_getElem (by omega)];rfl
     conv=>whnf
     refine⟨((row.length-1:Nat):Int),wrap_eq (by omega) ⟨by omega,by omega⟩,Hh ?_⟩;refine⟨a,Ix,Hh ?_⟩;refine⟨stC row[row.length-1],⟨rfl,hc⟩,Hh ?_⟩;refine Qd Qa (e:=ty249) rfl h10' rfl rfl rfl (Qwl _) fun w11 h11 ho11 => ?_
     conv=>whnf
     refine⟨(),⟨ho11.ext hx10 (by omega),?_⟩,Rr⟩;rw[hlast];exact h11
   · intro hpos
     have hpos:row = []:=by
      rw[← List.length_eq_zero_iff];simp at hpos;simpa using hpos
     conv=>whnf
     refine⟨(),⟨hx10,?_⟩,Rr⟩;rw[hpos];exact h10'
 rintro _ w11 ⟨hx11,h11⟩;generalize hs0:row.getLast?.getD (Qio e.item)=s0 at *;clear h10' ho10 hx10 hn9 hn1;have hb11:=hb7.ext hx11
 conv=>whnf
 refine⟨_,hb11.one rfl,Hh ?_⟩;refine Qd Qa (e:=ty3) rfl h11 rfl rfl rfl (by simp[Qg,Value.oneCell']) fun w12 h12 ho12 => ?_
 have hx12:=ho12.ext hx11 (by omega);have hb12:=hb7.ext hx12;have hne:b1≠b6:=by have:=hb7.lt;omega
 have h12':At w12 b6 249 (stC { s0 with at_:=e.at_ }):=h12;clear h12 h11 ho12
 conv=>whnf
 refine Xh Qa (ι:=Unit) (fun _ => [(0,.pointer (some ⟨p,0,none⟩)),(3,.pointer (some ⟨b1,0,none⟩)),(5,.slice A row.length c),(6,.pointer (some ⟨b6,0,none⟩))])
  (fun _ w'=>Ext w8 w'∧At w' b6 249 (stC (Qb9 s0 e))) ?_ ?_
 · (conv=>whnf)
   refine⟨_,hb12.one rfl,Hh ?_⟩;refine⟨fun k1 => ?_,fun k1 => ?_⟩
   · have k1:e.kind=11:=by simpa using k1
     conv=>whnf
     refine Qd Qa (e:=ty4) rfl h12' rfl rfl rfl (by simp[Qg,Value.oneCell']) fun w13 h13 ho13 => ?_
     have hx13:=ho13.ext hx12 (by omega);have hb13:=hb7.ext hx13
     conv=>whnf
     refine⟨_,hb13.one rfl,Hh ?_⟩;refine(Qkr e.text w13 (((hg.mod hm7 hS)).ext hx13) (by omega)).mono ?_;rintro _ w14 ⟨rfl,hx14'⟩;have hx14:=hx13.trans hx14';have h14:=h13.ext hx14'
     conv=>whnf
     refine Qd Qa (e:=ty9) rfl h14 rfl rfl rfl (by simp[Qg,Value.oneCell']) fun w15 h15 ho15 => ?_
     have hx15:=ho15.ext hx14 (by omega)
     conv=>whnf
     refine Qd Qa (e:=ty9) rfl h15 rfl rfl rfl (by simp[Qg,Value.oneCell']) fun w16 h16 ho16 => ?_
     have hx16:=ho16.ext hx15 (by omega);have hb16:=hb7.ext hx16
     conv=>whnf
     refine⟨_,hb16.one rfl,Hh ?_⟩;refine Qd Qa (e:=ty3) rfl h16 rfl rfl rfl (by simp[Qg,Value.oneCell']) fun w17 h17 ho17 => ?_
     have hx17:=ho17.ext hx16 (by omega);have hb17:=hb7.ext hx17;have h17':At w17 b6 249 (stC ⟨e.at_,s0.born,{ s0.item with listed:=true,maker:=Qb3 e.text,tags:=Qau e.text,price:=e.val }⟩):=h17;clear h17 h16 h15 h14 h13
     conv=>whnf
     refine⟨.bool s0.born,h17'.one rfl,Hh ?_⟩;constructor
     · intro hb
       have hb:s0.born=false:=by simpa using hb
       conv=>whnf
       refine Qcy (.mods (fun k=>k=b6)) [(0,false),(1,false),(2,true)] [3,4,5] [6] [3,6] Qa mixed (by kernel_rfl) (by first | (intro h;cases h;done) | (intro _;rfl)) (Hh ?_);refine⟨_,⟨hb17.one rfl,by rw[add_block];exact hne⟩,Hh ?_⟩;refine Qd Qa (e:=ty4) (w:=w17.drew) rfl h17' rfl rfl rfl (by simp[Qg,Value.oneCell']) fun w18 h18 ho18 => ?_
       refine⟨Qi ho18 rfl,Hh ?_⟩;refine Qd Qa (e:=ty3) rfl h18 rfl rfl rfl (by simp[Qg,Value.oneCell']) fun w19 h19 ho19 => ?_
       conv=>whnf
       refine⟨(),⟨ho19.ext (ho18.ext hx17.drew (by omega)) (by omega),?_⟩,Rr⟩;unfold Qb9;rw[if_pos k1,hb];exact h19
     · intro hb
       have hb:s0.born=true:=by simpa using hb
       conv=>whnf
       refine⟨(),⟨hx17,?_⟩,Rr⟩;unfold Qb9;rw[if_pos k1,hb];rw[hb] at h17';exact h17'
   have k1:¬ e.kind=11:=by simpa using k1
   conv=>whnf
   refine⟨fun k2 => ?_,fun k2 => ?_⟩
   · have k2:e.kind=12:=by simpa using k2
     conv=>whnf
     refine⟨_,hb12.one rfl,Hh ?_⟩;refine Qd Qa (e:=ty3) rfl h12' rfl rfl rfl (by simp[Qg,Value.oneCell']) fun w13 h13 ho13 => ?_
     conv=>whnf
     refine⟨(),⟨ho13.ext hx12 (by omega),?_⟩,Rr⟩;unfold Qb9;rw[if_neg k1,if_pos k2];exact h13
   have k2:¬ e.kind=12:=by simpa using k2
   conv=>whnf
   refine⟨fun k3 => ?_,fun k3 => ?_⟩
   · (conv=>whnf)
     refine Qd Qa (e:=ty4) rfl h12' rfl rfl rfl (by simp[Qg,Value.oneCell']) fun w13 h13 ho13 => ?_
     conv=>whnf
     refine⟨(),⟨ho13.ext hx12 (by omega),?_⟩,Rr⟩;unfold Qb9;rw[if_neg k1,if_neg k2];exact h13
   · have k3:¬ e.kind=13:=by simpa using k3
     omega
 rintro _ w13 ⟨hx13,h13⟩;have hb13:=hb7.ext hx13;have hp13:=hp7.ext hx13;have hr13:=hrows.keep (w1:=w13) (S':=fun k=>S k∧k≠p) fun k hk1 hk2=>⟨hx13.block k hk1,hk2⟩
 have hm13:Mod S w w13:=hm7.trans (Mod.of_ext hx13);clear h12' hx12 hb12 hx11 hb11
 conv=>whnf
 refine Dr (.mods (fun k=>∃ a,A=some a∧k=a.block)) [0,1,2,3,4,5,6,7,8,9] [10] (Hh ?_);replace hb13:At w13.drew b1 _ _:=hb13;replace hp13:At w13.drew p _ _:=hp13;replace h13:At w13.drew b6 _ _:=h13;replace hr13:Qa0 stC 9 249 w13.drew (fun k=>S k∧k≠p) bm (Qw cs) L:=hr13.keep fun k _ hk2=>⟨rfl,hk2⟩
 replace hm13:Mod S w w13.drew:=hm13.trans (Mod.drew _);have hb6l:w8.heap.size≤w13.drew.heap.size:=hx13.drew.size;generalize w13.drew=w14 at hb13 hp13 h13 hr13 hm13 hb6l ⊢;have hAblk:∀ a,A=some a→(S a.block∧a.block≠p)∧a.block≠bm∧a.block<w8.heap.size:=fun a ha=>⟨(hrl.2 a ha).1,(hrl.2 a ha).2,(hrl.1.block ha).2⟩
 have hb1lt:=hb7.lt
 have hnb:∀ k,k=p∨k=b6∨k=b1→¬ ∃ a,A=some a∧k=a.block:=by
  rintro k hk' ⟨a,ha,rfl⟩;obtain⟨⟨q1,q2⟩,q3,q4⟩:=hAblk a ha
  have hold:w.heap.size≤a.block→False:=by
   intro hge
   -- rows lie below the old heap's end
   have:=(h.rows.own e.item);rw[hA] at this;have:=(this.1.block ha).2;omega
  rcases hk' with h' | h' | h'
  · exact q2 h'
  · omega
  · exact hold (by omega)
 refine⟨.map (some bm),⟨hp13.one rfl,by rw[add_block];exact hnb p (.inl rfl)⟩,Hh ?_⟩;refine⟨_,⟨hb13.one rfl,by rw[add_block];exact hnb b1 (.inr (.inr rfl))⟩,Hh ?_⟩;refine⟨stC (Qb9 s0 e),⟨rfl,h13.all,hnb b6 (.inr (.inl rfl))⟩,Hh ?_⟩;intro b15 w15 hn15;refine⟨Mod.of_ext hn15.ext,Hh ?_⟩
 have hown15:Own stC 9 249 0 w15 A c row:=by
  have:=(hr13.own e.item).1;rw[hA,hC,hrow] at this
  exact this.ext hn15.ext
 refine Qdk (news := [Qb9 s0 e]) ty249_ok Xdh by249 rfl rfl (by decide) Qqt Qwl hown15 (Qbd Qqt hn15) (by simp;omega) (by simp;omega) (Nat.zero_le _) ?_;intro A' c' w16 hown16 hg16 hA16;refine⟨Qac hg16 fun k hk' => ?_,?_⟩
 · cases A with
   | none=>simp at hk'
   | some a=>exact⟨a,rfl,by simpa using hk'.symm⟩
 conv=>whnf
 have hbm16:MapAt w16 bm Value.string (toV (Qw cs) L):=by
  refine(hr13.map.ext hn15.ext).keep (hg16.block bm (hr13.map.ext hn15.ext).lt ?_);intro e'
  cases A with
  | none=>simp at e'
  | some a=>exact(hAblk a rfl).2.1 (by simpa using e'.symm)
 refine Qq Qyr (Qo Xc) hbm16 e.item _ fun w17 hm17 ho17 => ?_
 conv=>whnf
 have hbmp:bm≠p:=hr13.mine.2
 have hp17:At w17 p 202 (Xcf (cs ++ [e]) bm):=by
  have h1:=hp13.ext hn15.ext
  have h2:At w16 p 202 (Xcf (cs ++ [e]) bm):=(hg16.block p h1.lt (fun e'=>by
   cases A with
   | none=>simp at e'
   | some a=>exact(hAblk a rfl).1.2 (by simpa using e'.symm))).trans h1
  exact ho17.at_ h2 (Ne.symm hbmp)
 have hpush:=hr13.push (k:=e.item) (r:=row ++ [Qb9 s0 e]) (by simp) hn15.ext (by rw[hA];exact hg16) (by rw[hA];exact hA16) hown16 hm17 ho17;have hplt14:p<w14.heap.size:=hp13.lt;refine⟨rfl,⟨bm,Q7 L e.item (A',c'),.inl h.mine,Q47 h.rise hl,hp17,?_⟩,?_⟩
 · rw[Qba]
   unfold Qfa;rw[hrow];have:Qe7 row e=Qb9 s0 e:=by unfold Qe7;rw[hs0]
   rw[this];refine hpush.keep fun k _ hk2=>⟨rfl,?_⟩
   rcases hk2 with hk2 | hk2
   · exact⟨.inl hk2.1,hk2.2⟩
   · exact⟨.inr (by have:=hm13.size;omega),by omega⟩
 · refine Qp hm13 ((Mod.of_ext hn15.ext).trans ((Qac hg16 fun k hk' => ?_).trans (Qi ho17 (.inl h.rows.mine.1))))
   cases A with
   | none=>simp at hk'
   | some a =>
     have:k=a.block:=by simpa using hk'.symm
     rw[this];exact .inl (hAblk a rfl).1.1
section
variable {κ:Type} [DecidableEq κ] {β:Type}
def Xm (f:β→Value) (L:List (κ×β)):List (κ×Value):=L.map fun x=>(x.1,f x.2)
theorem Qi2 (f:β→Value) (k:κ):∀ L:List (κ×β),Qe (Xm f L) k=(Qe L k).map f
 | []=>rfl
 | x :: L=>by
   simp only[Xm,List.map_cons,Qe]
   by_cases e:k=x.1
   · rw[if_pos e,if_pos e];rfl
   · rw[if_neg e,if_neg e];exact Qi2 f k L
theorem Q9 (f:β→Value) (k:κ) (v:β):∀ L:List (κ×β),Q7 (Xm f L) k (f v)=Xm f (Q7 L k v)
 | []=>rfl
 | x :: L=>by
   simp only[Xm,List.map_cons,Q7]
   by_cases e:k=x.1
   · rw[if_pos e,if_pos e];rfl
   · rw[if_neg e,if_neg e,List.map_cons]
     congr 1
     exact Q9 f k v L
theorem Xq (f:β→Value) (k:κ) (L:List (κ×β)) (d:β):(Qe (Xm f L) k).getD (f d)=f ((Qe L k).getD d):=by
 rw[Qi2];cases Qe L k <;> rfl
end
abbrev LK:=ByteArray×ByteArray
def Qje (k:LK):List Value := [.string k.1,.string k.2]
def lnk (k:LK):Value := .agg (Qje k).toArray
theorem Qay:Qnc Tryz.prog 313 lnk :=
 Qew (encl:=Qje) Qa st313 (fun k=>rfl)
  (fun a b=>by
   show some (decide (a.1=b.1)&&(decide (a.2=b.2)&&true))=some (decide (a=b))
   rw[Bool.and_true]
   congr 1
   by_cases h1:a.1=b.1 <;> by_cases h2:a.2=b.2 <;> simp[Prod.ext_iff,h1,h2])
  (fun k=>by simp[Instr.sameBits,Qje,Go.MapKept.bytes_beq])
structure Cw where
 done:List (LK×Bool)
 shown:List (LK×Int)
 hidden:List (LK×Bool)
 follows:List (LK×Bool)
 mutes:List (LK×Bool)
 liked:List (LK×Bool)
 fans:List (ByteArray×Int)
structure CwB where
 done:Nat
 shown:Nat
 hidden:Nat
 follows:Nat
 mutes:Nat
 liked:Nat
 fans:Nat
def CwB.all (b:CwB):List Nat := [b.done,b.shown,b.hidden,b.follows,b.mutes,b.liked,b.fans]
abbrev vi:Int→Value:=Value.int .i64
structure Qdo (w:World) (b:CwB) (c:Cw):Prop where
 done:MapAt w b.done lnk (Xm Value.bool c.done)
 shown:MapAt w b.shown lnk (Xm vi c.shown)
 hidden:MapAt w b.hidden lnk (Xm Value.bool c.hidden)
 follows:MapAt w b.follows lnk (Xm Value.bool c.follows)
 mutes:MapAt w b.mutes lnk (Xm Value.bool c.mutes)
 liked:MapAt w b.liked lnk (Xm Value.bool c.liked)
 fans:MapAt w b.fans Value.string (Xm vi c.fans)
theorem Qdo.keep {w w':World} {b:CwB} {c:Cw} (h:Qdo w b c) (hk:∀ k∈b.all,w'.heap[k]? = w.heap[k]?):Qdo w' b c :=
 ⟨h.done.keep (hk _ (by simp[CwB.all])),h.shown.keep (hk _ (by simp[CwB.all])),h.hidden.keep (hk _ (by simp[CwB.all])),h.follows.keep (hk _ (by simp[CwB.all])),
  h.mutes.keep (hk _ (by simp[CwB.all])),h.liked.keep (hk _ (by simp[CwB.all])),h.fans.keep (hk _ (by simp[CwB.all]))⟩
theorem Qdo.lt {w:World} {b:CwB} {c:Cw} (h:Qdo w b c):∀ k∈b.all,k<w.heap.size:=by
 intro k hk;simp only[CwB.all,List.mem_cons,List.not_mem_nil,or_false] at hk;rcases hk with rfl | rfl | rfl | rfl | rfl | rfl | rfl
 · exact h.done.lt
 · exact h.shown.lt
 · exact h.hidden.lt
 · exact h.follows.lt
 · exact h.mutes.lt
 · exact h.liked.lt
 · exact h.fans.lt
theorem Qdo.ext {w w':World} {b:CwB} {c:Cw} (h:Qdo w b c) (hx:Ext w w'):Qdo w' b c:=h.keep fun k hk=>hx.block k (h.lt k hk)
theorem Xl {b:CwB} (h:b.all.Nodup) {i j x y:Nat} (hi:b.all[i]? = some x) (hj:b.all[j]? = some y) (hij:i≠j):x≠y:=by
 rintro rfl;have hi':i<b.all.length:=(List.getElem?_eq_some_iff.1 hi).1
 exact hij ((List.getElem?_inj hi' h).1 (hi.trans hj.symm))
theorem Qdo.upd_done {w w':World} {b:CwB} {c:Cw} (h:Qdo w b c) (hnd:b.all.Nodup) (ho:Only w w' b.done) {d:List (LK×Bool)} (hm:MapAt w' b.done lnk (Xm Value.bool d)):Qdo w' b { c with done:=d } :=
 ⟨hm,h.shown.only ho (Xl hnd (i:=1) (j:=0) rfl rfl (by decide)),h.hidden.only ho (Xl hnd (i:=2) (j:=0) rfl rfl (by decide)),h.follows.only ho (Xl hnd (i:=3) (j:=0) rfl rfl (by decide)),h.mutes.only ho (Xl hnd (i:=4) (j:=0) rfl rfl (by decide)),h.liked.only ho (Xl hnd (i:=5) (j:=0) rfl rfl (by decide)),h.fans.only ho (Xl hnd (i:=6) (j:=0) rfl rfl (by decide))⟩
theorem Qdo.upd_shown {w w':World} {b:CwB} {c:Cw} (h:Qdo w b c) (hnd:b.all.Nodup) (ho:Only w w' b.shown) {d:List (LK×Int)} (hm:MapAt w' b.shown lnk (Xm vi d)):Qdo w' b { c with shown:=d } :=
 ⟨h.done.only ho (Xl hnd (i:=0) (j:=1) rfl rfl (by decide)),hm,h.hidden.only ho (Xl hnd (i:=2) (j:=1) rfl rfl (by decide)),h.follows.only ho (Xl hnd (i:=3) (j:=1) rfl rfl (by decide)),h.mutes.only ho (Xl hnd (i:=4) (j:=1) rfl rfl (by decide)),h.liked.only ho (Xl hnd (i:=5) (j:=1) rfl rfl (by decide)),h.fans.only ho (Xl hnd (i:=6) (j:=1) rfl rfl (by decide))⟩
theorem Qdo.upd_hidden {w w':World} {b:CwB} {c:Cw} (h:Qdo w b c) (hnd:b.all.Nodup) (ho:Only w w' b.hidden) {d:List (LK×Bool)} (hm:MapAt w' b.hidden lnk (Xm Value.bool d)):Qdo w' b { c with hidden:=d } :=
 ⟨h.done.only ho (Xl hnd (i:=0) (j:=2) rfl rfl (by decide)),h.shown.only ho (Xl hnd (i:=1) (j:=2) rfl rfl (by decide)),hm,h.follows.only ho (Xl hnd (i:=3) (j:=2) rfl rfl (by decide)),h.mutes.only ho (Xl hnd (i:=4) (j:=2) rfl rfl (by decide)),h.liked.only ho (Xl hnd (i:=5) (j:=2) rfl rfl (by decide)),h.fans.only ho (Xl hnd (i:=6) (j:=2) rfl rfl (by decide))⟩
theorem Qdo.upd_follows {w w':World} {b:CwB} {c:Cw} (h:Qdo w b c) (hnd:b.all.Nodup) (ho:Only w w' b.follows) {d:List (LK×Bool)} (hm:MapAt w' b.follows lnk (Xm Value.bool d)):Qdo w' b { c with follows:=d } :=
 ⟨h.done.only ho (Xl hnd (i:=0) (j:=3) rfl rfl (by decide)),h.shown.only ho (Xl hnd (i:=1) (j:=3) rfl rfl (by decide)),h.hidden.only ho (Xl hnd (i:=2) (j:=3) rfl rfl (by decide)),hm,h.mutes.only ho (Xl hnd (i:=4) (j:=3) rfl rfl (by decide)),h.liked.only ho (Xl hnd (i:=5) (j:=3) rfl rfl (by decide)),h.fans.only ho (Xl hnd (i:=6) (j:=3) rfl rfl (by decide))⟩
theorem Qdo.upd_mutes {w w':World} {b:CwB} {c:Cw} (h:Qdo w b c) (hnd:b.all.Nodup) (ho:Only w w' b.mutes) {d:List (LK×Bool)} (hm:MapAt w' b.mutes lnk (Xm Value.bool d)):Qdo w' b { c with mutes:=d } :=
 ⟨h.done.only ho (Xl hnd (i:=0) (j:=4) rfl rfl (by decide)),h.shown.only ho (Xl hnd (i:=1) (j:=4) rfl rfl (by decide)),h.hidden.only ho (Xl hnd (i:=2) (j:=4) rfl rfl (by decide)),h.follows.only ho (Xl hnd (i:=3) (j:=4) rfl rfl (by decide)),hm,h.liked.only ho (Xl hnd (i:=5) (j:=4) rfl rfl (by decide)),h.fans.only ho (Xl hnd (i:=6) (j:=4) rfl rfl (by decide))⟩
theorem Qdo.upd_liked {w w':World} {b:CwB} {c:Cw} (h:Qdo w b c) (hnd:b.all.Nodup) (ho:Only w w' b.liked) {d:List (LK×Bool)} (hm:MapAt w' b.liked lnk (Xm Value.bool d)):Qdo w' b { c with liked:=d } :=
 ⟨h.done.only ho (Xl hnd (i:=0) (j:=5) rfl rfl (by decide)),h.shown.only ho (Xl hnd (i:=1) (j:=5) rfl rfl (by decide)),h.hidden.only ho (Xl hnd (i:=2) (j:=5) rfl rfl (by decide)),h.follows.only ho (Xl hnd (i:=3) (j:=5) rfl rfl (by decide)),h.mutes.only ho (Xl hnd (i:=4) (j:=5) rfl rfl (by decide)),hm,h.fans.only ho (Xl hnd (i:=6) (j:=5) rfl rfl (by decide))⟩
theorem Qdo.upd_fans {w w':World} {b:CwB} {c:Cw} (h:Qdo w b c) (hnd:b.all.Nodup) (ho:Only w w' b.fans) {d:List (ByteArray×Int)} (hm:MapAt w' b.fans Value.string (Xm vi d)):Qdo w' b { c with fans:=d } :=
 ⟨h.done.only ho (Xl hnd (i:=0) (j:=6) rfl rfl (by decide)),h.shown.only ho (Xl hnd (i:=1) (j:=6) rfl rfl (by decide)),h.hidden.only ho (Xl hnd (i:=2) (j:=6) rfl rfl (by decide)),h.follows.only ho (Xl hnd (i:=3) (j:=6) rfl rfl (by decide)),h.mutes.only ho (Xl hnd (i:=4) (j:=6) rfl rfl (by decide)),h.liked.only ho (Xl hnd (i:=5) (j:=6) rfl rfl (by decide)),hm⟩
def thing (e:Ev):LK:=(e.person,e.item)
def mkr (e:Ev):LK:=(e.person,e.text)
def Qc0 (c:Cw) (e:Ev):Cw :=
 if e.kind=0 then { c with shown:=Q7 c.shown (thing e) ((Qe c.shown (thing e)).getD 0+1) }
 else if e.kind=2∨e.kind=3 then { c with done:=Q7 c.done (thing e) true }
 else if e.kind=5∨e.kind=6 then { c with hidden:=Q7 c.hidden (thing e) (decide (e.kind=5)) }
 else if e.kind=7∨e.kind=8 then { c with follows:=Q7 c.follows (mkr e) (decide (e.kind=7)) }
 else if e.kind=9∨e.kind=10 then { c with mutes:=Q7 c.mutes (mkr e) (decide (e.kind=9)) }
 else c
def Qp5 (c:Cw) (e:Ev):Cw :=
 if 0<Qy e∧(Qe c.liked (thing e)).getD false=false then { c with liked:=Q7 c.liked (thing e) true,fans:=Q7 c.fans e.item ((Qe c.fans e.item).getD 0+1) } else c
def Qdf (c:Cw) (e:Ev):Cw:=Qp5 (Qc0 c e) e
structure Qfv (c:Cw) (n:Int):Prop where
 shown:∀ k,0≤(Qe c.shown k).getD 0∧(Qe c.shown k).getD 0≤n
 fans:∀ k,0≤(Qe c.fans k).getD 0∧(Qe c.fans k).getD 0≤n
theorem Qnj {κ:Type} [DecidableEq κ] {L:List (κ×Int)} {n:Int} (h:∀ k,0≤(Qe L k).getD 0∧(Qe L k).getD 0≤n) (k:κ):∀ k',0≤(Qe (Q7 L k ((Qe L k).getD 0+1)) k').getD 0∧(Qe (Q7 L k ((Qe L k).getD 0+1)) k').getD 0≤n+1:=by
 intro k';rw[Xg];have:=h k;have:=h k'
 split
 · simp;omega
 · omega
theorem Qfv.mono {c:Cw} {n m:Int} (h:Qfv c n) (hm:n≤m):Qfv c m:=⟨fun k=>⟨(h.shown k).1,by have:=(h.shown k).2;omega⟩,fun k=>⟨(h.fans k).1,by have:=(h.fans k).2;omega⟩⟩
theorem Qhg {c:Cw} {n:Int} (h:Qfv c n) (e:Ev):(∀ k,0≤(Qe (Qc0 c e).shown k).getD 0∧(Qe (Qc0 c e).shown k).getD 0≤n+1)∧(Qc0 c e).fans=c.fans∧(Qc0 c e).liked=c.liked:=by
 unfold Qc0;have hs:∀ k,0≤(Qe c.shown k).getD 0∧(Qe c.shown k).getD 0≤n+1:=fun k=>⟨(h.shown k).1,by have:=(h.shown k).2;omega⟩
 split
 · exact⟨Qnj h.shown _,rfl,rfl⟩
 · split
   · exact⟨hs,rfl,rfl⟩
   · split
     · exact⟨hs,rfl,rfl⟩
     · split
       · exact⟨hs,rfl,rfl⟩
       · split <;> exact⟨hs,rfl,rfl⟩
theorem Q0j {c:Cw} {n:Int} (h:Qfv c n) (e:Ev):Qfv (Qdf c e) (n+1):=by
 obtain⟨h1,h2,h3⟩:=Qhg h e;have hf:∀ k,0≤(Qe c.fans k).getD 0∧(Qe c.fans k).getD 0≤n+1:=fun k=>⟨(h.fans k).1,by have:=(h.fans k).2;omega⟩
 unfold Qdf Qp5
 split
 · refine⟨h1,?_⟩
   rw[h2];exact Qnj h.fans _
 · refine⟨h1,?_⟩
   rw[h2];exact hf
theorem Q39 {a b:LK} (h:lnk a=lnk b):a=b:=by
 unfold lnk Qje at h;injection h with h;have h1:=congrArg Array.toList h
 simp at h1
 exact Prod.ext h1.1 h1.2
theorem Qho {κ:Type} {enc:κ→Value} (hi:∀ {a b:κ},enc a=enc b→a=b):∀ {E E':List (Ent κ)},E.map (mkE enc)=E'.map (mkE enc)→strip E=strip E'
 | [],[],_=>rfl
 | [],_ :: _,h=>by simp at h
 | _ :: _,[],h=>by simp at h
 | x :: E,y :: E',h=>by
   simp only[List.map_cons,List.cons.injEq] at h;have h1:enc x.1=enc y.1:=congrArg MapEntry.key h.1;have h2:x.2.1=y.2.1:=congrArg MapEntry.val h.1;have h3:=Qho hi h.2;unfold strip at h3 ⊢;rw[List.map_cons,List.map_cons,h3,hi h1,h2]
def crC (half n:Int) (last:Ev) (bp:Nat) (b:CwB):List Value:=vi half :: vi n :: (evC last ++ [.map (some bp),.map (some b.done),.map (some b.shown),.map (some b.hidden),.map (some b.follows),.map (some b.mutes),.map (some b.liked),.map (some b.fans)])
theorem Qhp:Tryz.prog.underlying 204=some (.map 313 4):=by kernel_rfl
theorem Q8v:Tryz.prog.underlying 205=some (.map 313 3):=by kernel_rfl
theorem Q8z:Tryz.prog.underlying 79=some (.map 9 3):=by kernel_rfl
def Qgj {κ:Type} [DecidableEq κ] (b:Nat) (enc:κ→Value) (k:κ) (z:Value) (w w':World):Prop:=Mod (fun j=>j=b) w w'∧∀ L,MapAt w b enc L→∃ L',MapAt w' b enc L'∧(Qe L' k).getD z=(Qe L k).getD z
theorem Qvl {κ:Type} [DecidableEq κ] (b:Nat) (enc:κ→Value) (k:κ) (z:Value):(∀ w,Qgj b enc k z w w)∧∀ a c d,Qgj b enc k z a c→Qgj b enc k z c d→Qgj b enc k z a d :=
 ⟨fun w=>⟨Mod.refl _ _,fun L h=>⟨L,h,rfl⟩⟩,fun a c d h1 h2=>⟨h1.1.trans h2.1,fun L h=>by
  obtain⟨L1,q1,q2⟩:=h1.2 L h;obtain⟨L2,q3,q4⟩:=h2.2 L1 q1
  exact⟨L2,q3,q4.trans q2⟩⟩⟩
abbrev Xdz {κ:Type} [DecidableEq κ] (b:Nat) (enc:κ→Value) (k:κ) (z:Value):Cl := .gen (Qgj b enc k z) (Qvl b enc k z)
theorem Q38 {κ:Type} [DecidableEq κ] {P:Program} {mt kt et:TypeId} {b:Nat} {enc:κ→Value} {k:κ} {w:World} {L:List (κ×Value)} (ht:P.underlying mt=some (.map kt et)) (K:Qnc P kt enc) {e:TyE} (he:Q5 P et=some e) (hm:MapAt w b enc L) :
 RdS P (Xdz b enc k e.zero) w (Instr.lookup mt (.map (some b)) (enc k) false) ((Qe L k).getD e.zero):=fun w' hw=>by
 obtain⟨L',q1,q2⟩:=(show Qgj b enc k e.zero w w' from hw).2 L hm;have:=Qf2 ht K (Qjs he w') q1 k false;rw[← q2]
 simpa using this
set_option maxHeartbeats 400000 in
theorem Q4p (w:World) (pc:Nat) (half n:Int) (last:Ev) (bp:Nat) (b:CwB) (c:Cw) (hp:At w pc 207 (crC half n last bp b)) (hc:Qdo w b c) (hnd:(pc :: b.all).Nodup) (e:Ev) (N:Int) (hN:Qfv c N) (hN2:N<1000000000000) :
 Cal Tryz.prog 157 [.pointer (some ⟨pc,0,none⟩),evV e] w fun r w'=>r = .tuple #[]∧Qdo w' b (Qdf c e)∧Mod (fun k=>k∈b.all) w w':=by
 have hplt:=hp.lt;have hclt:=hc.lt;have hpn:∀ k∈b.all,pc≠k:=fun k hk e'=>(List.nodup_cons.1 hnd).1 (e' ▸ hk)
 replace hnd:b.all.Nodup:=(List.nodup_cons.1 hnd).2;refine Fi Tryz.func157 rfl _ rfl rfl (Hh ?_);intro b1 w1 hn1;have hb1:=hn1.At;have hb1e:b1=w.heap.size:=hn1.block;have hs1:=hn1.size
 conv=>whnf
 refine Qh5 (.mods (fun k=>w1.heap.size≤k)) (Pl.seq [0,1,2,3,4,5,6,7,8,9] (Pl.two 10 (Pl.seq [11,12,13] Pl.done) 11 (Pl.seq [10,12,13] Pl.done))) (by intro h;cases h) Qa mixed (by kernel_rfl) (Hh ?_);have hbw:At w1.drew b1 _ _:=hb1;have hnb1:¬ (w1.heap.size≤b1):=by omega
 refine⟨_,⟨hbw.one rfl,by rw[add_block];exact hnb1⟩,Hh ?_⟩;refine⟨_,⟨hbw.one rfl,by rw[add_block];exact hnb1⟩,Hh ?_⟩;refine⟨_,⟨hbw.one rfl,by rw[add_block];exact hnb1⟩,Hh ?_⟩;refine⟨_,⟨hbw.one rfl,by rw[add_block];exact hnb1⟩,Hh ?_⟩;have hszd:w1.drew.heap.size=w1.heap.size:=rfl;refine⟨?_,?_⟩
 · intro b4 w2 hn2
   refine⟨Mod.of_ext hn2.ext,Hh ?_⟩;intro b5 w3 hn3;refine⟨Mod.of_ext hn3.ext,Hh ?_⟩;have e4:=hn2.block;have e5:=hn3.block;have z2:=hn2.size;have z3:=hn3.size;have hne:b4≠b5:=by omega
   have hl4:w1.heap.size≤b4:=by omega
   have hl5:w1.heap.size≤b5:=by omega
   have h4a:=hn2.At.ext hn3.ext;have h5a:=hn3.At;have hx3:Ext w1 w3:=((Ext.refl w1).drew.trans hn2.ext).trans hn3.ext;clear hn2 hn3;refine Qd Qa (e:=ty313) rfl h4a rfl rfl rfl (by simp[Qg,Value.oneCell']) fun w5 h45 ho5 => ?_
   refine⟨Qi ho5 hl4,Hh ?_⟩;refine Qd Qa (e:=ty313) rfl (ho5.at_ h5a (Ne.symm hne)) rfl rfl rfl (by simp[Qg,Value.oneCell']) fun w7 h57 ho7 => ?_
   refine⟨Qi ho7 hl5,?_⟩;have hx7:Ext w1 w7:=ho7.ext (ho5.ext hx3 hl4) hl5;have h47:At w7 b4 313 (Qje (thing e)):=ho7.at_ h45 hne;replace h57:At w7 b5 313 (Qje (mkr e)):=h57;have hb7:=hb1.ext hx7;have hxx7:Ext w w7:=hn1.ext.trans hx7;have hp7:=hp.ext hxx7;have hc7:=hc.ext hxx7;clear h45 ho5 ho7 h4a h5a hx3 hn1 hb1 hbw
   conv=>whnf
   refine Xh Qa (ι:=Unit) (fun _ => [(0,.pointer (some ⟨pc,0,none⟩)),(3,.pointer (some ⟨b1,0,none⟩)),(4,.pointer (some ⟨b4,0,none⟩)),(5,.pointer (some ⟨b5,0,none⟩))])
    (fun _ w'=>Qdo w' b (Qc0 c e)∧Mod (fun k=>k∈b.all) w7 w') ?_ ?_
   · (conv=>whnf)
     refine⟨_,hb7.one rfl,Hh ?_⟩;refine⟨fun k0 => ?_,fun k0 => ?_⟩
     · have k0:e.kind=0:=by simpa using k0
       conv=>whnf
       refine Qcy (Xdz b.shown lnk (thing e) (.int .i64 0)) [(0,true),(1,true),(2,true),(3,true),(4,true),(5,false),(6,false)] [7,8] [9] [7,9] Qa mixed (by kernel_rfl) (by first | (intro h;cases h;done) | (intro _;rfl)) (Hh ?_);replace h47:At w7.drew b4 _ _:=h47;replace hp7:At w7.drew pc _ _:=hp7;replace hc7:Qdo w7.drew b c:=hc7.keep fun _ _=>rfl
       refine⟨_,hp7.one rfl,Hh ?_⟩;refine⟨Qje (thing e),⟨rfl,h47.all⟩,Hh ?_⟩;refine⟨_,Q38 Q8v Qay (e:=ty3) ty3_ok hc7.shown,?_⟩;rw[show (Qe (Xm vi c.shown) (thing e)).getD ty3.zero=vi ((Qe c.shown (thing e)).getD 0) from Xq vi _ _ 0];have hsm:=hN.shown (thing e)
       conv=>whnf
       refine⟨(Qe c.shown (thing e)).getD 0+1,wrap_eq rfl ⟨by omega,by omega⟩,Hh ?_⟩;refine Ql1 Q8v Qay (e:=ty3) ty3_ok hc7.shown (thing e) fun w8 s8 hm8 ho8 => ?_
       refine⟨⟨Qi ho8 rfl,fun L hL => ?_⟩,?_⟩
       · refine⟨_,hm8.at_,?_⟩
         rw[Q8]
         have hLL:∀ k,Qe L k=Qe (Xm vi c.shown) k:=by
          obtain⟨E1,c1,q1,q2⟩:=hL;obtain⟨E2,c2,q3,q4⟩:=hc7.shown;have h1:=q1.block;rw[q3.block] at h1
          have hE:strip E2=strip E1:=by
           have h2:E2.map (mkE lnk)=E1.map (mkE lnk):=by
            injection h1 with h1;injection h1 with h1 _
            simpa using h1
           exact Qho Q39 h2
          intro k;rw[← q2,← q4,hE]
         rw[hLL];rfl
       conv=>whnf
       refine Ql2 hm8 (vi ((Qe c.shown (thing e)).getD 0+1)) fun w9 hm9 ho9 => ?_
       rw[Qct,Q9] at hm9
       conv=>whnf
       refine⟨(),⟨?_,(Mod.drew _).trans ((Qi ho8 (by simp[CwB.all])).trans (Qi ho9 (by simp[CwB.all])))⟩,Rr⟩;unfold Qc0;rw[if_pos k0]
       exact hc7.upd_shown hnd ⟨ho9.os.trans ho8.os,ho9.tape.trans ho8.tape,ho9.output.trans ho8.output,ho9.size.trans ho8.size,fun k hk'=>(ho9.block k hk').trans (ho8.block k hk')⟩ hm9
     have k0:¬ e.kind=0:=by simpa using k0
     conv=>whnf
     refine Xh Qa (ι:=Bool) (fun i => [(0,.pointer (some ⟨pc,0,none⟩)),(3,.pointer (some ⟨b1,0,none⟩)),(4,.pointer (some ⟨b4,0,none⟩)),(5,.pointer (some ⟨b5,0,none⟩)),(17,.int .i64 e.kind),(29,.bool i)]) (fun i w'=>i=(decide (e.kind=2)||decide (e.kind=3))∧w'=w7) ?_ ?_
     · (conv=>whnf)
       refine⟨fun q => ?_,fun q => ?_⟩
       · (conv=>whnf)
         exact⟨_,⟨by simp at q;simp[q],rfl⟩,⟨rfl,rfl,rfl,rfl,rfl,rfl,trivial⟩⟩
       conv=>whnf
       exact⟨_,⟨by simp at q;simp[q],rfl⟩,⟨rfl,rfl,rfl,rfl,rfl,rfl,trivial⟩⟩
     rintro _ w9 ⟨rfl,hw9⟩;replace hw9:=hw9.symm;subst hw9
     conv=>whnf
     refine⟨fun k2 => ?_,fun k2 => ?_⟩
     · have k2:e.kind=2∨e.kind=3:=by simpa using k2
       conv=>whnf
       refine Dr .same [0,1,2,3,4] [5] (Hh ?_);replace hb7:At w7.drew b1 _ _:=hb7;replace h47:At w7.drew b4 _ _:=h47;replace h57:At w7.drew b5 _ _:=h57;replace hp7:At w7.drew pc _ _:=hp7;replace hc7:Qdo w7.drew b c:=hc7.keep fun _ _=>rfl
       refine⟨_,hp7.one rfl,Hh ?_⟩;refine⟨Qje (thing e),⟨rfl,h47.all⟩,Hh ?_⟩;refine Qq Qhp Qay hc7.done (thing e) (.bool true) fun w8 hm8 ho8 => ?_
       rw[Q9] at hm8
       conv=>whnf
       refine⟨(),⟨?_,(Mod.drew _).trans (Qi ho8 (by simp[CwB.all]))⟩,Rr⟩;unfold Qc0;rw[if_neg k0,if_pos k2]
       exact(hc7.upd_done hnd ho8 hm8)
     have k2:¬ (e.kind=2∨e.kind=3):=by simpa using k2
     conv=>whnf
     refine Xh Qa (ι:=Bool) (fun i => [(0,.pointer (some ⟨pc,0,none⟩)),(3,.pointer (some ⟨b1,0,none⟩)),(4,.pointer (some ⟨b4,0,none⟩)),(5,.pointer (some ⟨b5,0,none⟩)),(17,.int .i64 e.kind),(37,.bool i)]) (fun i w'=>i=(decide (e.kind=5)||decide (e.kind=6))∧w'=w7) ?_ ?_
     · (conv=>whnf)
       refine⟨fun q => ?_,fun q => ?_⟩
       · (conv=>whnf)
         exact⟨_,⟨by simp at q;simp[q],rfl⟩,⟨rfl,rfl,rfl,rfl,rfl,rfl,trivial⟩⟩
       conv=>whnf
       exact⟨_,⟨by simp at q;simp[q],rfl⟩,⟨rfl,rfl,rfl,rfl,rfl,rfl,trivial⟩⟩
     rintro _ w9 ⟨rfl,hw9⟩;replace hw9:=hw9.symm;subst hw9
     conv=>whnf
     refine⟨fun k5 => ?_,fun k5 => ?_⟩
     · have k5:e.kind=5∨e.kind=6:=by simpa using k5
       conv=>whnf
       refine Dr .same [0,1,2,3,4,5,6,7] [8] (Hh ?_);replace hb7:At w7.drew b1 _ _:=hb7;replace h47:At w7.drew b4 _ _:=h47;replace h57:At w7.drew b5 _ _:=h57;replace hp7:At w7.drew pc _ _:=hp7;replace hc7:Qdo w7.drew b c:=hc7.keep fun _ _=>rfl
       refine⟨_,hp7.one rfl,Hh ?_⟩;refine⟨Qje (thing e),⟨rfl,h47.all⟩,Hh ?_⟩;refine⟨_,hb7.one rfl,Hh ?_⟩;refine Qq Qhp Qay hc7.hidden (thing e) (.bool (decide (e.kind=5))) fun w8 hm8 ho8 => ?_
       rw[Q9] at hm8
       conv=>whnf
       refine⟨(),⟨?_,(Mod.drew _).trans (Qi ho8 (by simp[CwB.all]))⟩,Rr⟩;unfold Qc0;rw[if_neg k0,if_neg k2,if_pos k5]
       exact(hc7.upd_hidden hnd ho8 hm8)
     have k5:¬ (e.kind=5∨e.kind=6):=by simpa using k5
     conv=>whnf
     refine Xh Qa (ι:=Bool) (fun i => [(0,.pointer (some ⟨pc,0,none⟩)),(3,.pointer (some ⟨b1,0,none⟩)),(4,.pointer (some ⟨b4,0,none⟩)),(5,.pointer (some ⟨b5,0,none⟩)),(17,.int .i64 e.kind),(48,.bool i)]) (fun i w'=>i=(decide (e.kind=7)||decide (e.kind=8))∧w'=w7) ?_ ?_
     · (conv=>whnf)
       refine⟨fun q => ?_,fun q => ?_⟩
       · (conv=>whnf)
         exact⟨_,⟨by simp at q;simp[q],rfl⟩,⟨rfl,rfl,rfl,rfl,rfl,rfl,trivial⟩⟩
       conv=>whnf
       exact⟨_,⟨by simp at q;simp[q],rfl⟩,⟨rfl,rfl,rfl,rfl,rfl,rfl,trivial⟩⟩
     rintro _ w9 ⟨rfl,hw9⟩;replace hw9:=hw9.symm;subst hw9
     conv=>whnf
     refine⟨fun k7 => ?_,fun k7 => ?_⟩
     · have k7:e.kind=7∨e.kind=8:=by simpa using k7
       conv=>whnf
       refine Dr .same [0,1,2,3,4,5,6,7] [8] (Hh ?_);replace hb7:At w7.drew b1 _ _:=hb7;replace h47:At w7.drew b4 _ _:=h47;replace h57:At w7.drew b5 _ _:=h57;replace hp7:At w7.drew pc _ _:=hp7;replace hc7:Qdo w7.drew b c:=hc7.keep fun _ _=>rfl
       refine⟨_,hp7.one rfl,Hh ?_⟩;refine⟨Qje (mkr e),⟨rfl,h57.all⟩,Hh ?_⟩;refine⟨_,hb7.one rfl,Hh ?_⟩;refine Qq Qhp Qay hc7.follows (mkr e) (.bool (decide (e.kind=7))) fun w8 hm8 ho8 => ?_
       rw[Q9] at hm8
       conv=>whnf
       refine⟨(),⟨?_,(Mod.drew _).trans (Qi ho8 (by simp[CwB.all]))⟩,Rr⟩;unfold Qc0;rw[if_neg k0,if_neg k2,if_neg k5,if_pos k7]
       exact(hc7.upd_follows hnd ho8 hm8)
     have k7:¬ (e.kind=7∨e.kind=8):=by simpa using k7
     conv=>whnf
     refine Xh Qa (ι:=Bool) (fun i => [(0,.pointer (some ⟨pc,0,none⟩)),(3,.pointer (some ⟨b1,0,none⟩)),(4,.pointer (some ⟨b4,0,none⟩)),(5,.pointer (some ⟨b5,0,none⟩)),(17,.int .i64 e.kind),(59,.bool i)]) (fun i w'=>i=(decide (e.kind=9)||decide (e.kind=10))∧w'=w7) ?_ ?_
     · (conv=>whnf)
       refine⟨fun q => ?_,fun q => ?_⟩
       · (conv=>whnf)
         exact⟨_,⟨by simp at q;simp[q],rfl⟩,⟨rfl,rfl,rfl,rfl,rfl,rfl,trivial⟩⟩
       conv=>whnf
       exact⟨_,⟨by simp at q;simp[q],rfl⟩,⟨rfl,rfl,rfl,rfl,rfl,rfl,trivial⟩⟩
     rintro _ w9 ⟨rfl,hw9⟩;replace hw9:=hw9.symm;subst hw9
     conv=>whnf
     refine⟨fun k9 => ?_,fun k9 => ?_⟩
     · have k9:e.kind=9∨e.kind=10:=by simpa using k9
       conv=>whnf
       refine Dr .same [0,1,2,3,4,5,6,7] [8] (Hh ?_);replace hb7:At w7.drew b1 _ _:=hb7;replace h47:At w7.drew b4 _ _:=h47;replace h57:At w7.drew b5 _ _:=h57;replace hp7:At w7.drew pc _ _:=hp7;replace hc7:Qdo w7.drew b c:=hc7.keep fun _ _=>rfl
       refine⟨_,hp7.one rfl,Hh ?_⟩;refine⟨Qje (mkr e),⟨rfl,h57.all⟩,Hh ?_⟩;refine⟨_,hb7.one rfl,Hh ?_⟩;refine Qq Qhp Qay hc7.mutes (mkr e) (.bool (decide (e.kind=9))) fun w8 hm8 ho8 => ?_
       rw[Q9] at hm8
       conv=>whnf
       refine⟨(),⟨?_,(Mod.drew _).trans (Qi ho8 (by simp[CwB.all]))⟩,Rr⟩;unfold Qc0;rw[if_neg k0,if_neg k2,if_neg k5,if_neg k7,if_pos k9]
       exact(hc7.upd_mutes hnd ho8 hm8)
     have k9:¬ (e.kind=9∨e.kind=10):=by simpa using k9
     conv=>whnf
     refine⟨(),⟨?_,Mod.refl _ _⟩,Rr⟩;unfold Qc0;rw[if_neg k0,if_neg (by omega),if_neg (by omega),if_neg (by omega),if_neg (by omega)]
     exact hc7
   rintro _ w8 ⟨hc8,hm8⟩
   have hnall:∀ k,k=pc∨w.heap.size≤k→¬ k∈b.all:=by
    intro k hk hin;rcases hk with rfl | hk
    · exact hpn _ hin rfl
    · have:=hclt k hin
      omega
   have hb8:At w8 b1 _ _:=hb7.mod hm8 (hnall b1 (.inr (by omega)));have h48:At w8 b4 _ _:=h47.mod hm8 (hnall b4 (.inr (by omega)));have hp8:At w8 pc _ _:=hp7.mod hm8 (hnall pc (.inl rfl));have hm8':Mod (fun k=>k∈b.all) w w8:=(Mod.of_ext hxx7).trans hm8;obtain⟨q1,q2,q3⟩:=Qhg hN e;have hns:Qdf c e=Qp5 (Qc0 c e) e:=rfl;generalize Qc0 c e=c1 at hc8 q1 q2 q3 hns;rw[hns];clear hb7 h47 h57 hp7 hc7 hm8 hxx7 hx7
   conv=>whnf
   refine Dr .ext [0,1,2,3,4,5,6,7,8,9,10,11] [] (Hh ?_);replace hb8:At w8.drew b1 _ _:=hb8;replace h48:At w8.drew b4 _ _:=h48;replace hp8:At w8.drew pc _ _:=hp8;replace hc8:Qdo w8.drew b c1:=hc8.keep fun _ _=>rfl
   replace hm8':Mod (fun k=>k∈b.all) w w8.drew:=hm8'.trans (Mod.drew _);generalize w8.drew=w9 at hb8 h48 hp8 hc8 hm8' ⊢;refine⟨evC e,⟨rfl,hb8.all⟩,Hh ?_⟩;refine(Qe8 e w9).mono ?_;rintro _ w10 ⟨rfl,hx10⟩;refine⟨hx10,?_⟩;have hb10:=hb8.ext hx10;have h410:=h48.ext hx10;have hp10:=hp8.ext hx10;have hc10:=hc8.ext hx10;have hm10:Mod (fun k=>k∈b.all) w w10:=hm8'.trans (Mod.of_ext hx10)
   conv=>whnf
   refine⟨_,fun _=>hp10.one rfl,Hh ?_⟩;refine⟨Qje (thing e),fun _=>⟨rfl,h410.all⟩,Hh ?_⟩
   refine⟨.bool ((Qe c1.liked (thing e)).getD false),fun _=>(by
    have:=X7 Qhp Qay (e:=ty4) ty4_ok (cl := .ext) (Qid hc10.liked.lt) hc10.liked (thing e);rw[show (Qe (Xm Value.bool c1.liked) (thing e)).getD ty4.zero=Value.bool ((Qe c1.liked (thing e)).getD false) from Xq Value.bool _ _ false] at this
    exact this),Hh ?_⟩
   constructor
   · intro hcd
     have hcd:(decide (0<Qy e) && !((Qe c1.liked (thing e)).getD false))=true:=hcd;rw[Bool.and_eq_true,decide_eq_true_eq,Bool.not_eq_true'] at hcd
     conv=>whnf
     refine Dr .same [0,1,2,3,4] [5] (Hh ?_);refine⟨.map (some b.liked),show w10.drew.cell? _=_ from hp10.one rfl,Hh ?_⟩;refine⟨Qje (thing e),⟨rfl,show Xo w10.drew _ _ from h410.all⟩,Hh ?_⟩;refine Qq (w:=w10.drew) Qhp Qay (hc10.liked.keep rfl) (thing e) (.bool true) fun w11 hm11 ho11 => ?_
     rw[Q9] at hm11;have hb11:At w11 b1 _ _:=ho11.at_ hb10 (by have:=hclt b.liked (by simp[CwB.all]);omega);have hp11:At w11 pc _ _:=ho11.at_ hp10 (hpn _ (by simp[CwB.all]));have hf11:MapAt w11 b.fans Value.string (Xm vi c1.fans):=(hc10.upd_liked (w':=w11) hnd ⟨ho11.os,ho11.tape,ho11.output,ho11.size,ho11.block⟩ hm11).fans
     conv=>whnf
     refine Dr .same [0,1,2,3,4,5,6,7] [8] (Hh ?_);refine⟨.map (some b.fans),show w11.drew.cell? _=_ from hp11.one rfl,Hh ?_⟩;refine⟨_,show w11.drew.cell? _=_ from hb11.one rfl,Hh ?_⟩
     refine⟨vi ((Qe c1.fans e.item).getD 0),(by
      have:=X7 Q8z (Qo Xc) (e:=ty3) ty3_ok (cl := .same) Qm (hf11.keep (w':=w11.drew) rfl) e.item;rw[show (Qe (Xm vi c1.fans) e.item).getD ty3.zero=vi ((Qe c1.fans e.item).getD 0) from Xq vi _ _ 0] at this
      exact this),Hh ?_⟩
     have hsm:=hN.fans e.item;rw[← q2] at hsm;refine⟨(Qe c1.fans e.item).getD 0+1,wrap_eq rfl ⟨by omega,by omega⟩,Hh ?_⟩;refine Qq (w:=w11.drew) Q8z (Qo Xc) (hf11.keep rfl) e.item (vi ((Qe c1.fans e.item).getD 0+1)) fun w12 hm12 ho12 => ?_
     rw[Q9] at hm12
     conv=>whnf
     refine⟨rfl,?_,hm10.trans ((Mod.drew _).trans ((Qi ho11 (by simp[CwB.all])).trans ((Mod.drew _).trans (Qi ho12 (by simp[CwB.all])))))⟩;unfold Qp5;rw[if_pos hcd]
     exact(hc10.upd_liked (w':=w11) hnd ⟨ho11.os,ho11.tape,ho11.output,ho11.size,ho11.block⟩ hm11).upd_fans hnd ⟨ho12.os,ho12.tape,ho12.output,ho12.size,ho12.block⟩ hm12
   · intro hcd
     have hcd:(decide (0<Qy e) && !((Qe c1.liked (thing e)).getD false))=false:=hcd
     conv=>whnf
     refine⟨rfl,?_,hm10⟩;unfold Qp5
     rw[if_neg (by
      rintro ⟨h1,h2⟩;rw[h2,decide_eq_true h1] at hcd
      cases hcd)]
     exact hc10
 · intro b5 w2 hn2
   refine⟨Mod.of_ext hn2.ext,Hh ?_⟩;intro b4 w3 hn3;refine⟨Mod.of_ext hn3.ext,Hh ?_⟩;have e5:=hn2.block;have e4:=hn3.block;have z2:=hn2.size;have z3:=hn3.size;have hne:b4≠b5:=by omega
   have hl4:w1.heap.size≤b4:=by omega
   have hl5:w1.heap.size≤b5:=by omega
   have h5a:=hn2.At.ext hn3.ext;have h4a:=hn3.At;have hx3:Ext w1 w3:=((Ext.refl w1).drew.trans hn2.ext).trans hn3.ext;clear hn2 hn3;refine Qd Qa (e:=ty313) rfl h4a rfl rfl rfl (by simp[Qg,Value.oneCell']) fun w5 h45 ho5 => ?_
   refine⟨Qi ho5 hl4,Hh ?_⟩;refine Qd Qa (e:=ty313) rfl (ho5.at_ h5a (Ne.symm hne)) rfl rfl rfl (by simp[Qg,Value.oneCell']) fun w7 h57 ho7 => ?_
   refine⟨Qi ho7 hl5,?_⟩;have hx7:Ext w1 w7:=ho7.ext (ho5.ext hx3 hl4) hl5;have h47:At w7 b4 313 (Qje (thing e)):=ho7.at_ h45 hne;replace h57:At w7 b5 313 (Qje (mkr e)):=h57;have hb7:=hb1.ext hx7;have hxx7:Ext w w7:=hn1.ext.trans hx7;have hp7:=hp.ext hxx7;have hc7:=hc.ext hxx7;clear h45 ho5 ho7 h4a h5a hx3 hn1 hb1 hbw
   conv=>whnf
   refine Xh Qa (ι:=Unit) (fun _ => [(0,.pointer (some ⟨pc,0,none⟩)),(3,.pointer (some ⟨b1,0,none⟩)),(4,.pointer (some ⟨b4,0,none⟩)),(5,.pointer (some ⟨b5,0,none⟩))])
    (fun _ w'=>Qdo w' b (Qc0 c e)∧Mod (fun k=>k∈b.all) w7 w') ?_ ?_
   · (conv=>whnf)
     refine⟨_,hb7.one rfl,Hh ?_⟩;refine⟨fun k0 => ?_,fun k0 => ?_⟩
     · have k0:e.kind=0:=by simpa using k0
       conv=>whnf
       refine Qcy (Xdz b.shown lnk (thing e) (.int .i64 0)) [(0,true),(1,true),(2,true),(3,true),(4,true),(5,false),(6,false)] [7,8] [9] [7,9] Qa mixed (by kernel_rfl) (by first | (intro h;cases h;done) | (intro _;rfl)) (Hh ?_);replace h47:At w7.drew b4 _ _:=h47;replace hp7:At w7.drew pc _ _:=hp7;replace hc7:Qdo w7.drew b c:=hc7.keep fun _ _=>rfl
       refine⟨_,hp7.one rfl,Hh ?_⟩;refine⟨Qje (thing e),⟨rfl,h47.all⟩,Hh ?_⟩;refine⟨_,Q38 Q8v Qay (e:=ty3) ty3_ok hc7.shown,?_⟩;rw[show (Qe (Xm vi c.shown) (thing e)).getD ty3.zero=vi ((Qe c.shown (thing e)).getD 0) from Xq vi _ _ 0];have hsm:=hN.shown (thing e)
       conv=>whnf
       refine⟨(Qe c.shown (thing e)).getD 0+1,wrap_eq rfl ⟨by omega,by omega⟩,Hh ?_⟩;refine Ql1 Q8v Qay (e:=ty3) ty3_ok hc7.shown (thing e) fun w8 s8 hm8 ho8 => ?_
       refine⟨⟨Qi ho8 rfl,fun L hL => ?_⟩,?_⟩
       · refine⟨_,hm8.at_,?_⟩
         rw[Q8]
         have hLL:∀ k,Qe L k=Qe (Xm vi c.shown) k:=by
          obtain⟨E1,c1,q1,q2⟩:=hL;obtain⟨E2,c2,q3,q4⟩:=hc7.shown;have h1:=q1.block;rw[q3.block] at h1
          have hE:strip E2=strip E1:=by
           have h2:E2.map (mkE lnk)=E1.map (mkE lnk):=by
            injection h1 with h1;injection h1 with h1 _
            simpa using h1
           exact Qho Q39 h2
          intro k;rw[← q2,← q4,hE]
         rw[hLL];rfl
       conv=>whnf
       refine Ql2 hm8 (vi ((Qe c.shown (thing e)).getD 0+1)) fun w9 hm9 ho9 => ?_
       rw[Qct,Q9] at hm9
       conv=>whnf
       refine⟨(),⟨?_,(Mod.drew _).trans ((Qi ho8 (by simp[CwB.all])).trans (Qi ho9 (by simp[CwB.all])))⟩,Rr⟩;unfold Qc0;rw[if_pos k0]
       exact hc7.upd_shown hnd ⟨ho9.os.trans ho8.os,ho9.tape.trans ho8.tape,ho9.output.trans ho8.output,ho9.size.trans ho8.size,fun k hk'=>(ho9.block k hk').trans (ho8.block k hk')⟩ hm9
     have k0:¬ e.kind=0:=by simpa using k0
     conv=>whnf
     refine Xh Qa (ι:=Bool) (fun i => [(0,.pointer (some ⟨pc,0,none⟩)),(3,.pointer (some ⟨b1,0,none⟩)),(4,.pointer (some ⟨b4,0,none⟩)),(5,.pointer (some ⟨b5,0,none⟩)),(17,.int .i64 e.kind),(29,.bool i)]) (fun i w'=>i=(decide (e.kind=2)||decide (e.kind=3))∧w'=w7) ?_ ?_
     · (conv=>whnf)
       refine⟨fun q => ?_,fun q => ?_⟩
       · (conv=>whnf)
         exact⟨_,⟨by simp at q;simp[q],rfl⟩,⟨rfl,rfl,rfl,rfl,rfl,rfl,trivial⟩⟩
       conv=>whnf
       exact⟨_,⟨by simp at q;simp[q],rfl⟩,⟨rfl,rfl,rfl,rfl,rfl,rfl,trivial⟩⟩
     rintro _ w9 ⟨rfl,hw9⟩;replace hw9:=hw9.symm;subst hw9
     conv=>whnf
     refine⟨fun k2 => ?_,fun k2 => ?_⟩
     · have k2:e.kind=2∨e.kind=3:=by simpa using k2
       conv=>whnf
       refine Dr .same [0,1,2,3,4] [5] (Hh ?_);replace hb7:At w7.drew b1 _ _:=hb7;replace h47:At w7.drew b4 _ _:=h47;replace h57:At w7.drew b5 _ _:=h57;replace hp7:At w7.drew pc _ _:=hp7;replace hc7:Qdo w7.drew b c:=hc7.keep fun _ _=>rfl
       refine⟨_,hp7.one rfl,Hh ?_⟩;refine⟨Qje (thing e),⟨rfl,h47.all⟩,Hh ?_⟩;refine Qq Qhp Qay hc7.done (thing e) (.bool true) fun w8 hm8 ho8 => ?_
       rw[Q9] at hm8
       conv=>whnf
       refine⟨(),⟨?_,(Mod.drew _).trans (Qi ho8 (by simp[CwB.all]))⟩,Rr⟩;unfold Qc0;rw[if_neg k0,if_pos k2]
       exact(hc7.upd_done hnd ho8 hm8)
     have k2:¬ (e.kind=2∨e.kind=3):=by simpa using k2
     conv=>whnf
     refine Xh Qa (ι:=Bool) (fun i => [(0,.pointer (some ⟨pc,0,none⟩)),(3,.pointer (some ⟨b1,0,none⟩)),(4,.pointer (some ⟨b4,0,none⟩)),(5,.pointer (some ⟨b5,0,none⟩)),(17,.int .i64 e.kind),(37,.bool i)]) (fun i w'=>i=(decide (e.kind=5)||decide (e.kind=6))∧w'=w7) ?_ ?_
     · (conv=>whnf)
       refine⟨fun q => ?_,fun q => ?_⟩
       · (conv=>whnf)
         exact⟨_,⟨by simp at q;simp[q],rfl⟩,⟨rfl,rfl,rfl,rfl,rfl,rfl,trivial⟩⟩
       conv=>whnf
       exact⟨_,⟨by simp at q;simp[q],rfl⟩,⟨rfl,rfl,rfl,rfl,rfl,rfl,trivial⟩⟩
     rintro _ w9 ⟨rfl,hw9⟩;replace hw9:=hw9.symm;subst hw9
     conv=>whnf
     refine⟨fun k5 => ?_,fun k5 => ?_⟩
     · have k5:e.kind=5∨e.kind=6:=by simpa using k5
       conv=>whnf
       refine Dr .same [0,1,2,3,4,5,6,7] [8] (Hh ?_);replace hb7:At w7.drew b1 _ _:=hb7;replace h47:At w7.drew b4 _ _:=h47;replace h57:At w7.drew b5 _ _:=h57;replace hp7:At w7.drew pc _ _:=hp7;replace hc7:Qdo w7.drew b c:=hc7.keep fun _ _=>rfl
       refine⟨_,hp7.one rfl,Hh ?_⟩;refine⟨Qje (thing e),⟨rfl,h47.all⟩,Hh ?_⟩;refine⟨_,hb7.one rfl,Hh ?_⟩;refine Qq Qhp Qay hc7.hidden (thing e) (.bool (decide (e.kind=5))) fun w8 hm8 ho8 => ?_
       rw[Q9] at hm8
       conv=>whnf
       refine⟨(),⟨?_,(Mod.drew _).trans (Qi ho8 (by simp[CwB.all]))⟩,Rr⟩;unfold Qc0;rw[if_neg k0,if_neg k2,if_pos k5]
       exact(hc7.upd_hidden hnd ho8 hm8)
     have k5:¬ (e.kind=5∨e.kind=6):=by simpa using k5
     conv=>whnf
     refine Xh Qa (ι:=Bool) (fun i => [(0,.pointer (some ⟨pc,0,none⟩)),(3,.pointer (some ⟨b1,0,none⟩)),(4,.pointer (some ⟨b4,0,none⟩)),(5,.pointer (some ⟨b5,0,none⟩)),(17,.int .i64 e.kind),(48,.bool i)]) (fun i w'=>i=(decide (e.kind=7)||decide (e.kind=8))∧w'=w7) ?_ ?_
     · (conv=>whnf)
       refine⟨fun q => ?_,fun q => ?_⟩
       · (conv=>whnf)
         exact⟨_,⟨by simp at q;simp[q],rfl⟩,⟨rfl,rfl,rfl,rfl,rfl,rfl,trivial⟩⟩
       conv=>whnf
       exact⟨_,⟨by simp at q;simp[q],rfl⟩,⟨rfl,rfl,rfl,rfl,rfl,rfl,trivial⟩⟩
     rintro _ w9 ⟨rfl,hw9⟩;replace hw9:=hw9.symm;subst hw9
     conv=>whnf
     refine⟨fun k7 => ?_,fun k7 => ?_⟩
     · have k7:e.kind=7∨e.kind=8:=by simpa using k7
       conv=>whnf
       refine Dr .same [0,1,2,3,4,5,6,7] [8] (Hh ?_);replace hb7:At w7.drew b1 _ _:=hb7;replace h47:At w7.drew b4 _ _:=h47;replace h57:At w7.drew b5 _ _:=h57;replace hp7:At w7.drew pc _ _:=hp7;replace hc7:Qdo w7.drew b c:=hc7.keep fun _ _=>rfl
       refine⟨_,hp7.one rfl,Hh ?_⟩;refine⟨Qje (mkr e),⟨rfl,h57.all⟩,Hh ?_⟩;refine⟨_,hb7.one rfl,Hh ?_⟩;refine Qq Qhp Qay hc7.follows (mkr e) (.bool (decide (e.kind=7))) fun w8 hm8 ho8 => ?_
       rw[Q9] at hm8
       conv=>whnf
       refine⟨(),⟨?_,(Mod.drew _).trans (Qi ho8 (by simp[CwB.all]))⟩,Rr⟩;unfold Qc0;rw[if_neg k0,if_neg k2,if_neg k5,if_pos k7]
       exact(hc7.upd_follows hnd ho8 hm8)
     have k7:¬ (e.kind=7∨e.kind=8):=by simpa using k7
     conv=>whnf
     refine Xh Qa (ι:=Bool) (fun i => [(0,.pointer (some ⟨pc,0,none⟩)),(3,.pointer (some ⟨b1,0,none⟩)),(4,.pointer (some ⟨b4,0,none⟩)),(5,.pointer (some ⟨b5,0,none⟩)),(17,.int .i64 e.kind),(59,.bool i)]) (fun i w'=>i=(decide (e.kind=9)||decide (e.kind=10))∧w'=w7) ?_ ?_
     · (conv=>whnf)
       refine⟨fun q => ?_,fun q => ?_⟩
       · (conv=>whnf)
         exact⟨_,⟨by simp at q;simp[q],rfl⟩,⟨rfl,rfl,rfl,rfl,rfl,rfl,trivial⟩⟩
       conv=>whnf
       exact⟨_,⟨by simp at q;simp[q],rfl⟩,⟨rfl,rfl,rfl,rfl,rfl,rfl,trivial⟩⟩
     rintro _ w9 ⟨rfl,hw9⟩;replace hw9:=hw9.symm;subst hw9
     conv=>whnf
     refine⟨fun k9 => ?_,fun k9 => ?_⟩
     · have k9:e.kind=9∨e.kind=10:=by simpa using k9
       conv=>whnf
       refine Dr .same [0,1,2,3,4,5,6,7] [8] (Hh ?_);replace hb7:At w7.drew b1 _ _:=hb7;replace h47:At w7.drew b4 _ _:=h47;replace h57:At w7.drew b5 _ _:=h57;replace hp7:At w7.drew pc _ _:=hp7;replace hc7:Qdo w7.drew b c:=hc7.keep fun _ _=>rfl
       refine⟨_,hp7.one rfl,Hh ?_⟩;refine⟨Qje (mkr e),⟨rfl,h57.all⟩,Hh ?_⟩;refine⟨_,hb7.one rfl,Hh ?_⟩;refine Qq Qhp Qay hc7.mutes (mkr e) (.bool (decide (e.kind=9))) fun w8 hm8 ho8 => ?_
       rw[Q9] at hm8
       conv=>whnf
       refine⟨(),⟨?_,(Mod.drew _).trans (Qi ho8 (by simp[CwB.all]))⟩,Rr⟩;unfold Qc0;rw[if_neg k0,if_neg k2,if_neg k5,if_neg k7,if_pos k9]
       exact(hc7.upd_mutes hnd ho8 hm8)
     have k9:¬ (e.kind=9∨e.kind=10):=by simpa using k9
     conv=>whnf
     refine⟨(),⟨?_,Mod.refl _ _⟩,Rr⟩;unfold Qc0;rw[if_neg k0,if_neg (by omega),if_neg (by omega),if_neg (by omega),if_neg (by omega)]
     exact hc7
   rintro _ w8 ⟨hc8,hm8⟩
   have hnall:∀ k,k=pc∨w.heap.size≤k→¬ k∈b.all:=by
    intro k hk hin;rcases hk with rfl | hk
    · exact hpn _ hin rfl
    · have:=hclt k hin
      omega
   have hb8:At w8 b1 _ _:=hb7.mod hm8 (hnall b1 (.inr (by omega)));have h48:At w8 b4 _ _:=h47.mod hm8 (hnall b4 (.inr (by omega)));have hp8:At w8 pc _ _:=hp7.mod hm8 (hnall pc (.inl rfl));have hm8':Mod (fun k=>k∈b.all) w w8:=(Mod.of_ext hxx7).trans hm8;obtain⟨q1,q2,q3⟩:=Qhg hN e;have hns:Qdf c e=Qp5 (Qc0 c e) e:=rfl;generalize Qc0 c e=c1 at hc8 q1 q2 q3 hns;rw[hns];clear hb7 h47 h57 hp7 hc7 hm8 hxx7 hx7
   conv=>whnf
   refine Dr .ext [0,1,2,3,4,5,6,7,8,9,10,11] [] (Hh ?_);replace hb8:At w8.drew b1 _ _:=hb8;replace h48:At w8.drew b4 _ _:=h48;replace hp8:At w8.drew pc _ _:=hp8;replace hc8:Qdo w8.drew b c1:=hc8.keep fun _ _=>rfl
   replace hm8':Mod (fun k=>k∈b.all) w w8.drew:=hm8'.trans (Mod.drew _);generalize w8.drew=w9 at hb8 h48 hp8 hc8 hm8' ⊢;refine⟨evC e,⟨rfl,hb8.all⟩,Hh ?_⟩;refine(Qe8 e w9).mono ?_;rintro _ w10 ⟨rfl,hx10⟩;refine⟨hx10,?_⟩;have hb10:=hb8.ext hx10;have h410:=h48.ext hx10;have hp10:=hp8.ext hx10;have hc10:=hc8.ext hx10;have hm10:Mod (fun k=>k∈b.all) w w10:=hm8'.trans (Mod.of_ext hx10)
   conv=>whnf
   refine⟨_,fun _=>hp10.one rfl,Hh ?_⟩;refine⟨Qje (thing e),fun _=>⟨rfl,h410.all⟩,Hh ?_⟩
   refine⟨.bool ((Qe c1.liked (thing e)).getD false),fun _=>(by
    have:=X7 Qhp Qay (e:=ty4) ty4_ok (cl := .ext) (Qid hc10.liked.lt) hc10.liked (thing e);rw[show (Qe (Xm Value.bool c1.liked) (thing e)).getD ty4.zero=Value.bool ((Qe c1.liked (thing e)).getD false) from Xq Value.bool _ _ false] at this
    exact this),Hh ?_⟩
   constructor
   · intro hcd
     have hcd:(decide (0<Qy e) && !((Qe c1.liked (thing e)).getD false))=true:=hcd;rw[Bool.and_eq_true,decide_eq_true_eq,Bool.not_eq_true'] at hcd
     conv=>whnf
     refine Dr .same [0,1,2,3,4] [5] (Hh ?_);refine⟨.map (some b.liked),show w10.drew.cell? _=_ from hp10.one rfl,Hh ?_⟩;refine⟨Qje (thing e),⟨rfl,show Xo w10.drew _ _ from h410.all⟩,Hh ?_⟩;refine Qq (w:=w10.drew) Qhp Qay (hc10.liked.keep rfl) (thing e) (.bool true) fun w11 hm11 ho11 => ?_
     rw[Q9] at hm11;have hb11:At w11 b1 _ _:=ho11.at_ hb10 (by have:=hclt b.liked (by simp[CwB.all]);omega);have hp11:At w11 pc _ _:=ho11.at_ hp10 (hpn _ (by simp[CwB.all]));have hf11:MapAt w11 b.fans Value.string (Xm vi c1.fans):=(hc10.upd_liked (w':=w11) hnd ⟨ho11.os,ho11.tape,ho11.output,ho11.size,ho11.block⟩ hm11).fans
     conv=>whnf
     refine Dr .same [0,1,2,3,4,5,6,7] [8] (Hh ?_);refine⟨.map (some b.fans),show w11.drew.cell? _=_ from hp11.one rfl,Hh ?_⟩;refine⟨_,show w11.drew.cell? _=_ from hb11.one rfl,Hh ?_⟩
     refine⟨vi ((Qe c1.fans e.item).getD 0),(by
      have:=X7 Q8z (Qo Xc) (e:=ty3) ty3_ok (cl := .same) Qm (hf11.keep (w':=w11.drew) rfl) e.item;rw[show (Qe (Xm vi c1.fans) e.item).getD ty3.zero=vi ((Qe c1.fans e.item).getD 0) from Xq vi _ _ 0] at this
      exact this),Hh ?_⟩
     have hsm:=hN.fans e.item;rw[← q2] at hsm;refine⟨(Qe c1.fans e.item).getD 0+1,wrap_eq rfl ⟨by omega,by omega⟩,Hh ?_⟩;refine Qq (w:=w11.drew) Q8z (Qo Xc) (hf11.keep rfl) e.item (vi ((Qe c1.fans e.item).getD 0+1)) fun w12 hm12 ho12 => ?_
     rw[Q9] at hm12
     conv=>whnf
     refine⟨rfl,?_,hm10.trans ((Mod.drew _).trans ((Qi ho11 (by simp[CwB.all])).trans ((Mod.drew _).trans (Qi ho12 (by simp[CwB.all])))))⟩;unfold Qp5;rw[if_pos hcd]
     exact(hc10.upd_liked (w':=w11) hnd ⟨ho11.os,ho11.tape,ho11.output,ho11.size,ho11.block⟩ hm11).upd_fans hnd ⟨ho12.os,ho12.tape,ho12.output,ho12.size,ho12.block⟩ hm12
   · intro hcd
     have hcd:(decide (0<Qy e) && !((Qe c1.liked (thing e)).getD false))=false:=hcd
     conv=>whnf
     refine⟨rfl,?_,hm10⟩;unfold Qp5
     rw[if_neg (by
      rintro ⟨h1,h2⟩;rw[h2,decide_eq_true h1] at hcd
      cases hcd)]
     exact hc10
abbrev SV:=Option Addr×Nat×Nat
def Qhc (d:Ev×SV):List Value := [.string d.1.src,.int .i64 d.1.num,.int .i64 d.1.at_,.int .i64 d.1.kind,.string d.1.person,.string d.1.item,.int .i64 d.1.val,.string d.1.text,.slice d.2.1 d.2.2.1 d.2.2.2]
theorem Qh1 (d:Ev×SV):(Qhc d).length=9:=rfl
theorem Qh2 (d:Ev×SV):∀ u∈Qhc d,u.oneCell'=true:=by simp[Qhc,Value.oneCell']
def Qak (D:List (Ev×SV)) (person:ByteArray):List (Ev×SV):=D.filter fun d=>decide (d.1.person=person)
theorem Qzk (D:List (Ev×SV)) (e:Ev) (v:SV):Qkl (Qak D) e.person (Qak D e.person ++ [(e,v)])=Qak (D ++ [(e,v)]):=by
 funext x
 unfold Qkl Qak;rw[List.filter_append]
 by_cases h:x=e.person
 · subst h;simp
 · have h':¬ e.person=x:=fun q=>h q.symm
   simp[h,h']
abbrev Row:=Ev×List ByteArray
def evs (rs:List Row):List Ev:=rs.map (·.1)
def Cw0:Cw:=⟨[],[],[],[],[],[],[]⟩
def X0 (rs:List Row):Cw:=(evs rs).foldl Qdf Cw0
theorem Qf3 (rs:List Row) (r:Row):X0 (rs ++ [r])=Qdf (X0 rs) r.1:=by unfold X0 evs;rw[List.map_append,List.foldl_append];rfl
theorem Qp4:∀ rs:List Row,Qfv (X0 rs) rs.length:=by
 refine Qu ?_ ?_
 · exact⟨fun k=>by simp[X0,evs,Cw0,Qe],fun k=>by simp[X0,evs,Cw0,Qe]⟩
 · intro rs r ih
   rw[Qf3];have:=Q0j ih r.1
   simpa using this
structure Qg3 (w:World) (T:Nat→Prop) (D:List (Ev×SV)) (rs:List Row):Prop where
 len:D.length=rs.length
 ev:∀ (i:Nat) (d:Ev×SV) (r:Row),D[i]? = some d→rs[i]? = some r→d.1=r.1∧d.2.2.1=r.2.length∧SlT w d.2.1 r.2∧∀ a,d.2.1=some a→T a.block
theorem Qg3.evs {w:World} {T:Nat→Prop} {D:List (Ev×SV)} {rs:List Row} (h:Qg3 w T D rs):D.map (·.1)=evs rs:=by
 apply List.ext_getElem?
 intro i;unfold Go.Proofs.YtohkipkjleldpaaGreatDoor.evs;rw[List.getElem?_map,List.getElem?_map];have hl:=h.len
 by_cases hi:i<D.length
 · have h1:=List.getElem?_eq_getElem hi
   have h2:=List.getElem?_eq_getElem (l:=rs) (i:=i) (by omega);rw[h1,h2]
   simp[(h.ev i _ _ h1 h2).1]
 · rw[List.getElem?_eq_none (by omega),List.getElem?_eq_none (by omega)];rfl
structure Qw1 (w:World) (S:Nat→Prop) (p:Nat) (half:Int) (rs:List Row) (bp:Nat) (b:CwB) (D:List (Ev×SV)) (L:List (ByteArray×(Option Addr×Nat))) (R Tg:Nat→Prop):Prop where
 mine:∀ k∈p :: b.all,S k
 nodup:(p :: b.all).Nodup
 head:At w p 207 (crC half rs.length (Qek (evs rs)) bp b)
 maps:Qdo w b (X0 rs)
 rows:Qa0 Qhc 9 282 w R bp (Qak D) L
 rset:∀ k,R k→S k∧k<w.heap.size∧k∉p :: b.all∧¬ Tg k
 tset:∀ k,Tg k→S k∧k<w.heap.size∧k∉p :: b.all
 tags:Qg3 w Tg D rs
def Qar (w:World) (S:Nat→Prop) (p:Nat) (half:Int) (rs:List Row):Prop:=∃ bp b D L R Tg,Qw1 w S p half rs bp b D L R Tg
theorem Ql0 {w w1:World} {k:Nat} (h:k<w.heap.size) (hk:w1.heap[k]? = w.heap[k]?):k<w1.heap.size:=by
 rw[Array.getElem?_eq_getElem h] at hk
 exact lt_of_block hk
theorem Qcn {α:Type} {enc:α→List Value} {sz:Nat} {w w1:World} {A:Option Addr} {l:List α} (h:Sl enc sz w A l) (hk:∀ a,A=some a→w1.heap[a.block]? = w.heap[a.block]?):Sl enc sz w1 A l:=fun i x hi=>by
 obtain⟨a,ha,hc⟩:=h i x hi
 exact⟨a,ha,fun j v hj=>by rw[World.cell?_of_block (w:=w) (by rw[add_block,add_block];exact hk a ha)];exact hc j v hj⟩
theorem Qw1.keep {w w1:World} {S S':Nat→Prop} {p:Nat} {half:Int} {rs:List Row} {bp:Nat} {b:CwB} {D:List (Ev×SV)} {L:List (ByteArray×(Option Addr×Nat))} {R Tg:Nat→Prop} (h:Qw1 w S p half rs bp b D L R Tg)
 (hk:∀ k,k<w.heap.size→S k→w1.heap[k]? = w.heap[k]? ∧ S' k):Qw1 w1 S' p half rs bp b D L R Tg:=by
 have hlt:∀ k∈p :: b.all,k<w.heap.size:=fun k hk'=>by
  rcases List.mem_cons.1 hk' with rfl | hk'
  · exact h.head.lt
  · exact h.maps.lt k hk'
 refine⟨fun k hk'=>(hk k (hlt k hk') (h.mine k hk')).2,h.nodup,(hk p (hlt p (by simp)) (h.mine p (by simp))).1.trans h.head,h.maps.keep fun k hk'=>(hk k (hlt k (by simp[hk'])) (h.mine k (by simp[hk']))).1,?_,?_,?_,h.tags.len,?_⟩
 · exact h.rows.keep fun k hk1 hk2=>⟨(hk k hk1 (h.rset k hk2).1).1,hk2⟩
 · intro k hk2
   obtain⟨q1,q2,q3⟩:=h.rset k hk2
   exact⟨(hk k q2 q1).2,Ql0 q2 (hk k q2 q1).1,q3⟩
 · intro k hk2
   obtain⟨q1,q2,q3⟩:=h.tset k hk2
   exact⟨(hk k q2 q1).2,Ql0 q2 (hk k q2 q1).1,q3⟩
 · intro i d r hd hr
   obtain⟨q1,q2,q3,q4⟩:=h.tags.ev i d r hd hr;refine⟨q1,q2,Qcn q3 fun a ha => ?_,q4⟩;obtain⟨z1,z2,_⟩:=h.tset _ (q4 a ha)
   exact(hk _ z2 z1).1
theorem Qar.keep {w w1:World} {S S':Nat→Prop} {p:Nat} {half:Int} {rs:List Row} (h:Qar w S p half rs) (hk:∀ k,k<w.heap.size→S k→w1.heap[k]? = w.heap[k]? ∧ S' k):Qar w1 S' p half rs:=by
 obtain⟨bp,b,D,L,R,Tg,h⟩:=h
 exact⟨bp,b,D,L,R,Tg,h.keep hk⟩
theorem Qar.ext {w w1:World} {S:Nat→Prop} {p:Nat} {half:Int} {rs:List Row} (h:Qar w S p half rs) (hx:Ext w w1):Qar w1 S p half rs:=h.keep fun k hk hs=>⟨hx.block k hk,hs⟩
def Xr (h:Int):Int:=min (max h 1) 1099511627776
theorem Qpb (half:Int) (w:World):Cal Tryz.prog 58 [.int .i64 half] w fun r w'=>∃ p,r = .pointer (some ⟨p,0,none⟩)∧Qar w' (fun k=>w.heap.size≤k) p (Xr half) []∧Ext w w':=by
 refine Fi Tryz.func58 rfl _ rfl rfl (Hh ?_);intro b1 w1 hn1;conv=>whnf
 intro b2 w2 hn2;conv=>whnf
 intro b3 w3 hn3;conv=>whnf
 intro b4 w4 hn4;conv=>whnf
 intro b5 w5 hn5;conv=>whnf
 intro b6 w6 hn6;conv=>whnf
 intro b7 w7 hn7;conv=>whnf
 intro b8 w8 hn8;conv=>whnf
 intro b9 w9 hn9;conv=>whnf
 have e1:=hn1.block;have e2:=hn2.block;have e3:=hn3.block;have e4:=hn4.block;have e5:=hn5.block;have e6:=hn6.block;have e7:=hn7.block;have e8:=hn8.block;have e9:=hn9.block;have s1:=hn1.size;have s2:=hn2.size;have s3:=hn3.size;have s4:=hn4.size;have s5:=hn5.size;have s6:=hn6.size;have s7:=hn7.size;have s8:=hn8.size;have s9:=hn9.size;have x8:=hn9.ext;have x7:=hn8.ext.trans x8;have x6:=hn7.ext.trans x7;have x5:=hn6.ext.trans x6;have x4:=hn5.ext.trans x5;have x3:=hn4.ext.trans x4;have x2:=hn3.ext.trans x3;have x1:=hn2.ext.trans x2;refine⟨b9,rfl,⟨b1,⟨b2,b3,b4,b5,b6,b7,b8⟩,[],[],fun k=>k=b1,fun _=>False,?_⟩,hn1.ext.trans x1⟩;refine⟨?_,?_,hn9.At,⟨(MapAt.new hn2).ext x2,(MapAt.new hn3).ext x3,(MapAt.new hn4).ext x4,(MapAt.new hn5).ext x5,(MapAt.new hn6).ext x6,(MapAt.new hn7).ext x7,(MapAt.new hn8).ext x8⟩,?_,?_,fun k hk=>hk.elim,rfl,fun i d r hd=>by simp at hd⟩
 · intro k hk
   simp only[CwB.all,List.mem_cons,List.not_mem_nil,or_false] at hk;omega
 · simp[CwB.all]
   omega
 · exact(Qa0.new (S:=fun k=>k=b1) hn1 rfl).keep fun k hk hs=>⟨x1.block k hk,hs⟩
 · rintro k rfl
   refine⟨by omega,by omega,?_,fun h=>h⟩;simp only[CwB.all,List.mem_cons,List.not_mem_nil,or_false];omega
theorem Qix:Tryz.prog.underlying 203=some (.map 9 283):=by kernel_rfl
theorem Q8u:Tryz.prog.underlying 283=some (.slice 282):=by kernel_rfl
def hist (l:List Ev) (person:ByteArray):List Ev:=l.filter fun e=>decide (e.person=person)
theorem Qnr {w:World} {T:Nat→Prop} {D:List (Ev×SV)} {rs:List Row} (h:Qg3 w T D rs) (person:ByteArray):(Qak D person).map (·.1)=hist (evs rs) person:=by
 rw[← h.evs];unfold Qak hist;rw[List.filter_map]
 rfl
theorem Qr4 (w:World) (S:Nat→Prop) (p:Nat) (half:Int) (rs:List Row) (h:Qar w S p half rs) (person:ByteArray) (hl:rs.length<1000000) :
 Cal Tryz.prog 151 [.pointer (some ⟨p,0,none⟩),.string person] w fun r w'=>∃ A c,r = .slice A (hist (evs rs) person).length c∧Own evC 8 38 w.heap.size w' A c (hist (evs rs) person)∧Ext w w':=by
 obtain⟨bp,b,D,L,R,Tg,h⟩:=h;have hhd:=Qnr h.tags person;rw[← hhd];have hown:=(h.rows.own person).1
 have hdl:(Qak D person).length≤rs.length:=by
  rw[← h.tags.len];exact List.length_filter_le _ _
 refine Fi Tryz.func151 rfl _ rfl rfl (Hh ?_);refine⟨.map (some bp),h.head.one rfl,Hh ?_⟩;refine⟨_,h.rows.look Qix Xc (e:=ty283) ty283_ok rfl person Qm,Hh ?_⟩;generalize Qak D person=row at *;generalize (rowAt L person).1=A at *;generalize (rowAt L person).2=c at *;have hsl:=hown.sl Qh1
 refine Qh Qa (fun(q:Nat×Option Addr×Nat) w'=>q.1≤row.length∧Ext w w'∧Own evC 8 38 w.heap.size w' q.2.1 q.2.2 ((row.take q.1).map (·.1)))
  (fun | (k,A',c') => [(13,.slice A row.length c),(14,.int .i64 row.length),(15,.int .i64 k),(5,.slice A' k c')]) (fun q=>row.length-q.1) (0,none,0) ⟨by simp,Ext.refl _,by simpa using Own.nil⟩ Rr ?_
 rintro ⟨k,A',c'⟩ w1 ⟨hk,hx1,hown1⟩;simp only at hk hown1
 conv=>whnf
 constructor
 · intro hlt
   have hlt:k<row.length:=by simpa using hlt
   have hkl:((row.take k).map (·.1)).length=k:=by simp;omega
   have htk:(row.take (k+1)).map (·.1)=(row.take k).map (·.1) ++ [(row[k]).1]:=by
    rw[List.take_succ_eq_append_getElem hlt,List.map_append];rfl
   obtain⟨a,hA,hc⟩:=(hsl.ext hx1).get hlt;subst hA;generalize row[k]=d at hc htk
   conv=>whnf
   refine⟨a,Ix,Hh ?_⟩;refine⟨Qhc d,⟨rfl,hc⟩,Hh ?_⟩;intro b2 w2 hn2;conv=>whnf
   refine Qd Qa (e:=ty282) rfl hn2.At rfl rfl rfl (Qh2 d) fun w3 h3 ho3 => ?_
   have h3':At w3 b2 282 ([]++(evC d.1 ++ [.slice d.2.1 d.2.2.1 d.2.2.2])):=h3;have e2:=hn2.block;have hx3:Ext w1 w3:=ho3.ext hn2.ext (by omega)
   conv=>whnf
   refine⟨evC d.1,⟨rfl,At.sub h3'⟩,Hh ?_⟩;intro b4 w4 hn4;conv=>whnf
   have hx4:=hx3.trans hn4.ext;have hla:Value.slice A' k c' = .slice A' ((row.take k).map (·.1)).length c':=by rw[hkl]
   rw[hla];refine Qgl (news := [d.1]) (hown1.ext hx4) (Qbd Xz hn4) (by simp;omega) (Nat.le_trans hx1.size hx4.size) ?_;intro A2 c2 w5 hown5 hg5 hA5;rw[← htk] at hown5 ⊢;have hk1:((row.take (k+1)).map (·.1)).length=k+1:=by simp;omega
   rw[hk1]
   conv=>whnf
   refine⟨_,wrap_succ (by omega),Hh ?_⟩;refine⟨(k+1,A2,c2),by simp only;omega,⟨by simp only;omega,Qr (hx1.trans hx4) hg5 (Q9f hown1),hown5⟩,Rr⟩
 · intro hge
   have hge:k=row.length:=by simp at hge;omega
   subst hge;rw[List.take_length] at hown1
   conv=>whnf
   exact⟨A',c',by simp,hown1,hx1⟩
theorem Ql7:Qt2 Tryz.prog 15:=⟨_,Tryz.func15,rfl,rfl⟩
theorem Qpa (l:List ByteArray) (A:Option Addr) (c base:Nat) (x:ByteArray) (w:World) (h:Own Qav 1 9 base w A c l) (hl:l.length<1000000000000) :
 Cal Tryz.prog 15 [.slice A l.length c,.string x] w fun r w'=>r = .bool (Lib.containsS l x)∧w'=w:=by
 cases l with
 | nil =>
   refine Qa3 Ql7 (Tryz.slices_Contains_string_empty A c x w) fun w' hw=>⟨?_,hw⟩
   have:Lib.containsS [] x=false:=by
    cases hb:Lib.containsS [] x with
    | false=>rfl
    | true=>rw[Lib.containsS_iff] at hb;simp at hb
   rw[this]
 | cons y l =>
   rcases h.2 with⟨hv,h0⟩ | ⟨g,cap,cur,hv,hb,hg,h1⟩
   · simp at h0
   · have hA:A=some ⟨g,0,none⟩:=by injection hv
     subst hA;have hsl:=Own.sl Xi h;refine Qa3 Ql7 (Tryz.slices_Contains_string g 0 (y :: l).length c (y :: l) x w (Nat.le_refl _) (by omega) ?_) fun w' hw=>⟨by rw[List.take_length],hw⟩
     intro j hj;obtain⟨a,ha,hc⟩:=hsl.get hj;have ha':(⟨g,0,none⟩:Addr)=a:=by injection ha
     subst ha';have:=Qv hc;rw[Nat.mul_one,Qz] at this;rw[Nat.zero_add,this,List.getD_eq_getElem?_getD,List.getElem?_eq_getElem hj];rfl
theorem Qle {w:World} {A:Option Addr} {c base:Nat} {l:List ByteArray} {R:Value→World→Prop} {ty:TypeId} (hown:Own Qav 1 9 base w A c l) {B:Option Addr} {cB:Nat} {news:List ByteArray} (hs:SlT w B news) (hl:l.length+news.length<1000000000000) (hbase:base≤w.heap.size)
 (h:∀ A' c' w',Own Qav 1 9 base w' A' c' (l++news)→w.grownBy w' (A.map (·.block))→(A'=A∨A'.map (·.block)=A.map (·.block)∨A'.map (·.block)=some w.heap.size)→R (.slice A' (l++news).length c') w') :
 Qhr Tryz.prog (Builtin.append_ #[60,60] ty [.slice A l.length c,.slice B news.length cB].toArray) w R :=
 Qdk (bytes:=16) ty9_ok Xdd by9 rfl rfl (by decide) Xi Qyi hown hs (by omega) (by omega) hbase h
def Qcg (l:List ByteArray) (t:ByteArray):List ByteArray:=if(Qn t && !Lib.containsS l t)=true then l ++ [t] else l
def Qbr (tg:List ByteArray):List ByteArray:=tg.foldl Qcg []
theorem Q1h (tg:List ByteArray) (k:Nat) (h:k<tg.length):Qbr (tg.take (k+1))=Qcg (Qbr (tg.take k)) tg[k]:=by
 unfold Qbr;rw[List.take_succ_eq_append_getElem h,List.foldl_append];rfl
theorem Qto (tg:List ByteArray):(Qbr tg).length≤tg.length:=by
 have:∀ (tg l:List ByteArray),(tg.foldl Qcg l).length≤l.length+tg.length:=by
  intro tg
  induction tg with
  | nil=>intro l;simp
  | cons t tg ih =>
    intro l;have h1:=ih (Qcg l t);have h2:(Qcg l t).length≤l.length+1:=by unfold Qcg;split <;> simp
    simp only[List.foldl_cons,List.length_cons];omega
 have:=this tg []
 simpa [Qbr] using this
set_option maxHeartbeats 2000000 in
theorem Qlj (w:World) (S:Nat→Prop) (p:Nat) (half:Int) (rs:List Row) (h:Qar w S p half rs) (hg:Gl w) (hS:∀ k,S k→10≤k) (e:Ev) (hm:Xn e=true) (hk:e.kind<11) (ht:e.text.size<1000000) (hl:rs = []∨Qx (Qek (evs rs)) e=true) (hlen:rs.length<1000000)
 (tg:List ByteArray) (TA:Option Addr) (tc:Nat) (hts:SlT w TA tg) (hta:∀ a,TA=some a→¬ S a.block) (htl:tg.length<1000000) :
 Cal Tryz.prog 99 [.pointer (some ⟨p,0,none⟩),evV e,.slice TA tg.length tc] w fun r w'=>r = .bool true∧Qar w' (Grow S w) p half (rs ++ [(e,Qbr tg)])∧Mod S w w':=by
 obtain⟨bp,b,D,L,R,Tg,h⟩:=h;have hplt:=h.head.lt;have hSp:S p:=h.mine p (by simp);have hblt:∀ k∈b.all,k<w.heap.size:=h.maps.lt;have hpn:p∉b.all:=(List.nodup_cons.1 h.nodup).1;refine Fi Tryz.func99 rfl _ rfl rfl (Hh ?_);intro b1 w1 hn1;have hb1:=hn1.At;have hb1e:b1=w.heap.size:=hn1.block
 conv=>whnf
 refine⟨evC e,⟨rfl,hb1.all⟩,Hh ?_⟩;refine(Qkv e w1 (hg.ext hn1.ext) (by omega)).mono ?_;rintro _ w2 ⟨rfl,hx2⟩;have hb2:=hb1.ext hx2;have hxx2:=hn1.ext.trans hx2;have hp2:=h.head.ext hxx2
 conv=>whnf
 refine⟨_,fun _=>hp2.one rfl,Hh ?_⟩
 have hcond:((!Xn e)||decide (1048576≤(rs.length:Int)))=false:=by
  rw[hm,decide_eq_false (by omega)];rfl
 constructor
 · intro hc
   have hc:=hcond.symm.trans hc
   cases hc
 intro _;clear hcond
 conv=>whnf
 refine Xh Qa (ι:=Unit) (fun _ => [(0,.pointer (some ⟨p,0,none⟩)),(4,.pointer (some ⟨b1,0,none⟩)),(2,.slice TA tg.length tc)]) (fun _ w'=>w'=w2) ?_ ?_
 · (conv=>whnf)
   refine⟨_,hb2.one rfl,Hh ?_⟩;refine Xh Qa (ι:=Bool) (fun i => [(0,.pointer (some ⟨p,0,none⟩)),(4,.pointer (some ⟨b1,0,none⟩)),(2,.slice TA tg.length tc),(22,.bool i)]) (fun i w'=>i=false∧w'=w2) ?_ ?_
   · (conv=>whnf)
     refine⟨fun q => ?_,fun q => ?_⟩
     · simp at q;omega
     conv=>whnf
     refine⟨fun q => ?_,fun q => ?_⟩
     · simp at q;omega
     conv=>whnf
     refine⟨fun q => ?_,fun q => ?_⟩
     · simp at q;omega
     conv=>whnf
     exact⟨_,⟨by simp;omega,rfl⟩,⟨rfl,rfl,rfl,rfl,trivial⟩⟩
   rintro _ w3 ⟨rfl,rfl⟩
   conv=>whnf
   refine⟨fun q => ?_,fun q => ?_⟩
   · cases q
   conv=>whnf
   exact⟨(),rfl,Rr⟩
 rintro _ _ rfl
 conv=>whnf
 refine Dr .same [0,1,2,3,4,5,6,7,8,9,10] [11,12,13] (Hh ?_);rename_i w2;have hb3:At w2.drew b1 _ _:=hb2;have hx3:Ext w w2.drew:=hxx2.drew;generalize w2.drew=w3 at hb3 hx3 ⊢;have hp3:=h.head.ext hx3;refine⟨_,hp3.one rfl,Hh ?_⟩;refine⟨evC e,fun _=>⟨rfl,hb3.all⟩,Hh ?_⟩;refine⟨evC (Qek (evs rs)),fun _=>⟨rfl,At.sub (pre := [vi half,vi rs.length]) hp3⟩,Hh ?_⟩;refine⟨Unit,fun _ => .int .i64 (Qfz e (Qek (evs rs))),fun _ w'=>Ext w3 w',(),fun _=>(Qbb e (Qek (evs rs)) w3).mono (fun r w' h=>⟨(),h.1,h.2⟩),fun _ w4 h4 => ?_⟩
 have hx34:Ext w3 w4:=by
  rcases h4 with⟨_,h⟩ | ⟨_,h⟩
  · exact h
  · rw[h];exact Ext.refl _
 clear h4
 have hcond:(decide (0<(rs.length:Int))&&decide (Qfz e (Qek (evs rs))≤0))=false:=by
  rcases hl with rfl | hl
  · rfl
  · rw[Qo1 hl];simp
 conv=>whnf
 constructor
 · intro hc
   have hc:=hcond.symm.trans hc
   cases hc
 intro _;clear hcond;have hx4:=hx3.trans hx34;have hb4:=hb3.ext hx34;have hp4:=h.head.ext hx4
 conv=>whnf
 refine⟨_,hp4.one rfl,Hh ?_⟩;refine⟨((rs.length+1:Nat):Int),wrap_succ (by omega),Hh ?_⟩;refine Qd Qa (e:=ty3) rfl hp4 rfl rfl rfl (by simp[Qg,Value.oneCell']) fun w5 h5 ho5 => ?_
 have hb5:=ho5.at_ hb4 (by omega)
 conv=>whnf
 refine⟨evC e,⟨rfl,hb5.all⟩,Hh ?_⟩;refine Qd Qa (e:=ty38) rfl h5 rfl rfl rfl (Qbo e) fun w6 h6 ho6 => ?_
 have hb6:=ho6.at_ hb5 (by omega);have hp6:At w6 p 207 (crC half (rs.length+1:Nat) e bp b):=h6;have hm6:Mod S w w6:=(Mod.of_ext hx4).trans ((Qi ho5 hSp).trans (Qi ho6 hSp));have hsame6:∀ k,k<w.heap.size→k≠p→w6.heap[k]? = w.heap[k]? := fun k hk1 hk2=>by rw[ho6.block k hk2,ho5.block k hk2,hx4.block k hk1]
 have hs6:w.heap.size<w6.heap.size:=by have:=hb6.lt;omega
 clear h6 h5 ho5 ho6 hp4 hb4 hb5 hx34 hx3 hb3 hp3 hb2 hx4
 conv=>whnf
 refine⟨evC e,⟨rfl,hb6.all⟩,Hh ?_⟩;intro b7 w7 hn7;conv=>whnf
 have e7:b7=w6.heap.size:=hn7.block;refine Qd Qa (e:=ty282) rfl hn7.At rfl rfl rfl (Qh2 (e,(none,0,0))) fun w8 h8 ho8 => ?_
 have hx8:Ext w6 w8:=ho8.ext hn7.ext (by omega);have h8':At w8 b7 282 (Qhc (e,(none,0,0))):=h8;clear h8 ho8 hn7
 have hts6:SlT w6 TA tg:=fun i x hi=>by
  obtain⟨a,ha,hc⟩:=hts i x hi
  exact⟨a,ha,fun j v hj=>Mod.cell hm6 (hc j v hj) (by rw[add_block,add_block];exact hta a ha)⟩
 conv=>whnf
 refine Qh Qa (fun(q:Nat×Option Addr×Nat) w'=>q.1≤tg.length∧Ext w6 w'∧At w' b7 282 (Qhc (e,(q.2.1,(Qbr (tg.take q.1)).length,q.2.2)))∧Own Qav 1 9 (w6.heap.size+1) w' q.2.1 q.2.2 (Qbr (tg.take q.1)))
  (fun | (k,_,_) => [(0,.pointer (some ⟨p,0,none⟩)),(4,.pointer (some ⟨b1,0,none⟩)),(7,.pointer (some ⟨b7,0,none⟩)),(54,.slice TA tg.length tc),(55,.int .i64 tg.length),(56,.int .i64 k)]) (fun q=>tg.length-q.1) (0,none,0) ⟨by simp,hx8,h8',by simpa [Qbr] using Own.nil⟩ Rr ?_
 clear h8' hx8;rintro ⟨k,A,c⟩ w8 ⟨hkt,hx8,h8,hown8⟩;simp only at hkt h8 hown8;have hdlen:=Qto (tg.take k);have hdlen2:(Qbr (tg.take k)).length≤k:=by rw[List.length_take] at hdlen;omega
 conv=>whnf
 constructor
 · intro hlt
   have hlt:k<tg.length:=by simpa using hlt
   have hstep:=Q1h tg k hlt;obtain⟨a,hA,hc⟩:=(hts6.ext hx8).get hlt;subst hA;generalize tg[k]=t at hc hstep;generalize hld:Qbr (tg.take k)=l at *
   conv=>whnf
   refine Xh Qa (ι:=Option Addr×Nat) (fun _ => [(0,.pointer (some ⟨p,0,none⟩)),(4,.pointer (some ⟨b1,0,none⟩)),(7,.pointer (some ⟨b7,0,none⟩)),(54,.slice (some a) tg.length tc),(55,.int .i64 tg.length),(56,.int .i64 k)])
    (fun q w'=>Ext w6 w'∧At w' b7 282 (Qhc (e,(q.1,(Qcg l t).length,q.2)))∧Own Qav 1 9 (w6.heap.size+1) w' q.1 q.2 (Qcg l t)) ?_ ?_
   · (conv=>whnf)
     refine⟨a,Ix,Hh ?_⟩;refine⟨.string t,Qv hc,Hh ?_⟩;refine(Qbi t w8).mono ?_;rintro _ w9 ⟨rfl,hw9⟩;replace hw9:=hw9.symm;subst hw9
     conv=>whnf
     refine⟨.slice A l.length c,fun _=>h8.one rfl,Hh ?_⟩;refine⟨Unit,fun _ => .bool (Lib.containsS l t),fun _ w'=>w'=w8,(),fun _=>(Qpa l A c _ t w8 hown8 (by omega)).mono (fun r w' h=>⟨(),h.1,h.2⟩),fun _ w9 h9 => ?_⟩
     have hw9:w8=w9:=by
      rcases h9 with⟨_,h⟩ | ⟨_,h⟩ <;> exact h.symm
     clear h9;subst hw9
     conv=>whnf
     constructor
     · intro hcd
       have hcd:(Qn t && !Lib.containsS l t)=true:=hcd;have hts:Qcg l t=l ++ [t]:=by unfold Qcg;rw[if_pos hcd]
       rw[hts]
       conv=>whnf
       refine⟨.slice A l.length c,h8.one rfl,Hh ?_⟩;intro b10 w10 hn10;conv=>whnf
       have e10:=hn10.block;have hs8:=hx8.size;have hb7lt:=h8.lt;refine Qle (news := [t]) (hown8.ext hn10.ext) (Qbd Xi hn10) (by simp;omega) (by have:=hn10.ext.size;omega) ?_;intro A2 c2 w11 hown11 hg11 hA11
       have h811:At w11 b7 282 (Qhc (e,(A,l.length,c))):=by
        have h1:=h8.ext hn10.ext;refine(hg11.block b7 h1.lt ?_).trans h1;intro e'
        cases A with
        | none=>simp at e'
        | some a' =>
          have:=(hown8.block (a:=a') rfl).1;have:a'.block=b7:=by simpa using e'.symm
          omega
       have hx11:Ext w6 w11:=Qr (hx8.trans hn10.ext) hg11 fun k hk'=>by
        cases A with
        | none=>simp at hk'
        | some a' =>
          have h1:=(hown8.block (a:=a') rfl).1;have h2:a'.block=k:=by simpa using hk'
          omega
       conv=>whnf
       refine Qd Qa (e:=ty60) rfl h811 rfl rfl rfl (by simp[Qg,Value.oneCell']) fun w12 h12 ho12 => ?_
       conv=>whnf
       refine⟨(A2,c2),⟨ho12.ext hx11 (by omega),h12,hown11.keep fun a' ha'=>ho12.block _ ?_⟩,Rr⟩;have:=(hown11.block ha').1;omega
     · intro hcd
       have hcd:(Qn t && !Lib.containsS l t)=false:=hcd;have hts:Qcg l t=l:=by unfold Qcg;rw[hcd];rfl
       rw[hts]
       conv=>whnf
       exact⟨(A,c),⟨hx8,h8,hown8⟩,Rr⟩
   rintro ⟨A2,c2⟩ w9 ⟨hx9,h9,hown9⟩
   conv=>whnf
   refine⟨_,wrap_succ (by omega),Hh ?_⟩
   exact⟨(k+1,A2,c2),by simp only;omega,⟨by simp only;omega,hx9,by simp only[hstep];exact h9,by simp only[hstep];exact hown9⟩,Rr⟩
 intro hge;have hge:k=tg.length:=by simp at hge;omega
 subst hge;rw[List.take_length] at h8 hown8;clear hdlen hdlen2;have hp8:=hp6.ext hx8;have hb8:=hb6.ext hx8;have hm8:Mod S w w8:=hm6.trans (Mod.of_ext hx8);have hRlt:∀ k,R k→k<w.heap.size∧k≠p:=fun k hk'=>⟨(h.rset k hk').2.1,fun q=>(h.rset k hk').2.2.1 (by simp[q])⟩
 have hsame8:∀ k,k<w.heap.size→k≠p→w8.heap[k]? = w.heap[k]? := fun k hk1 hk2=>(hx8.block k (by omega)).trans (hsame6 k hk1 hk2)
 have hrows8:Qa0 Qhc 9 282 w8 R bp (Qak D) L:=h.rows.keep fun k hk1 hk2=>⟨hsame8 k hk1 (hRlt k hk2).2,hk2⟩
 have hs8:=hx8.size;have hb7lt:=h8.lt
 conv=>whnf
 generalize hA0:(rowAt L e.person).1=A0;generalize hc0:(rowAt L e.person).2=c0;have hrl:=h.rows.own e.person;rw[hA0,hc0] at hrl;have hA0b:∀ a,A0=some a→R a.block∧a.block<w.heap.size∧a.block≠p∧a.block≠bp:=fun a ha=>⟨(hrl.2 a ha).1,(hRlt _ (hrl.2 a ha).1).1,(hRlt _ (hrl.2 a ha).1).2,(hrl.2 a ha).2⟩
 have hbpR:=h.rows.mine;refine Dr (.mods (fun k=>∃ a,A0=some a∧k=a.block)) [0,1,2,3,4,5,6,7,8,9,10,11,12,13,14,15] [16] (Hh ?_);replace hp8:At w8.drew p _ _:=hp8;replace hb8:At w8.drew b1 _ _:=hb8;replace h8:At w8.drew b7 _ _:=h8;replace hrows8:Qa0 Qhc 9 282 w8.drew R bp (Qak D) L:=hrows8.keep fun k _ hk2=>⟨rfl,hk2⟩
 replace hm8:Mod S w w8.drew:=hm8.trans (Mod.drew _);replace hown8:Own Qav 1 9 (w6.heap.size+1) w8.drew A c (Qbr tg):=hown8;replace hsame8:∀ k,k<w.heap.size→k≠p→w8.drew.heap[k]? = w.heap[k]? := hsame8;have hsz:w8.drew.heap.size=w8.heap.size:=rfl;generalize w8.drew=w9 at hp8 hb8 h8 hrows8 hm8 hown8 hsame8 hsz ⊢
 have hnb:∀ k,w.heap.size≤k∨k=p∨k=bp→¬ ∃ a,A0=some a∧k=a.block:=by
  rintro k hk' ⟨a,ha,rfl⟩;obtain⟨q1,q2,q3,q4⟩:=hA0b a ha;omega
 refine⟨.map (some bp),⟨hp8.one rfl,by rw[add_block];exact hnb p (.inr (.inl rfl))⟩,Hh ?_⟩;refine⟨_,⟨hb8.one rfl,by rw[add_block];exact hnb b1 (.inl (by omega))⟩,Hh ?_⟩;refine⟨.map (some bp),⟨hp8.one rfl,by rw[add_block];exact hnb p (.inr (.inl rfl))⟩,Hh ?_⟩;refine⟨_,⟨hb8.one rfl,by rw[add_block];exact hnb b1 (.inl (by omega))⟩,Hh ?_⟩
 refine⟨.slice A0 (Qak D e.person).length c0,(by
  have:=hrows8.look Qix Xc (e:=ty283) ty283_ok rfl e.person (Qsb (S:=fun k=>∃ a,A0=some a∧k=a.block) hrows8.map.lt (hnb bp (.inr (.inr rfl))));rw[hA0,hc0] at this
  exact this),Hh ?_⟩
 refine⟨Qhc (e,(A,(Qbr tg).length,c)),⟨rfl,h8.all,hnb b7 (.inl (by omega))⟩,Hh ?_⟩;intro b10 w10 hn10;refine⟨Mod.of_ext hn10.ext,Hh ?_⟩
 have hown10:Own Qhc 9 282 0 w10 A0 c0 (Qak D e.person):=by
  have:=(hrows8.own e.person).1;rw[hA0,hc0] at this
  exact this.ext hn10.ext
 have hdl:(Qak D e.person).length≤rs.length:=by
  rw[← h.tags.len];exact List.length_filter_le _ _
 refine Qdk (news := [(e,(A,(Qbr tg).length,c))]) ty282_ok Q8u by282 rfl rfl (by decide) Qh1 Qh2 hown10 (Qbd Qh1 hn10) (by simp;omega) (by simp;omega) (Nat.zero_le _) ?_;intro A2 c2 w11 hown11 hg11 hA11
 have hrow11:∀ k,A0.map (·.block)=some k→∃ a,A0=some a∧k=a.block:=by
  intro k hk'
  cases A0 with
  | none=>simp at hk'
  | some a=>exact⟨a,rfl,by simpa using hk'.symm⟩
 refine⟨Qac hg11 hrow11,?_⟩
 conv=>whnf
 have hbm11:MapAt w11 bp Value.string (toV (Qak D) L):=by
  refine(hrows8.map.ext hn10.ext).keep (hg11.block bp (hrows8.map.ext hn10.ext).lt ?_);intro e';obtain⟨a,ha,q⟩:=hrow11 bp e'.symm
  exact(hA0b a ha).2.2.2 q.symm
 refine Qq Qix (Qo Xc) hbm11 e.person _ fun w12 hm12 ho12 => ?_
 have hpush:=hrows8.push (k:=e.person) (r:=Qak D e.person ++ [(e,(A,(Qbr tg).length,c))]) (by simp) hn10.ext (by rw[hA0];exact hg11) (by rw[hA0];exact hA11) hown11 hm12 ho12;rw[Qzk] at hpush;have e10:=hn10.block;have hs10:=hn10.ext.size;have hs11:=hg11.size;have hs12:=ho12.size;have hbpc:=h.rset bp hbpR
 -- whatever is no row,and no map of rows,stays
 have hstay:∀ k,k<w9.heap.size→k≠bp→¬ (∃ a,A0=some a∧k=a.block)→w12.heap[k]? = w9.heap[k]? := by
  intro k hk1 hk2 hk3;rw[ho12.block k hk2,hg11.block k (by omega) (fun q=>hk3 (hrow11 k q.symm)),hn10.ext.block k hk1]
 have hbpn:bp≠p∧bp∉b.all:=⟨fun q=>hbpc.2.2.1 (by simp[q]),fun q=>hbpc.2.2.1 (by simp[q])⟩;have hp12:At w12 p _ _:=(hstay p hp8.lt (Ne.symm hbpn.1) (hnb p (.inr (.inl rfl)))).trans hp8;have hb12:At w12 b1 _ _:=(hstay b1 hb8.lt (by omega) (hnb b1 (.inl (by omega)))).trans hb8
 have hall:∀ k∈b.all,k≠p∧k≠bp∧¬ ∃ a,A0=some a∧k=a.block:=by
  intro k hk';refine⟨fun q=>hpn (q ▸ hk'),fun q=>hbpn.2 (q ▸ hk'),?_⟩;rintro ⟨a,ha,rfl⟩
  exact(h.rset _ (hA0b a ha).1).2.2.1 (by simp[hk'])
 have hmaps12:Qdo w12 b (X0 rs):=h.maps.keep fun k hk'=>by
  obtain⟨q1,q2,q3⟩:=hall k hk';have:=hblt k hk';rw[hstay k (by have:=hm8.size;omega) q2 q3,hsame8 k this q1]
 have hm12':Mod S w w12:=Qp hm8 ((Mod.of_ext hn10.ext).trans ((Qac hg11 fun k hk'=>by
  obtain⟨a,ha,q⟩:=hrow11 k hk';rw[q];exact .inl (h.rset _ (hA0b a ha).1).1).trans (Qi ho12 (.inl hbpc.1))))
 conv=>whnf
 refine⟨evC e,⟨rfl,hb12.all⟩,Hh ?_⟩;refine(Q4p w12 p half _ e bp b (X0 rs) hp12 hmaps12 h.nodup e rs.length (Qp4 rs) (by omega)).mono ?_;rintro _ w13 ⟨rfl,hc13,hm13⟩
 conv=>whnf
 have hs13:=hm13.size;have hp13:At w13 p _ _:=hp12.mod hm13 hpn
 have htg12:∀ k,Tg k→w12.heap[k]? = w.heap[k]? := by
  intro k hk';obtain⟨q1,q2,q3⟩:=h.tset k hk';have hkp:k≠p:=fun q=>q3 (by simp[q])
  rw[hstay k (by have:=hm8.size;omega) (fun q=>hbpc.2.2.2 (q ▸ hk')) ?_,hsame8 k q2 hkp];rintro ⟨a,ha,rfl⟩
  exact(h.rset _ (hA0b a ha).1).2.2.2 hk'
 refine⟨rfl,⟨bp,b,D ++ [(e,(A,(Qbr tg).length,c))],Q7 L e.person (A2,c2),fun k=>Grow R w9 k∧k<w13.heap.size,fun k=>Tg k∨(w6.heap.size+1≤k∧k<w9.heap.size),?_⟩,hm12'.trans (hm13.mono fun k _ hk'=>h.mine k (by simp[hk']))⟩;have hevs:evs (rs ++ [(e,Qbr tg)])=evs rs ++ [e]:=by simp[evs]
 refine⟨fun k hk' => .inl (h.mine k hk'),h.nodup,?_,?_,?_,?_,?_,?_,?_⟩
 · rw[hevs,Qse,List.length_append]
   exact hp13
 · rw[Qf3];exact hc13
 · refine hpush.keep fun k hk1 hk2=>⟨hm13.block k hk1 ?_,hk2,by omega⟩
   intro hin;rcases hk2 with hk2 | hk2
   · exact(h.rset k hk2).2.2.1 (by simp[hin])
   · have:=hblt k hin
     have:=hm8.size;omega
 · rintro k ⟨hk1,hk2⟩
   have:=hm8.size;rcases hk1 with hk1 | hk1
   · obtain⟨q1,q2,q3,q4⟩:=h.rset k hk1
     exact⟨.inl q1,hk2,q3,fun q=>q.elim q4 (fun q=>by omega)⟩
   · refine⟨.inr (by omega),hk2,fun hin => ?_,fun q => ?_⟩
     · rcases List.mem_cons.1 hin with q | q
       · omega
       · have:=hblt k q;omega
     · rcases q with q | q
       · have:=(h.tset k q).2.1;omega
       · omega
 · intro k hk1
   have:=hm8.size;rcases hk1 with hk1 | hk1
   · obtain⟨q1,q2,q3⟩:=h.tset k hk1
     exact⟨.inl q1,by omega,q3⟩
   · refine⟨.inr (by omega),by omega,fun hin => ?_⟩
     rcases List.mem_cons.1 hin with q | q
     · omega
     · have:=hblt k q;omega
 · rw[List.length_append,List.length_append,h.tags.len];rfl
 · intro i d r hd hr
   have hlD:=h.tags.len
   by_cases hi:i<D.length
   · rw[List.getElem?_append_left hi] at hd
     rw[List.getElem?_append_left (by omega)] at hr;obtain⟨q1,q2,q3,q4⟩:=h.tags.ev i d r hd hr;refine⟨q1,q2,Qcn q3 fun a ha => ?_,fun a ha => .inl (q4 a ha)⟩;have ht':=q4 a ha;have hz:=h.tset _ ht';rw[hm13.block _ (by have:=hm12'.size;omega) (fun hin=>hz.2.2 (by simp[hin])),htg12 _ ht']
   · have hil:i=D.length:=by
      have:=(List.getElem?_eq_some_iff.1 hd).1
      simp at this;omega
     subst hil;rw[List.getElem?_append_right (Nat.le_refl _),Nat.sub_self] at hd;rw[hlD,List.getElem?_append_right (Nat.le_refl _),Nat.sub_self] at hr;obtain rfl:(e,(A,(Qbr tg).length,c))=d:=by simpa using hd
     obtain rfl:(e,Qbr tg)=r:=by simpa using hr
     refine⟨rfl,rfl,?_,fun a ha => .inr ⟨(hown8.block ha).1,(hown8.block ha).2⟩⟩;refine Qcn (hown8.sl Xi) fun a ha => ?_
     have h1:=(hown8.block ha).1;have h2:=(hown8.block ha).2;rw[hm13.block _ (by omega) (fun hin=>by have:=hblt _ hin;omega),hstay _ h2 (by omega) (hnb _ (.inl (by omega)))]
section
variable {κ:Type} {β:Type} {enc:κ→Value} {I:World→(Nat→Prop)→Nat→β→Prop} {w w1:World} {S S':Nat→Prop} {bm:Nat} {m:List (κ×β)} {P:Program} {mt kt et:TypeId}
structure Local (I:World→(Nat→Prop)→Nat→β→Prop):Prop where
 keep:∀ {w w1:World} {S S':Nat→Prop} {b:Nat} {v:β},I w S b v→(∀ k,k<w.heap.size→S k→w1.heap[k]? = w.heap[k]? ∧ S' k)→I w1 S' b v
 lt:∀ {w:World} {S:Nat→Prop} {b:Nat} {v:β},I w S b v→b<w.heap.size∧S b
structure Q13 (enc:κ→Value) (I:World→(Nat→Prop)→Nat→β→Prop) (w:World) (S:Nat→Prop) (bm:Nat) (m:List (κ×β)) (L:List (κ×(Nat×β))) (col:Nat→Option κ):Prop where
 mine:S bm
 map:MapAt w bm enc (L.map fun x=>(x.1,Value.map (some x.2.1)))
 eq:(L.map fun x=>(x.1,x.2.2))=m
 own:∀ x∈L,I w (fun k=>S k∧k≠bm∧col k=some x.1) x.2.1 x.2.2
def MapOf (enc:κ→Value) (I:World→(Nat→Prop)→Nat→β→Prop) (w:World) (S:Nat→Prop) (bm:Nat) (m:List (κ×β)):Prop:=∃ L col,Q13 enc I w S bm m L col
theorem Q13.keys {L:List (κ×(Nat×β))} {col:Nat→Option κ} (h:Q13 enc I w S bm m L col):L.Pairwise (fun x y=>x.1≠y.1):=by
 have:=h.map.keys;rw[List.pairwise_map] at this
 exact this
theorem MapOf.keep (hI:Local I) (h:MapOf enc I w S bm m) (hk:∀ k,k<w.heap.size→S k→w1.heap[k]? = w.heap[k]? ∧ S' k):MapOf enc I w1 S' bm m:=by
 obtain⟨L,col,h⟩:=h;refine⟨L,col,(hk bm h.map.lt h.mine).2,h.map.keep (hk bm h.map.lt h.mine).1,h.eq,fun x hx=>hI.keep (h.own x hx) fun k hk1 hk2 => ?_⟩;obtain⟨q1,q2⟩:=hk k hk1 hk2.1
 exact⟨q1,q2,hk2.2⟩
theorem MapOf.lt (h:MapOf enc I w S bm m):bm<w.heap.size∧S bm:=by
 obtain⟨L,col,h⟩:=h
 exact⟨h.map.lt,h.mine⟩
theorem Qvn (hI:Local I):Local (fun w S b (m:List (κ×β))=>MapOf enc I w S b m) where
 keep h hk:=MapOf.keep hI h hk
 lt h:=MapOf.lt h
theorem MapOf.new {b:Nat} (hn:New w w1 b (.map #[] 0)) (hb:S b):MapOf enc I w1 S b []:=⟨[],fun _=>none,hb,MapAt.new hn,rfl,by simp⟩
variable [DecidableEq κ]
theorem Qf1 {γ:Type} (f:β→γ) (k:κ):∀ l:List (κ×β),Qe (l.map fun x=>(x.1,f x.2)) k=(Qe l k).map f
 | []=>rfl
 | x :: l=>by
   simp only[List.map_cons,Qe]
   by_cases e:k=x.1
   · rw[if_pos e,if_pos e];rfl
   · rw[if_neg e,if_neg e];exact Qf1 f k l
theorem Qgt {γ:Type} (f:β→γ) (k:κ) (v:β):∀ l:List (κ×β),(Q7 l k v).map (fun x=>(x.1,f x.2))=Q7 (l.map fun x=>(x.1,f x.2)) k (f v)
 | []=>rfl
 | x :: l=>by
   simp only[List.map_cons,Q7]
   by_cases e:k=x.1
   · rw[if_pos e,if_pos e];rfl
   · rw[if_neg e,if_neg e,List.map_cons,Qgt f k v l]
theorem Qq5 {k:κ} {v:β} {y:κ×β} {l:List (κ×β)} (hp:l.Pairwise (fun x y=>x.1≠y.1)) (hy:y∈Q7 l k v):y=(k,v)∨(y∈l∧y.1≠k):=by
 by_cases e:y.1=k
 · left
   have h1:=Qcd (X5 (k:=k) (v:=v) hp) (k:=y.1) (v:=y.2) (by simpa using hy);rw[e,Q8] at h1;have:v=y.2:=by simpa using h1
   rw[this,← e]
 · right
   rcases X4 hy with h | h
   · rw[h] at e;exact absurd rfl e
   · exact⟨h,e⟩
theorem Qq6 {k:κ} {v:β}:∀ {l:List (κ×β)},Qe l k=some v→Q7 l k v=l
 | [],h=>by simp[Qe] at h
 | x :: l,h=>by
   simp only[Qe] at h;simp only[Q7]
   by_cases e:k=x.1
   · rw[if_pos e] at h ⊢
     have:x.2=v:=by simpa using h
     rw[← this]
   · rw[if_neg e] at h ⊢
     rw[Qq6 h]
theorem MapOf.look (hI:Local I) (h:MapOf enc I w S bm m) (ht:P.underlying mt=some (.map kt et)) (K:Qnc P kt enc) {e:TyE} (he:Q5 P et=some e) (hz:e.zero = .map none) (k:κ) :
 (Qe m k=none∧(∀ cl,Kept cl w bm→RdS P cl w (Instr.lookup mt (.map (some bm)) (enc k) false) (.map none))) ∨
 ∃ b v Sk,Qe m k=some v∧(∀ cl,Kept cl w bm→RdS P cl w (Instr.lookup mt (.map (some bm)) (enc k) false) (.map (some b)))∧I w Sk b v∧(∀ j,Sk j→S j∧j≠bm) ∧
   ∀ (w1:World) (v':β),I w1 (Grow Sk w) b v'→Mod Sk w w1→MapOf enc I w1 (Grow S w) bm (Q7 m k v'):=by
 obtain⟨L,col,h⟩:=h;have hlk:=fun cl (hc:Kept cl w bm)=>X7 ht K he hc h.map k
 have hml:Qe m k=(Qe L k).map (·.2):=by rw[← h.eq];exact Qf1 (fun p:Nat×β=>p.2) k L
 have hlv:Qe (L.map fun x=>(x.1,Value.map (some x.2.1))) k=(Qe L k).map (fun p=>Value.map (some p.1)):=Qf1 (fun p:Nat×β=>Value.map (some p.1)) k L
 cases hL:Qe L k with
 | none =>
   left
   rw[hL] at hml hlv;refine⟨hml,fun cl hc => ?_⟩;have:=hlk cl hc;rw[hlv,hz] at this
   exact this
 | some p =>
   right
   rw[hL] at hml hlv;have hin:=Xt hL;refine⟨p.1,p.2,fun j=>S j∧j≠bm∧col j=some k,hml,fun cl hc => ?_,h.own _ hin,fun j hj=>⟨hj.1,hj.2.1⟩,fun w1 v' hI1 hm1 => ?_⟩
   · have:=hlk cl hc
     rw[hlv] at this
     exact this
   · refine⟨Q7 L k (p.1,v'),fun j=>if j<w.heap.size then col j else some k,.inl h.mine,?_,?_,fun x hx => ?_⟩
     · have e1:(Q7 L k (p.1,v')).map (fun x=>(x.1,Value.map (some x.2.1)))=L.map fun x=>(x.1,Value.map (some x.2.1)):=by
        rw[Qgt (fun q:Nat×β=>Value.map (some q.1))]
        exact Qq6 hlv
       rw[e1]
       exact h.map.keep (hm1.block bm h.map.lt (fun q=>q.2.1 rfl))
     · rw[Qgt (fun q:Nat×β=>q.2),h.eq]
     · have hbl:=h.map.lt
       rcases Qq5 h.keys hx with rfl | ⟨hxL,hne⟩
       · refine hI.keep hI1 fun j _ hj2=>⟨rfl,?_⟩
         rcases hj2 with hj2 | hj2
         · refine⟨.inl hj2.1,hj2.2.1,?_⟩
           by_cases q:j<w.heap.size
           · simp only[if_pos q];exact hj2.2.2
           · simp only[if_neg q]
         · refine⟨.inr hj2,by omega,?_⟩
           simp only[if_neg (Nat.not_lt.2 hj2)]
       · refine hI.keep (h.own x hxL) fun j hj1 hj2=>⟨hm1.block j hj1 fun q => ?_,.inl hj2.1,hj2.2.1,?_⟩
         · have:=hj2.2.2
           rw[q.2.2] at this
           exact hne (by simpa using this.symm)
         · simp only[if_pos hj1];exact hj2.2.2
theorem MapOf.insert (hI:Local I) (h:MapOf enc I w S bm m) (ht:P.underlying mt=some (.map kt et)) (K:Qnc P kt enc) (k:κ) (hk:Qe m k=none) {b:Nat} {v:β} (hx:Ext w w1) (hb:I w1 (fun j=>w.heap.size≤j) b v) {R:Value→World→Prop}
 (hR:∀ w2,MapOf enc I w2 (Grow S w) bm (Q7 m k v)→Only w1 w2 bm→R undef w2):Qub P (Instr.mapUpdate mt (.map (some bm)) (enc k) (.map (some b))) w1 R:=by
 obtain⟨L,col,h⟩:=h;refine Qq ht K (h.map.ext hx) k _ fun w2 hm2 ho2=>hR w2 ⟨Q7 L k (b,v),fun j=>if j<w.heap.size then col j else some k,.inl h.mine,?_,?_,fun x hx' => ?_⟩ ho2
 · rw[Qgt (fun q:Nat×β=>Value.map (some q.1))];exact hm2
 · rw[Qgt (fun q:Nat×β=>q.2),h.eq]
 · have hbl:=h.map.lt
   have hml:Qe m k=(Qe L k).map (·.2):=by rw[← h.eq];exact Qf1 (fun p:Nat×β=>p.2) k L
   have hLk:Qe L k=none:=by
    rw[hk] at hml
    cases hq:Qe L k with
    | none=>rfl
    | some q=>rw[hq] at hml;simp at hml
   rcases Qq5 h.keys hx' with rfl | ⟨hxL,hne⟩
   · refine hI.keep hb fun j _ hj2=>⟨ho2.block j (by omega),.inr hj2,by omega,?_⟩
     simp only[if_neg (Nat.not_lt.2 hj2)]
   · refine hI.keep (h.own x hxL) fun j hj1 hj2=>⟨(ho2.block j hj2.2.1).trans (hx.block j hj1),.inl hj2.1,hj2.2.1,?_⟩
     simp only[if_pos hj1];exact hj2.2.2
end
end Go.Proofs.YtohkipkjleldpaaGreatDoor
