import Derived.Test.YtpdonaienhociaaGreatDoorGO
import Derived.Test.YtpdonaienhociaaGreatDoorHPl8
set_option linter.all false
namespace Go.Se
open Go.RowKit
section
variable {P:Program} {T:Tab} {N:Nat} {cl:Cl} {ops:List Oper}
end
inductive Pq where
 | done
 | one (i:Nat) (p:Pq)
 | two (i:Nat) (p:Pq) (j:Nat) (q:Pq)
 | three (i:Nat) (p:Pq) (j:Nat) (q:Pq) (k:Nat) (r:Pq)
def Pq.size:Pq->Nat
 | .done=>0
 | .one _ p=>p.size+1
 | .two _ p _ _=>p.size+1
 | .three _ p _ _ _ _=>p.size+1
def Pq.seq:List Nat->Pq->Pq
 | [],p=>p
 | i :: r,p => .one i (Pq.seq r p)
def Q5y (T:Tab) (ops:Array Oper):Pq->Array Bool->Bool
 | .done,listed=>(Region.ready .any ops listed).isEmpty
 | .one i p,listed=>match ops[i]? with
   | none=>false
   | some o=>(bif still T o.op then(Region.ready .any ops listed).contains i&&Region.free .any ops listed i else Region.ready .any ops listed == [i])&&Q5y T ops p (listed.setIfInBounds i true)
 | .two i p j q,listed=>match ops[i]? with
   | none=>false
   | some o=>match ops[j]? with
     | none=>false
     | some o' => !still T o.op && !still T o'.op&&Region.ready .any ops listed == [i,j]&&p.size == q.size&&Q5y T ops p (listed.setIfInBounds i true)&&Q5y T ops q (listed.setIfInBounds j true)
 | .three i p j q k r,listed=>match ops[i]? with
   | none=>false
   | some o=>match ops[j]? with
     | none=>false
     | some o'=>match ops[k]? with
       | none=>false
       | some o'' => !still T o.op && !still T o'.op && !still T o''.op&&Region.ready .any ops listed == [i,j,k]&&p.size == q.size&&p.size == r.size&&Q5y T ops p (listed.setIfInBounds i true)&&Q5y T ops q (listed.setIfInBounds j true)&&Q5y T ops r (listed.setIfInBounds k true)
section
variable {P:Program} {T:Tab} {N:Nat} {cl:Cl} {ops:List Oper}
def Xc3 (P:Program) (T:Tab) (N:Nat) (cl:Cl) (ops:List Oper):Pq->Env->Loc->List Nat->World->(Env->Loc->List Nat->World->Prop)->Prop
 | .done,Γ,Δ,G,w,K=>K Γ Δ G w
 | .one i p,Γ,Δ,G,w,K=>match nth ops i with
   | some o=>Qfc P T N cl ops o Γ Δ G w fun Γ' Δ' G' w'=>Xc3 P T N cl ops p Γ' Δ' G' w' K
   | none=>False
 | .two i p j q,Γ,Δ,G,w,K=>(match nth ops i with
   | some o=>Qfc P T N cl ops o Γ Δ G w fun Γ' Δ' G' w'=>Xc3 P T N cl ops p Γ' Δ' G' w' K
   | none=>False)/\(match nth ops j with
   | some o=>Qfc P T N cl ops o Γ Δ G w fun Γ' Δ' G' w'=>Xc3 P T N cl ops q Γ' Δ' G' w' K
   | none=>False)
 | .three i p j q k r,Γ,Δ,G,w,K=>(match nth ops i with
   | some o=>Qfc P T N cl ops o Γ Δ G w fun Γ' Δ' G' w'=>Xc3 P T N cl ops p Γ' Δ' G' w' K
   | none=>False)/\(match nth ops j with
   | some o=>Qfc P T N cl ops o Γ Δ G w fun Γ' Δ' G' w'=>Xc3 P T N cl ops q Γ' Δ' G' w' K
   | none=>False)/\(match nth ops k with
   | some o=>Qfc P T N cl ops o Γ Δ G w fun Γ' Δ' G' w'=>Xc3 P T N cl ops r Γ' Δ' G' w' K
   | none=>False)
theorem Qfa (hT:Qbe P T) (hns:cl ≠ .same) (hsel:Region.noSelect ops.toArray=true) {K:Env->Loc->List Nat->World->Prop} {Q:Exit->Act->World->Prop} (hQ:∀ a Γ Δ G w,Ag N a Γ Δ G->K Γ Δ G w->Q .normal a w) (hp:∀ c a w,¬ Q (.panic c) a w) :
 ∀ (pl:Pq) (listed:Array Bool) (Γ:Env) (Δ:Loc) (G:List Nat) (a:Act) (w:World),Q5y T ops.toArray pl listed=true->Ag N a Γ Δ G ->
   Xc3 P T N cl ops pl Γ Δ G w K->wpT P ops.toArray Q (fun L w'=>noneOf [] L->cl.rel w w') pl.size listed a w
 | .done,listed,Γ,Δ,G,a,w,hc,ha,h=>by
   simp only[Q5y,List.isEmpty_iff] at hc;exact⟨hc,hQ a Γ Δ G w ha h⟩
 | .one i pl,listed,Γ,Δ,G,a,w,hc,ha,h=>by
   simp only[Q5y] at hc
   cases ho:ops.toArray[i]? with
   | none=>rw[ho] at hc;simp at hc
   | some o =>
     rw[ho] at hc;simp only[Zl] at hc;obtain⟨hc1,hc2⟩:=hc;have ho':ops[i]? = some o:=Su ho;simp only[Xc3,Qa1,ho'] at h;unfold Qfc at h;obtain⟨p,hp1,hw⟩:=Xv ha h;cases hs:still T o.op <;> simp only[hs,cond_true,cond_false] at hp1 hc1
     . have hr:Region.ready .any ops.toArray listed = [i]:=Su hc1;refine⟨fun h0=>(by rw[hr] at h0;cases h0),fun j hj => ?_⟩;rw[hr] at hj;obtain rfl:j=i:=Su hj
       have:=Qbq (Q:=Q) hT ha hw hp1 (M:=fun a' w'=>(noneOf [] (listed.setIfInBounds j true)->cl.rel w w')/\wpT P ops.toArray Q (fun L w'=>noneOf [] L->cl.rel w w') pl.size (listed.setIfInBounds j true) a' w')
        fun a' w' Γ' Δ' G' hrel hag hk=>by
         have hrel':=hrel.resolve_left hns;exact⟨fun _=>hrel',Qcj (fun L w'' hw'' hn=>cl.trans hrel' (hw'' hn)) _ _ _ _ (Qfa hT hns hsel hQ hp pl _ Γ' Δ' G' a' w' hc2 hag hk)⟩
       unfold wpOp;simpa only[ho] using this
     . obtain⟨v,Γ',Δ',G',hy,hag,hk⟩:=still_step hT ha hw hp1;simp only[Zl] at hc1
       exact Qpi (B := []) (D := []) (C:=cl.rel w) ho (Region.noSelect_spec hsel) (fun c a w hh=>(hp _ _ _ hh).elim) (by simp)
        (fun j hj=>by simp at hj) (fun d hd=>by simp at hd) _ listed a w (Region.free_spec ho hc1.2) (Su hc1.1)
        (fun d hd=>by simp at hd) hy (Cl.refl _ _) (Qfa hT hns hsel hQ hp pl _ Γ' Δ' G' _ w hc2 hag hk)
 | .two i pl j ql,listed,Γ,Δ,G,a,w,hc,ha,h=>by
   simp only[Q5y] at hc
   cases ho:ops.toArray[i]? with
   | none=>rw[ho] at hc;simp at hc
   | some o =>
     rw[ho] at hc
     cases hu:ops.toArray[j]? with
     | none=>rw[hu] at hc;simp at hc
     | some u =>
       rw[hu] at hc;simp only[Zl,Zai,beq_iff_eq] at hc;obtain⟨⟨⟨⟨⟨hs,hsu⟩,hr⟩,hsz⟩,hc1⟩,hc2⟩:=hc;have ho':ops[i]? = some o:=Su ho;have hu':ops[j]? = some u:=Su hu;obtain⟨h1,h2⟩:=h;simp only[Qa1,ho'] at h1;simp only[Qa1,hu'] at h2;unfold Qfc at h1 h2;obtain⟨p,hp1,hw⟩:=Xv ha h1;obtain⟨p',hp1',hw'⟩:=Xv ha h2;simp only[hs,hsu,cond_false] at hp1 hp1';refine⟨fun h0=>(by rw[hr] at h0;cases h0),fun k hk => ?_⟩;rw[hr] at hk;have hk':k=i\/k=j:=Su hk;rcases hk' with rfl | rfl
       . have:=Qbq (Q:=Q) hT ha hw hp1 (M:=fun a' w'=>(noneOf [] (listed.setIfInBounds k true)->cl.rel w w')/\wpT P ops.toArray Q (fun L w'=>noneOf [] L->cl.rel w w') pl.size (listed.setIfInBounds k true) a' w')
          fun a' w' Γ' Δ' G' hrel hag hk=>by
           have hrel':=hrel.resolve_left hns;exact⟨fun _=>hrel',Qcj (fun L w'' hw'' hn=>cl.trans hrel' (hw'' hn)) _ _ _ _ (Qfa hT hns hsel hQ hp pl _ Γ' Δ' G' a' w' hc1 hag hk)⟩
         unfold wpOp;simpa only[ho] using this
       . have:=Qbq (Q:=Q) hT ha hw' hp1' (M:=fun a' w'=>(noneOf [] (listed.setIfInBounds k true)->cl.rel w w')/\wpT P ops.toArray Q (fun L w'=>noneOf [] L->cl.rel w w') pl.size (listed.setIfInBounds k true) a' w')
          fun a' w' Γ' Δ' G' hrel hag hk=>by
           have hrel':=hrel.resolve_left hns;refine⟨fun _=>hrel',?_⟩;rw[hsz];exact Qcj (fun L w'' hw'' hn=>cl.trans hrel' (hw'' hn)) _ _ _ _ (Qfa hT hns hsel hQ hp ql _ Γ' Δ' G' a' w' hc2 hag hk)
         unfold wpOp;simpa only[hu] using this
 | .three i pl j ql k rl,listed,Γ,Δ,G,a,w,hc,ha,h=>by
   simp only[Q5y] at hc
   cases ho:ops.toArray[i]? with
   | none=>rw[ho] at hc;simp at hc
   | some o =>
     rw[ho] at hc
     cases hu:ops.toArray[j]? with
     | none=>rw[hu] at hc;simp at hc
     | some u =>
      rw[hu] at hc
      cases hv:ops.toArray[k]? with
      | none=>rw[hv] at hc;simp at hc
      | some v =>
       rw[hv] at hc;simp only[Zl,Zai,beq_iff_eq] at hc;obtain⟨⟨⟨⟨⟨⟨⟨⟨hs,hsu⟩,hsv⟩,hr⟩,hsz⟩,hsz2⟩,hc1⟩,hc2⟩,hc3⟩:=hc;have ho':ops[i]? = some o:=Su ho;have hu':ops[j]? = some u:=Su hu;have hv':ops[k]? = some v:=Su hv;obtain⟨h1,h2,h3⟩:=h;simp only[Qa1,ho'] at h1;simp only[Qa1,hu'] at h2;simp only[Qa1,hv'] at h3;unfold Qfc at h1 h2 h3;obtain⟨p,hp1,hw⟩:=Xv ha h1;obtain⟨p',hp1',hw'⟩:=Xv ha h2;obtain⟨p'',hp1'',hw''⟩:=Xv ha h3;simp only[hs,hsu,hsv,cond_false] at hp1 hp1' hp1'';refine⟨fun h0=>(by rw[hr] at h0;cases h0),fun m hk => ?_⟩;rw[hr] at hk;have hk':m=i\/m=j\/m=k:=Su hk;rcases hk' with rfl | rfl | rfl
       . have:=Qbq (Q:=Q) hT ha hw hp1 (M:=fun a' w'=>(noneOf [] (listed.setIfInBounds m true)->cl.rel w w')/\wpT P ops.toArray Q (fun L w'=>noneOf [] L->cl.rel w w') pl.size (listed.setIfInBounds m true) a' w')
          fun a' w' Γ' Δ' G' hrel hag hk=>by
           have hrel':=hrel.resolve_left hns;refine⟨fun _=>hrel',?_⟩;exact Qcj (fun L w'' hw'' hn=>cl.trans hrel' (hw'' hn)) _ _ _ _ (Qfa hT hns hsel hQ hp pl _ Γ' Δ' G' a' w' hc1 hag hk)
         unfold wpOp;simpa only[ho] using this
       . have:=Qbq (Q:=Q) hT ha hw' hp1' (M:=fun a' w'=>(noneOf [] (listed.setIfInBounds m true)->cl.rel w w')/\wpT P ops.toArray Q (fun L w'=>noneOf [] L->cl.rel w w') pl.size (listed.setIfInBounds m true) a' w')
          fun a' w' Γ' Δ' G' hrel hag hk=>by
           have hrel':=hrel.resolve_left hns;refine⟨fun _=>hrel',?_⟩;rw[hsz];exact Qcj (fun L w'' hw'' hn=>cl.trans hrel' (hw'' hn)) _ _ _ _ (Qfa hT hns hsel hQ hp ql _ Γ' Δ' G' a' w' hc2 hag hk)
         unfold wpOp;simpa only[hu] using this
       . have:=Qbq (Q:=Q) hT ha hw'' hp1'' (M:=fun a' w'=>(noneOf [] (listed.setIfInBounds m true)->cl.rel w w')/\wpT P ops.toArray Q (fun L w'=>noneOf [] L->cl.rel w w') pl.size (listed.setIfInBounds m true) a' w')
          fun a' w' Γ' Δ' G' hrel hag hk=>by
           have hrel':=hrel.resolve_left hns;refine⟨fun _=>hrel',?_⟩;rw[hsz2];exact Qcj (fun L w'' hw'' hn=>cl.trans hrel' (hw'' hn)) _ _ _ _ (Qfa hT hns hsel hQ hp rl _ Γ' Δ' G' a' w' hc3 hag hk)
         unfold wpOp;simpa only[hv] using this
theorem Q23 (cl:Cl) (pl:Pq) (hns:cl ≠ .same) (hT:Qbe P T) (hm:P.follows .mixedOrders=true) {id:Nat} {ops:Array Oper} {Γ:Env} {w:World} {kn:KN} {ex:KE} {rt:KN} (hc:(Region.noSelect ops&&(pl.size == ops.size)&&Q5y T ops pl (Array.replicate ops.size false))=true)
 (h:Xc3 P T N cl ops.toList pl Γ [] [] w.drew fun Γ' _ _ w'=>kn Γ' w'):SemC P N (.region id ops true) Γ w kn ex rt:=by
 unfold SemC;intro a ha;simp only[Zl,beq_iff_eq] at hc;obtain⟨⟨h1,h2⟩,h3⟩:=hc;have:=Qfa (ops:=ops.toList) (Q:=toQ N kn ex rt) hT hns h1 (fun a Γ Δ G w hag hk=>⟨Γ,hag.done,hk⟩) (fun c a w hq=>hq) pl (Array.replicate ops.size false) Γ [] [] a w.drew h3 ha h;rw[h2] at this;exact wp_region_any hm (Qdq _ _ _ _ this)
end
end Go.Se
namespace Go.Proofs
open Go.Shelf
def Tryz.compI_ren:Go.Shelf.Ren:=⟨fun | 20=>289 | n=>n,fun | 22=>289 | n=>n,fun | n=>n⟩
theorem Tryz.compI:Go.Proofs.Lays2.n20 Tryz.prog Tryz.compI_ren:={
 mixed:=Kr,f20:=Kr,t0:=Kr,a0:=Ku,z0:=Ku,v0:=Ku,t3:=Kr,a3:=Ku,z3:=Ku,v3:=Ku,t4:=Kr,a4:=Ku,z4:=Ku,v4:=Ku,t22:=Kr,a22:=Ku,z22:=Ku,v22:=Ku
 i3:=by kernel_rfl }
end Go.Proofs
namespace Go.Proofs.YtpdonaienhociaaGreatDoor
open Go.Se Go.RowKit
theorem Qnd {B:Nat} {a:World} (b:Nat) (hb:B<=b):∀ (vs:List Value) (o:Nat) {w:World},Below B a w->Below B a (w.setCells b o vs)
 | [],_,_,h=>h
 | v :: r,o,_,h=>Qnd b hb r (o+1) (h.setCell (p:=⟨b,o,none⟩) hb v)
theorem Xen:Ql9 Tryz.prog 289 3 Qfu 1 8:=⟨Xbb,⟨_,ty3_ok,rfl,rfl⟩,by3,by decide,by decide,X4,Q0y⟩
theorem Q36:Qtv Tryz.prog 289:=⟨_,Tryz.func289,rfl,rfl⟩
theorem mem_compact (zs:List Int) (t:Int):t∈Lib.compact zs↔t∈zs:=by
 have key:∀ m,m<=zs.length->∀ t,t∈Lib.compactUpTo zs.toArray m↔t∈zs.take m:=by
  intro m
  induction m with
  | zero=>intro _ t;simp[Lib.compactUpTo]
  | succ m ih =>
    intro hm t;rw[Lib.compactUpTo_succ,Qc3 zs m Om,Zj,Zj,ih Om t];have he:zs.toArray[m]! = zs[m]:=by simp[show m<zs.length by omega]
    rw[he]
    cases hk:Lib.keeps zs.toArray m with
    | true=>simp
    | false =>
      have hk':¬ (m=0\/zs.toArray[m]! ≠ zs.toArray[m-1]!):=by
       intro h;have:Lib.keeps zs.toArray m=true:=by simp only[Lib.keeps];exact decide_eq_true h
       rw[hk] at this;cases this
      have hm0:m≠0:=fun h=>hk' (.inl h)
      have h2:zs.toArray[m]! = zs.toArray[m-1]! := Classical.byContradiction fun h=>hk' (.inr h)
      rw[he] at h2;have h3:zs.toArray[m-1]! = zs[m-1]'Om:=by simp[show m-1<zs.length by omega]
      rw[h3] at h2;have h4:zs[m]∈zs.take m:=(by rw[h2,Zb4];exact⟨m-1,Om,rfl⟩);constructor
      . rintro (h | h)
        . exact .inl h
        . simp at h
      . rintro (h | h)
        . exact .inl h
        . simp at h;subst h;exact .inl h4
 have:=key zs.length (Zg _) t
 rwa [Zcp] at this
theorem Qut (l:List Int) (A:Option Addr) (c base:Nat) (w:World) (hown:Own Qfu 1 3 base w A c l) (hl:l.length<1000000000000) :
 Cal Tryz.prog 289 [.slice A l.length c] w fun r w'=>∃ L,r = .slice A L.length c/\(∀ t,t∈L↔t∈l)/\L.length<=l.length/\SlI w' A L/\∀ w0,Ext w0 w->w0.heap.size<=base->Ext w0 w':=by
 by_cases h2:l.length<2
 . refine Fi Tryz.func289 rfl _ rfl rfl (Hh ?_);refine⟨fun _ => ?_,fun h=>(by simp at h;omega)⟩;refine Hh ?_;exact⟨l,rfl,fun _=>Iff.rfl,Zg _,hown.sl X4,fun w0 h _=>h⟩
 . have hsl:=hown.sl X4;rcases hown.2 with⟨_,h0⟩ | ⟨g,cap,cur,hv,hb,hg,hc1,hc2,hc3,hc4⟩
   . omega
   injection hv with hA _ hcc;subst hA;subst hcc;have hcell:∀ j,j<l.length->w.cell? ⟨g,0+j,none⟩=some (Vj (l.getD j 0)):=(by intro j hj;obtain⟨a,ha,hca⟩:=hsl.get hj;have ha':a=⟨g,0,none⟩:=Su ha.symm;have:=hca 0 _ rfl;rw[ha',Xf,Qey] at this;rw[Zbm,Zd hj];simpa using this);refine Qa9 Q36 (Any.slices_Compact_int_cells Tryz.compI g 0 l.length c l w (Zg _) Om hc1 hcell (fun j _=>by unfold World.frozen?;rw[hg];simp)) ?_;rintro w' ⟨q,rfl⟩;rw[Zcp];have hle:=Lib.compact_length_le l;generalize hL:Lib.compact l=L at hle;refine⟨L,rfl,fun t=>by rw[<- hL];exact mem_compact l t,hle,?_,?_⟩
   . intro i x hi;have hlt:i<L.length:=(Zi.1 hi).1;refine⟨_,rfl,fun j v hj => ?_⟩;have hj0:j=0:=(by have:=(Zi.1 hj).1;rw[X4] at this;omega);subst hj0;have hvx:v = Vj x:=by simpa [Qfu] using hj.symm
     have:=World.cell?_setCells_in g ((L++List.replicate (l.length-L.length) 0).map (Value.int .i64)) 0 (w.drewN q) (fun j hj=>by
      have hj':j<l.length:=by simp at hj;omega
      have:=hcell j hj';show (w.cell? _).isSome=true
      rw[this];rfl) i (by simp;omega)
     have hx:L[i]=x:=by rw[Zd hlt] at hi;simpa using hi
     rw[Xf,Qey];simp only[Zbh,Zc2,Zbg] at this ⊢;rw[this,hvx];rw[List.getElem_map,List.getElem_append_left hlt,hx]
   . intro w0 h0 hb0;have h1:Ext w0 (w.drewN q):=h0.trans (Qnt w q);exact Qnd g Om _ _ h1
def Qpd (row:List St):List Int:=row.map (·.at_)
theorem Q2m (w:World) (S:Nat->Prop) (p:Nat) (cs:List Ev) (h:Qgb w S p cs) (name:Bj) (hl:(Qz cs name).length<1000000) :
 Cal Tryz.prog 209 [Pj p,.string name] w fun r w'=>∃ A c L,r = .slice A L.length c/\(∀ t,t∈L↔t∈Qpd (Qz cs name))/\L.length<=(Qz cs name).length/\SlI w' A L/\Ext w w':=by
 obtain⟨bm,L,h⟩:=h;refine Fi Tryz.func209 rfl _ rfl rfl (Hh ?_);refine⟨.map (some bm),h.head.one rfl,Hh ?_⟩;refine⟨_,h.rows.look Qwz Xb (e:=ty135) ty135_ok rfl name Qp,?_⟩;have hown:=(h.rows.own name).1;generalize hrow:Qz cs name=row at *;generalize (rowAt L name).1=A at *;generalize (rowAt L name).2=c at *;have hs:Sl stC 9 w A row:=hown.sl Qo8;clear hown h;obtain⟨T,hT⟩:∃ T,T=Qpd row:=⟨_,rfl⟩;have hTl:T.length=row.length:=by rw[hT];simp[Qpd]
 rw[<- hT];have hTk:∀ k (hk:k<row.length),T[k]'Om=(row[k]).at_:=fun k hk=>by subst hT;simp[Qpd]
 refine Hh ?_
 refine Qh Qb (fun(k:Nat×Option Addr×Nat) w'=>k.1<=row.length/\Ext w w'/\Own Qfu 1 3 w.heap.size w' k.2.1 k.2.2 (T.take k.1))
  (fun | (k,B,d) => [(5,.slice B k d),(13,.slice A row.length c),(14,Vj row.length),(15,Vj k)]) (fun k=>row.length-k.1) (0,none,0) ⟨by simp,Ext.refl _,Own.nil⟩ Rr ?_
 rintro ⟨k,B,d⟩ w1 ⟨hk,hx1,hown⟩;simp only at hk hown;refine Hh ?_;constructor
 . intro hc;have hc:k<row.length:=Su hc;obtain⟨a2,rfl,hce⟩:=(hs.ext hx1).get hc;have htk:=Qc3 T k Om;have hlk:(T.take k).length=k:=by rw[Zn];omega
   have hlk1:(T.take (k+1)).length=k+1:=by rw[Zn];omega
   have hte:=hTk k hc;generalize T[k]'Om=t at htk hte;generalize row[k]=s at hce hte;subst hte;obtain⟨T1,hT1⟩:∃ T1,T1=T.take (k+1):=⟨_,rfl⟩;rw[<- hT1] at htk hlk1;generalize hT0:T.take k=T0 at htk hlk hown;refine Hh ?_;refine⟨a2,Ix,Hh ?_⟩;refine⟨stC s,⟨rfl,hce⟩,Hh ?_⟩;intro b7 w7 hn7;refine Hh ?_;have e7:=hn7.block;refine Qc Qb (e:=ty141) rfl hn7.At rfl rfl rfl (by simp[Qg,stC,Value.oneCell']) fun w8 h8 ho8 => ?_
   have h8:At w8 b7 _ (stC s):=h8;have hx8:Ext w1 w8:=ho8.ext hn7.ext Om;replace hx1:=hx1.trans hx8;replace hown:=hown.ext hx8;clear hn7 ho8 hce;refine Hh ?_;refine⟨_,h8.one rfl,Hh ?_⟩;intro b9 w9 hn9;refine Hh ?_;refine Qq Xen (l:=T0) (news := [s.at_]) hlk.symm (hown.ext hn9.ext) rfl (Xen.new1 (x:=s.at_) hn9) (by simp;omega) ((hx1.trans hn9.ext).size) fun A' c' w10 hown10 hg10 hA10 => ?_
   have hx10:=Qu (hx1.trans hn9.ext) hg10 (Xq hown);rw[<- htk] at hown10 ⊢;rw[hlk1];refine Hh ?_;refine⟨_,wrap_succ Om,Hh ?_⟩;refine⟨(k+1,A',c'),Sj,⟨Sj,hx10,?_⟩,Rr⟩;simp only;rw[<- hT1];exact hown10
 . intro hc;have hc:row.length<=k:=Su hc;obtain rfl:k=T.length:=Om;rw[Zcp] at hown;refine Hh ?_;refine(Qut T B d w.heap.size w1 hown Om).mono ?_;rintro _ w2 ⟨L2,rfl,hm,hle,hs2,hx2⟩;refine Hh ?_;exact⟨B,d,L2,rfl,hm,Om,hs2,hx2 w hx1 (Zg _)⟩
theorem Quh (w:World) (S:Nat->Prop) (p:Nat) (cs:List Ev) (h:Qgb w S p cs) (name:Bj) (hl:(Qz cs name).length<1000000) :
 Cal Tryz.prog 209 [Pj p,.string name] w fun r w'=>∃ A c L,r = .slice A L.length c/\(∀ t,t∈L↔t∈Qpd (Qz cs name))/\L.length<1000000/\SlI w' A L/\Ext w w' :=
 (Q2m w S p cs h name hl).mono fun r w' ⟨A,c,L,h1,h2,h3,h4,h5⟩=>⟨A,c,L,h1,h2,Om,h4,h5⟩
theorem Qxm (l:List Ev) (A:Option Addr) (c:Nat) (w:World) (hs:SlE w A l) (hl:l.length<1000000) :
 Cal Tryz.prog 113 [.slice A l.length c] w fun r w'=>∃ A' c',r = .slice A' l.length c'/\Own evC 8 77 w.heap.size w' A' c' l/\(A'=none->l = [])/\Ext w w':=by
 refine Fi Tryz.func113 rfl _ rfl rfl (Hh ?_);refine⟨_,X9 Qw2 A _ _ _ _,Gg ?_⟩;constructor
 . intro hq;have hA:A=none:=Su hq
   have hl0:l = []:=by
    cases l with
    | nil=>rfl
    | cons x l =>
      obtain⟨a,ha,_⟩:=hs 0 x rfl;rw[hA] at ha;cases ha
   subst hl0;refine Gg ?_;exact⟨none,0,rfl,Own.nil,fun _=>rfl,Ext.refl _⟩
 . intro hq;refine Gg ?_;intro b1 w1 hn1;refine Gg ?_;have o1:=Qk2.made (base:=w.heap.size) hn1 (Zg _);refine Qq Qk2 (l := []) (news:=l) rfl o1 rfl (hs.ext hn1.ext) (by simp;omega) hn1.ext.size fun A2 c2 w2 hown2 hg2 hA2 => ?_
   have hx2:=Qu hn1.ext hg2 (Xq o1);rw[Zan] at hown2 ⊢;refine Gg ?_;refine⟨A2,c2,rfl,hown2,fun h => ?_,hx2⟩;exfalso;rcases hA2 with h2 | h2 | h2
   . rw[h] at h2;cases h2
   . rw[h] at h2;simp at h2
   . rw[h] at h2;simp at h2
theorem Qxw {w:World} {T:Nat->Prop} {p:Nat} {c:Cfg} {z:List Ev} (h:WT w T p c z) :
 Cal Tryz.prog 210 [Pj p] w fun r w'=>∃ A c',r = .slice A z.length c'/\Own evC 8 77 w.heap.size w' A c' z/\(A=none->z = [])/\Ext w w':=by
 obtain⟨v,T0,hQ,_⟩:=h;have hzl:=hQ.len;obtain⟨col,q,A,n,cap,any,last,hL⟩:=hQ.at_;obtain⟨hn,hsl,_⟩:=hL.evs;subst hn;refine Fi Tryz.func210 rfl _ rfl rfl (Hh ?_);refine⟨.slice A z.length cap,hL.head.one rfl,Gg ?_⟩;refine(Qxm z A cap w hsl hzl).mono ?_;rintro _ w1 ⟨A1,c1,rfl,h1,h2,h3⟩;refine Gg ?_;exact⟨A1,c1,rfl,h1,h2,h3⟩
theorem Qx5 (l:List Int) (A:Option Addr) (c:Nat) (x:Int) (w:World) (hs:SlI w A l) (hl:l.length<1000000) :
 Cal Tryz.prog 288 [.slice A l.length c,Vj x] w fun r w'=>(∃ i:Int,r = Vj i /\ -1<=i/\(0<=i↔x∈l))/\w'=w:=by
 refine Fi Tryz.func288 rfl _ rfl rfl (Hh ?_)
 refine Qh Qb (fun(k:Nat) w'=>k<=l.length/\x∉l.take k/\w'=w)
  (fun k => [(0,.slice A l.length c),(1,Vj x),(7,Vj l.length),(8,Vj (k:Nat))]) (fun k=>l.length-k) 0 ⟨Zu _,by simp,rfl⟩ Rr ?_
 rintro k w2 ⟨hk,hno,hw2⟩;subst hw2;refine Hh ?_;constructor
 . intro hlt;have hlt:k<l.length:=Su hlt;obtain⟨a2,hA,hc2⟩:=hs.get hlt;subst hA;have htk:x∈l.take (k+1)↔x=l[k]:=by rw[Za hlt,Zj,Zk];simp[hno]
   have hmem:l[k]∈l:=Zx hlt;generalize l[k]=y at hc2 htk hmem;refine Hh ?_;refine⟨a2,Ix,Hh ?_⟩;refine⟨Vj y,Qs hc2,Hh ?_⟩;constructor
   . intro hc;have hc:x=y:=Su hc;refine Hh ?_;exact⟨⟨k,rfl,Om,by simp[hc,hmem]⟩,rfl⟩
   . intro hc;have hc:¬ x=y:=Su hc;refine Hh ?_;refine⟨_,wrap_succ Om,Hh ?_⟩;exact⟨k+1,Om,⟨Om,fun h=>hc (htk.1 h),rfl⟩,Rr⟩
 . intro hge;have hge:l.length<=k:=Su hge;rw[Zb hge] at hno;refine Hh ?_;exact⟨⟨-1,rfl,Om,by simp[hno]⟩,rfl⟩
theorem Qps (l:List Int) (A:Option Addr) (c:Nat) (x:Int) (w:World) (hs:SlI w A l) (hl:l.length<1000000) :
 Cal Tryz.prog 208 [.slice A l.length c,Vj x] w fun r w'=>r = .bool (decide (x∈l))/\w'=w:=by
 refine Fi Tryz.func208 rfl _ rfl rfl (Hh ?_);refine(Qx5 l A c x w hs hl).mono ?_;rintro _ _ ⟨⟨i,rfl,hi1,hi2⟩,rfl⟩;refine Hh ?_;refine⟨?_,rfl⟩
 by_cases hq:x∈l
 . rw[decide_eq_true (hi2.2 hq),decide_eq_true hq]
 . rw[decide_eq_false (fun h=>hq (hi2.1 h)),decide_eq_false hq]
theorem Qni (w:World) (p:Nat) (hg:Gl w) (e:Ev) (hm:X0 e=true) (hk:thB e=false) (ht:e.text.size<1000000) :
 Cal Tryz.prog 116 [Pj p,evV e] w fun r w'=>r = .bool false/\Ext w w':=by
 have hk:¬ (e.kind=11\/e.kind=12\/e.kind=13):=by simpa [thB] using hk
 refine Fi Tryz.func116 rfl _ rfl rfl (Hh ?_);intro b1 w1 hn1;have hb1:=hn1.At;refine Hh ?_;refine⟨evC e,⟨rfl,hb1.all⟩,Hh ?_⟩;refine(Qjs e w1 (hg.ext hn1.ext) Om).mono ?_;rintro _ w2 ⟨rfl,hx2⟩;have hb2:=hb1.ext hx2;refine Hh ?_;refine⟨_,fun _=>hb2.one rfl,Hh ?_⟩;refine⟨_,fun _ _=>hb2.one rfl,Hh ?_⟩;refine⟨_,fun _ _=>hb2.one rfl,Hh ?_⟩;have hcond:((!X0 e)||(((!decide (e.kind=11))&&(!decide (e.kind=12)))&&(!decide (e.kind=13))))=true:=(by rw[hm];simp;omega);constructor
 . intro _;refine Hh ?_;exact⟨rfl,hn1.ext.trans hx2⟩
 . intro hc;have hc:=hcond.symm.trans hc;cases hc
structure ApAt (w:World) (p bw ba:Nat) (z:List Ev) (R:Nat->Prop):Prop where
 wb:At w bw 38 [Pj p]
 all:∃ A c,At w ba 23 [.slice A (if A=none then 0 else z.length) c]/\(A=none->c=0)/\SlE w A (if A=none then [] else z)/\∀ a,A=some a->a.block≠ba/\¬ R a.block/\a.block<w.heap.size
 ne:bw≠ba
theorem ApAt.ext {w w1:World} {p bw ba:Nat} {z:List Ev} {R:Nat->Prop} (h:ApAt w p bw ba z R) (hx:Ext w w1):ApAt w1 p bw ba z R:=by
 obtain⟨h1,⟨A,c,h2,h3,h4,h5⟩,h6⟩:=h;exact⟨h1.ext hx,⟨A,c,h2.ext hx,h3,h4.ext hx,fun a ha=>⟨(h5 a ha).1,(h5 a ha).2.1,Zal (h5 a ha).2.2 hx.size⟩⟩,h6⟩
theorem ApAt.keepR {w w1:World} {p bw ba:Nat} {z:List Ev} {R R1:Nat->Prop} (h:ApAt w p bw ba z R) (hk:∀ k,k<w.heap.size->¬ R k->w1.heap[k]? = w.heap[k]? /\ ¬ R1 k) (hbw:¬ R bw) (hba:¬ R ba):ApAt w1 p bw ba z R1:=by
 obtain⟨h1,⟨A,c,h2,h3,h4,h5⟩,h6⟩:=h;refine⟨(hk bw h1.lt hbw).1.trans h1,⟨A,c,(hk ba h2.lt hba).1.trans h2,h3,Qk2.stay h4 fun a ha hlt=>(hk _ hlt (h5 a ha).2.1).1,fun a ha => ?_⟩,h6⟩;have h7:=hk _ (h5 a ha).2.2 (h5 a ha).2.1;exact⟨(h5 a ha).1,h7.2,Qkw (h5 a ha).2.2 h7.1⟩
def apV (bw ba:Nat):Value := .func (.func 207) #[] #[Pj bw,Pj ba]
theorem Qt8 (p:Nat) (z:List Ev) (R:Nat->Prop) (w:World) :
 Cal Tryz.prog 142 [Pj p] w fun r w'=>∃ bw ba,r=apV bw ba/\w.heap.size<=bw/\w.heap.size<=ba/\ba<w'.heap.size/\ApAt w' p bw ba z R/\Ext w w':=by
 refine Fi Tryz.func142 rfl _ rfl rfl (Hh ?_);intro b1 w1 hn1;refine Gg ?_;intro b2 w2 hn2;refine Gg ?_;have e1:=hn1.block;have e2:=hn2.block;have s1:=hn1.size;refine⟨b1,b2,rfl,Om,Om,hn2.At.lt,⟨hn1.At.ext hn2.ext,⟨none,0,hn2.At,fun _=>rfl,Sl.nil,by simp⟩,Om⟩,hn1.ext.trans hn2.ext⟩
theorem Xee {a b:Ev}:0<=Qjc a b↔Q5 a b=false:=by
 rw[<- Qcg,decide_eq_false_iff_not];omega
theorem Q73 {cs:List Ev} {x:Ev} {q:Ev->Bool} (h:∀ y∈cs,Q5 y x=true):(Ql cs).filter q = []\/Q5 (Qes ((Ql cs).filter q)) x=true:=by
 rcases Zbj ((Ql cs).filter q) with h0 | ⟨l,y,h0⟩
 . exact .inl h0
 . right
   have hl:(Ql cs).filter q=l ++ [y]:=Su h0
   have hy:y∈cs:=by
    have:y∈(Ql cs).filter q:=by rw[hl];simp
    exact(Ze.1 (Ze.1 this).1).1
   rw[hl,Qoa];exact h y hy
theorem Qqf (l:List Ev) (name:Bj) (t:Int):(l.filter fun x=>decide (x.item=name)).filter (thQ name t)=l.filter (thQ name t):=by
 rw[List.filter_filter];apply List.filter_congr;intro x _;unfold thQ
 by_cases h:x.item=name <;> simp[h]
set_option maxHeartbeats 2000000 in
theorem Qxf {w:World} {T:Nat->Prop} {p:Nat} {c:Cfg} {z:List Ev} (hW:WT w T p c z) (hg:Gl w) (hz:z.length<100000) (bw ba:Nat) {R:Nat->Prop} (hA:ApAt w p bw ba z R) (hR:∀ k,R k->k<w.heap.size) (hba:10<=ba) (e:Ev) (he:e∈z) (hpe:peB e=true) :
 Cal Tryz.prog 207 [evV e,Pj bw,Pj ba] w fun r w'=>∃ A c',r = .slice A (Qp0 z e).length c'/\SlT w' A (Qp0 z e)/\ApAt w' p bw ba z R/\Mod (fun k=>k=ba) w w':=by
 obtain⟨v,T0,hQ,_⟩:=id hW;have hzm:=hQ.may;have hzr:=hQ.rise;have hsz:=hg.size;have hnth:=Xc2 hpe;have hbm:∀ y∈(Ql (Qg2 z e)).filter (thQ e.item e.at_),X0 y=true:=fun y hy=>hzm y (Qrn (Ze.1 (Ze.1 hy).1).1)
 have hne:z ≠ []:=fun h=>by rw[h] at he;simp at he
 have hthl:=Zc thB z;refine Fi Tryz.func207 rfl _ rfl rfl (Hh ?_);intro b3 w1 hn1;refine Gg ?_;have h1:At w1 b3 77 (evC e):=hn1.At;have hx1:=hn1.ext;have hb3:w.heap.size<=b3:=by rw[hn1.block];exact Zg _
 have hbal:ba<w.heap.size:=by obtain⟨A,c',h,_⟩:=hA.all;exact h.lt
 clear hn1;refine⟨Pj p,(hA.wb.ext hx1).one0,Gg ?_⟩;refine(Xh (hQ.ext hx1)).mono ?_;rintro _ w2 ⟨pc,S,rfl,hcat,hx2⟩;replace h1:=h1.ext hx2;replace hx1:=hx1.trans hx2;clear hx2;refine Gg ?_;refine Dr .ext [0,1,2,4,5,3] [6] (Hh ?_);have hxd:=(Ext.refl w2).drew;replace h1:=h1.ext hxd;replace hx1:=hx1.trans hxd;replace hcat:=hcat.ext hxd;generalize w2.drew=w3 at h1 hx1 hcat ⊢;refine⟨.string e.item,h1.one rfl,Hh ?_⟩;refine⟨Vj e.at_,h1.one rfl,Hh ?_⟩
 refine(Quh w3 S pc _ hcat e.item (by
  have h2:=(X8 (Ql z) (Qdp hzm) e.item).1;unfold Ql at *;omega)).mono ?_
 rintro _ w4 ⟨A4,c4,L,rfl,hL,hLl,hs4,hx4⟩;refine⟨hx4,Hh ?_⟩;refine(Qps L A4 c4 e.at_ w4 hs4 hLl).mono ?_;rintro _ w5 ⟨rfl,hw5⟩;replace hw5:=hw5.symm;subst hw5;replace h1:=h1.ext hx4;replace hx1:=hx1.trans hx4;replace hcat:=hcat.ext hx4;have hin:e.at_∈L↔∃ x∈Ql z,x.item=e.item/\x.at_=e.at_:=by rw[hL];exact Q6q e.item e.at_ (Ql z)
 clear hL hs4 hx4 hxd;refine Gg ?_;constructor
 . intro hq;have hq:e.at_∈L:=Su hq;clear hcat hin;refine Hh ?_;refine Xl Qb (ι:=Option Addr×Nat) (fun _ => [(1,Pj bw),(2,Pj ba),(3,Pj b3)]) (fun q w'=>At w' ba 23 [.slice q.1 z.length q.2]/\SlE w' q.1 z/\(∀ a,q.1=some a->a.block≠ba/\¬ R a.block/\a.block<w'.heap.size)/\At w' b3 77 (evC e)/\At w' bw 38 [Pj p]/\Mod (fun k=>k=ba) w w') ?_ ?_
   . obtain⟨Aa,ca,hat,hc0,hsl,hnb⟩:=hA.all;have hb3a:b3≠ba:=Om;refine Hh ?_;refine⟨.slice Aa (if Aa=none then 0 else z.length) ca,(hat.ext hx1).one0,Hh ?_⟩;refine⟨_,X9 Qw2 Aa _ _ _ _,Hh ?_⟩;constructor
     . intro hn;have hn:Aa=none:=Su hn;subst hn;have hc0:=hc0 rfl;subst hc0;refine Hh ?_;refine⟨Pj p,(hA.wb.ext hx1).one0,Hh ?_⟩;refine(Qxw (hW.ext hx1)).mono ?_;rintro _ w6 ⟨A6,c6,rfl,hown6,hn6,hx6⟩;refine Hh ?_;refine Qc Qb (e:=ty23) rfl ((hat.ext hx1).ext hx6) rfl rfl rfl Oj fun w7 h7 ho7 => ?_
       have s4:=hx1.size;refine Hh ?_;refine⟨(A6,c6),⟨h7,Qa8 (hown6.sl Qag) fun a ha=>ho7.block _ (fun e => ?_),fun a ha=>⟨fun e => ?_,fun e => ?_,by rw[ho7.size];exact(hown6.block ha).2⟩,(ho7.block b3 hb3a).trans (h1.ext hx6),(ho7.block bw hA.ne).trans ((hA.wb.ext hx1).ext hx6),(Mod.of_ext (hx1.trans hx6)).trans (Qj ho7 rfl)⟩,Rr⟩
       . have:=(hown6.block ha).1;omega
       . have:=(hown6.block ha).1;omega
       . have:=(hown6.block ha).1;have:=hR _ e;omega
     . intro hn;have hn:¬ Aa=none:=(by intro h;rw[h] at hn;cases hn);rw[if_neg hn] at hat hsl;rw[if_neg hn];refine Hh ?_;exact⟨(Aa,ca),⟨hat.ext hx1,hsl.ext hx1,fun a ha=>⟨(hnb a ha).1,(hnb a ha).2.1,Zal (hnb a ha).2.2 hx1.size⟩,h1,hA.wb.ext hx1,Mod.of_ext hx1⟩,Rr⟩
   rintro ⟨A6,c6⟩ w6 ⟨h6,hs6,hnb6,h1,hwb6,hM6⟩;simp only at h6 hs6 hnb6;have hA6n:A6≠none:=fun h=>(by obtain⟨y,ys,hzz⟩:=Zcl hne;rw[hzz] at hs6;obtain⟨a,ha,_⟩:=hs6 0 y rfl;rw[h] at ha;cases ha)
   have hg6:Gl w6:=hg.mod hM6 fun k hk=>by rw[hk];exact hba
   have s6:=hg6.size;clear hx1;refine Gg ?_;refine(Qnj w6).mono ?_;rintro _ w7 ⟨p2,rfl,hcat7,hx7⟩;refine Gg ?_;refine⟨.slice A6 z.length c6,(h6.ext hx7).one0,Gg ?_⟩
   refine Qh Qb (fun(i:Nat) w'=>i<=z.length/\(∀ x∈z.take i,Q5 x e=true)/\(∃ S',Qgb w' S' p2 ((Ql (z.take i)).filter fun x=>decide (x.item=e.item))/\∀ k,S' k->w6.heap.size<=k)/\Ext w6 w')
    (fun i => [(3,Pj b3),(5,Pj p2),(24,.slice A6 z.length c6),(25,Vj z.length),(26,Vj (i:Nat))]) (fun i=>z.length-i) 0 ⟨Zu _,by simp,⟨_,hcat7,fun k hk=>hk⟩,hx7⟩ ⟨rfl,rfl,rfl,rfl,rfl,trivial⟩ ?_
   clear hcat7 hx7;rintro i w8 ⟨hi,hall,⟨S8,hcat8,hS8⟩,hx68⟩;refine Hh ?_;constructor
   . intro hlt;have hlt:i<z.length:=Su hlt;obtain⟨a9,hA9,hc9⟩:=(hs6.ext hx68).get hlt;subst hA9;have htk:=Qc3 z i hlt;have hmx:=hzm z[i] (Zx hlt);have hgt:z[i]? = some z[i]:=Zd hlt;have hlx:∀ y∈z.take i,Q5 y z[i]=true:=fun y hy=>(by have h2:=hzr;rw[<- Zah (i+1) z,htk] at h2;exact(Z4.1 (Z4.1 h2).1).2.2 y hy z[i] (by simp))
     generalize z[i]=x at hc9 htk hmx hgt hlx;refine Gg ?_;refine⟨a9,Ix,Gg ?_⟩;refine⟨evC x,⟨rfl,hc9⟩,Gg ?_⟩;intro b10 w10 hn10;refine Gg ?_;refine Qc Qb (e:=ty77) rfl hn10.At rfl rfl rfl (Qbg x) fun w11 h11 ho11 => ?_
     have h11:At w11 b10 77 (evC x):=h11;have hx811:Ext w8 w11:=ho11.ext hn10.ext (by rw[hn10.block];exact Zg _);clear ho11 hn10;refine Gg ?_;refine⟨evC x,⟨rfl,h11.all⟩,Gg ?_⟩;refine⟨evC e,⟨rfl,((h1.ext hx68).ext hx811).all⟩,Gg ?_⟩;refine(Qbb x e w11).mono ?_;rintro _ w12 ⟨rfl,hx12⟩;have hx812:=hx811.trans hx12;have hx69:=hx68.trans hx812;have h12:=h11.ext hx12;have h1':=h1.ext hx69;refine Gg ?_;constructor
     . intro hge;have hge:0<=Qjc x e:=Su hge;replace hcat8:=hcat8.ext hx812;have hbe:Qg2 z e=z.take i:=(Qkc (p:=fun x=>Q5 x e) hi hall (.inr ⟨x,hgt,Xee.1 hge⟩)).1;have hcs:(Ql (z.take i)).filter (fun x=>decide (x.item=e.item))=(Ql (Qg2 z e)).filter fun x=>decide (x.item=e.item):=by rw[hbe]
       rw[hcs] at hcat8;have hflt:=Qqf (Ql (Qg2 z e)) e.item e.at_;have hcsm:∀ y∈(Ql (Qg2 z e)).filter (fun x=>decide (x.item=e.item)),X0 y=true:=fun y hy=>hzm y (Qrn (Ze.1 (Ze.1 hy).1).1)
       have hcsr:Rise ((Ql (Qg2 z e)).filter fun x=>decide (x.item=e.item)):=(Qda (hzr.sublist (Zck _))).sublist Zaw;have hcl:((Ql (Qg2 z e)).filter fun x=>decide (x.item=e.item)).length<100000:=(by have q1:=Zc (fun x:Ev=>decide (x.item=e.item)) (Ql (Qg2 z e));have q2:=Zc thB (Qg2 z e);have q3:=(Zck (fun x=>Q5 x e) (l:=z)).length_le;unfold Ql Qg2 at *;omega);refine Gg ?_;refine⟨.string e.item,(h1').one rfl,Gg ?_⟩;refine⟨Vj e.at_,(h1').one rfl,Gg ?_⟩
       refine(Q7 _ S8 p2 _ hcat8 e.item e.at_ (by
        have h1:=(X8 ((Ql (Qg2 z e)).filter fun x=>decide (x.item=e.item)) hcsm e.item).1;omega)).mono ?_
       rintro _ wa ⟨rfl,hxa⟩;rw[Qee hcsr,hflt];have htz:=Qe4 e.item ((Ql (Qg2 z e)).filter (thQ e.item e.at_)) hbm;refine Gg ?_;intro bt wt hnt;refine Gg ?_;refine Qc Qb (e:=ty59) rfl hnt.At rfl rfl rfl (by simp[Qg,itC,Value.oneCell']) fun wu hu hou => ?_
       have hu:At wu bt 59 (itC (Qtz e.item ((Ql (Qg2 z e)).filter (thQ e.item e.at_)))):=hu;have hxu:Ext w12 wu:=hou.ext (hxa.trans hnt.ext) (by rw[hnt.block];exact hxa.size);clear hou hnt hxa;unfold Qp0;generalize Qtz e.item ((Ql (Qg2 z e)).filter (thQ e.item e.at_))=it at hu htz ⊢;refine Gg ?_;refine⟨.string it.tags,hu.one rfl,Gg ?_⟩;refine⟨sz2 (by decide) Om,Gg ?_⟩;refine(Qc7 (Qgr it.tags) wu ((hg6.ext hx69).ext hxu) (by unfold Qgr;rw[Za5];have:(⟨#[59]⟩:Bj).size=1:=rfl;omega)).mono ?_;rintro _ wv ⟨Av,cv,rfl,hsv,_,hxv⟩;refine Gg ?_;exact⟨Av,cv,rfl,hsv,⟨hwb6.ext (hx69.trans (hxu.trans hxv)),⟨some a9,c6,by rw[if_neg hA6n];exact h6.ext (hx69.trans (hxu.trans hxv)),fun h=>absurd h hA6n,by rw[if_neg hA6n];exact hs6.ext (hx69.trans (hxu.trans hxv)),fun a ha=>⟨(hnb6 a ha).1,(hnb6 a ha).2.1,Zal (hnb6 a ha).2.2 (hx69.trans (hxu.trans hxv)).size⟩⟩,hA.ne⟩,hM6.trans (Mod.of_ext (hx69.trans (hxu.trans hxv)))⟩
     intro hge
     have hls:Q5 x e=true:=by
      have hge:¬ 0<=Qjc x e:=Su hge
      cases h:Q5 x e with
      | true=>rfl
      | false=>exact absurd (Xee.2 h) hge
     have hall1:∀ y∈z.take (i+1),Q5 y e=true:=fun y hy=>by
      rw[htk] at hy;rcases Zj.1 hy with hy | hy
      . exact hall y hy
      . rw[Zk] at hy;rw[hy];exact hls
     have hcs1:(Ql (z.take (i+1))).filter (fun x=>decide (x.item=e.item))=(Ql (z.take i)).filter (fun x=>decide (x.item=e.item))++if thB x=true/\x.item=e.item then [x] else []:=(by rw[htk];unfold Ql;rw[Zq,Zq];congr 1;cases h2:thB x <;> by_cases h3:x.item=e.item <;> simp[h2,h3])
     refine Gg ?_;refine⟨.string x.item,h12.one rfl,Gg ?_⟩;refine⟨.string e.item,h1'.one rfl,Gg ?_⟩;constructor
     . intro hxi;have hxi:x.item=e.item:=Su hxi;refine Gg ?_;refine⟨evC x,⟨rfl,h12.all⟩,Gg ?_⟩;have htx:=Qdc hmx
       cases htb:thB x with
       | false =>
         rw[if_neg (fun h=>by rw[htb] at h;cases h.1),Zw] at hcs1;refine(Qni w12 p2 (hg6.ext hx69) x hmx htb Om).mono ?_;rintro _ w13 ⟨rfl,hx13⟩;refine Gg ?_;refine⟨_,wrap_succ Om,Gg ?_⟩;exact⟨i+1,Om,⟨Om,hall1,⟨S8,by rw[hcs1];exact(hcat8.ext hx812).ext hx13,hS8⟩,hx69.trans hx13⟩,Rr⟩
       | true =>
         rw[if_pos ⟨htb,hxi⟩] at hcs1
         refine(Qjb w12 S8 p2 _ (hcat8.ext hx812) (hg6.ext hx69) (fun k hk=>by have:=hS8 k hk;omega) x hmx (by simpa [thB] using htb) Om (Q73 hlx) (by
          have q1:=(X8 ((Ql (z.take i)).filter fun x=>decide (x.item=e.item)) (fun y hy=>hzm y (Zbo (Ze.1 (Ze.1 hy).1).1)) x.item).1;have q2:=Zc (fun x:Ev=>decide (x.item=e.item)) (Ql (z.take i));have q3:=Zc thB (z.take i);rw[Zn] at q3;unfold Ql at *;omega)).mono ?_
         rintro _ w13 ⟨rfl,hcat13,hM13⟩;have hx13:=Qdr hx69 hS8 hM13;refine Gg ?_;refine⟨_,wrap_succ Om,Gg ?_⟩;refine⟨i+1,Om,⟨Om,hall1,⟨_,by rw[hcs1];exact hcat13,fun k hk => ?_⟩,hx13⟩,⟨rfl,rfl,rfl,rfl,rfl,trivial⟩⟩;have:=hx69.size;rcases hk with hk | hk
         . exact hS8 k hk
         . omega
     . intro hxi;have hxi:¬ x.item=e.item:=Su hxi;rw[if_neg (fun h=>hxi h.2),Zw] at hcs1;refine Gg ?_;refine⟨_,wrap_succ Om,Gg ?_⟩;exact⟨i+1,Om,⟨Om,hall1,⟨S8,by rw[hcs1];exact hcat8.ext hx812,hS8⟩,hx69⟩,Rr⟩
   . intro hge;have hge:z.length<=i:=Su hge;have h1':=h1.ext hx68;have hbe:Qg2 z e=z.take i:=(Qkc (p:=fun x=>Q5 x e) hi hall (.inl Om)).1;have hcs:(Ql (z.take i)).filter (fun x=>decide (x.item=e.item))=(Ql (Qg2 z e)).filter fun x=>decide (x.item=e.item):=by rw[hbe]
     rw[hcs] at hcat8;have hflt:=Qqf (Ql (Qg2 z e)) e.item e.at_;have hcsm:∀ y∈(Ql (Qg2 z e)).filter (fun x=>decide (x.item=e.item)),X0 y=true:=fun y hy=>hzm y (Qrn (Ze.1 (Ze.1 hy).1).1)
     have hcsr:Rise ((Ql (Qg2 z e)).filter fun x=>decide (x.item=e.item)):=(Qda (hzr.sublist (Zck _))).sublist Zaw;have hcl:((Ql (Qg2 z e)).filter fun x=>decide (x.item=e.item)).length<100000:=(by have q1:=Zc (fun x:Ev=>decide (x.item=e.item)) (Ql (Qg2 z e));have q2:=Zc thB (Qg2 z e);have q3:=(Zck (fun x=>Q5 x e) (l:=z)).length_le;unfold Ql Qg2 at *;omega);refine Gg ?_;refine⟨.string e.item,(h1').one rfl,Gg ?_⟩;refine⟨Vj e.at_,(h1').one rfl,Gg ?_⟩
     refine(Q7 _ S8 p2 _ hcat8 e.item e.at_ (by
      have h1:=(X8 ((Ql (Qg2 z e)).filter fun x=>decide (x.item=e.item)) hcsm e.item).1;omega)).mono ?_
     rintro _ wa ⟨rfl,hxa⟩;rw[Qee hcsr,hflt];have htz:=Qe4 e.item ((Ql (Qg2 z e)).filter (thQ e.item e.at_)) hbm;refine Gg ?_;intro bt wt hnt;refine Gg ?_;refine Qc Qb (e:=ty59) rfl hnt.At rfl rfl rfl (by simp[Qg,itC,Value.oneCell']) fun wu hu hou => ?_
     have hu:At wu bt 59 (itC (Qtz e.item ((Ql (Qg2 z e)).filter (thQ e.item e.at_)))):=hu;have hxu:Ext w8 wu:=hou.ext (hxa.trans hnt.ext) (by rw[hnt.block];exact hxa.size);clear hou hnt hxa;unfold Qp0;generalize Qtz e.item ((Ql (Qg2 z e)).filter (thQ e.item e.at_))=it at hu htz ⊢;refine Gg ?_;refine⟨.string it.tags,hu.one rfl,Gg ?_⟩;refine⟨sz2 (by decide) Om,Gg ?_⟩;refine(Qc7 (Qgr it.tags) wu ((hg6.ext hx68).ext hxu) (by unfold Qgr;rw[Za5];have:(⟨#[59]⟩:Bj).size=1:=rfl;omega)).mono ?_;rintro _ wv ⟨Av,cv,rfl,hsv,_,hxv⟩;refine Gg ?_;exact⟨Av,cv,rfl,hsv,⟨hwb6.ext (hx68.trans (hxu.trans hxv)),⟨A6,c6,by rw[if_neg hA6n];exact h6.ext (hx68.trans (hxu.trans hxv)),fun h=>absurd h hA6n,by rw[if_neg hA6n];exact hs6.ext (hx68.trans (hxu.trans hxv)),fun a ha=>⟨(hnb6 a ha).1,(hnb6 a ha).2.1,Zal (hnb6 a ha).2.2 (hx68.trans (hxu.trans hxv)).size⟩⟩,hA.ne⟩,hM6.trans (Mod.of_ext (hx68.trans (hxu.trans hxv)))⟩
 . intro hq;have hq:¬ e.at_∈L:=Su hq;have hno:∀ x∈Ql z,x.item=e.item->x.at_≠e.at_:=fun x hx hi ht=>hq (hin.2 ⟨x,hx,hi,ht⟩)
   have hflt:=Qzv hzr he hnth hno;have hcsm:=Qdp hzm;have hcsr:=Qda hzr;have hcl:(Ql z).length<100000:=by unfold Ql;omega
   refine Gg ?_;refine⟨.string e.item,(h1).one rfl,Gg ?_⟩;refine⟨Vj e.at_,(h1).one rfl,Gg ?_⟩
   refine(Q7 _ S pc _ hcat e.item e.at_ (by
    have h1:=(X8 (Ql z) hcsm e.item).1;omega)).mono ?_
   rintro _ wa ⟨rfl,hxa⟩;rw[Qee hcsr,hflt];have htz:=Qe4 e.item ((Ql (Qg2 z e)).filter (thQ e.item e.at_)) hbm;refine Gg ?_;intro bt wt hnt;refine Gg ?_;refine Qc Qb (e:=ty59) rfl hnt.At rfl rfl rfl (by simp[Qg,itC,Value.oneCell']) fun wu hu hou => ?_
   have hu:At wu bt 59 (itC (Qtz e.item ((Ql (Qg2 z e)).filter (thQ e.item e.at_)))):=hu;have hxu:Ext w4 wu:=hou.ext (hxa.trans hnt.ext) (by rw[hnt.block];exact hxa.size);clear hou hnt hxa;unfold Qp0;generalize Qtz e.item ((Ql (Qg2 z e)).filter (thQ e.item e.at_))=it at hu htz ⊢;refine Gg ?_;refine⟨.string it.tags,hu.one rfl,Gg ?_⟩;refine⟨sz2 (by decide) Om,Gg ?_⟩;refine(Qc7 (Qgr it.tags) wu ((hg.ext hx1).ext hxu) (by unfold Qgr;rw[Za5];have:(⟨#[59]⟩:Bj).size=1:=rfl;omega)).mono ?_;rintro _ wv ⟨Av,cv,rfl,hsv,_,hxv⟩;refine Gg ?_;exact⟨Av,cv,rfl,hsv,hA.ext (hx1.trans (hxu.trans hxv)),Mod.of_ext (hx1.trans (hxu.trans hxv))⟩
