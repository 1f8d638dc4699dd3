/- Several texts in one: Se7, Se8, RsC, Rs2. -/
import Derived.Test.YteabekcdcphjpaaGreatDoorGA
import Derived.Test.YteabekcdcphjpaaGreatDoorGF
import Derived.Test.YteabekcdcphjpaaGreatDoorGC
import Derived.Test.YteabekcdcphjpaaGreatDoorGI
import Derived.Shelf.Slices.Cells
import Derived.Test.YteabekcdcphjpaaGreatDoorGO
import Derived.Test.YteabekcdcphjpaaGreatDoorGL
import Derived.Test.YteabekcdcphjpaaGreatDoorHPl8
set_option linter.unusedVariables false
set_option linter.unusedSimpArgs false
namespace Go.Se
open Go.RowKit
def Qxa (T:Tab) (ops:Array Oper) (B:List Nat):Pl->Array Bool->Bool
 | .done,listed=>Qcg T ops B [] listed
 | .one i p,listed=>match ops[i]? with
   | none=>false
   | some o=>(bif still T o.op then(Region.ready .any ops listed).contains i&&Region.free .any ops listed i&&Qlc ops B listed i else Region.ready .any ops listed == [i] && !B.contains i)&&Qxa T ops B p (listed.setIfInBounds i true)
 | .two i p j q,listed=>match ops[i]? with
   | none=>false
   | some o=>match ops[j]? with
     | none=>false
     | some o' => !still T o.op && !still T o'.op&&Region.ready .any ops listed == [i,j]&&p.size == q.size&&Qxa T ops B p (listed.setIfInBounds i true)&&Qxa T ops B q (listed.setIfInBounds j true)
section
variable {P:Program} {T:Tab} {N:Nat} {cl:Cl} {ops:List Oper}
theorem Qg5 (hT:Qbn P T) (hns:cl ≠ .same) (hsel:Region.noSelect ops.toArray=true) (B:List Nat) {K:Env->Loc->List Nat->World->Prop} {Q:Exit->Act->World->Prop} (hQ:∀ a Γ Δ G w,Ag N a Γ Δ G->K Γ Δ G w->Q .normal a w) (hp:∀ c a w,¬ Q (.panic c) a w) :
 ∀ (pl:Pl) (listed:Array Bool) (Γ:Env) (Δ:Loc) (G:List Nat) (a:Act) (w:World),Qxa T ops.toArray B pl listed=true->listed.size=ops.length->Ag N a Γ Δ G ->
   Q8g P T N cl ops pl Γ Δ G w (fun Γ' Δ' G' w'=>Qed P T N .same ops (Qgf ops B) Γ' Δ' G' w' K)->wpT P ops.toArray Q (fun L w'=>noneOf B L->cl.rel w w') (pl.size+B.length) listed a w
 | .done,listed,Γ,Δ,G,a,w,hc,hls,ha,h=>by
   have:=Qjm (cl:=cl) (ops:=ops) hT hsel B hQ hp [] listed Γ Δ G a w hc hls ha h (fun e=>absurd e hns)
   simpa [Pl.size] using this
 | .one i pl,listed,Γ,Δ,G,a,w,hc,hls,ha,h=>by
   simp only[Qxa] at hc;rw[show (Pl.one i pl).size+B.length=(pl.size+B.length)+1 by simp[Pl.size];omega]
   cases ho:ops.toArray[i]? with
   | none=>rw[ho] at hc;simp at hc
   | some o =>
     rw[ho] at hc;simp only[Bool.and_eq_true] at hc;obtain⟨hc1,hc2⟩:=hc;have ho':ops[i]? = some o:=by simpa using ho
     simp only[Q8g,Qbh,ho'] at h;unfold Qoc at h;obtain⟨p,hp1,hw⟩:=Qan ha h
     cases hs:still T o.op <;> simp only[hs,cond_true,cond_false] at hp1 hc1
     . simp only[Bool.and_eq_true] at hc1
       have hr:Region.ready .any ops.toArray listed = [i]:=by simpa using hc1.1
       refine⟨fun h0=>(by rw[hr] at h0;cases h0),fun j hj => ?_⟩;rw[hr] at hj;obtain rfl:j=i:=by simpa using hj
       have:=Qc8 (Q:=Q) hT ha hw hp1 (M:=fun a' w'=>(noneOf B (listed.setIfInBounds j true)->cl.rel w w')/\wpT P ops.toArray Q (fun L w'=>noneOf B L->cl.rel w w') (pl.size+B.length) (listed.setIfInBounds j true) a' w')
        fun a' w' Γ' Δ' G' hrel hag hk=>by
         have hrel':=hrel.resolve_left hns
         exact⟨fun _=>hrel',Qef (fun L w'' hw'' hn=>cl.trans hrel' (hw'' hn)) _ _ _ _ (Qg5 hT hns hsel B hQ hp pl _ Γ' Δ' G' a' w' hc2 (by simpa using hls) hag hk)⟩
       unfold wpOp
       simpa only[ho] using this
     . obtain⟨v,Γ',Δ',G',hy,hag,hk⟩:=still_step hT ha hw hp1
       simp only[Bool.and_eq_true] at hc1;obtain⟨⟨hcr,hcf⟩,hcl⟩:=hc1;simp only[Qlc,Bool.and_eq_true,Bool.not_eq_true'] at hcl;obtain⟨hcl1,⟨hcl2,hcl3⟩,hcl4⟩:=hcl
       refine Qos (B:=B) (D:=Qtg ops.toArray i) (C:=cl.rel w) ho (Region.noSelect_spec hsel) (fun c a w hh=>(hp _ _ _ hh).elim) (by simpa using hcl1)
        (fun j hj=>by have:=List.all_eq_true.1 hcl2 j hj;simpa using this) ?_ _ listed a w (Region.free_spec ho hcf) (by simpa using hcr)
        (fun d hd=>by have:=List.all_eq_true.1 hcl4 d hd;simpa using this) hy (Cl.refl _ _) (Qg5 hT hns hsel B hQ hp pl _ Γ' Δ' G' _ w hc2 (by simpa using hls) hag hk)
       intro d hd od hod;have:=List.all_eq_true.1 hcl3 d hd;rw[hod] at this;obtain⟨e,he,hb⟩:=Array.any_eq_true'.1 this;simp only[Bool.and_eq_true,Bool.or_eq_true,beq_iff_eq,List.contains_eq_mem,decide_eq_true_eq] at hb
       exact⟨e,he,hb.1,hb.2⟩
 | .two i pl j ql,listed,Γ,Δ,G,a,w,hc,hls,ha,h=>by
   simp only[Qxa] at hc;rw[show (Pl.two i pl j ql).size+B.length=(pl.size+B.length)+1 by simp[Pl.size];omega]
   cases ho:ops.toArray[i]? with
   | none=>rw[ho] at hc;simp at hc
   | some o =>
     rw[ho] at hc
     cases hu:ops.toArray[j]? with
     | none=>rw[hu] at hc;simp at hc
     | some u =>
       rw[hu] at hc;simp only[Bool.and_eq_true,Bool.not_eq_true',beq_iff_eq] at hc;obtain⟨⟨⟨⟨⟨hs,hsu⟩,hr⟩,hsz⟩,hc1⟩,hc2⟩:=hc;have ho':ops[i]? = some o:=by simpa using ho
       have hu':ops[j]? = some u:=by simpa using hu
       obtain⟨h1,h2⟩:=h;simp only[Qbh,ho'] at h1;simp only[Qbh,hu'] at h2;unfold Qoc at h1 h2;obtain⟨p,hp1,hw⟩:=Qan ha h1;obtain⟨p',hp1',hw'⟩:=Qan ha h2;simp only[hs,hsu,cond_false] at hp1 hp1';refine⟨fun h0=>(by rw[hr] at h0;cases h0),fun k hk => ?_⟩;rw[hr] at hk;have hk':k=i\/k=j:=by simpa using hk
       rcases hk' with rfl | rfl
       . have:=Qc8 (Q:=Q) hT ha hw hp1 (M:=fun a' w'=>(noneOf B (listed.setIfInBounds k true)->cl.rel w w')/\wpT P ops.toArray Q (fun L w'=>noneOf B L->cl.rel w w') (pl.size+B.length) (listed.setIfInBounds k true) a' w')
          fun a' w' Γ' Δ' G' hrel hag hk=>by
           have hrel':=hrel.resolve_left hns
           exact⟨fun _=>hrel',Qef (fun L w'' hw'' hn=>cl.trans hrel' (hw'' hn)) _ _ _ _ (Qg5 hT hns hsel B hQ hp pl _ Γ' Δ' G' a' w' hc1 (by simpa using hls) hag hk)⟩
         unfold wpOp
         simpa only[ho] using this
       . have:=Qc8 (Q:=Q) hT ha hw' hp1' (M:=fun a' w'=>(noneOf B (listed.setIfInBounds k true)->cl.rel w w')/\wpT P ops.toArray Q (fun L w'=>noneOf B L->cl.rel w w') (pl.size+B.length) (listed.setIfInBounds k true) a' w')
          fun a' w' Γ' Δ' G' hrel hag hk=>by
           have hrel':=hrel.resolve_left hns;refine⟨fun _=>hrel',?_⟩;rw[hsz]
           exact Qef (fun L w'' hw'' hn=>cl.trans hrel' (hw'' hn)) _ _ _ _ (Qg5 hT hns hsel B hQ hp ql _ Γ' Δ' G' a' w' hc2 (by simpa using hls) hag hk)
         unfold wpOp
         simpa only[hu] using this
theorem Qpm (cl:Cl) (pl:Pl) (B:List Nat) (hns:cl ≠ .same) (hT:Qbn P T) (hm:P.follows .mixedOrders=true) {id:Nat} {ops:Array Oper} {Γ:Env} {w:World} {kn:KN} {ex:KE} {rt:KN} (hc:(Region.noSelect ops&&(pl.size+B.length == ops.size)&&Qxa T ops B pl (Array.replicate ops.size false))=true)
 (h:Q8g P T N cl ops.toList pl Γ [] [] w.drew fun Γ' Δ' G' w'=>Qed P T N .same ops.toList (Qgf ops.toList B) Γ' Δ' G' w' fun Γ'' _ _ w''=>kn Γ'' w''):SemC P N (.region id ops true) Γ w kn ex rt:=by
 unfold SemC;intro a ha;simp only[Bool.and_eq_true,beq_iff_eq] at hc;obtain⟨⟨h1,h2⟩,h3⟩:=hc;have:=Qg5 (ops:=ops.toList) (Q:=toQ N kn ex rt) hT hns h1 B (fun a Γ Δ G w hag hk=>⟨Γ,hag.done,hk⟩) (fun c a w hq=>hq) pl (Array.replicate ops.size false) Γ [] [] a w.drew h3 (by simp) ha h;rw[h2] at this
 exact wp_region_any hm (Qd4 _ _ _ _ this)
end
section
variable {P:Program} {T:Tab} {N:Nat} {cl:Cl} {ops:List Oper}
end
end Go.Se
namespace Go.Proofs
open Go.Shelf
end Go.Proofs
namespace Go.Proofs.YteabekcdcphjpaaGreatDoor
open Go.Se Go.RowKit
end Go.Proofs.YteabekcdcphjpaaGreatDoor
