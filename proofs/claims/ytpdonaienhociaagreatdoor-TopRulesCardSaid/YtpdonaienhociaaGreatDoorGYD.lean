import Derived.Test.YtpdonaienhociaaGreatDoorGYC
set_option linter.all false
namespace Go.Proofs.YtpdonaienhociaaGreatDoor
open Go.Se Go.RowKit Go.Sort
structure SsR (Ss:List Sn):Prop where
 len:Ss.length<1000
 items:(Qn6 Ss).length<1000
 near:∀ a,(Qem Ss a).length<=1000
 name:∀ a,∀ x∈Qem Ss a,x.size<=1000000
theorem Q8r {Ss:List Sn} (floor:Int) (a:Bj) (K:List Bj) (k:Nat) (hk:k<K.length) (f:List Bj->List Nr) (hf:f=fun K=>(K.filter fun b=>decide (floor<=(Qdt Ss a b:Int))).map fun b=>(b,Qgw Ss a b)) :
 f (K.take (k+1))=f (K.take k)++if floor<=(Qdt Ss a K[k]:Int) then [(K[k],Qgw Ss a K[k])] else []:=by
 subst hf;rw[Za hk];simp only[Zq,Zp];congr 1
 by_cases h:floor<=(Qdt Ss a K[k]:Int)
 . simp[h]
 . simp[h]
set_option maxHeartbeats 1000000 in
theorem Q3n (w:World) (S:Nat->Prop) (p:Nat) (Ss:List Sn) (h:Qbu w S p Ss) (hS:SsR Ss) (a:Bj) (floor:Int) :
 Cal Tryz.prog 223 [Pj p,.string a,Vj floor] w fun r w'=>∃ A c,r = .slice A (Qgx Ss floor a).length c/\Sl nrC 3 w' A (Qgx Ss floor a)/\(Qgx Ss floor a).length<=1000/\(∀ b,A=some b->w.heap.size<=b.block)/\Ext w w':=by
 have hnl:=hS.near a;have hlen:(Qgx Ss floor a).length<=1000:=(by unfold Qgx;rw[Zf];exact Zv (Zc _ _) hnl);refine Fi Tryz.func223 rfl _ rfl rfl (Hh ?_);refine(Q39 w S p Ss h a (hS.name a) Om).mono ?_;rintro _ w1 ⟨A,c,rfl,hs,_,hx1⟩;have hmem:∀ b∈Qem Ss a,a≠b:=fun b hb=>(by unfold Qem at hb;rw[X5] at hb;exact(Qso.1 hb).1)
 obtain⟨f,hf⟩:∃ f:List Bj->List Nr,f=fun K=>(K.filter fun b=>decide (floor<=(Qdt Ss a b:Int))).map fun b=>(b,Qgw Ss a b):=⟨_,rfl⟩
 have hfl:∀ K,(f K).length<=K.length:=fun K=>(by rw[hf];simp only[Zf];exact Zc _ _)
 have hend:Qgx Ss floor a=f (Qem Ss a):=by rw[hf];rfl
 have hst:=fun k hk=>Q8r (Ss:=Ss) floor a (Qem Ss a) k hk f hf
 have hf0:f [] = []:=by rw[hf];rfl
 rw[hend] at hlen ⊢;clear hend hf;generalize Qem Ss a=K at hs hnl hmem hst hlen ⊢;refine Gg ?_
 refine Qh Qb (fun(x:Nat×Option Addr×Nat×List Nr) w'=>x.1<=K.length/\Ext w1 w'/\x.2.2.2=f (K.take x.1)/\Own nrC 3 261 w1.heap.size w' x.2.1 x.2.2.1 x.2.2.2)
  (fun | (k,B,d,F) => [(0,Pj p),(1,.string a),(2,Vj floor),(7,.slice B F.length d),(12,.slice A K.length c),(13,Vj K.length),(14,Vj (k:Nat))]) (fun x=>K.length-x.1) (0,none,0,[]) ⟨Zu _,Ext.refl _,by rw[List.take_zero];exact hf0.symm,Own.nil⟩ Rr ?_
 rintro ⟨k,B,d,F⟩ wa ⟨hk,hxa,hF,hown⟩;simp only at hk hF hown;have hFl:F.length<=k:=(by rw[hF];refine Zv (hfl _) ?_;rw[Zn];omega);refine Gg ?_;constructor
 . intro hlt;have hlt:k<K.length:=Su hlt;obtain⟨ax,hAx,hcx⟩:=(hs.ext hxa).get hlt;subst hAx;have htk:=hst k hlt;rw[<- hF] at htk;have hab:=hmem K[k] (Zx hlt);generalize K[k]=b at hcx htk hab;have hPa:=h.ext (hx1.trans hxa);refine Gg ?_;refine⟨ax,Ix,Gg ?_⟩;refine⟨.string b,Qs hcx,Gg ?_⟩;refine(Qoo wa S p Ss hPa a b hab).mono ?_;rintro _ wb ⟨rfl,hwb⟩;subst hwb;refine Gg ?_;constructor
   . intro hq;have hq:floor<=(Qdt Ss a b:Int):=Su hq;rw[if_pos hq] at htk;refine Gg ?_;refine(Qoe wb S p Ss hPa a b hS.len).mono ?_;rintro _ wc ⟨rfl,hxc⟩;generalize Qgw Ss a b=lk at htk ⊢;refine Gg ?_;intro bd wd hnd;refine Gg ?_;refine Qq Qyz (l:=F) (news := [(b,lk)]) rfl ((hown.ext hxc).ext hnd.ext) rfl (Qyz.new1 (x:=(b,lk)) hnd) (by simp;omega) ((hxa.trans hxc).trans hnd.ext).size fun Af cf wf hownf hgf hAf => ?_
     have hxf:=Qu ((hxa.trans hxc).trans hnd.ext) hgf (Xq ((hown.ext hxc).ext hnd.ext));generalize F ++ [(b,lk)]=F2 at hownf htk ⊢;refine Gg ?_;refine⟨_,wrap_succ Om,Gg ?_⟩;exact⟨(k+1,Af,cf,F2),Sj,⟨Sj,hxf,htk.symm,hownf⟩,Rr⟩
   . intro hq;have hq:¬ floor<=(Qdt Ss a b:Int):=Su hq;rw[if_neg hq,Zw] at htk;refine Gg ?_;refine⟨_,wrap_succ Om,Gg ?_⟩;exact⟨(k+1,B,d,F),Sj,⟨Sj,hxa,htk.symm,hown⟩,Rr⟩
 intro hge;have hge:K.length<=k:=Su hge;rw[Zb hge] at hF;rw[<- hF] at hlen ⊢;refine Gg ?_;exact⟨B,d,rfl,hown.sl Qsv,hlen,fun b hb=>Zv hx1.size (hown.block hb).1,hx1.trans hxa⟩
theorem Xgs:Tryz.prog.underlying 337=some (.map 9 242):=by kernel_rfl
theorem Q5p {vs L:List Nr} (h:(Xj Qmt vs).Perm (Xj Qmt L)):vs.Perm L:=by
 have h1:=h.map (fun x:Bj×Value=>((x.1,match x.2 with | .agg cs=>(match cs.toList with | [.int _ a,.int _ b]=>(a,b) | _=>(0,0)) | _=>(0,0)):Nr));simpa [Xj,Zy,Function.comp_def,Qmt,Qlv] using h1
theorem Q2h {Ss:List Sn} {floor:Int} {K:List Bj}:∀ x∈Qne Ss floor K,x.1∈Qn6 Ss:=by
 have h:=Qi8 (K:=K) (Q:=fun x=>x.1∈Qn6 Ss) (K.flatMap (Qgx Ss floor)) [] (by simp) (by simp) (fun x hx=>by
  obtain⟨a,_,hx⟩:=Zbb.1 hx;unfold Qgx at hx;obtain⟨b,hb,rfl⟩:=Zh.1 hx;have hb:=(Ze.1 hb).1;unfold Qem at hb;rw[X5] at hb;unfold Qn6;rw[X5];exact(Ze.1 hb).1)
 exact fun x hx=>(h.2 x hx).2
theorem Q0e {Ss:List Sn} (hS:SsR Ss) (floor:Int) (K:List Bj):(Qne Ss floor K).length<1000:=by
 have h1:=Qd3 (Qxg hS.len floor K).1 (E:=Qn6 Ss) fun x hx=>(by obtain⟨y,hy,rfl⟩:=Zh.1 hx;exact Q2h y hy)
 rw[Zf] at h1;have:=hS.items;omega
set_option maxHeartbeats 4000000 in
theorem Q2d (w:World) (S:Nat->Prop) (p:Nat) (Ss:List Sn) (h:Qbu w S p Ss) (hS:SsR Ss) (items:List Bj) (A:Option Addr) (c:Nat) (hs:SlT w A items) (hA:∀ a,A=some a->a.block<w.heap.size/\a.spot=none) (hil:items.length<1000000) (n:Int) (hn:0<=n/\n<=9223372036854775807) (floor:Int) :
 Cal Tryz.prog 155 [Pj p,.slice A items.length c,Vj n,Vj floor] w fun r w'=>∃ A' c',r = .slice A' (((Q6a Ss floor items).map (·.1)).take n.toNat).length c'/\Own nrC 3 261 w.heap.size w' A' c' (((Q6a Ss floor items).map (·.1)).take n.toNat)/\(Q6a Ss floor items).length<1000/\Ext w w':=by
 refine Fi Tryz.func155 rfl _ rfl rfl (Hh ?_);refine(Ql5 A items.length c w).mono ?_;rintro _ w1 ⟨b1,rfl,hb1,hx1⟩;refine Gg ?_;refine(Ql1 w1 b1 A c items hb1 (hs.ext hx1) (fun a ha=>⟨Zal (hA a ha).1 hx1.size,(hA a ha).2⟩) hil).mono ?_;rintro _ w2 ⟨A2,c2,hr2,hown2,hx2⟩;have hsl2:(Xi items).length=items.length:=(Qbl _).length_eq;rw[<- hsl2] at hr2;subst hr2;refine Gg ?_;refine(Q2y items A2 c2 w1.heap.size w2 hown2 hil).mono ?_;rintro _ w3 ⟨rfl,hsK,hx3⟩;have hx03:Ext w w3:=hx3 w (hx1.trans hx2) hx1.size;have hKs:Srt bLt (Qcc items):=Qf6 _;have hKl:(Qcc items).length<1000000:=Zb0 (Qmu items) hil;have hend:∀ F:List NrS,(F.map (·.1)).Perm (Qne Ss floor (Qcc items))->Srt (ltOf Qjd) F->F=Q6a Ss floor items:=fun F h1 h2=>Xhj hS.len h1 h2
 have hamg:∀ F:List NrS,(F.map (·.1)).Perm (Qne Ss floor (Qcc items))->F.length<1000:=fun F h1=>(by have:=h1.length_eq;rw[Zf] at this;have h2:=Q0e hS floor (Qcc items);omega)
 clear hx1 hx2 hx3 hown2 hs hA hsl2;generalize Qcc items=K at hsK hKs hKl hend hamg ⊢;refine Gg ?_;intro b4 w4 hn4;have hm4:MapAt w4 b4 Value.string (Xj Qmt ([]:List Nr)):=MapAt.new hn4;have e4:=hn4.block;have s3:=hx03.size;have hx34:=hn4.ext;clear hn4;have hlow:∀ {w':World},Mod (fun i=>i=b4) w4 w'->∀ i,i<w3.heap.size->w'.heap[i]? = w3.heap[i]? := fun hM i hi=>(hM.block i (by have:=hx34.size;omega) Om).trans (hx34.block i hi)
 have hKw:∀ {w':World},Mod (fun i=>i=b4) w4 w'->SlT w' A2 K:=fun hM=>X7.stay hsK fun a _ hlt=>hlow hM _ hlt
 have hPw:∀ {w':World},Mod (fun i=>i=b4) w4 w'->Qbu w' S p Ss:=fun hM=>h.keep fun i hi hs=>⟨(hlow hM i Om).trans (hx03.block i hi),hs⟩
 have hM4:Mod (fun i=>i=b4) w4 w4:=Mod.refl _ _;refine Gg ?_
 refine Qh Qb (fun(q:Nat×List Nr) w'=>q.1<=K.length/\Mod (fun i=>i=b4) w4 w'/\q.2=((K.take q.1).flatMap (Qgx Ss floor)).foldl (Qdv K) []/\(∀ x∈q.2,Qp3 x)/\MapAt w' b4 Value.string (Xj Qmt q.2))
  (fun | (k,_) => [(0,Pj p),(2,Vj n),(3,Vj floor),(9,.slice A2 K.length c2),(10,.map (some b4)),(27,.slice A2 K.length c2),(28,Vj K.length),(29,Vj (k:Nat))]) (fun q=>K.length-q.1) (0,[]) ⟨Zu _,hM4,rfl,by simp,hm4⟩ Rr ?_
 clear hm4;rintro ⟨k,m⟩ wa ⟨hk,hMa,hm,hmok,hmap⟩;simp only at hk hm hmok hmap;refine Gg ?_;constructor
 . intro hlt;have hlt:k<K.length:=Su hlt;obtain⟨ax,hAx,hcx⟩:=(hKw hMa).get hlt;have htk:((K.take (k+1)).flatMap (Qgx Ss floor)).foldl (Qdv K) []=(Qgx Ss floor K[k]).foldl (Qdv K) m:=(by rw[Za hlt,Zbr,Zt,<- hm];simp);generalize K[k]=a at hcx htk;refine Gg ?_;refine⟨ax,⟨hAx,Om,Om⟩,Gg ?_⟩;refine⟨.string a,Qs hcx,Gg ?_⟩;refine(Q3n wa S p Ss (hPw hMa) hS a floor).mono ?_;rintro _ wb ⟨A5,c5,rfl,hsN,hNl,hA5,hxb⟩;have hb4a:b4<wa.heap.size:=hmap.lt;have hNok:∀ x∈Qgx Ss floor a,Qp3 x:=Q8p hS.len;have hMb:=hMa.trans (Mod.of_ext (S:=fun i=>i=b4) hxb);replace hmap:=hmap.ext hxb;generalize Qgx Ss floor a=N at hsN hNl hNok htk ⊢;have hb4c:b4<wb.heap.size:=hmap.lt;have hsb:∀ w':World,w'.heap.size=w'.heap.size:=fun _=>rfl
   clear hm hMa hxb hcx hAx hsb;refine Gg ?_
   refine Qh Qb (fun(q:Nat×List Nr) w'=>q.1<=N.length/\Mod (fun i=>i=b4) w4 w'/\(∀ i,i<wb.heap.size->i≠b4->w'.heap[i]? = wb.heap[i]?)/\wb.heap.size<=w'.heap.size/\q.2=(N.take q.1).foldl (Qdv K) m/\(∀ x∈q.2,Qp3 x)/\MapAt w' b4 Value.string (Xj Qmt q.2))
    (fun | (j,_) => [(0,Pj p),(2,Vj n),(3,Vj floor),(9,.slice A2 K.length c2),(10,.map (some b4)),(27,.slice A2 K.length c2),(28,Vj K.length),(29,Vj (k:Nat)),(36,.slice A5 N.length c5),(37,Vj N.length),(38,Vj (j:Nat))]) (fun q=>N.length-q.1) (0,m) ⟨Zu _,hMb,fun i _ _=>rfl,Zg _,rfl,hmok,hmap⟩ Rr ?_
   clear hmap hMb hmok;rintro ⟨j,m1⟩ wc ⟨hj,hMc,hkc,hzc,hm1,hmok,hmap⟩;simp only at hj hm1 hmok hmap;refine Gg ?_;constructor
   . intro hlt2;have hlt2:j<N.length:=Su hlt2;have hsN':Sl nrC 3 wc A5 N:=Qyz.stay hsN fun a ha hlt=>hkc _ hlt (by have:=hA5 a ha;omega)
     obtain⟨ay,hAy,hcy⟩:=hsN'.get hlt2;have htk2:(N.take (j+1)).foldl (Qdv K) m=Qdv K m1 N[j]:=(by rw[Za hlt2,Zt,<- hm1];rfl);have hxok:=hNok N[j] (Zx hlt2);generalize N[j]=x at hcy htk2 hxok;refine Gg ?_;refine⟨ay,⟨hAy,Om,Om⟩,Gg ?_⟩;refine⟨nrC x,⟨rfl,hcy⟩,Gg ?_⟩;intro b7 w7 hn7;refine Gg ?_;refine Qc Qb (e:=ty261) rfl hn7.At rfl rfl rfl (Qsw x) fun w8 h8 ho8 => ?_
     have h8:At w8 b7 261 (nrC x):=h8;have hxc8:Ext wc w8:=ho8.ext hn7.ext (by rw[hn7.block];exact Zg _);clear ho8 hn7;refine Gg ?_;refine⟨.string x.1,h8.one rfl,Gg ?_⟩;obtain⟨o,ho⟩:∃ o,o=(Qe m1 x.1).getD (0,0):=⟨_,rfl⟩;obtain⟨ok,hok⟩:∃ ok,ok=(Qe m1 x.1).isSome:=⟨_,rfl⟩;have hlk:=Qvm Xgs (Qo Xb) (e:=ty242) ty242_ok (cl := .same) Qp (hmap.ext hxc8) x.1;rw[show ty242.zero=Qmt (0,0) from rfl,Xo,Qkk,Option.isSome_map,<- ho,<- hok] at hlk;have hook:ok=true->Qki 100000000 o:=fun h1=>(by rw[hok] at h1;obtain⟨v,hv⟩:=Zca.1 h1;rw[hv] at ho;rw[ho];exact hmok (x.1,v) (Qbi hv))
     have hbs:x.1∉K->Qdv K m1 x=if ok=false\/Qv2 o x.2=true then Xc m1 x.1 x.2 else m1:=fun hxK=>by
      unfold Qdv;rw[if_neg hxK]
      cases hq:Qe m1 x.1 with
      | none =>
        rw[hq] at hok;rw[if_pos (.inl hok)]
      | some v =>
        rw[hq] at hok ho;have hok:ok=true:=hok;have ho:o=v:=ho;subst ho;rw[hok];simp
     refine⟨_,hlk,Gg ?_⟩;clear hlk;intro b9 w9 hn9;refine Gg ?_;refine Qc Qb (e:=ty242) rfl hn9.At rfl rfl rfl (Qj2 o) fun w10 h10 ho10 => ?_
     have h10:At w10 b9 242 (Qlv o):=h10;have hx810:Ext w8 w10:=ho10.ext hn9.ext (by rw[hn9.block];exact Zg _);clear ho10 hn9;replace h8:=h8.ext hx810;have hxc10:=hxc8.trans hx810;refine Gg ?_;refine⟨.string x.1,h8.one rfl,Gg ?_⟩;have hMc10:=hMc.trans (Mod.of_ext (S:=fun i=>i=b4) hxc10);refine(Q6h K hKs A2 c2 x.1 w10 hKl (hKw hMc10)).mono ?_;rintro _ w11 ⟨⟨kk,rfl⟩,hx11⟩;replace h8:=h8.ext hx11;replace h10:=h10.ext hx11;have hxc11:=hxc10.trans hx11;have hMc11:=hMc.trans (Mod.of_ext (S:=fun i=>i=b4) hxc11);have hmap11:=hmap.ext hxc11;have hkc11:∀ i,i<wb.heap.size->i≠b4->w11.heap[i]? = wb.heap[i]? := fun i hi hne=>(hxc11.block i Om).trans (hkc i hi hne)
     have hzc11:wb.heap.size<=w11.heap.size:=Zv hzc hxc11.size;refine Gg ?_;constructor
     . intro hq;have hq:x.1∈K:=Su hq;have hst:Qdv K m1 x=m1:=by unfold Qdv;rw[if_pos hq]
       refine Gg ?_;refine⟨_,wrap_succ Om,Gg ?_⟩;exact⟨(j+1,m1),Sj,⟨Sj,hMc11,hkc11,hzc11,by rw[htk2,hst],hmok,hmap11⟩,Rr⟩
     . intro hq;have hq:x.1∉K:=Su hq;rw[hbs hq] at htk2;have hcp:=Q0m (a:=x.2) (b:=o);refine Gg ?_;refine⟨Qlv x.2,fun _=>⟨rfl,Qrm h8 1 fun j v hj=>by rw[Zc4];exact hj⟩,Gg ?_⟩;refine⟨Qlv o,fun _=>⟨rfl,h10.all⟩,Gg ?_⟩;have hcmp:Qki 100000000 o->Cal Tryz.prog 225 [Qmt x.2,Qmt o] w11 fun r w'=>r = Vj (Qpj x.2 o)/\Ext w11 w':=fun ho=>(Qd2 (N:=100000000) Om x.2 o hxok ho w11).mono fun r w' h=>⟨h.1,h.2.ext⟩
       refine⟨Unit,fun _=>(Vj (Qpj x.2 o)),fun _ w'=>Ext w11 w',(),fun hg=>((hcmp (hook (by cases ok <;> simp_all)))).mono fun r w' h=>⟨(),h.1,h.2⟩,?_⟩;intro _ w12 h2
       have hx12:Ext w11 w12:=by
        rcases h2 with⟨_,h⟩ | ⟨_,h⟩
        . exact h
        . rw[h];exact Ext.refl _
       clear h2;refine Hh ?_;replace h8:=h8.ext hx12;have hxc12:=hxc11.trans hx12;have hMc12:=hMc.trans (Mod.of_ext (S:=fun i=>i=b4) hxc12);have hmap12:=hmap.ext hxc12;have hkc12:∀ i,i<wb.heap.size->i≠b4->w12.heap[i]? = wb.heap[i]? := fun i hi hne=>(hxc12.block i Om).trans (hkc i hi hne)
       have hzc12:wb.heap.size<=w12.heap.size:=Zv hzc hxc12.size;generalize Qpj x.2 o=cr at hcp ⊢;refine Gg ?_;constructor
       . intro hq2;have hq2:ok=false\/Qv2 o x.2=true:=(by rw[<- hcp];cases ok <;> simp_all);rw[if_pos hq2] at htk2;refine Gg ?_;refine⟨.string x.1,h8.one rfl,Gg ?_⟩;refine⟨Qlv x.2,⟨rfl,Qrm h8 1 fun j v hj=>by rw[Zc4];exact hj⟩,Gg ?_⟩;refine Qx Xgs (Qo Xb) hmap12 x.1 (Qmt x.2) fun w13 hm13 ho13 => ?_
         rw[Xa] at hm13;refine Gg ?_;refine⟨_,wrap_succ Om,Gg ?_⟩;refine⟨(j+1,Xc m1 x.1 x.2),Sj,⟨Sj,hMc12.trans (Qj ho13 rfl),fun i hi hne=>(ho13.block i hne).trans (hkc12 i hi hne),by rw[ho13.size];exact hzc12,htk2.symm,fun y hy => ?_,hm13⟩,Rr⟩;rcases Qbp hy with h1 | h1
         . rw[h1];exact hxok
         . exact hmok y h1
       . intro hq2;have hq2:¬ (ok=false\/Qv2 o x.2=true):=(by rw[<- hcp];cases ok <;> simp_all);rw[if_neg hq2] at htk2;refine Gg ?_;refine⟨_,wrap_succ Om,Gg ?_⟩;exact⟨(j+1,m1),Sj,⟨Sj,hMc12,hkc12,hzc12,htk2.symm,hmok,hmap12⟩,Rr⟩
   . intro hge2;have hge2:N.length<=j:=Su hge2;rw[Zb hge2] at hm1;refine Gg ?_;refine⟨_,wrap_succ Om,Gg ?_⟩;exact⟨(k+1,m1),Sj,⟨Sj,hMc,by simp only;rw[htk,hm1],hmok,hmap⟩,Rr⟩
 intro hge;have hge:K.length<=k:=Su hge;rw[Zb hge] at hm;have hmb:m=Qne Ss floor K:=hm;have hml:m.length<1000:=by rw[hmb];exact Q0e hS floor K
 rw[<- hmb] at hend hamg;clear hm hmb hge;have hb4a:=hmap.lt;have hxwa:Ext w wa:=Qdr (hx03.trans hx34) (T:=fun i=>i=b4) (fun i hi=>Om) hMa;refine Gg ?_;refine map_range Xgs hmap fun wd hid hxd => ?_
 generalize hr:wa.heap.size=r at hid ⊢;refine Gg ?_
 refine Qh Qb (fun(q:List (Bj×Value)×Option Addr×Nat×List Nr) w'=>Ext w w'/\Iter w' r b4 Value.string (Xj Qmt m) q.1/\Xj Qmt q.2.2.2=q.1/\(∀ x∈q.2.2.2,Qp3 x)/\Own nrC 3 261 wd.heap.size w' q.2.1 q.2.2.1 q.2.2.2/\wd.heap.size<=w'.heap.size)
  (fun | (_,B,d,F) => [(2,Vj n),(19,.slice B F.length d),(74,Pj r)]) (fun q=>m.length-q.1.length) ([],none,0,[]) ⟨hxwa.trans hxd,hid,rfl,by simp,Own.nil,Zg _⟩ Rr ?_
 have hrd:r<wd.heap.size:=hid.lt;have hbd:b4<wd.heap.size:=hid.map.lt;have hwd:w.heap.size<=wd.heap.size:=(hxwa.trans hxd).size;have hwr:w.heap.size<=r:=by rw[<- hr];exact hxwa.size
 clear hid hxd hMa hmap;rintro ⟨vs,B,d,F⟩ we ⟨hxe,hie,hF,hFok,hown,hde⟩;simp only at hie hF hFok hown;have hFl:F.length=vs.length:=by rw[<- hF];simp[Xj]
 refine Gg ?_;refine Qe9 hie (fun hp => ?_) (fun x wf hin hnew hlt hif hof hen => ?_)
 . refine Gg ?_;constructor
   . intro hh;cases hh
   intro _;rw[<- hF] at hp;have hpF:=Q5p hp;refine Gg ?_;refine(Qyd F hFok B d wd.heap.size we hown (by have:=hpF.length_eq;omega) hde n hn).mono ?_;rintro _ wg ⟨F2,hp2,hs2,A6,c6,rfl,hown6,hx6⟩;have hF2:=hend F2 (hp2.trans hpF) hs2;have hF2l:=hamg F2 (hp2.trans hpF);refine Gg ?_;rw[<- hF2];refine⟨A6,c6,rfl,hown6.base hwd,hF2l,hx6 w hxe hwd⟩
 . have hxf:Ext w wf:=hof.ext hxe hwr;have hownf:Own nrC 3 261 wd.heap.size wf B d F:=hown.keep fun a ha=>hof.block _ (by have:=(hown.block ha).1;omega)
   have hlt:vs.length<m.length:=by simpa [Xj] using hlt
   have sf:=hof.size;obtain⟨y,hy,rfl⟩:∃ y∈m,x=(y.1,Qmt y.2):=(by unfold Xj at hin;obtain⟨y,hy,he⟩:=Zh.1 hin;exact⟨y,hy,he.symm⟩);have hyok:=hmok y hy;refine Gg ?_;constructor
   . intro _;refine Gg ?_;refine Qaw (hen wf rfl rfl) ?_;refine Gg ?_;intro bg wg hng;refine Gg ?_;refine Qc Qb (e:=ty242) rfl hng.At rfl rfl rfl (Qj2 y.2) fun wh hh hoh => ?_
     have hh:At wh bg 242 (Qlv y.2):=hh;have hxh:Ext wf wh:=hoh.ext hng.ext (by rw[hng.block];exact Zg _);clear hoh hng;refine Gg ?_;refine⟨Qlv y.2,⟨rfl,hh.all⟩,Gg ?_⟩;intro bi wi hni;refine Gg ?_;refine Qq Qyz (l:=F) (news := [y]) rfl ((hownf.ext hxh).ext hni.ext) rfl (Qyz.new1 (x:=y) hni) (by simp;omega) (by have:=hxh.size;have:=hni.size;omega) fun Aj cj wj hownj hgj hAj => ?_
     have hrg:∀ i,B.map (·.block)=some i->wd.heap.size<=i:=Xq hownf;have hxi:=hxh.trans hni.ext;have hxj:Ext w wj:=Qu (hxf.trans hxi) hgj (fun i hi=>by have:=hrg i hi;have:=hxwa.size;omega);have hij:Iter wj r b4 Value.string (Xj Qmt m) (vs ++ [(y.1,Qmt y.2)]):=(by have hib:=hif.ext hxi;exact hib.keep (hgj.block b4 hib.map.lt fun e=>by have:=hrg b4 e.symm;omega) (hgj.block r hib.lt fun e=>by have:=hrg r e.symm;omega));have sj:=hgj.size;have si:=hxi.size;have hFy:Xj Qmt (F ++ [y])=vs ++ [(y.1,Qmt y.2)]:=by rw[<- hF];simp[Xj]
     have hFyok:∀ x∈F ++ [y],Qp3 x:=fun x hx=>by
      rcases Zj.1 hx with h1 | h1
      . exact hFok x h1
      . rw[Zk] at h1;rw[h1];exact hyok
     generalize F ++ [y]=F2 at hownj hFy hFyok ⊢;refine Gg ?_;exact⟨(vs ++ [(y.1,Qmt y.2)],Aj,cj,F2),by simp;omega,⟨hxj,hij,hFy,hFyok,hownj,Om⟩,Rr⟩
   . intro hh;cases hh
theorem Xil {c:Cfg} {z:List Ev} (hm:∀ e∈z,X0 e=true) (hz:z.length<1000):SsR (Qg0 c z) :=
 ⟨(Qz5 c z hm hz).len,Zb0 (Q7x c z) hz,fun a=>by have:=Xcn c z a;omega,fun a x hx=>by have:=Qds (Q8o hm hx);omega⟩
structure PSt (St:(Nat->Prop)->World->Prop) (n0 p:Nat) (c:Cfg) (z:List Ev):Prop where
 keep:∀ {T:Nat->Prop} {w w':World},St T w->(∀ k,k<w.heap.size->(T k\/k<n0)->w'.heap[k]? = w.heap[k]?)->St T w'
 low:∀ {T:Nat->Prop} {w:World},St T w->n0<=w.heap.size
 wq:∀ {T:Nat->Prop} {w:World},St T w->∃ v T0,WQ w T0 p c z v
 lt:∀ {T:Nat->Prop} {w:World},St T w->∀ k,T k->k<w.heap.size
 pairs:∀ {T:Nat->Prop} {w:World},St T w->Cal Tryz.prog 141 [Pj p] w fun r w'=>∃ pp T',r = Pj pp/\St T' w'/\(∀ k,T' k->T k\/w.heap.size<=k)/\Mod T w w'/\¬ T' pp/\∃ R,Qbu w' R pp (Qg0 c z)
theorem PSt.ext {St:(Nat->Prop)->World->Prop} {n0 p:Nat} {c:Cfg} {z:List Ev} (h:PSt St n0 p c z) {T:Nat->Prop} {w w':World} (hs:St T w) (hx:Ext w w'):St T w':=h.keep hs fun k hk _=>hx.block k hk
theorem Qjz {p:Nat} {c:Cfg} {z:List Ev} (hok:Qm7 c z):PSt (fun T w=>WT w T p c z) 0 p c z where
 keep h hk:=h.keep fun k ht=>hk k (h.lt k ht) (.inl ht)
 low _:=Zu _
 wq h:=by obtain⟨v,T0,hQ,_⟩:=h;exact⟨v,T0,hQ⟩
 lt h:=h.lt
 pairs {T w} h:=by
  obtain⟨v,T0,hQ,_⟩:=id h;refine(Qi2 h (Qz5 c z hQ.may hok.len)).mono ?_;rintro r w' ⟨pp,T',h1,h2,h3,h4,_,h5,h6⟩;exact⟨pp,T',h1,h2,h3,h4,h5,_,h6⟩
def Q54 (St:(Nat->Prop)->World->Prop) (Q:List Bj) (T:Nat->Prop) (w:World) (r:Value) (w':World):Prop:=∃ A cp T',r = .slice A Q.length cp/\Own Qab 1 9 w.heap.size w' A cp Q/\(∀ a,A=some a->¬ T' a.block)/\St T' w'/\(∀ k,T' k->T k\/w.heap.size<=k)/\Mod T w w'
theorem Qm6.p {St:(Nat->Prop)->World->Prop} {c:Cfg} {z:List Ev} {person:Bj} {now limit:Int} {k:Nat} {T:Nat->Prop} {n0 p:Nat} {w w':World} {r:Value} (hP:PSt St n0 p c z) (hW:St T w) (h:Qm6 c z person now limit k w r w'):Q54 St ((Qev c z person now k).take limit.toNat) T w r w':=by
 obtain⟨A,cp,h1,h2,h3⟩:=h;exact⟨A,cp,T,h1,h2,fun a ha hT=>by have:=hP.lt hW _ hT;have:=(h2.block ha).1;omega,hP.ext hW h3,fun k hk => .inl hk,Mod.of_ext h3⟩
set_option maxHeartbeats 2000000 in
theorem Q4m {St:(Nat->Prop)->World->Prop} {w:World} {T:Nat->Prop} {n0 p:Nat} {c:Cfg} {z:List Ev} (hP:PSt St n0 p c z) (h:St T w) (hok:Qm7 c z) (person:Bj) (now limit:Int) (hl:0<=limit/\limit<=9223372036854775807) :
 Cal Tryz.prog 89 [Pj p,.string person,Vj now,Vj limit] w fun r w'=>Q54 St ((Qev c z person now 2).take limit.toNat) T w r w':=by
 have hlen:=hok.len;obtain⟨v,T0,hQ⟩:=hP.wq h;have hm:=hQ.may;have hTl:=hP.lt h;have hdl:(Qlg z person).length<1000000:=(by have h1:(Qlg z person).length<=(Qej z person).length:=Zc _ _;have h2:(Qej z person).length<=z.length:=Qmq z person;omega);have hS:=Xil (c:=c) hm hlen;have hF:(Qev c z person now 2).take limit.toNat=(((Q6a (Qg0 c z) 1 ((Qlg z person).map (fun x:Ev=>x.item))).map (·.1)).take limit.toNat).map (fun x:Nr=>x.1):=(by unfold Qev Xjq;rw[if_neg (by decide),if_neg (by decide),if_pos rfl,List.map_take,Zy];rfl);refine Fi Tryz.func89 rfl _ rfl rfl (Hh ?_);refine(Qqc hQ person).mono ?_;rintro _ w1 ⟨A1,c1,rfl,hown1,hx1⟩;have hs:=hown1.sl Qag;obtain⟨K0,hK0⟩:∃ K0,K0=(Qlg z person).map (fun x:Ev=>x.item):=⟨_,rfl⟩;rw[<- hK0] at hF;generalize Qlg z person=Q at hs hdl hK0 ⊢;refine Gg ?_
 refine Qh Qb (fun(x:Nat×Option Addr×Nat×List Bj) w'=>x.1<=Q.length/\Ext w1 w'/\x.2.2.2=(Q.take x.1).map (fun x:Ev=>x.item)/\Own Qab 1 9 w1.heap.size w' x.2.1 x.2.2.1 x.2.2.2)
  (fun | (k,B,d,K) => [(0,Pj p),(3,Vj limit),(9,.slice B K.length d),(17,.slice A1 Q.length c1),(18,Vj Q.length),(19,Vj (k:Nat))]) (fun x=>Q.length-x.1) (0,none,0,[]) ⟨Zu _,Ext.refl _,rfl,Own.nil⟩ Rr ?_
 rintro ⟨k,B,d,K⟩ wa ⟨hk,hxa,hK,hownK⟩;simp only at hk hK hownK;have hKl:K.length<=k:=by rw[hK,Zf,Zn];omega
 refine Gg ?_;constructor
 . intro hlt;have hlt:k<Q.length:=Su hlt;obtain⟨ax,hAx,hcx⟩:=(hs.ext hxa).get hlt;subst hAx;have htk:(Q.take (k+1)).map (fun x:Ev=>x.item)=K ++ [((fun x:Ev=>x.item)) Q[k]]:=by rw[Za hlt,Zp,hK];rfl
   generalize Q[k]=x at hcx htk;refine Gg ?_;refine⟨ax,Ix,Gg ?_⟩;refine⟨evC x,⟨rfl,hcx⟩,Gg ?_⟩;intro bb wb hnb;refine Gg ?_;refine Qc Qb (e:=ty77) rfl hnb.At rfl rfl rfl (Qbg x) fun wc hbc hoc => ?_
   have hbc:At wc bb 77 (evC x):=hbc;have hxc:Ext wa wc:=hoc.ext hnb.ext (by rw[hnb.block];exact Zg _);clear hoc hnb;have hfx:nth (evC x) 5=some (.string (((fun x:Ev=>x.item)) x)):=rfl;generalize hfn:((fun x:Ev=>x.item)) x=tx at hfx htk;refine Gg ?_;refine⟨.string tx,hbc.one hfx,Gg ?_⟩;intro be we hne;refine Gg ?_;refine Qq X7 (l:=K) (news := [tx]) rfl ((hownK.ext hxc).ext hne.ext) rfl (X7.new1 (x:=tx) hne) (by simp;omega) ((hxa.trans hxc).trans hne.ext).size fun Af cf wf hownf hgf hAf => ?_
   have hxf:=Qu ((hxa.trans hxc).trans hne.ext) hgf (Xq ((hownK.ext hxc).ext hne.ext));generalize K ++ [tx]=K2 at hownf htk ⊢;refine Gg ?_;refine⟨_,wrap_succ Om,Gg ?_⟩;exact⟨(k+1,Af,cf,K2),Sj,⟨Sj,hxf,htk.symm,hownf⟩,Rr⟩
 intro hge;have hge:Q.length<=k:=Su hge;rw[Zb hge] at hK;rw[<- hK0] at hK;subst hK;have hKl2:K.length<1000000:=Om;have hx0a:=hx1.trans hxa;refine Gg ?_;refine(hP.pairs (hP.ext h hx0a)).mono ?_;rintro _ w2 ⟨pp,T',rfl,hW2,hT2,hM2,hppT,R2,hP2⟩;have sa:=hx0a.size;have s2:=hM2.size;have hBk:∀ a,B=some a->w2.heap[a.block]? = wa.heap[a.block]? := fun a ha=>hM2.block _ (hownK.block ha).2 fun hT=>(by have:=hTl _ hT;have:=(hownK.block ha).1;have:=hx1.size;omega)
 have hsB:SlT w2 B K:=Qa8 (hownK.sl Qw) hBk;refine Gg ?_;refine(Q2d w2 _ pp _ hP2 hS K B d hsB (fun a ha=>⟨by have:=(hownK.block ha).2;omega,Q1h hownK ha⟩) hKl2 limit hl 1).mono ?_;rintro _ w3 ⟨A3,c3,rfl,hown3,hal,hx3⟩;unfold Q54;rw[hF];have hs3:=hown3.sl Qsv;have hQl3:((((Q6a (Qg0 c z) 1 K).map (·.1)).take limit.toNat)).length<1000:=by rw[Zn,Zf];omega
 generalize ((Q6a (Qg0 c z) 1 K).map (·.1)).take limit.toNat=Q3 at hs3 hQl3 ⊢;have hM03:Mod T w w3:=((Mod.of_ext hx0a).trans hM2).trans (Mod.of_ext hx3);have hW3:=hP.ext hW2 hx3;have s3:=hx3.size;have hT3:∀ k,T' k->T k\/w.heap.size<=k:=fun k hk=>(hT2 k hk).imp id fun h=>Om
 have hT3l:=hP.lt hW2;clear hF hown3 hx3 hsB hBk hownK hM2 hW2 hT2 hP2 hown1 hs hxa hx0a hx1 hal hS hKl hk;refine Gg ?_
 refine Qh Qb (fun(x:Nat×Option Addr×Nat×List Bj) w'=>x.1<=Q3.length/\Ext w3 w'/\x.2.2.2=(Q3.take x.1).map (fun x:Nr=>x.1)/\Own Qab 1 9 w3.heap.size w' x.2.1 x.2.2.1 x.2.2.2)
  (fun | (k,B,d,K) => [(12,.slice B K.length d),(33,.slice A3 Q3.length c3),(34,Vj Q3.length),(35,Vj (k:Nat))]) (fun x=>Q3.length-x.1) (0,none,0,[]) ⟨Zu _,Ext.refl _,rfl,Own.nil⟩ Rr ?_
 rintro ⟨k,B,d,K⟩ wa ⟨hk,hxa,hK,hownK⟩;simp only at hk hK hownK;have hKl:K.length<=k:=by rw[hK,Zf,Zn];omega
 refine Gg ?_;constructor
 . intro hlt;have hlt:k<Q3.length:=Su hlt;obtain⟨ax,hAx,hcx⟩:=(hs3.ext hxa).get hlt;subst hAx;have htk:(Q3.take (k+1)).map (fun x:Nr=>x.1)=K ++ [((fun x:Nr=>x.1)) Q3[k]]:=by rw[Za hlt,Zp,hK];rfl
   generalize Q3[k]=x at hcx htk;refine Gg ?_;refine⟨ax,Ix,Gg ?_⟩;refine⟨nrC x,⟨rfl,hcx⟩,Gg ?_⟩;intro bb wb hnb;refine Gg ?_;refine Qc Qb (e:=ty261) rfl hnb.At rfl rfl rfl (Qsw x) fun wc hbc hoc => ?_
   have hbc:At wc bb 261 (nrC x):=hbc;have hxc:Ext wa wc:=hoc.ext hnb.ext (by rw[hnb.block];exact Zg _);clear hoc hnb;have hfx:nth (nrC x) 0=some (.string (((fun x:Nr=>x.1)) x)):=rfl;generalize hfn:((fun x:Nr=>x.1)) x=tx at hfx htk;refine Gg ?_;refine⟨.string tx,hbc.one hfx,Gg ?_⟩;intro be we hne;refine Gg ?_;refine Qq X7 (l:=K) (news := [tx]) rfl ((hownK.ext hxc).ext hne.ext) rfl (X7.new1 (x:=tx) hne) (by simp;omega) ((hxa.trans hxc).trans hne.ext).size fun Af cf wf hownf hgf hAf => ?_
   have hxf:=Qu ((hxa.trans hxc).trans hne.ext) hgf (Xq ((hownK.ext hxc).ext hne.ext));generalize K ++ [tx]=K2 at hownf htk ⊢;refine Gg ?_;refine⟨_,wrap_succ Om,Gg ?_⟩;exact⟨(k+1,Af,cf,K2),Sj,⟨Sj,hxf,htk.symm,hownf⟩,Rr⟩
 intro hge;have hge:Q3.length<=k:=Su hge;rw[Zb hge] at hK;rw[<- hK];refine Gg ?_;exact⟨B,d,T',rfl,hownK.base Om,fun a ha hT=>by have:=hT3l _ hT;have:=(hownK.block ha).1;omega,hP.ext hW3 hxa,hT3,hM03.trans (Mod.of_ext hxa)⟩
