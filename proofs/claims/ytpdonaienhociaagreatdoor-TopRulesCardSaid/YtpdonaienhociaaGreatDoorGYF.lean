import Derived.Test.YtpdonaienhociaaGreatDoorGYD
import Derived.Test.YtpdonaienhociaaGreatDoorGYE
set_option linter.all false
namespace Go.Proofs.YtpdonaienhociaaGreatDoor
open Go.Se Go.RowKit Go.Sort
def Xji (x:Bj×FuncId):List Value := [.string x.1,.func (.func x.2) #[] #[]]
theorem Xd4 (x:Bj×FuncId):(Xji x).length=2:=rfl
def Xg2:List (Bj×FuncId) := [(⟨#[112,111,112,117,108,97,114]⟩,87),(⟨#[114,105,115,105,110,103]⟩,88),(⟨#[107,105,110]⟩,89),(⟨#[102,111,108,108,111,119,101,100]⟩,90),(⟨#[102,114,101,115,104]⟩,91),(⟨#[97,103,97,105,110]⟩,92)]
theorem Qw4 (w:World):Cal Tryz.prog 36 [] w fun r w'=>∃ b,r = .slice (some ⟨b,0,none⟩) 6 6/\Sl Xji 2 w' (some ⟨b,0,none⟩) Xg2/\Ext w w':=by
 refine Fi Tryz.func36 rfl _ rfl rfl (Hh ?_);intro b1 w1 hn1;refine Hh ?_;exact⟨b1,rfl,Qak (enc:=Xji) (l:=Xg2) Xd4 hn1,hn1.ext⟩
theorem Q8h (limit:Int):(max limit 0).toNat=limit.toNat:=Om
set_option maxHeartbeats 1000000 in
theorem Qyx {w:World} {T:Nat->Prop} {p:Nat} {c:Cfg} {z:List Ev} {v:Value} (h:WQ w T p c z v) (hok:Qm7 c z) (k:Nat) (hk:k<6) (hk2:k≠2) (person:Bj) (now limit:Int) (hnow:0<=now/\now<=1099511627776) (hl:0<=limit/\limit<=9223372036854775807) :
 Cal Tryz.prog (Xg2[k]'hk).2 [Pj p,.string person,Vj now,Vj limit] w fun r w'=>Qm6 c z person now limit k w r w':=by
 rcases k with _ | _ | _ | _ | _ | _ | k
 . exact Qv0 h hok person now limit hnow hl
 . exact Q4l h hok person now limit hnow hl
 . exact absurd rfl hk2
 . exact Qr9 h hok person now limit hl
 . exact Qpx h hok person now limit hnow hl
 . exact Q17 h hok person now limit hnow hl
 . omega
theorem Xda {St:(Nat->Prop)->World->Prop} {w:World} {T:Nat->Prop} {n0 p:Nat} {c:Cfg} {z:List Ev} (hP:PSt St n0 p c z) (h:St T w) (hok:Qm7 c z) (k:Nat) (hk:k<6) (person:Bj) (now limit:Int) (hnow:0<=now/\now<=1099511627776) (hl:0<=limit/\limit<=9223372036854775807) :
 Cal Tryz.prog (Xg2[k]'hk).2 [Pj p,.string person,Vj now,Vj limit] w fun r w'=>Q54 St ((Qev c z person now k).take limit.toNat) T w r w':=by
 by_cases hk2:k=2
 . subst hk2;exact Q4m hP h hok person now limit hl
 . obtain⟨v,T0,hQ⟩:=hP.wq h;exact(Qyx hQ hok k hk hk2 person now limit hnow hl).mono fun r w' hr=>hr.p hP h
theorem one_any {w:World} (p:Nat) (r:Int) (person:Bj) (now limit:Int) (hl:limit<=9223372036854775807) {R:Value->World->Prop}
 (hno:¬ (0<=r/\r<=5/\0<=now/\now<=1099511627776)->∀ w1,Ext w w1->R (.slice none 0 0) w1)
 (hyes:∀ (k:Nat) (hk:k<6),r=k->0<=now/\now<=1099511627776->∀ w1,Ext w w1->Cal Tryz.prog (Xg2[k]'hk).2 [Pj p,.string person,Vj now,Vj (max limit 0)] w1 R) :
 Cal Tryz.prog 37 [Pj p,Vj r,.string person,Vj now,Vj limit] w R:=by
 refine Fi Tryz.func37 rfl _ rfl rfl (Hh ?_);refine(Qw4 w).mono ?_;rintro _ w1 ⟨b,rfl,hs,hx1⟩;refine Hh ?_;constructor
 . intro hq;have hq:¬ (0<=r/\r<=5/\0<=now/\now<=1099511627776):=by simp at hq;omega
   refine Hh ?_;exact hno hq w1 hx1
 . intro hq;have hq:0<=r/\r<=5/\0<=now/\now<=1099511627776:=by simp at hq;omega
   obtain⟨k,rfl⟩:∃ k:Nat,r=k:=⟨r.toNat,Om⟩;have hk:k<6:=Om;obtain⟨a,hA,hc⟩:=hs.get (show k<Xg2.length from hk);have hcal:=hyes k hk rfl ⟨hq.2.2.1,hq.2.2.2⟩ w1 hx1;refine Hh ?_;refine⟨a,⟨hA,Om,Om⟩,Hh ?_⟩;generalize hf:Xg2[k]=wf at hc hcal;refine⟨.func (.func wf.2) #[] #[],cells_at hc (k:=1) rfl,Hh ?_⟩;refine hcal.mono ?_;rintro v w2 hv;refine Hh ?_;exact hv
theorem Xc8 {c:Cfg} {z:List Ev} {person:Bj} {now limit:Int} {k:Nat} (hk:k<6) (hnow:0<=now/\now<=1099511627776):Qgy c z person now k limit=(Qev c z person now k).take (max limit 0).toNat:=by
 unfold Qgy;rw[if_pos ⟨Om,Om,hnow.1,hnow.2⟩,Q8h,Za4]
theorem Q9l {c:Cfg} {z:List Ev} {person:Bj} {now r limit:Int} (h:¬ (0<=r/\r<=5/\0<=now/\now<=1099511627776)):Qgy c z person now r limit = []:=by
 unfold Qgy;rw[if_neg h]
theorem Xcw {St:(Nat->Prop)->World->Prop} {w:World} {T:Nat->Prop} {n0 p:Nat} {c:Cfg} {z:List Ev} (hP:PSt St n0 p c z) (h:St T w) (hok:Qm7 c z) (r:Int) (person:Bj) (now limit:Int) (hl:limit<=9223372036854775807) :
 Cal Tryz.prog 37 [Pj p,Vj r,.string person,Vj now,Vj limit] w fun v w'=>Q54 St (Qgy c z person now r limit) T w v w':=by
 refine one_any p r person now limit hl (fun hq w1 hx1 => ?_) (fun k hk hr hnow w1 hx1 => ?_)
 . rw[Q9l hq];exact⟨none,0,T,rfl,Own.nil,fun a ha=>(by cases ha),hP.ext h hx1,fun k hk => .inl hk,Mod.of_ext hx1⟩
 . subst hr;rw[Xc8 hk hnow];refine(Xda hP (hP.ext h hx1) hok k hk person now (max limit 0) hnow ⟨Om,Om⟩).mono ?_;rintro v w2 ⟨A,cp,T',h1,h2,h3,h4,h5,h6⟩;exact⟨A,cp,T',h1,h2.base hx1.size,h3,h4,fun k hk=>(h5 k hk).imp id fun h=>Zv hx1.size h,(Mod.of_ext hx1).trans h6⟩
theorem Qv4 {c:Cfg} {z:List Ev} (hm:∀ e∈z,X0 e=true) {person:Bj} {now:Int} {r:Nat} {x:Bj} (h:x∈Qev c z person now r):Qr x=true/\x∈z.map (·.item):=by
 have hwp:∀ e,e∈z.filter wpB->Qr e.item=true/\e.item∈z.map (·.item):=fun e he=>⟨(Qtt hm he).2,Zh.2 ⟨_,(Ze.1 he).1,rfl⟩⟩
 have hnw:∀ q:It->Bool,x∈(Q1a z now q).map (·.1)->Qr x=true/\x∈z.map (·.item):=fun q hq=>(by obtain⟨e,he,rfl⟩:=Zh.1 (Qku (Q34 hq));exact⟨Q5e hm he,Zh.2 ⟨e,(Ze.1 he).1,rfl⟩⟩)
 unfold Qev at h;split at h
 . obtain⟨y,hy,rfl⟩:=Zh.1 h;have hy2:=(Qf3 _).mem_iff.1 hy;rw[(Qc0 c.width z).1] at hy2;unfold Qg1 at hy2;obtain⟨k,hk,rfl⟩:=Zh.1 (Ze.1 hy2).1;obtain⟨d,hd,rfl⟩:=Zh.1 hk;obtain⟨e,he,hi⟩:=(Q65 _).2 d hd;have:=hwp e he;rw[hi] at this;exact this
 split at h
 . obtain⟨y,hy,rfl⟩:=Zh.1 h;have h1:=Qh3.1 ((Qb6 _ _).mem_iff.1 hy);unfold Xic Qce at h1;obtain⟨k,hk,hke⟩:=Zh.1 (Ze.1 h1).1;have hkk:y.1.1=k:=by rw[<- hke];rfl
   rw[hkk];rw[(Qc0 c.width z).2.1] at hk;unfold Qcv at hk;rw[X5] at hk;obtain⟨d,hd,rfl⟩:=Zh.1 hk;obtain⟨e,he,hi⟩:=(Xc4 c.width _).2 d (Ze.1 hd).1;have:=hwp e he;rw[hi] at this;exact this
 split at h
 . obtain⟨y,hy,rfl⟩:=Zh.1 h;have h1:=Qh3.1 ((Qb6 _ _).mem_iff.1 hy);refine((Qi8 (Q:=fun q:Nr=>Qr q.1=true/\q.1∈z.map (·.item)) _ [] (by simp) (by simp) fun q hq => ?_).2 _ h1).2;obtain⟨a,_,hq⟩:=Zbb.1 hq;unfold Qgx at hq;obtain⟨b,hb,rfl⟩:=Zh.1 hq;have hb:=(Ze.1 hb).1;unfold Qem at hb;obtain⟨e,he,hi⟩:=Zh.1 (Qr7 c z (Ze.1 (X5.1 hb)).1);have:=hwp e he;rw[hi] at this;exact this
 split at h
 . exact hnw _ h
 split at h
 . exact hnw _ h
 split at h
 . obtain⟨y,hy,rfl⟩:=Zh.1 h;have h2:=(Ze.1 ((Qf3 _).mem_iff.1 hy)).1;obtain⟨e,he,hi⟩:=Zh.1 (Qvh h2).1;have h3:=Ze.1 he;have h4:e∈z:=(by have h1:=h3.1;unfold Qej hist Qao at h1;exact(Ze.1 (Ze.1 h1).1).1);rw[<- hi];exact⟨(Qeq (hm e h4) (Su h3.2)).2,Zh.2 ⟨e,h4,rfl⟩⟩
 . cases h
theorem Xc9 {c:Cfg} {z:List Ev} (hm:∀ e∈z,X0 e=true) (hS:(Qg0 c z).length<1000) (person:Bj) (now:Int) (r:Nat):(Qev c z person now r).length<=z.length:=by
 have h:=Qd3 (Qq5 hS person now r) fun x hx=>(Qv4 hm hx).2
 rw[Zf] at h;exact h
theorem Q9k {c:Cfg} {z:List Ev} (hm:∀ e∈z,X0 e=true) (hS:(Qg0 c z).length<1000) (person:Bj) (now r limit:Int):(Qgy c z person now r limit).length<=z.length:=by
 unfold Qgy;split
 . have:=Xc9 hm hS person now r.toNat;rw[Zn];omega
 . simp
end Go.Proofs.YtpdonaienhociaaGreatDoor
namespace Go.Proofs.YtpdonaienhociaaGreatDoor
open Go.Se Go.RowKit Go.Sort Go.Shelf
theorem Q3m (mb:Option Nat) (w:World):Cal Tryz.prog 39 [.map mb] w fun r w'=>r = .func (.func 95) #[] #[Pj w.heap.size]/\w'.cell? ⟨w.heap.size,0,none⟩=some (.map mb)/\Ext w w' :=
 Qfw Tryz.keys39 ⟨_,Tryz.func39,rfl,rfl⟩ mb w
theorem Qwk {w:World} {Bm b:Nat} {L:List (Bj×Value)} (hc:w.cell? ⟨Bm,0,none⟩=some (.map (some b))) (hm:MapAt w b Value.string L) (hk:∀ x∈L,x.1.size<=1000000) (hl:L.length<=1000000000) :
 Cal Tryz.prog 38 [.func (.func 95) #[] #[Pj Bm]] w fun r w'=>∃ A c,r = .slice A (Xi (L.map (·.1))).length c/\Own Qab 1 9 w.heap.size w' A c (Xi (L.map (·.1)))/\Ext w w':=by
 obtain⟨N,Q,h1,h2,h3⟩:=Qg8 { Tryz.keys39 with } hc hm hk hl;exact Qdo Tryz.sorted38 Qwl (enters_of Tryz.func94 Kr rfl) (enters_of Tryz.func95 Kr rfl) ⟨_,Tryz.func38,rfl,rfl⟩ h2 h1 h3
def rdStep (r:Int) (f:Bj->List Int) (x:Bj):Bj->List Int:=Ql4 f x (f x ++ [r])
theorem Q9a (r:Int):∀ (l:List Bj) (f:Bj->List Int),l.Nodup->∀ x,(l.foldl (rdStep r) f) x=if x∈l then f x ++ [r] else f x
 | [],f,_,x=>by simp
 | a :: l,f,hn,x=>by
   rw[Zbc] at hn;rw[Zap,Q9a r l _ hn.2 x];unfold rdStep Ql4
   by_cases h:x=a
   . subst h;rw[if_neg hn.1,if_pos rfl,if_pos (by simp)]
   . rw[if_neg h]
     by_cases h2:x∈l
     . rw[if_pos h2,if_pos (by simp[h2])]
     . rw[if_neg h2,if_neg (by simp[h,h2])]
def Q5z (c:Cfg) (z:List Ev) (person:Bj) (now limit:Int) (k:Nat) (x:Bj):List Int:=((List.range k).filter fun r=>decide (x∈Qgy c z person now (r:Nat) limit)).map fun r=>((r:Nat):Int)
theorem Q9b (c:Cfg) (z:List Ev) (person:Bj) (now limit:Int) (k:Nat) (x:Bj):Q5z c z person now limit (k+1) x=if x∈Qgy c z person now (k:Nat) limit then Q5z c z person now limit k x ++ [(k:Int)] else Q5z c z person now limit k x:=by
 unfold Q5z;rw[Zc6,Zq,Zp]
 by_cases h:x∈Qgy c z person now (k:Nat) limit
 . rw[if_pos h];simp[h]
 . rw[if_neg h];simp[h]
theorem Xc6 (c:Cfg) (z:List Ev) (person:Bj) (now limit:Int) (k:Nat) (x:Bj):(Q5z c z person now limit k x).length<=k:=by
 unfold Q5z;rw[Zf];refine Zv (Zc _ _) ?_;simp
def Qgd (c:Cfg) (z:List Ev) (person:Bj) (now limit:Int):List Bj:=Qcc ((List.range 6).flatMap fun r=>Qgy c z person now (r:Nat) limit)
theorem Xbv {c:Cfg} {z:List Ev} {person:Bj} {now limit:Int} {x:Bj}:x∈Qgd c z person now limit↔Q5z c z person now limit 6 x ≠ []:=by
 unfold Qgd Q5z;rw[X5,Zbb];constructor
 . rintro ⟨r,hr,hx⟩ h;have:(r:Int)∈(((List.range 6).filter fun r=>decide (x∈Qgy c z person now (r:Nat) limit)).map fun r=>((r:Nat):Int)):=Zh.2 ⟨r,Ze.2 ⟨hr,Su hx⟩,rfl⟩;rw[h] at this;cases this
 . intro h;obtain⟨y,hy⟩:=List.exists_mem_of_ne_nil _ h;obtain⟨r,hr,_⟩:=Zh.1 hy;obtain⟨h1,h2⟩:=Ze.1 hr;exact⟨r,h1,Su h2⟩
theorem Qng {c:Cfg} {z:List Ev} (hm:∀ e∈z,X0 e=true) {person:Bj} {now limit:Int} {x:Bj} (h:x∈Qgd c z person now limit):Qr x=true/\x∈z.map (·.item):=by
 unfold Qgd at h;obtain⟨r,_,hx⟩:=Zbb.1 (X5.1 h);exact Qv4 hm (Q9m hx)
theorem Qja {c:Cfg} {z:List Ev} (hm:∀ e∈z,X0 e=true) (person:Bj) (now limit:Int):(Qgd c z person now limit).length<=z.length:=by
 have h:=Qd3 (V:=Qgd c z person now limit) (Qcs _) fun x hx=>(Qng hm hx).2
 rw[Zf] at h;exact h
theorem Xbc:Tryz.prog.underlying 117=some (.map 9 53):=by kernel_rfl
theorem Xig:Ql9 Tryz.prog 53 121 Qfu 1 8:=⟨by kernel_rfl,⟨_,ty121_ok,rfl,rfl⟩,by121,by decide,by decide,X4,fun x=>by simp[Qfu,Value.oneCell']⟩
abbrev Cd:=Bj×SV
def cdC (x:Cd):List Value := [.string x.1,.slice x.2.1 x.2.2.1 x.2.2.2]
theorem Q6r (x:Cd):(cdC x).length=2:=rfl
theorem Xdb:Ql9 Tryz.prog 51 55 cdC 2 40:=⟨by kernel_rfl,⟨_,ty55_ok,rfl,rfl⟩,by55,by decide,by decide,Q6r,fun x=>by simp[cdC,Value.oneCell']⟩
structure Xi0 (c:Cfg) (z:List Ev) (person:Bj) (now limit:Int) (n:Nat) (T':Nat->Prop) (w':World) (A:Option Addr) (H:List Cd):Prop where
 sl:Sl cdC 2 w' A H
 keys:H.map (·.1)=Qgd c z person now limit
 row:∀ d∈H,d.2.2.1=(Q5z c z person now limit 6 d.1).length/\SlI w' d.2.1 (Q5z c z person now limit 6 d.1)/\∀ a,d.2.1=some a->n<=a.block/\¬ T' a.block
 new:∀ a,A=some a->n<=a.block/\¬ T' a.block
set_option maxHeartbeats 8000000 in
theorem Qu4 {St:(Nat->Prop)->World->Prop} {w:World} {T:Nat->Prop} {n0 p:Nat} {c:Cfg} {z:List Ev} (hP:PSt St n0 p c z) (h:St T w) (hok:Qm7 c z) (hS:(Qg0 c z).length<1000) (person:Bj) (now limit:Int) (hl:limit<=9223372036854775807) :
 Cal Tryz.prog 11 [Pj p,.string person,Vj now,Vj limit] w fun r w'=>∃ A cp H T',r = .slice A H.length cp/\Xi0 c z person now limit w.heap.size T' w' A H/\St T' w'/\(∀ k,T' k->T k\/w.heap.size<=k)/\Mod T w w':=by
 have hlow:=hP.low h;have hTl:=hP.lt h;have hm:∀ e∈z,X0 e=true:=(by obtain⟨v,T0,hQ⟩:=hP.wq h;exact hQ.may);have hsz:∀ x∈Qgd c z person now limit,x.size<=1000000:=fun x hx=>(by have:=Qds (Qng hm hx).1;omega)
 have hcl:=Qja (c:=c) hm person now limit;have hzl:=hok.len;replace hcl:(Qgd c z person now limit).length<1000000:=Om;refine Fi Tryz.func11 rfl _ rfl rfl (Hh ?_);intro b1 w1 hn1;have e1:=hn1.block;have hR1:Qbm Qfu 1 121 w1 (fun k=>k=b1) b1 (fun _=>([]:List Int)) []:=Qbm.new hn1 rfl;have hx1:=hn1.ext;have z1:=hn1.size;clear hn1;refine Gg ?_;refine(Qw4 w1).mono ?_;rintro _ w2 ⟨bw,rfl,_,hx2⟩;have z2:=hx2.size;replace hR1:Qbm Qfu 1 121 w2 (fun k=>k=b1) b1 (fun _=>([]:List Int)) []:=hR1.keep fun k hk hs=>⟨hx2.block k hk,hs⟩
 have h2:=hP.ext h (hx1.trans hx2);have hM2:Mod T w w2:=Mod.of_ext (hx1.trans hx2);refine Gg ?_
 refine Qh Qb (fun(q:Nat×(Nat->Prop)×(Nat->Prop)×(Bj->List Int)×List (Bj×(Option Addr×Nat))) w'=>q.1<=6/\(∀ x,q.2.2.2.1 x=Q5z c z person now limit q.1 x)/\Qbm Qfu 1 121 w' q.2.2.1 b1 q.2.2.2.1 q.2.2.2.2/\(∀ k,q.2.2.1 k->w.heap.size<=k/\k<w'.heap.size/\¬ q.2.1 k)/\St q.2.1 w'/\(∀ k,q.2.1 k->T k\/w.heap.size<=k)/\Mod T w w')
  (fun | (k,_) => [(0,Pj p),(1,.string person),(2,Vj now),(3,Vj limit),(9,.map (some b1)),(18,Vj 6),(19,Vj (k:Nat))]) (fun q=>6-q.1) (0,T,(fun k=>k=b1),(fun _ => []),[]) ⟨Zu _,fun x=>rfl,hR1,fun k hk=>by subst hk;exact⟨Om,Om,fun hT=>by have:=hTl _ hT;omega⟩,h2,fun k hk => .inl hk,hM2⟩ Rr ?_
 clear hR1 h2 hM2 hx1 hx2;rintro ⟨k,T1,S1,f,L⟩ wa ⟨hk,hf,hRa,hSa,hWa,hTa,hMa⟩;simp only at hk hf hRa hSa hWa hTa;have za:=hMa.size;refine Gg ?_;constructor
 . intro hlt;have hlt:k<6:=(by have:(k:Int)<6:=Su hlt;omega);refine Gg ?_;refine(Xcw hP hWa hok k person now limit hl).mono ?_;rintro _ wb ⟨A,cp,T2,rfl,hown,hAT,hWb,hTb,hMb⟩;have zb:=hMb.size;have hT2l:=hP.lt hWb;have hRb:Qbm Qfu 1 121 wb S1 b1 f L:=hRa.keep fun i hi hs=>⟨hMb.block i hi (hSa i hs).2.2,hs⟩
   have hS2:∀ i,S1 i->¬ T2 i:=fun i hs ht=>by
    rcases hTb i ht with q | q
    . exact(hSa i hs).2.2 q
    . have:=(hSa i hs).2.1;omega
   have hTc:∀ i,T2 i->T i\/w.heap.size<=i:=fun i ht=>by
    rcases hTb i ht with q | q
    . exact hTa i q
    . exact .inr Om
   have hMc:Mod T w wb:=Qn hMa (hMb.mono fun i _ hi=>hTa i hi);have hnd:=Qyw hS person now (k:Nat) limit;have hsu:=Q9b c z person now limit k;have hfl:∀ x,(f x).length<=6:=fun x=>by rw[hf];have:=Xc6 c z person now limit k x;omega
   have hsA:=hown.sl Qw;have hAb:∀ a,A=some a->¬ S1 a.block:=fun a ha hs=>by have:=(hSa _ hs).2.1;have:=(hown.block ha).1;omega
   have hQl:(Qgy c z person now (k:Nat) limit).length<1000000:=by have:=Q9k hm hS person now (k:Nat) limit;omega
   generalize Qgy c z person now (k:Nat) limit=Q at hown hnd hsu hsA hQl ⊢;clear hRa hWa hTa hTb hMa hMb hown;refine Gg ?_
   refine Qh Qb (fun(q:Nat×(Nat->Prop)×(Bj->List Int)×List (Bj×(Option Addr×Nat))) w'=>q.1<=Q.length/\q.2.2.1=(Q.take q.1).foldl (rdStep k) f/\Qbm Qfu 1 121 w' q.2.1 b1 q.2.2.1 q.2.2.2/\(∀ i,q.2.1 i->w.heap.size<=i/\i<w'.heap.size/\¬ T2 i)/\(∀ i,q.2.1 i->i<wb.heap.size->S1 i)/\(∀ i,i<wb.heap.size->¬ S1 i->w'.heap[i]? = wb.heap[i]?)/\Mod (fun i=>w.heap.size<=i) wb w')
    (fun | (j,_) => [(0,Pj p),(1,.string person),(2,Vj now),(3,Vj limit),(9,.map (some b1)),(10,Vj (k:Nat)),(18,Vj 6),(19,Vj (k:Nat)),(27,.slice A Q.length cp),(28,Vj Q.length),(29,Vj (j:Nat))]) (fun q=>Q.length-q.1) (0,S1,f,L) ⟨Zu _,rfl,hRb,fun i hi=>⟨(hSa i hi).1,by have:=(hSa i hi).2.1;omega,hS2 i hi⟩,fun i hi _=>hi,fun i _ _=>rfl,Mod.refl _ _⟩ Rr ?_
   clear hRb;rintro ⟨j,S,g,L1⟩ wc ⟨hj,hg,hRc,hSc,hSo,hkc,hMd⟩;simp only at hj hg hRc hSc hSo;have zc:=hMd.size
   have hgl:∀ x,(g x).length<=7:=fun x=>by
    rw[hg,Q9a _ _ _ (hnd.sublist (Zcz _ _))];have:=hfl x;split
    . rw[Zo];simp;omega
    . omega
   refine Gg ?_;constructor
   . intro hlt2;have hlt2:j<Q.length:=Su hlt2;have hsA':SlT wc A Q:=X7.stay hsA fun a ha hlt3=>hkc _ hlt3 (hAb a ha)
     obtain⟨ax,hAx,hcx⟩:=hsA'.get hlt2;have htk:(Q.take (j+1)).foldl (rdStep k) f=rdStep k g Q[j]:=by rw[Za hlt2,Zt,<- hg];rfl
     generalize Q[j]=x at hcx htk;refine Gg ?_;refine⟨ax,⟨hAx,Om,Om⟩,Gg ?_⟩;refine⟨.string x,Qs hcx,Gg ?_⟩;refine⟨_,hRc.look Xbc Xb (e:=ty53) ty53_ok rfl x Qp,Gg ?_⟩;intro be we hne;refine Gg ?_;have hro:=hRc.own x;have hgx:=hgl x;have hbm:=hRc.map.lt;have ze:=hne.ext.size;have ze2:=hne.size;refine Qq Xig (l:=g x) (news := [(k:Int)]) rfl (hro.1.ext hne.ext) rfl (Xig.new1 (x:=(k:Int)) hne) (by simp;omega) (Zu _) fun Af cf wf hownf hgf hAf => ?_
     have hrb:∀ i,(rowAt L1 x).1.map (·.block)=some i->S i/\i≠b1:=fun i hi=>by
      cases hq:(rowAt L1 x).1 with
      | none=>rw[hq] at hi;simp at hi
      | some a=>rw[hq] at hi;simp at hi;subst hi;exact hro.2 a hq
     have hmf:MapAt wf b1 Value.string (toV g L1):=(hRc.map.ext hne.ext).keep (hgf.block b1 (hRc.map.ext hne.ext).lt fun e=>(hrb b1 e.symm).2 rfl);have zf:=hgf.size;generalize hrow:g x ++ [(k:Int)]=row at hownf ⊢;have hrne:row ≠ []:=by rw[<- hrow];simp
     refine Gg ?_;refine Qx Xbc (Qo Xb) hmf x _ fun wg hmg hog => ?_
     have hpush:=hRc.push (k:=x) (r:=row) hrne hne.ext hgf hAf hownf hmg hog;have zg:=hog.size;have hupd:Ql4 g x row=(Q.take (j+1)).foldl (rdStep k) f:=by rw[htk,<- hrow];rfl
     rw[hupd] at hpush;have hS1b:S b1:=hRc.mine;have hcg:∀ i,i<wc.heap.size->¬ S i->wg.heap[i]? = wc.heap[i]? := fun i hi hs=>(by rw[hog.block i (fun e=>hs (by rw[e];exact hS1b)),hgf.block i Om (fun e=>hs (hrb i e.symm).1)];exact hne.ext.block i hi)
     refine Gg ?_;refine⟨_,wrap_succ Om,Gg ?_⟩;refine⟨(j+1,(fun i=>Grow S wc i/\i<wg.heap.size),(Q.take (j+1)).foldl (rdStep k) f,Xc L1 x (Af,cf)),Sj,⟨Sj,rfl,hpush.keep fun i hi hs=>⟨rfl,hs,hi⟩,fun i hi => ?_,fun i hi hlt4 => ?_,fun i hi hs => ?_,?_⟩,Rr⟩
     . obtain⟨hi1,hi2⟩:=hi;rcases hi1 with hi1 | hi1
       . exact⟨(hSc i hi1).1,hi2,(hSc i hi1).2.2⟩
       . exact⟨Om,hi2,fun ht=>by have:=hT2l i ht;omega⟩
     . obtain⟨hi1,_⟩:=hi;rcases hi1 with hi1 | hi1
       . exact hSo i hi1 hlt4
       . omega
     . rw[hcg i Om (fun h=>hs (hSo i h hi))];exact hkc i hi hs
     . refine hMd.trans ⟨by rw[hog.os,hgf.os,hne.ext.os],by rw[hog.tape,hgf.tape,hne.ext.tape],by rw[hog.output,hgf.output,hne.ext.output],Om,fun i hi hs=>hcg i hi fun h=>hs (hSc i h).1⟩
   . intro hge2;have hge2:Q.length<=j:=Su hge2;rw[Zb hge2] at hg;have hfin:∀ x,g x=Q5z c z person now limit (k+1) x:=fun x=>by rw[hg,Q9a _ _ _ hnd,hsu,hf]
     have hWc:St T2 wc:=hP.keep hWb fun i hi hc=>hkc i hi fun hs=>by
      rcases hc with q | q
      . exact hS2 i hs q
      . have:=(hSa i hs).1;omega
     refine Gg ?_;refine⟨_,wrap_succ Om,Gg ?_⟩;refine⟨(k+1,T2,S,g,L1),Sj,⟨Sj,hfin,hRc,hSc,hWc,hTc,?_⟩,Rr⟩;exact Qn hMc (hMd.mono fun i _ hi => .inr hi)
 intro hge;have hge:k=6:=(by have:¬ (k:Int)<6:=Su hge;omega);subst hge;have hvk:(toV f L).map (·.1)=L.map (·.1):=by unfold toV;rw[Zy];rfl
 have hkn:=Qam hRa.keys
 have hmem:∀ x,x∈L.map (·.1)↔x∈Qgd c z person now limit:=fun x=>by
  rw[Xbv,<- hf x];constructor
  . intro hx;obtain⟨y,hy,rfl⟩:=Zh.1 hx;exact hRa.ne y hy
  . intro hx;rw[Qmr]
    cases hq:Qe L x with
    | none=>exact absurd (hRa.all x hq) hx
    | some v=>rfl
 have hKe:Xi (L.map (·.1))=Qgd c z person now limit:=(by unfold Qgd at hmem ⊢;exact Qiz hkn fun x=>(hmem x).trans X5);have hLl:L.length=(Qgd c z person now limit).length:=by rw[<- hKe,(Qbl _).length_eq,Zf]
 refine Gg ?_;refine(Q3m (some b1) wa).mono ?_;rintro _ wb ⟨rfl,hcb,hxb⟩;refine Gg ?_;refine(Qwk hcb (hRa.map.ext hxb) (fun x hx => ?_) (by rw[show (toV f L).length=L.length by simp[toV]];omega)).mono ?_
 . refine hsz x.1 ((hmem x.1).1 ?_);rw[<- hvk];exact Zh.2 ⟨x,hx,rfl⟩
 rintro _ wc ⟨A,cp,rfl,hown,hxc⟩;rw[hvk,hKe] at hown ⊢;have hxac:=hxb.trans hxc;have hRc:Qbm Qfu 1 121 wc S1 b1 f L:=hRa.keep fun i hi hs=>⟨hxac.block i hi,hs⟩
 have hsA:=hown.sl Qw;obtain⟨K,hK⟩:∃ K,K=Qgd c z person now limit:=⟨_,rfl⟩;rw[<- hK] at hsA hcl ⊢;have hWc:=hP.ext hWa hxac;have zc:=hxac.size;have hT1l:=hP.lt hWa;clear hown hmem hKe hvk hkn hcb hxb hxc hsz hge hk;refine Gg ?_
 refine Qh Qb (fun(q:Nat×Option Addr×Nat×List Cd) w'=>q.1<=K.length/\Ext wc w'/\q.2.2.2=(K.take q.1).map (fun x=>((x,((rowAt L x).1,(f x).length,(rowAt L x).2)):Cd))/\Own cdC 2 55 wc.heap.size w' q.2.1 q.2.2.1 q.2.2.2)
  (fun | (j,B,d,H) => [(9,.map (some b1)),(13,.slice B H.length d),(45,.slice A K.length cp),(46,Vj K.length),(47,Vj (j:Nat))]) (fun q=>K.length-q.1) (0,none,0,[]) ⟨Zu _,Ext.refl _,rfl,Own.nil⟩ Rr ?_
 rintro ⟨j,B,d,H⟩ wd ⟨hj,hxd,hH,hownH⟩;simp only at hj hH hownH;have hHl:H.length<=j:=by rw[hH,Zf,Zn];omega
 refine Gg ?_;constructor
 . intro hlt;have hlt:j<K.length:=Su hlt;obtain⟨ax,hAx,hcx⟩:=(hsA.ext hxd).get hlt;have htk:(K.take (j+1)).map (fun x=>((x,((rowAt L x).1,(f x).length,(rowAt L x).2)):Cd))=H ++ [(K[j],((rowAt L K[j]).1,(f K[j]).length,(rowAt L K[j]).2))]:=by rw[Za hlt,Zp,hH];rfl
   generalize K[j]=x at hcx htk;have hRd:Qbm Qfu 1 121 wd S1 b1 f L:=hRc.keep fun i hi hs=>⟨hxd.block i hi,hs⟩
   have hlk:=hRd.look Xbc Xb (e:=ty53) ty53_ok rfl x (cl := .same) Qp;generalize hrx:(f x).length=n at hlk htk;generalize (rowAt L x).1=Ar at hlk htk;generalize (rowAt L x).2=cr at hlk htk;refine Gg ?_;refine⟨ax,⟨hAx,Om,Om⟩,Gg ?_⟩;refine⟨.string x,Qs hcx,Gg ?_⟩;refine⟨_,hlk,Gg ?_⟩;intro be we hne;refine Gg ?_;refine Qq Xdb (l:=H) (news := [(x,(Ar,n,cr))]) rfl (hownH.ext hne.ext) rfl (Xdb.new1 (x:=(x,(Ar,n,cr))) hne) (by simp;omega) (hxd.trans hne.ext).size fun Af cf wf hownf hgf hAf => ?_
   have hxf:=Qu (hxd.trans hne.ext) hgf (Xq (hownH.ext hne.ext));generalize H ++ [(x,(Ar,n,cr))]=H2 at hownf htk ⊢;refine Gg ?_;refine⟨_,wrap_succ Om,Gg ?_⟩;exact⟨(j+1,Af,cf,H2),Sj,⟨Sj,hxf,htk.symm,hownf⟩,Rr⟩
 intro hge;have hge:K.length<=j:=Su hge;rw[Zb hge] at hH;refine Gg ?_;refine⟨B,d,H,T1,rfl,⟨hownH.sl Q6r,?_,fun e he => ?_,fun a ha => ?_⟩,hP.ext hWc hxd,hTa,hMa.trans (Mod.of_ext (hxac.trans hxd))⟩
 . rw[hH,<- hK,Zy]
   conv=>rhs;rw[<- List.map_id K]
   rfl
 . rw[hH] at he;obtain⟨x,_,rfl⟩:=Zh.1 he;have ho:=hRc.own x;refine⟨by rw[<- hf x],?_,fun a ha => ?_⟩
   . rw[<- hf x];exact(ho.1.ext hxd).sl X4
   . obtain⟨q1,q2,q3⟩:=hSa _ (ho.2 a ha).1;exact⟨q1,q3⟩
 . have h1:=(hownH.block ha).1;exact⟨Om,fun ht=>by have:=hT1l _ ht;omega⟩
