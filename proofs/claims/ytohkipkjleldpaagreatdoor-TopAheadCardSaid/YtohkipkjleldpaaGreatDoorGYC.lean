/- Several texts in one: Y5, Y7, Y8. -/
import Derived.Test.YtohkipkjleldpaaGreatDoorGYA
import Derived.Test.YtohkipkjleldpaaGreatDoorGYB
import Derived.Test.YtohkipkjleldpaaGreatDoorGXC
import Derived.Test.YtohkipkjleldpaaGreatDoorGC
import Derived.Test.YtohkipkjleldpaaGreatDoorGXB
set_option linter.unusedVariables false
set_option linter.unusedSimpArgs false
namespace Go.Proofs.YtohkipkjleldpaaGreatDoor
open Go.Se Go.RowKit Go.Sort
def nrC (x:Nr):List Value := [.string x.1,.int .i64 x.2.1,.int .i64 x.2.2]
theorem Qp6 (x:Nr):(nrC x).length=3:=rfl
theorem Qp7 (x:Nr):∀ u∈nrC x,u.oneCell'=true:=by simp[nrC,Value.oneCell']
theorem Qv3:Qne Tryz.prog 367 370 nrC 3 32:=⟨by kernel_rfl,⟨_,ty370_ok,rfl,rfl⟩,by370,by decide,by decide,Qp6,Qp7⟩
theorem Qox {w:World} {b:Nat} {t:TypeId} {l l2:List Value} (h:At w b t l) (k:Nat) (h2:∀ j v,l2[j]? = some v→l[k+j]? = some v):Xo w ((⟨b,0,none⟩:Addr).add k) l2:=fun j v hj=>by
 rw[Xe]
 exact h.all (k+j) v (h2 j v hj)
theorem Qze (a b:Nr) (ha:Qnd a) (hb:Qnd b) (w:World):Cal Tryz.prog 356 [.agg (nrC a).toArray,.agg (nrC b).toArray] w fun r w'=>r = .int .i64 (Q97 a b)∧Gr w w':=by
 refine Fi Tryz.func356 rfl _ rfl rfl (Hh ?_);intro b1 w1 hn1;conv=>whnf
 intro b2 w2 hn2;have h1:At w2 b1 _ (nrC a):=hn1.At.ext hn2.ext;have h2:At w2 b2 _ (nrC b):=hn2.At;have hx:=(Qbw hn1).trans ((Qbw hn2).trans (Gr.drew w2))
 conv=>whnf
 refine Dr .ext [0,1,2,3,5,6,7,8,4] [9,10,11,12] (Hh ?_);replace h1:At w2.drew b1 _ _:=h1;replace h2:At w2.drew b2 _ _:=h2;generalize w2.drew=w3 at h1 h2 hx ⊢;refine⟨Qhk b.2,⟨rfl,Qox h2 1 fun j v hj=>by rw[Nat.add_comm];exact hj⟩,Hh ?_⟩;refine⟨Qhk a.2,⟨rfl,Qox h1 1 fun j v hj=>by rw[Nat.add_comm];exact hj⟩,Hh ?_⟩;refine⟨_,h1.one rfl,Hh ?_⟩;refine⟨_,h2.one rfl,Hh ?_⟩;refine(Qdg (by omega) b.2 a.2 hb ha w3).mono ?_;rintro _ w6 ⟨rfl,hg6⟩;refine⟨hg6.ext,Hh ?_⟩;refine(Qcj _ _ _).mono ?_;rintro _ w8 ⟨rfl,hw8⟩;subst hw8
 conv=>whnf
 intro b9 w9 hn9;conv=>whnf
 refine(Qf4 [Qmx b.2 a.2,Qd7 a.1 b.1] _ _ _ (Qbd (enc:=Qgr) Qax hn9) (by simp)).mono ?_;rintro _ w10 ⟨rfl,hw10⟩;subst hw10
 conv=>whnf
 exact⟨rfl,(hx.trans hg6).trans (Qbw hn9)⟩
theorem Qwd (l:List NrS) (A:Option Addr) (c base:Nat) (w:World) (hown:Own (fun x:NrS=>nrC x.1) 3 370 base w A c l) (hl:l.length<1000000) :
 Cal Tryz.prog 355 [.slice A l.length c,.func (.func 356) #[] #[]] w fun r w'=>r = .tuple #[]∧∃ F:List NrS,F.Perm l∧Srt (ltOf Qhz) F∧Sl (fun x:NrS=>nrC x.1) 3 w' A F∧∀ w0,Ext w0 w→w0.heap.size≤base→Ext w0 w' :=
 Qgd Tryz.sortNear (enc:=fun x:NrS=>nrC x.1) (by decide) Tryz.isAgg370 Tryz.sizeOf370 (fun x=>Qp6 x.1) (fun x=>Qp7 x.1) Qhz Qrl ⟨_,Tryz.func355,rfl,rfl⟩ (enters_of Tryz.func356 (by kernel_rfl) rfl) l A c base w hown hl (fun x y w' _=>Qze x.1 y.1 x.2 y.2 w') (cb := #[])
theorem Xbu:Tryz.prog.underlying 367=some (.slice 370):=by kernel_rfl
theorem Qrh (x:List Nr) (A:Option Addr) (c:Nat) (w:World) (hs:Sl nrC 3 w A x) (hl:x.length<1000000) :
 Cal Tryz.prog 357 [.slice A x.length c] w fun r w'=>∃ A' c',r = .slice A' x.length c'∧Own nrC 3 370 w.heap.size w' A' c' x∧Ext w w':=by
 refine Fi Tryz.func357 rfl _ rfl rfl (Hh ?_);refine⟨_,Xu Xbu A _ _ _ _,Hh ?_⟩;constructor
 · intro h
   obtain rfl:A=none:=by simpa using h
   have hx:x = []:=by
    cases x with
    | nil=>rfl
    | cons e x=>obtain⟨a,ha,_⟩:=hs 0 e rfl;cases ha
   subst hx
   conv=>whnf
   exact⟨none,0,rfl,Own.nil,Ext.refl _⟩
 · intro h
   conv=>whnf
   intro b1 w1 hn1;conv=>whnf
   have o1:=Qv3.made (base:=w.heap.size) hn1 (Nat.le_refl _);refine Qs Qv3 (l := []) (news:=x) rfl o1 rfl (hs.ext hn1.ext) (by simp;omega) hn1.ext.size fun A2 c2 w2 hown2 hg2 hA2 => ?_
   have hx2:=Qr hn1.ext hg2 (Xy o1);rw[List.nil_append] at hown2 ⊢
   conv=>whnf
   exact⟨A2,c2,rfl,hown2,hx2⟩
theorem Xaj (w:World) (n:Nat) (h:n≤w.heap.size):∃ w0,Ext w0 w∧w0.heap.size=n:=by
 have q0:(w.heap.extract 0 n).size=n:=by simp;omega
 exact⟨{ w with heap:=w.heap.extract 0 n },⟨rfl,rfl,rfl,by show (w.heap.extract 0 n).size≤_;rw[q0];exact h,fun i hi=>by
  have hi:i<(w.heap.extract 0 n).size:=hi;show w.heap[i]? = (w.heap.extract 0 n)[i]?
  rw[Array.getElem?_extract];rw[q0] at hi
  simp[hi]
  omega⟩,q0⟩
theorem Qvi (l:List Nr) (hok:∀ x∈l,Qnd x) (A:Option Addr) (c base:Nat) (w:World) (hown:Own nrC 3 370 base w A c l) (hl:l.length<1000000) (hbw:base≤w.heap.size) (n:Int) (hn:0≤n∧n≤9223372036854775807) :
 Cal Tryz.prog 314 [.slice A l.length c,.int .i64 n] w fun r w'=>∃ F:List NrS,(F.map (·.1)).Perm l∧Srt (ltOf Qhz) F∧∃ A' c',r = .slice A' ((F.map (·.1)).take n.toNat).length c'∧Own nrC 3 370 base w' A' c' ((F.map (·.1)).take n.toNat)∧∀ w0,Ext w0 w→w0.heap.size≤base→Ext w0 w':=by
 have hv:=Qqu hok;have hown':Own (fun x:NrS=>nrC x.1) 3 370 base w A c (Qms Qnd l):=Q4t (f:=fun x:NrS=>x.1) (by rw[hv];exact hown);have hsl:(Qms Qnd l).length=l.length:=by rw[← List.length_map (f:=fun x:NrS=>x.1),hv]
 have hsort:=Qwd (Qms Qnd l) A c base w hown' (by omega);rw[hsl] at hsort;refine Fi Tryz.func314 rfl _ rfl rfl (Hh ?_);refine hsort.mono ?_;rintro _ w1 ⟨rfl,F,hp,hs,hsF,hx1⟩;have hpF:=hp.map (fun x:NrS=>x.1);rw[hv] at hpF;have hFl:(F.map (fun x:NrS=>x.1)).length=l.length:=hpF.length_eq;have hsM:Sl nrC 3 w1 A (F.map fun x:NrS=>x.1):=Q9h hsF;obtain⟨T,hT⟩:∃ T,T=(F.map fun x:NrS=>x.1).take n.toNat:=⟨_,rfl⟩;have hTl:min (max n 0) (l.length:Int)=(T.length:Int):=by rw[hT,List.length_take,hFl];omega
 have hTl2:T.length≤l.length:=by rw[hT,List.length_take,hFl];omega
 have hle:=hown.le;have hsk:=Qjo (Qwb hsM n.toNat) 0 c (by rw[← hT];omega);rw[List.drop_zero,← hT] at hsk;have hx1':=hx1
 conv=>whnf
 rw[hTl];refine⟨⟨by omega,by omega,by omega,by omega⟩,Hh ?_⟩;refine(Qrh T _ _ w1 hsk (by omega)).mono ?_;rintro _ w2 ⟨A2,c2,rfl,hown2,hx2⟩
 conv=>whnf
 obtain⟨w0,hw0,hz0⟩:=Xaj w base hbw;have hb1:=(hx1 w0 hw0 (Nat.le_of_eq hz0)).size
 exact⟨F,hpF,hs,A2,c2,by rw[← hT],by rw[← hT];exact hown2.base (by omega),fun w0 h0 hb=>(hx1 w0 h0 hb).trans hx2⟩
end Go.Proofs.YtohkipkjleldpaaGreatDoor
namespace Go.Proofs.YtohkipkjleldpaaGreatDoor
open Go.Se Go.RowKit
theorem Q25 (w:World) (S:Nat→Prop) (p:Nat) (half:Int) (rs:List Row) (h:Qar w S p half rs) (person item:ByteArray) :
 Cal Tryz.prog 194 [.pointer (some ⟨p,0,none⟩),.string person,.string item] w fun r w'=>r = .bool (Qzn rs person item)∧Ext w w':=by
 obtain⟨bp,b,D,L,R,Tg,h⟩:=h
 have hlk:∀ w',Ext w w'→RdS Tryz.prog .same w' (Instr.lookup 204 (.map (some b.done)) (lnk (person,item)) false) (.bool (Qzn rs person item)):=fun w' hx=>by
  have hlk:=X7 Qhp Qay (e:=ty4) ty4_ok (cl := .same) Qm (h.maps.done.ext hx) ((person,item):LK);rw[show ty4.zero = .bool false from rfl,Xq] at hlk
  exact hlk
 refine Fi Tryz.func194 rfl _ rfl rfl (Hh ?_);refine⟨.map (some b.done),h.head.one rfl,Gg ?_⟩;refine⟨_,hlk _ (Ext.refl _),Gg ?_⟩
 exact⟨rfl,Ext.refl _⟩
theorem Qu7 (w:World) (S:Nat→Prop) (p:Nat) (half:Int) (rs:List Row) (h:Qar w S p half rs) (person item:ByteArray) :
 Cal Tryz.prog 119 [.pointer (some ⟨p,0,none⟩),.string person,.string item] w fun r w'=>r = .bool (Xck rs person item)∧Ext w w':=by
 obtain⟨bp,b,D,L,R,Tg,h⟩:=h
 have hlk:∀ w',Ext w w'→RdS Tryz.prog .same w' (Instr.lookup 204 (.map (some b.hidden)) (lnk (person,item)) false) (.bool (Xck rs person item)):=fun w' hx=>by
  have hlk:=X7 Qhp Qay (e:=ty4) ty4_ok (cl := .same) Qm (h.maps.hidden.ext hx) ((person,item):LK);rw[show ty4.zero = .bool false from rfl,Xq] at hlk
  exact hlk
 refine Fi Tryz.func119 rfl _ rfl rfl (Hh ?_);refine⟨.map (some b.hidden),h.head.one rfl,Gg ?_⟩;refine⟨_,hlk _ (Ext.refl _),Gg ?_⟩
 exact⟨rfl,Ext.refl _⟩
theorem Qom {z:List Ev} (hm:∀ e∈z,Xn e=true):(∀ x∈Qi7 (z.filter wpB),x.1.size≤1000000)∧(Qi7 (z.filter wpB)).length≤z.length∧∀ key r,Qe (Qi7 (z.filter wpB)) key=some r→∀ x∈r,0≤x.1∧x.1≤1099511627776:=by
 have h1:=Q26 (z.filter wpB);have h2:=List.length_filter_le wpB z;refine⟨fun x hx => ?_,by omega,fun key r hr x hx => ?_⟩
 · obtain⟨e,he,hi⟩:=h1.2 x hx
   have:=Qdv (Qqy hm he).2;rw[← hi];omega
 · obtain⟨e,he,ha,_⟩:=Q7h _ key r hr x hx
   rw[← ha]
   exact Qsl (Q9q hm e he)
set_option maxRecDepth 100000 in
theorem Q6g (w:World) (p:Nat) (now n:Int) (hn:n≤0):Cal Tryz.prog 237 [.pointer (some ⟨p,0,none⟩),.int .i64 now,.int .i64 n] w fun r w'=>r = .slice none 0 0∧Ext w w':=by
 refine⟨⟨_,Tryz.func237,rfl,rfl⟩,?_⟩;refine(callsIn_wide (n:=7)).1 ?_;refine callsIn_of_wp_marks Tryz.func237 rfl trivial ?_ rfl;simp only[Tryz.ntmps237,List.size_toArray,List.length_cons,List.length_nil,Nat.reduceAdd,Nat.reduceSub,Array.replicate_succ,Array.replicate_zero,List.push_toArray,List.append_toArray,List.nil_append,List.cons_append]
 gi_wp2
 exact⟨_,results_tmp rfl _ _ _,_,rfl,rfl,Ext.refl _⟩
theorem Q6h {w:World} {S:Nat→Prop} {p:Nat} {half dn:Int} {z:List Ev} (h:Qmy w S p half dn (Qi7 (z.filter wpB))) (hm:∀ e∈z,Xn e=true) (hz:z.length<1000) (now:Int) (hnow:0≤now∧now≤1099511627776) (n:Int) (hn:0≤n∧n≤9223372036854775807) :
 Cal Tryz.prog 237 [.pointer (some ⟨p,0,none⟩),.int .i64 now,.int .i64 n] w fun r w'=>∃ A c,r = .slice A ((Qfo (Qfu (Qi7 (z.filter wpB)) half now)).take n.toNat).length c∧Sl Qm2 2 w' A ((Qfo (Qfu (Qi7 (z.filter wpB)) half now)).take n.toNat)∧Ext w w':=by
 obtain⟨k1,k2,k3⟩:=Qom hm
 by_cases h1:1≤n
 · refine(Q8t w S p half dn _ h now hnow n ⟨h1,hn.2⟩ k3 k1 (by omega)).mono ?_
   rintro _ w' ⟨A,c,rfl,hs,_,hx⟩
   exact⟨A,c,rfl,hs,hx⟩
 · obtain rfl:n=0:=by omega
   refine(Q6g w p now 0 (Int.le_refl _)).mono ?_;rintro _ w' ⟨rfl,hx⟩;refine⟨none,0,?_,?_,hx⟩
   · rw[show (0:Int).toNat=0 from rfl,List.take_zero];rfl
   · rw[show (0:Int).toNat=0 from rfl,List.take_zero];exact Sl.nil
end Go.Proofs.YtohkipkjleldpaaGreatDoor
namespace Go.Proofs.YtohkipkjleldpaaGreatDoor
open Go.Se Go.RowKit Go.Sort
theorem Qpn (x:It):∀ u∈itC x,u.oneCell'=true:=by simp[itC,Value.oneCell']
def Qlb (c:Cfg) (z:List Ev) (person:ByteArray) (now limit:Int) (k:Nat) (w:World) (r:Value) (w':World):Prop:=∃ A cp,r = .slice A ((Qd3 c z person now k).take limit.toNat).length cp∧Own Qav 1 9 w.heap.size w' A cp ((Qd3 c z person now k).take limit.toNat)∧Ext w w'
set_option maxHeartbeats 1000000 in
theorem Qsx {w:World} {T:Nat→Prop} {p:Nat} {c:Cfg} {z:List Ev} {v:Value} (h:WQ w T p c z v) (hok:Quc c z) (person:ByteArray) (now limit:Int) (hnow:0≤now∧now≤1099511627776) (hl:0≤limit∧limit≤9223372036854775807) :
 Cal Tryz.prog 187 [.pointer (some ⟨p,0,none⟩),.string person,.int .i64 now,.int .i64 limit] w fun r w'=>Qlb c z person now limit 0 w r w':=by
 have hlen:=hok.len;refine Fi Tryz.func187 rfl _ rfl rfl (Hh ?_);refine(Qqh h).mono ?_;rintro _ w1 ⟨pd,S,rfl,hct,hx1⟩;rw[(Qdd c.width z).1] at hct
 conv=>whnf
 refine(Q6h hct h.may hlen now hnow limit hl).mono ?_;rintro _ w2 ⟨A,cp,rfl,hs,hx2⟩
 have hF:(Qd3 c z person now 0).take limit.toNat=((Qfo (Qfu (Qi7 (z.filter wpB)) (Xr c.half) now)).take limit.toNat).map (fun x:Ct=>x.1):=by
  rw[List.map_take];unfold Qd3;rw[if_pos rfl,(Qdd c.width z).1]
 have hQl:((Qfo (Qfu (Qi7 (z.filter wpB)) (Xr c.half) now)).take limit.toNat).length<1000000:=by
  have h1:(Qfo (Qfu (Qi7 (z.filter wpB)) (Xr c.half) now)).length≤(Qi7 (z.filter wpB)).length:=by
   rw[(Qe3 _).length_eq];unfold Qfu;refine Nat.le_trans (List.length_filter_le _ _) ?_;rw[List.length_map,List.length_map]
   exact Nat.le_refl _
  have h2:=(Qom h.may).2.1;rw[List.length_take];omega
 unfold Qlb;rw[hF];clear hF;generalize (Qfo (Qfu (Qi7 (z.filter wpB)) (Xr c.half) now)).take limit.toNat=Q at hs hQl ⊢;have hx02:=hx1.trans hx2;refine Gg ?_
 refine Qh Qa (fun(x:Nat×Option Addr×Nat×List ByteArray) w'=>x.1≤Q.length∧Ext w2 w'∧x.2.2.2=(Q.take x.1).map (fun x:Ct=>x.1)∧Own Qav 1 9 w2.heap.size w' x.2.1 x.2.2.1 x.2.2.2)
  (fun | (k,B,d,K) => [(9,.slice B K.length d),(16,.slice A Q.length cp),(17,.int .i64 Q.length),(18,.int .i64 (k:Nat))]) (fun x=>Q.length-x.1) (0,none,0,[]) ⟨Nat.zero_le _,Ext.refl _,rfl,Own.nil⟩ Rr ?_
 rintro ⟨k,B,d,K⟩ wa ⟨hk,hxa,hK,hownK⟩;simp only at hk hK hownK;have hKl:K.length≤k:=by rw[hK,List.length_map,List.length_take];omega
 refine Gg ?_;constructor
 · intro hlt
   have hlt:k<Q.length:=by simpa using hlt
   obtain⟨ax,hAx,hcx⟩:=(hs.ext hxa).get hlt;subst hAx;have htk:(Q.take (k+1)).map (fun x:Ct=>x.1)=K ++ [((fun x:Ct=>x.1)) Q[k]]:=by rw[List.take_succ_eq_append_getElem hlt,List.map_append,hK];rfl
   generalize Q[k]=x at hcx htk;refine Gg ?_;refine⟨ax,Ix,Gg ?_⟩;refine⟨Qm2 x,⟨rfl,hcx⟩,Gg ?_⟩;intro bb wb hnb;refine Gg ?_;refine Qd Qa (e:=ty360) rfl hnb.At rfl rfl rfl (Qo5 x) fun wc hbc hoc => ?_
   have hbc:At wc bb 360 (Qm2 x):=hbc;have hxc:Ext wa wc:=hoc.ext hnb.ext (by rw[hnb.block];exact Nat.le_refl _);clear hoc hnb;have hfx:nth (Qm2 x) 0=some (.string (((fun x:Ct=>x.1)) x)):=rfl;generalize hfn:((fun x:Ct=>x.1)) x=tx at hfx htk;refine Gg ?_;refine⟨.string tx,hbc.one hfx,Gg ?_⟩;intro be we hne;refine Gg ?_;refine Qs Qb6 (l:=K) (news := [tx]) rfl ((hownK.ext hxc).ext hne.ext) rfl (Qb6.new1 (x:=tx) hne) (by simp;omega) ((hxa.trans hxc).trans hne.ext).size fun Af cf wf hownf hgf hAf => ?_
   have hxf:=Qr ((hxa.trans hxc).trans hne.ext) hgf (Xy ((hownK.ext hxc).ext hne.ext));generalize K ++ [tx]=K2 at hownf htk ⊢;refine Gg ?_;refine⟨_,wrap_succ (by omega),Gg ?_⟩
   exact⟨(k+1,Af,cf,K2),by simp only;omega,⟨by simp only;omega,hxf,htk.symm,hownf⟩,Rr⟩
 intro hge;have hge:Q.length≤k:=by simpa using hge
 rw[List.take_of_length_le hge] at hK;rw[← hK];refine Gg ?_
 exact⟨B,d,rfl,hownK.base hx02.size,hx02.trans hxa⟩
theorem Xbv:Tryz.prog.underlying 361=some (.slice 365):=by kernel_rfl
theorem Qri (x:List Ri) (A:Option Addr) (c:Nat) (w:World) (hs:Sl riC 3 w A x) (hl:x.length<1000000) :
 Cal Tryz.prog 309 [.slice A x.length c] w fun r w'=>∃ A' c',r = .slice A' x.length c'∧Own riC 3 365 w.heap.size w' A' c' x∧Ext w w':=by
 refine Fi Tryz.func309 rfl _ rfl rfl (Hh ?_);refine⟨_,Xu Xbv A _ _ _ _,Hh ?_⟩;constructor
 · intro h
   obtain rfl:A=none:=by simpa using h
   have hx:x = []:=by
    cases x with
    | nil=>rfl
    | cons e x=>obtain⟨a,ha,_⟩:=hs 0 e rfl;cases ha
   subst hx
   conv=>whnf
   exact⟨none,0,rfl,Own.nil,Ext.refl _⟩
 · intro h
   conv=>whnf
   intro b1 w1 hn1;conv=>whnf
   have o1:=Q8f.made (base:=w.heap.size) hn1 (Nat.le_refl _);refine Qs Q8f (l := []) (news:=x) rfl o1 rfl (hs.ext hn1.ext) (by simp;omega) hn1.ext.size fun A2 c2 w2 hown2 hg2 hA2 => ?_
   have hx2:=Qr hn1.ext hg2 (Xy o1);rw[List.nil_append] at hown2 ⊢
   conv=>whnf
   exact⟨A2,c2,rfl,hown2,hx2⟩
set_option maxHeartbeats 1000000 in
theorem Q5h (w:World) (S:Nat→Prop) (p:Nat) (width n:Int) (s:Qae) (h:Qmw w S p width n s) (hw:1≤width∧width≤1099511627776) (ok:Q9s s 10000000) (hsum:∀ key lo hi,paS s key lo hi≤10000000) (span now floor lim:Int) (hs:1≤span∧span≤1099511627776) (hd:span.tmod width=0) (hn:0≤now∧now≤1099511627776) (hlim:0≤lim∧lim≤9223372036854775807) (Q:List RiS)
 (hQ:Q=Qs6 (ltOf Qhb) (Qms Qq0 (Qdc s ((now-now.tmod width-2*span)/width) ((now-now.tmod width-span)/width) ((now-now.tmod width)/width) floor (Qdu s ((now-now.tmod width-span)/width) ((now-now.tmod width)/width))))) :
 Cal Tryz.prog 238 [.pointer (some ⟨p,0,none⟩),.int .i64 span,.int .i64 now,.int .i64 floor,.int .i64 lim] w fun r w'=>∃ A c,r = .slice A ((Q.map (·.1)).take lim.toNat).length c∧Own riC 3 365 w.heap.size w' A c ((Q.map (·.1)).take lim.toNat)∧Q.length<1000000∧Ext w w':=by
 have hkl:=Qsd s ((now-now.tmod width-span)/width) ((now-now.tmod width)/width);have hlen:=ok.len;refine Fi Tryz.func238 rfl _ rfl rfl (Hh ?_);refine(Qsz w S p width n s h hw ok hsum span now floor hs hd hn).mono ?_;rintro _ w1 ⟨A,c,F,rfl,hp,hsF,hsl,hcap,hx1⟩;have hFQ:F=Q:=(Xcz hp hsF).trans hQ.symm
 have hFl:F.length<1000000:=by
  have h1:=hp.length_eq
  have h2:∀ K,(Qdc s ((now-now.tmod width-2*span)/width) ((now-now.tmod width-span)/width) ((now-now.tmod width)/width) floor K).length≤K.length:=fun K=>by
   unfold Qdc;refine Nat.le_trans (List.length_filter_le _ _) ?_;rw[List.length_map]
   exact Nat.le_refl _
  have h3:=h2 (Qdu s ((now-now.tmod width-span)/width) ((now-now.tmod width)/width));rw[List.length_map] at h1;omega
 clear hp hsF hQ hkl;subst hFQ;obtain⟨T,hT⟩:∃ T,T=(F.map fun x:RiS=>x.1).take lim.toNat:=⟨_,rfl⟩;have hTl:min (max lim 0) (F.length:Int)=(T.length:Int):=by rw[hT,List.length_take,List.length_map];omega
 have hTl2:T.length≤F.length:=by rw[hT,List.length_take,List.length_map];omega
 have hsk:=Qjo (Qwb hsl lim.toNat) 0 c (by rw[← hT];omega);rw[List.drop_zero,← hT] at hsk
 conv=>whnf
 rw[hTl];refine⟨⟨by omega,by omega,by omega,by omega⟩,Hh ?_⟩;refine(Qri T _ _ w1 hsk (by omega)).mono ?_;rintro _ w2 ⟨A2,c2,rfl,hown2,hx2⟩
 conv=>whnf
 rw[← hT]
 exact⟨A2,c2,rfl,hown2.base hx1.size,hFl,hx1.trans hx2⟩
set_option maxHeartbeats 1000000 in
theorem Q0w {w:World} {T:Nat→Prop} {p:Nat} {c:Cfg} {z:List Ev} {v:Value} (h:WQ w T p c z v) (hok:Quc c z) (person:ByteArray) (now limit:Int) (hnow:0≤now∧now≤1099511627776) (hl:0≤limit∧limit≤9223372036854775807) :
 Cal Tryz.prog 188 [.pointer (some ⟨p,0,none⟩),.string person,.int .i64 now,.int .i64 limit] w fun r w'=>Qlb c z person now limit 1 w r w':=by
 have hlen:=hok.len;obtain⟨c1,c2,c3,c4,c5,c6,c7⟩:=Xcg hok.cfg;have hwid:=Xas c2;have ok:=Xd1 c.width h.may (Nat.lt_of_lt_of_le hlen (by decide));have hle:=Xd0 c.width h.may (Nat.lt_of_lt_of_le hlen (by decide));obtain⟨Q0,hQ0⟩:∃ Q0,Q0=Xcx c z now:=⟨_,rfl⟩;have hQe:=hQ0;unfold Xcx Xcy Q0p at hQ0;rw[(Qdd c.width z).2.1] at hQ0
 have hF:(Qd3 c z person now 1).take limit.toNat=((Q0.map (·.1)).take limit.toNat).map (fun x:Ri=>x.1):=by
  rw[← List.map_take,List.map_map,hQe];unfold Qd3;rw[if_neg (by decide),if_pos rfl,List.map_take]
  rfl
 refine Fi Tryz.func188 rfl _ rfl rfl (Hh ?_);refine(Qf7 h).mono ?_;rintro _ w1 ⟨rfl,hx1⟩;conv=>whnf
 intro b2 w2 hn2;conv=>whnf
 refine Qd Qa (e:=ty25) rfl hn2.At rfl rfl rfl (by simp[Qg,Xb4,Qt4,Value.oneCell']) fun w3 h3 ho3 => ?_
 have e2:=hn2.block;have hx3:Ext w w3:=ho3.ext (hx1.trans hn2.ext) (by have:=hx1.size;omega);have h3:At w3 b2 25 (Qt4 c):=h3;clear ho3;refine Gg ?_;refine Dr .ext [0,2,3,4,5,6,7,10,1,8,9] [] (Hh ?_);refine⟨_,h3.one rfl,Gg ?_⟩;refine⟨_,h3.one rfl,Gg ?_⟩;replace hx3:=hx3.drew;refine(Qvv (h.ext hx3)).mono ?_;rintro _ w4 ⟨pp,S,rfl,hpa,hx4⟩;rw[(Qdd c.width z).2.1] at hpa;refine⟨hx4,Gg ?_⟩;refine(Q5h w4 S pp (Xr c.width) _ _ hpa (by omega) ok hle c.span now c.floor limit c3 (by rw[hwid];exact c4) hnow hl Q0 hQ0).mono ?_;rintro _ w5 ⟨A,cp,rfl,hown5,hQ0l,hx5⟩;refine⟨hx5,Gg ?_⟩;have hQl:((Q0.map (·.1)).take limit.toNat).length<1000000:=by rw[List.length_take,List.length_map];omega
 unfold Qlb;rw[hF];clear hF hQ0 hQe;have hs:=hown5.sl Qvy;generalize (Q0.map (·.1)).take limit.toNat=Q at hs hQl ⊢;have hx05:=hx3.trans (hx4.trans hx5);refine Gg ?_
 refine Qh Qa (fun(x:Nat×Option Addr×Nat×List ByteArray) w'=>x.1≤Q.length∧Ext w5 w'∧x.2.2.2=(Q.take x.1).map (fun x:Ri=>x.1)∧Own Qav 1 9 w5.heap.size w' x.2.1 x.2.2.1 x.2.2.2)
  (fun | (k,B,d,K) => [(10,.slice B K.length d),(23,.slice A Q.length cp),(24,.int .i64 Q.length),(25,.int .i64 (k:Nat))]) (fun x=>Q.length-x.1) (0,none,0,[]) ⟨Nat.zero_le _,Ext.refl _,rfl,Own.nil⟩ Rr ?_
 rintro ⟨k,B,d,K⟩ wa ⟨hk,hxa,hK,hownK⟩;simp only at hk hK hownK;have hKl:K.length≤k:=by rw[hK,List.length_map,List.length_take];omega
 refine Gg ?_;constructor
 · intro hlt
   have hlt:k<Q.length:=by simpa using hlt
   obtain⟨ax,hAx,hcx⟩:=(hs.ext hxa).get hlt;subst hAx;have htk:(Q.take (k+1)).map (fun x:Ri=>x.1)=K ++ [((fun x:Ri=>x.1)) Q[k]]:=by rw[List.take_succ_eq_append_getElem hlt,List.map_append,hK];rfl
   generalize Q[k]=x at hcx htk;refine Gg ?_;refine⟨ax,Ix,Gg ?_⟩;refine⟨riC x,⟨rfl,hcx⟩,Gg ?_⟩;intro bb wb hnb;refine Gg ?_;refine Qd Qa (e:=ty365) rfl hnb.At rfl rfl rfl (Qvz x) fun wc hbc hoc => ?_
   have hbc:At wc bb 365 (riC x):=hbc;have hxc:Ext wa wc:=hoc.ext hnb.ext (by rw[hnb.block];exact Nat.le_refl _);clear hoc hnb;have hfx:nth (riC x) 0=some (.string (((fun x:Ri=>x.1)) x)):=rfl;generalize hfn:((fun x:Ri=>x.1)) x=tx at hfx htk;refine Gg ?_;refine⟨.string tx,hbc.one hfx,Gg ?_⟩;intro be we hne;refine Gg ?_;refine Qs Qb6 (l:=K) (news := [tx]) rfl ((hownK.ext hxc).ext hne.ext) rfl (Qb6.new1 (x:=tx) hne) (by simp;omega) ((hxa.trans hxc).trans hne.ext).size fun Af cf wf hownf hgf hAf => ?_
   have hxf:=Qr ((hxa.trans hxc).trans hne.ext) hgf (Xy ((hownK.ext hxc).ext hne.ext));generalize K ++ [tx]=K2 at hownf htk ⊢;refine Gg ?_;refine⟨_,wrap_succ (by omega),Gg ?_⟩
   exact⟨(k+1,Af,cf,K2),by simp only;omega,⟨by simp only;omega,hxf,htk.symm,hownf⟩,Rr⟩
 intro hge;have hge:Q.length≤k:=by simpa using hge
 rw[List.take_of_length_le hge] at hK;rw[← hK];refine Gg ?_
 exact⟨B,d,rfl,hownK.base hx05.size,hx05.trans hxa⟩
end Go.Proofs.YtohkipkjleldpaaGreatDoor
