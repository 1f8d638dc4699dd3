import Derived.Test.YtagijlhciclafaaGreatDoorHR1
/- The second writing of the roads: names,what stands in a list,the first of some things,a thing put where it belongs. -/
set_option linter.unusedVariables false
set_option linter.unusedSimpArgs false
namespace Go.Proofs.YtagijlhciclafaaGreatDoor
open Go.Se Go.RowKit Go.Sort
def Qn8:List ByteArray := [⟨#[112,111,112,117,108,97,114]⟩,⟨#[114,105,115,105,110,103]⟩,⟨#[107,105,110]⟩,⟨#[102,111,108,108,111,119,101,100]⟩,⟨#[102,114,101,115,104]⟩,⟨#[97,103,97,105,110]⟩]
theorem Qic (r:Int) (w:World):Cal Tryz.prog 15 [.int .i64 r] w fun v w'=>v = .string (Qdo r)∧Ext w w':=by
 refine Fi Tryz.func15 rfl _ rfl rfl (Hh ?_);intro b1 w1 hn1;conv=>whnf
 have hs:SlT w1 (some ⟨b1,0,none⟩) Qn8:=sl_new strE_len hn1;have hx1:=hn1.ext;constructor
 · intro hq
   have hq:¬ (0≤r∧r≤5):=by simp at hq;omega
   conv=>whnf
   exact⟨by unfold Qdo;rw[if_neg hq],hx1⟩
 · intro hq
   have hq:0≤r∧r≤5:=by simp at hq;omega
   have hn:Qdo r=((Qk1.map (·.1))[r.toNat]?).getD ⟨#[]⟩:=by unfold Qdo;rw[if_pos hq]
   rw[hn];obtain⟨k,rfl⟩:∃ k:Nat,r=k:=⟨r.toNat,by omega⟩;rw[Int.toNat_natCast];have hk:k<Qn8.length:=by show k<6;omega
   obtain⟨a,hA,hc⟩:=hs.get hk
   conv=>whnf
   refine⟨a,⟨hA,by omega,by omega⟩,Hh ?_⟩;refine⟨.string Qn8[k],cells_head hc,Hh ?_⟩;refine⟨?_,hx1⟩;have he:Qk1.map (·.1)=Qn8:=rfl;rw[he,List.getElem?_eq_getElem hk]
   rfl
theorem Qgo (l:List ByteArray) (s:ByteArray) (A:Option Addr) (c:Nat) (w:World) (hs:SlT w A l) (hl:l.length<1000000) :
 Cal Tryz.prog 42 [.slice A l.length c,.string s] w fun r w'=>r = .bool (decide (s∈l))∧Ext w w':=by
 refine Fi Tryz.func42 rfl _ rfl rfl (Hh ?_)
 refine loop_rule Tt_ok (fun(k:Nat) w'=>k≤l.length∧w'=w∧s∉l.take k)
  (fun k => [(0,.slice A l.length c),(1,.string s),(5,.int .i64 (k:Nat))]) (fun k=>l.length-k) 0 ⟨Nat.zero_le _,rfl,by simp⟩ Rr ?_
 rintro k w1 ⟨hk,hw1,hno⟩;replace hw1:=hw1.symm;subst hw1
 conv=>whnf
 constructor
 · intro hlt
   have hlt:k<l.length:=by simpa using hlt
   obtain⟨a,hA,hc⟩:=hs.get hlt
   conv=>whnf
   refine⟨a,⟨hA,by omega,by omega⟩,Hh ?_⟩;refine⟨.string l[k],cells_head hc,Hh ?_⟩;constructor
   · intro hq
     have hq:l[k]=s:=by simpa using hq
     conv=>whnf
     exact⟨by rw[decide_eq_true (hq ▸ List.getElem_mem hlt)],Ext.refl _⟩
   · intro hq
     have hq:¬ l[k]=s:=by simpa using hq
     conv=>whnf
     refine⟨_,wrap_succ (by omega),Hh ?_⟩;refine⟨k+1,by omega,⟨by omega,rfl,fun hm => ?_⟩,Rr⟩;rw[List.take_succ_eq_append_getElem hlt,List.mem_append,List.mem_singleton] at hm
     exact hm.elim hno fun h=>hq h.symm
 · intro hge
   have hge:l.length≤k:=by simpa using hge
   rw[List.take_of_length_le hge] at hno
   conv=>whnf
   exact⟨by rw[decide_eq_false hno],Ext.refl _⟩
def tgC (x:Ct):List Value := [.string x.1,.int .i64 x.2]
theorem Qp4 (x:Ct):(tgC x).length=2:=rfl
theorem Qp5 (x:Ct):∀ u∈tgC x,u.oneCell'=true:=by intro u hu;simp[tgC] at hu;rcases hu with rfl | rfl <;> rfl
theorem Qaf:Qf7 Tryz.prog 85 101 tgC 2 24:=⟨by kernel_rfl,⟨_,ty101_ok,rfl,rfl⟩,by101,by decide,by decide,fun _=>rfl,Qp5⟩
theorem X4 (l:List Ct) (n:Int) (A:Option Addr) (c:Nat) (w:World) (hs:Sl tgC 2 w A l) (hl:l.length<1000000) :
 Cal Tryz.prog 39 [.slice A l.length c,.int .i64 n] w fun r w'=>∃ A' c',r = .slice A' ((l.map (·.1)).take n.toNat).length c'∧Own strE 1 9 w.heap.size w' A' c' ((l.map (·.1)).take n.toNat)∧Ext w w':=by
 refine Fi Tryz.func39 rfl _ rfl rfl (Hh ?_)
 refine loop_rule Tt_ok (fun(x:Nat×Option Addr×Nat×List ByteArray) w'=>x.1≤l.length∧x.1≤n.toNat∧Ext w w'∧x.2.2.2=(l.take x.1).map (·.1)∧Own strE 1 9 w.heap.size w' x.2.1 x.2.2.1 x.2.2.2)
  (fun | (k,B,d,K) => [(0,.slice A l.length c),(1,.int .i64 n),(5,.slice B K.length d),(6,.int .i64 (k:Nat))]) (fun x=>l.length-x.1) (0,none,0,[]) ⟨Nat.zero_le _,Nat.zero_le _,Ext.refl _,rfl,Own.nil⟩ Rr ?_
 rintro ⟨k,B,d,K⟩ wa ⟨hk,hkn,hxa,hK,hownK⟩;simp only at hk hkn hK hownK;have hKl:K.length≤k:=by rw[hK,List.length_map,List.length_take];omega
 conv=>whnf
 constructor
 · intro hq
   have hq:(k:Int)<(l.length:Nat)∧(k:Int)<n:=by simpa using hq
   have hlt:k<l.length:=by omega
   obtain⟨ax,hAx,hcx⟩:=(hs.ext hxa).get hlt;have htk:(l.take (k+1)).map (·.1)=K ++ [(l[k]).1]:=by rw[List.take_succ_eq_append_getElem hlt,List.map_append,hK];rfl
   generalize l[k]=x at hcx htk
   conv=>whnf
   refine⟨ax,⟨hAx,by omega,by omega⟩,Hh ?_⟩;refine⟨.string x.1,cells_at hcx (k:=0) rfl,Hh ?_⟩;intro be we hne;conv=>whnf
   refine Qa Qv (l:=K) (news := [x.1]) rfl (hownK.ext hne.ext) rfl (Qv.new1 (x:=x.1) hne) (by simp;omega) (hxa.trans hne.ext).size fun Af cf wf hownf hgf hAf => ?_
   have hxf:=ext_grown (hxa.trans hne.ext) hgf (Qd (hownK.ext hne.ext));generalize K ++ [x.1]=K2 at hownf htk ⊢
   conv=>whnf
   refine⟨_,wrap_succ (by omega),Hh ?_⟩
   exact⟨(k+1,Af,cf,K2),by simp only;omega,⟨by simp only;omega,by simp only;omega,hxf,htk.symm,hownf⟩,Rr⟩
 · intro hq
   have hq:¬ ((k:Int)<(l.length:Nat)∧(k:Int)<n):=fun h=>by simp[h.1,h.2] at hq
   have he:K=(l.map (·.1)).take n.toNat:=by
    rw[hK,← List.map_take]
    congr 1
    rw[List.take_eq_take_iff];omega
   rw[← he]
   conv=>whnf
   exact⟨B,d,rfl,hownK,hxa⟩
theorem Qpt {l:List Ct} {x:Ct} (h:x.1∈l.map (·.1)):Qas l x=l:=by unfold Qas;rw[if_pos h]
theorem Qod {l:List Ct} {x:Ct} (h:x.1∉l.map (·.1)) (hs:Srt Qad l) {k:Nat} (h1:∀ y∈l.take k,Qad y x=true) (h2:∀ h:k<l.length,Qad l[k] x=false):Qas l x=l.take k++x :: l.drop k:=by
 unfold Qas;rw[if_neg h];refine(X6 (List.perm_middle.trans (List.Perm.cons x (by rw[List.take_append_drop]))) ?_).symm;have hsd:Srt Qad (l.drop k):=hs.sublist (List.drop_sublist k l);have hst:Srt Qad (l.take k):=hs.sublist (List.take_sublist k l)
 have hxd:∀ y∈l.drop k,Qad y x=false:=fun y hy=>by
  by_cases hk:k<l.length
  · rw[List.drop_eq_getElem_cons hk] at hy hsd
    rcases List.mem_cons.1 hy with rfl | hy
    · exact h2 hk
    · exact Xk.ntrans _ _ _ ((List.pairwise_cons.1 hsd).1 y hy) (h2 hk)
  · rw[List.drop_eq_nil_of_le (by omega)] at hy
    cases hy
 unfold Srt;rw[List.pairwise_append,List.pairwise_cons];have hcr:=(List.pairwise_append.1 (show Srt Qad (l.take k++l.drop k) by rw[List.take_append_drop];exact hs)).2.2;refine⟨hst,⟨hxd,hsd⟩,fun a ha b hb => ?_⟩;rcases List.mem_cons.1 hb with rfl | hb
 · cases hc:Qad b a with
   | false=>rfl
   | true=>have:=Xk.trans _ _ _ hc (h1 a ha);rw[Xk.irrefl] at this;cases this
 · exact hcr a ha b hb
end Go.Proofs.YtagijlhciclafaaGreatDoor
