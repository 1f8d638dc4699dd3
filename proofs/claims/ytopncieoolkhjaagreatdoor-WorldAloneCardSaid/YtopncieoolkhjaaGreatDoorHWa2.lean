import Derived.Test.YtopncieoolkhjaaGreatDoorHWa1
/- world.forget. -/
set_option linter.unusedVariables false
set_option linter.unusedSimpArgs false
namespace Go.Proofs.YtopncieoolkhjaaGreatDoor
open Go.Se Go.RowKit
def Qiv (s:WS) (person:ByteArray) : List Ev := s.es.filter fun e => !Qae person e
def Qel (width:Int) (s:WS) (person:ByteArray) : WS :=
 if s.es.any (Qae person) = true then ⟨Qiv s person,s.any,s.last,s.ad,Q7 s.fg person true,Qq width (Qiv s person)⟩
 else { s with fg := Q7 s.fg person true }
set_option maxHeartbeats 2000000 in
theorem Qrf (w:World) (base p:Nat) (c:Cfg) (hcf:Qlb c = true) (s:WS) (col:Nat → Nat) (h:Qby w base p c s col) (hg:Gl w) (hml:∀ x ∈ s.es,Xo x = true) (hr:Rise s.es) (hl:s.es.length < 1000000) (person:ByteArray) :
 Cal Tryz.prog 120 [.pointer (some ⟨p,0,none⟩),.string person] w fun r w' => r = .tuple #[] ∧ ∃ col',Qby w' base p c (Qel c.width s person) col' ∧ (∀ k,col' k ≠ 0 → col k ≠ 0 ∨ w.heap.size ≤ k) ∧ Mod (fun k => col k ≠ 0) w w' := by
 obtain ⟨⟨q,A,cap,h⟩,hz⟩ := h
 have hlow : ∀ k,col k ≠ 0 → 10 ≤ k := fun k hk => by have := h.low.2 k hk; have := h.low.1; omega
 refine Fi Tryz.func120 rfl _ rfl rfl ?_;conv=>whnf
 intro b3 w1 hn1
 have hb1 : At w1 b3 9 [.string person] := hn1.At
 have e1 := hn1.block
 have h1 := h.ext hn1.ext
 have hx1 := hn1.ext
 have hc3 : col b3 = 0 := hz b3 (by omega)
 clear hn1 h
 (conv=>whnf);repeat(refine Sg ?_;(conv=>whnf))
 refine Dr .same [0,1,2,3,4] [5] ?_;conv=>whnf
 have hxd : Ext w1 w1.drew := (Ext.refl w1).drew
 replace h1 := h1.ext hxd
 replace hb1 := hb1.ext hxd
 replace hx1 := hx1.trans hxd
 generalize w1.drew = w2 at h1 hb1 hx1 ⊢
 clear hxd
 refine ⟨_,h1.head.one rfl,?_⟩;conv=>whnf
 refine ⟨.string person,hb1.one0,?_⟩;conv=>whnf
 refine Qx Qix (Qu Xm) h1.forg person _ fun w3 hm3 ho3 => ?_
 rw [Xa] at hm3
 have h3 := h1.forgm ho3 hm3
 have hbf : col q.bf = 8 := h1.cols.2.2.1
 replace hb1 := ho3.at_ hb1 (fun e => by rw [e] at hc3; omega)
 have hM3 : Mod (fun k => col k ≠ 0) w w3 := (Mod.of_ext hx1).trans (Qi ho3 (by show col q.bf ≠ 0; omega))
 clear h1 hm3 ho3 hx1
 (conv=>whnf);repeat(refine Sg ?_;(conv=>whnf))
 refine ⟨_,h3.head.one rfl,?_⟩;conv=>whnf
 (conv=>whnf);repeat(refine Sg ?_;(conv=>whnf))
 refine (Qvj b3 person s.es A cap w3 hb1 (h3.evs.sl Xb) hl).mono ?_
 rintro _ w4 ⟨rfl,hx4⟩
 replace h3 := h3.ext hx4
 replace hb1 := hb1.ext hx4
 replace hM3 := hM3.trans (Mod.of_ext hx4)
 clear hx4
 have sM := hM3.size
 (conv=>whnf);repeat(refine Sg ?_;(conv=>whnf))
 constructor
 · intro hq
   have hq : s.es.any (Qae person) = false := by simpa using hq
   have hF : Qel c.width s person = { s with fg := Q7 s.fg person true } := by unfold Qel; rw [if_neg (by rw [hq]; decide)]
   rw [hF]
   (conv=>whnf);repeat(refine Sg ?_;(conv=>whnf))
   exact ⟨rfl,col,⟨⟨q,A,cap,h3⟩,fun k hk => hz k (by omega)⟩,fun k hk => .inl hk,hM3⟩
 intro hq
 have hq : s.es.any (Qae person) = true := by simpa using hq
 have hF : Qel c.width s person = ⟨Qiv s person,s.any,s.last,s.ad,Q7 s.fg person true,Qq c.width (Qiv s person)⟩ := by unfold Qel; rw [if_pos hq]
 obtain ⟨a,rfl⟩ : ∃ a,A = some a := by
  obtain ⟨x,hx,_⟩ := List.any_eq_true.1 hq
  obtain ⟨i,hi,_⟩ := List.getElem_of_mem hx
  obtain ⟨a,ha,_⟩ := (h3.evs.sl Xb).get hi
  exact ⟨a,ha⟩
 have hca : col a.block = 9 := h3.cols.2.2.2 a rfl
 have hcp : col p = 6 := h3.cols.1
 have hcb : col q.ba = 7 := h3.cols.2.1
 rw [hF]
 (conv=>whnf);repeat(refine Sg ?_;(conv=>whnf))
 refine ⟨_,h3.head.one rfl,?_⟩;conv=>whnf
 (conv=>whnf);repeat(refine Sg ?_;(conv=>whnf))
 refine (Qvk b3 person s.es a cap 0 w4 hb1 h3.evs (fun e => by rw [e] at hca; omega) hl hq).mono ?_
 rintro _ w5 ⟨rfl,hown5,hM5⟩
 have hU : (s.es.filter fun e => !Qae person e) = Qiv s person := rfl
 rw [hU] at hown5 ⊢
 have hUm : ∀ x ∈ Qiv s person,Xo x = true := fun x hx => hml x (List.mem_filter.1 hx).1
 have hUr : Rise (Qiv s person) := hr.sublist List.filter_sublist
 have hUl : (Qiv s person).length < 1000000 := by have := List.length_filter_le (fun e => !Qae person e) s.es; unfold Qiv; omega
 generalize Qiv s person = U at hown5 hUm hUr hUl ⊢
 have hp5 := h3.head.mod hM5 (fun e => by rw [e] at hcp; omega)
 have hba5 := h3.added.mod hM5 (fun e => by rw [e] at hcb; omega)
 have hbf5 := h3.forg.mod hM5 (fun e => by rw [e] at hbf; omega)
 replace hM3 := hM3.trans (hM5.mono fun k _ hk => by rw [hk]; show col a.block ≠ 0; omega)
 have hlw := h3.low
 clear h3 hM5 hb1
 (conv=>whnf);repeat(refine Sg ?_;(conv=>whnf))
 refine Qh Qa (e := ty23) (off := 6) rfl hp5 rfl rfl rfl (by simp [Qj,Value.oneCell']) fun w6 h6 ho6 => ?_
 have h6 : At w6 p 111 (wC c (some a) U.length cap s.any s.last q) := h6
 replace hba5 := hba5.only ho6 (fun e => by rw [e] at hcb; omega)
 replace hbf5 := hbf5.only ho6 (fun e => by rw [e] at hbf; omega)
 replace hown5 := hown5.keep fun a' ha' => by
  injection ha' with ha'
  subst ha'
  exact ho6.block _ (fun e => by rw [e] at hca; omega)
 replace hM3 := hM3.trans (Qi ho6 (by show col p ≠ 0; omega))
 have l6 := h6.lt
 have lba := hba5.lt
 have lbf := hbf5.lt
 have la := (hown5.block rfl).2
 clear hp5 ho6
 (conv=>whnf);repeat(refine Sg ?_;(conv=>whnf))
 refine (Qls w6 p c _ _ _ _ _ _ _ _ _ _ _ _ _ _ _ _ _ _ h6).mono ?_
 rintro _ w7 ⟨rfl,pc,pw,pd,pp,ps,colN,h7,hcts,hcolN,hM7⟩
 have s7 := hM7.size
 have hN : ∀ k,k < w6.heap.size → colN k = 0 := fun k hk => by
  cases hq : decide (colN k = 0) with
  | true => simpa using hq
  | false => have := hcolN k (by simpa using hq); omega
 obtain ⟨col2,hcol2⟩ : ∃ f : Nat → Nat,∀ k,f k = if k < w6.heap.size then (if 6 ≤ col k then col k else 0) else colN k := ⟨_,fun k => rfl⟩
 have c2 : ∀ k,k < w6.heap.size → 6 ≤ col k → col2 k = col k := fun k h1 h2 => by rw [hcol2,if_pos h1,if_pos h2]
 have hba7 := hba5.mod hM7 (fun e => by rw [e] at hcb; omega)
 have hbf7 := hbf5.mod hM7 (fun e => by rw [e] at hbf; omega)
 have hown7 := hown5.keep (w' := w7) fun a' ha' => by
  injection ha' with ha'
  subst ha'
  exact hM7.block _ la (fun e => by rw [e] at hca; omega)
 have hL7 : Qav w7 base p c ⟨U,s.any,s.last,s.ad,Q7 s.fg person true,Qxe⟩ col2 ⟨q.ba,q.bf,pc,pw,pd,pp,ps⟩ (some a) cap := by
  refine ⟨⟨hlw.1,fun k hk => ?_⟩,h7,⟨by rw [c2 _ l6 (by omega)]; exact hcp,by rw [c2 _ lba (by omega)]; exact hcb,by rw [c2 _ lbf (by omega)]; exact hbf,fun a' ha' => by injection ha' with ha'; subst ha'; rw [c2 _ la (by omega)]; exact hca⟩,hba7,hbf7,hown7,(hcts q.ba q.bf).keep fun k _ hk => ⟨rfl,?_⟩⟩
  · rw [hcol2] at hk
    split at hk
    · split at hk
      · exact hlw.2 k hk
      · exact absurd rfl hk
    · have := hlw.2 p (by omega); omega
  · have hk6 : ¬ k < w6.heap.size := fun hlt => by have := hN k hlt; omega
    rw [hcol2,if_neg hk6]
 have hz7 : ∀ k,w7.heap.size ≤ k → col2 k = 0 := fun k hk => by
  rw [hcol2,if_neg (by omega)]
  cases hq : decide (colN k = 0) with
  | true => simpa using hq
  | false => have := hcolN k (by simpa using hq); omega
 have hc27 : ∀ k,col2 k ≠ 0 → col k ≠ 0 ∨ w.heap.size ≤ k := fun k hk => by
  rw [hcol2] at hk
  split at hk
  · split at hk
    · exact .inl hk
    · exact absurd rfl hk
  · have := hM3.size; right; omega
 have hM37 : Mod (fun k => col k ≠ 0) w w7 := hM3.trans (hM7.mono fun k _ hk => by rw [hk]; show col p ≠ 0; omega)
 have hg7 : Gl w7 := hg.mod hM37 hlow
 have c2a : col2 a.block = 9 := by rw [c2 _ la (by omega)]; exact hca
 have la7 : a.block < w7.heap.size := by omega
 have hsl7 := hown7.sl Xb
 clear hcts hcolN hM7 hN hcol2 c2 hba5 hbf5 hba7 hbf7 hown5 hown7 h6 h7 hM3
 (conv=>whnf);repeat(refine Sg ?_;(conv=>whnf))
 refine ⟨_,hL7.head.one rfl,?_⟩;conv=>whnf
 (conv=>whnf);repeat(refine Sg ?_;(conv=>whnf))
 refine Qe Qa (fun (x:Nat × (Nat → Nat)) w' => x.1 ≤ U.length ∧ Qby w' base p c ⟨U,s.any,s.last,s.ad,Q7 s.fg person true,Qq c.width (U.take x.1)⟩ x.2 ∧ SlE w' (some a) U ∧ x.2 a.block = 9 ∧ a.block < w'.heap.size ∧ (∀ k,x.2 k ≠ 0 → col k ≠ 0 ∨ w.heap.size ≤ k) ∧ Mod (fun k => col k ≠ 0) w w' ∧ Gl w')
  (fun x => [(0,.pointer (some ⟨p,0,none⟩)),(34,.slice (some a) U.length cap),(35,.int .i64 U.length),(36,.int .i64 (x.1 : Nat))]) (fun x => U.length - x.1) (0,col2) ⟨Nat.zero_le _,⟨⟨_,_,_,hL7⟩,hz7⟩,hsl7,c2a,la7,hc27,hM37,hg7⟩ ⟨rfl,rfl,rfl,rfl,trivial⟩ ?_
 clear hL7 hz7 hsl7 c2a la7 hc27 hM37 hg7
 rintro ⟨k,colk⟩ w8 ⟨hk,hC,hsl,hka,hla,hcc,hM,hg8⟩
 simp only at hk hC hka hcc
 conv=>whnf
 constructor
 · intro hlt
   have hlt : k < U.length := by simpa using hlt
   obtain ⟨a',ha',hce⟩ := hsl.get hlt
   injection ha' with ha'
   subst ha'
   have hme := hUm _ (List.getElem_mem hlt)
   have htk := Xu U k hlt
   have hri := Qpk hUr (k + 1)
   rw [htk] at hri
   generalize U[k] = e at hce hme htk hri
   have hcn := Qas c.width (U.take k) e
   rw [← htk] at hcn
   (conv=>whnf);repeat(refine Sg ?_;(conv=>whnf))
   refine ⟨a,⟨rfl,by omega,by omega⟩,?_⟩; (conv=>whnf);repeat(refine Sg ?_;(conv=>whnf))
   refine ⟨evC e,⟨rfl,hce⟩,?_⟩; (conv=>whnf);repeat(refine Sg ?_;(conv=>whnf))
   intro b6 w9 hn9; (conv=>whnf);repeat(refine Sg ?_;(conv=>whnf))
   have e9 := hn9.block
   refine Qh Qa (e := ty49) rfl hn9.At rfl rfl rfl (Qdt e) fun wa ha hoa => ?_
   have ha : At wa b6 49 (evC e) := ha
   have hxa : Ext w8 wa := hoa.ext hn9.ext (by omega)
   clear hoa hn9
   (conv=>whnf);repeat(refine Sg ?_;(conv=>whnf))
   refine ⟨evC e,⟨rfl,ha.all⟩,?_⟩; (conv=>whnf);repeat(refine Sg ?_;(conv=>whnf))
   refine (Qlu wa base p c hcf _ colk (hC.ext hxa) (hg8.ext hxa) (U.take k) rfl (fun x hx => hUm x (List.mem_of_mem_take hx)) e hme hri (by rw [List.length_take]; omega)).mono ?_
   rintro _ wb ⟨rfl,colb,hCb,hcb8,hMb⟩
   have sa := hxa.size
   have sb := hMb.size
   have hlk : ∀ j,colk j ≠ 0 → 10 ≤ j := fun j hj => by
    obtain ⟨q',A',c',hL'⟩ := hC.1
    have := hL'.low.2 j hj
    have := hL'.low.1
    omega
   have s8 := hM.size
   (conv=>whnf);repeat(refine Sg ?_;(conv=>whnf))
   refine ⟨_,wrap_succ (by omega),?_⟩; (conv=>whnf);repeat(refine Sg ?_;(conv=>whnf))
   refine ⟨(k + 1,colb),by simp only; omega,⟨by simp only; omega,?_,Qcs (hsl.ext hxa) fun a' ha' => ?_,(hcb8 _ (by omega)).trans hka,by omega,fun j hj => ?_,Qs (hM.trans (Mod.of_ext hxa)) (hMb.mono fun j _ hj => hcc j (by omega)),(hg8.ext hxa).mod hMb fun j hj => hlk j (by omega)⟩,⟨rfl,rfl,rfl,rfl,trivial⟩⟩
   · simp only
     rw [hcn]
     exact hCb
   · injection ha' with ha'
     subst ha'
     exact hMb.block _ (by omega) (by rw [hka]; omega)
   · have hj : colb j ≠ 0 := hj
     by_cases hjl : j < wa.heap.size
     · rw [hcb8 j hjl] at hj
       exact hcc j hj
     · right; omega
 · intro hge
   have hge : U.length ≤ k := by simpa using hge
   rw [List.take_of_length_le hge] at hC
   (conv=>whnf);repeat(refine Sg ?_;(conv=>whnf))
   exact ⟨rfl,colk,hC,hcc,hM⟩
end Go.Proofs.YtopncieoolkhjaaGreatDoor
