import Derived.OpenShut
import Derived.Test.YtoancknoinilaaaGreatDoorHOpc
import Derived.Test.YtoancknoinilaaaGreatDoorHSl3
/- Opening arrays of whole numbers: weights. -/
set_option linter.unusedVariables false
set_option linter.unusedSimpArgs false
namespace Go.Proofs.YtoancknoinilaaaGreatDoor
open Go.ChangeShapes Go.WideShapes Go.ChangeAt Go.RowKit Go.Deep Go.Se
theorem open_arr {P:Program} {H:Type} {enc:TypeId × Value → H} {W:World} {b0:Nat} {r:Reach} {t e:TypeId} {n:Nat} {v:Value} {d:DataW H} {p:List MemPlace} (ht:P.underlying t = some (.array n e)) (he:P.underlying e = some (.int .i64)) (hce:P.cellsOf e = 1) (hC:P.cellsOf t = n)
 (hval:Value.okWide P W r b0 t v) (h:DataW.Trod enc P W 0 (fun _ => true) true t v d p) : ∃ ns : List Int,ns.length = n ∧ v = .agg (ns.map (Value.int .i64)).toArray := by
 unfold Value.okWide at hval
 rw [ht] at hval
 obtain ⟨cs,rfl,hsz,_⟩ := hval
 obtain ⟨fuel,hf⟩ := h
 have hcells : (Value.agg cs).cells.toList = cs.toList := rfl
 rw [hcells] at hf
 obtain ⟨xs,m,_,_,hlen,hxl,hx⟩ := DataW.trod_array ht hf
 have hcl : cs.toList.length = n := by rw [hlen,hC]
 obtain ⟨ns,hnl,hn⟩ := Qoh (Φ := fun i (q:Int) => cs.toList[i]? = some (.int .i64 q)) (n := n) (fun i hi => by
  have h1 := hx i hi
  rw [hce,Nat.mul_one] at h1
  have hone' : (cs.toList.drop i).take 1 = [cs.toList[i]'(by omega)] := by
   rw [List.drop_eq_getElem_cons (by omega)]
   rfl
  rw [hone',List.getElem?_eq_getElem (by omega)] at h1
  obtain ⟨q,hv,_,hwf⟩ := DataW.trod_int he h1
  refine ⟨q,?_⟩
  rw [List.getElem?_eq_getElem (by omega)]
  simpa using hv)
 refine ⟨ns,hnl,?_⟩
 congr 1
 apply Array.ext'
 rw [List.toList_toArray]
 apply List.ext_getElem?
 intro i
 rw [List.getElem?_map]
 by_cases hi : i < n
 · have := hn i ns[i] (List.getElem?_eq_getElem (by omega))
   rw [this,List.getElem?_eq_getElem (by omega)]
   rfl
 · rw [List.getElem?_eq_none (by omega),List.getElem?_eq_none (by omega)]
   rfl
set_option maxRecDepth 100000 in
theorem Q5y {H:Type} {enc:TypeId × Value → H} {W:World} {b0:Nat} {r:Reach} {v:Value} {d:DataW H} {p:List MemPlace} (hval:Value.okWide Tryz.prog W r b0 37 v)
 (h:DataW.Trod enc Tryz.prog W 0 (fun _ => true) true 37 v d p) : ∃ a : Nat → Int,v = .agg (wsC a).toArray := by
 obtain ⟨ns,hl,rfl⟩ := open_arr (n := 6) (e := 3) (by kernel_rfl) (by kernel_rfl) (by kernel_rfl) (by kernel_rfl) hval h
 refine ⟨fun k => ns.getD k 0,?_⟩
 match ns,hl with
 | [a,b,c,d,e,f],_ => rfl
end Go.Proofs.YtoancknoinilaaaGreatDoor
