import Derived.Test.YtnpacgccajekgaaGreatDoorGR
set_option linter.all false
namespace Go.Proofs.YtnpacgccajekgaaGreatDoor
open Go.ChangeShapes Go.WideShapes Go.ChangeAt Go.RowKit Go.Se
set_option maxRecDepth 100000 in
theorem topAudit_l1:Tryz.checked.prog.inits.idxOf? 3=none:=by kernel_rfl
set_option maxRecDepth 100000 in
theorem topAudit_l2 (os:Os) (H:Type) (enc:TypeId×Value->H):DataW.whole enc Tryz.prog ((World.laidAll Tryz.prog os Rows.topAuditRow.laid).forCall (fun _ _=>0) ⟨#[],#[.slice none 0 0,.slice none 0 0,.int .u64 0,.int .u8 0],[]⟩).memory Tryz.f3.params.toList Rows.topAuditSpec.vars false (#[.slice none 0 0,.slice none 0 0,.int .u64 0,.int .u8 0]:Array Value).toList 8=some ([.nil,.nil,.lit (.int .u64 0),.lit (.int .u8 0)],[],[]):=by kernel_rfl
set_option maxRecDepth 100000 in
theorem topAudit_l3 (os:Os):World.variablesZipB Tryz.checked.prog ((World.laidAll Tryz.prog os Rows.topAuditRow.laid).forCall (fun _ _=>0) ⟨#[],#[.slice none 0 0,.slice none 0 0,.int .u64 0,.int .u8 0],[]⟩)=true:=by kernel_rfl
set_option maxRecDepth 100000 in
theorem topAudit_l4 (os:Os):List.take ((begin Tryz.checked.prog (fun _ _=>0) default).world.heap.size-Tryz.checked.prog.globals.size) (List.drop Tryz.checked.prog.globals.size ((World.laidAll Tryz.prog os Rows.topAuditRow.laid).forCall (fun _ _=>0) ⟨#[],#[.slice none 0 0,.slice none 0 0,.int .u64 0,.int .u8 0],[]⟩).heap.toList)=List.drop Tryz.checked.prog.globals.size (begin Tryz.checked.prog (fun _ _=>0) default).world.heap.toList:=by kernel_rfl
set_option maxRecDepth 100000 in
theorem topAudit_l5 (os:Os):Input.okWideB Tryz.checked.prog ((World.laidAll Tryz.prog os Rows.topAuditRow.laid).forCall (fun _ _=>0) ⟨#[],#[.slice none 0 0,.slice none 0 0,.int .u64 0,.int .u8 0],[]⟩) 3 ⟨#[],#[.slice none 0 0,.slice none 0 0,.int .u64 0,.int .u8 0],[]⟩=true:=by kernel_rfl
set_option maxRecDepth 100000 in
theorem topAudit_l7 (os:Os) (H:Type) (enc:TypeId×Value->H):ChangeSpec.sizedB enc Tryz.checked.prog Tryz.f3 (OpenSpec.ofChange Rows.topAuditSpec).bare false ((World.laidAll Tryz.prog os Rows.topAuditRow.laid).forCall (fun _ _=>0) ⟨#[],#[.slice none 0 0,.slice none 0 0,.int .u64 0,.int .u8 0],[]⟩).memory #[.slice none 0 0,.slice none 0 0,.int .u64 0,.int .u8 0] 8=true:=by kernel_rfl
set_option maxRecDepth 100000 in
theorem topAudit_l9 (os:Os):World.layFits Tryz.checked.prog (World.holding Tryz.checked.prog os ⟨#[],#[],[]⟩) Rows.topAuditRow.laid []=true:=by kernel_rfl
set_option maxRecDepth 100000 in
theorem topAudit_l10 (os:Os):World.layIfaces Tryz.checked.prog (World.holding Tryz.checked.prog os ⟨#[],#[],[]⟩) Rows.topAuditRow.laid (World.laidAll Tryz.checked.prog os Rows.topAuditRow.laid)=true:=by kernel_rfl
