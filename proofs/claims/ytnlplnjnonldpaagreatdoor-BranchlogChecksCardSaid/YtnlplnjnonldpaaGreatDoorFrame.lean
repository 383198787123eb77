/- A part of the proof; each theorem says what it holds. -/
import Derived.Test.YtnlplnjnonldpaaGreatDoorP4
set_option linter.unusedVariables false
set_option linter.defProp false
set_option linter.unusedSimpArgs false
set_option maxRecDepth 100000
namespace Go.Proofs.YtnlplnjnonldpaaGreatDoor.branchlogChecks
open Go.ChangeShapes Go.WideShapes Go.ChangeAt Go.RowKit
theorem Aat:Rows.BranchlogChecksSaid :=
 OpenClaim.holds_of_cond 4 Tryz.f4 rfl rfl rfl rfl rfl rfl rfl ⟨rfl,rfl,rfl,rfl,rfl⟩ rfl rfl rfl rfl rfl wG Tryz.func4 xc xd xe
  (fun os started H enc _ F=>by rw[OpenClaim.pre_eq_preRow];exact lifted os started H enc F)
theorem cl:true=Tryz.prog.looks []:=by kernel_rfl
theorem plain (f : FuncId) (fn : Func) (i : Tryz.pinned.checked.prog.funcNamed "gridmarket/gridmarketlaw35.BranchlogChecks" = some f) (b : Tryz.pinned.checked.prog.funcs[f]? = some fn) :
  true=Tryz.pinned.checked.prog.looks []∧∀ (j:Nat) t,fn.params[j]?=some t→Tryz.pinned.checked.prog.wantsStandIn t=false:=by
 obtain rfl : f = 4 := Option.some.inj ((show Tryz.prog.funcNamed "gridmarket/gridmarketlaw35.BranchlogChecks" = some 4 by kernel_rfl).symm.trans i) |>.symm
 obtain rfl:fn=Tryz.f4:=(Option.some.inj (Tryz.func4.symm.trans b)).symm
 refine⟨cl,fun j t e=>?_⟩
 rw[Tryz.params4] at e
 have k:=Array.mem_of_getElem? e
 have d:t=38∨t=27∨t=3:=by simpa using k
 rcases d with rfl | rfl | rfl
 ·exact(show Tryz.prog.wantsStandIn 38=false by kernel_rfl)
 ·exact(show Tryz.prog.wantsStandIn 27=false by kernel_rfl)
 ·exact(show Tryz.prog.wantsStandIn 3=false by kernel_rfl)
theorem cw:Rows.branchlogChecksRow.wfByText (OpenSpec.ofChange Rows.branchlogChecksSpec)=true:=by kernel_rfl
theorem cm : Tryz.pinned.checked.prog.mainIs = some (true, "c73e9210460795327da29ac31cfc408209c10d9d5bf8f7cd02d946eaf358ace3".toList) := by kernel_rfl
theorem cg:false=Rows.branchlogChecksRow.goesBy Tryz.pinned.checked.prog:=by kernel_rfl
theorem proved:Rows.BranchlogChecksCardSaid :=
 Claim7.holds_tied_plain_at .later [] _ _ _ _ Aat (fun _ h=>by cases h) cw (fun _ h=>by cases h) branchlogChecks_row_tie rfl ⟨rfl,rfl⟩ cm rfl plain cg
end Go.Proofs.YtnlplnjnonldpaaGreatDoor.branchlogChecks
