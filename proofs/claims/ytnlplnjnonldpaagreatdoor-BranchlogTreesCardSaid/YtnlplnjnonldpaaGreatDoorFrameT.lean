/- A part of the proof; each theorem says what it holds. -/
import Derived.Test.YtnlplnjnonldpaaGreatDoorP5T
set_option linter.unusedVariables false
set_option linter.defProp false
set_option linter.unusedSimpArgs false
set_option maxRecDepth 100000
namespace Go.Proofs.YtnlplnjnonldpaaGreatDoor.branchlogTrees
open Go.ChangeShapes Go.WideShapes Go.ChangeAt Go.RowKit
theorem Afx:Rows.BranchlogTreesSaid :=
 OpenClaim.holds_of_cond 5 Tryz.f5 rfl rfl rfl rfl rfl rfl rfl ⟨rfl,rfl,rfl,rfl,rfl⟩ rfl rfl rfl rfl rfl ra Tryz.func5 xW xX xY
  (fun os started H enc _ F=>by rw[OpenClaim.pre_eq_preRow];exact lifted os started H enc F)
theorem cl:true=Tryz.prog.looks []:=by kernel_rfl
theorem plain (f : FuncId) (fn : Func) (q : Tryz.pinned.checked.prog.funcNamed "gridmarket/gridmarketlaw35.BranchlogTrees" = some f) (b : Tryz.pinned.checked.prog.funcs[f]? = some fn) :
  true=Tryz.pinned.checked.prog.looks []∧∀ (j:Nat) t,fn.params[j]?=some t→Tryz.pinned.checked.prog.wantsStandIn t=false:=by
 obtain rfl : f = 5 := Option.some.inj ((show Tryz.prog.funcNamed "gridmarket/gridmarketlaw35.BranchlogTrees" = some 5 by kernel_rfl).symm.trans q) |>.symm
 obtain rfl:fn=Tryz.f5:=(Option.some.inj (Tryz.func5.symm.trans b)).symm
 refine⟨cl,fun j t k=>?_⟩
 rw[Tryz.params5] at k
 have s:=Array.mem_of_getElem? k
 have e:t=22∨t=22∨t=3∨t=3∨t=3∨t=3:=by simpa using s
 rcases e with rfl | rfl | rfl | rfl | rfl | rfl
 ·exact(show Tryz.prog.wantsStandIn 22=false by kernel_rfl)
 ·exact(show Tryz.prog.wantsStandIn 22=false by kernel_rfl)
 ·exact(show Tryz.prog.wantsStandIn 3=false by kernel_rfl)
 ·exact(show Tryz.prog.wantsStandIn 3=false by kernel_rfl)
 ·exact(show Tryz.prog.wantsStandIn 3=false by kernel_rfl)
 ·exact(show Tryz.prog.wantsStandIn 3=false by kernel_rfl)
theorem cw:Rows.branchlogTreesRow.wfByText (OpenSpec.ofChange Rows.branchlogTreesSpec)=true:=by kernel_rfl
theorem cm : Tryz.pinned.checked.prog.mainIs = some (true, "c73e9210460795327da29ac31cfc408209c10d9d5bf8f7cd02d946eaf358ace3".toList) := by kernel_rfl
theorem cg:false=Rows.branchlogTreesRow.goesBy Tryz.pinned.checked.prog:=by kernel_rfl
theorem proved:Rows.BranchlogTreesCardSaid :=
 Claim7.holds_tied_plain_at .later [] _ _ _ _ Afx (fun _ h=>by cases h) cw (fun _ h=>by cases h) branchlogTrees_row_tie rfl ⟨rfl,rfl⟩ cm rfl plain cg
end Go.Proofs.YtnlplnjnonldpaaGreatDoor.branchlogTrees
