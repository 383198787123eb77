/- A part of the proof; each theorem says what it holds. -/
import Derived.Test.YtnlplnjnonldpaaGreatDoorP5V
set_option linter.unusedVariables false
set_option linter.defProp false
set_option linter.unusedSimpArgs false
set_option maxRecDepth 100000
namespace Go.Proofs.YtnlplnjnonldpaaGreatDoor.branchlogCovers
open Go.ChangeShapes Go.WideShapes Go.ChangeAt Go.RowKit
theorem Afx:Rows.BranchlogCoversSaid :=
 OpenClaim.holds_of_cond 6 Tryz.f6 rfl rfl rfl rfl rfl rfl rfl ⟨rfl,rfl,rfl,rfl,rfl⟩ rfl rfl rfl rfl rfl ra Tryz.func6 xW xX xY
  (fun os started H enc _ F=>by rw[OpenClaim.pre_eq_preRow];exact lifted os started H enc F)
theorem cl:true=Tryz.prog.looks []:=by kernel_rfl
theorem plain (f : FuncId) (fn : Func) (q : Tryz.pinned.checked.prog.funcNamed "gridmarket/gridmarketlaw35.BranchlogCovers" = some f) (b : Tryz.pinned.checked.prog.funcs[f]? = some fn) :
  true=Tryz.pinned.checked.prog.looks []∧∀ (j:Nat) t,fn.params[j]?=some t→Tryz.pinned.checked.prog.wantsStandIn t=false:=by
 obtain rfl : f = 6 := Option.some.inj ((show Tryz.prog.funcNamed "gridmarket/gridmarketlaw35.BranchlogCovers" = some 6 by kernel_rfl).symm.trans q) |>.symm
 obtain rfl:fn=Tryz.f6:=(Option.some.inj (Tryz.func6.symm.trans b)).symm
 refine⟨cl,fun j t k=>?_⟩
 rw[Tryz.params6] at k
 have s:=Array.mem_of_getElem? k
 have e:t=22∨t=22∨t=22:=by simpa using s
 rcases e with rfl | rfl | rfl
 ·exact(show Tryz.prog.wantsStandIn 22=false by kernel_rfl)
 ·exact(show Tryz.prog.wantsStandIn 22=false by kernel_rfl)
 ·exact(show Tryz.prog.wantsStandIn 22=false by kernel_rfl)
theorem cw:Rows.branchlogCoversRow.wfByText (OpenSpec.ofChange Rows.branchlogCoversSpec)=true:=by kernel_rfl
theorem cm : Tryz.pinned.checked.prog.mainIs = some (true, "c73e9210460795327da29ac31cfc408209c10d9d5bf8f7cd02d946eaf358ace3".toList) := by kernel_rfl
theorem cg:false=Rows.branchlogCoversRow.goesBy Tryz.pinned.checked.prog:=by kernel_rfl
theorem proved:Rows.BranchlogCoversCardSaid :=
 Claim7.holds_tied_plain_at .later [] _ _ _ _ Afx (fun _ h=>by cases h) cw (fun _ h=>by cases h) branchlogCovers_row_tie rfl ⟨rfl,rfl⟩ cm rfl plain cg
end Go.Proofs.YtnlplnjnonldpaaGreatDoor.branchlogCovers
