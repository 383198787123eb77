/- A part of the proof; each theorem says what it holds. -/
import Derived.Test.YtnlplnjnonldpaaGreatDoorP6
set_option linter.unusedVariables false
set_option linter.defProp false
set_option linter.unusedSimpArgs false
set_option maxRecDepth 100000
namespace Go.Proofs.YtnlplnjnonldpaaGreatDoor.branchlogRound
open Go.ChangeShapes Go.WideShapes Go.ChangeAt Go.RowKit
theorem Aza:Rows.BranchlogRoundSaid :=
 OpenClaim.holds_of_cond 3 Tryz.f3 rfl rfl rfl rfl rfl rfl rfl ⟨rfl,rfl,rfl,rfl,rfl⟩ rfl rfl rfl rfl rfl Avl Tryz.func3 Axc Axd Axe
  (fun os started H enc _ F=>by rw[OpenClaim.pre_eq_preRow];exact lifted os started H enc F)
theorem cl:true=Tryz.prog.looks []:=by kernel_rfl
theorem plain (f : FuncId) (fn : Func) (q : Tryz.pinned.checked.prog.funcNamed "gridmarket/gridmarketlaw35.BranchlogRound" = some f) (e : Tryz.pinned.checked.prog.funcs[f]? = some fn) :
  true=Tryz.pinned.checked.prog.looks []∧∀ (j:Nat) t,fn.params[j]?=some t→Tryz.pinned.checked.prog.wantsStandIn t=false:=by
 obtain rfl : f = 3 := Option.some.inj ((show Tryz.prog.funcNamed "gridmarket/gridmarketlaw35.BranchlogRound" = some 3 by kernel_rfl).symm.trans q) |>.symm
 obtain rfl:fn=Tryz.f3:=(Option.some.inj (Tryz.func3.symm.trans e)).symm
 refine⟨cl,fun j t n=>?_⟩
 rw[Tryz.params3] at n
 have s:=Array.mem_of_getElem? n
 have k:t=22∨t=22∨t=22∨t=27∨t=4:=by simpa using s
 rcases k with rfl | rfl | rfl | rfl | rfl
 ·exact(show Tryz.prog.wantsStandIn 22=false by kernel_rfl)
 ·exact(show Tryz.prog.wantsStandIn 22=false by kernel_rfl)
 ·exact(show Tryz.prog.wantsStandIn 22=false by kernel_rfl)
 ·exact(show Tryz.prog.wantsStandIn 27=false by kernel_rfl)
 ·exact(show Tryz.prog.wantsStandIn 4=false by kernel_rfl)
theorem cw:Rows.branchlogRoundRow.wfByText (OpenSpec.ofChange Rows.branchlogRoundSpec)=true:=by kernel_rfl
theorem cm : Tryz.pinned.checked.prog.mainIs = some (true, "c73e9210460795327da29ac31cfc408209c10d9d5bf8f7cd02d946eaf358ace3".toList) := by kernel_rfl
theorem cg:false=Rows.branchlogRoundRow.goesBy Tryz.pinned.checked.prog:=by kernel_rfl
theorem proved:Rows.BranchlogRoundCardSaid :=
 Claim7.holds_tied_plain_at .later [] _ _ _ _ Aza (fun _ h=>by cases h) cw (fun _ h=>by cases h) branchlogRound_row_tie rfl ⟨rfl,rfl⟩ cm rfl plain cg
end Go.Proofs.YtnlplnjnonldpaaGreatDoor.branchlogRound
