/- A part of the proof; each theorem says what it holds. -/
import Derived.Test.YtdibhmhokchgkaaGreatDoorP6
set_option linter.unusedVariables false
set_option linter.defProp false
set_option linter.unusedSimpArgs false
set_option maxRecDepth 100000
namespace Go.Proofs.YtdibhmhokchgkaaGreatDoor.caseformWrites
open Go.ChangeShapes Go.WideShapes Go.ChangeAt Go.RowKit
theorem A72:Rows.CaseformWritesSaid :=
 OpenClaim.holds_of_cond 3 Tryz.f3 rfl rfl rfl rfl rfl rfl rfl ⟨rfl,rfl,rfl,rfl,rfl⟩ rfl rfl rfl rfl rfl A3y Tryz.func3 A5v A5w A5x
  (fun os started H enc _ F=>by rw[OpenClaim.pre_eq_preRow];exact lifted os started H enc F)
theorem cl:true=Tryz.prog.looks []:=by kernel_rfl
theorem plain (f : FuncId) (fn : Func) (l : Tryz.pinned.checked.prog.funcNamed "gridmarket/gridmarketlaw18.CaseformWrites" = some f) (d : Tryz.pinned.checked.prog.funcs[f]? = some fn) :
  true=Tryz.pinned.checked.prog.looks []/\∀ (j:Nat) t,fn.params[j]?=some t->Tryz.pinned.checked.prog.wantsStandIn t=false:=by
 obtain rfl : f = 3 := Option.some.inj ((show Tryz.prog.funcNamed "gridmarket/gridmarketlaw18.CaseformWrites" = some 3 by kernel_rfl).symm.trans l) |>.symm
 obtain rfl:fn=Tryz.f3:=(Option.some.inj (Tryz.func3.symm.trans d)).symm
 refine⟨cl,fun j t k=>?_⟩
 rw[Tryz.params3] at k
 have m:=Array.mem_of_getElem? k
 have e:t=30\/t=22:=by simpa using m
 rcases e with rfl | rfl
 ·exact(show Tryz.prog.wantsStandIn 30=false by kernel_rfl)
 ·exact(show Tryz.prog.wantsStandIn 22=false by kernel_rfl)
theorem cw:Rows.caseformWritesRow.wfByText (OpenSpec.ofChange Rows.caseformWritesSpec)=true:=by kernel_rfl
theorem cm : Tryz.pinned.checked.prog.mainIs = some (true, "896d88313c9aa64a3a18224c68473cf8166fdf2b2aecefee0ec195b7ef987ee9".toList) := by kernel_rfl
theorem cg:false=Rows.caseformWritesRow.goesBy Tryz.pinned.checked.prog:=by kernel_rfl
theorem proved:Rows.CaseformWritesCardSaid :=
 Claim7.holds_tied_plain_at .later [] _ _ _ _ A72 (fun _ h=>by cases h) cw (fun _ h=>by cases h) caseformWrites_row_tie rfl ⟨rfl,rfl⟩ cm rfl plain cg
end Go.Proofs.YtdibhmhokchgkaaGreatDoor.caseformWrites
