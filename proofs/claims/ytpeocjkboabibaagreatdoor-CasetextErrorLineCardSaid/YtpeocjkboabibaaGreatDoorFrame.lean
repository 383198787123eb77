/- A part of the proof; each theorem says what it holds. -/
import Derived.Test.YtpeocjkboabibaaGreatDoorP5
set_option linter.unusedVariables false
set_option linter.defProp false
set_option linter.unusedSimpArgs false
set_option maxRecDepth 100000
namespace Go.Proofs.YtpeocjkboabibaaGreatDoor.casetextErrorLine
open Go.ChangeShapes Go.WideShapes Go.ChangeAt Go.RowKit
theorem As9:Rows.CasetextErrorLineSaid :=
 OpenClaim.holds_of_cond 4 Tryz.f4 rfl rfl rfl rfl rfl rfl rfl ⟨rfl,rfl,rfl,rfl,rfl⟩ rfl rfl rfl rfl rfl An4 Tryz.func4 Ap1 Ap2 Ap3
  (fun os started H enc _ F=>by rw[OpenClaim.pre_eq_preRow];exact lifted os started H enc F)
theorem cl:true=Tryz.prog.looks []:=by kernel_rfl
theorem plain (f : FuncId) (fn : Func) (q : Tryz.pinned.checked.prog.funcNamed "gridmarket/gridmarketlaw17.CasetextErrorLine" = some f) (d : Tryz.pinned.checked.prog.funcs[f]? = some fn) :
  true=Tryz.pinned.checked.prog.looks []/\∀ (j:Nat) t,fn.params[j]?=some t->Tryz.pinned.checked.prog.wantsStandIn t=false:=by
 obtain rfl : f = 4 := Option.some.inj ((show Tryz.prog.funcNamed "gridmarket/gridmarketlaw17.CasetextErrorLine" = some 4 by kernel_rfl).symm.trans q) |>.symm
 obtain rfl:fn=Tryz.f4:=(Option.some.inj (Tryz.func4.symm.trans d)).symm
 refine⟨cl,fun j t n=>?_⟩
 rw[Tryz.params4] at n
 have s:=Array.mem_of_getElem? n
 have l:t=22\/t=3\/t=5:=by simpa using s
 rcases l with rfl | rfl | rfl
 ·exact(show Tryz.prog.wantsStandIn 22=false by kernel_rfl)
 ·exact(show Tryz.prog.wantsStandIn 3=false by kernel_rfl)
 ·exact(show Tryz.prog.wantsStandIn 5=false by kernel_rfl)
theorem cw:Rows.casetextErrorLineRow.wfByText (OpenSpec.ofChange Rows.casetextErrorLineSpec)=true:=by kernel_rfl
theorem cm : Tryz.pinned.checked.prog.mainIs = some (true, "b2b3a011170f67db8f8f459969e21a171ba6c823af9b96b5968b39057a3ee280".toList) := by kernel_rfl
theorem cg:false=Rows.casetextErrorLineRow.goesBy Tryz.pinned.checked.prog:=by kernel_rfl
theorem proved:Rows.CasetextErrorLineCardSaid :=
 Claim7.holds_tied_plain_at .later [] _ _ _ _ As9 (fun _ h=>by cases h) cw (fun _ h=>by cases h) casetextErrorLine_row_tie rfl ⟨rfl,rfl⟩ cm rfl plain cg
end Go.Proofs.YtpeocjkboabibaaGreatDoor.casetextErrorLine
