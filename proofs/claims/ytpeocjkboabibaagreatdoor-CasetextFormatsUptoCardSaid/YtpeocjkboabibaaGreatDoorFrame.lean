/- A part of the proof; each theorem says what it holds. -/
import Derived.Test.YtpeocjkboabibaaGreatDoorP5
set_option linter.unusedVariables false
set_option linter.defProp false
set_option linter.unusedSimpArgs false
set_option maxRecDepth 100000
namespace Go.Proofs.YtpeocjkboabibaaGreatDoor.casetextFormats
open Go.ChangeShapes Go.WideShapes Go.ChangeAt Go.RowKit
theorem Acm:Rows.CasetextFormatsUptoSaid :=
 OpenClaim.holds_of_cond 5 Tryz.f5 rfl rfl rfl rfl rfl rfl rfl ⟨rfl,rfl,rfl,rfl,rfl⟩ rfl rfl rfl rfl rfl x5 Tryz.func5 yd ye yf
  (fun os started H enc _ F=>by rw[OpenClaim.pre_eq_preRow];exact lifted os started H enc F)
theorem cl:true=Tryz.prog.looks []:=by kernel_rfl
theorem plain (f : FuncId) (fn : Func) (l : Tryz.pinned.checked.prog.funcNamed "gridmarket/gridmarketlaw17.CasetextFormats" = some f) (d : Tryz.pinned.checked.prog.funcs[f]? = some fn) :
  true=Tryz.pinned.checked.prog.looks []∧∀ (j:Nat) t,fn.params[j]?=some t→Tryz.pinned.checked.prog.wantsStandIn t=false:=by
 obtain rfl : f = 5 := Option.some.inj ((show Tryz.prog.funcNamed "gridmarket/gridmarketlaw17.CasetextFormats" = some 5 by kernel_rfl).symm.trans l) |>.symm
 obtain rfl:fn=Tryz.f5:=(Option.some.inj (Tryz.func5.symm.trans d)).symm
 refine⟨cl,fun j t k=>?_⟩
 rw[Tryz.params5] at k
 have m:=Array.mem_of_getElem? k
 have e:t=37∨t=22∨t=3∨t=3∨t=9:=by simpa using m
 rcases e with rfl | rfl | rfl | rfl | rfl
 ·exact(show Tryz.prog.wantsStandIn 37=false by kernel_rfl)
 ·exact(show Tryz.prog.wantsStandIn 22=false by kernel_rfl)
 ·exact(show Tryz.prog.wantsStandIn 3=false by kernel_rfl)
 ·exact(show Tryz.prog.wantsStandIn 3=false by kernel_rfl)
 ·exact(show Tryz.prog.wantsStandIn 9=false by kernel_rfl)
theorem cw:Rows.casetextFormatsUptoRow.wfByText (Rows.OpenSpec.upto Rows.casetextFormatsSpec)=true:=by kernel_rfl
theorem cm : Tryz.pinned.checked.prog.mainIs = some (true, "b2b3a011170f67db8f8f459969e21a171ba6c823af9b96b5968b39057a3ee280".toList) := by kernel_rfl
theorem cg:false=Rows.casetextFormatsUptoRow.goesBy Tryz.pinned.checked.prog:=by kernel_rfl
theorem proved:Rows.CasetextFormatsUptoCardSaid :=
 Claim7.holds_tied_plain_at .later [] _ _ _ _ Acm (fun _ h=>by cases h) cw (fun _ h=>by cases h) casetextFormatsUpto_row_tie rfl ⟨rfl,rfl⟩ cm rfl plain cg
end Go.Proofs.YtpeocjkboabibaaGreatDoor.casetextFormats
