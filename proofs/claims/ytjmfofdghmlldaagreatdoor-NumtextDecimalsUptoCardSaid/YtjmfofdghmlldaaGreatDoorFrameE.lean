/- A part of the proof: what it holds is said by each theorem. -/
import Derived.Test.YtjmfofdghmlldaaGreatDoorP4E
set_option linter.unusedVariables false
set_option linter.defProp false
set_option linter.unusedSimpArgs false
set_option maxRecDepth 100000
namespace Go.Proofs.YtjmfofdghmlldaaGreatDoor.numtextDecimals
open Go.ChangeShapes Go.WideShapes Go.ChangeAt Go.RowKit
theorem rJ:Rows.NumtextDecimalsUptoSaid :=
 OpenClaim.holds_of_cond 4 Tryz.f4 rfl rfl rfl rfl rfl rfl rfl ⟨rfl,rfl,rfl,rfl,rfl⟩ rfl rfl rfl rfl rfl Sp Tryz.func4 DJ DK DL
  (fun os started H enc _ F=>by rw[OpenClaim.pre_eq_preRow];exact lifted os started H enc F)
theorem cl:true=Tryz.prog.looks []:=by kernel_rfl
theorem plain (f : FuncId) (fn : Func) (e : Tryz.pinned.checked.prog.funcNamed "gridmarket/gridmarketlaw04.NumtextDecimals" = some f) (b : Tryz.pinned.checked.prog.funcs[f]? = some fn) :
  true=Tryz.pinned.checked.prog.looks []∧∀ (j:Nat) t,fn.params[j]?=some t→Tryz.pinned.checked.prog.wantsStandIn t=false:=by
 obtain rfl : f = 4 := Option.some.inj ((show Tryz.prog.funcNamed "gridmarket/gridmarketlaw04.NumtextDecimals" = some 4 by kernel_rfl).symm.trans e) |>.symm
 obtain rfl:fn=Tryz.f4:=(Option.some.inj (Tryz.func4.symm.trans b)).symm
 refine⟨cl,fun j t d=>?_⟩
 rw[Tryz.params4] at d
 have i:=Array.mem_of_getElem? d
 have c:t=26∨t=3∨t=5:=by simpa using i
 rcases c with rfl | rfl | rfl
 ·exact(show Tryz.prog.wantsStandIn 26=false by kernel_rfl)
 ·exact(show Tryz.prog.wantsStandIn 3=false by kernel_rfl)
 ·exact(show Tryz.prog.wantsStandIn 5=false by kernel_rfl)
theorem cw:Rows.numtextDecimalsUptoRow.wfByText (Rows.OpenSpec.upto Rows.numtextDecimalsSpec)=true:=by kernel_rfl
theorem cm : Tryz.pinned.checked.prog.mainIs = some (true, "469409c19caf6ad48bc36de0e503239ddaa56654e1402506143a19205fd9540c".toList) := by kernel_rfl
theorem cg:false=Rows.numtextDecimalsUptoRow.goesBy Tryz.pinned.checked.prog:=by kernel_rfl
theorem proved:Rows.NumtextDecimalsUptoCardSaid :=
 Claim7.holds_tied_plain_at .later [] _ _ _ _ rJ (fun _ h=>by cases h) cw (fun _ h=>by cases h) numtextDecimalsUpto_row_tie rfl ⟨rfl,rfl⟩ cm rfl plain cg
end Go.Proofs.YtjmfofdghmlldaaGreatDoor.numtextDecimals
