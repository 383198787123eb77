/- A part of the proof: what it holds is said by each theorem. -/
import Derived.Test.YtjmfofdghmlldaaGreatDoorP4F
set_option linter.unusedVariables false
set_option linter.defProp false
set_option linter.unusedSimpArgs false
set_option maxRecDepth 100000
namespace Go.Proofs.YtjmfofdghmlldaaGreatDoor.quantityDimensions
open Go.ChangeShapes Go.WideShapes Go.ChangeAt Go.RowKit
theorem uL:Rows.QuantityDimensionsSaid :=
 OpenClaim.holds_of_cond 8 Tryz.f8 rfl rfl rfl rfl rfl rfl rfl ⟨rfl,rfl,rfl,rfl,rfl⟩ rfl rfl rfl rfl rfl sD Tryz.func8 r7 tF tG
  (fun os started H enc _ F=>by rw[OpenClaim.pre_eq_preRow];exact lifted os started H enc F)
theorem cl:true=Tryz.prog.looks []:=by kernel_rfl
theorem plain (f : FuncId) (fn : Func) (e : Tryz.pinned.checked.prog.funcNamed "gridmarket/gridmarketlaw16.QuantityDimensions" = some f) (b : Tryz.pinned.checked.prog.funcs[f]? = some fn) :
  true=Tryz.pinned.checked.prog.looks []∧∀ (j:Nat) t,fn.params[j]?=some t→Tryz.pinned.checked.prog.wantsStandIn t=false:=by
 obtain rfl : f = 8 := Option.some.inj ((show Tryz.prog.funcNamed "gridmarket/gridmarketlaw16.QuantityDimensions" = some 8 by kernel_rfl).symm.trans e) |>.symm
 obtain rfl:fn=Tryz.f8:=(Option.some.inj (Tryz.func8.symm.trans b)).symm
 refine⟨cl,fun j t d=>?_⟩
 rw[Tryz.params8] at d
 have i:=Array.mem_of_getElem? d
 have c:t=55∨t=55∨t=56∨t=56:=by simpa using i
 rcases c with rfl | rfl | rfl | rfl
 ·exact(show Tryz.prog.wantsStandIn 55=false by kernel_rfl)
 ·exact(show Tryz.prog.wantsStandIn 55=false by kernel_rfl)
 ·exact(show Tryz.prog.wantsStandIn 56=false by kernel_rfl)
 ·exact(show Tryz.prog.wantsStandIn 56=false by kernel_rfl)
theorem cw:Rows.quantityDimensionsRow.wfByText (OpenSpec.ofChange Rows.quantityDimensionsSpec)=true:=by kernel_rfl
theorem cm : Tryz.pinned.checked.prog.mainIs = some (true, "469409c19caf6ad48bc36de0e503239ddaa56654e1402506143a19205fd9540c".toList) := by kernel_rfl
theorem cg:false=Rows.quantityDimensionsRow.goesBy Tryz.pinned.checked.prog:=by kernel_rfl
theorem proved:Rows.QuantityDimensionsCardSaid :=
 Claim7.holds_tied_plain_at .later [] _ _ _ _ uL (fun _ h=>by cases h) cw (fun _ h=>by cases h) quantityDimensions_row_tie rfl ⟨rfl,rfl⟩ cm rfl plain cg
end Go.Proofs.YtjmfofdghmlldaaGreatDoor.quantityDimensions
