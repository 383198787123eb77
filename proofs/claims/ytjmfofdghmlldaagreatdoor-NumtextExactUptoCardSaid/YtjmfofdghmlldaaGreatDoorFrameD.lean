/- A part of the proof: what it holds is said by each theorem. -/
import Derived.Test.YtjmfofdghmlldaaGreatDoorP4D
set_option linter.unusedVariables false
set_option linter.defProp false
set_option linter.unusedSimpArgs false
set_option maxRecDepth 100000
namespace Go.Proofs.YtjmfofdghmlldaaGreatDoor.numtextExact
open Go.ChangeShapes Go.WideShapes Go.ChangeAt Go.RowKit
theorem rJ:Rows.NumtextExactUptoSaid :=
 OpenClaim.holds_of_cond 6 Tryz.f6 rfl rfl rfl rfl rfl rfl rfl ⟨rfl,rfl,rfl,rfl,rfl⟩ rfl rfl rfl rfl rfl Sp Tryz.func6 DJ DK DL
  (fun os started H enc _ F=>by rw[OpenClaim.pre_eq_preRow];exact lifted os started H enc F)
theorem cl:true=Tryz.prog.looks []:=by kernel_rfl
theorem plain (f : FuncId) (fn : Func) (e : Tryz.pinned.checked.prog.funcNamed "gridmarket/gridmarketlaw04.NumtextExact" = some f) (b : Tryz.pinned.checked.prog.funcs[f]? = some fn) :
  true=Tryz.pinned.checked.prog.looks []∧∀ (j:Nat) t,fn.params[j]?=some t→Tryz.pinned.checked.prog.wantsStandIn t=false:=by
 obtain rfl : f = 6 := Option.some.inj ((show Tryz.prog.funcNamed "gridmarket/gridmarketlaw04.NumtextExact" = some 6 by kernel_rfl).symm.trans e) |>.symm
 obtain rfl:fn=Tryz.f6:=(Option.some.inj (Tryz.func6.symm.trans b)).symm
 refine⟨cl,fun j t d=>?_⟩
 rw[Tryz.params6] at d
 have i:=Array.mem_of_getElem? d
 have c:t=26:=by simpa using i
 rcases c with rfl
 ·exact(show Tryz.prog.wantsStandIn 26=false by kernel_rfl)
theorem cw:Rows.numtextExactUptoRow.wfByText (Rows.OpenSpec.upto Rows.numtextExactSpec)=true:=by kernel_rfl
theorem cm : Tryz.pinned.checked.prog.mainIs = some (true, "469409c19caf6ad48bc36de0e503239ddaa56654e1402506143a19205fd9540c".toList) := by kernel_rfl
theorem cg:false=Rows.numtextExactUptoRow.goesBy Tryz.pinned.checked.prog:=by kernel_rfl
theorem proved:Rows.NumtextExactUptoCardSaid :=
 Claim7.holds_tied_plain_at .later [] _ _ _ _ rJ (fun _ h=>by cases h) cw (fun _ h=>by cases h) numtextExactUpto_row_tie rfl ⟨rfl,rfl⟩ cm rfl plain cg
end Go.Proofs.YtjmfofdghmlldaaGreatDoor.numtextExact
