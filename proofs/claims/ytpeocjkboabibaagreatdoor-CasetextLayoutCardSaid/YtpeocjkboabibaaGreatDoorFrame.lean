/- A part of the proof; each theorem says what it holds. -/
import Derived.Test.YtpeocjkboabibaaGreatDoorP6
set_option linter.unusedVariables false
set_option linter.defProp false
set_option linter.unusedSimpArgs false
set_option maxRecDepth 100000
namespace Go.Proofs.YtpeocjkboabibaaGreatDoor.casetextLayout
open Go.ChangeShapes Go.WideShapes Go.ChangeAt Go.RowKit
theorem Az3:Rows.CasetextLayoutSaid :=
 OpenClaim.holds_of_cond 3 Tryz.f3 rfl rfl rfl rfl rfl rfl rfl ⟨rfl,rfl,rfl,rfl,rfl⟩ rfl rfl rfl rfl rfl Asy Tryz.func3 Ave Avf Avg
  (fun os started H enc _ F=>by rw[OpenClaim.pre_eq_preRow];exact lifted os started H enc F)
theorem cl:true=Tryz.prog.looks []:=by kernel_rfl
theorem plain (f : FuncId) (fn : Func) (n : Tryz.pinned.checked.prog.funcNamed "gridmarket/gridmarketlaw17.CasetextLayout" = some f) (d : Tryz.pinned.checked.prog.funcs[f]? = some fn) :
  true=Tryz.pinned.checked.prog.looks []∧∀ (j:Nat) t,fn.params[j]?=some t→Tryz.pinned.checked.prog.wantsStandIn t=false:=by
 obtain rfl : f = 3 := Option.some.inj ((show Tryz.prog.funcNamed "gridmarket/gridmarketlaw17.CasetextLayout" = some 3 by kernel_rfl).symm.trans n) |>.symm
 obtain rfl:fn=Tryz.f3:=(Option.some.inj (Tryz.func3.symm.trans d)).symm
 refine⟨cl,fun j t l=>?_⟩
 rw[Tryz.params3] at l
 have q:=Array.mem_of_getElem? l
 have k:t=22∨t=23:=by simpa using q
 rcases k with rfl | rfl
 ·exact(show Tryz.prog.wantsStandIn 22=false by kernel_rfl)
 ·exact(show Tryz.prog.wantsStandIn 23=false by kernel_rfl)
theorem cw:Rows.casetextLayoutRow.wfByText (OpenSpec.ofChange Rows.casetextLayoutSpec)=true:=by kernel_rfl
theorem cm : Tryz.pinned.checked.prog.mainIs = some (true, "b2b3a011170f67db8f8f459969e21a171ba6c823af9b96b5968b39057a3ee280".toList) := by kernel_rfl
theorem cg:false=Rows.casetextLayoutRow.goesBy Tryz.pinned.checked.prog:=by kernel_rfl
theorem proved:Rows.CasetextLayoutCardSaid :=
 Claim7.holds_tied_plain_at .later [] _ _ _ _ Az3 (fun _ h=>by cases h) cw (fun _ h=>by cases h) casetextLayout_row_tie rfl ⟨rfl,rfl⟩ cm rfl plain cg
end Go.Proofs.YtpeocjkboabibaaGreatDoor.casetextLayout
