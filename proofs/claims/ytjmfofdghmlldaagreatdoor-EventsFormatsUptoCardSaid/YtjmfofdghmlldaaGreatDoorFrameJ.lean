/- A part of the proof: what it holds is said by each theorem. -/
import Derived.Test.YtjmfofdghmlldaaGreatDoorP6J
set_option linter.unusedVariables false
set_option linter.defProp false
set_option linter.unusedSimpArgs false
set_option maxRecDepth 100000
namespace Go.Proofs.YtjmfofdghmlldaaGreatDoor.eventsFormats
open Go.ChangeShapes Go.WideShapes Go.ChangeAt Go.RowKit
theorem Bas:Rows.EventsFormatsUptoSaid :=
 OpenClaim.holds_of_cond 11 Tryz.f11 rfl rfl rfl rfl rfl rfl rfl ⟨rfl,rfl,rfl,rfl,rfl⟩ rfl rfl rfl rfl rfl Arl Tryz.func11 A10 A11 A12
  (fun os started H enc _ F=>by rw[OpenClaim.pre_eq_preRow];exact lifted os started H enc F)
theorem cl:true=Tryz.prog.looks []:=by kernel_rfl
theorem plain (f : FuncId) (fn : Func) (e : Tryz.pinned.checked.prog.funcNamed "gridmarket/gridmarketlaw42.EventsFormats" = some f) (b : Tryz.pinned.checked.prog.funcs[f]? = some fn) :
  true=Tryz.pinned.checked.prog.looks []∧∀ (j:Nat) t,fn.params[j]?=some t→Tryz.pinned.checked.prog.wantsStandIn t=false:=by
 obtain rfl : f = 11 := Option.some.inj ((show Tryz.prog.funcNamed "gridmarket/gridmarketlaw42.EventsFormats" = some 11 by kernel_rfl).symm.trans e) |>.symm
 obtain rfl:fn=Tryz.f11:=(Option.some.inj (Tryz.func11.symm.trans b)).symm
 refine⟨cl,fun j t d=>?_⟩
 rw[Tryz.params11] at d
 have i:=Array.mem_of_getElem? d
 have c:t=70∨t=33∨t=33∨t=73∨t=4:=by simpa using i
 rcases c with rfl | rfl | rfl | rfl | rfl
 ·exact(show Tryz.prog.wantsStandIn 70=false by kernel_rfl)
 ·exact(show Tryz.prog.wantsStandIn 33=false by kernel_rfl)
 ·exact(show Tryz.prog.wantsStandIn 33=false by kernel_rfl)
 ·exact(show Tryz.prog.wantsStandIn 73=false by kernel_rfl)
 ·exact(show Tryz.prog.wantsStandIn 4=false by kernel_rfl)
theorem cw:Rows.eventsFormatsUptoRow.wfByText (Rows.OpenSpec.upto Rows.eventsFormatsSpec)=true:=by kernel_rfl
theorem cm : Tryz.pinned.checked.prog.mainIs = some (true, "469409c19caf6ad48bc36de0e503239ddaa56654e1402506143a19205fd9540c".toList) := by kernel_rfl
theorem cg:false=Rows.eventsFormatsUptoRow.goesBy Tryz.pinned.checked.prog:=by kernel_rfl
theorem proved:Rows.EventsFormatsUptoCardSaid :=
 Claim7.holds_tied_plain_at .later [] _ _ _ _ Bas (fun _ h=>by cases h) cw (fun _ h=>by cases h) eventsFormatsUpto_row_tie rfl ⟨rfl,rfl⟩ cm rfl plain cg
end Go.Proofs.YtjmfofdghmlldaaGreatDoor.eventsFormats
