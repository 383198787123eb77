/- A part of the proof: what it holds is said by each theorem. -/
import Derived.Test.YtjmfofdghmlldaaGreatDoorP5K
set_option linter.unusedVariables false
set_option linter.defProp false
set_option linter.unusedSimpArgs false
set_option maxRecDepth 100000
namespace Go.Proofs.YtjmfofdghmlldaaGreatDoor.eventsRound
open Go.ChangeShapes Go.WideShapes Go.ChangeAt Go.RowKit
theorem A7v:Rows.EventsRoundSaid :=
 OpenClaim.holds_of_cond 12 Tryz.f12 rfl rfl rfl rfl rfl rfl rfl ⟨rfl,rfl,rfl,rfl,rfl⟩ rfl rfl rfl rfl rfl Ape Tryz.func12 Ay9 Aza Azb
  (fun os started H enc _ F=>by rw[OpenClaim.pre_eq_preRow];exact lifted os started H enc F)
theorem cl:true=Tryz.prog.looks []:=by kernel_rfl
theorem plain (f : FuncId) (fn : Func) (e : Tryz.pinned.checked.prog.funcNamed "gridmarket/gridmarketlaw42.EventsRound" = some f) (b : Tryz.pinned.checked.prog.funcs[f]? = some fn) :
  true=Tryz.pinned.checked.prog.looks []∧∀ (j:Nat) t,fn.params[j]?=some t→Tryz.pinned.checked.prog.wantsStandIn t=false:=by
 obtain rfl : f = 12 := Option.some.inj ((show Tryz.prog.funcNamed "gridmarket/gridmarketlaw42.EventsRound" = some 12 by kernel_rfl).symm.trans e) |>.symm
 obtain rfl:fn=Tryz.f12:=(Option.some.inj (Tryz.func12.symm.trans b)).symm
 refine⟨cl,fun j t d=>?_⟩
 rw[Tryz.params12] at d
 have i:=Array.mem_of_getElem? d
 have c:t=33∨t=33∨t=33:=by simpa using i
 rcases c with rfl | rfl | rfl
 ·exact(show Tryz.prog.wantsStandIn 33=false by kernel_rfl)
 ·exact(show Tryz.prog.wantsStandIn 33=false by kernel_rfl)
 ·exact(show Tryz.prog.wantsStandIn 33=false by kernel_rfl)
theorem cw:Rows.eventsRoundRow.wfByText (OpenSpec.ofChange Rows.eventsRoundSpec)=true:=by kernel_rfl
theorem cm : Tryz.pinned.checked.prog.mainIs = some (true, "469409c19caf6ad48bc36de0e503239ddaa56654e1402506143a19205fd9540c".toList) := by kernel_rfl
theorem cg:false=Rows.eventsRoundRow.goesBy Tryz.pinned.checked.prog:=by kernel_rfl
theorem proved:Rows.EventsRoundCardSaid :=
 Claim7.holds_tied_plain_at .later [] _ _ _ _ A7v (fun _ h=>by cases h) cw (fun _ h=>by cases h) eventsRound_row_tie rfl ⟨rfl,rfl⟩ cm rfl plain cg
end Go.Proofs.YtjmfofdghmlldaaGreatDoor.eventsRound
