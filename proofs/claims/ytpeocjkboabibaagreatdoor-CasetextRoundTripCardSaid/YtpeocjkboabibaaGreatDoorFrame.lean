/- A part of the proof; each theorem says what it holds. -/
import Derived.Test.YtpeocjkboabibaaGreatDoorP6
set_option linter.unusedVariables false
set_option linter.defProp false
set_option linter.unusedSimpArgs false
set_option maxRecDepth 100000
namespace Go.Proofs.YtpeocjkboabibaaGreatDoor.casetextRoundTrip
open Go.ChangeShapes Go.WideShapes Go.ChangeAt Go.RowKit
theorem A3w:Rows.CasetextRoundTripSaid :=
 OpenClaim.holds_of_cond 6 Tryz.f6 rfl rfl rfl rfl rfl rfl rfl ⟨rfl,rfl,rfl,rfl,rfl⟩ rfl rfl rfl rfl rfl Ayl Tryz.func6 A0l A0m A0n
  (fun os started H enc _ F=>by rw[OpenClaim.pre_eq_preRow];exact lifted os started H enc F)
theorem cl:true=Tryz.prog.looks []:=by kernel_rfl
theorem plain (f : FuncId) (fn : Func) (l : Tryz.pinned.checked.prog.funcNamed "gridmarket/gridmarketlaw17.CasetextRoundTrip" = some f) (d : Tryz.pinned.checked.prog.funcs[f]? = some fn) :
  true=Tryz.pinned.checked.prog.looks []/\∀ (j:Nat) t,fn.params[j]?=some t->Tryz.pinned.checked.prog.wantsStandIn t=false:=by
 obtain rfl : f = 6 := Option.some.inj ((show Tryz.prog.funcNamed "gridmarket/gridmarketlaw17.CasetextRoundTrip" = some 6 by kernel_rfl).symm.trans l) |>.symm
 obtain rfl:fn=Tryz.f6:=(Option.some.inj (Tryz.func6.symm.trans d)).symm
 refine⟨cl,fun j t k=>?_⟩
 rw[Tryz.params6] at k
 have m:=Array.mem_of_getElem? k
 have e:t=37\/t=22:=by simpa using m
 rcases e with rfl | rfl
 ·exact(show Tryz.prog.wantsStandIn 37=false by kernel_rfl)
 ·exact(show Tryz.prog.wantsStandIn 22=false by kernel_rfl)
theorem cw:Rows.casetextRoundTripRow.wfByText (OpenSpec.ofChange Rows.casetextRoundTripSpec)=true:=by kernel_rfl
theorem cm : Tryz.pinned.checked.prog.mainIs = some (true, "b2b3a011170f67db8f8f459969e21a171ba6c823af9b96b5968b39057a3ee280".toList) := by kernel_rfl
theorem cg:false=Rows.casetextRoundTripRow.goesBy Tryz.pinned.checked.prog:=by kernel_rfl
theorem proved:Rows.CasetextRoundTripCardSaid :=
 Claim7.holds_tied_plain_at .later [] _ _ _ _ A3w (fun _ h=>by cases h) cw (fun _ h=>by cases h) casetextRoundTrip_row_tie rfl ⟨rfl,rfl⟩ cm rfl plain cg
end Go.Proofs.YtpeocjkboabibaaGreatDoor.casetextRoundTrip
