/- A part of the proof: what it holds is said by each theorem. -/
import Derived.Test.YtjmfofdghmlldaaGreatDoorP3
set_option linter.unusedVariables false
set_option linter.defProp false
set_option linter.unusedSimpArgs false
namespace Go.Proofs.YtjmfofdghmlldaaGreatDoor.numtextRoundTrip
open Go.ChangeShapes Go.WideShapes Go.ChangeAt Go.RowKit
theorem reads (os:Os) {H:Type} (enc:TypeId×Value→H):∃ places,DataW.whole enc Tryz.prog ((iK os).forCall (fun _ _=>0) ⟨#[],#[.agg #[.bool false,.slice none 0 0],.agg #[.bool false,.slice none 0 0,.slice none 0 0]],[]⟩).memory Tryz.f5.params.toList Rows.numtextRoundTripSpec.vars false (#[.agg #[.bool false,.slice none 0 0],.agg #[.bool false,.slice none 0 0,.slice none 0 0]]:Array Value).toList 8=some ([.agg [.lit (.bool false),.nil],.agg [.agg [.lit (.bool false),.nil],.nil]],[],places) :=
 ⟨[],by kernel_rfl⟩
set_option maxRecDepth 100000 in
theorem lifted (os:Os) (started:os.Started) (H:Type) (enc:TypeId×Value→H) (F:Stop.Interp) :
  ReturnsInHanded {} Tryz.checked os 5 .any ((Rows.OpenSpec.upto Rows.numtextRoundTripSpec).preRow enc Tryz.prog Tryz.f5 Rows.numtextRoundTripUptoRow.domain false Rows.numtextRoundTripUptoRow.laid) (((Rows.OpenSpec.upto Rows.numtextRoundTripSpec).at F).post enc Tryz.prog Tryz.f5 false true false false):=by
 obtain⟨places,V⟩:=reads os enc
 refine returnsInHanded_of_row (C:=Tryz.checked) (s:=Rows.OpenSpec.upto Rows.numtextRoundTripSpec) zw started (by kernel_rfl) Tryz.func5
  (witness_row_atRef (enc:=enc) (C:=Tryz.checked) false (iK os) #[.agg #[.bool false,.slice none 0 0],.agg #[.bool false,.slice none 0 0,.slice none 0 0]] rfl (by kernel_rfl) (by kernel_rfl) (by kernel_rfl)
   (OpenSpec.preRow_of_cond 8 V (by kernel_rfl) (fun k X=>by cases X;kernel_rfl) (by kernel_rfl) (G' os _))) ?_
 intro W base c ds gs before d hW _ i M hL n _
 have f:∀ (j:Nat) t v,Tryz.f5.params[j]?=some t→c[j]?=some v→Value.okWide Tryz.prog W .any base t v:=d
 have hW':=hW
 obtain⟨p,q,hA0,hV,rfl,Y,hnd⟩:=hW
 have hA:DataW.TrodAll enc Tryz.prog W 0 (fun _=>true) true Tryz.f5.params.toList c.toList ds p:=hA0
 rw[Tryz.params5] at hA f
 obtain⟨v0,vs0,d0,ds0,p0,q0,u,rfl,rfl,O,r0⟩:=trodAll_cons hA
 obtain⟨v1,vs1,d1,ds1,p1,q1,rfl,rfl,rfl,S,r1⟩:=trodAll_cons r0
 obtain⟨rfl,rfl,rfl⟩:=trodAll_nil r1
 obtain rfl:c=#[v0,v1]:=by cases c;simp_all
 obtain⟨rfl,rfl⟩:=trodVars_none hV
 have y:Rows.uptoBulkAll ([d0,d1]++[])≤1048576:=of_decide_eq_true (i _ rfl)
 simp only[List.append_nil,Rows.uptoBulkAll] at y
 obtain z:=Gx.H0 Tryz.underlying24 (f 0 24 v0 rfl rfl)
 have T:=O
 have lt0:∀ x ∈ p0,x.block<W.heap.size:=by obtain⟨m,A⟩:=T;exact DataW.trod_lt m _ _ _ A
 obtain⟨neg0,la0,B,bk0,e0⟩:=Gx.sT (β:=fun _=>none) (h:=[]) z O
 obtain D:=Gx.H0 Tryz.underlying26 (f 1 26 v1 rfl rfl)
 have U:=S
 have lt1:∀ x ∈ p1,x.block<W.heap.size:=by obtain⟨m,A⟩:=U;exact DataW.trod_lt m _ _ _ A
 obtain⟨neg1,la1,lb1,I,L,bk1,e1⟩:=Gx.UB (β:=fun _=>none) (h:=[]) D S
 clear hA0 d
 have l:((Gx.Vh 1000000000000).runK [.agg [.bool neg0,.imm (Gx.Aa la0) la0.length 1 false false],.agg [.bool neg1,.imm (Gx.Aa la1) la1.length 1 false false,.imm (Gx.Aa lb1) lb1.length 1 false false]] [] fun v h=>some (v,h))=some (.bool true,[]) :=
  Gx.w9 (N:=1000000000000) B I L ⟨by omega,by omega⟩ (K:=fun b=>some (Gx.AV.bool b,[]))
 refine(Gx.Y3 (Gx.Vi 1000000000000) (Gx.Jy e0 (Gx.Jy e1 Gx.HA)) l (iJ hL n)).mono fun e W' ⟨he,bel⟩=>?_
 subst he
 exact⟨_,rfl,_,_,_,[],_,[],hW',trodAll_mk1 (shut_bool Tryz.underlying4 _),(trodAll_cons_mk (Below.trod Iz (by kernel_rfl) (of_decide_eq_true (by kernel_rfl)) T bel lt0) (trodAll_cons_mk (Below.trod Iz (by kernel_rfl) (of_decide_eq_true (by kernel_rfl)) U bel lt1) trodAll_mk0)),rfl,bel.frame _,fun h=>by cases h⟩
end Go.Proofs.YtjmfofdghmlldaaGreatDoor.numtextRoundTrip

set_option maxRecDepth 100000
namespace Go.Proofs.YtjmfofdghmlldaaGreatDoor.numtextRoundTrip
open Go.ChangeShapes Go.WideShapes Go.ChangeAt Go.RowKit
theorem Acs:(Rows.numtextRoundTripUptoRow.inPlace==Tryz.prog.inPlace 5)=true:=by kernel_rfl
theorem Acu:(Rows.numtextRoundTripUptoRow.unfollowed==Tryz.prog.unfollowed 5)=true:=by kernel_rfl
theorem Acv:(Rows.numtextRoundTripUptoRow.recurses==Tryz.prog.recurses 5)=true:=by kernel_rfl
theorem Acw:(Rows.numtextRoundTripUptoRow.named==Tryz.prog.varsNamed 5)=true:=by kernel_rfl
theorem DJ:joinedFacts Tryz.prog 5 Tryz.f5 Rows.numtextRoundTripSpec Rows.numtextRoundTripUptoRow = true :=
 Gx.iI Iz sM iL iM iN iO Acs Acu Acv Acw iP sN sO (by kernel_rfl) (by kernel_rfl) (by kernel_rfl) rfl rfl (by kernel_rfl) (by kernel_rfl) (by kernel_rfl) (by kernel_rfl) (by kernel_rfl) (by kernel_rfl) (by kernel_rfl) (by kernel_rfl) (by kernel_rfl) rfl (by kernel_rfl) (by kernel_rfl) (by kernel_rfl) (by kernel_rfl)
theorem Sp:Tryz.prog.funcNamed Rows.numtextRoundTripUptoRow.func=some 5:=by kernel_rfl
theorem DK:Tryz.f5.isInstance Tryz.prog Rows.numtextRoundTripUptoRow.origin Rows.numtextRoundTripUptoRow.targs:=of_decide_eq_true (by kernel_rfl)
theorem DL:Tryz.f5.isWrapper Tryz.prog Rows.numtextRoundTripUptoRow.wrapper Rows.numtextRoundTripUptoRow.mainSum:=by unfold Func.isWrapper;first | (rw[if_pos (by decide +kernel)];kernel_rfl) | (rw[if_neg (by decide +kernel)];exact⟨rfl,rfl⟩)
end Go.Proofs.YtjmfofdghmlldaaGreatDoor.numtextRoundTrip
