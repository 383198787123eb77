/- A part of the proof: what it holds is said by each theorem. -/
import Derived.Test.YtjmfofdghmlldaaGreatDoorP3
set_option linter.unusedVariables false
set_option linter.defProp false
set_option linter.unusedSimpArgs false
namespace Go.Proofs.YtjmfofdghmlldaaGreatDoor.numtextNative
open Go.ChangeShapes Go.WideShapes Go.ChangeAt Go.RowKit
theorem reads (os:Os) {H:Type} (enc:TypeId×Value→H):∃ places,DataW.whole enc Tryz.prog ((iK os).forCall (fun _ _=>0) ⟨#[],#[.int .i64 0],[]⟩).memory Tryz.f7.params.toList Rows.numtextNativeSpec.vars false (#[.int .i64 0]:Array Value).toList 8=some ([.lit (.int .i64 0)],[],places) :=
 ⟨[],by kernel_rfl⟩
set_option maxRecDepth 100000 in
theorem lifted (os:Os) (started:os.Started) (H:Type) (enc:TypeId×Value→H) (F:Stop.Interp) :
  ReturnsInHanded {} Tryz.checked os 7 .any ((OpenSpec.ofChange Rows.numtextNativeSpec).preRow enc Tryz.prog Tryz.f7 Rows.numtextNativeRow.domain false Rows.numtextNativeRow.laid) (((OpenSpec.ofChange Rows.numtextNativeSpec).at F).post enc Tryz.prog Tryz.f7 false true false false):=by
 obtain⟨places,y⟩:=reads os enc
 refine returnsInHanded_of_row (C:=Tryz.checked) (s:=OpenSpec.ofChange Rows.numtextNativeSpec) zw started (by kernel_rfl) Tryz.func7
  (witness_row_atRef (enc:=enc) (C:=Tryz.checked) false (iK os) #[.int .i64 0] rfl (by kernel_rfl) (by kernel_rfl) (by kernel_rfl)
   (OpenSpec.preRow_of_cond 8 y (by kernel_rfl) (fun k z=>by cases z) (by kernel_rfl) (G' os _))) ?_
 intro W base c ds gs before d hW _ l u hL m _
 have f:∀ (j:Nat) t v,Tryz.f7.params[j]?=some t→c[j]?=some v→Value.okWide Tryz.prog W .any base t v:=d
 have hW':=hW
 obtain⟨p,q,hA0,hV,rfl,A,B⟩:=hW
 have hA:DataW.TrodAll enc Tryz.prog W 0 (fun _=>true) true Tryz.f7.params.toList c.toList ds p:=hA0
 rw[Tryz.params7] at hA f
 obtain⟨v0,vs0,M,ds0,O,S,n,rfl,rfl,D,r0⟩:=trodAll_cons hA
 obtain⟨rfl,rfl,rfl⟩:=trodAll_nil r0
 obtain rfl:c=#[v0]:=by cases c;simp_all
 obtain⟨rfl,rfl⟩:=trodVars_none hV
 obtain⟨i0,rfl,rfl,rfl,x⟩:=open_int Tryz.underlying3 (f 0 3 v0 rfl rfl) D
 have I:=Gx.Aae x
 clear hA0 d
 have i:((Gx.DG 1000000000000).runK [.int .i64 i0] [] fun v h=>some (v,h))=some (.bool true,[]) :=
  Gx.uP (N:=1000000000000) I ⟨by decide,by decide⟩ (K:=fun b=>some (Gx.AV.bool b,[]))
 refine(Gx.Y3 (Gx.DH 1000000000000) (Gx.Jy Gx.pm Gx.HA) i (iJ hL m)).mono fun e W' ⟨L,bel⟩=>?_
 subst L
 exact⟨_,rfl,_,_,_,[],_,[],hW',trodAll_mk1 (shut_bool Tryz.underlying4 _),(trodAll_cons_mk (shut_int Tryz.underlying3 x) trodAll_mk0),rfl,bel.frame _,fun h=>by cases h⟩
end Go.Proofs.YtjmfofdghmlldaaGreatDoor.numtextNative

set_option maxRecDepth 100000
namespace Go.Proofs.YtjmfofdghmlldaaGreatDoor.numtextNative
open Go.ChangeShapes Go.WideShapes Go.ChangeAt Go.RowKit
theorem Acs:(Rows.numtextNativeRow.inPlace==Tryz.prog.inPlace 7)=true:=by kernel_rfl
theorem Acu:(Rows.numtextNativeRow.unfollowed==Tryz.prog.unfollowed 7)=true:=by kernel_rfl
theorem Acv:(Rows.numtextNativeRow.recurses==Tryz.prog.recurses 7)=true:=by kernel_rfl
theorem Acw:(Rows.numtextNativeRow.named==Tryz.prog.varsNamed 7)=true:=by kernel_rfl
theorem DJ:joinedFacts Tryz.prog 7 Tryz.f7 Rows.numtextNativeSpec Rows.numtextNativeRow = true :=
 Gx.iI Iz sM iL iM iN iO Acs Acu Acv Acw iP sN sO (by kernel_rfl) (by kernel_rfl) (by kernel_rfl) rfl rfl (by kernel_rfl) (by kernel_rfl) (by kernel_rfl) (by kernel_rfl) (by kernel_rfl) (by kernel_rfl) (by kernel_rfl) (by kernel_rfl) (by kernel_rfl) rfl (by kernel_rfl) (by kernel_rfl) (by kernel_rfl) (by kernel_rfl)
theorem Sp:Tryz.prog.funcNamed Rows.numtextNativeRow.func=some 7:=by kernel_rfl
theorem DK:Tryz.f7.isInstance Tryz.prog Rows.numtextNativeRow.origin Rows.numtextNativeRow.targs:=of_decide_eq_true (by kernel_rfl)
theorem DL:Tryz.f7.isWrapper Tryz.prog Rows.numtextNativeRow.wrapper Rows.numtextNativeRow.mainSum:=by unfold Func.isWrapper;first | (rw[if_pos (by decide +kernel)];kernel_rfl) | (rw[if_neg (by decide +kernel)];exact⟨rfl,rfl⟩)
end Go.Proofs.YtjmfofdghmlldaaGreatDoor.numtextNative
