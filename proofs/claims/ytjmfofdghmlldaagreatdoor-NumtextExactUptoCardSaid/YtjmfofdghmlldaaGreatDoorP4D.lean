/- A part of the proof: what it holds is said by each theorem. -/
import Derived.Test.YtjmfofdghmlldaaGreatDoorP3
set_option linter.unusedVariables false
set_option linter.defProp false
set_option linter.unusedSimpArgs false
namespace Go.Proofs.YtjmfofdghmlldaaGreatDoor.numtextExact
open Go.ChangeShapes Go.WideShapes Go.ChangeAt Go.RowKit
theorem reads (os:Os) {H:Type} (enc:TypeId×Value→H):∃ places,DataW.whole enc Tryz.prog ((iK os).forCall (fun _ _=>0) ⟨#[],#[.agg #[.bool false,.slice none 0 0,.slice none 0 0]],[]⟩).memory Tryz.f6.params.toList Rows.numtextExactSpec.vars false (#[.agg #[.bool false,.slice none 0 0,.slice none 0 0]]:Array Value).toList 8=some ([.agg [.agg [.lit (.bool false),.nil],.nil]],[],places) :=
 ⟨[],by kernel_rfl⟩
set_option maxRecDepth 100000 in
theorem lifted (os:Os) (started:os.Started) (H:Type) (enc:TypeId×Value→H) (F:Stop.Interp) :
  ReturnsInHanded {} Tryz.checked os 6 .any ((Rows.OpenSpec.upto Rows.numtextExactSpec).preRow enc Tryz.prog Tryz.f6 Rows.numtextExactUptoRow.domain false Rows.numtextExactUptoRow.laid) (((Rows.OpenSpec.upto Rows.numtextExactSpec).at F).post enc Tryz.prog Tryz.f6 false true false false):=by
 obtain⟨places,M⟩:=reads os enc
 refine returnsInHanded_of_row (C:=Tryz.checked) (s:=Rows.OpenSpec.upto Rows.numtextExactSpec) zw started (by kernel_rfl) Tryz.func6
  (witness_row_atRef (enc:=enc) (C:=Tryz.checked) false (iK os) #[.agg #[.bool false,.slice none 0 0,.slice none 0 0]] rfl (by kernel_rfl) (by kernel_rfl) (by kernel_rfl)
   (OpenSpec.preRow_of_cond 8 M (by kernel_rfl) (fun k O=>by cases O;kernel_rfl) (by kernel_rfl) (G' os _))) ?_
 intro W base c ds gs before d hW _ f D hL n _
 have i:∀ (j:Nat) t v,Tryz.f6.params[j]?=some t→c[j]?=some v→Value.okWide Tryz.prog W .any base t v:=d
 have hW':=hW
 obtain⟨p,q,hA0,hV,rfl,S,T⟩:=hW
 have hA:DataW.TrodAll enc Tryz.prog W 0 (fun _=>true) true Tryz.f6.params.toList c.toList ds p:=hA0
 rw[Tryz.params6] at hA i
 obtain⟨v0,vs0,U,ds0,V,q0,u,rfl,rfl,I,r0⟩:=trodAll_cons hA
 obtain⟨rfl,rfl,rfl⟩:=trodAll_nil r0
 obtain rfl:c=#[v0]:=by cases c;simp_all
 obtain⟨rfl,rfl⟩:=trodVars_none hV
 have y:Rows.uptoBulkAll ([U]++[])≤1048576:=of_decide_eq_true (f _ rfl)
 simp only[List.append_nil,Rows.uptoBulkAll] at y
 obtain z:=Gx.H0 Tryz.underlying26 (i 0 26 v0 rfl rfl)
 have L:=I
 have lt0:∀ x ∈ V,x.block<W.heap.size:=by obtain⟨m,X⟩:=L;exact DataW.trod_lt m _ _ _ X
 obtain⟨neg0,la0,lb0,A,B,bk0,Y⟩:=Gx.UB (β:=fun _=>none) (h:=[]) z I
 clear hA0 d
 have l:((Gx.GC 1000000000000).runK [.agg [.bool neg0,.imm (Gx.Aa la0) la0.length 1 false false,.imm (Gx.Aa lb0) lb0.length 1 false false]] [] fun v h=>some (v,h))=some (.bool true,[]) :=
  Gx.wc (N:=1000000000000) A B ⟨by omega,by omega⟩ (K:=fun b=>some (Gx.AV.bool b,[]))
 refine(Gx.Y3 (Gx.GD 1000000000000) (Gx.Jy Y Gx.HA) l (iJ hL n)).mono fun e W' ⟨he,bel⟩=>?_
 subst he
 exact⟨_,rfl,_,_,_,[],_,[],hW',trodAll_mk1 (shut_bool Tryz.underlying4 _),(trodAll_cons_mk (Below.trod Iz (by kernel_rfl) (of_decide_eq_true (by kernel_rfl)) L bel lt0) trodAll_mk0),rfl,bel.frame _,fun h=>by cases h⟩
end Go.Proofs.YtjmfofdghmlldaaGreatDoor.numtextExact

set_option maxRecDepth 100000
namespace Go.Proofs.YtjmfofdghmlldaaGreatDoor.numtextExact
open Go.ChangeShapes Go.WideShapes Go.ChangeAt Go.RowKit
theorem Acs:(Rows.numtextExactUptoRow.inPlace==Tryz.prog.inPlace 6)=true:=by kernel_rfl
theorem Acu:(Rows.numtextExactUptoRow.unfollowed==Tryz.prog.unfollowed 6)=true:=by kernel_rfl
theorem Acv:(Rows.numtextExactUptoRow.recurses==Tryz.prog.recurses 6)=true:=by kernel_rfl
theorem Acw:(Rows.numtextExactUptoRow.named==Tryz.prog.varsNamed 6)=true:=by kernel_rfl
theorem DJ:joinedFacts Tryz.prog 6 Tryz.f6 Rows.numtextExactSpec Rows.numtextExactUptoRow = true :=
 Gx.iI Iz sM iL iM iN iO Acs Acu Acv Acw iP sN sO (by kernel_rfl) (by kernel_rfl) (by kernel_rfl) rfl rfl (by kernel_rfl) (by kernel_rfl) (by kernel_rfl) (by kernel_rfl) (by kernel_rfl) (by kernel_rfl) (by kernel_rfl) (by kernel_rfl) (by kernel_rfl) rfl (by kernel_rfl) (by kernel_rfl) (by kernel_rfl) (by kernel_rfl)
theorem Sp:Tryz.prog.funcNamed Rows.numtextExactUptoRow.func=some 6:=by kernel_rfl
theorem DK:Tryz.f6.isInstance Tryz.prog Rows.numtextExactUptoRow.origin Rows.numtextExactUptoRow.targs:=of_decide_eq_true (by kernel_rfl)
theorem DL:Tryz.f6.isWrapper Tryz.prog Rows.numtextExactUptoRow.wrapper Rows.numtextExactUptoRow.mainSum:=by unfold Func.isWrapper;first | (rw[if_pos (by decide +kernel)];kernel_rfl) | (rw[if_neg (by decide +kernel)];exact⟨rfl,rfl⟩)
end Go.Proofs.YtjmfofdghmlldaaGreatDoor.numtextExact
