/- A part of the proof: what it holds is said by each theorem. -/
import Derived.Test.YtjmfofdghmlldaaGreatDoorP3
set_option linter.unusedVariables false
set_option linter.defProp false
set_option linter.unusedSimpArgs false
namespace Go.Proofs.YtjmfofdghmlldaaGreatDoor.numtextDecimals
open Go.ChangeShapes Go.WideShapes Go.ChangeAt Go.RowKit
theorem reads (os:Os) {H:Type} (enc:TypeId×Value→H):∃ places,DataW.whole enc Tryz.prog ((iK os).forCall (fun _ _=>0) ⟨#[],#[.agg #[.bool false,.slice none 0 0,.slice none 0 0],.int .i64 0,.int .u8 0],[]⟩).memory Tryz.f4.params.toList Rows.numtextDecimalsSpec.vars false (#[.agg #[.bool false,.slice none 0 0,.slice none 0 0],.int .i64 0,.int .u8 0]:Array Value).toList 8=some ([.agg [.agg [.lit (.bool false),.nil],.nil],.lit (.int .i64 0),.lit (.int .u8 0)],[],places) :=
 ⟨[],by kernel_rfl⟩
set_option maxRecDepth 100000 in
theorem lifted (os:Os) (started:os.Started) (H:Type) (enc:TypeId×Value→H) (F:Stop.Interp) :
  ReturnsInHanded {} Tryz.checked os 4 .any ((Rows.OpenSpec.upto Rows.numtextDecimalsSpec).preRow enc Tryz.prog Tryz.f4 Rows.numtextDecimalsUptoRow.domain false Rows.numtextDecimalsUptoRow.laid) (((Rows.OpenSpec.upto Rows.numtextDecimalsSpec).at F).post enc Tryz.prog Tryz.f4 false true false false):=by
 obtain⟨places,S⟩:=reads os enc
 refine returnsInHanded_of_row (C:=Tryz.checked) (s:=Rows.OpenSpec.upto Rows.numtextDecimalsSpec) zw started (by kernel_rfl) Tryz.func4
  (witness_row_atRef (enc:=enc) (C:=Tryz.checked) false (iK os) #[.agg #[.bool false,.slice none 0 0,.slice none 0 0],.int .i64 0,.int .u8 0] rfl (by kernel_rfl) (by kernel_rfl) (by kernel_rfl)
   (OpenSpec.preRow_of_cond 8 S (by kernel_rfl) (fun k T=>by cases T;kernel_rfl) (by kernel_rfl) (G' os _))) ?_
 intro W base c ds gs before f hW _ i D hL n _
 have d:∀ (j:Nat) t v,Tryz.f4.params[j]?=some t→c[j]?=some v→Value.okWide Tryz.prog W .any base t v:=f
 have hW':=hW
 obtain⟨p,q,hA0,hV,rfl,U,V⟩:=hW
 have hA:DataW.TrodAll enc Tryz.prog W 0 (fun _=>true) true Tryz.f4.params.toList c.toList ds p:=hA0
 rw[Tryz.params4] at hA d
 obtain⟨v0,vs0,X,ds0,Y,q0,u,rfl,rfl,I,r0⟩:=trodAll_cons hA
 obtain⟨v1,vs1,d1,ds1,p1,q1,rfl,rfl,rfl,h1,r1⟩:=trodAll_cons r0
 obtain⟨v2,vs2,d2,ds2,p2,q2,rfl,rfl,rfl,h2,r2⟩:=trodAll_cons r1
 obtain⟨rfl,rfl,rfl⟩:=trodAll_nil r2
 obtain rfl:c=#[v0,v1,v2]:=by cases c;simp_all
 obtain⟨rfl,rfl⟩:=trodVars_none hV
 have y:Rows.uptoBulkAll ([X,d1,d2]++[])≤1048576:=of_decide_eq_true (i _ rfl)
 simp only[List.append_nil,Rows.uptoBulkAll] at y
 obtain z:=Gx.H0 Tryz.underlying26 (d 0 26 v0 rfl rfl)
 have L:=I
 have lt0:∀ x ∈ Y,x.block<W.heap.size:=by obtain⟨m,hm⟩:=L;exact DataW.trod_lt m _ _ _ hm
 obtain⟨neg0,la0,lb0,A,B,bk0,e0⟩:=Gx.UB (β:=fun _=>none) (h:=[]) z I
 obtain⟨i1,rfl,rfl,rfl,M⟩:=open_int Tryz.underlying3 (d 1 3 v1 rfl rfl) h1
 have b1:=Gx.Aae M
 obtain⟨i2,rfl,rfl,rfl,O⟩:=open_int Tryz.underlying5 (d 2 5 v2 rfl rfl) h2
 have b2:=Gx.Aej O
 clear hA0 f
 have l:((Gx.Yk 1000000000000).runK [.agg [.bool neg0,.imm (Gx.Aa la0) la0.length 1 false false,.imm (Gx.Aa lb0) lb0.length 1 false false],.int .i64 i1,.int .u8 i2] [] fun v h=>some (v,h))=some (.bool true,[]) :=
  Gx.nK (N:=1000000000000) A B ⟨by omega,by omega⟩ (K:=fun b=>some (Gx.AV.bool b,[]))
 refine(Gx.Y3 (Gx.Yl 1000000000000) (Gx.Jy e0 (Gx.Jy Gx.pm (Gx.Jy Gx.pm Gx.HA))) l (iJ hL n)).mono fun e W' ⟨he,bel⟩=>?_
 subst he
 exact⟨_,rfl,_,_,_,[],_,[],hW',trodAll_mk1 (shut_bool Tryz.underlying4 _),(trodAll_cons_mk (Below.trod Iz (by kernel_rfl) (of_decide_eq_true (by kernel_rfl)) L bel lt0) (trodAll_cons_mk (shut_int Tryz.underlying3 M) (trodAll_cons_mk (shut_int Tryz.underlying5 O) trodAll_mk0))),rfl,bel.frame _,fun h=>by cases h⟩
end Go.Proofs.YtjmfofdghmlldaaGreatDoor.numtextDecimals

set_option maxRecDepth 100000
namespace Go.Proofs.YtjmfofdghmlldaaGreatDoor.numtextDecimals
open Go.ChangeShapes Go.WideShapes Go.ChangeAt Go.RowKit
theorem Acs:(Rows.numtextDecimalsUptoRow.inPlace==Tryz.prog.inPlace 4)=true:=by kernel_rfl
theorem Acu:(Rows.numtextDecimalsUptoRow.unfollowed==Tryz.prog.unfollowed 4)=true:=by kernel_rfl
theorem Acv:(Rows.numtextDecimalsUptoRow.recurses==Tryz.prog.recurses 4)=true:=by kernel_rfl
theorem Acw:(Rows.numtextDecimalsUptoRow.named==Tryz.prog.varsNamed 4)=true:=by kernel_rfl
theorem DJ:joinedFacts Tryz.prog 4 Tryz.f4 Rows.numtextDecimalsSpec Rows.numtextDecimalsUptoRow = true :=
 Gx.iI Iz sM iL iM iN iO Acs Acu Acv Acw iP sN sO (by kernel_rfl) (by kernel_rfl) (by kernel_rfl) rfl rfl (by kernel_rfl) (by kernel_rfl) (by kernel_rfl) (by kernel_rfl) (by kernel_rfl) (by kernel_rfl) (by kernel_rfl) (by kernel_rfl) (by kernel_rfl) rfl (by kernel_rfl) (by kernel_rfl) (by kernel_rfl) (by kernel_rfl)
theorem Sp:Tryz.prog.funcNamed Rows.numtextDecimalsUptoRow.func=some 4:=by kernel_rfl
theorem DK:Tryz.f4.isInstance Tryz.prog Rows.numtextDecimalsUptoRow.origin Rows.numtextDecimalsUptoRow.targs:=of_decide_eq_true (by kernel_rfl)
theorem DL:Tryz.f4.isWrapper Tryz.prog Rows.numtextDecimalsUptoRow.wrapper Rows.numtextDecimalsUptoRow.mainSum:=by unfold Func.isWrapper;first | (rw[if_pos (by decide +kernel)];kernel_rfl) | (rw[if_neg (by decide +kernel)];exact⟨rfl,rfl⟩)
end Go.Proofs.YtjmfofdghmlldaaGreatDoor.numtextDecimals
