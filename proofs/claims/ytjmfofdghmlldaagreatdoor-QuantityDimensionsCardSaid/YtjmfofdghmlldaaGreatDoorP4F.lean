/- A part of the proof: what it holds is said by each theorem. -/
import Derived.Test.YtjmfofdghmlldaaGreatDoorP3F
set_option linter.unusedVariables false
set_option linter.defProp false
set_option linter.unusedSimpArgs false
namespace Go.Proofs.YtjmfofdghmlldaaGreatDoor.quantityDimensions
open Go.ChangeShapes Go.WideShapes Go.ChangeAt Go.RowKit
theorem reads (os:Os) {H:Type} (enc:TypeId×Value→H):∃ places,DataW.whole enc Tryz.prog ((se os).forCall (fun _ _=>0) ⟨#[],#[.agg #[.int .i64 0,.int .i64 0,.int .i64 0,.int .i64 0],.agg #[.int .i64 0,.int .i64 0,.int .i64 0,.int .i64 0],.slice none 0 0,.slice none 0 0],[]⟩).memory Tryz.f8.params.toList Rows.quantityDimensionsSpec.vars false (#[.agg #[.int .i64 0,.int .i64 0,.int .i64 0,.int .i64 0],.agg #[.int .i64 0,.int .i64 0,.int .i64 0,.int .i64 0],.slice none 0 0,.slice none 0 0]:Array Value).toList 8=some ([.agg [.lit (.int .i64 0),.lit (.int .i64 0),.lit (.int .i64 0),.lit (.int .i64 0)],.agg [.lit (.int .i64 0),.lit (.int .i64 0),.lit (.int .i64 0),.lit (.int .i64 0)],.nil,.nil],[],places) :=
 ⟨[],by kernel_rfl⟩
set_option maxRecDepth 100000 in
theorem lifted (os:Os) (started:os.Started) (H:Type) (enc:TypeId×Value→H) (F:Stop.Interp) :
  ReturnsInHanded {} Tryz.checked os 8 .any ((OpenSpec.ofChange Rows.quantityDimensionsSpec).preRow enc Tryz.prog Tryz.f8 Rows.quantityDimensionsRow.domain false Rows.quantityDimensionsRow.laid) (((OpenSpec.ofChange Rows.quantityDimensionsSpec).at F).post enc Tryz.prog Tryz.f8 false true false false):=by
 obtain⟨places,V⟩:=reads os enc
 refine returnsInHanded_of_row (C:=Tryz.checked) (s:=OpenSpec.ofChange Rows.quantityDimensionsSpec) tt started (by kernel_rfl) Tryz.func8
  (witness_row_atRef (enc:=enc) (C:=Tryz.checked) false (se os) #[.agg #[.int .i64 0,.int .i64 0,.int .i64 0,.int .i64 0],.agg #[.int .i64 0,.int .i64 0,.int .i64 0,.int .i64 0],.slice none 0 0,.slice none 0 0] rfl (by kernel_rfl) (by kernel_rfl) (by kernel_rfl)
   (OpenSpec.preRow_of_cond 8 V (by kernel_rfl) (fun k X=>by cases X) (by kernel_rfl) (qZ os _))) ?_
 intro W base d ds gs before f hW _ u D hL y _
 have c:∀ (j:Nat) t v,Tryz.f8.params[j]?=some t→d[j]?=some v→Value.okWide Tryz.prog W .any base t v:=f
 have hW':=hW
 obtain⟨p,q,hA0,hV,rfl,Y,hnd⟩:=hW
 have hA:DataW.TrodAll enc Tryz.prog W 0 (fun _=>true) true Tryz.f8.params.toList d.toList ds p:=hA0
 rw[Tryz.params8] at hA c
 obtain⟨v0,vs0,d0,ds0,p0,q0,z,rfl,rfl,G,r0⟩:=trodAll_cons hA
 obtain⟨v1,vs1,d1,ds1,p1,q1,rfl,rfl,rfl,I,r1⟩:=trodAll_cons r0
 obtain⟨v2,vs2,d2,ds2,p2,q2,rfl,rfl,rfl,L,r2⟩:=trodAll_cons r1
 obtain⟨v3,vs3,d3,ds3,p3,q3,rfl,rfl,rfl,M,r3⟩:=trodAll_cons r2
 obtain⟨rfl,rfl,rfl⟩:=trodAll_nil r3
 obtain rfl:d=#[v0,v1,v2,v3]:=by cases d;simp_all
 obtain⟨rfl,rfl⟩:=trodVars_none hV
 obtain A:=Gx.A_ Tryz.underlying55 (c 0 55 v0 rfl rfl)
 have O:=G
 have lt0:∀ x ∈ p0,x.block<W.heap.size:=by obtain⟨m,l⟩:=O;exact DataW.trod_lt m _ _ _ l
 obtain⟨xa0,xb0,xc0,xd0,i,e0⟩:=Gx.jR (β:=fun _=>none) (h:=[]) A G
 obtain B:=Gx.A_ Tryz.underlying55 (c 1 55 v1 rfl rfl)
 have S:=I
 have lt1:∀ x ∈ p1,x.block<W.heap.size:=by obtain⟨m,l⟩:=S;exact DataW.trod_lt m _ _ _ l
 obtain⟨xa1,xb1,xc1,xd1,hx1,e1⟩:=Gx.jR (β:=fun _=>none) (h:=[]) B I
 obtain⟨a2,len2,cap2,rfl⟩:=okWide_slice Tryz.underlying56 (c 2 56 v2 rfl rfl)
 have T:=L
 have lt2:∀ x ∈ p2,x.block<W.heap.size:=by obtain⟨m,l⟩:=T;exact DataW.trod_lt m _ _ _ l
 obtain⟨l2,bk2,e2⟩:=Gx.VO (β:=fun _=>none) (h:=[]) L
 obtain⟨a3,Ut,cap3,rfl⟩:=okWide_slice Tryz.underlying56 (c 3 56 v3 rfl rfl)
 have U:=M
 have lt3:∀ x ∈ p3,x.block<W.heap.size:=by obtain⟨m,l⟩:=U;exact DataW.trod_lt m _ _ _ l
 obtain⟨l3,bk3,e3⟩:=Gx.VO (β:=fun _=>none) (h:=[]) M
 clear hA0 f
 have n:((Gx.Nh 1000000000000).runK [.agg [.int .i64 xa0,.int .i64 xb0,.int .i64 xc0,.int .i64 xd0],.agg [.int .i64 xa1,.int .i64 xb1,.int .i64 xc1,.int .i64 xd1],.imm (Gx.Fp l2) l2.length 1 false false,.imm (Gx.Fp l3) l3.length 1 false false] [] fun v h=>some (v,h))=some (.bool true,[]) :=
  Gx.pq (N:=1000000000000) i.1 i.2.1 i.2.2.1 i.2.2.2 ⟨by decide,by decide⟩ (K:=fun b=>some (Gx.AV.bool b,[]))
 refine(Gx.oE (Gx.Ni 1000000000000) (Gx.Z2 e0 (Gx.Z2 e1 (Gx.Z2 e2 (Gx.Z2 e3 Gx.qc)))) n (sd hL y)).mono fun e W' ⟨he,bel⟩=>?_
 subst he
 exact⟨_,rfl,_,_,_,[],_,[],hW',trodAll_mk1 (shut_bool Tryz.underlying4 _),(trodAll_cons_mk (Below.trod Rx (by kernel_rfl) (of_decide_eq_true (by kernel_rfl)) O bel lt0) (trodAll_cons_mk (Below.trod Rx (by kernel_rfl) (of_decide_eq_true (by kernel_rfl)) S bel lt1) (trodAll_cons_mk (Below.trod Rx (by kernel_rfl) (of_decide_eq_true (by kernel_rfl)) T bel lt2) (trodAll_cons_mk (Below.trod Rx (by kernel_rfl) (of_decide_eq_true (by kernel_rfl)) U bel lt3) trodAll_mk0)))),rfl,bel.frame _,fun h=>by cases h⟩
end Go.Proofs.YtjmfofdghmlldaaGreatDoor.quantityDimensions

set_option maxRecDepth 100000
namespace Go.Proofs.YtjmfofdghmlldaaGreatDoor.quantityDimensions
open Go.ChangeShapes Go.WideShapes Go.ChangeAt Go.RowKit
theorem uH:(Rows.quantityDimensionsRow.inPlace==Tryz.prog.inPlace 8)=true:=by kernel_rfl
theorem uI:(Rows.quantityDimensionsRow.unfollowed==Tryz.prog.unfollowed 8)=true:=by kernel_rfl
theorem uJ:(Rows.quantityDimensionsRow.recurses==Tryz.prog.recurses 8)=true:=by kernel_rfl
theorem uK:(Rows.quantityDimensionsRow.named==Tryz.prog.varsNamed 8)=true:=by kernel_rfl
theorem r7:joinedFacts Tryz.prog 8 Tryz.f8 Rows.quantityDimensionsSpec Rows.quantityDimensionsRow = true :=
 Gx.qY Rx sI q8 q9 q_ qa uH uI uJ uK qb sJ sK (by kernel_rfl) (by kernel_rfl) (by kernel_rfl) rfl rfl (by kernel_rfl) (by kernel_rfl) (by kernel_rfl) (by kernel_rfl) (by kernel_rfl) (by kernel_rfl) (by kernel_rfl) (by kernel_rfl) (by kernel_rfl) rfl (by kernel_rfl) (by kernel_rfl) (by kernel_rfl) (by kernel_rfl)
theorem sD:Tryz.prog.funcNamed Rows.quantityDimensionsRow.func=some 8:=by kernel_rfl
theorem tF:Tryz.f8.isInstance Tryz.prog Rows.quantityDimensionsRow.origin Rows.quantityDimensionsRow.targs:=of_decide_eq_true (by kernel_rfl)
theorem tG:Tryz.f8.isWrapper Tryz.prog Rows.quantityDimensionsRow.wrapper Rows.quantityDimensionsRow.mainSum:=by unfold Func.isWrapper;first | (rw[if_pos (by decide +kernel)];kernel_rfl) | (rw[if_neg (by decide +kernel)];exact⟨rfl,rfl⟩)
end Go.Proofs.YtjmfofdghmlldaaGreatDoor.quantityDimensions
