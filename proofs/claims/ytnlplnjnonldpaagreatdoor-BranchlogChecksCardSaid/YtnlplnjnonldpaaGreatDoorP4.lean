/- A part of the proof; each theorem says what it holds. -/
import Derived.Test.YtnlplnjnonldpaaGreatDoorP3
set_option linter.unusedVariables false
set_option linter.defProp false
set_option linter.unusedSimpArgs false
namespace Go.Proofs.YtnlplnjnonldpaaGreatDoor.branchlogChecks
open Go.ChangeShapes Go.WideShapes Go.ChangeAt Go.RowKit
theorem reads (os:Os) {H:Type} (enc:TypeId×Value→H):∃ places,DataW.whole enc Tryz.prog ((rC os).forCall (fun _ _=>0) ⟨#[],#[.agg #[.int .i64 0,.slice none 0 0,.slice none 0 0,.slice none 0 0,.slice none 0 0,.slice none 0 0,.slice none 0 0,.slice none 0 0],.agg #[.slice none 0 0,.slice none 0 0,.slice none 0 0],.int .i64 0],[]⟩).memory Tryz.f4.params.toList Rows.branchlogChecksSpec.vars false (#[.agg #[.int .i64 0,.slice none 0 0,.slice none 0 0,.slice none 0 0,.slice none 0 0,.slice none 0 0,.slice none 0 0,.slice none 0 0],.agg #[.slice none 0 0,.slice none 0 0,.slice none 0 0],.int .i64 0]:Array Value).toList 8=some ([.agg [.lit (.int .i64 0),.nil,.nil,.nil,.nil,.nil,.nil,.nil],.agg [.nil,.nil,.nil],.lit (.int .i64 0)],[],places) :=
 ⟨[],by kernel_rfl⟩
set_option maxRecDepth 100000 in
theorem lifted (os:Os) (started:os.Started) (H:Type) (enc:TypeId×Value→H) (F:Stop.Interp) :
  ReturnsInHanded {} Tryz.checked os 4 .any ((OpenSpec.ofChange Rows.branchlogChecksSpec).preRow enc Tryz.prog Tryz.f4 Rows.branchlogChecksRow.domain false Rows.branchlogChecksRow.laid) (((OpenSpec.ofChange Rows.branchlogChecksSpec).at F).post enc Tryz.prog Tryz.f4 false true false false):=by
 obtain⟨places,T⟩:=reads os enc
 refine returnsInHanded_of_row (C:=Tryz.checked) (s:=OpenSpec.ofChange Rows.branchlogChecksSpec) zV started (by kernel_rfl) Tryz.func4
  (witness_row_atRef (enc:=enc) (C:=Tryz.checked) false (rC os) #[.agg #[.int .i64 0,.slice none 0 0,.slice none 0 0,.slice none 0 0,.slice none 0 0,.slice none 0 0,.slice none 0 0,.slice none 0 0],.agg #[.slice none 0 0,.slice none 0 0,.slice none 0 0],.int .i64 0] (tp os) (by kernel_rfl) (by kernel_rfl) (by kernel_rfl)
   (OpenSpec.preRow_of_cond 8 T (by kernel_rfl) (fun k U=>by cases U) (by kernel_rfl) (sL os _))) ?_
 intro W base args ds gs before i hW _ z u hL A _
 have d:∀ (j:Nat) t v,Tryz.f4.params[j]?=some t→args[j]?=some v→Value.okWide Tryz.prog W .any base t v:=i
 have hW':=hW
 obtain⟨p,q,hA0,hV,rfl,V,X⟩:=hW
 have hA:DataW.TrodAll enc Tryz.prog W 0 (fun _=>true) true Tryz.f4.params.toList args.toList ds p:=hA0
 rw[Tryz.params4] at hA d
 obtain⟨v0,vs0,d0,ds0,Y,q0,D,rfl,rfl,h0,r0⟩:=trodAll_cons hA
 obtain⟨v1,vs1,d1,ds1,p1,q1,rfl,rfl,rfl,M,r1⟩:=trodAll_cons r0
 obtain⟨v2,vs2,d2,ds2,p2,q2,rfl,rfl,rfl,h2,r2⟩:=trodAll_cons r1
 obtain⟨rfl,rfl,rfl⟩:=trodAll_nil r2
 obtain rfl:args=#[v0,v1,v2]:=by cases args;simp_all
 obtain⟨rfl,rfl⟩:=trodVars_none hV
 obtain G:=Gx.IR Tryz.underlying38 (d 0 38 v0 rfl rfl)
 have k0:=h0
 have lt0:∀ x ∈ Y,x.block<W.heap.size:=by obtain⟨m,I⟩:=k0;exact DataW.trod_lt m _ _ _ I
 obtain⟨H0,Bi,bs0,ls0,us0,ss0,ts0,os0,ok0,e0⟩:=Gx.tA (β:=fun _=>none) (h:=[]) G h0 (Gx.WOk.of_each u (j:=0) (t:=38) (by kernel_rfl) rfl)
 obtain L:=Gx.IR Tryz.underlying27 (d 1 27 v1 rfl rfl)
 have O:=M
 have lt1:∀ x ∈ p1,x.block<W.heap.size:=by obtain⟨m,I⟩:=O;exact DataW.trod_lt m _ _ _ I
 obtain⟨U1,C1,P1,ok1,e1⟩:=Gx.vC (β:=fun _=>none) (h:=[]) L M
 obtain⟨i2,rfl,rfl,rfl,S⟩:=open_int Tryz.underlying3 (d 2 3 v2 rfl rfl) h2
 have b2:=Gx.xV S
 clear hA0 i
 have y:((Gx.L3 1000000000000000).runK [.agg (Gx.oR H0 Bi bs0 ls0 us0 ss0 ts0 os0).av,.agg [.imm (U1.flatMap Gx.Bl.lS) U1.length 2 false false,.imm (C1.flatMap Gx.Bl.CutD.av) C1.length 6 false false,.imm (P1.flatMap Gx.Bl.NodeD.av) P1.length 5 false false],.int .i64 i2] [] fun v h=>some (v,h))=some (.bool true,[]) :=
  Gx.Bl.oX (N:=1000000000000000) (by decide) ok0 ok1 (K:=fun b=>some (Gx.AV.bool b,[]))
 refine(Gx.sH (Gx.W8 1000000000000000) (Gx.SI e0 (Gx.SI e1 (Gx.SI Gx.vT Gx.tq))) y (vS hL A)).mono fun e W' ⟨he,bel⟩=>?_
 subst he
 exact⟨_,rfl,_,_,_,[],_,[],hW',trodAll_mk1 (shut_bool Tryz.underlying4 _),(trodAll_cons_mk (Below.trod b9 (by kernel_rfl) (of_decide_eq_true (by kernel_rfl)) k0 bel lt0) (trodAll_cons_mk (Below.trod b9 (by kernel_rfl) (of_decide_eq_true (by kernel_rfl)) O bel lt1) (trodAll_cons_mk (shut_int Tryz.underlying3 S) trodAll_mk0))),rfl,bel.frame _,fun h=>by cases h⟩
end Go.Proofs.YtnlplnjnonldpaaGreatDoor.branchlogChecks
set_option maxRecDepth 100000
namespace Go.Proofs.YtnlplnjnonldpaaGreatDoor.branchlogChecks
open Go.ChangeShapes Go.WideShapes Go.ChangeAt Go.RowKit
theorem Abv:(Rows.branchlogChecksRow.inPlace==Tryz.prog.inPlace 4)=true:=by kernel_rfl
theorem Abw:(Rows.branchlogChecksRow.unfollowed==Tryz.prog.unfollowed 4)=true:=by kernel_rfl
theorem Abx:(Rows.branchlogChecksRow.recurses==Tryz.prog.recurses 4)=true:=by kernel_rfl
theorem Aby:(Rows.branchlogChecksRow.named==Tryz.prog.varsNamed 4)=true:=by kernel_rfl
theorem xc:joinedFacts Tryz.prog 4 Tryz.f4 Rows.branchlogChecksSpec Rows.branchlogChecksRow = true :=
 Gx.wv b9 xn ww wx wy wz Abv Abw Abx Aby xA xo xp (by kernel_rfl) (by kernel_rfl) (by kernel_rfl) rfl rfl (by kernel_rfl) (by kernel_rfl) (by kernel_rfl) (by kernel_rfl) (by kernel_rfl) (by kernel_rfl) (by kernel_rfl) (by kernel_rfl) (by kernel_rfl) rfl (by kernel_rfl) (by kernel_rfl) (by kernel_rfl) (by kernel_rfl)
theorem wG:Tryz.prog.funcNamed Rows.branchlogChecksRow.func=some 4:=by kernel_rfl
theorem xd:Tryz.f4.isInstance Tryz.prog Rows.branchlogChecksRow.origin Rows.branchlogChecksRow.targs:=of_decide_eq_true (by kernel_rfl)
theorem xe:Tryz.f4.isWrapper Tryz.prog Rows.branchlogChecksRow.wrapper Rows.branchlogChecksRow.mainSum:=by unfold Func.isWrapper;first | (rw[if_pos (by decide +kernel)];kernel_rfl) | (rw[if_neg (by decide +kernel)];exact⟨rfl,rfl⟩)
end Go.Proofs.YtnlplnjnonldpaaGreatDoor.branchlogChecks
