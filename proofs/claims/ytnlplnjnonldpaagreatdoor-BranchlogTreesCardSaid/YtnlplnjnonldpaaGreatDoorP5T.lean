/- A part of the proof; each theorem says what it holds. -/
import Derived.Test.YtnlplnjnonldpaaGreatDoorP4U
set_option linter.unusedVariables false
set_option linter.defProp false
set_option linter.unusedSimpArgs false
namespace Go.Proofs.YtnlplnjnonldpaaGreatDoor.branchlogTrees
open Go.ChangeShapes Go.WideShapes Go.ChangeAt Go.RowKit
theorem reads (os:Os) {H:Type} (enc:TypeId×Value→H):∃ places,DataW.whole enc Tryz.prog ((oc os).forCall (fun _ _=>0) ⟨#[],#[.slice none 0 0,.slice none 0 0,.int .i64 0,.int .i64 0,.int .i64 0,.int .i64 0],[]⟩).memory Tryz.f5.params.toList Rows.branchlogTreesSpec.vars false (#[.slice none 0 0,.slice none 0 0,.int .i64 0,.int .i64 0,.int .i64 0,.int .i64 0]:Array Value).toList 8=some ([.nil,.nil,.lit (.int .i64 0),.lit (.int .i64 0),.lit (.int .i64 0),.lit (.int .i64 0)],[],places) :=
 ⟨[],by kernel_rfl⟩
set_option maxRecDepth 100000 in
theorem lifted (os:Os) (started:os.Started) (H:Type) (enc:TypeId×Value→H) (F:Stop.Interp) :
  ReturnsInHanded {} Tryz.checked os 5 .any ((OpenSpec.ofChange Rows.branchlogTreesSpec).preRow enc Tryz.prog Tryz.f5 Rows.branchlogTreesRow.domain false Rows.branchlogTreesRow.laid) (((OpenSpec.ofChange Rows.branchlogTreesSpec).at F).post enc Tryz.prog Tryz.f5 false true false false):=by
 obtain⟨places,V⟩:=reads os enc
 refine returnsInHanded_of_row (C:=Tryz.checked) (s:=OpenSpec.ofChange Rows.branchlogTreesSpec) Ahi started (by kernel_rfl) Tryz.func5
  (witness_row_atRef (enc:=enc) (C:=Tryz.checked) false (oc os) #[.slice none 0 0,.slice none 0 0,.int .i64 0,.int .i64 0,.int .i64 0,.int .i64 0] (uD os) (by kernel_rfl) (by kernel_rfl) (by kernel_rfl)
   (OpenSpec.preRow_of_cond 8 V (by kernel_rfl) (fun k X=>by cases X) (by kernel_rfl) (od os _))) ?_
 intro W base args ds gs before y hW _ A L hL D _
 have u:∀ (j:Nat) t v,Tryz.f5.params[j]?=some t→args[j]?=some v→Value.okWide Tryz.prog W .any base t v:=y
 have hW':=hW
 obtain⟨p,q,hA0,hV,rfl,Y,hnd⟩:=hW
 have hA:DataW.TrodAll enc Tryz.prog W 0 (fun _=>true) true Tryz.f5.params.toList args.toList ds p:=hA0
 rw[Tryz.params5] at hA u
 obtain⟨v0,vs0,d0,ds0,p0,q0,G,rfl,rfl,h0,r0⟩:=trodAll_cons hA
 obtain⟨v1,vs1,d1,ds1,p1,q1,rfl,rfl,rfl,M,r1⟩:=trodAll_cons r0
 obtain⟨v2,vs2,d2,ds2,p2,q2,rfl,rfl,rfl,h2,r2⟩:=trodAll_cons r1
 obtain⟨v3,vs3,d3,ds3,p3,q3,rfl,rfl,rfl,h3,r3⟩:=trodAll_cons r2
 obtain⟨v4,vs4,d4,ds4,p4,q4,rfl,rfl,rfl,h4,r4⟩:=trodAll_cons r3
 obtain⟨v5,vs5,d5,ds5,p5,q5,rfl,rfl,rfl,h5,r5⟩:=trodAll_cons r4
 obtain⟨rfl,rfl,rfl⟩:=trodAll_nil r5
 obtain rfl:args=#[v0,v1,v2,v3,v4,v5]:=by cases args;simp_all
 obtain⟨rfl,rfl⟩:=trodVars_none hV
 obtain⟨a0,Acw,cap0,rfl⟩:=okWide_slice Tryz.underlying22 (u 0 22 v0 rfl rfl)
 have k0:=h0
 have lt0:∀ x ∈ p0,x.block<W.heap.size:=by obtain⟨m,I⟩:=k0;exact DataW.trod_lt m _ _ _ I
 obtain⟨l0,bk0,e0⟩:=Gx.DD (β:=fun _=>none) (h:=[]) h0
 obtain⟨a1,len1,cap1,rfl⟩:=okWide_slice Tryz.underlying22 (u 1 22 v1 rfl rfl)
 have O:=M
 have lt1:∀ x ∈ p1,x.block<W.heap.size:=by obtain⟨m,I⟩:=O;exact DataW.trod_lt m _ _ _ I
 obtain⟨l1,bk1,e1⟩:=Gx.DD (β:=fun _=>none) (h:=[]) M
 obtain⟨i2,rfl,rfl,rfl,S⟩:=open_int Tryz.underlying3 (u 2 3 v2 rfl rfl) h2
 have b2:=Gx.rZ S
 obtain⟨i3,rfl,rfl,rfl,w3⟩:=open_int Tryz.underlying3 (u 3 3 v3 rfl rfl) h3
 have b3:=Gx.rZ w3
 obtain⟨i4,rfl,rfl,rfl,T⟩:=open_int Tryz.underlying3 (u 4 3 v4 rfl rfl) h4
 have b4:=Gx.rZ T
 obtain⟨i5,rfl,rfl,rfl,U⟩:=open_int Tryz.underlying3 (u 5 3 v5 rfl rfl) h5
 have b5:=Gx.rZ U
 clear hA0 y
 have z:((Gx.Oz 1000000000000000).runK [.imm (Gx.Cf.Ah l0) l0.length 1 false false,.imm (Gx.Cf.Ah l1) l1.length 1 false false,.int .i64 i2,.int .i64 i3,.int .i64 i4,.int .i64 i5] [] fun v h=>some (v,h))=some (.bool true,[]) :=
  Gx.Bl.xV (N:=1000000000000000) (by decide) (K:=fun b=>some (Gx.AV.bool b,[]))
 refine(Gx.oF (Gx.CL 1000000000000000) (Gx.Mr e0 (Gx.Mr e1 (Gx.Mr Gx.gJ (Gx.Mr Gx.gJ (Gx.Mr Gx.gJ (Gx.Mr Gx.gJ Gx.uE)))))) z (xy hL D)).mono fun e W' ⟨he,bel⟩=>?_
 subst he
 exact⟨_,rfl,_,_,_,[],_,[],hW',trodAll_mk1 (shut_bool Tryz.underlying4 _),(trodAll_cons_mk (Below.trod Xn (by kernel_rfl) (of_decide_eq_true (by kernel_rfl)) k0 bel lt0) (trodAll_cons_mk (Below.trod Xn (by kernel_rfl) (of_decide_eq_true (by kernel_rfl)) O bel lt1) (trodAll_cons_mk (shut_int Tryz.underlying3 S) (trodAll_cons_mk (shut_int Tryz.underlying3 w3) (trodAll_cons_mk (shut_int Tryz.underlying3 T) (trodAll_cons_mk (shut_int Tryz.underlying3 U) trodAll_mk0)))))),rfl,bel.frame _,fun h=>by cases h⟩
end Go.Proofs.YtnlplnjnonldpaaGreatDoor.branchlogTrees
set_option maxRecDepth 100000
namespace Go.Proofs.YtnlplnjnonldpaaGreatDoor.branchlogTrees
open Go.ChangeShapes Go.WideShapes Go.ChangeAt Go.RowKit
theorem Ajq:(Rows.branchlogTreesRow.inPlace==Tryz.prog.inPlace 5)=true:=by kernel_rfl
theorem Ajr:(Rows.branchlogTreesRow.unfollowed==Tryz.prog.unfollowed 5)=true:=by kernel_rfl
theorem Ajs:(Rows.branchlogTreesRow.recurses==Tryz.prog.recurses 5)=true:=by kernel_rfl
theorem Ajt:(Rows.branchlogTreesRow.named==Tryz.prog.varsNamed 5)=true:=by kernel_rfl
theorem xW:joinedFacts Tryz.prog 5 Tryz.f5 Rows.branchlogTreesSpec Rows.branchlogTreesRow = true :=
 Gx.Abp Xn Aeq Abq Abr Abs Abt Ajq Ajr Ajs Ajt Abu Aer Aes (by kernel_rfl) (by kernel_rfl) (by kernel_rfl) rfl rfl (by kernel_rfl) (by kernel_rfl) (by kernel_rfl) (by kernel_rfl) (by kernel_rfl) (by kernel_rfl) (by kernel_rfl) (by kernel_rfl) (by kernel_rfl) rfl (by kernel_rfl) (by kernel_rfl) (by kernel_rfl) (by kernel_rfl)
theorem ra:Tryz.prog.funcNamed Rows.branchlogTreesRow.func=some 5:=by kernel_rfl
theorem xX:Tryz.f5.isInstance Tryz.prog Rows.branchlogTreesRow.origin Rows.branchlogTreesRow.targs:=of_decide_eq_true (by kernel_rfl)
theorem xY:Tryz.f5.isWrapper Tryz.prog Rows.branchlogTreesRow.wrapper Rows.branchlogTreesRow.mainSum:=by unfold Func.isWrapper;first | (rw[if_pos (by decide +kernel)];kernel_rfl) | (rw[if_neg (by decide +kernel)];exact⟨rfl,rfl⟩)
end Go.Proofs.YtnlplnjnonldpaaGreatDoor.branchlogTrees
