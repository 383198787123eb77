/- A part of the proof; each theorem says what it holds. -/
import Derived.Test.YtnlplnjnonldpaaGreatDoorP4U
set_option linter.unusedVariables false
set_option linter.defProp false
set_option linter.unusedSimpArgs false
namespace Go.Proofs.YtnlplnjnonldpaaGreatDoor.branchlogCovers
open Go.ChangeShapes Go.WideShapes Go.ChangeAt Go.RowKit
theorem reads (os:Os) {H:Type} (enc:TypeId×Value→H):∃ places,DataW.whole enc Tryz.prog ((oc os).forCall (fun _ _=>0) ⟨#[],#[.slice none 0 0,.slice none 0 0,.slice none 0 0],[]⟩).memory Tryz.f6.params.toList Rows.branchlogCoversSpec.vars false (#[.slice none 0 0,.slice none 0 0,.slice none 0 0]:Array Value).toList 8=some ([.nil,.nil,.nil],[],places) :=
 ⟨[],by kernel_rfl⟩
set_option maxRecDepth 100000 in
theorem lifted (os:Os) (started:os.Started) (H:Type) (enc:TypeId×Value→H) (F:Stop.Interp) :
  ReturnsInHanded {} Tryz.checked os 6 .any ((OpenSpec.ofChange Rows.branchlogCoversSpec).preRow enc Tryz.prog Tryz.f6 Rows.branchlogCoversRow.domain false Rows.branchlogCoversRow.laid) (((OpenSpec.ofChange Rows.branchlogCoversSpec).at F).post enc Tryz.prog Tryz.f6 false true false false):=by
 obtain⟨places,U⟩:=reads os enc
 refine returnsInHanded_of_row (C:=Tryz.checked) (s:=OpenSpec.ofChange Rows.branchlogCoversSpec) Ahi started (by kernel_rfl) Tryz.func6
  (witness_row_atRef (enc:=enc) (C:=Tryz.checked) false (oc os) #[.slice none 0 0,.slice none 0 0,.slice none 0 0] (uD os) (by kernel_rfl) (by kernel_rfl) (by kernel_rfl)
   (OpenSpec.preRow_of_cond 8 U (by kernel_rfl) (fun k V=>by cases V) (by kernel_rfl) (od os _))) ?_
 intro W base args ds gs before y hW _ D L hL G _
 have u:∀ (j:Nat) t v,Tryz.f6.params[j]?=some t→args[j]?=some v→Value.okWide Tryz.prog W .any base t v:=y
 have hW':=hW
 obtain⟨p,q,hA0,hV,rfl,X,Y⟩:=hW
 have hA:DataW.TrodAll enc Tryz.prog W 0 (fun _=>true) true Tryz.f6.params.toList args.toList ds p:=hA0
 rw[Tryz.params6] at hA u
 obtain⟨v0,vs0,d0,ds0,p0,q0,I,rfl,rfl,h0,r0⟩:=trodAll_cons hA
 obtain⟨v1,vs1,d1,ds1,p1,q1,rfl,rfl,rfl,M,r1⟩:=trodAll_cons r0
 obtain⟨v2,vs2,d2,ds2,p2,q2,rfl,rfl,rfl,O,r2⟩:=trodAll_cons r1
 obtain⟨rfl,rfl,rfl⟩:=trodAll_nil r2
 obtain rfl:args=#[v0,v1,v2]:=by cases args;simp_all
 obtain⟨rfl,rfl⟩:=trodVars_none hV
 obtain⟨a0,Acw,cap0,rfl⟩:=okWide_slice Tryz.underlying22 (u 0 22 v0 rfl rfl)
 have k0:=h0
 have lt0:∀ x ∈ p0,x.block<W.heap.size:=by obtain⟨m,z⟩:=k0;exact DataW.trod_lt m _ _ _ z
 obtain⟨l0,bk0,e0⟩:=Gx.DD (β:=fun _=>none) (h:=[]) h0
 obtain⟨a1,len1,cap1,rfl⟩:=okWide_slice Tryz.underlying22 (u 1 22 v1 rfl rfl)
 have S:=M
 have lt1:∀ x ∈ p1,x.block<W.heap.size:=by obtain⟨m,z⟩:=S;exact DataW.trod_lt m _ _ _ z
 obtain⟨l1,bk1,e1⟩:=Gx.DD (β:=fun _=>none) (h:=[]) M
 obtain⟨a2,len2,cap2,rfl⟩:=okWide_slice Tryz.underlying22 (u 2 22 v2 rfl rfl)
 have T:=O
 have lt2:∀ x ∈ p2,x.block<W.heap.size:=by obtain⟨m,z⟩:=T;exact DataW.trod_lt m _ _ _ z
 obtain⟨l2,bk2,e2⟩:=Gx.DD (β:=fun _=>none) (h:=[]) O
 clear hA0 y
 have A:((Gx.No 1000000000000000).runK [.imm (Gx.Cf.Ah l0) l0.length 1 false false,.imm (Gx.Cf.Ah l1) l1.length 1 false false,.imm (Gx.Cf.Ah l2) l2.length 1 false false] [] fun v h=>some (v,h))=some (.bool true,[]) :=
  Gx.Bl.uo (N:=1000000000000000) (by decide) (K:=fun b=>some (Gx.AV.bool b,[]))
 refine(Gx.oF (Gx.AH 1000000000000000) (Gx.Mr e0 (Gx.Mr e1 (Gx.Mr e2 Gx.uE))) A (xy hL G)).mono fun e W' ⟨he,bel⟩=>?_
 subst he
 exact⟨_,rfl,_,_,_,[],_,[],hW',trodAll_mk1 (shut_bool Tryz.underlying4 _),(trodAll_cons_mk (Below.trod Xn (by kernel_rfl) (of_decide_eq_true (by kernel_rfl)) k0 bel lt0) (trodAll_cons_mk (Below.trod Xn (by kernel_rfl) (of_decide_eq_true (by kernel_rfl)) S bel lt1) (trodAll_cons_mk (Below.trod Xn (by kernel_rfl) (of_decide_eq_true (by kernel_rfl)) T bel lt2) trodAll_mk0))),rfl,bel.frame _,fun h=>by cases h⟩
end Go.Proofs.YtnlplnjnonldpaaGreatDoor.branchlogCovers
set_option maxRecDepth 100000
namespace Go.Proofs.YtnlplnjnonldpaaGreatDoor.branchlogCovers
open Go.ChangeShapes Go.WideShapes Go.ChangeAt Go.RowKit
theorem Ajq:(Rows.branchlogCoversRow.inPlace==Tryz.prog.inPlace 6)=true:=by kernel_rfl
theorem Ajr:(Rows.branchlogCoversRow.unfollowed==Tryz.prog.unfollowed 6)=true:=by kernel_rfl
theorem Ajs:(Rows.branchlogCoversRow.recurses==Tryz.prog.recurses 6)=true:=by kernel_rfl
theorem Ajt:(Rows.branchlogCoversRow.named==Tryz.prog.varsNamed 6)=true:=by kernel_rfl
theorem xW:joinedFacts Tryz.prog 6 Tryz.f6 Rows.branchlogCoversSpec Rows.branchlogCoversRow = true :=
 Gx.Abp Xn Aeq Abq Abr Abs Abt Ajq Ajr Ajs Ajt Abu Aer Aes (by kernel_rfl) (by kernel_rfl) (by kernel_rfl) rfl rfl (by kernel_rfl) (by kernel_rfl) (by kernel_rfl) (by kernel_rfl) (by kernel_rfl) (by kernel_rfl) (by kernel_rfl) (by kernel_rfl) (by kernel_rfl) rfl (by kernel_rfl) (by kernel_rfl) (by kernel_rfl) (by kernel_rfl)
theorem ra:Tryz.prog.funcNamed Rows.branchlogCoversRow.func=some 6:=by kernel_rfl
theorem xX:Tryz.f6.isInstance Tryz.prog Rows.branchlogCoversRow.origin Rows.branchlogCoversRow.targs:=of_decide_eq_true (by kernel_rfl)
theorem xY:Tryz.f6.isWrapper Tryz.prog Rows.branchlogCoversRow.wrapper Rows.branchlogCoversRow.mainSum:=by unfold Func.isWrapper;first | (rw[if_pos (by decide +kernel)];kernel_rfl) | (rw[if_neg (by decide +kernel)];exact⟨rfl,rfl⟩)
end Go.Proofs.YtnlplnjnonldpaaGreatDoor.branchlogCovers
