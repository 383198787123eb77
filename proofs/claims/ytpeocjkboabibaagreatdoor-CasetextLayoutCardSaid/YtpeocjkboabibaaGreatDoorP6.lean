/- A part of the proof; each theorem says what it holds. -/
import Derived.Test.YtpeocjkboabibaaGreatDoorP5
set_option linter.unusedVariables false
set_option linter.defProp false
set_option linter.unusedSimpArgs false
namespace Go.Proofs.YtpeocjkboabibaaGreatDoor.casetextLayout
open Go.ChangeShapes Go.WideShapes Go.ChangeAt Go.RowKit
theorem reads (os:Os) {H:Type} (enc:TypeId×Value→H):∃ places,DataW.whole enc Tryz.prog ((Ai3 os).forCall (fun _ _=>0) ⟨#[],#[.slice none 0 0,.slice none 0 0],[]⟩).memory Tryz.f3.params.toList Rows.casetextLayoutSpec.vars false (#[.slice none 0 0,.slice none 0 0]:Array Value).toList 8=some ([.nil,.nil],[],places) :=
 ⟨[],by kernel_rfl⟩
set_option maxRecDepth 100000 in
theorem lifted (os:Os) (started:os.Started) (H:Type) (enc:TypeId×Value→H) (F:Stop.Interp) :
  ReturnsInHanded {} Tryz.checked os 3 .any ((OpenSpec.ofChange Rows.casetextLayoutSpec).preRow enc Tryz.prog Tryz.f3 Rows.casetextLayoutRow.domain false Rows.casetextLayoutRow.laid) (((OpenSpec.ofChange Rows.casetextLayoutSpec).at F).post enc Tryz.prog Tryz.f3 false true false false):=by
 obtain⟨places,hx⟩:=reads os enc
 refine returnsInHanded_of_row (C:=Tryz.checked) (s:=OpenSpec.ofChange Rows.casetextLayoutSpec) Ayc started (by kernel_rfl) Tryz.func3
  (witness_row_atRef (enc:=enc) (C:=Tryz.checked) false (Ai3 os) #[.slice none 0 0,.slice none 0 0] (An3 os) (by kernel_rfl) (by kernel_rfl) (by kernel_rfl)
   (OpenSpec.preRow_of_cond 8 hx (by kernel_rfl) (fun k M=>by cases M) (by kernel_rfl) (Akx os _))) ?_
 intro W base args ds gs before d hW _ n A hL u _
 have f:∀ (j:Nat) t v,Tryz.f3.params[j]?=some t→args[j]?=some v→Value.okWide Tryz.prog W .any base t v:=d
 have hW':=hW
 obtain⟨p,q,hA0,hV,rfl,S,T⟩:=hW
 have hA:DataW.TrodAll enc Tryz.prog W 0 (fun _=>true) true Tryz.f3.params.toList args.toList ds p:=hA0
 rw[Tryz.params3] at hA f
 obtain⟨v0,vs0,d0,ds0,U,q0,y,rfl,rfl,D,r0⟩:=trodAll_cons hA
 obtain⟨v1,vs1,d1,ds1,V,q1,rfl,rfl,rfl,G,X⟩:=trodAll_cons r0
 obtain⟨rfl,rfl,rfl⟩:=trodAll_nil X
 obtain rfl:args=#[v0,v1]:=by cases args;simp_all
 obtain⟨rfl,rfl⟩:=trodVars_none hV
 obtain⟨a0,len0,cap0,rfl⟩:=okWide_slice Tryz.underlying22 (f 0 22 v0 rfl rfl)
 have k0:=D
 have lt0:∀ x ∈ U,x.block<W.heap.size:=by obtain⟨m,z⟩:=k0;exact DataW.trod_lt m _ _ _ z
 obtain⟨l0,bk0,Y⟩:=Gx.Am1 (β:=fun _=>none) (h:=[]) D
 obtain⟨a1,len1,cap1,rfl⟩:=okWide_slice Tryz.underlying23 (f 1 23 v1 rfl rfl)
 have I:=G
 have lt1:∀ x ∈ V,x.block<W.heap.size:=by obtain⟨m,z⟩:=I;exact DataW.trod_lt m _ _ _ z
 obtain⟨l1,bk1,e1⟩:=Gx.Aih (β:=fun _=>none) (h:=[]) G
 clear hA0 d
 have l:((Gx.Ut 1000000000000000).runK [.imm (Gx.Cf.Ax l0) l0.length 1 false false,.imm (Gx.Tf l1) l1.length 1 false false] [] fun v h=>some (v,h))=some (.bool true,[]) :=
  Gx.Ct.Ae9 (N:=1000000000000000) ⟨by decide,by decide⟩ (by decide) (Nat.le_trans bk0 (by decide)) (K:=fun b=>some (Gx.AV.bool b,[]))
 refine(Gx.Akt (Gx.OD 1000000000000000) (Gx.wg Y (Gx.wg e1 Gx.An4)) l (Aq9 hL u)).mono fun e W' ⟨he,bel⟩=>?_
 subst he
 exact⟨_,rfl,_,_,_,[],_,[],hW',trodAll_mk1 (shut_bool Tryz.underlying4 _),(trodAll_cons_mk (Below.trod ra (by kernel_rfl) (of_decide_eq_true (by kernel_rfl)) k0 bel lt0) (trodAll_cons_mk (Below.trod ra (by kernel_rfl) (of_decide_eq_true (by kernel_rfl)) I bel lt1) trodAll_mk0)),rfl,bel.frame _,fun h=>by cases h⟩
end Go.Proofs.YtpeocjkboabibaaGreatDoor.casetextLayout
set_option maxRecDepth 100000
namespace Go.Proofs.YtpeocjkboabibaaGreatDoor.casetextLayout
open Go.ChangeShapes Go.WideShapes Go.ChangeAt Go.RowKit
theorem A05:(Rows.casetextLayoutRow.inPlace==Tryz.prog.inPlace 3)=true:=by kernel_rfl
theorem A06:(Rows.casetextLayoutRow.unfollowed==Tryz.prog.unfollowed 3)=true:=by kernel_rfl
theorem A07:(Rows.casetextLayoutRow.recurses==Tryz.prog.recurses 3)=true:=by kernel_rfl
theorem A08:(Rows.casetextLayoutRow.named==Tryz.prog.varsNamed 3)=true:=by kernel_rfl
theorem Ave:joinedFacts Tryz.prog 3 Tryz.f3 Rows.casetextLayoutSpec Rows.casetextLayoutRow = true :=
 Gx.Atz ra Avs At0 At1 At2 At3 A05 A06 A07 A08 At4 Avt Avu (by kernel_rfl) (by kernel_rfl) (by kernel_rfl) rfl rfl (by kernel_rfl) (by kernel_rfl) (by kernel_rfl) (by kernel_rfl) (by kernel_rfl) (by kernel_rfl) (by kernel_rfl) (by kernel_rfl) (by kernel_rfl) rfl (by kernel_rfl) (by kernel_rfl) (by kernel_rfl) (by kernel_rfl)
theorem Asy:Tryz.prog.funcNamed Rows.casetextLayoutRow.func=some 3:=by kernel_rfl
theorem Avf:Tryz.f3.isInstance Tryz.prog Rows.casetextLayoutRow.origin Rows.casetextLayoutRow.targs:=of_decide_eq_true (by kernel_rfl)
theorem Avg:Tryz.f3.isWrapper Tryz.prog Rows.casetextLayoutRow.wrapper Rows.casetextLayoutRow.mainSum:=by unfold Func.isWrapper;first | (rw[if_pos (by decide +kernel)];kernel_rfl) | (rw[if_neg (by decide +kernel)];exact⟨rfl,rfl⟩)
end Go.Proofs.YtpeocjkboabibaaGreatDoor.casetextLayout
