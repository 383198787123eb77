/- A part of the proof; each theorem says what it holds. -/
import Derived.Test.YtdibhmhokchgkaaGreatDoorP5
set_option linter.unusedVariables false
set_option linter.defProp false
set_option linter.unusedSimpArgs false
namespace Go.Proofs.YtdibhmhokchgkaaGreatDoor.caseformWrites
open Go.ChangeShapes Go.WideShapes Go.ChangeAt Go.RowKit
def reads(os:Os){H:Type}(enc:TypeId×Value->H):∃ places,DataW.whole enc Tryz.prog ((Au4 os).forCall (fun _ _=>0) ⟨#[],#[.agg #[.int .i64 0,.slice none 0 0,.slice none 0 0,.slice none 0 0,.slice none 0 0,.slice none 0 0,.slice none 0 0,.slice none 0 0],.slice none 0 0],[]⟩).memory Tryz.f3.params.toList Rows.caseformWritesSpec.vars false (#[.agg #[.int .i64 0,.slice none 0 0,.slice none 0 0,.slice none 0 0,.slice none 0 0,.slice none 0 0,.slice none 0 0,.slice none 0 0],.slice none 0 0]:Array Value).toList 8=some ([.agg [.lit (.int .i64 0),.nil,.nil,.nil,.nil,.nil,.nil,.nil],.nil],[],places):=⟨[],by kernel_rfl⟩
set_option maxRecDepth 100000 in
def lifted(os:Os)(started:os.Started)(H:Type)(enc:TypeId×Value->H)(F:Stop.Interp):
  ReturnsInHanded {} Tryz.checked os 3 .any ((OpenSpec.ofChange Rows.caseformWritesSpec).preRow enc Tryz.prog Tryz.f3 Rows.caseformWritesRow.domain false Rows.caseformWritesRow.laid) (((OpenSpec.ofChange Rows.caseformWritesSpec).at F).post enc Tryz.prog Tryz.f3 false true false false):=by
 obtain⟨places,hx⟩:=reads os enc
 refine returnsInHanded_of_row (C:=Tryz.checked) (s:=OpenSpec.ofChange Rows.caseformWritesSpec) A7j started (by kernel_rfl) Tryz.func3
  (witness_row_atRef (enc:=enc) (C:=Tryz.checked) false (Au4 os) #[.agg #[.int .i64 0,.slice none 0 0,.slice none 0 0,.slice none 0 0,.slice none 0 0,.slice none 0 0,.slice none 0 0,.slice none 0 0],.slice none 0 0] (Azw os) (by kernel_rfl) (by kernel_rfl) (by kernel_rfl)
   (OpenSpec.preRow_of_cond 8 hx (by kernel_rfl) (fun k M=>by cases M) (by kernel_rfl) (Aw0 os _))) ?_
 intro W base d ds gs before f hW _ y n hL z _
 have l:∀(j:Nat) t v,Tryz.f3.params[j]?=some t->d[j]?=some v->Value.okWide Tryz.prog W .any base t v:=f
 have hW':=hW
 obtain⟨p,q,hA0,hV,rfl,S,T⟩:=hW
 have hA:DataW.TrodAll enc Tryz.prog W 0 (fun _=>true) true Tryz.f3.params.toList d.toList ds p:=hA0
 rw[Tryz.params3]at hA l
 obtain⟨v0,vs0,d0,ds0,U,q0,A,rfl,rfl,h0,V⟩:=trodAll_cons hA
 obtain⟨v1,vs1,d1,ds1,X,q1,rfl,rfl,rfl,G,Y⟩:=trodAll_cons V
 obtain⟨rfl,rfl,rfl⟩:=trodAll_nil Y
 obtain rfl:d=#[v0,v1]:=by cases d;simp_all
 obtain⟨rfl,rfl⟩:=trodVars_none hV
 obtain B:=Gx.Adn Tryz.underlying30 (l 0 30 v0 rfl rfl)
 have I:=h0
 have lt0:∀ x∈U,x.block<W.heap.size:=by obtain⟨m,D⟩:=I;exact DataW.trod_lt m _ _ _ D
 obtain⟨H0,Da,bs0,ls0,us0,ss0,ts0,os0,ok0,e0⟩:=Gx.Ayx (β:=fun _=>none) (h:=[]) B h0 (Gx.WOk.of_each n (j:=0) (t:=30) (by kernel_rfl) rfl)
 obtain⟨a1,len1,cap1,rfl⟩:=okWide_slice Tryz.underlying22 (l 1 22 v1 rfl rfl)
 have L:=G
 have lt1:∀ x∈X,x.block<W.heap.size:=by obtain⟨m,D⟩:=L;exact DataW.trod_lt m _ _ _ D
 obtain⟨l1,bk1,e1⟩:=Gx.Ayy (β:=fun _=>none) (h:=[]) G
 clear hA0 f
 have u:((Gx.V6 1000000000000000).runK [.agg (Gx.Ct.Aq4 H0 Da bs0 ls0 us0 ss0 ts0 os0).av,.imm (Gx.Cf.Av l1) l1.length 1 false false] [] fun v h=>some (v,h))=some (.bool true,[]) :=
  Gx.Ct.Aq6 (N:=1000000000000000) ⟨by decide,by decide⟩ (by decide) ok0.1 ok0.2 (Nat.le_trans bk1 (by decide)) (K:=fun b=>some (Gx.AV.bool b,[]))
 refine(Gx.Aww (Gx.UG 1000000000000000) (Gx.Af6 e0 (Gx.Af6 e1 Gx.Azx)) u (A2o hL z)).mono fun e W' ⟨he,bel⟩=>?_
 subst he
 exact⟨_,rfl,_,_,_,[],_,[],hW',trodAll_mk1 (shut_bool Tryz.underlying4 _),trodAll_cons_mk (Below.trod yR (by kernel_rfl) (of_decide_eq_true (by kernel_rfl)) I bel lt0) (trodAll_cons_mk (Below.trod yR (by kernel_rfl) (of_decide_eq_true (by kernel_rfl)) L bel lt1) trodAll_mk0),rfl,bel.frame _,fun h=>by cases h⟩
end Go.Proofs.YtdibhmhokchgkaaGreatDoor.caseformWrites
set_option maxRecDepth 100000
namespace Go.Proofs.YtdibhmhokchgkaaGreatDoor.caseformWrites
open Go.ChangeShapes Go.WideShapes Go.ChangeAt Go.RowKit
def A8t:(Rows.caseformWritesRow.inPlace==Tryz.prog.inPlace 3)=true:=by kernel_rfl
def A8u:(Rows.caseformWritesRow.unfollowed==Tryz.prog.unfollowed 3)=true:=by kernel_rfl
def A8v:(Rows.caseformWritesRow.recurses==Tryz.prog.recurses 3)=true:=by kernel_rfl
def A8w:(Rows.caseformWritesRow.named==Tryz.prog.varsNamed 3)=true:=by kernel_rfl
def A5v:joinedFacts Tryz.prog 3 Tryz.f3 Rows.caseformWritesSpec Rows.caseformWritesRow = true:=Gx.A4n yR A55 A4o A4p A4q A4r A8t A8u A8v A8w A4s A56 A57 (by kernel_rfl) (by kernel_rfl) (by kernel_rfl) rfl rfl (by kernel_rfl) (by kernel_rfl) (by kernel_rfl) (by kernel_rfl) (by kernel_rfl) (by kernel_rfl) (by kernel_rfl) (by kernel_rfl) (by kernel_rfl) rfl (by kernel_rfl) (by kernel_rfl) (by kernel_rfl) (by kernel_rfl)
def A3y:Tryz.prog.funcNamed Rows.caseformWritesRow.func=some 3:=by kernel_rfl
def A5w:Tryz.f3.isInstance Tryz.prog Rows.caseformWritesRow.origin Rows.caseformWritesRow.targs:=of_decide_eq_true (by kernel_rfl)
def A5x:Tryz.f3.isWrapper Tryz.prog Rows.caseformWritesRow.wrapper Rows.caseformWritesRow.mainSum:=by unfold Func.isWrapper;first|(rw[if_pos (by decide +kernel)];kernel_rfl)|(rw[if_neg (by decide +kernel)];exact⟨rfl,rfl⟩)
end Go.Proofs.YtdibhmhokchgkaaGreatDoor.caseformWrites
