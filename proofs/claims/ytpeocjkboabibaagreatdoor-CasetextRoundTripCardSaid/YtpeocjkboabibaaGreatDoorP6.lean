/- A part of the proof; each theorem says what it holds. -/
import Derived.Test.YtpeocjkboabibaaGreatDoorP5
set_option linter.unusedVariables false
set_option linter.defProp false
set_option linter.unusedSimpArgs false
namespace Go.Proofs.YtpeocjkboabibaaGreatDoor.casetextRoundTrip
open Go.ChangeShapes Go.WideShapes Go.ChangeAt Go.RowKit
def reads(os:Os){H:Type}(enc:TypeId×Value->H):∃ places,DataW.whole enc Tryz.prog ((Apn os).forCall (fun _ _=>0) ⟨#[],#[.agg #[.int .i64 0,.slice none 0 0,.slice none 0 0,.slice none 0 0,.slice none 0 0,.slice none 0 0,.slice none 0 0,.slice none 0 0],.slice none 0 0],[]⟩).memory Tryz.f6.params.toList Rows.casetextRoundTripSpec.vars false (#[.agg #[.int .i64 0,.slice none 0 0,.slice none 0 0,.slice none 0 0,.slice none 0 0,.slice none 0 0,.slice none 0 0,.slice none 0 0],.slice none 0 0]:Array Value).toList 8=some ([.agg [.lit (.int .i64 0),.nil,.nil,.nil,.nil,.nil,.nil,.nil],.nil],[],places):=⟨[],by kernel_rfl⟩
set_option maxRecDepth 100000 in
def lifted(os:Os)(started:os.Started)(H:Type)(enc:TypeId×Value->H)(F:Stop.Interp):
  ReturnsInHanded {} Tryz.checked os 6 .any ((OpenSpec.ofChange Rows.casetextRoundTripSpec).preRow enc Tryz.prog Tryz.f6 Rows.casetextRoundTripRow.domain false Rows.casetextRoundTripRow.laid) (((OpenSpec.ofChange Rows.casetextRoundTripSpec).at F).post enc Tryz.prog Tryz.f6 false true false false):=by
 obtain⟨places,hx⟩:=reads os enc
 refine returnsInHanded_of_row (C:=Tryz.checked) (s:=OpenSpec.ofChange Rows.casetextRoundTripSpec) A13 started (by kernel_rfl) Tryz.func6
  (witness_row_atRef (enc:=enc) (C:=Tryz.checked) false (Apn os) #[.agg #[.int .i64 0,.slice none 0 0,.slice none 0 0,.slice none 0 0,.slice none 0 0,.slice none 0 0,.slice none 0 0,.slice none 0 0],.slice none 0 0] (At3 os) (by kernel_rfl) (by kernel_rfl) (by kernel_rfl)
   (OpenSpec.preRow_of_cond 8 hx (by kernel_rfl) (fun k T=>by cases T) (by kernel_rfl) (Aq3 os _))) ?_
 intro W base d ds gs before f hW _ y n hL z _
 have l:∀(j:Nat) t v,Tryz.f6.params[j]?=some t->d[j]?=some v->Value.okWide Tryz.prog W .any base t v:=f
 have hW':=hW
 obtain⟨p,q,hA0,hV,rfl,U,V⟩:=hW
 have hA:DataW.TrodAll enc Tryz.prog W 0 (fun _=>true) true Tryz.f6.params.toList d.toList ds p:=hA0
 rw[Tryz.params6]at hA l
 obtain⟨v0,vs0,d0,ds0,X,q0,A,rfl,rfl,I,Y⟩:=trodAll_cons hA
 obtain⟨v1,vs1,d1,ds1,p1,q1,rfl,rfl,rfl,L,r1⟩:=trodAll_cons Y
 obtain⟨rfl,rfl,rfl⟩:=trodAll_nil r1
 obtain rfl:d=#[v0,v1]:=by cases d;simp_all
 obtain⟨rfl,rfl⟩:=trodVars_none hV
 obtain D:=Gx.zY Tryz.underlying37 (l 0 37 v0 rfl rfl)
 have M:=I
 have lt0:∀ x∈X,x.block<W.heap.size:=by obtain⟨m,G⟩:=M;exact DataW.trod_lt m _ _ _ G
 obtain⟨H0,Bk,bs0,ls0,us0,ss0,ts0,os0,ok0,e0⟩:=Gx.As9 (β:=fun _=>none) (h:=[]) D I (Gx.WOk.of_each n (j:=0) (t:=37) (by kernel_rfl) rfl)
 obtain⟨a1,len1,cap1,rfl⟩:=okWide_slice Tryz.underlying22 (l 1 22 v1 rfl rfl)
 have S:=L
 have lt1:∀ x∈p1,x.block<W.heap.size:=by obtain⟨m,G⟩:=S;exact DataW.trod_lt m _ _ _ G
 obtain⟨l1,bk1,e1⟩:=Gx.Ata (β:=fun _=>none) (h:=[]) L
 clear hA0 f
 have u:((Gx.T3 1000000000000000).runK [.agg (Gx.Ct.Aln H0 Bk bs0 ls0 us0 ss0 ts0 os0).av,.imm (Gx.Cf.A4 l1) l1.length 1 false false] [] fun v h=>some (v,h))=some (.bool true,[]) :=
  Gx.Ct.Ao2 (N:=1000000000000000) ⟨by decide,by decide⟩ (by decide) ok0.1 ok0.2 (Nat.le_trans bk1 (by decide)) (K:=fun b=>some (Gx.AV.bool b,[]))
 refine(Gx.Aq0 (Gx.NS 1000000000000000) (Gx.Abo e0 (Gx.Abo e1 Gx.At4)) u (Aw3 hL z)).mono fun e W' ⟨he,bel⟩=>?_
 subst he
 exact⟨_,rfl,_,_,_,[],_,[],hW',trodAll_mk1 (shut_bool Tryz.underlying4 _),trodAll_cons_mk (Below.trod wF (by kernel_rfl) (of_decide_eq_true (by kernel_rfl)) M bel lt0) (trodAll_cons_mk (Below.trod wF (by kernel_rfl) (of_decide_eq_true (by kernel_rfl)) S bel lt1) trodAll_mk0),rfl,bel.frame _,fun h=>by cases h⟩
end Go.Proofs.YtpeocjkboabibaaGreatDoor.casetextRoundTrip
set_option maxRecDepth 100000
namespace Go.Proofs.YtpeocjkboabibaaGreatDoor.casetextRoundTrip
open Go.ChangeShapes Go.WideShapes Go.ChangeAt Go.RowKit
def A4x:(Rows.casetextRoundTripRow.inPlace==Tryz.prog.inPlace 6)=true:=by kernel_rfl
def A4y:(Rows.casetextRoundTripRow.unfollowed==Tryz.prog.unfollowed 6)=true:=by kernel_rfl
def A4z:(Rows.casetextRoundTripRow.recurses==Tryz.prog.recurses 6)=true:=by kernel_rfl
def A40:(Rows.casetextRoundTripRow.named==Tryz.prog.varsNamed 6)=true:=by kernel_rfl
def A0l:joinedFacts Tryz.prog 6 Tryz.f6 Rows.casetextRoundTripSpec Rows.casetextRoundTripRow = true:=Gx.Azd wF A00 Aze Azf Azg Azh A4x A4y A4z A40 Azi A01 A02 (by kernel_rfl) (by kernel_rfl) (by kernel_rfl) rfl rfl (by kernel_rfl) (by kernel_rfl) (by kernel_rfl) (by kernel_rfl) (by kernel_rfl) (by kernel_rfl) (by kernel_rfl) (by kernel_rfl) (by kernel_rfl) rfl (by kernel_rfl) (by kernel_rfl) (by kernel_rfl) (by kernel_rfl)
def Ayl:Tryz.prog.funcNamed Rows.casetextRoundTripRow.func=some 6:=by kernel_rfl
def A0m:Tryz.f6.isInstance Tryz.prog Rows.casetextRoundTripRow.origin Rows.casetextRoundTripRow.targs:=of_decide_eq_true (by kernel_rfl)
def A0n:Tryz.f6.isWrapper Tryz.prog Rows.casetextRoundTripRow.wrapper Rows.casetextRoundTripRow.mainSum:=by unfold Func.isWrapper;first|(rw[if_pos (by decide +kernel)];kernel_rfl)|(rw[if_neg (by decide +kernel)];exact⟨rfl,rfl⟩)
end Go.Proofs.YtpeocjkboabibaaGreatDoor.casetextRoundTrip
