/- A part of the proof; each theorem says what it holds. -/
import Derived.Test.YtpeocjkboabibaaGreatDoorP4
set_option linter.unusedVariables false
set_option linter.defProp false
set_option linter.unusedSimpArgs false
namespace Go.Proofs.YtpeocjkboabibaaGreatDoor.casetextErrorLine
open Go.ChangeShapes Go.WideShapes Go.ChangeAt Go.RowKit
def reads(os:Os){H:Type}(enc:TypeId×Value->H):∃ places,DataW.whole enc Tryz.prog ((Afq os).forCall (fun _ _=>0) ⟨#[],#[.slice none 0 0,.int .i64 0,.int .u8 0],[]⟩).memory Tryz.f4.params.toList Rows.casetextErrorLineSpec.vars false (#[.slice none 0 0,.int .i64 0,.int .u8 0]:Array Value).toList 8=some ([.nil,.lit (.int .i64 0),.lit (.int .u8 0)],[],places):=⟨[],by kernel_rfl⟩
set_option maxRecDepth 100000 in
def lifted(os:Os)(started:os.Started)(H:Type)(enc:TypeId×Value->H)(F:Stop.Interp):
  ReturnsInHanded {} Tryz.checked os 4 .any ((OpenSpec.ofChange Rows.casetextErrorLineSpec).preRow enc Tryz.prog Tryz.f4 Rows.casetextErrorLineRow.domain false Rows.casetextErrorLineRow.laid) (((OpenSpec.ofChange Rows.casetextErrorLineSpec).at F).post enc Tryz.prog Tryz.f4 false true false false):=by
 obtain⟨places,hx⟩:=reads os enc
 refine returnsInHanded_of_row (C:=Tryz.checked) (s:=OpenSpec.ofChange Rows.casetextErrorLineSpec) As3 started (by kernel_rfl) Tryz.func4
  (witness_row_atRef (enc:=enc) (C:=Tryz.checked) false (Afq os) #[.slice none 0 0,.int .i64 0,.int .u8 0] (Al6 os) (by kernel_rfl) (by kernel_rfl) (by kernel_rfl)
   (OpenSpec.preRow_of_cond 8 hx (by kernel_rfl) (fun k G=>by cases G) (by kernel_rfl) (Aij os _))) ?_
 intro W base args ds gs before f hW _ u A hL y _
 have d:∀(j:Nat) t v,Tryz.f4.params[j]?=some t->args[j]?=some v->Value.okWide Tryz.prog W .any base t v:=f
 have hW':=hW
 obtain⟨p,q,hA0,hV,rfl,I,M⟩:=hW
 have hA:DataW.TrodAll enc Tryz.prog W 0 (fun _=>true) true Tryz.f4.params.toList args.toList ds p:=hA0
 rw[Tryz.params4]at hA d
 obtain⟨v0,vs0,d0,ds0,S,q0,z,rfl,rfl,D,r0⟩:=trodAll_cons hA
 obtain⟨v1,vs1,d1,ds1,p1,q1,rfl,rfl,rfl,T,U⟩:=trodAll_cons r0
 obtain⟨v2,vs2,d2,ds2,p2,q2,rfl,rfl,rfl,V,X⟩:=trodAll_cons U
 obtain⟨rfl,rfl,rfl⟩:=trodAll_nil X
 obtain rfl:args=#[v0,v1,v2]:=by cases args;simp_all
 obtain⟨rfl,rfl⟩:=trodVars_none hV
 obtain⟨a0,len0,cap0,rfl⟩:=okWide_slice Tryz.underlying22 (d 0 22 v0 rfl rfl)
 have k0:=D
 have lt0:∀ x∈S,x.block<W.heap.size:=by obtain⟨m,Y⟩:=k0;exact DataW.trod_lt m _ _ _ Y
 obtain⟨l0,bk0,e0⟩:=Gx.Aik (β:=fun _=>none) (h:=[]) D
 obtain⟨i1,rfl,rfl,rfl,w1⟩:=open_int Tryz.underlying3 (d 1 3 v1 rfl rfl) T
 obtain⟨i2,rfl,rfl,rfl,w2⟩:=open_int Tryz.underlying5 (d 2 5 v2 rfl rfl) V
 have b2:=Gx.Aq3 w2
 clear hA0 f
 obtain⟨m2,rfl⟩:∃ n:Nat,i2=(n:Int):=⟨i2.toNat,by omega⟩
 have l:((Gx.Rg 1000000000000000).runK [.imm (Gx.Cf.A0 l0) l0.length 1 false false,.int .i64 i1,.int .u8 (m2:Int)] [] fun v h=>some (v,h))=some (.bool true,[]) :=
  Gx.Ct.rk (N:=1000000000000000) ⟨by decide,by decide⟩ (by decide) (Nat.le_trans bk0 (by decide)) (wd:=m2) (by omega) (K:=fun b=>some (Gx.AV.bool b,[]))
 refine(Gx.Af5 (Gx.GS 1000000000000000) (Gx.ia e0 (Gx.ia Gx.Ael (Gx.ia Gx.Ael Gx.Ai5))) l (An3 hL y)).mono fun e W' ⟨he,bel⟩=>?_
 subst he
 exact⟨_,rfl,_,_,_,[],_,[],hW',trodAll_mk1 (shut_bool Tryz.underlying4 _),trodAll_cons_mk (Below.trod Aa0 (by kernel_rfl) (of_decide_eq_true (by kernel_rfl)) k0 bel lt0) (trodAll_cons_mk (shut_int Tryz.underlying3 w1) (trodAll_cons_mk (shut_int Tryz.underlying5 w2) trodAll_mk0)),rfl,bel.frame _,fun h=>by cases h⟩
end Go.Proofs.YtpeocjkboabibaaGreatDoor.casetextErrorLine
set_option maxRecDepth 100000
namespace Go.Proofs.YtpeocjkboabibaaGreatDoor.casetextErrorLine
open Go.ChangeShapes Go.WideShapes Go.ChangeAt Go.RowKit
def At6:(Rows.casetextErrorLineRow.inPlace==Tryz.prog.inPlace 4)=true:=by kernel_rfl
def At7:(Rows.casetextErrorLineRow.unfollowed==Tryz.prog.unfollowed 4)=true:=by kernel_rfl
def At8:(Rows.casetextErrorLineRow.recurses==Tryz.prog.recurses 4)=true:=by kernel_rfl
def At9:(Rows.casetextErrorLineRow.named==Tryz.prog.varsNamed 4)=true:=by kernel_rfl
def Ap1:joinedFacts Tryz.prog 4 Tryz.f4 Rows.casetextErrorLineSpec Rows.casetextErrorLineRow = true:=Gx.Apv Aa0 Aq0 Apw Apx Apy Apz At6 At7 At8 At9 Ap0 Aq1 Aq2 (by kernel_rfl) (by kernel_rfl) (by kernel_rfl) rfl rfl (by kernel_rfl) (by kernel_rfl) (by kernel_rfl) (by kernel_rfl) (by kernel_rfl) (by kernel_rfl) (by kernel_rfl) (by kernel_rfl) (by kernel_rfl) rfl (by kernel_rfl) (by kernel_rfl) (by kernel_rfl) (by kernel_rfl)
def An4:Tryz.prog.funcNamed Rows.casetextErrorLineRow.func=some 4:=by kernel_rfl
def Ap2:Tryz.f4.isInstance Tryz.prog Rows.casetextErrorLineRow.origin Rows.casetextErrorLineRow.targs:=of_decide_eq_true (by kernel_rfl)
def Ap3:Tryz.f4.isWrapper Tryz.prog Rows.casetextErrorLineRow.wrapper Rows.casetextErrorLineRow.mainSum:=by unfold Func.isWrapper;first|(rw[if_pos (by decide +kernel)];kernel_rfl)|(rw[if_neg (by decide +kernel)];exact⟨rfl,rfl⟩)
end Go.Proofs.YtpeocjkboabibaaGreatDoor.casetextErrorLine
