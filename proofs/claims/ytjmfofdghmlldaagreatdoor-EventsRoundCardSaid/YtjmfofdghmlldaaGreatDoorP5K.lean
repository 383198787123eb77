/- A part of the proof: what it holds is said by each theorem. -/
import Derived.Test.YtjmfofdghmlldaaGreatDoorP4
set_option linter.unusedVariables false
set_option linter.defProp false
set_option linter.unusedSimpArgs false
namespace Go.Proofs.YtjmfofdghmlldaaGreatDoor.eventsRound
open Go.ChangeShapes Go.WideShapes Go.ChangeAt Go.RowKit
theorem reads (os:Os) {H:Type} (enc:TypeId×Value→H):∃ places,DataW.whole enc Tryz.prog ((Ait os).forCall (fun _ _=>0) ⟨#[],#[.slice none 0 0,.slice none 0 0,.slice none 0 0],[]⟩).memory Tryz.f12.params.toList Rows.eventsRoundSpec.vars false (#[.slice none 0 0,.slice none 0 0,.slice none 0 0]:Array Value).toList 8=some ([.nil,.nil,.nil],[],places) :=
 ⟨[],by kernel_rfl⟩
set_option maxRecDepth 100000 in
theorem lifted (os:Os) (started:os.Started) (H:Type) (enc:TypeId×Value→H) (F:Stop.Interp) :
  ReturnsInHanded {} Tryz.checked os 12 .any ((OpenSpec.ofChange Rows.eventsRoundSpec).preRow enc Tryz.prog Tryz.f12 Rows.eventsRoundRow.domain false Rows.eventsRoundRow.laid) (((OpenSpec.ofChange Rows.eventsRoundSpec).at F).post enc Tryz.prog Tryz.f12 false true false false):=by
 obtain⟨places,M⟩:=reads os enc
 refine returnsInHanded_of_row (C:=Tryz.checked) (s:=OpenSpec.ofChange Rows.eventsRoundSpec) A73 started (by kernel_rfl) Tryz.func12
  (witness_row_atRef (enc:=enc) (C:=Tryz.checked) false (Ait os) #[.slice none 0 0,.slice none 0 0,.slice none 0 0] (Aq9 os) (by kernel_rfl) (by kernel_rfl) (by kernel_rfl)
   (OpenSpec.preRow_of_cond 8 M (by kernel_rfl) (fun k O=>by cases O) (by kernel_rfl) (Aiu os _))) ?_
 intro W base c ds gs before f hW _ n z hL u _
 have d:∀ (j:Nat) t v,Tryz.f12.params[j]?=some t→c[j]?=some v→Value.okWide Tryz.prog W .any base t v:=f
 have hW':=hW
 obtain⟨p,q,hA0,hV,rfl,S,T⟩:=hW
 have hA:DataW.TrodAll enc Tryz.prog W 0 (fun _=>true) true Tryz.f12.params.toList c.toList ds p:=hA0
 rw[Tryz.params12] at hA d
 obtain⟨v0,vs0,d0,ds0,U,q0,y,rfl,rfl,h0,V⟩:=trodAll_cons hA
 obtain⟨v1,vs1,d1,ds1,X,q1,rfl,rfl,rfl,A,Y⟩:=trodAll_cons V
 obtain⟨v2,vs2,d2,ds2,p2,q2,rfl,rfl,rfl,D,r2⟩:=trodAll_cons Y
 obtain⟨rfl,rfl,rfl⟩:=trodAll_nil r2
 obtain rfl:c=#[v0,v1,v2]:=by cases c;simp_all
 obtain⟨rfl,rfl⟩:=trodVars_none hV
 obtain⟨a0,len0,cap0,rfl⟩:=okWide_slice Tryz.underlying33 (d 0 33 v0 rfl rfl)
 have G:=h0
 have lt0:∀ x ∈ U,x.block<W.heap.size:=by obtain⟨m,i⟩:=G;exact DataW.trod_lt m _ _ _ i
 obtain⟨l0,bk0,e0⟩:=Gx.fg (β:=fun _=>none) (h:=[]) h0
 obtain⟨a1,len1,cap1,rfl⟩:=okWide_slice Tryz.underlying33 (d 1 33 v1 rfl rfl)
 have I:=A
 have lt1:∀ x ∈ X,x.block<W.heap.size:=by obtain⟨m,i⟩:=I;exact DataW.trod_lt m _ _ _ i
 obtain⟨l1,bk1,e1⟩:=Gx.fg (β:=fun _=>none) (h:=[]) A
 obtain⟨a2,len2,cap2,rfl⟩:=okWide_slice Tryz.underlying33 (d 2 33 v2 rfl rfl)
 have L:=D
 have lt2:∀ x ∈ p2,x.block<W.heap.size:=by obtain⟨m,i⟩:=L;exact DataW.trod_lt m _ _ _ i
 obtain⟨l2,bk2,e2⟩:=Gx.fg (β:=fun _=>none) (h:=[]) D
 clear hA0 f
 have l:((Gx.fT 1000000000000).runK [.imm (Gx.Cf.Ao l0) l0.length 1 false false,.imm (Gx.Cf.Ao l1) l1.length 1 false false,.imm (Gx.Cf.Ao l2) l2.length 1 false false] [] fun v h=>some (v,h))=some (.bool true,[]) :=
  Gx.Cf.Azj (N:=1000000000000) ⟨by decide,by decide⟩ (Nat.le_trans bk0 (by decide)) (Nat.le_trans bk1 (by decide)) (K:=fun b=>some (Gx.AV.bool b,[]))
 refine(Gx.Aiq (Gx.fU 1000000000000) (Gx.FC e0 (Gx.FC e1 (Gx.FC e2 Gx.Aq5))) l (Az7 hL u)).mono fun e W' ⟨he,bel⟩=>?_
 subst he
 exact⟨_,rfl,_,_,_,[],_,[],hW',trodAll_mk1 (shut_bool Tryz.underlying4 _),(trodAll_cons_mk (Below.trod NZ (by kernel_rfl) (of_decide_eq_true (by kernel_rfl)) G bel lt0) (trodAll_cons_mk (Below.trod NZ (by kernel_rfl) (of_decide_eq_true (by kernel_rfl)) I bel lt1) (trodAll_cons_mk (Below.trod NZ (by kernel_rfl) (of_decide_eq_true (by kernel_rfl)) L bel lt2) trodAll_mk0))),rfl,bel.frame _,fun h=>by cases h⟩
end Go.Proofs.YtjmfofdghmlldaaGreatDoor.eventsRound

set_option maxRecDepth 100000
namespace Go.Proofs.YtjmfofdghmlldaaGreatDoor.eventsRound
open Go.ChangeShapes Go.WideShapes Go.ChangeAt Go.RowKit
theorem A9f:(Rows.eventsRoundRow.inPlace==Tryz.prog.inPlace 12)=true:=by kernel_rfl
theorem A9g:(Rows.eventsRoundRow.unfollowed==Tryz.prog.unfollowed 12)=true:=by kernel_rfl
theorem A9h:(Rows.eventsRoundRow.recurses==Tryz.prog.recurses 12)=true:=by kernel_rfl
theorem A9i:(Rows.eventsRoundRow.named==Tryz.prog.varsNamed 12)=true:=by kernel_rfl
theorem Ay9:joinedFacts Tryz.prog 12 Tryz.f12 Rows.eventsRoundSpec Rows.eventsRoundRow = true :=
 Gx.A3y NZ A6u A3z A30 A31 A32 A9f A9g A9h A9i A33 A6v A6w (by kernel_rfl) (by kernel_rfl) (by kernel_rfl) rfl rfl (by kernel_rfl) (by kernel_rfl) (by kernel_rfl) (by kernel_rfl) (by kernel_rfl) (by kernel_rfl) (by kernel_rfl) (by kernel_rfl) (by kernel_rfl) rfl (by kernel_rfl) (by kernel_rfl) (by kernel_rfl) (by kernel_rfl)
theorem Ape:Tryz.prog.funcNamed Rows.eventsRoundRow.func=some 12:=by kernel_rfl
theorem Aza:Tryz.f12.isInstance Tryz.prog Rows.eventsRoundRow.origin Rows.eventsRoundRow.targs:=of_decide_eq_true (by kernel_rfl)
theorem Azb:Tryz.f12.isWrapper Tryz.prog Rows.eventsRoundRow.wrapper Rows.eventsRoundRow.mainSum:=by unfold Func.isWrapper;first | (rw[if_pos (by decide +kernel)];kernel_rfl) | (rw[if_neg (by decide +kernel)];exact⟨rfl,rfl⟩)
end Go.Proofs.YtjmfofdghmlldaaGreatDoor.eventsRound
