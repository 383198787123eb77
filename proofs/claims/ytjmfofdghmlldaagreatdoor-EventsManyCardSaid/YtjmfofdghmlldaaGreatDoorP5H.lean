/- A part of the proof: what it holds is said by each theorem. -/
import Derived.Test.YtjmfofdghmlldaaGreatDoorP4
set_option linter.unusedVariables false
set_option linter.defProp false
set_option linter.unusedSimpArgs false
namespace Go.Proofs.YtjmfofdghmlldaaGreatDoor.eventsMany
open Go.ChangeShapes Go.WideShapes Go.ChangeAt Go.RowKit
theorem reads (os:Os) {H:Type} (enc:TypeId×Value→H):∃ places,DataW.whole enc Tryz.prog ((Ait os).forCall (fun _ _=>0) ⟨#[],#[.slice none 0 0,.int .i64 0,.int .i64 0],[]⟩).memory Tryz.f9.params.toList Rows.eventsManySpec.vars false (#[.slice none 0 0,.int .i64 0,.int .i64 0]:Array Value).toList 8=some ([.nil,.lit (.int .i64 0),.lit (.int .i64 0)],[],places) :=
 ⟨[],by kernel_rfl⟩
set_option maxRecDepth 100000 in
theorem lifted (os:Os) (started:os.Started) (H:Type) (enc:TypeId×Value→H) (F:Stop.Interp) :
  ReturnsInHanded {} Tryz.checked os 9 .any ((OpenSpec.ofChange Rows.eventsManySpec).preRow enc Tryz.prog Tryz.f9 Rows.eventsManyRow.domain false Rows.eventsManyRow.laid) (((OpenSpec.ofChange Rows.eventsManySpec).at F).post enc Tryz.prog Tryz.f9 false true false false):=by
 obtain⟨places,G⟩:=reads os enc
 refine returnsInHanded_of_row (C:=Tryz.checked) (s:=OpenSpec.ofChange Rows.eventsManySpec) A73 started (by kernel_rfl) Tryz.func9
  (witness_row_atRef (enc:=enc) (C:=Tryz.checked) false (Ait os) #[.slice none 0 0,.int .i64 0,.int .i64 0] (Aq9 os) (by kernel_rfl) (by kernel_rfl) (by kernel_rfl)
   (OpenSpec.preRow_of_cond 8 G (by kernel_rfl) (fun k I=>by cases I) (by kernel_rfl) (Aiu os _))) ?_
 intro W base c ds gs before f hW _ l y hL n _
 have d:∀ (j:Nat) t v,Tryz.f9.params[j]?=some t→c[j]?=some v→Value.okWide Tryz.prog W .any base t v:=f
 have hW':=hW
 obtain⟨p,q,hA0,hV,rfl,L,M⟩:=hW
 have hA:DataW.TrodAll enc Tryz.prog W 0 (fun _=>true) true Tryz.f9.params.toList c.toList ds p:=hA0
 rw[Tryz.params9] at hA d
 obtain⟨v0,vs0,d0,ds0,O,q0,u,rfl,rfl,h0,S⟩:=trodAll_cons hA
 obtain⟨v1,vs1,d1,ds1,p1,q1,rfl,rfl,rfl,T,U⟩:=trodAll_cons S
 obtain⟨v2,vs2,d2,ds2,p2,q2,rfl,rfl,rfl,V,X⟩:=trodAll_cons U
 obtain⟨rfl,rfl,rfl⟩:=trodAll_nil X
 obtain rfl:c=#[v0,v1,v2]:=by cases c;simp_all
 obtain⟨rfl,rfl⟩:=trodVars_none hV
 obtain⟨a0,len0,cap0,rfl⟩:=okWide_slice Tryz.underlying33 (d 0 33 v0 rfl rfl)
 have z:=h0
 have lt0:∀ x ∈ O,x.block<W.heap.size:=by obtain⟨m,Y⟩:=z;exact DataW.trod_lt m _ _ _ Y
 obtain⟨l0,bk0,e0⟩:=Gx.fg (β:=fun _=>none) (h:=[]) h0
 obtain⟨i1,rfl,rfl,rfl,A⟩:=open_int Tryz.underlying3 (d 1 3 v1 rfl rfl) T
 have b1:=Gx.A37 A
 obtain⟨i2,rfl,rfl,rfl,D⟩:=open_int Tryz.underlying3 (d 2 3 v2 rfl rfl) V
 have b2:=Gx.A37 D
 clear hA0 f
 have i:((Gx.iD 1000000000000).runK [.imm (Gx.Cf.Ao l0) l0.length 1 false false,.int .i64 i1,.int .i64 i2] [] fun v h=>some (v,h))=some (.bool true,[]) :=
  Gx.Cf.A23 (N:=1000000000000) rfl ⟨by decide,by decide⟩ (Nat.le_trans bk0 (by decide)) (K:=fun b=>some (Gx.AV.bool b,[]))
 refine(Gx.Aiq (Gx.iE 1000000000000) (Gx.FC e0 (Gx.FC Gx.Az2 (Gx.FC Gx.Az2 Gx.Aq5))) i (Az7 hL n)).mono fun e W' ⟨he,bel⟩=>?_
 subst he
 exact⟨_,rfl,_,_,_,[],_,[],hW',trodAll_mk1 (shut_bool Tryz.underlying4 _),(trodAll_cons_mk (Below.trod NZ (by kernel_rfl) (of_decide_eq_true (by kernel_rfl)) z bel lt0) (trodAll_cons_mk (shut_int Tryz.underlying3 A) (trodAll_cons_mk (shut_int Tryz.underlying3 D) trodAll_mk0))),rfl,bel.frame _,fun h=>by cases h⟩
end Go.Proofs.YtjmfofdghmlldaaGreatDoor.eventsMany

set_option maxRecDepth 100000
namespace Go.Proofs.YtjmfofdghmlldaaGreatDoor.eventsMany
open Go.ChangeShapes Go.WideShapes Go.ChangeAt Go.RowKit
theorem A9f:(Rows.eventsManyRow.inPlace==Tryz.prog.inPlace 9)=true:=by kernel_rfl
theorem A9g:(Rows.eventsManyRow.unfollowed==Tryz.prog.unfollowed 9)=true:=by kernel_rfl
theorem A9h:(Rows.eventsManyRow.recurses==Tryz.prog.recurses 9)=true:=by kernel_rfl
theorem A9i:(Rows.eventsManyRow.named==Tryz.prog.varsNamed 9)=true:=by kernel_rfl
theorem Ay9:joinedFacts Tryz.prog 9 Tryz.f9 Rows.eventsManySpec Rows.eventsManyRow = true :=
 Gx.A3y NZ A6u A3z A30 A31 A32 A9f A9g A9h A9i A33 A6v A6w (by kernel_rfl) (by kernel_rfl) (by kernel_rfl) rfl rfl (by kernel_rfl) (by kernel_rfl) (by kernel_rfl) (by kernel_rfl) (by kernel_rfl) (by kernel_rfl) (by kernel_rfl) (by kernel_rfl) (by kernel_rfl) rfl (by kernel_rfl) (by kernel_rfl) (by kernel_rfl) (by kernel_rfl)
theorem Ape:Tryz.prog.funcNamed Rows.eventsManyRow.func=some 9:=by kernel_rfl
theorem Aza:Tryz.f9.isInstance Tryz.prog Rows.eventsManyRow.origin Rows.eventsManyRow.targs:=of_decide_eq_true (by kernel_rfl)
theorem Azb:Tryz.f9.isWrapper Tryz.prog Rows.eventsManyRow.wrapper Rows.eventsManyRow.mainSum:=by unfold Func.isWrapper;first | (rw[if_pos (by decide +kernel)];kernel_rfl) | (rw[if_neg (by decide +kernel)];exact⟨rfl,rfl⟩)
end Go.Proofs.YtjmfofdghmlldaaGreatDoor.eventsMany
