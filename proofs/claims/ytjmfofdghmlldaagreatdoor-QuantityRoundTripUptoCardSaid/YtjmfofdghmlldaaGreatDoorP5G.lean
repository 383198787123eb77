/- A part of the proof: what it holds is said by each theorem. -/
import Derived.Test.YtjmfofdghmlldaaGreatDoorP4G
set_option linter.unusedVariables false
set_option linter.defProp false
set_option linter.unusedSimpArgs false
namespace Go.Proofs.YtjmfofdghmlldaaGreatDoor.quantityRoundTrip
open Go.ChangeShapes Go.WideShapes Go.ChangeAt Go.RowKit
theorem reads (os:Os) {H:Type} (enc:TypeId×Value→H):∃ places,DataW.whole enc Tryz.prog ((Ag7 os).forCall (fun _ _=>0) ⟨#[],#[.agg #[.bool false,.slice none 0 0,.slice none 0 0],.slice none 0 0],[]⟩).memory Tryz.f13.params.toList Rows.quantityRoundTripSpec.vars false (#[.agg #[.bool false,.slice none 0 0,.slice none 0 0],.slice none 0 0]:Array Value).toList 8=some ([.agg [.agg [.lit (.bool false),.nil],.nil],.nil],[],places) :=
 ⟨[],by kernel_rfl⟩
set_option maxRecDepth 100000 in
theorem lifted (os:Os) (started:os.Started) (H:Type) (enc:TypeId×Value→H) (F:Stop.Interp) :
  ReturnsInHanded {} Tryz.checked os 13 .any ((Rows.OpenSpec.upto Rows.quantityRoundTripSpec).preRow enc Tryz.prog Tryz.f13 Rows.quantityRoundTripUptoRow.domain false Rows.quantityRoundTripUptoRow.laid) (((Rows.OpenSpec.upto Rows.quantityRoundTripSpec).at F).post enc Tryz.prog Tryz.f13 false true false false):=by
 obtain⟨places,S⟩:=reads os enc
 refine returnsInHanded_of_row (C:=Tryz.checked) (s:=Rows.OpenSpec.upto Rows.quantityRoundTripSpec) Ai9 started (by kernel_rfl) Tryz.func13
  (witness_row_atRef (enc:=enc) (C:=Tryz.checked) false (Ag7 os) #[.agg #[.bool false,.slice none 0 0,.slice none 0 0],.slice none 0 0] rfl (by kernel_rfl) (by kernel_rfl) (by kernel_rfl)
   (OpenSpec.preRow_of_cond 8 S (by kernel_rfl) (fun k T=>by cases T;kernel_rfl) (by kernel_rfl) (Adq os _))) ?_
 intro W base c ds gs before d hW _ i G hL n _
 have f:∀ (j:Nat) t v,Tryz.f13.params[j]?=some t→c[j]?=some v→Value.okWide Tryz.prog W .any base t v:=d
 have hW':=hW
 obtain⟨p,q,hA0,hV,rfl,U,V⟩:=hW
 have hA:DataW.TrodAll enc Tryz.prog W 0 (fun _=>true) true Tryz.f13.params.toList c.toList ds p:=hA0
 rw[Tryz.params13] at hA f
 obtain⟨v0,vs0,X,ds0,Y,q0,u,rfl,rfl,I,r0⟩:=trodAll_cons hA
 obtain⟨v1,vs1,d1,ds1,p1,q1,rfl,rfl,rfl,L,r1⟩:=trodAll_cons r0
 obtain⟨rfl,rfl,rfl⟩:=trodAll_nil r1
 obtain rfl:c=#[v0,v1]:=by cases c;simp_all
 obtain⟨rfl,rfl⟩:=trodVars_none hV
 have y:Rows.uptoBulkAll ([X,d1]++[])≤1048576:=of_decide_eq_true (i _ rfl)
 simp only[List.append_nil,Rows.uptoBulkAll] at y
 obtain z:=Gx.mc Tryz.underlying26 (f 0 26 v0 rfl rfl)
 have M:=I
 have lt0:∀ x ∈ Y,x.block<W.heap.size:=by obtain⟨m,A⟩:=M;exact DataW.trod_lt m _ _ _ A
 obtain⟨neg0,la0,lb0,B,D,bk0,e0⟩:=Gx.Ad0 (β:=fun _=>none) (h:=[]) z I
 obtain⟨a1,len1,cap1,rfl⟩:=okWide_slice Tryz.underlying56 (f 1 56 v1 rfl rfl)
 have O:=L
 have lt1:∀ x ∈ p1,x.block<W.heap.size:=by obtain⟨m,A⟩:=O;exact DataW.trod_lt m _ _ _ A
 obtain⟨l1,bk1,e1⟩:=Gx.xW (β:=fun _=>none) (h:=[]) L
 clear hA0 d
 have l:((Gx.T4 1000000000000).runK [.agg [.bool neg0,.imm (Gx.Aa la0) la0.length 1 false false,.imm (Gx.Aa lb0) lb0.length 1 false false],.imm (Gx.Bj l1) l1.length 1 false false] [] fun v h=>some (v,h))=some (.bool true,[]) :=
  Gx.wg (N:=1000000000000) B D ⟨by omega,by omega⟩ (K:=fun b=>some (Gx.AV.bool b,[]))
 refine(Gx.zt (Gx.T5 1000000000000) (Gx.oN e0 (Gx.oN e1 Gx.Adr)) l (Ag6 hL n)).mono fun e W' ⟨he,bel⟩=>?_
 subst he
 exact⟨_,rfl,_,_,_,[],_,[],hW',trodAll_mk1 (shut_bool Tryz.underlying4 _),(trodAll_cons_mk (Below.trod iM (by kernel_rfl) (of_decide_eq_true (by kernel_rfl)) M bel lt0) (trodAll_cons_mk (Below.trod iM (by kernel_rfl) (of_decide_eq_true (by kernel_rfl)) O bel lt1) trodAll_mk0)),rfl,bel.frame _,fun h=>by cases h⟩
end Go.Proofs.YtjmfofdghmlldaaGreatDoor.quantityRoundTrip

set_option maxRecDepth 100000
namespace Go.Proofs.YtjmfofdghmlldaaGreatDoor.quantityRoundTrip
open Go.ChangeShapes Go.WideShapes Go.ChangeAt Go.RowKit
theorem Aj8:(Rows.quantityRoundTripUptoRow.inPlace==Tryz.prog.inPlace 13)=true:=by kernel_rfl
theorem Aj9:(Rows.quantityRoundTripUptoRow.unfollowed==Tryz.prog.unfollowed 13)=true:=by kernel_rfl
theorem Aka:(Rows.quantityRoundTripUptoRow.recurses==Tryz.prog.recurses 13)=true:=by kernel_rfl
theorem Akb:(Rows.quantityRoundTripUptoRow.named==Tryz.prog.varsNamed 13)=true:=by kernel_rfl
theorem Ah3:joinedFacts Tryz.prog 13 Tryz.f13 Rows.quantityRoundTripSpec Rows.quantityRoundTripUptoRow = true :=
 Gx.Ag5 iM Aic Ag8 Ag9 Aha Ahb Aj8 Aj9 Aka Akb Ahc Aid Aie (by kernel_rfl) (by kernel_rfl) (by kernel_rfl) rfl rfl (by kernel_rfl) (by kernel_rfl) (by kernel_rfl) (by kernel_rfl) (by kernel_rfl) (by kernel_rfl) (by kernel_rfl) (by kernel_rfl) (by kernel_rfl) rfl (by kernel_rfl) (by kernel_rfl) (by kernel_rfl) (by kernel_rfl)
theorem Af9:Tryz.prog.funcNamed Rows.quantityRoundTripUptoRow.func=some 13:=by kernel_rfl
theorem Ah4:Tryz.f13.isInstance Tryz.prog Rows.quantityRoundTripUptoRow.origin Rows.quantityRoundTripUptoRow.targs:=of_decide_eq_true (by kernel_rfl)
theorem Ah5:Tryz.f13.isWrapper Tryz.prog Rows.quantityRoundTripUptoRow.wrapper Rows.quantityRoundTripUptoRow.mainSum:=by unfold Func.isWrapper;first | (rw[if_pos (by decide +kernel)];kernel_rfl) | (rw[if_neg (by decide +kernel)];exact⟨rfl,rfl⟩)
end Go.Proofs.YtjmfofdghmlldaaGreatDoor.quantityRoundTrip
