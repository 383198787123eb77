/- A part of the proof; each theorem says what it holds. -/
import Derived.Test.YtnlplnjnonldpaaGreatDoorP5
set_option linter.unusedVariables false
set_option linter.defProp false
set_option linter.unusedSimpArgs false
namespace Go.Proofs.YtnlplnjnonldpaaGreatDoor.branchlogRound
open Go.ChangeShapes Go.WideShapes Go.ChangeAt Go.RowKit
theorem reads (os:Os) {H:Type} (enc:TypeId×Value→H):∃ places,DataW.whole enc Tryz.prog ((Amc os).forCall (fun _ _=>0) ⟨#[],#[.slice none 0 0,.slice none 0 0,.slice none 0 0,.agg #[.slice none 0 0,.slice none 0 0,.slice none 0 0],.bool false],[]⟩).memory Tryz.f3.params.toList Rows.branchlogRoundSpec.vars false (#[.slice none 0 0,.slice none 0 0,.slice none 0 0,.agg #[.slice none 0 0,.slice none 0 0,.slice none 0 0],.bool false]:Array Value).toList 8=some ([.nil,.nil,.nil,.agg [.nil,.nil,.nil],.lit (.bool false)],[],places) :=
 ⟨[],by kernel_rfl⟩
set_option maxRecDepth 100000 in
theorem lifted (os:Os) (started:os.Started) (H:Type) (enc:TypeId×Value→H) (F:Stop.Interp) :
  ReturnsInHanded {} Tryz.checked os 3 .any ((OpenSpec.ofChange Rows.branchlogRoundSpec).preRow enc Tryz.prog Tryz.f3 Rows.branchlogRoundRow.domain false Rows.branchlogRoundRow.laid) (((OpenSpec.ofChange Rows.branchlogRoundSpec).at F).post enc Tryz.prog Tryz.f3 false true false false):=by
 obtain⟨places,hx⟩:=reads os enc
 refine returnsInHanded_of_row (C:=Tryz.checked) (s:=OpenSpec.ofChange Rows.branchlogRoundSpec) Ayp started (by kernel_rfl) Tryz.func3
  (witness_row_atRef (enc:=enc) (C:=Tryz.checked) false (Amc os) #[.slice none 0 0,.slice none 0 0,.slice none 0 0,.agg #[.slice none 0 0,.slice none 0 0,.slice none 0 0],.bool false] (Art os) (by kernel_rfl) (by kernel_rfl) (by kernel_rfl)
   (OpenSpec.preRow_of_cond 8 hx (by kernel_rfl) (fun k hk=>by cases hk) (by kernel_rfl) (An7 os _))) ?_
 intro W base u ds gs before z hW _ D S hL G _
 have n:∀ (j:Nat) t v,Tryz.f3.params[j]?=some t→u[j]?=some v→Value.okWide Tryz.prog W .any base t v:=z
 have hW':=hW
 obtain⟨p,q,hA0,hV,rfl,hfz,hnd⟩:=hW
 have hA:DataW.TrodAll enc Tryz.prog W 0 (fun _=>true) true Tryz.f3.params.toList u.toList ds p:=hA0
 rw[Tryz.params3] at hA n
 obtain⟨v0,vs0,d0,ds0,p0,q0,I,rfl,rfl,T,r0⟩:=trodAll_cons hA
 obtain⟨v1,vs1,d1,ds1,p1,q1,rfl,rfl,rfl,U,r1⟩:=trodAll_cons r0
 obtain⟨v2,vs2,d2,ds2,p2,q2,rfl,rfl,rfl,V,r2⟩:=trodAll_cons r1
 obtain⟨v3,vs3,d3,ds3,p3,q3,rfl,rfl,rfl,X,r3⟩:=trodAll_cons r2
 obtain⟨v4,vs4,d4,ds4,p4,q4,rfl,rfl,rfl,h4,r4⟩:=trodAll_cons r3
 obtain⟨rfl,rfl,rfl⟩:=trodAll_nil r4
 obtain rfl:u=#[v0,v1,v2,v3,v4]:=by cases u;simp_all
 obtain⟨rfl,rfl⟩:=trodVars_none hV
 obtain⟨a0,len0,cap0,rfl⟩:=okWide_slice Tryz.underlying22 (n 0 22 v0 rfl rfl)
 have Y:=T
 have lt0:∀ x ∈ p0,x.block<W.heap.size:=by obtain⟨m,A⟩:=Y;exact DataW.trod_lt m _ _ _ A
 obtain⟨l0,bk0,e0⟩:=Gx.kz (β:=fun _=>none) (h:=[]) T
 obtain⟨a1,len1,cap1,rfl⟩:=okWide_slice Tryz.underlying22 (n 1 22 v1 rfl rfl)
 have k1:=U
 have lt1:∀ x ∈ p1,x.block<W.heap.size:=by obtain⟨m,A⟩:=k1;exact DataW.trod_lt m _ _ _ A
 obtain⟨l1,bk1,e1⟩:=Gx.kz (β:=fun _=>none) (h:=[]) U
 obtain⟨a2,len2,cap2,rfl⟩:=okWide_slice Tryz.underlying22 (n 2 22 v2 rfl rfl)
 have k2:=V
 have lt2:∀ x ∈ p2,x.block<W.heap.size:=by obtain⟨m,A⟩:=k2;exact DataW.trod_lt m _ _ _ A
 obtain⟨l2,bk2,e2⟩:=Gx.kz (β:=fun _=>none) (h:=[]) V
 obtain L:=Gx.ve Tryz.underlying27 (n 3 27 v3 rfl rfl)
 have k3:=X
 have lt3:∀ x ∈ p3,x.block<W.heap.size:=by obtain⟨m,A⟩:=k3;exact DataW.trod_lt m _ _ _ A
 obtain⟨U3,C3,P3,ok3,e3⟩:=Gx.Atp (β:=fun _=>none) (h:=[]) L X
 obtain⟨i4,rfl,rfl,rfl⟩:=open_bool Tryz.underlying4 (n 4 4 v4 rfl rfl) h4
 clear hA0 z
 have B:((Gx.R9 1000000000000).runK [.imm (Gx.Cf.Ap l0) l0.length 1 false false,.imm (Gx.Cf.Ap l1) l1.length 1 false false,.imm (Gx.Cf.Ap l2) l2.length 1 false false,.agg [.imm (U3.flatMap Gx.Bl.Cc) U3.length 2 false false,.imm (C3.flatMap Gx.Bl.CutD.av) C3.length 6 false false,.imm (P3.flatMap Gx.Bl.NodeD.av) P3.length 5 false false],.bool i4] [] fun v h=>some (v,h))=some (.bool true,[]) :=
  Gx.Bl.Als (N:=1000000000000) ⟨by decide,by decide⟩ ok3 (K:=fun b=>some (Gx.AV.bool b,[]))
 refine(Gx.An5 (Gx.LF 1000000000000) (Gx.II e0 (Gx.II e1 (Gx.II e2 (Gx.II e3 (Gx.II Gx.Aru Gx.Arv))))) B (Aud hL G)).mono fun e W' ⟨he,bel⟩=>?_
 subst he
 exact⟨_,rfl,_,_,_,[],_,[],hW',trodAll_mk1 (shut_bool Tryz.underlying4 _),(trodAll_cons_mk (Below.trod SB (by kernel_rfl) (of_decide_eq_true (by kernel_rfl)) Y bel lt0) (trodAll_cons_mk (Below.trod SB (by kernel_rfl) (of_decide_eq_true (by kernel_rfl)) k1 bel lt1) (trodAll_cons_mk (Below.trod SB (by kernel_rfl) (of_decide_eq_true (by kernel_rfl)) k2 bel lt2) (trodAll_cons_mk (Below.trod SB (by kernel_rfl) (of_decide_eq_true (by kernel_rfl)) k3 bel lt3) (trodAll_cons_mk (shut_bool Tryz.underlying4 _) trodAll_mk0))))),rfl,bel.frame _,fun h=>by cases h⟩
end Go.Proofs.YtnlplnjnonldpaaGreatDoor.branchlogRound
set_option maxRecDepth 100000
namespace Go.Proofs.YtnlplnjnonldpaaGreatDoor.branchlogRound
open Go.ChangeShapes Go.WideShapes Go.ChangeAt Go.RowKit
theorem Azw:(Rows.branchlogRoundRow.inPlace==Tryz.prog.inPlace 3)=true:=by kernel_rfl
theorem Azx:(Rows.branchlogRoundRow.unfollowed==Tryz.prog.unfollowed 3)=true:=by kernel_rfl
theorem Azy:(Rows.branchlogRoundRow.recurses==Tryz.prog.recurses 3)=true:=by kernel_rfl
theorem Azz:(Rows.branchlogRoundRow.named==Tryz.prog.varsNamed 3)=true:=by kernel_rfl
theorem Axc:joinedFacts Tryz.prog 3 Tryz.f3 Rows.branchlogRoundSpec Rows.branchlogRoundRow = true :=
 Gx.Awe SB Axn Awf Awg Awh Awi Azw Azx Azy Azz Awj Axo Axp (by kernel_rfl) (by kernel_rfl) (by kernel_rfl) rfl rfl (by kernel_rfl) (by kernel_rfl) (by kernel_rfl) (by kernel_rfl) (by kernel_rfl) (by kernel_rfl) (by kernel_rfl) (by kernel_rfl) (by kernel_rfl) rfl (by kernel_rfl) (by kernel_rfl) (by kernel_rfl) (by kernel_rfl)
theorem Avl:Tryz.prog.funcNamed Rows.branchlogRoundRow.func=some 3:=by kernel_rfl
theorem Axd:Tryz.f3.isInstance Tryz.prog Rows.branchlogRoundRow.origin Rows.branchlogRoundRow.targs:=of_decide_eq_true (by kernel_rfl)
theorem Axe:Tryz.f3.isWrapper Tryz.prog Rows.branchlogRoundRow.wrapper Rows.branchlogRoundRow.mainSum:=by unfold Func.isWrapper;first | (rw[if_pos (by decide +kernel)];kernel_rfl) | (rw[if_neg (by decide +kernel)];exact⟨rfl,rfl⟩)
end Go.Proofs.YtnlplnjnonldpaaGreatDoor.branchlogRound
