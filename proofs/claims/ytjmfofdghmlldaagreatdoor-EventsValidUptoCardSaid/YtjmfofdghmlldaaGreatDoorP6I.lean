/- A part of the proof: what it holds is said by each theorem. -/
import Derived.Test.YtjmfofdghmlldaaGreatDoorP5V
set_option linter.unusedVariables false
set_option linter.defProp false
set_option linter.unusedSimpArgs false
namespace Go.Proofs.YtjmfofdghmlldaaGreatDoor.eventsValid
open Go.ChangeShapes Go.WideShapes Go.ChangeAt Go.RowKit
theorem reads (os:Os) {H:Type} (enc:TypeId×Value→H):∃ places,DataW.whole enc Tryz.prog ((Akk os).forCall (fun _ _=>0) ⟨#[],#[.agg #[.int .i64 0,.slice none 0 0,.slice none 0 0,.slice none 0 0,.slice none 0 0,.slice none 0 0,.slice none 0 0,.slice none 0 0],.slice none 0 0,.agg #[.int .i64 0,.int .i64 0,.int .i64 0,.int .i64 0],.bool false],[]⟩).memory Tryz.f10.params.toList Rows.eventsValidSpec.vars false (#[.agg #[.int .i64 0,.slice none 0 0,.slice none 0 0,.slice none 0 0,.slice none 0 0,.slice none 0 0,.slice none 0 0,.slice none 0 0],.slice none 0 0,.agg #[.int .i64 0,.int .i64 0,.int .i64 0,.int .i64 0],.bool false]:Array Value).toList 8=some ([.agg [.lit (.int .i64 0),.nil,.nil,.nil,.nil,.nil,.nil,.nil],.nil,.agg [.lit (.int .i64 0),.lit (.int .i64 0),.lit (.int .i64 0),.lit (.int .i64 0)],.lit (.bool false)],[],places) :=
 ⟨[],by kernel_rfl⟩
set_option maxRecDepth 100000 in
theorem lifted (os:Os) (started:os.Started) (H:Type) (enc:TypeId×Value→H) (F:Stop.Interp) :
  ReturnsInHanded {} Tryz.checked os 10 .any ((Rows.OpenSpec.upto Rows.eventsValidSpec).preRow enc Tryz.prog Tryz.f10 Rows.eventsValidUptoRow.domain false Rows.eventsValidUptoRow.laid) (((Rows.OpenSpec.upto Rows.eventsValidSpec).at F).post enc Tryz.prog Tryz.f10 false true false false):=by
 obtain⟨places,T⟩:=reads os enc
 refine returnsInHanded_of_row (C:=Tryz.checked) (s:=Rows.OpenSpec.upto Rows.eventsValidSpec) Ba1 started (by kernel_rfl) Tryz.func10
  (witness_row_atRef (enc:=enc) (C:=Tryz.checked) false (Akk os) #[.agg #[.int .i64 0,.slice none 0 0,.slice none 0 0,.slice none 0 0,.slice none 0 0,.slice none 0 0,.slice none 0 0,.slice none 0 0],.slice none 0 0,.agg #[.int .i64 0,.int .i64 0,.int .i64 0,.int .i64 0],.bool false] (Ath os) (by kernel_rfl) (by kernel_rfl) (by kernel_rfl)
   (OpenSpec.preRow_of_cond 8 T (by kernel_rfl) (fun k U=>by cases U;kernel_rfl) (by kernel_rfl) (Akl os _))) ?_
 intro W base d ds gs before f hW _ i G hL u _
 have c:∀ (j:Nat) t v,Tryz.f10.params[j]?=some t→d[j]?=some v→Value.okWide Tryz.prog W .any base t v:=f
 have hW':=hW
 obtain⟨p,q,hA0,hV,rfl,V,X⟩:=hW
 have hA:DataW.TrodAll enc Tryz.prog W 0 (fun _=>true) true Tryz.f10.params.toList d.toList ds p:=hA0
 rw[Tryz.params10] at hA c
 obtain⟨v0,vs0,d0,ds0,Y,q0,y,rfl,rfl,h0,r0⟩:=trodAll_cons hA
 obtain⟨v1,vs1,d1,ds1,p1,q1,rfl,rfl,rfl,I,r1⟩:=trodAll_cons r0
 obtain⟨v2,vs2,d2,ds2,p2,q2,rfl,rfl,rfl,L,r2⟩:=trodAll_cons r1
 obtain⟨v3,vs3,d3,ds3,p3,q3,rfl,rfl,rfl,h3,r3⟩:=trodAll_cons r2
 obtain⟨rfl,rfl,rfl⟩:=trodAll_nil r3
 obtain rfl:d=#[v0,v1,v2,v3]:=by cases d;simp_all
 obtain⟨rfl,rfl⟩:=trodVars_none hV
 have z:Rows.uptoBulkAll ([d0,d1,d2,d3]++[])≤1048576:=of_decide_eq_true (i _ rfl)
 simp only[List.append_nil,Rows.uptoBulkAll] at z
 obtain A:=Gx.MV Tryz.underlying70 (c 0 70 v0 rfl rfl)
 have M:=h0
 have lt0:∀ x ∈ Y,x.block<W.heap.size:=by obtain⟨m,l⟩:=M;exact DataW.trod_lt m _ _ _ l
 obtain⟨H0,res0,bs0,ls0,us0,ss0,ts0,os0,ok0,e0⟩:=Gx.Alo (β:=fun _=>none) (h:=[]) A h0 (by omega)
 obtain⟨a1,len1,cap1,rfl⟩:=okWide_slice Tryz.underlying33 (c 1 33 v1 rfl rfl)
 have O:=I
 have lt1:∀ x ∈ p1,x.block<W.heap.size:=by obtain⟨m,l⟩:=O;exact DataW.trod_lt m _ _ _ l
 obtain⟨l1,bk1,e1⟩:=Gx.sZ (β:=fun _=>none) (h:=[]) I
 obtain D:=Gx.MV Tryz.underlying78 (c 2 78 v2 rfl rfl)
 have S:=L
 have lt2:∀ x ∈ p2,x.block<W.heap.size:=by obtain⟨m,l⟩:=S;exact DataW.trod_lt m _ _ _ l
 obtain⟨xa2,xb2,xc2,xd2,e2⟩:=Gx.Az4 (β:=fun _=>none) (h:=[]) D L
 obtain⟨i3,rfl,rfl,rfl⟩:=open_bool Tryz.underlying4 (c 3 4 v3 rfl rfl) h3
 clear hA0 f
 have n:((Gx.fg 1000000000000).runK [.agg (Gx.A4u H0 res0 bs0 ls0 us0 ss0 ts0 os0).av,.imm (Gx.Cf.Aq l1) l1.length 1 false false,.agg [.int .i64 xa2,.int .i64 xb2,.int .i64 xc2,.int .i64 xd2],.bool i3] [] fun v h=>some (v,h))=some (.bool true,[]) :=
  Gx.Cf.A1z (N:=1000000000000) (Gx.Aut (by decide) ok0) ⟨by decide,by decide⟩ (Nat.le_trans bk1 (by decide)) (K:=fun b=>some (Gx.AV.bool b,[]))
 refine(Gx.Akh (Gx.fh 1000000000000) (Gx.Q5 e0 (Gx.Q5 e1 (Gx.Q5 e2 (Gx.Q5 Gx.Atc Gx.Atd)))) n (A2w hL u)).mono fun e W' ⟨he,bel⟩=>?_
 subst he
 exact⟨_,rfl,_,_,_,[],_,[],hW',trodAll_mk1 (shut_bool Tryz.underlying4 _),(trodAll_cons_mk (Below.trod Vg (by kernel_rfl) (of_decide_eq_true (by kernel_rfl)) M bel lt0) (trodAll_cons_mk (Below.trod Vg (by kernel_rfl) (of_decide_eq_true (by kernel_rfl)) O bel lt1) (trodAll_cons_mk (Below.trod Vg (by kernel_rfl) (of_decide_eq_true (by kernel_rfl)) S bel lt2) (trodAll_cons_mk (shut_bool Tryz.underlying4 _) trodAll_mk0)))),rfl,bel.frame _,fun h=>by cases h⟩
end Go.Proofs.YtjmfofdghmlldaaGreatDoor.eventsValid

set_option maxRecDepth 100000
namespace Go.Proofs.YtjmfofdghmlldaaGreatDoor.eventsValid
open Go.ChangeShapes Go.WideShapes Go.ChangeAt Go.RowKit
theorem Bcf:(Rows.eventsValidUptoRow.inPlace==Tryz.prog.inPlace 10)=true:=by kernel_rfl
theorem Bcg:(Rows.eventsValidUptoRow.unfollowed==Tryz.prog.unfollowed 10)=true:=by kernel_rfl
theorem Bch:(Rows.eventsValidUptoRow.recurses==Tryz.prog.recurses 10)=true:=by kernel_rfl
theorem Bci:(Rows.eventsValidUptoRow.named==Tryz.prog.varsNamed 10)=true:=by kernel_rfl
theorem A10:joinedFacts Tryz.prog 10 Tryz.f10 Rows.eventsValidSpec Rows.eventsValidUptoRow = true :=
 Gx.A6n Vg A9n A6o A6p A6q A6r Bcf Bcg Bch Bci A6s A9o A9p (by kernel_rfl) (by kernel_rfl) (by kernel_rfl) rfl rfl (by kernel_rfl) (by kernel_rfl) (by kernel_rfl) (by kernel_rfl) (by kernel_rfl) (by kernel_rfl) (by kernel_rfl) (by kernel_rfl) (by kernel_rfl) rfl (by kernel_rfl) (by kernel_rfl) (by kernel_rfl) (by kernel_rfl)
theorem Arl:Tryz.prog.funcNamed Rows.eventsValidUptoRow.func=some 10:=by kernel_rfl
theorem A11:Tryz.f10.isInstance Tryz.prog Rows.eventsValidUptoRow.origin Rows.eventsValidUptoRow.targs:=of_decide_eq_true (by kernel_rfl)
theorem A12:Tryz.f10.isWrapper Tryz.prog Rows.eventsValidUptoRow.wrapper Rows.eventsValidUptoRow.mainSum:=by unfold Func.isWrapper;first | (rw[if_pos (by decide +kernel)];kernel_rfl) | (rw[if_neg (by decide +kernel)];exact⟨rfl,rfl⟩)
end Go.Proofs.YtjmfofdghmlldaaGreatDoor.eventsValid
