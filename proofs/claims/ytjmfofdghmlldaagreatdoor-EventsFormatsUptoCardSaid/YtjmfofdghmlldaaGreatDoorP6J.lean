/- A part of the proof: what it holds is said by each theorem. -/
import Derived.Test.YtjmfofdghmlldaaGreatDoorP5V
set_option linter.unusedVariables false
set_option linter.defProp false
set_option linter.unusedSimpArgs false
namespace Go.Proofs.YtjmfofdghmlldaaGreatDoor.eventsFormats
open Go.ChangeShapes Go.WideShapes Go.ChangeAt Go.RowKit
theorem reads (os:Os) {H:Type} (enc:TypeId×Value→H):∃ places,DataW.whole enc Tryz.prog ((Akk os).forCall (fun _ _=>0) ⟨#[],#[.agg #[.int .i64 0,.slice none 0 0,.slice none 0 0,.slice none 0 0,.slice none 0 0,.slice none 0 0,.slice none 0 0,.slice none 0 0],.slice none 0 0,.slice none 0 0,.slice none 0 0,.bool false],[]⟩).memory Tryz.f11.params.toList Rows.eventsFormatsSpec.vars false (#[.agg #[.int .i64 0,.slice none 0 0,.slice none 0 0,.slice none 0 0,.slice none 0 0,.slice none 0 0,.slice none 0 0,.slice none 0 0],.slice none 0 0,.slice none 0 0,.slice none 0 0,.bool false]:Array Value).toList 8=some ([.agg [.lit (.int .i64 0),.nil,.nil,.nil,.nil,.nil,.nil,.nil],.nil,.nil,.nil,.lit (.bool false)],[],places) :=
 ⟨[],by kernel_rfl⟩
set_option maxRecDepth 100000 in
theorem lifted (os:Os) (started:os.Started) (H:Type) (enc:TypeId×Value→H) (F:Stop.Interp) :
  ReturnsInHanded {} Tryz.checked os 11 .any ((Rows.OpenSpec.upto Rows.eventsFormatsSpec).preRow enc Tryz.prog Tryz.f11 Rows.eventsFormatsUptoRow.domain false Rows.eventsFormatsUptoRow.laid) (((Rows.OpenSpec.upto Rows.eventsFormatsSpec).at F).post enc Tryz.prog Tryz.f11 false true false false):=by
 obtain⟨places,U⟩:=reads os enc
 refine returnsInHanded_of_row (C:=Tryz.checked) (s:=Rows.OpenSpec.upto Rows.eventsFormatsSpec) Ba1 started (by kernel_rfl) Tryz.func11
  (witness_row_atRef (enc:=enc) (C:=Tryz.checked) false (Akk os) #[.agg #[.int .i64 0,.slice none 0 0,.slice none 0 0,.slice none 0 0,.slice none 0 0,.slice none 0 0,.slice none 0 0,.slice none 0 0],.slice none 0 0,.slice none 0 0,.slice none 0 0,.bool false] (Ath os) (by kernel_rfl) (by kernel_rfl) (by kernel_rfl)
   (OpenSpec.preRow_of_cond 8 U (by kernel_rfl) (fun k V=>by cases V;kernel_rfl) (by kernel_rfl) (Akl os _))) ?_
 intro W base d ds gs before f hW _ i D hL u _
 have c:∀ (j:Nat) t v,Tryz.f11.params[j]?=some t→d[j]?=some v→Value.okWide Tryz.prog W .any base t v:=f
 have hW':=hW
 obtain⟨p,q,hA0,hV,rfl,X,Y⟩:=hW
 have hA:DataW.TrodAll enc Tryz.prog W 0 (fun _=>true) true Tryz.f11.params.toList d.toList ds p:=hA0
 rw[Tryz.params11] at hA c
 obtain⟨v0,vs0,d0,ds0,p0,q0,y,rfl,rfl,h0,r0⟩:=trodAll_cons hA
 obtain⟨v1,vs1,d1,ds1,p1,q1,rfl,rfl,rfl,G,r1⟩:=trodAll_cons r0
 obtain⟨v2,vs2,d2,ds2,p2,q2,rfl,rfl,rfl,I,r2⟩:=trodAll_cons r1
 obtain⟨v3,vs3,d3,ds3,p3,q3,rfl,rfl,rfl,L,r3⟩:=trodAll_cons r2
 obtain⟨v4,vs4,d4,ds4,p4,q4,rfl,rfl,rfl,h4,r4⟩:=trodAll_cons r3
 obtain⟨rfl,rfl,rfl⟩:=trodAll_nil r4
 obtain rfl:d=#[v0,v1,v2,v3,v4]:=by cases d;simp_all
 obtain⟨rfl,rfl⟩:=trodVars_none hV
 have z:Rows.uptoBulkAll ([d0,d1,d2,d3,d4]++[])≤1048576:=of_decide_eq_true (i _ rfl)
 simp only[List.append_nil,Rows.uptoBulkAll] at z
 obtain A:=Gx.MV Tryz.underlying70 (c 0 70 v0 rfl rfl)
 have M:=h0
 have lt0:∀ x ∈ p0,x.block<W.heap.size:=by obtain⟨m,l⟩:=M;exact DataW.trod_lt m _ _ _ l
 obtain⟨H0,res0,bs0,ls0,us0,ss0,ts0,os0,ok0,e0⟩:=Gx.Alo (β:=fun _=>none) (h:=[]) A h0 (by omega)
 obtain⟨a1,len1,cap1,rfl⟩:=okWide_slice Tryz.underlying33 (c 1 33 v1 rfl rfl)
 have O:=G
 have lt1:∀ x ∈ p1,x.block<W.heap.size:=by obtain⟨m,l⟩:=O;exact DataW.trod_lt m _ _ _ l
 obtain⟨l1,bk1,e1⟩:=Gx.sZ (β:=fun _=>none) (h:=[]) G
 obtain⟨a2,len2,cap2,rfl⟩:=okWide_slice Tryz.underlying33 (c 2 33 v2 rfl rfl)
 have S:=I
 have lt2:∀ x ∈ p2,x.block<W.heap.size:=by obtain⟨m,l⟩:=S;exact DataW.trod_lt m _ _ _ l
 obtain⟨l2,bk2,e2⟩:=Gx.sZ (β:=fun _=>none) (h:=[]) I
 obtain⟨a3,len3,cap3,rfl⟩:=okWide_slice Tryz.underlying73 (c 3 73 v3 rfl rfl)
 have T:=L
 have lt3:∀ x ∈ p3,x.block<W.heap.size:=by obtain⟨m,l⟩:=T;exact DataW.trod_lt m _ _ _ l
 obtain⟨v3,bk3,e3⟩:=Gx.Axy (β:=fun _=>none) (h:=[]) L
 obtain⟨i4,rfl,rfl,rfl⟩:=open_bool Tryz.underlying4 (c 4 4 v4 rfl rfl) h4
 clear hA0 f
 have n:((Gx.VW 1000000000000).runK [.agg (Gx.A4u H0 res0 bs0 ls0 us0 ss0 ts0 os0).av,.imm (Gx.Cf.Aq l1) l1.length 1 false false,.imm (Gx.Cf.Aq l2) l2.length 1 false false,.imm (v3.flatMap Gx.Cf.EvD.av) v3.length 4 false false,.bool i4] [] fun v h=>some (v,h))=some (.bool true,[]) :=
  Gx.Cf.Agt (N:=1000000000000) (Gx.Aut (by decide) ok0) ⟨by decide,by decide⟩ (Nat.le_trans bk1 (by decide)) (Nat.le_trans bk2 (by decide)) (K:=fun b=>some (Gx.AV.bool b,[]))
 refine(Gx.Akh (Gx.VX 1000000000000) (Gx.Q5 e0 (Gx.Q5 e1 (Gx.Q5 e2 (Gx.Q5 e3 (Gx.Q5 Gx.Atc Gx.Atd))))) n (A2w hL u)).mono fun e W' ⟨he,bel⟩=>?_
 subst he
 exact⟨_,rfl,_,_,_,[],_,[],hW',trodAll_mk1 (shut_bool Tryz.underlying4 _),(trodAll_cons_mk (Below.trod Vg (by kernel_rfl) (of_decide_eq_true (by kernel_rfl)) M bel lt0) (trodAll_cons_mk (Below.trod Vg (by kernel_rfl) (of_decide_eq_true (by kernel_rfl)) O bel lt1) (trodAll_cons_mk (Below.trod Vg (by kernel_rfl) (of_decide_eq_true (by kernel_rfl)) S bel lt2) (trodAll_cons_mk (Below.trod Vg (by kernel_rfl) (of_decide_eq_true (by kernel_rfl)) T bel lt3) (trodAll_cons_mk (shut_bool Tryz.underlying4 _) trodAll_mk0))))),rfl,bel.frame _,fun h=>by cases h⟩
end Go.Proofs.YtjmfofdghmlldaaGreatDoor.eventsFormats

set_option maxRecDepth 100000
namespace Go.Proofs.YtjmfofdghmlldaaGreatDoor.eventsFormats
open Go.ChangeShapes Go.WideShapes Go.ChangeAt Go.RowKit
theorem Bcf:(Rows.eventsFormatsUptoRow.inPlace==Tryz.prog.inPlace 11)=true:=by kernel_rfl
theorem Bcg:(Rows.eventsFormatsUptoRow.unfollowed==Tryz.prog.unfollowed 11)=true:=by kernel_rfl
theorem Bch:(Rows.eventsFormatsUptoRow.recurses==Tryz.prog.recurses 11)=true:=by kernel_rfl
theorem Bci:(Rows.eventsFormatsUptoRow.named==Tryz.prog.varsNamed 11)=true:=by kernel_rfl
theorem A10:joinedFacts Tryz.prog 11 Tryz.f11 Rows.eventsFormatsSpec Rows.eventsFormatsUptoRow = true :=
 Gx.A6n Vg A9n A6o A6p A6q A6r Bcf Bcg Bch Bci A6s A9o A9p (by kernel_rfl) (by kernel_rfl) (by kernel_rfl) rfl rfl (by kernel_rfl) (by kernel_rfl) (by kernel_rfl) (by kernel_rfl) (by kernel_rfl) (by kernel_rfl) (by kernel_rfl) (by kernel_rfl) (by kernel_rfl) rfl (by kernel_rfl) (by kernel_rfl) (by kernel_rfl) (by kernel_rfl)
theorem Arl:Tryz.prog.funcNamed Rows.eventsFormatsUptoRow.func=some 11:=by kernel_rfl
theorem A11:Tryz.f11.isInstance Tryz.prog Rows.eventsFormatsUptoRow.origin Rows.eventsFormatsUptoRow.targs:=of_decide_eq_true (by kernel_rfl)
theorem A12:Tryz.f11.isWrapper Tryz.prog Rows.eventsFormatsUptoRow.wrapper Rows.eventsFormatsUptoRow.mainSum:=by unfold Func.isWrapper;first | (rw[if_pos (by decide +kernel)];kernel_rfl) | (rw[if_neg (by decide +kernel)];exact⟨rfl,rfl⟩)
end Go.Proofs.YtjmfofdghmlldaaGreatDoor.eventsFormats
