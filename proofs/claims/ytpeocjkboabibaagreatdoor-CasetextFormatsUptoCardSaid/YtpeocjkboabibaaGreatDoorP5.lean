/- A part of the proof; each theorem says what it holds. -/
import Derived.Test.YtpeocjkboabibaaGreatDoorP4
set_option linter.unusedVariables false
set_option linter.defProp false
set_option linter.unusedSimpArgs false
namespace Go.Proofs.YtpeocjkboabibaaGreatDoor.casetextFormats
open Go.ChangeShapes Go.WideShapes Go.ChangeAt Go.RowKit
theorem reads (os:Os) {H:Type} (enc:TypeId×Value→H):∃ places,DataW.whole enc Tryz.prog ((sc os).forCall (fun _ _=>0) ⟨#[],#[.agg #[.int .i64 0,.slice none 0 0,.slice none 0 0,.slice none 0 0,.slice none 0 0,.slice none 0 0,.slice none 0 0,.slice none 0 0],.slice none 0 0,.int .i64 0,.int .i64 0,.string ⟨#[]⟩],[]⟩).memory Tryz.f5.params.toList Rows.casetextFormatsSpec.vars false (#[.agg #[.int .i64 0,.slice none 0 0,.slice none 0 0,.slice none 0 0,.slice none 0 0,.slice none 0 0,.slice none 0 0,.slice none 0 0],.slice none 0 0,.int .i64 0,.int .i64 0,.string ⟨#[]⟩]:Array Value).toList 8=some ([.agg [.lit (.int .i64 0),.nil,.nil,.nil,.nil,.nil,.nil,.nil],.nil,.lit (.int .i64 0),.lit (.int .i64 0),.lit (.string [])],[],places) :=
 ⟨[],by kernel_rfl⟩
set_option maxRecDepth 100000 in
theorem lifted (os:Os) (started:os.Started) (H:Type) (enc:TypeId×Value→H) (F:Stop.Interp) :
  ReturnsInHanded {} Tryz.checked os 5 .any ((Rows.OpenSpec.upto Rows.casetextFormatsSpec).preRow enc Tryz.prog Tryz.f5 Rows.casetextFormatsUptoRow.domain false Rows.casetextFormatsUptoRow.laid) (((Rows.OpenSpec.upto Rows.casetextFormatsSpec).at F).post enc Tryz.prog Tryz.f5 false true false false):=by
 obtain⟨places,hx⟩:=reads os enc
 refine returnsInHanded_of_row (C:=Tryz.checked) (s:=Rows.OpenSpec.upto Rows.casetextFormatsSpec) Aav started (by kernel_rfl) Tryz.func5
  (witness_row_atRef (enc:=enc) (C:=Tryz.checked) false (sc os) #[.agg #[.int .i64 0,.slice none 0 0,.slice none 0 0,.slice none 0 0,.slice none 0 0,.slice none 0 0,.slice none 0 0,.slice none 0 0],.slice none 0 0,.int .i64 0,.int .i64 0,.string ⟨#[]⟩] (vR os) (by kernel_rfl) (by kernel_rfl) (by kernel_rfl)
   (OpenSpec.preRow_of_cond 8 hx (by kernel_rfl) (fun k U=>by cases U;kernel_rfl) (by kernel_rfl) (tt os _))) ?_
 intro W base f ds gs before l hW _ n G hL y _
 have d:∀ (j:Nat) t v,Tryz.f5.params[j]?=some t→f[j]?=some v→Value.okWide Tryz.prog W .any base t v:=l
 have hW':=hW
 obtain⟨p,q,hA0,hV,rfl,V,X⟩:=hW
 have hA:DataW.TrodAll enc Tryz.prog W 0 (fun _=>true) true Tryz.f5.params.toList f.toList ds p:=hA0
 rw[Tryz.params5] at hA d
 obtain⟨v0,vs0,Y,ds0,p0,q0,z,rfl,rfl,I,r0⟩:=trodAll_cons hA
 obtain⟨v1,vs1,d1,ds1,p1,q1,rfl,rfl,rfl,L,r1⟩:=trodAll_cons r0
 obtain⟨v2,vs2,d2,ds2,p2,q2,rfl,rfl,rfl,h2,r2⟩:=trodAll_cons r1
 obtain⟨v3,vs3,d3,ds3,p3,q3,rfl,rfl,rfl,h3,r3⟩:=trodAll_cons r2
 obtain⟨v4,vs4,d4,ds4,p4,q4,rfl,rfl,rfl,h4,r4⟩:=trodAll_cons r3
 obtain⟨rfl,rfl,rfl⟩:=trodAll_nil r4
 obtain rfl:f=#[v0,v1,v2,v3,v4]:=by cases f;simp_all
 obtain⟨rfl,rfl⟩:=trodVars_none hV
 have A:Rows.uptoBulkAll ([Y,d1,d2,d3,d4]++[])≤1048576:=of_decide_eq_true (n _ rfl)
 simp only[List.append_nil,Rows.uptoBulkAll] at A
 obtain B:=Gx.iX Tryz.underlying37 (d 0 37 v0 rfl rfl)
 have M:=I
 have lt0:∀ x ∈ p0,x.block<W.heap.size:=by obtain⟨m,D⟩:=M;exact DataW.trod_lt m _ _ _ D
 obtain⟨H0,B8,bs0,ls0,us0,ss0,ts0,os0,ok0,e0⟩:=Gx.ui (β:=fun _=>none) (h:=[]) B I (by omega)
 obtain⟨a1,len1,cap1,rfl⟩:=okWide_slice Tryz.underlying22 (d 1 22 v1 rfl rfl)
 have S:=L
 have lt1:∀ x ∈ p1,x.block<W.heap.size:=by obtain⟨m,D⟩:=S;exact DataW.trod_lt m _ _ _ D
 obtain⟨l1,bk1,e1⟩:=Gx.sN (β:=fun _=>none) (h:=[]) L
 obtain⟨i2,rfl,rfl,rfl,T⟩:=open_int Tryz.underlying3 (d 2 3 v2 rfl rfl) h2
 have b2:=Gx.sM T
 obtain⟨i3,rfl,rfl,rfl,w3⟩:=open_int Tryz.underlying3 (d 3 3 v3 rfl rfl) h3
 have b3:=Gx.sM w3
 obtain⟨s4,rfl,rfl,rfl,w4⟩:=Go.ChangeMaps.open_string Tryz.underlying9 (d 4 9 v4 rfl rfl) h4
 clear hA0 l
 have u:((Gx.P7 1000000000000).runK [.agg (Gx.Ct.dG H0 B8 bs0 ls0 us0 ss0 ts0 os0).av,.imm (Gx.Cf.Az l1) l1.length 1 false false,.int .i64 i2,.int .i64 i3,.str s4.data.toList] [] fun v h=>some (v,h))=some (.bool true,[]) :=
  Gx.Ct.nH (N:=1000000000000) (by decide) ok0.1 ok0.2 (Nat.le_trans bk1 (by decide)) b3 (K:=fun b=>some (Gx.AV.bool b,[]))
 refine(Gx.tj (Gx.C_ 1000000000000) (Gx.DO e0 (Gx.DO e1 (Gx.DO Gx.sd (Gx.DO Gx.sd (Gx.DO Gx.x4 Gx.vS))))) u (wj hL y)).mono fun e W' ⟨he,bel⟩=>?_
 subst he
 exact⟨_,rfl,_,_,_,[],_,[],hW',trodAll_mk1 (shut_bool Tryz.underlying4 _),(trodAll_cons_mk (Below.trod fE (by kernel_rfl) (of_decide_eq_true (by kernel_rfl)) M bel lt0) (trodAll_cons_mk (Below.trod fE (by kernel_rfl) (of_decide_eq_true (by kernel_rfl)) S bel lt1) (trodAll_cons_mk (shut_int Tryz.underlying3 T) (trodAll_cons_mk (shut_int Tryz.underlying3 w3) (trodAll_cons_mk (Go.ChangeMaps.shut_string Tryz.underlying9 w4) trodAll_mk0))))),rfl,bel.frame _,fun h=>by cases h⟩
end Go.Proofs.YtpeocjkboabibaaGreatDoor.casetextFormats
set_option maxRecDepth 100000
namespace Go.Proofs.YtpeocjkboabibaaGreatDoor.casetextFormats
open Go.ChangeShapes Go.WideShapes Go.ChangeAt Go.RowKit
theorem Ads:(Rows.casetextFormatsUptoRow.inPlace==Tryz.prog.inPlace 5)=true:=by kernel_rfl
theorem Adt:(Rows.casetextFormatsUptoRow.unfollowed==Tryz.prog.unfollowed 5)=true:=by kernel_rfl
theorem Adu:(Rows.casetextFormatsUptoRow.recurses==Tryz.prog.recurses 5)=true:=by kernel_rfl
theorem Adv:(Rows.casetextFormatsUptoRow.named==Tryz.prog.varsNamed 5)=true:=by kernel_rfl
theorem yd:joinedFacts Tryz.prog 5 Tryz.f5 Rows.casetextFormatsSpec Rows.casetextFormatsUptoRow = true :=
 Gx.xx fE yo xy xz yA yB Ads Adt Adu Adv yC yp yq (by kernel_rfl) (by kernel_rfl) (by kernel_rfl) rfl rfl (by kernel_rfl) (by kernel_rfl) (by kernel_rfl) (by kernel_rfl) (by kernel_rfl) (by kernel_rfl) (by kernel_rfl) (by kernel_rfl) (by kernel_rfl) rfl (by kernel_rfl) (by kernel_rfl) (by kernel_rfl) (by kernel_rfl)
theorem x5:Tryz.prog.funcNamed Rows.casetextFormatsUptoRow.func=some 5:=by kernel_rfl
theorem ye:Tryz.f5.isInstance Tryz.prog Rows.casetextFormatsUptoRow.origin Rows.casetextFormatsUptoRow.targs:=of_decide_eq_true (by kernel_rfl)
theorem yf:Tryz.f5.isWrapper Tryz.prog Rows.casetextFormatsUptoRow.wrapper Rows.casetextFormatsUptoRow.mainSum:=by unfold Func.isWrapper;first | (rw[if_pos (by decide +kernel)];kernel_rfl) | (rw[if_neg (by decide +kernel)];exact⟨rfl,rfl⟩)
end Go.Proofs.YtpeocjkboabibaaGreatDoor.casetextFormats
