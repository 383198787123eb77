/- The Go function UnitoptRunErrors returns true for every input, and each argument reads afterwards as it read before. No condition. -/
import Derived.Test.YtihjnfhdmgipmaaGreatRows
import Derived.Test.YtihjnfhdmgipmaaGreatP4
set_option linter.unusedVariables false
set_option linter.defProp false
set_option linter.unusedSimpArgs false
namespace Go.Proofs.YtihjnfhdmgipmaaGreat.unitoptRunErrors
open Go.ChangeShapes Go.WideShapes Go.ChangeAt Go.RowKit
theorem own:ownKnob Tryz.prog.godebug=none:=by kernel_rfl
theorem laidOut:laidOutB Tryz.prog=true:=by kernel_rfl
set_option maxRecDepth 100000 in
theorem lifted (os:Os) (started:os.Started) (H:Type) (enc:TypeId×Value->H) :
  ReturnsInHanded {} Tryz.checked os 10 .any (Rows.unitoptRunErrorsSpec.pre6 enc Tryz.prog Tryz.f10 Rows.unitoptRunErrorsRow.domain false) (Rows.unitoptRunErrorsSpec.post enc Tryz.prog Tryz.f10 false true false false):=by
 refine returnsInHanded_of_change (C:=Tryz.checked) own started (by kernel_rfl) Tryz.func10
  (ChangeSpec.witness6 (enc:=enc) (C:=Tryz.checked) false ⟨#[],#[.agg #[.string ⟨#[]⟩,.int .i64 0,.int .i64 0,.int .i64 0,.slice none 0 0,.int .i64 0,.int .i64 0,.int .i64 0,.int .i64 0,.int .i64 0,.int .i64 0,.int .i64 0,.int .i64 0,.int .i64 0,.int .i64 0,.int .i64 0,.int .i64 0,.int .i64 0,.slice none 0 0,.int .i64 0,.int .i64 0,.int .i64 0],.int .i64 0,.int .i64 0,.int .i64 0,.slice none 0 0,.slice none 0 0],[]⟩ 8 (by kernel_rfl) (by kernel_rfl) (by kernel_rfl) (by kernel_rfl)) ?_
 intro W base D ds gs before G hW hcnd _
 have k:∀ (j:Nat) t v,Tryz.f10.params[j]?=some t->D[j]?=some v->Value.okWide Tryz.prog W .any base t v:=G
 have hW':=hW
 obtain⟨p,q,hA0,hV,rfl,hfz,hnd⟩:=hW
 have hA:DataW.TrodAll enc Tryz.prog W 0 (fun _=>true) true Tryz.f10.params.toList D.toList ds p:=hA0
 rw[Tryz.params10] at hA k
 obtain⟨v0,vs0,d0,ds0,p0,q0,T,rfl,rfl,h0,r0⟩:=trodAll_cons hA
 obtain⟨v1,vs1,d1,ds1,p1,q1,rfl,rfl,rfl,h1,r1⟩:=trodAll_cons r0
 obtain⟨v2,vs2,d2,ds2,p2,q2,rfl,rfl,rfl,h2,r2⟩:=trodAll_cons r1
 obtain⟨v3,vs3,d3,ds3,p3,q3,rfl,rfl,rfl,h3,r3⟩:=trodAll_cons r2
 obtain⟨v4,vs4,d4,ds4,p4,q4,rfl,rfl,rfl,h4,r4⟩:=trodAll_cons r3
 obtain⟨v5,vs5,d5,ds5,p5,q5,rfl,rfl,rfl,h5,r5⟩:=trodAll_cons r4
 obtain⟨rfl,rfl,rfl⟩:=trodAll_nil r5
 obtain rfl:D=#[v0,v1,v2,v3,v4,v5]:=by cases D;simp_all
 obtain⟨rfl,rfl⟩:=trodVars_none hV
 obtain Y:=Gx.bG Tryz.underlying26 (k 0 26 v0 rfl rfl)
 have k0:=h0
 have lt0:∀ x ∈ p0,x.block<W.heap.size:=by obtain⟨m,I⟩:=k0;exact DataW.trod_lt m _ _ _ I
 obtain⟨a0,b0,c0,d0,s0,f0,g0,ga0,gb0,gc0,gd0,ge0,gf0,gg0,gh0,gi0,gj0,gk0,aw0,z0,za0,zb0,e0⟩:=Gx.pI (β:=fun _=>none) (h:=[]) Y h0
 obtain⟨i1,rfl,rfl,rfl,w1⟩:=open_int Tryz.underlying3 (k 1 3 v1 rfl rfl) h1
 obtain⟨i2,rfl,rfl,rfl,w2⟩:=open_int Tryz.underlying3 (k 2 3 v2 rfl rfl) h2
 obtain⟨i3,rfl,rfl,rfl,w3⟩:=open_int Tryz.underlying3 (k 3 3 v3 rfl rfl) h3
 obtain⟨a4,len4,cap4,rfl⟩:=okWide_slice Tryz.underlying29 (k 4 29 v4 rfl rfl)
 have k4:=h4
 have lt4:∀ x ∈ p4,x.block<W.heap.size:=by obtain⟨m,I⟩:=k4;exact DataW.trod_lt m _ _ _ I
 obtain⟨l4,hl4,e4⟩:=Gx.dZ (β:=fun _=>none) (h:=[]) h4
 obtain⟨a5,len5,cap5,rfl⟩:=okWide_slice Tryz.underlying29 (k 5 29 v5 rfl rfl)
 have k5:=h5
 have lt5:∀ x ∈ p5,x.block<W.heap.size:=by obtain⟨m,I⟩:=k5;exact DataW.trod_lt m _ _ _ I
 obtain⟨l5,hl5,e5⟩:=Gx.dZ (β:=fun _=>none) (h:=[]) h5
 clear hA0 G
 have L:((Gx.Kb 200000000).runK [.agg [.str a0,.int .i64 b0,.int .i64 c0,.int .i64 d0,.imm (s0.flatMap Gx.SegD.av) s0.length 2 false false,.int .i64 f0,.int .i64 g0,.int .i64 ga0,.int .i64 gb0,.int .i64 gc0,.int .i64 gd0,.int .i64 ge0,.int .i64 gf0,.int .i64 gg0,.int .i64 gh0,.int .i64 gi0,.int .i64 gj0,.int .i64 gk0,.imm (Gx.Ao aw0) aw0.length 1 false false,.int .i64 z0,.int .i64 za0,.int .i64 zb0],.int .i64 i1,.int .i64 i2,.int .i64 i3,.imm (l4.flatMap Gx.RatD.av) l4.length 3 false false,.imm (l5.flatMap Gx.RatD.av) l5.length 3 false false] [] fun v h=>some (v,h))=some (.bool true,[]) :=
  Gx.Uo.AU (N:=200000000) ⟨by decide,by decide⟩ hl4 hl5 (K:=fun b=>some (Gx.AV.bool b,[]))
 refine(Gx.ny (Gx.To 200000000) (Gx.Rb e0 (Gx.Rb Gx.fh (Gx.Rb Gx.fh (Gx.Rb Gx.fh (Gx.Rb e4 (Gx.Rb e5 Gx.qM)))))) L Gx.wo).mono fun e W' ⟨he,bel⟩=>?_
 subst he
 exact⟨_,rfl,_,_,_,[],_,[],hW',trodAll_mk1 (shut_bool Tryz.underlying4 _),(trodAll_cons_mk (Below.trod laidOut (by kernel_rfl) (of_decide_eq_true (by kernel_rfl)) k0 bel lt0) (trodAll_cons_mk (shut_int Tryz.underlying3 w1) (trodAll_cons_mk (shut_int Tryz.underlying3 w2) (trodAll_cons_mk (shut_int Tryz.underlying3 w3) (trodAll_cons_mk (Below.trod laidOut (by kernel_rfl) (of_decide_eq_true (by kernel_rfl)) k4 bel lt4) (trodAll_cons_mk (Below.trod laidOut (by kernel_rfl) (of_decide_eq_true (by kernel_rfl)) k5 bel lt5) trodAll_mk0)))))),rfl,bel.frame _,fun h=>by cases h⟩
set_option maxRecDepth 100000
theorem wq:mapsRowed Tryz.prog=true:=by kernel_rfl
theorem vE:(Tryz.prog.stops==[])=true:=by kernel_rfl
theorem vF:(Tryz.prog.stopKnobs==[])=true:=by kernel_rfl
theorem vG:Tryz.prog.stopsHeard=true:=by kernel_rfl
theorem vH:Tryz.prog.mayEnter=true:=by kernel_rfl
theorem vI:(Rows.unitoptRunErrorsRow.lifted==Tryz.prog.liftsFinal)=true:=by kernel_rfl
theorem wt:(Tryz.prog.make==some Rows.unitoptRunErrorsRow.make)=true:=by kernel_rfl
theorem wu:(Rows.unitoptRunErrorsRow.plainKeys==Tryz.prog.plainKeys)=true:=by kernel_rfl
theorem yy:(Rows.unitoptRunErrorsRow.inPlace==Tryz.prog.inPlace 10)=true:=by kernel_rfl
theorem yz:(Rows.unitoptRunErrorsRow.unfollowed==Tryz.prog.unfollowed 10)=true:=by kernel_rfl
theorem zA:(Rows.unitoptRunErrorsRow.recurses==Tryz.prog.recurses 10)=true:=by kernel_rfl
theorem zB:(Rows.unitoptRunErrorsRow.named==Tryz.prog.varsNamed 10)=true:=by kernel_rfl
theorem vJ:joinedFacts Tryz.prog 10 Tryz.f10 Rows.unitoptRunErrorsSpec Rows.unitoptRunErrorsRow=true :=
 Gx.vD laidOut wq vE vF vG vH yy yz zA zB vI wt wu (by kernel_rfl) (by kernel_rfl) (by kernel_rfl) rfl rfl (by kernel_rfl) (by kernel_rfl) (by kernel_rfl) (by kernel_rfl) (by kernel_rfl) (by kernel_rfl) (by kernel_rfl) (by kernel_rfl) (by kernel_rfl) rfl (by kernel_rfl) (by kernel_rfl) (by kernel_rfl) (by kernel_rfl)
theorem tA:Tryz.prog.funcNamed Rows.unitoptRunErrorsRow.func=some 10:=by kernel_rfl
theorem vK:Tryz.f10.isInstance Tryz.prog Rows.unitoptRunErrorsRow.origin Rows.unitoptRunErrorsRow.targs:=of_decide_eq_true (by kernel_rfl)
theorem vL:Tryz.f10.isWrapper Tryz.prog Rows.unitoptRunErrorsRow.wrapper Rows.unitoptRunErrorsRow.mainSum:=by unfold Func.isWrapper;first | (rw[if_pos (by decide +kernel)];kernel_rfl) | (rw[if_neg (by decide +kernel)];exact⟨rfl,rfl⟩)
theorem over:Rows.unitoptRunErrorsRow.holds Tryz.pinned (OpenSpec.ofChange Rows.unitoptRunErrorsSpec) :=
 OpenClaim.holds_of_wide 10 Tryz.f10 rfl rfl rfl rfl rfl rfl rfl ⟨rfl,rfl,rfl,rfl,rfl⟩ rfl rfl rfl rfl rfl tA Tryz.func10 vJ
  vK vL
  (fun os started H enc _=>lifted os started H enc)
theorem proved:Rows.UnitoptRunErrorsSaid:=over
end Go.Proofs.YtihjnfhdmgipmaaGreat.unitoptRunErrors
