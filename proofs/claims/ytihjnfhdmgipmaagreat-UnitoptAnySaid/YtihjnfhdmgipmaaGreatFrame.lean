/- A part of the proof; each theorem says what it holds. -/
import Derived.Test.YtihjnfhdmgipmaaGreatRows
import Derived.Test.YtihjnfhdmgipmaaGreatP5
set_option linter.unusedVariables false
set_option linter.defProp false
set_option linter.unusedSimpArgs false
namespace Go.Proofs.YtihjnfhdmgipmaaGreat.unitoptAny
open Go.ChangeShapes Go.WideShapes Go.ChangeAt Go.RowKit
theorem own:ownKnob Tryz.prog.godebug=none:=by kernel_rfl
theorem laidOut:laidOutB Tryz.prog=true:=by kernel_rfl
set_option maxRecDepth 100000 in
theorem lifted (os:Os) (started:os.Started) (H:Type) (enc:TypeId×Value->H) :
  ReturnsInHanded {} Tryz.checked os 4 .any (Rows.unitoptAnySpec.pre6 enc Tryz.prog Tryz.f4 Rows.unitoptAnyRow.domain false) (Rows.unitoptAnySpec.post enc Tryz.prog Tryz.f4 false true false false):=by
 refine returnsInHanded_of_change (C:=Tryz.checked) own started (by kernel_rfl) Tryz.func4
  (ChangeSpec.witness6 (enc:=enc) (C:=Tryz.checked) false ⟨#[],#[.agg #[.string ⟨#[]⟩,.int .i64 0,.int .i64 0,.int .i64 0,.slice none 0 0,.int .i64 0,.int .i64 0,.int .i64 0,.int .i64 0,.int .i64 0,.int .i64 0,.int .i64 0,.int .i64 0,.int .i64 0,.int .i64 0,.int .i64 0,.int .i64 0,.int .i64 0,.slice none 0 0,.int .i64 0,.int .i64 0,.int .i64 0],.int .i64 0,.agg #[.slice none 0 0,.slice none 0 0,.slice none 0 0],.slice none 0 0,.slice none 0 0,.slice none 0 0],[]⟩ 8 (by kernel_rfl) (by kernel_rfl) (by kernel_rfl) (by kernel_rfl)) ?_
 intro W base D ds gs before G hW hcnd _
 have k:∀ (j:Nat) t v,Tryz.f4.params[j]?=some t->D[j]?=some v->Value.okWide Tryz.prog W .any base t v:=G
 have hW':=hW
 obtain⟨p,q,hA0,hV,rfl,hfz,hnd⟩:=hW
 have hA:DataW.TrodAll enc Tryz.prog W 0 (fun _=>true) true Tryz.f4.params.toList D.toList ds p:=hA0
 rw[Tryz.params4] at hA k
 obtain⟨v0,vs0,d0,ds0,p0,q0,hargs,rfl,rfl,h0,r0⟩:=trodAll_cons hA
 obtain⟨v1,vs1,d1,ds1,p1,q1,rfl,rfl,rfl,h1,r1⟩:=trodAll_cons r0
 obtain⟨v2,vs2,d2,ds2,p2,q2,rfl,rfl,rfl,h2,r2⟩:=trodAll_cons r1
 obtain⟨v3,vs3,d3,ds3,p3,q3,rfl,rfl,rfl,h3,r3⟩:=trodAll_cons r2
 obtain⟨v4,vs4,d4,ds4,p4,q4,rfl,rfl,rfl,h4,r4⟩:=trodAll_cons r3
 obtain⟨v5,vs5,d5,ds5,p5,q5,rfl,rfl,rfl,h5,r5⟩:=trodAll_cons r4
 obtain⟨rfl,rfl,rfl⟩:=trodAll_nil r5
 obtain rfl:D=#[v0,v1,v2,v3,v4,v5]:=by cases D;simp_all
 obtain⟨rfl,rfl⟩:=trodVars_none hV
 obtain hv0:=Gx.YI Tryz.underlying26 (k 0 26 v0 rfl rfl)
 have k0:=h0
 have lt0:∀ x ∈ p0,x.block<W.heap.size:=by obtain⟨m,I⟩:=k0;exact DataW.trod_lt m _ _ _ I
 obtain⟨a0,b0,c0,d0,s0,f0,g0,ga0,gb0,gc0,gd0,ge0,gf0,gg0,gh0,gi0,gj0,gk0,aw0,z0,za0,zb0,e0⟩:=Gx.Aoo (β:=fun _=>none) (h:=[]) hv0 h0
 obtain⟨i1,rfl,rfl,rfl,w1⟩:=open_int Tryz.underlying3 (k 1 3 v1 rfl rfl) h1
 obtain hv2:=Gx.YI Tryz.underlying42 (k 2 42 v2 rfl rfl)
 have k2:=h2
 have lt2:∀ x ∈ p2,x.block<W.heap.size:=by obtain⟨m,I⟩:=k2;exact DataW.trod_lt m _ _ _ I
 obtain⟨ks2,en2,re2,L,T,e2⟩:=Gx.Aop (β:=fun _=>none) (h:=[]) hv2 h2
 obtain⟨a3,Jb,cap3,rfl⟩:=okWide_slice Tryz.underlying29 (k 3 29 v3 rfl rfl)
 have k3:=h3
 have lt3:∀ x ∈ p3,x.block<W.heap.size:=by obtain⟨m,I⟩:=k3;exact DataW.trod_lt m _ _ _ I
 obtain⟨l3,hl3,e3⟩:=Gx.yi (β:=fun _=>none) (h:=[]) h3
 obtain⟨a4,len4,cap4,rfl⟩:=okWide_slice Tryz.underlying29 (k 4 29 v4 rfl rfl)
 have k4:=h4
 have lt4:∀ x ∈ p4,x.block<W.heap.size:=by obtain⟨m,I⟩:=k4;exact DataW.trod_lt m _ _ _ I
 obtain⟨l4,hl4,e4⟩:=Gx.yi (β:=fun _=>none) (h:=[]) h4
 obtain⟨a5,len5,cap5,rfl⟩:=okWide_slice Tryz.underlying22 (k 5 22 v5 rfl rfl)
 have k5:=h5
 have lt5:∀ x ∈ p5,x.block<W.heap.size:=by obtain⟨m,I⟩:=k5;exact DataW.trod_lt m _ _ _ I
 obtain⟨m5,hm5,e5⟩:=Gx.Akj (β:=fun _=>none) (h:=[]) Tryz.underlying22 (by kernel_rfl) (Gx.iK Tryz.underlying3 (by kernel_rfl)) h5
 rw[Gx.Agy,show m5.length=(m5.map (·.1)).length by simp] at e5
 have hb5:(m5.map (·.1)).length<=9223372036854775807:=by simpa[maxLen] using hm5
 generalize m5.map (·.1)=l5 at e5 hb5
 clear hA0 G
 have Y:((Gx.Xv 200000000).runK [.agg [.str a0,.int .i64 b0,.int .i64 c0,.int .i64 d0,.imm (s0.flatMap Gx.SegD.av) s0.length 2 false false,.int .i64 f0,.int .i64 g0,.int .i64 ga0,.int .i64 gb0,.int .i64 gc0,.int .i64 gd0,.int .i64 ge0,.int .i64 gf0,.int .i64 gg0,.int .i64 gh0,.int .i64 gi0,.int .i64 gj0,.int .i64 gk0,.imm (Gx.Am aw0) aw0.length 1 false false,.int .i64 z0,.int .i64 za0,.int .i64 zb0],.int .i64 i1,.agg [.imm (Gx.Am ks2) ks2.length 1 false false,.imm (en2.flatMap Gx.RatD.av) en2.length 3 false false,.imm (re2.flatMap Gx.RatD.av) re2.length 3 false false],.imm (l3.flatMap Gx.RatD.av) l3.length 3 false false,.imm (l4.flatMap Gx.RatD.av) l4.length 3 false false,.imm (Gx.Am l5) l5.length 1 false false] [] fun v h=>some (v,h))=some (.bool true,[]) :=
  Gx.Uo.pK (N:=200000000) ⟨by decide,by decide⟩ L T hl3 hl4 (K:=fun b=>some (Gx.AV.bool b,[]))
 refine(Gx.Ama (Gx.WK 200000000) (Gx.Y3 e0 (Gx.Y3 Gx.As6 (Gx.Y3 e2 (Gx.Y3 e3 (Gx.Y3 e4 (Gx.Y3 e5 Gx.Ap0)))))) Y Gx.Ay8).mono fun e W' ⟨he,bel⟩=>?_
 subst he
 exact⟨_,rfl,_,_,_,[],_,[],hW',trodAll_mk1 (shut_bool Tryz.underlying4 _),(trodAll_cons_mk (Below.trod laidOut (by kernel_rfl) (of_decide_eq_true (by kernel_rfl)) k0 bel lt0) (trodAll_cons_mk (shut_int Tryz.underlying3 w1) (trodAll_cons_mk (Below.trod laidOut (by kernel_rfl) (of_decide_eq_true (by kernel_rfl)) k2 bel lt2) (trodAll_cons_mk (Below.trod laidOut (by kernel_rfl) (of_decide_eq_true (by kernel_rfl)) k3 bel lt3) (trodAll_cons_mk (Below.trod laidOut (by kernel_rfl) (of_decide_eq_true (by kernel_rfl)) k4 bel lt4) (trodAll_cons_mk (Below.trod laidOut (by kernel_rfl) (of_decide_eq_true (by kernel_rfl)) k5 bel lt5) trodAll_mk0)))))),rfl,bel.frame _,fun h=>by cases h⟩
set_option maxRecDepth 100000
theorem Ay9:mapsRowed Tryz.prog=true:=by kernel_rfl
theorem Aw9:(Tryz.prog.stops==[])=true:=by kernel_rfl
theorem Axa:(Tryz.prog.stopKnobs==[])=true:=by kernel_rfl
theorem Axb:Tryz.prog.stopsHeard=true:=by kernel_rfl
theorem Axc:Tryz.prog.mayEnter=true:=by kernel_rfl
theorem Axd:(Rows.unitoptAnyRow.lifted==Tryz.prog.liftsFinal)=true:=by kernel_rfl
theorem Aza:(Tryz.prog.make==some Rows.unitoptAnyRow.make)=true:=by kernel_rfl
theorem Azb:(Rows.unitoptAnyRow.plainKeys==Tryz.prog.plainKeys)=true:=by kernel_rfl
theorem A2n:(Rows.unitoptAnyRow.inPlace==Tryz.prog.inPlace 4)=true:=by kernel_rfl
theorem A2o:(Rows.unitoptAnyRow.unfollowed==Tryz.prog.unfollowed 4)=true:=by kernel_rfl
theorem A2p:(Rows.unitoptAnyRow.recurses==Tryz.prog.recurses 4)=true:=by kernel_rfl
theorem A2q:(Rows.unitoptAnyRow.named==Tryz.prog.varsNamed 4)=true:=by kernel_rfl
theorem Axe:joinedFacts Tryz.prog 4 Tryz.f4 Rows.unitoptAnySpec Rows.unitoptAnyRow=true :=
 Gx.Aw8 laidOut Ay9 Aw9 Axa Axb Axc A2n A2o A2p A2q Axd Aza Azb (by kernel_rfl) (by kernel_rfl) (by kernel_rfl) rfl rfl (by kernel_rfl) (by kernel_rfl) (by kernel_rfl) (by kernel_rfl) (by kernel_rfl) (by kernel_rfl) (by kernel_rfl) (by kernel_rfl) (by kernel_rfl) rfl (by kernel_rfl) (by kernel_rfl) (by kernel_rfl) (by kernel_rfl)
theorem Aue:Tryz.prog.funcNamed Rows.unitoptAnyRow.func=some 4:=by kernel_rfl
theorem Axf:Tryz.f4.isInstance Tryz.prog Rows.unitoptAnyRow.origin Rows.unitoptAnyRow.targs:=of_decide_eq_true (by kernel_rfl)
theorem Axg:Tryz.f4.isWrapper Tryz.prog Rows.unitoptAnyRow.wrapper Rows.unitoptAnyRow.mainSum:=by unfold Func.isWrapper;first | (rw[if_pos (by decide +kernel)];kernel_rfl) | (rw[if_neg (by decide +kernel)];exact⟨rfl,rfl⟩)
theorem over:Rows.unitoptAnyRow.holds Tryz.pinned (OpenSpec.ofChange Rows.unitoptAnySpec) :=
 OpenClaim.holds_of_wide 4 Tryz.f4 rfl rfl rfl rfl rfl rfl rfl ⟨rfl,rfl,rfl,rfl,rfl⟩ rfl rfl rfl rfl rfl Aue Tryz.func4 Axe
  Axf Axg
  (fun os started H enc _=>lifted os started H enc)
theorem proved:Rows.UnitoptAnySaid:=over
end Go.Proofs.YtihjnfhdmgipmaaGreat.unitoptAny
