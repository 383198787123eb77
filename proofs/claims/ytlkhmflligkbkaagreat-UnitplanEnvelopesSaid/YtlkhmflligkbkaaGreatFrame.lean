/- A part of the proof: what it holds is said by each theorem. -/
import Derived.Test.YtlkhmflligkbkaaGreatRows
import Derived.Test.YtlkhmflligkbkaaGreatP5
set_option linter.unusedVariables false
namespace Go.Proofs.YtlkhmflligkbkaaGreat.unitplanEnvelopes
open Go.ChangeShapes Go.WideShapes Go.ChangeAt Go.RowKit
theorem own:ownKnob Tryz.prog.godebug=none:=by kernel_rfl
theorem laidOut:laidOutB Tryz.prog=true:=by kernel_rfl
set_option maxRecDepth 100000 in
theorem lifted (os:Os) (started:os.Started) (H:Type) (enc:TypeId×Value→H) :
  ReturnsInHanded {} Tryz.checked os 5 .any (Rows.unitplanEnvelopesSpec.pre6 enc Tryz.prog Tryz.f5 Rows.unitplanEnvelopesRow.domain false) (Rows.unitplanEnvelopesSpec.post enc Tryz.prog Tryz.f5 false true false false):=by
 refine returnsInHanded_of_change (C:=Tryz.checked) own started (by kernel_rfl) Tryz.func5
  (ChangeSpec.witness6 (enc:=enc) (C:=Tryz.checked) false ⟨#[],#[.agg #[.string ⟨#[]⟩,.int .i64 0,.int .i64 0,.int .i64 0,.slice none 0 0,.int .i64 0,.int .i64 0,.int .i64 0,.int .i64 0,.int .i64 0,.int .i64 0,.int .i64 0,.int .i64 0,.int .i64 0,.int .i64 0,.int .i64 0,.int .i64 0,.int .i64 0,.slice none 0 0,.int .i64 0,.int .i64 0,.int .i64 0],.int .i64 0,.slice none 0 0,.slice none 0 0,.slice none 0 0,.bool false],[]⟩ 8 (by kernel_rfl) (by kernel_rfl) (by kernel_rfl) (by kernel_rfl)) ?_
 intro W base args ds gs before A hW V _
 have k:∀ (j:Nat) t v,Tryz.f5.params[j]?=some t→args[j]?=some v→Value.okWide Tryz.prog W .any base t v:=A
 have hW':=hW
 obtain⟨p,q,hA0,hV,rfl,hfz,hnd⟩:=hW
 have hA:DataW.TrodAll enc Tryz.prog W 0 (fun _=>true) true Tryz.f5.params.toList args.toList ds p:=hA0
 rw[Tryz.params5] at hA k
 obtain⟨v0,vs0,Y,ds0,p0,q0,G,rfl,rfl,h0,r0⟩:=trodAll_cons hA
 obtain⟨v1,vs1,d1,ds1,p1,q1,rfl,rfl,rfl,h1,r1⟩:=trodAll_cons r0
 obtain⟨v2,vs2,d2,ds2,p2,q2,rfl,rfl,rfl,h2,r2⟩:=trodAll_cons r1
 obtain⟨v3,vs3,d3,ds3,p3,q3,rfl,rfl,rfl,h3,r3⟩:=trodAll_cons r2
 obtain⟨v4,vs4,d4,ds4,p4,q4,rfl,rfl,rfl,h4,r4⟩:=trodAll_cons r3
 obtain⟨v5,vs5,d5,ds5,p5,q5,rfl,rfl,rfl,h5,r5⟩:=trodAll_cons r4
 obtain⟨rfl,rfl,rfl⟩:=trodAll_nil r5
 obtain rfl:args=#[v0,v1,v2,v3,v4,v5]:=by cases args;simp_all
 obtain⟨rfl,rfl⟩:=trodVars_none hV
 obtain I:=Gx.Ak8 Tryz.underlying25 (k 0 25 v0 rfl rfl)
 have k0:=h0
 have lt0:∀ x ∈ p0,x.block<W.heap.size:=by obtain⟨m,B⟩:=k0;exact DataW.trod_lt m _ _ _ B
 obtain⟨a0,b0,c0,Y,s0,f0,g0,ga0,gb0,gc0,gd0,ge0,gf0,gg0,gh0,gi0,gj0,gk0,aw0,z0,za0,zb0,e0⟩:=Gx.A6b (β:=fun _=>none) (h:=[]) I h0
 obtain⟨i1,rfl,rfl,rfl,w1⟩:=open_int Tryz.underlying3 (k 1 3 v1 rfl rfl) h1
 obtain⟨a2,len2,cap2,rfl⟩:=okWide_slice Tryz.underlying23 (k 2 23 v2 rfl rfl)
 have k2:=h2
 have lt2:∀ x ∈ p2,x.block<W.heap.size:=by obtain⟨m,B⟩:=k2;exact DataW.trod_lt m _ _ _ B
 obtain⟨m2,L,M⟩:=Gx.Ap7 (β:=fun _=>none) (h:=[]) Tryz.underlying23 (by kernel_rfl) (Gx.gP Tryz.underlying3 (by kernel_rfl)) h2
 rw[Gx.rg,show m2.length=(m2.map (·.1)).length by simp] at M
 have O:(m2.map (·.1)).length≤9223372036854775807:=by simpa[maxLen] using L
 generalize m2.map (·.1)=l2 at M O
 obtain⟨a3,Ky,cap3,rfl⟩:=okWide_slice Tryz.underlying23 (k 3 23 v3 rfl rfl)
 have k3:=h3
 have lt3:∀ x ∈ p3,x.block<W.heap.size:=by obtain⟨m,B⟩:=k3;exact DataW.trod_lt m _ _ _ B
 obtain⟨m3,S,e3⟩:=Gx.Ap7 (β:=fun _=>none) (h:=[]) Tryz.underlying23 (by kernel_rfl) (Gx.gP Tryz.underlying3 (by kernel_rfl)) h3
 rw[Gx.rg,show m3.length=(m3.map (·.1)).length by simp] at e3
 have D:(m3.map (·.1)).length≤9223372036854775807:=by simpa[maxLen] using S
 generalize m3.map (·.1)=l3 at e3 D
 obtain⟨a4,len4,cap4,rfl⟩:=okWide_slice Tryz.underlying23 (k 4 23 v4 rfl rfl)
 have k4:=h4
 have lt4:∀ x ∈ p4,x.block<W.heap.size:=by obtain⟨m,B⟩:=k4;exact DataW.trod_lt m _ _ _ B
 obtain⟨m4,T,e4⟩:=Gx.Ap7 (β:=fun _=>none) (h:=[]) Tryz.underlying23 (by kernel_rfl) (Gx.gP Tryz.underlying3 (by kernel_rfl)) h4
 rw[Gx.rg,show m4.length=(m4.map (·.1)).length by simp] at e4
 have U:(m4.map (·.1)).length≤9223372036854775807:=by simpa[maxLen] using T
 generalize m4.map (·.1)=l4 at e4 U
 obtain⟨b5,rfl,rfl,rfl⟩:=open_bool Tryz.underlying4 (k 5 4 v5 rfl rfl) h5
 clear hA0 A
 have F:((Gx.Pm 200000000).runK [.agg [.str a0,.int .i64 b0,.int .i64 c0,.int .i64 Y,.imm (s0.flatMap Gx.SegD.av) s0.length 2 false false,.int .i64 f0,.int .i64 g0,.int .i64 ga0,.int .i64 gb0,.int .i64 gc0,.int .i64 gd0,.int .i64 ge0,.int .i64 gf0,.int .i64 gg0,.int .i64 gh0,.int .i64 gi0,.int .i64 gj0,.int .i64 gk0,.imm (Gx.Av aw0) aw0.length 1 false false,.int .i64 z0,.int .i64 za0,.int .i64 zb0],.int .i64 i1,.imm (Gx.Av l2) l2.length 1 false false,.imm (Gx.Av l3) l3.length 1 false false,.imm (Gx.Av l4) l4.length 1 false false,.bool b5] [] fun v h=>some (v,h))=some (.bool true,[]) :=
  Gx.WA ⟨by decide,by decide⟩ D (K:=fun b=>some (Gx.AV.bool b,[]))
 refine(Gx.A30 (Gx.IE 200000000) (Gx.DX e0 (Gx.DX Gx.A8t (Gx.DX M (Gx.DX e3 (Gx.DX e4 (Gx.DX Gx.A6y Gx.A6z)))))) F).mono fun e W' ⟨he,bel⟩=>?_
 subst he
 exact⟨_,rfl,_,_,_,[],_,[],hW',trodAll_mk1 (shut_bool Tryz.underlying4 _),(trodAll_cons_mk (Below.trod laidOut (by kernel_rfl) (of_decide_eq_true (by kernel_rfl)) k0 bel lt0) (trodAll_cons_mk (shut_int Tryz.underlying3 w1) (trodAll_cons_mk (Below.trod laidOut (by kernel_rfl) (of_decide_eq_true (by kernel_rfl)) k2 bel lt2) (trodAll_cons_mk (Below.trod laidOut (by kernel_rfl) (of_decide_eq_true (by kernel_rfl)) k3 bel lt3) (trodAll_cons_mk (Below.trod laidOut (by kernel_rfl) (of_decide_eq_true (by kernel_rfl)) k4 bel lt4) (trodAll_cons_mk (shut_bool Tryz.underlying4 _) trodAll_mk0)))))),rfl,bel.frame _,fun h=>by cases h⟩
theorem over:Rows.unitplanEnvelopesRow.holds Tryz.pinned (OpenSpec.ofChange Rows.unitplanEnvelopesSpec) :=
 OpenClaim.holds_of_wide 5 Tryz.f5 rfl rfl rfl rfl rfl rfl rfl ⟨rfl,rfl,rfl,rfl,rfl⟩ rfl rfl rfl rfl rfl (by kernel_rfl) Tryz.func5 (by kernel_rfl)
  (of_decide_eq_true (by kernel_rfl)) (by unfold Func.isWrapper;first | (rw[if_pos (by decide +kernel)];kernel_rfl) | (rw[if_neg (by decide +kernel)];exact⟨rfl,rfl⟩))
  (fun os started H enc _=>lifted os started H enc)
theorem proved:Rows.UnitplanEnvelopesSaid:=over
end Go.Proofs.YtlkhmflligkbkaaGreat.unitplanEnvelopes
