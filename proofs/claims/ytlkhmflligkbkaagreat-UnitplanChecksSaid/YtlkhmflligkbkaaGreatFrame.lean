/- The Go function UnitplanChecks returns true for every input, and each argument reads afterwards as it read before. No condition. -/
import Derived.Test.YtlkhmflligkbkaaGreatRows
import Derived.Test.YtlkhmflligkbkaaGreatP5
set_option linter.unusedVariables false
namespace Go.Proofs.YtlkhmflligkbkaaGreat.unitplanChecks
open Go.ChangeShapes Go.WideShapes Go.ChangeAt Go.RowKit
theorem own:ownKnob Tryz.prog.godebug=none:=by kernel_rfl
theorem laidOut:laidOutB Tryz.prog=true:=by kernel_rfl
set_option maxRecDepth 100000 in
theorem lifted (os:Os) (started:os.Started) (H:Type) (enc:TypeId×Value→H) :
    ReturnsInHanded {} Tryz.checked os 8 .any (Rows.unitplanChecksSpec.pre6 enc Tryz.prog Tryz.f8 Rows.unitplanChecksRow.domain false) (Rows.unitplanChecksSpec.post enc Tryz.prog Tryz.f8 false true false false):=by
  refine returnsInHanded_of_change (C:=Tryz.checked) own started (by kernel_rfl) Tryz.func8
    (ChangeSpec.witness6 (enc:=enc) (C:=Tryz.checked) false ⟨#[],#[.agg #[.string ⟨#[]⟩,.int .i64 0,.int .i64 0,.int .i64 0,.slice none 0 0,.int .i64 0,.int .i64 0,.int .i64 0,.int .i64 0,.int .i64 0,.int .i64 0,.int .i64 0,.int .i64 0,.int .i64 0,.int .i64 0,.int .i64 0,.int .i64 0,.int .i64 0,.slice none 0 0,.int .i64 0,.int .i64 0,.int .i64 0],.int .i64 0,.agg #[.slice none 0 0,.slice none 0 0,.slice none 0 0],.slice none 0 0,.slice none 0 0],[]⟩ 8 (by kernel_rfl) (by kernel_rfl) (by kernel_rfl) (by kernel_rfl)) ?_
  intro W base args ds gs before hval0 hW hcnd _
  have hval:∀ (j:Nat) t v,Tryz.f8.params[j]?=some t→args[j]?=some v→Value.okWide Tryz.prog W .any base t v:=hval0
  have hW':=hW
  obtain ⟨p,q,hA0,hV,rfl,hfz,hnd⟩:=hW
  have hA:DataW.TrodAll enc Tryz.prog W 0 (fun _=>true) true Tryz.f8.params.toList args.toList ds p:=hA0
  rw [Tryz.params8] at hA hval
  obtain ⟨v0,vs0,d0,ds0,p0,q0,hargs,rfl,rfl,h0,r0⟩:=trodAll_cons hA
  obtain ⟨v1,vs1,d1,ds1,p1,q1,rfl,rfl,rfl,h1,r1⟩:=trodAll_cons r0
  obtain ⟨v2,vs2,d2,ds2,p2,q2,rfl,rfl,rfl,h2,r2⟩:=trodAll_cons r1
  obtain ⟨v3,vs3,d3,ds3,p3,q3,rfl,rfl,rfl,h3,r3⟩:=trodAll_cons r2
  obtain ⟨v4,vs4,d4,ds4,p4,q4,rfl,rfl,rfl,h4,r4⟩:=trodAll_cons r3
  obtain ⟨rfl,rfl,rfl⟩:=trodAll_nil r4
  obtain rfl:args=#[v0,v1,v2,v3,v4]:=by cases args;simp_all
  obtain ⟨rfl,rfl⟩:=trodVars_none hV
  obtain hv0:=Gx.A61 Tryz.underlying25 (hval 0 25 v0 rfl rfl)
  have k0:=h0
  have lt0:∀ x ∈ p0,x.block<W.heap.size:=by obtain ⟨m,hm⟩:=k0;exact DataW.trod_lt m _ _ _ hm
  obtain ⟨a0,b0,c0,d0,s0,f0,g0,ga0,gb0,gc0,gd0,ge0,gf0,gg0,gh0,gi0,gj0,gk0,aw0,z0,za0,zb0,e0⟩:=Gx.B8f (β:=fun _=>none) (h:=[]) hv0 h0
  obtain ⟨i1,rfl,rfl,rfl,w1⟩:=open_int Tryz.underlying3 (hval 1 3 v1 rfl rfl) h1
  obtain hv2:=Gx.A61 Tryz.underlying53 (hval 2 53 v2 rfl rfl)
  have k2:=h2
  have lt2:∀ x ∈ p2,x.block<W.heap.size:=by obtain ⟨m,hm⟩:=k2;exact DataW.trod_lt m _ _ _ hm
  obtain ⟨ks2,en2,re2,hen2,hre2,e2⟩:=Gx.B8j (β:=fun _=>none) (h:=[]) hv2 h2
  obtain ⟨a3,G0,cap3,rfl⟩:=okWide_slice Tryz.underlying39 (hval 3 39 v3 rfl rfl)
  have k3:=h3
  have lt3:∀ x ∈ p3,x.block<W.heap.size:=by obtain ⟨m,hm⟩:=k3;exact DataW.trod_lt m _ _ _ hm
  obtain ⟨l3,hl3,e3⟩:=Gx.By7 (β:=fun _=>none) (h:=[]) h3
  obtain ⟨a4,len4,cap4,rfl⟩:=okWide_slice Tryz.underlying39 (hval 4 39 v4 rfl rfl)
  have k4:=h4
  have lt4:∀ x ∈ p4,x.block<W.heap.size:=by obtain ⟨m,hm⟩:=k4;exact DataW.trod_lt m _ _ _ hm
  obtain ⟨l4,hl4,e4⟩:=Gx.By7 (β:=fun _=>none) (h:=[]) h4
  clear hA0 hval0
  have hrun:((Gx.Sa 200000000).runK [.agg [.str a0,.int .i64 b0,.int .i64 c0,.int .i64 d0,.imm (s0.flatMap Gx.SegD.av) s0.length 2 false false,.int .i64 f0,.int .i64 g0,.int .i64 ga0,.int .i64 gb0,.int .i64 gc0,.int .i64 gd0,.int .i64 ge0,.int .i64 gf0,.int .i64 gg0,.int .i64 gh0,.int .i64 gi0,.int .i64 gj0,.int .i64 gk0,.imm (Gx.Hy aw0) aw0.length 1 false false,.int .i64 z0,.int .i64 za0,.int .i64 zb0],.int .i64 i1,.agg [.imm (Gx.Hy ks2) ks2.length 1 false false,.imm (en2.flatMap Gx.RatD.av) en2.length 3 false false,.imm (re2.flatMap Gx.RatD.av) re2.length 3 false false],.imm (l3.flatMap Gx.RatD.av) l3.length 3 false false,.imm (l4.flatMap Gx.RatD.av) l4.length 3 false false] [] fun v h=>some (v,h))=some (.bool true,[]) :=
    Gx.A44 (N:=200000000) ⟨by decide,by decide⟩ hen2 hre2 hl3 hl4 (K:=fun b=>some (Gx.AV.bool b,[]))
  refine (Gx.B7z (Gx.Apu 200000000) (Gx.Apb e0 (Gx.Apb Gx.Cae (Gx.Apb e2 (Gx.Apb e3 (Gx.Apb e4 Gx.B83))))) hrun).mono fun e W' ⟨he,bel⟩=>?_
  subst he
  exact ⟨_,rfl,_,_,_,[],_,[],hW',trodAll_mk1 (shut_bool Tryz.underlying4 _),(trodAll_cons_mk (Below.trod laidOut (by kernel_rfl) (of_decide_eq_true (by kernel_rfl)) k0 bel lt0) (trodAll_cons_mk (shut_int Tryz.underlying3 w1) (trodAll_cons_mk (Below.trod laidOut (by kernel_rfl) (of_decide_eq_true (by kernel_rfl)) k2 bel lt2) (trodAll_cons_mk (Below.trod laidOut (by kernel_rfl) (of_decide_eq_true (by kernel_rfl)) k3 bel lt3) (trodAll_cons_mk (Below.trod laidOut (by kernel_rfl) (of_decide_eq_true (by kernel_rfl)) k4 bel lt4) trodAll_mk0))))),rfl,bel.frame _,fun h=>by cases h⟩
theorem over:Rows.unitplanChecksRow.holds Tryz.pinned (OpenSpec.ofChange Rows.unitplanChecksSpec) :=
  OpenClaim.holds_of_wide 8 Tryz.f8 rfl rfl rfl rfl rfl rfl rfl ⟨rfl,rfl,rfl,rfl,rfl⟩ rfl rfl rfl rfl rfl (by kernel_rfl) Tryz.func8 (by kernel_rfl)
    (of_decide_eq_true (by kernel_rfl)) (by unfold Func.isWrapper;first | (rw [if_pos (by decide +kernel)];kernel_rfl) | (rw [if_neg (by decide +kernel)];exact ⟨rfl,rfl⟩))
    (fun os started H enc _=>lifted os started H enc)
theorem proved:Rows.UnitplanChecksSaid:=over
end Go.Proofs.YtlkhmflligkbkaaGreat.unitplanChecks
