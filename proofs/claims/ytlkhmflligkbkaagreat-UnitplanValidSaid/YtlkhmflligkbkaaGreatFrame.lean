/- The Go function UnitplanValid returns true for every input, and each argument reads afterwards as it read before. No condition. -/
import Derived.Test.YtlkhmflligkbkaaGreatRows
import Derived.Test.YtlkhmflligkbkaaGreatP4
set_option linter.unusedVariables false
namespace Go.Proofs.YtlkhmflligkbkaaGreat.unitplanValid
open Go.ChangeShapes Go.WideShapes Go.ChangeAt Go.RowKit
theorem own:ownKnob Tryz.prog.godebug=none:=by kernel_rfl
theorem laidOut:laidOutB Tryz.prog=true:=by kernel_rfl
set_option maxRecDepth 100000 in
theorem lifted (os:Os) (started:os.Started) (H:Type) (enc:TypeId×Value→H) :
    ReturnsInHanded {} Tryz.checked os 3 .any (Rows.unitplanValidSpec.pre6 enc Tryz.prog Tryz.f3 Rows.unitplanValidRow.domain false) (Rows.unitplanValidSpec.post enc Tryz.prog Tryz.f3 false true false false):=by
  refine returnsInHanded_of_change (C:=Tryz.checked) own started (by kernel_rfl) Tryz.func3
    (ChangeSpec.witness6 (enc:=enc) (C:=Tryz.checked) false ⟨#[],#[.agg #[.string ⟨#[]⟩,.int .i64 0,.int .i64 0,.int .i64 0,.slice none 0 0,.int .i64 0,.int .i64 0,.int .i64 0,.int .i64 0,.int .i64 0,.int .i64 0,.int .i64 0,.int .i64 0,.int .i64 0,.int .i64 0,.int .i64 0,.int .i64 0,.int .i64 0,.slice none 0 0,.int .i64 0,.int .i64 0,.int .i64 0],.int .i64 0,.int .i64 0,.int .i64 0,.bool false],[]⟩ 8 (by kernel_rfl) (by kernel_rfl) (by kernel_rfl) (by kernel_rfl)) ?_
  intro W base args ds gs before hval0 hW hcnd _
  have hval:∀ (j:Nat) t v,Tryz.f3.params[j]?=some t→args[j]?=some v→Value.okWide Tryz.prog W .any base t v:=hval0
  have hW':=hW
  obtain ⟨p,q,hA0,hV,rfl,hfz,hnd⟩:=hW
  have hA:DataW.TrodAll enc Tryz.prog W 0 (fun _=>true) true Tryz.f3.params.toList args.toList ds p:=hA0
  rw [Tryz.params3] at hA hval
  obtain ⟨v0,vs0,d0,ds0,p0,q0,hargs,rfl,rfl,h0,r0⟩:=trodAll_cons hA
  obtain ⟨v1,vs1,d1,ds1,p1,q1,rfl,rfl,rfl,h1,r1⟩:=trodAll_cons r0
  obtain ⟨v2,vs2,d2,ds2,p2,q2,rfl,rfl,rfl,h2,r2⟩:=trodAll_cons r1
  obtain ⟨v3,vs3,d3,ds3,p3,q3,rfl,rfl,rfl,h3,r3⟩:=trodAll_cons r2
  obtain ⟨v4,vs4,d4,ds4,p4,q4,rfl,rfl,rfl,h4,r4⟩:=trodAll_cons r3
  obtain ⟨rfl,rfl,rfl⟩:=trodAll_nil r4
  obtain rfl:args=#[v0,v1,v2,v3,v4]:=by cases args;simp_all
  obtain ⟨rfl,rfl⟩:=trodVars_none hV
  obtain hv0:=Gx.Bh5 Tryz.underlying25 (hval 0 25 v0 rfl rfl)
  have k0:=h0
  have lt0:∀ x ∈ p0,x.block<W.heap.size:=by obtain ⟨m,hm⟩:=k0;exact DataW.trod_lt m _ _ _ hm
  obtain ⟨a0,b0,c0,d0,s0,f0,g0,ga0,gb0,gc0,gd0,ge0,gf0,gg0,gh0,gi0,gj0,gk0,aw0,z0,za0,zb0,e0⟩:=Gx.Bsx (β:=fun _=>none) (h:=[]) hv0 h0
  obtain ⟨i1,rfl,rfl,rfl,w1⟩:=open_int Tryz.underlying3 (hval 1 3 v1 rfl rfl) h1
  obtain ⟨i2,rfl,rfl,rfl,w2⟩:=open_int Tryz.underlying3 (hval 2 3 v2 rfl rfl) h2
  obtain ⟨i3,rfl,rfl,rfl,w3⟩:=open_int Tryz.underlying3 (hval 3 3 v3 rfl rfl) h3
  obtain ⟨b4,rfl,rfl,rfl⟩:=open_bool Tryz.underlying4 (hval 4 4 v4 rfl rfl) h4
  clear hA0 hval0
  have hrun:((Gx.Q5 20000000).runK [.agg [.str a0,.int .i64 b0,.int .i64 c0,.int .i64 d0,.imm (s0.flatMap Gx.SegD.av) s0.length 2 false false,.int .i64 f0,.int .i64 g0,.int .i64 ga0,.int .i64 gb0,.int .i64 gc0,.int .i64 gd0,.int .i64 ge0,.int .i64 gf0,.int .i64 gg0,.int .i64 gh0,.int .i64 gi0,.int .i64 gj0,.int .i64 gk0,.imm (Gx.Eo aw0) aw0.length 1 false false,.int .i64 z0,.int .i64 za0,.int .i64 zb0],.int .i64 i1,.int .i64 i2,.int .i64 i3,.bool b4] [] fun v h=>some (v,h))=some (.bool true,[]) :=
    Gx.Azx (N:=20000000) ⟨by decide,by decide⟩ (K:=fun b=>some (Gx.AV.bool b,[]))
  refine (Gx.Bsf (Gx.Al1 20000000) (Gx.Ahk e0 (Gx.Ahk Gx.Bma (Gx.Ahk Gx.Bma (Gx.Ahk Gx.Bma (Gx.Ahk Gx.Bth Gx.Bti))))) hrun).mono fun e W' ⟨he,bel⟩=>?_
  subst he
  exact ⟨_,rfl,_,_,_,[],_,[],hW',trodAll_mk1 (shut_bool Tryz.underlying4 _),(trodAll_cons_mk (Below.trod laidOut (by kernel_rfl) (of_decide_eq_true (by kernel_rfl)) k0 bel lt0) (trodAll_cons_mk (shut_int Tryz.underlying3 w1) (trodAll_cons_mk (shut_int Tryz.underlying3 w2) (trodAll_cons_mk (shut_int Tryz.underlying3 w3) (trodAll_cons_mk (shut_bool Tryz.underlying4 _) trodAll_mk0))))),rfl,bel.frame _,fun h=>by cases h⟩
theorem over:Rows.unitplanValidRow.holds Tryz.pinned (OpenSpec.ofChange Rows.unitplanValidSpec) :=
  OpenClaim.holds_of_wide 3 Tryz.f3 rfl rfl rfl rfl rfl rfl rfl ⟨rfl,rfl,rfl,rfl,rfl⟩ rfl rfl rfl rfl rfl (by kernel_rfl) Tryz.func3 (by kernel_rfl)
    (of_decide_eq_true (by kernel_rfl)) (by unfold Func.isWrapper;first | (rw [if_pos (by decide +kernel)];kernel_rfl) | (rw [if_neg (by decide +kernel)];exact ⟨rfl,rfl⟩))
    (fun os started H enc _=>lifted os started H enc)
theorem proved:Rows.UnitplanValidSaid:=over
end Go.Proofs.YtlkhmflligkbkaaGreat.unitplanValid
