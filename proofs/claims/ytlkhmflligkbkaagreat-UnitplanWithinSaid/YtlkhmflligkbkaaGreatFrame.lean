/- A part of the proof: what it holds is said by each theorem. -/
import Derived.Test.YtlkhmflligkbkaaGreatRows
import Derived.Test.YtlkhmflligkbkaaGreatP5
set_option linter.unusedVariables false
set_option linter.defProp false
set_option linter.unusedSimpArgs false
namespace Go.Proofs.YtlkhmflligkbkaaGreat.unitplanWithin
open Go.ChangeShapes Go.WideShapes Go.ChangeAt Go.RowKit
theorem own:ownKnob Tryz.prog.godebug=none:=by kernel_rfl
theorem laidOut:laidOutB Tryz.prog=true:=by kernel_rfl
set_option maxRecDepth 100000 in
theorem lifted (os:Os) (started:os.Started) (H:Type) (enc:TypeId×Value→H) :
  ReturnsInHanded {} Tryz.checked os 7 .any (Rows.unitplanWithinSpec.pre6 enc Tryz.prog Tryz.f7 Rows.unitplanWithinRow.domain false) (Rows.unitplanWithinSpec.post enc Tryz.prog Tryz.f7 false true false false):=by
 refine returnsInHanded_of_change (C:=Tryz.checked) own started (by kernel_rfl) Tryz.func7
  (ChangeSpec.witness6 (enc:=enc) (C:=Tryz.checked) false ⟨#[],#[.slice none 0 0,.slice none 0 0,.int .i64 0],[]⟩ 8 (by kernel_rfl) (by kernel_rfl) (by kernel_rfl) (by kernel_rfl)) ?_
 intro W base k ds gs before F hW Y _
 have D:∀ (j:Nat) t v,Tryz.f7.params[j]?=some t→k[j]?=some v→Value.okWide Tryz.prog W .any base t v:=F
 have hW':=hW
 obtain⟨p,q,hA0,hV,rfl,hfz,hnd⟩:=hW
 have hA:DataW.TrodAll enc Tryz.prog W 0 (fun _=>true) true Tryz.f7.params.toList k.toList ds p:=hA0
 rw[Tryz.params7] at hA D
 obtain⟨v0,vs0,d0,ds0,p0,q0,L,rfl,rfl,h0,r0⟩:=trodAll_cons hA
 obtain⟨v1,vs1,d1,ds1,p1,q1,rfl,rfl,rfl,h1,r1⟩:=trodAll_cons r0
 obtain⟨v2,vs2,d2,ds2,p2,q2,rfl,rfl,rfl,h2,r2⟩:=trodAll_cons r1
 obtain⟨rfl,rfl,rfl⟩:=trodAll_nil r2
 obtain rfl:k=#[v0,v1,v2]:=by cases k;simp_all
 obtain⟨rfl,rfl⟩:=trodVars_none hV
 obtain⟨a0,len0,cap0,rfl⟩:=okWide_slice Tryz.underlying23 (D 0 23 v0 rfl rfl)
 have k0:=h0
 have lt0:∀ x ∈ p0,x.block<W.heap.size:=by obtain⟨m,M⟩:=k0;exact DataW.trod_lt m _ _ _ M
 obtain⟨m0,S,T⟩:=Gx.A2r (β:=fun _=>none) (h:=[]) Tryz.underlying23 (by kernel_rfl) (Gx.Amn Tryz.underlying3 (by kernel_rfl)) h0
 rw[Gx.Aio,show m0.length=(m0.map (·.1)).length by simp] at T
 have G:(m0.map (·.1)).length≤9223372036854775807:=by simpa[maxLen] using S
 generalize m0.map (·.1)=l0 at T G
 obtain⟨a1,len1,cap1,rfl⟩:=okWide_slice Tryz.underlying23 (D 1 23 v1 rfl rfl)
 have k1:=h1
 have lt1:∀ x ∈ p1,x.block<W.heap.size:=by obtain⟨m,M⟩:=k1;exact DataW.trod_lt m _ _ _ M
 obtain⟨m1,U,e1⟩:=Gx.A2r (β:=fun _=>none) (h:=[]) Tryz.underlying23 (by kernel_rfl) (Gx.Amn Tryz.underlying3 (by kernel_rfl)) h1
 rw[Gx.Aio,show m1.length=(m1.map (·.1)).length by simp] at e1
 have V:(m1.map (·.1)).length≤9223372036854775807:=by simpa[maxLen] using U
 generalize m1.map (·.1)=l1 at e1 V
 obtain⟨i2,rfl,rfl,rfl,w2⟩:=open_int Tryz.underlying3 (D 2 3 v2 rfl rfl) h2
 clear hA0 F
 have I:((Gx.RN 200000000).runK [.imm (Gx.Av l0) l0.length 1 false false,.imm (Gx.Av l1) l1.length 1 false false,.int .i64 i2] [] fun v h=>some (v,h))=some (.bool true,[]) :=
  Gx.iA ⟨by decide,by decide⟩ G (K:=fun b=>some (Gx.AV.bool b,[]))
 refine(Gx.A4q (Gx.RO 200000000) (Gx.sU T (Gx.sU e1 (Gx.sU Gx.A9y Gx.A7q))) I).mono fun e W' ⟨he,bel⟩=>?_
 subst he
 exact⟨_,rfl,_,_,_,[],_,[],hW',trodAll_mk1 (shut_bool Tryz.underlying4 _),(trodAll_cons_mk (Below.trod laidOut (by kernel_rfl) (of_decide_eq_true (by kernel_rfl)) k0 bel lt0) (trodAll_cons_mk (Below.trod laidOut (by kernel_rfl) (of_decide_eq_true (by kernel_rfl)) k1 bel lt1) (trodAll_cons_mk (shut_int Tryz.underlying3 w2) trodAll_mk0))),rfl,bel.frame _,fun h=>by cases h⟩
theorem over:Rows.unitplanWithinRow.holds Tryz.pinned (OpenSpec.ofChange Rows.unitplanWithinSpec) :=
 OpenClaim.holds_of_wide 7 Tryz.f7 rfl rfl rfl rfl rfl rfl rfl ⟨rfl,rfl,rfl,rfl,rfl⟩ rfl rfl rfl rfl rfl (by kernel_rfl) Tryz.func7 (by kernel_rfl)
  (of_decide_eq_true (by kernel_rfl)) (by unfold Func.isWrapper;first | (rw[if_pos (by decide +kernel)];kernel_rfl) | (rw[if_neg (by decide +kernel)];exact⟨rfl,rfl⟩))
  (fun os started H enc _=>lifted os started H enc)
theorem proved:Rows.UnitplanWithinSaid:=over
end Go.Proofs.YtlkhmflligkbkaaGreat.unitplanWithin
