/- A part of the proof: what it holds is said by each theorem. -/
import Derived.Test.YtlkhmflligkbkaaGreatRows
import Derived.Test.YtlkhmflligkbkaaGreatP5
set_option linter.unusedVariables false
set_option linter.defProp false
set_option linter.unusedSimpArgs false
namespace Go.Proofs.YtlkhmflligkbkaaGreat.unitplanLinear
open Go.ChangeShapes Go.WideShapes Go.ChangeAt Go.RowKit
theorem own:ownKnob Tryz.prog.godebug=none:=by kernel_rfl
theorem laidOut:laidOutB Tryz.prog=true:=by kernel_rfl
set_option maxRecDepth 100000 in
theorem lifted (os:Os) (started:os.Started) (H:Type) (enc:TypeId×Value→H) :
  ReturnsInHanded {} Tryz.checked os 10 .any (Rows.unitplanLinearSpec.pre6 enc Tryz.prog Tryz.f10 Rows.unitplanLinearRow.domain false) (Rows.unitplanLinearSpec.post enc Tryz.prog Tryz.f10 false true false false):=by
 refine returnsInHanded_of_change (C:=Tryz.checked) own started (by kernel_rfl) Tryz.func10
  (ChangeSpec.witness6 (enc:=enc) (C:=Tryz.checked) false ⟨#[],#[.slice none 0 0,.slice none 0 0,.slice none 0 0,.slice none 0 0],[]⟩ 8 (by kernel_rfl) (by kernel_rfl) (by kernel_rfl) (by kernel_rfl)) ?_
 intro W base D ds gs before F hW hcnd _
 have k:∀ (j:Nat) t v,Tryz.f10.params[j]?=some t→D[j]?=some v→Value.okWide Tryz.prog W .any base t v:=F
 have hW':=hW
 obtain⟨p,q,hA0,hV,rfl,hfz,hnd⟩:=hW
 have hA:DataW.TrodAll enc Tryz.prog W 0 (fun _=>true) true Tryz.f10.params.toList D.toList ds p:=hA0
 rw[Tryz.params10] at hA k
 obtain⟨v0,vs0,d0,ds0,p0,q0,M,rfl,rfl,h0,r0⟩:=trodAll_cons hA
 obtain⟨v1,vs1,d1,ds1,p1,q1,rfl,rfl,rfl,h1,r1⟩:=trodAll_cons r0
 obtain⟨v2,vs2,d2,ds2,p2,q2,rfl,rfl,rfl,h2,r2⟩:=trodAll_cons r1
 obtain⟨v3,vs3,d3,ds3,p3,q3,rfl,rfl,rfl,h3,r3⟩:=trodAll_cons r2
 obtain⟨rfl,rfl,rfl⟩:=trodAll_nil r3
 obtain rfl:D=#[v0,v1,v2,v3]:=by cases D;simp_all
 obtain⟨rfl,rfl⟩:=trodVars_none hV
 obtain⟨a0,len0,cap0,rfl⟩:=okWide_slice Tryz.underlying23 (k 0 23 v0 rfl rfl)
 have k0:=h0
 have lt0:∀ x ∈ p0,x.block<W.heap.size:=by obtain⟨m,G⟩:=k0;exact DataW.trod_lt m _ _ _ G
 obtain⟨m0,S,T⟩:=Gx.Atf (β:=fun _=>none) (h:=[]) Tryz.underlying23 (by kernel_rfl) (Gx.tz Tryz.underlying3 (by kernel_rfl)) h0
 rw[Gx.Alk,show m0.length=(m0.map (·.1)).length by simp] at T
 have I:(m0.map (·.1)).length≤9223372036854775807:=by simpa[maxLen] using S
 generalize m0.map (·.1)=l0 at T I
 obtain⟨a1,len1,cap1,rfl⟩:=okWide_slice Tryz.underlying23 (k 1 23 v1 rfl rfl)
 have k1:=h1
 have lt1:∀ x ∈ p1,x.block<W.heap.size:=by obtain⟨m,G⟩:=k1;exact DataW.trod_lt m _ _ _ G
 obtain⟨m1,U,e1⟩:=Gx.Atf (β:=fun _=>none) (h:=[]) Tryz.underlying23 (by kernel_rfl) (Gx.tz Tryz.underlying3 (by kernel_rfl)) h1
 rw[Gx.Alk,show m1.length=(m1.map (·.1)).length by simp] at e1
 have V:(m1.map (·.1)).length≤9223372036854775807:=by simpa[maxLen] using U
 generalize m1.map (·.1)=l1 at e1 V
 obtain⟨a2,len2,cap2,rfl⟩:=okWide_slice Tryz.underlying39 (k 2 39 v2 rfl rfl)
 have k2:=h2
 have lt2:∀ x ∈ p2,x.block<W.heap.size:=by obtain⟨m,G⟩:=k2;exact DataW.trod_lt m _ _ _ G
 obtain⟨l2,Y,e2⟩:=Gx.Arz (β:=fun _=>none) (h:=[]) h2
 obtain⟨a3,K4,cap3,rfl⟩:=okWide_slice Tryz.underlying39 (k 3 39 v3 rfl rfl)
 have k3:=h3
 have lt3:∀ x ∈ p3,x.block<W.heap.size:=by obtain⟨m,G⟩:=k3;exact DataW.trod_lt m _ _ _ G
 obtain⟨l3,hl3,e3⟩:=Gx.Arz (β:=fun _=>none) (h:=[]) h3
 clear hA0 F
 have L:((Gx.TC 200000000).runK [.imm (Gx.Av l0) l0.length 1 false false,.imm (Gx.Av l1) l1.length 1 false false,.imm (l2.flatMap Gx.RatD.av) l2.length 3 false false,.imm (l3.flatMap Gx.RatD.av) l3.length 3 false false] [] fun v h=>some (v,h))=some (.bool true,[]) :=
  Gx.jH ⟨by decide,by decide⟩ I Y hl3 (K:=fun b=>some (Gx.AV.bool b,[]))
 refine(Gx.A7m (Gx.TD 200000000) (Gx.iB T (Gx.iB e1 (Gx.iB e2 (Gx.iB e3 Gx.Bap)))) L).mono fun e W' ⟨he,bel⟩=>?_
 subst he
 exact⟨_,rfl,_,_,_,[],_,[],hW',trodAll_mk1 (shut_bool Tryz.underlying4 _),(trodAll_cons_mk (Below.trod laidOut (by kernel_rfl) (of_decide_eq_true (by kernel_rfl)) k0 bel lt0) (trodAll_cons_mk (Below.trod laidOut (by kernel_rfl) (of_decide_eq_true (by kernel_rfl)) k1 bel lt1) (trodAll_cons_mk (Below.trod laidOut (by kernel_rfl) (of_decide_eq_true (by kernel_rfl)) k2 bel lt2) (trodAll_cons_mk (Below.trod laidOut (by kernel_rfl) (of_decide_eq_true (by kernel_rfl)) k3 bel lt3) trodAll_mk0)))),rfl,bel.frame _,fun h=>by cases h⟩
theorem over:Rows.unitplanLinearRow.holds Tryz.pinned (OpenSpec.ofChange Rows.unitplanLinearSpec) :=
 OpenClaim.holds_of_wide 10 Tryz.f10 rfl rfl rfl rfl rfl rfl rfl ⟨rfl,rfl,rfl,rfl,rfl⟩ rfl rfl rfl rfl rfl (by kernel_rfl) Tryz.func10 (by kernel_rfl)
  (of_decide_eq_true (by kernel_rfl)) (by unfold Func.isWrapper;first | (rw[if_pos (by decide +kernel)];kernel_rfl) | (rw[if_neg (by decide +kernel)];exact⟨rfl,rfl⟩))
  (fun os started H enc _=>lifted os started H enc)
theorem proved:Rows.UnitplanLinearSaid:=over
end Go.Proofs.YtlkhmflligkbkaaGreat.unitplanLinear
