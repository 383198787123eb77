/- The Go function UnitoptRuns returns true for every input, and each argument reads afterwards as it read before. No condition. -/
import Derived.Test.YtihjnfhdmgipmaaGreatRows
import Derived.Test.YtihjnfhdmgipmaaGreatP5
set_option linter.unusedVariables false
set_option linter.defProp false
set_option linter.unusedSimpArgs false
namespace Go.Proofs.YtihjnfhdmgipmaaGreat.unitoptRuns
open Go.ChangeShapes Go.WideShapes Go.ChangeAt Go.RowKit
theorem own:ownKnob Tryz.prog.godebug=none:=by kernel_rfl
theorem laidOut:laidOutB Tryz.prog=true:=by kernel_rfl
set_option maxRecDepth 100000 in
theorem lifted (os:Os) (started:os.Started) (H:Type) (enc:TypeId×Value->H) :
  ReturnsInHanded {} Tryz.checked os 9 .any (Rows.unitoptRunsSpec.pre6 enc Tryz.prog Tryz.f9 Rows.unitoptRunsRow.domain false) (Rows.unitoptRunsSpec.post enc Tryz.prog Tryz.f9 false true false false):=by
 refine returnsInHanded_of_change (C:=Tryz.checked) own started (by kernel_rfl) Tryz.func9
  (ChangeSpec.witness6 (enc:=enc) (C:=Tryz.checked) false ⟨#[],#[.slice none 0 0,.slice none 0 0,.int .i64 0,.int .i64 0,.slice none 0 0,.slice none 0 0],[]⟩ 8 (by kernel_rfl) (by kernel_rfl) (by kernel_rfl) (by kernel_rfl)) ?_
 intro W base D ds gs before G hW hcnd _
 have k:∀ (j:Nat) t v,Tryz.f9.params[j]?=some t->D[j]?=some v->Value.okWide Tryz.prog W .any base t v:=G
 have hW':=hW
 obtain⟨p,q,hA0,hV,rfl,hfz,hnd⟩:=hW
 have hA:DataW.TrodAll enc Tryz.prog W 0 (fun _=>true) true Tryz.f9.params.toList D.toList ds p:=hA0
 rw[Tryz.params9] at hA k
 obtain⟨v0,vs0,d0,ds0,p0,q0,Y,rfl,rfl,h0,r0⟩:=trodAll_cons hA
 obtain⟨v1,vs1,d1,ds1,p1,q1,rfl,rfl,rfl,h1,r1⟩:=trodAll_cons r0
 obtain⟨v2,vs2,d2,ds2,p2,q2,rfl,rfl,rfl,h2,r2⟩:=trodAll_cons r1
 obtain⟨v3,vs3,d3,ds3,p3,q3,rfl,rfl,rfl,h3,r3⟩:=trodAll_cons r2
 obtain⟨v4,vs4,d4,ds4,p4,q4,rfl,rfl,rfl,h4,r4⟩:=trodAll_cons r3
 obtain⟨v5,vs5,d5,ds5,p5,q5,rfl,rfl,rfl,h5,r5⟩:=trodAll_cons r4
 obtain⟨rfl,rfl,rfl⟩:=trodAll_nil r5
 obtain rfl:D=#[v0,v1,v2,v3,v4,v5]:=by cases D;simp_all
 obtain⟨rfl,rfl⟩:=trodVars_none hV
 obtain⟨a0,len0,cap0,rfl⟩:=okWide_slice Tryz.underlying22 (k 0 22 v0 rfl rfl)
 have k0:=h0
 have lt0:∀ x ∈ p0,x.block<W.heap.size:=by obtain⟨m,I⟩:=k0;exact DataW.trod_lt m _ _ _ I
 obtain⟨m0,hm0,e0⟩:=Gx.nU (β:=fun _=>none) (h:=[]) Tryz.underlying22 (by kernel_rfl) (Gx.UQ Tryz.underlying3 (by kernel_rfl)) h0
 rw[Gx.T_,show m0.length=(m0.map (·.1)).length by simp] at e0
 have L:(m0.map (·.1)).length<=9223372036854775807:=by simpa[maxLen] using hm0
 generalize m0.map (·.1)=l0 at e0 L
 obtain⟨a1,len1,cap1,rfl⟩:=okWide_slice Tryz.underlying22 (k 1 22 v1 rfl rfl)
 have k1:=h1
 have lt1:∀ x ∈ p1,x.block<W.heap.size:=by obtain⟨m,I⟩:=k1;exact DataW.trod_lt m _ _ _ I
 obtain⟨m1,hm1,e1⟩:=Gx.nU (β:=fun _=>none) (h:=[]) Tryz.underlying22 (by kernel_rfl) (Gx.UQ Tryz.underlying3 (by kernel_rfl)) h1
 rw[Gx.T_,show m1.length=(m1.map (·.1)).length by simp] at e1
 have hb1:(m1.map (·.1)).length<=9223372036854775807:=by simpa[maxLen] using hm1
 generalize m1.map (·.1)=l1 at e1 hb1
 obtain⟨i2,rfl,rfl,rfl,w2⟩:=open_int Tryz.underlying3 (k 2 3 v2 rfl rfl) h2
 obtain⟨i3,rfl,rfl,rfl,w3⟩:=open_int Tryz.underlying3 (k 3 3 v3 rfl rfl) h3
 obtain⟨a4,len4,cap4,rfl⟩:=okWide_slice Tryz.underlying22 (k 4 22 v4 rfl rfl)
 have k4:=h4
 have lt4:∀ x ∈ p4,x.block<W.heap.size:=by obtain⟨m,I⟩:=k4;exact DataW.trod_lt m _ _ _ I
 obtain⟨m4,hm4,e4⟩:=Gx.nU (β:=fun _=>none) (h:=[]) Tryz.underlying22 (by kernel_rfl) (Gx.UQ Tryz.underlying3 (by kernel_rfl)) h4
 rw[Gx.T_,show m4.length=(m4.map (·.1)).length by simp] at e4
 have hb4:(m4.map (·.1)).length<=9223372036854775807:=by simpa[maxLen] using hm4
 generalize m4.map (·.1)=l4 at e4 hb4
 obtain⟨a5,len5,cap5,rfl⟩:=okWide_slice Tryz.underlying22 (k 5 22 v5 rfl rfl)
 have k5:=h5
 have lt5:∀ x ∈ p5,x.block<W.heap.size:=by obtain⟨m,I⟩:=k5;exact DataW.trod_lt m _ _ _ I
 obtain⟨m5,hm5,e5⟩:=Gx.nU (β:=fun _=>none) (h:=[]) Tryz.underlying22 (by kernel_rfl) (Gx.UQ Tryz.underlying3 (by kernel_rfl)) h5
 rw[Gx.T_,show m5.length=(m5.map (·.1)).length by simp] at e5
 have hb5:(m5.map (·.1)).length<=9223372036854775807:=by simpa[maxLen] using hm5
 generalize m5.map (·.1)=l5 at e5 hb5
 clear hA0 G
 have T:((Gx.Xi 200000000).runK [.imm (Gx.Aj l0) l0.length 1 false false,.imm (Gx.Aj l1) l1.length 1 false false,.int .i64 i2,.int .i64 i3,.imm (Gx.Aj l4) l4.length 1 false false,.imm (Gx.Aj l5) l5.length 1 false false] [] fun v h=>some (v,h))=some (.bool true,[]) :=
  Gx.Uo.jU (N:=200000000) ⟨by decide,by decide⟩ L (K:=fun b=>some (Gx.AV.bool b,[]))
 refine(Gx.Ah8 (Gx.TY 200000000) (Gx.Z7 e0 (Gx.Z7 e1 (Gx.Z7 Gx.Ago (Gx.Z7 Gx.Ago (Gx.Z7 e4 (Gx.Z7 e5 Gx.Aln)))))) T Gx.At8).mono fun e W' ⟨he,bel⟩=>?_
 subst he
 exact⟨_,rfl,_,_,_,[],_,[],hW',trodAll_mk1 (shut_bool Tryz.underlying4 _),(trodAll_cons_mk (Below.trod laidOut (by kernel_rfl) (of_decide_eq_true (by kernel_rfl)) k0 bel lt0) (trodAll_cons_mk (Below.trod laidOut (by kernel_rfl) (of_decide_eq_true (by kernel_rfl)) k1 bel lt1) (trodAll_cons_mk (shut_int Tryz.underlying3 w2) (trodAll_cons_mk (shut_int Tryz.underlying3 w3) (trodAll_cons_mk (Below.trod laidOut (by kernel_rfl) (of_decide_eq_true (by kernel_rfl)) k4 bel lt4) (trodAll_cons_mk (Below.trod laidOut (by kernel_rfl) (of_decide_eq_true (by kernel_rfl)) k5 bel lt5) trodAll_mk0)))))),rfl,bel.frame _,fun h=>by cases h⟩
set_option maxRecDepth 100000
theorem At9:mapsRowed Tryz.prog=true:=by kernel_rfl
theorem Ar7:(Tryz.prog.stops==[])=true:=by kernel_rfl
theorem Ar8:(Tryz.prog.stopKnobs==[])=true:=by kernel_rfl
theorem Ar9:Tryz.prog.stopsHeard=true:=by kernel_rfl
theorem Asa:Tryz.prog.mayEnter=true:=by kernel_rfl
theorem Asb:(Rows.unitoptRunsRow.lifted==Tryz.prog.liftsFinal)=true:=by kernel_rfl
theorem Aua:(Tryz.prog.make==some Rows.unitoptRunsRow.make)=true:=by kernel_rfl
theorem Aub:(Rows.unitoptRunsRow.plainKeys==Tryz.prog.plainKeys)=true:=by kernel_rfl
theorem Axh:(Rows.unitoptRunsRow.inPlace==Tryz.prog.inPlace 9)=true:=by kernel_rfl
theorem Axi:(Rows.unitoptRunsRow.unfollowed==Tryz.prog.unfollowed 9)=true:=by kernel_rfl
theorem Axj:(Rows.unitoptRunsRow.recurses==Tryz.prog.recurses 9)=true:=by kernel_rfl
theorem Axk:(Rows.unitoptRunsRow.named==Tryz.prog.varsNamed 9)=true:=by kernel_rfl
theorem Asd:joinedFacts Tryz.prog 9 Tryz.f9 Rows.unitoptRunsSpec Rows.unitoptRunsRow=true :=
 Gx.Ar6 laidOut At9 Ar7 Ar8 Ar9 Asa Axh Axi Axj Axk Asb Aua Aub (by kernel_rfl) (by kernel_rfl) (by kernel_rfl) rfl rfl (by kernel_rfl) (by kernel_rfl) (by kernel_rfl) (by kernel_rfl) (by kernel_rfl) (by kernel_rfl) (by kernel_rfl) (by kernel_rfl) (by kernel_rfl) rfl (by kernel_rfl) (by kernel_rfl) (by kernel_rfl) (by kernel_rfl)
theorem Apk:Tryz.prog.funcNamed Rows.unitoptRunsRow.func=some 9:=by kernel_rfl
theorem Ase:Tryz.f9.isInstance Tryz.prog Rows.unitoptRunsRow.origin Rows.unitoptRunsRow.targs:=of_decide_eq_true (by kernel_rfl)
theorem Asf:Tryz.f9.isWrapper Tryz.prog Rows.unitoptRunsRow.wrapper Rows.unitoptRunsRow.mainSum:=by unfold Func.isWrapper;first | (rw[if_pos (by decide +kernel)];kernel_rfl) | (rw[if_neg (by decide +kernel)];exact⟨rfl,rfl⟩)
theorem over:Rows.unitoptRunsRow.holds Tryz.pinned (OpenSpec.ofChange Rows.unitoptRunsSpec) :=
 OpenClaim.holds_of_wide 9 Tryz.f9 rfl rfl rfl rfl rfl rfl rfl ⟨rfl,rfl,rfl,rfl,rfl⟩ rfl rfl rfl rfl rfl Apk Tryz.func9 Asd
  Ase Asf
  (fun os started H enc _=>lifted os started H enc)
theorem proved:Rows.UnitoptRunsSaid:=over
end Go.Proofs.YtihjnfhdmgipmaaGreat.unitoptRuns
