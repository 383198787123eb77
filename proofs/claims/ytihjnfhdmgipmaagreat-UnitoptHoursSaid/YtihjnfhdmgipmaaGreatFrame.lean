/- A part of the proof; each theorem says what it holds. -/
import Derived.Test.YtihjnfhdmgipmaaGreatRows
import Derived.Test.YtihjnfhdmgipmaaGreatP4
set_option linter.unusedVariables false
set_option linter.defProp false
set_option linter.unusedSimpArgs false
namespace Gx
open Go
theorem am {a b : Bool} (h1 : a = true) (h2 : b = true) : (a && b) = true := by rw [h1, h2]; rfl
theorem jfacts {P : Program} (h2 : laidOutB P = true) (h3 : mapsRowed P = true) (h7 : (P.stops == []) = true) (h9 : (P.stopKnobs == []) = true) (h25 : P.stopsHeard = true) (h26 : P.mayEnter = true) {f : FuncId} {fn : Func} {s : ChangeSpec} {c : OpenClaim} (h10 : (c.inPlace == P.inPlace f) = true) (h11 : (c.unfollowed == P.unfollowed f) = true) (h12 : (c.recurses == P.recurses f) = true) (h13 : (c.named == P.varsNamed f) = true)
    (h27 : (c.lifted == P.liftsFinal) = true) (h28 : (P.make == some c.make) = true) (h23 : (c.plainKeys == P.plainKeys) = true)
    (h1 : c.wf (OpenSpec.ofChange s) = true) (h4 : fn.params.all (P.readableRec ·) = true) (h5 : namedTie P c.named s.vars = true) (h6 : (c.stops == []) = true) (h8 : (c.knobs == []) = true)
    (h14 : (c.maps == (fn.params.toList ++ s.plain.varTypes P).any (P.mapsRec ·)) = true) (h15 : (c.ifaces == (fn.params.toList ++ s.plain.varTypes P).any (P.ifacesRec ·)) = true) (h16 : (c.mapsOut == P.mapsAmong fn.resultTypes.toList) = true)
    (h17 : (c.loops == (fn.params.toList ++ s.plain.varTypes P).any (P.loopsFrom ·)) = true) (h18 : (c.wideKeys == (fn.params.toList ++ s.plain.varTypes P ++ fn.resultTypes.toList).any (P.wideKeysFrom ·)) = true)
    (h19 : s.vars.all (P.varReadable ·) = true) (h20 : fn.resultTypes.all (fun t => P.readableRec t && decide (t < P.types.size)) = true) (h21 : (c.ifacesOut == fn.resultTypes.toList.any (P.ifacesRec ·)) = true) (h22 : (c.loopsOut == fn.resultTypes.toList.any (P.loopsFrom ·)) = true)
    (h24 : c.shortTexts.isNone = true) (h29 : (c.kinds == (if c.domain.isEmpty then [] else fn.params.toList.map fun t => match P.underlying t with | some (.int k) => some k | _ => none)) = true) (h30 : (c.pinned == c.pinnedBy) = true)
    (h31 : (c.veiled == (fn.params.toList ++ s.plain.varTypes P ++ fn.resultTypes.toList).any (P.veiledRec ·)) = true) (h32 : c.veiledFits P fn.params.toList (fn.params.toList ++ s.plain.varTypes P ++ fn.resultTypes.toList) = true) : joinedFacts P f fn s c = true := by
  unfold joinedFacts
  exact am (am (am (am (am (am (am (am (am (am (am (am (am (am (am (am (am (am (am (am (am (am (am (am (am (am (am (am (am (am (am h1 h2) h3) h4) h5) h6) h7) h8) h9) h10) h11) h12) h13) h14) h15) h16) h17) h18) h19) h20) h21) h22) h23) h24) h25) h26) h27) h28) h29) h30) h31) h32
end Gx
namespace Go.Proofs.YtihjnfhdmgipmaaGreat.unitoptHours
open Go.ChangeShapes Go.WideShapes Go.ChangeAt Go.RowKit
theorem own:ownKnob Tryz.prog.godebug=none:=by kernel_rfl
theorem laidOut:laidOutB Tryz.prog=true:=by kernel_rfl
set_option maxRecDepth 100000 in
theorem lifted (os:Os) (started:os.Started) (H:Type) (enc:TypeId×Value->H) :
  ReturnsInHanded {} Tryz.checked os 5 .any (Rows.unitoptHoursSpec.pre6 enc Tryz.prog Tryz.f5 Rows.unitoptHoursRow.domain false) (Rows.unitoptHoursSpec.post enc Tryz.prog Tryz.f5 false true false false):=by
 refine returnsInHanded_of_change (C:=Tryz.checked) own started (by kernel_rfl) Tryz.func5
  (ChangeSpec.witness6 (enc:=enc) (C:=Tryz.checked) false ⟨#[],#[.slice none 0 0,.int .i64 0,.int .i64 0,.agg #[.bool false,.slice none 0 0,.slice none 0 0],.agg #[.bool false,.slice none 0 0,.slice none 0 0],.int .i64 0,.int .i64 0,.bool false],[]⟩ 8 (by kernel_rfl) (by kernel_rfl) (by kernel_rfl) (by kernel_rfl)) ?_
 intro W base A ds gs before B hW hcnd _
 have k:∀ (j:Nat) t v,Tryz.f5.params[j]?=some t->A[j]?=some v->Value.okWide Tryz.prog W .any base t v:=B
 have hW':=hW
 obtain⟨p,q,hA0,hV,rfl,hfz,hnd⟩:=hW
 have hA:DataW.TrodAll enc Tryz.prog W 0 (fun _=>true) true Tryz.f5.params.toList A.toList ds p:=hA0
 rw[Tryz.params5] at hA k
 obtain⟨v0,vs0,d0,ds0,p0,q0,hargs,rfl,rfl,h0,r0⟩:=trodAll_cons hA
 obtain⟨v1,vs1,d1,ds1,p1,q1,rfl,rfl,rfl,h1,r1⟩:=trodAll_cons r0
 obtain⟨v2,vs2,d2,ds2,p2,q2,rfl,rfl,rfl,h2,r2⟩:=trodAll_cons r1
 obtain⟨v3,vs3,d3,ds3,p3,q3,rfl,rfl,rfl,h3,r3⟩:=trodAll_cons r2
 obtain⟨v4,vs4,d4,ds4,p4,q4,rfl,rfl,rfl,h4,r4⟩:=trodAll_cons r3
 obtain⟨v5,vs5,d5,ds5,p5,q5,rfl,rfl,rfl,h5,r5⟩:=trodAll_cons r4
 obtain⟨v6,vs6,d6,ds6,p6,q6,rfl,rfl,rfl,h6,r6⟩:=trodAll_cons r5
 obtain⟨v7,vs7,d7,ds7,p7,q7,rfl,rfl,rfl,h7,r7⟩:=trodAll_cons r6
 obtain⟨rfl,rfl,rfl⟩:=trodAll_nil r7
 obtain rfl:A=#[v0,v1,v2,v3,v4,v5,v6,v7]:=by cases A;simp_all
 obtain⟨rfl,rfl⟩:=trodVars_none hV
 obtain⟨a0,len0,cap0,rfl⟩:=okWide_slice Tryz.underlying22 (k 0 22 v0 rfl rfl)
 have k0:=h0
 have lt0:∀ x ∈ p0,x.block<W.heap.size:=by obtain⟨m,D⟩:=k0;exact DataW.trod_lt m _ _ _ D
 obtain⟨m0,hm0,e0⟩:=Gx.Aav (β:=fun _=>none) (h:=[]) Tryz.underlying22 (by kernel_rfl) (Gx.l_ Tryz.underlying3 (by kernel_rfl)) h0
 rw[Gx.sj,show m0.length=(m0.map (·.1)).length by simp] at e0
 have G:(m0.map (·.1)).length<=9223372036854775807:=by simpa[maxLen] using hm0
 generalize m0.map (·.1)=l0 at e0 G
 obtain⟨i1,rfl,rfl,rfl,w1⟩:=open_int Tryz.underlying3 (k 1 3 v1 rfl rfl) h1
 obtain⟨i2,rfl,rfl,rfl,w2⟩:=open_int Tryz.underlying3 (k 2 3 v2 rfl rfl) h2
 obtain hv3:=Gx.PM Tryz.underlying36 (k 3 36 v3 rfl rfl)
 have k3:=h3
 have lt3:∀ x ∈ p3,x.block<W.heap.size:=by obtain⟨m,D⟩:=k3;exact DataW.trod_lt m _ _ _ D
 obtain⟨neg3,la3,lb3,I,L,e3⟩:=Gx.sk (β:=fun _=>none) (h:=[]) hv3 h3
 obtain hv4:=Gx.PM Tryz.underlying36 (k 4 36 v4 rfl rfl)
 have k4:=h4
 have lt4:∀ x ∈ p4,x.block<W.heap.size:=by obtain⟨m,D⟩:=k4;exact DataW.trod_lt m _ _ _ D
 obtain⟨neg4,la4,lb4,T,V,e4⟩:=Gx.sk (β:=fun _=>none) (h:=[]) hv4 h4
 obtain⟨i5,rfl,rfl,rfl,w5⟩:=open_int Tryz.underlying3 (k 5 3 v5 rfl rfl) h5
 obtain⟨i6,rfl,rfl,rfl,w6⟩:=open_int Tryz.underlying3 (k 6 3 v6 rfl rfl) h6
 obtain⟨b7,rfl,rfl,rfl⟩:=open_bool Tryz.underlying4 (k 7 4 v7 rfl rfl) h7
 clear hA0 B
 have Y:((Gx.Qd 200000000).runK [.imm (Gx.Ap l0) l0.length 1 false false,.int .i64 i1,.int .i64 i2,.agg [.bool neg3,.imm (Gx.Ac la3) la3.length 1 false false,.imm (Gx.Ac lb3) lb3.length 1 false false],.agg [.bool neg4,.imm (Gx.Ac la4) la4.length 1 false false,.imm (Gx.Ac lb4) lb4.length 1 false false],.int .i64 i5,.int .i64 i6,.bool b7] [] fun v h=>some (v,h))=some (.bool true,[]) :=
  Gx.Uo.VY (N:=200000000) ⟨by decide,by decide⟩ I L T V G (K:=fun b=>some (Gx.AV.bool b,[]))
 refine(Gx.wi (Gx.HS 200000000) (Gx.Og e0 (Gx.Og Gx.e9 (Gx.Og Gx.e9 (Gx.Og e3 (Gx.Og e4 (Gx.Og Gx.e9 (Gx.Og Gx.e9 (Gx.Og Gx.yu Gx.yv)))))))) Y Gx.Ae2).mono fun e W' ⟨he,bel⟩=>?_
 subst he
 exact⟨_,rfl,_,_,_,[],_,[],hW',trodAll_mk1 (shut_bool Tryz.underlying4 _),(trodAll_cons_mk (Below.trod laidOut (by kernel_rfl) (of_decide_eq_true (by kernel_rfl)) k0 bel lt0) (trodAll_cons_mk (shut_int Tryz.underlying3 w1) (trodAll_cons_mk (shut_int Tryz.underlying3 w2) (trodAll_cons_mk (Below.trod laidOut (by kernel_rfl) (of_decide_eq_true (by kernel_rfl)) k3 bel lt3) (trodAll_cons_mk (Below.trod laidOut (by kernel_rfl) (of_decide_eq_true (by kernel_rfl)) k4 bel lt4) (trodAll_cons_mk (shut_int Tryz.underlying3 w5) (trodAll_cons_mk (shut_int Tryz.underlying3 w6) (trodAll_cons_mk (shut_bool Tryz.underlying4 _) trodAll_mk0)))))))),rfl,bel.frame _,fun h=>by cases h⟩
set_option maxRecDepth 100000
theorem fMaps : mapsRowed Tryz.prog = true := by kernel_rfl
theorem fStops : (Tryz.prog.stops == []) = true := by kernel_rfl
theorem fKnobs : (Tryz.prog.stopKnobs == []) = true := by kernel_rfl
theorem fHeard : Tryz.prog.stopsHeard = true := by kernel_rfl
theorem fEnter : Tryz.prog.mayEnter = true := by kernel_rfl
theorem fLifts : (Rows.unitoptHoursRow.lifted == Tryz.prog.liftsFinal) = true := by kernel_rfl
theorem fMake : (Tryz.prog.make == some Rows.unitoptHoursRow.make) = true := by kernel_rfl
theorem fKeys : (Rows.unitoptHoursRow.plainKeys == Tryz.prog.plainKeys) = true := by kernel_rfl
theorem c10 : (Rows.unitoptHoursRow.inPlace == Tryz.prog.inPlace 5) = true := by kernel_rfl
theorem c11 : (Rows.unitoptHoursRow.unfollowed == Tryz.prog.unfollowed 5) = true := by kernel_rfl
theorem c12 : (Rows.unitoptHoursRow.recurses == Tryz.prog.recurses 5) = true := by kernel_rfl
theorem c13 : (Rows.unitoptHoursRow.named == Tryz.prog.varsNamed 5) = true := by kernel_rfl
theorem closed : joinedFacts Tryz.prog 5 Tryz.f5 Rows.unitoptHoursSpec Rows.unitoptHoursRow = true :=
  Gx.jfacts laidOut fMaps fStops fKnobs fHeard fEnter c10 c11 c12 c13 fLifts fMake fKeys (by kernel_rfl) (by kernel_rfl) (by kernel_rfl) rfl rfl (by kernel_rfl) (by kernel_rfl) (by kernel_rfl) (by kernel_rfl) (by kernel_rfl) (by kernel_rfl) (by kernel_rfl) (by kernel_rfl) (by kernel_rfl) rfl (by kernel_rfl) (by kernel_rfl) (by kernel_rfl) (by kernel_rfl)
theorem isNamed : Tryz.prog.funcNamed Rows.unitoptHoursRow.func = some 5 := by kernel_rfl
theorem isInst : Tryz.f5.isInstance Tryz.prog Rows.unitoptHoursRow.origin Rows.unitoptHoursRow.targs := of_decide_eq_true (by kernel_rfl)
theorem isWrap : Tryz.f5.isWrapper Tryz.prog Rows.unitoptHoursRow.wrapper Rows.unitoptHoursRow.mainSum := by unfold Func.isWrapper; first | (rw [if_pos (by decide +kernel)]; kernel_rfl) | (rw [if_neg (by decide +kernel)]; exact ⟨rfl, rfl⟩)
theorem over:Rows.unitoptHoursRow.holds Tryz.pinned (OpenSpec.ofChange Rows.unitoptHoursSpec) :=
 OpenClaim.holds_of_wide 5 Tryz.f5 rfl rfl rfl rfl rfl rfl rfl ⟨rfl,rfl,rfl,rfl,rfl⟩ rfl rfl rfl rfl rfl isNamed Tryz.func5 closed
  isInst isWrap
  (fun os started H enc _=>lifted os started H enc)
theorem proved:Rows.UnitoptHoursSaid:=over
end Go.Proofs.YtihjnfhdmgipmaaGreat.unitoptHours
