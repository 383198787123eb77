/- The Go function OrderingRelabels returns true for every input, and each argument reads afterwards as it read before. No condition. -/
import Derived.Test.YtcbkbnhmbpmfjaaRows
import Derived.Test.YtcbkbnhmbpmfjaaP3
set_option linter.unusedVariables false
set_option linter.defProp false
set_option linter.unusedSimpArgs false
namespace Go.Proofs.Ytcbkbnhmbpmfjaa.orderingRelabels
open Go.ChangeShapes Go.WideShapes Go.ChangeAt Go.RowKit
theorem own:ownKnob Try.prog.godebug=none:=by kernel_rfl
theorem laidOut:laidOutB Try.prog=true:=by kernel_rfl
set_option maxRecDepth 100000 in
theorem lifted (os:Os) (started:os.Started) (H:Type) (enc:TypeId×Value→H) :
  ReturnsInHanded {} Try.checked os 4 .any (Rows.orderingRelabelsSpec.pre6 enc Try.prog Try.f4 Rows.orderingRelabelsRow.domain false) (Rows.orderingRelabelsSpec.post enc Try.prog Try.f4 false true false false):=by
 refine returnsInHanded_of_change (C:=Try.checked) own started (by kernel_rfl) Try.func4
  (ChangeSpec.witness6 (enc:=enc) (C:=Try.checked) false ⟨#[],#[.slice none 0 0,.slice none 0 0,.slice none 0 0],[]⟩ 8 (by kernel_rfl) (by kernel_rfl) (by kernel_rfl) (by kernel_rfl)) ?_
 intro W base args ds gs before hval0 hW hcnd _
 have hval:∀ (j:Nat) t v,Try.f4.params[j]?=some t→args[j]?=some v→Value.okWide Try.prog W .any base t v:=hval0
 have hW':=hW
 obtain⟨p,q,hA0,hV,rfl,hfz,hnd⟩:=hW
 have hA:DataW.TrodAll enc Try.prog W 0 (fun _=>true) true Try.f4.params.toList args.toList ds p:=hA0
 rw[Try.params4] at hA hval
 obtain⟨v0,vs0,d0,ds0,p0,q0,hargs,rfl,rfl,h0,r0⟩:=trodAll_cons hA
 obtain⟨v1,vs1,d1,ds1,p1,q1,rfl,rfl,rfl,h1,r1⟩:=trodAll_cons r0
 obtain⟨v2,vs2,d2,ds2,p2,q2,rfl,rfl,rfl,h2,r2⟩:=trodAll_cons r1
 obtain⟨rfl,rfl,rfl⟩:=trodAll_nil r2
 obtain rfl:args=#[v0,v1,v2]:=by cases args;simp_all
 obtain⟨rfl,rfl⟩:=trodVars_none hV
 obtain⟨a0,len0,cap0,rfl⟩:=okWide_slice Try.underlying22 (hval 0 22 v0 rfl rfl)
 have k0:=h0
 have lt0:∀ x ∈ p0,x.block<W.heap.size:=by obtain⟨m,hm⟩:=k0;exact DataW.trod_lt m _ _ _ hm
 obtain⟨l0,hl0,e0⟩:=Gx.H4 (β:=fun _=>none) (h:=[]) h0
 obtain⟨a1,len1,cap1,rfl⟩:=okWide_slice Try.underlying22 (hval 1 22 v1 rfl rfl)
 have k1:=h1
 have lt1:∀ x ∈ p1,x.block<W.heap.size:=by obtain⟨m,hm⟩:=k1;exact DataW.trod_lt m _ _ _ hm
 obtain⟨l1,hl1,e1⟩:=Gx.H4 (β:=fun _=>none) (h:=[]) h1
 obtain⟨a2,len2,cap2,rfl⟩:=okWide_slice Try.underlying22 (hval 2 22 v2 rfl rfl)
 have k2:=h2
 have lt2:∀ x ∈ p2,x.block<W.heap.size:=by obtain⟨m,hm⟩:=k2;exact DataW.trod_lt m _ _ _ hm
 obtain⟨l2,hl2,e2⟩:=Gx.H4 (β:=fun _=>none) (h:=[]) h2
 clear hA0 hval0
 have hrun:((Gx.Nx 4096).runK [.imm (Gx.Ab l0) l0.length 1 false false,.imm (Gx.Ab l1) l1.length 1 false false,.imm (Gx.Ab l2) l2.length 1 false false] [] fun v h=>some (v,h))=some (.bool true,[]) :=
  Gx.JK 4096 (by decide) hl0 hl1 hl2 (K:=fun b=>some (Gx.AV.bool b,[]))
 refine(Gx.AP (Gx.Ny 4096) (Gx.Kd e0 (Gx.Kd e1 (Gx.Kd e2 Gx.IJ))) hrun Gx.XH).mono fun e W' ⟨he,bel⟩=>?_
 subst he
 exact⟨_,rfl,_,_,_,[],_,[],hW',trodAll_mk1 (shut_bool Try.underlying4 _),(trodAll_cons_mk (Below.trod laidOut (by kernel_rfl) (of_decide_eq_true (by kernel_rfl)) k0 bel lt0) (trodAll_cons_mk (Below.trod laidOut (by kernel_rfl) (of_decide_eq_true (by kernel_rfl)) k1 bel lt1) (trodAll_cons_mk (Below.trod laidOut (by kernel_rfl) (of_decide_eq_true (by kernel_rfl)) k2 bel lt2) trodAll_mk0))),rfl,bel.frame _,fun h=>by cases h⟩
theorem over:Rows.orderingRelabelsRow.holds Try.pinned (OpenSpec.ofChange Rows.orderingRelabelsSpec) :=
 OpenClaim.holds_of_wide 4 Try.f4 rfl rfl rfl rfl rfl rfl rfl ⟨rfl,rfl,rfl,rfl,rfl⟩ rfl rfl rfl rfl rfl (by kernel_rfl) Try.func4 (by kernel_rfl)
  (of_decide_eq_true (by kernel_rfl)) (by unfold Func.isWrapper;first | (rw[if_pos (by decide +kernel)];kernel_rfl) | (rw[if_neg (by decide +kernel)];exact⟨rfl,rfl⟩))
  (fun os started H enc _=>lifted os started H enc)
theorem proved:Rows.OrderingRelabelsSaid:=over
end Go.Proofs.Ytcbkbnhmbpmfjaa.orderingRelabels
