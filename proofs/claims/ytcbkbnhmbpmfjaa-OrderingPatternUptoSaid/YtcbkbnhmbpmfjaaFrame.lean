/- The Go function OrderingPattern returns true for every input of bulk at most 1048576, and each argument reads afterwards as it read before. -/
import Derived.JoinedCond
import Derived.Test.YtcbkbnhmbpmfjaaP3
set_option linter.unusedVariables false
set_option linter.defProp false
set_option linter.unusedSimpArgs false
namespace Go.Proofs.Ytcbkbnhmbpmfjaa.orderingPattern
open Go.ChangeShapes Go.WideShapes Go.ChangeAt Go.RowKit
theorem own:ownKnob Try.prog.godebug=none:=by kernel_rfl
theorem laidOut:laidOutB Try.prog=true:=by kernel_rfl
set_option maxRecDepth 100000 in
theorem rj {H:Type} {d:DataW H} {r:List (DataW H)} (hk:Rows.uptoSmall H (d::r)=true):Rows.uptoBulk d≤1048576:=by
 have h:Rows.uptoBulkAll (d::r)≤1048576:=of_decide_eq_true hk
 simp only[Rows.uptoBulkAll] at h
 omega
set_option maxRecDepth 100000 in
theorem oi (H:Type) (enc:TypeId×Value→H) (W:World) (base:Nat) (args:Array Value) (ds gs:List (DataW H)) (before:List MemPlace)
  (hval0:∀ (j:Nat) t v,Try.f7.params[j]?=some t→args[j]?=some v→Value.okWide Try.prog W .any base t v)
  (hW:DataW.Whole enc Try.prog Try.f7.params.toList Rows.orderingPatternSpec.vars false W args.toList ds gs before) (hk:Rows.uptoSmall H (ds++gs)=true) :
  Calls Try.prog 7 args W fun e W'=>∃ v,e=.returned v∧Rows.orderingPatternSpec.post enc Try.prog Try.f7 false true false false W args v W':=by
 have hval:∀ (j:Nat) t v,Try.f7.params[j]?=some t→args[j]?=some v→Value.okWide Try.prog W .any base t v:=hval0
 have hW':=hW
 obtain⟨p,q,hA0,hV,rfl,hfz,hnd⟩:=hW
 have hA:DataW.TrodAll enc Try.prog W 0 (fun _=>true) true Try.f7.params.toList args.toList ds p:=hA0
 rw[Try.params7] at hA hval
 obtain⟨v0,vs0,d0,ds0,p0,q0,hargs,rfl,rfl,h0,r0⟩:=trodAll_cons hA
 obtain⟨v1,vs1,d1,ds1,p1,q1,rfl,rfl,rfl,h1,r1⟩:=trodAll_cons r0
 obtain⟨rfl,rfl,rfl⟩:=trodAll_nil r1
 obtain rfl:args=#[v0,v1]:=by cases args;simp_all
 obtain⟨rfl,rfl⟩:=trodVars_none hV
 have hb:=rj hk
 obtain hv0:=Gx.aN Try.underlying47 (hval 0 47 v0 rfl rfl)
 have k0:=h0
 have lt0:∀ x ∈ p0,x.block<W.heap.size:=by obtain⟨m,hm⟩:=k0;exact DataW.trod_lt m _ _ _ hm
 obtain⟨rn,cn,o,rows,g1,g2,e0⟩:=Gx.og (β:=fun _=>none) (h:=[]) hv0 h0 hb
 obtain⟨a1,len1,cap1,rfl⟩:=okWide_slice Try.underlying22 (hval 1 22 v1 rfl rfl)
 have k1:=h1
 have lt1:∀ x ∈ p1,x.block<W.heap.size:=by obtain⟨m,hm⟩:=k1;exact DataW.trod_lt m _ _ _ hm
 obtain⟨l1,hl1,e1⟩:=Gx.kT (β:=fun _=>none) (h:=[]) h1
 clear hA0 hval0
 have hrun:((Gx.Se 2000000000).runK [.agg [.int .i64 rn,.int .i64 cn,.imm o rows.length 1 false false],.imm (Gx.Ae l1) l1.length 1 false false] [] fun v h=>some (v,h))=some (.bool true,[]) :=
  Gx.eU 2000000000 rfl g1 g2 hl1 (K:=fun b=>some (Gx.AV.bool b,[]))
 refine(Gx.ll (Gx.Sf 2000000000) (Gx.cB e0 (Gx.cB e1 Gx.nL)) hrun Gx.ri).mono fun e W' ⟨he,bel⟩=>?_
 subst he
 exact⟨_,rfl,_,_,_,[],_,[],hW',trodAll_mk1 (shut_bool Try.underlying4 _),(trodAll_cons_mk (Below.trod laidOut (by kernel_rfl) (of_decide_eq_true (by kernel_rfl)) k0 bel lt0) (trodAll_cons_mk (Below.trod laidOut (by kernel_rfl) (of_decide_eq_true (by kernel_rfl)) k1 bel lt1) trodAll_mk0)),rfl,bel.frame _,fun h=>by cases h⟩
set_option maxRecDepth 100000 in
theorem lifted (os:Os) (started:os.Started) (H:Type) (enc:TypeId×Value→H) (F:Stop.Interp) :
  ReturnsInHanded {} Try.checked os 7 .any ((Rows.OpenSpec.upto Rows.orderingPatternSpec).pre6 enc Try.prog Try.f7 Rows.orderingPatternUptoRow.domain false) (((Rows.OpenSpec.upto Rows.orderingPatternSpec).at F).post enc Try.prog Try.f7 false true false false):=by
 refine returnsInHanded_of_cond (C:=Try.checked) (s:=Rows.OpenSpec.upto Rows.orderingPatternSpec) (k:=Rows.uptoSmall) rfl own started (by kernel_rfl) Try.func7
  (OpenSpec.witness (enc:=enc) (C:=Try.checked) (s:=Rows.OpenSpec.upto Rows.orderingPatternSpec) (k:=Rows.uptoSmall) rfl false ⟨#[],#[.agg #[.int .i64 0,.int .i64 0,.slice none 0 0],.slice none 0 0],[]⟩ 8 (by kernel_rfl) (by kernel_rfl) (by kernel_rfl)
   (x:=([.agg [.lit (.int .i64 0),.lit (.int .i64 0),.nil],.nil],[],[])) (by kernel_rfl) rfl (by kernel_rfl)) ?_
 intro W base args ds gs before hval hW _ hk _
 exact oi H enc W base args ds gs before hval hW hk
theorem proved:Rows.OrderingPatternUptoSaid :=
 OpenClaim.holds_of_cond 7 Try.f7 rfl rfl rfl rfl rfl rfl rfl ⟨rfl,rfl,rfl,rfl,rfl⟩ rfl rfl rfl rfl rfl (by kernel_rfl) Try.func7 (by kernel_rfl)
  (of_decide_eq_true (by kernel_rfl)) (by unfold Func.isWrapper;first | (rw[if_pos (by decide +kernel)];kernel_rfl) | (rw[if_neg (by decide +kernel)];exact⟨rfl,rfl⟩))
  (fun os started H enc _ F=>lifted os started H enc F)
end Go.Proofs.Ytcbkbnhmbpmfjaa.orderingPattern
