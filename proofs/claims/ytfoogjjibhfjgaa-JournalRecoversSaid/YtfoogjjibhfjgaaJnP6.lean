/- The Go function JournalRecovers returns true for every input, and each argument reads afterwards as it read before. No condition. -/
import Derived.Test.YtfoogjjibhfjgaaRows
import Derived.Test.YtfoogjjibhfjgaaJnO
import Derived.Test.YtfoogjjibhfjgaaGxZg
set_option linter.unusedVariables false
namespace Go.Proofs.Ytfoogjjibhfjgaa.journalRecovers
open Go.ChangeShapes Go.WideShapes Go.ChangeAt Go.RowKit

theorem own : ownKnob Try.prog.godebug = none := by kernel_rfl
theorem laidOut : laidOutB Try.prog = true := by kernel_rfl

set_option maxRecDepth 100000 in
theorem lifted (os : Os) (started : os.Started) (H : Type) (enc : TypeId × Value → H) :
    ReturnsInHanded {} Try.checked os 6 .any (Rows.journalRecoversSpec.pre6 enc Try.prog Try.f6 Rows.journalRecoversRow.domain false) (Rows.journalRecoversSpec.post enc Try.prog Try.f6 false true false false) := by
  refine returnsInHanded_of_change (C := Try.checked) own started (by kernel_rfl) Try.func6
    (ChangeSpec.witness6 (enc := enc) (C := Try.checked) false ⟨#[], #[.slice none 0 0, .slice none 0 0, .slice none 0 0, .slice none 0 0, .int .i64 0, .slice none 0 0], []⟩ 8 (by kernel_rfl) (by kernel_rfl) (by kernel_rfl) (by kernel_rfl)) ?_
  intro W base args ds gs before hval0 hW hcnd _
  have hval : ∀ (j : Nat) t v, Try.f6.params[j]? = some t → args[j]? = some v → Value.okWide Try.prog W .any base t v := hval0
  have hW' := hW
  obtain ⟨p, q, hA0, hV, rfl, hfz, hnd⟩ := hW
  have hA : DataW.TrodAll enc Try.prog W 0 (fun _ => true) true Try.f6.params.toList args.toList ds p := hA0
  rw [Try.params6] at hA hval
  obtain ⟨v0, vs0, d0, ds0, p0, q0, hargs, rfl, rfl, h0, r0⟩ := trodAll_cons hA
  obtain ⟨v1, vs1, d1, ds1, p1, q1, rfl, rfl, rfl, h1, r1⟩ := trodAll_cons r0
  obtain ⟨v2, vs2, d2, ds2, p2, q2, rfl, rfl, rfl, h2, r2⟩ := trodAll_cons r1
  obtain ⟨v3, vs3, d3, ds3, p3, q3, rfl, rfl, rfl, h3, r3⟩ := trodAll_cons r2
  obtain ⟨v4, vs4, d4, ds4, p4, q4, rfl, rfl, rfl, h4, r4⟩ := trodAll_cons r3
  obtain ⟨v5, vs5, d5, ds5, p5, q5, rfl, rfl, rfl, h5, r5⟩ := trodAll_cons r4
  obtain ⟨rfl, rfl, rfl⟩ := trodAll_nil r5
  obtain rfl : args = #[v0, v1, v2, v3, v4, v5] := by cases args; simp_all
  obtain ⟨rfl, rfl⟩ := trodVars_none hV
  obtain ⟨a0, len0, cap0, rfl⟩ := okWide_slice Try.underlying32 (hval 0 32 v0 rfl rfl)
  have k0 := h0
  have lt0 : ∀ x ∈ p0, x.block < W.heap.size := by obtain ⟨m, hm⟩ := k0; exact DataW.trod_lt m _ _ _ hm
  obtain ⟨m0, hm0, e0⟩ := Gx.open_sl (β := fun _ => none) (h := []) Try.underlying32 (by kernel_rfl) (Gx.opens_slice Try.underlying22 (by kernel_rfl) (Gx.opens_u8 Try.underlying5 (by kernel_rfl))) h0
  rw [Gx.flat_lists, show m0.length = (m0.map (·.1)).length by simp] at e0
  generalize m0.map (·.1) = l0 at e0
  obtain ⟨a1, len1, cap1, rfl⟩ := okWide_slice Try.underlying22 (hval 1 22 v1 rfl rfl)
  have k1 := h1
  have lt1 : ∀ x ∈ p1, x.block < W.heap.size := by obtain ⟨m, hm⟩ := k1; exact DataW.trod_lt m _ _ _ hm
  obtain ⟨l1, hl1, e1⟩ := Gx.open_sl (β := fun _ => none) (h := []) Try.underlying22 (by kernel_rfl) (Gx.opens_u8 Try.underlying5 (by kernel_rfl)) h1
  rw [Gx.flat_bytes] at e1
  obtain ⟨a2, len2, cap2, rfl⟩ := okWide_slice Try.underlying22 (hval 2 22 v2 rfl rfl)
  have k2 := h2
  have lt2 : ∀ x ∈ p2, x.block < W.heap.size := by obtain ⟨m, hm⟩ := k2; exact DataW.trod_lt m _ _ _ hm
  obtain ⟨l2, hl2, e2⟩ := Gx.open_sl (β := fun _ => none) (h := []) Try.underlying22 (by kernel_rfl) (Gx.opens_u8 Try.underlying5 (by kernel_rfl)) h2
  rw [Gx.flat_bytes] at e2
  obtain ⟨a3, len3, cap3, rfl⟩ := okWide_slice Try.underlying22 (hval 3 22 v3 rfl rfl)
  have k3 := h3
  have lt3 : ∀ x ∈ p3, x.block < W.heap.size := by obtain ⟨m, hm⟩ := k3; exact DataW.trod_lt m _ _ _ hm
  obtain ⟨l3, hl3, e3⟩ := Gx.open_sl (β := fun _ => none) (h := []) Try.underlying22 (by kernel_rfl) (Gx.opens_u8 Try.underlying5 (by kernel_rfl)) h3
  rw [Gx.flat_bytes] at e3
  obtain ⟨i4, rfl, rfl, rfl, w4⟩ := open_int Try.underlying3 (hval 4 3 v4 rfl rfl) h4
  obtain ⟨a5, len5, cap5, rfl⟩ := okWide_slice Try.underlying40 (hval 5 40 v5 rfl rfl)
  have k5 := h5
  have lt5 : ∀ x ∈ p5, x.block < W.heap.size := by obtain ⟨m, hm⟩ := k5; exact DataW.trod_lt m _ _ _ hm
  obtain ⟨m5, hm5, e5⟩ := Gx.open_sl (β := fun _ => none) (h := []) Try.underlying40 (by kernel_rfl) (Gx.opens_int Try.underlying3 (by kernel_rfl)) h5
  rw [Gx.flat_ints, show m5.length = (m5.map (·.1)).length by simp] at e5
  generalize m5.map (·.1) = l5 at e5
  clear hA0 hval0
  have hrun : ((Gx.law44_JournalRecovers_Tw 4000000).runK [.imm (Gx.listsAV l0) l0.length 1 false false, .imm (Gx.bytesAV l1) l1.length 1 false false, .imm (Gx.bytesAV l2) l2.length 1 false false, .imm (Gx.bytesAV l3) l3.length 1 false false, .int .i64 i4, .imm (Gx.intsAV l5) l5.length 1 false false] [] fun v h => some (v, h)) = some (.bool true, []) :=
    Gx.JournalRecovers_true 4000000 l0 false false l1 l2 false false l3 false false i4 l5 false false (by decide) (by decide) (fun b => some (Gx.AV.bool b, []))
  refine (Gx.law_calls (Gx.law44_JournalRecovers_ok 4000000) (Gx.reps_cons e0 (Gx.reps_cons e1 (Gx.reps_cons e2 (Gx.reps_cons e3 (Gx.reps_cons Gx.rep_int (Gx.reps_cons e5 Gx.reps_nil)))))) hrun).mono fun e W' ⟨he, bel⟩ => ?_
  subst he
  exact ⟨_, rfl, _, _, _, [], _, [], hW', trodAll_mk1 (shut_bool Try.underlying4 _), (trodAll_cons_mk (Below.trod laidOut (by kernel_rfl) (of_decide_eq_true (by kernel_rfl)) k0 bel lt0) (trodAll_cons_mk (Below.trod laidOut (by kernel_rfl) (of_decide_eq_true (by kernel_rfl)) k1 bel lt1) (trodAll_cons_mk (Below.trod laidOut (by kernel_rfl) (of_decide_eq_true (by kernel_rfl)) k2 bel lt2) (trodAll_cons_mk (Below.trod laidOut (by kernel_rfl) (of_decide_eq_true (by kernel_rfl)) k3 bel lt3) (trodAll_cons_mk (shut_int Try.underlying3 w4) (trodAll_cons_mk (Below.trod laidOut (by kernel_rfl) (of_decide_eq_true (by kernel_rfl)) k5 bel lt5) trodAll_mk0)))))), rfl, bel.frame _, fun h => by cases h⟩

theorem over : Rows.journalRecoversRow.holds Try.pinned (OpenSpec.ofChange Rows.journalRecoversSpec) :=
  OpenClaim.holds_of_wide 6 Try.f6 rfl rfl rfl rfl rfl rfl rfl ⟨rfl, rfl, rfl, rfl, rfl⟩ rfl rfl rfl rfl rfl (by kernel_rfl) Try.func6 (by kernel_rfl)
    (of_decide_eq_true (by kernel_rfl)) (by unfold Func.isWrapper; first | (rw [if_pos (by decide +kernel)]; kernel_rfl) | (rw [if_neg (by decide +kernel)]; exact ⟨rfl, rfl⟩))
    (fun os started H enc _ => lifted os started H enc)

theorem proved : Rows.JournalRecoversSaid := over
end Go.Proofs.Ytfoogjjibhfjgaa.journalRecovers
