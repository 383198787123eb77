/- A part of the proof: what it holds is said at each theorem. -/
import Derived.Test.YtfoogjjibhfjgaaGxY
set_option linter.unusedVariables false
namespace Gx
open Go

/- Values without a trace of what is only shown. -/
section
variable {J J' : Bool → Nat → Prop} {β : Beta} {h : Heap} {w : World}

mutual
theorem Rep.noOrg : ∀ {x : AV} {v : Value}, hasOrg x = false → Rep J β h w x v → Rep (fun _ => J false) β h w x v
  | .own .., v, _, hr => by rw [Rep] at hr ⊢; exact hr
  | .optr .., v, _, hr => by rw [Rep] at hr ⊢; exact hr
  | .pagg c o, v, ho, hr => by
    rw [hasOrg] at ho; subst ho
    rw [Rep] at hr ⊢; exact hr
  | .agg c, v, ho, hr => by
    rw [hasOrg] at ho
    rw [Rep] at hr ⊢
    obtain ⟨cs, h1, h2⟩ := hr
    exact ⟨cs, h1, Reps.noOrg ho h2⟩
  | .tup c, v, ho, hr => by
    rw [hasOrg] at ho
    rw [Rep] at hr ⊢
    obtain ⟨cs, h1, h2⟩ := hr
    exact ⟨cs, h1, Reps.noOrg ho h2⟩
  | .fn f c, v, ho, hr => by
    rw [hasOrg] at ho
    rw [Rep] at hr ⊢
    obtain ⟨cs, h1, h2⟩ := hr
    exact ⟨cs, h1, Reps.noOrg ho h2⟩
  | .undef, _, _, _ => by rw [Rep]; trivial
  | .imm c n sz t o, v, ho, hr => by
    rw [hasOrg] at ho; subst ho
    rw [Rep] at hr ⊢; exact hr
  | .iptr c o, v, ho, hr => by
    rw [hasOrg] at ho; subst ho
    rw [Rep] at hr ⊢; exact hr
  | .int .., v, _, hr => by rw [Rep] at hr ⊢; exact hr
  | .bool _, v, _, hr => by rw [Rep] at hr ⊢; exact hr
  | .str _, v, _, hr => by rw [Rep] at hr ⊢; exact hr
  | .nsl, v, _, hr => by rw [Rep] at hr ⊢; exact hr
  | .nilptr, v, _, hr => by rw [Rep] at hr ⊢; exact hr
  | .nilfn, v, _, hr => by rw [Rep] at hr ⊢; exact hr
theorem Reps.noOrg : ∀ {c : List AV} {cs : List Value}, hasOrgs c = false → Reps J β h w c cs → Reps (fun _ => J false) β h w c cs
  | [], _, _, hr => by rw [Reps] at hr ⊢; exact hr
  | x :: r, cs, ho, hr => by
    rw [hasOrgs] at ho
    simp at ho
    rw [Reps] at hr ⊢
    obtain ⟨u, us, h1, h2, h3⟩ := hr
    exact ⟨u, us, h1, Rep.noOrg ho.1 h2, Reps.noOrg ho.2 h3⟩
end

theorem hasOrgs_at : ∀ {c : List AV} {j : Nat} {x : AV}, hasOrgs c = false → c[j]? = some x → hasOrg x = false
  | [], j, x, _, hj => by simp at hj
  | y :: r, j, x, ho, hj => by
    rw [hasOrgs] at ho
    simp at ho
    cases j with
    | zero => simp at hj; subst hj; exact ho.1
    | succ j => exact hasOrgs_at ho.2 (by simpa using hj)

theorem hasOrgH_at : ∀ {h : Heap} {b : Nat} {x : Blk}, hasOrgH h = false → hget h b = some x → x.taint = false ∧ (x.pure = false → hasOrgs x.cells = false)
  | [], b, x, _, hb => by simp [hget] at hb
  | (i, y) :: r, b, x, ho, hb => by
    rw [hasOrgH] at ho
    simp at ho
    rw [hget] at hb
    cases hi : Nat.beq i b with
    | true =>
      rw [hi] at hb; simp at hb; subst hb
      refine ⟨ho.1.1, fun hp => ?_⟩
      have := ho.1.2
      rw [hp] at this; simpa using this
    | false => rw [hi] at hb; exact hasOrgH_at ho.2 (by simpa using hb)

theorem SimH.noOrg (S : SimH J β h w) (ho : hasOrgH h = false) : SimH (fun _ => J false) β h w := by
  refine ⟨fun _ k hj => S.jlt _ k hj, fun k hj => hj, fun b x hx hd => ?_, S.sep⟩
  obtain ⟨ht, hc⟩ := hasOrgH_at ho hx
  rcases S.blk b x hx hd with h1 | ⟨k, o, cs, ty, fr, h1, h2, h3, h4, h5, h6, h7⟩
  · exact .inl h1
  · refine .inr ⟨k, o, cs, ty, fr, h1, h2, h3, h4, ⟨fun hp => ?_, fun hp j c hj => ?_⟩, fun hs _ => h6 hs _, fun hs => ?_⟩
    · have := h5.1 hp; rw [ht] at this; exact this
    · obtain ⟨u, g1, g2, g3⟩ := h5.2 hp j c hj
      exact ⟨u, g1, Rep.noOrg (hasOrgs_at (hc hp) hj) g2, g3⟩
    · have := h7 hs; rw [ht] at this; exact this

/-- More that never changes. -/
theorem Ext.grow (hJ : ∀ o k, J o k → J' o k) : Ext J β h w J' β h w := ⟨hJ, fun _ _ _ => rfl, fun b x hb => ⟨x, hb, by cases hd : x.dead <;> simp⟩, fun _ _ _ _ => Nat.le_refl _⟩
theorem SimH.grow (S : SimH J β h w) (hJ : ∀ o k, J o k → J' o k) (hlt : ∀ o k, J' o k → k < w.heap.size) (hft : ∀ k, J' false k → J' true k)
    (hun : ∀ b x k o, hget h b = some x → x.dead = false → x.sealed = false → β b = some (k, o) → ∀ g, ¬ J' g k) : SimH J' β h w := by
  refine ⟨hlt, hft, fun b x hx hd => ?_, S.sep⟩
  rcases S.blk b x hx hd with h1 | ⟨k, o, cs, ty, fr, h1, h2, h3, h4, h5, h6, h7⟩
  · exact .inl h1
  · exact .inr ⟨k, o, cs, ty, fr, h1, h2, h3, h4, h5.ext (Ext.grow hJ), fun hs => hun b x k o hx hd hs h1, fun hs => hJ _ _ (h7 hs)⟩

/-- The concrete blocks that are shown. -/
def Shown (β : Beta) (h : Heap) (fz : List Nat) (k : Nat) : Prop := ∃ b x o, b ∈ fz ∧ hget h b = some x ∧ x.dead = false ∧ x.sealed = false ∧ β b = some (k, o)
def JS (J : Bool → Nat → Prop) (β : Beta) (h : Heap) (fz : List Nat) : Bool → Nat → Prop := fun o k => J o k ∨ (o = true ∧ Shown β h fz k)

theorem freezeV_sound {g : Look} {v v' : AV} {q : Bool} {vc : Value} {fz : List Nat} (S : SimH J β h w) (hl : Looks g h) (hh : freezeV g v = some (v', q)) (hf : ∀ b ∈ frozenIds g v, b ∈ fz) (hv : Rep J β h w v vc) :
    Rep (JS J β h fz) β h w v' vc ∧ idsOf v' = [] := by
  unfold freezeV at hh
  split at hh
  · rename_i b off n
    obtain ⟨x, hx, h1⟩ := ub hh
    obtain ⟨hp, h2⟩ := uc h1
    simp at h2
    obtain ⟨rfl, _⟩ := h2
    unfold vblk at hx
    obtain ⟨x0, hx0, hx⟩ := ub hx
    obtain ⟨hd, hx⟩ := uc' hx
    simp at hx; subst hx
    have hy := hl b _ hx0
    refine ⟨?_, by simp [idsOf]⟩
    rw [Rep]
    have key := (own_imm (J' := fun o k => o ≠ x0.taint ∨ JS J β h fz (!x0.sealed || x0.taint) k) S hy hd hp hv (fun k o hβ => .inr ?_) (fun o k hj => ?_) false (!x0.sealed || x0.taint)).2 (by simp)
    · exact RepC.keep (fun k hk => by rcases hk with hk | hk; exact absurd rfl hk; exact hk) (fun _ _ => rfl) key
    · cases hs : x0.sealed with
      | false =>
        simp only [Bool.not_false, Bool.true_or]
        exact .inr ⟨rfl, b, x0, o, hf b (by simp [frozenIds, hx0, hs]), hy, hd, hs, hβ⟩
      | true =>
        simp only [Bool.not_true, Bool.false_or]
        rcases S.blk b x0 hy hd with ⟨h1, _⟩ | ⟨k', o', cs, ty, fr, h1, h2, h3, h4, h5, h6, h7⟩
        · rw [hβ] at h1; cases h1
        · rw [hβ] at h1; simp at h1; obtain ⟨rfl, rfl⟩ := h1
          exact .inl (h7 hs)
    · by_cases e : o = x0.taint
      · subst e
        right
        cases hs : x0.sealed with
        | false =>
          simp only [Bool.not_false, Bool.true_or]
          left
          cases ht : x0.taint with
          | false => rw [ht] at hj; exact S.jft k hj
          | true => rw [ht] at hj; exact hj
        | true => simp only [Bool.not_true, Bool.false_or]; exact .inl hj
      · exact .inl e
  · simp at hh; obtain ⟨rfl, _⟩ := hh
    refine ⟨?_, by simp [idsOf]⟩
    rw [Rep, RepC] at hv ⊢
    obtain ⟨e1, A, cap, e2, e3, e4, e5⟩ := hv
    refine ⟨e1, A, cap, e2, e3, by simp, ?_⟩
    rcases e5 with e5 | ⟨a, e6, e7, e8⟩
    · exact .inl e5
    · exact .inr ⟨a, e6, .inl e7, RepCs.keep (fun k hk => .inl hk) (fun _ _ => rfl) (fun _ => rfl) e8⟩
  · rename_i b off
    obtain ⟨x, hx, h1⟩ := ub hh
    obtain ⟨hp, h2⟩ := uc h1
    simp at h2
    obtain ⟨rfl, _⟩ := h2
    unfold vblk at hx
    obtain ⟨x0, hx0, hx⟩ := ub hx
    obtain ⟨hd, hx⟩ := uc' hx
    simp at hx; subst hx
    have hy := hl b _ hx0
    refine ⟨?_, by simp [idsOf]⟩
    rw [Rep] at hv
    obtain ⟨x1, k, o, g1, g2, g3⟩ := hv
    rw [hy] at g1; simp at g1; subst g1
    rcases g3 with g3 | g3
    · simp [hd] at g3
    · rcases S.blk b x0 hy hd with ⟨h1, _⟩ | ⟨k', o', cs, ty, fr, h1, h2, h3, h4, h5, h6, h7⟩
      · rw [g3] at h1; cases h1
      · rw [g3] at h1; simp at h1; obtain ⟨rfl, rfl⟩ := h1
        have hin : ∀ k2, J x0.taint k2 → JS J β h fz (!x0.sealed || x0.taint) k2 := by
          intro k2 hj
          left
          cases hs : x0.sealed with
          | false =>
            simp only [Bool.not_false, Bool.true_or]
            cases ht : x0.taint with
            | false => rw [ht] at hj; exact S.jft k2 hj
            | true => rw [ht] at hj; exact hj
          | true => simp only [Bool.not_true, Bool.false_or]; exact hj
        rw [Rep, RepC]
        refine ⟨_, g2, ?_, ?_⟩
        · cases hs : x0.sealed with
          | false =>
            simp only [Bool.not_false, Bool.true_or]
            exact .inr ⟨rfl, b, x0, o, hf b (by simp [frozenIds, hx0, hs]), hy, hd, hs, g3⟩
          | true =>
            simp only [Bool.not_true, Bool.false_or]
            exact .inl (h7 hs)
        · refine RepCs.keep hin (fun _ _ => rfl) (fun j => ?_) ((h5.1 hp).drop off)
          rw [Addr.add_mid, cell_row h2, Nat.add_assoc]
  · rename_i c
    obtain ⟨hr, h1⟩ := uc' hh
    simp at h1; obtain ⟨rfl, _⟩ := h1
    refine ⟨Rep.ext (Ext.grow fun _ _ hj => .inl hj) hv, ?_⟩
    have : ∀ {c : List AV}, c.any isRef1 = false → idsOfs c = [] := by
      intro c
      induction c with
      | nil => intro _; rfl
      | cons x r ih =>
        intro h
        rw [List.any_cons] at h
        simp only [Bool.or_eq_false_iff] at h
        rw [idsOfs, ih h.2]
        cases x <;> first | (simp [isRef1] at h; done) | simp [idsOf]
    rw [idsOf]; exact this hr
  · simp at hh; obtain ⟨rfl, _⟩ := hh
    exact ⟨Rep.ext (Ext.grow fun _ _ hj => .inl hj) hv, by simp [idsOf, idsOfs]⟩
  · simp at hh
  · simp at hh
  · simp at hh
  · simp at hh; obtain ⟨rfl, _⟩ := hh
    refine ⟨Rep.ext (Ext.grow fun _ _ hj => .inl hj) hv, ?_⟩
    cases v <;> first | rfl | simp_all

theorem passArgs_sound {g : Look} {fz : List Nat} (S : SimH J β h w) (hl : Looks g h) : ∀ {args : List AV} {ms : List Bool} {args' : List AV} {im fz' : List Nat} {vs : List Value},
    passArgs g ms args = some (args', im, fz') → (∀ b ∈ fz', b ∈ fz) → Reps J β h w args vs → Reps (JS J β h fz) β h w args' vs ∧ ∀ b ∈ idsOfs args', b ∈ im
  | [], ms, args', im, fz', vs, hh, hf, hv => by
    simp [passArgs] at hh; obtain ⟨rfl, rfl, rfl⟩ := hh
    rw [Reps] at hv; subst hv
    exact ⟨by rw [Reps], by simp [idsOfs]⟩
  | v :: r, ms, args', im, fz', vs, hh, hf, hv => by
    rw [passArgs] at hh
    rw [Reps] at hv
    obtain ⟨u, us, rfl, hv1, hv2⟩ := hv
    cases hm : ms.headD false with
    | true =>
      rw [hm, cond_true] at hh
      obtain ⟨⟨a2, i2, f2⟩, h1, h2⟩ := ub hh
      simp at h2; obtain ⟨rfl, rfl, rfl⟩ := h2
      obtain ⟨g1, g2⟩ := passArgs_sound S hl h1 hf hv2
      refine ⟨by rw [Reps]; exact ⟨u, us, rfl, Rep.ext (Ext.grow fun _ _ hj => .inl hj) hv1, g1⟩, fun b hb => ?_⟩
      rw [idsOfs] at hb
      rcases List.mem_append.1 hb with hb | hb
      · exact List.mem_append.2 (.inl hb)
      · exact List.mem_append.2 (.inr (g2 b hb))
    | false =>
      rw [hm, cond_false] at hh
      obtain ⟨⟨v1, b1⟩, h0, hh⟩ := ub hh
      obtain ⟨⟨a2, i2, f2⟩, h1, h2⟩ := ub hh
      simp at h2; obtain ⟨rfl, rfl, rfl⟩ := h2
      obtain ⟨e1, e2⟩ := freezeV_sound S hl h0 (fun b hb => hf b (List.mem_append.2 (.inl hb))) hv1
      obtain ⟨g1, g2⟩ := passArgs_sound S hl h1 (fun b hb => hf b (List.mem_append.2 (.inr hb))) hv2
      refine ⟨by rw [Reps]; exact ⟨u, us, rfl, e1, g1⟩, fun b hb => ?_⟩
      rw [idsOfs, e2] at hb
      exact g2 b (by simpa using hb)
end
end Gx
