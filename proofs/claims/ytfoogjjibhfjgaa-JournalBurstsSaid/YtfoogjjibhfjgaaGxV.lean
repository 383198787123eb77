/- A part of the proof: what it holds is said at each theorem. -/
import Derived.Test.YtfoogjjibhfjgaaGxU
set_option linter.unusedVariables false
namespace Gx
open Go

theorem renVs_length (ρ : Nat → Nat) : ∀ c : List AV, (renVs ρ c).length = c.length
  | [] => rfl
  | x :: r => by rw [renVs, List.length_cons, List.length_cons, renVs_length ρ r]
theorem renB_length (ρ : Nat → Nat) (x : Blk) : (renB ρ x).cells.length = x.cells.length := by
  unfold renB; cases x.pure
  · simp; exact renVs_length _ _
  · rfl
theorem renVs_get {ρ : Nat → Nat} : ∀ {c : List AV} {j : Nat} {y : AV}, (renVs ρ c)[j]? = some y → ∃ x, c[j]? = some x ∧ y = renV ρ x
  | [], j, y, hj => by simp [renVs] at hj
  | x :: r, j, y, hj => by
    rw [renVs] at hj
    cases j with
    | zero => simp at hj; exact ⟨x, by simp, hj.symm⟩
    | succ j => obtain ⟨x', h1, h2⟩ := renVs_get (c := r) (j := j) (by simpa using hj); exact ⟨x', by simpa using h1, h2⟩

section
variable {R : Type} {r : R} {J J' : Bool → Nat → Prop} {β β' : Beta} {h h' : Heap} {w w' : World} {ids : List Nat} {ρ : Nat → Nat}

theorem sub_get {g : Look} : ∀ {ids : List Nat}, (ids.map ρ).Nodup → ∀ c y, hget (sub g ρ ids) c = some y → ∃ b x, b ∈ ids ∧ ρ b = c ∧ g b = some x ∧ y = renB ρ x
  | [], _, c, y, hc => by simp [sub, hget] at hc
  | b :: r, hn, c, y, hc => by
    rw [List.map_cons, List.nodup_cons] at hn
    rw [sub] at hc
    split at hc
    · rename_i x hx
      rw [hget_hput] at hc
      by_cases e : c = ρ b
      · rw [if_pos e] at hc; simp at hc
        exact ⟨b, x, by simp, e.symm, hx, hc.symm⟩
      · rw [if_neg e] at hc
        obtain ⟨b', x', h1, h2, h3, h4⟩ := sub_get hn.2 c y hc
        exact ⟨b', x', by simp [h1], h2, h3, h4⟩
    · obtain ⟨b', x', h1, h2, h3, h4⟩ := sub_get hn.2 c y hc
      exact ⟨b', x', by simp [h1], h2, h3, h4⟩
theorem sub_mem {g : Look} : ∀ {ids : List Nat}, (ids.map ρ).Nodup → ∀ b x, b ∈ ids → g b = some x → hget (sub g ρ ids) (ρ b) = some (renB ρ x)
  | [], _, b, x, hb, _ => by simp at hb
  | b' :: r, hn, b, x, hb, hx => by
    rw [List.map_cons, List.nodup_cons] at hn
    rw [sub]
    by_cases e : b = b'
    · subst e
      rw [hx]
      simp only
      rw [hget_hput, if_pos rfl]
    · have hm : b ∈ r := by simpa [e] using hb
      have ne : ρ b ≠ ρ b' := fun h => hn.1 (by rw [← h]; exact List.mem_map.2 ⟨b, hm, rfl⟩)
      split
      · rw [hget_hput, if_neg ne]; exact sub_mem hn.2 b x hm hx
      · exact sub_mem hn.2 b x hm hx

def backR (ρ : Nat → Nat) (ids : List Nat) (c : Nat) : Option Nat := ids.find? fun b => Nat.beq (ρ b) c
theorem backR_of (hn : (ids.map ρ).Nodup) {b : Nat} (hb : b ∈ ids) : backR ρ ids (ρ b) = some b := by
  induction ids with
  | nil => simp at hb
  | cons i r ih =>
    rw [List.map_cons, List.nodup_cons] at hn
    unfold backR at ih ⊢
    rw [List.find?_cons]
    by_cases e : b = i
    · subst e; simp
    · have hm : b ∈ r := by simpa [e] using hb
      have ne : ρ i ≠ ρ b := fun h => hn.1 (by rw [h]; exact List.mem_map.2 ⟨b, hm, rfl⟩)
      rw [beqF ne]; exact ih hn.2 hm

/-- The places under new names. -/
def betaR (ρ : Nat → Nat) (ids : List Nat) (β : Beta) : Beta := fun c => (backR ρ ids c).bind β
theorem betaR_of (hn : (ids.map ρ).Nodup) {b : Nat} (hb : b ∈ ids) : betaR ρ ids β (ρ b) = β b := by
  unfold betaR; rw [backR_of hn hb]; rfl

mutual
theorem Rep.ren (hn : (ids.map ρ).Nodup) : ∀ {x : AV} {v : Value}, (∀ b ∈ idsOf x, b ∈ ids) → Rep J β h w x v → Rep J (betaR ρ ids β) (sub (hget h) ρ ids) w (renV ρ x) v
  | .own b off n, v, hm, hr => by
    rw [Rep] at hr
    obtain ⟨x, A, cap, hx, h1, h2, h3⟩ := hr
    have hb := hm b (by simp [idsOf])
    rw [renV, Rep]
    refine ⟨renB ρ x, A, cap, sub_mem hn b x hb hx, h1, h2, ?_⟩
    rw [renB_length, betaR_of hn hb]
    exact h3
  | .optr b off, v, hm, hr => by
    rw [Rep] at hr
    obtain ⟨x, k, o, hx, h1, h2⟩ := hr
    have hb := hm b (by simp [idsOf])
    rw [renV, Rep]
    refine ⟨renB ρ x, k, o, sub_mem hn b x hb hx, h1, ?_⟩
    rw [betaR_of hn hb]
    exact h2
  | .agg c, v, hm, hr => by
    rw [Rep] at hr
    obtain ⟨cs, h1, h2⟩ := hr
    rw [renV, Rep]
    exact ⟨cs, h1, Reps.ren hn (by simpa [idsOf] using hm) h2⟩
  | .tup c, v, hm, hr => by
    rw [Rep] at hr
    obtain ⟨cs, h1, h2⟩ := hr
    rw [renV, Rep]
    exact ⟨cs, h1, Reps.ren hn (by simpa [idsOf] using hm) h2⟩
  | .fn f c, v, hm, hr => by
    rw [Rep] at hr
    obtain ⟨cs, h1, h2⟩ := hr
    rw [renV, Rep]
    exact ⟨cs, h1, Reps.ren hn (by simpa [idsOf] using hm) h2⟩
  | .pagg c o, v, hm, hr => by show Rep J _ _ w (.pagg c o) v; rw [Rep] at hr ⊢; exact hr
  | .undef, v, hm, hr => by show Rep J _ _ w (.undef) v; rw [Rep] at hr ⊢; exact hr
  | .imm c n sz t o, v, hm, hr => by show Rep J _ _ w (.imm c n sz t o) v; rw [Rep] at hr ⊢; exact hr
  | .iptr c o, v, hm, hr => by show Rep J _ _ w (.iptr c o) v; rw [Rep] at hr ⊢; exact hr
  | .int k n, v, hm, hr => by show Rep J _ _ w (.int k n) v; rw [Rep] at hr ⊢; exact hr
  | .bool b, v, hm, hr => by show Rep J _ _ w (.bool b) v; rw [Rep] at hr ⊢; exact hr
  | .str s, v, hm, hr => by show Rep J _ _ w (.str s) v; rw [Rep] at hr ⊢; exact hr
  | .nsl, v, hm, hr => by show Rep J _ _ w (.nsl) v; rw [Rep] at hr ⊢; exact hr
  | .nilptr, v, hm, hr => by show Rep J _ _ w (.nilptr) v; rw [Rep] at hr ⊢; exact hr
  | .nilfn, v, hm, hr => by show Rep J _ _ w (.nilfn) v; rw [Rep] at hr ⊢; exact hr
theorem Reps.ren (hn : (ids.map ρ).Nodup) : ∀ {c : List AV} {cs : List Value}, (∀ b ∈ idsOfs c, b ∈ ids) → Reps J β h w c cs → Reps J (betaR ρ ids β) (sub (hget h) ρ ids) w (renVs ρ c) cs
  | [], cs, hm, hr => by rw [Reps] at hr; rw [renVs, Reps]; exact hr
  | x :: r, cs, hm, hr => by
    rw [Reps] at hr
    obtain ⟨u, us, h1, h2, h3⟩ := hr
    rw [renVs, Reps]
    exact ⟨u, us, h1, Rep.ren hn (fun b hb => hm b (by simp [idsOfs, hb])) h2, Reps.ren hn (fun b hb => hm b (by simp [idsOfs, hb])) h3⟩
end

/-- A part of the heap under new names. -/
theorem SimH.ren (S : SimH J β h w) (hn : (ids.map ρ).Nodup) (hin : ∀ b ∈ inner (hget h) ids, b ∈ ids) : SimH J (betaR ρ ids β) (sub (hget h) ρ ids) w := by
  refine ⟨S.jlt, S.jft, fun c y hy hd => ?_, ?_⟩
  · obtain ⟨b, x, hb, rfl, hx, rfl⟩ := sub_get hn c y hy
    rcases S.blk b x hx hd with ⟨g1, g2⟩ | ⟨k, o, cs, ty, fr, g1, g2, g3, g4, g5, g6, g7⟩
    · refine .inl ⟨by rw [betaR_of hn hb]; exact g1, ?_⟩
      have := renB_length ρ x; rw [g2] at this; simpa using this
    · refine .inr ⟨k, o, cs, ty, fr, by rw [betaR_of hn hb]; exact g1, g2, g3, by rw [renB_length]; exact g4, ⟨fun hp => ?_, fun hp j q hj => ?_⟩, g6, g7⟩
      · have hp' : x.pure = true := hp
        have : (renB ρ x).cells = x.cells := by unfold renB; rw [hp']; rfl
        rw [this]; exact g5.1 hp'
      · have hp' : x.pure = false := hp
        have : (renB ρ x).cells = renVs ρ x.cells := by unfold renB; rw [hp']; rfl
        rw [this] at hj
        obtain ⟨q', hq, rfl⟩ := renVs_get hj
        obtain ⟨u, hu, hr, ho⟩ := g5.2 hp' j q' hq
        exact ⟨u, hu, Rep.ren hn (fun b' hb' => hin b' (inner_mem hb hx hp' b' (idsOfs_at hq b' hb'))) hr, ho⟩
  · intro c c' y y' k o o' hy hy' hd hd' hs hβ hβ'
    obtain ⟨b, x, hb, rfl, hx, rfl⟩ := sub_get hn c y hy
    obtain ⟨b', x', hb', rfl, hx', rfl⟩ := sub_get hn c' y' hy'
    rw [betaR_of hn hb] at hβ
    rw [betaR_of hn hb'] at hβ'
    rw [S.sep b b' x x' k o o' hx hx' hd hd' hs hβ hβ']

theorem mut_ren (hn : (ids.map ρ).Nodup) {k : Nat} (hm : Mut (betaR ρ ids β) (sub (hget h) ρ ids) k) : Mut β h k := by
  obtain ⟨c, y, o, hy, hd, hs, hβ⟩ := hm
  obtain ⟨b, x, hb, rfl, hx, rfl⟩ := sub_get hn c y hy
  rw [betaR_of hn hb] at hβ
  exact ⟨b, x, o, hx, hd, hs, hβ⟩
end
end Gx
