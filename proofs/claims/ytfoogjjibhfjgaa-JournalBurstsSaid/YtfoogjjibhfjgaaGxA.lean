/- A part of the proof: what it holds is said at each theorem. -/
import Derived.Test.YtfoogjjibhfjgaaGx0
import Derived.WalkKit
set_option linter.unusedVariables false
namespace Gx
open Go

/- A value that never changes, of one cell, under a set J of blocks that never change. -/
mutual
def RepC (J : Nat → Prop) (w : World) : AV → Value → Prop
  | .int k n, v => v = .int k n
  | .bool b, v => v = .bool b
  | .str s, v => v = .string ⟨⟨s⟩⟩
  | .nsl, v => v = .slice none 0 0
  | .imm c len sz tight _, v => c.length = len * sz ∧ ∃ A cap, v = .slice A len cap ∧ len ≤ cap ∧ (tight = true → cap = len) ∧
      (len = 0 ∨ ∃ a, A = some a ∧ J a.block ∧ RepCs J w c (fun j => w.cell? (a.add j)) 0)
  | .iptr c _, v => ∃ a, v = .pointer (some a) ∧ J a.block ∧ RepCs J w c (fun j => w.cell? (a.add j)) 0
  | .nilptr, v => v = .pointer none
  | .nilfn, v => v = .nilFunc
  | .fn f [], v => v = .func (.func f) #[] #[]
  | _, _ => False
def RepCs (J : Nat → Prop) (w : World) : List AV → (Nat → Option Value) → Nat → Prop
  | [], _, _ => True
  | x :: r, rd, i => (∃ u, rd i = some u ∧ RepC J w x u) ∧ RepCs J w r rd (i + 1)
end

theorem RepCs_iff {J : Nat → Prop} {w : World} : ∀ {c : List AV} {rd : Nat → Option Value} {i : Nat},
    RepCs J w c rd i ↔ ∀ j x, c[j]? = some x → ∃ u, rd (i + j) = some u ∧ RepC J w x u := by
  intro c
  induction c with
  | nil => intro rd i; simp [RepCs]
  | cons x r ih =>
    intro rd i
    rw [RepCs, ih]
    constructor
    · rintro ⟨h0, h1⟩ j y hj
      cases j with
      | zero => simp at hj; subst hj; simpa using h0
      | succ j => have := h1 j y (by simpa using hj); rwa [show i + 1 + j = i + (j + 1) by omega] at this
    · intro h
      refine ⟨by simpa using h 0 x (by simp), fun j y hj => ?_⟩
      have := h (j + 1) y (by simpa using hj)
      rwa [show i + (j + 1) = i + 1 + j by omega] at this

/-- The blocks of J read as they did. -/
def KeepJ (J : Nat → Prop) (w w' : World) : Prop := ∀ k, J k → w'.heap[k]? = w.heap[k]?

theorem cell_keep {J : Nat → Prop} {w w' : World} (h : KeepJ J w w') {a : Addr} (ha : J a.block) : w'.cell? a = w.cell? a := by
  unfold World.cell?; rw [h a.block ha]

theorem block_add (a : Addr) (n : Nat) : (a.add n).block = a.block := by unfold Addr.add; split <;> rfl

mutual
theorem RepC.keep {J J' : Nat → Prop} {w w' : World} (hJ : ∀ k, J k → J' k) (hk : KeepJ J w w') : ∀ {x : AV} {v : Value}, RepC J w x v → RepC J' w' x v
  | .int .., _, h => h
  | .bool _, _, h => h
  | .str _, _, h => h
  | .nsl, _, h => h
  | .imm c _ _ _ _, _, h => by
    rw [RepC] at h ⊢
    obtain ⟨h1, A, cap, h2, h3, h4, h5⟩ := h
    refine ⟨h1, A, cap, h2, h3, h4, ?_⟩
    rcases h5 with h5 | ⟨a, ha, hj, hc⟩
    · exact .inl h5
    · refine .inr ⟨a, ha, hJ _ hj, RepCs.keep hJ hk (c := c) (fun j => ?_) hc⟩
      exact cell_keep hk (by rw [block_add]; exact hj)
  | .iptr c _, _, h => by
    rw [RepC] at h ⊢
    obtain ⟨a, ha, hj, hc⟩ := h
    exact ⟨a, ha, hJ _ hj, RepCs.keep hJ hk (c := c) (fun j => cell_keep hk (by rw [block_add]; exact hj)) hc⟩
  | .nilptr, _, h => h
  | .nilfn, _, h => h
  | .fn _ [], _, h => h
  | .fn _ (_ :: _), _, h => by simp [RepC] at h
  | .pagg .., _, h => by simp [RepC] at h
  | .agg _, _, h => by simp [RepC] at h
  | .tup _, _, h => by simp [RepC] at h
  | .own .., _, h => by simp [RepC] at h
  | .optr .., _, h => by simp [RepC] at h
  | .undef, _, h => by simp [RepC] at h
theorem RepCs.keep {J J' : Nat → Prop} {w w' : World} (hJ : ∀ k, J k → J' k) (hk : KeepJ J w w') : ∀ {c : List AV} {rd rd' : Nat → Option Value} {i : Nat}, (∀ j, rd' j = rd j) → RepCs J w c rd i → RepCs J' w' c rd' i
  | [], _, _, _, _, _ => trivial
  | x :: r, rd, rd', i, he, h => by
    rw [RepCs] at h ⊢
    obtain ⟨⟨u, hu, hx⟩, hr⟩ := h
    exact ⟨⟨u, by rw [he]; exact hu, RepC.keep hJ hk (x := x) hx⟩, RepCs.keep hJ hk (c := r) he hr⟩
end

abbrev Beta := Nat → Option (Nat × Nat)

/-- How many cells block k has. -/
def blkSize (w : World) (k : Nat) : Nat := match w.heap[k]? with | some (.cells cs _ _) => cs.size | _ => 0

/- A value in a slot. -/
mutual
def Rep (J : Bool → Nat → Prop) (β : Beta) (h : Heap) (w : World) : AV → Value → Prop
  | .own b off n, v => ∃ x A cap, hget h b = some x ∧ v = .slice A n cap ∧ n ≤ cap ∧ (cap = 0 ∨ ∃ k o, A = some ⟨k, o + off, none⟩ ∧
      (x.dead = true ∨ (β b = some (k, o) ∧ o + off + cap * x.sz ≤ blkSize w k ∧ off + n * x.sz ≤ x.cells.length)))
  | .optr b off, v => ∃ x k o, hget h b = some x ∧ v = .pointer (some ⟨k, o + off, none⟩) ∧ (x.dead = true ∨ β b = some (k, o))
  | .pagg c org, v => ∃ cs, v = .agg ⟨cs⟩ ∧ cs.length = c.length ∧ RepCs (J org) w c (fun j => cs[j]?) 0
  | .agg c, v => ∃ cs, v = .agg ⟨cs⟩ ∧ Reps J β h w c cs
  | .tup c, v => ∃ cs, v = .tuple ⟨cs⟩ ∧ Reps J β h w c cs
  | .fn f c, v => ∃ cs, v = .func (.func f) #[] ⟨cs⟩ ∧ Reps J β h w c cs
  | .undef, _ => True
  | .imm c n sz t org, v => RepC (J org) w (.imm c n sz t org) v
  | .iptr c org, v => RepC (J org) w (.iptr c org) v
  | .int k n, v => v = .int k n
  | .bool b, v => v = .bool b
  | .str s, v => v = .string ⟨⟨s⟩⟩
  | .nsl, v => v = .slice none 0 0
  | .nilptr, v => v = .pointer none
  | .nilfn, v => v = .nilFunc
def Reps (J : Bool → Nat → Prop) (β : Beta) (h : Heap) (w : World) : List AV → List Value → Prop
  | [], cs => cs = []
  | x :: r, cs => ∃ u us, cs = u :: us ∧ Rep J β h w x u ∧ Reps J β h w r us
end

/-- What a step may do to blocks and to the world, seen from the values that are represented. -/
structure Ext (J : Bool → Nat → Prop) (β : Beta) (h : Heap) (w : World) (J' : Bool → Nat → Prop) (β' : Beta) (h' : Heap) (w' : World) : Prop where
  jsub : ∀ o k, J o k → J' o k
  keep : ∀ o, KeepJ (J o) w w'
  blk : ∀ b x, hget h b = some x → ∃ x', hget h' b = some x' ∧ (x'.dead = true ∨ (x.dead = false ∧ β' b = β b ∧ x'.sz = x.sz ∧ x'.cells.length = x.cells.length))
  size : ∀ b k o, β b = some (k, o) → blkSize w k ≤ blkSize w' k

mutual
theorem Rep.ext {J J' : Bool → Nat → Prop} {β β' : Beta} {h h' : Heap} {w w' : World} (E : Ext J β h w J' β' h' w') : ∀ {x : AV} {v : Value}, Rep J β h w x v → Rep J' β' h' w' x v
  | .own b off n, v, hr => by
    rw [Rep] at hr ⊢
    obtain ⟨x, A, cap, hx, h1, h2, hr⟩ := hr
    obtain ⟨x', hx', hd⟩ := E.blk b x hx
    refine ⟨x', A, cap, hx', h1, h2, ?_⟩
    rcases hr with hr | ⟨k, o, h3, hr⟩
    · exact .inl hr
    · refine .inr ⟨k, o, h3, ?_⟩
      rcases hd with hd | ⟨hd, hβ, hs, hl⟩
      · exact .inl hd
      · rcases hr with hr | ⟨h4, h5, h6⟩
        · simp [hd] at hr
        · exact .inr ⟨by rw [hβ]; exact h4, by rw [hs]; exact Nat.le_trans h5 (E.size b k o h4), by rw [hs, hl]; exact h6⟩
  | .optr b off, v, hr => by
    rw [Rep] at hr ⊢
    obtain ⟨x, k, o, hx, h1, hr⟩ := hr
    obtain ⟨x', hx', hd⟩ := E.blk b x hx
    refine ⟨x', k, o, hx', h1, ?_⟩
    rcases hd with hd | ⟨hd, hβ, hs, hl⟩
    · exact .inl hd
    · rcases hr with hr | hr
      · simp [hd] at hr
      · exact .inr (by rw [hβ]; exact hr)
  | .pagg c org, v, hr => by
    rw [Rep] at hr ⊢
    obtain ⟨cs, h1, h2, h3⟩ := hr
    exact ⟨cs, h1, h2, RepCs.keep (E.jsub org) (E.keep org) (fun _ => rfl) h3⟩
  | .agg c, v, hr => by
    rw [Rep] at hr ⊢
    obtain ⟨cs, h1, h2⟩ := hr
    exact ⟨cs, h1, Reps.ext E (c := c) h2⟩
  | .tup c, v, hr => by
    rw [Rep] at hr ⊢
    obtain ⟨cs, h1, h2⟩ := hr
    exact ⟨cs, h1, Reps.ext E (c := c) h2⟩
  | .fn f c, v, hr => by
    rw [Rep] at hr ⊢
    obtain ⟨cs, h1, h2⟩ := hr
    exact ⟨cs, h1, Reps.ext E (c := c) h2⟩
  | .undef, _, _ => by rw [Rep]; trivial
  | .imm c n sz t org, v, hr => by rw [Rep] at hr ⊢; exact RepC.keep (E.jsub org) (E.keep org) hr
  | .iptr c org, v, hr => by rw [Rep] at hr ⊢; exact RepC.keep (E.jsub org) (E.keep org) hr
  | .int .., _, hr => hr
  | .bool _, _, hr => hr
  | .str _, _, hr => hr
  | .nsl, _, hr => hr
  | .nilptr, _, hr => hr
  | .nilfn, _, hr => hr
theorem Reps.ext {J J' : Bool → Nat → Prop} {β β' : Beta} {h h' : Heap} {w w' : World} (E : Ext J β h w J' β' h' w') : ∀ {c : List AV} {cs : List Value}, Reps J β h w c cs → Reps J' β' h' w' c cs
  | [], _, hr => hr
  | x :: r, cs, hr => by
    rw [Reps] at hr ⊢
    obtain ⟨u, us, h1, h2, h3⟩ := hr
    exact ⟨u, us, h1, Rep.ext E (x := x) h2, Reps.ext E (c := r) h3⟩
end
end Gx
