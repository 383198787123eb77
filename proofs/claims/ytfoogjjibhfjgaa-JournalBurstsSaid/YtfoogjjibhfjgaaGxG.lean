/- A part of the proof: what it holds is said at each theorem. -/
import Derived.Test.YtfoogjjibhfjgaaGxF
set_option linter.unusedVariables false
namespace Gx
open Go
section
variable {J J' J'' : Bool → Nat → Prop} {β β' β'' : Beta} {h h' h'' : Heap} {w w' w'' : World}

/-- The block is closed: it is never written again. -/
theorem Step.seal (S : SimH J β h w) {d : Nat} {x : Blk} (hx : hget h d = some x) (hd : x.dead = false) :
    Step J β h w (fun o k => J o k ∨ ∃ o', β d = some (k, o') ∧ (x.taint = true → o = true)) β (hput h d { x with sealed := true }) w := by
  have E : Ext J β h w (fun o k => J o k ∨ ∃ o', β d = some (k, o') ∧ (x.taint = true → o = true)) β (hput h d { x with sealed := true }) w := by
    refine ⟨fun _ _ hj => .inl hj, fun o k hj => rfl, fun b z hb => ?_, fun b k o hβ => Nat.le_refl _⟩
    by_cases e : b = d
    · subst e; rw [hx] at hb; simp at hb; subst hb
      exact ⟨{ x with sealed := true }, by rw [hget_hput, if_pos rfl], .inr ⟨hd, rfl, rfl, rfl⟩⟩
    · refine ⟨z, by rw [hget_hput, if_neg e]; exact hb, ?_⟩
      cases hd : z.dead
      · exact .inr ⟨rfl, rfl, rfl, rfl⟩
      · exact .inl rfl
  refine ⟨E, ⟨?_, ?_, fun b z hb hdz => ?_, ?_⟩, rfl, rfl, rfl, Nat.le_refl _, fun k hk _ => rfl, ?_, ?_⟩
  · rintro o k (hj | ⟨o', hβ, _⟩)
    · exact S.jlt o k hj
    · exact loc_lt S hx hd hβ
  · rintro k (hj | ⟨o', hβ, ht⟩)
    · exact .inl (S.jft k hj)
    · exact .inr ⟨o', hβ, fun _ => rfl⟩
  · rw [hget_hput] at hb
    by_cases e : b = d
    · rw [if_pos e] at hb; simp at hb; subst hb; subst e
      rcases S.blk b x hx hd with h1 | ⟨k, o, cs', ty', fr', h1, h2, h3, h4, h5, h6, h7⟩
      · exact .inl h1
      · exact .inr ⟨k, o, cs', ty', fr', h1, h2, h3, h4, h5.ext E, fun hs => by simp at hs, fun _ => .inr ⟨o, h1, id⟩⟩
    · rw [if_neg e] at hb
      rcases S.blk b z hb hdz with h1 | ⟨k, o, cs', ty', fr', h1, h2, h3, h4, h5, h6, h7⟩
      · exact .inl h1
      · refine .inr ⟨k, o, cs', ty', fr', h1, h2, h3, h4, h5.ext E, fun hs g hj => ?_, fun hs => .inl (h7 hs)⟩
        rcases hj with hj | ⟨o', hβ, _⟩
        · exact h6 hs g hj
        · exact e (S.sep b d z x k o o' hb hx hdz hd hs h1 hβ)
  · intro b b' z z' k o o' hb hb' hd1 hd2 hs hβ hβ'
    have get : ∀ {c y}, hget (hput h d { x with sealed := true }) c = some y → y.dead = false → ∃ y', hget h c = some y' ∧ y'.dead = false ∧ (y.sealed = false → y'.sealed = false) := by
      intro c y hc hyd
      rw [hget_hput] at hc
      by_cases e : c = d
      · subst e; exact ⟨x, hx, hd, fun hs => by simp at hc; subst hc; simp at hs⟩
      · rw [if_neg e] at hc; exact ⟨y, hc, hyd, id⟩
    obtain ⟨y1, g1, g2, g3⟩ := get hb hd1
    obtain ⟨y2, g4, g5, g6⟩ := get hb' hd2
    exact S.sep b b' y1 y2 k o o' g1 g4 g2 g5 (g3 hs) hβ hβ'
  · rintro k ⟨b, z, o, hb, hdz, hs, hβ⟩ hk
    rw [hget_hput] at hb
    by_cases e : b = d
    · rw [if_pos e] at hb; simp at hb; subst hb; simp at hs
    · rw [if_neg e] at hb
      exact ⟨b, z, o, hb, hdz, hs, hβ⟩
  · rintro o k (hj | ⟨o', hβ, ht⟩)
    · exact .inl hj
    · cases hs : x.sealed with
      | false => exact .inr (.inl ⟨d, x, o', hx, hd, hs, hβ⟩)
      | true =>
        left
        rcases S.blk d x hx hd with ⟨h1, _⟩ | ⟨k', o1, cs', ty', fr', h1, h2, h3, h4, h5, h6, h7⟩
        · rw [hβ] at h1; simp at h1
        · rw [hβ] at h1; simp at h1; obtain ⟨rfl, rfl⟩ := h1
          have := h7 hs
          cases htt : x.taint with
          | true => rw [htt] at this; rw [ht htt]; exact this
          | false =>
            rw [htt] at this
            cases o
            · exact this
            · exact S.jft _ this

/-- w' is w but for the cells of block k. -/
structure OnlyBlk (w w' : World) (k : Nat) (cs cs' : Array Value) (ty : TypeId) (fr : Nat × Nat) : Prop where
  old : w.heap[k]? = some (.cells cs ty fr)
  new : w'.heap[k]? = some (.cells cs' ty fr)
  sz : cs'.size = cs.size
  other : ∀ j, j ≠ k → w'.heap[j]? = w.heap[j]?
  size : w'.heap.size = w.heap.size
  os : w'.os = w.os
  tape : w'.tape = w.tape
  output : w'.output = w.output

theorem OnlyBlk.setCell {k i : Nat} {cs : Array Value} {ty : TypeId} {fr : Nat × Nat} (hk : w.heap[k]? = some (.cells cs ty fr)) (u : Value) :
    OnlyBlk w (w.setCell ⟨k, i, none⟩ u) k cs (cs.setIfInBounds i u) ty fr := by
  refine ⟨hk, ?_, by simp, fun j hj => ?_, by simp [World.setCell], rfl, rfl, rfl⟩
  · simp [World.setCell, Array.getElem?_modify, hk]
  · simp only [World.setCell, Array.getElem?_modify]; rw [if_neg (fun e => hj e.symm)]

theorem OnlyBlk.setCells {k : Nat} {ty : TypeId} {fr : Nat × Nat} : ∀ (us : List Value) (i : Nat) (w : World) (cs : Array Value), w.heap[k]? = some (.cells cs ty fr) →
    ∃ cs', OnlyBlk w (w.setCells k i us) k cs cs' ty fr ∧ ∀ j, cs'[j]? = if i ≤ j ∧ j < i + us.length ∧ j < cs.size then us[j - i]? else cs[j]?
  | [], i, w, cs, hk => ⟨cs, ⟨hk, hk, rfl, fun _ _ => rfl, rfl, rfl, rfl, rfl⟩, fun j => by rw [if_neg (by simp; omega)]⟩
  | u :: us, i, w, cs, hk => by
    have A := OnlyBlk.setCell (i := i) hk u
    obtain ⟨cs', B, hB⟩ := OnlyBlk.setCells us (i + 1) (w.setCell ⟨k, i, none⟩ u) _ A.new
    refine ⟨cs', ⟨hk, B.new, B.sz.trans A.sz, fun j hj => (B.other j hj).trans (A.other j hj), B.size.trans A.size, B.os.trans A.os, B.tape.trans A.tape, B.output.trans A.output⟩, fun j => ?_⟩
    rw [hB j]
    simp only [Array.size_setIfInBounds, List.length_cons]
    by_cases hj : j = i
    · subst hj
      rw [if_neg (by omega)]
      by_cases hs : j < cs.size
      · rw [if_pos (by omega)]; simp [hs]
      · rw [if_neg (by omega)]; simp [hs]
    · by_cases h1 : i + 1 ≤ j ∧ j < i + 1 + us.length ∧ j < cs.size
      · rw [if_pos h1, if_pos (by omega), show j - i = (j - (i + 1)) + 1 by omega]; simp
      · rw [if_neg h1, if_neg (by omega), Array.getElem?_setIfInBounds_ne (by omega)]

/-- Cells of a block of one's own are written. -/
theorem Step.set (S : SimH J β h w) {d k o : Nat} {x x' : Blk} {cs cs' : Array Value} {ty : TypeId} {fr : Nat × Nat} (hx : hget h d = some x) (hd : x.dead = false) (hs : x.sealed = false) (hβ : β d = some (k, o))
    (O : OnlyBlk w w' k cs cs' ty fr) (hd' : x'.dead = false) (hs' : x'.sealed = false) (hz : x'.sz = x.sz) (hl : x'.cells.length = x.cells.length) (hc : CellsRep J β h w x' (fun j => cs'[o + j]?)) :
    Step J β h w J β (hput h d x') w' := by
  obtain ⟨k', o', cs0, ty0, fr0, hβ', h2, h3, h4, h5, h6, h7⟩ : ∃ k' o' cs0 ty0 fr0, β d = some (k', o') ∧ w.heap[k']? = some (.cells cs0 ty0 fr0) ∧
      FrOk cs0.size fr0 ∧ o' + x.cells.length ≤ cs0.size ∧ CellsRep J β h w x (fun j => cs0[o' + j]?) ∧ (x.sealed = false → ∀ g, ¬ J g k') ∧ (x.sealed = true → J x.taint k') := by
    rcases S.blk d x hx hd with ⟨h1, _⟩ | h1
    · rw [hβ] at h1; simp at h1
    · exact h1
  rw [hβ] at hβ'; simp at hβ'; obtain ⟨rfl, rfl⟩ := hβ'
  rw [O.old] at h2; simp at h2; obtain ⟨rfl, rfl, rfl⟩ := h2
  have nj : ∀ g j, J g j → j ≠ k := fun g j hj e => by subst e; exact h6 hs g hj
  have E : Ext J β h w J β (hput h d x') w' := by
    refine ⟨fun _ _ hj => hj, fun o j hj => O.other j (nj o j hj), fun b z hb => ?_, fun b j oo hb => ?_⟩
    · by_cases e : b = d
      · subst e; rw [hx] at hb; simp at hb; subst hb
        exact ⟨_, by rw [hget_hput, if_pos rfl], .inr ⟨hd, rfl, hz, hl⟩⟩
      · refine ⟨z, by rw [hget_hput, if_neg e]; exact hb, ?_⟩
        cases hd : z.dead
        · exact .inr ⟨rfl, rfl, rfl, rfl⟩
        · exact .inl rfl
    · by_cases e : j = k
      · subst e; rw [blkSize_of O.old, blkSize_of O.new, O.sz]; exact Nat.le_refl _
      · simp [blkSize, O.other j e]
  refine ⟨E, ⟨fun g j hj => by rw [O.size]; exact S.jlt g j hj, S.jft, fun b z hb hdz => ?_, ?_⟩, O.os, O.tape, O.output, by rw [O.size]; exact Nat.le_refl _, fun j hj hm => ?_, ?_, fun _ _ hj => .inl hj⟩
  · rw [hget_hput] at hb
    by_cases e : b = d
    · rw [if_pos e] at hb; simp at hb; subst hb; subst e
      refine .inr ⟨k, o, cs', ty, fr, hβ, O.new, ?_, by rw [hl, O.sz]; exact h4, hc.ext E, fun _ => h6 hs, fun hh => by simp [hs'] at hh⟩
      rw [O.sz]; exact h3
    · rw [if_neg e] at hb
      rcases S.blk b z hb hdz with g1 | ⟨k2, o2, cs2, ty2, fr2, g1, g2, g3, g4, g5, g6, g7⟩
      · exact .inl g1
      · have hne : k2 ≠ k := fun e2 => by
          subst e2; exact e (S.sep d b x z k2 o o2 hx hb hd hdz hs hβ g1).symm
        exact .inr ⟨k2, o2, cs2, ty2, fr2, g1, by rw [O.other k2 hne]; exact g2, g3, g4, g5.ext E, g6, g7⟩
  · intro b b' z z' kk oo oo' hb hb' hd1 hd2 hs1 hβ1 hβ2
    have get : ∀ {c y}, hget (hput h d x') c = some y → y.dead = false → ∃ y', hget h c = some y' ∧ y'.dead = false ∧ (y.sealed = false → y'.sealed = false) := by
      intro c y hc hyd
      rw [hget_hput] at hc
      by_cases e : c = d
      · subst e; exact ⟨x, hx, hd, fun _ => hs⟩
      · rw [if_neg e] at hc; exact ⟨y, hc, hyd, id⟩
    obtain ⟨y1, g1, g2, g3⟩ := get hb hd1
    obtain ⟨y2, g4, g5, g6⟩ := get hb' hd2
    exact S.sep b b' y1 y2 kk oo oo' g1 g4 g2 g5 (g3 hs1) hβ1 hβ2
  · exact O.other j (fun e => hm (by subst e; exact ⟨d, x, o, hx, hd, hs, hβ⟩))
  · rintro j ⟨b, z, oo, hb, hdz, hsz, hβz⟩ hj
    rw [hget_hput] at hb
    by_cases e : b = d
    · subst e; exact ⟨b, x, oo, hx, hd, hs, hβz⟩
    · rw [if_neg e] at hb
      exact ⟨b, z, oo, hb, hdz, hsz, hβz⟩

/-- A block of one's own gets a mark behind its last cell. -/
theorem Step.mark (S : SimH J β h w) {d k o : Nat} {x : Blk} {cs : Array Value} {ty : TypeId} {fr fr' : Nat × Nat} (hx : hget h d = some x) (hd : x.dead = false) (hs : x.sealed = false) (hβ : β d = some (k, o))
    (old : w.heap[k]? = some (.cells cs ty fr)) (new : w'.heap[k]? = some (.cells cs ty fr')) (hf : FrOk cs.size fr') (other : ∀ j, j ≠ k → w'.heap[j]? = w.heap[j]?) (size : w'.heap.size = w.heap.size) (os : w'.os = w.os) (tape : w'.tape = w.tape) (output : w'.output = w.output) :
    Step J β h w J β h w' := by
  have nj : ∀ g j, J g j → j ≠ k := fun g j hj e => by
    subst e
    rcases S.blk d x hx hd with ⟨h1, _⟩ | ⟨k', o', cs0, ty0, fr0, hβ', h2, h3, h4, h5, h6, h7⟩
    · rw [hβ] at h1; simp at h1
    · rw [hβ] at hβ'; simp at hβ'; obtain ⟨rfl, rfl⟩ := hβ'
      exact h6 hs g hj
  have E : Ext J β h w J β h w' := by
    refine ⟨fun _ _ hj => hj, fun o j hj => other j (nj o j hj), fun b z hb => ⟨z, hb, ?_⟩, fun b j oo hb => ?_⟩
    · cases hd : z.dead
      · exact .inr ⟨rfl, rfl, rfl, rfl⟩
      · exact .inl rfl
    · by_cases e : j = k
      · subst e; rw [blkSize_of old, blkSize_of new]; exact Nat.le_refl _
      · simp [blkSize, other j e]
  refine ⟨E, ⟨fun g j hj => by rw [size]; exact S.jlt g j hj, S.jft, fun b z hb hdz => ?_, S.sep⟩, os, tape, output, by rw [size]; exact Nat.le_refl _, fun j hj hm => ?_, fun _ hm _ => hm, fun _ _ hj => .inl hj⟩
  · rcases S.blk b z hb hdz with g1 | ⟨k2, o2, cs2, ty2, fr2, g1, g2, g3, g4, g5, g6, g7⟩
    · exact .inl g1
    · by_cases e : k2 = k
      · subst e
        rw [old] at g2; simp at g2; obtain ⟨rfl, rfl, rfl⟩ := g2
        exact .inr ⟨k2, o2, cs, ty, fr', g1, new, hf, g4, g5.ext E, g6, g7⟩
      · exact .inr ⟨k2, o2, cs2, ty2, fr2, g1, by rw [other k2 e]; exact g2, g3, g4, g5.ext E, g6, g7⟩
  · exact other j (fun e => hm (by subst e; exact ⟨d, x, o, hx, hd, hs, hβ⟩))

/-- A block of one's own goes on under a new name, in the same place. -/
theorem Step.move (S : SimH J β h w) {d d' k o o' : Nat} {x x' y : Blk} {cs cs' : Array Value} {ty : TypeId} {fr : Nat × Nat} (hx : hget h d = some x) (hd : x.dead = false) (hs : x.sealed = false) (hβ : β d = some (k, o))
    (hn : hget h d' = none) (hy : y.dead = true)
    (O : OnlyBlk w w' k cs cs' ty fr) (hd' : x'.dead = false) (hs' : x'.sealed = false) (hl : o' + x'.cells.length ≤ cs.size) (hc : CellsRep J β h w x' (fun j => cs'[o' + j]?)) :
    Step J β h w J (fun b => if b = d' then some (k, o') else β b) (hput (hput h d y) d' x') w' := by
  obtain ⟨k', o1, cs0, ty0, fr0, hβ', h2, h3, h4, h5, h6, h7⟩ : ∃ k' o' cs0 ty0 fr0, β d = some (k', o') ∧ w.heap[k']? = some (.cells cs0 ty0 fr0) ∧
      FrOk cs0.size fr0 ∧ o' + x.cells.length ≤ cs0.size ∧ CellsRep J β h w x (fun j => cs0[o' + j]?) ∧ (x.sealed = false → ∀ g, ¬ J g k') ∧ (x.sealed = true → J x.taint k') := by
    rcases S.blk d x hx hd with ⟨h1, _⟩ | h1
    · rw [hβ] at h1; simp at h1
    · exact h1
  rw [hβ] at hβ'; simp at hβ'; obtain ⟨rfl, rfl⟩ := hβ'
  rw [O.old] at h2; simp at h2; obtain ⟨rfl, rfl, rfl⟩ := h2
  have nj : ∀ g j, J g j → j ≠ k := fun g j hj e => by subst e; exact h6 hs g hj
  have ndd : d ≠ d' := fun e => by subst e; rw [hn] at hx; cases hx
  have ne : ∀ {b z}, hget h b = some z → b ≠ d' := fun hb e => by subst e; rw [hn] at hb; cases hb
  have get : ∀ b, hget (hput (hput h d y) d' x') b = if b = d' then some x' else if b = d then some y else hget h b := fun b => by rw [hget_hput, hget_hput]
  have E : Ext J β h w J (fun b => if b = d' then some (k, o') else β b) (hput (hput h d y) d' x') w' := by
    refine ⟨fun _ _ hj => hj, fun o j hj => O.other j (nj o j hj), fun b z hb => ?_, fun b j oo hb => ?_⟩
    · by_cases e : b = d
      · exact ⟨y, by rw [get, if_neg (ne hb), if_pos e], .inl hy⟩
      · refine ⟨z, by rw [get, if_neg (ne hb), if_neg e]; exact hb, ?_⟩
        cases hd : z.dead
        · exact .inr ⟨rfl, by simp [ne hb], rfl, rfl⟩
        · exact .inl rfl
    · by_cases e : j = k
      · subst e; rw [blkSize_of O.old, blkSize_of O.new, O.sz]; exact Nat.le_refl _
      · simp [blkSize, O.other j e]
  have live : ∀ {b z}, hget (hput (hput h d y) d' x') b = some z → z.dead = false → (b = d' ∧ z = x') ∨ (b ≠ d' ∧ b ≠ d ∧ hget h b = some z) := by
    intro b z hb hz
    rw [get] at hb
    by_cases e : b = d'
    · rw [if_pos e] at hb; simp at hb; exact .inl ⟨e, hb.symm⟩
    · rw [if_neg e] at hb
      by_cases e2 : b = d
      · rw [if_pos e2] at hb; simp at hb; subst hb; simp [hy] at hz
      · rw [if_neg e2] at hb; exact .inr ⟨e, e2, hb⟩
  refine ⟨E, ⟨fun g j hj => by rw [O.size]; exact S.jlt g j hj, S.jft, fun b z hb hdz => ?_, ?_⟩, O.os, O.tape, O.output, by rw [O.size]; exact Nat.le_refl _, fun j hj hm => ?_, ?_, fun _ _ hj => .inl hj⟩
  · rcases live hb hdz with ⟨rfl, rfl⟩ | ⟨e1, e2, hb⟩
    · refine .inr ⟨k, o', cs', ty, fr, by simp, O.new, ?_, by rw [O.sz]; exact hl, hc.ext E, fun _ => h6 hs, fun hh => by simp [hs'] at hh⟩
      rw [O.sz]; exact h3
    · rcases S.blk b z hb hdz with g1 | ⟨k2, o2, cs2, ty2, fr2, g1, g2, g3, g4, g5, g6, g7⟩
      · exact .inl ⟨by simp [e1, g1.1], g1.2⟩
      · have hne : k2 ≠ k := fun e => by
          subst e; exact e2 (S.sep d b x z k2 o o2 hx hb hd hdz hs hβ g1).symm
        exact .inr ⟨k2, o2, cs2, ty2, fr2, by simp [e1, g1], by rw [O.other k2 hne]; exact g2, g3, g4, g5.ext E, g6, g7⟩
  · intro b b' z z' kk oo oo' hb hb' hd1 hd2 hs1 hβ1 hβ2
    rcases live hb hd1 with ⟨e0, _⟩ | ⟨e1, e2, hbb⟩ <;> rcases live hb' hd2 with ⟨e0', _⟩ | ⟨e3, e4, hbb'⟩
    · rw [e0, e0']
    · simp [e0] at hβ1; simp [e3] at hβ2
      obtain ⟨rfl, rfl⟩ := hβ1
      exact absurd (S.sep d b' x z' k o oo' hx hbb' hd hd2 hs hβ hβ2).symm e4
    · simp [e0'] at hβ2; simp [e1] at hβ1
      obtain ⟨rfl, rfl⟩ := hβ2
      exact absurd (S.sep d b x z k o oo hx hbb hd hd1 hs hβ hβ1).symm e2
    · simp [e1] at hβ1; simp [e3] at hβ2
      exact S.sep b b' z z' kk oo oo' hbb hbb' hd1 hd2 hs1 hβ1 hβ2
  · exact O.other j (fun e => hm (by subst e; exact ⟨d, x, o, hx, hd, hs, hβ⟩))
  · rintro j ⟨b, z, oo, hb, hdz, hsz, hβz⟩ hj
    rcases live hb hdz with ⟨rfl, rfl⟩ | ⟨e1, e2, hb⟩
    · simp at hβz; obtain ⟨rfl, rfl⟩ := hβz
      exact ⟨d, x, o, hx, hd, hs, hβ⟩
    · simp [e1] at hβz; exact ⟨b, z, oo, hb, hdz, hsz, hβz⟩
end
end Gx
