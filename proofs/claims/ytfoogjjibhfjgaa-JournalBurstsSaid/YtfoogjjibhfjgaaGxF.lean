/- A part of the proof: what it holds is said at each theorem. -/
import Derived.Test.YtfoogjjibhfjgaaGxE
set_option linter.unusedVariables false
namespace Gx
open Go

theorem beqF {a b : Nat} (h : a ≠ b) : Nat.beq a b = false := by
  cases hb : Nat.beq a b with
  | false => rfl
  | true => exact absurd (Nat.eq_of_beq_eq_true hb) h
theorem beqF' {a b : Nat} (h : Nat.beq a b = false) : a ≠ b := fun e => by subst e; rw [Nat.beq_refl] at h; cases h

theorem hget_hput : ∀ (h : Heap) (b : Nat) (y : Blk) (c : Nat), hget (hput h b y) c = if c = b then some y else hget h c
  | [], b, y, c => by
    by_cases e : c = b
    · subst e; simp [hput, hget]
    · have : Nat.beq b c = false := beqF (fun e' => e e'.symm)
      simp [hput, hget, e, this]
  | (i, x) :: r, b, y, c => by
    rw [hput]
    cases h1 : Nat.beq i b with
    | true =>
      have h1' : i = b := by simpa using h1
      subst h1'
      by_cases e : c = i
      · subst e; simp [hget]
      · have : Nat.beq i c = false := beqF (fun e' => e e'.symm)
        simp [hget, e, this]
    | false =>
      have h1' : i ≠ b := beqF' h1
      cases h2 : Nat.blt b i with
      | true =>
        by_cases e : c = b
        · subst e; simp [hget]
        · have : Nat.beq b c = false := beqF (fun e' => e e'.symm)
          simp [hget, e, this]
      | false =>
        simp only [cond_false]
        rw [hget]
        cases h3 : Nat.beq i c with
        | true =>
          have h3' : i = c := by simpa using h3
          subst h3'
          simp [hget, h1']
        | false => simp [hget, h3, hget_hput r b y c]

theorem sget_sput : ∀ (h : Slots) (b : Nat) (y : AV) (c : Nat), sget (sput h b y) c = if c = b then y else sget h c
  | [], b, y, c => by
    by_cases e : c = b
    · subst e; simp [sput, sget]
    · have : Nat.beq b c = false := beqF (fun e' => e e'.symm)
      simp [sput, sget, e, this]
  | (i, x) :: r, b, y, c => by
    rw [sput]
    cases h1 : Nat.beq i b with
    | true =>
      have h1' : i = b := by simpa using h1
      subst h1'
      by_cases e : c = i
      · subst e; simp [sget]
      · have : Nat.beq i c = false := beqF (fun e' => e e'.symm)
        simp [sget, e, this]
    | false =>
      have h1' : i ≠ b := beqF' h1
      cases h2 : Nat.blt b i with
      | true =>
        by_cases e : c = b
        · subst e; simp [sget]
        · have : Nat.beq b c = false := beqF (fun e' => e e'.symm)
          simp [sget, e, this]
      | false =>
        simp only [cond_false]
        rw [sget]
        cases h3 : Nat.beq i c with
        | true =>
          have h3' : i = c := by simpa using h3
          subst h3'
          simp [sget, h1']
        | false => simp [sget, h3, sget_sput r b y c]

/-- A concrete block that a live block that may be written lies in. -/
def Mut (β : Beta) (h : Heap) (k : Nat) : Prop := ∃ b x o, hget h b = some x ∧ x.dead = false ∧ x.sealed = false ∧ β b = some (k, o)

structure Step (J : Bool → Nat → Prop) (β : Beta) (h : Heap) (w : World) (J' : Bool → Nat → Prop) (β' : Beta) (h' : Heap) (w' : World) : Prop where
  ext : Ext J β h w J' β' h' w'
  sim : SimH J' β' h' w'
  os : w'.os = w.os
  tape : w'.tape = w.tape
  output : w'.output = w.output
  size : w.heap.size ≤ w'.heap.size
  frame : ∀ k, k < w.heap.size → ¬ Mut β h k → w'.heap[k]? = w.heap[k]?
  wr : ∀ k, Mut β' h' k → k < w.heap.size → Mut β h k
  jup : ∀ o k, J' o k → J o k ∨ Mut β h k ∨ w.heap.size ≤ k

section
variable {J J' J'' : Bool → Nat → Prop} {β β' β'' : Beta} {h h' h'' : Heap} {w w' w'' : World}

theorem Ext.refl : Ext J β h w J β h w := ⟨fun _ _ hj => hj, fun _ _ _ => rfl, fun b x hb => ⟨x, hb, by cases hd : x.dead <;> simp⟩, fun _ _ _ _ => Nat.le_refl _⟩

theorem Ext.trans (A : Ext J β h w J' β' h' w') (B : Ext J' β' h' w' J'' β'' h'' w'') (hs : ∀ b k o, β b = some (k, o) → blkSize w k ≤ blkSize w'' k) : Ext J β h w J'' β'' h'' w'' where
  jsub o k hj := B.jsub o k (A.jsub o k hj)
  keep o k hj := (B.keep o k (A.jsub o k hj)).trans (A.keep o k hj)
  blk b x hb := by
    obtain ⟨x', h1, h2⟩ := A.blk b x hb
    obtain ⟨x'', h3, h4⟩ := B.blk b x' h1
    refine ⟨x'', h3, ?_⟩
    rcases h4 with h4 | ⟨h4, h5, h6, h7⟩
    · exact .inl h4
    · rcases h2 with h2 | ⟨g1, g2, g3, g4⟩
      · simp [h4] at h2
      · exact .inr ⟨g1, h5.trans g2, h6.trans g3, h7.trans g4⟩
  size := hs

/-- Blocks of cells keep their size in the world. -/
def Sizes (w w' : World) : Prop := ∀ k, blkSize w k ≤ blkSize w' k

theorem Step.refl (S : SimH J β h w) : Step J β h w J β h w := ⟨Ext.refl, S, rfl, rfl, rfl, Nat.le_refl _, fun _ _ _ => rfl, fun _ hm _ => hm, fun _ _ hj => .inl hj⟩

theorem Step.trans (A : Step J β h w J' β' h' w') (B : Step J' β' h' w' J'' β'' h'' w'') (hs : ∀ b k o, β b = some (k, o) → blkSize w k ≤ blkSize w'' k) : Step J β h w J'' β'' h'' w'' where
  ext := A.ext.trans B.ext hs
  sim := B.sim
  os := B.os.trans A.os
  tape := B.tape.trans A.tape
  output := B.output.trans A.output
  size := Nat.le_trans A.size B.size
  frame k hk hm := (B.frame k (Nat.lt_of_lt_of_le hk A.size) (fun hm' => hm (A.wr k hm' hk))).trans (A.frame k hk hm)
  wr k hm hk := A.wr k (B.wr k hm (Nat.lt_of_lt_of_le hk A.size)) hk
  jup o k hj := by
    rcases B.jup o k hj with h1 | h1 | h1
    · exact A.jup o k h1
    · by_cases hk : k < w.heap.size
      · exact .inr (.inl (A.wr k h1 hk))
      · exact .inr (.inr (by omega))
    · exact .inr (.inr (Nat.le_trans A.size h1))

/-- A block under new J, β, h, w where nothing that it holds has changed. -/
theorem CellsRep.ext (E : Ext J β h w J' β' h' w') {x : Blk} {rd : Nat → Option Value} (hc : CellsRep J β h w x rd) : CellsRep J' β' h' w' x rd :=
  ⟨fun hp => RepCs.keep (E.jsub _) (E.keep _) (fun _ => rfl) (hc.1 hp), fun hp j c hj => by
    obtain ⟨u, h1, h2, h3⟩ := hc.2 hp j c hj
    exact ⟨u, h1, Rep.ext E h2, h3⟩⟩

theorem blkSize_of {k : Nat} {cs : Array Value} {ty : TypeId} {fr : Nat × Nat} (hk : w.heap[k]? = some (.cells cs ty fr)) : blkSize w k = cs.size := by simp [blkSize, hk]

theorem heap_lt {k : Nat} {o : Obj} (hk : w.heap[k]? = some o) : k < w.heap.size := by
  rcases Nat.lt_or_ge k w.heap.size with hlt | hge
  · exact hlt
  · rw [Array.getElem?_eq_none hge] at hk; cases hk

/-- A draw. -/
theorem Step.drew (S : SimH J β h w) : Step J β h w J β h w.drew where
  ext := ⟨fun _ _ hj => hj, fun _ _ _ => rfl, fun b x hb => ⟨x, hb, by cases hd : x.dead <;> simp⟩, fun _ _ _ _ => Nat.le_refl _⟩
  sim := by
    have E : Ext J β h w J β h w.drew := ⟨fun _ _ hj => hj, fun _ _ _ => rfl, fun b x hb => ⟨x, hb, by cases hd : x.dead <;> simp⟩, fun _ _ _ _ => Nat.le_refl _⟩
    refine ⟨S.jlt, S.jft, fun b x hb hd => ?_, S.sep⟩
    rcases S.blk b x hb hd with h1 | ⟨k, o, cs, ty, fr, h1, h2, h3, h4, h5, h6⟩
    · exact .inl h1
    · exact .inr ⟨k, o, cs, ty, fr, h1, h2, h3, h4, h5.ext E, h6⟩
  os := rfl
  tape := rfl
  output := rfl
  size := Nat.le_refl _
  frame _ _ _ := rfl
  wr _ hm _ := hm
  jup _ _ hj := .inl hj

theorem heap_alloc_lt (w : World) (o : Obj) {k : Nat} (hk : k < w.heap.size) : (w.alloc o).heap[k]? = w.heap[k]? := by
  show (w.heap.push o)[k]? = _
  rw [Array.getElem?_push, if_neg (by omega)]

theorem loc_lt (S : SimH J β h w) {b : Nat} {x : Blk} {k o : Nat} (hb : hget h b = some x) (hd : x.dead = false) (hβ : β b = some (k, o)) : k < w.heap.size := by
  rcases S.blk b x hb hd with ⟨hn, _⟩ | ⟨k', o', cs, ty, fr, h1, h2, _⟩
  · rw [hβ] at hn; simp at hn
  · rw [hβ] at h1; simp at h1; obtain ⟨rfl, rfl⟩ := h1; exact heap_lt h2

/-- A new block, in a concrete block of its own. -/
theorem Step.new (S : SimH J β h w) {d : Nat} {x : Blk} {cs : Array Value} {ty : TypeId} {fr : Nat × Nat} (hn : hget h d = none) (hxd : x.dead = false) (hxs : x.sealed = false)
    (hfr : FrOk cs.size fr) (hlen : x.cells.length ≤ cs.size) (hc : CellsRep J β h w x (fun j => cs[j]?)) :
    Step J β h w J (fun b => if b = d then some (w.heap.size, 0) else β b) (hput h d x) (w.alloc (.cells cs ty fr)) := by
  have ne : ∀ {b y}, hget h b = some y → b ≠ d := fun hb e => by subst e; rw [hn] at hb; cases hb
  have E : Ext J β h w J (fun b => if b = d then some (w.heap.size, 0) else β b) (hput h d x) (w.alloc (.cells cs ty fr)) := by
    refine ⟨fun _ _ hj => hj, fun o k hj => heap_alloc_lt w _ (S.jlt o k hj), fun b y hb => ⟨y, by rw [hget_hput, if_neg (ne hb)]; exact hb, ?_⟩, fun b k o hβ => ?_⟩
    · cases hd : y.dead
      · exact .inr ⟨rfl, by simp [ne hb], rfl, rfl⟩
      · exact .inl rfl
    · by_cases hk : k < w.heap.size
      · simp [blkSize, heap_alloc_lt w _ hk]
      · simp [blkSize, Array.getElem?_eq_none (Nat.le_of_not_lt hk)]
  have hnew : (w.alloc (.cells cs ty fr)).heap[w.heap.size]? = some (.cells cs ty fr) := by
    show (w.heap.push _)[_]? = _; simp
  have hsz : (w.alloc (.cells cs ty fr)).heap.size = w.heap.size + 1 := by show (w.heap.push _).size = _; simp
  refine ⟨E, ⟨fun o k hj => by have := S.jlt o k hj; omega, S.jft, fun b y hb hd => ?_, ?_⟩, rfl, rfl, rfl, by omega, fun k hk _ => heap_alloc_lt w _ hk, ?_, fun _ _ hj => .inl hj⟩
  · rw [hget_hput] at hb
    by_cases e : b = d
    · subst e; simp at hb; subst hb
      exact .inr ⟨w.heap.size, 0, cs, ty, fr, by simp, hnew, hfr, by omega, by simpa using hc.ext E, fun _ g hj => by have := S.jlt g _ hj; omega, fun hs => by simp [hxs] at hs⟩
    · rw [if_neg e] at hb
      rcases S.blk b y hb hd with h1 | ⟨k, o, cs', ty', fr', h1, h2, h3, h4, h5, h6⟩
      · exact .inl ⟨by simp [e, h1.1], h1.2⟩
      · exact .inr ⟨k, o, cs', ty', fr', by simp [e, h1], by rw [heap_alloc_lt w _ (heap_lt h2)]; exact h2, h3, h4, h5.ext E, h6⟩
  · intro b b' y y' k o o' hb hb' hd hd' hs hβ hβ'
    rw [hget_hput] at hb hb'
    by_cases e : b = d <;> by_cases e' : b' = d
    · rw [e, e']
    · rw [if_neg e'] at hb'
      simp [e] at hβ; simp [e'] at hβ'
      have := loc_lt S hb' hd' hβ'; omega
    · rw [if_neg e] at hb
      simp [e'] at hβ'; simp [e] at hβ
      have := loc_lt S hb hd hβ; omega
    · rw [if_neg e] at hb; rw [if_neg e'] at hb'
      simp [e] at hβ; simp [e'] at hβ'
      exact S.sep b b' y y' k o o' hb hb' hd hd' hs hβ hβ'
  · rintro k ⟨b, y, o, hb, hd, hs, hβ⟩ hk
    rw [hget_hput] at hb
    by_cases e : b = d
    · simp [e] at hβ; omega
    · rw [if_neg e] at hb; simp [e] at hβ
      exact ⟨b, y, o, hb, hd, hs, hβ⟩

/-- A new block that holds nothing and lies nowhere. -/
theorem Step.newNone (S : SimH J β h w) {d : Nat} {x : Blk} (hn : hget h d = none) (hc : x.cells = []) :
    Step J β h w J (fun b => if b = d then none else β b) (hput h d x) w := by
  have ne : ∀ {b y}, hget h b = some y → b ≠ d := fun hb e => by subst e; rw [hn] at hb; cases hb
  have E : Ext J β h w J (fun b => if b = d then none else β b) (hput h d x) w := by
    refine ⟨fun _ _ hj => hj, fun o k hj => rfl, fun b y hb => ⟨y, by rw [hget_hput, if_neg (ne hb)]; exact hb, ?_⟩, fun b k o hβ => Nat.le_refl _⟩
    cases hd : y.dead
    · exact .inr ⟨rfl, by simp [ne hb], rfl, rfl⟩
    · exact .inl rfl
  refine ⟨E, ⟨S.jlt, S.jft, fun b y hb hd => ?_, ?_⟩, rfl, rfl, rfl, Nat.le_refl _, fun k hk _ => rfl, ?_, fun _ _ hj => .inl hj⟩
  · rw [hget_hput] at hb
    by_cases e : b = d
    · subst e; simp at hb; subst hb
      exact .inl ⟨by simp, hc⟩
    · rw [if_neg e] at hb
      rcases S.blk b y hb hd with h1 | ⟨k, o, cs', ty', fr', h1, h2, h3, h4, h5, h6⟩
      · exact .inl ⟨by simp [e, h1.1], h1.2⟩
      · exact .inr ⟨k, o, cs', ty', fr', by simp [e, h1], h2, h3, h4, h5.ext E, h6⟩
  · intro b b' y y' k o o' hb hb' hd hd' hs hβ hβ'
    rw [hget_hput] at hb hb'
    by_cases e : b = d
    · simp [e] at hβ
    · by_cases e' : b' = d
      · simp [e'] at hβ'
      · rw [if_neg e] at hb; rw [if_neg e'] at hb'
        simp [e] at hβ; simp [e'] at hβ'
        exact S.sep b b' y y' k o o' hb hb' hd hd' hs hβ hβ'
  · rintro k ⟨b, y, o, hb, hd, hs, hβ⟩ hk
    rw [hget_hput] at hb
    by_cases e : b = d
    · simp [e] at hβ
    · rw [if_neg e] at hb; simp [e] at hβ
      exact ⟨b, y, o, hb, hd, hs, hβ⟩

/-- A block is no longer used. -/
theorem Step.kill (S : SimH J β h w) {d : Nat} {x y : Blk} (hx : hget h d = some x) (hy : y.dead = true) : Step J β h w J β (hput h d y) w := by
  have E : Ext J β h w J β (hput h d y) w := by
    refine ⟨fun _ _ hj => hj, fun o k hj => rfl, fun b z hb => ?_, fun b k o hβ => Nat.le_refl _⟩
    by_cases e : b = d
    · exact ⟨y, by rw [hget_hput, if_pos e], .inl hy⟩
    · refine ⟨z, by rw [hget_hput, if_neg e]; exact hb, ?_⟩
      cases hd : z.dead
      · exact .inr ⟨rfl, rfl, rfl, rfl⟩
      · exact .inl rfl
  refine ⟨E, ⟨S.jlt, S.jft, fun b z hb hd => ?_, ?_⟩, rfl, rfl, rfl, Nat.le_refl _, fun k hk _ => rfl, ?_, fun _ _ hj => .inl hj⟩
  · rw [hget_hput] at hb
    by_cases e : b = d
    · rw [if_pos e] at hb; simp at hb; subst hb; simp [hy] at hd
    · rw [if_neg e] at hb
      rcases S.blk b z hb hd with h1 | ⟨k, o, cs', ty', fr', h1, h2, h3, h4, h5, h6⟩
      · exact .inl h1
      · exact .inr ⟨k, o, cs', ty', fr', h1, h2, h3, h4, h5.ext E, h6⟩
  · intro b b' z z' k o o' hb hb' hd hd' hs hβ hβ'
    rw [hget_hput] at hb hb'
    by_cases e : b = d
    · rw [if_pos e] at hb; simp at hb; subst hb; simp [hy] at hd
    · by_cases e' : b' = d
      · rw [if_pos e'] at hb'; simp at hb'; subst hb'; simp [hy] at hd'
      · rw [if_neg e] at hb; rw [if_neg e'] at hb'
        exact S.sep b b' z z' k o o' hb hb' hd hd' hs hβ hβ'
  · rintro k ⟨b, z, o, hb, hd, hs, hβ⟩ hk
    rw [hget_hput] at hb
    by_cases e : b = d
    · rw [if_pos e] at hb; simp at hb; subst hb; simp [hy] at hd
    · rw [if_neg e] at hb
      exact ⟨b, z, o, hb, hd, hs, hβ⟩
end
end Gx
