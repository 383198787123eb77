/- A part of the proof: what it holds is said at each theorem. -/
import Derived.Test.YtfoogjjibhfjgaaGxZ
set_option linter.unusedVariables false
namespace Gx
open Go

theorem sub_congr {g g' : Look} {ρ : Nat → Nat} : ∀ {ids : List Nat}, (∀ b ∈ ids, g b = g' b) → sub g ρ ids = sub g' ρ ids
  | [], _ => rfl
  | b :: r, h => by
    rw [sub, sub, h b (by simp), sub_congr (fun c hc => h c (by simp [hc]))]
theorem aliveAll_at {g : Look} : ∀ {l : List Nat}, aliveAll g l = true → ∀ b ∈ l, ∃ x, g b = some x ∧ x.dead = false
  | [], _, b, hb => by simp at hb
  | i :: r, h, b, hb => by
    rw [aliveAll] at h
    simp at h
    rcases List.mem_cons.1 hb with rfl | hb
    · cases hx : g b with
      | none => rw [hx] at h; simp at h
      | some x => rw [hx] at h; exact ⟨x, rfl, by simpa using h.1⟩
    · exact aliveAll_at h.2 b hb
theorem disj_at : ∀ {l m : List Nat}, disj l m = true → ∀ b ∈ l, b ∉ m
  | [], m, _, b, hb => by simp at hb
  | i :: r, m, h, b, hb => by
    rw [disj] at h
    simp at h
    rcases List.mem_cons.1 hb with rfl | hb
    · intro hm; have := memN_iff.2 hm; rw [this] at h; simp at h
    · exact disj_at h.2 b hb

theorem assoc_snd {d : Nat} : ∀ {l : List (Nat × Nat)} {b : Nat}, b ∈ l.map (·.1) → assoc d l b ∈ l.map (·.2)
  | [], b, hb => by simp at hb
  | (i, x) :: r, b, hb => by
    rw [assoc]
    cases hi : Nat.beq i b with
    | true => simp
    | false =>
      have hm : b ∈ r.map (·.1) := by
        rw [List.map_cons] at hb
        rcases List.mem_cons.1 hb with h | h
        · exact absurd h.symm (beqF' hi)
        · exact h
      simp only [cond_false, List.map_cons]
      exact List.mem_cons_of_mem _ (assoc_snd hm)
theorem assoc_append {d : Nat} : ∀ {l m : List (Nat × Nat)} {b : Nat}, assoc d (l ++ m) b = if b ∈ l.map (·.1) then assoc d l b else assoc d m b
  | [], m, b => by simp
  | (i, x) :: r, m, b => by
    rw [List.cons_append, assoc, assoc, assoc_append]
    cases hi : Nat.beq i b with
    | true => have := Nat.eq_of_beq_eq_true hi; subst this; simp
    | false =>
      have := beqF' hi
      simp only [cond_false, List.map_cons, List.mem_cons]
      by_cases hb : b ∈ r.map (·.1)
      · rw [if_pos hb, if_pos (.inr hb)]
      · rw [if_neg hb, if_neg (by rintro (h | h); exact this h.symm; exact hb h)]

theorem numbered_fst : ∀ {base : Nat} {l : List Nat}, (numbered base l).map (·.1) = l
  | _, [] => rfl
  | base, i :: r => by rw [numbered, List.map_cons, numbered_fst]
theorem assoc_back {d d' : Nat} : ∀ {l : List Nat} {base b : Nat}, b ∈ l → assoc d' ((numbered base l).map fun p => (p.2, p.1)) (assoc d (numbered base l) b) = b
  | [], base, b, hb => by simp at hb
  | i :: r, base, b, hb => by
    rw [numbered, assoc, List.map_cons, assoc]
    cases hi : Nat.beq i b with
    | true => have := Nat.eq_of_beq_eq_true hi; subst this; simp
    | false =>
      have hm : b ∈ r := by
        rcases List.mem_cons.1 hb with h | h
        · exact absurd h.symm (beqF' hi)
        · exact h
      simp only [cond_false]
      have h1 := assoc_numbered (d := d) (base := base + 1) hm
      rw [beqF (show base ≠ assoc d (numbered (base + 1) r) b by omega)]
      exact assoc_back hm
theorem numbered_snd_mem : ∀ {base : Nat} {l : List Nat} {c : Nat}, c ∈ (numbered base l).map (·.2) → base ≤ c ∧ c < base + l.length
  | _, [], c, hc => by simp [numbered] at hc
  | base, i :: r, c, hc => by
    rw [numbered, List.map_cons] at hc
    rcases List.mem_cons.1 hc with h | h
    · simp at h; subst h; simp
    · have := numbered_snd_mem h; simp only [List.length_cons]; omega
theorem numbered_snd_nodup : ∀ {base : Nat} {l : List Nat}, ((numbered base l).map (·.2)).Nodup
  | _, [] => by simp [numbered]
  | base, i :: r => by
    rw [numbered, List.map_cons, List.nodup_cons]
    exact ⟨fun h => by have := numbered_snd_mem h; simp at this; omega, numbered_snd_nodup⟩
theorem numbered_at : ∀ {base : Nat} {l : List Nat} {b : Nat}, b ∈ l → (b, assoc 0 (numbered base l) b) ∈ numbered base l
  | _, [], b, hb => by simp at hb
  | base, i :: r, b, hb => by
    rw [numbered, assoc]
    cases hi : Nat.beq i b with
    | true => have := Nat.eq_of_beq_eq_true hi; subst this; simp
    | false =>
      have hm : b ∈ r := by
        rcases List.mem_cons.1 hb with h | h
        · exact absurd h.symm (beqF' hi)
        · exact h
      simp only [cond_false]
      exact List.mem_cons_of_mem _ (numbered_at hm)

def killed (x : Blk) : Blk := { x with dead := true, pure := true, cells := [] }
theorem applyUps_at : ∀ {ups : Ups} {h : Heap} {b : Nat} {o : Option Blk}, (ups.map (·.1)).Nodup → (b, o) ∈ ups → hget (applyUps ups h) b = match o with | some x => some x | none => (hget h b).map killed
  | [], h, b, o, _, hm => by simp at hm
  | (i, y) :: r, h, b, o, hn, hm => by
    rw [List.map_cons, List.nodup_cons] at hn
    rcases List.mem_cons.1 hm with he | hm'
    · simp at he
      obtain ⟨rfl, rfl⟩ := he
      have hno : inUps r b = false := by
        have : ∀ {r : Ups}, b ∉ r.map (·.1) → inUps r b = false := by
          intro r
          induction r with
          | nil => intro _; rfl
          | cons p r ih =>
            intro h
            simp only [List.map_cons, List.mem_cons, not_or] at h
            rw [inUps, beqF (fun e => h.1 e.symm)]
            exact ih h.2
        exact this hn.1
      cases o with
      | some x => rw [applyUps, applyUps_other _ _ _ hno, hget_hput, if_pos rfl]
      | none =>
        rw [applyUps, applyUps_other _ _ _ hno]
        cases hx : hget h b with
        | none => simp [hx]
        | some x => simp only [Option.map_some]; rw [hget_hput, if_pos rfl]; rfl
    · have hne : b ≠ i := fun e => by subst e; exact hn.1 (List.mem_map.2 ⟨_, hm', rfl⟩)
      cases y with
      | some x =>
        rw [applyUps, applyUps_at hn.2 hm']
        cases o with
        | some _ => rfl
        | none => simp only; rw [hget_hput, if_neg hne]
      | none =>
        rw [applyUps, applyUps_at hn.2 hm']
        cases o with
        | some _ => rfl
        | none =>
          simp only
          split
          · rw [hget_hput, if_neg hne]
          · rfl
theorem inUps_iff : ∀ {ups : Ups} {b : Nat}, inUps ups b = true ↔ b ∈ ups.map (·.1)
  | [], b => by simp [inUps]
  | (i, y) :: r, b => by
    rw [inUps, List.map_cons, List.mem_cons, ← inUps_iff]
    cases hi : Nat.beq i b with
    | true => have := Nat.eq_of_beq_eq_true hi; subst this; simp
    | false => have := beqF' hi; simp; intro e; exact absurd e.symm this

theorem mut_ren' {β : Beta} {h : Heap} {ρ : Nat → Nat} {ids : List Nat} (hn : (ids.map ρ).Nodup) {k : Nat} (hm : Mut (betaR ρ ids β) (sub (hget h) ρ ids) k) :
    ∃ b x o, b ∈ ids ∧ hget h b = some x ∧ x.dead = false ∧ x.sealed = false ∧ β b = some (k, o) := by
  obtain ⟨c, y, o, hy, hd, hs, hβ⟩ := hm
  obtain ⟨b, x, hb, rfl, hx, rfl⟩ := sub_get hn c y hy
  rw [betaR_of hn hb] at hβ
  exact ⟨b, x, o, hb, hx, hd, hs, hβ⟩

/-- What a call leaves, put into the caller's heap. D: the ids that the call could reach, under the caller's names; h1, β1: what became of them. -/
theorem Step.merge {J J0 J1 : Bool → Nat → Prop} {β β1 : Beta} {h h1 H : Heap} {w w' : World} {D ids : List Nat} (S : SimH J β h w) (S1 : SimH J0 β1 h1 w')
    (hH : ∀ b, b ∉ D → hget H b = hget h b)
    (hD : ∀ b x, b ∈ D → hget H b = some x → x.dead = false → hget h1 b = some x)
    (hD1 : ∀ b x, hget h1 b = some x → b ∈ D ∧ hget H b = some x)
    (hnew : ∀ b x, b ∈ D → b ∉ ids → hget h b ≠ some x)
    (hold : ∀ b x, b ∈ ids → hget h b = some x → ∃ x', hget H b = some x' ∧ (x'.dead = true ∨ (x.dead = false ∧ β1 b = β b ∧ x'.sz = x.sz ∧ x'.cells.length = x.cells.length)))
    (hids : ∀ b ∈ ids, b ∈ D)
    (os : w'.os = w.os) (tape : w'.tape = w.tape) (output : w'.output = w.output) (size : w.heap.size ≤ w'.heap.size)
    (frame : ∀ k, k < w.heap.size → (¬ ∃ b x o, b ∈ ids ∧ hget h b = some x ∧ x.dead = false ∧ x.sealed = false ∧ β b = some (k, o)) → w'.heap[k]? = w.heap[k]?)
    (wr : ∀ k, Mut β1 h1 k → k < w.heap.size → ∃ b x o, b ∈ ids ∧ hget h b = some x ∧ x.dead = false ∧ x.sealed = false ∧ β b = some (k, o))
    (jup : ∀ o k, J0 o k → J o k ∨ (∃ b x o, b ∈ ids ∧ hget h b = some x ∧ x.dead = false ∧ x.sealed = false ∧ β b = some (k, o)) ∨ w.heap.size ≤ k)
    (sizes : ∀ k, blkSize w k ≤ blkSize w' k) :
    Step J β h w (fun o k => J o k ∨ J0 o k) (fun b => if b ∈ D then β1 b else β b) H w' ∧ Ext J0 β1 h1 w' (fun o k => J o k ∨ J0 o k) (fun b => if b ∈ D then β1 b else β b) H w' := by
  have E0 : Ext J0 β1 h1 w' (fun o k => J o k ∨ J0 o k) (fun b => if b ∈ D then β1 b else β b) H w' := by
    refine ⟨fun _ _ hj => .inr hj, fun _ _ _ => rfl, fun b x hb => ?_, fun _ _ _ _ => Nat.le_refl _⟩
    obtain ⟨h2, h3⟩ := hD1 b x hb
    refine ⟨x, h3, ?_⟩
    cases hd : x.dead
    · exact .inr ⟨rfl, by simp [h2], rfl, rfl⟩
    · exact .inl rfl
  have keepJ : ∀ o k, J o k → w'.heap[k]? = w.heap[k]? := by
    intro o k hj
    refine frame k (S.jlt o k hj) ?_
    rintro ⟨b, x, o', _, hb, hd, hs, hβ⟩
    rcases S.blk b x hb hd with ⟨h2, _⟩ | ⟨k', o2, cs, ty, fr, h2, h3, h4, h5, h6, h7, h8⟩
    · rw [hβ] at h2; cases h2
    · rw [hβ] at h2; simp at h2; obtain ⟨rfl, rfl⟩ := h2
      exact h7 hs o hj
  have E : Ext J β h w (fun o k => J o k ∨ J0 o k) (fun b => if b ∈ D then β1 b else β b) H w' := by
    refine ⟨fun _ _ hj => .inl hj, keepJ, fun b x hb => ?_, fun b k o _ => sizes k⟩
    by_cases hi : b ∈ ids
    · obtain ⟨x', h2, h3⟩ := hold b x hi hb
      refine ⟨x', h2, ?_⟩
      simp only [hids b hi, if_true]
      exact h3
    · have hnd : b ∉ D := fun hd => hnew b x hd hi hb
      refine ⟨x, by rw [hH b hnd]; exact hb, ?_⟩
      cases hd : x.dead
      · exact .inr ⟨rfl, by simp [hnd], rfl, rfl⟩
      · exact .inl rfl
  have out : ∀ {b x}, b ∉ D → hget H b = some x → hget h b = some x := fun hb hx => by rw [← hH _ hb]; exact hx
  refine ⟨⟨E, ⟨?_, ?_, fun b x hx hd => ?_, ?_⟩, os, tape, output, size, ?_, ?_, ?_⟩, E0⟩
  · rintro o k (hj | hj)
    · exact Nat.lt_of_lt_of_le (S.jlt o k hj) size
    · exact S1.jlt o k hj
  · rintro k (hj | hj)
    · exact .inl (S.jft k hj)
    · exact .inr (S1.jft k hj)
  · by_cases hb : b ∈ D
    · have h2 := hD b x hb hx hd
      rcases S1.blk b x h2 hd with ⟨h3, h4⟩ | ⟨k, o, cs, ty, fr, h3, h4, h5, h6, h7, h8, h9⟩
      · exact .inl ⟨by simp [hb, h3], h4⟩
      · refine .inr ⟨k, o, cs, ty, fr, by simp [hb, h3], h4, h5, h6, h7.ext E0, fun hs g hj => ?_, fun hs => .inr (h9 hs)⟩
        rcases hj with hj | hj
        · by_cases hk : k < w.heap.size
          · obtain ⟨b', x', o', hb', hx', hd', hs', hβ'⟩ := wr k ⟨b, x, o, h2, hd, hs, h3⟩ hk
            rcases S.blk b' x' hx' hd' with ⟨g1, _⟩ | ⟨k', o2, cs2, ty2, fr2, g1, g2, g3, g4, g5, g6, g7⟩
            · rw [hβ'] at g1; cases g1
            · rw [hβ'] at g1; simp at g1; obtain ⟨rfl, rfl⟩ := g1
              exact g6 hs' g hj
          · exact hk (S.jlt g k hj)
        · exact h8 hs g hj
    · have h2 := out hb hx
      rcases S.blk b x h2 hd with ⟨h3, h4⟩ | ⟨k, o, cs, ty, fr, h3, h4, h5, h6, h7, h8, h9⟩
      · exact .inl ⟨by simp [hb, h3], h4⟩
      · have hk := heap_lt h4
        have hnm : x.sealed = false → ¬ ∃ b x o, b ∈ ids ∧ hget h b = some x ∧ x.dead = false ∧ x.sealed = false ∧ β b = some (k, o) := by
          rintro hs ⟨b', x', o', hb', hx', hd', hs', hβ'⟩
          have := S.sep b b' x x' k o o' h2 hx' hd hd' hs h3 hβ'
          subst this
          exact hb (hids b hb')
        have same : w'.heap[k]? = w.heap[k]? := by
          cases hs : x.sealed with
          | false => exact frame k hk (hnm hs)
          | true => exact keepJ _ k (h9 hs)
        refine .inr ⟨k, o, cs, ty, fr, by simp [hb, h3], by rw [same]; exact h4, h5, h6, h7.ext E, fun hs g hj => ?_, fun hs => .inl (h9 hs)⟩
        rcases hj with hj | hj
        · exact h8 hs g hj
        · rcases jup g k hj with hj | hj | hj
          · exact h8 hs g hj
          · exact hnm hs hj
          · omega
  · intro b b' x x' k o o' hx hx' hd hd' hs hβ hβ'
    by_cases hb : b ∈ D <;> by_cases hb' : b' ∈ D
    · simp [hb] at hβ; simp [hb'] at hβ'
      exact S1.sep b b' x x' k o o' (hD b x hb hx hd) (hD b' x' hb' hx' hd') hd hd' hs hβ hβ'
    · exfalso
      simp [hb] at hβ; simp [hb'] at hβ'
      have h2 := out hb' hx'
      have hk := loc_lt S h2 hd' hβ'
      obtain ⟨b2, x2, o2, hb2, hx2, hd2, hs2, hβ2⟩ := wr k ⟨b, x, o, hD b x hb hx hd, hd, hs, hβ⟩ hk
      have := S.sep b2 b' x2 x' k o2 o' hx2 h2 hd2 hd' hs2 hβ2 hβ'
      subst this
      exact hb' (hids _ hb2)
    · exfalso
      simp [hb] at hβ; simp [hb'] at hβ'
      have h2 := out hb hx
      have h3 := hD b' x' hb' hx' hd'
      have hk := loc_lt S h2 hd hβ
      have hnm : ¬ ∃ b x o, b ∈ ids ∧ hget h b = some x ∧ x.dead = false ∧ x.sealed = false ∧ β b = some (k, o) := by
        rintro ⟨b2, x2, o2, hb2, hx2, hd2, hs2, hβ2⟩
        have := S.sep b b2 x x2 k o o2 h2 hx2 hd hd2 hs hβ hβ2
        subst this
        exact hb (hids _ hb2)
      cases hs' : x'.sealed with
      | false => exact hnm (wr k ⟨b', x', o', h3, hd', hs', hβ'⟩ hk)
      | true =>
        rcases S1.blk b' x' h3 hd' with ⟨g1, _⟩ | ⟨k', o2, cs2, ty2, fr2, g1, g2, g3, g4, g5, g6, g7⟩
        · rw [hβ'] at g1; cases g1
        · rw [hβ'] at g1; simp at g1; obtain ⟨rfl, rfl⟩ := g1
          rcases jup _ k (g7 hs') with hj | hj | hj
          · rcases S.blk b x h2 hd with ⟨e1, _⟩ | ⟨k2, o2, cs2, ty2, fr2, e1, e2, e3, e4, e5, e6, e7⟩
            · rw [hβ] at e1; cases e1
            · rw [hβ] at e1; simp at e1; obtain ⟨rfl, rfl⟩ := e1
              exact e6 hs _ hj
          · exact hnm hj
          · omega
    · simp [hb] at hβ; simp [hb'] at hβ'
      exact S.sep b b' x x' k o o' (out hb hx) (out hb' hx') hd hd' hs hβ hβ'
  · intro k hk hm
    exact frame k hk (fun ⟨b, x, o, _, hx, hd, hs, hβ⟩ => hm ⟨b, x, o, hx, hd, hs, hβ⟩)
  · rintro k ⟨b, x, o, hx, hd, hs, hβ⟩ hk
    by_cases hb : b ∈ D
    · simp [hb] at hβ
      obtain ⟨b2, x2, o2, _, hx2, hd2, hs2, hβ2⟩ := wr k ⟨b, x, o, hD b x hb hx hd, hd, hs, hβ⟩ hk
      exact ⟨b2, x2, o2, hx2, hd2, hs2, hβ2⟩
    · simp [hb] at hβ
      exact ⟨b, x, o, out hb hx, hd, hs, hβ⟩
  · rintro o k (hj | hj)
    · exact .inl hj
    · rcases jup o k hj with hj | ⟨b, x, o2, _, hx, hd, hs, hβ⟩ | hj
      · exact .inl hj
      · exact .inr (.inl ⟨b, x, o2, hx, hd, hs, hβ⟩)
      · exact .inr (.inr hj)
end Gx
