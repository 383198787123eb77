/- A part of the proof: what it holds is said at each theorem. -/
import Derived.Test.YtfoogjjibhfjgaaGxZg
set_option linter.unusedVariables false
namespace Gx
open Go Go.RowKit
theorem opens_array {P : Program} {t el : TypeId} {α : Type} {e : α → List AV} {n m : Nat} (hu : P.underlying t = some (.array m el)) (hc : P.cellsOf t = m * n) (hm : 0 < m) (he : Opens P el e n) :
    Opens P t (α := { l : List α // l.length = m }) (fun l => l.1.flatMap e) (m * n) := by
  refine ⟨hc, Nat.mul_pos hm he.pos, fun l => by rw [flatMap_len he.len, l.2], fun enc W fuel cs d ps h => ?_⟩
  obtain ⟨xs, g, rfl, _, hl, hxs, hget⟩ := DataW.trod_array hu h
  rw [hc] at hl
  refine ⟨hl, ?_⟩
  rw [he.size] at hget
  have each : ∀ i : Nat, i < m → ∃ x : α, RepCs (fun k => k < W.heap.size) W (e x) (fun j => ((cs.drop (i * n)).take n)[j]?) 0 := by
    intro i hi
    have h3 := hget i hi
    rw [List.getElem?_eq_getElem (by omega)] at h3
    obtain ⟨_, x, hx⟩ := he.read enc W g _ _ _ h3
    exact ⟨x, hx⟩
  have build : ∀ q, q ≤ m → ∃ l : List α, l.length = q ∧ ∀ i x, l[i]? = some x → RepCs (fun k => k < W.heap.size) W (e x) (fun j => ((cs.drop (i * n)).take n)[j]?) 0 := by
    intro q
    induction q with
    | zero => intro _; exact ⟨[], rfl, by simp⟩
    | succ q ih =>
      intro hq
      obtain ⟨l, hl, hl2⟩ := ih (by omega)
      obtain ⟨x, hx⟩ := each q (by omega)
      refine ⟨l ++ [x], by simp [hl], fun i y hy => ?_⟩
      rw [List.getElem?_append] at hy
      split at hy
      · exact hl2 i y hy
      · have : i = q := by
          have := (List.getElem?_eq_some_iff.1 hy).1
          simp at this; omega
        subst this
        simp [hl] at hy; subst hy
        exact hx
  obtain ⟨l, hl3, hl2⟩ := build m (Nat.le_refl _)
  refine ⟨⟨l, hl3⟩, ?_⟩
  rw [RepCs_iff]
  intro j x hj
  rw [flatMap_get he.pos he.len] at hj
  cases hq : l[j / n]? with
  | none => rw [hq] at hj; simp at hj
  | some y =>
    rw [hq] at hj
    have h1 := hl2 _ _ hq
    rw [RepCs_iff] at h1
    have h2 := h1 (j % n) x hj
    have hmod := Nat.mod_lt j he.pos
    have hdm := Nat.div_add_mod j n
    simp only [Nat.zero_add] at h2 ⊢
    rw [List.getElem?_take_of_lt hmod, List.getElem?_drop, Nat.mul_comm, hdm] at h2
    exact h2
section
variable {P : Program} {W : World} {H : Type} {enc : TypeId × Value → H} {β : Beta} {h : Heap}
theorem okWide_array {t el : TypeId} {m b0 : Nat} {r : Reach} {v : Value} (hu : P.underlying t = some (.array m el)) (h : Value.okWide P W r b0 t v) : ∃ cs, v = .agg cs := by
  unfold Value.okWide at h
  rw [hu] at h
  obtain ⟨cs, h, _⟩ := h
  exact ⟨cs, h⟩
theorem open_agg {t : TypeId} {α : Type} {e : α → List AV} {n : Nat} {cs : Array Value} {d : DataW H} {p : List MemPlace} (he : Opens P t e n)
    (hd : DataW.Trod enc P W 0 (fun _ => true) true t (.agg cs) d p) : ∃ a : α, Rep (fun _ k => k < W.heap.size) β h W (.pagg (e a) false) (.agg cs) := by
  obtain ⟨fuel, hf⟩ := hd
  obtain ⟨hl, a, hr⟩ := he.read enc W fuel _ _ _ hf
  refine ⟨a, ?_⟩
  rw [Rep]
  exact ⟨cs.toList, rfl, by rw [he.len]; exact hl, hr⟩
end
end Gx
