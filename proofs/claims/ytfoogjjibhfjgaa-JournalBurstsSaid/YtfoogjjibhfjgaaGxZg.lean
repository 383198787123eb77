/- A part of the proof: what it holds is said at each theorem. -/
import Derived.Test.YtfoogjjibhfjgaaGxZe
import Derived.Test.YtfoogjjibhfjgaaGxZf
set_option linter.unusedVariables false
namespace Gx
open Go Go.RowKit
section
variable {P : Program} {W : World} {H : Type} {enc : TypeId × Value → H} {β : Beta} {h : Heap}

theorem open_sl {t el : TypeId} {α : Type} {e : α → List AV} {n : Nat} {a : Option Addr} {len cap : Nat} {d : DataW H} {p : List MemPlace} (hu : P.underlying t = some (.slice el)) (hc : P.cellsOf t = 1) (he : Opens P el e n)
    (hd : DataW.Trod enc P W 0 (fun _ => true) true t (.slice a len cap) d p) : ∃ l : List α, l.length ≤ maxLen ∧ Rep (fun _ k => k < W.heap.size) β h W (.imm (l.flatMap e) l.length n false false) (.slice a len cap) := by
  obtain ⟨fuel, hf⟩ := hd
  obtain ⟨_, ⟨l, hl⟩, hr⟩ := (opens_slice hu hc he).read enc W fuel _ _ _ hf
  refine ⟨l, hl, ?_⟩
  simp only [RepCs, Value.cells, and_true] at hr
  obtain ⟨u, hu, hr⟩ := hr
  simp at hu; subst hu
  rw [Rep]; exact hr
theorem flat_bytes : ∀ l : List UInt8, l.flatMap (fun b => [AV.int .u8 (b.toNat : Int)]) = bytesAV l
  | [] => rfl
  | b :: r => by rw [List.flatMap_cons, flat_bytes r]; rfl
theorem rep_int {k : IntKind} {n : Int} : Rep (fun _ k => k < W.heap.size) β h W (.int k n) (.int k n) := by rw [Rep]
theorem rep_bool {b : Bool} : Rep (fun _ k => k < W.heap.size) β h W (.bool b) (.bool b) := by rw [Rep]
theorem reps_nil : Reps (fun _ k => k < W.heap.size) β h W [] [] := by rw [Reps]
theorem reps_cons {x : AV} {xs : List AV} {v : Value} {vs : List Value} (h1 : Rep (fun _ k => k < W.heap.size) β h W x v) (h2 : Reps (fun _ k => k < W.heap.size) β h W xs vs) : Reps (fun _ k => k < W.heap.size) β h W (x :: xs) (v :: vs) := by
  rw [Reps]; exact ⟨v, vs, rfl, h1, h2⟩
end
end Gx
