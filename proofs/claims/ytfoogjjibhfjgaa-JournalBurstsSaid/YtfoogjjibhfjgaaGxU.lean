/- A part of the proof: what it holds is said at each theorem. -/
import Derived.Test.YtfoogjjibhfjgaaGxT
set_option linter.unusedVariables false
namespace Gx
open Go
section
variable {R : Type} {r : R} {Z : Start} {E : Env}

theorem aregion_sound (hC : CallOk E) (hm : E.P.follows .mixedOrders = true) {K roots : List Nat} {id : Nat} {ops : Array Oper} {draw : Bool} {st : St} {k : St → Option R} {a : Act} {w : World} {J : Bool → Nat → Prop} {β : Beta} {Q : Exit → Act → World → Prop}
    (I : Inv Z E.nt J β st a w) (hh : aregion E K roots ops draw st k = some r) (hQ : ∀ st' a' w' J' β', Inv Z E.nt J' β' st' a' w' → k st' = some r → Q .normal a' w') : (Code.region id ops draw).wp E.P Q a w := by
  unfold aregion at hh
  have done : ∀ {st' : St} {tr : List Foot} {a' : Act} {w' : World} {J' : Bool → Nat → Prop} {β' : Beta}, Inv Z E.nt J' β' st' a' w' →
      cond (!draw || (forwardOk 0 ops.toList && orderOk tr.reverse (ancestors ops.toList []) [])) ((clean K roots st').bind k) none = some r → Q .normal a' w' := by
    intro st' tr a' w' J' β' I' h'
    obtain ⟨_, h1⟩ := uc h'
    obtain ⟨st2, h2, h3⟩ := ub h1
    obtain ⟨β2, I2⟩ := clean_sound I' h2
    exact hQ _ _ _ _ _ I2 h3
  cases draw with
  | false => exact wp_region_list (aops_sound hC _ I hh (fun st' tr' a' w' J' β' I' h' => done I' h'))
  | true =>
    obtain ⟨fs, e, h1, h2⟩ := aops_run hh
    obtain ⟨hc, h3⟩ := uc h1
    simp at hc
    obtain ⟨hfw, hord⟩ := hc
    have hlen := h2.length
    refine wp_region_any hm ?_
    have I' : Inv Z E.nt J β st a w.drew := I.step (Step.drew I.sim) (fun b x hx hn => by rw [hx] at hn; cases hn)
    have hrest : rest ops (Array.replicate ops.size false) = idx 0 ops.toList := by
      unfold rest
      refine List.filter_eq_self.2 (fun p hp => ?_)
      have := (idx_mem.1 hp).2
      have hlt : p.1 < ops.size := by
        simp at this
        exact (Array.getElem?_eq_some_iff.1 this).1
      simp [hlt]
    have hidx : (idx 0 ops.toList).length = ops.size := by
      have : ∀ (l : List Oper) (n : Nat), (idx n l).length = l.length := by
        intro l
        induction l with
        | nil => intro n; rfl
        | cons o r ih => intro n; simp [idx, ih]
      rw [this]; simp
    have hrun : RunF E ops (fun i => fs.getD i { r := [], w := none, f := [], u := [] }) (idx 0 ops.toList) st e := h2.runF (fun j f hj => by simp [hj])
    refine any_sound hC (fp := fun i => fs.getD i { r := [], w := none, f := [], u := [] }) (e := e) hfw (fun i j o ho hji => ?_) (fun a' w' J' β' Ie => done (tr := fs.reverse ++ []) Ie h1) ops.size _ (by simp) (by rw [hrest, hidx]) (fun j o ho hj => ?_) (by rw [hrest]; exact hrun) I'
    · have hi : i < fs.length := by rw [hlen]; simpa using (Array.getElem?_eq_some_iff.1 ho).1
      obtain ⟨an, g1, g2⟩ := orderOk_at hord i fs[i] (List.getElem?_eq_getElem hi)
      refine ⟨an, g1, ?_⟩
      have hj : j < fs.length := by omega
      have := g2 j fs[j] (by simp [hj]) (by simpa using hji)
      simpa [hi, hj] using this
    · exfalso
      have hlt : j < ops.size := (Array.getElem?_eq_some_iff.1 ho).1
      simp [hlt] at hj

end
end Gx
