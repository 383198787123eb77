/- A part of the proof: what it holds is said at each theorem. -/
import Derived.Test.YtfoogjjibhfjgaaGxZd
import Derived.ProofKit
import Derived.OpenShut
import Derived.ChangeOld
import Derived.Below
set_option linter.unusedVariables false
namespace Gx
open Go Go.RowKit

/- A law's call. -/
theorem law_calls {P : Program} {f : Nat} {t : Tw} (hok : TwOk P f t) {W : World} {avs : List AV} {vs : List Value} (hr : Reps (fun _ k => k < W.heap.size) (fun _ => none) [] W avs vs)
    (hrun : (t.runK avs [] fun v h => some (v, h)) = some (.bool true, [])) : Calls P f vs.toArray W fun e w' => e = .returned (.bool true) ∧ Below W.heap.size W w' := by
  have S : SimH (fun _ k => k < W.heap.size) (fun _ => none) [] W := ⟨fun _ _ h => h, fun _ h => h, fun b x hb => by simp [hget] at hb, fun b b' x x' k o o' hb => by simp [hget] at hb⟩
  refine Calls.mono (hok avs [] _ _ hrun _ _ W vs S hr) ?_
  rintro e w' ⟨vc, J', β', rfl, F, hv⟩
  rw [Rep] at hv; subst hv
  refine ⟨rfl, F.os, F.tape, F.output, F.size, fun k hk => F.frame k hk ?_⟩
  rintro ⟨b, x, o, hb, _⟩
  change hget [] b = some x at hb
  simp [hget] at hb

/-- Data of type t read as cells. -/
structure Opens (P : Program) (t : TypeId) {α : Type} (e : α → List AV) (n : Nat) : Prop where
  size : P.cellsOf t = n
  pos : 0 < n
  len : ∀ a, (e a).length = n
  read : ∀ {H : Type} (enc : TypeId × Value → H) (W : World) (fuel : Nat) (cs : List Value) (d : DataW H) (ps : List MemPlace), DataW.trod enc P W 0 (fun _ => true) true fuel t cs = some (d, ps) →
    cs.length = n ∧ ∃ a, RepCs (fun k => k < W.heap.size) W (e a) (fun j => cs[j]?) 0

theorem opens_int {P : Program} {t : TypeId} {k : IntKind} (hu : P.underlying t = some (.int k)) (hc : P.cellsOf t = 1) : Opens P t (α := { n : Int // (Lit.int k n).wf = true }) (fun n => [.int k n.1]) 1 := by
  refine ⟨hc, by omega, fun _ => rfl, fun enc W fuel cs d ps h => ?_⟩
  obtain ⟨n, rfl, _, hw⟩ := DataW.trod_int hu h
  exact ⟨rfl, ⟨n, hw⟩, by simp [RepCs, RepC]⟩
theorem opens_bool {P : Program} {t : TypeId} (hu : P.underlying t = some .bool) (hc : P.cellsOf t = 1) : Opens P t (α := Bool) (fun b => [.bool b]) 1 := by
  refine ⟨hc, by omega, fun _ => rfl, fun enc W fuel cs d ps h => ?_⟩
  obtain ⟨b, rfl, _⟩ := DataW.trod_bool hu h
  exact ⟨rfl, b, by simp [RepCs, RepC]⟩
theorem opens_u8 {P : Program} {t : TypeId} (hu : P.underlying t = some (.int .u8)) (hc : P.cellsOf t = 1) : Opens P t (α := UInt8) (fun b => [.int .u8 (b.toNat : Int)]) 1 := by
  refine ⟨hc, by omega, fun _ => rfl, fun enc W fuel cs d ps h => ?_⟩
  obtain ⟨n, rfl, _, hw⟩ := DataW.trod_int hu h
  have h1 : 0 ≤ n ∧ n ≤ 255 := by simpa [Lit.wf, IntKind.min, IntKind.max, IntKind.signed, IntKind.bits] using hw
  refine ⟨rfl, UInt8.ofNat n.toNat, ?_⟩
  have : ((UInt8.ofNat n.toNat).toNat : Int) = n := by
    rw [UInt8.toNat_ofNat']; omega
  simp [RepCs, RepC]
  omega

theorem flatMap_get {α β : Type} {e : α → List β} {n : Nat} (hn : 0 < n) (he : ∀ a, (e a).length = n) : ∀ (l : List α) (j : Nat), (l.flatMap e)[j]? = (l[j / n]?).bind fun a => (e a)[j % n]?
  | [], j => by simp
  | a :: r, j => by
    rw [List.flatMap_cons]
    by_cases hj : j < n
    · rw [List.getElem?_append_left (by rw [he]; exact hj), Nat.div_eq_of_lt hj, Nat.mod_eq_of_lt hj]; simp
    · rw [List.getElem?_append_right (by rw [he]; omega), he, flatMap_get hn he r (j - n)]
      have h1 : j / n = (j - n) / n + 1 := by
        have := Nat.add_div_right (j - n) hn
        rw [show j - n + n = j by omega] at this; exact this
      have h2 : j % n = (j - n) % n := by
        have := Nat.add_mod_right (j - n) n
        rw [show j - n + n = j by omega] at this; exact this
      rw [h1, h2]; simp
theorem flatMap_len {α β : Type} {e : α → List β} {n : Nat} (he : ∀ a, (e a).length = n) : ∀ (l : List α), (l.flatMap e).length = l.length * n
  | [] => by simp
  | a :: r => by rw [List.flatMap_cons, List.length_append, he, flatMap_len he r, List.length_cons, Nat.succ_mul]; omega

theorem mapM_get {α β : Type} {f : α → Option β} : ∀ {l : List α} {r : List β}, l.mapM f = some r → r.length = l.length ∧ ∀ (i : Nat) (a : α), l[i]? = some a → f a = r[i]?
  | [], r, h => by simp at h; subst h; simp
  | x :: l, r, h => by
    rw [List.mapM_cons] at h
    cases hx : f x with
    | none => simp [hx] at h
    | some y =>
      cases hl : l.mapM f with
      | none => simp [hx, hl] at h
      | some ys =>
        simp [hx, hl] at h
        subst h
        obtain ⟨h1, h2⟩ := mapM_get hl
        refine ⟨by simp [h1], fun i a hi => ?_⟩
        cases i with
        | zero => simp at hi; subst hi; simpa using hx
        | succ i => simpa using h2 i a (by simpa using hi)

theorem opens_slice {P : Program} {t el : TypeId} {α : Type} {e : α → List AV} {n : Nat} (hu : P.underlying t = some (.slice el)) (hc : P.cellsOf t = 1) (he : Opens P el e n) :
    Opens P t (α := { l : List α // l.length ≤ maxLen }) (fun l => [.imm (l.1.flatMap e) l.1.length n false false]) 1 := by
  refine ⟨hc, by omega, fun _ => rfl, fun enc W fuel cs d ps h => ?_⟩
  cases fuel with
  | zero => simp [DataW.trod] at h
  | succ fuel =>
    unfold DataW.trod at h
    simp only [hu] at h
    split at h
    all_goals first | (rename_i hx; simp at hx; done) | (rename_i hx _; simp at hx; done) | (rename_i hx _ _; simp at hx; done) | skip
    · refine ⟨rfl, ⟨[], by simp⟩, ?_⟩
      simp [RepCs, RepC]
    · rename_i e' a len cap hx
      simp at hx; subst hx
      split at h
      · rename_i hcond
        obtain ⟨hb, hlc, hcm⟩ := hcond
        refine ⟨rfl, ?_⟩
        cases hm : (List.range len).mapM (fun i => (W.cells? 0 (a.add (i * P.cellsOf el)) (P.cellsOf el)).bind (DataW.trod enc P W 0 (fun _ => true) true fuel el)) with
        | none => rw [hm] at h; simp at h
        | some elems =>
          obtain ⟨h1, h2⟩ := mapM_get hm
          rw [he.size] at h2
          have each : ∀ i : Nat, i < len → ∃ x : α, ∃ cs, W.cells? 0 (a.add (i * n)) n = some cs ∧ RepCs (fun k => k < W.heap.size) W (e x) (fun j => cs[j]?) 0 := by
            intro i hi
            have h3 := h2 i i (by simp [hi])
            rw [List.getElem?_eq_getElem (by rw [h1]; simpa using hi)] at h3
            cases hcs : W.cells? 0 (a.add (i * n)) n with
            | none => rw [hcs] at h3; simp at h3
            | some cs =>
              rw [hcs] at h3
              obtain ⟨_, x, hx⟩ := he.read enc W fuel cs _ _ h3
              exact ⟨x, cs, rfl, hx⟩
          have build : ∀ m, m ≤ len → ∃ l : List α, l.length = m ∧ ∀ i x, l[i]? = some x → ∃ cs, W.cells? 0 (a.add (i * n)) n = some cs ∧ RepCs (fun k => k < W.heap.size) W (e x) (fun j => cs[j]?) 0 := by
            intro m
            induction m with
            | zero => intro _; exact ⟨[], rfl, by simp⟩
            | succ m ih =>
              intro hm
              obtain ⟨l, hl, hl2⟩ := ih (by omega)
              obtain ⟨x, cs, hx1, hx2⟩ := each m (by omega)
              refine ⟨l ++ [x], by simp [hl], fun i y hy => ?_⟩
              rw [List.getElem?_append] at hy
              split at hy
              · exact hl2 i y hy
              · have : i = m := by
                  have := (List.getElem?_eq_some_iff.1 hy).1
                  simp at this; omega
                subst this
                simp [hl] at hy; subst hy
                exact ⟨cs, hx1, hx2⟩
          obtain ⟨l, hl, hl2⟩ := build len (Nat.le_refl _)
          refine ⟨⟨l, by omega⟩, ?_⟩
          simp only [RepCs, RepC, and_true]
          refine ⟨_, rfl, ?_, some a, cap, by rw [hl], by omega, by simp, ?_⟩
          · exact flatMap_len he.len l
          · by_cases h0 : l.length = 0
            · exact .inl h0
            · right
              refine ⟨a, rfl, ?_, ?_⟩
              · obtain ⟨x, cs, hx, _⟩ := each 0 (by omega)
                have := World.cells?_block hx he.pos
                rwa [block_add] at this
              · rw [RepCs_iff]
                intro j x hj
                rw [flatMap_get he.pos he.len] at hj
                cases hq : l[j / n]? with
                | none => rw [hq] at hj; simp at hj
                | some y =>
                  rw [hq] at hj
                  simp at hj
                  obtain ⟨cs, hcs, hrep⟩ := hl2 (j / n) y hq
                  rw [RepCs_iff] at hrep
                  obtain ⟨u, hu1, hu2⟩ := hrep (j % n) x hj
                  refine ⟨u, ?_, hu2⟩
                  obtain ⟨_, hlen, hcell⟩ := World.cells?_some hcs
                  have hlt : j % n < n := Nat.mod_lt _ he.pos
                  have := hcell (j % n) hlt
                  rw [Addr.add_add, show j / n * n + j % n = j by rw [Nat.mul_comm]; exact Nat.div_add_mod j n] at this
                  simp only [Nat.zero_add] at hu1 ⊢
                  rw [this]; exact hu1
      · simp at h
    · simp at h
end Gx
