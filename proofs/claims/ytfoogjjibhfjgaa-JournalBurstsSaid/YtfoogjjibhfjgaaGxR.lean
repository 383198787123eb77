/- A part of the proof: what it holds is said at each theorem. -/
import Derived.Test.YtfoogjjibhfjgaaGxQ
set_option linter.unusedVariables false
namespace Gx
open Go

theorem dedup_mem : ∀ {l acc : List Nat} {b : Nat}, b ∈ dedup l acc ↔ b ∈ l ∨ b ∈ acc
  | [], acc, b => by simp [dedup]
  | i :: r, acc, b => by
    rw [dedup]
    cases hm : memN acc i with
    | true =>
      simp only [cond_true]
      rw [dedup_mem]
      have := memN_iff.1 hm
      constructor
      · rintro (h | h)
        · exact .inl (by simp [h])
        · exact .inr h
      · rintro (h | h)
        · rcases List.mem_cons.1 h with e | h
          · subst e; exact .inr this
          · exact .inl h
        · exact .inr h
    | false =>
      simp only [cond_false]
      rw [dedup_mem]
      simp only [List.mem_cons]
      constructor
      · rintro (h | h | h)
        · exact .inl (.inr h)
        · exact .inl (.inl h)
        · exact .inr h
      · rintro ((h | h) | h)
        · exact .inr (.inl h)
        · exact .inl h
        · exact .inr (.inr h)

theorem inner_congr {g g' : Look} : ∀ {l : List Nat}, (∀ b ∈ l, g' b = g b) → inner g' l = inner g l
  | [], _ => rfl
  | i :: r, h => by
    rw [inner, inner, h i (by simp), inner_congr (fun b hb => h b (by simp [hb]))]
theorem inner_append {g : Look} : ∀ {a b : List Nat}, inner g (a ++ b) = inner g a ++ inner g b
  | [], b => rfl
  | i :: r, b => by rw [List.cons_append, inner, inner, inner_append, List.append_assoc]

theorem reach_congr {g g' : Look} {ids : List Nat} (h : ∀ b ∈ reach g ids, g' b = g b) : reach g' ids = reach g ids := by
  have h1 : ∀ b ∈ ids, g' b = g b := fun b hb => h b (dedup_mem.2 (.inl (List.mem_append.2 (.inl hb))))
  have e1 : inner g' ids = inner g ids := inner_congr h1
  have h2 : ∀ b ∈ inner g ids, g' b = g b := fun b hb => h b (dedup_mem.2 (.inl (List.mem_append.2 (.inr (by rw [inner_append]; exact List.mem_append.2 (.inl hb))))))
  unfold reach
  rw [e1, inner_congr (l := ids ++ inner g ids) (fun b hb => by
    rcases List.mem_append.1 hb with hb | hb
    · exact h1 b hb
    · exact h2 b hb)]

section
variable {R : Type} {E : Env} {ops : Array Oper} {o p : Oper} {st st1 st2 : St}

theorem parts_congr {v v' : Operand → AV} {parts : Array (Nat × Operand)} (h : ∀ q ∈ parts.toList, v' q.2 = v q.2) : (parts.toList.map fun q => (q.1, v' q.2)) = (parts.toList.map fun q => (q.1, v q.2)) :=
  List.map_congr_left (fun q hq => by rw [h q hq])

theorem aval_congr {g : Look} {d : Nat} {v v' : Operand → AV} {op : Op} {k : AV → Ups → Option R} (h : ∀ x ∈ op.operands.toList, v' x = v x) : aval E g d v' op k = aval E g d v op k := by
  unfold aval
  cases op
  case build t parts =>
    simp only
    rw [parts_congr (v := v) (v' := v') (fun q hq => h q.2 (by simp [Op.operands]; exact ⟨q.1, by simpa using hq⟩))]
  case buildSlice t n parts =>
    simp only
    rw [parts_congr (v := v) (v' := v') (fun q hq => h q.2 (by simp [Op.operands]; exact ⟨q.1, by simpa using hq⟩))]
  case slice t x lo hi mx =>
    simp only
    have h1 : v' x = v x := h x (by simp [Op.operands])
    have h2 : lo.map v' = lo.map v := by
      cases lo with
      | none => rfl
      | some y => simp; exact h y (by simp [Op.operands])
    have h3 : hi.map v' = hi.map v := by
      cases hi with
      | none => rfl
      | some y => simp; exact h y (by simp [Op.operands])
    have h4 : mx.map v' = mx.map v := by
      cases mx with
      | none => rfl
      | some y => simp; exact h y (by simp [Op.operands])
    rw [h1, h2, h3, h4]
  case makeFunc f first caps =>
    cases f <;> try rfl
    rcases first with ⟨_ | _⟩
    · simp only
      have : caps.toList.map v' = caps.toList.map v := List.map_congr_left (fun x hx => h x (by simp [Op.operands]; exact by simpa using hx))
      rw [this]
    · rfl
  case call c =>
    have ha : ∀ x ∈ c.args.toList, v' x = v x := fun x hx => h x (by
      simp only [Op.operands, Call.operands, Array.toList_append]
      exact List.mem_append.2 (.inr hx))
    have hm : c.args.toList.map v' = c.args.toList.map v := List.map_congr_left ha
    simp only
    cases hc : c.callee with
    | value f =>
      have hf : v' f = v f := h f (by simp [Op.operands, Call.operands, hc])
      simp only [hf, hm]
    | invoke a b => rfl
    | builtin b =>
      cases b <;> try rfl
      all_goals
        simp only
        split
        · rename_i h1 h2
          simp only [h1, List.mem_cons, List.not_mem_nil, or_false, forall_eq_or_imp, forall_eq] at ha
          simp only [ha]
        · rfl
  all_goals first
    | rfl
    | (simp [Op.operands] at h; simp [h])
end
end Gx
