/- A part of the proof: what it holds is said at each theorem. -/
import Derived.Test.YtfoogjjibhfjgaaGxR
set_option linter.unusedVariables false
namespace Gx
open Go
section
variable {R : Type} {E : Env} {ops : Array Oper} {o p : Oper} {st st1 st2 st3 : St}

def gslot (ops : Array Oper) (o : Oper) : List Nat := match guardSlot ops o with | some p => [p.1] | none => []
def valsOf (o : Oper) (s : Slots) : List AV := o.op.operands.toList.map (ev s)
def maskOf (h : Heap) (F : List Nat) : Look := fun b => cond (memN F b) (hget h b) none
def dOf (o : Oper) : Nat := o.dst.getD 50000

/-- What an operation does: the value, the changes of the heap, the footprint. -/
def acore (E : Env) (ops : Array Oper) (o : Oper) (st : St) : Option (AV × Ups × Foot) :=
  (awanted ops st.s o).bind fun wanted => cond wanted
    ((aval E (maskOf st.h (footOf st.h (valsOf o st.s))) (dOf o) (ev st.s) o.op pr).bind fun q =>
      cond (upsOk (dOf o) (footOf st.h (valsOf o st.s)) st.h q.2) (some (q.1, q.2, { r := gslot ops o ++ tmpsOf o.op.operands.toList, w := o.dst, f := footOf st.h (valsOf o st.s), u := q.2.map (·.1) })) none)
    (some (.tup [], [], { r := gslot ops o, w := o.dst, f := [], u := [] }))

/-- The state behind it. -/
def after (E : Env) (o : Oper) (st : St) (q : AV × Ups × Foot) : St := { s := putS E.nt st.s o.dst q.1, h := applyUps q.2.1 st.h }

theorem aone_core (k : St → Foot → Option R) : aone E ops o st k = (acore E ops o st).bind fun q => k (after E o st q) q.2.2 := by
  unfold aone acore
  rw [Option.bind_assoc]
  congr 1; funext t
  rw [bind_cond]
  congr 1
  rw [aval_bind, Option.bind_assoc]
  congr 1; funext q
  rw [bind_cond]
  rfl

theorem tmpsOf_mem : ∀ {l : List Operand} {t : Nat}, Operand.tmp t ∈ l → t ∈ tmpsOf l
  | [], t, h => by simp at h
  | x :: r, t, h => by
    rcases List.mem_cons.1 h with e | h'
    · subst e; simp [tmpsOf]
    · have ih := tmpsOf_mem h'
      cases x <;> simp [tmpsOf] <;> first | exact .inr ih | exact ih

theorem upsOk_congr {d : Nat} {F : List Nat} {h h2 : Heap} : ∀ {ups : Ups}, (∀ b ∈ ups.map (·.1), hget h2 b = hget h b) → upsOk d F h2 ups = upsOk d F h ups
  | [], _ => rfl
  | (b, _) :: r, hh => by rw [upsOk, upsOk, hh b (by simp), upsOk_congr (fun c hc => hh c (by simp at hc ⊢; exact .inr hc))]

theorem awanted_congr {s s2 : Slots} (h : ∀ t ∈ gslot ops o, sget s2 t = sget s t) : awanted ops s2 o = awanted ops s o := by
  unfold awanted
  cases hg : o.guard with
  | none => rfl
  | some q =>
    obtain ⟨j, want⟩ := q
    simp only
    cases ht : (ops[j]?).bind (·.dst) with
    | none => rfl
    | some t =>
      have : sget s2 t = sget s t := h t (by simp [gslot, guardSlot, hg, ht])
      simp only [this]

theorem acore_local {q : AV × Ups × Foot} (hc : acore E ops o st = some q) (hr : ∀ t ∈ q.2.2.r, sget st2.s t = sget st.s t) (hf : ∀ b, b ∈ q.2.2.f ∨ b ∈ q.2.2.u → hget st2.h b = hget st.h b) : acore E ops o st2 = some q := by
  have hc0 := hc
  unfold acore at hc
  obtain ⟨t, ht, h1⟩ := ub hc
  cases t with
  | false =>
    simp at h1; subst h1
    unfold acore
    rw [awanted_congr (s := st.s) hr, ht]; rfl
  | true =>
    rw [cond_true] at h1
    obtain ⟨x, hx, h2⟩ := ub h1
    obtain ⟨hu, h3⟩ := uc h2
    simp at h3; subst h3
    simp only at hr hf
    have hv : ∀ y ∈ o.op.operands.toList, ev st2.s y = ev st.s y := fun y hy => by
      cases y with
      | tmp t => exact hr t (List.mem_append.2 (.inr (tmpsOf_mem hy)))
      | const _ => rfl
      | global _ => rfl
      | func _ => rfl
    have hvals : valsOf o st2.s = valsOf o st.s := List.map_congr_left hv
    have hF : footOf st2.h (valsOf o st.s) = footOf st.h (valsOf o st.s) := reach_congr (fun b hb => hf b (.inl hb))
    have hm : maskOf st2.h (footOf st.h (valsOf o st.s)) = maskOf st.h (footOf st.h (valsOf o st.s)) := by
      funext b
      unfold maskOf
      cases hb : memN (footOf st.h (valsOf o st.s)) b with
      | false => rfl
      | true => simp only [cond_true]; exact hf b (.inl (memN_iff.1 hb))
    unfold acore
    rw [awanted_congr (s := st.s) (fun t ht => hr t (List.mem_append.2 (.inl ht))), ht]
    simp only [Option.bind_some, cond_true]
    rw [hvals, hF, hm, aval_congr hv, hx]
    simp only [Option.bind_some]
    rw [upsOk_congr (h := st.h) (fun b hb => hf b (.inr hb)), hu]
    rfl

theorem inUps_map : ∀ {ups : Ups} {b : Nat}, inUps ups b = true ↔ b ∈ ups.map (·.1)
  | [], b => by simp [inUps]
  | (i, _) :: r, b => by
    rw [inUps]
    cases hi : Nat.beq i b with
    | true => have := Nat.eq_of_beq_eq_true hi; subst this; simp
    | false =>
      have ne := beqF' hi
      simp only [cond_false]
      rw [inUps_map]
      simp only [List.map_cons, List.mem_cons]
      constructor
      · exact fun h => .inr h
      · rintro (h | h)
        · exact absurd h.symm ne
        · exact h

theorem acore_w {q : AV × Ups × Foot} (hc : acore E ops o st = some q) : q.2.2.w = o.dst ∧ q.2.2.u = q.2.1.map (·.1) := by
  unfold acore at hc
  obtain ⟨t, ht, h1⟩ := ub hc
  cases t with
  | false => simp at h1; subst h1; simp
  | true =>
    rw [cond_true] at h1
    obtain ⟨x, hx, h2⟩ := ub h1
    obtain ⟨hu, h3⟩ := uc h2
    simp at h3; subst h3; simp

theorem applyUps_congr : ∀ (ups : Ups) {h h2 : Heap}, (∀ b, hget h2 b = hget h b) → ∀ b, hget (applyUps ups h2) b = hget (applyUps ups h) b
  | [], _, _, hh, b => hh b
  | (i, some x) :: r, h, h2, hh, b => applyUps_congr r (fun c => by rw [hget_hput, hget_hput, hh c]) b
  | (i, none) :: r, h, h2, hh, b => by
    rw [applyUps, applyUps]
    refine applyUps_congr r (fun c => ?_) b
    rw [hh i]
    split
    · rw [hget_hput, hget_hput, hh c]
    · exact hh c

theorem after_congr {q : AV × Ups × Foot} (h : Eqv st st2) : Eqv (after E o st q) (after E o st2 q) := by
  refine ⟨fun t => ?_, fun b => ?_⟩
  · unfold after; simp only; rw [sget_putS, sget_putS, h.1 t]
  · exact (applyUps_congr q.2.1 (fun b => (h.2 b).symm) b).symm

/-- Changes of the heap at disjoint ids can be made in either order. -/
theorem applyUps_put {i : Nat} {y : Blk} : ∀ (ups : Ups) {h : Heap}, inUps ups i = false → ∀ b, hget (applyUps ups (hput h i y)) b = if b = i then some y else hget (applyUps ups h) b
  | [], h, _, b => hget_hput h i y b
  | (j, some x) :: r, h, hi, b => by
    rw [inUps] at hi
    cases hj : Nat.beq j i with
    | true => rw [hj] at hi; simp at hi
    | false =>
      rw [hj] at hi
      have ne := beqF' hj
      rw [applyUps, applyUps, applyUps_congr r (h := hput (hput h j x) i y) (fun c => by
        rw [hget_hput, hget_hput, hget_hput, hget_hput]
        by_cases e1 : c = j
        · subst e1; simp [ne]
        · simp [e1]) b]
      exact applyUps_put r hi b
  | (j, none) :: r, h, hi, b => by
    rw [inUps] at hi
    cases hj : Nat.beq j i with
    | true => rw [hj] at hi; simp at hi
    | false =>
      rw [hj] at hi
      have ne := beqF' hj
      rw [applyUps, applyUps, hget_hput, if_neg ne]
      split
      · rename_i x hx
        rw [applyUps_congr r (h := hput (hput h j { x with dead := true, pure := true, cells := [] }) i y) (fun c => by
          rw [hget_hput, hget_hput, hget_hput, hget_hput]
          by_cases e1 : c = j
          · subst e1; simp [ne]
          · simp [e1]) b]
        exact applyUps_put r hi b
      · exact applyUps_put r hi b

theorem applyUps_comm : ∀ (u1 u2 : Ups) (h : Heap), (∀ b, inUps u1 b = true → inUps u2 b = false) → ∀ b, hget (applyUps u2 (applyUps u1 h)) b = hget (applyUps u1 (applyUps u2 h)) b
  | [], u2, h, _, b => rfl
  | (i, some x) :: r, u2, h, hd, b => by
    rw [applyUps, applyUps]
    have hi : inUps u2 i = false := hd i (by simp [inUps])
    rw [applyUps_comm r u2 (hput h i x) (fun c hc => hd c (by rw [inUps, hc]; cases Nat.beq i c <;> rfl)) b]
    refine applyUps_congr r (fun c => ?_) b
    rw [applyUps_put u2 hi, hget_hput]
  | (i, none) :: r, u2, h, hd, b => by
    rw [applyUps, applyUps]
    have hi : inUps u2 i = false := hd i (by simp [inUps])
    rw [applyUps_other u2 h i hi]
    split
    · rename_i x hx
      rw [applyUps_comm r u2 _ (fun c hc => hd c (by rw [inUps, hc]; cases Nat.beq i c <;> rfl)) b]
      refine applyUps_congr r (fun c => ?_) b
      rw [applyUps_put u2 hi, hget_hput]
    · exact applyUps_comm r u2 h (fun c hc => hd c (by rw [inUps, hc]; cases Nat.beq i c <;> rfl)) b

theorem disj_iff : ∀ {a l : List Nat}, disj a l = true → ∀ b ∈ a, b ∉ l
  | [], l, _, b, hb => by simp at hb
  | i :: r, l, h, b, hb => by
    rw [disj] at h; simp at h
    rcases List.mem_cons.1 hb with e | hb
    · subst e; intro hm; rw [memN_iff.2 hm] at h; simp at h
    · exact disj_iff h.2 b hb

theorem after_sget {q : AV × Ups × Foot} {t : Nat} (h : o.dst ≠ some t) : sget (after E o st q).s t = sget st.s t := by
  unfold after; simp only; rw [sget_putS, if_neg (fun hh => h hh.1)]
theorem after_hget {q : AV × Ups × Foot} {b : Nat} (h : b ∉ q.2.1.map (·.1)) : hget (after E o st q).h b = hget st.h b := by
  unfold after; simp only
  rw [applyUps_other]
  cases hi : inUps q.2.1 b with
  | false => rfl
  | true => exact absurd (inUps_map.1 hi) h

theorem wIn_false {w : Option Nat} {l : List Nat} (h : wIn w l = false) : ∀ t ∈ l, w ≠ some t := by
  intro t ht e
  subst e
  rw [wIn, memN_iff.2 ht] at h; cases h

/-- Two operations that do not touch each other's things can change places. -/
theorem swap {q1 q2 : AV × Ups × Foot} (h1 : acore E ops p st = some q1) (h2 : acore E ops o (after E p st q1) = some q2) (hi : indep q1.2.2 q2.2.2 = true) :
    acore E ops o st = some q2 ∧ acore E ops p (after E o st q2) = some q1 ∧ Eqv (after E p (after E o st q2) q1) (after E o (after E p st q1) q2) := by
  unfold indep at hi
  simp only [Bool.and_eq_true, Bool.not_eq_true'] at hi
  obtain ⟨⟨⟨⟨i1, i2⟩, i3⟩, i4⟩, i5⟩ := hi
  obtain ⟨w1, u1⟩ := acore_w h1
  obtain ⟨w2, u2⟩ := acore_w h2
  have d1 := disj_iff i4
  have d2 := disj_iff i5
  have a1 : acore E ops o st = some q2 := acore_local h2 (fun t ht => (after_sget (by rw [← w1]; exact wIn_false i1 t ht)).symm) (fun b hb => (after_hget (fun hm => by
    rw [← u1] at hm
    exact d1 b hm (by rcases hb with hb | hb <;> simp [hb]))).symm)
  have a2 : acore E ops p (after E o st q2) = some q1 := acore_local h1 (fun t ht => after_sget (by rw [← w2]; exact wIn_false i2 t ht)) (fun b hb => after_hget (fun hm => by
    rw [← u2] at hm
    rcases hb with hb | hb
    · exact d2 b hm hb
    · exact d1 b hb (by simp [hm])))
  refine ⟨a1, a2, fun t => ?_, fun b => ?_⟩
  · unfold after; simp only
    rw [sget_putS, sget_putS, sget_putS, sget_putS]
    by_cases e1 : p.dst = some t ∧ t < E.nt
    · by_cases e2 : o.dst = some t ∧ t < E.nt
      · exfalso
        rw [w1, w2, e1.1, e2.1] at i3
        simp at i3
      · rw [if_pos e1, if_neg e2, if_pos e1]
    · by_cases e2 : o.dst = some t ∧ t < E.nt
      · rw [if_neg e1, if_pos e2, if_pos e2]
      · rw [if_neg e1, if_neg e2, if_neg e2, if_neg e1]
  · unfold after; simp only
    refine (applyUps_comm q1.2.1 q2.2.1 st.h (fun c hc => ?_) b).symm
    cases hx : inUps q2.2.1 c with
    | false => rfl
    | true =>
      have m1 : c ∈ q1.2.2.u := by rw [u1]; exact inUps_map.1 hc
      have m2 : c ∈ q2.2.2.u := by rw [u2]; exact inUps_map.1 hx
      exact absurd (by simp [m2]) (d1 c m1)

/-- The operations of a list, one after the other, with the footprints that are given. -/
def RunF (E : Env) (ops : Array Oper) (fp : Nat → Foot) : List (Nat × Oper) → St → St → Prop
  | [], st, e => Eqv st e
  | (i, o) :: r, st, e => ∃ q, acore E ops o st = some q ∧ q.2.2 = fp i ∧ RunF E ops fp r (after E o st q) e

theorem RunF.congr {fp : Nat → Foot} : ∀ {l : List (Nat × Oper)} {st st2 e : St}, RunF E ops fp l st e → Eqv st st2 → RunF E ops fp l st2 e
  | [], st, st2, e, h, he => he.symm.trans h
  | (i, o) :: r, st, st2, e, h, he => by
    rw [RunF] at h ⊢
    obtain ⟨q, h1, h2, h3⟩ := h
    exact ⟨q, acore_local h1 (fun t _ => (he.1 t).symm) (fun b _ => (he.2 b).symm), h2, RunF.congr h3 (after_congr he)⟩

/-- An operation that does not touch the things of those ahead of it can be taken first. -/
theorem RunF.pull {fp : Nat → Foot} {i : Nat} {o : Oper} {B : List (Nat × Oper)} : ∀ {A : List (Nat × Oper)} {st e : St}, RunF E ops fp (A ++ (i, o) :: B) st e → (∀ jp ∈ A, indep (fp jp.1) (fp i) = true) →
    ∃ q, acore E ops o st = some q ∧ q.2.2 = fp i ∧ RunF E ops fp (A ++ B) (after E o st q) e
  | [], st, e, h, _ => h
  | (j, p) :: A, st, e, h, hA => by
    rw [List.cons_append, RunF] at h
    obtain ⟨q1, h1, h2, h3⟩ := h
    obtain ⟨q2, g1, g2, g3⟩ := RunF.pull h3 (fun jp hm => hA jp (by simp [hm]))
    have hi : indep q1.2.2 q2.2.2 = true := by rw [h2, g2]; exact hA (j, p) (by simp)
    obtain ⟨a1, a2, a3⟩ := swap h1 g1 hi
    refine ⟨q2, a1, g2, ?_⟩
    rw [List.cons_append, RunF]
    exact ⟨q1, a2, h2, RunF.congr g3 a3.symm⟩
end
end Gx
