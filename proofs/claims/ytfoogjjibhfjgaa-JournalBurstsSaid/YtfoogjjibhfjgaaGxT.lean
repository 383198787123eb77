/- A part of the proof: what it holds is said at each theorem. -/
import Derived.Test.YtfoogjjibhfjgaaGxS
set_option linter.unusedVariables false
namespace Gx
open Go

def idx : Nat → List Oper → List (Nat × Oper)
  | _, [] => []
  | n, o :: r => (n, o) :: idx (n + 1) r

theorem idx_mem : ∀ {l : List Oper} {n : Nat} {p : Nat × Oper}, p ∈ idx n l ↔ n ≤ p.1 ∧ l[p.1 - n]? = some p.2
  | [], n, p => by simp [idx]
  | o :: r, n, p => by
    rw [idx, List.mem_cons, idx_mem]
    constructor
    · rintro (rfl | ⟨h1, h2⟩)
      · simp
      · refine ⟨by omega, ?_⟩
        rw [show p.1 - n = (p.1 - (n + 1)) + 1 by omega]; simpa using h2
    · rintro ⟨h1, h2⟩
      by_cases e : p.1 = n
      · left
        rw [e] at h2; simp at h2
        obtain ⟨a, b⟩ := p
        simp at e h2; subst e h2; rfl
      · right
        refine ⟨by omega, ?_⟩
        rw [show p.1 - n = (p.1 - (n + 1)) + 1 by omega] at h2; simpa using h2
theorem idx_sorted : ∀ (l : List Oper) (n : Nat), (idx n l).Pairwise (fun a b => a.1 < b.1)
  | [], n => List.Pairwise.nil
  | o :: r, n => by
    rw [idx]
    refine List.pairwise_cons.2 ⟨fun p hp => ?_, idx_sorted r (n + 1)⟩
    have := (idx_mem.1 hp).1
    show n < p.1; omega

section
variable {R : Type} {r : R} {Z : Start} {E : Env} {ops : Array Oper}

def RunL (E : Env) (ops : Array Oper) : List Oper → List Foot → St → St → Prop
  | [], [], st, e => st = e
  | o :: l, f :: fs, st, e => ∃ st' q, Eqv st st' ∧ acore E ops o st' = some q ∧ q.2.2 = f ∧ RunL E ops l fs (after E o st' q) e
  | _, _, _, _ => False

theorem aops_run : ∀ {l : List Oper} {st : St} {tr : List Foot} {k : St → List Foot → Option R}, aops E ops l st tr k = some r → ∃ fs e, k e (fs.reverse ++ tr) = some r ∧ RunL E ops l fs st e
  | [], st, tr, k, h => ⟨[], st, by simpa [aops] using h, rfl⟩
  | o :: l, st, tr, k, h => by
    rw [aops] at h
    obtain ⟨st', he, h⟩ := settle_eqv h
    rw [aone_core] at h
    obtain ⟨q, h1, h2⟩ := ub h
    obtain ⟨fs, e, h3, h4⟩ := aops_run h2
    exact ⟨q.2.2 :: fs, e, by simpa using h3, st', q, he, h1, rfl, h4⟩

theorem RunL.length : ∀ {l : List Oper} {fs : List Foot} {st e : St}, RunL E ops l fs st e → fs.length = l.length
  | [], [], _, _, _ => rfl
  | [], _ :: _, _, _, h => h.elim
  | _ :: _, [], _, _, h => h.elim
  | o :: l, f :: fs, st, e, ⟨_, q, _, _, _, h⟩ => by simp [RunL.length h]

theorem RunL.runF {fp : Nat → Foot} : ∀ {l : List Oper} {fs : List Foot} {n : Nat} {st e : St}, RunL E ops l fs st e → (∀ (j : Nat) (f : Foot), fs[j]? = some f → fp (n + j) = f) → RunF E ops fp (idx n l) st e
  | [], [], n, st, e, h, _ => by subst h; exact Eqv.refl _
  | [], _ :: _, _, _, _, h, _ => h.elim
  | _ :: _, [], _, _, _, h, _ => h.elim
  | o :: l, f :: fs, n, st, e, ⟨st', q, he, h1, h2, h3⟩, hf => by
    rw [idx]
    refine RunF.congr ?_ he.symm
    rw [RunF]
    refine ⟨q, h1, by rw [h2]; exact (hf 0 f (by simp)).symm, RunL.runF h3 (fun j g hj => ?_)⟩
    have := hf (j + 1) g (by simpa using hj)
    rwa [show n + (j + 1) = n + 1 + j by omega] at this

theorem orderOne_at {f : Foot} {anc : List Nat} : ∀ {seen : List Foot} {i : Nat}, orderOne f anc i seen = true → ∀ (j : Nat) (g : Foot), seen[j]? = some g → (i + j) ∈ anc ∨ indep g f = true
  | [], i, _, j, g, hj => by simp at hj
  | x :: r, i, h, j, g, hj => by
    rw [orderOne] at h; simp only [Bool.and_eq_true, Bool.or_eq_true] at h
    cases j with
    | zero =>
      simp at hj; subst hj
      rcases h.1 with h1 | h1
      · exact .inl (memN_iff.1 h1)
      · exact .inr h1
    | succ j =>
      have := orderOne_at h.2 j g (by simpa using hj)
      rwa [show i + 1 + j = i + (j + 1) by omega] at this
theorem orderOk_at : ∀ {fs : List Foot} {as : List (List Nat)} {seen : List Foot}, orderOk fs as seen = true → ∀ (i : Nat) (f : Foot), fs[i]? = some f →
    ∃ a, as[i]? = some a ∧ ∀ (j : Nat) (g : Foot), (seen ++ fs)[j]? = some g → j < seen.length + i → j ∈ a ∨ indep g f = true
  | [], as, seen, _, i, f, hf => by simp at hf
  | x :: r, [], seen, h, i, f, hf => by simp [orderOk] at h
  | x :: r, a :: as, seen, h, i, f, hf => by
    rw [orderOk] at h; simp only [Bool.and_eq_true] at h
    cases i with
    | zero =>
      simp at hf; subst hf
      refine ⟨a, by simp, fun j g hj hlt => ?_⟩
      rw [List.getElem?_append, if_pos (by omega)] at hj
      simpa using orderOne_at h.1 j g hj
    | succ i =>
      obtain ⟨a', h1, h2⟩ := orderOk_at h.2 i f (by simpa using hf)
      refine ⟨a', by simpa using h1, fun j g hj hlt => h2 j g ?_ (by simp; omega)⟩
      simpa using hj

theorem ancestors_pre : ∀ {l : List Oper} {acc : List (List Nat)} {i : Nat}, i < acc.length → (ancestors l acc)[i]? = acc[i]?
  | [], acc, i, _ => rfl
  | o :: r, acc, i, hi => by
    rw [ancestors, ancestors_pre (by simp; omega), List.getElem?_append, if_pos hi]
/-- The ancestors are the direct ones and theirs. -/
theorem ancestors_at : ∀ {l : List Oper} {acc : List (List Nat)} {i : Nat} {a : List Nat}, (ancestors l acc)[i]? = some a → acc.length ≤ i → ∃ o, l[i - acc.length]? = some o ∧
    ∀ k ∈ a, k ∈ direct o ∨ ∃ j a', j ∈ direct o ∧ j < i ∧ (ancestors l acc)[j]? = some a' ∧ k ∈ a'
  | [], acc, i, a, h, hi => by
    rw [ancestors, List.getElem?_eq_none hi] at h; cases h
  | o :: r, acc, i, a, h, hi => by
    by_cases e : i = acc.length
    · subst e
      rw [ancestors, ancestors_pre (by simp)] at h
      simp at h
      refine ⟨o, by simp, fun k hk => ?_⟩
      rw [← h] at hk
      rcases List.mem_append.1 hk with hk | hk
      · exact .inl hk
      · right
        obtain ⟨j, hj, hk⟩ := List.mem_flatMap.1 hk
        cases ha : acc[j]? with
        | none => rw [ha] at hk; simp at hk
        | some a' =>
          rw [ha] at hk; simp at hk
          have hlt : j < acc.length := (List.getElem?_eq_some_iff.1 ha).1
          exact ⟨j, a', hj, hlt, by rw [ancestors_pre hlt]; exact ha, hk⟩
    · rw [ancestors] at h
      obtain ⟨o', h1, h2⟩ := ancestors_at h (by simp; omega)
      refine ⟨o', ?_, fun k hk => ?_⟩
      · simp at h1
        rw [show i - acc.length = (i - (acc.length + 1)) + 1 by omega]; simpa using h1
      · rw [ancestors]; exact h2 k hk

theorem forwardOk_at : ∀ {l : List Oper} {n i : Nat} {o : Oper}, forwardOk n l = true → l[i]? = some o → ∀ e ∈ o.after, bindsAll e = true → e.on < n + i
  | [], n, i, o, _, hi, _, _, _ => by simp at hi
  | x :: r, n, i, o, h, hi, e, he, hb => by
    rw [forwardOk] at h; simp only [Bool.and_eq_true] at h
    cases i with
    | zero =>
      simp at hi; subst hi
      have := List.all_eq_true.1 h.1 e (by simpa using he)
      rw [hb] at this; simpa using this
    | succ i =>
      have := forwardOk_at h.2 (by simpa using hi) e he hb
      omega

theorem binds_any (e : Edge) : Region.binds .any e = bindsAll e := by
  unfold Region.binds bindsAll
  cases e.ground <;> rfl

/-- All that must stand ahead of i is listed. -/
theorem anc_listed {listed : Array Bool} (hclosed : ∀ (j : Nat) (o : Oper), ops[j]? = some o → listed.getD j true = true → ∀ k ∈ direct o, listed.getD k false = true) :
    ∀ (i : Nat) (a : List Nat) (o : Oper), (ancestors ops.toList [])[i]? = some a → ops[i]? = some o → (∀ k ∈ direct o, listed.getD k false = true) → ∀ k ∈ a, listed.getD k false = true := by
  intro i
  induction i using Nat.strongRecOn with
  | _ i ih =>
    intro a o ha ho hd k hk
    obtain ⟨o', h1, h2⟩ := ancestors_at ha (by simp)
    simp at h1
    rw [ho] at h1; simp at h1; subst h1
    rcases h2 k hk with h3 | ⟨j, a', h3, h4, h5, h6⟩
    · exact hd k h3
    · have hjl := hd j h3
      obtain ⟨oj, hoj, _⟩ := ancestors_at h5 (by simp)
      simp at hoj
      have hjt : listed.getD j true = true := by
        rw [Array.getD_eq_getD_getElem?] at hjl ⊢
        cases hx : listed[j]? with
        | none => rw [hx] at hjl; simp at hjl
        | some b => rw [hx] at hjl; simpa using hjl
      exact ih j h4 a' oj h5 hoj (hclosed j oj hoj hjt) k h6

/-- What is still to come. -/
def rest (ops : Array Oper) (listed : Array Bool) : List (Nat × Oper) := (idx 0 ops.toList).filter fun p => !listed.getD p.1 true

theorem rest_sorted (listed : Array Bool) : (rest ops listed).Pairwise (fun a b => a.1 < b.1) := (idx_sorted _ _).filter _

theorem rest_mem {listed : Array Bool} {p : Nat × Oper} : p ∈ rest ops listed ↔ ops[p.1]? = some p.2 ∧ listed.getD p.1 true = false := by
  unfold rest
  rw [List.mem_filter, idx_mem]
  simp

theorem rest_set {listed : Array Bool} {i : Nat} {o : Oper} {A B : List (Nat × Oper)} (h : rest ops listed = A ++ (i, o) :: B) : rest ops (listed.setIfInBounds i true) = A ++ B := by
  have hi : (i, o) ∈ rest ops listed := by rw [h]; simp
  have hil := (rest_mem.1 hi).2
  have hlt : i < listed.size := by
    rw [Array.getD_eq_getD_getElem?] at hil
    rcases Nat.lt_or_ge i listed.size with hl | hl
    · exact hl
    · rw [Array.getElem?_eq_none hl] at hil; simp at hil
  have h1 : rest ops (listed.setIfInBounds i true) = (rest ops listed).filter fun p => !Nat.beq p.1 i := by
    unfold rest
    rw [List.filter_filter]
    congr 1; funext p
    by_cases e : p.1 = i
    · rw [e]; simp [hlt]
    · rw [getD_set_ne true (fun e' => e e'.symm), beqF e]; simp
  rw [h1, h, List.filter_append, List.filter_cons]
  have hs := rest_sorted (ops := ops) listed
  rw [h] at hs
  have hs' := List.pairwise_append.1 hs
  have hB := List.pairwise_cons.1 hs'.2.1
  have e1 : A.filter (fun p => !Nat.beq p.1 i) = A := List.filter_eq_self.2 (fun p hp => by
    have : p.1 < i := hs'.2.2 p hp (i, o) (by simp)
    rw [beqF (by omega)]; rfl)
  have e2 : B.filter (fun p => !Nat.beq p.1 i) = B := List.filter_eq_self.2 (fun p hp => by
    have : i < p.1 := hB.1 p hp
    rw [beqF (by omega)]; rfl)
  rw [e1, e2]; simp

theorem any_sound (hC : CallOk E) {Q : Exit → Act → World → Prop} {fp : Nat → Foot} {e : St} (hfw : forwardOk 0 ops.toList = true)
    (hord : ∀ (i j : Nat) (o : Oper), ops[i]? = some o → j < i → ∃ a, (ancestors ops.toList [])[i]? = some a ∧ (j ∈ a ∨ indep (fp j) (fp i) = true))
    (hQ : ∀ a' w' J' β', Inv Z E.nt J' β' e a' w' → Q .normal a' w') :
    ∀ (fuel : Nat) (listed : Array Bool) {st : St} {a : Act} {w : World} {J : Bool → Nat → Prop} {β : Beta}, listed.size = ops.size → (rest ops listed).length = fuel →
      (∀ (j : Nat) (o : Oper), ops[j]? = some o → listed.getD j true = true → ∀ k ∈ direct o, listed.getD k false = true) →
      RunF E ops fp (rest ops listed) st e → Inv Z E.nt J β st a w → wpAny E.P .any ops Q fuel listed a w := by
  intro fuel
  have fin : ∀ (listed : Array Bool) {st : St} {a : Act} {w : World} {J : Bool → Nat → Prop} {β : Beta}, rest ops listed = [] → RunF E ops fp (rest ops listed) st e → Inv Z E.nt J β st a w → Region.ready .any ops listed = [] ∧ Q .normal a w := by
    intro listed st a w J β hr hrun I
    refine ⟨List.eq_nil_iff_forall_not_mem.2 (fun i hi => ?_), ?_⟩
    · obtain ⟨h1, o, h2, _⟩ := mem_ready.1 hi
      have : (i, o) ∈ rest ops listed := rest_mem.2 ⟨h2, h1⟩
      rw [hr] at this; simp at this
    · rw [hr, RunF] at hrun
      exact hQ _ _ J β (I.eqv hrun)
  induction fuel with
  | zero =>
    intro listed st a w J β _ hlen _ hrun I
    exact fin listed (List.length_eq_zero_iff.1 hlen) hrun I
  | succ fuel ih =>
    intro listed st a w J β hsz hlen hclosed hrun I
    refine ⟨fun hnil => ?_, fun i hi => ?_⟩
    · -- the first that is left is ready
      cases hrest : rest ops listed with
      | nil => rw [hrest] at hlen; simp at hlen
      | cons p r =>
        exfalso
        have hp : p ∈ rest ops listed := by rw [hrest]; simp
        obtain ⟨ho, hl⟩ := rest_mem.1 hp
        have hs := rest_sorted (ops := ops) listed
        rw [hrest] at hs
        have hmin := (List.pairwise_cons.1 hs).1
        have : p.1 ∈ Region.ready .any ops listed := mem_ready.2 ⟨hl, p.2, ho, fun ed hed hb => by
          rw [binds_any] at hb
          have hlt := forwardOk_at hfw (i := p.1) (o := p.2) (by simpa using ho) ed hed hb
          simp at hlt
          have hops : ed.on < ops.size := by have := (Array.getElem?_eq_some_iff.1 ho).1; omega
          cases hx : listed.getD ed.on true with
          | true =>
            rw [Array.getD_eq_getD_getElem?] at hx ⊢
            rw [Array.getElem?_eq_getElem (by omega)] at hx ⊢
            simpa using hx
          | false =>
            have hm : (ed.on, ops[ed.on]) ∈ rest ops listed := rest_mem.2 ⟨by simp [hops], hx⟩
            rw [hrest] at hm
            rcases List.mem_cons.1 hm with e1 | e1
            · have : ed.on = p.1 := by rw [← e1]
              omega
            · have := hmin _ e1
              simp at this; omega⟩
        rw [hnil] at this; simp at this
    · obtain ⟨hl, o, ho, hall⟩ := mem_ready.1 hi
      have hmem : (i, o) ∈ rest ops listed := rest_mem.2 ⟨ho, hl⟩
      obtain ⟨A, B, hAB⟩ := List.append_of_mem hmem
      have hdir : ∀ k ∈ direct o, listed.getD k false = true := by
        intro k hk
        unfold direct at hk
        obtain ⟨ed, hed, rfl⟩ := List.mem_map.1 hk
        obtain ⟨h1, h2⟩ := List.mem_filter.1 hed
        exact hall ed (by simpa using h1) (by rw [binds_any]; exact h2)
      have hs := rest_sorted (ops := ops) listed
      rw [hAB] at hs
      have hs' := List.pairwise_append.1 hs
      rw [hAB] at hrun
      obtain ⟨q, g1, g2, g3⟩ := hrun.pull (fun jp hjp => by
        have hlt : jp.1 < i := hs'.2.2 jp hjp (i, o) (by simp)
        obtain ⟨an, h1, h2⟩ := hord i jp.1 o ho hlt
        rcases h2 with h2 | h2
        · exfalso
          have := anc_listed hclosed i an o h1 ho hdir jp.1 h2
          have hjm : jp ∈ rest ops listed := by rw [hAB]; simp [hjp]
          have h3 := (rest_mem.1 hjm).2
          rw [Array.getD_eq_getD_getElem?] at this h3
          cases hx : listed[jp.1]? with
          | none => rw [hx] at this; simp at this
          | some b => rw [hx] at this h3; simp at this h3; rw [this] at h3; cases h3
        · exact h2)
      have hone : aone E ops o st (fun s f => some (s, f)) = some (after E o st q, q.2.2) := by rw [aone_core, g1]; rfl
      obtain ⟨st', f, h4, h5⟩ := aone_sound (K := wpAny E.P .any ops Q fuel (listed.setIfInBounds i true)) (Q := Q) hC I hone
      simp only [Option.some.injEq, Prod.mk.injEq] at h4
      obtain ⟨rfl, rfl⟩ := h4
      have hlt : i < listed.size := by rw [hsz]; exact (Array.getElem?_eq_some_iff.1 ho).1
      have := h5 (fun a' w' J' β' I' => ih (listed.setIfInBounds i true) (by simp [hsz]) (by
          rw [rest_set hAB]; rw [hAB] at hlen; simp at hlen ⊢; omega) (fun j oj hoj hj k hk => ?_) (by rw [rest_set hAB]; exact g3) I')
      · unfold wpOp
        rw [ho]
        simp only
        split
        · rename_i hw; rw [if_pos hw] at this; exact .inl this
        · rename_i hw; rw [if_neg hw] at this; exact this
      · by_cases e1 : j = i
        · subst e1
          rw [ho] at hoj; simp at hoj; subst hoj
          exact getD_set_true (hdir k hk)
        · rw [getD_set_ne true (fun e' => e1 e'.symm)] at hj
          exact getD_set_true (hclosed j oj hoj hj k hk)
end
end Gx
