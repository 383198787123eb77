/- A part of the proof: what it holds is said at each theorem. -/
import Derived.Test.YtfoogjjibhfjgaaGxX
set_option linter.unusedVariables false
namespace Gx
open Go

/-- What a call leaves, seen from where it began. -/
structure FDone (Z : Start) (J : Bool → Nat → Prop) (β : Beta) (h : Heap) (w : World) : Prop where
  sim : SimH J β h w
  os : w.os = Z.w.os
  tape : w.tape = Z.w.tape
  output : w.output = Z.w.output
  size : Z.w.heap.size ≤ w.heap.size
  frame : ∀ k, k < Z.w.heap.size → ¬ Mut Z.β Z.h k → w.heap[k]? = Z.w.heap[k]?
  wr : ∀ k, Mut β h k → k < Z.w.heap.size → Mut Z.β Z.h k
  jsub : ∀ o k, Z.J o k → J o k
  jup : ∀ o k, J o k → Z.J o k ∨ Mut Z.β Z.h k ∨ Z.w.heap.size ≤ k
  sizes : ∀ k, blkSize Z.w k ≤ blkSize w k
  outs : ∀ b x0 x, hget Z.h b = some x0 → hget h b = some x → x.dead = false → β b = Z.β b ∧ x.sz = x0.sz ∧ x.cells.length = x0.cells.length ∧ x0.dead = false

/-- The function answers so, wherever it is called with such arguments. -/
def FOk (P : Program) (f : Nat) (args : List AV) (h : Heap) (res : AV) (h' : Heap) : Prop :=
  ∀ (J : Bool → Nat → Prop) (β : Beta) (w : World) (vs : List Value), SimH J β h w → Reps J β h w args vs →
    Calls P f vs.toArray w fun e w' => ∃ vc J' β', e = .returned vc ∧ FDone ⟨J, β, h, w⟩ J' β' h' w' ∧ Rep J' β' h' w' res vc

def TwOk (P : Program) (f : Nat) (t : Tw) : Prop := ∀ args h res h', (t.runK args h fun v h' => some (v, h')) = some (res, h') → FOk P f args h res h'
def TblOk (P : Program) : List (Nat × Tw) → Prop
  | [] => True
  | p :: r => TwOk P p.1 p.2 ∧ TblOk P r

theorem tcall_ok {P : Program} {R : Type} {r : R} : ∀ {T : List (Nat × Tw)}, TblOk P T → ∀ {f : Nat} {args : List AV} {h : Heap} {k : AV → Heap → Option R}, tcall T f args h k = some r →
    ∃ res h', FOk P f args h res h' ∧ k res h' = some r
  | [], _, f, args, h, k, hh => by simp [tcall] at hh
  | (g, t) :: T, hT, f, args, h, k, hh => by
    rw [tcall] at hh
    cases hb : Nat.beq g f with
    | false => rw [hb] at hh; exact tcall_ok hT.2 hh
    | true =>
      rw [hb] at hh
      have := Nat.eq_of_beq_eq_true hb
      subst this
      simp only [cond_true] at hh
      rw [t.eq] at hh
      obtain ⟨⟨res, h'⟩, h1, h2⟩ := ub hh
      exact ⟨res, h', hT.1 args h res h' h1, h2⟩

section
variable {R : Type} {r : R} {Z : Start} {nt : Nat} {J : Bool → Nat → Prop} {β : Beta} {st : St} {a : Act} {w : World}

def loadRes (tmps : Array Value) : ResultVar → Sem Value
  | .tmp t => pure (tmps.getD t undef)
  | .cell a t => do loadVar t (← Go.asAddr (tmps.getD a undef))

theorem mapM_arr {α β : Type} (f : α → Sem β) (xs : Array α) : xs.mapM f = (List.toArray <$> xs.toList.mapM f) := by
  rw [← List.mapM_toArray]
theorem results_eq (fn : Func) (tmps : Array Value) : results fn tmps = (do let vs ← fn.results.mapM (loadRes tmps); pure (if h : vs.size = 1 then vs[0] else .tuple vs)) := by
  unfold results
  congr 1
def oneOf (l : List Value) : Value := match l with | [v] => v | l => .tuple l.toArray
theorem results_run {P : Program} (fn : Func) (tmps : Array Value) {vs : List Value} (h : (fn.results.toList.mapM (loadRes tmps)).run P w = .ok vs w) : (results fn tmps).run P w = .ok (oneOf vs) w := by
  rw [results_eq, mapM_arr]
  simp only [map_eq_pure_bind, Sem.run_bind, h, Result.andThen_ok, Sem.run_pure]
  congr 1
  match vs with
  | [] => rfl
  | [v] => rfl
  | v :: u :: r => simp [oneOf]

theorem rep_slot {E : Env} (SS : SimS J β st.h w st.s a.tmps) (t : Nat) : Rep J β st.h w (sget st.s t) (a.tmps.getD t undef) := rep_ev SS (.tmp t)

theorem loadAt_addr {P : Program} {t : TypeId} {v vc : Value} (h : (Instr.loadAt t v).run P w = .ok vc w) : (do loadVar t (← Go.asAddr v) : Sem Value).run P w = .ok vc w := by
  unfold Instr.loadAt at h
  cases v with
  | pointer a =>
    cases a with
    | some a => exact h
    | none => simp [Instr.sureAddr] at h
  | _ => simp [Instr.sureAddr] at h
theorem aresult_sound {E : Env} (S : SimH J β st.h w) (SS : SimS J β st.h w st.s a.tmps) : ∀ (l : List ResultVar) {acc : List AV} {k : List AV → Option R}, aresult E st l acc k = some r →
    ∃ vals vs, k (acc.reverse ++ vals) = some r ∧ (l.mapM (loadRes a.tmps)).run E.P w = .ok vs w ∧ Reps J β st.h w vals vs
  | [], acc, k, hh => ⟨[], [], by simpa [aresult] using hh, by simp, by rw [Reps]⟩
  | .tmp t :: l, acc, k, hh => by
    rw [aresult] at hh
    obtain ⟨vals, vs, h1, h2, h3⟩ := aresult_sound S SS l hh
    refine ⟨sget st.s t :: vals, a.tmps.getD t undef :: vs, by simpa using h1, ?_, by rw [Reps]; exact ⟨_, _, rfl, rep_ev SS (.tmp t), h3⟩⟩
    simp only [List.mapM_cons, loadRes, Sem.run_bind, Sem.run_pure, Result.andThen_ok, h2]
  | .cell ad t :: l, acc, k, hh => by
    rw [aresult] at hh
    obtain ⟨v, vc, h0, h1, h2⟩ := aload_sound S (fun _ _ h => h) hh (rep_ev SS (.tmp ad))
    obtain ⟨vals, vs, h3, h4, h5⟩ := aresult_sound S SS l h0
    refine ⟨v :: vals, vc :: vs, by simpa using h3, ?_, by rw [Reps]; exact ⟨_, _, rfl, h2, h5⟩⟩
    have : (loadRes a.tmps (.cell ad t)).run E.P w = .ok vc w := loadAt_addr h1
    simp only [List.mapM_cons, Sem.run_bind, this, Sem.run_pure, Result.andThen_ok, h4]

theorem finV_sound {i : Nat} {m : Nat × Nat} {v v' : AV} {ups : Ups} {vc : Value} {h : Heap} (S : SimH J β h w) (hh : finV (hget h) i m v = some (v', ups)) (hv : Rep J β h w v vc) :
    ∃ J' β', Step J β h w J' β' (applyUps ups h) w ∧ Rep J' β' (applyUps ups h) w v' vc ∧ (∀ b x, hget (applyUps ups h) b = some x → hget h b = none → newBase ≤ b) := by
  have old : ∀ {ups : Ups}, (∀ b, inUps ups b = true → ∃ x, hget h b = some x) → ∀ b x, hget (applyUps ups h) b = some x → hget h b = none → newBase ≤ b := by
    intro ups hu b x hx hn
    cases hi : inUps ups b with
    | true => obtain ⟨y, hy⟩ := hu b hi; rw [hy] at hn; cases hn
    | false => rw [applyUps_other _ _ _ hi, hn] at hx; cases hx
  unfold finV at hh
  cases h0 : Nat.beq m.1 0 with
  | true =>
    rw [h0] at hh; simp at hh
    obtain ⟨rfl, rfl⟩ := hh
    exact ⟨J, β, Step.refl S, hv, old (by simp [inUps])⟩
  | false =>
    rw [h0, cond_false] at hh
    cases h1 : Nat.beq m.1 1 with
    | true =>
      rw [h1, cond_true] at hh
      split at hh
      · simp at hh; obtain ⟨rfl, rfl⟩ := hh
        rw [Rep] at hv; subst hv
        refine ⟨J, β, Step.refl S, ?_, old (by simp [inUps])⟩
        rw [Rep, RepC]
        exact ⟨by simp, none, 0, rfl, Nat.le_refl _, by simp, .inl rfl⟩
      · simp at hh; obtain ⟨rfl, rfl⟩ := hh
        refine ⟨J, β, Step.refl S, ?_, old (by simp [inUps])⟩
        rw [Rep, RepC] at hv ⊢
        obtain ⟨e1, A, cap, e2, e3, e4, e5⟩ := hv
        exact ⟨e1, A, cap, e2, e3, by simp, e5⟩
      · obtain ⟨⟨q1, q2, q3⟩, hq, h2⟩ := ub hh
        simp at h2; obtain ⟨rfl, rfl⟩ := h2
        obtain ⟨J', A, hA, _⟩ := pureV_sound S (Looks.s fun _ _ h => h) hq hv
        refine ⟨J', β, A, ?_, old (pureV_ups hq)⟩
        unfold pureV at hq
        obtain ⟨x, hx, h3⟩ := ub hq
        obtain ⟨_, h4⟩ := uc h3
        simp at h4
        obtain ⟨rfl, rfl, rfl⟩ := h4
        rw [Rep]; exact hA
      · simp at hh
    | false =>
      rw [h1, cond_false] at hh
      cases h2 : Nat.beq m.1 2 with
      | true =>
        rw [h2, cond_true] at hh
        split at hh
        · obtain ⟨hn, h3⟩ := uc' hh
          simp at h3; obtain ⟨rfl, rfl⟩ := h3
          have hn' : hget h (nid 90000 + i) = none := by cases hx : hget h (nid 90000 + i) <;> simp_all
          have A := Step.newNone S (x := emptyBlk m.2) hn' rfl
          refine ⟨J, fun b => if b = nid 90000 + i then none else β b, A, ?_, fun b x hx hb => ?_⟩
          · rw [Rep] at hv; subst hv; rw [Rep]
            exact ⟨emptyBlk m.2, none, 0, by simp only [applyUps]; rw [hget_hput, if_pos rfl], rfl, Nat.le_refl _, .inl rfl⟩
          · simp only [applyUps] at hx
            rw [hget_hput] at hx
            by_cases e : b = nid 90000 + i
            · subst e; unfold nid newBase; omega
            · rw [if_neg e, hb] at hx; cases hx
        · simp at hh; obtain ⟨rfl, rfl⟩ := hh
          exact ⟨J, β, Step.refl S, hv, old (by simp [inUps])⟩
      | false =>
        rw [h2, cond_false] at hh
        split at hh
        · rename_i c
          obtain ⟨⟨q1, q2, q3⟩, hq, h3⟩ := ub hh
          simp at h3; obtain ⟨rfl, rfl⟩ := h3
          rw [Rep] at hv
          obtain ⟨cs, rfl, hc⟩ := hv
          obtain ⟨J', A, hA, hlen, _⟩ := pureVs_sound S (Looks.s fun _ _ h => h) hq hc
          refine ⟨J', β, A, ?_, old (pureVs_ups hq)⟩
          rw [Rep]
          exact ⟨cs, rfl, hlen.symm, hA⟩
        · simp at hh; obtain ⟨rfl, rfl⟩ := hh
          exact ⟨J, β, Step.refl S, hv, old (by simp [inUps])⟩
        · simp at hh

theorem finVs_sound {s : Slots} : ∀ (vals : List AV) {i : Nat} {ms : List (Nat × Nat)} {h h' : Heap} {vals' : List AV} {vs : List Value} {J : Bool → Nat → Prop} {β : Beta},
    Inv Z nt J β { s := s, h := h } a w → finVs h i ms vals = some (vals', h') → Reps J β h w vals vs →
    ∃ J' β', Inv Z nt J' β' { s := s, h := h' } a w ∧ Reps J' β' h' w vals' vs ∧ ∀ x v, Rep J β h w x v → Rep J' β' h' w x v
  | [], i, ms, h, h', vals', vs, J, β, I, hh, hv => by
    simp [finVs] at hh; obtain ⟨rfl, rfl⟩ := hh
    exact ⟨J, β, I, hv, fun _ _ h => h⟩
  | v :: r, i, ms, h, h', vals', vs, J, β, I, hh, hv => by
    rw [finVs] at hh
    obtain ⟨⟨v1, u1⟩, h1, h2⟩ := ub hh
    obtain ⟨⟨r2, hr⟩, h3, h4⟩ := ub h2
    simp at h4; obtain ⟨rfl, rfl⟩ := h4
    rw [Reps] at hv
    obtain ⟨u, us, rfl, hv1, hv2⟩ := hv
    obtain ⟨J1, β1, A, hA, hnew⟩ := finV_sound I.sim h1 hv1
    have I1 := I.step A hnew
    obtain ⟨J2, β2, I2, hB, hm⟩ := finVs_sound r I1 h3 (Reps.ext A.ext hv2)
    refine ⟨J2, β2, I2, ?_, fun x v h => hm x v (Rep.ext A.ext h)⟩
    rw [Reps]
    exact ⟨u, us, rfl, hm _ _ hA, hB⟩

theorem afinish_sound {E : Env} {fn : Func} {modes : List (Nat × Nat)} {outs : List Nat} {k : AV → Heap → Option R} (I : Inv Z nt J β st a w) (hh : afinish E fn modes outs k st = some r) :
    ∃ res h' vc J' β', k res h' = some r ∧ (results fn a.tmps).run E.P w = .ok vc w ∧ FDone Z J' β' h' w ∧ Rep J' β' h' w res vc := by
  unfold afinish at hh
  obtain ⟨vals, vs, h1, h2, h3⟩ := aresult_sound I.sim I.ss _ hh
  simp only [List.reverse_nil, List.nil_append] at h1
  obtain ⟨⟨vals', h'⟩, h4, h5⟩ := ub h1
  obtain ⟨J1, β1, I1, hR, _⟩ := finVs_sound (s := st.s) vals I h4 h3
  obtain ⟨hc, h6⟩ := uc h5
  simp at hc
  obtain ⟨hn, hs, hi, _⟩ := hc
  have hn := nodupB_iff hn
  have hin := allIn_at hi
  have hs := allIn_at hs
  refine ⟨_, _, oneOf vs, J1, betaR _ _ β1, h6, results_run fn a.tmps h2, ?_, Rep.ren hn hs ?_⟩
  · exact ⟨I1.sim.ren hn hin, I1.os, I1.tape, I1.output, I1.size, I1.frame, fun k hm => I1.wr k (mut_ren hn hm), I1.jsub, I1.jup, I1.sizes, fun b x0 x h0 hx hd => by
      obtain ⟨b', x', hb', he, hg, rfl⟩ := sub_get hn b x hx
      have := canonR_back hb' ⟨I1.zge b x0 h0, I1.zlt b x0 h0⟩ he
      subst this
      obtain ⟨e1, e2, e3, e4⟩ := I1.outs b' x0 x' h0 hg hd
      refine ⟨?_, e2, by rw [renB_length]; exact e3, e4⟩
      have := betaR_of (β := β1) hn hb'
      rw [he] at this
      rw [this]; exact e1⟩
  · match vals', vs, hR with
    | [], vs, hR => rw [Reps] at hR; subst hR; simp only [oneOf, oneA]; rw [Rep]; exact ⟨[], rfl, by rw [Reps]⟩
    | [v], vs, hR =>
      rw [Reps] at hR
      obtain ⟨u, us, rfl, hu, hus⟩ := hR
      rw [Reps] at hus; subst hus
      exact hu
    | v :: v2 :: l, vs, hR =>
      have hR' := hR
      rw [Reps] at hR
      obtain ⟨u, us, rfl, hu, hus⟩ := hR
      rw [Reps] at hus
      obtain ⟨u2, us2, rfl, _, _⟩ := hus
      simp only [oneOf, oneA]
      rw [Rep]
      exact ⟨_, rfl, hR'⟩
end
end Gx
