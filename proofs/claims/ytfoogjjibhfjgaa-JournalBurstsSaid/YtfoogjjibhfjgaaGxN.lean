/- A part of the proof: what it holds is said at each theorem. -/
import Derived.Test.YtfoogjjibhfjgaaGxEq
set_option linter.unusedVariables false
namespace Gx
open Go

/-- What is asked of the calls of Go functions. -/
def CallOk (E : Env) : Prop := ∀ (R : Type) (r : R) (k : AV → Ups → Option R) (J : Bool → Nat → Prop) (β : Beta) (h : Heap) (w : World) (g : Look) (d f : Nat) (args : List AV) (vs : List Value),
  SimH J β h w → Looks g h → acall E g d f args k = some r → Reps J β h w args vs →
  ∃ val ups, k val ups = some r ∧ (UpsFree d h ups → Calls E.P f vs.toArray w fun e w' => ∃ vc, e = .returned vc ∧ OpDone J β h w ups val vc w')

section
variable {R : Type} {r : R} {P : Program} {J J' : Bool → Nat → Prop} {β : Beta} {h : Heap} {w w' : World} {g : Look} {o : Oper} {a : Act} {next : Act → World → Prop} {Q : Exit → Act → World → Prop}

theorem wp_value {vc : Value} (hrun : (execOp a.eval o).run P w = .ok (.value vc) w') (hn : next (a.put o.dst vc) w') : o.wp P a w next Q := by
  unfold Oper.wp; rw [hrun]; exact hn
theorem wp_skip' (hrun : (execOp a.eval o).run P w = .ok .skip w') (hn : next (a.put o.dst undef) w') : o.wp P a w next Q := by
  unfold Oper.wp; rw [hrun]; exact hn

theorem OpDone.same (S : SimH J β h w) {v : AV} {vc : Value} (hv : Rep J β h w v vc) : OpDone J β h w [] v vc w := ⟨J, β, Step.refl S, hv⟩

theorem reps_map {s : Slots} (SS : SimS J β h w s a.tmps) : ∀ (xs : List Operand), Reps J β h w (xs.map (ev s)) (xs.map a.eval)
  | [] => by simp [Reps]
  | x :: r => by rw [List.map_cons, List.map_cons, Reps]; exact ⟨_, _, rfl, rep_ev SS x, reps_map SS r⟩
theorem repParts_map {s : Slots} (SS : SimS J β h w s a.tmps) : ∀ (ps : List (Nat × Operand)), RepParts J β h w (ps.map fun p => (p.1, ev s p.2)) (ps.map fun p => (p.1, a.eval p.2))
  | [] => by simp [RepParts]
  | p :: r => by rw [List.map_cons, List.map_cons, RepParts]; exact ⟨_, _, rfl, rep_ev SS p.2, repParts_map SS r⟩
theorem repO_map {s : Slots} (SS : SimS J β h w s a.tmps) (x : Option Operand) : RepO J β h w (x.map (ev s)) (x.map a.eval) := by
  cases x with
  | none => simp [RepO]
  | some x => simp [RepO]; exact rep_ev SS x

theorem Reps.append : ∀ {c c' : List AV} {cs cs' : List Value}, Reps J β h w c cs → Reps J β h w c' cs' → Reps J β h w (c ++ c') (cs ++ cs')
  | [], c', cs, cs', h1, h2 => by rw [Reps] at h1; subst h1; exact h2
  | x :: r, c', cs, cs', h1, h2 => by
    rw [Reps] at h1
    obtain ⟨u, us, rfl, h3, h4⟩ := h1
    rw [List.cons_append, List.cons_append, Reps]
    exact ⟨u, us ++ cs', rfl, h3, Reps.append h4 h2⟩

theorem aalloc_sound {d : Nat} {t : TypeId} {k : AV → Ups → Option R} (S : SimH J β h w) (hl : Looks g h) (hh : aalloc P g d t k = some r) :
    ∃ v val ups, (∃ i, P.info? t = some i ∧ i.zero = some v) ∧ k val ups = some r ∧ (UpsFree d h ups → ∃ vc w', (Instr.box t v).run P w = .ok vc w' ∧ OpDone J β h w ups val vc w') := by
  have zv : ∀ {z : AV}, zeroV P t = some z → ∃ v, (∃ i, P.info? t = some i ∧ i.zero = some v) ∧ ofV v = z := by
    intro z hz
    unfold zeroV at hz
    cases hi : P.info? t with
    | none => simp [hi] at hz
    | some i =>
      cases hiz : i.zero with
      | none => simp [hi, hiz] at hz
      | some v => simp [hi, hiz] at hz; exact ⟨v, ⟨i, rfl, hiz⟩, hz⟩
  unfold aalloc at hh
  split at hh
  · rename_i el hu hz
    obtain ⟨v, hv, he⟩ := zv hz
    obtain ⟨sz, hs, hh⟩ := ub hh
    refine ⟨v, _, _, hv, hh, fun hf => ⟨_, _, run_box, ?_⟩⟩
    have hr := rep_ofV (J := J) (β := β) (h := h) (w := w) v
    rw [he, Rep] at hr; subst hr
    have hnw : ∀ b, b = nid d + 1 → isNew d b = true := fun b hb => by subst hb; unfold isNew nid; simp
    have h1 : hget h (nid d + 1) = none := hf _ (by simp [inUps]) (hnw _ rfl)
    have h2 : hget h (nid d) = none := hf.nid (by simp [inUps])
    have A := Step.newNone S (d := nid d + 1) (x := emptyBlk sz) h1 rfl
    have e : ([(nid d + 1, some (emptyBlk sz)), (nid d, some { dead := false, sealed := false, pure := false, taint := false, sz := 0, cells := [.own (nid d + 1) 0 0] })] : Ups) = [(nid d + 1, some (emptyBlk sz))] ++ [(nid d, some { dead := false, sealed := false, pure := false, taint := false, sz := 0, cells := [.own (nid d + 1) 0 0] })] := rfl
    rw [e]
    refine OpDone.after A (box_new A.sim ?_ rfl rfl (by simp [Value.cells]) ⟨fun hp => by simp at hp, fun _ j y hj => ?_⟩) (size_alloc _ _)
    · simp only [applyUps]; rw [hget_hput, if_neg (by omega)]; exact h2
    · cases j with
      | zero =>
        simp at hj; subst hj
        refine ⟨.slice none 0 0, by simp [Value.cells], ?_, rfl⟩
        rw [Rep]
        exact ⟨emptyBlk sz, none, 0, by simp [applyUps, hget_hput], rfl, Nat.le_refl _, .inl rfl⟩
      | succ j => simp at hj
  · rename_i z hz _
    obtain ⟨v, hv, he⟩ := zv hz
    obtain ⟨val, ups, h1, h2⟩ := abox_sound S hl hh (vv := v) (by rw [← he]; exact rep_ofV v)
    exact ⟨v, val, ups, hv, h1, h2⟩
  · simp at hh

theorem apick_sound {c x y : AV} {vc vx vy : Value} {k : AV → Option R} (hh : apick c x y k = some r) (hc : Rep J β h w c vc) (hx : Rep J β h w x vx) (hy : Rep J β h w y vy) :
    ∃ v, k v = some r ∧ ∃ t : Bool, vc = .bool t ∧ Rep J β h w v (if t then vx else vy) := by
  unfold apick at hh
  split at hh
  · rename_i t a b
    rw [Rep] at hc hx hy
    subst hc hx hy
    exact ⟨_, hh, t, rfl, by cases t <;> simp [Rep]⟩
  · rename_i t x _
    rw [Rep] at hc; subst hc
    obtain ⟨ht, h1⟩ := uc hh
    subst ht
    exact ⟨_, h1, true, rfl, hx⟩
  · rename_i t _ _ _
    rw [Rep] at hc; subst hc
    obtain ⟨ht, h1⟩ := uc' hh
    subst ht
    exact ⟨_, h1, false, rfl, hy⟩
  · rename_i t _ _ _
    rw [Rep] at hc; subst hc
    cases t
    · exact ⟨_, hh, false, rfl, hy⟩
    · exact ⟨_, hh, true, rfl, hx⟩
  · simp at hh

theorem aval_sound {E : Env} (hC : CallOk E) {d : Nat} {s : Slots} {k : AV → Ups → Option R} (S : SimH J β h w) (SS : SimS J β h w s a.tmps) (hl : Looks g h)
    (hh : aval E g d (ev s) o.op k = some r) :
    ∃ val ups, k val ups = some r ∧ (UpsFree d h ups → (∀ vc w', OpDone J β h w ups val vc w' → next (a.put o.dst vc) w') → o.wp E.P a w next Q) := by
  unfold aval at hh
  have same : ∀ {v : AV} {vc : Value}, k v [] = some r → (execOp a.eval o).run E.P w = .ok (.value vc) w → Rep J β h w v vc →
      ∃ val ups, k val ups = some r ∧ (UpsFree d h ups → (∀ vc w', OpDone J β h w ups val vc w' → next (a.put o.dst vc) w') → o.wp E.P a w next Q) :=
    fun hk hrun hr => ⟨_, _, hk, fun _ hn => wp_value hrun (hn _ _ (OpDone.same S hr))⟩
  split at hh
  · rename_i x ho
    exact same hh (by simp [execOp, ho]) (rep_ev SS x)
  · rename_i x ho
    exact same hh (by simp [execOp, ho]) (rep_ev SS x)
  · rename_i c x y ho
    obtain ⟨v, h1, h2⟩ := apick_sound hh (rep_ev SS c) (rep_ev SS x) (rep_ev SS y)
    obtain ⟨t, ht, hr⟩ := h2
    refine same h1 (vc := if t then a.eval x else a.eval y) ?_ hr
    cases t <;> simp [execOp, ho, ht, Go.asBool]
  · rename_i t ho
    obtain ⟨v, val, ups, h0, h1, h2⟩ := aalloc_sound S hl hh
    refine ⟨val, ups, h1, fun hf hn => ?_⟩
    obtain ⟨vc, w', h3, h4⟩ := h2 hf
    refine wp_value ?_ (hn vc w' h4)
    rw [run_box] at h3
    simp only [Result.ok.injEq] at h3
    obtain ⟨rfl, rfl⟩ := h3
    obtain ⟨i, hi, hiz⟩ := h0
    simp [execOp, ho, Instr.alloc, zeroValue, typeInfo, hi, hiz, newVar, newRow]
  · rename_i t x ho
    obtain ⟨val, ups, h1, h2⟩ := abox_sound S hl hh (rep_ev SS x)
    refine ⟨val, ups, h1, fun hf hn => ?_⟩
    obtain ⟨vc, w', h3, h4⟩ := h2 hf
    exact wp_value (by simp [execOp, ho, h3]) (hn vc w' h4)
  · rename_i t parts ho
    obtain ⟨v, hv, hh⟩ := ub hh
    obtain ⟨u, h1, h2⟩ := abuild_sound (P := E.P) S hv (repParts_map SS parts.toList)
    refine same hh ?_ h2
    have : (parts.map fun p => (p.1, a.eval p.2)) = (parts.toList.map fun p => (p.1, a.eval p.2)).toArray := by apply Array.ext'; simp
    simp [execOp, ho, this, h1]
  · rename_i t len parts ho
    obtain ⟨val, ups, h1, h2⟩ := abuildSlice_sound S hl hh (repParts_map SS parts.toList)
    refine ⟨val, ups, h1, fun hf hn => ?_⟩
    obtain ⟨vc, w', h3, h4⟩ := h2 hf
    have : (parts.map fun p => (p.1, a.eval p.2)) = (parts.toList.map fun p => (p.1, a.eval p.2)).toArray := by apply Array.ext'; simp
    exact wp_value (by simp [execOp, ho, this, h3]) (hn vc w' h4)
  · rename_i t p ho
    obtain ⟨v, vc, h1, h2, h3⟩ := aload_sound S hl hh (rep_ev SS p)
    exact same h1 (by simp [execOp, ho, h2]) h3
  · rename_i t p x ho
    obtain ⟨val, ups, h1, J', β', w', h2, h3, rfl⟩ := astore_sound S hl hh (rep_ev SS p) (rep_ev SS x)
    exact ⟨.undef, ups, h1, fun _ hn => wp_skip' (w' := w') (by simp [execOp, ho, h2]) (hn undef w' ⟨J', β', h3, by simp [Rep]⟩)⟩
  · rename_i x ho
    have h1 := rep_ev SS x
    split at hh
    · rename_i c oo hx
      rw [hx] at h1
      refine same hh (vc := a.eval x) ?_ h1
      rw [Rep, RepC] at h1
      obtain ⟨ad, h2, _⟩ := h1
      simp [execOp, ho, h2]
    · rename_i b oo hx
      rw [hx] at h1
      refine same hh (vc := a.eval x) ?_ h1
      rw [Rep] at h1
      obtain ⟨_, kk, o', _, h2, _⟩ := h1
      simp [execOp, ho, h2]
    · simp at hh
  · rename_i op t x y t2 ho
    obtain ⟨v, vc, h1, h2, h3⟩ := abin2_sound hh (rep_ev SS x) (rep_ev SS y) x y
    refine same h1 ?_ h3
    simp only [execOp, ho]
    rw [Sem.run_bind, h2]; simp
  · rename_i op t x ho
    obtain ⟨v, hv, hh⟩ := ub hh
    obtain ⟨vc, h2, h3⟩ := aun_sound (P := E.P) hv (rep_ev SS x)
    exact same hh (by simp [execOp, ho, h2]) h3
  · rename_i src dst x ho
    obtain ⟨val, ups, h1, h2⟩ := aconv_sound S hl hh (rep_ev SS x)
    refine ⟨val, ups, h1, fun hf hn => ?_⟩
    obtain ⟨vc, w', h3, h4⟩ := h2 hf
    exact wp_value (by simp [execOp, ho, h3]) (hn vc w' h4)
  · rename_i f caps ho
    refine same (vc := .func (.func f) #[] ⟨caps.toList.map a.eval⟩) hh ?_ ?_
    · simp only [execOp, ho, Instr.makeFunc]
      simp
      apply Array.ext'; simp
    · rw [Rep]; exact ⟨_, rfl, reps_map SS _⟩
  · rename_i t l c ho
    obtain ⟨val, ups, h1, h2⟩ := amake_sound S hh (rep_ev SS l) (rep_ev SS c)
    refine ⟨val, ups, h1, fun hf hn => ?_⟩
    obtain ⟨vc, w', h3, h4⟩ := h2 hf
    exact wp_value (by simp [execOp, ho, h3]) (hn vc w' h4)
  · rename_i t x lo hi mx ho
    obtain ⟨v, vc, h1, h2, h3⟩ := aslice_sound hl hh (rep_ev SS x) (repO_map SS lo) (repO_map SS hi) (repO_map SS mx)
    exact same h1 (by simp [execOp, ho, h2]) h3
  · rename_i t x f ho
    obtain ⟨v, vc, h1, h2, h3⟩ := afieldAddr_sound hh (rep_ev SS x)
    exact same h1 (by simp [execOp, ho, h2]) h3
  · rename_i t x f ho
    obtain ⟨v, vc, h1, h2, h3⟩ := afield_sound hh (rep_ev SS x)
    exact same h1 (by simp [execOp, ho, h2]) h3
  · rename_i t x i ho
    obtain ⟨v, vc, h1, h2, h3⟩ := aindexAddr_sound hh (rep_ev SS x) (rep_ev SS i)
    exact same h1 (by simp [execOp, ho, h2]) h3
  · rename_i t x i ho
    obtain ⟨v, vc, h1, h2, h3⟩ := aindex_sound hh (rep_ev SS x) (rep_ev SS i)
    exact same h1 (by simp [execOp, ho, h2]) h3
  · rename_i t i ho
    split at hh
    · rename_i vs ht
      obtain ⟨v, hv, hh⟩ := ub hh
      have h1 := rep_ev SS t
      rw [ht, Rep] at h1
      obtain ⟨cs, h2, h3⟩ := h1
      rw [Reps_iff] at h3
      have hlt : i < cs.length := by rw [h3.1]; exact (List.getElem?_eq_some_iff.1 hv).1
      refine same hh (vc := cs[i]) ?_ (h3.2 i v _ hv (List.getElem?_eq_getElem hlt))
      simp [execOp, ho, Instr.extract, h2, hlt]
    · simp at hh
  · rename_i c ho
    split at hh
    · rename_i hc
      split at hh
      · rename_i x t h1 h2
        obtain ⟨v, hv, hh⟩ := ub hh
        have e1 : c.args = #[x] := by apply Array.ext'; simpa using h1
        have e2 : c.argTypes = #[t] := by apply Array.ext'; simpa using h2
        obtain ⟨vc, h3, h4⟩ := alen_sound (P := E.P) (ty := o.type) hv (rep_ev SS x)
        refine same hh ?_ h4
        simp [execOp, ho, resolve, hc, e1, e2, invoke, builtin, h3]
      · simp at hh
    · rename_i hc
      split at hh
      · rename_i x y t tx h1 h2
        have e1 : c.args = #[x, y] := by apply Array.ext'; simpa using h1
        have e2 : c.argTypes = #[t, tx] := by apply Array.ext'; simpa using h2
        obtain ⟨val, ups, h3, h4⟩ := aappend_sound (ty := o.type) S hl hh (rep_ev SS x) (rep_ev SS y)
        refine ⟨val, ups, h3, fun hf hn => ?_⟩
        obtain ⟨vc, w', h5, h6⟩ := h4 hf
        refine wp_value ?_ (hn vc w' h6)
        simp [execOp, ho, resolve, hc, e1, e2, invoke, builtin, h5]
      · simp at hh
    · rename_i hc
      split at hh
      · rename_i x y t tx h1 h2
        have e1 : c.args = #[x, y] := by apply Array.ext'; simpa using h1
        have e2 : c.argTypes = #[t, tx] := by apply Array.ext'; simpa using h2
        obtain ⟨val, ups, h3, vc, w', h5, h6⟩ := acopy_sound (tx := tx) (ty := o.type) S hl hh (rep_ev SS x) (rep_ev SS y)
        refine ⟨val, ups, h3, fun hf hn => ?_⟩
        refine wp_value ?_ (hn vc w' h6)
        simp [execOp, ho, resolve, hc, e1, e2, invoke, builtin, h5]
      · simp at hh
    · rename_i fo hc
      split at hh
      · rename_i f caps hf
        have h1 := rep_ev SS fo
        rw [hf, Rep] at h1
        obtain ⟨cs, h2, h3⟩ := h1
        obtain ⟨hbody, hh⟩ := uc hh
        obtain ⟨val, ups, h4, h5⟩ := hC R r k J β h w g d f _ _ S hl hh ((reps_map SS c.args.toList).append h3)
        refine ⟨val, ups, h4, fun hfr hn => ?_⟩
        have hcall := h5 hfr
        unfold hasBody at hbody
        cases hfn : E.P.funcs[f]? with
        | none => rw [hfn] at hbody; simp at hbody
        | some fn =>
          rw [hfn] at hbody
          simp at hbody
          obtain ⟨hb1, hb2⟩ := hbody
          have hb3 : fn.body.isNone = false := by cases hq : fn.body <;> simp_all
          have hargs : c.args.map a.eval ++ (⟨cs⟩ : Array Value) = (c.args.toList.map a.eval ++ cs).toArray := by apply Array.ext'; simp
          have hrun : (execOp a.eval o).run E.P w = .ok (.enter f (c.args.toList.map a.eval ++ cs).toArray) w := by
            simp only [execOp, ho, Sem.run_bind, resolve, hc, h2, Deferred.ofValue, Sem.run_pure, Result.andThen_ok, invoke, callFunc, run_program, hfn]
            simp [hb2, hb3, hargs]
          unfold Oper.wp
          rw [hrun]
          refine Calls.mono hcall ?_
          rintro e w' ⟨vc, rfl, hd⟩
          exact hn vc w' hd
      · simp at hh
    · simp at hh
  · simp at hh
end
end Gx
