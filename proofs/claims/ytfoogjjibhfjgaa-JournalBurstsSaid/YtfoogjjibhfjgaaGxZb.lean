/- A part of the proof: what it holds is said at each theorem. -/
import Derived.Test.YtfoogjjibhfjgaaGxZa
set_option linter.unusedVariables false
namespace Gx
open Go

theorem emptyN_iff {l : List Nat} : emptyN l = true ↔ l = [] := by cases l <;> simp [emptyN]

theorem nodup_of_map {α β : Type} {f : α → β} : ∀ {l : List α}, (l.map f).Nodup → l.Nodup
  | [], _ => List.nodup_nil
  | a :: r, h => by
    rw [List.map_cons, List.nodup_cons] at h
    exact List.nodup_cons.2 ⟨fun hm => h.1 (List.mem_map.2 ⟨a, hm, rfl⟩), nodup_of_map h.2⟩
theorem nodup_filter {α : Type} {p : α → Bool} : ∀ {l : List α}, l.Nodup → (l.filter p).Nodup
  | [], _ => List.nodup_nil
  | a :: r, h => by
    rw [List.nodup_cons] at h
    rw [List.filter_cons]
    split
    · exact List.nodup_cons.2 ⟨fun hm => h.1 (List.mem_filter.1 hm).1, nodup_filter h.2⟩
    · exact nodup_filter h.2
theorem numbered_mem {base : Nat} {l : List Nat} {p : Nat × Nat} (hp : p ∈ numbered base l) : p.1 ∈ l := by
  have : p.1 ∈ (numbered base l).map (·.1) := List.mem_map.2 ⟨p, hp, rfl⟩
  rw [numbered_fst] at this; exact this
theorem map_inj {σ : Nat → Nat} : ∀ {l : List Nat} {a b : Nat}, (l.map σ).Nodup → a ∈ l → b ∈ l → σ a = σ b → a = b
  | [], a, b, _, ha, _, _ => by simp at ha
  | i :: r, a, b, hn, ha, hb, he => by
    rw [List.map_cons, List.nodup_cons] at hn
    rcases List.mem_cons.1 ha with h1 | h1 <;> rcases List.mem_cons.1 hb with h2 | h2
    · rw [h1, h2]
    · subst h1; exact absurd (List.mem_map.2 ⟨b, h2, he.symm⟩) hn.1
    · subst h2; exact absurd (List.mem_map.2 ⟨a, h1, he⟩) hn.1
    · exact map_inj hn.2 h1 h2 he

theorem acall_ok {E : Env} (hT : TblOk E.P E.tbl) : CallOk E := by
  intro R r k J β h w g d f args vs S hl hh hv
  unfold acall at hh
  obtain ⟨⟨args', im, fz⟩, hp, h1⟩ := ub hh
  simp only at h1
  obtain ⟨hc, h2⟩ := uc h1
  simp only [Bool.and_eq_true] at hc
  obtain ⟨hal, him, hin, hdj, hnd, _⟩ := hc
  generalize hids : reach g im = ids at *
  generalize hρ : assoc 0 (numbered 100000 ids) = ρ at *
  have hal := aliveAll_at hal
  have him := allIn_at him
  have hdj := disj_at hdj
  have hnd := nodupB_iff hnd
  have hg : ∀ b ∈ ids, g b = hget h b := fun b hb => by obtain ⟨x, hx, _⟩ := hal b hb; rw [hx, hl b x hx]
  rw [inner_congr (g := hget h) hg] at hin
  have hin := allIn_at hin
  rw [sub_congr (g' := hget h) hg] at h2
  obtain ⟨hA, hB⟩ := passArgs_sound (fz := fz) S hl hp (fun _ h => h) hv
  have aliveH : ∀ b ∈ ids, ∃ x, hget h b = some x ∧ x.dead = false := fun b hb => by obtain ⟨x, hx, hd⟩ := hal b hb; exact ⟨x, hl b x hx, hd⟩
  -- the callee's start
  have SJ : SimH (JS J β h fz) (betaR ρ ids β) (sub (hget h) ρ ids) w := by
    refine (S.ren hnd hin).grow (fun o k hj => .inl hj) ?_ ?_ ?_
    · rintro o k (hj | ⟨_, b, x, o', _, hx, hd, _, hβ⟩)
      · exact S.jlt o k hj
      · exact loc_lt S hx hd hβ
    · rintro k (hj | ⟨h0, _⟩)
      · exact .inl (S.jft k hj)
      · cases h0
    · intro c y k o hy hd hs hβ q hj
      obtain ⟨b, x, hb, rfl, hx, rfl⟩ := sub_get hnd c y hy
      rw [betaR_of hnd hb] at hβ
      rcases hj with hj | ⟨_, b', x', o', hb', hx', hd', hs', hβ'⟩
      · rcases S.blk b x hx hd with ⟨e1, _⟩ | ⟨k2, o2, cs2, ty2, fr2, e1, e2, e3, e4, e5, e6, e7⟩
        · rw [hβ] at e1; cases e1
        · rw [hβ] at e1; simp at e1; obtain ⟨rfl, rfl⟩ := e1
          exact e6 hs _ hj
      · have := S.sep b b' x x' k o o' hx hx' hd hd' hs hβ hβ'
        subst this
        exact hdj b hb' hb
  have RJ : Reps (JS J β h fz) (betaR ρ ids β) (sub (hget h) ρ ids) w (renVs ρ args') vs := Reps.ren hnd (fun b hb => him b (hB b hb)) hA
  obtain ⟨rv, rh, hF, h3⟩ := tcall_ok hT h2
  have hcall := hF _ _ w vs SJ RJ
  obtain ⟨horg, h4⟩ := uc' h3
  obtain ⟨hc2, h5⟩ := uc h4
  simp only [Bool.and_eq_true] at hc2
  obtain ⟨hnal, hn16, hrv, houts, hrin, hσn⟩ := hc2
  generalize hall : reach (hget rh) (idsOf rv ++ (numbered 100000 ids).map (·.2)) = all at *
  generalize hnew : all.filter (fun b => !memN ((numbered 100000 ids).map (·.2)) b) = new at *
  generalize hσ : assoc 0 ((numbered 100000 ids).map (fun p => (p.2, p.1)) ++ numbered (nid d) new) = σ at *
  have hnal := aliveAll_at hnal
  have hrv := allIn_at hrv
  have houts := allIn_at houts
  have hrin := allIn_at hrin
  have hσn := nodupB_iff hσn
  have hn16 : new.length ≤ 16 := by simpa using hn16
  refine ⟨_, _, h5, fun hfree => Calls.mono hcall ?_⟩
  rintro e w' ⟨vc, J', β', rfl, F, hR⟩
  refine ⟨vc, rfl, ?_⟩
  -- names
  have back : ∀ b ∈ ids, σ (ρ b) = b := by
    intro b hb
    rw [← hσ, assoc_append, if_pos, ← hρ]
    · exact assoc_back hb
    · rw [List.map_map]
      have := assoc_snd (d := 0) (l := numbered 100000 ids) (b := b) (by rw [numbered_fst]; exact hb)
      rw [hρ] at this
      exact this
  have ρall : ∀ b ∈ ids, ρ b ∈ all := by
    intro b hb
    refine houts _ ?_
    have := assoc_snd (d := 0) (l := numbered 100000 ids) (b := b) (by rw [numbered_fst]; exact hb)
    rw [hρ] at this
    exact this
  have σout : ∀ c ∈ all, c ∈ (numbered 100000 ids).map (·.2) → σ c ∈ ids := by
    intro c _ hc
    rw [← hσ, assoc_append, if_pos (by rw [List.map_map]; exact hc)]
    have := assoc_snd (d := 0) (l := (numbered 100000 ids).map (fun p => (p.2, p.1))) (b := c) (by rw [List.map_map]; exact hc)
    rw [List.map_map] at this
    have e : (numbered 100000 ids).map ((fun x => x.2) ∘ fun p => (p.2, p.1)) = ids := numbered_fst
    rw [e] at this
    exact this
  have newmem : ∀ c ∈ new, c ∈ all ∧ c ∉ (numbered 100000 ids).map (·.2) := by
    intro c hc
    rw [← hnew] at hc
    obtain ⟨h6, h7⟩ := List.mem_filter.1 hc
    refine ⟨h6, fun hm => ?_⟩
    rw [memN_iff.2 hm] at h7; simp at h7
  have σnew : ∀ c ∈ new, σ c = assoc 0 (numbered (nid d) new) c := by
    intro c hc
    rw [← hσ, assoc_append, if_neg]
    rw [List.map_map]; exact (newmem c hc).2
  have allcases : ∀ c ∈ all, c ∈ (numbered 100000 ids).map (·.2) ∨ c ∈ new := by
    intro c hc
    by_cases hm : c ∈ (numbered 100000 ids).map (·.2)
    · exact .inl hm
    · refine .inr ?_
      rw [← hnew]
      refine List.mem_filter.2 ⟨hc, ?_⟩
      cases hq : memN ((numbered 100000 ids).map (·.2)) c with
      | false => rfl
      | true => exact absurd (memN_iff.1 hq) hm
  generalize hups : ((numbered 100000 ids).map fun p => (p.1, (hget rh p.2).map (renB σ))) ++ (numbered (nid d) new).map (fun p => (p.2, (hget rh p.1).map (renB σ))) = ups at *
  have keys : ups.map (·.1) = ids ++ (numbered (nid d) new).map (·.2) := by
    rw [← hups, List.map_append, List.map_map, List.map_map]
    congr 1
    exact numbered_fst
  have newFree : ∀ c ∈ (numbered (nid d) new).map (·.2), hget h c = none := by
    intro c hc
    refine hfree c (inUps_iff.2 (by rw [keys]; exact List.mem_append.2 (.inr hc))) ?_
    have := numbered_snd_mem hc
    unfold isNew
    simp; omega
  have keysN : (ups.map (·.1)).Nodup := by
    rw [keys, List.nodup_append]
    refine ⟨nodup_of_map hnd, numbered_snd_nodup, fun a ha b hb e => ?_⟩
    subst e
    obtain ⟨x, hx, _⟩ := aliveH a ha
    rw [newFree a hb] at hx; cases hx
  have upsOld : ∀ b ∈ ids, (b, (hget rh (ρ b)).map (renB σ)) ∈ ups := by
    intro b hb
    rw [← hups]
    refine List.mem_append.2 (.inl (List.mem_map.2 ⟨(b, ρ b), ?_, rfl⟩))
    rw [← hρ]; exact numbered_at hb
  have upsNew : ∀ c ∈ new, (σ c, (hget rh c).map (renB σ)) ∈ ups := by
    intro c hc
    rw [← hups]
    refine List.mem_append.2 (.inr (List.mem_map.2 ⟨(c, σ c), ?_, rfl⟩))
    rw [σnew c hc]; exact numbered_at hc
  -- what became of what was handed over
  have J0 : ∃ J0 : Bool → Nat → Prop, SimH J0 β' rh w' ∧ Rep J0 β' rh w' rv vc ∧ ∀ o k, J0 o k → J o k ∨ Mut (betaR ρ ids β) (sub (hget h) ρ ids) k ∨ w.heap.size ≤ k := by
    cases he : emptyN fz with
    | true =>
      have := emptyN_iff.1 he
      subst this
      refine ⟨J', F.sim, hR, fun o k hj => ?_⟩
      rcases F.jup o k hj with (hj | ⟨_, b, x, o', hb, _⟩) | hj
      · exact .inl hj
      · simp at hb
      · exact .inr hj
    | false =>
      rw [he] at horg
      simp at horg
      refine ⟨fun _ => J' false, F.sim.noOrg horg.2, Rep.noOrg horg.1 hR, fun o k hj => ?_⟩
      rcases F.jup false k hj with (h6 | ⟨h0, _⟩) | h6
      · left
        cases o
        · exact h6
        · exact S.jft k h6
      · cases h0
      · exact .inr h6
  obtain ⟨J0, S0, R0, jup0⟩ := J0
  have S1 := S0.ren hσn hrin
  have R1 := Rep.ren hσn hrv R0
  have M := Step.merge (J := J) (J0 := J0) (J1 := J0) (H := applyUps ups h) (D := ids ++ (numbered (nid d) new).map (·.2)) (ids := ids) S S1
    (fun b hb => applyUps_other _ _ _ (by
      cases hi : inUps ups b with
      | false => rfl
      | true => exact absurd (by rw [← keys]; exact inUps_iff.1 hi) hb))
    (fun b x hb hx hd => by
      rcases List.mem_append.1 hb with hb | hb
      · rw [applyUps_at keysN (upsOld b hb)] at hx
        cases hq : hget rh (ρ b) with
        | none =>
          rw [hq] at hx; simp at hx
          obtain ⟨y, _, rfl⟩ := hx
          simp [killed] at hd
        | some y =>
          rw [hq] at hx; simp at hx; subst hx
          have := sub_mem (g := hget rh) hσn (ρ b) y (ρall b hb) hq
          rw [back b hb] at this
          exact this
      · obtain ⟨c, hc, rfl⟩ : ∃ c ∈ new, σ c = b := by
          obtain ⟨p, hp, rfl⟩ := List.mem_map.1 hb
          have hp1 : p.1 ∈ new := numbered_mem hp
          refine ⟨p.1, hp1, ?_⟩
          rw [σnew _ hp1]
          have : ∀ {base : Nat} {l : List Nat} {p : Nat × Nat}, l.Nodup → p ∈ numbered base l → assoc 0 (numbered base l) p.1 = p.2 := by
            intro base l
            induction l generalizing base with
            | nil => intro p _ hp; simp [numbered] at hp
            | cons i r ih =>
              intro p hn hp
              rw [List.nodup_cons] at hn
              rw [numbered] at hp ⊢
              rw [assoc]
              rcases List.mem_cons.1 hp with rfl | hp
              · simp
              · have : p.1 ∈ r := numbered_mem hp
                rw [beqF (fun e => hn.1 (by rw [e]; exact this))]
                exact ih hn.2 hp
          refine this ?_ hp
          rw [← hnew]
          exact nodup_filter (nodup_of_map hσn)
        rw [applyUps_at keysN (upsNew c hc)] at hx
        obtain ⟨y, hy, _⟩ := hnal c hc
        rw [hy] at hx; simp at hx; subst hx
        exact sub_mem (g := hget rh) hσn c y (newmem c hc).1 hy)
    (fun b x hb => by
      obtain ⟨c, y, hc, rfl, hy, rfl⟩ := sub_get hσn b x hb
      rcases allcases c hc with hm | hm
      · have h6 := σout c hc hm
        have h7 : ρ (σ c) = c := by
          have : (all.map σ).Nodup := hσn
          have e1 := back (σ c) h6
          have e2 := ρall (σ c) h6
          exact map_inj this e2 hc e1
        refine ⟨List.mem_append.2 (.inl h6), ?_⟩
        rw [applyUps_at keysN (upsOld (σ c) h6), h7, hy]; rfl
      · refine ⟨List.mem_append.2 (.inr ?_), ?_⟩
        · rw [σnew c hm]
          exact assoc_snd (by rw [numbered_fst]; exact hm)
        · rw [applyUps_at keysN (upsNew c hm), hy]; rfl)
    (fun b x hb hni hx => by
      rcases List.mem_append.1 hb with hb | hb
      · exact hni hb
      · rw [newFree b hb] at hx; cases hx)
    (fun b x hb hx => by
      rw [applyUps_at keysN (upsOld b hb)]
      cases hq : hget rh (ρ b) with
      | none => exact ⟨killed x, by simp [hx], .inl rfl⟩
      | some y =>
        refine ⟨renB σ y, by simp, ?_⟩
        cases hd : y.dead with
        | true => exact .inl hd
        | false =>
          right
          have e0 := sub_mem (g := hget h) hnd b x hb hx
          obtain ⟨e1, e2, e3, e4⟩ := F.outs (ρ b) _ y e0 hq hd
          refine ⟨e4, ?_, e2, ?_⟩
          · have := betaR_of (β := β') hσn (ρall b hb)
            rw [back b hb] at this
            rw [this, e1]
            exact betaR_of hnd hb
          · rw [renB_length, e3, renB_length])
    (fun b hb => List.mem_append.2 (.inl hb))
    F.os F.tape F.output F.size
    (fun k hk hm => F.frame k hk (fun hm' => hm (mut_ren' hnd hm')))
    (fun k hm hk => mut_ren' hnd (F.wr k (mut_ren hσn hm) hk))
    (fun o k hj => by
      rcases jup0 o k hj with hj | hj | hj
      · exact .inl hj
      · exact .inr (.inl (mut_ren' hnd hj))
      · exact .inr (.inr hj))
    F.sizes
  exact ⟨_, _, M.1, Rep.ext M.2 R1⟩

/-- The body of a function over twins that hold is a twin that holds. -/
theorem execF_sound {P : Program} {muts : Nat → List Bool} {T : List (Nat × Tw)} {hs : Hints} {N f : Nat} {args : List AV} {h : Heap} {res : AV} {h' : Heap} (hT : TblOk P T) (hm : P.follows .mixedOrders = true)
    (hh : execF P muts T hs N f args h (fun v h' => some (v, h')) = some (res, h')) : FOk P f args h res h' := by
  unfold execF at hh
  split at hh
  · simp at hh
  · rename_i fn hfn
    split at hh
    · simp at hh
    · rename_i c hc
      simp only at hh
      obtain ⟨hc1, h1⟩ := uc hh
      simp only [Bool.and_eq_true] at hc1
      obtain ⟨hlen, hroot⟩ := hc1
      have hlen : args.length ≤ fn.ntmps := by simpa using hlen
      intro J β w vs S hv
      have hvl : vs.length = args.length := ((Reps_iff).1 hv).1
      refine calls_of_wp hfn hc ?_
      have roots : ∀ {h : Heap} {b : Nat} {x : Blk}, rootsOk h = true → hget h b = some x → isRoot b = true := by
        intro h
        induction h with
        | nil => intro b x _ hb; simp [hget] at hb
        | cons p r ih =>
          intro b x hr hb
          obtain ⟨i, y⟩ := p
          rw [rootsOk] at hr
          simp at hr
          rw [hget] at hb
          cases hi : Nat.beq i b with
          | true => have := Nat.eq_of_beq_eq_true hi; subst this; exact hr.1
          | false => rw [hi] at hb; exact ih hr.2 (by simpa using hb)
      have sgetI : ∀ {args : List AV} {j i : Nat}, sget (initS j args) i = if j ≤ i then (args[i - j]?).getD .undef else .undef := by
        intro args
        induction args with
        | nil => intro j i; simp [initS, sget]
        | cons v r ih =>
          intro j i
          rw [initS, sget]
          cases hi : Nat.beq j i with
          | true => have := Nat.eq_of_beq_eq_true hi; subst this; simp
          | false =>
            have := beqF' hi
            simp only [cond_false]
            rw [ih]
            by_cases hji : j + 1 ≤ i
            · rw [if_pos hji, if_pos (by omega), show i - j = (i - (j + 1)) + 1 by omega]; simp
            · rw [if_neg hji]
              by_cases h2 : j ≤ i
              · omega
              · rw [if_neg h2]
      have I : Inv ⟨J, β, h, w⟩ fn.ntmps J β { s := initS 0 args, h := h } { tmps := vs.toArray ++ Array.replicate (fn.ntmps - vs.toArray.size) undef, defers := [] } w := by
        refine ⟨S, ⟨fun i v hi => ?_, fun i hi => ?_⟩, ?_, rfl, rfl, rfl, rfl, Nat.le_refl _, fun _ _ _ => rfl, fun _ hm _ => hm, fun _ _ hj => hj, fun _ _ hj => .inl hj, fun _ => Nat.le_refl _, ?_, ?_, ?_⟩
        · rw [sgetI, if_pos (Nat.zero_le _)]
          by_cases hlt : i < args.length
          · have h2 : args[i - 0]? = some args[i] := by simp [hlt]
            rw [h2]
            have h3 : vs[i]? = some v := by
              rw [Array.getElem?_append_left (by simp; omega)] at hi
              simpa using hi
            exact ((Reps_iff).1 hv).2 i _ _ (by simp [hlt]) h3
          · have h2 : args[i - 0]? = none := by simp; omega
            rw [h2]; simp [Rep]
        · simp at hi
          rw [sgetI, if_pos (Nat.zero_le _)]
          have h2 : args[i - 0]? = none := by simp; omega
          rw [h2]; rfl
        · simp; omega
        · intro b x0 hb; exact (isRoot_iff.1 (roots hroot hb)).2
        · intro b x0 hb; exact (isRoot_iff.1 (roots hroot hb)).1
        · intro b x0 x hb hx hd
          change hget h b = some x0 at hb
          change hget h b = some x at hx
          rw [hb] at hx; simp at hx; subst hx
          exact ⟨rfl, rfl, rfl, hd⟩
      have fin : ∀ st' a' w' J' β', Inv ⟨J, β, h, w⟩ fn.ntmps J' β' st' a' w' → afinish { P := P, nt := fn.ntmps, muts := muts, nils := hs.nils, free := hs.free, tbl := T } fn hs.modes (h.map (·.1)) (fun v h' => some (v, h')) st' = some (res, h') →
          a'.defers = [] ∧ ∃ v, (results fn a'.tmps).run P w' = .ok v w' ∧ ∃ vc J' β', Ending.returned v = .returned vc ∧ FDone ⟨J, β, h, w⟩ J' β' h' w' ∧ Rep J' β' h' w' res vc := by
        intro st' a' w' J' β' I' h2
        obtain ⟨res2, h2', vc, J2, β2, h3, h4, h5, h6⟩ := afinish_sound I' h2
        simp at h3
        obtain ⟨rfl, rfl⟩ := h3
        exact ⟨I'.defers, vc, h4, vc, J2, β2, rfl, h5, h6⟩
      exact acode_sound (E := { P := P, nt := fn.ntmps, muts := muts, nils := hs.nils, free := hs.free, tbl := T }) (acall_ok hT) hm c I h1 fin (fun _ _ _ _ _ _ _ h2 => by simp at h2) fin
end Gx
