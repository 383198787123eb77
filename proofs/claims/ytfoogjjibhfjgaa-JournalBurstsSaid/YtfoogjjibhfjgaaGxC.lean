/- A part of the proof: what it holds is said at each theorem. -/
import Derived.Test.YtfoogjjibhfjgaaGxB
import Derived.Deep.MidRow
import Derived.Deep.AppendSrc
set_option linter.unusedVariables false
namespace Gx
open Go
section
variable {R : Type} {r : R} {P : Program} {J : Bool → Nat → Prop} {β : Beta} {h : Heap} {w : World}

theorem ub {α : Type} {o : Option α} {f : α → Option R} (hh : o.bind f = some r) : ∃ x, o = some x ∧ f x = some r := by
  cases o with
  | none => simp at hh
  | some x => exact ⟨x, rfl, by simpa using hh⟩
theorem uc {b : Bool} {x : Option R} (hh : cond b x none = some r) : b = true ∧ x = some r := by
  cases b <;> simp at hh; exact ⟨rfl, hh⟩
theorem uc' {b : Bool} {x : Option R} (hh : cond b none x = some r) : b = false ∧ x = some r := by
  cases b <;> simp at hh; exact ⟨rfl, hh⟩

theorem aun_sound {op : UnOp} {x v : AV} {vx : Value} (hh : aun op x = some v) (hx : Rep J β h w x vx) :
    ∃ vc, (Op.unary op vx).run P w = .ok vc w ∧ Rep J β h w v vc := by
  unfold aun at hh
  split at hh
  · rename_i k n
    rw [Rep] at hx; subst hx; simp at hh; subst hh
    refine ⟨.int k (k.wrap (-n)), by simp [Op.unary, Op.intArith], ?_⟩
    rw [Rep]
  · rename_i k n
    rw [Rep] at hx; subst hx
    have hh' := hh
    rw [intBin] at hh'
    simp only [Option.some.injEq] at hh'; subst hh'
    refine ⟨_, rfl, ?_⟩
    rw [Rep]; cases k.signed <;> rfl
  · rename_i b
    rw [Rep] at hx; subst hx; simp at hh; subst hh
    exact ⟨.bool (!b), by simp [Op.unary], by rw [Rep]⟩
  · simp at hh

/-- The cells that rd reads are a value of type t, for which v stands. -/
def Reads (P : Program) (J : Bool → Nat → Prop) (β : Beta) (h : Heap) (w : World) (t : TypeId) (rd : Nat → Option Value) (v : AV) : Prop :=
  (∃ d, P.underlying t = some d ∧ d.isRow = false ∧ ∃ u, rd 0 = some u ∧ Rep J β h w v u) ∨
  (∃ d, P.underlying t = some d ∧ d.isRow = true ∧ ∃ us : List Value, (P.info? t).map (·.size) = some us.length ∧ (∀ j u, us[j]? = some u → rd j = some u) ∧ Rep J β h w v (.agg us.toArray))

theorem RepCs.at {J : Nat → Prop} {c : List AV} {rd : Nat → Option Value} (hc : RepCs J w c rd 0) {j : Nat} {x : AV} (hj : c[j]? = some x) : ∃ u, rd j = some u ∧ RepC J w x u := by
  have := RepCs_iff.1 hc j x hj; simpa using this

theorem RepCs.drop {J : Nat → Prop} {c : List AV} {rd : Nat → Option Value} (hc : RepCs J w c rd 0) (n : Nat) : RepCs J w (c.drop n) (fun j => rd (n + j)) 0 := by
  rw [RepCs_iff] at hc ⊢
  intro j x hj
  rw [List.getElem?_drop] at hj
  simpa using hc (n + j) x hj
theorem RepCs.take {J : Nat → Prop} {c : List AV} {rd : Nat → Option Value} (hc : RepCs J w c rd 0) (n : Nat) : RepCs J w (c.take n) rd 0 := by
  rw [RepCs_iff] at hc ⊢
  intro j x hj
  rw [List.getElem?_take] at hj
  split at hj
  · exact hc j x hj
  · simp at hj

theorem RepCs.list {J : Nat → Prop} {c : List AV} {rd : Nat → Option Value} (hc : RepCs J w c rd 0) :
    ∃ us : List Value, us.length = c.length ∧ (∀ j u, us[j]? = some u → rd j = some u) ∧ RepCs J w c (fun j => us[j]?) 0 := by
  refine ⟨c.zipIdx.map fun p => (rd p.2).getD undef, by simp, fun j u hj => ?_, ?_⟩
  · rw [List.getElem?_map, List.getElem?_zipIdx] at hj
    cases hx : c[j]? with
    | none => rw [hx] at hj; simp at hj
    | some x =>
      rw [hx] at hj
      obtain ⟨u', hu, _⟩ := hc.at hx
      simp [hu] at hj
      rw [hu, hj]
  · rw [RepCs_iff]
    intro j x hj
    obtain ⟨u, hu, hr⟩ := hc.at hj
    refine ⟨u, ?_, hr⟩
    simp [hj, hu]

theorem plainZ_free {J1 J2 : Nat → Prop} : ∀ {c : List AV} {rd : Nat → Option Value} {i : Nat}, plainZ c = true → RepCs J1 w c rd i → RepCs J2 w c rd i
  | [], _, _, _, _ => trivial
  | x :: r, rd, i, hp, hc => by
    rw [RepCs] at hc ⊢
    obtain ⟨⟨u, h1, h2⟩, h3⟩ := hc
    have hr : plainZ r = true := by unfold plainZ at hp; split at hp <;> simp_all
    refine ⟨⟨u, h1, ?_⟩, plainZ_free hr h3⟩
    unfold plainZ at hp
    split at hp <;> simp_all [RepC]
theorem plainly_sound {t : TypeId} {c : List AV} {org : Bool} {k : Bool → Option R} {rd : Nat → Option Value} {i : Nat} (hh : plainly P t c org k = some r) (hc : RepCs (J org) w c rd i) : ∃ o, k o = some r ∧ RepCs (J o) w c rd i := by
  unfold plainly at hh
  cases hp : ptrsT P t with
  | true => rw [hp] at hh; exact ⟨org, hh, hc⟩
  | false =>
    rw [hp, cond_false] at hh
    obtain ⟨h1, h2⟩ := uc hh
    refine ⟨false, h2, ?_⟩
    cases org with
    | false => exact hc
    | true => exact plainZ_free (by simpa using h1) hc
theorem readT_sound {t : TypeId} {c : List AV} {org : Bool} {k : AV → Option R} {rd : Nat → Option Value} (hh : readT P t c org k = some r) (hc : RepCs (J org) w c rd 0) :
    ∃ v, k v = some r ∧ Reads P J β h w t rd v := by
  unfold readT at hh
  have agg : ∀ {d : TypeDesc}, P.underlying t = some d → d.isRow = true → ((sizeT P t).bind fun n => cond (Nat.ble n c.length) (plainly P t (c.take n) org fun o => k (.pagg (c.take n) o)) none) = some r →
      ∃ v, k v = some r ∧ Reads P J β h w t rd v := by
    intro d hu hd hh
    obtain ⟨n, hn, hh⟩ := ub hh
    obtain ⟨hle, hh⟩ := uc hh
    have hle' : n ≤ c.length := by simpa using hle
    obtain ⟨us, h1, h2, h3⟩ := (hc.take n).list
    have hl : us.length = n := by rw [h1]; simp; omega
    obtain ⟨o, hh, h4⟩ := plainly_sound hh h3
    refine ⟨_, hh, .inr ⟨d, hu, hd, us, ?_, h2, ?_⟩⟩
    · rw [hl]; exact hn
    · rw [Rep]; exact ⟨us, rfl, by rw [h1], h4⟩
  split at hh
  · rename_i kd hu
    obtain ⟨x, hx, hh⟩ := ub hh
    obtain ⟨n, hn, hh⟩ := ub hh
    obtain ⟨u, h1, h2⟩ := hc.at (by rw [← List.head?_eq_getElem?]; exact hx)
    refine ⟨_, hh, .inl ⟨_, hu, rfl, u, h1, ?_⟩⟩
    unfold asInt at hn
    split at hn
    · obtain ⟨hk, hn'⟩ := uc hn
      simp [kindEq] at hk hn'; subst hk; subst hn'
      rw [RepC] at h2; rw [Rep]; exact h2
    · simp at hn
  · rename_i hu
    obtain ⟨x, hx, hh⟩ := ub hh
    obtain ⟨n, hn, hh⟩ := ub hh
    obtain ⟨u, h1, h2⟩ := hc.at (by rw [← List.head?_eq_getElem?]; exact hx)
    refine ⟨_, hh, .inl ⟨_, hu, rfl, u, h1, ?_⟩⟩
    unfold asBool at hn
    split at hn
    · simp at hn; subst hn
      rw [RepC] at h2; rw [Rep]; exact h2
    · simp at hn
  · rename_i hu
    obtain ⟨x, hx, hh⟩ := ub hh
    obtain ⟨n, hn, hh⟩ := ub hh
    obtain ⟨u, h1, h2⟩ := hc.at (by rw [← List.head?_eq_getElem?]; exact hx)
    refine ⟨_, hh, .inl ⟨_, hu, rfl, u, h1, ?_⟩⟩
    unfold asStr at hn
    split at hn
    · simp at hn; subst hn
      rw [RepC] at h2; rw [Rep]; exact h2
    · simp at hn
  · rename_i e hu
    obtain ⟨sz, hsz, hh⟩ := ub hh
    obtain ⟨x, hx, hh⟩ := ub hh
    obtain ⟨p, hp, hh⟩ := ub hh
    obtain ⟨u, h1, h2⟩ := hc.at (by rw [← List.head?_eq_getElem?]; exact hx)
    refine ⟨_, hh, .inl ⟨_, hu, rfl, u, h1, ?_⟩⟩
    unfold asSl at hp
    rw [Rep, RepC]
    split at hp
    · obtain ⟨hk, hp'⟩ := uc hp
      simp at hk hp'; subst hk; subst hp'
      rw [RepC] at h2
      obtain ⟨h3, A, cap, h4, h5, h6, h7⟩ := h2
      exact ⟨h3, A, cap, h4, h5, by simp, h7⟩
    · simp at hp; subst hp
      rw [RepC] at h2
      exact ⟨by simp, none, 0, h2, by simp, by simp, .inl rfl⟩
    · simp at hp
  · rename_i hu; exact agg hu rfl hh
  · rename_i hu; exact agg hu rfl hh
  · simp at hh

theorem Reps.length : ∀ {c : List AV} {cs : List Value}, Reps J β h w c cs → cs.length = c.length
  | [], cs, hr => by rw [Reps] at hr; simp [hr]
  | x :: r, cs, hr => by
    rw [Reps] at hr
    obtain ⟨u, us, rfl, _, h3⟩ := hr
    simp [Reps.length h3]
theorem Reps_iff : ∀ {c : List AV} {cs : List Value}, Reps J β h w c cs ↔ cs.length = c.length ∧ ∀ (j : Nat) (x : AV) (u : Value), c[j]? = some x → cs[j]? = some u → Rep J β h w x u
  | [], cs => by rw [Reps]; simp
  | x :: r, cs => by
    rw [Reps]
    constructor
    · rintro ⟨u, us, rfl, h2, h3⟩
      rw [Reps_iff] at h3
      refine ⟨by simp [h3.1], fun j y v hy hv => ?_⟩
      cases j with
      | zero => simp at hy hv; subst hy hv; exact h2
      | succ j => exact h3.2 j y v (by simpa using hy) (by simpa using hv)
    · rintro ⟨h1, h2⟩
      cases cs with
      | nil => simp at h1
      | cons u us =>
        refine ⟨u, us, rfl, h2 0 x u (by simp) (by simp), ?_⟩
        rw [Reps_iff]
        exact ⟨by simpa using h1, fun j y v hy hv => h2 (j + 1) y v (by simpa using hy) (by simpa using hv)⟩

theorem takeT_sound {t : TypeId} {c : List AV} {k : AV → Option R} {rd : Nat → Option Value} (hh : takeT P t c k = some r)
    (hc : ∀ j x, c[j]? = some x → ∃ u, rd j = some u ∧ Rep J β h w x u) :
    ∃ v, k v = some r ∧ Reads P J β h w t rd v := by
  unfold takeT at hh
  have agg : ∀ {d : TypeDesc}, P.underlying t = some d → d.isRow = true → ((sizeT P t).bind fun n => cond (Nat.ble n c.length) (k (.agg (c.take n))) none) = some r →
      ∃ v, k v = some r ∧ Reads P J β h w t rd v := by
    intro d hu hd hh
    obtain ⟨n, hn, hh⟩ := ub hh
    obtain ⟨hle, hh⟩ := uc hh
    have hle' : n ≤ c.length := by simpa using hle
    refine ⟨_, hh, .inr ⟨d, hu, hd, (c.take n).zipIdx.map fun p => (rd p.2).getD undef, ?_, fun j u hj => ?_, ?_⟩⟩
    · simp; rw [Nat.min_eq_left hle']; exact Option.map_eq_some_iff.1 hn
    · rw [List.getElem?_map, List.getElem?_zipIdx] at hj
      cases hx : (c.take n)[j]? with
      | none => rw [hx] at hj; simp at hj
      | some x =>
        rw [hx] at hj
        rw [List.getElem?_take] at hx
        split at hx
        · obtain ⟨u', hu', _⟩ := hc j x hx
          simp [hu'] at hj
          rw [hu', hj]
        · simp at hx
    · rw [Rep]
      refine ⟨_, rfl, Reps_iff.2 ⟨by simp, fun j x u hx hu => ?_⟩⟩
      simp [hx] at hu
      rw [List.getElem?_take] at hx
      split at hx
      · obtain ⟨u', hu', hr⟩ := hc j x hx
        simp [hu'] at hu; subst hu; exact hr
      · simp at hx
  split at hh
  · rename_i hu; exact agg hu rfl hh
  · rename_i hu; exact agg hu rfl hh
  · rename_i d _ _ hu
    obtain ⟨x, hx, hh⟩ := ub hh
    obtain ⟨u, h1, h2⟩ := hc 0 x (by rw [← List.head?_eq_getElem?]; exact hx)
    refine ⟨x, hh, .inl ⟨d, hu, ?_, u, h1, h2⟩⟩
    cases d <;> simp_all
  · simp at hh

theorem run_isAgg {t : TypeId} {d : TypeDesc} (hu : P.underlying t = some d) : (isAgg t).run P w = .ok d.isRow w := by
  unfold isAgg
  rw [Sem.run_bind, run_underlying hu w]
  cases d <;> simp

theorem load_of_reads {t : TypeId} {a : Addr} {v : AV} (hr : Reads P J β h w t (fun j => w.cell? (a.add j)) v) : ∃ vc, (loadVar t a).run P w = .ok vc w ∧ Rep J β h w v vc := by
  rcases hr with ⟨d, hu, hd, u, h1, h2⟩ | ⟨d, hu, hd, us, h1, h2, h3⟩
  · refine ⟨u, ?_, h2⟩
    have h1' : w.cell? a = some u := by simpa [Addr.add] using h1
    simp [loadVar, run_isAgg hu, hd, h1']
  · refine ⟨_, ?_, h3⟩
    have hl := run_loadCells_list (P := P) w a us h2
    cases hq : P.info? t with
    | none => simp [hq] at h1
    | some i =>
      have hs : i.size = us.length := by simpa [hq] using h1
      simp [loadVar, Sem.run_bind, run_isAgg hu, hd, Go.sizeOf, typeInfo, hq, hs, hl]

theorem part_of_reads {t : TypeId} {cs : List Value} {off : Nat} {v : AV} (hr : Reads P J β h w t (fun j => cs[off + j]?) v) : ∃ vc, (part t ⟨cs⟩ off).run P w = .ok vc w ∧ Rep J β h w v vc := by
  rcases hr with ⟨d, hu, hd, u, h1, h2⟩ | ⟨d, hu, hd, us, h1, h2, h3⟩
  · refine ⟨u, ?_, h2⟩
    simp at h1
    simp [part, run_isAgg hu, hd, h1]
  · refine ⟨_, ?_, h3⟩
    cases hq : P.info? t with
    | none => simp [hq] at h1
    | some i =>
      have hs : i.size = us.length := by simpa [hq] using h1
      have : (⟨cs⟩ : Array Value).extract off (off + us.length) = us.toArray := by
        apply Array.ext'
        simp
        apply List.ext_getElem?
        intro j
        rw [List.getElem?_take, List.getElem?_drop]
        split
        · rename_i hj
          rw [List.getElem?_eq_getElem hj]
          exact h2 j _ (List.getElem?_eq_getElem hj)
        · rename_i hj
          rw [List.getElem?_eq_none (by omega)]
      simp only [part, Sem.run_bind, run_isAgg hu, hd, Go.sizeOf, typeInfo, run_program, Result.andThen_ok, hq, Sem.run_pure, hs, if_true, this]
end
end Gx
