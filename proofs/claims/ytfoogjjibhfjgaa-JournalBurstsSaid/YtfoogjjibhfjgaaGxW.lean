/- A part of the proof: what it holds is said at each theorem. -/
import Derived.Test.YtfoogjjibhfjgaaGxV
set_option linter.unusedVariables false
namespace Gx
open Go

theorem allIn_at {ids : List Nat} : ∀ {l : List Nat}, allIn ids l = true → ∀ b ∈ l, b ∈ ids
  | [], _, b, hb => by simp at hb
  | i :: r, h, b, hb => by
    rw [allIn] at h
    simp at h
    rcases List.mem_cons.1 hb with rfl | hb
    · exact memN_iff.1 h.1
    · exact allIn_at h.2 b hb

theorem assoc_numbered {d : Nat} : ∀ {l : List Nat} {base b : Nat}, b ∈ l → base ≤ assoc d (numbered base l) b ∧ assoc d (numbered base l) b < base + l.length
  | [], base, b, hb => by simp at hb
  | i :: r, base, b, hb => by
    rw [numbered, assoc]
    cases hi : Nat.beq i b with
    | true => simp
    | false =>
      have hne := beqF' hi
      have hm : b ∈ r := by
        rcases List.mem_cons.1 hb with h | h
        · exact absurd h.symm hne
        · exact h
      have := assoc_numbered (d := d) (base := base + 1) hm
      simp only [cond_false, List.length_cons]
      omega

theorem canonR_root {free ids : List Nat} {b : Nat} (h : keepsName free b = true) : canonR free ids b = b := by unfold canonR; rw [h]; rfl
theorem canonR_other {free ids : List Nat} {b : Nat} (h : keepsName free b = false) (hb : b ∈ ids) : 300000 ≤ canonR free ids b := by
  unfold canonR canonT; rw [h]
  exact (assoc_numbered (List.mem_filter.2 ⟨hb, by simp [h]⟩)).1
theorem isRoot_iff {b : Nat} : isRoot b = true ↔ 100000 ≤ b ∧ b < 200000 := by unfold isRoot; simp
theorem canonR_back {free ids : List Nat} {b c : Nat} (hb : b ∈ ids) (hc : 100000 ≤ c ∧ c < 200000) (he : canonR free ids b = c) : b = c := by
  cases hr : keepsName free b with
  | true => rw [canonR_root hr] at he; exact he
  | false => have := canonR_other hr hb; omega

theorem sget_renS {ρ : Nat → Nat} {K : List Nat} : ∀ {s : Slots} {i : Nat}, sget (renS ρ K s) i = if memN K i = true then renV ρ (sget s i) else .undef
  | [], i => by
    show AV.undef = if memN K i = true then renV ρ .undef else AV.undef
    simp [renV]
  | (t, v) :: r, i => by
    rw [renS]
    by_cases e : t = i
    · subst e
      cases hk : memN K t with
      | true => simp [sget]
      | false => simp only [cond_false]; rw [sget_renS]; simp [hk]
    · have hb : Nat.beq t i = false := beqF e
      cases hk : memN K t with
      | true => simp only [cond_true, sget, hb, cond_false]; exact sget_renS
      | false => simp only [cond_false, sget, hb]; exact sget_renS

theorem liveIds_mem {g : Look} {l : List Nat} {b : Nat} (h : b ∈ liveIds g l) : ∃ x, g b = some x ∧ x.dead = false := by
  unfold liveIds at h
  obtain ⟨_, h2⟩ := List.mem_filter.1 h
  unfold vblk at h2
  cases hx : g b with
  | none => simp [hx] at h2
  | some x =>
    cases hd : x.dead with
    | false => exact ⟨x, rfl, hd⟩
    | true => simp [hx, hd] at h2

section
variable {Z : Start} {nt : Nat} {J : Bool → Nat → Prop} {β : Beta} {st st' : St} {a : Act} {w : World}

theorem coerce_sound {live : List Nat} : ∀ (nils : List (Nat × Nat)) {st : St} {β : Beta}, Inv Z nt J β st a w → coerce live nils st = some st' → ∃ β', Inv Z nt J β' st' a w
  | [], st, β, I, hh => by simp [coerce] at hh; subst hh; exact ⟨β, I⟩
  | (t, sz) :: r, st, β, I, hh => by
    rw [coerce] at hh
    split at hh
    · rename_i hm hs
      cases hf : hget st.h (nid t + 15) with
      | some x => simp [hf] at hh
      | none =>
        simp [hf] at hh
        have A := Step.newNone I.sim (d := nid t + 15) (x := emptyBlk sz) hf rfl
        have I1 := I.step A (fun b x hx hn => by
          rw [hget_hput] at hx
          by_cases e : b = nid t + 15
          · subst e; unfold nid newBase; omega
          · rw [if_neg e, hn] at hx; cases hx)
        refine coerce_sound r (β := fun b => if b = nid t + 15 then none else β b) (st := { s := sput st.s t (.own (nid t + 15) 0 0), h := hput st.h (nid t + 15) (emptyBlk sz) }) ?_ hh
        refine { I1 with ss := ⟨fun i v hv => ?_, fun i hi => ?_⟩ }
        · rw [sget_sput]
          by_cases e : i = t
          · subst e
            rw [if_pos rfl, Rep]
            have := I.ss.slot i v hv
            rw [hs, Rep] at this
            subst this
            exact ⟨emptyBlk sz, none, 0, by rw [hget_hput, if_pos rfl], rfl, Nat.le_refl _, .inl rfl⟩
          · rw [if_neg e]; exact I1.ss.slot i v hv
        · rw [sget_sput]
          by_cases e : i = t
          · subst e
            have := I.ss.out i hi
            rw [hs] at this; cases this
          · rw [if_neg e]; exact I1.ss.out i hi
    · exact coerce_sound r I hh

theorem canon_sound {E : Env} {live roots : List Nat} (I : Inv Z nt J β st a w) (hh : canon E live roots st = some st') : ∃ β', Inv Z nt J β' st' a w := by
  unfold canon at hh
  obtain ⟨s1, h1, h2⟩ := ub hh
  obtain ⟨β1, I1⟩ := coerce_sound _ I h1
  obtain ⟨hc, h3⟩ := uc h2
  simp at hc h3
  subst h3
  obtain ⟨hn, hs, hi, _⟩ := hc
  have hn := nodupB_iff hn
  have hin : ∀ b ∈ inner (hget s1.h) (liveIds (hget s1.h) (reach (hget s1.h) (idsS live s1.s ++ roots))), b ∈ liveIds (hget s1.h) (reach (hget s1.h) (idsS live s1.s ++ roots)) := allIn_at hi
  refine ⟨betaR _ _ β1, { I1 with sim := I1.sim.ren hn hin, ss := ⟨fun i v hv => ?_, fun i hi => ?_⟩, wr := fun k hm => I1.wr k (mut_ren hn hm), outs := fun b x0 x h0 hx hd => ?_ }⟩
  · rw [sget_renS]
    cases hk : memN live i with
    | false => simp [Rep]
    | true =>
      simp only [if_true]
      exact Rep.ren hn (fun b hb => allIn_at hs b (idsS_mem hk b hb)) (I1.ss.slot i v hv)
  · rw [sget_renS, I1.ss.out i hi]; simp [renV]
  · obtain ⟨b', x', hb', he, hg, rfl⟩ := sub_get hn b x hx
    have := canonR_back hb' ⟨I1.zge b x0 h0, I1.zlt b x0 h0⟩ he
    subst this
    obtain ⟨e1, e2, e3, e4⟩ := I1.outs b' x0 x' h0 hg hd
    refine ⟨?_, e2, by rw [renB_length]; exact e3, e4⟩
    have := betaR_of (β := β1) hn hb'
    rw [he] at this
    rw [this]; exact e1
end
end Gx
