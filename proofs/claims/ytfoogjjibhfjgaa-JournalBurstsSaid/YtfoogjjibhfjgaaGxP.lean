/- A part of the proof: what it holds is said at each theorem. -/
import Derived.Test.YtfoogjjibhfjgaaGxO
set_option linter.unusedVariables false
namespace Gx
open Go

theorem memN_iff : ∀ {l : List Nat} {b : Nat}, memN l b = true ↔ b ∈ l
  | [], b => by simp [memN]
  | i :: r, b => by
    rw [memN]
    cases hi : Nat.beq i b with
    | true => have := Nat.eq_of_beq_eq_true hi; subst this; simp
    | false => have := beqF' hi; simp only [cond_false, List.mem_cons]; rw [memN_iff]; constructor
               · exact fun h => .inr h
               · rintro (h | h)
                 · exact absurd h.symm this
                 · exact h
theorem nodupB_iff : ∀ {l : List Nat}, nodupB l = true → l.Nodup
  | [], _ => List.nodup_nil
  | i :: r, h => by
    rw [nodupB] at h; simp at h
    refine List.nodup_cons.2 ⟨fun hm => ?_, nodupB_iff h.2⟩
    rw [memN_iff.2 hm] at h; simp at h
theorem covers_at {g : Look} {ids : List Nat} : ∀ {l : List Nat}, covers g ids l = true → ∀ b ∈ l, ∀ x, vblk g b = some x → b ∈ ids
  | [], _, b, hb, _, _ => by simp at hb
  | i :: r, h, b, hb, x, hx => by
    rw [covers] at h; simp at h
    rcases List.mem_cons.1 hb with e | hb
    · subst e
      rcases h.1 with h1 | h1
      · exact memN_iff.1 h1
      · rw [hx] at h1; simp at h1
    · exact covers_at h.2 b hb x hx
theorem newOk_at : ∀ {l : List Nat}, newOk l = true → ∀ b ∈ l, newBase ≤ b → oldId b < 100000
  | [], _, b, hb, _ => by simp at hb
  | i :: r, h, b, hb, hn => by
    rw [newOk] at h; simp at h
    rcases List.mem_cons.1 hb with e | hb
    · subst e
      have : Nat.ble newBase b = true := by simpa using hn
      rw [this] at h; simpa using h.1
    · exact newOk_at h.2 b hb hn

theorem cleanVs_length (g : Look) : ∀ c : List AV, (cleanVs g c).length = c.length
  | [] => rfl
  | x :: r => by rw [cleanVs, List.length_cons, List.length_cons, cleanVs_length g r]

section
variable {R : Type} {r : R} {Z : Start} {nt : Nat} {J J' : Bool → Nat → Prop} {β β' : Beta} {st : St} {h h' : Heap} {a : Act} {w w' : World} {ids : List Nat}

/-- What a block becomes. -/
def cleanB (g : Look) (x : Blk) : Blk := { x with cells := cond x.pure x.cells (cleanVs g x.cells) }

theorem cleanH_get {g : Look} : ∀ {ids : List Nat}, (ids.map oldId).Nodup → ∀ c y, hget (cleanH g ids) c = some y → ∃ b x, b ∈ ids ∧ oldId b = c ∧ vblk g b = some x ∧ y = cleanB g x
  | [], _, c, y, hc => by simp [cleanH, hget] at hc
  | b :: r, hn, c, y, hc => by
    rw [List.map_cons, List.nodup_cons] at hn
    rw [cleanH] at hc
    split at hc
    · rename_i x hx
      rw [hget_hput] at hc
      by_cases e : c = oldId b
      · rw [if_pos e] at hc; simp at hc
        exact ⟨b, x, by simp, e.symm, hx, hc.symm⟩
      · rw [if_neg e] at hc
        obtain ⟨b', x', h1, h2, h3, h4⟩ := cleanH_get hn.2 c y hc
        exact ⟨b', x', by simp [h1], h2, h3, h4⟩
    · obtain ⟨b', x', h1, h2, h3, h4⟩ := cleanH_get hn.2 c y hc
      exact ⟨b', x', by simp [h1], h2, h3, h4⟩
theorem cleanH_mem {g : Look} : ∀ {ids : List Nat}, (ids.map oldId).Nodup → ∀ b x, b ∈ ids → vblk g b = some x → hget (cleanH g ids) (oldId b) = some (cleanB g x)
  | [], _, b, x, hb, _ => by simp at hb
  | b' :: r, hn, b, x, hb, hx => by
    rw [List.map_cons, List.nodup_cons] at hn
    rw [cleanH]
    by_cases e : b = b'
    · subst e
      rw [hx]
      simp only
      rw [hget_hput, if_pos rfl]; rfl
    · have hm : b ∈ r := by simpa [e] using hb
      have ne : oldId b ≠ oldId b' := fun h => hn.1 (by rw [← h]; exact List.mem_map.2 ⟨b, hm, rfl⟩)
      split
      · rw [hget_hput, if_neg ne]; exact cleanH_mem hn.2 b x hm hx
      · exact cleanH_mem hn.2 b x hm hx

def backId (ids : List Nat) (c : Nat) : Option Nat := ids.find? fun b => Nat.beq (oldId b) c
theorem backId_of (hn : (ids.map oldId).Nodup) {b : Nat} (hb : b ∈ ids) : backId ids (oldId b) = some b := by
  induction ids with
  | nil => simp at hb
  | cons i r ih =>
    rw [List.map_cons, List.nodup_cons] at hn
    unfold backId at ih ⊢
    rw [List.find?_cons]
    by_cases e : b = i
    · subst e; simp
    · have hm : b ∈ r := by simpa [e] using hb
      have ne : oldId i ≠ oldId b := fun h => hn.1 (by rw [h]; exact List.mem_map.2 ⟨b, hm, rfl⟩)
      rw [beqF ne]; exact ih hn.2 hm

/-- Everything that is alive and named is taken along. -/
def Along (g : Look) (ids : List Nat) (l : List Nat) : Prop := ∀ b ∈ l, ∀ x, vblk g b = some x → b ∈ ids

theorem vblk_hget {b : Nat} : vblk (hget h) b = (hget h b).bind fun x => cond x.dead none (some x) := rfl
theorem vblk_none {b : Nat} {x : Blk} (hx : hget h b = some x) (hv : vblk (hget h) b = none) : x.dead = true := by
  rw [vblk_hget, hx] at hv
  cases hd : x.dead with
  | true => rfl
  | false => simp [hd] at hv
theorem vblk_alive {b : Nat} {x y : Blk} (hx : hget h b = some x) (hv : vblk (hget h) b = some y) : y = x ∧ x.dead = false := by
  rw [vblk_hget, hx] at hv
  cases hd : x.dead with
  | true => simp [hd] at hv
  | false => simp [hd] at hv; exact ⟨hv.symm, rfl⟩

mutual
theorem Rep.clean (hn : (ids.map oldId).Nodup) : ∀ {x : AV} {v : Value}, Along (hget h) ids (idsOf x) → Rep J β h w x v →
    Rep J (fun c => (backId ids c).bind β) (cleanH (hget h) ids) w (cleanV (hget h) x) v
  | .own b off n, v, hm, hr => by
    rw [Rep] at hr
    obtain ⟨x, A, cap, hx, h1, h2, h3⟩ := hr
    rw [cleanV]
    cases hv : vblk (hget h) b with
    | none => simp only; rw [Rep]; trivial
    | some y =>
      obtain ⟨rfl, hd⟩ := vblk_alive hx hv
      have hb := hm b (by simp [idsOf]) _ hv
      simp only
      rw [Rep]
      refine ⟨cleanB (hget h) y, A, cap, cleanH_mem hn b y hb hv, h1, h2, ?_⟩
      rcases h3 with h3 | ⟨k, o, h4, h5⟩
      · exact .inl h3
      · refine .inr ⟨k, o, h4, ?_⟩
        rcases h5 with h5 | ⟨h5, h6, h7⟩
        · simp [hd] at h5
        · refine .inr ⟨by rw [backId_of hn hb]; exact h5, h6, ?_⟩
          have : (cleanB (hget h) y).cells.length = y.cells.length := by
            unfold cleanB; cases y.pure
            · simp; exact cleanVs_length _ _
            · rfl
          rw [this]; exact h7
  | .optr b off, v, hm, hr => by
    rw [Rep] at hr
    obtain ⟨x, k, o, hx, h1, h2⟩ := hr
    rw [cleanV]
    cases hv : vblk (hget h) b with
    | none => simp only; rw [Rep]; trivial
    | some y =>
      obtain ⟨rfl, hd⟩ := vblk_alive hx hv
      have hb := hm b (by simp [idsOf]) _ hv
      simp only
      rw [Rep]
      refine ⟨cleanB (hget h) y, k, o, cleanH_mem hn b y hb hv, h1, ?_⟩
      rcases h2 with h2 | h2
      · simp [hd] at h2
      · exact .inr (by rw [backId_of hn hb]; exact h2)
  | .agg c, v, hm, hr => by
    rw [Rep] at hr
    obtain ⟨cs, h1, h2⟩ := hr
    rw [cleanV, Rep]
    exact ⟨cs, h1, Reps.clean hn (by simpa [idsOf] using hm) h2⟩
  | .tup c, v, hm, hr => by
    rw [Rep] at hr
    obtain ⟨cs, h1, h2⟩ := hr
    rw [cleanV, Rep]
    exact ⟨cs, h1, Reps.clean hn (by simpa [idsOf] using hm) h2⟩
  | .fn f c, v, hm, hr => by
    rw [Rep] at hr
    obtain ⟨cs, h1, h2⟩ := hr
    rw [cleanV, Rep]
    exact ⟨cs, h1, Reps.clean hn (by simpa [idsOf] using hm) h2⟩
  | .pagg c o, v, hm, hr => by show Rep J _ _ w (.pagg c o) v; rw [Rep] at hr ⊢; exact hr
  | .undef, v, hm, hr => by show Rep J _ _ w (.undef) v; rw [Rep] at hr ⊢; exact hr
  | .imm c n sz t o, v, hm, hr => by show Rep J _ _ w (.imm c n sz t o) v; rw [Rep] at hr ⊢; exact hr
  | .iptr c o, v, hm, hr => by show Rep J _ _ w (.iptr c o) v; rw [Rep] at hr ⊢; exact hr
  | .int k n, v, hm, hr => by show Rep J _ _ w (.int k n) v; rw [Rep] at hr ⊢; exact hr
  | .bool b, v, hm, hr => by show Rep J _ _ w (.bool b) v; rw [Rep] at hr ⊢; exact hr
  | .str s, v, hm, hr => by show Rep J _ _ w (.str s) v; rw [Rep] at hr ⊢; exact hr
  | .nsl, v, hm, hr => by show Rep J _ _ w (.nsl) v; rw [Rep] at hr ⊢; exact hr
  | .nilptr, v, hm, hr => by show Rep J _ _ w (.nilptr) v; rw [Rep] at hr ⊢; exact hr
  | .nilfn, v, hm, hr => by show Rep J _ _ w (.nilfn) v; rw [Rep] at hr ⊢; exact hr
theorem Reps.clean (hn : (ids.map oldId).Nodup) : ∀ {c : List AV} {cs : List Value}, Along (hget h) ids (idsOfs c) → Reps J β h w c cs →
    Reps J (fun c => (backId ids c).bind β) (cleanH (hget h) ids) w (cleanVs (hget h) c) cs
  | [], cs, hm, hr => by rw [Reps] at hr; rw [cleanVs, Reps]; exact hr
  | x :: r, cs, hm, hr => by
    rw [Reps] at hr
    obtain ⟨u, us, h1, h2, h3⟩ := hr
    rw [cleanVs, Reps]
    exact ⟨u, us, h1, Rep.clean hn (fun b hb => hm b (by simp [idsOfs, hb])) h2, Reps.clean hn (fun b hb => hm b (by simp [idsOfs, hb])) h3⟩
end

theorem sget_cleanS {g : Look} {K : List Nat} : ∀ {s : Slots} {i : Nat}, sget (cleanS g K s) i = if memN K i = true then cleanV g (sget s i) else .undef
  | [], i => by
    simp only [cleanS, sget]
    show AV.undef = if memN K i = true then AV.undef else AV.undef
    split <;> rfl
  | (t, v) :: r, i => by
    rw [cleanS, sget]
    cases hk : memN K t with
    | true =>
      simp only [cond_true, sget]
      cases hi : Nat.beq t i with
      | true =>
        have := Nat.eq_of_beq_eq_true hi; subst this
        simp [hk]
      | false => simp only [cond_false]; exact sget_cleanS
    | false =>
      simp only [cond_false]
      rw [sget_cleanS]
      cases hi : Nat.beq t i with
      | true =>
        have := Nat.eq_of_beq_eq_true hi; subst this
        simp [hk]
      | false => rfl

theorem idsS_mem {K : List Nat} : ∀ {s : Slots} {i : Nat}, memN K i = true → ∀ b ∈ idsOf (sget s i), b ∈ idsS K s
  | [], i, _, b, hb => by simp [sget, idsOf] at hb
  | (t, v) :: r, i, hk, b, hb => by
    rw [sget] at hb
    rw [idsS]
    cases hi : Nat.beq t i with
    | true =>
      have := Nat.eq_of_beq_eq_true hi; subst this
      rw [hi] at hb
      rw [hk]; simp at hb ⊢; exact .inl hb
    | false =>
      rw [hi] at hb
      have := idsS_mem hk b hb
      cases memN K t
      · exact this
      · simp; exact .inr this

theorem inner_mem {g : Look} : ∀ {ids : List Nat} {b : Nat} {x : Blk}, b ∈ ids → g b = some x → x.pure = false → ∀ c ∈ idsOfs x.cells, c ∈ inner g ids
  | [], b, x, hb, _, _, _, _ => by simp at hb
  | i :: r, b, x, hb, hx, hp, c, hc => by
    rw [inner]
    by_cases e : b = i
    · subst e; rw [hx]; simp only [hp, cond_false]; exact List.mem_append.2 (.inl hc)
    · exact List.mem_append.2 (.inr (inner_mem (by simpa [e] using hb) hx hp c hc))

theorem idsOfs_at : ∀ {c : List AV} {j : Nat} {x : AV}, c[j]? = some x → ∀ b ∈ idsOf x, b ∈ idsOfs c
  | [], j, x, hj, _, _ => by simp at hj
  | y :: r, j, x, hj, b, hb => by
    rw [idsOfs]
    cases j with
    | zero => simp at hj; subst hj; exact List.mem_append.2 (.inl hb)
    | succ j => exact List.mem_append.2 (.inr (idsOfs_at (by simpa using hj) b hb))

theorem cleanVs_get {g : Look} : ∀ {c : List AV} {j : Nat} {y : AV}, (cleanVs g c)[j]? = some y → ∃ x, c[j]? = some x ∧ y = cleanV g x
  | [], j, y, hj => by simp [cleanVs] at hj
  | x :: r, j, y, hj => by
    rw [cleanVs] at hj
    cases j with
    | zero => simp at hj; exact ⟨x, by simp, hj.symm⟩
    | succ j => obtain ⟨x', h1, h2⟩ := cleanVs_get (c := r) (j := j) (by simpa using hj); exact ⟨x', by simpa using h1, h2⟩

theorem oldId_old {b : Nat} (hb : b < newBase) : oldId b = b := by
  unfold oldId
  have : Nat.ble newBase b = false := by
    cases h : Nat.ble newBase b with
    | false => rfl
    | true => have := Nat.le_of_ble_eq_true h; omega
  rw [this]; rfl

theorem clean_sound {K roots : List Nat} {st' : St} (I : Inv Z nt J β st a w) (hh : clean K roots st = some st') : ∃ β', Inv Z nt J β' st' a w := by
  unfold clean at hh
  obtain ⟨hc, h1⟩ : _ ∧ _ := uc hh
  simp only [Bool.and_eq_true] at hc
  obtain ⟨c1, c2, c3, c4⟩ := hc
  generalize hids : liveIds (hget st.h) (reach (hget st.h) (idsS K st.s ++ roots)) = ids at *
  simp at h1
  have hn := nodupB_iff c1
  have blk : ∀ c y, hget (cleanH (hget st.h) ids) c = some y → ∃ b x, b ∈ ids ∧ oldId b = c ∧ hget st.h b = some x ∧ x.dead = false ∧ y = cleanB (hget st.h) x := by
    intro c y hy
    obtain ⟨b, x, g1, g2, g3, g4⟩ := cleanH_get hn c y hy
    have hx : hget st.h b = some x ∧ x.dead = false := vblk_some (fun _ _ h => h) g3
    exact ⟨b, x, g1, g2, hx.1, hx.2, g4⟩
  have hlen : ∀ x : Blk, (cleanB (hget st.h) x).cells.length = x.cells.length := fun x => by
    unfold cleanB; cases x.pure
    · simp; exact cleanVs_length _ _
    · rfl
  refine ⟨fun c => (backId ids c).bind β, ?_⟩
  subst h1
  refine ⟨⟨I.sim.jlt, I.sim.jft, fun c y hy hd => ?_, ?_⟩, ⟨fun i v hv => ?_, fun i hi => ?_⟩, I.tmps, I.defers, I.os, I.tape, I.output, I.size, I.frame, ?_, I.jsub, I.jup, I.sizes, I.zlt, I.zge, ?_⟩
  · obtain ⟨b, x, hb, rfl, hx, hxd, rfl⟩ := blk c y hy
    rcases I.sim.blk b x hx hxd with ⟨g1, g2⟩ | ⟨k, o, cs, ty, fr, g1, g2, g3, g4, g5, g6, g7⟩
    · refine .inl ⟨by simp only [backId_of hn hb, Option.bind_some]; exact g1, ?_⟩
      have := hlen x; rw [g2] at this; simpa using this
    · refine .inr ⟨k, o, cs, ty, fr, by simp only [backId_of hn hb, Option.bind_some]; exact g1, g2, g3, by rw [hlen]; exact g4, ⟨fun hp => ?_, fun hp j q hj => ?_⟩, g6, g7⟩
      · have hp' : x.pure = true := hp
        have : (cleanB (hget st.h) x).cells = x.cells := by unfold cleanB; rw [hp']; rfl
        rw [this]; exact g5.1 hp'
      · have hp' : x.pure = false := hp
        have : (cleanB (hget st.h) x).cells = cleanVs (hget st.h) x.cells := by unfold cleanB; rw [hp']; rfl
        rw [this] at hj
        obtain ⟨q', hq, rfl⟩ := cleanVs_get hj
        obtain ⟨u, hu, hr, ho⟩ := g5.2 hp' j q' hq
        exact ⟨u, hu, Rep.clean hn (fun b' hb' x' hx' => covers_at c3 b' (inner_mem hb hx hp' b' (idsOfs_at hq b' hb')) x' hx') hr, ho⟩
  · intro c c' y y' k o o' hy hy' hd hd' hs hβ hβ'
    obtain ⟨b, x, hb, rfl, hx, hxd, rfl⟩ := blk c y hy
    obtain ⟨b', x', hb', rfl, hx', hxd', rfl⟩ := blk c' y' hy'
    simp only [backId_of hn hb, Option.bind_some] at hβ
    simp only [backId_of hn hb', Option.bind_some] at hβ'
    rw [I.sim.sep b b' x x' k o o' hx hx' hxd hxd' hs hβ hβ']
  · rw [sget_cleanS]
    split
    · rename_i hk
      exact Rep.clean hn (fun b hb x hx => covers_at c2 b (idsS_mem hk b hb) x hx) (I.ss.slot i v hv)
    · rw [Rep]; trivial
  · rw [sget_cleanS, I.ss.out i hi]
    split
    · rfl
    · rfl
  · rintro k ⟨c, y, o, hy, hd, hs, hβ⟩ hk
    obtain ⟨b, x, hb, rfl, hx, hxd, rfl⟩ := blk c y hy
    simp only [backId_of hn hb, Option.bind_some] at hβ
    exact I.wr k ⟨b, x, o, hx, hxd, hs, hβ⟩ hk
  · intro c x0 y h0 hy hd
    obtain ⟨b, x, hb, rfl, hx, hxd, rfl⟩ := blk c y hy
    have hlt := I.zlt _ _ h0
    have hge := I.zge _ _ h0
    have hbo : oldId b = b := by
      by_cases hnb : newBase ≤ b
      · have := newOk_at c4 b hb hnb; omega
      · exact oldId_old (by omega)
    rw [hbo] at h0
    obtain ⟨e1, e2, e3, e4⟩ := I.outs b x0 x h0 hx hxd
    refine ⟨?_, e2, by rw [hlen]; exact e3, e4⟩
    simp only [backId_of hn hb, Option.bind_some]; rw [hbo]; exact e1
end
end Gx
