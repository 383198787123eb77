/- A part of the proof: what it holds is said at each theorem. -/
import Derived.Test.YtekpdhpnlfcobaaP0
set_option linter.unusedVariables false
namespace Gx
open Go

theorem memN_iff : ∀ {l : List Nat} {b : Nat}, memN l b = true ↔ b ∈ l
  | [], b => by simp [memN]
  | i :: r, b => by
    rw [memN]
    cases hi : Nat.beq i b with
    | true => have := Nat.eq_of_beq_eq_true hi; subst this; simp
    | false => have := beqF' hi; simp only [cond_false, List.mem_cons]; rw [memN_iff]; constructor
               · exact fun h => .inr h
               · rintro (h | h)
                 · exact absurd h.symm this
                 · exact h
theorem nodupB_iff : ∀ {l : List Nat}, nodupB l = true → l.Nodup
  | [], _ => List.nodup_nil
  | i :: r, h => by
    rw [nodupB] at h; simp at h
    refine List.nodup_cons.2 ⟨fun hm => ?_, nodupB_iff h.2⟩
    rw [memN_iff.2 hm] at h; simp at h
theorem covers_at {g : Look} {ids : List Nat} : ∀ {l : List Nat}, covers g ids l = true → ∀ b ∈ l, ∀ x, vblk g b = some x → b ∈ ids
  | [], _, b, hb, _, _ => by simp at hb
  | i :: r, h, b, hb, x, hx => by
    rw [covers] at h; simp at h
    rcases List.mem_cons.1 hb with e | hb
    · subst e
      rcases h.1 with h1 | h1
      · exact memN_iff.1 h1
      · rw [hx] at h1; simp at h1
    · exact covers_at h.2 b hb x hx
theorem newOk_at : ∀ {l : List Nat}, newOk l = true → ∀ b ∈ l, newBase ≤ b → oldId b < 100000
  | [], _, b, hb, _ => by simp at hb
  | i :: r, h, b, hb, hn => by
    rw [newOk] at h; simp at h
    rcases List.mem_cons.1 hb with e | hb
    · subst e
      have : Nat.ble newBase b = true := by simpa using hn
      rw [this] at h; simpa using h.1
    · exact newOk_at h.2 b hb hn

theorem cleanVs_length (g : Look) : ∀ c : List AV, (cleanVs g c).length = c.length
  | [] => rfl
  | x :: r => by rw [cleanVs, List.length_cons, List.length_cons, cleanVs_length g r]

section
variable {R : Type} {r : R} {Z : Start} {nt : Nat} {J J' : Bool → Nat → Prop} {β β' : Beta} {st : St} {h h' : Heap} {a : Act} {w w' : World} {ids : List Nat}

/-- What a block becomes. -/
def cleanB (g : Look) (x : Blk) : Blk := { x with cells := cond x.pure x.cells (cleanVs g x.cells) }

theorem cleanH_get {g : Look} : ∀ {ids : List Nat}, (ids.map oldId).Nodup → ∀ c y, hget (cleanH g ids) c = some y → ∃ b x, b ∈ ids ∧ oldId b = c ∧ vblk g b = some x ∧ y = cleanB g x
  | [], _, c, y, hc => by simp [cleanH, hget] at hc
  | b :: r, hn, c, y, hc => by
    rw [List.map_cons, List.nodup_cons] at hn
    rw [cleanH] at hc
    split at hc
    · rename_i x hx
      rw [hget_hput] at hc
      by_cases e : c = oldId b
      · rw [if_pos e] at hc; simp at hc
        exact ⟨b, x, by simp, e.symm, hx, hc.symm⟩
      · rw [if_neg e] at hc
        obtain ⟨b', x', h1, h2, h3, h4⟩ := cleanH_get hn.2 c y hc
        exact ⟨b', x', by simp [h1], h2, h3, h4⟩
    · obtain ⟨b', x', h1, h2, h3, h4⟩ := cleanH_get hn.2 c y hc
      exact ⟨b', x', by simp [h1], h2, h3, h4⟩
theorem cleanH_mem {g : Look} : ∀ {ids : List Nat}, (ids.map oldId).Nodup → ∀ b x, b ∈ ids → vblk g b = some x → hget (cleanH g ids) (oldId b) = some (cleanB g x)
  | [], _, b, x, hb, _ => by simp at hb
  | b' :: r, hn, b, x, hb, hx => by
    rw [List.map_cons, List.nodup_cons] at hn
    rw [cleanH]
    by_cases e : b = b'
    · subst e
      rw [hx]
      simp only
      rw [hget_hput, if_pos rfl]; rfl
    · have hm : b ∈ r := by simpa [e] using hb
      have ne : oldId b ≠ oldId b' := fun h => hn.1 (by rw [← h]; exact List.mem_map.2 ⟨b, hm, rfl⟩)
      split
      · rw [hget_hput, if_neg ne]; exact cleanH_mem hn.2 b x hm hx
      · exact cleanH_mem hn.2 b x hm hx

def backId (ids : List Nat) (c : Nat) : Option Nat := ids.find? fun b => Nat.beq (oldId b) c
theorem backId_of (hn : (ids.map oldId).Nodup) {b : Nat} (hb : b ∈ ids) : backId ids (oldId b) = some b := by
  induction ids with
  | nil => simp at hb
  | cons i r ih =>
    rw [List.map_cons, List.nodup_cons] at hn
    unfold backId at ih ⊢
    rw [List.find?_cons]
    by_cases e : b = i
    · subst e; simp
    · have hm : b ∈ r := by simpa [e] using hb
      have ne : oldId i ≠ oldId b := fun h => hn.1 (by rw [h]; exact List.mem_map.2 ⟨b, hm, rfl⟩)
      rw [beqF ne]; exact ih hn.2 hm

/-- Everything that is alive and named is taken along. -/
def Along (g : Look) (ids : List Nat) (l : List Nat) : Prop := ∀ b ∈ l, ∀ x, vblk g b = some x → b ∈ ids

theorem vblk_hget {b : Nat} : vblk (hget h) b = (hget h b).bind fun x => cond x.dead none (some x) := rfl
theorem vblk_none {b : Nat} {x : Blk} (hx : hget h b = some x) (hv : vblk (hget h) b = none) : x.dead = true := by
  rw [vblk_hget, hx] at hv
  cases hd : x.dead with
  | true => rfl
  | false => simp [hd] at hv
theorem vblk_alive {b : Nat} {x y : Blk} (hx : hget h b = some x) (hv : vblk (hget h) b = some y) : y = x ∧ x.dead = false := by
  rw [vblk_hget, hx] at hv
  cases hd : x.dead with
  | true => simp [hd] at hv
  | false => simp [hd] at hv; exact ⟨hv.symm, rfl⟩

mutual
theorem Rep.clean (hn : (ids.map oldId).Nodup) : ∀ {x : AV} {v : Value}, Along (hget h) ids (idsOf x) → Rep J β h w x v →
    Rep J (fun c => (backId ids c).bind β) (cleanH (hget h) ids) w (cleanV (hget h) x) v
  | .own b off n, v, hm, hr => by
    rw [Rep] at hr
    obtain ⟨x, A, cap, hx, h1, h2, h3⟩ := hr
    rw [cleanV]
    cases hv : vblk (hget h) b with
    | none => simp only; rw [Rep]; trivial
    | some y =>
      obtain ⟨rfl, hd⟩ := vblk_alive hx hv
      have hb := hm b (by simp [idsOf]) _ hv
      simp only
      rw [Rep]
      refine ⟨cleanB (hget h) y, A, cap, cleanH_mem hn b y hb hv, h1, h2, ?_⟩
      rcases h3 with h3 | ⟨k, o, h4, h5⟩
      · exact .inl h3
      · refine .inr ⟨k, o, h4, ?_⟩
        rcases h5 with h5 | ⟨h5, h6, h7⟩
        · simp [hd] at h5
        · refine .inr ⟨by rw [backId_of hn hb]; exact h5, h6, ?_⟩
          have : (cleanB (hget h) y).cells.length = y.cells.length := by
            unfold cleanB; cases y.pure
            · simp; exact cleanVs_length _ _
            · rfl
          rw [this]; exact h7
  | .optr b off, v, hm, hr => by
    rw [Rep] at hr
    obtain ⟨x, k, o, hx, h1, h2⟩ := hr
    rw [cleanV]
    cases hv : vblk (hget h) b with
    | none => simp only; rw [Rep]; trivial
    | some y =>
      obtain ⟨rfl, hd⟩ := vblk_alive hx hv
      have hb := hm b (by simp [idsOf]) _ hv
      simp only
      rw [Rep]
      refine ⟨cleanB (hget h) y, k, o, cleanH_mem hn b y hb hv, h1, ?_⟩
      rcases h2 with h2 | h2
      · simp [hd] at h2
      · exact .inr (by rw [backId_of hn hb]; exact h2)
  | .agg c, v, hm, hr => by
    rw [Rep] at hr
    obtain ⟨cs, h1, h2⟩ := hr
    rw [cleanV, Rep]
    exact ⟨cs, h1, Reps.clean hn (by simpa [idsOf] using hm) h2⟩
  | .tup c, v, hm, hr => by
    rw [Rep] at hr
    obtain ⟨cs, h1, h2⟩ := hr
    rw [cleanV, Rep]
    exact ⟨cs, h1, Reps.clean hn (by simpa [idsOf] using hm) h2⟩
  | .fn f c, v, hm, hr => by
    rw [Rep] at hr
    obtain ⟨cs, h1, h2⟩ := hr
    rw [cleanV, Rep]
    exact ⟨cs, h1, Reps.clean hn (by simpa [idsOf] using hm) h2⟩
  | .pagg c o, v, hm, hr => by show Rep J _ _ w (.pagg c o) v; rw [Rep] at hr ⊢; exact hr
  | .undef, v, hm, hr => by show Rep J _ _ w (.undef) v; rw [Rep] at hr ⊢; exact hr
  | .imm c n sz t o, v, hm, hr => by show Rep J _ _ w (.imm c n sz t o) v; rw [Rep] at hr ⊢; exact hr
  | .iptr c o, v, hm, hr => by show Rep J _ _ w (.iptr c o) v; rw [Rep] at hr ⊢; exact hr
  | .int k n, v, hm, hr => by show Rep J _ _ w (.int k n) v; rw [Rep] at hr ⊢; exact hr
  | .bool b, v, hm, hr => by show Rep J _ _ w (.bool b) v; rw [Rep] at hr ⊢; exact hr
  | .str s, v, hm, hr => by show Rep J _ _ w (.str s) v; rw [Rep] at hr ⊢; exact hr
  | .nsl, v, hm, hr => by show Rep J _ _ w (.nsl) v; rw [Rep] at hr ⊢; exact hr
  | .nilptr, v, hm, hr => by show Rep J _ _ w (.nilptr) v; rw [Rep] at hr ⊢; exact hr
  | .nilfn, v, hm, hr => by show Rep J _ _ w (.nilfn) v; rw [Rep] at hr ⊢; exact hr
theorem Reps.clean (hn : (ids.map oldId).Nodup) : ∀ {c : List AV} {cs : List Value}, Along (hget h) ids (idsOfs c) → Reps J β h w c cs →
    Reps J (fun c => (backId ids c).bind β) (cleanH (hget h) ids) w (cleanVs (hget h) c) cs
  | [], cs, hm, hr => by rw [Reps] at hr; rw [cleanVs, Reps]; exact hr
  | x :: r, cs, hm, hr => by
    rw [Reps] at hr
    obtain ⟨u, us, h1, h2, h3⟩ := hr
    rw [cleanVs, Reps]
    exact ⟨u, us, h1, Rep.clean hn (fun b hb => hm b (by simp [idsOfs, hb])) h2, Reps.clean hn (fun b hb => hm b (by simp [idsOfs, hb])) h3⟩
end

theorem sget_cleanS {g : Look} {K : List Nat} : ∀ {s : Slots} {i : Nat}, sget (cleanS g K s) i = if memN K i = true then cleanV g (sget s i) else .undef
  | [], i => by
    simp only [cleanS, sget]
    show AV.undef = if memN K i = true then AV.undef else AV.undef
    split <;> rfl
  | (t, v) :: r, i => by
    rw [cleanS, sget]
    cases hk : memN K t with
    | true =>
      simp only [cond_true, sget]
      cases hi : Nat.beq t i with
      | true =>
        have := Nat.eq_of_beq_eq_true hi; subst this
        simp [hk]
      | false => simp only [cond_false]; exact sget_cleanS
    | false =>
      simp only [cond_false]
      rw [sget_cleanS]
      cases hi : Nat.beq t i with
      | true =>
        have := Nat.eq_of_beq_eq_true hi; subst this
        simp [hk]
      | false => rfl

theorem idsS_mem {K : List Nat} : ∀ {s : Slots} {i : Nat}, memN K i = true → ∀ b ∈ idsOf (sget s i), b ∈ idsS K s
  | [], i, _, b, hb => by simp [sget, idsOf] at hb
  | (t, v) :: r, i, hk, b, hb => by
    rw [sget] at hb
    rw [idsS]
    cases hi : Nat.beq t i with
    | true =>
      have := Nat.eq_of_beq_eq_true hi; subst this
      rw [hi] at hb
      rw [hk]; simp at hb ⊢; exact .inl hb
    | false =>
      rw [hi] at hb
      have := idsS_mem hk b hb
      cases memN K t
      · exact this
      · simp; exact .inr this

theorem inner_mem {g : Look} : ∀ {ids : List Nat} {b : Nat} {x : Blk}, b ∈ ids → g b = some x → x.pure = false → ∀ c ∈ idsOfs x.cells, c ∈ inner g ids
  | [], b, x, hb, _, _, _, _ => by simp at hb
  | i :: r, b, x, hb, hx, hp, c, hc => by
    rw [inner]
    by_cases e : b = i
    · subst e; rw [hx]; simp only [hp, cond_false]; exact List.mem_append.2 (.inl hc)
    · exact List.mem_append.2 (.inr (inner_mem (by simpa [e] using hb) hx hp c hc))

theorem idsOfs_at : ∀ {c : List AV} {j : Nat} {x : AV}, c[j]? = some x → ∀ b ∈ idsOf x, b ∈ idsOfs c
  | [], j, x, hj, _, _ => by simp at hj
  | y :: r, j, x, hj, b, hb => by
    rw [idsOfs]
    cases j with
    | zero => simp at hj; subst hj; exact List.mem_append.2 (.inl hb)
    | succ j => exact List.mem_append.2 (.inr (idsOfs_at (by simpa using hj) b hb))

theorem cleanVs_get {g : Look} : ∀ {c : List AV} {j : Nat} {y : AV}, (cleanVs g c)[j]? = some y → ∃ x, c[j]? = some x ∧ y = cleanV g x
  | [], j, y, hj => by simp [cleanVs] at hj
  | x :: r, j, y, hj => by
    rw [cleanVs] at hj
    cases j with
    | zero => simp at hj; exact ⟨x, by simp, hj.symm⟩
    | succ j => obtain ⟨x', h1, h2⟩ := cleanVs_get (c := r) (j := j) (by simpa using hj); exact ⟨x', by simpa using h1, h2⟩

theorem oldId_old {b : Nat} (hb : b < newBase) : oldId b = b := by
  unfold oldId
  have : Nat.ble newBase b = false := by
    cases h : Nat.ble newBase b with
    | false => rfl
    | true => have := Nat.le_of_ble_eq_true h; omega
  rw [this]; rfl

theorem clean_sound {K roots : List Nat} {st' : St} (I : Inv Z nt J β st a w) (hh : clean K roots st = some st') : ∃ β', Inv Z nt J β' st' a w := by
  unfold clean at hh
  obtain ⟨hc, h1⟩ : _ ∧ _ := uc hh
  simp only [Bool.and_eq_true] at hc
  obtain ⟨c1, c2, c3, c4⟩ := hc
  generalize hids : liveIds (hget st.h) (reach (hget st.h) (idsS K st.s ++ roots)) = ids at *
  simp at h1
  have hn := nodupB_iff c1
  have blk : ∀ c y, hget (cleanH (hget st.h) ids) c = some y → ∃ b x, b ∈ ids ∧ oldId b = c ∧ hget st.h b = some x ∧ x.dead = false ∧ y = cleanB (hget st.h) x := by
    intro c y hy
    obtain ⟨b, x, g1, g2, g3, g4⟩ := cleanH_get hn c y hy
    have hx : hget st.h b = some x ∧ x.dead = false := vblk_some (fun _ _ h => h) g3
    exact ⟨b, x, g1, g2, hx.1, hx.2, g4⟩
  have hlen : ∀ x : Blk, (cleanB (hget st.h) x).cells.length = x.cells.length := fun x => by
    unfold cleanB; cases x.pure
    · simp; exact cleanVs_length _ _
    · rfl
  refine ⟨fun c => (backId ids c).bind β, ?_⟩
  subst h1
  refine ⟨⟨I.sim.jlt, I.sim.jft, fun c y hy hd => ?_, ?_⟩, ⟨fun i v hv => ?_, fun i hi => ?_⟩, I.tmps, I.defers, I.os, I.tape, I.output, I.size, I.frame, ?_, I.jsub, I.jup, I.sizes, I.zlt, I.zge, ?_⟩
  · obtain ⟨b, x, hb, rfl, hx, hxd, rfl⟩ := blk c y hy
    rcases I.sim.blk b x hx hxd with ⟨g1, g2⟩ | ⟨k, o, cs, ty, fr, g1, g2, g3, g4, g5, g6, g7⟩
    · refine .inl ⟨by simp only [backId_of hn hb, Option.bind_some]; exact g1, ?_⟩
      have := hlen x; rw [g2] at this; simpa using this
    · refine .inr ⟨k, o, cs, ty, fr, by simp only [backId_of hn hb, Option.bind_some]; exact g1, g2, g3, by rw [hlen]; exact g4, ⟨fun hp => ?_, fun hp j q hj => ?_⟩, g6, g7⟩
      · have hp' : x.pure = true := hp
        have : (cleanB (hget st.h) x).cells = x.cells := by unfold cleanB; rw [hp']; rfl
        rw [this]; exact g5.1 hp'
      · have hp' : x.pure = false := hp
        have : (cleanB (hget st.h) x).cells = cleanVs (hget st.h) x.cells := by unfold cleanB; rw [hp']; rfl
        rw [this] at hj
        obtain ⟨q', hq, rfl⟩ := cleanVs_get hj
        obtain ⟨u, hu, hr, ho⟩ := g5.2 hp' j q' hq
        exact ⟨u, hu, Rep.clean hn (fun b' hb' x' hx' => covers_at c3 b' (inner_mem hb hx hp' b' (idsOfs_at hq b' hb')) x' hx') hr, ho⟩
  · intro c c' y y' k o o' hy hy' hd hd' hs hβ hβ'
    obtain ⟨b, x, hb, rfl, hx, hxd, rfl⟩ := blk c y hy
    obtain ⟨b', x', hb', rfl, hx', hxd', rfl⟩ := blk c' y' hy'
    simp only [backId_of hn hb, Option.bind_some] at hβ
    simp only [backId_of hn hb', Option.bind_some] at hβ'
    rw [I.sim.sep b b' x x' k o o' hx hx' hxd hxd' hs hβ hβ']
  · rw [sget_cleanS]
    split
    · rename_i hk
      exact Rep.clean hn (fun b hb x hx => covers_at c2 b (idsS_mem hk b hb) x hx) (I.ss.slot i v hv)
    · rw [Rep]; trivial
  · rw [sget_cleanS, I.ss.out i hi]
    split
    · rfl
    · rfl
  · rintro k ⟨c, y, o, hy, hd, hs, hβ⟩ hk
    obtain ⟨b, x, hb, rfl, hx, hxd, rfl⟩ := blk c y hy
    simp only [backId_of hn hb, Option.bind_some] at hβ
    exact I.wr k ⟨b, x, o, hx, hxd, hs, hβ⟩ hk
  · intro c x0 y h0 hy hd
    obtain ⟨b, x, hb, rfl, hx, hxd, rfl⟩ := blk c y hy
    have hlt := I.zlt _ _ h0
    have hge := I.zge _ _ h0
    have hbo : oldId b = b := by
      by_cases hnb : newBase ≤ b
      · have := newOk_at c4 b hb hnb; omega
      · exact oldId_old (by omega)
    rw [hbo] at h0
    obtain ⟨e1, e2, e3, e4⟩ := I.outs b x0 x h0 hx hxd
    refine ⟨?_, e2, by rw [hlen]; exact e3, e4⟩
    simp only [backId_of hn hb, Option.bind_some]; rw [hbo]; exact e1
end
end Gx

namespace Gx
open Go
section
variable {R : Type}

theorem bind_cond {α β : Type} (b : Bool) (x y : Option α) (f : α → Option β) : (cond b x y).bind f = cond b (x.bind f) (y.bind f) := by cases b <;> rfl

theorem plainly_bind {R' : Type} (P : Program) (t : TypeId) (c : List AV) (o : Bool) (k : Bool → Option R') (f : R' → Option R) : (plainly P t c o k).bind f = plainly P t c o fun o => (k o).bind f := by
  unfold plainly; simp only [bind_cond, Option.bind_none]
theorem readT_bind (P : Program) (t : TypeId) (c : List AV) (org : Bool) (k : AV → Option R) : readT P t c org k = (readT P t c org some).bind k := by
  unfold readT
  split <;> simp [Option.bind_assoc, bind_cond, Function.comp_def, plainly_bind] <;> rfl
theorem takeT_bind (P : Program) (t : TypeId) (c : List AV) (k : AV → Option R) : takeT P t c k = (takeT P t c some).bind k := by
  unfold takeT
  split <;> simp [Option.bind_assoc, bind_cond, Function.comp_def]
theorem pickAt_bind (n : Nat) (k : AV → Option R) : ∀ (c : List AV) (i : Nat), pickAt n k c i = (pickAt n some c i).bind k
  | [], _ => rfl
  | v :: r, i => by rw [pickAt, pickAt, bind_cond, pickAt_bind n k r (i + 1)]; rfl
theorem takeAt_bind (P : Program) (t : TypeId) (c : List AV) (off : Nat) (k : AV → Option R) : takeAt P t c off k = (takeAt P t c off some).bind k := by
  unfold takeAt
  split
  · simp [Option.bind_assoc, bind_cond, Function.comp_def]
  · simp [Option.bind_assoc, bind_cond, Function.comp_def]
  · exact pickAt_bind ..
  · rfl
theorem aload_bind (P : Program) (g : Look) (t : TypeId) (p : AV) (k : AV → Option R) : aload P g t p k = (aload P g t p some).bind k := by
  unfold aload
  split
  · exact readT_bind ..
  · rw [Option.bind_assoc]
    congr 1; funext x
    rw [bind_cond, ← readT_bind, ← takeAt_bind]
  · rfl
theorem aindexAddr_bind (P : Program) (t : TypeId) (x i : AV) (k : AV → Option R) : aindexAddr P t x i k = (aindexAddr P t x i some).bind k := by
  unfold aindexAddr
  split <;> simp [Option.bind_assoc, bind_cond]
theorem afieldAddr_bind (P : Program) (t : TypeId) (x : AV) (f : Nat) (k : AV → Option R) : afieldAddr P t x f k = (afieldAddr P t x f some).bind k := by
  unfold afieldAddr
  simp only [Option.bind_assoc, bind_cond]
  congr 1; funext p; congr 1; funext n; congr 1
  split <;> rfl
theorem afield_bind (P : Program) (t : TypeId) (x : AV) (f : Nat) (k : AV → Option R) : afield P t x f k = (afield P t x f some).bind k := by
  unfold afield
  rw [Option.bind_assoc]
  congr 1; funext p
  split
  · exact readT_bind ..
  · exact takeT_bind ..
  · rfl
theorem aindex_bind (P : Program) (t : TypeId) (x i : AV) (k : AV → Option R) : aindex P t x i k = (aindex P t x i some).bind k := by
  unfold aindex
  split
  · simp [bind_cond]
  · simp only [Option.bind_assoc, bind_cond, ← readT_bind]; rfl
  · simp only [Option.bind_assoc, bind_cond, ← takeT_bind]; rfl
  · rfl
theorem sliceIn_bind {α : Type} (lo hi mx : Option AV) (n : Nat) (f : Nat → Nat → α) (k : α → Option R) : (sliceIn lo hi mx n fun l h => k (f l h)) = (sliceIn lo hi mx n fun l h => some (f l h)).bind k := by
  unfold sliceIn
  simp [Option.bind_assoc, bind_cond]
theorem aslice_bind (P : Program) (g : Look) (t : TypeId) (x : AV) (lo hi mx : Option AV) (k : AV → Option R) : aslice P g t x lo hi mx k = (aslice P g t x lo hi mx some).bind k := by
  unfold aslice
  split
  · rw [bind_cond, ← sliceIn_bind]; rfl
  · rw [Option.bind_assoc]; congr 1; funext _; exact sliceIn_bind lo hi mx 0 (fun _ _ => AV.nsl) k
  · rw [Option.bind_assoc]; congr 1; funext _; rw [bind_cond, ← sliceIn_bind]; rfl
  · rw [Option.bind_assoc]; congr 1; funext _; rw [Option.bind_assoc]; congr 1; funext _; rw [bind_cond, ← sliceIn_bind]; rfl
  · rfl
theorem abin_bind (P : Program) (t : TypeId) (op : BinOp) (x y : AV) (k : AV → Option R) : abin P t op x y k = (abin P t op x y some).bind k := by
  unfold abin
  split
  · split <;> simp [bind_cond]
  · split <;> simp [bind_cond]
  · split <;> simp [bind_cond]
  · rfl

def pr (v : AV) (u : Ups) : Option (AV × Ups) := some (v, u)

theorem astore_bind (P : Program) (g : Look) (t : TypeId) (p v : AV) (k : AV → Ups → Option R) : astore P g t p v k = (astore P g t p v pr).bind fun q => k q.1 q.2 := by
  unfold astore
  split
  · simp only [Option.bind_assoc, bind_cond]
    congr 1; funext x; congr 1; funext n; congr 1; congr 1
    split <;> simp [bind_cond, pr]
  · rfl
theorem abox_bind (P : Program) (g : Look) (d : Nat) (t : TypeId) (v : AV) (k : AV → Ups → Option R) : abox P g d t v k = (abox P g d t v pr).bind fun q => k q.1 q.2 := by
  unfold abox
  split <;> simp [Option.bind_assoc, bind_cond, pr]
theorem abuildSlice_bind (P : Program) (g : Look) (d : Nat) (t : TypeId) (len : Nat) (ps : List (Nat × AV)) (k : AV → Ups → Option R) : abuildSlice P g d t len ps k = (abuildSlice P g d t len ps pr).bind fun q => k q.1 q.2 := by
  unfold abuildSlice
  split <;> simp [Option.bind_assoc, bind_cond, pr, fillK_eq]
theorem abuildHard_bind (P : Program) (g : Look) (d : Nat) (t : TypeId) (len : Nat) (ps : List (Nat × AV)) (k : AV → Ups → Option R) : abuildHard P g d t len ps k = (abuildHard P g d t len ps pr).bind fun q => k q.1 q.2 := by
  unfold abuildHard
  split <;> simp [Option.bind_assoc, bind_cond, pr]
theorem acob_bind (P : Program) (t : TypeId) (co : Bool) (d : Nat) (v : AV) (k : AV → Ups → Option R) : acob P t co d v k = (acob P t co d v pr).bind fun q => k q.1 q.2 := by
  unfold acob
  split <;> simp [bind_cond, pr]
theorem amake_bind (P : Program) (d : Nat) (t : TypeId) (l c : AV) (k : AV → Ups → Option R) : amake P d t l c k = (amake P d t l c pr).bind fun q => k q.1 q.2 := by
  unfold amake
  split <;> simp [Option.bind_assoc, bind_cond, pr]
theorem aappend_bind (P : Program) (g : Look) (d : Nat) (t tx : TypeId) (s x : AV) (k : AV → Ups → Option R) : aappend P g d t tx s x k = (aappend P g d t tx s x pr).bind fun q => k q.1 q.2 := by
  unfold aappend elemsK
  split <;> simp [Option.bind_assoc, bind_cond, pr, plainly_bind]
theorem acopy_bind (P : Program) (g : Look) (t : TypeId) (s x : AV) (k : AV → Ups → Option R) : acopy P g t s x k = (acopy P g t s x pr).bind fun q => k q.1 q.2 := by
  unfold acopy elemsK
  split <;> simp [Option.bind_assoc, bind_cond, pr, plainly_bind]
theorem aconv_bind (P : Program) (g : Look) (d : Nat) (src dst : TypeId) (x : AV) (k : AV → Ups → Option R) : aconv P g d src dst x k = (aconv P g d src dst x pr).bind fun q => k q.1 q.2 := by
  unfold aconv
  split
  · split <;> simp [bind_cond, pr]
  · split
    · split <;> simp [pr]
    · split
      · split <;> simp [Option.bind_assoc, pr]
      · rfl
    · rfl
  · split
    · rw [bind_cond, Option.bind_assoc]; simp only [bind_cond]; rfl
    · rfl
    · rfl
  · rfl
theorem aeqFs_bind {R' : Type} {f : R' → Option R} {s1 : TypeId → List AV → List AV → (Bool → Option R') → Option R'} {s2 : TypeId → List AV → List AV → (Bool → Option R) → Option R} (hs : ∀ t x y k, (s1 t x y k).bind f = s2 t x y fun b => (k b).bind f) {x y : List AV} :
    ∀ (l : List (Nat × TypeId)) (k : Bool → Option R'), (aeqFs s1 x y l k).bind f = aeqFs s2 x y l fun b => (k b).bind f
  | [], k => rfl
  | (o, t) :: r, k => by
    rw [aeqFs, aeqFs, hs]
    congr 1; funext b
    exact aeqFs_bind hs r _
theorem aeqK_bind {R' : Type} {f : R' → Option R} (P : Program) : ∀ (d : Nat) (t : TypeId) (x y : List AV) (k : Bool → Option R'), (aeqK P d t x y k).bind f = aeqK P d t x y fun b => (k b).bind f
  | 0, t, x, y, k => rfl
  | d + 1, t, x, y, k => by
    rw [aeqK, aeqK]
    split <;> simp only [Option.bind_assoc, bind_cond, Option.bind_none]
    · congr 1; funext sz; rw [aeqFs_bind (aeqK_bind P d)]
    · congr 1; funext s; congr 1; funext sz; rw [aeqFs_bind (aeqK_bind P d)]
theorem abin2_bind (P : Program) (t : TypeId) (op : BinOp) (x y : AV) (k : AV → Option R) : abin2 P t op x y k = (abin2 P t op x y some).bind k := by
  unfold abin2
  split
  · rw [Option.bind_assoc]
    congr 1; funext s
    rw [bind_cond]
    congr 1
    split
    · rw [aeqK_bind]; rfl
    · rw [aeqK_bind]; rfl
    · rfl
  · exact abin_bind ..
theorem apick_bind (c x y : AV) (k : AV → Option R) : apick c x y k = (apick c x y some).bind k := by
  unfold apick
  split <;> first | rfl | (rw [bind_cond]; rfl)
theorem aalloc_bind (P : Program) (g : Look) (d : Nat) (t : TypeId) (k : AV → Ups → Option R) : aalloc P g d t k = (aalloc P g d t pr).bind fun q => k q.1 q.2 := by
  unfold aalloc
  split
  · rw [Option.bind_assoc]; rfl
  · exact abox_bind ..
  · rfl
theorem tcall_eq : ∀ (T : List (Nat × Tw)) (f : Nat) (args : List AV) (h : Heap) (k : AV → Heap → Option R), tcall T f args h k = (tcall T f args h fun v h' => some (v, h')).bind fun p => k p.1 p.2
  | [], f, args, h, k => rfl
  | (g, t) :: r, f, args, h, k => by
    rw [tcall, tcall]
    cases Nat.beq g f
    · exact tcall_eq r f args h k
    · exact t.eq args h k
theorem acall_bind (E : Env) (g : Look) (d f : Nat) (args : List AV) (k : AV → Ups → Option R) : acall E g d f args k = (acall E g d f args pr).bind fun q => k q.1 q.2 := by
  unfold acall
  rw [Option.bind_assoc]
  congr 1; funext q
  simp only [bind_cond, Option.bind_none]
  congr 1
  rw [tcall_eq, tcall_eq (R := AV × Ups), Option.bind_assoc]
  congr 1; funext p
  simp only [bind_cond, Option.bind_none, pr, Option.bind_some]
theorem aval_bind (E : Env) (g : Look) (d : Nat) (v : Operand → AV) (o : Op) (k : AV → Ups → Option R) : aval E g d v o k = (aval E g d v o pr).bind fun q => k q.1 q.2 := by
  unfold aval
  split
  · rfl
  · rfl
  · rw [apick_bind, apick_bind (k := fun r => pr r []), Option.bind_assoc]; rfl
  · exact aalloc_bind ..
  · exact abox_bind ..
  · rw [abuildK_eq, abuildK_eq, Option.bind_assoc]; congr 1; funext x; exact acob_bind ..
  · rw [bind_cond, ← abuildHard_bind, ← abuildSlice_bind]
  · rw [aload_bind, aload_bind (k := fun r => pr r []), Option.bind_assoc]; rfl
  · exact astore_bind ..
  · split <;> rfl
  · rw [abin2_bind, abin2_bind (k := fun r => pr r []), Option.bind_assoc]; rfl
  · rw [Option.bind_assoc]; rfl
  · exact aconv_bind ..
  · rw [bind_cond]; rfl
  · exact amake_bind ..
  · rw [aslice_bind, aslice_bind (k := fun r => pr r []), Option.bind_assoc]; rfl
  · rw [afieldAddr_bind, afieldAddr_bind (k := fun r => pr r []), Option.bind_assoc]; rfl
  · rw [afield_bind, afield_bind (k := fun r => pr r []), Option.bind_assoc]; rfl
  · rw [aindexAddr_bind, aindexAddr_bind (k := fun r => pr r []), Option.bind_assoc]; rfl
  · rw [aindex_bind, aindex_bind (k := fun r => pr r []), Option.bind_assoc]; rfl
  · split
    · rw [Option.bind_assoc]; rfl
    · rfl
  · split
    · split
      · rw [Option.bind_assoc]; rfl
      · rfl
    · split
      · exact aappend_bind ..
      · rfl
    · split
      · exact acopy_bind ..
      · rfl
    · split
      · rw [Option.bind_assoc]; rfl
      · rfl
    · split
      · rw [Option.bind_assoc]; rfl
      · rfl
    · split
      · rw [bind_cond, ← acall_bind]; rfl
      · rfl
    · rfl
  · rfl
end
end Gx

namespace Gx
open Go

theorem dedup_mem : ∀ {l acc : List Nat} {b : Nat}, b ∈ dedup l acc ↔ b ∈ l ∨ b ∈ acc
  | [], acc, b => by simp [dedup]
  | i :: r, acc, b => by
    rw [dedup]
    cases hm : memN acc i with
    | true =>
      simp only [cond_true]
      rw [dedup_mem]
      have := memN_iff.1 hm
      constructor
      · rintro (h | h)
        · exact .inl (by simp [h])
        · exact .inr h
      · rintro (h | h)
        · rcases List.mem_cons.1 h with e | h
          · subst e; exact .inr this
          · exact .inl h
        · exact .inr h
    | false =>
      simp only [cond_false]
      rw [dedup_mem]
      simp only [List.mem_cons]
      constructor
      · rintro (h | h | h)
        · exact .inl (.inr h)
        · exact .inl (.inl h)
        · exact .inr h
      · rintro ((h | h) | h)
        · exact .inr (.inl h)
        · exact .inl h
        · exact .inr (.inr h)

theorem inner_congr {g g' : Look} : ∀ {l : List Nat}, (∀ b ∈ l, g' b = g b) → inner g' l = inner g l
  | [], _ => rfl
  | i :: r, h => by
    rw [inner, inner, h i (by simp), inner_congr (fun b hb => h b (by simp [hb]))]
theorem inner_append {g : Look} : ∀ {a b : List Nat}, inner g (a ++ b) = inner g a ++ inner g b
  | [], b => rfl
  | i :: r, b => by rw [List.cons_append, inner, inner, inner_append, List.append_assoc]

theorem reach_congr {g g' : Look} {ids : List Nat} (h : ∀ b ∈ reach g ids, g' b = g b) : reach g' ids = reach g ids := by
  have h1 : ∀ b ∈ ids, g' b = g b := fun b hb => h b (dedup_mem.2 (.inl (List.mem_append.2 (.inl hb))))
  have e1 : inner g' ids = inner g ids := inner_congr h1
  have h2 : ∀ b ∈ inner g ids, g' b = g b := fun b hb => h b (dedup_mem.2 (.inl (List.mem_append.2 (.inr (by rw [inner_append]; exact List.mem_append.2 (.inl hb))))))
  unfold reach
  rw [e1, inner_congr (l := ids ++ inner g ids) (fun b hb => by
    rcases List.mem_append.1 hb with hb | hb
    · exact h1 b hb
    · exact h2 b hb)]

section
variable {R : Type} {E : Env} {ops : Array Oper} {o p : Oper} {st st1 st2 : St}

theorem parts_congr {v v' : Operand → AV} {parts : Array (Nat × Operand)} (h : ∀ q ∈ parts.toList, v' q.2 = v q.2) : (parts.toList.map fun q => (q.1, v' q.2)) = (parts.toList.map fun q => (q.1, v q.2)) :=
  List.map_congr_left (fun q hq => by rw [h q hq])

theorem aval_congr {g : Look} {d : Nat} {v v' : Operand → AV} {op : Op} {k : AV → Ups → Option R} (h : ∀ x ∈ op.operands.toList, v' x = v x) : aval E g d v' op k = aval E g d v op k := by
  unfold aval
  cases op
  case build t parts =>
    simp only
    rw [parts_congr (v := v) (v' := v') (fun q hq => h q.2 (by simp [Op.operands]; exact ⟨q.1, by simpa using hq⟩))]
  case buildSlice t n parts =>
    simp only
    rw [parts_congr (v := v) (v' := v') (fun q hq => h q.2 (by simp [Op.operands]; exact ⟨q.1, by simpa using hq⟩))]
  case slice t x lo hi mx =>
    simp only
    have h1 : v' x = v x := h x (by simp [Op.operands])
    have h2 : lo.map v' = lo.map v := by
      cases lo with
      | none => rfl
      | some y => simp; exact h y (by simp [Op.operands])
    have h3 : hi.map v' = hi.map v := by
      cases hi with
      | none => rfl
      | some y => simp; exact h y (by simp [Op.operands])
    have h4 : mx.map v' = mx.map v := by
      cases mx with
      | none => rfl
      | some y => simp; exact h y (by simp [Op.operands])
    rw [h1, h2, h3, h4]
  case makeFunc f first caps =>
    cases f <;> try rfl
    simp only
    have : (first.toList ++ caps.toList).map v' = (first.toList ++ caps.toList).map v := List.map_congr_left (fun x hx => h x (by simp [Op.operands]; simpa using hx))
    rw [this]
  case call c =>
    have ha : ∀ x ∈ c.args.toList, v' x = v x := fun x hx => h x (by
      simp only [Op.operands, Call.operands, Array.toList_append]
      exact List.mem_append.2 (.inr hx))
    have hm : c.args.toList.map v' = c.args.toList.map v := List.map_congr_left ha
    simp only
    cases hc : c.callee with
    | value f =>
      have hf : v' f = v f := h f (by simp [Op.operands, Call.operands, hc])
      simp only [hf, hm]
    | invoke a b => rfl
    | builtin b =>
      cases b <;> try rfl
      all_goals
        simp only
        split
        · first
            | (rename_i h1 h2
               simp only [h1, List.mem_cons, List.not_mem_nil, or_false, forall_eq_or_imp, forall_eq] at ha
               simp only [ha])
            | (rename_i h1
               simp only [h1, List.mem_cons, List.not_mem_nil, or_false, forall_eq_or_imp, forall_eq] at ha
               simp only [ha])
        · rfl
  all_goals first
    | rfl
    | (simp [Op.operands] at h; simp [h])
end
end Gx

namespace Gx
open Go
section
variable {R : Type} {E : Env} {ops : Array Oper} {o p : Oper} {st st1 st2 st3 : St}

def gslot (ops : Array Oper) (o : Oper) : List Nat := match guardSlot ops o with | some p => [p.1] | none => []
def valsOf (o : Oper) (s : Slots) : List AV := o.op.operands.toList.map (ev s)
def maskOf (h : Heap) (F : List Nat) : Look := fun b => cond (memN F b) (hget h b) none
def dOf (o : Oper) : Nat := o.dst.getD 50000

/-- What an operation does: the value, the changes of the heap, the footprint. -/
def acore (E : Env) (ops : Array Oper) (o : Oper) (st : St) : Option (AV × Ups × Foot) :=
  (awanted ops st.s o).bind fun wanted => cond wanted
    ((aval E (maskOf st.h (footOf st.h o.op (valsOf o st.s))) (dOf o) (ev st.s) o.op pr).bind fun q =>
      cond (upsOk (dOf o) (footOf st.h o.op (valsOf o st.s)) st.h q.2) (some (q.1, q.2, { r := gslot ops o ++ tmpsOf o.op.operands.toList, w := o.dst, f := footOf st.h o.op (valsOf o st.s), u := q.2.map (·.1) })) none)
    (some (.tup [], [], { r := gslot ops o, w := o.dst, f := [], u := [] }))

/-- The state behind it. -/
def after (E : Env) (o : Oper) (st : St) (q : AV × Ups × Foot) : St := { s := putS E.nt st.s o.dst q.1, h := applyUps q.2.1 st.h }

theorem aone_core (k : St → Foot → Option R) : aone E ops o st k = (acore E ops o st).bind fun q => k (after E o st q) q.2.2 := by
  unfold aone acore
  rw [Option.bind_assoc]
  congr 1; funext t
  rw [bind_cond]
  congr 1
  rw [aval_bind, Option.bind_assoc]
  congr 1; funext q
  rw [bind_cond]
  rfl

theorem tmpsOf_mem : ∀ {l : List Operand} {t : Nat}, Operand.tmp t ∈ l → t ∈ tmpsOf l
  | [], t, h => by simp at h
  | x :: r, t, h => by
    rcases List.mem_cons.1 h with e | h'
    · subst e; simp [tmpsOf]
    · have ih := tmpsOf_mem h'
      cases x <;> simp [tmpsOf] <;> first | exact .inr ih | exact ih

theorem upsOk_congr {d : Nat} {F : List Nat} {h h2 : Heap} : ∀ {ups : Ups}, (∀ b ∈ ups.map (·.1), hget h2 b = hget h b) → upsOk d F h2 ups = upsOk d F h ups
  | [], _ => rfl
  | (b, _) :: r, hh => by rw [upsOk, upsOk, hh b (by simp), upsOk_congr (fun c hc => hh c (by simp at hc ⊢; exact .inr hc))]

theorem awanted_congr {s s2 : Slots} (h : ∀ t ∈ gslot ops o, sget s2 t = sget s t) : awanted ops s2 o = awanted ops s o := by
  unfold awanted
  cases hg : o.guard with
  | none => rfl
  | some q =>
    obtain ⟨j, want⟩ := q
    simp only
    cases ht : (ops[j]?).bind (·.dst) with
    | none => rfl
    | some t =>
      have : sget s2 t = sget s t := h t (by simp [gslot, guardSlot, hg, ht])
      simp only [this]

theorem acore_local {q : AV × Ups × Foot} (hc : acore E ops o st = some q) (hr : ∀ t ∈ q.2.2.r, sget st2.s t = sget st.s t) (hf : ∀ b, b ∈ q.2.2.f ∨ b ∈ q.2.2.u → hget st2.h b = hget st.h b) : acore E ops o st2 = some q := by
  have hc0 := hc
  unfold acore at hc
  obtain ⟨t, ht, h1⟩ := ub hc
  cases t with
  | false =>
    simp at h1; subst h1
    unfold acore
    rw [awanted_congr (s := st.s) hr, ht]; rfl
  | true =>
    rw [cond_true] at h1
    obtain ⟨x, hx, h2⟩ := ub h1
    obtain ⟨hu, h3⟩ := uc h2
    simp at h3; subst h3
    simp only at hr hf
    have hv : ∀ y ∈ o.op.operands.toList, ev st2.s y = ev st.s y := fun y hy => by
      cases y with
      | tmp t => exact hr t (List.mem_append.2 (.inr (tmpsOf_mem hy)))
      | const _ => rfl
      | global _ => rfl
      | func _ => rfl
    have hvals : valsOf o st2.s = valsOf o st.s := List.map_congr_left hv
    have hF : footOf st2.h o.op (valsOf o st.s) = footOf st.h o.op (valsOf o st.s) := by
      unfold footOf at hf ⊢
      cases hlk : looksAt o.op with
      | true => rw [hlk] at hf; exact reach_congr (fun b hb => hf b (.inl hb))
      | false => rfl
    have hm : maskOf st2.h (footOf st.h o.op (valsOf o st.s)) = maskOf st.h (footOf st.h o.op (valsOf o st.s)) := by
      funext b
      unfold maskOf
      cases hb : memN (footOf st.h o.op (valsOf o st.s)) b with
      | false => rfl
      | true => simp only [cond_true]; exact hf b (.inl (memN_iff.1 hb))
    unfold acore
    rw [awanted_congr (s := st.s) (fun t ht => hr t (List.mem_append.2 (.inl ht))), ht]
    simp only [Option.bind_some, cond_true]
    rw [hvals, hF, hm, aval_congr hv, hx]
    simp only [Option.bind_some]
    rw [upsOk_congr (h := st.h) (fun b hb => hf b (.inr hb)), hu]
    rfl

theorem inUps_map : ∀ {ups : Ups} {b : Nat}, inUps ups b = true ↔ b ∈ ups.map (·.1)
  | [], b => by simp [inUps]
  | (i, _) :: r, b => by
    rw [inUps]
    cases hi : Nat.beq i b with
    | true => have := Nat.eq_of_beq_eq_true hi; subst this; simp
    | false =>
      have ne := beqF' hi
      simp only [cond_false]
      rw [inUps_map]
      simp only [List.map_cons, List.mem_cons]
      constructor
      · exact fun h => .inr h
      · rintro (h | h)
        · exact absurd h.symm ne
        · exact h

theorem acore_w {q : AV × Ups × Foot} (hc : acore E ops o st = some q) : q.2.2.w = o.dst ∧ q.2.2.u = q.2.1.map (·.1) := by
  unfold acore at hc
  obtain ⟨t, ht, h1⟩ := ub hc
  cases t with
  | false => simp at h1; subst h1; simp
  | true =>
    rw [cond_true] at h1
    obtain ⟨x, hx, h2⟩ := ub h1
    obtain ⟨hu, h3⟩ := uc h2
    simp at h3; subst h3; simp

theorem applyUps_congr : ∀ (ups : Ups) {h h2 : Heap}, (∀ b, hget h2 b = hget h b) → ∀ b, hget (applyUps ups h2) b = hget (applyUps ups h) b
  | [], _, _, hh, b => hh b
  | (i, some x) :: r, h, h2, hh, b => applyUps_congr r (fun c => by rw [hget_hput, hget_hput, hh c]) b
  | (i, none) :: r, h, h2, hh, b => by
    rw [applyUps, applyUps]
    refine applyUps_congr r (fun c => ?_) b
    rw [hh i]
    split
    · rw [hget_hput, hget_hput, hh c]
    · exact hh c

theorem after_congr {q : AV × Ups × Foot} (h : Eqv st st2) : Eqv (after E o st q) (after E o st2 q) := by
  refine ⟨fun t => ?_, fun b => ?_⟩
  · unfold after; simp only; rw [sget_putS, sget_putS, h.1 t]
  · exact (applyUps_congr q.2.1 (fun b => (h.2 b).symm) b).symm

/-- Changes of the heap at disjoint ids can be made in either order. -/
theorem applyUps_put {i : Nat} {y : Blk} : ∀ (ups : Ups) {h : Heap}, inUps ups i = false → ∀ b, hget (applyUps ups (hput h i y)) b = if b = i then some y else hget (applyUps ups h) b
  | [], h, _, b => hget_hput h i y b
  | (j, some x) :: r, h, hi, b => by
    rw [inUps] at hi
    cases hj : Nat.beq j i with
    | true => rw [hj] at hi; simp at hi
    | false =>
      rw [hj] at hi
      have ne := beqF' hj
      rw [applyUps, applyUps, applyUps_congr r (h := hput (hput h j x) i y) (fun c => by
        rw [hget_hput, hget_hput, hget_hput, hget_hput]
        by_cases e1 : c = j
        · subst e1; simp [ne]
        · simp [e1]) b]
      exact applyUps_put r hi b
  | (j, none) :: r, h, hi, b => by
    rw [inUps] at hi
    cases hj : Nat.beq j i with
    | true => rw [hj] at hi; simp at hi
    | false =>
      rw [hj] at hi
      have ne := beqF' hj
      rw [applyUps, applyUps, hget_hput, if_neg ne]
      split
      · rename_i x hx
        rw [applyUps_congr r (h := hput (hput h j { x with dead := true, pure := true, cells := [] }) i y) (fun c => by
          rw [hget_hput, hget_hput, hget_hput, hget_hput]
          by_cases e1 : c = j
          · subst e1; simp [ne]
          · simp [e1]) b]
        exact applyUps_put r hi b
      · exact applyUps_put r hi b

theorem applyUps_comm : ∀ (u1 u2 : Ups) (h : Heap), (∀ b, inUps u1 b = true → inUps u2 b = false) → ∀ b, hget (applyUps u2 (applyUps u1 h)) b = hget (applyUps u1 (applyUps u2 h)) b
  | [], u2, h, _, b => rfl
  | (i, some x) :: r, u2, h, hd, b => by
    rw [applyUps, applyUps]
    have hi : inUps u2 i = false := hd i (by simp [inUps])
    rw [applyUps_comm r u2 (hput h i x) (fun c hc => hd c (by rw [inUps, hc]; cases Nat.beq i c <;> rfl)) b]
    refine applyUps_congr r (fun c => ?_) b
    rw [applyUps_put u2 hi, hget_hput]
  | (i, none) :: r, u2, h, hd, b => by
    rw [applyUps, applyUps]
    have hi : inUps u2 i = false := hd i (by simp [inUps])
    rw [applyUps_other u2 h i hi]
    split
    · rename_i x hx
      rw [applyUps_comm r u2 _ (fun c hc => hd c (by rw [inUps, hc]; cases Nat.beq i c <;> rfl)) b]
      refine applyUps_congr r (fun c => ?_) b
      rw [applyUps_put u2 hi, hget_hput]
    · exact applyUps_comm r u2 h (fun c hc => hd c (by rw [inUps, hc]; cases Nat.beq i c <;> rfl)) b

theorem disj_iff : ∀ {a l : List Nat}, disj a l = true → ∀ b ∈ a, b ∉ l
  | [], l, _, b, hb => by simp at hb
  | i :: r, l, h, b, hb => by
    rw [disj] at h; simp at h
    rcases List.mem_cons.1 hb with e | hb
    · subst e; intro hm; rw [memN_iff.2 hm] at h; simp at h
    · exact disj_iff h.2 b hb

theorem after_sget {q : AV × Ups × Foot} {t : Nat} (h : o.dst ≠ some t) : sget (after E o st q).s t = sget st.s t := by
  unfold after; simp only; rw [sget_putS, if_neg (fun hh => h hh.1)]
theorem after_hget {q : AV × Ups × Foot} {b : Nat} (h : b ∉ q.2.1.map (·.1)) : hget (after E o st q).h b = hget st.h b := by
  unfold after; simp only
  rw [applyUps_other]
  cases hi : inUps q.2.1 b with
  | false => rfl
  | true => exact absurd (inUps_map.1 hi) h

theorem wIn_false {w : Option Nat} {l : List Nat} (h : wIn w l = false) : ∀ t ∈ l, w ≠ some t := by
  intro t ht e
  subst e
  rw [wIn, memN_iff.2 ht] at h; cases h

/-- Two operations that do not touch each other's things can change places. -/
theorem swap {q1 q2 : AV × Ups × Foot} (h1 : acore E ops p st = some q1) (h2 : acore E ops o (after E p st q1) = some q2) (hi : indep q1.2.2 q2.2.2 = true) :
    acore E ops o st = some q2 ∧ acore E ops p (after E o st q2) = some q1 ∧ Eqv (after E p (after E o st q2) q1) (after E o (after E p st q1) q2) := by
  unfold indep at hi
  simp only [Bool.and_eq_true, Bool.not_eq_true'] at hi
  obtain ⟨⟨⟨⟨i1, i2⟩, i3⟩, i4⟩, i5⟩ := hi
  obtain ⟨w1, u1⟩ := acore_w h1
  obtain ⟨w2, u2⟩ := acore_w h2
  have d1 := disj_iff i4
  have d2 := disj_iff i5
  have a1 : acore E ops o st = some q2 := acore_local h2 (fun t ht => (after_sget (by rw [← w1]; exact wIn_false i1 t ht)).symm) (fun b hb => (after_hget (fun hm => by
    rw [← u1] at hm
    exact d1 b hm (by rcases hb with hb | hb <;> simp [hb]))).symm)
  have a2 : acore E ops p (after E o st q2) = some q1 := acore_local h1 (fun t ht => after_sget (by rw [← w2]; exact wIn_false i2 t ht)) (fun b hb => after_hget (fun hm => by
    rw [← u2] at hm
    rcases hb with hb | hb
    · exact d2 b hm hb
    · exact d1 b hb (by simp [hm])))
  refine ⟨a1, a2, fun t => ?_, fun b => ?_⟩
  · unfold after; simp only
    rw [sget_putS, sget_putS, sget_putS, sget_putS]
    by_cases e1 : p.dst = some t ∧ t < E.nt
    · by_cases e2 : o.dst = some t ∧ t < E.nt
      · exfalso
        rw [w1, w2, e1.1, e2.1] at i3
        simp at i3
      · rw [if_pos e1, if_neg e2, if_pos e1]
    · by_cases e2 : o.dst = some t ∧ t < E.nt
      · rw [if_neg e1, if_pos e2, if_pos e2]
      · rw [if_neg e1, if_neg e2, if_neg e2, if_neg e1]
  · unfold after; simp only
    refine (applyUps_comm q1.2.1 q2.2.1 st.h (fun c hc => ?_) b).symm
    cases hx : inUps q2.2.1 c with
    | false => rfl
    | true =>
      have m1 : c ∈ q1.2.2.u := by rw [u1]; exact inUps_map.1 hc
      have m2 : c ∈ q2.2.2.u := by rw [u2]; exact inUps_map.1 hx
      exact absurd (by simp [m2]) (d1 c m1)

/-- The operations of a list, one after the other, with the footprints that are given. -/
def RunF (E : Env) (ops : Array Oper) (fp : Nat → Foot) : List (Nat × Oper) → St → St → Prop
  | [], st, e => Eqv st e
  | (i, o) :: r, st, e => ∃ q, acore E ops o st = some q ∧ q.2.2 = fp i ∧ RunF E ops fp r (after E o st q) e

theorem RunF.congr {fp : Nat → Foot} : ∀ {l : List (Nat × Oper)} {st st2 e : St}, RunF E ops fp l st e → Eqv st st2 → RunF E ops fp l st2 e
  | [], st, st2, e, h, he => he.symm.trans h
  | (i, o) :: r, st, st2, e, h, he => by
    rw [RunF] at h ⊢
    obtain ⟨q, h1, h2, h3⟩ := h
    exact ⟨q, acore_local h1 (fun t _ => (he.1 t).symm) (fun b _ => (he.2 b).symm), h2, RunF.congr h3 (after_congr he)⟩

/-- An operation that does not touch the things of those ahead of it can be taken first. -/
theorem RunF.pull {fp : Nat → Foot} {i : Nat} {o : Oper} {B : List (Nat × Oper)} : ∀ {A : List (Nat × Oper)} {st e : St}, RunF E ops fp (A ++ (i, o) :: B) st e → (∀ jp ∈ A, indep (fp jp.1) (fp i) = true) →
    ∃ q, acore E ops o st = some q ∧ q.2.2 = fp i ∧ RunF E ops fp (A ++ B) (after E o st q) e
  | [], st, e, h, _ => h
  | (j, p) :: A, st, e, h, hA => by
    rw [List.cons_append, RunF] at h
    obtain ⟨q1, h1, h2, h3⟩ := h
    obtain ⟨q2, g1, g2, g3⟩ := RunF.pull h3 (fun jp hm => hA jp (by simp [hm]))
    have hi : indep q1.2.2 q2.2.2 = true := by rw [h2, g2]; exact hA (j, p) (by simp)
    obtain ⟨a1, a2, a3⟩ := swap h1 g1 hi
    refine ⟨q2, a1, g2, ?_⟩
    rw [List.cons_append, RunF]
    exact ⟨q1, a2, h2, RunF.congr g3 a3.symm⟩
end
end Gx

namespace Gx
open Go

def idx : Nat → List Oper → List (Nat × Oper)
  | _, [] => []
  | n, o :: r => (n, o) :: idx (n + 1) r

theorem idx_mem : ∀ {l : List Oper} {n : Nat} {p : Nat × Oper}, p ∈ idx n l ↔ n ≤ p.1 ∧ l[p.1 - n]? = some p.2
  | [], n, p => by simp [idx]
  | o :: r, n, p => by
    rw [idx, List.mem_cons, idx_mem]
    constructor
    · rintro (rfl | ⟨h1, h2⟩)
      · simp
      · refine ⟨by omega, ?_⟩
        rw [show p.1 - n = (p.1 - (n + 1)) + 1 by omega]; simpa using h2
    · rintro ⟨h1, h2⟩
      by_cases e : p.1 = n
      · left
        rw [e] at h2; simp at h2
        obtain ⟨a, b⟩ := p
        simp at e h2; subst e h2; rfl
      · right
        refine ⟨by omega, ?_⟩
        rw [show p.1 - n = (p.1 - (n + 1)) + 1 by omega] at h2; simpa using h2
theorem idx_sorted : ∀ (l : List Oper) (n : Nat), (idx n l).Pairwise (fun a b => a.1 < b.1)
  | [], n => List.Pairwise.nil
  | o :: r, n => by
    rw [idx]
    refine List.pairwise_cons.2 ⟨fun p hp => ?_, idx_sorted r (n + 1)⟩
    have := (idx_mem.1 hp).1
    show n < p.1; omega

section
variable {R : Type} {r : R} {Z : Start} {E : Env} {ops : Array Oper}

def RunL (E : Env) (ops : Array Oper) : List Oper → List Foot → St → St → Prop
  | [], [], st, e => st = e
  | o :: l, f :: fs, st, e => ∃ st' q, Eqv st st' ∧ acore E ops o st' = some q ∧ q.2.2 = f ∧ RunL E ops l fs (after E o st' q) e
  | _, _, _, _ => False

theorem aops_run : ∀ {l : List Oper} {st : St} {tr : List Foot} {k : St → List Foot → Option R}, aops E ops l st tr k = some r → ∃ fs e, k e (fs.reverse ++ tr) = some r ∧ RunL E ops l fs st e
  | [], st, tr, k, h => ⟨[], st, by simpa [aops] using h, rfl⟩
  | o :: l, st, tr, k, h => by
    rw [aops] at h
    obtain ⟨st', he, h⟩ := settle_eqv h
    rw [aone_core] at h
    obtain ⟨q, h1, h2⟩ := ub h
    obtain ⟨fs, e, h3, h4⟩ := aops_run h2
    exact ⟨q.2.2 :: fs, e, by simpa using h3, st', q, he, h1, rfl, h4⟩

theorem RunL.length : ∀ {l : List Oper} {fs : List Foot} {st e : St}, RunL E ops l fs st e → fs.length = l.length
  | [], [], _, _, _ => rfl
  | [], _ :: _, _, _, h => h.elim
  | _ :: _, [], _, _, h => h.elim
  | o :: l, f :: fs, st, e, ⟨_, q, _, _, _, h⟩ => by simp [RunL.length h]

theorem RunL.runF {fp : Nat → Foot} : ∀ {l : List Oper} {fs : List Foot} {n : Nat} {st e : St}, RunL E ops l fs st e → (∀ (j : Nat) (f : Foot), fs[j]? = some f → fp (n + j) = f) → RunF E ops fp (idx n l) st e
  | [], [], n, st, e, h, _ => by subst h; exact Eqv.refl _
  | [], _ :: _, _, _, _, h, _ => h.elim
  | _ :: _, [], _, _, _, h, _ => h.elim
  | o :: l, f :: fs, n, st, e, ⟨st', q, he, h1, h2, h3⟩, hf => by
    rw [idx]
    refine RunF.congr ?_ he.symm
    rw [RunF]
    refine ⟨q, h1, by rw [h2]; exact (hf 0 f (by simp)).symm, RunL.runF h3 (fun j g hj => ?_)⟩
    have := hf (j + 1) g (by simpa using hj)
    rwa [show n + (j + 1) = n + 1 + j by omega] at this

theorem orderOne_at {f : Foot} {anc : List Nat} : ∀ {seen : List Foot} {i : Nat}, orderOne f anc i seen = true → ∀ (j : Nat) (g : Foot), seen[j]? = some g → (i + j) ∈ anc ∨ indep g f = true
  | [], i, _, j, g, hj => by simp at hj
  | x :: r, i, h, j, g, hj => by
    rw [orderOne] at h; simp only [Bool.and_eq_true, Bool.or_eq_true] at h
    cases j with
    | zero =>
      simp at hj; subst hj
      rcases h.1 with h1 | h1
      · exact .inl (memN_iff.1 h1)
      · exact .inr h1
    | succ j =>
      have := orderOne_at h.2 j g (by simpa using hj)
      rwa [show i + 1 + j = i + (j + 1) by omega] at this
theorem orderOk_at : ∀ {fs : List Foot} {as : List (List Nat)} {seen : List Foot}, orderOk fs as seen = true → ∀ (i : Nat) (f : Foot), fs[i]? = some f →
    ∃ a, as[i]? = some a ∧ ∀ (j : Nat) (g : Foot), (seen ++ fs)[j]? = some g → j < seen.length + i → j ∈ a ∨ indep g f = true
  | [], as, seen, _, i, f, hf => by simp at hf
  | x :: r, [], seen, h, i, f, hf => by simp [orderOk] at h
  | x :: r, a :: as, seen, h, i, f, hf => by
    rw [orderOk] at h; simp only [Bool.and_eq_true] at h
    cases i with
    | zero =>
      simp at hf; subst hf
      refine ⟨a, by simp, fun j g hj hlt => ?_⟩
      rw [List.getElem?_append, if_pos (by omega)] at hj
      simpa using orderOne_at h.1 j g hj
    | succ i =>
      obtain ⟨a', h1, h2⟩ := orderOk_at h.2 i f (by simpa using hf)
      refine ⟨a', by simpa using h1, fun j g hj hlt => h2 j g ?_ (by simp; omega)⟩
      simpa using hj

theorem ancestors_pre : ∀ {l : List Oper} {acc : List (List Nat)} {i : Nat}, i < acc.length → (ancestors l acc)[i]? = acc[i]?
  | [], acc, i, _ => rfl
  | o :: r, acc, i, hi => by
    rw [ancestors, ancestors_pre (by simp; omega), List.getElem?_append, if_pos hi]
/-- The ancestors are the direct ones and theirs. -/
theorem ancestors_at : ∀ {l : List Oper} {acc : List (List Nat)} {i : Nat} {a : List Nat}, (ancestors l acc)[i]? = some a → acc.length ≤ i → ∃ o, l[i - acc.length]? = some o ∧
    ∀ k ∈ a, k ∈ direct o ∨ ∃ j a', j ∈ direct o ∧ j < i ∧ (ancestors l acc)[j]? = some a' ∧ k ∈ a'
  | [], acc, i, a, h, hi => by
    rw [ancestors, List.getElem?_eq_none hi] at h; cases h
  | o :: r, acc, i, a, h, hi => by
    by_cases e : i = acc.length
    · subst e
      rw [ancestors, ancestors_pre (by simp)] at h
      simp at h
      refine ⟨o, by simp, fun k hk => ?_⟩
      rw [← h] at hk
      rcases List.mem_append.1 hk with hk | hk
      · exact .inl hk
      · right
        obtain ⟨j, hj, hk⟩ := List.mem_flatMap.1 hk
        cases ha : acc[j]? with
        | none => rw [ha] at hk; simp at hk
        | some a' =>
          rw [ha] at hk; simp at hk
          have hlt : j < acc.length := (List.getElem?_eq_some_iff.1 ha).1
          exact ⟨j, a', hj, hlt, by rw [ancestors_pre hlt]; exact ha, hk⟩
    · rw [ancestors] at h
      obtain ⟨o', h1, h2⟩ := ancestors_at h (by simp; omega)
      refine ⟨o', ?_, fun k hk => ?_⟩
      · simp at h1
        rw [show i - acc.length = (i - (acc.length + 1)) + 1 by omega]; simpa using h1
      · rw [ancestors]; exact h2 k hk

theorem forwardOk_at : ∀ {l : List Oper} {n i : Nat} {o : Oper}, forwardOk n l = true → l[i]? = some o → ∀ e ∈ o.after, bindsAll e = true → e.on < n + i
  | [], n, i, o, _, hi, _, _, _ => by simp at hi
  | x :: r, n, i, o, h, hi, e, he, hb => by
    rw [forwardOk] at h; simp only [Bool.and_eq_true] at h
    cases i with
    | zero =>
      simp at hi; subst hi
      have := List.all_eq_true.1 h.1 e (by simpa using he)
      rw [hb] at this; simpa using this
    | succ i =>
      have := forwardOk_at h.2 (by simpa using hi) e he hb
      omega

theorem binds_any (e : Edge) : Region.binds .any e = bindsAll e := by
  unfold Region.binds bindsAll
  cases e.ground <;> rfl

/-- All that must stand ahead of i is listed. -/
theorem anc_listed {listed : Array Bool} (hclosed : ∀ (j : Nat) (o : Oper), ops[j]? = some o → listed.getD j true = true → ∀ k ∈ direct o, listed.getD k false = true) :
    ∀ (i : Nat) (a : List Nat) (o : Oper), (ancestors ops.toList [])[i]? = some a → ops[i]? = some o → (∀ k ∈ direct o, listed.getD k false = true) → ∀ k ∈ a, listed.getD k false = true := by
  intro i
  induction i using Nat.strongRecOn with
  | _ i ih =>
    intro a o ha ho hd k hk
    obtain ⟨o', h1, h2⟩ := ancestors_at ha (by simp)
    simp at h1
    rw [ho] at h1; simp at h1; subst h1
    rcases h2 k hk with h3 | ⟨j, a', h3, h4, h5, h6⟩
    · exact hd k h3
    · have hjl := hd j h3
      obtain ⟨oj, hoj, _⟩ := ancestors_at h5 (by simp)
      simp at hoj
      have hjt : listed.getD j true = true := by
        rw [Array.getD_eq_getD_getElem?] at hjl ⊢
        cases hx : listed[j]? with
        | none => rw [hx] at hjl; simp at hjl
        | some b => rw [hx] at hjl; simpa using hjl
      exact ih j h4 a' oj h5 hoj (hclosed j oj hoj hjt) k h6

/-- What is still to come. -/
def rest (ops : Array Oper) (listed : Array Bool) : List (Nat × Oper) := (idx 0 ops.toList).filter fun p => !listed.getD p.1 true

theorem rest_sorted (listed : Array Bool) : (rest ops listed).Pairwise (fun a b => a.1 < b.1) := (idx_sorted _ _).filter _

theorem rest_mem {listed : Array Bool} {p : Nat × Oper} : p ∈ rest ops listed ↔ ops[p.1]? = some p.2 ∧ listed.getD p.1 true = false := by
  unfold rest
  rw [List.mem_filter, idx_mem]
  simp

theorem rest_set {listed : Array Bool} {i : Nat} {o : Oper} {A B : List (Nat × Oper)} (h : rest ops listed = A ++ (i, o) :: B) : rest ops (listed.setIfInBounds i true) = A ++ B := by
  have hi : (i, o) ∈ rest ops listed := by rw [h]; simp
  have hil := (rest_mem.1 hi).2
  have hlt : i < listed.size := by
    rw [Array.getD_eq_getD_getElem?] at hil
    rcases Nat.lt_or_ge i listed.size with hl | hl
    · exact hl
    · rw [Array.getElem?_eq_none hl] at hil; simp at hil
  have h1 : rest ops (listed.setIfInBounds i true) = (rest ops listed).filter fun p => !Nat.beq p.1 i := by
    unfold rest
    rw [List.filter_filter]
    congr 1; funext p
    by_cases e : p.1 = i
    · rw [e]; simp [hlt]
    · rw [getD_set_ne true (fun e' => e e'.symm), beqF e]; simp
  rw [h1, h, List.filter_append, List.filter_cons]
  have hs := rest_sorted (ops := ops) listed
  rw [h] at hs
  have hs' := List.pairwise_append.1 hs
  have hB := List.pairwise_cons.1 hs'.2.1
  have e1 : A.filter (fun p => !Nat.beq p.1 i) = A := List.filter_eq_self.2 (fun p hp => by
    have : p.1 < i := hs'.2.2 p hp (i, o) (by simp)
    rw [beqF (by omega)]; rfl)
  have e2 : B.filter (fun p => !Nat.beq p.1 i) = B := List.filter_eq_self.2 (fun p hp => by
    have : i < p.1 := hB.1 p hp
    rw [beqF (by omega)]; rfl)
  rw [e1, e2]; simp

theorem any_sound (hC : CallOk E) {Q : Exit → Act → World → Prop} {fp : Nat → Foot} {e : St} (hfw : forwardOk 0 ops.toList = true)
    (hord : ∀ (i j : Nat) (o : Oper), ops[i]? = some o → j < i → ∃ a, (ancestors ops.toList [])[i]? = some a ∧ (j ∈ a ∨ indep (fp j) (fp i) = true))
    (hQ : ∀ a' w' J' β', Inv Z E.nt J' β' e a' w' → Q .normal a' w') :
    ∀ (fuel : Nat) (listed : Array Bool) {st : St} {a : Act} {w : World} {J : Bool → Nat → Prop} {β : Beta}, listed.size = ops.size → (rest ops listed).length = fuel →
      (∀ (j : Nat) (o : Oper), ops[j]? = some o → listed.getD j true = true → ∀ k ∈ direct o, listed.getD k false = true) →
      RunF E ops fp (rest ops listed) st e → Inv Z E.nt J β st a w → wpAny E.P .any ops Q fuel listed a w := by
  intro fuel
  have fin : ∀ (listed : Array Bool) {st : St} {a : Act} {w : World} {J : Bool → Nat → Prop} {β : Beta}, rest ops listed = [] → RunF E ops fp (rest ops listed) st e → Inv Z E.nt J β st a w → Region.ready .any ops listed = [] ∧ Q .normal a w := by
    intro listed st a w J β hr hrun I
    refine ⟨List.eq_nil_iff_forall_not_mem.2 (fun i hi => ?_), ?_⟩
    · obtain ⟨h1, o, h2, _⟩ := mem_ready.1 hi
      have : (i, o) ∈ rest ops listed := rest_mem.2 ⟨h2, h1⟩
      rw [hr] at this; simp at this
    · rw [hr, RunF] at hrun
      exact hQ _ _ J β (I.eqv hrun)
  induction fuel with
  | zero =>
    intro listed st a w J β _ hlen _ hrun I
    exact fin listed (List.length_eq_zero_iff.1 hlen) hrun I
  | succ fuel ih =>
    intro listed st a w J β hsz hlen hclosed hrun I
    refine ⟨fun hnil => ?_, fun i hi => ?_⟩
    · -- the first that is left is ready
      cases hrest : rest ops listed with
      | nil => rw [hrest] at hlen; simp at hlen
      | cons p r =>
        exfalso
        have hp : p ∈ rest ops listed := by rw [hrest]; simp
        obtain ⟨ho, hl⟩ := rest_mem.1 hp
        have hs := rest_sorted (ops := ops) listed
        rw [hrest] at hs
        have hmin := (List.pairwise_cons.1 hs).1
        have : p.1 ∈ Region.ready .any ops listed := mem_ready.2 ⟨hl, p.2, ho, fun ed hed hb => by
          rw [binds_any] at hb
          have hlt := forwardOk_at hfw (i := p.1) (o := p.2) (by simpa using ho) ed hed hb
          simp at hlt
          have hops : ed.on < ops.size := by have := (Array.getElem?_eq_some_iff.1 ho).1; omega
          cases hx : listed.getD ed.on true with
          | true =>
            rw [Array.getD_eq_getD_getElem?] at hx ⊢
            rw [Array.getElem?_eq_getElem (by omega)] at hx ⊢
            simpa using hx
          | false =>
            have hm : (ed.on, ops[ed.on]) ∈ rest ops listed := rest_mem.2 ⟨by simp [hops], hx⟩
            rw [hrest] at hm
            rcases List.mem_cons.1 hm with e1 | e1
            · have : ed.on = p.1 := by rw [← e1]
              omega
            · have := hmin _ e1
              simp at this; omega⟩
        rw [hnil] at this; simp at this
    · obtain ⟨hl, o, ho, hall⟩ := mem_ready.1 hi
      have hmem : (i, o) ∈ rest ops listed := rest_mem.2 ⟨ho, hl⟩
      obtain ⟨A, B, hAB⟩ := List.append_of_mem hmem
      have hdir : ∀ k ∈ direct o, listed.getD k false = true := by
        intro k hk
        unfold direct at hk
        obtain ⟨ed, hed, rfl⟩ := List.mem_map.1 hk
        obtain ⟨h1, h2⟩ := List.mem_filter.1 hed
        exact hall ed (by simpa using h1) (by rw [binds_any]; exact h2)
      have hs := rest_sorted (ops := ops) listed
      rw [hAB] at hs
      have hs' := List.pairwise_append.1 hs
      rw [hAB] at hrun
      obtain ⟨q, g1, g2, g3⟩ := hrun.pull (fun jp hjp => by
        have hlt : jp.1 < i := hs'.2.2 jp hjp (i, o) (by simp)
        obtain ⟨an, h1, h2⟩ := hord i jp.1 o ho hlt
        rcases h2 with h2 | h2
        · exfalso
          have := anc_listed hclosed i an o h1 ho hdir jp.1 h2
          have hjm : jp ∈ rest ops listed := by rw [hAB]; simp [hjp]
          have h3 := (rest_mem.1 hjm).2
          rw [Array.getD_eq_getD_getElem?] at this h3
          cases hx : listed[jp.1]? with
          | none => rw [hx] at this; simp at this
          | some b => rw [hx] at this h3; simp at this h3; rw [this] at h3; cases h3
        · exact h2)
      have hone : aone E ops o st (fun s f => some (s, f)) = some (after E o st q, q.2.2) := by rw [aone_core, g1]; rfl
      obtain ⟨st', f, h4, h5⟩ := aone_sound (K := wpAny E.P .any ops Q fuel (listed.setIfInBounds i true)) (Q := Q) hC I hone
      simp only [Option.some.injEq, Prod.mk.injEq] at h4
      obtain ⟨rfl, rfl⟩ := h4
      have hlt : i < listed.size := by rw [hsz]; exact (Array.getElem?_eq_some_iff.1 ho).1
      have := h5 (fun a' w' J' β' I' => ih (listed.setIfInBounds i true) (by simp [hsz]) (by
          rw [rest_set hAB]; rw [hAB] at hlen; simp at hlen ⊢; omega) (fun j oj hoj hj k hk => ?_) (by rw [rest_set hAB]; exact g3) I')
      · unfold wpOp
        rw [ho]
        simp only
        split
        · rename_i hw; rw [if_pos hw] at this; exact .inl this
        · rename_i hw; rw [if_neg hw] at this; exact this
      · by_cases e1 : j = i
        · subst e1
          rw [ho] at hoj; simp at hoj; subst hoj
          exact getD_set_true (hdir k hk)
        · rw [getD_set_ne true (fun e' => e1 e'.symm)] at hj
          exact getD_set_true (hclosed j oj hoj hj k hk)
end
end Gx

namespace Gx
open Go
section
variable {R : Type} {r : R} {Z : Start} {E : Env}

theorem aregion_sound (hC : CallOk E) (hm : E.P.follows .mixedOrders = true) {K roots : List Nat} {id : Nat} {ops : Array Oper} {draw : Bool} {st : St} {k : St → Option R} {a : Act} {w : World} {J : Bool → Nat → Prop} {β : Beta} {Q : Exit → Act → World → Prop}
    (I : Inv Z E.nt J β st a w) (hh : aregion E K roots ops draw st k = some r) (hQ : ∀ st' a' w' J' β', Inv Z E.nt J' β' st' a' w' → k st' = some r → Q .normal a' w') : (Code.region id ops draw).wp E.P Q a w := by
  unfold aregion at hh
  have done : ∀ {st' : St} {tr : List Foot} {a' : Act} {w' : World} {J' : Bool → Nat → Prop} {β' : Beta}, Inv Z E.nt J' β' st' a' w' →
      cond (!draw || (forwardOk 0 ops.toList && orderOk tr.reverse (ancestors ops.toList []) [])) ((clean K roots st').bind k) none = some r → Q .normal a' w' := by
    intro st' tr a' w' J' β' I' h'
    obtain ⟨_, h1⟩ := uc h'
    obtain ⟨st2, h2, h3⟩ := ub h1
    obtain ⟨β2, I2⟩ := clean_sound I' h2
    exact hQ _ _ _ _ _ I2 h3
  cases draw with
  | false => exact wp_region_list (aops_sound hC _ I hh (fun st' tr' a' w' J' β' I' h' => done I' h'))
  | true =>
    obtain ⟨fs, e, h1, h2⟩ := aops_run hh
    obtain ⟨hc, h3⟩ := uc h1
    simp at hc
    obtain ⟨hfw, hord⟩ := hc
    have hlen := h2.length
    refine wp_region_any hm ?_
    have I' : Inv Z E.nt J β st a w.drew := I.step (Step.drew I.sim) (fun b x hx hn => by rw [hx] at hn; cases hn)
    have hrest : rest ops (Array.replicate ops.size false) = idx 0 ops.toList := by
      unfold rest
      refine List.filter_eq_self.2 (fun p hp => ?_)
      have := (idx_mem.1 hp).2
      have hlt : p.1 < ops.size := by
        simp at this
        exact (Array.getElem?_eq_some_iff.1 this).1
      simp [hlt]
    have hidx : (idx 0 ops.toList).length = ops.size := by
      have : ∀ (l : List Oper) (n : Nat), (idx n l).length = l.length := by
        intro l
        induction l with
        | nil => intro n; rfl
        | cons o r ih => intro n; simp [idx, ih]
      rw [this]; simp
    have hrun : RunF E ops (fun i => fs.getD i { r := [], w := none, f := [], u := [] }) (idx 0 ops.toList) st e := h2.runF (fun j f hj => by simp [hj])
    refine any_sound hC (fp := fun i => fs.getD i { r := [], w := none, f := [], u := [] }) (e := e) hfw (fun i j o ho hji => ?_) (fun a' w' J' β' Ie => done (tr := fs.reverse ++ []) Ie h1) ops.size _ (by simp) (by rw [hrest, hidx]) (fun j o ho hj => ?_) (by rw [hrest]; exact hrun) I'
    · have hi : i < fs.length := by rw [hlen]; simpa using (Array.getElem?_eq_some_iff.1 ho).1
      obtain ⟨an, g1, g2⟩ := orderOk_at hord i fs[i] (List.getElem?_eq_getElem hi)
      refine ⟨an, g1, ?_⟩
      have hj : j < fs.length := by omega
      have := g2 j fs[j] (by simp [hj]) (by simpa using hji)
      simpa [hi, hj] using this
    · exfalso
      have hlt : j < ops.size := (Array.getElem?_eq_some_iff.1 ho).1
      simp [hlt] at hj

end
end Gx

namespace Gx
open Go

theorem renVs_length (ρ : Nat → Nat) : ∀ c : List AV, (renVs ρ c).length = c.length
  | [] => rfl
  | x :: r => by rw [renVs, List.length_cons, List.length_cons, renVs_length ρ r]
theorem renB_length (ρ : Nat → Nat) (x : Blk) : (renB ρ x).cells.length = x.cells.length := by
  unfold renB; cases x.pure
  · simp; exact renVs_length _ _
  · rfl
theorem renVs_get {ρ : Nat → Nat} : ∀ {c : List AV} {j : Nat} {y : AV}, (renVs ρ c)[j]? = some y → ∃ x, c[j]? = some x ∧ y = renV ρ x
  | [], j, y, hj => by simp [renVs] at hj
  | x :: r, j, y, hj => by
    rw [renVs] at hj
    cases j with
    | zero => simp at hj; exact ⟨x, by simp, hj.symm⟩
    | succ j => obtain ⟨x', h1, h2⟩ := renVs_get (c := r) (j := j) (by simpa using hj); exact ⟨x', by simpa using h1, h2⟩

section
variable {R : Type} {r : R} {J J' : Bool → Nat → Prop} {β β' : Beta} {h h' : Heap} {w w' : World} {ids : List Nat} {ρ : Nat → Nat}

theorem sub_get {g : Look} : ∀ {ids : List Nat}, (ids.map ρ).Nodup → ∀ c y, hget (sub g ρ ids) c = some y → ∃ b x, b ∈ ids ∧ ρ b = c ∧ g b = some x ∧ y = renB ρ x
  | [], _, c, y, hc => by simp [sub, hget] at hc
  | b :: r, hn, c, y, hc => by
    rw [List.map_cons, List.nodup_cons] at hn
    rw [sub] at hc
    split at hc
    · rename_i x hx
      rw [hget_hput] at hc
      by_cases e : c = ρ b
      · rw [if_pos e] at hc; simp at hc
        exact ⟨b, x, by simp, e.symm, hx, hc.symm⟩
      · rw [if_neg e] at hc
        obtain ⟨b', x', h1, h2, h3, h4⟩ := sub_get hn.2 c y hc
        exact ⟨b', x', by simp [h1], h2, h3, h4⟩
    · obtain ⟨b', x', h1, h2, h3, h4⟩ := sub_get hn.2 c y hc
      exact ⟨b', x', by simp [h1], h2, h3, h4⟩
theorem sub_mem {g : Look} : ∀ {ids : List Nat}, (ids.map ρ).Nodup → ∀ b x, b ∈ ids → g b = some x → hget (sub g ρ ids) (ρ b) = some (renB ρ x)
  | [], _, b, x, hb, _ => by simp at hb
  | b' :: r, hn, b, x, hb, hx => by
    rw [List.map_cons, List.nodup_cons] at hn
    rw [sub]
    by_cases e : b = b'
    · subst e
      rw [hx]
      simp only
      rw [hget_hput, if_pos rfl]
    · have hm : b ∈ r := by simpa [e] using hb
      have ne : ρ b ≠ ρ b' := fun h => hn.1 (by rw [← h]; exact List.mem_map.2 ⟨b, hm, rfl⟩)
      split
      · rw [hget_hput, if_neg ne]; exact sub_mem hn.2 b x hm hx
      · exact sub_mem hn.2 b x hm hx

def backR (ρ : Nat → Nat) (ids : List Nat) (c : Nat) : Option Nat := ids.find? fun b => Nat.beq (ρ b) c
theorem backR_of (hn : (ids.map ρ).Nodup) {b : Nat} (hb : b ∈ ids) : backR ρ ids (ρ b) = some b := by
  induction ids with
  | nil => simp at hb
  | cons i r ih =>
    rw [List.map_cons, List.nodup_cons] at hn
    unfold backR at ih ⊢
    rw [List.find?_cons]
    by_cases e : b = i
    · subst e; simp
    · have hm : b ∈ r := by simpa [e] using hb
      have ne : ρ i ≠ ρ b := fun h => hn.1 (by rw [h]; exact List.mem_map.2 ⟨b, hm, rfl⟩)
      rw [beqF ne]; exact ih hn.2 hm

/-- The places under new names. -/
def betaR (ρ : Nat → Nat) (ids : List Nat) (β : Beta) : Beta := fun c => (backR ρ ids c).bind β
theorem betaR_of (hn : (ids.map ρ).Nodup) {b : Nat} (hb : b ∈ ids) : betaR ρ ids β (ρ b) = β b := by
  unfold betaR; rw [backR_of hn hb]; rfl

mutual
theorem Rep.ren (hn : (ids.map ρ).Nodup) : ∀ {x : AV} {v : Value}, (∀ b ∈ idsOf x, b ∈ ids) → Rep J β h w x v → Rep J (betaR ρ ids β) (sub (hget h) ρ ids) w (renV ρ x) v
  | .own b off n, v, hm, hr => by
    rw [Rep] at hr
    obtain ⟨x, A, cap, hx, h1, h2, h3⟩ := hr
    have hb := hm b (by simp [idsOf])
    rw [renV, Rep]
    refine ⟨renB ρ x, A, cap, sub_mem hn b x hb hx, h1, h2, ?_⟩
    rw [renB_length, betaR_of hn hb]
    exact h3
  | .optr b off, v, hm, hr => by
    rw [Rep] at hr
    obtain ⟨x, k, o, hx, h1, h2⟩ := hr
    have hb := hm b (by simp [idsOf])
    rw [renV, Rep]
    refine ⟨renB ρ x, k, o, sub_mem hn b x hb hx, h1, ?_⟩
    rw [betaR_of hn hb]
    exact h2
  | .agg c, v, hm, hr => by
    rw [Rep] at hr
    obtain ⟨cs, h1, h2⟩ := hr
    rw [renV, Rep]
    exact ⟨cs, h1, Reps.ren hn (by simpa [idsOf] using hm) h2⟩
  | .tup c, v, hm, hr => by
    rw [Rep] at hr
    obtain ⟨cs, h1, h2⟩ := hr
    rw [renV, Rep]
    exact ⟨cs, h1, Reps.ren hn (by simpa [idsOf] using hm) h2⟩
  | .fn f c, v, hm, hr => by
    rw [Rep] at hr
    obtain ⟨cs, h1, h2⟩ := hr
    rw [renV, Rep]
    exact ⟨cs, h1, Reps.ren hn (by simpa [idsOf] using hm) h2⟩
  | .pagg c o, v, hm, hr => by show Rep J _ _ w (.pagg c o) v; rw [Rep] at hr ⊢; exact hr
  | .undef, v, hm, hr => by show Rep J _ _ w (.undef) v; rw [Rep] at hr ⊢; exact hr
  | .imm c n sz t o, v, hm, hr => by show Rep J _ _ w (.imm c n sz t o) v; rw [Rep] at hr ⊢; exact hr
  | .iptr c o, v, hm, hr => by show Rep J _ _ w (.iptr c o) v; rw [Rep] at hr ⊢; exact hr
  | .int k n, v, hm, hr => by show Rep J _ _ w (.int k n) v; rw [Rep] at hr ⊢; exact hr
  | .bool b, v, hm, hr => by show Rep J _ _ w (.bool b) v; rw [Rep] at hr ⊢; exact hr
  | .str s, v, hm, hr => by show Rep J _ _ w (.str s) v; rw [Rep] at hr ⊢; exact hr
  | .nsl, v, hm, hr => by show Rep J _ _ w (.nsl) v; rw [Rep] at hr ⊢; exact hr
  | .nilptr, v, hm, hr => by show Rep J _ _ w (.nilptr) v; rw [Rep] at hr ⊢; exact hr
  | .nilfn, v, hm, hr => by show Rep J _ _ w (.nilfn) v; rw [Rep] at hr ⊢; exact hr
theorem Reps.ren (hn : (ids.map ρ).Nodup) : ∀ {c : List AV} {cs : List Value}, (∀ b ∈ idsOfs c, b ∈ ids) → Reps J β h w c cs → Reps J (betaR ρ ids β) (sub (hget h) ρ ids) w (renVs ρ c) cs
  | [], cs, hm, hr => by rw [Reps] at hr; rw [renVs, Reps]; exact hr
  | x :: r, cs, hm, hr => by
    rw [Reps] at hr
    obtain ⟨u, us, h1, h2, h3⟩ := hr
    rw [renVs, Reps]
    exact ⟨u, us, h1, Rep.ren hn (fun b hb => hm b (by simp [idsOfs, hb])) h2, Reps.ren hn (fun b hb => hm b (by simp [idsOfs, hb])) h3⟩
end

/-- A part of the heap under new names. -/
theorem SimH.ren (S : SimH J β h w) (hn : (ids.map ρ).Nodup) (hin : ∀ b ∈ inner (hget h) ids, b ∈ ids) : SimH J (betaR ρ ids β) (sub (hget h) ρ ids) w := by
  refine ⟨S.jlt, S.jft, fun c y hy hd => ?_, ?_⟩
  · obtain ⟨b, x, hb, rfl, hx, rfl⟩ := sub_get hn c y hy
    rcases S.blk b x hx hd with ⟨g1, g2⟩ | ⟨k, o, cs, ty, fr, g1, g2, g3, g4, g5, g6, g7⟩
    · refine .inl ⟨by rw [betaR_of hn hb]; exact g1, ?_⟩
      have := renB_length ρ x; rw [g2] at this; simpa using this
    · refine .inr ⟨k, o, cs, ty, fr, by rw [betaR_of hn hb]; exact g1, g2, g3, by rw [renB_length]; exact g4, ⟨fun hp => ?_, fun hp j q hj => ?_⟩, g6, g7⟩
      · have hp' : x.pure = true := hp
        have : (renB ρ x).cells = x.cells := by unfold renB; rw [hp']; rfl
        rw [this]; exact g5.1 hp'
      · have hp' : x.pure = false := hp
        have : (renB ρ x).cells = renVs ρ x.cells := by unfold renB; rw [hp']; rfl
        rw [this] at hj
        obtain ⟨q', hq, rfl⟩ := renVs_get hj
        obtain ⟨u, hu, hr, ho⟩ := g5.2 hp' j q' hq
        exact ⟨u, hu, Rep.ren hn (fun b' hb' => hin b' (inner_mem hb hx hp' b' (idsOfs_at hq b' hb'))) hr, ho⟩
  · intro c c' y y' k o o' hy hy' hd hd' hs hβ hβ'
    obtain ⟨b, x, hb, rfl, hx, rfl⟩ := sub_get hn c y hy
    obtain ⟨b', x', hb', rfl, hx', rfl⟩ := sub_get hn c' y' hy'
    rw [betaR_of hn hb] at hβ
    rw [betaR_of hn hb'] at hβ'
    rw [S.sep b b' x x' k o o' hx hx' hd hd' hs hβ hβ']

theorem mut_ren (hn : (ids.map ρ).Nodup) {k : Nat} (hm : Mut (betaR ρ ids β) (sub (hget h) ρ ids) k) : Mut β h k := by
  obtain ⟨c, y, o, hy, hd, hs, hβ⟩ := hm
  obtain ⟨b, x, hb, rfl, hx, rfl⟩ := sub_get hn c y hy
  rw [betaR_of hn hb] at hβ
  exact ⟨b, x, o, hx, hd, hs, hβ⟩
end
end Gx

namespace Gx
open Go

theorem allIn_at {ids : List Nat} : ∀ {l : List Nat}, allIn ids l = true → ∀ b ∈ l, b ∈ ids
  | [], _, b, hb => by simp at hb
  | i :: r, h, b, hb => by
    rw [allIn] at h
    simp at h
    rcases List.mem_cons.1 hb with rfl | hb
    · exact memN_iff.1 h.1
    · exact allIn_at h.2 b hb

theorem assoc_numbered {d : Nat} : ∀ {l : List Nat} {base b : Nat}, b ∈ l → base ≤ assoc d (numbered base l) b ∧ assoc d (numbered base l) b < base + l.length
  | [], base, b, hb => by simp at hb
  | i :: r, base, b, hb => by
    rw [numbered, assoc]
    cases hi : Nat.beq i b with
    | true => simp
    | false =>
      have hne := beqF' hi
      have hm : b ∈ r := by
        rcases List.mem_cons.1 hb with h | h
        · exact absurd h.symm hne
        · exact h
      have := assoc_numbered (d := d) (base := base + 1) hm
      simp only [cond_false, List.length_cons]
      omega

theorem canonR_root {free ids : List Nat} {b : Nat} (h : keepsName free b = true) : canonR free ids b = b := by unfold canonR; rw [h]; rfl
theorem canonR_other {free ids : List Nat} {b : Nat} (h : keepsName free b = false) (hb : b ∈ ids) : 300000 ≤ canonR free ids b := by
  unfold canonR canonT; rw [h]
  exact (assoc_numbered (List.mem_filter.2 ⟨hb, by simp [h]⟩)).1
theorem isRoot_iff {b : Nat} : isRoot b = true ↔ 100000 ≤ b ∧ b < 200000 := by unfold isRoot; simp
theorem canonR_back {free ids : List Nat} {b c : Nat} (hb : b ∈ ids) (hc : 100000 ≤ c ∧ c < 200000) (he : canonR free ids b = c) : b = c := by
  cases hr : keepsName free b with
  | true => rw [canonR_root hr] at he; exact he
  | false => have := canonR_other hr hb; omega

theorem sget_renS {ρ : Nat → Nat} {K : List Nat} : ∀ {s : Slots} {i : Nat}, sget (renS ρ K s) i = if memN K i = true then renV ρ (sget s i) else .undef
  | [], i => by
    show AV.undef = if memN K i = true then renV ρ .undef else AV.undef
    simp [renV]
  | (t, v) :: r, i => by
    rw [renS]
    by_cases e : t = i
    · subst e
      cases hk : memN K t with
      | true => simp [sget]
      | false => simp only [cond_false]; rw [sget_renS]; simp [hk]
    · have hb : Nat.beq t i = false := beqF e
      cases hk : memN K t with
      | true => simp only [cond_true, sget, hb, cond_false]; exact sget_renS
      | false => simp only [cond_false, sget, hb]; exact sget_renS

theorem liveIds_mem {g : Look} {l : List Nat} {b : Nat} (h : b ∈ liveIds g l) : ∃ x, g b = some x ∧ x.dead = false := by
  unfold liveIds at h
  obtain ⟨_, h2⟩ := List.mem_filter.1 h
  unfold vblk at h2
  cases hx : g b with
  | none => simp [hx] at h2
  | some x =>
    cases hd : x.dead with
    | false => exact ⟨x, rfl, hd⟩
    | true => simp [hx, hd] at h2

section
variable {Z : Start} {nt : Nat} {J : Bool → Nat → Prop} {β : Beta} {st st' : St} {a : Act} {w : World}

theorem coerce_sound {live : List Nat} : ∀ (nils : List (Nat × Nat)) {st : St} {β : Beta}, Inv Z nt J β st a w → coerce live nils st = some st' → ∃ β', Inv Z nt J β' st' a w
  | [], st, β, I, hh => by simp [coerce] at hh; subst hh; exact ⟨β, I⟩
  | (t, sz) :: r, st, β, I, hh => by
    rw [coerce] at hh
    split at hh
    · rename_i hm hs
      cases hf : hget st.h (nid t + 15) with
      | some x => simp [hf] at hh
      | none =>
        simp [hf] at hh
        have A := Step.newNone I.sim (d := nid t + 15) (x := emptyBlk sz) hf rfl
        have I1 := I.step A (fun b x hx hn => by
          rw [hget_hput] at hx
          by_cases e : b = nid t + 15
          · subst e; unfold nid newBase; omega
          · rw [if_neg e, hn] at hx; cases hx)
        refine coerce_sound r (β := fun b => if b = nid t + 15 then none else β b) (st := { s := sput st.s t (.own (nid t + 15) 0 0), h := hput st.h (nid t + 15) (emptyBlk sz) }) ?_ hh
        refine { I1 with ss := ⟨fun i v hv => ?_, fun i hi => ?_⟩ }
        · rw [sget_sput]
          by_cases e : i = t
          · subst e
            rw [if_pos rfl, Rep]
            have := I.ss.slot i v hv
            rw [hs, Rep] at this
            subst this
            exact ⟨emptyBlk sz, none, 0, by rw [hget_hput, if_pos rfl], rfl, Nat.le_refl _, .inl rfl⟩
          · rw [if_neg e]; exact I1.ss.slot i v hv
        · rw [sget_sput]
          by_cases e : i = t
          · subst e
            have := I.ss.out i hi
            rw [hs] at this; cases this
          · rw [if_neg e]; exact I1.ss.out i hi
    · exact coerce_sound r I hh

theorem canon_sound {E : Env} {live roots : List Nat} (I : Inv Z nt J β st a w) (hh : canon E live roots st = some st') : ∃ β', Inv Z nt J β' st' a w := by
  unfold canon at hh
  obtain ⟨s1, h1, h2⟩ := ub hh
  obtain ⟨β1, I1⟩ := coerce_sound _ I h1
  obtain ⟨hc, h3⟩ := uc h2
  simp at hc h3
  subst h3
  obtain ⟨hn, hs, hi, _⟩ := hc
  have hn := nodupB_iff hn
  have hin : ∀ b ∈ inner (hget s1.h) (liveIds (hget s1.h) (reach (hget s1.h) (idsS live s1.s ++ roots))), b ∈ liveIds (hget s1.h) (reach (hget s1.h) (idsS live s1.s ++ roots)) := allIn_at hi
  refine ⟨betaR _ _ β1, { I1 with sim := I1.sim.ren hn hin, ss := ⟨fun i v hv => ?_, fun i hi => ?_⟩, wr := fun k hm => I1.wr k (mut_ren hn hm), outs := fun b x0 x h0 hx hd => ?_ }⟩
  · rw [sget_renS]
    cases hk : memN live i with
    | false => simp [Rep]
    | true =>
      simp only [if_true]
      exact Rep.ren hn (fun b hb => allIn_at hs b (idsS_mem hk b hb)) (I1.ss.slot i v hv)
  · rw [sget_renS, I1.ss.out i hi]; simp [renV]
  · obtain ⟨b', x', hb', he, hg, rfl⟩ := sub_get hn b x hx
    have := canonR_back hb' ⟨I1.zge b x0 h0, I1.zlt b x0 h0⟩ he
    subst this
    obtain ⟨e1, e2, e3, e4⟩ := I1.outs b' x0 x' h0 hg hd
    refine ⟨?_, e2, by rw [renB_length]; exact e3, e4⟩
    have := betaR_of (β := β1) hn hb'
    rw [he] at this
    rw [this]; exact e1
end
end Gx

namespace Gx
open Go
section
variable {R : Type} {r : R} {Z : Start} {E : Env}

theorem acode_sound (hC : CallOk E) (hm : E.P.follows .mixedOrders = true) {roots : List Nat} {N : Nat} : ∀ (c : Code) {H : Hint} {kn : St → Option R} {kx : Nat → St → Option R} {kr : St → Option R} {st : St} {a : Act} {w : World} {J : Bool → Nat → Prop} {β : Beta} {Q : Exit → Act → World → Prop},
    Inv Z E.nt J β st a w → acode E roots N c H kn kx kr st = some r →
    (∀ st' a' w' J' β', Inv Z E.nt J' β' st' a' w' → kn st' = some r → Q .normal a' w') →
    (∀ id st' a' w' J' β', Inv Z E.nt J' β' st' a' w' → kx id st' = some r → Q (.exit id) a' w') →
    (∀ st' a' w' J' β', Inv Z E.nt J' β' st' a' w' → kr st' = some r → Q .ret a' w') → c.wp E.P Q a w := by
  intro c
  induction c with
  | skip => intro H kn kx kr st a w J β Q I hh hn hx hr; exact wp_skip (hn _ _ _ _ _ I hh)
  | region id ops draw => intro H kn kx kr st a w J β Q I hh hn hx hr; exact aregion_sound hC hm I hh hn
  | seq x y ihx ihy =>
    intro H kn kx kr st a w J β Q I hh hn hx hr
    rw [acode, wall_eq] at hh
    refine wp_seq (ihx I hh (fun st' a' w' J' β' I' h' => ?_) (fun id st' a' w' J' β' I' h' => hx id st' a' w' J' β' I' h') (fun st' a' w' J' β' I' h' => hr st' a' w' J' β' I' h'))
    exact ihy I' h' hn hx hr
  | cond c x y ihx ihy =>
    intro H kn kx kr st a w J β Q I hh hn hx hr
    rw [acode] at hh
    split at hh
    · rename_i t ht
      have h1 := rep_ev I.ss c
      rw [ht, Rep] at h1
      refine wp_cond h1 ?_
      have hn' : ∀ st' a' w' J' β', Inv Z E.nt J' β' st' a' w' → (canon E H.live roots st').bind kn = some r → Q .normal a' w' := by
        intro st' a' w' J' β' I' h'
        obtain ⟨s2, h2, h3⟩ := ub h'
        obtain ⟨β2, I2⟩ := canon_sound I' h2
        exact hn _ _ _ _ _ I2 h3
      cases t with
      | true => exact ihx I hh hn' hx hr
      | false => exact ihy I hh hn' hx hr
    · simp at hh
  | block id c ih =>
    intro H kn kx kr st a w J β Q I hh hn hx hr
    rw [acode] at hh
    have hn' : ∀ st' a' w' J' β', Inv Z E.nt J' β' st' a' w' → (canon E H.live roots st').bind kn = some r → Q .normal a' w' := by
      intro st' a' w' J' β' I' h'
      obtain ⟨s2, h2, h3⟩ := ub h'
      obtain ⟨β2, I2⟩ := canon_sound I' h2
      exact hn _ _ _ _ _ I2 h3
    refine wp_block (ih I hh (fun st' a' w' J' β' I' h' => hn' _ _ _ _ _ I' h') (fun j st' a' w' J' β' I' h' => ?_) (fun st' a' w' J' β' I' h' => hr _ _ _ _ _ I' h'))
    cases hj : Nat.beq j id with
    | true =>
      rw [hj] at h'
      have := Nat.eq_of_beq_eq_true hj
      subst this
      simp only [Exit.inBlock, if_true]
      exact hn' _ _ _ _ _ I' h'
    | false =>
      rw [hj] at h'
      simp only [Exit.inBlock]
      rw [if_neg (beqF' hj)]
      exact hx _ _ _ _ _ _ I' h'
  | loop c ih =>
    intro H kn kx kr st a w J β Q I hh hn hx hr
    rw [acode, wall_eq] at hh
    refine wp_loop_rounds N ?_
    have key : ∀ (n : Nat) {st : St} {a : Act} {w : World} {J : Bool → Nat → Prop} {β : Beta}, Inv Z E.nt J β st a w → aloop (canon E H.live roots) (fun k st => acode E roots N c H.a k kx kr st) n st = some r → Code.rounds E.P c Q n a w := by
      intro n
      induction n with
      | zero => intro st a w J β I h'; simp [aloop] at h'
      | succ n ihn =>
        intro st a w J β I h'
        rw [aloop] at h'
        rw [rounds_succ]
        refine ih I h' (fun st' a' w' J' β' I' h'' => ?_) (fun id st' a' w' J' β' I' h'' => hx _ _ _ _ _ _ I' h'') (fun st' a' w' J' β' I' h'' => hr _ _ _ _ _ I' h'')
        obtain ⟨s2, h2, h3⟩ := ub h''
        obtain ⟨β2, I2⟩ := canon_sound I' h2
        exact ihn I2 h3
    obtain ⟨s2, h2, h3⟩ := ub hh
    obtain ⟨β2, I2⟩ := canon_sound I h2
    exact key N I2 h3
  | exit id => intro H kn kx kr st a w J β Q I hh hn hx hr; exact wp_exit (hx _ _ _ _ _ _ I hh)
  | ret => intro H kn kx kr st a w J β Q I hh hn hx hr; exact wp_ret (hr _ _ _ _ _ I hh)
  | rangeFunc => intro H kn kx kr st a w J β Q I hh; simp [acode] at hh
  | scope => intro H kn kx kr st a w J β Q I hh; simp [acode] at hh
  | label => intro H kn kx kr st a w J β Q I hh; simp [acode] at hh
  | goto => intro H kn kx kr st a w J β Q I hh; simp [acode] at hh
  | refuse => intro H kn kx kr st a w J β Q I hh; simp [acode] at hh
end
end Gx

namespace Gx
open Go

/-- What a call leaves, seen from where it began. -/
structure FDone (Z : Start) (J : Bool → Nat → Prop) (β : Beta) (h : Heap) (w : World) : Prop where
  sim : SimH J β h w
  os : w.os = Z.w.os
  tape : w.tape = Z.w.tape
  output : w.output = Z.w.output
  size : Z.w.heap.size ≤ w.heap.size
  frame : ∀ k, k < Z.w.heap.size → ¬ Mut Z.β Z.h k → w.heap[k]? = Z.w.heap[k]?
  wr : ∀ k, Mut β h k → k < Z.w.heap.size → Mut Z.β Z.h k
  jsub : ∀ o k, Z.J o k → J o k
  jup : ∀ o k, J o k → Z.J o k ∨ Mut Z.β Z.h k ∨ Z.w.heap.size ≤ k
  sizes : ∀ k, blkSize Z.w k ≤ blkSize w k
  outs : ∀ b x0 x, hget Z.h b = some x0 → hget h b = some x → x.dead = false → β b = Z.β b ∧ x.sz = x0.sz ∧ x.cells.length = x0.cells.length ∧ x0.dead = false

/-- The function answers so, wherever it is called with such arguments. -/
def FOk (P : Program) (f : Nat) (args : List AV) (h : Heap) (res : AV) (h' : Heap) : Prop :=
  ∀ (J : Bool → Nat → Prop) (β : Beta) (w : World) (vs : List Value), SimH J β h w → Reps J β h w args vs →
    Calls P f vs.toArray w fun e w' => ∃ vc J' β', e = .returned vc ∧ FDone ⟨J, β, h, w⟩ J' β' h' w' ∧ Rep J' β' h' w' res vc

def TwOk (P : Program) (f : Nat) (t : Tw) : Prop := ∀ args h res h', (t.runK args h fun v h' => some (v, h')) = some (res, h') → FOk P f args h res h'
def TblOk (P : Program) : List (Nat × Tw) → Prop
  | [] => True
  | p :: r => TwOk P p.1 p.2 ∧ TblOk P r

theorem tcall_ok {P : Program} {R : Type} {r : R} : ∀ {T : List (Nat × Tw)}, TblOk P T → ∀ {f : Nat} {args : List AV} {h : Heap} {k : AV → Heap → Option R}, tcall T f args h k = some r →
    ∃ res h', FOk P f args h res h' ∧ k res h' = some r
  | [], _, f, args, h, k, hh => by simp [tcall] at hh
  | (g, t) :: T, hT, f, args, h, k, hh => by
    rw [tcall] at hh
    cases hb : Nat.beq g f with
    | false => rw [hb] at hh; exact tcall_ok hT.2 hh
    | true =>
      rw [hb] at hh
      have := Nat.eq_of_beq_eq_true hb
      subst this
      simp only [cond_true] at hh
      rw [t.eq] at hh
      obtain ⟨⟨res, h'⟩, h1, h2⟩ := ub hh
      exact ⟨res, h', hT.1 args h res h' h1, h2⟩

section
variable {R : Type} {r : R} {Z : Start} {nt : Nat} {J : Bool → Nat → Prop} {β : Beta} {st : St} {a : Act} {w : World}

def loadRes (tmps : Array Value) : ResultVar → Sem Value
  | .tmp t => pure (tmps.getD t undef)
  | .cell a t => do loadVar t (← Go.asAddr (tmps.getD a undef))

theorem mapM_arr {α β : Type} (f : α → Sem β) (xs : Array α) : xs.mapM f = (List.toArray <$> xs.toList.mapM f) := by
  rw [← List.mapM_toArray]
theorem results_eq (fn : Func) (tmps : Array Value) : results fn tmps = (do let vs ← fn.results.mapM (loadRes tmps); pure (if h : vs.size = 1 then vs[0] else .tuple vs)) := by
  unfold results
  congr 1
def oneOf (l : List Value) : Value := match l with | [v] => v | l => .tuple l.toArray
theorem results_run {P : Program} (fn : Func) (tmps : Array Value) {vs : List Value} (h : (fn.results.toList.mapM (loadRes tmps)).run P w = .ok vs w) : (results fn tmps).run P w = .ok (oneOf vs) w := by
  rw [results_eq, mapM_arr]
  simp only [map_eq_pure_bind, Sem.run_bind, h, Result.andThen_ok, Sem.run_pure]
  congr 1
  match vs with
  | [] => rfl
  | [v] => rfl
  | v :: u :: r => simp [oneOf]

theorem rep_slot {E : Env} (SS : SimS J β st.h w st.s a.tmps) (t : Nat) : Rep J β st.h w (sget st.s t) (a.tmps.getD t undef) := rep_ev SS (.tmp t)

theorem loadAt_addr {P : Program} {t : TypeId} {v vc : Value} (h : (Instr.loadAt t v).run P w = .ok vc w) : (do loadVar t (← Go.asAddr v) : Sem Value).run P w = .ok vc w := by
  unfold Instr.loadAt at h
  cases v with
  | pointer a =>
    cases a with
    | some a => exact h
    | none => simp [Instr.sureAddr] at h
  | _ => simp [Instr.sureAddr] at h
theorem aresult_sound {E : Env} (S : SimH J β st.h w) (SS : SimS J β st.h w st.s a.tmps) : ∀ (l : List ResultVar) {acc : List AV} {k : List AV → Option R}, aresult E st l acc k = some r →
    ∃ vals vs, k (acc.reverse ++ vals) = some r ∧ (l.mapM (loadRes a.tmps)).run E.P w = .ok vs w ∧ Reps J β st.h w vals vs
  | [], acc, k, hh => ⟨[], [], by simpa [aresult] using hh, by simp, by rw [Reps]⟩
  | .tmp t :: l, acc, k, hh => by
    rw [aresult] at hh
    obtain ⟨vals, vs, h1, h2, h3⟩ := aresult_sound S SS l hh
    refine ⟨sget st.s t :: vals, a.tmps.getD t undef :: vs, by simpa using h1, ?_, by rw [Reps]; exact ⟨_, _, rfl, rep_ev SS (.tmp t), h3⟩⟩
    simp only [List.mapM_cons, loadRes, Sem.run_bind, Sem.run_pure, Result.andThen_ok, h2]
  | .cell ad t :: l, acc, k, hh => by
    rw [aresult] at hh
    obtain ⟨v, vc, h0, h1, h2⟩ := aload_sound S (fun _ _ h => h) hh (rep_ev SS (.tmp ad))
    obtain ⟨vals, vs, h3, h4, h5⟩ := aresult_sound S SS l h0
    refine ⟨v :: vals, vc :: vs, by simpa using h3, ?_, by rw [Reps]; exact ⟨_, _, rfl, h2, h5⟩⟩
    have : (loadRes a.tmps (.cell ad t)).run E.P w = .ok vc w := loadAt_addr h1
    simp only [List.mapM_cons, Sem.run_bind, this, Sem.run_pure, Result.andThen_ok, h4]

theorem finV_sound {i : Nat} {m : Nat × Nat} {v v' : AV} {ups : Ups} {vc : Value} {h : Heap} (S : SimH J β h w) (hh : finV (hget h) i m v = some (v', ups)) (hv : Rep J β h w v vc) :
    ∃ J' β', Step J β h w J' β' (applyUps ups h) w ∧ Rep J' β' (applyUps ups h) w v' vc ∧ (∀ b x, hget (applyUps ups h) b = some x → hget h b = none → newBase ≤ b) := by
  have old : ∀ {ups : Ups}, (∀ b, inUps ups b = true → ∃ x, hget h b = some x) → ∀ b x, hget (applyUps ups h) b = some x → hget h b = none → newBase ≤ b := by
    intro ups hu b x hx hn
    cases hi : inUps ups b with
    | true => obtain ⟨y, hy⟩ := hu b hi; rw [hy] at hn; cases hn
    | false => rw [applyUps_other _ _ _ hi, hn] at hx; cases hx
  unfold finV at hh
  cases h0 : Nat.beq m.1 0 with
  | true =>
    rw [h0] at hh; simp at hh
    obtain ⟨rfl, rfl⟩ := hh
    exact ⟨J, β, Step.refl S, hv, old (by simp [inUps])⟩
  | false =>
    rw [h0, cond_false] at hh
    cases h1 : Nat.beq m.1 1 with
    | true =>
      rw [h1, cond_true] at hh
      split at hh
      · simp at hh; obtain ⟨rfl, rfl⟩ := hh
        rw [Rep] at hv; subst hv
        refine ⟨J, β, Step.refl S, ?_, old (by simp [inUps])⟩
        rw [Rep, RepC]
        exact ⟨by simp, none, 0, rfl, Nat.le_refl _, by simp, .inl rfl⟩
      · simp at hh; obtain ⟨rfl, rfl⟩ := hh
        refine ⟨J, β, Step.refl S, ?_, old (by simp [inUps])⟩
        rw [Rep, RepC] at hv ⊢
        obtain ⟨e1, A, cap, e2, e3, e4, e5⟩ := hv
        exact ⟨e1, A, cap, e2, e3, by simp, e5⟩
      · obtain ⟨⟨q1, q2, q3⟩, hq, h2⟩ := ub hh
        simp at h2; obtain ⟨rfl, rfl⟩ := h2
        obtain ⟨J', A, hA, _⟩ := pureV_sound S (Looks.s fun _ _ h => h) hq hv
        refine ⟨J', β, A, ?_, old (pureV_ups hq)⟩
        unfold pureV at hq
        obtain ⟨x, hx, h3⟩ := ub hq
        obtain ⟨_, h4⟩ := uc h3
        simp at h4
        obtain ⟨rfl, rfl, rfl⟩ := h4
        rw [Rep]; exact hA
      · simp at hh
    | false =>
      rw [h1, cond_false] at hh
      cases h2 : Nat.beq m.1 2 with
      | true =>
        rw [h2, cond_true] at hh
        split at hh
        · obtain ⟨hn, h3⟩ := uc' hh
          simp at h3; obtain ⟨rfl, rfl⟩ := h3
          have hn' : hget h (nid 90000 + i) = none := by cases hx : hget h (nid 90000 + i) <;> simp_all
          have A := Step.newNone S (x := emptyBlk m.2) hn' rfl
          refine ⟨J, fun b => if b = nid 90000 + i then none else β b, A, ?_, fun b x hx hb => ?_⟩
          · rw [Rep] at hv; subst hv; rw [Rep]
            exact ⟨emptyBlk m.2, none, 0, by simp only [applyUps]; rw [hget_hput, if_pos rfl], rfl, Nat.le_refl _, .inl rfl⟩
          · simp only [applyUps] at hx
            rw [hget_hput] at hx
            by_cases e : b = nid 90000 + i
            · subst e; unfold nid newBase; omega
            · rw [if_neg e, hb] at hx; cases hx
        · simp at hh; obtain ⟨rfl, rfl⟩ := hh
          exact ⟨J, β, Step.refl S, hv, old (by simp [inUps])⟩
      | false =>
        rw [h2, cond_false] at hh
        split at hh
        · rename_i c
          obtain ⟨⟨q1, q2, q3⟩, hq, h3⟩ := ub hh
          simp at h3; obtain ⟨rfl, rfl⟩ := h3
          rw [Rep] at hv
          obtain ⟨cs, rfl, hc⟩ := hv
          obtain ⟨J', A, hA, hlen, _⟩ := pureVs_sound S (Looks.s fun _ _ h => h) hq hc
          refine ⟨J', β, A, ?_, old (pureVs_ups hq)⟩
          rw [Rep]
          exact ⟨cs, rfl, hlen.symm, hA⟩
        · simp at hh; obtain ⟨rfl, rfl⟩ := hh
          exact ⟨J, β, Step.refl S, hv, old (by simp [inUps])⟩
        · simp at hh

theorem finVs_sound {s : Slots} : ∀ (vals : List AV) {i : Nat} {ms : List (Nat × Nat)} {h h' : Heap} {vals' : List AV} {vs : List Value} {J : Bool → Nat → Prop} {β : Beta},
    Inv Z nt J β { s := s, h := h } a w → finVs h i ms vals = some (vals', h') → Reps J β h w vals vs →
    ∃ J' β', Inv Z nt J' β' { s := s, h := h' } a w ∧ Reps J' β' h' w vals' vs ∧ ∀ x v, Rep J β h w x v → Rep J' β' h' w x v
  | [], i, ms, h, h', vals', vs, J, β, I, hh, hv => by
    simp [finVs] at hh; obtain ⟨rfl, rfl⟩ := hh
    exact ⟨J, β, I, hv, fun _ _ h => h⟩
  | v :: r, i, ms, h, h', vals', vs, J, β, I, hh, hv => by
    rw [finVs] at hh
    obtain ⟨⟨v1, u1⟩, h1, h2⟩ := ub hh
    obtain ⟨⟨r2, hr⟩, h3, h4⟩ := ub h2
    simp at h4; obtain ⟨rfl, rfl⟩ := h4
    rw [Reps] at hv
    obtain ⟨u, us, rfl, hv1, hv2⟩ := hv
    obtain ⟨J1, β1, A, hA, hnew⟩ := finV_sound I.sim h1 hv1
    have I1 := I.step A hnew
    obtain ⟨J2, β2, I2, hB, hm⟩ := finVs_sound r I1 h3 (Reps.ext A.ext hv2)
    refine ⟨J2, β2, I2, ?_, fun x v h => hm x v (Rep.ext A.ext h)⟩
    rw [Reps]
    exact ⟨u, us, rfl, hm _ _ hA, hB⟩

theorem afinish_sound {E : Env} {fn : Func} {modes : List (Nat × Nat)} {outs : List Nat} {k : AV → Heap → Option R} (I : Inv Z nt J β st a w) (hh : afinish E fn modes outs k st = some r) :
    ∃ res h' vc J' β', k res h' = some r ∧ (results fn a.tmps).run E.P w = .ok vc w ∧ FDone Z J' β' h' w ∧ Rep J' β' h' w res vc := by
  unfold afinish at hh
  obtain ⟨vals, vs, h1, h2, h3⟩ := aresult_sound I.sim I.ss _ hh
  simp only [List.reverse_nil, List.nil_append] at h1
  obtain ⟨⟨vals', h'⟩, h4, h5⟩ := ub h1
  obtain ⟨J1, β1, I1, hR, _⟩ := finVs_sound (s := st.s) vals I h4 h3
  obtain ⟨hc, h6⟩ := uc h5
  simp at hc
  obtain ⟨hn, hs, hi, _⟩ := hc
  have hn := nodupB_iff hn
  have hin := allIn_at hi
  have hs := allIn_at hs
  refine ⟨_, _, oneOf vs, J1, betaR _ _ β1, h6, results_run fn a.tmps h2, ?_, Rep.ren hn hs ?_⟩
  · exact ⟨I1.sim.ren hn hin, I1.os, I1.tape, I1.output, I1.size, I1.frame, fun k hm => I1.wr k (mut_ren hn hm), I1.jsub, I1.jup, I1.sizes, fun b x0 x h0 hx hd => by
      obtain ⟨b', x', hb', he, hg, rfl⟩ := sub_get hn b x hx
      have := canonR_back hb' ⟨I1.zge b x0 h0, I1.zlt b x0 h0⟩ he
      subst this
      obtain ⟨e1, e2, e3, e4⟩ := I1.outs b' x0 x' h0 hg hd
      refine ⟨?_, e2, by rw [renB_length]; exact e3, e4⟩
      have := betaR_of (β := β1) hn hb'
      rw [he] at this
      rw [this]; exact e1⟩
  · match vals', vs, hR with
    | [], vs, hR => rw [Reps] at hR; subst hR; simp only [oneOf, oneA]; rw [Rep]; exact ⟨[], rfl, by rw [Reps]⟩
    | [v], vs, hR =>
      rw [Reps] at hR
      obtain ⟨u, us, rfl, hu, hus⟩ := hR
      rw [Reps] at hus; subst hus
      exact hu
    | v :: v2 :: l, vs, hR =>
      have hR' := hR
      rw [Reps] at hR
      obtain ⟨u, us, rfl, hu, hus⟩ := hR
      rw [Reps] at hus
      obtain ⟨u2, us2, rfl, _, _⟩ := hus
      simp only [oneOf, oneA]
      rw [Rep]
      exact ⟨_, rfl, hR'⟩
end
end Gx

namespace Gx
open Go

/- Values without a trace of what is only shown. -/
section
variable {J J' : Bool → Nat → Prop} {β : Beta} {h : Heap} {w : World}

mutual
theorem Rep.noOrg : ∀ {x : AV} {v : Value}, hasOrg x = false → Rep J β h w x v → Rep (fun _ => J false) β h w x v
  | .own .., v, _, hr => by rw [Rep] at hr ⊢; exact hr
  | .optr .., v, _, hr => by rw [Rep] at hr ⊢; exact hr
  | .pagg c o, v, ho, hr => by
    rw [hasOrg] at ho; subst ho
    rw [Rep] at hr ⊢; exact hr
  | .agg c, v, ho, hr => by
    rw [hasOrg] at ho
    rw [Rep] at hr ⊢
    obtain ⟨cs, h1, h2⟩ := hr
    exact ⟨cs, h1, Reps.noOrg ho h2⟩
  | .tup c, v, ho, hr => by
    rw [hasOrg] at ho
    rw [Rep] at hr ⊢
    obtain ⟨cs, h1, h2⟩ := hr
    exact ⟨cs, h1, Reps.noOrg ho h2⟩
  | .fn f c, v, ho, hr => by
    rw [hasOrg] at ho
    rw [Rep] at hr ⊢
    obtain ⟨cs, h1, h2⟩ := hr
    exact ⟨cs, h1, Reps.noOrg ho h2⟩
  | .undef, _, _, _ => by rw [Rep]; trivial
  | .imm c n sz t o, v, ho, hr => by
    rw [hasOrg] at ho; subst ho
    rw [Rep] at hr ⊢; exact hr
  | .iptr c o, v, ho, hr => by
    rw [hasOrg] at ho; subst ho
    rw [Rep] at hr ⊢; exact hr
  | .int .., v, _, hr => by rw [Rep] at hr ⊢; exact hr
  | .bool _, v, _, hr => by rw [Rep] at hr ⊢; exact hr
  | .str _, v, _, hr => by rw [Rep] at hr ⊢; exact hr
  | .nsl, v, _, hr => by rw [Rep] at hr ⊢; exact hr
  | .nilptr, v, _, hr => by rw [Rep] at hr ⊢; exact hr
  | .nilfn, v, _, hr => by rw [Rep] at hr ⊢; exact hr
theorem Reps.noOrg : ∀ {c : List AV} {cs : List Value}, hasOrgs c = false → Reps J β h w c cs → Reps (fun _ => J false) β h w c cs
  | [], _, _, hr => by rw [Reps] at hr ⊢; exact hr
  | x :: r, cs, ho, hr => by
    rw [hasOrgs] at ho
    simp at ho
    rw [Reps] at hr ⊢
    obtain ⟨u, us, h1, h2, h3⟩ := hr
    exact ⟨u, us, h1, Rep.noOrg ho.1 h2, Reps.noOrg ho.2 h3⟩
end

theorem hasOrgs_at : ∀ {c : List AV} {j : Nat} {x : AV}, hasOrgs c = false → c[j]? = some x → hasOrg x = false
  | [], j, x, _, hj => by simp at hj
  | y :: r, j, x, ho, hj => by
    rw [hasOrgs] at ho
    simp at ho
    cases j with
    | zero => simp at hj; subst hj; exact ho.1
    | succ j => exact hasOrgs_at ho.2 (by simpa using hj)

theorem hasOrgH_at : ∀ {h : Heap} {b : Nat} {x : Blk}, hasOrgH h = false → hget h b = some x → x.taint = false ∧ (x.pure = false → hasOrgs x.cells = false)
  | [], b, x, _, hb => by simp [hget] at hb
  | (i, y) :: r, b, x, ho, hb => by
    rw [hasOrgH] at ho
    simp at ho
    rw [hget] at hb
    cases hi : Nat.beq i b with
    | true =>
      rw [hi] at hb; simp at hb; subst hb
      refine ⟨ho.1.1, fun hp => ?_⟩
      have := ho.1.2
      rw [hp] at this; simpa using this
    | false => rw [hi] at hb; exact hasOrgH_at ho.2 (by simpa using hb)

theorem SimH.noOrg (S : SimH J β h w) (ho : hasOrgH h = false) : SimH (fun _ => J false) β h w := by
  refine ⟨fun _ k hj => S.jlt _ k hj, fun k hj => hj, fun b x hx hd => ?_, S.sep⟩
  obtain ⟨ht, hc⟩ := hasOrgH_at ho hx
  rcases S.blk b x hx hd with h1 | ⟨k, o, cs, ty, fr, h1, h2, h3, h4, h5, h6, h7⟩
  · exact .inl h1
  · refine .inr ⟨k, o, cs, ty, fr, h1, h2, h3, h4, ⟨fun hp => ?_, fun hp j c hj => ?_⟩, fun hs _ => h6 hs _, fun hs => ?_⟩
    · have := h5.1 hp; rw [ht] at this; exact this
    · obtain ⟨u, g1, g2, g3⟩ := h5.2 hp j c hj
      exact ⟨u, g1, Rep.noOrg (hasOrgs_at (hc hp) hj) g2, g3⟩
    · have := h7 hs; rw [ht] at this; exact this

/-- More that never changes. -/
theorem Ext.grow (hJ : ∀ o k, J o k → J' o k) : Ext J β h w J' β h w := ⟨hJ, fun _ _ _ => rfl, fun b x hb => ⟨x, hb, by cases hd : x.dead <;> simp⟩, fun _ _ _ _ => Nat.le_refl _⟩
theorem SimH.grow (S : SimH J β h w) (hJ : ∀ o k, J o k → J' o k) (hlt : ∀ o k, J' o k → k < w.heap.size) (hft : ∀ k, J' false k → J' true k)
    (hun : ∀ b x k o, hget h b = some x → x.dead = false → x.sealed = false → β b = some (k, o) → ∀ g, ¬ J' g k) : SimH J' β h w := by
  refine ⟨hlt, hft, fun b x hx hd => ?_, S.sep⟩
  rcases S.blk b x hx hd with h1 | ⟨k, o, cs, ty, fr, h1, h2, h3, h4, h5, h6, h7⟩
  · exact .inl h1
  · exact .inr ⟨k, o, cs, ty, fr, h1, h2, h3, h4, h5.ext (Ext.grow hJ), fun hs => hun b x k o hx hd hs h1, fun hs => hJ _ _ (h7 hs)⟩

/-- The concrete blocks that are shown. -/
def Shown (β : Beta) (h : Heap) (fz : List Nat) (k : Nat) : Prop := ∃ b x o, b ∈ fz ∧ hget h b = some x ∧ x.dead = false ∧ x.sealed = false ∧ β b = some (k, o)
def JS (J : Bool → Nat → Prop) (β : Beta) (h : Heap) (fz : List Nat) : Bool → Nat → Prop := fun o k => J o k ∨ (o = true ∧ Shown β h fz k)

theorem own_frozen {g : Look} {b off n : Nat} {x : Blk} {vc : Value} {fz : List Nat} (S : SimH J β h w) (hl : Looks g h) (hx : vblk g b = some x) (hp : x.pure = true) (hf : x.sealed = false → b ∈ fz) (hv : Rep J β h w (.own b off n) vc) :
    Rep (JS J β h fz) β h w (.imm ((x.cells.drop off).take (n * x.sz)) n x.sz false (!x.sealed || x.taint)) vc := by
  unfold vblk at hx
  obtain ⟨x0, hx0, hx⟩ := ub hx
  obtain ⟨hd, hx⟩ := uc' hx
  simp at hx; subst hx
  have hy := hl b _ hx0
  rw [Rep]
  have key := (own_imm (J' := fun o k => o ≠ x0.taint ∨ JS J β h fz (!x0.sealed || x0.taint) k) S hy hd hp hv (fun k o hβ => .inr ?_) (fun o k hj => ?_) false (!x0.sealed || x0.taint)).2 (by simp)
  · exact RepC.keep (fun k hk => by rcases hk with hk | hk; exact absurd rfl hk; exact hk) (fun _ _ => rfl) key
  · cases hs : x0.sealed with
    | false =>
      simp only [Bool.not_false, Bool.true_or]
      exact .inr ⟨rfl, b, x0, o, hf hs, hy, hd, hs, hβ⟩
    | true =>
      simp only [Bool.not_true, Bool.false_or]
      rcases S.blk b x0 hy hd with ⟨h1, _⟩ | ⟨k', o', cs, ty, fr, h1, h2, h3, h4, h5, h6, h7⟩
      · rw [hβ] at h1; cases h1
      · rw [hβ] at h1; simp at h1; obtain ⟨rfl, rfl⟩ := h1
        exact .inl (h7 hs)
  · by_cases e : o = x0.taint
    · subst e
      right
      cases hs : x0.sealed with
      | false =>
        simp only [Bool.not_false, Bool.true_or]
        left
        cases ht : x0.taint with
        | false => rw [ht] at hj; exact S.jft k hj
        | true => rw [ht] at hj; exact hj
      | true => simp only [Bool.not_true, Bool.false_or]; exact .inl hj
    · exact .inl e
theorem JS.mono (S : SimH J β h w) {fz : List Nat} {a b : Bool} (k : Nat) (hk : JS J β h fz a k) : JS J β h fz (a || b) k := by
  cases a
  · cases b
    · exact hk
    · rcases hk with hk | ⟨h1, _⟩
      · exact .inl (S.jft k hk)
      · cases h1
  · exact hk
theorem freezeC_sound {g : Look} {v v' : AV} {o : Bool} {vc : Value} {fz : List Nat} (S : SimH J β h w) (hl : Looks g h) (hh : freezeC g v = some (v', o)) (hf : ∀ b off n x, v = .own b off n → g b = some x → x.sealed = false → b ∈ fz) (hv : Rep J β h w v vc) :
    RepC (JS J β h fz o) w v' vc := by
  cases v
  case own b off n =>
    rw [freezeC] at hh
    obtain ⟨x, hx, h1⟩ := ub hh
    obtain ⟨hp, h2⟩ := uc h1
    simp at h2
    obtain ⟨rfl, rfl⟩ := h2
    have := own_frozen S hl hx hp (fun hs => by
      unfold vblk at hx
      obtain ⟨x0, hx0, hx⟩ := ub hx
      obtain ⟨hd, hx⟩ := uc' hx
      simp at hx; subst hx
      exact hf b off n x0 rfl hx0 hs) hv
    rw [Rep] at this; exact this
  case imm c n sz t org =>
    simp [freezeC] at hh; obtain ⟨rfl, rfl⟩ := hh
    rw [Rep, RepC] at hv
    rw [RepC]
    obtain ⟨e1, A, cap, e2, e3, e4, e5⟩ := hv
    refine ⟨e1, A, cap, e2, e3, by simp, ?_⟩
    rcases e5 with e5 | ⟨a, e6, e7, e8⟩
    · exact .inl e5
    · exact .inr ⟨a, e6, .inl e7, RepCs.keep (fun k hk => .inl hk) (fun _ _ => rfl) (fun _ => rfl) e8⟩
  case iptr c org =>
    simp [freezeC] at hh; obtain ⟨rfl, rfl⟩ := hh
    rw [Rep] at hv
    exact RepC.keep (fun k hk => .inl hk) (fun _ _ => rfl) hv
  all_goals first
    | (simp [freezeC] at hh; done)
    | (simp [freezeC] at hh; obtain ⟨rfl, rfl⟩ := hh; rw [Rep] at hv; rw [RepC]; exact hv)
theorem freezeVs_sound {g : Look} {fz : List Nat} (S : SimH J β h w) (hl : Looks g h) : ∀ {c c' : List AV} {o : Bool} {cs : List Value}, freezeVs g c = some (c', o) → (∀ b ∈ frozenIdsC g c, b ∈ fz) → Reps J β h w c cs →
    cs.length = c'.length ∧ ∀ (j : Nat) (x : AV), c'[j]? = some x → ∃ u, cs[j]? = some u ∧ RepC (JS J β h fz o) w x u
  | [], c', o, cs, hh, hf, hv => by
    simp [freezeVs] at hh; obtain ⟨rfl, rfl⟩ := hh
    rw [Reps] at hv; subst hv
    exact ⟨rfl, fun j x hj => by simp at hj⟩
  | v :: r, c', o, cs, hh, hf, hv => by
    rw [freezeVs] at hh
    obtain ⟨⟨v1, o1⟩, h1, hh⟩ := ub hh
    obtain ⟨⟨r1, o2⟩, h2, hh⟩ := ub hh
    simp at hh; obtain ⟨rfl, rfl⟩ := hh
    rw [Reps] at hv
    obtain ⟨u, us, rfl, g1, g2⟩ := hv
    have hf2 : ∀ b ∈ frozenIdsC g r, b ∈ fz := fun b hb => hf b (by
      cases v <;> simp only [frozenIdsC] <;> try exact hb
      split
      · rename_i x _; cases x.sealed <;> simp [hb]
      · exact hb)
    have a1 := freezeC_sound (fz := fz) S hl h1 (fun b off n x e hx hs => hf b (by subst e; simp [frozenIdsC, hx, hs])) g1
    obtain ⟨b1, b2⟩ := freezeVs_sound S hl h2 hf2 g2
    refine ⟨by simp [b1], fun j x hj => ?_⟩
    cases j with
    | zero => simp at hj; subst hj; exact ⟨u, by simp, RepC.keep (fun k hk => JS.mono S k hk) (fun _ _ => rfl) a1⟩
    | succ j =>
      obtain ⟨u', e1, e2⟩ := b2 j x (by simpa using hj)
      exact ⟨u', by simpa using e1, RepC.keep (fun k hk => by rw [Bool.or_comm]; exact JS.mono S k hk) (fun _ _ => rfl) e2⟩

theorem freezeV_sound {g : Look} {v v' : AV} {q : Bool} {vc : Value} {fz : List Nat} (S : SimH J β h w) (hl : Looks g h) (hh : freezeV g v = some (v', q)) (hf : ∀ b ∈ frozenIds g v, b ∈ fz) (hv : Rep J β h w v vc) :
    Rep (JS J β h fz) β h w v' vc ∧ idsOf v' = [] := by
  unfold freezeV at hh
  split at hh
  · rename_i b off n
    obtain ⟨x, hx, h1⟩ := ub hh
    obtain ⟨hp, h2⟩ := uc h1
    simp at h2
    obtain ⟨rfl, _⟩ := h2
    exact ⟨own_frozen S hl hx hp (fun hs => by
      unfold vblk at hx
      obtain ⟨x0, hx0, hx⟩ := ub hx
      obtain ⟨hd, hx⟩ := uc' hx
      simp at hx; subst hx
      exact hf b (by simp [frozenIds, hx0, hs])) hv, by simp [idsOf]⟩
  · simp at hh; obtain ⟨rfl, _⟩ := hh
    refine ⟨?_, by simp [idsOf]⟩
    rw [Rep, RepC] at hv ⊢
    obtain ⟨e1, A, cap, e2, e3, e4, e5⟩ := hv
    refine ⟨e1, A, cap, e2, e3, by simp, ?_⟩
    rcases e5 with e5 | ⟨a, e6, e7, e8⟩
    · exact .inl e5
    · exact .inr ⟨a, e6, .inl e7, RepCs.keep (fun k hk => .inl hk) (fun _ _ => rfl) (fun _ => rfl) e8⟩
  · rename_i b off
    obtain ⟨x, hx, h1⟩ := ub hh
    obtain ⟨hp, h2⟩ := uc h1
    simp at h2
    obtain ⟨rfl, _⟩ := h2
    unfold vblk at hx
    obtain ⟨x0, hx0, hx⟩ := ub hx
    obtain ⟨hd, hx⟩ := uc' hx
    simp at hx; subst hx
    have hy := hl b _ hx0
    refine ⟨?_, by simp [idsOf]⟩
    rw [Rep] at hv
    obtain ⟨x1, k, o, g1, g2, g3⟩ := hv
    rw [hy] at g1; simp at g1; subst g1
    rcases g3 with g3 | g3
    · simp [hd] at g3
    · rcases S.blk b x0 hy hd with ⟨h1, _⟩ | ⟨k', o', cs, ty, fr, h1, h2, h3, h4, h5, h6, h7⟩
      · rw [g3] at h1; cases h1
      · rw [g3] at h1; simp at h1; obtain ⟨rfl, rfl⟩ := h1
        have hin : ∀ k2, J x0.taint k2 → JS J β h fz (!x0.sealed || x0.taint) k2 := by
          intro k2 hj
          left
          cases hs : x0.sealed with
          | false =>
            simp only [Bool.not_false, Bool.true_or]
            cases ht : x0.taint with
            | false => rw [ht] at hj; exact S.jft k2 hj
            | true => rw [ht] at hj; exact hj
          | true => simp only [Bool.not_true, Bool.false_or]; exact hj
        rw [Rep, RepC]
        refine ⟨_, g2, ?_, ?_⟩
        · cases hs : x0.sealed with
          | false =>
            simp only [Bool.not_false, Bool.true_or]
            exact .inr ⟨rfl, b, x0, o, hf b (by simp [frozenIds, hx0, hs]), hy, hd, hs, g3⟩
          | true =>
            simp only [Bool.not_true, Bool.false_or]
            exact .inl (h7 hs)
        · refine RepCs.keep hin (fun _ _ => rfl) (fun j => ?_) ((h5.1 hp).drop off)
          rw [Addr.add_mid, cell_row h2, Nat.add_assoc]
  · rename_i c
    obtain ⟨⟨c1, o1⟩, h1, h2⟩ := ub hh
    simp at h2; obtain ⟨rfl, _⟩ := h2
    rw [Rep] at hv
    obtain ⟨cs, rfl, hv⟩ := hv
    obtain ⟨b1, b2⟩ := freezeVs_sound (fz := fz) S hl h1 (by simpa [frozenIds] using hf) hv
    refine ⟨?_, by simp [idsOf]⟩
    rw [Rep]
    refine ⟨cs, rfl, b1, ?_⟩
    rw [RepCs_iff]
    intro j x hj
    obtain ⟨u, e1, e2⟩ := b2 j x hj
    exact ⟨u, by simpa using e1, e2⟩
  · simp at hh; obtain ⟨rfl, _⟩ := hh
    exact ⟨Rep.ext (Ext.grow fun _ _ hj => .inl hj) hv, by simp [idsOf, idsOfs]⟩
  · simp at hh
  · simp at hh
  · simp at hh
  · simp at hh; obtain ⟨rfl, _⟩ := hh
    refine ⟨Rep.ext (Ext.grow fun _ _ hj => .inl hj) hv, ?_⟩
    cases v <;> first | rfl | simp_all

theorem passArgs_sound {g : Look} {fz : List Nat} (S : SimH J β h w) (hl : Looks g h) : ∀ {args : List AV} {ms : List Bool} {args' : List AV} {im fz' : List Nat} {vs : List Value},
    passArgs g ms args = some (args', im, fz') → (∀ b ∈ fz', b ∈ fz) → Reps J β h w args vs → Reps (JS J β h fz) β h w args' vs ∧ ∀ b ∈ idsOfs args', b ∈ im
  | [], ms, args', im, fz', vs, hh, hf, hv => by
    simp [passArgs] at hh; obtain ⟨rfl, rfl, rfl⟩ := hh
    rw [Reps] at hv; subst hv
    exact ⟨by rw [Reps], by simp [idsOfs]⟩
  | v :: r, ms, args', im, fz', vs, hh, hf, hv => by
    rw [passArgs] at hh
    rw [Reps] at hv
    obtain ⟨u, us, rfl, hv1, hv2⟩ := hv
    cases hm : ms.headD false with
    | true =>
      rw [hm, cond_true] at hh
      obtain ⟨⟨a2, i2, f2⟩, h1, h2⟩ := ub hh
      simp at h2; obtain ⟨rfl, rfl, rfl⟩ := h2
      obtain ⟨g1, g2⟩ := passArgs_sound S hl h1 hf hv2
      refine ⟨by rw [Reps]; exact ⟨u, us, rfl, Rep.ext (Ext.grow fun _ _ hj => .inl hj) hv1, g1⟩, fun b hb => ?_⟩
      rw [idsOfs] at hb
      rcases List.mem_append.1 hb with hb | hb
      · exact List.mem_append.2 (.inl hb)
      · exact List.mem_append.2 (.inr (g2 b hb))
    | false =>
      rw [hm, cond_false] at hh
      obtain ⟨⟨v1, b1⟩, h0, hh⟩ := ub hh
      obtain ⟨⟨a2, i2, f2⟩, h1, h2⟩ := ub hh
      simp at h2; obtain ⟨rfl, rfl, rfl⟩ := h2
      obtain ⟨e1, e2⟩ := freezeV_sound S hl h0 (fun b hb => hf b (List.mem_append.2 (.inl hb))) hv1
      obtain ⟨g1, g2⟩ := passArgs_sound S hl h1 (fun b hb => hf b (List.mem_append.2 (.inr hb))) hv2
      refine ⟨by rw [Reps]; exact ⟨u, us, rfl, e1, g1⟩, fun b hb => ?_⟩
      rw [idsOfs, e2] at hb
      exact g2 b (by simpa using hb)
end
end Gx

namespace Gx
open Go

theorem sub_congr {g g' : Look} {ρ : Nat → Nat} : ∀ {ids : List Nat}, (∀ b ∈ ids, g b = g' b) → sub g ρ ids = sub g' ρ ids
  | [], _ => rfl
  | b :: r, h => by
    rw [sub, sub, h b (by simp), sub_congr (fun c hc => h c (by simp [hc]))]
theorem aliveAll_at {g : Look} : ∀ {l : List Nat}, aliveAll g l = true → ∀ b ∈ l, ∃ x, g b = some x ∧ x.dead = false
  | [], _, b, hb => by simp at hb
  | i :: r, h, b, hb => by
    rw [aliveAll] at h
    simp at h
    rcases List.mem_cons.1 hb with rfl | hb
    · cases hx : g b with
      | none => rw [hx] at h; simp at h
      | some x => rw [hx] at h; exact ⟨x, rfl, by simpa using h.1⟩
    · exact aliveAll_at h.2 b hb
theorem disj_at : ∀ {l m : List Nat}, disj l m = true → ∀ b ∈ l, b ∉ m
  | [], m, _, b, hb => by simp at hb
  | i :: r, m, h, b, hb => by
    rw [disj] at h
    simp at h
    rcases List.mem_cons.1 hb with rfl | hb
    · intro hm; have := memN_iff.2 hm; rw [this] at h; simp at h
    · exact disj_at h.2 b hb

theorem assoc_snd {d : Nat} : ∀ {l : List (Nat × Nat)} {b : Nat}, b ∈ l.map (·.1) → assoc d l b ∈ l.map (·.2)
  | [], b, hb => by simp at hb
  | (i, x) :: r, b, hb => by
    rw [assoc]
    cases hi : Nat.beq i b with
    | true => simp
    | false =>
      have hm : b ∈ r.map (·.1) := by
        rw [List.map_cons] at hb
        rcases List.mem_cons.1 hb with h | h
        · exact absurd h.symm (beqF' hi)
        · exact h
      simp only [cond_false, List.map_cons]
      exact List.mem_cons_of_mem _ (assoc_snd hm)
theorem assoc_append {d : Nat} : ∀ {l m : List (Nat × Nat)} {b : Nat}, assoc d (l ++ m) b = if b ∈ l.map (·.1) then assoc d l b else assoc d m b
  | [], m, b => by simp
  | (i, x) :: r, m, b => by
    rw [List.cons_append, assoc, assoc, assoc_append]
    cases hi : Nat.beq i b with
    | true => have := Nat.eq_of_beq_eq_true hi; subst this; simp
    | false =>
      have := beqF' hi
      simp only [cond_false, List.map_cons, List.mem_cons]
      by_cases hb : b ∈ r.map (·.1)
      · rw [if_pos hb, if_pos (.inr hb)]
      · rw [if_neg hb, if_neg (by rintro (h | h); exact this h.symm; exact hb h)]

theorem numbered_fst : ∀ {base : Nat} {l : List Nat}, (numbered base l).map (·.1) = l
  | _, [] => rfl
  | base, i :: r => by rw [numbered, List.map_cons, numbered_fst]
theorem assoc_back {d d' : Nat} : ∀ {l : List Nat} {base b : Nat}, b ∈ l → assoc d' ((numbered base l).map fun p => (p.2, p.1)) (assoc d (numbered base l) b) = b
  | [], base, b, hb => by simp at hb
  | i :: r, base, b, hb => by
    rw [numbered, assoc, List.map_cons, assoc]
    cases hi : Nat.beq i b with
    | true => have := Nat.eq_of_beq_eq_true hi; subst this; simp
    | false =>
      have hm : b ∈ r := by
        rcases List.mem_cons.1 hb with h | h
        · exact absurd h.symm (beqF' hi)
        · exact h
      simp only [cond_false]
      have h1 := assoc_numbered (d := d) (base := base + 1) hm
      rw [beqF (show base ≠ assoc d (numbered (base + 1) r) b by omega)]
      exact assoc_back hm
theorem numbered_snd_mem : ∀ {base : Nat} {l : List Nat} {c : Nat}, c ∈ (numbered base l).map (·.2) → base ≤ c ∧ c < base + l.length
  | _, [], c, hc => by simp [numbered] at hc
  | base, i :: r, c, hc => by
    rw [numbered, List.map_cons] at hc
    rcases List.mem_cons.1 hc with h | h
    · simp at h; subst h; simp
    · have := numbered_snd_mem h; simp only [List.length_cons]; omega
theorem numbered_snd_nodup : ∀ {base : Nat} {l : List Nat}, ((numbered base l).map (·.2)).Nodup
  | _, [] => by simp [numbered]
  | base, i :: r => by
    rw [numbered, List.map_cons, List.nodup_cons]
    exact ⟨fun h => by have := numbered_snd_mem h; simp at this; omega, numbered_snd_nodup⟩
theorem numbered_at : ∀ {base : Nat} {l : List Nat} {b : Nat}, b ∈ l → (b, assoc 0 (numbered base l) b) ∈ numbered base l
  | _, [], b, hb => by simp at hb
  | base, i :: r, b, hb => by
    rw [numbered, assoc]
    cases hi : Nat.beq i b with
    | true => have := Nat.eq_of_beq_eq_true hi; subst this; simp
    | false =>
      have hm : b ∈ r := by
        rcases List.mem_cons.1 hb with h | h
        · exact absurd h.symm (beqF' hi)
        · exact h
      simp only [cond_false]
      exact List.mem_cons_of_mem _ (numbered_at hm)

def killed (x : Blk) : Blk := { x with dead := true, pure := true, cells := [] }
theorem applyUps_at : ∀ {ups : Ups} {h : Heap} {b : Nat} {o : Option Blk}, (ups.map (·.1)).Nodup → (b, o) ∈ ups → hget (applyUps ups h) b = match o with | some x => some x | none => (hget h b).map killed
  | [], h, b, o, _, hm => by simp at hm
  | (i, y) :: r, h, b, o, hn, hm => by
    rw [List.map_cons, List.nodup_cons] at hn
    rcases List.mem_cons.1 hm with he | hm'
    · simp at he
      obtain ⟨rfl, rfl⟩ := he
      have hno : inUps r b = false := by
        have : ∀ {r : Ups}, b ∉ r.map (·.1) → inUps r b = false := by
          intro r
          induction r with
          | nil => intro _; rfl
          | cons p r ih =>
            intro h
            simp only [List.map_cons, List.mem_cons, not_or] at h
            rw [inUps, beqF (fun e => h.1 e.symm)]
            exact ih h.2
        exact this hn.1
      cases o with
      | some x => rw [applyUps, applyUps_other _ _ _ hno, hget_hput, if_pos rfl]
      | none =>
        rw [applyUps, applyUps_other _ _ _ hno]
        cases hx : hget h b with
        | none => simp [hx]
        | some x => simp only [Option.map_some]; rw [hget_hput, if_pos rfl]; rfl
    · have hne : b ≠ i := fun e => by subst e; exact hn.1 (List.mem_map.2 ⟨_, hm', rfl⟩)
      cases y with
      | some x =>
        rw [applyUps, applyUps_at hn.2 hm']
        cases o with
        | some _ => rfl
        | none => simp only; rw [hget_hput, if_neg hne]
      | none =>
        rw [applyUps, applyUps_at hn.2 hm']
        cases o with
        | some _ => rfl
        | none =>
          simp only
          split
          · rw [hget_hput, if_neg hne]
          · rfl
theorem inUps_iff : ∀ {ups : Ups} {b : Nat}, inUps ups b = true ↔ b ∈ ups.map (·.1)
  | [], b => by simp [inUps]
  | (i, y) :: r, b => by
    rw [inUps, List.map_cons, List.mem_cons, ← inUps_iff]
    cases hi : Nat.beq i b with
    | true => have := Nat.eq_of_beq_eq_true hi; subst this; simp
    | false => have := beqF' hi; simp; intro e; exact absurd e.symm this

theorem mut_ren' {β : Beta} {h : Heap} {ρ : Nat → Nat} {ids : List Nat} (hn : (ids.map ρ).Nodup) {k : Nat} (hm : Mut (betaR ρ ids β) (sub (hget h) ρ ids) k) :
    ∃ b x o, b ∈ ids ∧ hget h b = some x ∧ x.dead = false ∧ x.sealed = false ∧ β b = some (k, o) := by
  obtain ⟨c, y, o, hy, hd, hs, hβ⟩ := hm
  obtain ⟨b, x, hb, rfl, hx, rfl⟩ := sub_get hn c y hy
  rw [betaR_of hn hb] at hβ
  exact ⟨b, x, o, hb, hx, hd, hs, hβ⟩

/-- What a call leaves, put into the caller's heap. D: the ids that the call could reach, under the caller's names; h1, β1: what became of them. -/
theorem Step.merge {J J0 J1 : Bool → Nat → Prop} {β β1 : Beta} {h h1 H : Heap} {w w' : World} {D ids : List Nat} (S : SimH J β h w) (S1 : SimH J0 β1 h1 w')
    (hH : ∀ b, b ∉ D → hget H b = hget h b)
    (hD : ∀ b x, b ∈ D → hget H b = some x → x.dead = false → hget h1 b = some x)
    (hD1 : ∀ b x, hget h1 b = some x → b ∈ D ∧ hget H b = some x)
    (hnew : ∀ b x, b ∈ D → b ∉ ids → hget h b ≠ some x)
    (hold : ∀ b x, b ∈ ids → hget h b = some x → ∃ x', hget H b = some x' ∧ (x'.dead = true ∨ (x.dead = false ∧ β1 b = β b ∧ x'.sz = x.sz ∧ x'.cells.length = x.cells.length)))
    (hids : ∀ b ∈ ids, b ∈ D)
    (os : w'.os = w.os) (tape : w'.tape = w.tape) (output : w'.output = w.output) (size : w.heap.size ≤ w'.heap.size)
    (frame : ∀ k, k < w.heap.size → (¬ ∃ b x o, b ∈ ids ∧ hget h b = some x ∧ x.dead = false ∧ x.sealed = false ∧ β b = some (k, o)) → w'.heap[k]? = w.heap[k]?)
    (wr : ∀ k, Mut β1 h1 k → k < w.heap.size → ∃ b x o, b ∈ ids ∧ hget h b = some x ∧ x.dead = false ∧ x.sealed = false ∧ β b = some (k, o))
    (jup : ∀ o k, J0 o k → J o k ∨ (∃ b x o, b ∈ ids ∧ hget h b = some x ∧ x.dead = false ∧ x.sealed = false ∧ β b = some (k, o)) ∨ w.heap.size ≤ k)
    (sizes : ∀ k, blkSize w k ≤ blkSize w' k) :
    Step J β h w (fun o k => J o k ∨ J0 o k) (fun b => if b ∈ D then β1 b else β b) H w' ∧ Ext J0 β1 h1 w' (fun o k => J o k ∨ J0 o k) (fun b => if b ∈ D then β1 b else β b) H w' := by
  have E0 : Ext J0 β1 h1 w' (fun o k => J o k ∨ J0 o k) (fun b => if b ∈ D then β1 b else β b) H w' := by
    refine ⟨fun _ _ hj => .inr hj, fun _ _ _ => rfl, fun b x hb => ?_, fun _ _ _ _ => Nat.le_refl _⟩
    obtain ⟨h2, h3⟩ := hD1 b x hb
    refine ⟨x, h3, ?_⟩
    cases hd : x.dead
    · exact .inr ⟨rfl, by simp [h2], rfl, rfl⟩
    · exact .inl rfl
  have keepJ : ∀ o k, J o k → w'.heap[k]? = w.heap[k]? := by
    intro o k hj
    refine frame k (S.jlt o k hj) ?_
    rintro ⟨b, x, o', _, hb, hd, hs, hβ⟩
    rcases S.blk b x hb hd with ⟨h2, _⟩ | ⟨k', o2, cs, ty, fr, h2, h3, h4, h5, h6, h7, h8⟩
    · rw [hβ] at h2; cases h2
    · rw [hβ] at h2; simp at h2; obtain ⟨rfl, rfl⟩ := h2
      exact h7 hs o hj
  have E : Ext J β h w (fun o k => J o k ∨ J0 o k) (fun b => if b ∈ D then β1 b else β b) H w' := by
    refine ⟨fun _ _ hj => .inl hj, keepJ, fun b x hb => ?_, fun b k o _ => sizes k⟩
    by_cases hi : b ∈ ids
    · obtain ⟨x', h2, h3⟩ := hold b x hi hb
      refine ⟨x', h2, ?_⟩
      simp only [hids b hi, if_true]
      exact h3
    · have hnd : b ∉ D := fun hd => hnew b x hd hi hb
      refine ⟨x, by rw [hH b hnd]; exact hb, ?_⟩
      cases hd : x.dead
      · exact .inr ⟨rfl, by simp [hnd], rfl, rfl⟩
      · exact .inl rfl
  have out : ∀ {b x}, b ∉ D → hget H b = some x → hget h b = some x := fun hb hx => by rw [← hH _ hb]; exact hx
  refine ⟨⟨E, ⟨?_, ?_, fun b x hx hd => ?_, ?_⟩, os, tape, output, size, ?_, ?_, ?_⟩, E0⟩
  · rintro o k (hj | hj)
    · exact Nat.lt_of_lt_of_le (S.jlt o k hj) size
    · exact S1.jlt o k hj
  · rintro k (hj | hj)
    · exact .inl (S.jft k hj)
    · exact .inr (S1.jft k hj)
  · by_cases hb : b ∈ D
    · have h2 := hD b x hb hx hd
      rcases S1.blk b x h2 hd with ⟨h3, h4⟩ | ⟨k, o, cs, ty, fr, h3, h4, h5, h6, h7, h8, h9⟩
      · exact .inl ⟨by simp [hb, h3], h4⟩
      · refine .inr ⟨k, o, cs, ty, fr, by simp [hb, h3], h4, h5, h6, h7.ext E0, fun hs g hj => ?_, fun hs => .inr (h9 hs)⟩
        rcases hj with hj | hj
        · by_cases hk : k < w.heap.size
          · obtain ⟨b', x', o', hb', hx', hd', hs', hβ'⟩ := wr k ⟨b, x, o, h2, hd, hs, h3⟩ hk
            rcases S.blk b' x' hx' hd' with ⟨g1, _⟩ | ⟨k', o2, cs2, ty2, fr2, g1, g2, g3, g4, g5, g6, g7⟩
            · rw [hβ'] at g1; cases g1
            · rw [hβ'] at g1; simp at g1; obtain ⟨rfl, rfl⟩ := g1
              exact g6 hs' g hj
          · exact hk (S.jlt g k hj)
        · exact h8 hs g hj
    · have h2 := out hb hx
      rcases S.blk b x h2 hd with ⟨h3, h4⟩ | ⟨k, o, cs, ty, fr, h3, h4, h5, h6, h7, h8, h9⟩
      · exact .inl ⟨by simp [hb, h3], h4⟩
      · have hk := heap_lt h4
        have hnm : x.sealed = false → ¬ ∃ b x o, b ∈ ids ∧ hget h b = some x ∧ x.dead = false ∧ x.sealed = false ∧ β b = some (k, o) := by
          rintro hs ⟨b', x', o', hb', hx', hd', hs', hβ'⟩
          have := S.sep b b' x x' k o o' h2 hx' hd hd' hs h3 hβ'
          subst this
          exact hb (hids b hb')
        have same : w'.heap[k]? = w.heap[k]? := by
          cases hs : x.sealed with
          | false => exact frame k hk (hnm hs)
          | true => exact keepJ _ k (h9 hs)
        refine .inr ⟨k, o, cs, ty, fr, by simp [hb, h3], by rw [same]; exact h4, h5, h6, h7.ext E, fun hs g hj => ?_, fun hs => .inl (h9 hs)⟩
        rcases hj with hj | hj
        · exact h8 hs g hj
        · rcases jup g k hj with hj | hj | hj
          · exact h8 hs g hj
          · exact hnm hs hj
          · omega
  · intro b b' x x' k o o' hx hx' hd hd' hs hβ hβ'
    by_cases hb : b ∈ D <;> by_cases hb' : b' ∈ D
    · simp [hb] at hβ; simp [hb'] at hβ'
      exact S1.sep b b' x x' k o o' (hD b x hb hx hd) (hD b' x' hb' hx' hd') hd hd' hs hβ hβ'
    · exfalso
      simp [hb] at hβ; simp [hb'] at hβ'
      have h2 := out hb' hx'
      have hk := loc_lt S h2 hd' hβ'
      obtain ⟨b2, x2, o2, hb2, hx2, hd2, hs2, hβ2⟩ := wr k ⟨b, x, o, hD b x hb hx hd, hd, hs, hβ⟩ hk
      have := S.sep b2 b' x2 x' k o2 o' hx2 h2 hd2 hd' hs2 hβ2 hβ'
      subst this
      exact hb' (hids _ hb2)
    · exfalso
      simp [hb] at hβ; simp [hb'] at hβ'
      have h2 := out hb hx
      have h3 := hD b' x' hb' hx' hd'
      have hk := loc_lt S h2 hd hβ
      have hnm : ¬ ∃ b x o, b ∈ ids ∧ hget h b = some x ∧ x.dead = false ∧ x.sealed = false ∧ β b = some (k, o) := by
        rintro ⟨b2, x2, o2, hb2, hx2, hd2, hs2, hβ2⟩
        have := S.sep b b2 x x2 k o o2 h2 hx2 hd hd2 hs hβ hβ2
        subst this
        exact hb (hids _ hb2)
      cases hs' : x'.sealed with
      | false => exact hnm (wr k ⟨b', x', o', h3, hd', hs', hβ'⟩ hk)
      | true =>
        rcases S1.blk b' x' h3 hd' with ⟨g1, _⟩ | ⟨k', o2, cs2, ty2, fr2, g1, g2, g3, g4, g5, g6, g7⟩
        · rw [hβ'] at g1; cases g1
        · rw [hβ'] at g1; simp at g1; obtain ⟨rfl, rfl⟩ := g1
          rcases jup _ k (g7 hs') with hj | hj | hj
          · rcases S.blk b x h2 hd with ⟨e1, _⟩ | ⟨k2, o2, cs2, ty2, fr2, e1, e2, e3, e4, e5, e6, e7⟩
            · rw [hβ] at e1; cases e1
            · rw [hβ] at e1; simp at e1; obtain ⟨rfl, rfl⟩ := e1
              exact e6 hs _ hj
          · exact hnm hj
          · omega
    · simp [hb] at hβ; simp [hb'] at hβ'
      exact S.sep b b' x x' k o o' (out hb hx) (out hb' hx') hd hd' hs hβ hβ'
  · intro k hk hm
    exact frame k hk (fun ⟨b, x, o, _, hx, hd, hs, hβ⟩ => hm ⟨b, x, o, hx, hd, hs, hβ⟩)
  · rintro k ⟨b, x, o, hx, hd, hs, hβ⟩ hk
    by_cases hb : b ∈ D
    · simp [hb] at hβ
      obtain ⟨b2, x2, o2, _, hx2, hd2, hs2, hβ2⟩ := wr k ⟨b, x, o, hD b x hb hx hd, hd, hs, hβ⟩ hk
      exact ⟨b2, x2, o2, hx2, hd2, hs2, hβ2⟩
    · simp [hb] at hβ
      exact ⟨b, x, o, out hb hx, hd, hs, hβ⟩
  · rintro o k (hj | hj)
    · exact .inl hj
    · rcases jup o k hj with hj | ⟨b, x, o2, _, hx, hd, hs, hβ⟩ | hj
      · exact .inl hj
      · exact .inr (.inl ⟨b, x, o2, hx, hd, hs, hβ⟩)
      · exact .inr (.inr hj)
end Gx

namespace Gx
open Go

theorem emptyN_iff {l : List Nat} : emptyN l = true ↔ l = [] := by cases l <;> simp [emptyN]

theorem nodup_of_map {α β : Type} {f : α → β} : ∀ {l : List α}, (l.map f).Nodup → l.Nodup
  | [], _ => List.nodup_nil
  | a :: r, h => by
    rw [List.map_cons, List.nodup_cons] at h
    exact List.nodup_cons.2 ⟨fun hm => h.1 (List.mem_map.2 ⟨a, hm, rfl⟩), nodup_of_map h.2⟩
theorem nodup_filter {α : Type} {p : α → Bool} : ∀ {l : List α}, l.Nodup → (l.filter p).Nodup
  | [], _ => List.nodup_nil
  | a :: r, h => by
    rw [List.nodup_cons] at h
    rw [List.filter_cons]
    split
    · exact List.nodup_cons.2 ⟨fun hm => h.1 (List.mem_filter.1 hm).1, nodup_filter h.2⟩
    · exact nodup_filter h.2
theorem numbered_mem {base : Nat} {l : List Nat} {p : Nat × Nat} (hp : p ∈ numbered base l) : p.1 ∈ l := by
  have : p.1 ∈ (numbered base l).map (·.1) := List.mem_map.2 ⟨p, hp, rfl⟩
  rw [numbered_fst] at this; exact this
theorem map_inj {σ : Nat → Nat} : ∀ {l : List Nat} {a b : Nat}, (l.map σ).Nodup → a ∈ l → b ∈ l → σ a = σ b → a = b
  | [], a, b, _, ha, _, _ => by simp at ha
  | i :: r, a, b, hn, ha, hb, he => by
    rw [List.map_cons, List.nodup_cons] at hn
    rcases List.mem_cons.1 ha with h1 | h1 <;> rcases List.mem_cons.1 hb with h2 | h2
    · rw [h1, h2]
    · subst h1; exact absurd (List.mem_map.2 ⟨b, h2, he.symm⟩) hn.1
    · subst h2; exact absurd (List.mem_map.2 ⟨a, h1, he⟩) hn.1
    · exact map_inj hn.2 h1 h2 he

theorem acall_ok {E : Env} (hT : TblOk E.P E.tbl) : CallOk E := by
  intro R r k J β h w g d f args vs S hl hh hv
  unfold acall at hh
  obtain ⟨⟨args', im, fz⟩, hp, h1⟩ := ub hh
  simp only at h1
  obtain ⟨hc, h2⟩ := uc h1
  simp only [Bool.and_eq_true] at hc
  obtain ⟨hal, him, hin, hdj, hnd, _⟩ := hc
  generalize hids : reach g im = ids at *
  generalize hρ : assoc 0 (numbered 100000 ids) = ρ at *
  have hal := aliveAll_at hal
  have him := allIn_at him
  have hdj := disj_at hdj
  have hnd := nodupB_iff hnd
  have hg : ∀ b ∈ ids, g b = hget h b := fun b hb => by obtain ⟨x, hx, _⟩ := hal b hb; rw [hx, hl b x hx]
  rw [inner_congr (g := hget h) hg] at hin
  have hin := allIn_at hin
  rw [sub_congr (g' := hget h) hg] at h2
  obtain ⟨hA, hB⟩ := passArgs_sound (fz := fz) S hl hp (fun _ h => h) hv
  have aliveH : ∀ b ∈ ids, ∃ x, hget h b = some x ∧ x.dead = false := fun b hb => by obtain ⟨x, hx, hd⟩ := hal b hb; exact ⟨x, hl b x hx, hd⟩
  -- the callee's start
  have SJ : SimH (JS J β h fz) (betaR ρ ids β) (sub (hget h) ρ ids) w := by
    refine (S.ren hnd hin).grow (fun o k hj => .inl hj) ?_ ?_ ?_
    · rintro o k (hj | ⟨_, b, x, o', _, hx, hd, _, hβ⟩)
      · exact S.jlt o k hj
      · exact loc_lt S hx hd hβ
    · rintro k (hj | ⟨h0, _⟩)
      · exact .inl (S.jft k hj)
      · cases h0
    · intro c y k o hy hd hs hβ q hj
      obtain ⟨b, x, hb, rfl, hx, rfl⟩ := sub_get hnd c y hy
      rw [betaR_of hnd hb] at hβ
      rcases hj with hj | ⟨_, b', x', o', hb', hx', hd', hs', hβ'⟩
      · rcases S.blk b x hx hd with ⟨e1, _⟩ | ⟨k2, o2, cs2, ty2, fr2, e1, e2, e3, e4, e5, e6, e7⟩
        · rw [hβ] at e1; cases e1
        · rw [hβ] at e1; simp at e1; obtain ⟨rfl, rfl⟩ := e1
          exact e6 hs _ hj
      · have := S.sep b b' x x' k o o' hx hx' hd hd' hs hβ hβ'
        subst this
        exact hdj b hb' hb
  have RJ : Reps (JS J β h fz) (betaR ρ ids β) (sub (hget h) ρ ids) w (renVs ρ args') vs := Reps.ren hnd (fun b hb => him b (hB b hb)) hA
  obtain ⟨rv, rh, hF, h3⟩ := tcall_ok hT h2
  have hcall := hF _ _ w vs SJ RJ
  obtain ⟨horg, h4⟩ := uc' h3
  obtain ⟨hc2, h5⟩ := uc h4
  simp only [Bool.and_eq_true] at hc2
  obtain ⟨hnal, hn16, hrv, houts, hrin, hσn⟩ := hc2
  generalize hall : reach (hget rh) (idsOf rv ++ (numbered 100000 ids).map (·.2)) = all at *
  generalize hnew : all.filter (fun b => !memN ((numbered 100000 ids).map (·.2)) b) = new at *
  generalize hσ : assoc 0 ((numbered 100000 ids).map (fun p => (p.2, p.1)) ++ numbered (nid d) new) = σ at *
  have hnal := aliveAll_at hnal
  have hrv := allIn_at hrv
  have houts := allIn_at houts
  have hrin := allIn_at hrin
  have hσn := nodupB_iff hσn
  have hn16 : new.length ≤ 16 := by simpa using hn16
  refine ⟨_, _, h5, fun hfree => Calls.mono hcall ?_⟩
  rintro e w' ⟨vc, J', β', rfl, F, hR⟩
  refine ⟨vc, rfl, ?_⟩
  -- names
  have back : ∀ b ∈ ids, σ (ρ b) = b := by
    intro b hb
    rw [← hσ, assoc_append, if_pos, ← hρ]
    · exact assoc_back hb
    · rw [List.map_map]
      have := assoc_snd (d := 0) (l := numbered 100000 ids) (b := b) (by rw [numbered_fst]; exact hb)
      rw [hρ] at this
      exact this
  have ρall : ∀ b ∈ ids, ρ b ∈ all := by
    intro b hb
    refine houts _ ?_
    have := assoc_snd (d := 0) (l := numbered 100000 ids) (b := b) (by rw [numbered_fst]; exact hb)
    rw [hρ] at this
    exact this
  have σout : ∀ c ∈ all, c ∈ (numbered 100000 ids).map (·.2) → σ c ∈ ids := by
    intro c _ hc
    rw [← hσ, assoc_append, if_pos (by rw [List.map_map]; exact hc)]
    have := assoc_snd (d := 0) (l := (numbered 100000 ids).map (fun p => (p.2, p.1))) (b := c) (by rw [List.map_map]; exact hc)
    rw [List.map_map] at this
    have e : (numbered 100000 ids).map ((fun x => x.2) ∘ fun p => (p.2, p.1)) = ids := numbered_fst
    rw [e] at this
    exact this
  have newmem : ∀ c ∈ new, c ∈ all ∧ c ∉ (numbered 100000 ids).map (·.2) := by
    intro c hc
    rw [← hnew] at hc
    obtain ⟨h6, h7⟩ := List.mem_filter.1 hc
    refine ⟨h6, fun hm => ?_⟩
    rw [memN_iff.2 hm] at h7; simp at h7
  have σnew : ∀ c ∈ new, σ c = assoc 0 (numbered (nid d) new) c := by
    intro c hc
    rw [← hσ, assoc_append, if_neg]
    rw [List.map_map]; exact (newmem c hc).2
  have allcases : ∀ c ∈ all, c ∈ (numbered 100000 ids).map (·.2) ∨ c ∈ new := by
    intro c hc
    by_cases hm : c ∈ (numbered 100000 ids).map (·.2)
    · exact .inl hm
    · refine .inr ?_
      rw [← hnew]
      refine List.mem_filter.2 ⟨hc, ?_⟩
      cases hq : memN ((numbered 100000 ids).map (·.2)) c with
      | false => rfl
      | true => exact absurd (memN_iff.1 hq) hm
  generalize hups : ((numbered 100000 ids).map fun p => (p.1, (hget rh p.2).map (renB σ))) ++ (numbered (nid d) new).map (fun p => (p.2, (hget rh p.1).map (renB σ))) = ups at *
  have keys : ups.map (·.1) = ids ++ (numbered (nid d) new).map (·.2) := by
    rw [← hups, List.map_append, List.map_map, List.map_map]
    congr 1
    exact numbered_fst
  have newFree : ∀ c ∈ (numbered (nid d) new).map (·.2), hget h c = none := by
    intro c hc
    refine hfree c (inUps_iff.2 (by rw [keys]; exact List.mem_append.2 (.inr hc))) ?_
    have := numbered_snd_mem hc
    unfold isNew
    simp; omega
  have keysN : (ups.map (·.1)).Nodup := by
    rw [keys, List.nodup_append]
    refine ⟨nodup_of_map hnd, numbered_snd_nodup, fun a ha b hb e => ?_⟩
    subst e
    obtain ⟨x, hx, _⟩ := aliveH a ha
    rw [newFree a hb] at hx; cases hx
  have upsOld : ∀ b ∈ ids, (b, (hget rh (ρ b)).map (renB σ)) ∈ ups := by
    intro b hb
    rw [← hups]
    refine List.mem_append.2 (.inl (List.mem_map.2 ⟨(b, ρ b), ?_, rfl⟩))
    rw [← hρ]; exact numbered_at hb
  have upsNew : ∀ c ∈ new, (σ c, (hget rh c).map (renB σ)) ∈ ups := by
    intro c hc
    rw [← hups]
    refine List.mem_append.2 (.inr (List.mem_map.2 ⟨(c, σ c), ?_, rfl⟩))
    rw [σnew c hc]; exact numbered_at hc
  -- what became of what was handed over
  have J0 : ∃ J0 : Bool → Nat → Prop, SimH J0 β' rh w' ∧ Rep J0 β' rh w' rv vc ∧ ∀ o k, J0 o k → J o k ∨ Mut (betaR ρ ids β) (sub (hget h) ρ ids) k ∨ w.heap.size ≤ k := by
    cases he : emptyN fz with
    | true =>
      have := emptyN_iff.1 he
      subst this
      refine ⟨J', F.sim, hR, fun o k hj => ?_⟩
      rcases F.jup o k hj with (hj | ⟨_, b, x, o', hb, _⟩) | hj
      · exact .inl hj
      · simp at hb
      · exact .inr hj
    | false =>
      rw [he] at horg
      simp at horg
      refine ⟨fun _ => J' false, F.sim.noOrg horg.2, Rep.noOrg horg.1 hR, fun o k hj => ?_⟩
      rcases F.jup false k hj with (h6 | ⟨h0, _⟩) | h6
      · left
        cases o
        · exact h6
        · exact S.jft k h6
      · cases h0
      · exact .inr h6
  obtain ⟨J0, S0, R0, jup0⟩ := J0
  have S1 := S0.ren hσn hrin
  have R1 := Rep.ren hσn hrv R0
  have M := Step.merge (J := J) (J0 := J0) (J1 := J0) (H := applyUps ups h) (D := ids ++ (numbered (nid d) new).map (·.2)) (ids := ids) S S1
    (fun b hb => applyUps_other _ _ _ (by
      cases hi : inUps ups b with
      | false => rfl
      | true => exact absurd (by rw [← keys]; exact inUps_iff.1 hi) hb))
    (fun b x hb hx hd => by
      rcases List.mem_append.1 hb with hb | hb
      · rw [applyUps_at keysN (upsOld b hb)] at hx
        cases hq : hget rh (ρ b) with
        | none =>
          rw [hq] at hx; simp at hx
          obtain ⟨y, _, rfl⟩ := hx
          simp [killed] at hd
        | some y =>
          rw [hq] at hx; simp at hx; subst hx
          have := sub_mem (g := hget rh) hσn (ρ b) y (ρall b hb) hq
          rw [back b hb] at this
          exact this
      · obtain ⟨c, hc, rfl⟩ : ∃ c ∈ new, σ c = b := by
          obtain ⟨p, hp, rfl⟩ := List.mem_map.1 hb
          have hp1 : p.1 ∈ new := numbered_mem hp
          refine ⟨p.1, hp1, ?_⟩
          rw [σnew _ hp1]
          have : ∀ {base : Nat} {l : List Nat} {p : Nat × Nat}, l.Nodup → p ∈ numbered base l → assoc 0 (numbered base l) p.1 = p.2 := by
            intro base l
            induction l generalizing base with
            | nil => intro p _ hp; simp [numbered] at hp
            | cons i r ih =>
              intro p hn hp
              rw [List.nodup_cons] at hn
              rw [numbered] at hp ⊢
              rw [assoc]
              rcases List.mem_cons.1 hp with rfl | hp
              · simp
              · have : p.1 ∈ r := numbered_mem hp
                rw [beqF (fun e => hn.1 (by rw [e]; exact this))]
                exact ih hn.2 hp
          refine this ?_ hp
          rw [← hnew]
          exact nodup_filter (nodup_of_map hσn)
        rw [applyUps_at keysN (upsNew c hc)] at hx
        obtain ⟨y, hy, _⟩ := hnal c hc
        rw [hy] at hx; simp at hx; subst hx
        exact sub_mem (g := hget rh) hσn c y (newmem c hc).1 hy)
    (fun b x hb => by
      obtain ⟨c, y, hc, rfl, hy, rfl⟩ := sub_get hσn b x hb
      rcases allcases c hc with hm | hm
      · have h6 := σout c hc hm
        have h7 : ρ (σ c) = c := by
          have : (all.map σ).Nodup := hσn
          have e1 := back (σ c) h6
          have e2 := ρall (σ c) h6
          exact map_inj this e2 hc e1
        refine ⟨List.mem_append.2 (.inl h6), ?_⟩
        rw [applyUps_at keysN (upsOld (σ c) h6), h7, hy]; rfl
      · refine ⟨List.mem_append.2 (.inr ?_), ?_⟩
        · rw [σnew c hm]
          exact assoc_snd (by rw [numbered_fst]; exact hm)
        · rw [applyUps_at keysN (upsNew c hm), hy]; rfl)
    (fun b x hb hni hx => by
      rcases List.mem_append.1 hb with hb | hb
      · exact hni hb
      · rw [newFree b hb] at hx; cases hx)
    (fun b x hb hx => by
      rw [applyUps_at keysN (upsOld b hb)]
      cases hq : hget rh (ρ b) with
      | none => exact ⟨killed x, by simp [hx], .inl rfl⟩
      | some y =>
        refine ⟨renB σ y, by simp, ?_⟩
        cases hd : y.dead with
        | true => exact .inl hd
        | false =>
          right
          have e0 := sub_mem (g := hget h) hnd b x hb hx
          obtain ⟨e1, e2, e3, e4⟩ := F.outs (ρ b) _ y e0 hq hd
          refine ⟨e4, ?_, e2, ?_⟩
          · have := betaR_of (β := β') hσn (ρall b hb)
            rw [back b hb] at this
            rw [this, e1]
            exact betaR_of hnd hb
          · rw [renB_length, e3, renB_length])
    (fun b hb => List.mem_append.2 (.inl hb))
    F.os F.tape F.output F.size
    (fun k hk hm => F.frame k hk (fun hm' => hm (mut_ren' hnd hm')))
    (fun k hm hk => mut_ren' hnd (F.wr k (mut_ren hσn hm) hk))
    (fun o k hj => by
      rcases jup0 o k hj with hj | hj | hj
      · exact .inl hj
      · exact .inr (.inl (mut_ren' hnd hj))
      · exact .inr (.inr hj))
    F.sizes
  exact ⟨_, _, M.1, Rep.ext M.2 R1⟩

/-- The body of a function over twins that hold is a twin that holds. -/
theorem execF_sound {P : Program} {muts : Nat → List Bool} {T : List (Nat × Tw)} {hs : Hints} {N f : Nat} {args : List AV} {h : Heap} {res : AV} {h' : Heap} (hT : TblOk P T) (hm : P.follows .mixedOrders = true)
    (hh : execF P muts T hs N f args h (fun v h' => some (v, h')) = some (res, h')) : FOk P f args h res h' := by
  unfold execF at hh
  split at hh
  · simp at hh
  · rename_i fn hfn
    split at hh
    · simp at hh
    · rename_i c hc
      simp only at hh
      obtain ⟨hc1, h1⟩ := uc hh
      simp only [Bool.and_eq_true] at hc1
      obtain ⟨hlen, hroot⟩ := hc1
      have hlen : args.length ≤ fn.ntmps := by simpa using hlen
      intro J β w vs S hv
      have hvl : vs.length = args.length := ((Reps_iff).1 hv).1
      refine calls_of_wp hfn hc ?_
      have roots : ∀ {h : Heap} {b : Nat} {x : Blk}, rootsOk h = true → hget h b = some x → isRoot b = true := by
        intro h
        induction h with
        | nil => intro b x _ hb; simp [hget] at hb
        | cons p r ih =>
          intro b x hr hb
          obtain ⟨i, y⟩ := p
          rw [rootsOk] at hr
          simp at hr
          rw [hget] at hb
          cases hi : Nat.beq i b with
          | true => have := Nat.eq_of_beq_eq_true hi; subst this; exact hr.1
          | false => rw [hi] at hb; exact ih hr.2 (by simpa using hb)
      have sgetI : ∀ {args : List AV} {j i : Nat}, sget (initS j args) i = if j ≤ i then (args[i - j]?).getD .undef else .undef := by
        intro args
        induction args with
        | nil => intro j i; simp [initS, sget]
        | cons v r ih =>
          intro j i
          rw [initS, sget]
          cases hi : Nat.beq j i with
          | true => have := Nat.eq_of_beq_eq_true hi; subst this; simp
          | false =>
            have := beqF' hi
            simp only [cond_false]
            rw [ih]
            by_cases hji : j + 1 ≤ i
            · rw [if_pos hji, if_pos (by omega), show i - j = (i - (j + 1)) + 1 by omega]; simp
            · rw [if_neg hji]
              by_cases h2 : j ≤ i
              · omega
              · rw [if_neg h2]
      have I : Inv ⟨J, β, h, w⟩ fn.ntmps J β { s := initS 0 args, h := h } { tmps := vs.toArray ++ Array.replicate (fn.ntmps - vs.toArray.size) undef, defers := [] } w := by
        refine ⟨S, ⟨fun i v hi => ?_, fun i hi => ?_⟩, ?_, rfl, rfl, rfl, rfl, Nat.le_refl _, fun _ _ _ => rfl, fun _ hm _ => hm, fun _ _ hj => hj, fun _ _ hj => .inl hj, fun _ => Nat.le_refl _, ?_, ?_, ?_⟩
        · rw [sgetI, if_pos (Nat.zero_le _)]
          by_cases hlt : i < args.length
          · have h2 : args[i - 0]? = some args[i] := by simp [hlt]
            rw [h2]
            have h3 : vs[i]? = some v := by
              rw [Array.getElem?_append_left (by simp; omega)] at hi
              simpa using hi
            exact ((Reps_iff).1 hv).2 i _ _ (by simp [hlt]) h3
          · have h2 : args[i - 0]? = none := by simp; omega
            rw [h2]; simp [Rep]
        · simp at hi
          rw [sgetI, if_pos (Nat.zero_le _)]
          have h2 : args[i - 0]? = none := by simp; omega
          rw [h2]; rfl
        · simp; omega
        · intro b x0 hb; exact (isRoot_iff.1 (roots hroot hb)).2
        · intro b x0 hb; exact (isRoot_iff.1 (roots hroot hb)).1
        · intro b x0 x hb hx hd
          change hget h b = some x0 at hb
          change hget h b = some x at hx
          rw [hb] at hx; simp at hx; subst hx
          exact ⟨rfl, rfl, rfl, hd⟩
      have fin : ∀ st' a' w' J' β', Inv ⟨J, β, h, w⟩ fn.ntmps J' β' st' a' w' → afinish { P := P, nt := fn.ntmps, muts := muts, nils := hs.nils, free := hs.free, cob := hs.cob, tbl := T } fn hs.modes (h.map (·.1)) (fun v h' => some (v, h')) st' = some (res, h') →
          a'.defers = [] ∧ ∃ v, (results fn a'.tmps).run P w' = .ok v w' ∧ ∃ vc J' β', Ending.returned v = .returned vc ∧ FDone ⟨J, β, h, w⟩ J' β' h' w' ∧ Rep J' β' h' w' res vc := by
        intro st' a' w' J' β' I' h2
        obtain ⟨res2, h2', vc, J2, β2, h3, h4, h5, h6⟩ := afinish_sound I' h2
        simp at h3
        obtain ⟨rfl, rfl⟩ := h3
        exact ⟨I'.defers, vc, h4, vc, J2, β2, rfl, h5, h6⟩
      exact acode_sound (E := { P := P, nt := fn.ntmps, muts := muts, nils := hs.nils, free := hs.free, cob := hs.cob, tbl := T }) (acall_ok hT) hm c I h1 fin (fun _ _ _ _ _ _ _ h2 => by simp at h2) fin
end Gx

namespace Gx
open Go
section
variable {R R' : Type}

theorem aone_bind2 (E : Env) (ops : Array Oper) (o : Oper) (st : St) (k : St → Foot → Option R) (g : R → Option R') : (aone E ops o st k).bind g = aone E ops o st fun st f => (k st f).bind g := by
  rw [aone_core, aone_core, Option.bind_assoc]
theorem settle_bind2 (ops : Array Oper) (o : Oper) (st : St) (k : St → Option R) (g : R → Option R') : (settle ops o st k).bind g = settle ops o st fun st => (k st).bind g := by
  unfold settle
  split
  · rfl
  · split
    · rfl
    · split
      · rw [bind_cond]
      · rfl
theorem aops_bind2 (E : Env) (ops : Array Oper) (g : R → Option R') : ∀ (l : List Oper) (st : St) (tr : List Foot) (k : St → List Foot → Option R), (aops E ops l st tr k).bind g = aops E ops l st tr fun st tr => (k st tr).bind g
  | [], st, tr, k => rfl
  | o :: r, st, tr, k => by
    rw [aops, aops, settle_bind2]
    congr 1; funext st
    rw [aone_bind2]
    congr 1; funext st f
    exact aops_bind2 E ops g r st (f :: tr) k
theorem aregion_bind2 (E : Env) (K roots : List Nat) (ops : Array Oper) (draw : Bool) (st : St) (k : St → Option R) (g : R → Option R') : (aregion E K roots ops draw st k).bind g = aregion E K roots ops draw st fun st => (k st).bind g := by
  unfold aregion
  rw [aops_bind2]
  congr 1; funext st tr
  rw [bind_cond, Option.bind_assoc]; rfl
theorem aloop_bind2 (cn : St → Option St) (b1 : (St → Option R) → St → Option R) (b2 : (St → Option R') → St → Option R') (g : R → Option R') (hb : ∀ k st, (b1 k st).bind g = b2 (fun st => (k st).bind g) st) : ∀ n st, (aloop cn b1 n st).bind g = aloop cn b2 n st
  | 0, st => rfl
  | n + 1, st => by
    rw [aloop, aloop, hb]
    congr 1; funext st
    rw [Option.bind_assoc]
    congr 1; funext st
    exact aloop_bind2 cn b1 b2 g hb n st
theorem acode_bind2 (E : Env) (roots : List Nat) (N : Nat) (g : R → Option R') : ∀ (c : Code) (H : Hint) (k : St → Option R) (x : Nat → St → Option R) (r : St → Option R) (st : St),
    (acode E roots N c H k x r st).bind g = acode E roots N c H (fun st => (k st).bind g) (fun j st => (x j st).bind g) (fun st => (r st).bind g) st := by
  intro c
  induction c with
  | skip => intro H k x r st; rfl
  | region id ops draw => intro H k x r st; exact aregion_bind2 ..
  | seq a b iha ihb =>
    intro H k x r st
    rw [acode, acode, wall_eq, wall_eq, iha]
    congr 1; funext st
    exact ihb ..
  | cond c a b iha ihb =>
    intro H k x r st
    rw [acode, acode]
    split
    · rw [bind_cond, iha, ihb]
      simp only [Option.bind_assoc]
    · rfl
  | block id c ih =>
    intro H k x r st
    rw [acode, acode, ih]
    simp only [Option.bind_assoc, bind_cond]
  | loop c ih =>
    intro H k x r st
    rw [acode, acode, Option.bind_assoc, wall_eq, wall_eq]
    congr 1; funext st
    exact aloop_bind2 _ _ _ g (fun k st => ih ..) N st
  | exit id => intro H k x r st; rfl
  | ret => intro H k x r st; rfl
  | rangeFunc => intro H k x r st; rfl
  | scope => intro H k x r st; rfl
  | label => intro H k x r st; rfl
  | goto => intro H k x r st; rfl
  | refuse => intro H k x r st; rfl

theorem aresult_bind2 (E : Env) (st : St) (g : R → Option R') : ∀ (l : List ResultVar) (acc : List AV) (k : List AV → Option R), (aresult E st l acc k).bind g = aresult E st l acc fun l => (k l).bind g
  | [], acc, k => rfl
  | .tmp t :: r, acc, k => by rw [aresult, aresult]; exact aresult_bind2 E st g r _ k
  | .cell a t :: r, acc, k => by
    rw [aresult, aresult, aload_bind, aload_bind (R := R'), Option.bind_assoc]
    congr 1; funext v
    exact aresult_bind2 E st g r _ k
theorem afinish_bind2 (E : Env) (fn : Func) (modes : List (Nat × Nat)) (outs : List Nat) (k : AV → Heap → Option R) (g : R → Option R') (st : St) : (afinish E fn modes outs k st).bind g = afinish E fn modes outs (fun v h => (k v h).bind g) st := by
  unfold afinish
  rw [aresult_bind2]
  congr 1; funext l
  rw [Option.bind_assoc]
  congr 1; funext q
  rw [bind_cond]; rfl
theorem execF_bind (P : Program) (muts : Nat → List Bool) (T : List (Nat × Tw)) (hs : Hints) (N f : Nat) (args : List AV) (h : Heap) (k : AV → Heap → Option R) :
    execF P muts T hs N f args h k = (execF P muts T hs N f args h fun v h => some (v, h)).bind fun p => k p.1 p.2 := by
  unfold execF
  split
  · rfl
  · split
    · rfl
    · simp only
      rw [bind_cond, acode_bind2]
      simp only [afinish_bind2]
      rfl

/-- A place in the code, and what follows there. -/
structure Cut (R : Type) where
  c : Code
  H : Hint
  k : St → Option R
  x : Nat → St → Option R
  r : St → Option R

noncomputable def atC (E : Env) (roots : List Nat) (N : Nat) : List Nat → Code → Hint → (St → Option R) → (Nat → St → Option R) → (St → Option R) → List (St → Option R) → Cut R
  | [], c, H, k, x, r, _ => ⟨c, H, k, x, r⟩
  | d :: p, .seq a b, H, k, x, r, ks => cond (Nat.beq d 0) (atC E roots N p a H.a (wall H.isJoin fun st => acode E roots N b H.b k x r st) x r ks) (atC E roots N p b H.b k x r ks)
  | d :: p, .cond _ a b, H, k, x, r, ks => cond (Nat.beq d 0) (atC E roots N p a H.a (fun st => (canon E H.live roots st).bind k) x r ks) (atC E roots N p b H.b (fun st => (canon E H.live roots st).bind k) x r ks)
  | _ :: p, .block id c, H, k, x, r, ks => atC E roots N p c H.a (fun st => (canon E H.live roots st).bind k) (fun j st => cond (Nat.beq j id) ((canon E H.live roots st).bind k) (x j st)) r ks
  | _ :: p, .loop c, H, _, x, r, q :: ks => atC E roots N p c H.a (fun st => (canon E H.live roots st).bind q) x r ks
  | _ :: _, c, H, k, x, r, _ => ⟨c, H, k, x, r⟩
def loopBody : Code → Code
  | .loop c => c
  | c => c
noncomputable def joinIn (E : Env) (roots : List Nat) (N : Nat) (q : Cut R) (st : St) : Option R := acode E roots N q.c q.H q.k q.x q.r st
noncomputable def joinAt (E : Env) (roots : List Nat) (N : Nat) (q : Cut R) (st : St) : Option R := wall true (fun st => acode E roots N q.c q.H q.k q.x q.r st) st
theorem joinAt_eq (E : Env) (roots : List Nat) (N : Nat) (q : Cut R) (st : St) : joinAt E roots N q st = joinIn E roots N q st := by unfold joinAt; rw [wall_eq]; rfl
noncomputable def loopAt (E : Env) (roots : List Nat) (N : Nat) (q : Cut R) (n : Nat) (st : St) : Option R := aloop (canon E q.H.live roots) (fun k st => acode E roots N (loopBody q.c) q.H.a k q.x q.r st) n st
noncomputable def loopW (E : Env) (roots : List Nat) (N : Nat) (q : Cut R) (n : Nat) (st : St) : Option R := wall true (aloop (canon E q.H.live roots) (fun k st => acode E roots N (loopBody q.c) q.H.a k q.x q.r st) n) st
theorem loopW_eq (E : Env) (roots : List Nat) (N : Nat) (q : Cut R) (n : Nat) (st : St) : loopW E roots N q n st = loopAt E roots N q n st := by unfold loopW; rw [wall_eq]; rfl
def bodyOf (fn : Func) : Code := match fn.body with | some c => c | none => .skip
def lookB : List (Nat × List Bool) → Nat → List Bool
  | [], _ => []
  | (i, l) :: r, f => cond (Nat.beq i f) l (lookB r f)
end

theorem twOk_of {P : Program} {f : Nat} {t : Tw} (h : ∀ args h res h', (t.runK args h fun v h' => some (v, h')) = some (res, h') → FOk P f args h res h') : TwOk P f t := h
end Gx

namespace Gx
open Go
/- Words for the twins. -/
abbrev LA := List AV
abbrev hL : Hint := .leaf
abbrev hR (l : List Nat) : Hint := .node l .leaf .leaf
abbrev hS (a b : Hint) : Hint := .node [] a b
abbrev hN (l : List Nat) (a b : Hint) : Hint := .node l a b
abbrev hJ (a b : Hint) : Hint := .join a b
def mkEP (P : Program) (muts : Nat → List Bool) (nt : Nat) (hs : Hints) (T : List (Nat × Tw)) : Env := { P, nt, muts, nils := hs.nils, free := hs.free, cob := hs.cob, tbl := T }
noncomputable def atF {R : Type} (E : Env) (roots : List Nat) (N : Nat) (fn : Func) (hs : Hints) (fin : St → Option R) (p : List Nat) (ks : List (St → Option R)) : Cut R := atC E roots N p (bodyOf fn) hs.H fin (fun _ _ => none) fin ks
def rdI {R : Type} (kd : IntKind) (c : List AV) (k : Int → Option R) : Option R := (c.head?).bind fun x => (asInt kd x).bind k
def rdB {R : Type} (c : List AV) (k : Bool → Option R) : Option R := (c.head?).bind fun x => (asBool x).bind k
def rdS {R : Type} (c : List AV) (k : List UInt8 → Option R) : Option R := (c.head?).bind fun x => (asStr x).bind k
def rdL {R : Type} (sz : Nat) (c : List AV) (k : List AV → Nat → Option R) : Option R := (c.head?).bind fun x => (asSl sz x).bind fun p => k p.1 p.2
def bitAnd (k : IntKind) (a b : Int) : Int := k.wrap ((BitVec.ofInt k.bits a &&& BitVec.ofInt k.bits b).toNat : Int)
def bitOr (k : IntKind) (a b : Int) : Int := k.wrap ((BitVec.ofInt k.bits a ||| BitVec.ofInt k.bits b).toNat : Int)
def bitXor (k : IntKind) (a b : Int) : Int := k.wrap ((BitVec.ofInt k.bits a ^^^ BitVec.ofInt k.bits b).toNat : Int)
def bitAndNot (k : IntKind) (a b : Int) : Int := k.wrap ((BitVec.ofInt k.bits a &&& ~~~ (BitVec.ofInt k.bits b)).toNat : Int)
def bytesAV (s : List UInt8) : List AV := s.map fun b => .int .u8 (b.toNat : Int)
end Gx
