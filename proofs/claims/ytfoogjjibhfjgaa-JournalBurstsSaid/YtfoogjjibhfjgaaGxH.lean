/- A part of the proof: what it holds is said at each theorem. -/
import Derived.Test.YtfoogjjibhfjgaaGxG
set_option linter.unusedVariables false
namespace Gx
open Go

theorem applyUps_append : ∀ (a b : Ups) (h : Heap), applyUps (a ++ b) h = applyUps b (applyUps a h)
  | [], _, _ => rfl
  | (_, some _) :: r, b, h => by simp only [List.cons_append, applyUps]; exact applyUps_append r b _
  | (_, none) :: r, b, h => by simp only [List.cons_append, applyUps]; exact applyUps_append r b _

/-- The look-up is a part of the heap, but for seals. -/
def LooksS (g : Look) (h : Heap) : Prop := ∀ b x, g b = some x → ∃ y, hget h b = some y ∧ { y with sealed := true } = { x with sealed := true }
theorem Looks.s {g : Look} {h : Heap} (hl : Looks g h) : LooksS g h := fun b x hb => ⟨x, hl b x hb, rfl⟩

section
variable {R : Type} {r : R} {P : Program} {J J' : Bool → Nat → Prop} {β : Beta} {h : Heap} {w : World} {g : Look}

theorem LooksS.seal (hl : LooksS g h) {b : Nat} {x : Blk} (hb : g b = some x) : LooksS g (hput h b { x with sealed := true }) := by
  intro c y hc
  rw [hget_hput]
  by_cases e : c = b
  · subst e; rw [hb] at hc; simp at hc; subst hc
    exact ⟨{ x with sealed := true }, by simp, rfl⟩
  · rw [if_neg e]; exact hl c y hc

theorem own_imm (S : SimH J β h w) {b off n : Nat} {y : Blk} {v : Value} (hb : hget h b = some y) (hd : y.dead = false) (hp : y.pure = true) (hr : Rep J β h w (.own b off n) v)
    (hJ : ∀ k o, β b = some (k, o) → J' y.taint k) (hsub : ∀ o k, J o k → J' o k) (t o : Bool) : RepC (J' y.taint) w (.imm ((y.cells.drop off).take (n * y.sz)) n y.sz t o) v ↔ (t = true → ∃ A cap, v = .slice A n cap ∧ cap = n) := by
  rw [Rep] at hr
  obtain ⟨x, A, cap, hx1, rfl, hcap, hr⟩ := hr
  rw [hb] at hx1; simp at hx1; subst hx1
  rw [RepC]
  constructor
  · rintro ⟨_, A', cap', hv, _, ht, _⟩ h1
    exact ⟨A', cap', hv, ht h1⟩
  · intro ht
    have ht' : t = true → cap = n := fun h1 => by
      obtain ⟨A', cap', hv, hc⟩ := ht h1
      simp at hv; omega
    rcases hr with hr | ⟨kk, oo, rfl, hr⟩
    · have : n = 0 := by omega
      subst this
      exact ⟨by simp, A, cap, rfl, hcap, ht', .inl rfl⟩
    · rcases hr with hr | ⟨r1, r2, r3⟩
      · simp [hd] at hr
      · rcases S.blk b y hb hd with ⟨hn, _⟩ | ⟨k', o', cs, ty, fr, hβ', g1, g2, g3, g4, g5, g6⟩
        · rw [r1] at hn; simp at hn
        · rw [r1] at hβ'; simp at hβ'; obtain ⟨rfl, rfl⟩ := hβ'
          refine ⟨by simp; omega, _, cap, rfl, hcap, ht', .inr ⟨_, rfl, hJ _ _ r1, ?_⟩⟩
          have := ((g4.1 hp).drop off).take (n * y.sz)
          refine RepCs.keep (fun k hk => hsub _ k hk) (fun _ _ => rfl) (fun j => ?_) this
          rw [Addr.add_mid, cell_row g1, Nat.add_assoc]

theorem pureV_sound {v v' : AV} {ups : Ups} {org : Bool} {vc : Value} (S : SimH J β h w) (hl : LooksS g h) (hh : pureV g v = some (v', ups, org)) (hv : Rep J β h w v vc) :
    ∃ J', Step J β h w J' β (applyUps ups h) w ∧ RepC (J' org) w v' vc ∧ LooksS g (applyUps ups h) := by
  unfold pureV at hh
  split at hh
  · rename_i b off n
    obtain ⟨x, hx, h1⟩ := ub hh
    obtain ⟨hp, h2⟩ := uc h1
    simp at h2
    obtain ⟨rfl, rfl, rfl⟩ := h2
    unfold vblk at hx
    obtain ⟨x0, hx0, hx⟩ := ub hx
    obtain ⟨hd, hx⟩ := uc' hx
    simp at hx; subst hx
    obtain ⟨y, hy, hxy⟩ := hl b _ hx0
    have e1 : y.cells = x0.cells := by have := congrArg Blk.cells hxy; simpa using this
    have e2 : y.sz = x0.sz := by have := congrArg Blk.sz hxy; simpa using this
    have e3 : y.taint = x0.taint := by have := congrArg Blk.taint hxy; simpa using this
    have e4 : y.dead = x0.dead := by have := congrArg Blk.dead hxy; simpa using this
    have e5 : y.pure = x0.pure := by have := congrArg Blk.pure hxy; simpa using this
    have A := Step.seal S hy (by rw [e4]; exact hd)
    refine ⟨_, by simp only [applyUps]; rw [← hxy]; exact A, ?_, by simp only [applyUps]; exact hl.seal hx0⟩
    have := (own_imm (J' := fun o k => J o k ∨ ∃ o', β b = some (k, o') ∧ (y.taint = true → o = true)) S hy (by rw [e4]; exact hd) (by rw [e5]; exact hp) hv (fun k o hβ => .inr ⟨o, hβ, id⟩) (fun o k hj => .inl hj) false x0.taint).2 (by simp)
    rw [e1, e2, e3] at this
    rw [e3]
    exact this
  all_goals first
    | (simp at hh; done)
    | (simp at hh; obtain ⟨rfl, rfl, rfl⟩ := hh
       refine ⟨J, Step.refl S, ?_, hl⟩
       first
         | (rw [Rep] at hv; exact hv)
         | skip)
  · cases v
    case imm => rename_i hi _ _; exact absurd rfl (hi _ _ _ _ _)
    case iptr => rename_i hi _; exact absurd rfl (hi _ _)
    case pagg => rename_i hi; exact absurd rfl (hi _ _)
    all_goals first | (rw [Rep] at hv; rw [RepC]; exact hv) | simp_all

theorem pureVs_sound : ∀ {c c' : List AV} {ups : Ups} {org : Bool} {cs : List Value} {J : Bool → Nat → Prop} {h : Heap}, SimH J β h w → LooksS g h → pureVs g c = some (c', ups, org) → Reps J β h w c cs →
    ∃ J', Step J β h w J' β (applyUps ups h) w ∧ RepCs (J' org) w c' (fun j => cs[j]?) 0 ∧ c'.length = cs.length ∧ LooksS g (applyUps ups h)
  | [], c', ups, org, cs, J, h, S, hl, hh, hv => by
    simp [pureVs] at hh; obtain ⟨rfl, rfl, rfl⟩ := hh
    rw [Reps] at hv; subst hv
    exact ⟨J, Step.refl S, by simp [RepCs], rfl, hl⟩
  | v :: r, c', ups, org, cs, J, h, S, hl, hh, hv => by
    rw [pureVs] at hh
    obtain ⟨⟨v1, u1, o1⟩, hp, h1⟩ := ub hh
    obtain ⟨⟨r2, u2, o2⟩, hq, h2⟩ := ub h1
    simp at h2
    obtain ⟨rfl, rfl, rfl⟩ := h2
    rw [Reps] at hv
    obtain ⟨u, us, rfl, hv1, hv2⟩ := hv
    obtain ⟨J1, A, hA, hl1⟩ := pureV_sound S hl hp hv1
    obtain ⟨J2, B, hB, hlen, hl2⟩ := pureVs_sound A.sim hl1 hq (Reps.ext A.ext hv2)
    refine ⟨J2, by rw [applyUps_append]; exact A.trans B (fun _ _ _ _ => Nat.le_refl _), ?_, by simp [hlen], by rw [applyUps_append]; exact hl2⟩
    have mono : ∀ {a b : Bool} (k : Nat), J2 a k → J2 (a || b) k := fun {a b} k hk => by
      cases a
      · cases b
        · exact hk
        · exact B.sim.jft k hk
      · exact hk
    have mono' : ∀ {a b : Bool} (k : Nat), J2 b k → J2 (a || b) k := fun {a b} k hk => by rw [Bool.or_comm]; exact mono k hk
    rw [RepCs]
    refine ⟨⟨u, by simp, ?_⟩, ?_⟩
    · exact RepC.keep (J := J1 o1) (fun k hk => mono k (B.ext.jsub _ k hk)) (fun _ _ => rfl) hA
    · have := RepCs.keep (J' := J2 (o1 || o2)) (w' := w) (fun k hk => mono' k hk) (fun _ _ => rfl) (rd' := fun j => us[j]?) (fun _ => rfl) hB
      rw [RepCs_iff] at this ⊢
      intro j x hj
      have h3 := this j x hj
      simp only [Nat.zero_add] at h3
      rw [show 1 + j = j + 1 by omega]
      simpa using h3

theorem pureCells_sound {v : AV} {c' : List AV} {ups : Ups} {org : Bool} {vc : Value} (S : SimH J β h w) (hl : LooksS g h) (hh : pureCells g v = some (c', ups, org)) (hv : Rep J β h w v vc) :
    ∃ J', Step J β h w J' β (applyUps ups h) w ∧ RepCs (J' org) w c' (fun j => vc.cells.toList[j]?) 0 ∧ c'.length = vc.cells.toList.length ∧ LooksS g (applyUps ups h) := by
  unfold pureCells at hh
  split at hh
  · rename_i c org'
    simp at hh; obtain ⟨rfl, rfl, rfl⟩ := hh
    rw [Rep] at hv
    obtain ⟨cs, rfl, h1, h2⟩ := hv
    exact ⟨J, Step.refl S, h2, by simp [Value.cells, h1], hl⟩
  · rename_i c
    rw [Rep] at hv
    obtain ⟨cs, rfl, h2⟩ := hv
    exact pureVs_sound S hl hh h2
  · rename_i v h1 h2
    obtain ⟨J', A, hA, hlen, hl'⟩ := pureVs_sound (cs := [vc]) S hl hh (by rw [Reps]; exact ⟨vc, [], rfl, hv, by rw [Reps]⟩)
    have h3 : vc.oneCell' = true := by
      have hl1 : c'.length = 1 := hlen
      cases hc : c' with
      | nil => simp [hc] at hl1
      | cons x r =>
        obtain ⟨u, hu, hr⟩ := hA.at (j := 0) (x := x) (by simp [hc])
        simp at hu; subst hu
        exact RepC_one hr
    have h4 : vc.cells = #[vc] := by cases vc <;> simp_all [Value.cells, Value.oneCell']
    rw [h4]
    exact ⟨J', A, hA, hlen, hl'⟩
end
end Gx
