/- A part of the proof: what it holds is said at each theorem. -/
import Derived.Test.YtfoogjjibhfjgaaGxI
import Derived.Laws.IdiomStrings
set_option linter.unusedVariables false
namespace Gx
open Go
section
variable {R : Type} {r : R} {P : Program} {J J' : Bool → Nat → Prop} {β : Beta} {h : Heap} {w w' : World} {g : Look}

theorem pureV_ups {v v' : AV} {ups : Ups} {org : Bool} (hh : pureV g v = some (v', ups, org)) (b : Nat) (hb : inUps ups b = true) : ∃ x, g b = some x := by
  unfold pureV at hh
  split at hh
  · rename_i b' off n
    obtain ⟨x, hx, h1⟩ := ub hh
    obtain ⟨hp, h2⟩ := uc h1
    simp at h2
    obtain ⟨rfl, rfl, rfl⟩ := h2
    unfold vblk at hx
    obtain ⟨x0, hx0, hx⟩ := ub hx
    have : b' = b := by
      cases e : Nat.beq b' b with
      | true => exact Nat.eq_of_beq_eq_true e
      | false => simp [inUps, e] at hb
    subst this; exact ⟨x0, hx0⟩
  all_goals first
    | (simp at hh; done)
    | (simp at hh; obtain ⟨rfl, rfl, rfl⟩ := hh; simp [inUps] at hb)

theorem inUps_append : ∀ (a b : Ups) (c : Nat), inUps (a ++ b) c = (inUps a c || inUps b c)
  | [], _, _ => by simp [inUps]
  | (i, _) :: r, b, c => by
    rw [List.cons_append, inUps, inUps, inUps_append r b c]
    cases Nat.beq i c <;> simp

theorem pureVs_ups : ∀ {c c' : List AV} {ups : Ups} {org : Bool}, pureVs g c = some (c', ups, org) → ∀ b, inUps ups b = true → ∃ x, g b = some x
  | [], c', ups, org, hh, b, hb => by simp [pureVs] at hh; obtain ⟨rfl, rfl, rfl⟩ := hh; simp [inUps] at hb
  | v :: r, c', ups, org, hh, b, hb => by
    rw [pureVs] at hh
    obtain ⟨⟨v1, u1, o1⟩, hp, h1⟩ := ub hh
    obtain ⟨⟨r2, u2, o2⟩, hq, h2⟩ := ub h1
    simp at h2
    obtain ⟨rfl, rfl, rfl⟩ := h2
    rw [inUps_append] at hb
    cases h3 : inUps u1 b with
    | true => exact pureV_ups hp b h3
    | false => rw [h3] at hb; exact pureVs_ups hq b (by simpa using hb)

theorem pureCells_ups {v : AV} {c' : List AV} {ups : Ups} {org : Bool} (hh : pureCells g v = some (c', ups, org)) (b : Nat) (hb : inUps ups b = true) : ∃ x, g b = some x := by
  unfold pureCells at hh
  split at hh
  · simp at hh; obtain ⟨rfl, rfl, rfl⟩ := hh; simp [inUps] at hb
  · exact pureVs_ups hh b hb
  · exact pureVs_ups hh b hb

theorem ups_new {ups : Ups} {d : Nat} (hl : Looks g h) (hu : ∀ b, inUps ups b = true → ∃ x, g b = some x) (hn : hget h (nid d) = none) : hget (applyUps ups h) (nid d) = none := by
  rw [applyUps_other]
  · exact hn
  · cases hb : inUps ups (nid d) with
    | false => rfl
    | true =>
      obtain ⟨x, hx⟩ := hu _ hb
      rw [hl _ _ hx] at hn; cases hn

/-- What an operation that makes or changes blocks leaves. -/
def OpDone (J : Bool → Nat → Prop) (β : Beta) (h : Heap) (w : World) (ups : Ups) (val : AV) (vc : Value) (w' : World) : Prop :=
  ∃ J' β', Step J β h w J' β' (applyUps ups h) w' ∧ Rep J' β' (applyUps ups h) w' val vc

/-- What is new is not there yet. -/
def UpsFree (d : Nat) (h : Heap) (ups : Ups) : Prop := ∀ b, inUps ups b = true → isNew d b = true → hget h b = none
theorem UpsFree.nid {d : Nat} {h : Heap} {ups : Ups} (hf : UpsFree d h ups) (hi : inUps ups (nid d) = true) : hget h (nid d) = none := hf _ hi (by
  have h1 : Nat.ble (Gx.nid d) (Gx.nid d) = true := by simp
  have h2 : Nat.blt (Gx.nid d) (Gx.nid d + 16) = true := by simp
  rw [isNew, h1, h2]; rfl)

theorem box_new {d : Nat} {x : Blk} {cs : Array Value} {ty : TypeId} (S : SimH J β h w) (hn : hget h (nid d) = none) (hd : x.dead = false) (hs : x.sealed = false) (hlen : x.cells.length ≤ cs.size) (hc : CellsRep J β h w x (fun j => cs[j]?)) :
    OpDone J β h w [(nid d, some x)] (.optr (nid d) 0) (.pointer (some ⟨w.heap.size, 0, none⟩)) (w.alloc (.cells cs ty)) := by
  have A := Step.new (ty := ty) (fr := (0, 0)) S hn hd hs (.inl rfl) hlen hc
  refine ⟨_, _, A, ?_⟩
  rw [Rep]
  exact ⟨x, w.heap.size, 0, by simp [applyUps, hget_hput], rfl, .inr (by simp)⟩

theorem OpDone.after {ups ups' : Ups} {val : AV} {vc : Value} {J1 : Bool → Nat → Prop} {β1 : Beta} {w1 : World} (A : Step J β h w J1 β1 (applyUps ups h) w1) (B : OpDone J1 β1 (applyUps ups h) w1 ups' val vc w')
    (hs : ∀ k, blkSize w k ≤ blkSize w' k) : OpDone J β h w (ups ++ ups') val vc w' := by
  obtain ⟨J2, β2, B1, B2⟩ := B
  exact ⟨J2, β2, by rw [applyUps_append]; exact A.trans B1 (fun _ k _ _ => hs k), by rw [applyUps_append]; exact B2⟩

theorem size_alloc (w : World) (o : Obj) : ∀ k, blkSize w k ≤ blkSize (w.alloc o) k := fun k => by
  by_cases hk : k < w.heap.size
  · simp [blkSize, heap_alloc_lt w _ hk]
  · simp [blkSize, Array.getElem?_eq_none (Nat.le_of_not_lt hk)]

theorem run_box {t : TypeId} {vc : Value} : (Instr.box t vc).run P w = .ok (.pointer (some ⟨w.heap.size, 0, none⟩)) (w.alloc (.cells vc.cells t)) := by
  simp [Instr.box, newVar, newRow]

theorem abox_sound {d : Nat} {t : TypeId} {v : AV} {vv : Value} {k : AV → Ups → Option R} (S : SimH J β h w) (hl : Looks g h) (hh : abox P g d t v k = some r) (hv : Rep J β h w v vv) :
    ∃ val ups, k val ups = some r ∧ (UpsFree d h ups → ∃ vc w', (Instr.box t vv).run P w = .ok vc w' ∧ OpDone J β h w ups val vc w') := by
  unfold abox at hh
  split at hh
  · rename_i c org
    refine ⟨_, _, hh, fun hn => ⟨_, _, run_box, ?_⟩⟩
    replace hn := hn.nid (by simp [inUps_append, fresh, inUps])
    rw [Rep] at hv
    obtain ⟨cs, rfl, h1, h2⟩ := hv
    exact box_new S hn rfl rfl (by simp [Value.cells, h1]) ⟨fun _ => by simpa [Value.cells] using h2, fun hp => by simp at hp⟩
  · rename_i c
    cases hp : ptrsT P t with
    | true =>
      rw [hp] at hh
      obtain ⟨hst, hh⟩ := uc hh
      refine ⟨_, _, hh, fun hn => ⟨_, _, run_box, ?_⟩⟩
      replace hn := hn.nid (by simp [inUps_append, fresh, inUps])
      rw [Rep] at hv
      obtain ⟨cs, rfl, h2⟩ := hv
      rw [Reps_iff] at h2
      refine box_new S hn rfl rfl (by simp [Value.cells, h2.1]) ⟨fun hp => by simp at hp, fun _ j y hj => ?_⟩
      have hlt : j < cs.length := by rw [h2.1]; exact (List.getElem?_eq_some_iff.1 hj).1
      exact ⟨cs[j], by simp [Value.cells, hlt], h2.2 j y _ hj (List.getElem?_eq_getElem hlt), storable_one (storables_at hst j y hj) (h2.2 j y _ hj (List.getElem?_eq_getElem hlt))⟩
    | false =>
      rw [hp] at hh
      obtain ⟨⟨c', u1, o1⟩, hq, h1⟩ := ub hh
      refine ⟨_, _, h1, fun hn => ⟨_, _, run_box, ?_⟩⟩
      replace hn := hn.nid (by simp [inUps_append, fresh, inUps])
      rw [Rep] at hv
      obtain ⟨cs, rfl, h2⟩ := hv
      obtain ⟨J1, A, hA, hlen, _⟩ := pureVs_sound S hl.s hq h2
      refine OpDone.after A (box_new A.sim (ups_new hl (pureVs_ups hq) hn) rfl rfl (by simp [Value.cells, hlen]) ⟨fun _ => ?_, fun hp => by simp at hp⟩) (size_alloc _ _)
      simpa [Value.cells] using hA
  · rename_i v h1 h2
    obtain ⟨hst, hh⟩ := uc hh
    refine ⟨_, _, hh, fun hn => ⟨_, _, run_box, ?_⟩⟩
    replace hn := hn.nid (by simp [inUps_append, fresh, inUps])
    have ho := storable_one hst hv
    have hcells : vv.cells = #[vv] := by cases vv <;> simp_all [Value.cells, Value.oneCell']
    refine box_new S hn rfl rfl (by simp [hcells]) ⟨fun hp => by simp at hp, fun _ j y hj => ?_⟩
    cases j with
    | zero => simp at hj; subst hj; exact ⟨vv, by simp [hcells], hv, ho⟩
    | succ j => simp at hj
end
end Gx
