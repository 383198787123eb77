/- A part of the proof: what it holds is said at each theorem. -/
import Derived.Test.YtfoogjjibhfjgaaGxL
import Derived.Laws.Tables
set_option linter.unusedVariables false
namespace Gx
open Go

/-- Two lists of cells, one for one. -/
def LRel (CR : AV → Value → Prop) (c : List AV) (cs : List Value) : Prop := c.length = cs.length ∧ ∀ (j : Nat) (x : AV) (u : Value), c[j]? = some x → cs[j]? = some u → CR x u
def PartsRel (CR : AV → Value → Prop) : List (Nat × List AV) → List (Nat × Value) → Prop
  | [], vs => vs = []
  | (i, c) :: r, vs => ∃ v vs', vs = (i, v) :: vs' ∧ LRel CR c v.cells.toList ∧ PartsRel CR r vs'

theorem foldset : ∀ (vs : List Value) (n off : Nat) (cells : Array Value) (j : Nat),
    ((vs.zipIdx n).foldl (fun (cs : Array Value) (p : Value × Nat) => cs.setIfInBounds (off + p.2) p.1) cells)[j]? = if off + n ≤ j ∧ j < off + n + vs.length ∧ j < cells.size then vs[j - (off + n)]? else cells[j]?
  | [], n, off, cells, j => by simp; omega
  | v :: r, n, off, cells, j => by
    rw [List.zipIdx_cons, List.foldl_cons, foldset r (n + 1) off]
    simp only [Array.size_setIfInBounds, List.length_cons]
    by_cases h1 : j = off + n
    · subst h1
      rw [if_neg (by omega)]
      by_cases h2 : off + n < cells.size
      · rw [if_pos (by omega)]; simp [h2]
      · rw [if_neg (by omega)]; simp [h2]
    · by_cases h2 : off + (n + 1) ≤ j ∧ j < off + (n + 1) + r.length ∧ j < cells.size
      · rw [if_pos h2, if_pos (by omega), show j - (off + n) = (j - (off + (n + 1))) + 1 by omega]; simp
      · rw [if_neg h2, if_neg (by omega), Array.getElem?_setIfInBounds_ne (by omega)]
theorem foldset_size : ∀ (vs : List Value) (n off : Nat) (cells : Array Value), ((vs.zipIdx n).foldl (fun (cs : Array Value) (p : Value × Nat) => cs.setIfInBounds (off + p.2) p.1) cells).size = cells.size
  | [], _, _, _ => rfl
  | v :: r, n, off, cells => by rw [List.zipIdx_cons, List.foldl_cons, foldset_size r]; simp

theorem fill_rel {CR : AV → Value → Prop} {place : Nat → Option (Nat × Nat)} : ∀ {parts : List (Nat × List AV)} {vparts : List (Nat × Value)} {c c' : List AV} {cs : Array Value}, PartsRel CR parts vparts → LRel CR c cs.toList →
    fillC place parts c = some c' → ∃ cs', Instr.fill place cs vparts = some cs' ∧ LRel CR c' cs'.toList
  | [], vparts, c, c', cs, hp, hc, hf => by
    rw [PartsRel] at hp; subst hp
    simp [fillC] at hf; subst hf
    exact ⟨cs, rfl, hc⟩
  | (i, vs) :: r, vparts, c, c', cs, hp, hc, hf => by
    rw [PartsRel] at hp
    obtain ⟨v, vs', rfl, hv, hr⟩ := hp
    rw [fillC] at hf
    obtain ⟨p, hpl, h1⟩ := ub hf
    obtain ⟨hb, h2⟩ := uc h1
    simp at hb
    obtain ⟨b1, b2⟩ := hb
    have e1 : vs.length = v.cells.size := by have := hv.1; simpa using this
    have e2 : c.length = cs.size := by have := hc.1; simpa using this
    have hle : p.1 + vs.length ≤ c.length := by omega
    have key : LRel CR (setCells c p.1 vs) (v.cells.zipIdx.foldl (fun (cs : Array Value) (q : Value × Nat) => cs.setIfInBounds (p.1 + q.2) q.1) cs).toList := by
      have hfold : v.cells.zipIdx.foldl (fun (cs : Array Value) (q : Value × Nat) => cs.setIfInBounds (p.1 + q.2) q.1) cs = (v.cells.toList.zipIdx 0).foldl (fun (cs : Array Value) (q : Value × Nat) => cs.setIfInBounds (p.1 + q.2) q.1) cs := by
        rw [← Array.foldl_toList]; simp
      rw [hfold]
      refine ⟨by rw [setCells_length hle, e2]; exact (foldset_size _ 0 _ _).symm, fun j x u hx hu => ?_⟩
      rw [setCells_get hle] at hx
      rw [Array.getElem?_toList, foldset] at hu
      simp only [Nat.add_zero, Array.length_toList] at hu
      split at hx
      · rename_i hj
        rw [if_pos (by omega)] at hu
        exact hv.2 _ x u hx hu
      · rename_i hj
        rw [if_neg (by omega)] at hu
        exact hc.2 j x u hx (by simpa using hu)
    obtain ⟨cs', g1, g2⟩ := fill_rel hr key h2
    refine ⟨cs', ?_, g2⟩
    rw [Instr.fill, hpl]
    have : ¬ (v.cells.size ≠ p.2 || p.1 + v.cells.size > cs.size) = true := by simp; omega
    simp only [this]
    exact g1

section
variable {R : Type} {r : R} {P : Program} {J J' : Bool → Nat → Prop} {β : Beta} {h : Heap} {w w' : World} {g : Look}

def RepParts (J : Bool → Nat → Prop) (β : Beta) (h : Heap) (w : World) : List (Nat × AV) → List (Nat × Value) → Prop
  | [], vs => vs = []
  | (i, x) :: r, vs => ∃ v vs', vs = (i, v) :: vs' ∧ Rep J β h w x v ∧ RepParts J β h w r vs'

theorem RepParts.ext {β' : Beta} {h' : Heap} (E : Ext J β h w J' β' h' w') : ∀ {ps : List (Nat × AV)} {vs : List (Nat × Value)}, RepParts J β h w ps vs → RepParts J' β' h' w' ps vs
  | [], _, hr => hr
  | (i, x) :: r, vs, hr => by
    rw [RepParts] at hr ⊢
    obtain ⟨v, vs', e, h1, h2⟩ := hr
    exact ⟨v, vs', e, Rep.ext E h1, RepParts.ext E h2⟩

theorem PartsRel.mono {CR CR' : AV → Value → Prop} (hm : ∀ x u, CR x u → CR' x u) : ∀ {ps : List (Nat × List AV)} {vs : List (Nat × Value)}, PartsRel CR ps vs → PartsRel CR' ps vs
  | [], _, hr => hr
  | (i, c) :: r, vs, hr => by
    rw [PartsRel] at hr ⊢
    obtain ⟨v, vs', e, h1, h2⟩ := hr
    exact ⟨v, vs', e, ⟨h1.1, fun j x u hx hu => hm _ _ (h1.2 j x u hx hu)⟩, PartsRel.mono hm h2⟩

theorem LRel_of_RepCs {J : Nat → Prop} {c : List AV} {us : List Value} (hc : RepCs J w c (fun j => us[j]?) 0) (hl : c.length = us.length) : LRel (RepC J w) c us :=
  ⟨hl, fun j x u hx hu => by
    obtain ⟨u', hu', hr⟩ := hc.at hx
    rw [hu] at hu'; simp at hu'; subst hu'; exact hr⟩
theorem RepCs_of_LRel {J : Nat → Prop} {c : List AV} {us : List Value} (hc : LRel (RepC J w) c us) : RepCs J w c (fun j => us[j]?) 0 := by
  rw [RepCs_iff]
  intro j x hx
  have : j < us.length := by rw [← hc.1]; exact (List.getElem?_eq_some_iff.1 hx).1
  exact ⟨us[j], by simp [this], hc.2 j x _ hx (List.getElem?_eq_getElem this)⟩

theorem partsPure_sound : ∀ {ps : List (Nat × AV)} {vs : List (Nat × Value)} {q : List (Nat × List AV)} {ups : Ups} {org : Bool} {J : Bool → Nat → Prop} {h : Heap}, SimH J β h w → LooksS g h → partsPure g ps = some (q, ups, org) → RepParts J β h w ps vs →
    ∃ J', Step J β h w J' β (applyUps ups h) w ∧ PartsRel (RepC (J' org) w) q vs ∧ LooksS g (applyUps ups h) ∧ ∀ b, inUps ups b = true → ∃ x, g b = some x
  | [], vs, q, ups, org, J, h, S, hl, hh, hv => by
    simp [partsPure] at hh; obtain ⟨rfl, rfl, rfl⟩ := hh
    rw [RepParts] at hv
    exact ⟨J, Step.refl S, by rw [PartsRel]; exact hv, hl, fun b hb => by simp [inUps] at hb⟩
  | (i, x) :: r, vs, q, ups, org, J, h, S, hl, hh, hv => by
    rw [partsPure] at hh
    obtain ⟨⟨c1, u1, o1⟩, hp, h1⟩ := ub hh
    obtain ⟨⟨q2, u2, o2⟩, hq, h2⟩ := ub h1
    simp at h2
    obtain ⟨rfl, rfl, rfl⟩ := h2
    rw [RepParts] at hv
    obtain ⟨v, vs', rfl, hv1, hv2⟩ := hv
    obtain ⟨J1, A, hA, hlen, hl1⟩ := pureCells_sound S hl hp hv1
    obtain ⟨J2, B, hB, hl2, hu2⟩ := partsPure_sound A.sim hl1 hq (RepParts.ext A.ext hv2)
    refine ⟨J2, by rw [applyUps_append]; exact A.trans B (fun _ _ _ _ => Nat.le_refl _), ?_, by rw [applyUps_append]; exact hl2, fun b hb => ?_⟩
    · rw [PartsRel]
      refine ⟨v, vs', rfl, LRel_of_RepCs (RepCs.keep (J := J1 o1) (w := w) (fun k hk => mono_or B.sim.jft _ _ k (B.ext.jsub _ k hk)) (fun _ _ => rfl) (fun _ => rfl) hA) hlen, ?_⟩
      exact PartsRel.mono (fun x u hx => RepC.keep (J := J2 o2) (w := w) (fun k hk => mono_or' B.sim.jft _ _ k hk) (fun _ _ => rfl) hx) hB
    · rw [inUps_append] at hb
      cases h3 : inUps u1 b with
      | true => exact pureCells_ups hp b h3
      | false => rw [h3] at hb; exact hu2 b (by simpa using hb)

theorem abuildSlice_sound {d len : Nat} {t : TypeId} {ps : List (Nat × AV)} {vs : List (Nat × Value)} {k : AV → Ups → Option R} (S : SimH J β h w) (hl : Looks g h) (hh : abuildSlice P g d t len ps k = some r) (hv : RepParts J β h w ps vs) :
    ∃ val ups, k val ups = some r ∧ (UpsFree d h ups → ∃ u w', (Instr.buildSlice t len vs.toArray).run P w = .ok u w' ∧ OpDone J β h w ups val u w') := by
  unfold abuildSlice at hh
  split at hh
  · rename_i el hu
    obtain ⟨sz, hsz, h1⟩ := ub hh
    obtain ⟨zz, hz, h2⟩ := ub h1
    obtain ⟨⟨q, u1, o1⟩, hq, h3⟩ := ub h2
    obtain ⟨hb, h4⟩ := uc h3
    obtain ⟨cells, hc, h5⟩ := ub h4
    simp at hb
    obtain ⟨i, z, hi, hiz, rfl, hp, e1, e2⟩ := zeroT_some hz
    have hs' : i.size = sz := by simp [sizeT, hi] at hsz; exact hsz
    refine ⟨_, _, h5, fun hn => ?_⟩
    replace hn := hn.nid (by simp [inUps_append, fresh, inUps])
    obtain ⟨J1, A, hA, _, hups⟩ := partsPure_sound S hl.s hq hv
    have hz0 := zero_cells (w := w) (J := J1 o1) hp len (len * sz) (by rw [e1, hs']; exact Nat.le_refl _)
    have hz1 : LRel (RepC (J1 o1) w) (repCells len (ofVs z.cells.toList)) (madeCells z.cells (len * sz)).toList := by
      refine LRel_of_RepCs (RepCs.keep (J := J1 o1) (w := w) (fun _ hk => hk) (fun _ _ => rfl) (fun j => by simp) hz0) ?_
      rw [repCells_length, e2, hs', Array.length_toList, size_madeCells]
    obtain ⟨cs', f1, f2⟩ := fill_rel hA hz1 hc
    have hlen : cells.length = len * sz := by
      have : ∀ {ps : List (Nat × List AV)} {c c' : List AV}, fillC (fun i => some (i * sz, sz)) ps c = some c' → c'.length = c.length := by
        intro ps
        induction ps with
        | nil => intro c c' hf; simp [fillC] at hf; rw [hf]
        | cons p r ih =>
          intro c c' hf
          obtain ⟨i, vs⟩ := p
          rw [fillC] at hf
          obtain ⟨p, hpl, g1⟩ := ub hf
          obtain ⟨gb, g2⟩ := uc g1
          simp at gb
          rw [ih g2, setCells_length (by omega)]
      rw [this hc, repCells_length, e2, hs']
    have hcs : cs'.size = len * sz := by have := f2.1; simp at this; omega
    refine ⟨.slice (some ⟨w.heap.size, 0, none⟩) len len, w.alloc (.cells cs' el), ?_, ?_⟩
    · have f1' : Instr.fill (fun i => some (i * sz, sz)) ((Array.range (len * sz)).map (z.cells[· % z.cells.size]!)) vs = some cs' := f1
      have hnb : ¬ (16777216 < len * sz) := by omega
      by_cases h0 : len * sz = 0
      · have hme : ∀ (a : Array Value), (Array.range (len * sz)).map (a[· % a.size]!) = #[] := fun a => by rw [h0]; simp [Array.range_zero']
        rw [hme] at f1'
        simp [Instr.buildSlice, run_underlying hu, sizeT_run hsz, h0, Array.range_zero', f1', newRow]
      · simp [Instr.buildSlice, run_underlying hu, sizeT_run hsz, hnb, h0, zeroValue, typeInfo, hi, hiz, f1', newRow]
    · refine OpDone.after A (row_new (sz := sz) (fr := (0, 0)) A.sim (ups_new hl hups hn) rfl rfl rfl (.inl rfl) hlen (by omega) (Nat.le_refl _) ⟨fun _ => ?_, fun hp => by simp at hp⟩) (size_alloc _ _)
      have := RepCs_of_LRel f2
      exact RepCs.keep (J := J1 o1) (w := w) (fun _ hk => hk) (fun _ _ => rfl) (fun j => by simp) this
  · simp at hh

theorem cellsOf_rel {x : AV} {v : Value} (hv : Rep J β h w x v) (hp : isPagg x = false) (ho : okPart x = true) : LRel (Rep J β h w) (cellsOf x) v.cells.toList := by
  have one : v.cells = #[v] → cellsOf x = [x] → LRel (Rep J β h w) (cellsOf x) v.cells.toList := fun h1 h2 => by
    rw [h1, h2]
    refine ⟨rfl, fun j y u hy hu => ?_⟩
    cases j with
    | zero => simp at hy hu; subst hy hu; exact hv
    | succ j => simp at hy
  cases x
  case pagg => simp [isPagg] at hp
  case agg c =>
    rw [Rep] at hv
    obtain ⟨cs, rfl, h2⟩ := hv
    rw [Reps_iff] at h2
    exact ⟨h2.1.symm, h2.2⟩
  case tup c => simp [okPart] at ho
  case undef => simp [okPart] at ho
  case own => rw [Rep] at hv; obtain ⟨_, A, cap, _, rfl, _⟩ := hv; exact one rfl rfl
  case optr => rw [Rep] at hv; obtain ⟨_, kk, o, _, rfl, _⟩ := hv; exact one rfl rfl
  case fn => rw [Rep] at hv; obtain ⟨cs, rfl, _⟩ := hv; exact one rfl rfl
  case imm => rw [Rep, RepC] at hv; obtain ⟨_, A, cap, rfl, _⟩ := hv; exact one rfl rfl
  case iptr => rw [Rep, RepC] at hv; obtain ⟨a, rfl, _⟩ := hv; exact one rfl rfl
  all_goals (rw [Rep] at hv; subst hv; exact one rfl rfl)

theorem rep1_pure {x : AV} {v : Value} (hj : ∀ k, J false k → J true k) (hv : Rep J β h w x v) (hr : isRef1 x = false) {o : Bool} (ho : orgOf1 x = true → o = true) : RepC (J o) w x v := by
  cases x <;> simp [isRef1] at hr
  case imm c n sz t org =>
    rw [Rep] at hv
    refine RepC.keep (J := J org) (w := w) (fun k hk => ?_) (fun _ _ => rfl) hv
    cases org
    · cases o
      · exact hk
      · exact hj k hk
    · rw [ho rfl]; exact hk
  case iptr c org =>
    rw [Rep] at hv
    refine RepC.keep (J := J org) (w := w) (fun k hk => ?_) (fun _ _ => rfl) hv
    cases org
    · cases o
      · exact hk
      · exact hj k hk
    · rw [ho rfl]; exact hk
  all_goals (rw [Rep] at hv; rw [RepC]; exact hv)

theorem cellsOf_pure {x : AV} {v : Value} (hj : ∀ k, J false k → J true k) (hv : Rep J β h w x v) (hr : isRef x = false) {o : Bool} (ho : orgOf x = true → o = true) : LRel (RepC (J o) w) (cellsOf x) v.cells.toList := by
  have one : isRef1 x = false → cellsOf x = [x] → orgOf x = orgOf1 x → LRel (RepC (J o) w) (cellsOf x) v.cells.toList := fun h0 h2 h3 => by
    have hc := rep1_pure (o := o) hj hv h0 (by rw [← h3]; exact ho)
    have h1 : v.cells = #[v] := by have := RepC_one hc; cases v <;> simp_all [Value.cells, Value.oneCell']
    rw [h1, h2]
    refine ⟨rfl, fun j y u hy hu => ?_⟩
    cases j with
    | zero => simp at hy hu; subst hy hu; exact hc
    | succ j => simp at hy
  cases x
  case pagg c org =>
    rw [Rep] at hv
    obtain ⟨cs, rfl, h1, h2⟩ := hv
    refine LRel_of_RepCs (RepCs.keep (J := J org) (w := w) (fun k hk => ?_) (fun _ _ => rfl) (fun j => by simp [Value.cells]) h2) (by simp [Value.cells, cellsOf, h1])
    cases org
    · cases o
      · exact hk
      · exact hj k hk
    · rw [ho rfl]; exact hk
  case agg c =>
    rw [Rep] at hv
    obtain ⟨cs, rfl, h2⟩ := hv
    rw [Reps_iff] at h2
    refine ⟨h2.1.symm, fun j y u hy hu => ?_⟩
    simp only [isRef, List.any_eq_false] at hr
    have hm : y ∈ c := List.mem_of_getElem? hy
    have hry : isRef1 y = false := by simpa using hr y hm
    refine rep1_pure hj (h2.2 j y u hy hu) hry (fun h3 => ho ?_)
    rw [orgOf, List.any_eq_true]; exact ⟨y, hm, h3⟩
  all_goals first | exact one hr rfl rfl | simp [isRef, isRef1] at hr

theorem cellParts_rel {CR : AV → Value → Prop} : ∀ {ps : List (Nat × AV)} {vs : List (Nat × Value)}, RepParts J β h w ps vs → (∀ p ∈ ps, ∀ v, Rep J β h w p.2 v → LRel CR (cellsOf p.2) v.cells.toList) → PartsRel CR (cellParts ps) vs
  | [], vs, hr, _ => by rw [RepParts] at hr; rw [cellParts, PartsRel]; exact hr
  | (i, x) :: r, vs, hr, hp => by
    rw [RepParts] at hr
    obtain ⟨v, vs', rfl, h1, h2⟩ := hr
    rw [cellParts, PartsRel]
    exact ⟨v, vs', rfl, hp (i, x) (by simp) v h1, cellParts_rel h2 (fun p hm => hp p (by simp [hm]))⟩

theorem built_of {t : TypeId} {place : Nat → Option (Nat × Nat)} {i : TypeInfo} {z : Value} {vs : List (Nat × Value)} {cs : Array Value} (hp : placesOf P t = some place) (hi : P.info? t = some i) (hz : i.zero = some z)
    (hf : Instr.fill place z.cells vs = some cs) : P.built t vs = some cs := by
  unfold placesOf at hp
  unfold Program.built
  split at hp
  · rename_i n e hu
    cases he : P.info? e with
    | none => simp [he] at hp
    | some ie => simp [he] at hp; subst hp; simp only [hi, hu, hz, he]; exact hf
  · rename_i fs hu
    cases he : fs.toList.mapM fun f => (P.info? f.type).map fun i => (f.offset, i.size) with
    | none => rw [he] at hp; simp at hp
    | some pl =>
      rw [he] at hp; simp at hp; subst hp
      simp only [hi, hu, hz, he]
      simpa using hf
  · simp at hp

theorem abuild_sound {t : TypeId} {ps : List (Nat × AV)} {vs : List (Nat × Value)} {v : AV} (S : SimH J β h w) (hh : abuild P t ps = some v) (hv : RepParts J β h w ps vs) :
    ∃ u, (Instr.build t vs.toArray).run P w = .ok u w ∧ Rep J β h w v u := by
  unfold abuild at hh
  obtain ⟨place, hpl, h1⟩ := ub hh
  obtain ⟨hok, h2⟩ := uc h1
  cases hpg : ps.any (fun p => isPagg p.2) with
  | true =>
    rw [hpg] at h2
    obtain ⟨hnr, h3⟩ := uc' h2
    obtain ⟨zz, hz, h4⟩ := ub h3
    obtain ⟨i, z, hi, hiz, rfl, hp, e1, e2⟩ := zeroT_some hz
    cases hf : fillC place (cellParts ps) (ofVs z.cells.toList) with
    | none => rw [hf] at h4; simp at h4
    | some c =>
      rw [hf] at h4; simp at h4; subst h4
      have hparts : PartsRel (RepC (J (ps.any fun p => orgOf p.2)) w) (cellParts ps) vs := cellParts_rel hv (fun p hm u hu => cellsOf_pure S.jft hu (by
          have := List.any_eq_false.1 hnr p hm; simpa using this) (fun ho => by rw [List.any_eq_true]; exact ⟨p, hm, ho⟩))
      have hzc : LRel (RepC (J (ps.any fun p => orgOf p.2)) w) (ofVs z.cells.toList) z.cells.toList := by
        refine ⟨ofVs_length _, fun j x u hx hu => ?_⟩
        obtain ⟨y, g1, g2⟩ := plainZ_rep (w := w) (J := J (ps.any fun p => orgOf p.2)) hp j u hu
        rw [hx] at g1; simp at g1; subst g1; exact g2
      obtain ⟨cs, f1, f2⟩ := fill_rel hparts hzc hf
      refine ⟨.agg cs, run_build w t vs.toArray cs (built_of hpl hi hiz (by simpa using f1)), ?_⟩
      rw [Rep]
      exact ⟨cs.toList, rfl, f2.1.symm, RepCs_of_LRel f2⟩
  | false =>
    rw [hpg] at h2
    obtain ⟨zz, hz, h4⟩ := ub h2
    unfold zeroC at hz
    obtain ⟨i, hi, hz⟩ := ub hz
    cases hiz : i.zero with
    | none => rw [hiz] at hz; simp at hz
    | some z =>
      rw [hiz] at hz; simp at hz; subst hz
      cases hf : fillC place (cellParts ps) (ofVs z.cells.toList) with
      | none => rw [hf] at h4; simp at h4
      | some c =>
        rw [hf] at h4; simp at h4; subst h4
        have hparts : PartsRel (Rep J β h w) (cellParts ps) vs := cellParts_rel hv (fun p hm u hu => cellsOf_rel hu (by
            have := List.any_eq_false.1 hpg p hm; simpa using this) (List.all_eq_true.1 hok p hm))
        have hzc : LRel (Rep J β h w) (ofVs z.cells.toList) z.cells.toList := by
          have := reps_ofVs (J := J) (β := β) (h := h) (w := w) z.cells.toList
          rw [Reps_iff] at this
          exact ⟨this.1.symm, this.2⟩
        obtain ⟨cs, f1, f2⟩ := fill_rel hparts hzc hf
        refine ⟨.agg cs, run_build w t vs.toArray cs (built_of hpl hi hiz (by simpa using f1)), ?_⟩
        rw [Rep]
        exact ⟨cs.toList, rfl, Reps_iff.2 ⟨f2.1.symm, f2.2⟩⟩
end
end Gx
