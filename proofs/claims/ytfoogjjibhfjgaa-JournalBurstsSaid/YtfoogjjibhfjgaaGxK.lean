/- A part of the proof: what it holds is said at each theorem. -/
import Derived.Test.YtfoogjjibhfjgaaGxJ
import Derived.Deep.Upon
set_option linter.unusedVariables false
namespace Gx
open Go

theorem repCells_get (z : List AV) : ∀ (l j : Nat), j < l * z.length → (repCells l z)[j]? = z[j % z.length]? := by
  have flat : ∀ (l j : Nat), j < l * z.length → ((List.replicate l z).flatten)[j]? = z[j % z.length]? := by
    intro l
    induction l with
    | zero => intro j hj; simp at hj
    | succ l ih =>
      intro j hj
      rw [List.replicate_succ, List.flatten_cons, List.getElem?_append]
      by_cases hlt : j < z.length
      · rw [if_pos hlt, Nat.mod_eq_of_lt hlt]
      · rw [if_neg hlt, ih _ (by rw [Nat.succ_mul] at hj; omega)]
        rw [Nat.mod_eq_sub_mod (a := j) (by omega)]
  intro l j hj
  unfold repCells
  split
  · rename_i v
    simp at hj
    simp [hj, Nat.mod_one]
  · exact flat l j hj
theorem repCells_length (l : Nat) (z : List AV) : (repCells l z).length = l * z.length := by
  unfold repCells
  split
  · simp
  · simp

section
variable {R : Type} {r : R} {P : Program} {J J' : Bool → Nat → Prop} {β : Beta} {h : Heap} {w w' : World} {g : Look}

theorem plainZ_rep {J : Nat → Prop} : ∀ {cs : List Value}, plainZ (ofVs cs) = true → ∀ (j : Nat) (u : Value), cs[j]? = some u → ∃ x, (ofVs cs)[j]? = some x ∧ RepC J w x u
  | [], _, j, u, hj => by simp at hj
  | v :: r, hp, j, u, hj => by
    have key : ∃ x, ofV v = x ∧ plainZ (ofVs r) = true ∧ RepC J w x v := by
      rw [ofVs] at hp
      have hr := rep_ofV (J := fun _ => J) (β := fun _ => none) (h := []) (w := w) v
      cases hx : ofV v <;> rw [hx] at hp hr <;> simp [plainZ] at hp <;> refine ⟨_, rfl, hp, ?_⟩ <;> (rw [Rep] at hr; rw [RepC]; exact hr)
    obtain ⟨x, hx, hp', hr⟩ := key
    cases j with
    | zero => simp at hj; subst hj; exact ⟨x, by simp [ofVs, hx], hr⟩
    | succ j =>
      obtain ⟨y, h1, h2⟩ := plainZ_rep (J := J) (cs := r) hp' j u (by simpa using hj)
      exact ⟨y, by simpa [ofVs] using h1, h2⟩

theorem ofVs_length : ∀ cs : List Value, (ofVs cs).length = cs.length
  | [] => rfl
  | v :: r => by simp [ofVs, ofVs_length r]

theorem zeroT_some {t : TypeId} {z : List AV} (hz : zeroT P t = some z) : ∃ i v, P.info? t = some i ∧ i.zero = some v ∧ z = ofVs v.cells.toList ∧ plainZ z = true ∧ v.cells.size = i.size ∧ z.length = i.size := by
  unfold zeroT at hz
  obtain ⟨i, hi, h1⟩ := ub hz
  obtain ⟨v, hv, h2⟩ := ub h1
  obtain ⟨hc, h3⟩ := uc h2
  simp at h3 hc
  subst h3
  exact ⟨i, v, hi, hv, rfl, hc.1, by simpa using hc.2, by rw [ofVs_length]; simpa using hc.2⟩

theorem zero_cells {J : Nat → Prop} {v : Value} (hp : plainZ (ofVs v.cells.toList) = true) (l n : Nat) (hl : l * v.cells.size ≤ n) :
    RepCs J w (repCells l (ofVs v.cells.toList)) (fun j => (madeCells v.cells n)[j]?) 0 := by
  rw [RepCs_iff]
  intro j x hj
  have hlen : (ofVs v.cells.toList).length = v.cells.size := by rw [ofVs_length]; simp
  have hlt : j < l * (ofVs v.cells.toList).length := by
    have := (List.getElem?_eq_some_iff.1 hj).1
    rwa [repCells_length] at this
  rw [repCells_get _ _ _ hlt] at hj
  rw [hlen] at hj hlt
  have hpos : 0 < v.cells.size := by
    rcases Nat.eq_zero_or_pos v.cells.size with h0 | h0
    · rw [h0] at hlt; simp at hlt
    · exact h0
  have hm : j % v.cells.size < v.cells.size := Nat.mod_lt _ hpos
  obtain ⟨y, h1, h2⟩ := plainZ_rep (w := w) (J := J) hp (j % v.cells.size) v.cells[j % v.cells.size] (by simp [hm])
  rw [hj] at h1; simp at h1; subst h1
  refine ⟨_, ?_, h2⟩
  have : j < n := by omega
  simp [madeCells, this, getElem!_pos, hm]

theorem row_new {d n cap sz : Nat} {x : Blk} {cs : Array Value} {ty : TypeId} {fr : Nat × Nat} (S : SimH J β h w) (hn : hget h (nid d) = none) (hd : x.dead = false) (hs : x.sealed = false) (hz : x.sz = sz)
    (hfr : FrOk cs.size fr) (hlen : x.cells.length = n * sz) (hcap : cap * sz ≤ cs.size) (hnc : n ≤ cap) (hc : CellsRep J β h w x (fun j => cs[j]?)) :
    OpDone J β h w [(nid d, some x)] (.own (nid d) 0 n) (.slice (some ⟨w.heap.size, 0, none⟩) n cap) (w.alloc (.cells cs ty fr)) := by
  have hle : n * sz ≤ cap * sz := Nat.mul_le_mul_right _ hnc
  have A := Step.new (ty := ty) (fr := fr) S hn hd hs hfr (by omega) hc
  refine ⟨_, _, A, ?_⟩
  rw [Rep]
  refine ⟨x, _, cap, by simp [applyUps, hget_hput], rfl, hnc, .inr ⟨w.heap.size, 0, rfl, .inr ⟨by simp, ?_, by rw [hz, hlen]; omega⟩⟩⟩
  have hnew : (w.alloc (.cells cs ty fr)).heap[w.heap.size]? = some (.cells cs ty fr) := by show (w.heap.push _)[_]? = _; simp
  rw [blkSize_of hnew, hz]; omega

theorem amake_sound {d : Nat} {t : TypeId} {l c : AV} {vl vc : Value} {k : AV → Ups → Option R} (S : SimH J β h w) (hh : amake P d t l c k = some r) (hl : Rep J β h w l vl) (hc : Rep J β h w c vc) :
    ∃ val ups, k val ups = some r ∧ (UpsFree d h ups → ∃ u w', (Instr.makeSlice t vl vc).run P w = .ok u w' ∧ OpDone J β h w ups val u w') := by
  unfold amake at hh
  split at hh
  · rename_i el l c hu
    obtain ⟨sz, hs, h1⟩ := ub hh
    obtain ⟨by_, hb, h2⟩ := ub h1
    obtain ⟨z, hz, h3⟩ := ub h2
    obtain ⟨hq, h4⟩ := uc h3
    simp at hq
    obtain ⟨q1, q2, q3, q4⟩ := hq
    rw [Rep] at hl hc; subst hl hc
    obtain ⟨i, v, hi, hv, rfl, hp, e1, e2⟩ := zeroT_some hz
    have hs' : i.size = sz := by simp [sizeT, hi] at hs; exact hs
    have hb' : i.bytes = by_ := by simp [bytesT, hi] at hb; exact hb
    have hfr : inUps (fresh d true false sz (repCells l.toNat (ofVs v.cells.toList))) (nid d) = true := by simp [fresh, inUps]
    refine ⟨_, _, h4, fun hn => ⟨_, _, run_make w t el i v hu hi hv _ _ l c q1 q2 (by rw [hb', Int.mul_comm]; omega) (by omega), ?_⟩⟩
    refine row_new (sz := sz) S (hn.nid hfr) rfl rfl rfl (.inl rfl) ?_ (by rw [size_madeCells, hs']; exact Nat.le_refl _) (by omega) ⟨fun _ => ?_, fun hp => by simp at hp⟩
    · show (repCells l.toNat (ofVs v.cells.toList)).length = _
      rw [repCells_length, e2, hs']
    · exact zero_cells hp _ _ (by rw [e1]; exact Nat.mul_le_mul_right _ (by omega))
  · simp at hh

theorem Yield.src {sz n : Nat} {tx : TypeId} {vx : Value} {us : List Value} (Y : Yield P w sz vx n us) (ht : isSrcT P tx = true) (ho : ∀ u ∈ us, u.oneCell' = true) : Src P sz tx vx n us w := by
  refine ⟨?_, Y.len, ?_, ?_, Y.length, ho⟩
  · unfold isSrcT at ht
    split at ht
    · rename_i e hu; exact .inl ⟨e, hu⟩
    · rename_i hu; exact .inr hu
    · simp at ht
  · have := Y.cells w n (fun _ => rfl) (Nat.le_refl _)
    rwa [← Y.length, List.take_length] at this
  · have := Y.cells w.drew n (fun _ => rfl) (Nat.le_refl _)
    rwa [← Y.length, List.take_length] at this

theorem info_of {t : TypeId} {n : Nat} (hs : sizeT P t = some n) : ∃ i, P.info? t = some i ∧ i.size = n := by
  unfold sizeT at hs
  cases hq : P.info? t with
  | none => simp [hq] at hs
  | some i => simp [hq] at hs; exact ⟨i, rfl, hs⟩

theorem append_cells {J : Nat → Prop} {a b : List AV} {us vs : List Value} (ha : RepCs J w a (fun j => us[j]?) 0) (hb : RepCs J w b (fun j => vs[j]?) 0) (hl : a.length = us.length) (tail : List Value) :
    RepCs J w (a ++ b) (fun j => (us ++ vs ++ tail)[j]?) 0 := by
  rw [RepCs_iff]
  intro j x hj
  rw [List.getElem?_append] at hj
  simp only [Nat.zero_add]
  by_cases h1 : j < a.length
  · rw [if_pos h1] at hj
    obtain ⟨u, hu, hr⟩ := ha.at hj
    refine ⟨u, ?_, hr⟩
    rw [List.append_assoc, List.getElem?_append, if_pos (by omega)]; exact hu
  · rw [if_neg h1] at hj
    obtain ⟨u, hu, hr⟩ := hb.at hj
    refine ⟨u, ?_, hr⟩
    have hlt : j - a.length < vs.length := (List.getElem?_eq_some_iff.1 hu).1
    rw [List.append_assoc, List.getElem?_append, if_neg (by omega), List.getElem?_append, if_pos (by omega), ← hl]; exact hu

theorem blkSize_drew (w : World) (k : Nat) : blkSize w.drew k = blkSize w k := rfl

/-- A new array: whatever was there is copied. -/
theorem grow_new {d sz n1 n2 cap0 : Nat} {t tx ty el : TypeId} {i : TypeInfo} {z vx : Value} {A : Option Addr} {olds news : List Value} {c1 c2 : List AV} {o : Bool} (S : SimH J β h w) (hn : hget h (nid d) = none)
    (hu : P.underlying t = some (.slice el)) (hi : P.info? el = some i) (hz : i.zero = some z) (hsz : i.size = sz) (hzs : z.cells.size = sz)
    (hold : ∀ w' : World, (∀ a, w'.cell? a = w.cell? a) → (Builtin.firstCells sz n1 (.slice A n1 cap0)).run P w' = .ok olds.toArray w') (hol : olds.length = n1 * sz)
    (Y : Yield P w sz vx n2 news) (ht : isSrcT P tx = true) (ho : ∀ u ∈ news, u.oneCell' = true)
    (h1 : RepCs (J o) w c1 (fun j => olds[j]?) 0) (h1l : c1.length = olds.length) (h2 : RepCs (J o) w c2 (fun j => news[j]?) 0) (h2l : c2.length = news.length)
    (hg : cap0 < n1 + n2) (hb1 : n1 + n2 ≤ 140737488355328) (hb2 : (n1 + n2) * i.bytes ≤ 140737488355328) :
    ∃ u w', (Builtin.append_ #[t, tx] ty #[.slice A n1 cap0, vx]).run P w = .ok u w' ∧
      OpDone J β h w [(nid d, some { dead := false, sealed := false, pure := true, taint := o, sz := sz, cells := c1 ++ c2 })] (.own (nid d) 0 (n1 + n2)) u w' ∧ (∀ k, blkSize w k ≤ blkSize w' k) := by
  subst hsz
  have run := run_append_grow_src (P := P) w t tx ty el i z hu hi hz A n1 cap0 olds (hold w.drew (fun _ => rfl)) vx n2 news (Y.src ht ho) hg (by omega) (growslice_fits hg hb2)
  have hcap : n1 + n2 ≤ grownCap w (n1 + n2) cap0 el := by
    unfold grownCap; simp [Question.cut]
  refine ⟨_, _, run, ?_, ?_⟩
  · obtain ⟨J', β', B1, B2⟩ := row_new (d := d) (n := n1 + n2) (cap := grownCap w (n1 + n2) cap0 el) (sz := i.size) (ty := el) (fr := (0, 0)) (x := { dead := false, sealed := false, pure := true, taint := o, sz := i.size, cells := c1 ++ c2 })
      (cs := (olds ++ news).toArray ++ Builtin.zeroCells z.cells (grownCap w (n1 + n2) cap0 el - (n1 + n2))) (Step.drew S).sim hn rfl rfl rfl (.inl rfl)
      (by simp [h1l, h2l, hol, Y.length, Nat.add_mul]) (by
        simp [Builtin.zeroCells, hol, Y.length, hzs]
        rw [← Nat.add_mul, ← Nat.add_mul]; exact Nat.mul_le_mul_right _ (by omega)) hcap
      ⟨fun _ => by
        have := append_cells h1 h2 h1l (Builtin.zeroCells z.cells (grownCap w (n1 + n2) cap0 el - (n1 + n2))).toList
        show RepCs (J o) w.drew (c1 ++ c2) _ 0
        refine RepCs.keep (J := J o) (w := w) (w' := w.drew) (fun _ hj => hj) (fun _ _ => rfl) (fun j => ?_) this
        rw [← Array.getElem?_toList]
        simp, fun hp => by simp at hp⟩
    exact ⟨J', β', (Step.drew S).trans B1 (fun _ k _ _ => by rw [← blkSize_drew]; exact size_alloc _ _ k), B2⟩
  · intro k; rw [← blkSize_drew]; exact size_alloc _ _ k

theorem mono_or {J : Bool → Nat → Prop} (hj : ∀ k, J false k → J true k) (a b : Bool) (k : Nat) (hk : J a k) : J (a || b) k := by
  cases a
  · cases b
    · exact hk
    · exact hj k hk
  · exact hk
theorem mono_or' {J : Bool → Nat → Prop} (hj : ∀ k, J false k → J true k) (a b : Bool) (k : Nat) (hk : J b k) : J (a || b) k := by rw [Bool.or_comm]; exact mono_or hj b a k hk

/-- nothing is appended to nothing -/
theorem none_new {d sz : Nat} {x : Blk} {A : Option Addr} (S : SimH J β h w) (hn : hget h (nid d) = none) (hc : x.cells = []) :
    OpDone J β h w [(nid d, some x)] (.own (nid d) 0 0) (.slice A 0 0) w := by
  refine ⟨_, _, Step.newNone S hn hc, ?_⟩
  rw [Rep]
  exact ⟨x, A, 0, by simp [applyUps, hget_hput], rfl, Nat.le_refl _, .inl rfl⟩

theorem aappend_sound {d : Nat} {t tx ty : TypeId} {s x : AV} {vs vx : Value} {k : AV → Ups → Option R} (S : SimH J β h w) (hl : Looks g h) (hh : aappend P g d t tx s x k = some r) (hs : Rep J β h w s vs) (hx : Rep J β h w x vx) :
    ∃ val ups, k val ups = some r ∧ (UpsFree d h ups → ∃ u w', (Builtin.append_ #[t, tx] ty #[vs, vx]).run P w = .ok u w' ∧ OpDone J β h w ups val u w') := by
  unfold aappend at hh
  split at hh
  · rename_i el hu
    obtain ⟨ht, h0⟩ := uc hh
    obtain ⟨sz, hsz, h1⟩ := ub h0
    obtain ⟨by_, hby, h2⟩ := ub h1
    obtain ⟨zz, hz, h3⟩ := ub h2
    obtain ⟨old, hold, h4⟩ := ub h3
    obtain ⟨new, us, h5, Y, hul, hur⟩ := elemsK_sound (P := P) S hl h4 hx
    obtain ⟨hq, h6⟩ := uc h5
    simp at hq
    obtain ⟨q1, q2⟩ := hq
    obtain ⟨i, z, hi, hiz, rfl, hp, e1, e2⟩ := zeroT_some hz
    have hs' : i.size = sz := by simp [sizeT, hi] at hsz; exact hsz
    have hb' : i.bytes = by_ := by simp [bytesT, hi] at hby; exact hby
    have hone := RepCs.one hur hul.symm
    have hur' : RepCs (J (old.2.2.1 || new.2.2)) w new.1 (fun j => us[j]?) 0 := RepCs.keep (J := J new.2.2) (w := w) (mono_or' S.jft _ _) (fun _ _ => rfl) (fun _ => rfl) hur
    refine ⟨_, _, h6, fun hn => ?_⟩
    replace hn := hn.nid (by simp [inUps_append, fresh, inUps])
    -- a slice that is empty and has no room
    have empty : ∀ (A : Option Addr), vs = .slice A 0 0 → old.1 = [] → old.2.1 = 0 → old.2.2.2 = [] →
        ∃ u w', (Builtin.append_ #[t, tx] ty #[vs, vx]).run P w = .ok u w' ∧ OpDone J β h w (old.2.2.2 ++ fresh d true (old.2.2.1 || new.2.2) sz (old.1 ++ new.1)) (.own (nid d) 0 (old.2.1 + new.2.1)) u w' := by
      intro A hA o1 o2 o3
      subst hA
      rw [o1, o2, o3]
      rcases Nat.eq_zero_or_pos new.2.1 with h0 | h0
      · have hus : us = [] := by have := Y.length; rw [h0] at this; simpa using this
        subst hus
        have hsrc := Y.src ht hone
        rw [h0] at hsrc
        refine ⟨_, _, run_append_nothing (P := P) w t tx ty el i hu hi A 0 0 (Nat.le_refl _) vx (by rw [hs']; exact hsrc), ?_⟩
        rw [h0]
        have hnc : new.1 = [] := by simpa using hul
        exact none_new (sz := sz) S hn (by simp [hnc])
      · obtain ⟨u, w', g1, g2, _⟩ := grow_new (ty := ty) (c1 := []) (olds := []) (n1 := 0) (cap0 := 0) (A := A) S hn hu hi hiz hs' (by rw [e1, hs']) (fun w' _ => by
            cases A with
            | none => exact run_firstCells_none (P := P) w' sz 0 0 0
            | some a => exact run_firstCells_some (P := P) w' sz 0 a 0 0 [] (by simp) (fun j v hv => by simp at hv)) (by simp) Y ht hone (by simp [RepCs]) rfl hur' hul (by omega) (by rw [o2] at q1; omega) (by rw [o2, ← hb'] at q2; exact q2)
        exact ⟨u, w', g1, g2⟩
    unfold oldPart at hold
    split at hold
    · simp at hold; subst hold
      rw [Rep] at hs
      exact empty none hs rfl rfl rfl
    · rename_i c n sz' org
      obtain ⟨hz0, h7⟩ := uc hold
      simp at hz0 h7; subst hz0; subst h7
      rw [Rep, RepC] at hs
      obtain ⟨_, A, cap, hv, _, hcap, _⟩ := hs
      have := hcap rfl; subst this
      exact empty A hv rfl rfl rfl
    · rename_i b off n
      obtain ⟨y, hy, h7⟩ := ub hold
      obtain ⟨hc, h8⟩ := uc h7
      simp at hc h8
      obtain ⟨c1, c2, c3⟩ := hc
      subst h8; subst c3
      obtain ⟨hb, hd⟩ := vblk_some hl hy
      simp only at *
      rw [Rep] at hs
      obtain ⟨y', A, cap, hy1, rfl, hcap, hr⟩ := hs
      rw [hb] at hy1; simp at hy1; subst hy1
      have kill := Step.kill (y := { y with dead := true, pure := true, cells := [] }) S hb rfl
      have hkn : hget (hput h b { y with dead := true, pure := true, cells := [] }) (nid d) = none := by
        rw [hget_hput, if_neg (fun e => by rw [← e, hn] at hb; cases hb)]; exact hn
      have hap : applyUps [(b, none)] h = hput h b { y with dead := true, pure := true, cells := [] } := by simp [applyUps, hb]
      by_cases hc0 : cap = 0
      · have hn0 : n = 0 := by omega
        subst hc0; subst hn0
        have S' := kill.sim
        -- as for an empty slice, behind the end of the old block
        rcases Nat.eq_zero_or_pos new.2.1 with h0 | h0
        · have hus : us = [] := by have := Y.length; rw [h0] at this; simpa using this
          subst hus
          have hsrc := Y.src ht hone
          rw [h0] at hsrc
          refine ⟨_, _, run_append_nothing (P := P) w t tx ty el i hu hi A 0 0 (Nat.le_refl _) vx (by rw [hs']; exact hsrc), ?_⟩
          rw [h0]
          have hnc : new.1 = [] := by simpa using hul
          refine OpDone.after (ups := [(b, none)]) (by rw [hap]; exact kill) ?_ (fun _ => Nat.le_refl _)
          rw [hap]
          exact none_new (sz := y.sz) S' hkn (by simp [hnc])
        · obtain ⟨u, w', g1, g2, g3⟩ := grow_new (ty := ty) (c1 := []) (olds := []) (n1 := 0) (cap0 := 0) (A := A) S' hkn hu hi hiz hs' (by rw [e1, hs']) (fun w' _ => by
              cases A with
              | none => exact run_firstCells_none (P := P) w' y.sz 0 0 0
              | some a => exact run_firstCells_some (P := P) w' y.sz 0 a 0 0 [] (by simp) (fun j v hv => by simp at hv)) (by simp) Y ht hone (by simp [RepCs]) rfl hur' hul (by omega) (by omega) (by rw [← hb'] at q2; exact q2)
          refine ⟨u, w', g1, OpDone.after (ups := [(b, none)]) (by rw [hap]; exact kill) ?_ g3⟩
          rw [hap]; simpa [fresh] using g2
      · rcases hr with hr | ⟨kk, o, rfl, hr⟩
        · exact absurd hr hc0
        · rcases hr with hr | ⟨r1, r2, r3⟩
          · simp [hd] at hr
          · rcases S.blk b y hb hd with ⟨hn', _⟩ | ⟨k', o', cs, ty', fr, hβ', g1, g2, g3, g4, g5, g6⟩
            · rw [r1] at hn'; simp at hn'
            · rw [r1] at hβ'; simp at hβ'; obtain ⟨rfl, rfl⟩ := hβ'
              have hbs := blkSize_of g1
              have hpure := ((g4.1 c1).drop off).take (n * y.sz)
              have hpl : ((y.cells.drop off).take (n * y.sz)).length = n * y.sz := by simp; omega
              by_cases hroom : n + new.2.1 ≤ cap
              · -- there is room
                have hle : (n + new.2.1) * y.sz ≤ cap * y.sz := Nat.mul_le_mul_right _ hroom
                rw [Nat.add_mul] at hle
                have run := run_append_room_src (P := P) w t tx ty el i hu hi kk (o + off) n cap vx new.2.1 us (by rw [hs']; exact Y.src ht hone) hroom (fun j hj => by
                    rw [hs', cell_row g1]; have := Y.length; simp; omega) (fun j hj => by
                    rw [hs']; simp only [World.frozen?, g1]
                    have h9 := Y.length
                    have := g2.at (o + off + n * y.sz + j) (by omega)
                    cases fr; simp at this ⊢; omega)
                rw [hs'] at run
                obtain ⟨cs', O, hO⟩ := OnlyBlk.setCells (k := kk) us (o + off + n * y.sz) w cs g1
                have h9 := Y.length
                have B := Step.move (y := { y with dead := true, pure := true, cells := [] }) (o' := o + off) (x' := { dead := false, sealed := false, pure := true, taint := y.taint || new.2.2, sz := y.sz, cells := (y.cells.drop off).take (n * y.sz) ++ new.1 }) S hb hd c2 r1 hn rfl O rfl rfl
                  (by rw [List.length_append, hpl, hul]; omega) ⟨fun _ => by
                    show RepCs (J (y.taint || new.2.2)) w ((y.cells.drop off).take (n * y.sz) ++ new.1) _ 0
                    rw [RepCs_iff]
                    intro j q hj
                    rw [List.getElem?_append, hpl] at hj
                    simp only [Nat.zero_add]
                    by_cases hjn : j < n * y.sz
                    · rw [if_pos hjn] at hj
                      obtain ⟨v, hv, hvr⟩ := hpure.at hj
                      refine ⟨v, ?_, RepC.keep (J := J y.taint) (w := w) (mono_or S.jft _ _) (fun _ _ => rfl) hvr⟩
                      rw [hO, if_neg (by omega), Nat.add_assoc]; exact hv
                    · rw [if_neg hjn] at hj
                      obtain ⟨v, hv, hvr⟩ := hur'.at hj
                      refine ⟨v, ?_, hvr⟩
                      have : j - n * y.sz < us.length := (List.getElem?_eq_some_iff.1 hv).1
                      rw [hO, if_pos (by omega), ← hv]; congr 1; omega, fun hp => by simp at hp⟩
                refine ⟨_, _, run, J, (fun b => if b = nid d then some (kk, o + off) else β b), ?_, ?_⟩
                · rw [applyUps_append, hap]; exact B
                · rw [applyUps_append, hap, Rep]
                  refine ⟨_, _, cap, by simp [fresh, applyUps, hget_hput]; rfl, rfl, hroom, .inr ⟨kk, o + off, rfl, .inr ⟨by simp, ?_, ?_⟩⟩⟩
                  · rw [blkSize_of O.new, O.sz]; simp; omega
                  · simp only [List.length_append, hpl, hul, h9, Nat.zero_add]; rw [Nat.add_mul]; exact Nat.le_refl _
              · -- a new array
                obtain ⟨olds, l1, l2, l3⟩ := hpure.list
                obtain ⟨u, w', g1', g2', g3'⟩ := grow_new (ty := ty) (c1 := (y.cells.drop off).take (n * y.sz)) (olds := olds) (n1 := n) (cap0 := cap) (A := some ⟨kk, o + off, none⟩) kill.sim hkn hu hi hiz hs' (by rw [e1, hs']) (fun w' he =>
                    run_firstCells_some (P := P) w' y.sz n _ n cap olds (by rw [l1, hpl]) (fun j v hv => by
                      rw [he, Addr.add_mid, cell_row g1, Nat.add_assoc]; exact l2 j v hv)) (by rw [l1, hpl]) Y ht hone
                    (RepCs.keep (J := J y.taint) (w := w) (mono_or S.jft _ _) (fun _ _ => rfl) (fun _ => rfl) l3) l1.symm hur' hul (by omega) (by omega) (by rw [← hb'] at q2; exact q2)
                refine ⟨u, w', g1', OpDone.after (ups := [(b, none)]) (by rw [hap]; exact kill) ?_ g3'⟩
                rw [hap]; exact g2'
    · simp at hold
  · simp at hh
end
end Gx
