/- A part of the proof: what it holds is said at each theorem. -/
import Derived.Test.YtfoogjjibhfjgaaGxH
set_option linter.unusedVariables false
namespace Gx
open Go

theorem applyUps_other : ∀ (ups : Ups) (h : Heap) (b : Nat), inUps ups b = false → hget (applyUps ups h) b = hget h b
  | [], _, _, _ => rfl
  | (i, some x) :: r, h, b, hi => by
    rw [inUps] at hi
    cases hb : Nat.beq i b with
    | true => rw [hb] at hi; simp at hi
    | false =>
      rw [hb] at hi
      rw [applyUps, applyUps_other r _ b hi, hget_hput, if_neg (fun e => beqF' hb e.symm)]
  | (i, none) :: r, h, b, hi => by
    rw [inUps] at hi
    cases hb : Nat.beq i b with
    | true => rw [hb] at hi; simp at hi
    | false =>
      rw [hb] at hi
      rw [applyUps, applyUps_other r _ b hi]
      split
      · rw [hget_hput, if_neg (fun e => beqF' hb e.symm)]
      · rfl

theorem splice_get {c vs : List AV} {off : Nat} (hle : off + vs.length ≤ c.length) (j : Nat) : (splice c off vs)[j]? = if off ≤ j ∧ j < off + vs.length then vs[j - off]? else c[j]? := by
  unfold splice
  rw [List.append_assoc, List.getElem?_append]
  simp only [List.length_take, Nat.min_eq_left (show off ≤ c.length by omega)]
  by_cases h1 : j < off
  · rw [if_pos h1, if_neg (by omega), List.getElem?_take, if_pos h1]
  · rw [if_neg h1, List.getElem?_append]
    by_cases h2 : j - off < vs.length
    · rw [if_pos h2, if_pos (by omega)]
    · rw [if_neg h2, if_neg (by omega), List.getElem?_drop]; congr 1; omega
theorem splice_length {c vs : List AV} {off : Nat} (hle : off + vs.length ≤ c.length) : (splice c off vs).length = c.length := by
  unfold splice; simp; omega
theorem setCells_get {c vs : List AV} {off : Nat} (hle : off + vs.length ≤ c.length) (j : Nat) : (setCells c off vs)[j]? = if off ≤ j ∧ j < off + vs.length then vs[j - off]? else c[j]? := by
  unfold setCells
  split
  · rename_i y
    simp at hle
    rw [List.getElem?_set]
    by_cases e : off = j
    · subst e; simp; omega
    · rw [if_neg e, if_neg (by simp; omega)]
  · exact splice_get hle j
theorem setCells_length {c vs : List AV} {off : Nat} (hle : off + vs.length ≤ c.length) : (setCells c off vs).length = c.length := by
  unfold setCells
  split
  · simp
  · exact splice_length hle

section
variable {R : Type} {r : R} {P : Program} {J J' : Bool → Nat → Prop} {β : Beta} {h : Heap} {w w' : World} {g : Look}

theorem storable_one {v : AV} {vc : Value} (hs : storable g v = true) (hv : Rep J β h w v vc) : vc.oneCell' = true := by
  cases v <;> simp [storable] at hs
  case own => rw [Rep] at hv; obtain ⟨x, A, cap, _, rfl, _⟩ := hv; rfl
  case optr => rw [Rep] at hv; obtain ⟨x, k, o, _, rfl, _⟩ := hv; rfl
  case fn => rw [Rep] at hv; obtain ⟨cs, rfl, _⟩ := hv; rfl
  case imm => rw [Rep, RepC] at hv; obtain ⟨_, A, cap, rfl, _⟩ := hv; rfl
  case iptr => rw [Rep, RepC] at hv; obtain ⟨a, rfl, _⟩ := hv; rfl
  all_goals (rw [Rep] at hv; subst hv; rfl)

theorem storables_at : ∀ {c : List AV}, storables g c = true → ∀ (j : Nat) (x : AV), c[j]? = some x → storable g x = true
  | [], _, j, x, hj => by simp at hj
  | v :: r, hs, j, x, hj => by
    rw [storables] at hs; simp at hs
    cases j with
    | zero => simp at hj; subst hj; exact hs.1
    | succ j => exact storables_at hs.2 j x (by simpa using hj)

theorem sizes_only {k : Nat} {cs cs' : Array Value} {ty : TypeId} {fr : Nat × Nat} (O : OnlyBlk w w' k cs cs' ty fr) : ∀ j, blkSize w j ≤ blkSize w' j := fun j => by
  by_cases e : j = k
  · subst e; rw [blkSize_of O.old, blkSize_of O.new, O.sz]; exact Nat.le_refl _
  · simp [blkSize, O.other j e]

theorem run_storeAt {t : TypeId} {k o : Nat} {vc : Value} {cs : Array Value} {ty : TypeId} {fr : Nat × Nat} (hk : w.heap[k]? = some (.cells cs ty fr)) (hf : FrOk cs.size fr)
    (hs : sizeT P t = some vc.cells.toList.length) (hle : o + vc.cells.toList.length ≤ cs.size) (h1 : ∀ u ∈ vc.cells.toList, u.oneCell' = true) :
    (Instr.storeAt t (.pointer (some ⟨k, o, none⟩)) vc).run P w = .ok () (w.setCells k o vc.cells.toList) := by
  have hst := run_storeCells_cells (P := P) k o vc.cells.toList 0 w (fun j hj => by
      rw [Nat.add_zero, cell_row hk]; simp; omega)
    (fun j hj => by
      rw [Nat.add_zero]; simp only [World.frozen?, hk]
      have := hf.at (o + j) (by omega)
      cases fr; simp at this ⊢; omega) h1
  simp only [Nat.add_zero] at hst
  have hsz := sizeT_run hs w
  simp only [Array.length_toList] at hsz
  simp [Instr.storeAt, Instr.sureAddr, storeVar, hsz, hst]

theorem astore_sound {t : TypeId} {p v : AV} {vp vv : Value} {k : AV → Ups → Option R} (S : SimH J β h w) (hl : Looks g h) (hh : astore P g t p v k = some r) (hp : Rep J β h w p vp) (hv : Rep J β h w v vv) :
    ∃ val ups, k val ups = some r ∧ ∃ J' β' w', (Instr.storeAt t vp vv).run P w = .ok () w' ∧ Step J β h w J' β' (applyUps ups h) w' ∧ val = .undef := by
  unfold astore at hh
  split at hh
  · rename_i b off
    obtain ⟨x, hx, h1⟩ := ub hh
    obtain ⟨n, hn, h2⟩ := ub h1
    obtain ⟨hs, h3⟩ := uc' h2
    obtain ⟨hb, hd⟩ := vblk_some hl hx
    cases hpu : x.pure with
    | true =>
      rw [hpu] at h3
      obtain ⟨⟨c', u1, org⟩, hq, h4⟩ := ub h3
      obtain ⟨hc, h5⟩ := uc h4
      simp at hc
      obtain ⟨hc1, hc2, hc3⟩ := hc
      obtain ⟨J1, A, hA, hlen, _⟩ := pureCells_sound S hl.s hq hv
      have hb1 : hget (applyUps u1 h) b = some x := by rw [applyUps_other _ _ _ hc3]; exact hb
      obtain ⟨kk, o, cs, ty, fr, hβ, rfl, hk, hf, hle, hcr, _, _⟩ := optr_at A.sim hb1 hd (Rep.ext A.ext hp)
      obtain ⟨cs', O, hO⟩ := OnlyBlk.setCells (k := kk) vv.cells.toList (o + off) w cs hk
      have hlen' : off + c'.length ≤ x.cells.length := by omega
      have hone := RepCs.one hA hlen.symm
      have B := Step.set (x' := { x with pure := true, cells := setCells x.cells off c', taint := x.taint || org }) A.sim hb1 hd hs hβ O hd hs rfl (setCells_length hlen') (by
        refine ⟨fun _ => ?_, fun hh => by simp at hh⟩
        have hold := hcr.1 hpu
        rw [RepCs_iff]
        intro j y hj
        simp only [setCells_get hlen'] at hj
        simp only [Nat.zero_add]
        have mono : ∀ {a b : Bool} (k : Nat), J1 a k → J1 (a || b) k := fun {a b} k hk => by
          cases a
          · cases b
            · exact hk
            · exact A.sim.jft k hk
          · exact hk
        split at hj
        · rename_i hj'
          obtain ⟨u, hu, hr⟩ := hA.at hj
          refine ⟨u, ?_, RepC.keep (J := J1 org) (fun k hk => by rw [Bool.or_comm]; exact mono k hk) (fun _ _ => rfl) hr⟩
          rw [hO, if_pos (by omega), ← hu]; congr 1; omega
        · rename_i hj'
          obtain ⟨u, hu, hr⟩ := hold.at hj
          refine ⟨u, ?_, RepC.keep (J := J1 x.taint) (fun k hk => mono k hk) (fun _ _ => rfl) hr⟩
          rw [hO, if_neg (by omega)]; exact hu)
      refine ⟨_, _, h5, J1, β, _, run_storeAt hk hf (by rw [← hlen, hc1]; exact hn) (by omega) hone, ?_, rfl⟩
      rw [applyUps_append]
      exact A.trans B (fun _ k _ _ => sizes_only O k)
    | false =>
      rw [hpu] at h3
      obtain ⟨kk, o, cs, ty, fr, hβ, rfl, hk, hf, hle, hcr, _, _⟩ := optr_at S hb hd hp
      have go : ∀ (c : List AV) (cells' : List AV), (∀ (j : Nat) (y : AV), c[j]? = some y → ∃ u, vv.cells.toList[j]? = some u ∧ Rep J β h w y u ∧ u.oneCell' = true) → c.length = vv.cells.toList.length → c.length = n → off + c.length ≤ x.cells.length →
          cells'.length = x.cells.length → (∀ j : Nat, cells'[j]? = if off ≤ j ∧ j < off + c.length then c[j - off]? else x.cells[j]?) →
          ∃ J' β' w', (Instr.storeAt t (.pointer (some ⟨kk, o + off, none⟩)) vv).run P w = .ok () w' ∧ Step J β h w J' β' (applyUps [(b, some { x with pure := false, cells := cells' })] h) w' := by
        intro c cells' hc hlen hcn hoff hcl hget'
        obtain ⟨cs', O, hO⟩ := OnlyBlk.setCells (k := kk) vv.cells.toList (o + off) w cs hk
        have B := Step.set (x' := { x with pure := false, cells := cells' }) S hb hd hs hβ O hd hs rfl hcl (by
          refine ⟨fun hh => by simp at hh, fun _ j y hj => ?_⟩
          simp only [hget'] at hj
          split at hj
          · rename_i hj'
            obtain ⟨u, hu, hr, ho⟩ := hc _ _ hj
            refine ⟨u, ?_, hr, ho⟩
            show cs'[o + j]? = some u
            rw [hO, if_pos (by omega), ← hu]; congr 1; omega
          · rename_i hj'
            obtain ⟨u, hu, hr⟩ := hcr.2 hpu j y hj
            refine ⟨u, ?_, hr⟩
            show cs'[o + j]? = some u
            rw [hO, if_neg (by omega)]; exact hu)
        refine ⟨J, β, _, run_storeAt hk hf (by rw [hn, ← hcn, hlen]) (by omega) (fun u hu => ?_), B⟩
        obtain ⟨j, hj, rfl⟩ := List.getElem_of_mem hu
        obtain ⟨u', hu', _, ho⟩ := hc j c[j] (List.getElem?_eq_getElem (by omega))
        rw [List.getElem?_eq_getElem hj] at hu'; simp only [Option.some.injEq] at hu'; rw [hu']; exact ho
      simp only [cond_false] at h3
      split at h3
      · rename_i c
        obtain ⟨hc, h5⟩ := uc h3
        simp at hc
        obtain ⟨hc1, hc2, hc3⟩ := hc
        rw [Rep] at hv
        obtain ⟨us, rfl, hus⟩ := hv
        rw [Reps_iff] at hus
        obtain ⟨J', β', w', g1, g2⟩ := go c (splice x.cells off c) (fun j y hj => by
            have hlt : j < us.length := by rw [hus.1]; exact (List.getElem?_eq_some_iff.1 hj).1
            refine ⟨us[j], by simp [Value.cells, List.getElem?_eq_getElem hlt], hus.2 j y _ hj (List.getElem?_eq_getElem hlt), storable_one (storables_at hc1 j y hj) (hus.2 j y _ hj (List.getElem?_eq_getElem hlt))⟩)
          (by simp [Value.cells, hus.1]) hc2 (by omega) (splice_length (by omega)) (splice_get (by omega))
        exact ⟨_, _, h5, J', β', w', g1, g2, rfl⟩
      · rename_i hna
        obtain ⟨hc, h5⟩ := uc h3
        simp at hc
        obtain ⟨hc1, hc2, hc3⟩ := hc
        have ho := storable_one hc1 hv
        have hcells : vv.cells = #[vv] := by cases vv <;> simp_all [Value.cells, Value.oneCell']
        obtain ⟨J', β', w', g1, g2⟩ := go [v] (x.cells.set off v) (fun j y hj => by
            cases j with
            | zero => simp at hj; subst hj; exact ⟨vv, by simp [hcells], hv, ho⟩
            | succ j => simp at hj) (by simp [hcells]) (by simp; omega) (by simp; omega) (by simp) (fun j => by
            have := setCells_get (c := x.cells) (vs := [v]) (off := off) (by simp; omega) j
            simpa [setCells] using this)
        exact ⟨_, _, h5, J', β', w', g1, g2, rfl⟩
  · simp at hh
end
end Gx
