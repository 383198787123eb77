/- A part of the proof: what it holds is said at each theorem. -/
import Derived.Test.YtfoogjjibhfjgaaGxK
import Derived.Laws.BytesString
set_option linter.unusedVariables false
namespace Gx
open Go
section
variable {R : Type} {r : R} {P : Program} {J J' : Bool → Nat → Prop} {β : Beta} {h : Heap} {w w' : World} {g : Look}

/-- Only the mark of a block's origin changes. -/
theorem Step.retaint (S : SimH J β h w) {d : Nat} {x : Blk} (hx : hget h d = some x) (hd : x.dead = false) (hs : x.sealed = false) (hp : x.pure = true) (o : Bool) :
    Step J β h w J β (hput h d { x with taint := x.taint || o }) w := by
  have E : Ext J β h w J β (hput h d { x with taint := x.taint || o }) w := by
    refine ⟨fun _ _ hj => hj, fun o k hj => rfl, fun b z hb => ?_, fun b k o hβ => Nat.le_refl _⟩
    by_cases e : b = d
    · subst e; rw [hx] at hb; simp at hb; subst hb
      exact ⟨{ x with taint := x.taint || o }, by rw [hget_hput, if_pos rfl], .inr ⟨hd, rfl, rfl, rfl⟩⟩
    · refine ⟨z, by rw [hget_hput, if_neg e]; exact hb, ?_⟩
      cases hd : z.dead
      · exact .inr ⟨rfl, rfl, rfl, rfl⟩
      · exact .inl rfl
  refine ⟨E, ⟨S.jlt, S.jft, fun b z hb hdz => ?_, ?_⟩, rfl, rfl, rfl, Nat.le_refl _, fun k hk _ => rfl, ?_, fun _ _ hj => .inl hj⟩
  · rw [hget_hput] at hb
    by_cases e : b = d
    · rw [if_pos e] at hb; simp at hb; subst hb; subst e
      rcases S.blk b x hx hd with h1 | ⟨k, o', cs', ty', fr', h1, h2, h3, h4, h5, h6, h7⟩
      · exact .inl h1
      · refine .inr ⟨k, o', cs', ty', fr', h1, h2, h3, h4, CellsRep.ext E ⟨fun _ => ?_, fun hh => ?_⟩, fun _ => h6 hs, fun hh => by simp [hs] at hh⟩
        · exact RepCs.keep (J := J x.taint) (w := w) (mono_or S.jft _ _) (fun _ _ => rfl) (fun _ => rfl) (h5.1 hp)
        · simp [hp] at hh
    · rw [if_neg e] at hb
      rcases S.blk b z hb hdz with h1 | ⟨k, o, cs', ty', fr', h1, h2, h3, h4, h5, h6, h7⟩
      · exact .inl h1
      · exact .inr ⟨k, o, cs', ty', fr', h1, h2, h3, h4, h5.ext E, h6, h7⟩
  · intro b b' z z' k oo oo' hb hb' hd1 hd2 hs1 hβ hβ'
    have get : ∀ {c y}, hget (hput h d { x with taint := x.taint || o }) c = some y → y.dead = false → ∃ y', hget h c = some y' ∧ y'.dead = false ∧ (y.sealed = false → y'.sealed = false) := by
      intro c y hc hyd
      rw [hget_hput] at hc
      by_cases e : c = d
      · subst e; exact ⟨x, hx, hd, fun _ => hs⟩
      · rw [if_neg e] at hc; exact ⟨y, hc, hyd, id⟩
    obtain ⟨y1, g1, g2, g3⟩ := get hb hd1
    obtain ⟨y2, g4, g5, g6⟩ := get hb' hd2
    exact S.sep b b' y1 y2 k oo oo' g1 g4 g2 g5 (g3 hs1) hβ hβ'
  · rintro k ⟨b, z, o, hb, hdz, hs1, hβ⟩ hk
    rw [hget_hput] at hb
    by_cases e : b = d
    · subst e; exact ⟨b, x, o, hx, hd, hs, hβ⟩
    · rw [if_neg e] at hb
      exact ⟨b, z, o, hb, hdz, hs1, hβ⟩

theorem splice_nil (c : List AV) (off : Nat) : splice c off [] = c := by simp [splice]

theorem acopy_sound {t tx ty : TypeId} {s x : AV} {vs vx : Value} {k : AV → Ups → Option R} (S : SimH J β h w) (hl : Looks g h) (hh : acopy P g t s x k = some r) (hs : Rep J β h w s vs) (hx : Rep J β h w x vx) :
    ∃ val ups, k val ups = some r ∧ ∃ u w', (Builtin.copy_ #[t, tx] ty #[vs, vx]).run P w = .ok u w' ∧ OpDone J β h w ups val u w' := by
  unfold acopy at hh
  split at hh
  · rename_i el b off n hu
    obtain ⟨sz, hsz, h1⟩ := ub hh
    obtain ⟨y, hy, h2⟩ := ub h1
    obtain ⟨new, us, h3, Y, hul, hur⟩ := elemsK_sound (P := P) S hl h2 hx
    obtain ⟨hc, h4⟩ := uc h3
    simp at hc
    obtain ⟨c1, c2, c3⟩ := hc
    subst c3
    obtain ⟨hb, hd⟩ := vblk_some hl hy
    have hone := RepCs.one hur hul.symm
    refine ⟨_, _, h4, ?_⟩
    rw [Rep] at hs
    obtain ⟨y', A, cap, hy1, rfl, hcap, hr⟩ := hs
    rw [hb] at hy1; simp at hy1; subst hy1
    have hm : Nat.min new.2.1 n ≤ new.2.1 := Nat.min_le_left _ _
    have hcells := Y.cells w (Nat.min new.2.1 n) (fun _ => rfl) hm
    have hlen := Y.len w
    by_cases hn0 : Nat.min new.2.1 n * y.sz = 0
    · -- nothing is copied
      refine ⟨.int .i64 (Nat.min new.2.1 n : Nat), w, ?_, J, β, ?_, by rw [Rep]⟩
      · have e : us.take (Nat.min new.2.1 n * y.sz) = [] := by rw [hn0]; rfl
        rw [e] at hcells
        cases A with
        | none => simp [Builtin.copy_, run_underlying hu, hlen, sizeT_run hsz, hcells, goInt]
        | some a => simp [Builtin.copy_, run_underlying hu, hlen, sizeT_run hsz, hcells, goInt, storeCells]
      · have e : (new.1.take (min new.2.1 n * y.sz)) = [] := by
          have : min new.2.1 n * y.sz = 0 := hn0
          rw [this]; rfl
        have T := Step.retaint S hb hd c2 c1 new.2.2
        simp only [applyUps]
        rw [e, splice_nil]
        exact T
    · rcases hr with hr | ⟨kk, o, rfl, hr⟩
      · have : n = 0 := by omega
        subst this; simp at hn0
      · rcases hr with hr | ⟨r1, r2, r3⟩
        · simp [hd] at hr
        · rcases S.blk b y hb hd with ⟨hn', _⟩ | ⟨k', o', cs, ty', fr, hβ', g1, g2, g3, g4, g5, g6⟩
          · rw [r1] at hn'; simp at hn'
          · rw [r1] at hβ'; simp at hβ'; obtain ⟨rfl, rfl⟩ := hβ'
            have hle1 : Nat.min new.2.1 n * y.sz ≤ new.2.1 * y.sz := Nat.mul_le_mul_right _ hm
            have hle2 : Nat.min new.2.1 n * y.sz ≤ n * y.sz := Nat.mul_le_mul_right _ (Nat.min_le_right _ _)
            have hul' := Y.length
            have htl : (us.take (Nat.min new.2.1 n * y.sz)).length = Nat.min new.2.1 n * y.sz := by rw [List.length_take]; omega
            have htl' : (new.1.take (Nat.min new.2.1 n * y.sz)).length = Nat.min new.2.1 n * y.sz := by rw [List.length_take]; omega
            obtain ⟨cs', O, hO⟩ := OnlyBlk.setCells (k := kk) (us.take (Nat.min new.2.1 n * y.sz)) (o + off) w cs g1
            have hst := run_storeCells_cells (P := P) kk (o + off) (us.take (Nat.min new.2.1 n * y.sz)) 0 w (fun j hj => by
                rw [Nat.add_zero, cell_row g1]; simp; omega)
              (fun j hj => by
                rw [Nat.add_zero]; simp only [World.frozen?, g1]
                have := g2.at (o + off + j) (by omega)
                cases fr; simp at this ⊢; omega) (fun u hu => hone u (List.mem_of_mem_take hu))
            simp only [Nat.add_zero] at hst
            have B := Step.set (x' := { y with cells := splice y.cells off (new.1.take (Nat.min new.2.1 n * y.sz)), taint := y.taint || new.2.2 }) S hb hd c2 r1 O hd c2 rfl (splice_length (by omega)) ⟨fun _ => by
              show RepCs (J (y.taint || new.2.2)) w (splice y.cells off (new.1.take (Nat.min new.2.1 n * y.sz))) _ 0
              rw [RepCs_iff]
              intro j q hj
              rw [splice_get (by omega), htl'] at hj
              simp only [Nat.zero_add]
              split at hj
              · obtain ⟨u, hu', hr⟩ := (hur.take _).at hj
                refine ⟨u, ?_, RepC.keep (J := J new.2.2) (w := w) (mono_or' S.jft _ _) (fun _ _ => rfl) hr⟩
                rw [hO, if_pos (by omega), List.getElem?_take, if_pos (by omega), ← hu']; congr 1; omega
              · obtain ⟨u, hu', hr⟩ := (g4.1 c1).at hj
                refine ⟨u, ?_, RepC.keep (J := J y.taint) (w := w) (mono_or S.jft _ _) (fun _ _ => rfl) hr⟩
                rw [hO, if_neg (by omega)]; exact hu', fun hp => by simp [c1] at hp⟩
            refine ⟨.int .i64 (Nat.min new.2.1 n : Nat), _, ?_, J, β, B, by rw [Rep]⟩
            simp [Builtin.copy_, run_underlying hu, hlen, sizeT_run hsz, hcells, goInt, hst]
  · rename_i el hu
    obtain ⟨sz, hsz, h1⟩ := ub hh
    obtain ⟨new, us, h2, Y, hul, hur⟩ := elemsK_sound (P := P) S hl h1 hx
    rw [Rep] at hs; subst hs
    have hlen := Y.len w
    have hcells := Y.cells w 0 (fun _ => rfl) (Nat.zero_le _)
    simp at hcells
    refine ⟨_, _, h2, .int .i64 0, w, ?_, J, β, Step.refl S, by rw [Rep]⟩
    have hm : ∀ m : Nat, Nat.min m 0 = 0 := fun m => Nat.min_eq_right (Nat.zero_le _)
    simp [Builtin.copy_, run_underlying hu, hlen, sizeT_run hsz, hm, hcells, goInt]
  · simp at hh

theorem asBytes_cells : ∀ {c : List AV} {s : List UInt8} {us : List Value} {J : Nat → Prop}, asBytes c = some s → RepCs J w c (fun j => us[j]?) 0 → c.length = us.length →
    ∃ ns : List Int, us = ns.map (Value.int .u8) ∧ s = ns.map (fun n => UInt8.ofNat n.toNat)
  | [], s, us, J, hb, hc, hl => by
    simp [asBytes] at hb; subst hb
    have : us = [] := by cases us <;> simp_all
    exact ⟨[], by simp [this], rfl⟩
  | x :: r, s, us, J, hb, hc, hl => by
    rw [asBytes] at hb
    obtain ⟨b, hb1, h1⟩ := ub hb
    obtain ⟨l, hl1, h2⟩ := ub h1
    simp at h2; subst h2
    cases us with
    | nil => simp at hl
    | cons u us =>
      rw [RepCs] at hc
      obtain ⟨⟨u', hu', hr⟩, hrest⟩ := hc
      simp at hu'; subst hu'
      unfold asByte at hb1
      split at hb1
      · rename_i n
        simp at hb1; subst hb1
        rw [RepC] at hr; subst hr
        have hrest' : RepCs J w r (fun j => us[j]?) 0 := by
          rw [RepCs_iff] at hrest ⊢
          intro j y hj
          obtain ⟨v, hv, hvr⟩ := hrest j y hj
          refine ⟨v, ?_, hvr⟩
          rw [show 0 + 1 + j = j + 1 by omega] at hv
          simpa using hv
        obtain ⟨ns, h3, h4⟩ := asBytes_cells hl1 hrest' (by simpa using hl)
        exact ⟨n :: ns, by simp [h3], by simp [h4]⟩
      · simp at hb1

theorem pushes : ∀ (ns : List Int) (s : List UInt8), (ns.foldl (fun r n => r.push (UInt8.ofNat n.toNat)) (⟨⟨s⟩⟩ : ByteArray)) = ⟨⟨s ++ ns.map fun n => UInt8.ofNat n.toNat⟩⟩
  | [], s => by simp
  | n :: r, s => by
    rw [List.foldl_cons]
    have : (⟨⟨s⟩⟩ : ByteArray).push (UInt8.ofNat n.toNat) = ⟨⟨s ++ [UInt8.ofNat n.toNat]⟩⟩ := by
      simp [ByteArray.push]
    rw [this, pushes r]; simp

theorem aconv_sound {d : Nat} {src dst : TypeId} {x : AV} {vx : Value} {k : AV → Ups → Option R} (S : SimH J β h w) (hl : Looks g h) (hh : aconv P g d src dst x k = some r) (hx : Rep J β h w x vx) :
    ∃ val ups, k val ups = some r ∧ (UpsFree d h ups → ∃ u w', (convert src dst vx).run P w = .ok u w' ∧ OpDone J β h w ups val u w') := by
  unfold aconv at hh
  split at hh
  · rename_i kd hu
    split at hh
    · rename_i kd' n
      rw [Rep] at hx; subst hx
      obtain ⟨hsome, h1⟩ := uc hh
      obtain ⟨s, hs⟩ := Option.isSome_iff_exists.1 hsome
      refine ⟨_, _, h1, fun _ => ⟨.int kd (kd.wrap n), w, ?_, J, β, Step.refl S, by rw [Rep]⟩⟩
      cases s <;> simp [convert, run_underlying hs, run_underlying hu, Conv.intToInt]
    · simp at hh
  · rename_i hu
    split at hh
    · rename_i hs
      split at hh
      · rename_i s
        rw [Rep] at hx; subst hx
        refine ⟨_, _, hh, fun _ => ⟨.string ⟨⟨s⟩⟩, w, ?_, J, β, Step.refl S, by rw [Rep]⟩⟩
        simp [convert, run_underlying hs, run_underlying hu]
      · simp at hh
    · rename_i el hs
      split at hh
      · rename_i he
        split at hh
        · simp at hh
        · rename_i hns
          obtain ⟨q, hq, h1⟩ := ub hh
          obtain ⟨s, hs', h2⟩ := ub h1
          obtain ⟨us, Y, hul, hur⟩ := elems_sound (P := P) S hl hq hx
          obtain ⟨ns, e1, e2⟩ := asBytes_cells hs' hur hul
          refine ⟨_, _, h2, fun _ => ⟨.string ⟨⟨s⟩⟩, w, ?_, J, β, Step.refl S, by rw [Rep]⟩⟩
          have hv : ∃ A n cap, vx = .slice A n cap := by
            unfold elems at hq
            split at hq
            · rw [Rep] at hx; exact ⟨_, _, _, hx⟩
            · rw [Rep, RepC] at hx; obtain ⟨_, A, cap, rfl, _⟩ := hx; exact ⟨_, _, _, rfl⟩
            · rw [Rep] at hx; obtain ⟨_, A, cap, _, rfl, _⟩ := hx; exact ⟨_, _, _, rfl⟩
            · exact absurd rfl (hns _)
            · simp at hq
          obtain ⟨A, n, cap, rfl⟩ := hv
          have hn : q.2.1 = n := by have := Y.len w; simpa [Builtin.lenOf] using this.symm
          have hc := Y.cells w n (fun _ => rfl) (by omega)
          have hyl := Y.length
          rw [hn] at hyl
          rw [show us.take (n * 1) = us by rw [← hyl, List.take_length]] at hc
          have hconv : (convert src dst (.slice A n cap)).run P w = (Conv.bytesToString (.slice A n cap)).run P w := by
            cases A <;> simp [convert, run_underlying hs, run_underlying hu, run_underlying he]
          rw [hconv]
          cases A with
          | none =>
            rw [run_firstCells_none] at hc
            injection hc with hc1 _
            have hus : us = [] := by simpa using hc1.symm
            rw [hus] at e1
            have hns' : ns = [] := by simpa using e1.symm
            rw [hns'] at e2
            simp at e2; subst e2
            simp [Conv.bytesToString]; rfl
          | some a =>
            simp only [Builtin.firstCells, Nat.mul_one] at hc
            rw [e1] at hc
            rw [run_bytesToString w a n cap ns hc, e2]
            have := pushes ns []
            simp at this
            rw [← this]; rfl
      · simp at hh
    · simp at hh
  · rename_i el hu
    split at hh
    · rename_i e' b off n hs he
      obtain ⟨heq, h1⟩ := uc hh
      simp only [Bool.and_eq_true] at heq
      obtain ⟨heq, hn1⟩ := heq
      have hn1 : 1 ≤ n := by simpa using hn1
      have heq := Nat.eq_of_beq_eq_true heq
      subst heq
      have hee : e' = el := by rw [hs] at hu; simpa using hu
      subst hee
      obtain ⟨x, hxb, h2⟩ := ub h1
      obtain ⟨hsl, h3⟩ := uc' h2
      obtain ⟨hxb, hd⟩ := vblk_some hl hxb
      refine ⟨_, _, h3, fun _ => ?_⟩
      have hx' := hx
      rw [Rep] at hx
      obtain ⟨x0, A, cap, hx0, rfl, hle, hr⟩ := hx
      rw [hxb] at hx0; simp at hx0; subst hx0
      rcases hr with hr | ⟨k1, o1, rfl, hr⟩
      · omega
      · rcases hr with hr | ⟨hβ, _, _⟩
        · simp [hd] at hr
        · rcases S.blk b x hxb hd with ⟨h4, _⟩ | ⟨k2, o2, cs, ty, fr, h4, h5, h6, h7, h8, h9, h10⟩
          · rw [hβ] at h4; simp at h4
          · rw [hβ] at h4; simp at h4; obtain ⟨rfl, rfl⟩ := h4
            have hsh : w.shape? k1 = some (ty, cs.size) := by simp [World.shape?, h5]
            have hnew : ∃ fr', (w.freeze ⟨k1, cs.size, none⟩ 1).heap[k1]? = some (.cells cs ty fr') ∧ FrOk cs.size fr' := by
              obtain ⟨lo, hi⟩ := fr
              refine ⟨if lo == hi then (cs.size, cs.size + 1) else (min lo cs.size, max hi (cs.size + 1)), ?_, ?_⟩
              · simp [World.freeze, Array.getElem?_modify, h5]
              · by_cases e : lo = hi
                · simp [e, FrOk]
                · have h11 : cs.size ≤ lo := by rcases h6 with h6 | h6; exact absurd h6 e; exact h6
                  simp [e, FrOk]; omega
            obtain ⟨fr', hf1, hf2⟩ := hnew
            have A := Step.mark S hxb hd hsl hβ h5 hf1 hf2 (fun j hj => by
              simp only [World.freeze, Array.getElem?_modify]
              rw [if_neg (by decide)]
              show (w.heap.modify k1 _)[j]? = _
              rw [Array.getElem?_modify, if_neg (fun e => hj e.symm)]) (by simp [World.freeze]) rfl rfl rfl
            refine ⟨_, w.freeze ⟨k1, cs.size, none⟩ 1, ?_, J, β, A, Rep.ext A.ext hx'⟩
            simp [convert, run_underlying hs, run_underlying hu, run_underlying he, markStringish, hsh]
    · rename_i s hs he
      rw [Rep] at hx; subst hx
      refine ⟨_, _, hh, fun hn => ⟨_, _, run_bytes_of_string (P := P) w src dst el ⟨⟨s⟩⟩ hs hu he, ?_⟩⟩
      replace hn := hn.nid (by simp [fresh, inUps])
      have hsz : (⟨⟨s⟩⟩ : ByteArray).size = s.length := rfl
      have hcap : s.length ≤ grownCap w s.length 0 el := by unfold grownCap; simp [Question.cut]
      rw [hsz]
      obtain ⟨J', β', B1, B2⟩ := row_new (d := d) (n := s.length) (cap := grownCap w s.length 0 el) (sz := 1) (ty := el) (fr := ((bytesRow ⟨⟨s⟩⟩ (grownCap w s.length 0 el)).size, (bytesRow ⟨⟨s⟩⟩ (grownCap w s.length 0 el)).size + 1))
        (x := { dead := false, sealed := false, pure := true, taint := false, sz := 1, cells := s.map fun b => .int .u8 (b.toNat : Int) })
        (cs := bytesRow ⟨⟨s⟩⟩ (grownCap w s.length 0 el)) (Step.drew S).sim hn rfl rfl rfl (.inr (Nat.le_refl _)) (by simp) (by simp [bytesRow, hsz]; omega) hcap
        ⟨fun _ => by
          show RepCs (J false) w.drew (s.map fun b => .int .u8 (b.toNat : Int)) _ 0
          rw [RepCs_iff]
          intro j q hj
          rw [List.getElem?_map] at hj
          cases hb : s[j]? with
          | none => rw [hb] at hj; simp at hj
          | some b =>
            rw [hb] at hj; simp at hj; subst hj
            refine ⟨.int .u8 (b.toNat : Int), ?_, by rw [RepC]⟩
            have hlt : j < s.length := (List.getElem?_eq_some_iff.1 hb).1
            simp only [Nat.zero_add, bytesRow]
            rw [Array.getElem?_append_left (by simp; exact hlt)]
            simp [hb], fun hp => by simp at hp⟩
      exact ⟨J', β', (Step.drew S).trans B1 (fun _ k _ _ => by rw [← blkSize_drew]; exact size_alloc _ _ k), B2⟩
    · simp at hh
  · simp at hh
end
end Gx
