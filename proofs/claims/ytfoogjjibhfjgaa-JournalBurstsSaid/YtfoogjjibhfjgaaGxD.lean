/- A part of the proof: what it holds is said at each theorem. -/
import Derived.Test.YtfoogjjibhfjgaaGxC
set_option linter.unusedVariables false
namespace Gx
open Go
section
variable {R : Type} {r : R} {P : Program} {J : Bool → Nat → Prop} {β : Beta} {h : Heap} {w : World} {g : Look}

theorem cell_row {k : Nat} {cs : Array Value} {ty : TypeId} {fr : Nat × Nat} (hk : w.heap[k]? = some (.cells cs ty fr)) (i : Nat) : w.cell? ⟨k, i, none⟩ = cs[i]? := by
  simp [World.cell?, hk]

/-- The look-up that an operation has is a part of the heap. -/
def Looks (g : Look) (h : Heap) : Prop := ∀ b x, g b = some x → hget h b = some x

theorem vblk_some {b : Nat} {x : Blk} (hl : Looks g h) (hv : vblk g b = some x) : hget h b = some x ∧ x.dead = false := by
  unfold vblk at hv
  obtain ⟨y, hy, hv⟩ := ub hv
  obtain ⟨hd, hv⟩ := uc' hv
  simp at hv; subst hv
  exact ⟨hl b _ hy, hd⟩

/-- What is known of a block behind a pointer. -/
theorem optr_at {b off : Nat} {x : Blk} {v : Value} (S : SimH J β h w) (hb : hget h b = some x) (hd : x.dead = false) (hr : Rep J β h w (.optr b off) v) :
    ∃ k o cs ty fr, β b = some (k, o) ∧ v = .pointer (some ⟨k, o + off, none⟩) ∧ w.heap[k]? = some (.cells cs ty fr) ∧
    FrOk cs.size fr ∧ o + x.cells.length ≤ cs.size ∧ CellsRep J β h w x (fun j => cs[o + j]?) ∧
    (x.sealed = false → ∀ g, ¬ J g k) ∧ (x.sealed = true → J x.taint k) := by
  rw [Rep] at hr
  obtain ⟨y, k, o, hy, hv, hr⟩ := hr
  rw [hb] at hy; simp at hy; subst hy
  rcases hr with hr | hβ
  · simp [hd] at hr
  · rcases S.blk b x hb hd with ⟨hn, _⟩ | ⟨k', o', cs, ty, fr, hβ', h1, h2, h3, h4, h5, h6⟩
    · rw [hβ] at hn; simp at hn
    · rw [hβ] at hβ'; simp at hβ'; obtain ⟨rfl, rfl⟩ := hβ'
      exact ⟨k, o, cs, ty, fr, hβ, hv, h1, h2, h3, h4, h5, h6⟩

theorem CellsRep.reads {t : TypeId} {x : Blk} {cs : Array Value} {o off : Nat} {k : AV → Option R} (hc : CellsRep J β h w x (fun j => cs[o + j]?))
    (hh : cond x.pure (readT P t (x.cells.drop off) x.taint k) (takeT P t (x.cells.drop off) k) = some r) :
    ∃ v, k v = some r ∧ Reads P J β h w t (fun j => cs[o + off + j]?) v := by
  cases hp : x.pure with
  | true =>
    rw [hp] at hh
    have := (hc.1 hp).drop off
    obtain ⟨v, h1, h2⟩ := readT_sound (β := β) (h := h) hh this
    exact ⟨v, h1, by simpa [Nat.add_assoc] using h2⟩
  | false =>
    rw [hp] at hh
    obtain ⟨v, h1, h2⟩ := takeT_sound (J := J) (β := β) (h := h) (w := w) (rd := fun j => cs[o + (off + j)]?) hh (fun j y hj => by
      rw [List.getElem?_drop] at hj
      obtain ⟨u, hu, hr, _⟩ := hc.2 hp _ _ hj
      exact ⟨u, hu, hr⟩)
    exact ⟨v, h1, by simpa [Nat.add_assoc] using h2⟩

theorem aload_sound {t : TypeId} {p : AV} {vp : Value} {k : AV → Option R} (S : SimH J β h w) (hl : Looks g h) (hh : aload P g t p k = some r) (hp : Rep J β h w p vp) :
    ∃ v vc, k v = some r ∧ (Instr.loadAt t vp).run P w = .ok vc w ∧ Rep J β h w v vc := by
  unfold aload at hh
  split at hh
  · rename_i c org
    rw [Rep, RepC] at hp
    obtain ⟨a, rfl, _, hc⟩ := hp
    obtain ⟨v, h1, h2⟩ := readT_sound (β := β) (h := h) hh hc
    obtain ⟨vc, h3, h4⟩ := load_of_reads h2
    exact ⟨v, vc, h1, by simp [Instr.loadAt, Instr.sureAddr, h3], h4⟩
  · rename_i b off
    obtain ⟨x, hx, hh⟩ := ub hh
    obtain ⟨hb, hd⟩ := vblk_some hl hx
    obtain ⟨kk, o, cs, ty, fr, hβ, rfl, hk, _, _, hc, _⟩ := optr_at S hb hd hp
    obtain ⟨v, h1, h2⟩ := hc.reads hh
    have h2' : Reads P J β h w t (fun j => w.cell? ((⟨kk, o + off, none⟩ : Addr).add j)) v := by
      simpa only [Addr.add_mid, cell_row hk] using h2
    obtain ⟨vc, h3, h4⟩ := load_of_reads h2'
    exact ⟨v, vc, h1, by simp [Instr.loadAt, Instr.sureAddr, h3], h4⟩
  · simp at hh

theorem sizeT_run {t : TypeId} {n : Nat} (hs : sizeT P t = some n) (w : World) : (Go.sizeOf t).run P w = .ok n w := by
  unfold sizeT at hs
  cases hq : P.info? t with
  | none => simp [hq] at hs
  | some i => simp [hq] at hs; simp [Go.sizeOf, typeInfo, hq, hs]

theorem inIdx_iff {i : Int} {n : Nat} (hi : inIdx i n = true) : 0 ≤ i ∧ i < (n : Int) := by simpa [inIdx] using hi

theorem add_drop {J : Nat → Prop} {c : List AV} {a : Addr} (hc : RepCs J w c (fun j => w.cell? (a.add j)) 0) (n : Nat) : RepCs J w (c.drop n) (fun j => w.cell? ((a.add n).add j)) 0 := by
  have e : ∀ j, (a.add n).add j = a.add (n + j) := fun j => by
    unfold Addr.add
    by_cases h1 : n = 0 <;> by_cases h2 : j = 0 <;> simp [h1, h2, Nat.add_assoc]
  simpa [e] using hc.drop n

theorem own_ptr {b off n : Nat} {v : Value} (m : Nat) (hr : Rep J β h w (.own b off n) v) (hn : n ≠ 0) :
    ∃ k o cap, v = .slice (some ⟨k, o, none⟩) n cap ∧ Rep J β h w (.optr b (off + m)) (.pointer (some ⟨k, o + m, none⟩)) := by
  rw [Rep] at hr
  obtain ⟨x, A, cap, hx, rfl, h2, hr⟩ := hr
  rcases hr with hr | ⟨k, o, rfl, hr⟩
  · omega
  · refine ⟨k, o + off, cap, rfl, ?_⟩
    rw [Rep]; exact ⟨x, k, o, hx, by rw [Nat.add_assoc], hr.imp id (·.1)⟩

theorem indexAt_slice {t el : TypeId} {kd : IntKind} {i : Int} {len cap sz : Nat} {a : Addr} (hu : P.underlying t = some (.slice el)) (hs : sizeT P el = some sz) (hb : inIdx i len = true) :
    (Instr.indexAt t (.slice (some a) len cap) (.int kd i)).run P w = .ok (.pointer (some (a.add (i.toNat * sz)))) w := by
  obtain ⟨h0, h1⟩ := inIdx_iff hb
  simp [Instr.indexAt, asIntOf, run_underlying hu, h0, h1, sizeT_run hs]

theorem indexAt_array {t el : TypeId} {kd : IntKind} {i : Int} {len sz : Nat} {a : Addr} (hu : P.underlying t = some (.array len el)) (hs : sizeT P el = some sz) (hb : inIdx i len = true) :
    (Instr.indexAt t (.pointer (some a)) (.int kd i)).run P w = .ok (.pointer (some (a.add (i.toNat * sz)))) w := by
  obtain ⟨h0, h1⟩ := inIdx_iff hb
  simp [Instr.indexAt, asIntOf, run_underlying hu, h0, h1, sizeT_run hs, Instr.sureAddr]

theorem aindexAddr_sound {t : TypeId} {x i : AV} {vx vi : Value} {k : AV → Option R} (hh : aindexAddr P t x i k = some r) (hx : Rep J β h w x vx) (hi : Rep J β h w i vi) :
    ∃ v vc, k v = some r ∧ (Instr.indexAt t vx vi).run P w = .ok vc w ∧ Rep J β h w v vc := by
  unfold aindexAddr at hh
  split at hh
  · rename_i el c len sz tight org kd i hu
    obtain ⟨sz', hs, h1⟩ := ub hh
    obtain ⟨he, h2⟩ := uc h1
    obtain ⟨hb, h3⟩ := uc h2
    have he' : sz' = sz := by simp at he; exact he.symm
    subst he'
    rw [Rep] at hi; subst hi
    rw [Rep, RepC] at hx
    obtain ⟨hlen, A, cap, rfl, hcap, _, hA⟩ := hx
    rcases hA with hA | ⟨a, rfl, hj, hc⟩
    · have := inIdx_iff hb; omega
    refine ⟨_, _, h3, indexAt_slice hu hs hb, ?_⟩
    rw [Rep, RepC]
    exact ⟨_, rfl, by rw [block_add]; exact hj, add_drop hc _⟩
  · rename_i el b off len kd i hu
    obtain ⟨sz, hs, h1⟩ := ub hh
    obtain ⟨hb, h3⟩ := uc h1
    rw [Rep] at hi; subst hi
    obtain ⟨kk, o, cap, rfl, h4⟩ := own_ptr (i.toNat * sz) hx (by have := inIdx_iff hb; omega)
    exact ⟨_, _, h3, indexAt_slice hu hs hb, by rw [Addr.add_mid]; exact h4⟩
  · rename_i len el c org kd i hu
    obtain ⟨sz, hs, h1⟩ := ub hh
    obtain ⟨hb, h3⟩ := uc h1
    rw [Rep] at hi; subst hi
    rw [Rep, RepC] at hx
    obtain ⟨a, rfl, hj, hc⟩ := hx
    refine ⟨_, _, h3, indexAt_array hu hs hb, ?_⟩
    rw [Rep, RepC]
    exact ⟨_, rfl, by rw [block_add]; exact hj, add_drop hc _⟩
  · rename_i len el b off kd i hu
    obtain ⟨sz, hs, h1⟩ := ub hh
    obtain ⟨hb, h3⟩ := uc h1
    rw [Rep] at hi; subst hi
    rw [Rep] at hx
    obtain ⟨y, kk, o, hy, rfl, h4⟩ := hx
    refine ⟨_, _, h3, indexAt_array hu hs hb, ?_⟩
    rw [Rep, Addr.add_mid]
    exact ⟨y, kk, o, hy, by rw [Nat.add_assoc], h4⟩
  · simp at hh

theorem fieldOf_some {t : TypeId} {f : Nat} {p : Nat × TypeId} (hf : fieldOf P t f = some p) : ∃ fs fd, P.underlying t = some (.struct fs) ∧ fs[f]? = some fd ∧ fd.offset = p.1 ∧ fd.type = p.2 := by
  unfold fieldOf at hf
  split at hf
  · rename_i fs hu
    cases hq : fs[f]? with
    | none => simp [hq] at hf
    | some fd => simp [hq] at hf; subst hf; exact ⟨fs, fd, hu, hq, rfl, rfl⟩
  · simp at hf

theorem afieldAddr_sound {t : TypeId} {x : AV} {f : Nat} {vx : Value} {k : AV → Option R} (hh : afieldAddr P t x f k = some r) (hx : Rep J β h w x vx) :
    ∃ v vc, k v = some r ∧ (Instr.fieldAt t vx f).run P w = .ok vc w ∧ Rep J β h w v vc := by
  unfold afieldAddr at hh
  obtain ⟨p, hp, h1⟩ := ub hh
  obtain ⟨n, hn, h2⟩ := ub h1
  obtain ⟨h0, h3⟩ := uc' h2
  obtain ⟨fs, fd, hu, hf, ho, ht⟩ := fieldOf_some hp
  have hn0 : n ≠ 0 := by intro e; subst e; simp at h0
  have run : ∀ a : Addr, (Instr.fieldAt t (.pointer (some a)) f).run P w = .ok (.pointer (some (a.add p.1))) w := fun a => by
    simp [Instr.fieldAt, run_underlying hu, hf, Instr.sureAddr, fieldPlace, ht, sizeT_run hn, hn0, ho]
  split at h3
  · rw [Rep, RepC] at hx
    obtain ⟨a, rfl, hj, hc⟩ := hx
    refine ⟨_, _, h3, run a, ?_⟩
    rw [Rep, RepC]
    exact ⟨_, rfl, by rw [block_add]; exact hj, add_drop hc _⟩
  · rw [Rep] at hx
    obtain ⟨y, kk, o, hy, rfl, h4⟩ := hx
    refine ⟨_, _, h3, run _, ?_⟩
    rw [Rep, Addr.add_mid]
    exact ⟨y, kk, o, hy, by rw [Nat.add_assoc], h4⟩
  · simp at h3

theorem afield_sound {t : TypeId} {x : AV} {f : Nat} {vx : Value} {k : AV → Option R} (hh : afield P t x f k = some r) (hx : Rep J β h w x vx) :
    ∃ v vc, k v = some r ∧ (Instr.field t vx f).run P w = .ok vc w ∧ Rep J β h w v vc := by
  unfold afield at hh
  obtain ⟨p, hp, h1⟩ := ub hh
  obtain ⟨fs, fd, hu, hf, ho, ht⟩ := fieldOf_some hp
  split at h1
  · rename_i c org
    rw [Rep] at hx
    obtain ⟨cs, rfl, hl, hc⟩ := hx
    obtain ⟨v, h2, h3⟩ := readT_sound (β := β) (h := h) h1 (hc.drop p.1)
    obtain ⟨vc, h4, h5⟩ := part_of_reads h3
    exact ⟨v, vc, h2, by simp [Instr.field, run_underlying hu, hf, asAgg, ht, ho, h4], h5⟩
  · rename_i c
    rw [Rep] at hx
    obtain ⟨cs, rfl, hc⟩ := hx
    rw [Reps_iff] at hc
    obtain ⟨v, h2, h3⟩ := takeT_sound (J := J) (β := β) (h := h) (w := w) (rd := fun j => cs[p.1 + j]?) h1 (fun j y hj => by
      rw [List.getElem?_drop] at hj
      have : p.1 + j < cs.length := by
        rw [hc.1]; exact (List.getElem?_eq_some_iff.1 hj).1
      exact ⟨cs[p.1 + j], List.getElem?_eq_getElem this, hc.2 _ _ _ hj (List.getElem?_eq_getElem this)⟩)
    obtain ⟨vc, h4, h5⟩ := part_of_reads h3
    exact ⟨v, vc, h2, by simp [Instr.field, run_underlying hu, hf, asAgg, ht, ho, h4], h5⟩
  · simp at h1

theorem aindex_sound {t : TypeId} {x i : AV} {vx vi : Value} {k : AV → Option R} (hh : aindex P t x i k = some r) (hx : Rep J β h w x vx) (hi : Rep J β h w i vi) :
    ∃ v vc, k v = some r ∧ (Instr.index t vx vi).run P w = .ok vc w ∧ Rep J β h w v vc := by
  unfold aindex at hh
  split at hh
  · rename_i s kd i hu
    obtain ⟨hb, h1⟩ := uc hh
    obtain ⟨h0, h2⟩ := inIdx_iff hb
    rw [Rep] at hi; rw [Rep] at hx; subst hi hx
    have hlt : i.toNat < s.length := by omega
    refine ⟨_, .int .u8 ((s.getD i.toNat 0).toNat : Int), h1, ?_, by rw [Rep]⟩
    have hg : (⟨⟨s⟩⟩ : ByteArray)[i.toNat]? = some s[i.toNat] := by
      have : i.toNat < (⟨⟨s⟩⟩ : ByteArray).size := hlt
      rw [getElem?_pos (⟨⟨s⟩⟩ : ByteArray) i.toNat this]; rfl
    simp only [Instr.index, asIntOf, Sem.run_bind, Sem.run_pure, Result.andThen_ok, run_underlying hu, h0, if_true, hg, List.getD_eq_getElem?_getD, List.getElem?_eq_getElem hlt, Option.getD_some]
  · rename_i len el c org kd i hu
    obtain ⟨sz, hs, h1⟩ := ub hh
    obtain ⟨hb, h2⟩ := uc h1
    obtain ⟨h0, h3⟩ := inIdx_iff hb
    rw [Rep] at hi; rw [Rep] at hx; subst hi
    obtain ⟨cs, rfl, hl, hc⟩ := hx
    obtain ⟨v, h4, h5⟩ := readT_sound (β := β) (h := h) h2 (hc.drop (i.toNat * sz))
    obtain ⟨vc, h6, h7⟩ := part_of_reads h5
    exact ⟨v, vc, h4, by simp [Instr.index, asIntOf, run_underlying hu, h0, h3, sizeT_run hs, h6], h7⟩
  · rename_i len el c kd i hu
    obtain ⟨sz, hs, h1⟩ := ub hh
    obtain ⟨hb, h2⟩ := uc h1
    obtain ⟨h0, h3⟩ := inIdx_iff hb
    rw [Rep] at hi; rw [Rep] at hx; subst hi
    obtain ⟨cs, rfl, hc⟩ := hx
    rw [Reps_iff] at hc
    obtain ⟨v, h4, h5⟩ := takeT_sound (J := J) (β := β) (h := h) (w := w) (rd := fun j => cs[i.toNat * sz + j]?) h2 (fun j y hj => by
      rw [List.getElem?_drop] at hj
      have : i.toNat * sz + j < cs.length := by
        rw [hc.1]; exact (List.getElem?_eq_some_iff.1 hj).1
      exact ⟨cs[i.toNat * sz + j], List.getElem?_eq_getElem this, hc.2 _ _ _ hj (List.getElem?_eq_getElem this)⟩)
    obtain ⟨vc, h6, h7⟩ := part_of_reads h5
    exact ⟨v, vc, h4, by simp [Instr.index, asIntOf, run_underlying hu, h0, h3, sizeT_run hs, h6], h7⟩
  · simp at hh
end
end Gx
