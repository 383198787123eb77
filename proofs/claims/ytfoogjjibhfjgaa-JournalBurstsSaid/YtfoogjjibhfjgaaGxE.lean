/- A part of the proof: what it holds is said at each theorem. -/
import Derived.Test.YtfoogjjibhfjgaaGxD
set_option linter.unusedVariables false
namespace Gx
open Go
section
variable {R : Type} {r : R} {P : Program} {J : Bool → Nat → Prop} {β : Beta} {h : Heap} {w : World} {g : Look}

def RepO (J : Bool → Nat → Prop) (β : Beta) (h : Heap) (w : World) : Option AV → Option Value → Prop
  | none, none => True
  | some x, some v => Rep J β h w x v
  | _, _ => False

theorem boundOf_run {o : Option AV} {vo : Option Value} {d : Nat} {i : Int} (hb : boundOf o d = some i) (ho : RepO J β h w o vo) :
    (o = none ∧ vo = none ∧ i = d) ∨ ∃ k, vo = some (.int k i) := by
  unfold boundOf at hb
  split at hb
  · simp at hb; subst hb
    cases vo with
    | none => exact .inl ⟨rfl, rfl, rfl⟩
    | some v => simp [RepO] at ho
  · rename_i k j
    simp at hb; subst hb
    cases vo with
    | none => simp [RepO] at ho
    | some v => rw [RepO, Rep] at ho; subst ho; exact .inr ⟨k, rfl⟩
  · simp at hb

theorem sliceIn_sound {lo hi mx : Option AV} {vlo vhi vmx : Option Value} {n cap : Nat} {k : Nat → Nat → Option R} {isSlice : Bool} (hh : sliceIn lo hi mx n k = some r)
    (hlo : RepO J β h w lo vlo)
    (hhi : RepO J β h w hi vhi)
    (hmx : RepO J β h w mx vmx) (hcap : n ≤ cap) :
    ∃ l hh' m, k l hh' = some r ∧ l ≤ hh' ∧ hh' ≤ n ∧ hh' ≤ m ∧ m ≤ cap ∧ (mx = none → m = cap) ∧ (∀ kd i, vmx = some (.int kd i) → (m : Int) = i) ∧ (∀ kd i, vhi = some (.int kd i) → (hh' : Int) = i) ∧ (hi = none → hh' = n) ∧
      (Instr.sliceBounds isSlice n cap vlo vhi vmx).run P w = .ok (l, hh', m) w := by
  unfold sliceIn at hh
  obtain ⟨l, h1, h2⟩ := ub hh
  obtain ⟨hi', h3, h4⟩ := ub h2
  obtain ⟨m, h5, h6⟩ := ub h4
  obtain ⟨hm, h6⟩ := uc' h6
  obtain ⟨hc, h7⟩ := uc h6
  simp at hc hm
  obtain ⟨c1, c2, c3, c4⟩ := hc
  have run : ∀ (kd : IntKind) (i : Int) (y : Nat) (code : BoundsCode), 0 ≤ i → i ≤ (y : Int) → (Instr.sliceBound (.int kd i) y code).run P w = .ok i.toNat w := fun kd i y code a b => by
    simp [Instr.sliceBound, asIntOf, a, b]
  have bl := boundOf_run (J := J) (β := β) (h := h) (w := w) h1 hlo
  have bh := boundOf_run (J := J) (β := β) (h := h) (w := w) h3 hhi
  have bm := boundOf_run (J := J) (β := β) (h := h) (w := w) h5 hmx
  rcases bm with ⟨rfl, rfl, rfl⟩ | ⟨km, rfl⟩
  · refine ⟨l.toNat, hi'.toNat, cap, h7, by omega, by omega, by omega, by omega, fun _ => rfl, by simp, ?_, ?_, ?_⟩
    · intro kd i hv
      rcases bh with ⟨_, rfl, _⟩ | ⟨kh, rfl⟩
      · simp at hv
      · simp at hv; omega
    · intro hn
      rcases bh with ⟨_, _, rfl⟩ | ⟨kh, rfl⟩
      · simp
      · subst hn; simp [RepO] at hhi
    · rcases bh with ⟨_, rfl, rfl⟩ | ⟨kh, rfl⟩ <;> rcases bl with ⟨_, rfl, rfl⟩ | ⟨kl, rfl⟩
      · simp [Instr.sliceBounds]
      · simp [Instr.sliceBounds, run _ l n _ c1 (by omega)]
      · simp [Instr.sliceBounds, run _ hi' cap _ (by omega) (by omega)]
      · simp [Instr.sliceBounds, run _ hi' cap _ (by omega) (by omega), run _ l hi'.toNat _ c1 (by omega)]
  · rcases bh with ⟨rfl, rfl, rfl⟩ | ⟨kh, rfl⟩
    · have : mx.isSome = true := by
        cases mx with
        | none => simp [RepO] at hmx
        | some _ => rfl
      have := hm this; simp at this
    · refine ⟨l.toNat, hi'.toNat, m.toNat, h7, by omega, by omega, by omega, by omega, ?_, ?_, ?_, ?_, ?_⟩
      · intro hn; subst hn; simp [RepO] at hmx
      · intro kd i hv; simp at hv; omega
      · intro kd i hv; simp at hv; omega
      · intro hn; subst hn; simp [RepO] at hhi
      · rcases bl with ⟨_, rfl, rfl⟩ | ⟨kl, rfl⟩
        · simp [Instr.sliceBounds, run _ m cap _ (by omega) (by omega), run _ hi' m.toNat _ (by omega) (by omega)]
        · simp [Instr.sliceBounds, run _ m cap _ (by omega) (by omega), run _ hi' m.toNat _ (by omega) (by omega), run _ l hi'.toNat _ c1 (by omega)]


theorem map_add {A : Option Addr} {n : Nat} : A.map (·.add n) = A.map (fun a => a.add n) := rfl

theorem aslice_sound {t : TypeId} {x : AV} {lo hi mx : Option AV} {vx : Value} {vlo vhi vmx : Option Value} {k : AV → Option R} (hl : Looks g h) (hh : aslice P g t x lo hi mx k = some r)
    (hx : Rep J β h w x vx) (hlo : RepO J β h w lo vlo) (hhi : RepO J β h w hi vhi) (hmx : RepO J β h w mx vmx) :
    ∃ v vc, k v = some r ∧ (Instr.sliceAt t vx vlo vhi vmx).run P w = .ok vc w ∧ Rep J β h w v vc := by
  unfold aslice at hh
  split at hh
  · rename_i s hu
    obtain ⟨hm, h1⟩ := uc' hh
    have hmn : mx = none := by cases mx <;> simp_all
    subst hmn
    have hv : vmx = none := by cases vmx <;> simp_all [RepO]
    subst hv
    rw [Rep] at hx; subst hx
    obtain ⟨l, hh', m, h2, h3, h4, _, _, h5, _, _, _, h6⟩ := sliceIn_sound (P := P) (isSlice := false) h1 hlo hhi (vmx := none) (by simp [RepO]) (Nat.le_refl _)
    refine ⟨_, _, h2, ?_, by rw [Rep]⟩
    have hs : (⟨⟨s⟩⟩ : ByteArray).size = s.length := rfl
    have he : (⟨⟨s⟩⟩ : ByteArray).extract l hh' = ⟨⟨(s.drop l).take (hh' - l)⟩⟩ := by
      apply ByteArray.ext
      rw [ByteArray.data_extract]
      simp
    simp [Instr.sliceAt, Instr.slice, run_underlying hu, hs, h6, he]
  · rename_i el hu
    rw [Rep] at hx; subst hx
    obtain ⟨sz, hs, hh⟩ := ub hh
    obtain ⟨l, hh', m, h2, h3, h4, h5, h6, _, _, _, _, h7⟩ := sliceIn_sound (P := P) (isSlice := true) hh hlo hhi hmx (Nat.le_refl _)
    have : l = 0 := by omega
    have : hh' = 0 := by omega
    have : m = 0 := by omega
    subst l; subst hh'; subst m
    refine ⟨_, .slice none 0 0, h2, ?_, by rw [Rep]⟩
    simp [Instr.sliceAt, Instr.slice, run_underlying hu, h7, sizeT_run hs]
  · rename_i el c n sz tight org hu
    obtain ⟨sz', hs, h1⟩ := ub hh
    obtain ⟨he, h2⟩ := uc h1
    have he' : sz' = sz := by simp at he; exact he.symm
    subst he'
    rw [Rep, RepC] at hx
    obtain ⟨hlen, A, cap, rfl, hcap, ht, hA⟩ := hx
    obtain ⟨l, hh', m, h3, h4, h5, h6, h7, h8, h9, h10, h11, h12⟩ := sliceIn_sound (P := P) (isSlice := true) h2 hlo hhi hmx hcap
    refine ⟨_, .slice (if m = l then A else A.map (·.add (l * sz'))) (hh' - l) (m - l), h3, ?_, ?_⟩
    · simp [Instr.sliceAt, Instr.slice, run_underlying hu, h12, sizeT_run hs]
    · rw [Rep, RepC]
      refine ⟨?_, _, _, rfl, by omega, ?_, ?_⟩
      · simp; rw [hlen, ← Nat.sub_mul]
        exact Nat.min_eq_left (Nat.mul_le_mul_right _ (by omega))
      · intro hti
        unfold tightOf at hti
        split at hti
        · have := ht hti
          have := h8 rfl
          have := h11 rfl
          omega
        · rename_i ka a kb b
          cases vhi with
          | none => simp [RepO] at hhi
          | some u1 => cases vmx with
            | none => simp [RepO] at hmx
            | some u2 =>
              rw [RepO, Rep] at hhi hmx; subst hhi hmx
              have e1 := h10 _ _ rfl
              have e2 := h9 _ _ rfl
              simp at hti
              omega
        · simp at hti
      · by_cases hz : hh' - l = 0
        · exact .inl hz
        · right
          rcases hA with hA | ⟨a, rfl, hj, hc⟩
          · omega
          · refine ⟨a.add (l * sz'), by rw [if_neg (by omega)]; rfl, by rw [block_add]; exact hj, (add_drop hc _).take _⟩
  · rename_i el b off n hu
    obtain ⟨sz, hs, h1⟩ := ub hh
    obtain ⟨y, hy, h2⟩ := ub h1
    obtain ⟨he, h3⟩ := uc h2
    obtain ⟨hb, hd⟩ := vblk_some hl hy
    have he' : sz = y.sz := by simpa using he
    rw [Rep] at hx
    obtain ⟨x, A, cap, hx1, rfl, hcap, hr⟩ := hx
    rw [hb] at hx1; simp at hx1; subst hx1
    obtain ⟨l, hh', m, h4, h5, h6, h7, h8, _, _, _, _, h9⟩ := sliceIn_sound (P := P) (isSlice := true) h3 hlo hhi hmx hcap
    refine ⟨_, .slice (if m = l then A else A.map (·.add (l * sz))) (hh' - l) (m - l), h4, ?_, ?_⟩
    · simp [Instr.sliceAt, Instr.slice, run_underlying hu, h9, sizeT_run hs]
    · rw [Rep]
      refine ⟨y, _, _, hb, rfl, by omega, ?_⟩
      by_cases hz : m - l = 0
      · exact .inl hz
      · right
        rcases hr with hr | ⟨kk, o, rfl, hr⟩
        · omega
        · refine ⟨kk, o, by rw [if_neg (by omega)]; simp [Addr.add_mid, Nat.add_assoc], ?_⟩
          rcases hr with hr | ⟨r1, r2, r3⟩
          · simp [hd] at hr
          · refine .inr ⟨r1, ?_, ?_⟩
            · have : l * sz + (m - l) * y.sz ≤ cap * y.sz := by
                rw [he', ← Nat.add_mul]; exact Nat.mul_le_mul_right _ (by omega)
              omega
            · have : l * sz + (hh' - l) * y.sz ≤ n * y.sz := by
                rw [he', ← Nat.add_mul]; exact Nat.mul_le_mul_right _ (by omega)
              omega
  · simp at hh

theorem alen_sound {t : TypeId} {x v : AV} {vx : Value} {ty : TypeId} (hh : alen P t x = some v) (hx : Rep J β h w x vx) :
    ∃ vc, (Builtin.len_ #[t] ty #[vx]).run P w = .ok vc w ∧ Rep J β h w v vc := by
  unfold alen at hh
  split at hh
  · rename_i hu
    simp at hh; subst hh; rw [Rep] at hx; subst hx
    exact ⟨.int .i64 0, by simp [Builtin.len_, run_underlying hu, goInt], by rw [Rep]⟩
  · rename_i n _ _ _ hu
    simp at hh; subst hh; rw [Rep, RepC] at hx
    obtain ⟨_, A, cap, rfl, _⟩ := hx
    exact ⟨.int .i64 n, by simp [Builtin.len_, run_underlying hu, goInt], by rw [Rep]⟩
  · rename_i n hu
    simp at hh; subst hh; rw [Rep] at hx
    obtain ⟨_, A, cap, _, rfl, _⟩ := hx
    exact ⟨.int .i64 n, by simp [Builtin.len_, run_underlying hu, goInt], by rw [Rep]⟩
  · rename_i s hu
    simp at hh; subst hh; rw [Rep] at hx; subst hx
    refine ⟨.int .i64 s.length, ?_, by rw [Rep]⟩
    have hs : (⟨⟨s⟩⟩ : ByteArray).size = s.length := rfl
    simp [Builtin.len_, run_underlying hu, goInt, hs]
  · rename_i n _ hu
    simp at hh; subst hh
    exact ⟨.int .i64 n, by simp [Builtin.len_, run_underlying hu, goInt], by rw [Rep]⟩
  · simp at hh

theorem RepC_one {J : Nat → Prop} : ∀ {x : AV} {u : Value}, RepC J w x u → u.oneCell' = true
  | .int .., _, hr => by rw [RepC] at hr; subst hr; rfl
  | .bool _, _, hr => by rw [RepC] at hr; subst hr; rfl
  | .str _, _, hr => by rw [RepC] at hr; subst hr; rfl
  | .nsl, _, hr => by rw [RepC] at hr; subst hr; rfl
  | .imm .., _, hr => by rw [RepC] at hr; obtain ⟨_, A, cap, rfl, _⟩ := hr; rfl
  | .iptr .., _, hr => by rw [RepC] at hr; obtain ⟨a, rfl, _⟩ := hr; rfl
  | .nilptr, _, hr => by rw [RepC] at hr; subst hr; rfl
  | .nilfn, _, hr => by rw [RepC] at hr; subst hr; rfl
  | .fn _ [], _, hr => by rw [RepC] at hr; subst hr; rfl
  | .fn _ (_ :: _), _, hr => by simp [RepC] at hr
  | .pagg .., _, hr => by simp [RepC] at hr
  | .agg _, _, hr => by simp [RepC] at hr
  | .tup _, _, hr => by simp [RepC] at hr
  | .own .., _, hr => by simp [RepC] at hr
  | .optr .., _, hr => by simp [RepC] at hr
  | .undef, _, hr => by simp [RepC] at hr

theorem RepCs.one {J : Nat → Prop} {c : List AV} {us : List Value} (hc : RepCs J w c (fun j => us[j]?) 0) (hl : us.length = c.length) : ∀ u ∈ us, u.oneCell' = true := by
  intro u hu
  obtain ⟨j, hj, rfl⟩ := List.getElem_of_mem hu
  have hj' : j < c.length := by omega
  obtain ⟨u', hu', hr⟩ := hc.at (List.getElem?_eq_getElem hj')
  simp [List.getElem?_eq_getElem hj] at hu'
  rw [hu']; exact RepC_one hr

/-- What a slice (or a string) yields, in every world that has the same cells. -/
structure Yield (P : Program) (w : World) (sz : Nat) (vx : Value) (n : Nat) (us : List Value) : Prop where
  len : ∀ w' : World, (Builtin.lenOf vx).run P w' = .ok n w'
  cells : ∀ (w' : World) (m : Nat), (∀ a, w'.cell? a = w.cell? a) → m ≤ n → (Builtin.firstCells sz m vx).run P w' = .ok (us.take (m * sz)).toArray w'
  length : us.length = n * sz

theorem elems_sound {sz : Nat} {x : AV} {vx : Value} {q : List AV × Nat × Bool} (S : SimH J β h w) (hl : Looks g h) (hh : elems g sz x = some q) (hx : Rep J β h w x vx) :
    ∃ us : List Value, Yield P w sz vx q.2.1 us ∧ q.1.length = us.length ∧ RepCs (J q.2.2) w q.1 (fun j => us[j]?) 0 := by
  have ofSlice : ∀ (a : Addr) (n cap : Nat) (us : List Value), us.length = n * sz → (∀ j u, us[j]? = some u → w.cell? (a.add j) = some u) → Yield P w sz (.slice (some a) n cap) n us := fun a n cap us hlen hu =>
    ⟨fun _ => rfl, fun w' m he hm => by
      have hle : m * sz ≤ n * sz := Nat.mul_le_mul_right _ hm
      refine run_firstCells_some (P := P) w' sz m a n cap (us.take (m * sz)) (by simp; omega) (fun j v hv => ?_)
      rw [he]
      rw [List.getElem?_take] at hv
      split at hv
      · exact hu j v hv
      · simp at hv, hlen⟩
  have ofEmpty : ∀ (A : Option Addr) (cap : Nat), Yield P w sz (.slice A 0 cap) 0 [] := fun A cap =>
    ⟨fun _ => rfl, fun w' m he hm => by
      have : m = 0 := by omega
      subst this
      cases A with
      | none => simp [run_firstCells_none]
      | some a => have := run_firstCells_some (P := P) w' sz 0 a 0 cap [] (by simp) (fun j v hv => by simp at hv); simpa using this, by simp⟩
  unfold elems at hh
  split at hh
  · simp at hh; subst hh; rw [Rep] at hx; subst hx
    exact ⟨[], ofEmpty _ _, rfl, by simp [RepCs]⟩
  · rename_i c n sz' tight org
    obtain ⟨he, h1⟩ := uc hh
    have he' : sz' = sz := by simp at he; exact he.symm
    subst he'
    simp at h1; subst h1
    rw [Rep, RepC] at hx
    obtain ⟨hlen, A, cap, rfl, hcap, ht, hA⟩ := hx
    rcases hA with rfl | ⟨a, rfl, hj, hc⟩
    · have : c = [] := by simpa using hlen
      subst this
      exact ⟨[], ofEmpty _ _, rfl, by simp [RepCs]⟩
    · obtain ⟨us, h2, h3, h4⟩ := hc.list
      exact ⟨us, ofSlice a n cap us (by rw [h2, hlen]) h3, h2.symm, h4⟩
  · rename_i b off n
    obtain ⟨y, hy, h1⟩ := ub hh
    obtain ⟨he, h2⟩ := uc h1
    obtain ⟨hb, hd⟩ := vblk_some hl hy
    simp at he h2
    obtain ⟨hp, he⟩ := he
    subst h2; subst he
    rw [Rep] at hx
    obtain ⟨x, A, cap, hx1, rfl, hcap, hr⟩ := hx
    rw [hb] at hx1; simp at hx1; subst hx1
    rcases hr with hr | ⟨kk, o, rfl, hr⟩
    · have : n = 0 := by omega
      subst this
      exact ⟨[], ofEmpty _ _, by simp, by simp [RepCs]⟩
    · rcases hr with hr | ⟨r1, r2, r3⟩
      · simp [hd] at hr
      · rcases S.blk b y hb hd with ⟨hn, _⟩ | ⟨k', o', cs, ty, fr, hβ', g1, g2, g3, g4, g5, g6⟩
        · rw [r1] at hn; simp at hn
        · rw [r1] at hβ'; simp at hβ'; obtain ⟨rfl, rfl⟩ := hβ'
          obtain ⟨us, h2, h3, h4⟩ := (((g4.1 hp).drop off).take (n * y.sz)).list
          have hlen : us.length = n * y.sz := by rw [h2]; simp; omega
          refine ⟨us, ofSlice _ n cap us hlen (fun j u hj => ?_), h2.symm, h4⟩
          have := h3 j u hj
          rw [Addr.add_mid, cell_row g1, Nat.add_assoc]; exact this
  · rename_i s
    obtain ⟨he, h1⟩ := uc hh
    simp at he h1
    subst he; subst h1
    rw [Rep] at hx; subst hx
    refine ⟨s.map fun b => .int .u8 (b.toNat : Int), ⟨fun _ => rfl, fun w' m _ hm => ?_, by simp⟩, by simp, ?_⟩
    · simp [Builtin.firstCells]
    · rw [RepCs_iff]
      intro j x hj
      simp at hj
      obtain ⟨b, hb, rfl⟩ := hj
      exact ⟨_, by simp [hb]; rfl, by rw [RepC]⟩
  · simp at hh
theorem elemsK_sound {el : TypeId} {sz : Nat} {x : AV} {vx : Value} {k : List AV × Nat × Bool → Option R} (S : SimH J β h w) (hl : Looks g h) (hh : elemsK P el g sz x k = some r) (hx : Rep J β h w x vx) :
    ∃ (q : List AV × Nat × Bool) (us : List Value), k q = some r ∧ Yield P w sz vx q.2.1 us ∧ q.1.length = us.length ∧ RepCs (J q.2.2) w q.1 (fun j => us[j]?) 0 := by
  unfold elemsK at hh
  obtain ⟨q, hq, h1⟩ := ub hh
  obtain ⟨us, Y, hul, hur⟩ := elems_sound (P := P) S hl hq hx
  obtain ⟨o, h2, h3⟩ := plainly_sound h1 hur
  exact ⟨_, us, h2, Y, hul, h3⟩
end
end Gx
