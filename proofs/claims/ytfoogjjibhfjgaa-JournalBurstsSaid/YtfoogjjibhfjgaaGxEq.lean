/- A part of the proof: what it holds is said at each theorem. -/
import Derived.Test.YtfoogjjibhfjgaaGxM
import Derived.Laws.StructEq
import Derived.ChangeKeysEq
set_option linter.unusedVariables false
namespace Gx
open Go
section
variable {R : Type} {r : R} {P : Program} {J : Bool → Nat → Prop} {β : Beta} {h : Heap} {w : World}

/-- The first n cells, read by rd. -/
def PRd (n : Nat) (x : List AV) (rd : Nat → Option Value) : Prop := ∀ j q, j < n → x[j]? = some q →
  (∀ k m, q = .int k m → rd j = some (.int k m)) ∧ (∀ b, q = .bool b → rd j = some (.bool b)) ∧ (∀ s, q = .str s → rd j = some (.string ⟨⟨s⟩⟩))

theorem PRd.drop {n m o : Nat} {x : List AV} {xs : Array Value} {ox sz : Nat} (hp : PRd sz x (fun j => xs[ox + j]?)) (ho : o + m ≤ sz) (hn : n = m) : PRd n (x.drop o) (fun j => (xs.extract ox (ox + sz))[o + j]?) := by
  subst hn
  intro j q hj hq
  rw [List.getElem?_drop] at hq
  have h1 := hp (o + j) q (by omega) hq
  have e : ∀ v, xs[ox + (o + j)]? = some v → (xs.extract ox (ox + sz))[o + j]? = some v := by
    intro v hv
    have hlt := (Array.getElem?_eq_some_iff.1 hv).1
    rw [Array.getElem?_extract, if_pos (by omega)]; exact hv
  exact ⟨fun k m hk => e _ (h1.1 k m hk), fun b hb => e _ (h1.2.1 b hb), fun s hs => e _ (h1.2.2 s hs)⟩

theorem part_cell {t : TypeId} {d : TypeDesc} {xs : Array Value} {ox : Nat} {v : Value} (hu : P.underlying t = some d) (hd : d.isRow = false) (hv : xs[ox]? = some v) : (part t xs ox).run P w = .ok v w := by
  unfold part isAgg
  simp only [Sem.run_bind, run_underlying hu, Result.andThen_ok]
  cases d <;> simp_all [TypeDesc.isRow]
theorem part_agg {t : TypeId} {d : TypeDesc} {xs : Array Value} {ox s : Nat} (hu : P.underlying t = some d) (hd : d.isRow = true) (hs : sizeT P t = some s) : (part t xs ox).run P w = .ok (.agg (xs.extract ox (ox + s))) w := by
  unfold part isAgg
  have := sizeT_run hs w
  simp only [Sem.run_bind, run_underlying hu, Result.andThen_ok]
  cases d <;> simp_all [TypeDesc.isRow]

/-- A step that compares, as the model does. -/
def StepOk (P : Program) (w : World) (D : Nat) (step : TypeId → List AV → List AV → (Bool → Option R) → Option R) : Prop :=
  ∀ (r : R) (t : TypeId) (s : Nat) (x y : List AV) (k : Bool → Option R) (xs ys : Array Value) (ox oy : Nat), sizeT P t = some s → 0 < s → step t x y k = some r → PRd s x (fun j => xs[ox + j]?) → PRd s y (fun j => ys[oy + j]?) →
    ∃ b a a', k b = some r ∧ (part t xs ox).run P w = .ok a w ∧ (part t ys oy).run P w = .ok a' w ∧ (Op.equalIn D t a a').run P w = .ok b w

theorem aeqFields_sound {D : Nat} {step : TypeId → List AV → List AV → (Bool → Option R) → Option R} (hs : StepOk P w D step) {x y : List AV} {xs ys : Array Value} {ox oy sz : Nat} (hx : PRd sz x (fun j => xs[ox + j]?)) (hy : PRd sz y (fun j => ys[oy + j]?)) :
    ∀ (fs : List Field) {k : Bool → Option R}, fs.all (okField P sz) = true → aeqFs step x y (fs.map fun f => (f.offset, f.type)) k = some r →
    ∃ b, k b = some r ∧ (Op.eqFields D (xs.extract ox (ox + sz)) (ys.extract oy (oy + sz)) fs).run P w = .ok b w
  | [], k, _, hh => ⟨true, by simpa [aeqFs] using hh, by simp [Op.eqFields]⟩
  | f :: fs, k, ho, hh => by
    rw [List.all_cons, Bool.and_eq_true] at ho
    obtain ⟨hf, ho⟩ := ho
    unfold okField at hf
    cases hsz : sizeT P f.type with
    | none => rw [hsz] at hf; simp at hf
    | some s =>
      rw [hsz] at hf
      simp only [Bool.and_eq_true, Nat.ble_eq] at hf
      obtain ⟨h1, h2, h3⟩ := hf
      have hname : f.name ≠ "_" := by simpa using h3
      rw [List.map_cons, aeqFs] at hh
      obtain ⟨b, a, a', g1, g2, g3, g4⟩ := hs r f.type s _ _ _ (xs.extract ox (ox + sz)) (ys.extract oy (oy + sz)) f.offset f.offset hsz (by omega) hh (hx.drop h2 rfl) (hy.drop h2 rfl)
      obtain ⟨c, e1, e2⟩ := aeqFields_sound hs hx hy fs ho g1
      refine ⟨b && c, e1, ?_⟩
      rw [Op.eqFields, if_pos hname]
      simp only [Sem.run_bind, g2, g3, g4, Result.andThen_ok]
      cases b with
      | false => simp
      | true => simpa using e2

theorem aeqItems_sound {D : Nat} {step : TypeId → List AV → List AV → (Bool → Option R) → Option R} (hs : StepOk P w D step) {x y : List AV} {xs ys : Array Value} {ox oy sz : Nat} {e : TypeId} {s : Nat} (hse : sizeT P e = some s) (hs0 : 0 < s) (hx : PRd sz x (fun j => xs[ox + j]?)) (hy : PRd sz y (fun j => ys[oy + j]?)) :
    ∀ (is : List Nat) {k : Bool → Option R}, (∀ i ∈ is, i * s + s ≤ sz) → aeqFs step x y (is.map fun i => (i * s, e)) k = some r →
    ∃ b, k b = some r ∧ (Op.eqItems D e s (xs.extract ox (ox + sz)) (ys.extract oy (oy + sz)) is).run P w = .ok b w
  | [], k, _, hh => ⟨true, by simpa [aeqFs] using hh, by simp [Op.eqItems]⟩
  | i :: is, k, ho, hh => by
    have h2 := ho i (by simp)
    rw [List.map_cons, aeqFs] at hh
    obtain ⟨b, a, a', g1, g2, g3, g4⟩ := hs r e s _ _ _ (xs.extract ox (ox + sz)) (ys.extract oy (oy + sz)) (i * s) (i * s) hse hs0 hh (hx.drop h2 rfl) (hy.drop h2 rfl)
    obtain ⟨c, e1, e2⟩ := aeqItems_sound hs hse hs0 hx hy is (fun j hj => ho j (by simp [hj])) g1
    refine ⟨b && c, e1, ?_⟩
    rw [Op.eqItems]
    simp only [Sem.run_bind, g2, g3, g4, Result.andThen_ok]
    cases b with
    | false => simp
    | true => simpa using e2

theorem aeqK_sound : ∀ (d D : Nat), d ≤ D → StepOk P w D (aeqK (R := R) P d)
  | 0, D, _ => fun r t s x y k xs ys ox oy hs hs0 hh => by simp [aeqK] at hh
  | d + 1, D, hD => fun r t s x y k xs ys ox oy hs hs0 hh hx hy => by
    obtain ⟨D, rfl⟩ : ∃ D', D = D' + 1 := ⟨D - 1, by omega⟩
    rw [aeqK] at hh
    split at hh
    · rename_i kd hu
      obtain ⟨u, hu1, hh⟩ := ub hh
      obtain ⟨a, ha, hh⟩ := ub hh
      obtain ⟨v, hv1, hh⟩ := ub hh
      obtain ⟨b, hb, hh⟩ := ub hh
      have ea : u = .int kd a := by
        unfold asInt at ha; split at ha
        · obtain ⟨hk, ha'⟩ := uc ha; simp [kindEq] at hk ha'; subst hk ha'; rfl
        · simp at ha
      have eb : v = .int kd b := by
        unfold asInt at hb; split at hb
        · obtain ⟨hk, hb'⟩ := uc hb; simp [kindEq] at hk hb'; subst hk hb'; rfl
        · simp at hb
      have px := (hx 0 u hs0 (by rw [← List.head?_eq_getElem?]; exact hu1)).1 kd a ea
      have py := (hy 0 v hs0 (by rw [← List.head?_eq_getElem?]; exact hv1)).1 kd b eb
      exact ⟨_, _, _, hh, part_cell hu rfl (by simpa using px), part_cell hu rfl (by simpa using py), run_equalIn_int w D t kd kd a b hu⟩
    · rename_i hu
      obtain ⟨u, hu1, hh⟩ := ub hh
      obtain ⟨a, ha, hh⟩ := ub hh
      obtain ⟨v, hv1, hh⟩ := ub hh
      obtain ⟨b, hb, hh⟩ := ub hh
      have ea : u = .bool a := by unfold asBool at ha; split at ha <;> simp_all
      have eb : v = .bool b := by unfold asBool at hb; split at hb <;> simp_all
      have px := (hx 0 u hs0 (by rw [← List.head?_eq_getElem?]; exact hu1)).2.1 a ea
      have py := (hy 0 v hs0 (by rw [← List.head?_eq_getElem?]; exact hv1)).2.1 b eb
      exact ⟨_, _, _, hh, part_cell hu rfl (by simpa using px), part_cell hu rfl (by simpa using py), run_equalIn_bool' w D t a b hu⟩
    · rename_i hu
      obtain ⟨u, hu1, hh⟩ := ub hh
      obtain ⟨a, ha, hh⟩ := ub hh
      obtain ⟨v, hv1, hh⟩ := ub hh
      obtain ⟨b, hb, hh⟩ := ub hh
      have ea : u = .str a := by unfold asStr at ha; split at ha <;> simp_all
      have eb : v = .str b := by unfold asStr at hb; split at hb <;> simp_all
      have px := (hx 0 u hs0 (by rw [← List.head?_eq_getElem?]; exact hu1)).2.2 a ea
      have py := (hy 0 v hs0 (by rw [← List.head?_eq_getElem?]; exact hv1)).2.2 b eb
      refine ⟨_, _, _, hh, part_cell hu rfl (by simpa using px), part_cell hu rfl (by simpa using py), ?_⟩
      have := run_equalIn_string w D t ⟨⟨a⟩⟩ ⟨⟨b⟩⟩ hu
      rw [this]
      simp [ByteArray.toList_eq]
    · rename_i fs hu
      obtain ⟨sz, hsz, hh⟩ := ub hh
      obtain ⟨hc, hh2⟩ := uc' hh
      simp only [Bool.or_eq_false_iff, Bool.not_eq_false'] at hc
      rw [hs] at hsz; simp at hsz; subst hsz
      obtain ⟨b, h1, h2⟩ := aeqFields_sound (aeqK_sound d D (by omega)) hx hy fs.toList hc.2 hh2
      refine ⟨b, _, _, h1, part_agg hu rfl hs, part_agg hu rfl hs, ?_⟩
      have hfo : P.fieldsOf t = fs := by simp [Program.fieldsOf, hu]
      rw [run_equalIn_struct w D t _ _ (by rw [hfo]; exact hu) hc.1, hfo]
      exact h2
    · rename_i n e hu
      obtain ⟨s', hse, hh⟩ := ub hh
      obtain ⟨sz, hsz, hh⟩ := ub hh
      obtain ⟨hc, hh2⟩ := uc hh
      simp only [Bool.and_eq_true, Nat.ble_eq] at hc
      rw [hs] at hsz; simp at hsz; subst hsz
      obtain ⟨b, h1, h2⟩ := aeqItems_sound (aeqK_sound d D (by omega)) hse (by omega) hx hy (List.range n) (fun i hi => by
        have := List.mem_range.1 hi
        have h3 : (i + 1) * s' ≤ n * s' := Nat.mul_le_mul_right _ this
        rw [Nat.succ_mul] at h3; omega) hh2
      refine ⟨b, _, _, h1, part_agg hu rfl hs, part_agg hu rfl hs, ?_⟩
      cases hi : P.info? e with
      | none => simp [sizeT, hi] at hse
      | some i =>
        have hcell : P.cellsOf e = s' := by simp [sizeT, hi] at hse; simp [Program.cellsOf, hi, hse]
        rw [run_equalIn_array w D _ _ hu hi, hcell]
        exact h2
    · simp at hh

theorem prd_pagg {c : List AV} {org : Bool} {v : Value} {a : List AV} {x : AV} (hx : cellsA x = some a) (hr : Rep J β h w x v) : ∃ cs : List Value, v = .agg ⟨cs⟩ ∧ cs.length = a.length ∧ ∀ n, PRd n a (fun j => (⟨cs⟩ : Array Value)[0 + j]?) := by
  unfold cellsA at hx
  split at hx
  · simp at hx; subst hx
    rw [Rep] at hr
    obtain ⟨cs, h1, h2, h3⟩ := hr
    refine ⟨cs, h1, h2, fun n j q _ hq => ?_⟩
    rw [RepCs_iff] at h3
    obtain ⟨u, h4, h5⟩ := h3 j q hq
    simp only [Nat.zero_add] at h4 ⊢
    refine ⟨fun k m hk => ?_, fun b hb => ?_, fun s hs => ?_⟩
    · subst hk; rw [RepC] at h5; subst h5; simpa using h4
    · subst hb; rw [RepC] at h5; subst h5; simpa using h4
    · subst hs; rw [RepC] at h5; subst h5; simpa using h4
  · simp at hx; subst hx
    rw [Rep] at hr
    obtain ⟨cs, h1, h2⟩ := hr
    rw [Reps_iff] at h2
    refine ⟨cs, h1, h2.1, fun n j q _ hq => ?_⟩
    have hlt : j < cs.length := by rw [h2.1]; exact (List.getElem?_eq_some_iff.1 hq).1
    have h5 := h2.2 j q cs[j] hq (List.getElem?_eq_getElem hlt)
    simp only [Nat.zero_add]
    refine ⟨fun k m hk => ?_, fun b hb => ?_, fun s hs => ?_⟩
    · subst hk; rw [Rep] at h5; simp [hlt, h5]
    · subst hb; rw [Rep] at h5; simp [hlt, h5]
    · subst hs; rw [Rep] at h5; simp [hlt, h5]
  · simp at hx

theorem abin2_sound {op : BinOp} {t : TypeId} {x y : AV} {k : AV → Option R} {vx vy : Value} (hh : abin2 P t op x y k = some r) (hx : Rep J β h w x vx) (hy : Rep J β h w y vy) (ox oy : Operand) :
    ∃ v vc, k v = some r ∧ (do eqGuard op t ox oy vx vy; binOp op t vx vy : Sem Value).run P w = .ok vc w ∧ Rep J β h w v vc := by
  unfold abin2 at hh
  split at hh
  · rename_i a b ha hb
    obtain ⟨s, hs, hh⟩ := ub hh
    obtain ⟨hc, hh⟩ := uc hh
    simp only [Bool.and_eq_true, Nat.ble_eq, Bool.not_eq_true'] at hc
    obtain ⟨h1, h2, h3, hrt, h4⟩ := hc
    have h2 := Nat.eq_of_beq_eq_true h2
    have h3 := Nat.eq_of_beq_eq_true h3
    obtain ⟨cs, rfl, hl, px⟩ := prd_pagg (c := []) (org := false) ha hx
    obtain ⟨cs', rfl, hl', py⟩ := prd_pagg (c := []) (org := false) hb hy
    have hg := run_eqGuard_agg w op t ox oy ⟨cs⟩ ⟨cs'⟩ h4
    have whole : ∀ (l : List Value), l.length = s → (⟨l⟩ : Array Value).extract 0 (0 + s) = ⟨l⟩ := by
      intro l hl; subst hl; simp
    have key : ∀ {kk : Bool → Option R}, aeqK P 8 t a b kk = some r → ∃ c, kk c = some r ∧ (Op.equal t (.agg ⟨cs⟩) (.agg ⟨cs'⟩)).run P w = .ok c w := by
      intro kk hk
      obtain ⟨c, u, u', e1, e2, e3, e4⟩ := aeqK_sound 8 10000 (by omega) r t s a b kk ⟨cs⟩ ⟨cs'⟩ 0 0 hs (by omega) hk (px s) (py s)
      refine ⟨c, e1, ?_⟩
      have hrow : ∃ d, P.underlying t = some d ∧ d.isRow = true := by
        unfold isRowT at hrt
        split at hrt
        · rename_i fs hu; exact ⟨_, hu, rfl⟩
        · rename_i n e hu; exact ⟨_, hu, rfl⟩
        · simp at hrt
      obtain ⟨d, hu, hd⟩ := hrow
      rw [part_agg hu hd hs, whole cs (by omega)] at e2
      rw [part_agg hu hd hs, whole cs' (by omega)] at e3
      simp only [Result.ok.injEq, and_true] at e2 e3
      subst e2 e3
      exact e4
    split at hh
    · obtain ⟨c, e1, e2⟩ := key hh
      refine ⟨_, .bool c, e1, ?_, by rw [Rep]⟩
      simp only [Sem.run_bind, hg, Result.andThen_ok, binOp, e2, Sem.run_pure]
    · obtain ⟨c, e1, e2⟩ := key hh
      refine ⟨_, .bool (!c), e1, ?_, by rw [Rep]⟩
      simp only [Sem.run_bind, hg, Result.andThen_ok, binOp, e2, Sem.run_pure]
    · simp at hh
  · exact abin_sound hh hx hy ox oy
end
end Gx
