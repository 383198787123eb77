/- A part of the proof: what it holds is said at each theorem. -/
import Derived.Test.YtfoogjjibhfjgaaGxA
set_option linter.unusedVariables false
namespace Gx
open Go

/-- The cells of a block, read by rd. -/
def CellsRep (J : Bool → Nat → Prop) (β : Beta) (h : Heap) (w : World) (x : Blk) (rd : Nat → Option Value) : Prop :=
  (x.pure = true → RepCs (J x.taint) w x.cells rd 0) ∧
  (x.pure = false → ∀ j c, x.cells[j]? = some c → ∃ u, rd j = some u ∧ Rep J β h w c u ∧ u.oneCell' = true)

/-- No cell of a block of n cells is frozen. -/
def FrOk (n : Nat) (fr : Nat × Nat) : Prop := fr.1 = fr.2 ∨ n ≤ fr.1
theorem FrOk.at {n : Nat} {fr : Nat × Nat} (h : FrOk n fr) (j : Nat) (hj : j < n) : ¬ (fr.1 ≤ j ∧ j < fr.2) := by rcases h with h | h <;> omega

def BlkRep (J : Bool → Nat → Prop) (β : Beta) (h : Heap) (w : World) (b : Nat) (x : Blk) : Prop :=
  (β b = none ∧ x.cells = []) ∨ ∃ k o cs ty fr, β b = some (k, o) ∧ w.heap[k]? = some (.cells cs ty fr) ∧
    FrOk cs.size fr ∧ o + x.cells.length ≤ cs.size ∧ CellsRep J β h w x (fun j => cs[o + j]?) ∧
    (x.sealed = false → ∀ g, ¬ J g k) ∧ (x.sealed = true → J x.taint k)

structure SimH (J : Bool → Nat → Prop) (β : Beta) (h : Heap) (w : World) : Prop where
  jlt : ∀ o k, J o k → k < w.heap.size
  jft : ∀ k, J false k → J true k
  blk : ∀ b x, hget h b = some x → x.dead = false → BlkRep J β h w b x
  sep : ∀ b b' x x' k o o', hget h b = some x → hget h b' = some x' → x.dead = false → x'.dead = false → x.sealed = false → β b = some (k, o) → β b' = some (k, o') → b = b'

mutual
theorem rep_ofV {J : Bool → Nat → Prop} {β : Beta} {h : Heap} {w : World} : ∀ v : Value, Rep J β h w (ofV v) v
  | .int .. => by simp [ofV, Rep]
  | .bool _ => by simp [ofV, Rep]
  | .string ⟨⟨s⟩⟩ => by simp [ofV, Rep]
  | .slice none 0 0 => by simp [ofV, Rep]
  | .slice none 0 (_ + 1) => by simp [ofV, Rep]
  | .slice none (_ + 1) _ => by simp [ofV, Rep]
  | .slice (some _) _ _ => by simp [ofV, Rep]
  | .pointer none => by simp [ofV, Rep]
  | .pointer (some _) => by simp [ofV, Rep]
  | .nilFunc => by simp [ofV, Rep]
  | .agg ⟨cs⟩ => by rw [ofV, Rep]; exact ⟨cs, rfl, reps_ofVs cs⟩
  | .float .. => by simp [ofV, Rep]
  | .complex .. => by simp [ofV, Rep]
  | .map _ => by simp [ofV, Rep]
  | .chan _ => by simp [ofV, Rep]
  | .func .. => by simp [ofV, Rep]
  | .iface .. => by simp [ofV, Rep]
  | .nilIface => by simp [ofV, Rep]
  | .tuple _ => by simp [ofV, Rep]
theorem reps_ofVs {J : Bool → Nat → Prop} {β : Beta} {h : Heap} {w : World} : ∀ cs : List Value, Reps J β h w (ofVs cs) cs
  | [] => by simp [ofVs, Reps]
  | v :: r => by rw [ofVs, Reps]; exact ⟨v, r, rfl, rep_ofV v, reps_ofVs r⟩
end

/-- Slots against the frame. -/
structure SimS (J : Bool → Nat → Prop) (β : Beta) (h : Heap) (w : World) (s : Slots) (t : Array Value) : Prop where
  slot : ∀ i v, t[i]? = some v → Rep J β h w (sget s i) v
  out : ∀ i, t.size ≤ i → sget s i = .undef

theorem rep_ev {J : Bool → Nat → Prop} {β : Beta} {h : Heap} {w : World} {s : Slots} {a : Act} (H : SimS J β h w s a.tmps) (x : Operand) : Rep J β h w (ev s x) (a.eval x) := by
  cases x with
  | tmp t =>
    rw [ev, Act.eval, Array.getD_eq_getD_getElem?]
    cases ht : a.tmps[t]? with
    | some v => exact H.slot t v ht
    | none =>
      have : a.tmps.size ≤ t := by simpa using ht
      rw [H.out t this]; simp [Rep]
  | const v => exact rep_ofV v
  | global g => simp [ev, Rep]
  | func f => simp [ev, Rep, Act.eval, Reps]

/- Binary operations. -/
section
variable {R : Type} {r : R} {P : Program} {J : Bool → Nat → Prop} {β : Beta} {h : Heap} {w : World}

theorem intBin_sound {t : TypeId} {op : BinOp} {k : IntKind} {a b : Int} {v : AV} (hv : intBin op k a b = some v) :
    ∃ vc, (binOp op t (.int k a) (.int k b)).run P w = .ok vc w ∧ Rep J β h w v vc := by
  cases op <;> simp [intBin] at hv <;> subst hv <;> simp [binOp, Op.intArith, Op.intBits, Op.intCmp, Rep]

theorem abin_sound {op : BinOp} {t : TypeId} {x y : AV} {k : AV → Option R} {vx vy : Value} (hh : abin P t op x y k = some r) (hx : Rep J β h w x vx) (hy : Rep J β h w y vy) (ox oy : Operand) :
    ∃ v vc, k v = some r ∧ (do eqGuard op t ox oy vx vy; binOp op t vx vy : Sem Value).run P w = .ok vc w ∧ Rep J β h w v vc := by
  unfold abin at hh
  split at hh
  · rename_i k1 a k2 b
    rw [Rep] at hx hy; subst hx hy
    have hg : (eqGuard op t ox oy (.int k1 a) (.int k2 b)).run P w = .ok () w := by
      unfold eqGuard; cases op <;> simp
    split at hh
    · cases hb : decide (b < 0) <;> rw [hb] at hh <;> simp at hh hb
      refine ⟨_, _, hh, ?_, by rw [Rep]⟩
      simp [hg, binOp, Op.shift]; intro hc; omega
    · cases hb : decide (b < 0) <;> rw [hb] at hh <;> simp at hh hb
      refine ⟨_, _, hh, ?_, by rw [Rep]⟩
      simp [hg, binOp, Op.shift]; intro hc; omega
    · cases hk : kindEq k1 k2 <;> rw [hk] at hh <;> simp at hh
      have hk' : k1 = k2 := by simpa [kindEq] using hk
      subst hk'
      cases hb : (b == 0) <;> rw [hb] at hh <;> simp at hh hb
      refine ⟨_, _, hh, ?_, by rw [Rep]⟩
      simp [hg, binOp, Op.intDiv, hb]
    · cases hk : kindEq k1 k2 <;> rw [hk] at hh <;> simp at hh
      have hk' : k1 = k2 := by simpa [kindEq] using hk
      subst hk'
      cases hb : (b == 0) <;> rw [hb] at hh <;> simp at hh hb
      refine ⟨_, _, hh, ?_, by rw [Rep]⟩
      simp [hg, binOp, Op.intDiv, hb]
    · cases hk : kindEq k1 k2 <;> rw [hk] at hh <;> simp at hh
      have hk' : k1 = k2 := by simpa [kindEq] using hk
      subst hk'
      cases hi : intBin op k1 a b with
      | none => rw [hi] at hh; simp at hh
      | some v =>
        rw [hi] at hh
        obtain ⟨vc, h1, h2⟩ := intBin_sound (P := P) (J := J) (β := β) (h := h) (w := w) (t := t) hi
        exact ⟨v, vc, by simpa using hh, by simp [hg, h1], h2⟩
  · rename_i a b
    rw [Rep] at hx hy; subst hx hy
    split at hh
    · cases hb : isBoolT P t <;> rw [hb] at hh <;> simp at hh
      have ht : P.underlying t = some .bool := by unfold isBoolT at hb; split at hb <;> simp_all
      refine ⟨_, _, hh, ?_, by rw [Rep]⟩
      have he : (Op.equal t (.bool a) (.bool b)).run P w = .ok (a == b) w := by
        have : ∀ d, (Op.equalIn (d + 1) t (.bool a) (.bool b)).run P w = .ok (a == b) w := fun d => by
          unfold Op.equalIn; simp only [Sem.run_bind, run_underlying ht, Result.andThen_ok, Sem.run_pure]
        exact this 9999
      have hg : ∀ op, (eqGuard op t ox oy (.bool a) (.bool b)).run P w = .ok () w := fun op => by unfold eqGuard; cases op <;> simp
      simp only [Sem.run_bind, hg, Result.andThen_ok, binOp, he, Sem.run_pure]
    · cases hb : isBoolT P t <;> rw [hb] at hh <;> simp at hh
      have ht : P.underlying t = some .bool := by unfold isBoolT at hb; split at hb <;> simp_all
      refine ⟨_, _, hh, ?_, by rw [Rep]⟩
      have he : (Op.equal t (.bool a) (.bool b)).run P w = .ok (a == b) w := by
        have : ∀ d, (Op.equalIn (d + 1) t (.bool a) (.bool b)).run P w = .ok (a == b) w := fun d => by
          unfold Op.equalIn; simp only [Sem.run_bind, run_underlying ht, Result.andThen_ok, Sem.run_pure]
        exact this 9999
      have hg : ∀ op, (eqGuard op t ox oy (.bool a) (.bool b)).run P w = .ok () w := fun op => by unfold eqGuard; cases op <;> simp
      simp only [Sem.run_bind, hg, Result.andThen_ok, binOp, he, Sem.run_pure]
    · simp at hh
  · rename_i a b
    rw [Rep] at hx hy; subst hx hy
    have ea : (⟨⟨a⟩⟩ : ByteArray).toList = a := by simp [ByteArray.toList_eq]
    have eb : (⟨⟨b⟩⟩ : ByteArray).toList = b := by simp [ByteArray.toList_eq]
    have hg : ∀ op, (eqGuard op t ox oy (.string ⟨⟨a⟩⟩) (.string ⟨⟨b⟩⟩)).run P w = .ok () w := fun op => by unfold eqGuard; cases op <;> simp
    split at hh
    · cases hb : Nat.ble (a.length + b.length) 140737488355328 <;> rw [hb] at hh <;> simp at hh hb
      refine ⟨_, _, hh, ?_, by rw [Rep]⟩
      have hl : ¬ (((⟨⟨a⟩⟩ : ByteArray).size + (⟨⟨b⟩⟩ : ByteArray).size : Nat) : Int) > IntKind.i64.max := by
        show ¬ ((a.length + b.length : Nat) : Int) > 9223372036854775807
        omega
      have ec : (⟨⟨a⟩⟩ : ByteArray) ++ ⟨⟨b⟩⟩ = ⟨⟨a ++ b⟩⟩ := by
        apply ByteArray.ext; simp [ByteArray.data_append]
      simp only [Sem.run_bind, hg, Result.andThen_ok, binOp, Op.stringOp, if_neg hl, Sem.run_pure, ec]
    all_goals first
      | (refine ⟨_, _, hh, ?_, by rw [Rep]⟩; simp only [Sem.run_bind, hg, Result.andThen_ok, binOp, Op.stringOp, Sem.run_pure, ea, eb]; done)
      | simp at hh
  · simp at hh
end
end Gx
