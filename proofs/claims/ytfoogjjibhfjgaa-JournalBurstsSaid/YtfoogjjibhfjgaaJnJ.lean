/- A part of the proof: what it holds is said at each theorem. -/
import Derived.Test.YtfoogjjibhfjgaaJnI
set_option linter.unusedVariables false
namespace Gx
open Go Jn
def Light (a : List (List UInt8)) : Prop := a.length ≤ 12 ∧ ∀ c ∈ a, c.length ≤ 200
theorem Light.dlen {a : List (List UInt8)} (h : Light a) : (diskFrom 0 a).length ≤ 2592 := by
  have h1 := diskFrom_len a 0 200 h.2
  have h2 : a.length * (16 + 200) ≤ 12 * 216 := Nat.mul_le_mul h.1 (by omega)
  omega
theorem Light.take {a : List (List UInt8)} (h : Light a) (i : Nat) : Light (a.take i) := ⟨by simp; have := h.1; omega, fun c hc => h.2 c (List.mem_of_mem_take hc)⟩
theorem take_snoc' {a : List (List UInt8)} {i : Nat} (h : i < a.length) : a.take (i + 1) = a.take i ++ [a[i]] := List.take_succ_eq_append_getElem h
theorem lists_at {a : List (List UInt8)} {i : Nat} (h : i < a.length) : List.drop (i * 1) (listsAV a) = .imm (bytesAV a[i]) a[i].length 1 false false :: listsAV (a.drop (i + 1)) := by
  rw [Nat.mul_one, listsAV, ← List.map_drop, List.drop_eq_getElem_cons h]; rfl
section
variable {R : Type}

theorem disk_loop (N : Nat) (r0 : Nat → List AV → Option R) (a : List (List UInt8)) (t0 o0 : Bool) (ha : Light a) (hN : 3000 < N) (hN2 : N < 9223372036854775807) : ∀ (f i : Nat), i ≤ a.length → a.length - i < f →
    law44_disk_q0 N r0 (listsAV a) a.length t0 o0 f (diskFrom 0 (a.take i)).length i (bytesAV (diskFrom 0 (a.take i))) = r0 (diskFrom 0 a).length (bytesAV (diskFrom 0 a))
  | 0, i, hi, hf => by omega
  | f + 1, i, hi, hf => by
    have hl := (ha.take i).dlen
    have h12 := ha.1
    rw [law44_disk_q0, law44_disk_q0B]
    by_cases h8 : i < a.length
    · have hc := ha.2 a[i] (List.getElem_mem h8)
      rw [ct (by simp; omega), ct (inIdx_nat h8), Int.toNat_natCast, lists_at h8, rdL_cons, refRecord_spec N a[i] i false o0 (by omega) (by omega) (by omega) (by omega) hN2, ct (by simp; omega)]
      have := disk_loop N r0 a t0 o0 ha hN hN2 f (i + 1) (by omega) (by omega)
      rw [take_snoc' h8, diskFrom_snoc, Nat.zero_add, List.length_take, Nat.min_eq_left (by omega), List.length_append, record_len] at this
      rw [show ((i : Int) + 1) = ((i + 1 : Nat) : Int) by omega, wrap_i64 _ (by omega), Nat.mul_one, take_bytes (Nat.le_refl _), Nat.mul_one, take_bytes (by rw [record_len]; omega), bytesAV_append]
      exact this
    · have : i = a.length := by omega
      subst this
      rw [cf (by simp), List.take_length]
theorem disk_spec (N : Nat) (a : List (List UInt8)) (t0 o0 : Bool) (ha : Light a) (hN : 3000 < N) (hN2 : N < 9223372036854775807) (k : Nat → List AV → Option R) : law44_disk N (listsAV a) a.length t0 o0 k = k (diskFrom 0 a).length (bytesAV (diskFrom 0 a)) := by
  rw [law44_disk_def, law44_diski, law44_diskB]
  have h12 := ha.1
  have := disk_loop N k a t0 o0 ha hN hN2 N 0 (by omega) (by omega)
  exact this

theorem Keeps_loop (N : Nat) (r0 : Bool → Option R) (a : List (List UInt8)) (tl : List UInt8) (t0 o0 t1 o1 : Bool) (ha : Light a) (htl : tl.length ≤ 3) (hN : 3000000 < N) (hN2 : N < 9223372036854775807) : ∀ (f i : Nat), i ≤ a.length → a.length - i < f →
    law44_JournalKeeps_q1 N r0 (listsAV a) a.length t0 o0 (bytesAV tl) tl.length t1 o1 f (diskFrom 0 (a.take i)).length i (bytesAV (diskFrom 0 (a.take i))) = r0 true
  | 0, i, hi, hf => by omega
  | f + 1, i, hi, hf => by
    have hl := (ha.take i).dlen
    have h12 := ha.1
    have hti := ha.take i
    have hti1 := hti.1
    rw [law44_JournalKeeps_q1, law44_JournalKeeps_q1B]
    have hr : recov 1024 0 (diskFrom 0 (a.take i) ++ tl) = (a.take i, (diskFrom 0 (a.take i)).length) := recov_whole (a.take i) tl (by omega) (fun c hc => by have := hti.2 c hc; omega) (.inl (valid_short _ _ (by omega)))
    have hll : (diskFrom 0 (a.take i)).length + tl.length = (diskFrom 0 (a.take i) ++ tl).length := by simp
    rw [Nat.zero_add]
    have hbytes : List.take (((diskFrom 0 (a.take i)).length + tl.length) * 1) (List.take ((diskFrom 0 (a.take i)).length * 1) (List.take ((diskFrom 0 (a.take i)).length * 1) (bytesAV (diskFrom 0 (a.take i)))) ++ bytesAV tl) = bytesAV (diskFrom 0 (a.take i) ++ tl) := by
      rw [Nat.mul_one, Nat.mul_one, take_bytes (Nat.le_refl _), take_bytes (Nat.le_refl _), bytesAV_append, take_bytes (by simp)]
    rw [hbytes, hll]
    by_cases h8 : i < a.length
    · have hc := ha.2 a[i] (List.getElem_mem h8)
      have hmin : (a.take i).length = i := by simp; omega
      rw [ct (by simp; omega), ct (by simp; omega), plainZ_bytes, ct (by simp), ct (by simp; omega), ct (inIdx_nat h8), Int.toNat_natCast, lists_at h8, rdL_cons, Append_spec N _ a[i] false true false o0 hN hN2 (by simp; omega), hr]
      dsimp only
      rw [if_neg (by omega), hmin, if_neg (by omega), cf (by simp), List.take_left]
      have := Keeps_loop N r0 a tl t0 o0 t1 o1 ha htl hN hN2 f (i + 1) (by omega) (by omega)
      rw [take_snoc' h8, diskFrom_snoc, Nat.zero_add, hmin, List.length_append, record_len] at this
      rw [show ((i : Int) + 1) = ((i + 1 : Nat) : Int) by omega, wrap_i64 _ (by omega), show (diskFrom 0 (List.take i a)).length + 16 + a[i].length = (diskFrom 0 (List.take i a)).length + (16 + a[i].length) by omega]
      exact this
    · have hi' : i = a.length := by omega
      rw [cf (by simp; omega), ct (by simp; omega), plainZ_bytes, ct (by simp), ct (by simp; omega), Recover_spec N _ false true hN hN2 (by simp; omega), hr]
      dsimp only
      rw [awake_spec N (by omega) hN2, ct (by rfl), ct (by simp), Same_spec N _ a false false false o0 (by omega) hN2]
      subst hi'
      simp

theorem JournalKeeps_true (N : Nat) (a : List (List UInt8)) (t0 o0 : Bool) (tl : List UInt8) (t1 o1 : Bool) (hN : 3000000 < N) (hN2 : N < 9223372036854775807) (k : Bool → Option R) :
    law44_JournalKeeps N (listsAV a) a.length t0 o0 (bytesAV tl) tl.length t1 o1 k = k true := by
  rw [law44_JournalKeeps_def, law44_JournalKeepsi, law44_JournalKeepsB, light_spec N a false o0 (by omega)]
  by_cases h : a.length ≤ 12 ∧ ∀ c ∈ a, c.length ≤ 200
  · rw [decide_eq_true h, ct (by rfl)]
    by_cases h3 : 3 < tl.length
    · rw [ct (by simp; omega)]
    · rw [cf (by simp; omega), law44_JournalKeeps_q0, law44_JournalKeeps_q0B]
      have h12 := h.1
      exact Keeps_loop N k a tl t0 o0 t1 o1 h (by omega) hN hN2 N 0 (by omega) (by omega)
  · rw [decide_eq_false h, cf (by rfl)]
end
end Gx
