/- A part of the proof: what it holds is said at each theorem. -/
import Derived.Test.YtfoogjjibhfjgaaJnR
import Derived.Test.YtfoogjjibhfjgaaJnM
import Derived.Test.YtfoogjjibhfjgaaJnN
set_option linter.unusedVariables false
/- The twin of JournalBursts answers true. -/
namespace Gx
open Go Jn
section
variable {R : Type}
theorem Bursts_tail (N : Nat) (r0 : Bool → Option R) (a : List (List UInt8)) (E : List UInt8) (o0 : Bool) (p i : Nat) (ha : Light a) (hi : i < a.length)
    (hE : E.length = (diskFrom 0 a).length) (hp : (diskFrom 0 (a.take i)).length ≤ p) (hp2 : p < (diskFrom 0 (a.take i)).length + (16 + a[i].length)) (hB : Burst E p) (hN : 3000000 < N) (hN2 : N < 9223372036854775807) :
    (journal_Recover_v2 N (List.take ((diskFrom 0 a).length * 1) (bytesAV (xorL (diskFrom 0 a) E))) (diskFrom 0 a).length false true (fun y16 y17 y18 => (law44_awake N (fun y19 => (cond (y19 == true) (cond ((cond true (y18 == (((diskFrom 0 (a.take i)).length : Nat) : Int)) false) == true) (cond ((decide ((0 : Int) ≤ (0 : Int))) && ((decide ((0 : Int) ≤ (i : Int))) && ((decide ((i : Int) ≤ ((a.length : Nat) : Int))) && (decide (((a.length : Nat) : Int) ≤ ((a.length : Nat) : Int)))))) (ref44_Same N y16 y17 false false (List.take ((Int.toNat (i : Int)) * 1) (listsAV a)) (Int.toNat (i : Int)) false o0 (fun y20 => (r0 (cond true y20 false)))) none) (r0 false)) (r0 false)))))) = r0 true := by
  have hl := ha.dlen
  have h12 := ha.1
  have hx := xorL_length _ _ hE.symm
  have hs := Recover_spec (R := R) N (xorL (diskFrom 0 a) E) false true hN hN2 (by omega)
  rw [hx] at hs
  rw [Nat.mul_one, take_bytes (by omega), hs]
  have hsp : a.take i ++ a[i] :: a.drop (i + 1) = a := by rw [← List.drop_eq_getElem_cons hi, List.take_append_drop]
  have hr := recov_burst (a.take i) (a.drop (i + 1)) a[i] E p (by rw [hsp]; omega) (by rw [hsp]; intro x hx; have := ha.2 x hx; omega) (by rw [hsp]; exact hE) hp hp2 hB
  rw [hsp] at hr
  rw [hr]
  dsimp only
  rw [awake_spec N (by omega) hN2, ct (by rfl), ct (by simp), ct (by simp; omega), Int.toNat_natCast, Nat.mul_one, listsAV_take]
  have hs2 := Same_spec N (a.take i) (a.take i) false false false o0 (by rw [List.length_take]; omega) hN2 (fun y => r0 (cond true y false))
  rw [List.length_take, Nat.min_eq_left (by omega)] at hs2
  rw [List.length_take, Nat.min_eq_left (by omega), hs2]
  simp
theorem Bursts_q4 (N : Nat) (r0 : Bool → Option R) (a : List (List UInt8)) (E : List UInt8) (t0 o0 : Bool) (p : Nat) (ha : Light a)
    (hE : E.length = (diskFrom 0 a).length) (hp2 : p < (diskFrom 0 a).length) (hB : Burst E p) (hN : 3000000 < N) (hN2 : N < 9223372036854775807) : ∀ (f i : Nat), i ≤ a.length → a.length - i < f → (diskFrom 0 (a.take i)).length ≤ p →
    law44_JournalBursts_q4 N r0 (listsAV a) a.length t0 o0 (p : Int) (diskFrom 0 a).length f (i : Int) (((diskFrom 0 (a.take i)).length : Nat) : Int) (bytesAV (xorL (diskFrom 0 a) E)) = r0 true
  | 0, i, hi, hf, hp => by omega
  | f + 1, i, hi, hf, hp => by
    have hl := ha.dlen
    have h12 := ha.1
    rw [law44_JournalBursts_q4, law44_JournalBursts_q4B]
    by_cases h8 : i < a.length
    · have h200 := ha.2 a[i] (List.getElem_mem h8)
      have hnext : (diskFrom 0 (a.take (i + 1))).length = (diskFrom 0 (a.take i)).length + 16 + a[i].length := by
        rw [take_snoc' h8, diskFrom_snoc, List.length_append, record_len]; omega
      have e1 : IntKind.wrap .i64 ((IntKind.wrap .i64 ((((diskFrom 0 (a.take i)).length : Nat) : Int) + 16)) + ((a[i].length : Nat) : Int)) = (((diskFrom 0 (a.take (i + 1))).length : Nat) : Int) := by
        rw [wrap_i64 (_ + 16) (by omega), wrap_i64 _ (by omega)]; omega
      rw [ct (by simp; omega), ct (inIdx_nat h8), Int.toNat_natCast, lists_at h8, rdL_cons, e1]
      by_cases hle : (diskFrom 0 (a.take (i + 1))).length ≤ p
      · rw [ct (by simp; omega), ct (inIdx_nat h8), rdL_cons, e1, show ((i : Int) + 1) = ((i + 1 : Nat) : Int) by omega, wrap_i64 _ (by omega)]
        exact Bursts_q4 N r0 a E t0 o0 p ha hE hp2 hB hN hN2 f (i + 1) (by omega) (by omega) hle
      · rw [cf (by simp; omega)]
        exact Bursts_tail N r0 a E o0 p i ha h8 hE hp (by omega) hB hN hN2
    · have : i = a.length := by omega
      subst this
      rw [List.take_length] at hp
      omega
theorem xorL_set (d E : List UInt8) (k : Nat) (y : UInt8) (hd : d.length = E.length) (hk : k < E.length) (h0 : E[k] = 0) :
    (xorL d E).set k ((xorL d E)[k]'(by rw [xorL_length _ _ hd]; omega) ^^^ y) = xorL d (E.set k y) := by
  apply List.ext_getElem
  · simp [xorL]
  · intro i h1 h2
    simp only [xorL, List.getElem_set, List.getElem_zipWith]
    by_cases h : k = i
    · subst h; simp [h0]
    · simp [h]
/-- The change so far: j of the bytes of B from place p in D. -/
def errs (p : Nat) (B : List UInt8) (D j : Nat) : List UInt8 := List.replicate p 0 ++ (B.take j ++ List.replicate (D - p - j) 0)
theorem errs_len {p D j : Nat} {B : List UInt8} (hj : j ≤ B.length) (hp : p + j ≤ D) : (errs p B D j).length = D := by
  simp [errs, Nat.min_eq_left hj]; omega
theorem errs_at {p D j : Nat} {B : List UInt8} (hj : j ≤ B.length) (hp : p + j < D) : (errs p B D j)[p + j]'(by rw [errs_len hj (by omega)]; exact hp) = 0 := by
  simp [errs, List.getElem_append, Nat.min_eq_left hj]
theorem errs_set {p D j : Nat} {B : List UInt8} (hj : j < B.length) (hp : p + j < D) : (errs p B D j).set (p + j) B[j] = errs p B D (j + 1) := by
  obtain ⟨m, hm⟩ : ∃ m, D - p - j = m + 1 := ⟨D - p - j - 1, by omega⟩
  rw [errs, errs, hm, show D - p - (j + 1) = m by omega, List.set_append_right _ _ (by simp), List.length_replicate, show p + j - p = j by omega, List.set_append_right _ _ (by rw [List.length_take]; omega), List.length_take, Nat.min_eq_left (by omega), Nat.sub_self, List.replicate_succ, List.set_cons_zero, List.take_succ_eq_append_getElem hj, List.append_assoc (List.take j B)]
  rfl
theorem errs_burst {p D j : Nat} {x : UInt8} {B : List UInt8} (hx : x ≠ 0) (hB : B.length ≤ 3) : Burst (errs p (x :: B) D (j + 1)) p :=
  ⟨x, B.take j, D - p - (j + 1), hx, by rw [List.length_take]; omega, by rw [errs, List.take_succ_cons]⟩
theorem Bursts_q2 (N : Nat) (r0 : Bool → Option R) (a : List (List UInt8)) (b : List UInt8) (t0 o0 o2 : Bool) (p g : Nat) (ha : Light a) (hb : b.length = 4) (hg : g < 4) (h0 : b[g] ≠ 0)
    (hp2 : p < (diskFrom 0 a).length) (hN : 3000000 < N) (hN2 : N < 9223372036854775807) : ∀ (f j : Nat), g + j ≤ 4 → 4 - (g + j) < f → p + j ≤ (diskFrom 0 a).length →
    law44_JournalBursts_q2 N r0 (listsAV a) a.length t0 o0 (p : Int) (diskFrom 0 a).length (g : Int) o2 (bytesAV b) f ((g + j : Nat) : Int) (bytesAV (xorL (diskFrom 0 a) (errs p (b.drop g) (diskFrom 0 a).length j))) = r0 true
  | 0, j, hi, hf, hp => by omega
  | f + 1, j, hi, hf, hp => by
    have hl := ha.dlen
    have h12 := ha.1
    have hdl : (b.drop g).length = 4 - g := by rw [List.length_drop, hb]
    have hend : 0 < j → law44_JournalBursts_q4 N r0 (listsAV a) a.length t0 o0 (p : Int) (diskFrom 0 a).length N (0 : Int) (0 : Int) (bytesAV (xorL (diskFrom 0 a) (errs p (b.drop g) (diskFrom 0 a).length j))) = r0 true := by
      intro hj
      obtain ⟨i, rfl⟩ : ∃ i, j = i + 1 := ⟨j - 1, by omega⟩
      refine Bursts_q4 N r0 a _ t0 o0 p ha (errs_len (by omega) hp) hp2 ?_ hN hN2 N 0 (by omega) (by omega) (by simp [diskFrom])
      rw [List.drop_eq_getElem_cons (by omega)]
      exact errs_burst h0 (by rw [List.length_drop]; omega)
    have hD := Nat.le_refl (diskFrom 0 a).length
    rw [law44_JournalBursts_q2, law44_JournalBursts_q2B]
    by_cases h4 : g + j < 4
    · have e1 : IntKind.wrap .i64 ((IntKind.wrap .i64 ((p : Int) + ((g + j : Nat) : Int))) - (g : Int)) = ((p + j : Nat) : Int) := by
        rw [wrap_i64 (_ + _) (by omega), wrap_i64 _ (by omega)]; omega
      rw [ct (by simp; omega), e1]
      by_cases hpj : p + j < (diskFrom 0 a).length
      · rw [ct (by simp; omega), law44_JournalBursts_q3, law44_JournalBursts_q3B, e1, ct (inIdx_nat hpj), Int.toNat_natCast, Nat.mul_one, Nat.zero_add]
        have hel := errs_len (p := p) (B := b.drop g) (j := j) (by omega) (Nat.le_of_lt hpj)
        have hxl := xorL_length (diskFrom 0 a) _ hel.symm
        rw [rdI_bytes (by omega), ct (inIdx_nat h4), Int.toNat_natCast, Nat.mul_one, Nat.zero_add, rdI_bytes (by omega), ct (inIdx_nat hpj), ct (by simp [bytesAV_length]; omega),
          bitXor_nat rfl (UInt8.toNat_lt _) (UInt8.toNat_lt _), ← UInt8.toNat_xor, bytes_set]
        have hset := xorL_set (diskFrom 0 a) (errs p (b.drop g) (diskFrom 0 a).length j) (p + j) (b[g + j]) hel.symm (by omega) (errs_at (by omega) hpj)
        have hes : (errs p (b.drop g) (diskFrom 0 a).length j).set (p + j) b[g + j] = errs p (b.drop g) (diskFrom 0 a).length (j + 1) := by
          rw [← errs_set (by omega) hpj, List.getElem_drop]
        rw [hset, hes, show (((g + j : Nat) : Int) + 1) = ((g + (j + 1) : Nat) : Int) by omega, wrap_i64 _ (by omega)]
        exact Bursts_q2 N r0 a b t0 o0 o2 p g ha hb hg h0 hp2 hN hN2 f (j + 1) (by omega) (by omega) (by omega)
      · rw [cf (by simp; omega)]
        exact hend (by omega)
    · rw [cf (by simp; omega)]
      exact hend (by omega)
theorem Bursts_q1 (N : Nat) (r0 : Bool → Option R) (a : List (List UInt8)) (b : List UInt8) (t0 o0 o2 : Bool) (i1 : Int) (ha : Light a) (hb : b.length = 4) 
    (hp2 : 0 < (diskFrom 0 a).length) (hN : 3000000 < N) (hN2 : N < 9223372036854775807) : ∀ (f g : Nat), g ≤ 4 → 4 - g < f → (∃ j, ∃ h : j < 4, g ≤ j ∧ b[j] ≠ 0) →
    law44_JournalBursts_q1 N r0 (listsAV a) a.length t0 o0 i1 (diskFrom 0 a).length o2 (bytesAV b) (bytesAV (diskFrom 0 a)) f (g : Int) = r0 true
  | 0, g, hi, hf, hp => by omega
  | f + 1, g, hi, hf, ⟨j, hj, hgj, hbj⟩ => by
    have hl := ha.dlen
    rw [law44_JournalBursts_q1, law44_JournalBursts_q1B, ct (inIdx_nat (by omega)), Int.toNat_natCast, Nat.mul_one, Nat.zero_add, rdI_bytes (by omega)]
    by_cases h : b[g] = 0
    · rw [ct (by rw [h]; rfl), show ((g : Int) + 1) = ((g + 1 : Nat) : Int) by omega, wrap_i64 _ (by omega)]
      refine Bursts_q1 N r0 a b t0 o0 o2 i1 ha hb hp2 hN hN2 f (g + 1) (by omega) (by omega) ⟨j, hj, ?_, hbj⟩
      have : g ≠ j := fun e => hbj (by subst e; exact h)
      omega
    · have hne : b[g].toNat ≠ 0 := fun e => h (UInt8.toNat_inj.mp e)
      obtain ⟨m, hm, hmod⟩ := Mod_spec (R := R) N i1 (diskFrom 0 a).length hp2 (by omega)
      rw [cf (by simp; omega), hmod]
      have := Bursts_q2 N r0 a b t0 o0 o2 m g ha hb (by omega) h hm hN hN2 N 0 (by omega) (by omega) (by omega)
      have he : errs m (b.drop g) (diskFrom 0 a).length 0 = List.replicate (diskFrom 0 a).length 0 := by
        simp [errs]; omega
      rw [he, xorL_zeros] at this
      exact this
theorem JournalBursts_true (N : Nat) (a : List (List UInt8)) (t0 o0 : Bool) (i1 : Int) (b : List UInt8) (hb : b.length = 4) (o2 : Bool) (hN : 3000000 < N) (hN2 : N < 9223372036854775807) (k : Bool → Option R) :
    law44_JournalBursts N (listsAV a) a.length t0 o0 i1 (bytesAV b) o2 k = k true := by
  rw [law44_JournalBursts_def, law44_JournalBurstsi, law44_JournalBurstsB, light_spec N a false o0 (by omega)]
  by_cases h : a.length ≤ 12 ∧ ∀ c ∈ a, c.length ≤ 200
  · have ha : Light a := h
    have ht : List.take 4 (bytesAV b) = bytesAV b := take_bytes (by omega)
    rw [decide_eq_true h, ct (by rfl), ct (by simp [bytesAV_length, hb]), ht, ct (by simp [plainZ_bytes]), ct (by simp [bytesAV_length, hb])]
    have r0 := fun f => rdI_bytes (R := R) (l := b) (i := 0) (by omega) (f := f)
    rw [List.drop_zero] at r0
    rw [r0, rdI_bytes (by omega), rdI_bytes (by omega), rdI_bytes (by omega)]
    by_cases hz : ∃ j, ∃ h : j < 4, 0 ≤ j ∧ b[j] ≠ 0
    · rw [law44_JournalBursts_q0, law44_JournalBursts_q0B, disk_spec N a false o0 ha (by omega) hN2]
      cases hD : (cond false true _ : Bool)
      · rw [cf rfl]
        by_cases h0 : (diskFrom 0 a).length = 0
        · rw [ct (by rw [h0]; rfl)]
        · rw [cf (beq_eq_false_iff_ne.mpr (by omega))]
          exact Bursts_q1 N k a b t0 o0 o2 i1 ha hb (by omega) hN hN2 N 0 (by omega) (by omega) hz
      · rw [ct rfl]
    · have hz' : ∀ j, ∀ h : j < 4, b[j] = 0 := fun j hj => Classical.byContradiction fun e => hz ⟨j, hj, by omega, e⟩
      rw [hz' 0 (by omega), hz' 1 (by omega), hz' 2 (by omega), hz' 3 (by omega)]
      rw [ct (by rfl)]
  · rw [decide_eq_false h, cf (by rfl)]
end
end Gx
