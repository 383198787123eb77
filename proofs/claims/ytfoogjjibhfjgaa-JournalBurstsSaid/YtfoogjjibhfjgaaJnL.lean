/- A part of the proof: what it holds is said at each theorem. -/
import Derived.Test.YtfoogjjibhfjgaaJnJ
set_option linter.unusedVariables false
namespace Gx
open Go Jn
theorem listsAV_take (a : List (List UInt8)) (n : Nat) : List.take n (listsAV a) = listsAV (a.take n) := by simp [listsAV, List.map_take]
section
variable {R : Type}

theorem Tears_q1 (N : Nat) (r0 : Bool → Option R) (a : List (List UInt8)) (c : List UInt8) (t0 o0 t1 o1 : Bool) (i2 : Int) (y3 : List AV) (ha : Light a) (hc : c.length ≤ 200) (hN : 3000000 < N) (hN2 : N < 9223372036854775807) :
    law44_JournalTears_q1 N r0 (listsAV a) a.length t0 o0 (bytesAV c) c.length t1 o1 i2 (diskFrom 0 a).length ((diskFrom 0 a).length + 16 + c.length) y3 (bytesAV (diskFrom 0 a ++ record a.length c)) = r0 true := by
  have hl := ha.dlen
  have h12 := ha.1
  rw [law44_JournalTears_q1, law44_JournalTears_q1B]
  generalize hD : (diskFrom 0 a).length = D at *
  have e1 : IntKind.wrap .i64 (((D + 16 + c.length : Nat) : Int) - (D : Int)) = ((16 + c.length : Nat) : Int) := by rw [wrap_i64 _ (by omega)]; omega
  have e2 : IntKind.wrap .i64 (((16 + c.length : Nat) : Int) + 1) = ((17 + c.length : Nat) : Int) := by rw [wrap_i64 _ (by omega)]; omega
  rw [e1, e2]
  obtain ⟨m, hm, hmod⟩ := Mod_spec (R := R) N i2 (17 + c.length) (by omega) (by omega)
  rw [hmod]
  have e3 : IntKind.wrap .i64 ((D : Int) + (m : Int)) = ((D + m : Nat) : Int) := by rw [wrap_i64 _ (by omega)]; omega
  rw [e3, ct (by simp; omega), Int.toNat_natCast, Nat.mul_one (D + m), bytesAV_take]
  have hcut : (diskFrom 0 a ++ record a.length c).take (D + m) = diskFrom 0 a ++ (record a.length c).take m := by
    rw [List.take_append, hD, List.take_of_length_le (by omega), show D + m - D = m by omega]
  have hlen : D + m = (diskFrom 0 a ++ (record a.length c).take m).length := by rw [List.length_append, List.length_take, record_len, hD]; omega
  have hspec := Recover_spec (R := R) N (diskFrom 0 a ++ (record a.length c).take m) false true hN hN2 (by rw [← hlen]; omega)
  rw [← hlen] at hspec
  rw [hcut, hspec]
  by_cases hmm : m = 16 + c.length
  · subst hmm
    have hfull : diskFrom 0 a ++ (record a.length c).take (16 + c.length) = diskFrom 0 (a ++ [c]) ++ [] := by
      rw [List.take_of_length_le (by rw [record_len]; omega), diskFrom_snoc, Nat.zero_add, List.append_nil]
    have hla : (a ++ [c]).length = a.length + 1 := by simp
    have hr := recov_whole (a ++ [c]) [] (by rw [hla]; omega) (fun x hx => by
      rcases List.mem_append.1 hx with h | h
      · have := ha.2 x h; omega
      · simp at h; subst h; omega) (.inl (valid_short _ _ (by simp)))
    have hdl : (diskFrom 0 (a ++ [c])).length = D + (16 + c.length) := by rw [diskFrom_snoc, List.length_append, record_len, hD]
    rw [hfull, hr]
    dsimp only
    have e4 : IntKind.wrap .i64 ((a.length : Int) + 1) = ((a.length + 1 : Nat) : Int) := by rw [wrap_i64 _ (by omega)]; omega
    rw [hdl, hla, e4, ct (by simp; omega), ct (by simp), ct (by simp), ct (inIdx_nat (by omega)), lists_at (a := a ++ [c]) (by simp), rdL_cons, asBytes_bytes, Option.bind_some, asBytes_bytes, Option.bind_some, ct (by simp), ct (by simp; omega), Nat.mul_one, listsAV_take, List.take_left, Same_spec N a a false false false o0 (by omega) hN2]
    simp
  · have hr := recov_whole a ((record a.length c).take m) (by omega) (fun x hx => by have := ha.2 x hx; omega) (.inl (valid_torn _ _ _ (by omega) (by omega) (by omega)))
    rw [hr]
    dsimp only
    rw [hD, cf (by simp; omega), ct (by simp), Same_spec N a a false false false o0 (by omega) hN2]
    simp

theorem JournalTears_true (N : Nat) (a : List (List UInt8)) (t0 o0 : Bool) (c : List UInt8) (t1 o1 : Bool) (i2 : Int) (hN : 3000000 < N) (hN2 : N < 9223372036854775807) (k : Bool → Option R) :
    law44_JournalTears N (listsAV a) a.length t0 o0 (bytesAV c) c.length t1 o1 i2 k = k true := by
  rw [law44_JournalTears_def, law44_JournalTearsi, law44_JournalTearsB, light_spec N a false o0 (by omega)]
  by_cases h : a.length ≤ 12 ∧ ∀ c ∈ a, c.length ≤ 200
  · rw [decide_eq_true h, ct (by rfl)]
    by_cases h3 : 200 < c.length
    · rw [ct (by simp; omega)]
    · have ha : Light a := h
      have hl := ha.dlen
      have h12 := ha.1
      rw [cf (by simp; omega), law44_JournalTears_q0, law44_JournalTears_q0B, disk_spec N a false o0 ha (by omega) hN2, Nat.mul_one, take_bytes (Nat.le_refl _), Append_spec N _ c false true false o1 hN hN2 (by omega)]
      have hr := recov_whole a [] (by omega) (fun x hx => by have := ha.2 x hx; omega) (.inl (valid_short _ _ (by simp)))
      rw [List.append_nil] at hr
      rw [hr]
      dsimp only
      rw [if_neg (by omega), if_neg (by omega), List.take_length, awake_spec N (by omega) hN2, ct (by rfl), ct (by rfl), cf (by simp; omega)]
      exact Tears_q1 N k a c t0 o0 t1 o1 i2 _ ha (by omega) hN hN2
  · rw [decide_eq_false h, cf (by rfl)]

theorem Full_loop (N : Nat) (r0 : Bool → Option R) (c : List UInt8) (t0 o0 : Bool) (M : Nat) (hM : M ≤ 1024) (hM2 : 1022 ≤ M) (hc : c.length ≤ 4) (hN : 3000000 < N) (hN2 : N < 9223372036854775807) : ∀ (f i : Nat), i ≤ M → M - i < f →
    law44_JournalFull_q0 N r0 (bytesAV c) c.length t0 o0 f M (diskFrom 0 (List.replicate i c)).length i (bytesAV (diskFrom 0 (List.replicate i c))) = r0 true
  | 0, i, hi, hf => by omega
  | f + 1, i, hi, hf => by
    have hl := diskFrom_len (List.replicate i c) 0 4 (fun x hx => by rw [List.mem_replicate] at hx; rw [hx.2]; exact hc)
    rw [List.length_replicate] at hl
    rw [law44_JournalFull_q0, law44_JournalFull_q0B]
    generalize hD : (diskFrom 0 (List.replicate i c)).length = D at *
    by_cases h8 : i < M
    · rw [ct (by simp; omega), refRecord_spec N c i false o0 (by omega) (by omega) (by omega) (by omega) hN2, ct (by simp; omega)]
      have := Full_loop N r0 c t0 o0 M hM hM2 hc hN hN2 f (i + 1) (by omega) (by omega)
      rw [List.replicate_succ', diskFrom_snoc, Nat.zero_add, List.length_replicate, List.length_append, record_len, hD] at this
      rw [show ((i : Int) + 1) = ((i + 1 : Nat) : Int) by omega, wrap_i64 _ (by omega), Nat.mul_one, take_bytes (by omega), Nat.mul_one, take_bytes (by rw [record_len]; omega), bytesAV_append]
      exact this
    · have hi' : i = M := by omega
      subst hi'
      have hr := recov_whole (List.replicate i c) [] (by rw [List.length_replicate]; omega) (fun x hx => by rw [List.mem_replicate] at hx; rw [hx.2]; omega) (.inl (valid_short _ _ (by simp)))
      rw [List.append_nil] at hr
      have hA := Append_spec (R := R) N (diskFrom 0 (List.replicate i c)) c false true false o0 hN hN2 (by omega)
      have hB := Recover_spec (R := R) N (diskFrom 0 (List.replicate i c)) false true hN hN2 (by omega)
      rw [hr] at hA hB
      dsimp only at hA hB
      rw [hD] at hA hB
      rw [cf (by simp), Nat.mul_one, take_bytes (by omega), hA, if_neg (by omega), List.length_replicate]
      have tail : ∀ (y4 : Nat) (y5 : Int) (y6 : List AV), (journal_Recover_v2 N (bytesAV (diskFrom 0 (List.replicate i c))) D false true fun y7 y8 y9 => law44_awake N fun y10 => cond ((!y10) == false) (cond ((cond false true (((y8 : Nat) : Int) != ((i : Nat) : Int))) == false) (cond (cond false true (y9 != ((D : Nat) : Int))) (r0 false) (law44_JournalFull_q1 N r0 (bytesAV c) c.length t0 o0 i D y4 y5 (bytesAV (diskFrom 0 (List.replicate i c))) y6)) (r0 false)) (r0 false)) = law44_JournalFull_q1 N r0 (bytesAV c) c.length t0 o0 i D y4 y5 (bytesAV (diskFrom 0 (List.replicate i c))) y6 := by
        intro y4 y5 y6
        rw [hB, awake_spec N (by omega) hN2, ct (by rfl), List.length_replicate, ct (by simp), cf (by simp)]
      by_cases h1024 : i = 1024
      · rw [if_pos (.inl h1024), tail, law44_JournalFull_q1, law44_JournalFull_q1B, ct (by simp; omega)]
        simp
      · rw [if_neg (by omega), tail, law44_JournalFull_q1, law44_JournalFull_q1B, cf (by simp; omega), ct (by simp)]
        have e1 : IntKind.wrap .i64 ((D : Int) + 16) = ((D + 16 : Nat) : Int) := by rw [wrap_i64 _ (by omega)]; omega
        have e2 : IntKind.wrap .i64 (((D + 16 : Nat) : Int) + (c.length : Int)) = ((D + 16 + c.length : Nat) : Int) := by rw [wrap_i64 _ (by omega)]; omega
        rw [e1, e2]
        simp

theorem JournalFull_true (N : Nat) (c : List UInt8) (t0 o0 : Bool) (i1 : Int) (hN : 3000000 < N) (hN2 : N < 9223372036854775807) (k : Bool → Option R) : law44_JournalFull N (bytesAV c) c.length t0 o0 i1 k = k true := by
  rw [law44_JournalFull_def, law44_JournalFulli, law44_JournalFullB]
  by_cases h : 4 < c.length
  · rw [ct (by simp; omega)]
  · rw [cf (by simp; omega)]
    obtain ⟨m, hm, hmod⟩ := Mod_spec (R := R) N i1 3 (by omega) (by omega)
    have := hmod (fun y1 => law44_JournalFull_q0 N k (bytesAV c) c.length t0 o0 N (IntKind.wrap .i64 ((1024 : Int) - y1)) 0 (0 : Int) [])
    refine Eq.trans this ?_
    have e1 : IntKind.wrap .i64 ((1024 : Int) - (m : Int)) = ((1024 - m : Nat) : Int) := by rw [wrap_i64 _ (by omega)]; omega
    rw [e1]
    exact Full_loop N k c t0 o0 (1024 - m) (by omega) (by omega) (by omega) hN hN2 N 0 (by omega) (by omega)
end
end Gx
