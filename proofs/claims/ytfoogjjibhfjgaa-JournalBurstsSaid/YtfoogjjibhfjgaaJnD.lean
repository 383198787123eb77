/- A part of the proof: what it holds is said at each theorem. -/
import Derived.Test.YtfoogjjibhfjgaaJnC
set_option linter.unusedVariables false
namespace Gx
open Go Jn
section
variable {R : Type}

theorem refFour_spec (N v : Nat) (k : List AV → Option R) : ref44_four N (v : Int) k = k (bytesAV (four v)) := by
  rw [ref44_four_def, ref44_fouri, ref44_fourB]
  have h1 := fdiv_nat v 8
  have h2 := fdiv_nat v 16
  have h3 := fdiv_nat v 24
  rw [show (2 : Nat) ^ 8 = 256 by rfl] at h1
  rw [show (2 : Nat) ^ 16 = 65536 by rfl] at h2
  rw [show (2 : Nat) ^ 24 = 16777216 by rfl] at h3
  rw [h1, h2, h3, wrap_u8, wrap_u8, wrap_u8, wrap_u8]
  simp only [byte_of]
  rfl
theorem take_bytes {l : List UInt8} {n : Nat} (h : l.length ≤ n) : List.take n (bytesAV l) = bytesAV l := List.take_of_length_le (by rw [bytesAV_length]; exact h)

theorem refRecord_spec (N : Nat) (c : List UInt8) (i : Nat) (t o : Bool) (hN : 300 < N) (hi : i < 4294967296) (hc : c.length < 4294967296) (hcN : c.length < N) (hN2 : N < 9223372036854775807) (k : Nat → List AV → Option R) :
    ref44_Record N (i : Int) (bytesAV c) c.length t o k = k (16 + c.length) (bytesAV (record i c)) := by
  rw [ref44_Record_def, ref44_Recordi, ref44_RecordB, wrap_u32 i hi, wrap_u32 c.length hc, refFour_spec, refFour_spec]
  rw [take_bytes (l := four i) (by simp [four_len]), take_bytes (l := four c.length) (by simp [four_len]), bytesAV_append, take_bytes (l := four i ++ four c.length) (by simp [four_len])]
  have e6 := refChecksum_spec (R := R) N (head i c.length) false true (by omega) (by rw [head_len]; omega) hN2
  rw [head_len] at e6
  show ref44_Checksum N (bytesAV (head i c.length)) 8 false true _ = _
  rw [e6, refFour_spec, plainZ_bytes, ct (by simp), ct (by simp; omega), refChecksum_spec N c false o (by omega) hcN hN2, refFour_spec, ct (by simp; omega)]
  rw [take_bytes (l := four (crc (head i c.length))) (by simp [four_len])]
  show k (12 + c.length + 4) (List.take ((12 + c.length) * 1) (List.take 12 (bytesAV (head i c.length) ++ bytesAV (four (crc (head i c.length)))) ++ bytesAV c) ++ List.take 4 (bytesAV (four (crc c)))) = _
  rw [bytesAV_append, take_bytes (l := head i c.length ++ _) (by simp [four_len, head_len]), bytesAV_append, take_bytes (by simp [four_len, head_len]; omega), take_bytes (l := four (crc c)) (by simp [four_len]), bytesAV_append, show 12 + c.length + 4 = 16 + c.length by omega]
  rfl

theorem refEncode_spec (N : Nat) (i : Int) (c : List UInt8) (t o : Bool) (hN : 300 < N) (hcN : c.length < N) (hN2 : N < 9223372036854775807) (k : List AV → Nat → Int → Option R) :
    ref44_Encode N i (bytesAV c) c.length t o k = if i < 0 ∨ 1024 ≤ i then k [] 0 3 else if 2097152 < c.length then k [] 0 8 else k (bytesAV (record i.toNat c)) (16 + c.length) 0 := by
  rw [ref44_Encode_def, ref44_Encodei, ref44_EncodeB]
  by_cases h0 : i < 0
  · rw [cf (by simp; omega), if_pos (.inl h0)]
  · rw [ct (by simp; omega)]
    by_cases h1 : 1024 ≤ i
    · rw [ct (by simp; omega), if_pos (.inr h1)]
    · rw [cf (by simp; omega), if_neg (by omega)]
      by_cases h2 : 2097152 < c.length
      · rw [ct (by simp; omega), if_pos h2]
      · rw [cf (by simp; omega), if_neg h2]
        obtain ⟨j, rfl⟩ := Int.eq_ofNat_of_zero_le (show 0 ≤ i by omega)
        rw [refRecord_spec N c j false o hN (by omega) (by omega) hcN hN2, Int.toNat_natCast, Nat.mul_one, take_bytes (by rw [record_len]; omega)]

theorem Mod_spec (N : Nat) (i : Int) (n : Nat) (h0 : 0 < n) (hn : n < 9223372036854775808) : ∃ m : Nat, m < n ∧ ∀ k : Int → Option R, mk_Mod N i (n : Int) k = k m := by
  have hw : ∃ u : Nat, IntKind.wrap .u64 i = (u : Int) := by
    refine ⟨(i % 18446744073709551616).toNat, ?_⟩
    simp [IntKind.wrap, IntKind.bits, IntKind.signed]; omega
  obtain ⟨u, hu⟩ := hw
  refine ⟨u % n, Nat.mod_lt _ h0, fun k => ?_⟩
  rw [mk_Mod_def, mk_Modi, mk_ModB, wrap_u64 n (by omega), hu, cf (by simp; omega)]
  have h1 : Int.tmod (u : Int) (n : Int) = ((u % n : Nat) : Int) := by
    rw [Int.tmod_eq_emod_of_nonneg (by omega)]; rfl
  have := Nat.mod_lt u h0
  rw [h1, wrap_i64 _ (by omega)]

theorem Encodes_q0 (N : Nat) (c : List UInt8) (t o : Bool) (i : Int) (hN : 3000 < N) (hc : c.length ≤ 2000) (hN2 : N < 9223372036854775807) (k : Bool → Option R) : law44_JournalEncodes_q0 N k (bytesAV c) c.length t o i = k true := by
  rw [law44_JournalEncodes_q0, law44_JournalEncodes_q0B, Encode_spec N i c false o (by omega) (by omega) hN2]
  have key : ∀ (l : List UInt8) (n : Nat) (e : Int), law44_awake N (fun y8 => cond (y8 == true) (cond ((cond true (e == e) false) == true) (Option.bind (asBytes (bytesAV l)) fun s9 => (Option.bind (asBytes (bytesAV l)) fun s10 => (k (cond true (s9 == s10) false)))) (k false)) (k false)) = k true := by
    intro l n e
    rw [awake_spec N (by omega) hN2, asBytes_bytes]
    simp
  by_cases h1 : i < 0 ∨ 1024 ≤ i
  · rw [if_pos h1, refEncode_spec N i c false o (by omega) (by omega) hN2, if_pos h1]
    exact key [] 0 3
  · by_cases h2 : 2097152 < c.length
    · omega
    · rw [if_neg h1, if_neg h2, refEncode_spec N i c false o (by omega) (by omega) hN2, if_neg h1, if_neg h2]
      exact key _ 0 0

theorem JournalEncodes_true (N : Nat) (i : Int) (c : List UInt8) (t o b : Bool) (hN : 3000 < N) (hN2 : N < 9223372036854775807) (k : Bool → Option R) : law44_JournalEncodes N i (bytesAV c) c.length t o b k = k true := by
  rw [law44_JournalEncodes_def, law44_JournalEncodesi, law44_JournalEncodesB]
  by_cases h : 2000 < c.length
  · rw [ct (by simp; omega)]
  · rw [cf (by simp; omega)]
    cases b with
    | false => exact Encodes_q0 N c t o i hN (by omega) hN2 k
    | true =>
      obtain ⟨m, _, hm⟩ := Mod_spec (R := R) N i 1026 (by omega) (by omega)
      show mk_Mod N i 1026 _ = _
      have := hm (fun y1 => law44_JournalEncodes_q0 N k (bytesAV c) c.length t o (IntKind.wrap .i64 (y1 - 1)))
      exact this.trans (Encodes_q0 N c t o _ hN (by omega) hN2 k)
end
end Gx
