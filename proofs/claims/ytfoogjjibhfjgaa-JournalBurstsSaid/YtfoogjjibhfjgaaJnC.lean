/- A part of the proof: what it holds is said at each theorem. -/
import Derived.Test.YtfoogjjibhfjgaaJnB
set_option linter.unusedVariables false
namespace Jn
def four (v : Nat) : List UInt8 := [UInt8.ofNat v, UInt8.ofNat (v / 256), UInt8.ofNat (v / 65536), UInt8.ofNat (v / 16777216)]
def head (i n : Nat) : List UInt8 := four i ++ four n
def record (i : Nat) (c : List UInt8) : List UInt8 := head i c.length ++ four (crc (head i c.length)) ++ c ++ four (crc c)
theorem four_len (v : Nat) : (four v).length = 4 := rfl
theorem head_len (i n : Nat) : (head i n).length = 8 := rfl
theorem record_len (i : Nat) (c : List UInt8) : (record i c).length = 16 + c.length := by simp [record, head, four_len]; omega
end Jn
namespace Gx
open Go Jn
section
variable {R : Type}

theorem byte_of (v : Nat) : AV.int .u8 ((v % 256 : Nat) : Int) = .int .u8 (((UInt8.ofNat v).toNat : Nat) : Int) := by rw [UInt8.toNat_ofNat']
theorem put_spec (N : Nat) (l : List UInt8) (v : Nat) (hl : l.length + 4 ≤ 140737488355328) (k : Nat → List AV → Option R) : journal_put N l.length (v : Int) (bytesAV l) k = k (l.length + 4) (bytesAV (l ++ four v)) := by
  rw [journal_put_def, journal_puti, journal_putB, ct (by simp; omega)]
  have h1 := fdiv_nat v 8
  have h2 := fdiv_nat v 16
  have h3 := fdiv_nat v 24
  rw [show (2 : Nat) ^ 8 = 256 by rfl] at h1
  rw [show (2 : Nat) ^ 16 = 65536 by rfl] at h2
  rw [show (2 : Nat) ^ 24 = 16777216 by rfl] at h3
  rw [h1, h2, h3, wrap_u8, wrap_u8, wrap_u8, wrap_u8, Nat.mul_one, List.take_of_length_le (by rw [bytesAV_length]; omega), ← bytesAV_append]
  simp only [byte_of]
  rfl

theorem record_spec (N : Nat) (l c : List UInt8) (i : Nat) (t o : Bool) (hN : 300 < N) (hi : i < 4294967296) (hc : c.length < 4294967296) (hcN : c.length < N) (hN2 : N < 9223372036854775807) (hl : l.length + 16 + c.length ≤ 140737488355328) (k : Nat → List AV → Option R) :
    journal_record N l.length (i : Int) (bytesAV c) c.length t o (bytesAV l) k = k (l.length + 16 + c.length) (bytesAV (l ++ record i c)) := by
  rw [journal_record_def, journal_recordi, journal_recordB, table_spec N hN, tblTo_len (by omega), ct (by rfl), setCells_all (by rw [List.length_replicate, tblTo_len (by omega)]), wrap_u32 i hi, wrap_u32 c.length hc, put_spec N l i (by omega)]
  have e1 : l.length + 4 = (l ++ four i).length := by simp [four_len]
  rw [e1, put_spec N (l ++ four i) c.length (by simp [four_len]; omega)]
  have e2 : IntKind.wrap .i64 ((l.length : Int) + 8) = ((l.length + 8 : Nat) : Int) := by rw [wrap_i64 _ (by omega)]; omega
  have e3 : (l ++ four i).length + 4 = (l ++ four i ++ four c.length).length := by simp [four_len]
  have e4 : (l ++ four i ++ four c.length).length = l.length + 8 := by simp [four_len]
  rw [e2, e3, ct (by simp [four_len]; omega), Int.toNat_natCast, show l.length + 8 - l.length = 8 by omega]
  have e5 : List.take (8 * 1) (List.drop (0 + l.length * 1) (bytesAV (l ++ four i ++ four c.length))) = bytesAV (head i c.length) := by
    rw [bytesAV_drop, bytesAV_take, List.append_assoc, Nat.zero_add, Nat.mul_one l.length, List.drop_left]
    rfl
  have e6 := checksum_spec (R := R) N true (head i c.length) false true (by rw [head_len]; omega) hN2
  rw [head_len] at e6
  rw [e5, e6, put_spec N _ _ (by rw [e4]; omega)]
  have e7 : (l ++ four i ++ four c.length).length + 4 = (l ++ four i ++ four c.length ++ four (crc (head i c.length))).length := by simp [four_len]
  rw [plainZ_bytes, ct (by simp), e7, ct (by simp [four_len]; omega), checksum_spec N true c false o hcN hN2]
  rw [Nat.mul_one, List.take_of_length_le (by rw [bytesAV_length]; omega), bytesAV_append]
  have e8 : (l ++ four i ++ four c.length ++ four (crc (head i c.length))).length + c.length = (l ++ four i ++ four c.length ++ four (crc (head i c.length)) ++ c).length := by simp; omega
  rw [e8, put_spec N _ _ (by simp [four_len]; omega)]
  have e9 : (l ++ four i ++ four c.length ++ four (crc (head i c.length)) ++ c).length + 4 = l.length + 16 + c.length := by simp [four_len]; omega
  rw [e9]
  congr 2
  simp [record, head]

theorem Encode_spec (N : Nat) (i : Int) (c : List UInt8) (t o : Bool) (hN : 300 < N) (hcN : c.length < N) (hN2 : N < 9223372036854775807) (k : List AV → Nat → Int → Option R) :
    journal_Encode N i (bytesAV c) c.length t o k = if i < 0 ∨ 1024 ≤ i then k [] 0 3 else if 2097152 < c.length then k [] 0 8 else k (bytesAV (record i.toNat c)) (16 + c.length) 0 := by
  rw [journal_Encode_def, journal_Encodei, journal_EncodeB, journal_Encode_q0, journal_Encode_q0B]
  by_cases h0 : i < 0
  · rw [cf (by simp; omega), if_pos (.inl h0)]
  · rw [ct (by simp; omega)]
    by_cases h1 : 1024 ≤ i
    · rw [ct (by simp; omega), if_pos (.inr h1)]
    · rw [cf (by simp; omega), if_neg (by omega)]
      by_cases h2 : 2097152 < c.length
      · rw [ct (by simp; omega), if_pos h2]
      · have e1 : IntKind.wrap .i64 ((16 : Int) + (c.length : Int)) = ((16 + c.length : Nat) : Int) := by rw [wrap_i64 _ (by omega)]; omega
        rw [cf (by simp; omega), if_neg h2, e1, ct (by simp; omega)]
        obtain ⟨j, rfl⟩ := Int.eq_ofNat_of_zero_le (show 0 ≤ i by omega)
        have := record_spec (R := R) N [] c j false o hN (by omega) (by omega) hcN hN2 (by simp; omega)
        simp only [List.length_nil, Nat.zero_add, List.nil_append] at this
        rw [show ([] : List AV) = bytesAV [] by rfl, this, Int.toNat_natCast, Nat.mul_one, List.take_of_length_le (by rw [bytesAV_length, record_len]; omega)]

theorem RecoverNil_spec (N : Nat) (hN : 300 < N) (k : List AV → Option R) : journal_Recover N k = k [] := by
  rw [journal_Recover_def, journal_Recoveri, journal_RecoverB, journal_scan_def, journal_scani, journal_scanB, table_spec N hN, tblTo_len (by omega), ct (by rfl)]
  obtain ⟨n, rfl⟩ : ∃ n, N = n + 1 := ⟨N - 1, by omega⟩
  rw [journal_scan_q0, journal_scan_q0B]

theorem awake_spec (N : Nat) (hN : 300 < N) (hN2 : N < 9223372036854775807) (k : Bool → Option R) : law44_awake N k = k true := by
  rw [law44_awake_def, law44_awakei, law44_awakeB]
  have h1 := Encode_spec (R := R) N 0 [97] false true hN (by simp; omega) hN2
  have h2 := Checksum_spec (R := R) N [49, 50, 51, 52, 53, 54, 55, 56, 57] false true hN (by simp; omega) hN2
  have e1 : bytesAV [97] = [.int .u8 97] := rfl
  have e2 : bytesAV [49, 50, 51, 52, 53, 54, 55, 56, 57] = [.int .u8 49, .int .u8 50, .int .u8 51, .int .u8 52, .int .u8 53, .int .u8 54, .int .u8 55, .int .u8 56, .int .u8 57] := rfl
  rw [e1] at h1
  rw [e2] at h2
  simp only [List.length_cons, List.length_nil, Nat.zero_add, Nat.reduceAdd] at h1 h2
  rw [h1, if_neg (by omega), if_neg (by omega), RecoverNil_spec N hN, h2]
  have h3 : crc [49, 50, 51, 52, 53, 54, 55, 56, 57] = 3421780262 := by decide +kernel
  rw [h3]
  rfl

theorem JournalChecksum_true (N : Nat) (l : List UInt8) (t o : Bool) (hN : 3000 < N) (hN2 : N < 9223372036854775807) (k : Bool → Option R) : law44_JournalChecksum N (bytesAV l) l.length t o k = k true := by
  rw [law44_JournalChecksum_def, law44_JournalChecksumi, law44_JournalChecksumB]
  by_cases h : 2000 < l.length
  · rw [cf (by simp; omega)]
  · rw [ct (by simp; omega), awake_spec N (by omega) hN2, ct (by rfl), Checksum_spec N l false o (by omega) (by omega) hN2, refChecksum_spec N l false o (by omega) (by omega) hN2]
    simp
end
end Gx
