/- A part of the proof: what it holds is said at each theorem. -/
import Derived.Test.YtfoogjjibhfjgaaJnA
import Derived.Test.YtfoogjjibhfjgaaJnT
set_option linter.unusedVariables false
namespace Gx
open Go Jn

theorem ct {c : Bool} {α : Type} {a b : α} (h : c = true) : cond c a b = a := by subst h; rfl
theorem cf {c : Bool} {α : Type} {a b : α} (h : c = false) : cond c a b = b := by subst h; rfl

theorem odd_test (v : Nat) (hv : v < 4294967296) : (bitAnd .u32 (v : Int) 1 == 1) = decide (v % 2 = 1) := by
  have h1 : bitAnd .u32 (v : Int) ((1 : Nat) : Int) = ((v &&& 1 : Nat) : Int) := bitAnd_nat rfl hv (by decide)
  rw [show (1 : Int) = ((1 : Nat) : Int) from rfl, h1, Nat.and_one_is_mod]
  rw [Bool.eq_iff_iff]; simp; omega
theorem half (v : Nat) : Int.fdiv (v : Int) (2 ^ 1) = ((v / 2 : Nat) : Int) := by have := fdiv_nat v 1; simpa using this
theorem xorP (v : Nat) (hv : v < 4294967296) : bitXor .u32 (v : Int) (3988292384 : Int) = ((v ^^^ 3988292384 : Nat) : Int) :=
  bitXor_nat (k := .u32) rfl hv (b := 3988292384) (by decide)

section
variable {R : Type}

theorem table_q1 (N : Nat) (k0 : Int → List AV → Option R) (r0 : List AV → Option R) (i : Nat) (i4 : Int) (h : List AV) (hi : i < 256) (hh : h.length = 256) : ∀ (n j v : Nat), j ≤ 8 → 8 - j < n → v < 4294967296 →
    journal_table_q1 N k0 r0 n i v i4 j h = k0 (IntKind.wrap .i64 (i4 + 1)) (h.set i (.int .u32 (steps (8 - j) v : Nat)))
  | 0, j, v, hj, hn, hv => by omega
  | n + 1, j, v, hj, hn, hv => by
    rw [journal_table_q1, journal_table_q1B]
    by_cases h8 : j < 8
    · rw [ct (by simp; omega), odd_test v hv, half, show ((j : Int) + 1) = ((j + 1 : Nat) : Int) by omega, wrap_i64 _ (by omega)]
      have e : 8 - j = (8 - (j + 1)) + 1 := by omega
      by_cases ho : v % 2 = 1
      · rw [ct (by simpa using ho), xorP _ (by omega), table_q1 N k0 r0 i i4 h hi hh n (j + 1) _ (by omega) (by omega) (Nat.xor_lt_two_pow (n := 32) (by omega) (by omega)), e, steps]
        unfold Jn.step; rw [if_pos ho]
      · rw [cf (by simpa using ho), table_q1 N k0 r0 i i4 h hi hh n (j + 1) _ (by omega) (by omega) (by omega), e, steps]
        unfold Jn.step; rw [if_neg ho]
    · have : j = 8 := by omega
      subst this
      rw [cf (by simp), ct (inIdx_nat hi), ct (by simp [hh]; omega)]
      simp [steps]

def tblTo (m : Nat) : List AV := (List.range m).map (fun i => AV.int .u32 (crc8 i : Nat)) ++ List.replicate (256 - m) (.int .u32 0)
theorem tblTo_len {m : Nat} (h : m ≤ 256) : (tblTo m).length = 256 := by simp [tblTo]; omega
theorem tblTo_set {m : Nat} (h : m < 256) : (tblTo m).set m (.int .u32 (crc8 m : Nat)) = tblTo (m + 1) := by
  unfold tblTo
  rw [List.set_append_right _ _ (by simp), List.range_succ, List.map_append, List.append_assoc]
  congr 1
  rw [show 256 - m = (256 - (m + 1)) + 1 by omega, List.replicate_succ]
  simp

theorem setCells_all {c d : List AV} (h : c.length = d.length) : setCells c 0 d = d := by
  unfold setCells
  split
  · rename_i y
    match c, h with
    | [x], _ => simp
  · simp [splice, h]

theorem table_q0 (N : Nat) (r0 : List AV → Option R) (hN : 300 < N) : ∀ (n m : Nat), m ≤ 256 → 256 - m < n → journal_table_q0 N r0 n (m : Int) (tblTo m) = r0 (tblTo 256)
  | 0, m, hm, hn => by omega
  | n + 1, m, hm, hn => by
    rw [journal_table_q0, journal_table_q0B]
    by_cases h8 : m < 256
    · rw [ct (by simp; omega), wrap_u32 m (by omega)]
      have := table_q1 N (journal_table_q0 N r0 n) r0 m (m : Int) (tblTo m) h8 (tblTo_len (by omega)) N 0 m (by omega) (by omega) (by omega)
      simp only [Int.natCast_zero] at this
      rw [this, Nat.sub_zero]
      show journal_table_q0 N r0 n _ ((tblTo m).set m (.int .u32 (crc8 m : Nat))) = _
      rw [tblTo_set h8, show ((m : Int) + 1) = ((m + 1 : Nat) : Int) by omega, wrap_i64 _ (by omega)]
      exact table_q0 N r0 hN n (m + 1) (by omega) (by omega)
    · have : m = 256 := by omega
      subst this
      have hl := tblTo_len (m := 256) (by omega)
      have ht : List.take 256 (tblTo 256) = tblTo 256 := List.take_of_length_le (by omega)
      have hs : setCells (List.replicate 256 (AV.int .u32 0)) 0 (tblTo 256) = tblTo 256 := setCells_all (by rw [List.length_replicate, hl])
      rw [cf (by simp), ht, hs, hl, ht]
      rfl

theorem table_spec (N : Nat) (hN : 300 < N) (k : List AV → Option R) : journal_table N k = k (tblTo 256) := by
  rw [journal_table_def, journal_tablei, journal_tableB]
  have := table_q0 N k hN N 0 (by omega) (by omega)
  have h0 : tblTo 0 = List.replicate 256 (.int .u32 0) := by simp only [tblTo, List.range_zero, List.map_nil, List.nil_append]
  rw [h0] at this
  exact this

theorem tbl_read {i : Nat} (h : i < 256) (f : Int → Option R) : rdI .u32 (List.drop (i * 1) (tblTo 256)) f = f (crc8 i : Nat) := by
  rw [Nat.mul_one, List.drop_eq_getElem_cons (by rw [tblTo_len (by omega)]; exact h)]
  have : (tblTo 256)[i]'(by rw [tblTo_len (by omega)]; exact h) = AV.int .u32 (crc8 i : Nat) := by simp [tblTo]
  rw [this]; exact rdI_cons

theorem checksum_q0 (N : Nat) (r0 : Int → Option R) (o0 : Bool) (l : List UInt8) (t1 o1 : Bool) (hl : l.length < 9223372036854775807) : ∀ (n i v : Nat), i ≤ l.length → l.length - i < n → v < 4294967296 →
    journal_checksum_q0 N r0 (tblTo 256) o0 (bytesAV l) l.length t1 o1 n (v : Int) ((l.length : Nat) : Int) (i : Int) = r0 ((4294967295 ^^^ crcFrom v (l.drop i) : Nat) : Int)
  | 0, i, v, hi, hn, hv => by omega
  | n + 1, i, v, hi, hn, hv => by
    rw [journal_checksum_q0, journal_checksum_q0B]
    by_cases h8 : i < l.length
    · rw [ct (by simp; omega), ct (inIdx_nat h8), Int.toNat_natCast, Nat.mul_one, rdI_bytes h8, wrap_u8]
      have hb := l[i].toNat_lt
      have hx : bitXor .u8 ((v % 256 : Nat) : Int) ((l[i].toNat : Nat) : Int) = ((v % 256 ^^^ l[i].toNat : Nat) : Int) := bitXor_nat (k := .u8) rfl (by show _ < 256; omega) (by show _ < 256; omega)
      have hxl : v % 256 ^^^ l[i].toNat < 256 := Nat.xor_lt_two_pow (n := 8) (by omega) (by omega)
      rw [hx, ct (inIdx_nat hxl), Int.toNat_natCast, tbl_read hxl]
      have hf := fdiv_nat v 8
      rw [show (2 : Nat) ^ 8 = 256 by rfl] at hf
      rw [hf]
      have h1 : v / 256 < 4294967296 := by omega
      have h2 : crc8 (v % 256 ^^^ l[i].toNat) < 4294967296 := steps_lt 8 (by omega)
      have hy : bitXor .u32 ((v / 256 : Nat) : Int) ((crc8 (v % 256 ^^^ l[i].toNat) : Nat) : Int) = ((upd v l[i] : Nat) : Int) := bitXor_nat (k := .u32) rfl h1 h2
      rw [hy, show ((i : Int) + 1) = ((i + 1 : Nat) : Int) by omega, wrap_i64 _ (by omega), checksum_q0 N r0 o0 l t1 o1 hl n (i + 1) _ (by omega) (by omega) (upd_lt hv _), List.drop_eq_getElem_cons h8]
      rfl
    · have : i = l.length := by omega
      subst this
      rw [cf (by simp), List.drop_length]
      have hx : bitXor .u32 (4294967295 : Int) (v : Int) = ((4294967295 ^^^ v : Nat) : Int) := bitXor_nat (k := .u32) (a := 4294967295) rfl (by decide) hv
      rw [hx]; rfl

theorem checksum_spec (N : Nat) (o0 : Bool) (l : List UInt8) (t1 o1 : Bool) (hl : l.length < N) (hN : N < 9223372036854775807) (k : Int → Option R) : journal_checksum N (tblTo 256) o0 (bytesAV l) l.length t1 o1 k = k (crc l : Nat) := by
  rw [journal_checksum_def, journal_checksumi, journal_checksumB]
  have := checksum_q0 N k o0 l t1 o1 (by omega) N 0 4294967295 (by omega) (by omega) (by omega)
  simpa [crc] using this

theorem refChecksum_q1 (N : Nat) (k0 : Int → Int → Option R) (r0 : Int → Option R) (c0 : List AV) (n0 : Nat) (t0 o0 : Bool) (i4 : Int) : ∀ (n j v : Nat), j ≤ 8 → 8 - j < n → v < 4294967296 →
    ref44_Checksum_q1 N k0 r0 c0 n0 t0 o0 n (v : Int) i4 (j : Int) = k0 (steps (8 - j) v : Nat) (IntKind.wrap .i64 (i4 + 1))
  | 0, j, v, hj, hn, hv => by omega
  | n + 1, j, v, hj, hn, hv => by
    rw [ref44_Checksum_q1, ref44_Checksum_q1B]
    by_cases h8 : j < 8
    · rw [ct (by simp; omega), odd_test v hv, half, show ((j : Int) + 1) = ((j + 1 : Nat) : Int) by omega, wrap_i64 _ (by omega)]
      have e : 8 - j = (8 - (j + 1)) + 1 := by omega
      by_cases ho : v % 2 = 1
      · rw [ct (by simpa using ho), xorP _ (by omega), refChecksum_q1 N k0 r0 c0 n0 t0 o0 i4 n (j + 1) _ (by omega) (by omega) (Nat.xor_lt_two_pow (n := 32) (by omega) (by omega)), e, steps]
        unfold Jn.step; rw [if_pos ho]
      · rw [cf (by simpa using ho), refChecksum_q1 N k0 r0 c0 n0 t0 o0 i4 n (j + 1) _ (by omega) (by omega) (by omega), e, steps]
        unfold Jn.step; rw [if_neg ho]
    · have : j = 8 := by omega
      subst this
      rw [cf (by simp)]
      simp [steps]

theorem refChecksum_q0 (N : Nat) (r0 : Int → Option R) (l : List UInt8) (t0 o0 : Bool) (hN : 8 < N) (hl : l.length < 9223372036854775807) : ∀ (n i v : Nat), i ≤ l.length → l.length - i < n → v < 4294967296 →
    ref44_Checksum_q0 N r0 (bytesAV l) l.length t0 o0 n (v : Int) (i : Int) = r0 ((4294967295 ^^^ crcFrom v (l.drop i) : Nat) : Int)
  | 0, i, v, hi, hn, hv => by omega
  | n + 1, i, v, hi, hn, hv => by
    rw [ref44_Checksum_q0, ref44_Checksum_q0B]
    by_cases h8 : i < l.length
    · have hb := l[i].toNat_lt
      rw [ct (by simp; omega), ct (inIdx_nat h8), Int.toNat_natCast, Nat.mul_one, rdI_bytes h8, wrap_u32 _ (by omega)]
      have hx : bitXor .u32 (v : Int) ((l[i].toNat : Nat) : Int) = ((v ^^^ l[i].toNat : Nat) : Int) := bitXor_nat (k := .u32) rfl hv (by show _ < 4294967296; omega)
      have hxl : v ^^^ l[i].toNat < 4294967296 := Nat.xor_lt_two_pow (n := 32) hv (by omega)
      have := refChecksum_q1 N (ref44_Checksum_q0 N r0 (bytesAV l) l.length t0 o0 n) r0 (bytesAV l) l.length t0 o0 (i : Int) N 0 _ (by omega) (by omega) hxl
      simp only [Int.natCast_zero] at this
      rw [hx, this, Nat.sub_zero, show ((i : Int) + 1) = ((i + 1 : Nat) : Int) by omega, wrap_i64 _ (by omega), refChecksum_q0 N r0 l t0 o0 hN hl n (i + 1) _ (by omega) (by omega) (steps_lt 8 hxl), List.drop_eq_getElem_cons h8, ← upd_bits]
      rfl
    · have : i = l.length := by omega
      subst this
      rw [cf (by simp), List.drop_length]
      have hx : bitXor .u32 (4294967295 : Int) (v : Int) = ((4294967295 ^^^ v : Nat) : Int) := bitXor_nat (k := .u32) (a := 4294967295) rfl (by decide) hv
      rw [hx]; rfl

theorem refChecksum_spec (N : Nat) (l : List UInt8) (t0 o0 : Bool) (hN : 8 < N) (hl : l.length < N) (hN2 : N < 9223372036854775807) (k : Int → Option R) : ref44_Checksum N (bytesAV l) l.length t0 o0 k = k (crc l : Nat) := by
  rw [ref44_Checksum_def, ref44_Checksumi, ref44_ChecksumB]
  have := refChecksum_q0 N k l t0 o0 hN (by omega) N 0 4294967295 (by omega) (by omega) (by omega)
  simpa [crc] using this

theorem Checksum_spec (N : Nat) (l : List UInt8) (t0 o0 : Bool) (hN : 300 < N) (hl : l.length < N) (hN2 : N < 9223372036854775807) (k : Int → Option R) : journal_Checksum N (bytesAV l) l.length t0 o0 k = k (crc l : Nat) := by
  rw [journal_Checksum_def, journal_Checksumi, journal_ChecksumB, table_spec N hN, tblTo_len (by omega), setCells_all (by rw [List.length_replicate, tblTo_len (by omega)]), ct (by rfl), checksum_spec N true l false o0 hl hN2]
end
end Gx
