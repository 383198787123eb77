/- A part of the proof: what it holds is said at each theorem. -/
import Derived.Test.YtfoogjjibhfjgaaJnF
set_option linter.unusedVariables false
namespace Gx
open Go Jn
section
variable {R : Type}

/-- What the first checks of a record come to. -/
theorem scan3_q1 (N : Nat) (k0 : Int → Int → List AV → Option R) (r0 : Int → Int → Option R) (c0 : List AV) (n0 : Nat) (t0 o0 : Bool) (b : List UInt8) (n s : Nat)
    (hN : 3000000 < N) (hN2 : N < 9223372036854775807) (hb : 16 ≤ b.length) (hb2 : b.length ≤ 140737488355328) (hlen : num (b.drop 4) ≤ 2097152) (hs : s ≤ 140737488355328) (hn : n < 1024) :
    journal_scan_v3_q1B N k0 r0 c0 n0 t0 o0 (num (b.drop 4) : Nat) (tblTo 256) n s (bytesAV b) b.length =
      if b.length < 16 + num (b.drop 4) then r0 n s
      else if num (b.drop (12 + num (b.drop 4))) ≠ crc ((b.drop 12).take (num (b.drop 4))) then r0 n s
      else k0 ((n + 1 : Nat) : Int) ((s + (16 + num (b.drop 4)) : Nat) : Int) (tblTo 256) := by
  rw [journal_scan_v3_q1B]
  generalize hL : num (b.drop 4) = L at *
  have e1 : IntKind.wrap .i64 (L : Int) = (L : Int) := wrap_i64 _ (by omega)
  have e2 : IntKind.wrap .i64 ((16 : Int) + (L : Int)) = ((16 + L : Nat) : Int) := by rw [wrap_i64 _ (by omega)]; omega
  have e3 : IntKind.wrap .i64 ((12 : Int) + (L : Int)) = ((12 + L : Nat) : Int) := by rw [wrap_i64 _ (by omega)]; omega
  rw [e1, e2, e3]
  by_cases h3 : b.length < 16 + L
  · rw [ct (by simp; omega), if_pos h3]
  · rw [cf (by simp; omega), if_neg h3, ct (by simp; omega), ct (by simp; omega), Int.toNat_natCast, sub_eq', drop_len, get_spec N _ false o0 (by simp; omega), show 12 + L - 12 = L by omega, mid_eq]
    have e4 := mid_len (b := b) (i := 12) (n := L) (by omega)
    have e5 := checksum_spec (R := R) N true ((b.drop 12).take L) false o0 (by simp; omega) hN2
    rw [← e4] at e5
    rw [e5]
    by_cases h4 : num (b.drop (12 + L)) = crc ((b.drop 12).take L)
    · rw [h4, cf (by simp), if_neg (by simp)]
      rw [journal_Append_c1_def, journal_Append_c1i, journal_Append_c1B]
      have e6 : IntKind.wrap .i64 ((n : Int) + 1) = ((n + 1 : Nat) : Int) := by rw [wrap_i64 _ (by omega)]; omega
      have e7 : IntKind.wrap .i64 ((s : Int) + ((16 + L : Nat) : Int)) = ((s + (16 + L) : Nat) : Int) := by rw [wrap_i64 _ (by omega)]; omega
      rw [e6, e7]
    · rw [ct (by simp; omega), if_pos h4]

theorem scan3_q0 (N : Nat) (k0 : Int → Int → List AV → Option R) (r0 : Int → Int → Option R) (d : List UInt8) (t0 o0 : Bool) (n s : Nat)
    (hN : 3000000 < N) (hN2 : N < 9223372036854775807) (hd : d.length ≤ 140737488355328) (hs : s ≤ d.length) (hn : n < 1024) :
    journal_scan_v3_q0B N r0 (bytesAV d) d.length t0 o0 k0 (fun y2 i4 i5 c7 n7 => journal_scan_v3_q1 N k0 r0 (bytesAV d) d.length t0 o0 y2 (tblTo 256) i4 i5 c7 n7) n s (tblTo 256) =
      match valid n (d.drop s) with
      | none => r0 n s
      | some c => k0 ((n + 1 : Nat) : Int) ((s + (16 + c.length) : Nat) : Int) (tblTo 256) := by
  rw [journal_scan_v3_q0B, ct (by simp; omega), ct (by simp; omega), Int.toNat_natCast, rest_eq, drop_len]
  generalize hb : d.drop s = b
  have hbl : b.length ≤ 140737488355328 := by rw [← hb]; simp; omega
  unfold valid
  by_cases h1' : b.length < 16
  · rw [ct (by simp; omega), if_pos h1']
  · rw [cf (by simp; omega), if_neg h1', ct (by simp; omega), sub_eq, drop_len, get_spec N _ false o0 (by simp; omega), get_spec N b false o0 (by omega), wrap_u32 n (by omega)]
    by_cases h2' : num b = n
    · rw [ct (by simp [h2']), if_neg (by simp [h2'])]
      by_cases h3 : 2097152 < num (b.drop 4)
      · rw [cf (by simp; omega), if_pos h3]
      · rw [ct (by simp; omega), if_neg h3, ct (by simp; omega), sub_eq, drop_len, get_spec N _ false o0 (by simp; omega), ct (by simp; omega), bytesAV_take]
        have e5 := checksum_spec (R := R) N true (b.take 8) false o0 (by simp; omega) hN2
        rw [show (b.take 8).length = 8 by simp; omega] at e5
        rw [e5]
        by_cases h4 : num (b.drop 8) = crc (b.take 8)
        · rw [h4, cf (by simp), if_neg (by simp), journal_scan_v3_q1, scan3_q1 N k0 r0 _ _ t0 o0 b n s hN hN2 (by omega) hbl (by omega) (by omega) hn]
          by_cases h5 : b.length < 16 + num (b.drop 4)
          · rw [if_pos h5, if_pos h5]
          · rw [if_neg h5, if_neg h5]
            by_cases h6 : num (b.drop (12 + num (b.drop 4))) = crc ((b.drop 12).take (num (b.drop 4)))
            · rw [if_neg (by simp [h6]), if_neg (by simp [h6])]
              dsimp only
              rw [← mid_len (b := b) (i := 12) (n := num (b.drop 4)) (by omega)]
            · rw [if_pos h6, if_pos h6]
        · rw [ct (by simp; omega), if_pos h4]
    · rw [cf (by simp; omega), if_pos h2']

theorem scan3_loop (N : Nat) (r0 : Int → Int → Option R) (d : List UInt8) (t0 o0 : Bool) (hN : 3000000 < N) (hN2 : N < 9223372036854775807) (hd : d.length ≤ 140737488355328) :
    ∀ (f : Nat) (n s : Nat), s ≤ d.length → n ≤ 1024 → 1024 - n < f →
    journal_scan_v3_q0 N r0 (bytesAV d) d.length t0 o0 f n s (tblTo 256) =
      r0 ((n + (recov (1024 - n) n (d.drop s)).1.length : Nat) : Int) ((s + (recov (1024 - n) n (d.drop s)).2 : Nat) : Int)
  | 0, n, s, hs, hn, hf => by omega
  | f + 1, n, s, hs, hn, hf => by
    rw [journal_scan_v3_q0]
    by_cases h8 : n < 1024
    · rw [scan3_q0 N _ r0 d t0 o0 n s hN hN2 hd hs h8]
      rw [show 1024 - n = (1024 - (n + 1)) + 1 by omega, recov]
      cases hv : valid n (d.drop s) with
      | none => simp
      | some c =>
        have hc := valid_len hv
        simp only [List.length_drop] at hc
        simp only
        have := scan3_loop N r0 d t0 o0 hN hN2 hd f (n + 1) (s + (16 + c.length)) (by omega) (by omega) (by omega)
        rw [this, List.drop_drop]
        simp only [List.length_cons]
        congr 1 <;> omega
    · have : n = 1024 := by omega
      subst this
      rw [journal_scan_v3_q0B, cf (by simp)]
      simp [recov]

theorem scan3_spec (N : Nat) (d : List UInt8) (t0 o0 : Bool) (hN : 3000000 < N) (hN2 : N < 9223372036854775807) (hd : d.length ≤ 140737488355328) (k : Int → Int → Option R) :
    journal_scan_v3 N (bytesAV d) d.length t0 o0 k = k (recov 1024 0 d).1.length (recov 1024 0 d).2 := by
  rw [journal_scan_v3_def, journal_scan_v3i, journal_scan_v3B, table_spec N (by omega), tblTo_len (by omega), ct (by rfl), setCells_all (by rw [List.length_replicate, tblTo_len (by omega)])]
  have := scan3_loop N k d t0 o0 hN hN2 hd N 0 0 (by omega) (by omega) (by omega)
  simp only [List.drop_zero, Nat.zero_add, Nat.sub_zero] at this
  exact this

theorem Append_spec (N : Nat) (d c : List UInt8) (t0 o0 t1 o1 : Bool) (hN : 3000000 < N) (hN2 : N < 9223372036854775807) (hd : d.length ≤ 140737488355328) (k : Nat → Int → List AV → Option R) :
    journal_Append N (bytesAV d) d.length t0 o0 (bytesAV c) c.length t1 o1 k =
      if 2097152 < c.length then k 0 8 [] else if (recov 1024 0 d).1.length = 1024 ∨ 16777216 < (recov 1024 0 d).2 + 16 + c.length then k 0 19 []
      else k ((recov 1024 0 d).2 + 16 + c.length) 0 (bytesAV (d.take (recov 1024 0 d).2 ++ record (recov 1024 0 d).1.length c)) := by
  rw [journal_Append_def, journal_Appendi, journal_AppendB]
  have hr := recov_le 1024 0 d
  by_cases h1 : 2097152 < c.length
  · rw [ct (by simp; omega), if_pos h1]
  · rw [cf (by simp; omega), if_neg h1, scan3_spec N d false o0 hN hN2 hd]
    generalize hn : (recov 1024 0 d).1.length = n at *
    generalize hs : (recov 1024 0 d).2 = s at *
    by_cases h2 : n = 1024
    · rw [cf (by simp; omega), if_pos (.inl h2)]
    · have e1 : IntKind.wrap .i64 ((s : Int) + 16) = ((s + 16 : Nat) : Int) := by rw [wrap_i64 _ (by omega)]; omega
      have e2 : IntKind.wrap .i64 (((s + 16 : Nat) : Int) + (c.length : Int)) = ((s + 16 + c.length : Nat) : Int) := by rw [wrap_i64 _ (by omega)]; omega
      rw [ct (by simp; omega), e1, e2]
      by_cases h3 : 16777216 < s + 16 + c.length
      · rw [ct (by simp; omega), if_pos (.inr h3)]
      · rw [cf (by simp; omega), if_neg (by omega), journal_Append_q0, journal_Append_q0B, e1, e2, ct (by simp; omega), ct (by simp; omega), Int.toNat_natCast, Nat.mul_one, bytesAV_take, plainZ_bytes, ct (by simp), ct (by simp; omega)]
        have e3 : 0 + s = (d.take s).length := by simp; omega
        rw [e3, record_spec N (d.take s) c n false o1 (by omega) (by omega) (by omega) (by omega) hN2 (by simp; omega)]
        congr 1
        simp; omega
end
end Gx
