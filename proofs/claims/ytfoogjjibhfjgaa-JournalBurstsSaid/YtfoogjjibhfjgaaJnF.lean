/- A part of the proof: what it holds is said at each theorem. -/
import Derived.Test.YtfoogjjibhfjgaaJnE
set_option linter.unusedVariables false
namespace Gx
open Go Jn
section
variable {R : Type}

theorem rest_eq {d : List UInt8} {s : Nat} : List.take ((d.length - s) * 1) (List.drop (s * 1) (bytesAV d)) = bytesAV (d.drop s) := by
  rw [Nat.mul_one, Nat.mul_one, bytesAV_drop, take_bytes (by simp)]
theorem sub_eq {b : List UInt8} {i : Nat} : List.take ((b.length - i) * 1) (List.drop i (bytesAV b)) = bytesAV (b.drop i) := by
  rw [Nat.mul_one, bytesAV_drop, take_bytes (by simp)]
theorem sub_eq' {b : List UInt8} {i : Nat} : List.take ((b.length - i) * 1) (List.drop (i * 1) (bytesAV b)) = bytesAV (b.drop i) := by
  rw [Nat.mul_one i]; exact sub_eq
theorem drop_len {b : List UInt8} {i : Nat} : b.length - i = (b.drop i).length := by simp
theorem mid_eq {b : List UInt8} {i n : Nat} : List.take (n * 1) (List.drop i (bytesAV b)) = bytesAV ((b.drop i).take n) := by
  rw [Nat.mul_one, bytesAV_drop, bytesAV_take]
theorem mid_len {b : List UInt8} {i n : Nat} (h : i + n ≤ b.length) : n = ((b.drop i).take n).length := by simp; omega

/-- What the first checks of a record come to. -/
theorem scan2_q1 (N : Nat) (k0 : Int → Int → Nat → List AV → List AV → Option R) (r0 : Int → Int → Nat → List AV → Option R) (c0 : List AV) (n0 : Nat) (t0 o0 : Bool) (nh : Nat) (h1 : List AV) (b : List UInt8) (n s : Nat) (m : Nat) (h2 : List AV)
    (hN : 3000000 < N) (hN2 : N < 9223372036854775807) (hb : 16 ≤ b.length) (hb2 : b.length ≤ 140737488355328) (hlen : num (b.drop 4) ≤ 2097152) (hs : s ≤ 140737488355328) (hn : n < 1024) (hm : m ≤ 1024) (hml : m = h2.length) :
    journal_scan_v2_q1B N k0 r0 c0 n0 t0 o0 (num (b.drop 4) : Nat) (tblTo 256) nh h1 n s (bytesAV b) b.length m h2 =
      if b.length < 16 + num (b.drop 4) then r0 n s m h2
      else if num (b.drop (12 + num (b.drop 4))) ≠ crc ((b.drop 12).take (num (b.drop 4))) then r0 n s m h2
      else k0 ((n + 1 : Nat) : Int) ((s + (16 + num (b.drop 4)) : Nat) : Int) (m + 1) (tblTo 256) (h2 ++ listsAV [(b.drop 12).take (num (b.drop 4))]) := by
  rw [journal_scan_v2_q1B]
  generalize hL : num (b.drop 4) = L at *
  have e1 : IntKind.wrap .i64 (L : Int) = (L : Int) := wrap_i64 _ (by omega)
  have e2 : IntKind.wrap .i64 ((16 : Int) + (L : Int)) = ((16 + L : Nat) : Int) := by rw [wrap_i64 _ (by omega)]; omega
  have e3 : IntKind.wrap .i64 ((12 : Int) + (L : Int)) = ((12 + L : Nat) : Int) := by rw [wrap_i64 _ (by omega)]; omega
  rw [e1, e2, e3]
  by_cases h3 : b.length < 16 + L
  · rw [ct (by simp; omega), if_pos h3]
  · rw [cf (by simp; omega), if_neg h3, ct (by simp; omega), ct (by simp; omega), Int.toNat_natCast, sub_eq', drop_len, get_spec N _ false o0 (by simp; omega), show 12 + L - 12 = L by omega, mid_eq]
    have e4 := mid_len (b := b) (i := 12) (n := L) (by omega)
    have e5 := checksum_spec (R := R) N true ((b.drop 12).take L) false o0 (by simp; omega) hN2
    rw [← e4] at e5
    rw [e5]
    by_cases h4 : num (b.drop (12 + L)) = crc ((b.drop 12).take L)
    · rw [h4, cf (by simp), if_neg (by simp)]
      rw [journal_Recover_c1_def, journal_Recover_c1i, journal_Recover_c1B, plainZ_bytes, ct (by simp), ct (by simp; omega), ct (by simp; omega)]
      have e6 : IntKind.wrap .i64 ((n : Int) + 1) = ((n + 1 : Nat) : Int) := by rw [wrap_i64 _ (by omega)]; omega
      have e7 : IntKind.wrap .i64 ((s : Int) + ((16 + L : Nat) : Int)) = ((s + (16 + L) : Nat) : Int) := by rw [wrap_i64 _ (by omega)]; omega
      rw [e6, e7, Nat.mul_one, List.take_of_length_le (by omega), Nat.zero_add, Nat.mul_one, take_bytes (by omega)]
      congr 1
      simp only [listsAV, List.map_cons, List.map_nil]
      rw [← e4]
    · rw [ct (by simp; omega), if_pos h4]

theorem scan2_q0 (N : Nat) (k0 : Int → Int → Nat → List AV → List AV → Option R) (r0 : Int → Int → Nat → List AV → Option R) (d : List UInt8) (t0 o0 : Bool) (nh : Nat) (h1 : List AV) (n s : Nat) (m : Nat) (h2 : List AV)
    (hN : 3000000 < N) (hN2 : N < 9223372036854775807) (hd : d.length ≤ 140737488355328) (hs : s ≤ d.length) (hn : n < 1024) (hm : m ≤ 1024) (hml : m = h2.length) :
    journal_scan_v2_q0B N r0 (bytesAV d) d.length t0 o0 nh h1 k0 (fun y2 i4 i5 c7 n7 nh0 hh => journal_scan_v2_q1 N k0 r0 (bytesAV d) d.length t0 o0 y2 (tblTo 256) nh h1 i4 i5 c7 n7 nh0 hh) n s m (tblTo 256) h2 =
      match valid n (d.drop s) with
      | none => r0 n s m h2
      | some c => k0 ((n + 1 : Nat) : Int) ((s + (16 + c.length) : Nat) : Int) (m + 1) (tblTo 256) (h2 ++ listsAV [c]) := by
  rw [journal_scan_v2_q0B, ct (by simp; omega), ct (by simp; omega), Int.toNat_natCast, rest_eq, drop_len]
  generalize hb : d.drop s = b
  have hbl : b.length ≤ 140737488355328 := by rw [← hb]; simp; omega
  unfold valid
  by_cases h1' : b.length < 16
  · rw [ct (by simp; omega), if_pos h1']
  · rw [cf (by simp; omega), if_neg h1', ct (by simp; omega), sub_eq, drop_len, get_spec N _ false o0 (by simp; omega), get_spec N b false o0 (by omega), wrap_u32 n (by omega)]
    by_cases h2' : num b = n
    · rw [ct (by simp [h2']), if_neg (by simp [h2'])]
      by_cases h3 : 2097152 < num (b.drop 4)
      · rw [cf (by simp; omega), if_pos h3]
      · rw [ct (by simp; omega), if_neg h3, ct (by simp; omega), sub_eq, drop_len, get_spec N _ false o0 (by simp; omega), ct (by simp; omega), bytesAV_take]
        have e5 := checksum_spec (R := R) N true (b.take 8) false o0 (by simp; omega) hN2
        rw [show (b.take 8).length = 8 by simp; omega] at e5
        rw [e5]
        by_cases h4 : num (b.drop 8) = crc (b.take 8)
        · rw [h4, cf (by simp), if_neg (by simp), journal_scan_v2_q1, scan2_q1 N k0 r0 _ _ t0 o0 nh h1 b n s m h2 hN hN2 (by omega) hbl (by omega) (by omega) hn hm hml]
          by_cases h5 : b.length < 16 + num (b.drop 4)
          · rw [if_pos h5, if_pos h5]
          · rw [if_neg h5, if_neg h5]
            by_cases h6 : num (b.drop (12 + num (b.drop 4))) = crc ((b.drop 12).take (num (b.drop 4)))
            · rw [if_neg (by simp [h6]), if_neg (by simp [h6])]
              dsimp only
              rw [← mid_len (b := b) (i := 12) (n := num (b.drop 4)) (by omega)]
            · rw [if_pos h6, if_pos h6]
        · rw [ct (by simp; omega), if_pos h4]
    · rw [cf (by simp; omega), if_pos h2']

theorem scan2_loop (N : Nat) (r0 : Int → Int → Nat → List AV → Option R) (d : List UInt8) (t0 o0 : Bool) (nh : Nat) (h1 : List AV) (hN : 3000000 < N) (hN2 : N < 9223372036854775807) (hd : d.length ≤ 140737488355328) :
    ∀ (f : Nat) (n s : Nat) (ls : List (List UInt8)), s ≤ d.length → n ≤ 1024 → 1024 - n < f → ls.length = n →
    journal_scan_v2_q0 N r0 (bytesAV d) d.length t0 o0 nh h1 f n s ls.length (tblTo 256) (listsAV ls) =
      r0 ((n + (recov (1024 - n) n (d.drop s)).1.length : Nat) : Int) ((s + (recov (1024 - n) n (d.drop s)).2 : Nat) : Int) (ls ++ (recov (1024 - n) n (d.drop s)).1).length (listsAV (ls ++ (recov (1024 - n) n (d.drop s)).1))
  | 0, n, s, ls, hs, hn, hf, hl => by omega
  | f + 1, n, s, ls, hs, hn, hf, hl => by
    rw [journal_scan_v2_q0]
    by_cases h8 : n < 1024
    · rw [scan2_q0 N _ r0 d t0 o0 nh h1 n s ls.length (listsAV ls) hN hN2 hd hs h8 (by omega) (by rw [listsAV_length])]
      rw [show 1024 - n = (1024 - (n + 1)) + 1 by omega, recov]
      cases hv : valid n (d.drop s) with
      | none => simp
      | some c =>
        have hc := valid_len hv
        simp only [List.length_drop] at hc
        simp only
        have := scan2_loop N r0 d t0 o0 nh h1 hN hN2 hd f (n + 1) (s + (16 + c.length)) (ls ++ [c]) (by omega) (by omega) (by omega) (by simp [hl])
        rw [show listsAV (ls ++ [c]) = listsAV ls ++ listsAV [c] by simp [listsAV], show (ls ++ [c]).length = ls.length + 1 by simp] at this
        rw [this, List.drop_drop]
        simp only [List.append_assoc, List.singleton_append, List.length_cons]
        congr 1 <;> omega
    · have : n = 1024 := by omega
      subst this
      rw [journal_scan_v2_q0B, cf (by simp)]
      simp [recov]

theorem Recover_spec (N : Nat) (d : List UInt8) (t0 o0 : Bool) (hN : 3000000 < N) (hN2 : N < 9223372036854775807) (hd : d.length ≤ 140737488355328) (k : List AV → Nat → Int → Option R) :
    journal_Recover_v2 N (bytesAV d) d.length t0 o0 k = k (listsAV (recov 1024 0 d).1) (recov 1024 0 d).1.length (recov 1024 0 d).2 := by
  rw [journal_Recover_v2_def, journal_Recover_v2i, journal_Recover_v2B, journal_scan_v2_def, journal_scan_v2i, journal_scan_v2B, table_spec N (by omega), tblTo_len (by omega), ct (by rfl), setCells_all (by rw [List.length_replicate, tblTo_len (by omega)])]
  have := scan2_loop N (fun y1 y2 y3 y4 => k (List.take (y3 * 1) y4) y3 y2) d false o0 0 [] hN hN2 hd N 0 0 [] (by omega) (by omega) (by omega) rfl
  simp only [List.length_nil, List.nil_append, List.drop_zero, Nat.zero_add, Nat.sub_zero] at this
  refine Eq.trans this ?_
  rw [Nat.mul_one, List.take_of_length_le (by rw [listsAV_length]; omega)]
end
end Gx
