/- A part of the proof: what it holds is said at each theorem. -/
import Derived.Test.YtfoogjjibhfjgaaJnG
set_option linter.unusedVariables false
namespace Gx
open Go Jn
section
variable {R : Type}

theorem refR_q2 (N : Nat) (k0 : Nat → Int → Int → List AV → Option R) (r0 : List AV → Nat → Int → Option R) (c0 : List AV) (n0 : Nat) (t0 o0 : Bool) (b : List UInt8) (L n s m : Nat) (h0 : List AV)
    (hb2 : b.length ≤ 140737488355328) (hlen : 16 + L ≤ b.length) (hs : s ≤ 140737488355328) (hn : n < 1024) (hm : m ≤ 1024) (hml : m = h0.length) :
    ref44_Recover_q2 N k0 r0 c0 n0 t0 o0 (bytesAV b) m s n b.length L h0 = k0 (m + 1) ((s + (16 + L) : Nat) : Int) ((n + 1 : Nat) : Int) (h0 ++ listsAV [(b.drop 12).take L]) := by
  rw [ref44_Recover_q2, ref44_Recover_q2B]
  have e3 : IntKind.wrap .i64 ((12 : Int) + (L : Int)) = ((12 + L : Nat) : Int) := by rw [wrap_i64 _ (by omega)]; omega
  have e6 : IntKind.wrap .i64 ((n : Int) + 1) = ((n + 1 : Nat) : Int) := by rw [wrap_i64 _ (by omega)]; omega
  have e7 : IntKind.wrap .i64 ((s : Int) + 16) = ((s + 16 : Nat) : Int) := by rw [wrap_i64 _ (by omega)]; omega
  have e8 : IntKind.wrap .i64 (((s + 16 : Nat) : Int) + (L : Int)) = ((s + (16 + L) : Nat) : Int) := by rw [wrap_i64 _ (by omega)]; omega
  have e4 := mid_len (b := b) (i := 12) (n := L) (by omega)
  rw [e3, e6, e7, e8, ct (by simp; omega), Int.toNat_natCast, show 12 + L - 12 = L by omega, mid_eq, plainZ_bytes, ct (by simp), ct (by simp; omega), ct (by simp; omega), Nat.mul_one, List.take_of_length_le (by omega), Nat.zero_add, Nat.mul_one, take_bytes (by omega)]
  congr 1
  simp only [listsAV, List.map_cons, List.map_nil]
  rw [← e4]

theorem refR_q1 (N : Nat) (k0 : Nat → Int → Int → List AV → Option R) (r0 : List AV → Nat → Int → Option R) (c0 : List AV) (n0 : Nat) (t0 o0 : Bool) (b : List UInt8) (n s m : Nat) (h0 : List AV)
    (hN : 3000000 < N) (hN2 : N < 9223372036854775807) (hb : 16 ≤ b.length) (hb2 : b.length ≤ 140737488355328) (hs : s ≤ 140737488355328) (hn : n < 1024) (hm : m ≤ 1024) (hml : m = h0.length) :
    ref44_Recover_q1 N k0 r0 c0 n0 t0 o0 m s n (bytesAV b) b.length h0 =
      if 2097152 < num (b.drop 4) then r0 h0 m s
      else if b.length < 16 + num (b.drop 4) then r0 h0 m s
      else if num (b.drop (12 + num (b.drop 4))) ≠ crc ((b.drop 12).take (num (b.drop 4))) then r0 h0 m s
      else k0 (m + 1) ((s + (16 + num (b.drop 4)) : Nat) : Int) ((n + 1 : Nat) : Int) (h0 ++ listsAV [(b.drop 12).take (num (b.drop 4))]) := by
  rw [ref44_Recover_q1, ref44_Recover_q1B, ct (by simp; omega), sub_eq, drop_len, number_spec N _ false o0 (by simp; omega), Nat.mul_one m, List.take_of_length_le (Nat.le_of_eq hml.symm)]
  have hlt := num_lt (b.drop 4)
  generalize hL : num (b.drop 4) = L at *
  have e1 : IntKind.wrap .i64 (L : Int) = (L : Int) := wrap_i64 _ (by omega)
  have e2 : IntKind.wrap .i64 ((16 : Int) + (L : Int)) = ((16 + L : Nat) : Int) := by rw [wrap_i64 _ (by omega)]; omega
  have e3 : IntKind.wrap .i64 ((12 : Int) + (L : Int)) = ((12 + L : Nat) : Int) := by rw [wrap_i64 _ (by omega)]; omega
  rw [e1, e2, e3]
  by_cases h2 : 2097152 < L
  · rw [cf (by simp; omega), if_pos h2]
  · rw [ct (by simp; omega), if_neg h2]
    by_cases h3 : b.length < 16 + L
    · rw [cf (by simp; omega), if_pos h3]
    · rw [ct (by simp; omega), if_neg h3, ct (by simp; omega), Int.toNat_natCast, sub_eq', drop_len, number_spec N _ false o0 (by simp; omega), ct (by simp; omega), show 12 + L - 12 = L by omega, mid_eq]
      have e4 := mid_len (b := b) (i := 12) (n := L) (by omega)
      have e5 := refChecksum_spec (R := R) N ((b.drop 12).take L) false o0 (by omega) (by simp; omega) hN2
      rw [← e4] at e5
      rw [e5]
      by_cases h4 : num (b.drop (12 + L)) = crc ((b.drop 12).take L)
      · rw [h4, cf (by simp), if_neg (by simp)]
        exact refR_q2 N k0 r0 c0 n0 t0 o0 b L n s m h0 hb2 (by omega) hs hn hm hml
      · rw [ct (by simp; omega), if_pos h4]

theorem refR_q0 (N : Nat) (k0 : Nat → Int → Int → List AV → Option R) (r0 : List AV → Nat → Int → Option R) (d : List UInt8) (t0 o0 : Bool) (n s m : Nat) (h0 : List AV)
    (hN : 3000000 < N) (hN2 : N < 9223372036854775807) (hd : d.length ≤ 140737488355328) (hs : s ≤ d.length) (hn : n < 1024) (hm : m ≤ 1024) (hml : m = h0.length) :
    ref44_Recover_q0B N r0 (bytesAV d) d.length t0 o0 k0 (fun a1 a2 a3 a4 a5 a6 => ref44_Recover_q1 N k0 r0 (bytesAV d) d.length t0 o0 a1 a2 a3 a4 a5 a6) m s n h0 =
      match valid n (d.drop s) with
      | none => r0 h0 m s
      | some c => k0 (m + 1) ((s + (16 + c.length) : Nat) : Int) ((n + 1 : Nat) : Int) (h0 ++ listsAV [c]) := by
  rw [ref44_Recover_q0B, ct (by simp; omega), ct (by simp; omega), Int.toNat_natCast, rest_eq, drop_len, Nat.mul_one m, List.take_of_length_le (Nat.le_of_eq hml.symm)]
  generalize hb : d.drop s = b
  have hbl : b.length ≤ 140737488355328 := by rw [← hb]; simp; omega
  unfold valid
  by_cases h1' : b.length < 16
  · rw [cf (by simp; omega), if_pos h1']
  · rw [ct (by simp; omega), if_neg h1', number_spec N b false o0 (by omega), wrap_u32 n (by omega)]
    by_cases h2' : num b = n
    · rw [ct (by simp [h2']), if_neg (by simp [h2']), ct (by simp; omega), sub_eq, drop_len, number_spec N _ false o0 (by simp; omega), ct (by simp; omega), bytesAV_take]
      have e5 := refChecksum_spec (R := R) N (b.take 8) false o0 (by omega) (by simp; omega) hN2
      rw [show (b.take 8).length = 8 by simp; omega] at e5
      rw [e5]
      by_cases h4 : num (b.drop 8) = crc (b.take 8)
      · rw [h4, cf (by simp), refR_q1 N k0 r0 _ _ t0 o0 b n s m h0 hN hN2 (by omega) hbl (by omega) hn hm hml]
        by_cases h3 : 2097152 < num (b.drop 4)
        · rw [if_pos h3, if_pos h3]
        · rw [if_neg h3, if_neg h3, if_neg (show ¬ crc (b.take 8) ≠ crc (b.take 8) by simp)]
          by_cases h5 : b.length < 16 + num (b.drop 4)
          · rw [if_pos h5, if_pos h5]
          · rw [if_neg h5, if_neg h5]
            by_cases h6 : num (b.drop (12 + num (b.drop 4))) = crc ((b.drop 12).take (num (b.drop 4)))
            · rw [if_neg (by simp [h6]), if_neg (by simp [h6])]
              dsimp only
              rw [← mid_len (b := b) (i := 12) (n := num (b.drop 4)) (by omega)]
            · rw [if_pos h6, if_pos h6]
      · rw [ct (by simp; omega)]
        by_cases h3 : 2097152 < num (b.drop 4)
        · rw [if_pos h3]
        · rw [if_neg h3, if_pos h4]
    · rw [cf (by simp; omega), if_pos h2']

theorem refR_loop (N : Nat) (r0 : List AV → Nat → Int → Option R) (d : List UInt8) (t0 o0 : Bool) (hN : 3000000 < N) (hN2 : N < 9223372036854775807) (hd : d.length ≤ 140737488355328) :
    ∀ (f : Nat) (n s : Nat) (ls : List (List UInt8)), s ≤ d.length → n ≤ 1024 → 1024 - n < f → ls.length = n →
    ref44_Recover_q0 N r0 (bytesAV d) d.length t0 o0 f ls.length s n (listsAV ls) =
      r0 (listsAV (ls ++ (recov (1024 - n) n (d.drop s)).1)) (ls ++ (recov (1024 - n) n (d.drop s)).1).length ((s + (recov (1024 - n) n (d.drop s)).2 : Nat) : Int)
  | 0, n, s, ls, hs, hn, hf, hl => by omega
  | f + 1, n, s, ls, hs, hn, hf, hl => by
    rw [ref44_Recover_q0]
    by_cases h8 : n < 1024
    · rw [refR_q0 N _ r0 d t0 o0 n s ls.length (listsAV ls) hN hN2 hd hs h8 (by omega) (by rw [listsAV_length])]
      rw [show 1024 - n = (1024 - (n + 1)) + 1 by omega, recov]
      cases hv : valid n (d.drop s) with
      | none => simp
      | some c =>
        have hc := valid_len hv
        simp only [List.length_drop] at hc
        simp only
        have := refR_loop N r0 d t0 o0 hN hN2 hd f (n + 1) (s + (16 + c.length)) (ls ++ [c]) (by omega) (by omega) (by omega) (by simp [hl])
        rw [show listsAV (ls ++ [c]) = listsAV ls ++ listsAV [c] by simp [listsAV], show (ls ++ [c]).length = ls.length + 1 by simp] at this
        rw [this, List.drop_drop]
        simp only [List.append_assoc, List.singleton_append]
        congr 1; omega
    · have : n = 1024 := by omega
      subst this
      rw [ref44_Recover_q0B, cf (by simp), Nat.mul_one, List.take_of_length_le (by rw [listsAV_length]; omega)]
      simp [recov]

theorem refRecover_spec (N : Nat) (d : List UInt8) (t0 o0 : Bool) (hN : 3000000 < N) (hN2 : N < 9223372036854775807) (hd : d.length ≤ 140737488355328) (k : List AV → Nat → Int → Option R) :
    ref44_Recover N (bytesAV d) d.length t0 o0 k = k (listsAV (recov 1024 0 d).1) (recov 1024 0 d).1.length (recov 1024 0 d).2 := by
  rw [ref44_Recover_def, ref44_Recoveri, ref44_RecoverB]
  have := refR_loop N k d t0 o0 hN hN2 hd N 0 0 [] (by omega) (by omega) (by omega) rfl
  simp only [List.length_nil, List.nil_append, List.drop_zero, Nat.zero_add, Nat.sub_zero] at this
  exact this

theorem refAppend_spec (N : Nat) (d c : List UInt8) (t0 o0 t1 o1 : Bool) (hN : 3000000 < N) (hN2 : N < 9223372036854775807) (hd : d.length ≤ 140737488355328) (k : List AV → Nat → Int → Option R) :
    ref44_Append N (bytesAV d) d.length t0 o0 (bytesAV c) c.length t1 o1 k =
      if 2097152 < c.length then k [] 0 8 else if (recov 1024 0 d).1.length = 1024 ∨ 16777216 < (recov 1024 0 d).2 + 16 + c.length then k [] 0 19
      else k (bytesAV (d.take (recov 1024 0 d).2 ++ record (recov 1024 0 d).1.length c)) ((recov 1024 0 d).2 + 16 + c.length) 0 := by
  rw [ref44_Append_def, ref44_Appendi, ref44_AppendB]
  have hr := recov_le 1024 0 d
  by_cases h1 : 2097152 < c.length
  · rw [ct (by simp; omega), if_pos h1]
  · rw [cf (by simp; omega), if_neg h1, refRecover_spec N d false o0 hN hN2 hd]
    generalize hn : (recov 1024 0 d).1.length = n at *
    generalize hs : (recov 1024 0 d).2 = s at *
    by_cases h2 : n = 1024
    · rw [cf (by simp; omega), if_pos (.inl h2)]
    · have e1 : IntKind.wrap .i64 ((s : Int) + 16) = ((s + 16 : Nat) : Int) := by rw [wrap_i64 _ (by omega)]; omega
      have e2 : IntKind.wrap .i64 (((s + 16 : Nat) : Int) + (c.length : Int)) = ((s + 16 + c.length : Nat) : Int) := by rw [wrap_i64 _ (by omega)]; omega
      rw [ct (by simp; omega), e1, e2]
      by_cases h3 : 16777216 < s + 16 + c.length
      · rw [ct (by simp; omega), if_pos (.inr h3)]
      · rw [cf (by simp; omega), if_neg (by omega), ct (by simp; omega), Int.toNat_natCast, Nat.mul_one s, bytesAV_take, plainZ_bytes, ct (by simp), ct (by simp; omega), refRecord_spec N c n false o1 (by omega) (by omega) (by omega) (by omega) hN2, ct (by simp; omega)]
        rw [Nat.mul_one, Nat.mul_one, Nat.mul_one, take_bytes (l := d.take s) (by simp; omega), take_bytes (l := record n c) (by rw [record_len]; omega), bytesAV_append, take_bytes (by simp [record_len]; omega), show 0 + s + (16 + c.length) = s + 16 + c.length by omega]

theorem dec_cons {p q : List UInt8} {x y : List (List UInt8)} : decide (p :: x = q :: y) = (decide (p = q) && decide (x = y)) := by
  rw [Bool.eq_iff_iff]; simp only [decide_eq_true_eq, Bool.and_eq_true, List.cons.injEq]
theorem dec_all {p : List UInt8} {x : List (List UInt8)} : decide (∀ c ∈ p :: x, c.length ≤ 200) = (decide (p.length ≤ 200) && decide (∀ c ∈ x, c.length ≤ 200)) := by
  rw [Bool.eq_iff_iff]; simp only [decide_eq_true_eq, Bool.and_eq_true, List.forall_mem_cons]
theorem Same_loop (N : Nat) (r0 : Bool → Option R) (a b : List (List UInt8)) (t0 o0 t1 o1 : Bool) (hab : a.length = b.length) (ha : a.length < 9223372036854775807) : ∀ (f i : Nat), i ≤ a.length → a.length - i < f →
    ref44_Same_q0 N r0 (listsAV a) a.length t0 o0 (listsAV b) b.length t1 o1 f i = r0 (decide (a.drop i = b.drop i))
  | 0, i, hi, hf => by omega
  | f + 1, i, hi, hf => by
    rw [ref44_Same_q0, ref44_Same_q0B]
    by_cases h8 : i < a.length
    · have hb8 : i < b.length := by omega
      have ea : List.drop (i * 1) (listsAV a) = .imm (bytesAV a[i]) a[i].length 1 false false :: listsAV (a.drop (i + 1)) := by
        rw [Nat.mul_one, listsAV, ← List.map_drop, List.drop_eq_getElem_cons h8]; rfl
      have eb : List.drop (i * 1) (listsAV b) = .imm (bytesAV b[i]) b[i].length 1 false false :: listsAV (b.drop (i + 1)) := by
        rw [Nat.mul_one, listsAV, ← List.map_drop, List.drop_eq_getElem_cons hb8]; rfl
      rw [ct (by simp; omega), ct (inIdx_nat h8), Int.toNat_natCast, ea, rdL_cons, asBytes_bytes, Option.bind_some, ct (inIdx_nat hb8), eb, rdL_cons, asBytes_bytes, Option.bind_some, List.drop_eq_getElem_cons h8, List.drop_eq_getElem_cons hb8]
      by_cases he : a[i] = b[i]
      · rw [cf (by simp [he]), show ((i : Int) + 1) = ((i + 1 : Nat) : Int) by omega, wrap_i64 _ (by omega), Same_loop N r0 a b t0 o0 t1 o1 hab ha f (i + 1) (by omega) (by omega)]
        congr 1
        rw [dec_cons, decide_eq_true he, Bool.true_and]
      · rw [ct (by simp [he])]
        congr 1
        rw [dec_cons, decide_eq_false he, Bool.false_and]
    · have : i = a.length := by omega
      subst this
      rw [cf (by simp)]
      simp [hab]

theorem Same_spec (N : Nat) (a b : List (List UInt8)) (t0 o0 t1 o1 : Bool) (hN : a.length < N) (hN2 : N < 9223372036854775807) (k : Bool → Option R) : ref44_Same N (listsAV a) a.length t0 o0 (listsAV b) b.length t1 o1 k = k (decide (a = b)) := by
  rw [ref44_Same_def, ref44_Samei, ref44_SameB]
  by_cases h : a.length = b.length
  · rw [cf (by simp [h])]
    have := Same_loop N k a b t0 o0 t1 o1 h (by omega) N 0 (by omega) (by omega)
    simpa using this
  · rw [ct (by simp; omega)]
    congr 1
    simp; intro e; exact h (by rw [e])

theorem light_loop (N : Nat) (r0 : Bool → Option R) (a : List (List UInt8)) (t0 o0 : Bool) (ha : a.length < 9223372036854775807) : ∀ (f i : Nat), i ≤ a.length → a.length - i < f →
    law44_light_q0 N r0 (listsAV a) a.length t0 o0 f i = r0 (decide (∀ c ∈ a.drop i, c.length ≤ 200))
  | 0, i, hi, hf => by omega
  | f + 1, i, hi, hf => by
    rw [law44_light_q0, law44_light_q0B]
    by_cases h8 : i < a.length
    · have ea : List.drop (i * 1) (listsAV a) = .imm (bytesAV a[i]) a[i].length 1 false false :: listsAV (a.drop (i + 1)) := by
        rw [Nat.mul_one, listsAV, ← List.map_drop, List.drop_eq_getElem_cons h8]; rfl
      rw [ct (by simp; omega), ct (inIdx_nat h8), Int.toNat_natCast, ea, rdL_cons, List.drop_eq_getElem_cons h8]
      by_cases he : a[i].length ≤ 200
      · rw [cf (by simp; omega), show ((i : Int) + 1) = ((i + 1 : Nat) : Int) by omega, wrap_i64 _ (by omega), light_loop N r0 a t0 o0 ha f (i + 1) (by omega) (by omega)]
        congr 1
        rw [dec_all, decide_eq_true he, Bool.true_and]
      · rw [ct (by simp; omega)]
        congr 1
        rw [dec_all, decide_eq_false he, Bool.false_and]
    · have : i = a.length := by omega
      subst this
      rw [cf (by simp)]
      simp
theorem light_spec (N : Nat) (a : List (List UInt8)) (t0 o0 : Bool) (hN : 20 < N) (k : Bool → Option R) : law44_light N (listsAV a) a.length t0 o0 k = k (decide (a.length ≤ 12 ∧ ∀ c ∈ a, c.length ≤ 200)) := by
  rw [law44_light_def, law44_lighti, law44_lightB]
  by_cases h : a.length ≤ 12
  · rw [cf (by simp; omega)]
    have := light_loop N k a t0 o0 (by omega) N 0 (by omega) (by omega)
    simp only [Int.natCast_zero, List.drop_zero] at this
    rw [this]
    congr 1
    simp [h]
  · rw [ct (by simp; omega)]
    congr 1
    simp [h]
end
end Gx
