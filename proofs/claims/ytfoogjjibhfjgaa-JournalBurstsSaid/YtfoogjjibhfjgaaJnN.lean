/- A part of the proof: what it holds is said at each theorem. -/
import Derived.Test.YtfoogjjibhfjgaaJnL
set_option linter.unusedVariables false
namespace Gx
open Go Jn
/-- The cells of a list of integers. -/
def intsAV (l : List Int) : List AV := l.map fun n => .int .i64 n
section
variable {R : Type}
theorem rdI_ints {l : List Int} {i : Nat} (h : i < l.length) {f : Int → Option R} : rdI .i64 (List.drop (i * 1) (intsAV l)) f = f l[i] := by
  rw [Nat.mul_one, intsAV, ← List.map_drop, List.drop_eq_getElem_cons h]
  exact rdI_cons
theorem bytes_set (l : List UInt8) (i : Nat) (b : UInt8) : List.set (bytesAV l) i (.int .u8 (b.toNat : Int)) = bytesAV (l.set i b) := by simp [bytesAV, List.map_set]

/-- One of the four disks: program and reference answer alike. -/
theorem Recovers_round (N : Nat) (r0 : Bool → Option R) (c : List UInt8) (t2 o2 : Bool) (k3 : Int → Bool → List AV → Option R) (ds : List (List UInt8)) (i : Nat) (w : Bool) (h0 : List AV) (hh : h0 = listsAV ds) (h4 : ds.length = 4) (hi : i < 4) (hd : (ds[i]'(by omega)).length ≤ 140737488355328)
    (hN : 3000000 < N) (hN2 : N < 9223372036854775807) :
    law44_JournalRecovers_q3B N r0 (bytesAV c) c.length t2 o2 k3 i w h0 = k3 ((i + 1 : Nat) : Int) w h0 := by
  subst hh
  have hi4 : i < ds.length := by omega
  rw [law44_JournalRecovers_q3B, ct (by simp; omega), ct (inIdx_nat hi), Int.toNat_natCast, Nat.zero_add, lists_at hi4]
  simp only [rdL_cons]
  rw [Recover_spec N ds[i] false w hN hN2 hd, ct (inIdx_nat hi), refRecover_spec N ds[i] false w hN hN2 hd, ct (inIdx_nat hi), Append_spec N ds[i] c false w false o2 hN hN2 hd]
  have hrl := recov_le 1024 0 ds[i]
  have ew : IntKind.wrap .i64 ((i : Int) + 1) = ((i + 1 : Nat) : Int) := by rw [wrap_i64 _ (by omega)]; omega
  rw [ew]
  by_cases h1 : 2097152 < c.length
  · rw [if_pos h1, ct (inIdx_nat hi), refAppend_spec N ds[i] c false w false o2 hN hN2 hd, if_pos h1, awake_spec N (by omega) hN2, ct (by rfl), ct (by simp), Same_spec N _ _ false false false false (by omega) hN2, ct (by simp), ct (by simp)]
    rfl
  · by_cases h2 : (recov 1024 0 ds[i]).1.length = 1024 ∨ 16777216 < (recov 1024 0 ds[i]).2 + 16 + c.length
    · rw [if_neg h1, if_pos h2, ct (inIdx_nat hi), refAppend_spec N ds[i] c false w false o2 hN hN2 hd, if_neg h1, if_pos h2, awake_spec N (by omega) hN2, ct (by rfl), ct (by simp), Same_spec N _ _ false false false false (by omega) hN2, ct (by simp), ct (by simp)]
      rfl
    · rw [if_neg h1, if_neg h2, ct (inIdx_nat hi), refAppend_spec N ds[i] c false w false o2 hN hN2 hd, if_neg h1, if_neg h2, awake_spec N (by omega) hN2, ct (by rfl), ct (by simp), Same_spec N _ _ false false false false (by omega) hN2, ct (by simp), ct (by simp)]
      rw [Nat.mul_one, take_bytes (by rw [List.length_append, record_len, List.length_take]; omega), asBytes_bytes, Option.bind_some, Option.bind_some, cf (by simp)]

theorem Recovers_loop (N : Nat) (r0 : Bool → Option R) (c : List UInt8) (t2 o2 : Bool) (ds : List (List UInt8)) (w : Bool) (h4 : ds.length = 4) (hd : ∀ d ∈ ds, d.length ≤ 140737488355328) (hN : 3000000 < N) (hN2 : N < 9223372036854775807) : ∀ (f i : Nat), i ≤ 4 → 4 - i < f →
    law44_JournalRecovers_q3 N r0 (bytesAV c) c.length t2 o2 f i w (listsAV ds) = r0 true
  | 0, i, hi, hf => by omega
  | f + 1, i, hi, hf => by
    rw [law44_JournalRecovers_q3]
    by_cases h8 : i < 4
    · rw [Recovers_round N r0 c t2 o2 _ ds i w _ rfl h4 h8 (hd _ (List.getElem_mem (by omega))) hN hN2]
      exact Recovers_loop N r0 c t2 o2 ds w h4 hd hN hN2 f (i + 1) (by omega) (by omega)
    · have : i = 4 := by omega
      subst this
      rw [law44_JournalRecovers_q3B, cf (by simp)]

theorem Recovers_end (N : Nat) (r0 : Bool → Option R) (a : List (List UInt8)) (raw c d ch : List UInt8) (o0 t2 o2 : Bool) (ha : Light a) (hraw : raw.length ≤ 400) (hd : d.length ≤ 3000) (hch : ch.length ≤ 3000) (hN : 3000000 < N) (hN2 : N < 9223372036854775807) :
    (law44_disk N (listsAV a) a.length false o0 (fun y5 y6 => (law44_JournalRecovers_q3 N r0 (bytesAV c) c.length t2 o2 N (0 : Int) ((false || false) || false) [(.imm (bytesAV raw) raw.length 1 false false), (.imm (List.take (d.length * 1) (bytesAV d)) d.length 1 false false), (.imm (List.take (ch.length * 1) (bytesAV ch)) ch.length 1 false false), (.imm (List.take (y5 * 1) y6) y5 1 false false)])) : Option R) = r0 true := by
  have hl := ha.dlen
  rw [disk_spec N a false o0 ha (by omega) hN2, Nat.mul_one, Nat.mul_one, Nat.mul_one, take_bytes (Nat.le_refl _), take_bytes (Nat.le_refl _), take_bytes (Nat.le_refl _)]
  exact Recovers_loop N r0 c t2 o2 [raw, d, ch, diskFrom 0 a] false rfl (fun x hx => by
    simp at hx
    rcases hx with rfl | rfl | rfl | rfl <;> omega) hN hN2 N 0 (by omega) (by omega)

theorem wrap_u8_any (n : Int) : ∃ u : Nat, u < 256 ∧ IntKind.wrap .u8 n = (u : Int) := by
  refine ⟨(n % 256).toNat, by omega, ?_⟩
  rw [IntKind.wrap_u8]; omega

theorem Recovers_edits (N : Nat) (r0 : Bool → Option R) (a : List (List UInt8)) (raw c d : List UInt8) (ed : List Int) (t0 o0 t2 o2 t5 o5 : Bool) (ha : Light a) (hraw : raw.length ≤ 400) (hd : d.length ≤ 3000) (hed : ed.length ≤ 12) (hN : 3000000 < N) (hN2 : N < 9223372036854775807) :
    ∀ (f i : Nat) (ch : List UInt8), ch.length ≤ 3000 → i ≤ ed.length + 2 → ed.length + 2 - i < f →
    law44_JournalRecovers_q1 N r0 (listsAV a) a.length t0 o0 (bytesAV raw) raw.length false false (bytesAV c) c.length t2 o2 (intsAV ed) ed.length t5 o5 f d.length ch.length i (bytesAV d) (bytesAV ch) = r0 true
  | 0, i, ch, hch, hi, hf => by omega
  | f + 1, i, ch, hch, hi, hf => by
    rw [law44_JournalRecovers_q1, law44_JournalRecovers_q1B]
    have e1 : IntKind.wrap .i64 ((i : Int) + 1) = ((i + 1 : Nat) : Int) := by rw [wrap_i64 _ (by omega)]; omega
    rw [e1]
    by_cases h1 : i + 1 < ed.length
    · rw [ct (by simp; omega)]
      by_cases h2 : 0 < ch.length
      · rw [ct (by simp; omega), law44_JournalRecovers_q2, law44_JournalRecovers_q2B, ct (inIdx_nat (by omega)), Int.toNat_natCast, rdI_ints (show i < ed.length by omega)]
        obtain ⟨m, hm, hmod⟩ := Mod_spec (R := R) N ed[i] ch.length h2 (by omega)
        obtain ⟨u, hu, hw⟩ := wrap_u8_any ed[i + 1]
        have hb := ch[m].toNat_lt
        have hx : bitXor .u8 ((ch[m].toNat : Nat) : Int) (u : Int) = (((UInt8.ofNat (ch[m].toNat ^^^ u)).toNat : Nat) : Int) := by
          rw [bitXor_nat (k := .u8) rfl (by show _ < 256; omega) (by show _ < 256; omega), UInt8.toNat_ofNat', Nat.mod_eq_of_lt (Nat.xor_lt_two_pow (n := 8) (by omega) (by omega))]
        have e2 : IntKind.wrap .i64 ((i : Int) + 2) = ((i + 2 : Nat) : Int) := by rw [wrap_i64 _ (by omega)]; omega
        rw [hmod, ct (inIdx_nat hm), Int.toNat_natCast, Nat.zero_add, Nat.mul_one, rdI_bytes hm, e1, ct (inIdx_nat h1), Int.toNat_natCast, rdI_ints h1, ct (inIdx_nat hm), hw, hx, e2, bytes_set, ct (by simp [bytesAV_length]; omega)]
        have := Recovers_edits N r0 a raw c d ed t0 o0 t2 o2 t5 o5 ha hraw hd hed hN hN2 f (i + 2) (ch.set m (UInt8.ofNat (ch[m].toNat ^^^ u))) (by simpa using hch) (by omega) (by omega)
        rw [List.length_set] at this
        exact this
      · rw [cf (by show decide (((ch.length : Nat) : Int) > 0) = false; exact decide_eq_false (by omega))]
        exact Recovers_end N r0 a raw c d ch o0 t2 o2 ha hraw hd hch hN hN2
    · rw [cf (by simp; omega)]
      exact Recovers_end N r0 a raw c d ch o0 t2 o2 ha hraw hd hch hN hN2

theorem JournalRecovers_true (N : Nat) (a : List (List UInt8)) (t0 o0 : Bool) (raw : List UInt8) (c : List UInt8) (t2 o2 : Bool) (more : List UInt8) (t3 o3 : Bool) (cut : Int) (ed : List Int) (t5 o5 : Bool) (hN : 3000000 < N) (hN2 : N < 9223372036854775807) (k : Bool → Option R) :
    law44_JournalRecovers N (listsAV a) a.length t0 o0 (bytesAV raw) raw.length false false (bytesAV c) c.length t2 o2 (bytesAV more) more.length t3 o3 cut (intsAV ed) ed.length t5 o5 k = k true := by
  rw [law44_JournalRecovers_def, law44_JournalRecoversi, law44_JournalRecoversB, light_spec N a false o0 (by omega)]
  by_cases h : a.length ≤ 12 ∧ ∀ c ∈ a, c.length ≤ 200
  · rw [decide_eq_true h, ct (by rfl)]
    have ha : Light a := h
    have hl := ha.dlen
    by_cases h1 : 400 < raw.length
    · rw [cf (by simp; omega)]
    · rw [ct (by simp; omega)]
      by_cases h2 : 200 < c.length
      · rw [cf (by simp; omega)]
      · rw [ct (by simp; omega)]
        by_cases h3 : 100 < more.length
        · rw [cf (by simp; omega)]
        · rw [ct (by simp; omega)]
          by_cases h4 : 12 < ed.length
          · rw [ct (by simp; omega)]
          · rw [cf (by simp; omega), law44_JournalRecovers_q0, law44_JournalRecovers_q0B, disk_spec N a false o0 ha (by omega) hN2]
            have e1 : IntKind.wrap .i64 (((diskFrom 0 a).length : Int) + 1) = (((diskFrom 0 a).length + 1 : Nat) : Int) := by rw [wrap_i64 _ (by omega)]; omega
            obtain ⟨m, hm, hmod⟩ := Mod_spec (R := R) N cut ((diskFrom 0 a).length + 1) (by omega) (by omega)
            rw [e1, hmod, ct (by simp; omega), plainZ_bytes, ct (by simp), Int.toNat_natCast, ct (by simp; omega), ct (by simp; omega)]
            have hd : m + more.length = ((diskFrom 0 a).take m ++ more).length := by rw [List.length_append, List.length_take]; omega
            rw [Nat.mul_one, bytesAV_take, bytesAV_append, Nat.zero_add, hd, Nat.mul_one, take_bytes (Nat.le_refl _)]
            exact Recovers_edits N k a raw c _ ed t0 o0 t2 o2 t5 o5 ha (by omega) (by rw [← hd]; omega) (by omega) hN hN2 N 0 _ (by rw [← hd]; omega) (by omega) (by omega)
  · rw [decide_eq_false h, cf (by rfl)]
end
end Gx
