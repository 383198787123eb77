/- A part of the proof: what it holds is said at each theorem. -/
import Derived.Test.YtfoogjjibhfjgaaJnQ
set_option linter.unusedVariables false
/- A change of at most four bytes is found: a record with such a change is not valid. -/
namespace Jn
theorem steps_nought : ∀ (n : Nat), steps n 0 = 0
  | 0 => rfl
  | n + 1 => by rw [steps]; exact steps_nought n
theorem crc_ne (q m : Nat) (x : UInt8) (f : List UInt8) (hx : x ≠ 0) (hf : f.length ≤ 3) : crcFrom 0 (List.replicate q 0 ++ (x :: f ++ List.replicate m 0)) ≠ 0 := by
  intro h
  rw [crcFrom_append, crcFrom_zeros, steps_nought, crcFrom_append, crcFrom_zeros, crcFrom_le, Nat.zero_xor] at h
  have hl : le (x :: f) < 4294967296 := by
    have h1 := le_lt (x :: f)
    have h2 : 2 ^ (8 * (x :: f).length) ≤ 2 ^ 32 := Nat.pow_le_pow_right (by omega) (by simp; omega)
    omega
  have h1 := steps_zero _ (steps_lt _ hl) h
  have h2 := steps_zero _ hl h1
  rw [le] at h2
  exact hx (UInt8.toNat_inj.mp (by show x.toNat = 0; omega))
/-- A list of nothing but a change of at most four bytes, the first at q. -/
def Burst (E : List UInt8) (q : Nat) : Prop := ∃ (x : UInt8) (f : List UInt8) (m : Nat), x ≠ 0 ∧ f.length ≤ 3 ∧ E = List.replicate q 0 ++ (x :: f ++ List.replicate m 0)
theorem Burst.take {E : List UInt8} {q w : Nat} (h : Burst E q) (hw : q < w) : crcFrom 0 (E.take w) ≠ 0 := by
  obtain ⟨x, f, m, hx, hf, rfl⟩ := h
  obtain ⟨v, rfl⟩ : ∃ v, w = q + (v + 1) := ⟨w - q - 1, by omega⟩
  rw [List.take_append, List.take_of_length_le (by simp), List.length_replicate, show q + (v + 1) - q = v + 1 by omega, List.cons_append, List.take_succ_cons, List.take_append, List.take_replicate, ← List.cons_append]
  exact crc_ne q _ x _ hx (by rw [List.length_take]; omega)
theorem Burst.drop {E : List UInt8} {q w : Nat} (h : Burst E q) (hw : w ≤ q) : Burst (E.drop w) (q - w) := by
  obtain ⟨x, f, m, hx, hf, rfl⟩ := h
  refine ⟨x, f, m, hx, hf, ?_⟩
  rw [List.drop_append_of_le_length (by simpa using hw), List.drop_replicate]
theorem Burst.zeros {E : List UInt8} {q w : Nat} (h : Burst E q) (hw : w ≤ q) : E.take w = List.replicate w 0 := by
  obtain ⟨x, f, m, hx, hf, rfl⟩ := h
  rw [List.take_append_of_le_length (by simpa using hw), List.take_replicate, Nat.min_eq_left hw]
theorem xorL_length (l e : List UInt8) (h : l.length = e.length) : (xorL l e).length = l.length := by simp [xorL, h]
theorem xorL_drop (l e : List UInt8) (n : Nat) : (xorL l e).drop n = xorL (l.drop n) (e.drop n) := by simp [xorL, List.drop_zipWith]
theorem xorL_take (l e : List UInt8) (n : Nat) : (xorL l e).take n = xorL (l.take n) (e.take n) := by simp [xorL, List.take_zipWith]
theorem crc_xor (l e : List UInt8) (h : l.length = e.length) : crc (xorL l e) = crc l ^^^ crcFrom 0 e := by
  have := crcFrom_xor l e 4294967295 0 h
  rw [Nat.xor_zero] at this
  rw [crc, this, crc, Nat.xor_assoc]
theorem num_le {b : List UInt8} (h : 4 ≤ b.length) : num b = le (b.take 4) := by
  match b, h with
  | a :: b :: c :: d :: r, _ => simp [num, le]; omega
theorem le_xorL : ∀ (l e : List UInt8), l.length = e.length → le (xorL l e) = le l ^^^ le e
  | [], [], _ => rfl
  | x :: l, y :: e, h => by
    show (x ^^^ y).toNat + 256 * le (xorL l e) = (x.toNat + 256 * le l) ^^^ (y.toNat + 256 * le e)
    rw [le_xorL l e (by simpa using h), le_xor, le_xor, le_xor, UInt8.toNat_xor, show 256 * (le l ^^^ le e) = 256 * le l ^^^ 256 * le e by
      have := Nat.shiftLeft_xor_distrib (a := le l) (b := le e) (i := 8)
      simp only [Nat.shiftLeft_eq, show 2 ^ 8 = 256 from rfl, Nat.mul_comm _ 256] at this
      exact this]
    ac_rfl
theorem num_xorL {l e : List UInt8} (h : l.length = e.length) (h4 : 4 ≤ l.length) : num (xorL l e) = num l ^^^ le (e.take 4) := by
  rw [num_le (by rw [xorL_length _ _ h]; exact h4), num_le h4, xorL_take, le_xorL _ _ (by simp [h])]
/-- Where the stored checksum still answers, the change with its checksum leaves nought. -/
theorem residue (e : List UInt8) (w : Nat) (h : w + 4 ≤ e.length) (h0 : le ((e.drop w).take 4) = crcFrom 0 (e.take w)) : crcFrom 0 (e.take (w + 4)) = 0 := by
  rw [List.take_add, crcFrom_append, crcFrom_le, h0, Nat.xor_self, steps_nought]
theorem xor_cancel {a b c d : Nat} (h : a ^^^ b = c ^^^ d) (hc : a = c) : b = d := by
  subst hc
  have := congrArg (a ^^^ ·) h
  simpa only [← Nat.xor_assoc, Nat.xor_self, Nat.zero_xor] using this
theorem valid_burst (n q : Nat) (c r E : List UInt8) (hc : c.length ≤ 2097152) (hE : E.length = (record n c ++ r).length) (hq : q < 16 + c.length) (hB : Burst E q) :
    valid n (xorL (record n c ++ r) E) = none := by
  have hb := hE.symm
  have hrl : (record n c ++ r).length = 16 + c.length + r.length := by rw [List.length_append, record_len]
  have hlen : (xorL (record n c ++ r) E).length = (record n c ++ r).length := xorL_length _ _ hb
  have e8 : (record n c ++ r).drop 8 = four (crc (head n c.length)) ++ (c ++ (four (crc c) ++ r)) := by
    rw [record_eq]; simp [four]
  have t8 : (record n c ++ r).take 8 = head n c.length := by
    rw [record_eq]; simp [four, head]
  have e4 : (record n c ++ r).drop 4 = four c.length ++ (four (crc (head n c.length)) ++ (c ++ (four (crc c) ++ r))) := by
    rw [record_eq]; simp [four]
  have e12 : (record n c ++ r).drop 12 = c ++ (four (crc c) ++ r) := by
    rw [record_eq]; simp [four]
  unfold valid
  rw [hlen, if_neg (by omega)]
  split
  · rfl
  split
  · rfl
  split
  · rfl
  next h1 h2 h3 =>
  have h3 : num ((xorL (record n c ++ r) E).drop 8) = crc ((xorL (record n c ++ r) E).take 8) := Classical.not_not.mp h3
  rw [xorL_drop, num_xorL (by rw [List.length_drop, List.length_drop, hb]) (by rw [List.length_drop]; omega), xorL_take, crc_xor _ _ (by simp [hb]), e8, t8, num_four _ (crc_lt _)] at h3
  have h4 := xor_cancel h3 rfl
  have h5 := residue E 8 (by omega) h4
  by_cases hq12 : q < 12
  · exact absurd h5 (hB.take hq12)
  have hz : (E.drop 4).take 4 = List.replicate 4 0 := (hB.drop (by omega)).zeros (by omega)
  have hL : num ((xorL (record n c ++ r) E).drop 4) = c.length := by
    rw [xorL_drop, num_xorL (by rw [List.length_drop, List.length_drop, hb]) (by rw [List.length_drop]; omega), hz, e4, num_four _ (by omega)]
    simp [le]
  rw [hL, if_neg (by omega)]
  split
  · rfl
  next h6 =>
  have h6 := Classical.not_not.mp h6
  rw [← List.drop_drop, xorL_drop _ _ 12, xorL_drop, num_xorL (by simp only [List.length_drop, hb]) (by simp only [List.length_drop]; omega), xorL_take, crc_xor _ _ (by simp [hb]), e12, List.drop_left, List.take_left, num_four _ (crc_lt _)] at h6
  have h7 := xor_cancel h6 rfl
  have h8 := residue (E.drop 12) c.length (by rw [List.length_drop]; omega) h7
  exact absurd h8 ((hB.drop (by omega)).take (by omega))
theorem xorL_zeros : ∀ (l : List UInt8), xorL l (List.replicate l.length 0) = l
  | [] => rfl
  | x :: l => by
    show (x ^^^ 0) :: xorL l (List.replicate l.length 0) = x :: l
    rw [xorL_zeros l]; simp
theorem recov_burst (l m : List (List UInt8)) (c E : List UInt8) (p : Nat) (hl : (l ++ c :: m).length ≤ 1024) (hc : ∀ x ∈ l ++ c :: m, x.length ≤ 2097152)
    (hE : E.length = (diskFrom 0 (l ++ c :: m)).length) (hp : (diskFrom 0 l).length ≤ p) (hp2 : p < (diskFrom 0 l).length + (16 + c.length)) (hB : Burst E p) :
    recov 1024 0 (xorL (diskFrom 0 (l ++ c :: m)) E) = (l, (diskFrom 0 l).length) := by
  have hd : diskFrom 0 (l ++ c :: m) = diskFrom 0 l ++ (record l.length c ++ diskFrom (l.length + 1) m) := by
    rw [diskFrom_append, diskFrom, Nat.zero_add]
  have he : xorL (diskFrom 0 (l ++ c :: m)) E = diskFrom 0 l ++ xorL (record l.length c ++ diskFrom (l.length + 1) m) (E.drop (diskFrom 0 l).length) := by
    rw [hd]
    conv => lhs; rw [← List.take_append_drop (diskFrom 0 l).length E, hB.zeros hp]
    rw [xorL, List.zipWith_append (by simp)]
    congr 1
    exact xorL_zeros _
  rw [he]
  have hlen : l.length < 1024 := by simp at hl; omega
  refine recov_whole l _ (by omega) (fun x hx => hc x (by simp [hx])) (Or.inl ?_)
  refine valid_burst _ (p - (diskFrom 0 l).length) c _ _ (hc c (by simp)) ?_ (by omega) (hB.drop hp)
  rw [hd, List.length_append] at hE
  rw [List.length_drop, hE]; omega
end Jn
