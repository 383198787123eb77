/- A part of the proof: what it holds is said at each theorem. -/
import Derived.Test.YtfoogjjibhfjgaaJnH
set_option linter.unusedVariables false
namespace Jn
theorem num_four (v : Nat) (h : v < 4294967296) (r : List UInt8) : num (four v ++ r) = v := by
  show (UInt8.ofNat v).toNat + 256 * (UInt8.ofNat (v / 256)).toNat + 65536 * (UInt8.ofNat (v / 65536)).toNat + 16777216 * (UInt8.ofNat (v / 16777216)).toNat = v
  simp only [UInt8.toNat_ofNat']
  omega
theorem record_eq (n : Nat) (c : List UInt8) : record n c = four n ++ (four c.length ++ (four (crc (head n c.length)) ++ (c ++ four (crc c)))) := by simp [record, head]
theorem valid_record (n : Nat) (c r : List UInt8) (hn : n < 4294967296) (hc : c.length ≤ 2097152) : valid n (record n c ++ r) = some c := by
  have hl : (record n c ++ r).length = 16 + c.length + r.length := by rw [List.length_append, record_len]
  have e0 : record n c ++ r = four n ++ (four c.length ++ (four (crc (head n c.length)) ++ (c ++ (four (crc c) ++ r)))) := by rw [record_eq]; simp
  have e4 : (record n c ++ r).drop 4 = four c.length ++ (four (crc (head n c.length)) ++ (c ++ (four (crc c) ++ r))) := by rw [e0]; rfl
  have e8 : (record n c ++ r).drop 8 = four (crc (head n c.length)) ++ (c ++ (four (crc c) ++ r)) := by rw [e0]; rfl
  have e12 : (record n c ++ r).drop 12 = c ++ (four (crc c) ++ r) := by rw [e0]; rfl
  have t8 : (record n c ++ r).take 8 = head n c.length := by rw [e0]; rfl
  have eL : (record n c ++ r).drop (12 + c.length) = four (crc c) ++ r := by rw [← List.drop_drop, e12, List.drop_left]
  have hL : num ((record n c ++ r).drop 4) = c.length := by rw [e4]; exact num_four _ (by omega) _
  have hN : num (record n c ++ r) = n := by rw [e0]; exact num_four _ hn _
  have hH : num ((record n c ++ r).drop 8) = crc (head n c.length) := by rw [e8]; exact num_four _ (crc_lt _) _
  unfold valid
  rw [hL, hN, hH, t8, eL, e12, hl, List.take_left, num_four _ (crc_lt _)]
  rw [if_neg (by omega), if_neg (by simp), if_neg (by omega), if_neg (by simp), if_neg (by omega), if_neg (by simp)]
theorem valid_torn (n : Nat) (c : List UInt8) (j : Nat) (hn : n < 4294967296) (hc : c.length ≤ 2097152) (hj : j < 16 + c.length) : valid n ((record n c).take j) = none := by
  have hl : ((record n c).take j).length = j := by rw [List.length_take, record_len]; omega
  unfold valid
  by_cases h16 : j < 16
  · rw [hl, if_pos h16]
  · have e4 : num (((record n c).take j).drop 4) = c.length := by
      rw [List.drop_take, record_eq]
      show num ((four c.length ++ _).take (j - 4)) = _
      have : (four c.length ++ (four (crc (head n c.length)) ++ (c ++ four (crc c)))).take (j - 4) = four c.length ++ (four (crc (head n c.length)) ++ (c ++ four (crc c))).take (j - 8) := by
        rw [List.take_append, four_len, List.take_of_length_le (by rw [four_len]; omega)]
        congr 2
      rw [this]; exact num_four _ (by omega) _
    rw [hl, if_neg h16, e4]
    by_cases h1 : num ((record n c).take j) ≠ n
    · rw [if_pos h1]
    · rw [if_neg h1, if_neg (by omega)]
      by_cases h2 : num (((record n c).take j).drop 8) ≠ crc (((record n c).take j).take 8)
      · rw [if_pos h2]
      · rw [if_neg h2, if_pos hj]
theorem valid_short (n : Nat) (b : List UInt8) (h : b.length < 16) : valid n b = none := by unfold valid; rw [if_pos h]

/-- A disk with the records of ls, from number n on. -/
def diskFrom : Nat → List (List UInt8) → List UInt8
  | _, [] => []
  | n, c :: r => record n c ++ diskFrom (n + 1) r
theorem diskFrom_append : ∀ (l m : List (List UInt8)) (n : Nat), diskFrom n (l ++ m) = diskFrom n l ++ diskFrom (n + l.length) m
  | [], m, n => by simp [diskFrom]
  | c :: r, m, n => by
    rw [List.cons_append, diskFrom, diskFrom, diskFrom_append r m (n + 1), List.append_assoc, List.length_cons, show n + 1 + r.length = n + (r.length + 1) by omega]
theorem diskFrom_snoc (l : List (List UInt8)) (c : List UInt8) (n : Nat) : diskFrom n (l ++ [c]) = diskFrom n l ++ record (n + l.length) c := by
  rw [diskFrom_append]; simp [diskFrom]
theorem recov_disk : ∀ (ls : List (List UInt8)) (f n : Nat) (t : List UInt8), ls.length ≤ f → (∀ c ∈ ls, c.length ≤ 2097152) → n + ls.length ≤ 4294967296 →
    recov f n (diskFrom n ls ++ t) = (ls ++ (recov (f - ls.length) (n + ls.length) t).1, (diskFrom n ls).length + (recov (f - ls.length) (n + ls.length) t).2)
  | [], f, n, t, hf, hc, hn => by simp [diskFrom]
  | c :: r, f, n, t, hf, hc, hn => by
    simp only [List.length_cons] at hf hn
    obtain ⟨g, rfl⟩ : ∃ g, f = g + 1 := ⟨f - 1, by omega⟩
    have hc1 := hc c (by simp)
    rw [diskFrom, List.append_assoc, recov, valid_record n c _ (by omega) hc1]
    have hd : (record n c ++ (diskFrom (n + 1) r ++ t)).drop (16 + c.length) = diskFrom (n + 1) r ++ t := by rw [← record_len n c, List.drop_left]
    simp only [hd]
    rw [recov_disk r g (n + 1) t (by omega) (fun c hc' => hc c (by simp [hc'])) (by omega)]
    simp only [List.length_cons, List.length_append, record_len]
    rw [show g + 1 - (r.length + 1) = g - r.length by omega, show n + 1 + r.length = n + (r.length + 1) by omega]
    simp
    omega
theorem recov_none {f n : Nat} {t : List UInt8} (h : valid n t = none) : recov f n t = ([], 0) := by
  cases f with
  | zero => rfl
  | succ f => rw [recov, h]
theorem recov_whole (ls : List (List UInt8)) (t : List UInt8) (hl : ls.length ≤ 1024) (hc : ∀ c ∈ ls, c.length ≤ 2097152) (ht : valid ls.length t = none ∨ ls.length = 1024) : recov 1024 0 (diskFrom 0 ls ++ t) = (ls, (diskFrom 0 ls).length) := by
  rw [recov_disk ls 1024 0 t hl hc (by omega)]
  have : recov (1024 - ls.length) (0 + ls.length) t = ([], 0) := by
    rcases ht with ht | ht
    · exact recov_none (by rw [Nat.zero_add]; exact ht)
    · rw [ht]; rfl
  rw [this]; simp
theorem diskFrom_len : ∀ (ls : List (List UInt8)) (n B : Nat), (∀ c ∈ ls, c.length ≤ B) → (diskFrom n ls).length ≤ ls.length * (16 + B)
  | [], n, B, h => by simp [diskFrom]
  | c :: r, n, B, h => by
    have h1 := diskFrom_len r (n + 1) B (fun c hc => h c (by simp [hc]))
    have h2 := h c (by simp)
    rw [diskFrom, List.length_append, record_len, List.length_cons, Nat.succ_mul]; omega
end Jn
