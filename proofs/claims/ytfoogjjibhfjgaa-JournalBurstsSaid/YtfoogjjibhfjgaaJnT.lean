/- A part of the proof: what it holds is said at each theorem. -/
import Derived.Test.YtfoogjjibhfjgaaGxZd
import Derived.Test.YtfoogjjibhfjgaaProg
set_option linter.unusedVariables false
namespace Gx
open Go Go.Proofs
set_option maxRecDepth 100000
def muts : Nat → List Bool := lookB [(26, [true]), (27, [false, true]), (28, [false, true]), (30, [false]), (32, [true])]
theorem follows : Try.prog.follows .mixedOrders = true := by kernel_rfl
/- gridmarket/journal.table -/
noncomputable def journal_table_q1B {R : Type} (N : Nat) (k0 : Int → List AV → Option R) (r0 : List AV → Option R)  (k1 : Int → Int → Int → Int → List AV → Option R)  (g1_i2 : Int) (g1_i3 : Int) (g1_i4 : Int) (g1_i9 : Int) (g1_h1 : List AV) : Option R :=
  (cond (decide (g1_i9 < (8 : Int))) (cond ((bitAnd .u32 g1_i3 (1 : Int)) == (1 : Int)) (k1 g1_i2 (bitXor .u32 (Int.fdiv g1_i3 (2 ^ 1)) (3988292384 : Int)) g1_i4 (IntKind.wrap .i64 (g1_i9 + (1 : Int))) g1_h1) (k1 g1_i2 (Int.fdiv g1_i3 (2 ^ 1)) g1_i4 (IntKind.wrap .i64 (g1_i9 + (1 : Int))) g1_h1)) (cond (inIdx g1_i2 256) (cond ((Nat.beq 1 1) && ((Nat.ble ((0 + ((Int.toNat g1_i2) * 1)) + 1) (List.length g1_h1)) && (!false))) (k0 (IntKind.wrap .i64 (g1_i4 + (1 : Int))) (List.set g1_h1 (0 + ((Int.toNat g1_i2) * 1)) (.int .u32 g1_i3))) none) none))
noncomputable def journal_table_q1 {R : Type} (N : Nat) (k0 : Int → List AV → Option R) (r0 : List AV → Option R)  : Nat → Int → Int → Int → Int → List AV → Option R
  | 0, _, _, _, _, _ => none
  | n + 1, g1_i2, g1_i3, g1_i4, g1_i9, g1_h1 => (journal_table_q1B N k0 r0 (journal_table_q1 N k0 r0 n) g1_i2 g1_i3 g1_i4 g1_i9 g1_h1)
noncomputable def journal_table_q0B {R : Type} (N : Nat)  (r0 : List AV → Option R)  (k0 : Int → List AV → Option R) (q1 : Int → Int → Int → Int → List AV → Option R) (g0_i4 : Int) (g0_h1 : List AV) : Option R :=
  (cond (decide (g0_i4 < (256 : Int))) (q1 g0_i4 (IntKind.wrap .u32 g0_i4) g0_i4 (0 : Int) g0_h1) (cond (Nat.ble 256 (List.length g0_h1)) (cond ((Nat.beq (List.length (List.take 256 g0_h1)) 256) && ((Nat.ble 256 256) && (!false))) (cond (Nat.ble 256 (List.length (setCells (List.replicate 256 (.int .u32 (0 : Int))) 0 (List.take 256 g0_h1)))) (r0 (List.take 256 (setCells (List.replicate 256 (.int .u32 (0 : Int))) 0 (List.take 256 g0_h1)))) none) none) none))
noncomputable def journal_table_q0 {R : Type} (N : Nat)  (r0 : List AV → Option R)  : Nat → Int → List AV → Option R
  | 0, _, _ => none
  | n + 1, g0_i4, g0_h1 => (journal_table_q0B N r0 (journal_table_q0 N r0 n) (fun g1_i2 g1_i3 g1_i4 g1_i9 g1_h1 => (journal_table_q1 N (journal_table_q0 N r0 n) r0 N g1_i2 g1_i3 g1_i4 g1_i9 g1_h1)) g0_i4 g0_h1)
noncomputable def journal_tableB {R : Type} (N : Nat) (r0 : List AV → Option R) (q0 : Int → List AV → Option R)  : Option R :=
  (q0 (0 : Int) (List.replicate 256 (.int .u32 (0 : Int))))
noncomputable def journal_tablei {R : Type} (N : Nat)  (r0 : List AV → Option R) : Option R := (journal_tableB N r0 (fun g0_i4 g0_h1 => (journal_table_q0 N r0 N g0_i4 g0_h1)))
noncomputable def journal_table {R : Type} := (shut (@journal_tablei R)).1
theorem journal_table_def {R : Type} : @journal_table R = @journal_tablei R := (shut _).2
noncomputable def journal_table_hs : Hints := { H := (.node [] (.node [0] .leaf .leaf) (.node [] (.node [0, 1] .leaf .leaf) (.node [] (.node [] (.node [0, 1, 4] .leaf .leaf) (.node [0, 1] (.node [0, 1, 4] (.node [] (.node [0, 1, 4, 5] .leaf .leaf) (.node [] (.node [0, 1, 4] .leaf .leaf) (.node [] (.node [0, 1, 4] (.node [] (.node [0, 1, 2, 4] .leaf .leaf) (.node [] (.node [0, 1, 2, 3, 4] .leaf .leaf) (.node [] (.node [] (.node [0, 1, 2, 3, 4, 9] .leaf .leaf) (.node [0, 1, 2, 3, 4] (.node [0, 1, 2, 3, 4, 9] (.node [] (.node [0, 1, 2, 3, 4, 9, 10] .leaf .leaf) (.node [] (.node [0, 1, 2, 3, 4, 9] .leaf .leaf) (.node [] (.node [0, 1, 2, 3, 4, 9] (.node [] (.node [0, 1, 2, 3, 4, 9, 13] .leaf .leaf) (.node [0, 1, 2, 3, 4, 9] (.node [0, 1, 2, 3, 4, 9] .leaf .leaf) (.node [0, 1, 2, 3, 4, 9] .leaf .leaf))) .leaf) (.node [0, 1, 2, 3, 4, 9] .leaf .leaf)))) .leaf) .leaf)) (.node [0, 1, 4] .leaf .leaf)))) .leaf) (.node [0, 1, 4] .leaf .leaf)))) .leaf) .leaf)) (.node [] (.node [0] .leaf .leaf) .leaf)))), nils := [], modes := [], free := [] }
noncomputable def journal_table_T (N : Nat) : List (Nat × Tw) := []
noncomputable def journal_table_E (N : Nat) : Env := { P := Try.prog, nt := 25, muts := muts, nils := journal_table_hs.nils, free := journal_table_hs.free, tbl := journal_table_T N }
noncomputable def journal_table_fin {R : Type} (N : Nat) (F : AV → Heap → Option R) : St → Option R := afinish (journal_table_E N) Try.f24 journal_table_hs.modes [] F
noncomputable def journal_table_at {R : Type} (N : Nat) (F : AV → Heap → Option R) (p : List Nat) (ks : List (St → Option R)) : Cut R := atC (journal_table_E N) [] N p (bodyOf Try.f24) journal_table_hs.H (journal_table_fin N F) (fun _ _ => none) (journal_table_fin N F) ks
def journal_table_s1 (g1_i2 : Int) (g1_i3 : Int) (g1_i4 : Int) (g1_i9 : Int) (g1_h1 : List AV) : St := { s := [(0, (.optr 300000 0)), (1, (.optr 300001 0)), (2, (.int .i64 g1_i2)), (3, (.int .u32 g1_i3)), (4, (.int .i64 g1_i4)), (9, (.int .i64 g1_i9))], h := [(300000, ⟨false, false, true, false, 0, (List.replicate 256 (.int .u32 (0 : Int)))⟩), (300001, ⟨false, false, true, false, 0, g1_h1⟩)] }
def journal_table_s0 (g0_i4 : Int) (g0_h1 : List AV) : St := { s := [(0, (.optr 300000 0)), (1, (.optr 300001 0)), (4, (.int .i64 g0_i4))], h := [(300000, ⟨false, false, true, false, 0, (List.replicate 256 (.int .u32 (0 : Int)))⟩), (300001, ⟨false, false, true, false, 0, g0_h1⟩)] }
theorem journal_table_q1_eq {R : Type} (N : Nat) (Q0 : St → Option R) (F : AV → Heap → Option R)  : ∀ (n : Nat) (g1_i2 : Int) (g1_i3 : Int) (g1_i4 : Int) (g1_i9 : Int) (g1_h1 : List AV), loopAt (journal_table_E N) [] N (journal_table_at N F [1, 1, 0, 1, 0, 0, 1, 1, 0, 0, 1, 1, 0, 1, 0] [Q0]) n (journal_table_s1 g1_i2 g1_i3 g1_i4 g1_i9 g1_h1) = (journal_table_q1 N (fun g0_i4 g0_h1 => Q0 (journal_table_s0 g0_i4 g0_h1)) (fun zc0 => F (.pagg zc0 false) []) n g1_i2 g1_i3 g1_i4 g1_i9 g1_h1) := by
  intro n
  induction n with
  | zero => intros; rfl
  | succ n ih =>
    intro g1_i2 g1_i3 g1_i4 g1_i9 g1_h1
    have e0 : (fun g1_i2 g1_i3 g1_i4 g1_i9 g1_h1 => loopAt (journal_table_E N) [] N (journal_table_at N F [1, 1, 0, 1, 0, 0, 1, 1, 0, 0, 1, 1, 0, 1, 0] [Q0]) n (journal_table_s1 g1_i2 g1_i3 g1_i4 g1_i9 g1_h1)) = (journal_table_q1 N (fun g0_i4 g0_h1 => Q0 (journal_table_s0 g0_i4 g0_h1)) (fun zc0 => F (.pagg zc0 false) []) n) := by funext g1_i2; funext g1_i3; funext g1_i4; funext g1_i9; funext g1_h1; exact ih g1_i2 g1_i3 g1_i4 g1_i9 g1_h1
    have h0 : loopAt (journal_table_E N) [] N (journal_table_at N F [1, 1, 0, 1, 0, 0, 1, 1, 0, 0, 1, 1, 0, 1, 0] [Q0]) (n + 1) (journal_table_s1 g1_i2 g1_i3 g1_i4 g1_i9 g1_h1) = (journal_table_q1B N (fun g0_i4 g0_h1 => Q0 (journal_table_s0 g0_i4 g0_h1)) (fun zc0 => F (.pagg zc0 false) []) (fun g1_i2 g1_i3 g1_i4 g1_i9 g1_h1 => loopAt (journal_table_E N) [] N (journal_table_at N F [1, 1, 0, 1, 0, 0, 1, 1, 0, 0, 1, 1, 0, 1, 0] [Q0]) n (journal_table_s1 g1_i2 g1_i3 g1_i4 g1_i9 g1_h1)) g1_i2 g1_i3 g1_i4 g1_i9 g1_h1) := by kernel_rfl
    exact (h0).trans (congrArg (fun z => (journal_table_q1B N (fun g0_i4 g0_h1 => Q0 (journal_table_s0 g0_i4 g0_h1)) (fun zc0 => F (.pagg zc0 false) []) z g1_i2 g1_i3 g1_i4 g1_i9 g1_h1)) e0)
theorem journal_table_q0_eq {R : Type} (N : Nat)  (F : AV → Heap → Option R)  : ∀ (n : Nat) (g0_i4 : Int) (g0_h1 : List AV), loopAt (journal_table_E N) [] N (journal_table_at N F [1, 1, 0, 1, 0] []) n (journal_table_s0 g0_i4 g0_h1) = (journal_table_q0 N (fun zc0 => F (.pagg zc0 false) []) n g0_i4 g0_h1) := by
  intro n
  induction n with
  | zero => intros; rfl
  | succ n ih =>
    intro g0_i4 g0_h1
    have e0 : (fun g0_i4 g0_h1 => loopAt (journal_table_E N) [] N (journal_table_at N F [1, 1, 0, 1, 0] []) n (journal_table_s0 g0_i4 g0_h1)) = (journal_table_q0 N (fun zc0 => F (.pagg zc0 false) []) n) := by funext g0_i4; funext g0_h1; exact ih g0_i4 g0_h1
    have e1 : (fun g1_i2 g1_i3 g1_i4 g1_i9 g1_h1 => loopW (journal_table_E N) [] N (journal_table_at N F [1, 1, 0, 1, 0, 0, 1, 1, 0, 0, 1, 1, 0, 1, 0] [(loopAt (journal_table_E N) [] N (journal_table_at N F [1, 1, 0, 1, 0] []) n)]) N (journal_table_s1 g1_i2 g1_i3 g1_i4 g1_i9 g1_h1)) = (fun g1_i2 g1_i3 g1_i4 g1_i9 g1_h1 => (journal_table_q1 N (journal_table_q0 N (fun zc0 => F (.pagg zc0 false) []) n) (fun zc0 => F (.pagg zc0 false) []) N g1_i2 g1_i3 g1_i4 g1_i9 g1_h1)) := by funext g1_i2; funext g1_i3; funext g1_i4; funext g1_i9; funext g1_h1; exact ((loopW_eq ..).trans (journal_table_q1_eq N (loopAt (journal_table_E N) [] N (journal_table_at N F [1, 1, 0, 1, 0] []) n) F N g1_i2 g1_i3 g1_i4 g1_i9 g1_h1)).trans (by rw [e0])
    have h0 : loopAt (journal_table_E N) [] N (journal_table_at N F [1, 1, 0, 1, 0] []) (n + 1) (journal_table_s0 g0_i4 g0_h1) = (journal_table_q0B N (fun zc0 => F (.pagg zc0 false) []) (fun g0_i4 g0_h1 => loopAt (journal_table_E N) [] N (journal_table_at N F [1, 1, 0, 1, 0] []) n (journal_table_s0 g0_i4 g0_h1)) (fun g1_i2 g1_i3 g1_i4 g1_i9 g1_h1 => loopW (journal_table_E N) [] N (journal_table_at N F [1, 1, 0, 1, 0, 0, 1, 1, 0, 0, 1, 1, 0, 1, 0] [(loopAt (journal_table_E N) [] N (journal_table_at N F [1, 1, 0, 1, 0] []) n)]) N (journal_table_s1 g1_i2 g1_i3 g1_i4 g1_i9 g1_h1)) g0_i4 g0_h1) := by kernel_rfl
    exact ((h0).trans (congrArg (fun z => (journal_table_q0B N (fun zc0 => F (.pagg zc0 false) []) z (fun g1_i2 g1_i3 g1_i4 g1_i9 g1_h1 => loopW (journal_table_E N) [] N (journal_table_at N F [1, 1, 0, 1, 0, 0, 1, 1, 0, 0, 1, 1, 0, 1, 0] [(loopAt (journal_table_E N) [] N (journal_table_at N F [1, 1, 0, 1, 0] []) n)]) N (journal_table_s1 g1_i2 g1_i3 g1_i4 g1_i9 g1_h1)) g0_i4 g0_h1)) e0)).trans (congrArg (fun z => (journal_table_q0B N (fun zc0 => F (.pagg zc0 false) []) (journal_table_q0 N (fun zc0 => F (.pagg zc0 false) []) n) z g0_i4 g0_h1)) e1)
theorem journal_table_eq {R : Type} (N : Nat)  (F : AV → Heap → Option R) : execF Try.prog muts (journal_table_T N) journal_table_hs N 24 [] [] F = (journal_table N (fun zc0 => F (.pagg zc0 false) [])) := by
  have e1 : (fun g0_i4 g0_h1 => loopW (journal_table_E N) [] N (journal_table_at N F [1, 1, 0, 1, 0] []) N (journal_table_s0 g0_i4 g0_h1)) = (fun g0_i4 g0_h1 => (journal_table_q0 N (fun zc0 => F (.pagg zc0 false) []) N g0_i4 g0_h1)) := by funext g0_i4; funext g0_h1; exact (loopW_eq ..).trans (journal_table_q0_eq N F N g0_i4 g0_h1)
  have h0 : execF Try.prog muts (journal_table_T N) journal_table_hs N 24 [] [] F = (journal_tableB N (fun zc0 => F (.pagg zc0 false) []) (fun g0_i4 g0_h1 => loopW (journal_table_E N) [] N (journal_table_at N F [1, 1, 0, 1, 0] []) N (journal_table_s0 g0_i4 g0_h1))) := by kernel_rfl
  rw [journal_table_def]
  exact (h0).trans (congrArg (fun z => (journal_tableB N (fun zc0 => F (.pagg zc0 false) []) z)) e1)
noncomputable def journal_table_run {R : Type} (N : Nat) (args : List AV) (h : Heap) (k : AV → Heap → Option R) : Option R :=
  match args, h with
  | [], [] => (journal_table N (fun zc0 => k (.pagg zc0 false) []))
  | _, _ => none
noncomputable def journal_table_Tw (N : Nat) : Tw where
  runK := journal_table_run N
  eq := by
    intro R args h k
    unfold journal_table_run
    split
    · exact (journal_table_eq ..).symm.trans ((execF_bind ..).trans (congrArg (Option.bind · _) (journal_table_eq ..)))
    · rfl
theorem journal_table_ok (N : Nat) : TwOk Try.prog 24 (journal_table_Tw N) := by
  intro args h res h1 hh0
  have hh : journal_table_run N args h (fun v h1 => some (v, h1)) = some (res, h1) := hh0
  unfold journal_table_run at hh
  split at hh
  · exact execF_sound (T := journal_table_T N) trivial follows ((journal_table_eq ..).trans hh)
  · cases hh
/- gridmarket/journal.put -/
noncomputable def journal_putB {R : Type} (N : Nat) (r0 : Nat → List AV → Option R)  (n0 : Nat) (i1 : Int) (h0 : List AV) : Option R :=
  (cond ((Nat.ble (n0 + 4) 140737488355328) && (Nat.ble ((n0 + 4) * 1) 140737488355328)) (r0 (n0 + 4) ((List.take (n0 * 1) h0) ++ [(.int .u8 (IntKind.wrap .u8 i1)), (.int .u8 (IntKind.wrap .u8 (Int.fdiv i1 (2 ^ 8)))), (.int .u8 (IntKind.wrap .u8 (Int.fdiv i1 (2 ^ 16)))), (.int .u8 (IntKind.wrap .u8 (Int.fdiv i1 (2 ^ 24))))])) none)
noncomputable def journal_puti {R : Type} (N : Nat) (n0 : Nat) (i1 : Int) (h0 : List AV) (r0 : Nat → List AV → Option R) : Option R := (journal_putB N r0 n0 i1 h0)
noncomputable def journal_put {R : Type} := (shut (@journal_puti R)).1
theorem journal_put_def {R : Type} : @journal_put R = @journal_puti R := (shut _).2
noncomputable def journal_put_hs : Hints := { H := (.node [] (.node [0, 1] .leaf .leaf) (.node [] (.node [4] .leaf .leaf) .leaf)), nils := [(4, 1)], modes := [], free := [] }
noncomputable def journal_put_T (N : Nat) : List (Nat × Tw) := []
noncomputable def journal_put_E (N : Nat) : Env := { P := Try.prog, nt := 19, muts := muts, nils := journal_put_hs.nils, free := journal_put_hs.free, tbl := journal_put_T N }
noncomputable def journal_put_fin {R : Type} (N : Nat) (F : AV → Heap → Option R) : St → Option R := afinish (journal_put_E N) Try.f32 journal_put_hs.modes [100000] F
noncomputable def journal_put_at {R : Type} (N : Nat) (F : AV → Heap → Option R) (p : List Nat) (ks : List (St → Option R)) : Cut R := atC (journal_put_E N) [100000] N p (bodyOf Try.f32) journal_put_hs.H (journal_put_fin N F) (fun _ _ => none) (journal_put_fin N F) ks
theorem journal_put_eq {R : Type} (N : Nat) (n0 : Nat) (i1 : Int) (h0 : List AV) (F : AV → Heap → Option R) : execF Try.prog muts (journal_put_T N) journal_put_hs N 32 [(.own 100000 0 n0), (.int .u32 i1)] [(100000, ⟨false, false, true, false, 1, h0⟩)] F = (journal_put N n0 i1 h0 (fun zn0 zh0 => F (.own 300000 0 zn0) [(300000, ⟨false, false, true, false, 1, zh0⟩)])) := by
  have h0 : execF Try.prog muts (journal_put_T N) journal_put_hs N 32 [(.own 100000 0 n0), (.int .u32 i1)] [(100000, ⟨false, false, true, false, 1, h0⟩)] F = (journal_putB N (fun zn0 zh0 => F (.own 300000 0 zn0) [(300000, ⟨false, false, true, false, 1, zh0⟩)]) n0 i1 h0) := by kernel_rfl
  rw [journal_put_def]
  exact h0
noncomputable def journal_put_run {R : Type} (N : Nat) (args : List AV) (h : Heap) (k : AV → Heap → Option R) : Option R :=
  match args, h with
  | [(.own 100000 0 n0), (.int .u32 i1)], [(100000, ⟨false, false, true, false, 1, h0⟩)] => (journal_put N n0 i1 h0 (fun zn0 zh0 => k (.own 300000 0 zn0) [(300000, ⟨false, false, true, false, 1, zh0⟩)]))
  | _, _ => none
noncomputable def journal_put_Tw (N : Nat) : Tw where
  runK := journal_put_run N
  eq := by
    intro R args h k
    unfold journal_put_run
    split
    · exact (journal_put_eq ..).symm.trans ((execF_bind ..).trans (congrArg (Option.bind · _) (journal_put_eq ..)))
    · rfl
theorem journal_put_ok (N : Nat) : TwOk Try.prog 32 (journal_put_Tw N) := by
  intro args h res h1 hh0
  have hh : journal_put_run N args h (fun v h1 => some (v, h1)) = some (res, h1) := hh0
  unfold journal_put_run at hh
  split at hh
  · exact execF_sound (T := journal_put_T N) trivial follows ((journal_put_eq ..).trans hh)
  · cases hh
/- gridmarket/journal.checksum -/
noncomputable def journal_checksum_q0B {R : Type} (N : Nat)  (r0 : Int → Option R) (c0 : List AV) (o0 : Bool) (c1 : List AV) (n1 : Nat) (t1 : Bool) (o1 : Bool) (k0 : Int → Int → Int → Option R)  (g0_i5 : Int) (g0_i9 : Int) (g0_i10 : Int) : Option R :=
  (cond (decide (g0_i10 < g0_i9)) (cond (inIdx g0_i10 n1) (rdI .u8 (List.drop ((Int.toNat g0_i10) * 1) c1) fun x1 => (cond (inIdx (bitXor .u8 (IntKind.wrap .u8 g0_i5) x1) 256) (rdI .u32 (List.drop ((Int.toNat (bitXor .u8 (IntKind.wrap .u8 g0_i5) x1)) * 1) c0) fun x2 => (k0 (bitXor .u32 (Int.fdiv g0_i5 (2 ^ 8)) x2) g0_i9 (IntKind.wrap .i64 (g0_i10 + (1 : Int))))) none)) none) (r0 (bitXor .u32 (4294967295 : Int) g0_i5)))
noncomputable def journal_checksum_q0 {R : Type} (N : Nat)  (r0 : Int → Option R) (c0 : List AV) (o0 : Bool) (c1 : List AV) (n1 : Nat) (t1 : Bool) (o1 : Bool) : Nat → Int → Int → Int → Option R
  | 0, _, _, _ => none
  | n + 1, g0_i5, g0_i9, g0_i10 => (journal_checksum_q0B N r0 c0 o0 c1 n1 t1 o1 (journal_checksum_q0 N r0 c0 o0 c1 n1 t1 o1 n) g0_i5 g0_i9 g0_i10)
noncomputable def journal_checksumB {R : Type} (N : Nat) (r0 : Int → Option R) (q0 : Int → Int → Int → Option R) (c0 : List AV) (o0 : Bool) (c1 : List AV) (n1 : Nat) (t1 : Bool) (o1 : Bool) : Option R :=
  (q0 (4294967295 : Int) ((n1 : Nat) : Int) (0 : Int))
noncomputable def journal_checksumi {R : Type} (N : Nat) (c0 : List AV) (o0 : Bool) (c1 : List AV) (n1 : Nat) (t1 : Bool) (o1 : Bool) (r0 : Int → Option R) : Option R := (journal_checksumB N r0 (fun g0_i5 g0_i9 g0_i10 => (journal_checksum_q0 N r0 c0 o0 c1 n1 t1 o1 N g0_i5 g0_i9 g0_i10)) c0 o0 c1 n1 t1 o1)
noncomputable def journal_checksum {R : Type} := (shut (@journal_checksumi R)).1
theorem journal_checksum_def {R : Type} : @journal_checksum R = @journal_checksumi R := (shut _).2
noncomputable def journal_checksum_hs : Hints := { H := (.node [] (.node [0, 1] .leaf .leaf) (.node [] (.node [0, 1, 5] .leaf .leaf) (.node [] (.node [] (.node [0, 5, 8, 9, 10] .leaf .leaf) (.node [5] (.node [0, 5, 8, 9, 10] (.node [] (.node [0, 5, 8, 9, 10, 11] .leaf .leaf) (.node [] (.node [0, 5, 8, 9, 10] .leaf .leaf) (.node [] (.node [0, 5, 8, 9, 10] (.node [] (.node [0, 5, 7, 8, 9, 10] .leaf .leaf) (.node [0, 5, 8, 9, 10] .leaf .leaf)) .leaf) (.node [0, 5, 8, 9, 10] .leaf .leaf)))) .leaf) .leaf)) (.node [] (.node [4] .leaf .leaf) .leaf)))), nils := [], modes := [], free := [] }
noncomputable def journal_checksum_T (N : Nat) : List (Nat × Tw) := []
noncomputable def journal_checksum_E (N : Nat) : Env := { P := Try.prog, nt := 28, muts := muts, nils := journal_checksum_hs.nils, free := journal_checksum_hs.free, tbl := journal_checksum_T N }
noncomputable def journal_checksum_fin {R : Type} (N : Nat) (F : AV → Heap → Option R) : St → Option R := afinish (journal_checksum_E N) Try.f25 journal_checksum_hs.modes [] F
noncomputable def journal_checksum_at {R : Type} (N : Nat) (F : AV → Heap → Option R) (p : List Nat) (ks : List (St → Option R)) : Cut R := atC (journal_checksum_E N) [] N p (bodyOf Try.f25) journal_checksum_hs.H (journal_checksum_fin N F) (fun _ _ => none) (journal_checksum_fin N F) ks
def journal_checksum_s0 (c0 : List AV) (o0 : Bool) (c1 : List AV) (n1 : Nat) (t1 : Bool) (o1 : Bool) (g0_i5 : Int) (g0_i9 : Int) (g0_i10 : Int) : St := { s := [(0, (.iptr c0 o0)), (5, (.int .u32 g0_i5)), (8, (.imm c1 n1 1 t1 o1)), (9, (.int .i64 g0_i9)), (10, (.int .i64 g0_i10))], h := [] }
theorem journal_checksum_q0_eq {R : Type} (N : Nat)  (F : AV → Heap → Option R) (c0 : List AV) (o0 : Bool) (c1 : List AV) (n1 : Nat) (t1 : Bool) (o1 : Bool) : ∀ (n : Nat) (g0_i5 : Int) (g0_i9 : Int) (g0_i10 : Int), loopAt (journal_checksum_E N) [] N (journal_checksum_at N F [1, 1, 0, 1, 0] []) n (journal_checksum_s0 c0 o0 c1 n1 t1 o1 g0_i5 g0_i9 g0_i10) = (journal_checksum_q0 N (fun zi0 => F (.int .u32 zi0) []) c0 o0 c1 n1 t1 o1 n g0_i5 g0_i9 g0_i10) := by
  intro n
  induction n with
  | zero => intros; rfl
  | succ n ih =>
    intro g0_i5 g0_i9 g0_i10
    have e0 : (fun g0_i5 g0_i9 g0_i10 => loopAt (journal_checksum_E N) [] N (journal_checksum_at N F [1, 1, 0, 1, 0] []) n (journal_checksum_s0 c0 o0 c1 n1 t1 o1 g0_i5 g0_i9 g0_i10)) = (journal_checksum_q0 N (fun zi0 => F (.int .u32 zi0) []) c0 o0 c1 n1 t1 o1 n) := by funext g0_i5; funext g0_i9; funext g0_i10; exact ih g0_i5 g0_i9 g0_i10
    have h0 : loopAt (journal_checksum_E N) [] N (journal_checksum_at N F [1, 1, 0, 1, 0] []) (n + 1) (journal_checksum_s0 c0 o0 c1 n1 t1 o1 g0_i5 g0_i9 g0_i10) = (journal_checksum_q0B N (fun zi0 => F (.int .u32 zi0) []) c0 o0 c1 n1 t1 o1 (fun g0_i5 g0_i9 g0_i10 => loopAt (journal_checksum_E N) [] N (journal_checksum_at N F [1, 1, 0, 1, 0] []) n (journal_checksum_s0 c0 o0 c1 n1 t1 o1 g0_i5 g0_i9 g0_i10)) g0_i5 g0_i9 g0_i10) := by kernel_rfl
    exact (h0).trans (congrArg (fun z => (journal_checksum_q0B N (fun zi0 => F (.int .u32 zi0) []) c0 o0 c1 n1 t1 o1 z g0_i5 g0_i9 g0_i10)) e0)
theorem journal_checksum_eq {R : Type} (N : Nat) (c0 : List AV) (o0 : Bool) (c1 : List AV) (n1 : Nat) (t1 : Bool) (o1 : Bool) (F : AV → Heap → Option R) : execF Try.prog muts (journal_checksum_T N) journal_checksum_hs N 25 [(.iptr c0 o0), (.imm c1 n1 1 t1 o1)] [] F = (journal_checksum N c0 o0 c1 n1 t1 o1 (fun zi0 => F (.int .u32 zi0) [])) := by
  have e1 : (fun g0_i5 g0_i9 g0_i10 => loopW (journal_checksum_E N) [] N (journal_checksum_at N F [1, 1, 0, 1, 0] []) N (journal_checksum_s0 c0 o0 c1 n1 t1 o1 g0_i5 g0_i9 g0_i10)) = (fun g0_i5 g0_i9 g0_i10 => (journal_checksum_q0 N (fun zi0 => F (.int .u32 zi0) []) c0 o0 c1 n1 t1 o1 N g0_i5 g0_i9 g0_i10)) := by funext g0_i5; funext g0_i9; funext g0_i10; exact (loopW_eq ..).trans (journal_checksum_q0_eq N F c0 o0 c1 n1 t1 o1 N g0_i5 g0_i9 g0_i10)
  have h0 : execF Try.prog muts (journal_checksum_T N) journal_checksum_hs N 25 [(.iptr c0 o0), (.imm c1 n1 1 t1 o1)] [] F = (journal_checksumB N (fun zi0 => F (.int .u32 zi0) []) (fun g0_i5 g0_i9 g0_i10 => loopW (journal_checksum_E N) [] N (journal_checksum_at N F [1, 1, 0, 1, 0] []) N (journal_checksum_s0 c0 o0 c1 n1 t1 o1 g0_i5 g0_i9 g0_i10)) c0 o0 c1 n1 t1 o1) := by kernel_rfl
  rw [journal_checksum_def]
  exact (h0).trans (congrArg (fun z => (journal_checksumB N (fun zi0 => F (.int .u32 zi0) []) z c0 o0 c1 n1 t1 o1)) e1)
noncomputable def journal_checksum_run {R : Type} (N : Nat) (args : List AV) (h : Heap) (k : AV → Heap → Option R) : Option R :=
  match args, h with
  | [(.iptr c0 o0), (.imm c1 n1 1 t1 o1)], [] => (journal_checksum N c0 o0 c1 n1 t1 o1 (fun zi0 => k (.int .u32 zi0) []))
  | _, _ => none
noncomputable def journal_checksum_Tw (N : Nat) : Tw where
  runK := journal_checksum_run N
  eq := by
    intro R args h k
    unfold journal_checksum_run
    split
    · exact (journal_checksum_eq ..).symm.trans ((execF_bind ..).trans (congrArg (Option.bind · _) (journal_checksum_eq ..)))
    · rfl
theorem journal_checksum_ok (N : Nat) : TwOk Try.prog 25 (journal_checksum_Tw N) := by
  intro args h res h1 hh0
  have hh : journal_checksum_run N args h (fun v h1 => some (v, h1)) = some (res, h1) := hh0
  unfold journal_checksum_run at hh
  split at hh
  · exact execF_sound (T := journal_checksum_T N) trivial follows ((journal_checksum_eq ..).trans hh)
  · cases hh
/- gridmarket/journal.record -/
noncomputable def journal_recordB {R : Type} (N : Nat) (r0 : Nat → List AV → Option R)  (n0 : Nat) (i1 : Int) (c2 : List AV) (n2 : Nat) (t2 : Bool) (o2 : Bool) (h0 : List AV) : Option R :=
  (journal_table N (fun y1 => (cond ((Nat.beq (List.length y1) 256) && ((Nat.ble 256 256) && (!false))) (journal_put N n0 (IntKind.wrap .u32 i1) h0 (fun y2 y3 => (journal_put N y2 (IntKind.wrap .u32 ((n2 : Nat) : Int)) y3 (fun y4 y5 => (cond ((decide ((0 : Int) ≤ ((n0 : Nat) : Int))) && ((decide (((n0 : Nat) : Int) ≤ (IntKind.wrap .i64 (((n0 : Nat) : Int) + (8 : Int))))) && ((decide ((IntKind.wrap .i64 (((n0 : Nat) : Int) + (8 : Int))) ≤ ((y4 : Nat) : Int))) && (decide (((y4 : Nat) : Int) ≤ ((y4 : Nat) : Int)))))) (journal_checksum N (setCells (List.replicate 256 (.int .u32 (0 : Int))) 0 y1) true (List.take (((Int.toNat (IntKind.wrap .i64 (((n0 : Nat) : Int) + (8 : Int)))) - n0) * 1) (List.drop (0 + (n0 * 1)) y5)) ((Int.toNat (IntKind.wrap .i64 (((n0 : Nat) : Int) + (8 : Int)))) - n0) false true (fun y6 => (journal_put N y4 y6 y5 (fun y7 y8 => (cond ((!o2) || (plainZ c2)) (cond ((Nat.ble (y7 + n2) 140737488355328) && (Nat.ble ((y7 + n2) * 1) 140737488355328)) (journal_checksum N (setCells (List.replicate 256 (.int .u32 (0 : Int))) 0 y1) true c2 n2 false o2 (fun y9 => (journal_put N (y7 + n2) y9 ((List.take (y7 * 1) y8) ++ c2) (fun y10 y11 => (r0 y10 y11))))) none) none))))) none))))) none)))
noncomputable def journal_recordi {R : Type} (N : Nat) (n0 : Nat) (i1 : Int) (c2 : List AV) (n2 : Nat) (t2 : Bool) (o2 : Bool) (h0 : List AV) (r0 : Nat → List AV → Option R) : Option R := (journal_recordB N r0 n0 i1 c2 n2 t2 o2 h0)
noncomputable def journal_record {R : Type} := (shut (@journal_recordi R)).1
theorem journal_record_def {R : Type} : @journal_record R = @journal_recordi R := (shut _).2
noncomputable def journal_record_hs : Hints := { H := (.node [] (.node [0, 1, 2] .leaf .leaf) (.node [] (.node [0, 1, 2, 7] .leaf .leaf) (.node [] (.node [0, 1, 2, 7, 8] .leaf .leaf) (.node [] (.node [0, 2, 7, 8] .leaf .leaf) (.node [] (.node [0, 2, 7, 8] .leaf .leaf) (.node [] (.node [0, 2, 7] .leaf .leaf) (.node [] (.node [0, 2, 7] .leaf .leaf) (.node [] (.node [6] .leaf .leaf) .leaf)))))))), nils := [(6, 1)], modes := [], free := [] }
noncomputable def journal_record_T (N : Nat) : List (Nat × Tw) := [(24, journal_table_Tw N), (32, journal_put_Tw N), (25, journal_checksum_Tw N)]
noncomputable def journal_record_E (N : Nat) : Env := { P := Try.prog, nt := 36, muts := muts, nils := journal_record_hs.nils, free := journal_record_hs.free, tbl := journal_record_T N }
noncomputable def journal_record_fin {R : Type} (N : Nat) (F : AV → Heap → Option R) : St → Option R := afinish (journal_record_E N) Try.f26 journal_record_hs.modes [100000] F
noncomputable def journal_record_at {R : Type} (N : Nat) (F : AV → Heap → Option R) (p : List Nat) (ks : List (St → Option R)) : Cut R := atC (journal_record_E N) [100000] N p (bodyOf Try.f26) journal_record_hs.H (journal_record_fin N F) (fun _ _ => none) (journal_record_fin N F) ks
theorem journal_record_eq {R : Type} (N : Nat) (n0 : Nat) (i1 : Int) (c2 : List AV) (n2 : Nat) (t2 : Bool) (o2 : Bool) (h0 : List AV) (F : AV → Heap → Option R) : execF Try.prog muts (journal_record_T N) journal_record_hs N 26 [(.own 100000 0 n0), (.int .i64 i1), (.imm c2 n2 1 t2 o2)] [(100000, ⟨false, false, true, false, 1, h0⟩)] F = (journal_record N n0 i1 c2 n2 t2 o2 h0 (fun zn0 zh0 => F (.own 300000 0 zn0) [(300000, ⟨false, false, true, false, 1, zh0⟩)])) := by
  have h0 : execF Try.prog muts (journal_record_T N) journal_record_hs N 26 [(.own 100000 0 n0), (.int .i64 i1), (.imm c2 n2 1 t2 o2)] [(100000, ⟨false, false, true, false, 1, h0⟩)] F = (journal_recordB N (fun zn0 zh0 => F (.own 300000 0 zn0) [(300000, ⟨false, false, true, false, 1, zh0⟩)]) n0 i1 c2 n2 t2 o2 h0) := by kernel_rfl
  rw [journal_record_def]
  exact h0
noncomputable def journal_record_run {R : Type} (N : Nat) (args : List AV) (h : Heap) (k : AV → Heap → Option R) : Option R :=
  match args, h with
  | [(.own 100000 0 n0), (.int .i64 i1), (.imm c2 n2 1 t2 o2)], [(100000, ⟨false, false, true, false, 1, h0⟩)] => (journal_record N n0 i1 c2 n2 t2 o2 h0 (fun zn0 zh0 => k (.own 300000 0 zn0) [(300000, ⟨false, false, true, false, 1, zh0⟩)]))
  | _, _ => none
noncomputable def journal_record_Tw (N : Nat) : Tw where
  runK := journal_record_run N
  eq := by
    intro R args h k
    unfold journal_record_run
    split
    · exact (journal_record_eq ..).symm.trans ((execF_bind ..).trans (congrArg (Option.bind · _) (journal_record_eq ..)))
    · rfl
theorem journal_record_ok (N : Nat) : TwOk Try.prog 26 (journal_record_Tw N) := by
  intro args h res h1 hh0
  have hh : journal_record_run N args h (fun v h1 => some (v, h1)) = some (res, h1) := hh0
  unfold journal_record_run at hh
  split at hh
  · exact execF_sound (T := journal_record_T N) ⟨journal_table_ok N, journal_put_ok N, journal_checksum_ok N, trivial⟩ follows ((journal_record_eq ..).trans hh)
  · cases hh
/- gridmarket/journal.Encode -/
noncomputable def journal_Encode_q0B {R : Type} (N : Nat)  (r0 : List AV → Nat → Int → Option R) (i0 : Int) (c1 : List AV) (n1 : Nat) (t1 : Bool) (o1 : Bool)    : Option R :=
  (cond (decide (((n1 : Nat) : Int) > (2097152 : Int))) (r0 [] 0 (8 : Int)) (cond ((decide ((0 : Int) ≤ (0 : Int))) && ((decide ((0 : Int) ≤ (IntKind.wrap .i64 ((16 : Int) + ((n1 : Nat) : Int))))) && ((decide ((IntKind.wrap .i64 ((16 : Int) + ((n1 : Nat) : Int))) ≤ (140737488355328 : Int))) && (decide (((IntKind.wrap .i64 ((16 : Int) + ((n1 : Nat) : Int))) * ((1 : Nat) : Int)) ≤ (140737488355328 : Int)))))) (journal_record N 0 i0 c1 n1 false o1 [] (fun y1 y2 => (r0 (List.take (y1 * 1) y2) y1 (0 : Int)))) none))
noncomputable def journal_Encode_q0 {R : Type} (N : Nat)  (r0 : List AV → Nat → Int → Option R) (i0 : Int) (c1 : List AV) (n1 : Nat) (t1 : Bool) (o1 : Bool)  : Option R := (journal_Encode_q0B N r0 i0 c1 n1 t1 o1)
noncomputable def journal_EncodeB {R : Type} (N : Nat) (r0 : List AV → Nat → Int → Option R) (q0 : Option R) (i0 : Int) (c1 : List AV) (n1 : Nat) (t1 : Bool) (o1 : Bool) : Option R :=
  (cond ((decide (i0 < (0 : Int))) == false) (cond (cond false true (decide (i0 ≥ (1024 : Int)))) (r0 [] 0 (3 : Int)) q0) (r0 [] 0 (3 : Int)))
noncomputable def journal_Encodei {R : Type} (N : Nat) (i0 : Int) (c1 : List AV) (n1 : Nat) (t1 : Bool) (o1 : Bool) (r0 : List AV → Nat → Int → Option R) : Option R := (journal_EncodeB N r0 (journal_Encode_q0 N r0 i0 c1 n1 t1 o1) i0 c1 n1 t1 o1)
noncomputable def journal_Encode {R : Type} := (shut (@journal_Encodei R)).1
theorem journal_Encode_def {R : Type} : @journal_Encode R = @journal_Encodei R := (shut _).2
noncomputable def journal_Encode_hs : Hints := { H := (.node [] (.node [0, 1] .leaf .leaf) (.join (.node [] (.node [0, 1, 11] .leaf .leaf) (.node [0, 1] (.node [] (.node [4, 5] .leaf .leaf) .leaf) .leaf)) (.node [] (.node [] (.node [0, 1, 14] .leaf .leaf) (.node [0, 1] (.node [] (.node [4, 5] .leaf .leaf) .leaf) .leaf)) (.node [] (.node [4, 5] .leaf .leaf) .leaf)))), nils := [(4, 1)], modes := [(1, 1), (0, 0)], free := [] }
noncomputable def journal_Encode_T (N : Nat) : List (Nat × Tw) := [(26, journal_record_Tw N)]
noncomputable def journal_Encode_E (N : Nat) : Env := { P := Try.prog, nt := 22, muts := muts, nils := journal_Encode_hs.nils, free := journal_Encode_hs.free, tbl := journal_Encode_T N }
noncomputable def journal_Encode_fin {R : Type} (N : Nat) (F : AV → Heap → Option R) : St → Option R := afinish (journal_Encode_E N) Try.f14 journal_Encode_hs.modes [] F
noncomputable def journal_Encode_at {R : Type} (N : Nat) (F : AV → Heap → Option R) (p : List Nat) (ks : List (St → Option R)) : Cut R := atC (journal_Encode_E N) [] N p (bodyOf Try.f14) journal_Encode_hs.H (journal_Encode_fin N F) (fun _ _ => none) (journal_Encode_fin N F) ks
def journal_Encode_s0 (i0 : Int) (c1 : List AV) (n1 : Nat) (t1 : Bool) (o1 : Bool) : St := { s := [(0, (.int .i64 i0)), (1, (.imm c1 n1 1 t1 o1))], h := [] }
theorem journal_Encode_q0_eq {R : Type} (N : Nat)  (F : AV → Heap → Option R) (i0 : Int) (c1 : List AV) (n1 : Nat) (t1 : Bool) (o1 : Bool) : joinIn (journal_Encode_E N) [] N (journal_Encode_at N F [1, 1] []) (journal_Encode_s0 i0 c1 n1 t1 o1) = (journal_Encode_q0 N (fun zc0_0 zn0_0 zi0_1 => F (.tup [(.imm zc0_0 zn0_0 1 false false), (.int .i64 zi0_1)]) []) i0 c1 n1 t1 o1) := by
  have h0 : joinIn (journal_Encode_E N) [] N (journal_Encode_at N F [1, 1] []) (journal_Encode_s0 i0 c1 n1 t1 o1) = (journal_Encode_q0B N (fun zc0_0 zn0_0 zi0_1 => F (.tup [(.imm zc0_0 zn0_0 1 false false), (.int .i64 zi0_1)]) []) i0 c1 n1 t1 o1) := by kernel_rfl
  exact h0
theorem journal_Encode_eq {R : Type} (N : Nat) (i0 : Int) (c1 : List AV) (n1 : Nat) (t1 : Bool) (o1 : Bool) (F : AV → Heap → Option R) : execF Try.prog muts (journal_Encode_T N) journal_Encode_hs N 14 [(.int .i64 i0), (.imm c1 n1 1 t1 o1)] [] F = (journal_Encode N i0 c1 n1 t1 o1 (fun zc0_0 zn0_0 zi0_1 => F (.tup [(.imm zc0_0 zn0_0 1 false false), (.int .i64 zi0_1)]) [])) := by
  have e1 : (joinAt (journal_Encode_E N) [] N (journal_Encode_at N F [1, 1] []) (journal_Encode_s0 i0 c1 n1 t1 o1)) = (journal_Encode_q0 N (fun zc0_0 zn0_0 zi0_1 => F (.tup [(.imm zc0_0 zn0_0 1 false false), (.int .i64 zi0_1)]) []) i0 c1 n1 t1 o1) := by exact (joinAt_eq ..).trans (journal_Encode_q0_eq N F i0 c1 n1 t1 o1)
  have h0 : execF Try.prog muts (journal_Encode_T N) journal_Encode_hs N 14 [(.int .i64 i0), (.imm c1 n1 1 t1 o1)] [] F = (journal_EncodeB N (fun zc0_0 zn0_0 zi0_1 => F (.tup [(.imm zc0_0 zn0_0 1 false false), (.int .i64 zi0_1)]) []) (joinAt (journal_Encode_E N) [] N (journal_Encode_at N F [1, 1] []) (journal_Encode_s0 i0 c1 n1 t1 o1)) i0 c1 n1 t1 o1) := by kernel_rfl
  rw [journal_Encode_def]
  exact (h0).trans (congrArg (fun z => (journal_EncodeB N (fun zc0_0 zn0_0 zi0_1 => F (.tup [(.imm zc0_0 zn0_0 1 false false), (.int .i64 zi0_1)]) []) z i0 c1 n1 t1 o1)) e1)
noncomputable def journal_Encode_run {R : Type} (N : Nat) (args : List AV) (h : Heap) (k : AV → Heap → Option R) : Option R :=
  match args, h with
  | [(.int .i64 i0), (.imm c1 n1 1 t1 o1)], [] => (journal_Encode N i0 c1 n1 t1 o1 (fun zc0_0 zn0_0 zi0_1 => k (.tup [(.imm zc0_0 zn0_0 1 false false), (.int .i64 zi0_1)]) []))
  | _, _ => none
noncomputable def journal_Encode_Tw (N : Nat) : Tw where
  runK := journal_Encode_run N
  eq := by
    intro R args h k
    unfold journal_Encode_run
    split
    · exact (journal_Encode_eq ..).symm.trans ((execF_bind ..).trans (congrArg (Option.bind · _) (journal_Encode_eq ..)))
    · rfl
theorem journal_Encode_ok (N : Nat) : TwOk Try.prog 14 (journal_Encode_Tw N) := by
  intro args h res h1 hh0
  have hh : journal_Encode_run N args h (fun v h1 => some (v, h1)) = some (res, h1) := hh0
  unfold journal_Encode_run at hh
  split at hh
  · exact execF_sound (T := journal_Encode_T N) ⟨journal_record_ok N, trivial⟩ follows ((journal_Encode_eq ..).trans hh)
  · cases hh
/- gridmarket/journal.scan -/
noncomputable def journal_scan_q0B {R : Type} (N : Nat)  (r0 : Option R) (nh0_0 : Nat) (h1 : List AV) (k0 : List AV → Option R)  (g0_h2 : List AV) : Option R :=
  r0
noncomputable def journal_scan_q0 {R : Type} (N : Nat)  (r0 : Option R) (nh0_0 : Nat) (h1 : List AV) : Nat → List AV → Option R
  | 0, _ => none
  | n + 1, g0_h2 => (journal_scan_q0B N r0 nh0_0 h1 (journal_scan_q0 N r0 nh0_0 h1 n) g0_h2)
noncomputable def journal_scanB {R : Type} (N : Nat) (r0 : Option R) (q0 : List AV → Option R) (nh0_0 : Nat) (h1 : List AV) : Option R :=
  (journal_table N (fun y1 => (cond ((Nat.beq (List.length y1) 256) && ((Nat.ble 256 256) && (!false))) (q0 (setCells (List.replicate 256 (.int .u32 (0 : Int))) 0 y1)) none)))
noncomputable def journal_scani {R : Type} (N : Nat) (nh0_0 : Nat) (h1 : List AV) (r0 : Option R) : Option R := (journal_scanB N r0 (fun g0_h2 => (journal_scan_q0 N r0 nh0_0 h1 N g0_h2)) nh0_0 h1)
noncomputable def journal_scan {R : Type} := (shut (@journal_scani R)).1
theorem journal_scan_def {R : Type} : @journal_scan R = @journal_scani R := (shut _).2
noncomputable def journal_scan_hs : Hints := { H := (.node [] (.node [0, 1, 4, 5] .leaf .leaf) (.node [] (.node [0, 1, 4, 5, 6] .leaf .leaf) (.node [] (.node [4, 5] (.node [0, 1, 4, 5, 6] (.node [] (.node [] (.node [0, 1, 4, 5, 6, 13] .leaf .leaf) (.node [0, 1, 4, 5, 6] .leaf .leaf)) (.node [0, 1, 4, 5, 6] (.node [] (.node [0, 1, 4, 5, 6, 7] .leaf .leaf) (.node [] (.node [] (.node [0, 1, 4, 5, 6, 7, 19] .leaf .leaf) (.node [0, 1, 4, 5, 6, 7] .leaf .leaf)) (.node [] (.node [0, 1, 4, 5, 6, 7, 8] .leaf .leaf) (.node [] (.node [] (.node [0, 1, 4, 5, 6, 7, 8, 40] .leaf .leaf) (.node [0, 1, 4, 5, 6, 7, 8] .leaf .leaf)) (.node [] (.node [0, 1, 4, 5, 6, 7, 9] .leaf .leaf) (.node [] (.node [] (.node [0, 1, 4, 5, 6, 7, 9, 47] .leaf .leaf) (.node [0, 1, 4, 5, 6, 7, 9] .leaf .leaf)) (.node [] (.node [0, 1, 4, 5, 6, 7, 9, 10] .leaf .leaf) (.node [] (.node [] (.node [0, 1, 4, 5, 6, 9, 10, 59] .leaf .leaf) (.node [0, 1, 4, 5, 6, 9, 10] .leaf .leaf)) (.node [] (.node [0, 1, 4, 5, 6, 9] .leaf .leaf) (.node [] (.node [0, 1, 4, 5, 6, 9] .leaf .leaf) (.node [0, 1, 4, 5, 6] .leaf .leaf))))))))))) .leaf)) .leaf) .leaf) (.node [] (.node [4, 5] .leaf .leaf) .leaf)))), nils := [], modes := [], free := [] }
noncomputable def journal_scan_T (N : Nat) : List (Nat × Tw) := [(24, journal_table_Tw N)]
noncomputable def journal_scan_E (N : Nat) : Env := { P := Try.prog, nt := 71, muts := muts, nils := journal_scan_hs.nils, free := journal_scan_hs.free, tbl := journal_scan_T N }
noncomputable def journal_scan_fin {R : Type} (N : Nat) (F : AV → Heap → Option R) : St → Option R := afinish (journal_scan_E N) Try.f27 journal_scan_hs.modes [100000, 100001] F
noncomputable def journal_scan_at {R : Type} (N : Nat) (F : AV → Heap → Option R) (p : List Nat) (ks : List (St → Option R)) : Cut R := atC (journal_scan_E N) [100000, 100001] N p (bodyOf Try.f27) journal_scan_hs.H (journal_scan_fin N F) (fun _ _ => none) (journal_scan_fin N F) ks
def journal_scan_s0 (nh0_0 : Nat) (h1 : List AV) (g0_h2 : List AV) : St := { s := [(0, .nsl), (1, (.fn 28 [(.optr 100000 0)])), (4, (.int .i64 (0 : Int))), (5, (.int .i64 (0 : Int))), (6, (.optr 300000 0))], h := [(100000, ⟨false, false, false, false, 0, [(.own 100001 0 nh0_0)]⟩), (100001, ⟨false, false, true, false, 1, h1⟩), (300000, ⟨false, false, true, false, 0, g0_h2⟩)] }
theorem journal_scan_q0_eq {R : Type} (N : Nat)  (F : AV → Heap → Option R) (nh0_0 : Nat) (h1 : List AV) : ∀ (n : Nat) (g0_h2 : List AV), loopAt (journal_scan_E N) [100000, 100001] N (journal_scan_at N F [1, 1, 0, 0] []) n (journal_scan_s0 nh0_0 h1 g0_h2) = (journal_scan_q0 N (F (.tup [(.int .i64 (0 : Int)), (.int .i64 (0 : Int))]) [(100000, ⟨false, false, false, false, 0, [(.own 100001 0 nh0_0)]⟩), (100001, ⟨false, false, true, false, 1, h1⟩)]) nh0_0 h1 n g0_h2) := by
  intro n
  induction n with
  | zero => intros; rfl
  | succ n ih =>
    intro g0_h2
    have e0 : (fun g0_h2 => loopAt (journal_scan_E N) [100000, 100001] N (journal_scan_at N F [1, 1, 0, 0] []) n (journal_scan_s0 nh0_0 h1 g0_h2)) = (journal_scan_q0 N (F (.tup [(.int .i64 (0 : Int)), (.int .i64 (0 : Int))]) [(100000, ⟨false, false, false, false, 0, [(.own 100001 0 nh0_0)]⟩), (100001, ⟨false, false, true, false, 1, h1⟩)]) nh0_0 h1 n) := by funext g0_h2; exact ih g0_h2
    have h0 : loopAt (journal_scan_E N) [100000, 100001] N (journal_scan_at N F [1, 1, 0, 0] []) (n + 1) (journal_scan_s0 nh0_0 h1 g0_h2) = (journal_scan_q0B N (F (.tup [(.int .i64 (0 : Int)), (.int .i64 (0 : Int))]) [(100000, ⟨false, false, false, false, 0, [(.own 100001 0 nh0_0)]⟩), (100001, ⟨false, false, true, false, 1, h1⟩)]) nh0_0 h1 (fun g0_h2 => loopAt (journal_scan_E N) [100000, 100001] N (journal_scan_at N F [1, 1, 0, 0] []) n (journal_scan_s0 nh0_0 h1 g0_h2)) g0_h2) := by kernel_rfl
    exact (h0).trans (congrArg (fun z => (journal_scan_q0B N (F (.tup [(.int .i64 (0 : Int)), (.int .i64 (0 : Int))]) [(100000, ⟨false, false, false, false, 0, [(.own 100001 0 nh0_0)]⟩), (100001, ⟨false, false, true, false, 1, h1⟩)]) nh0_0 h1 z g0_h2)) e0)
theorem journal_scan_eq {R : Type} (N : Nat) (nh0_0 : Nat) (h1 : List AV) (F : AV → Heap → Option R) : execF Try.prog muts (journal_scan_T N) journal_scan_hs N 27 [.nsl, (.fn 28 [(.optr 100000 0)])] [(100000, ⟨false, false, false, false, 0, [(.own 100001 0 nh0_0)]⟩), (100001, ⟨false, false, true, false, 1, h1⟩)] F = (journal_scan N nh0_0 h1 (F (.tup [(.int .i64 (0 : Int)), (.int .i64 (0 : Int))]) [(100000, ⟨false, false, false, false, 0, [(.own 100001 0 nh0_0)]⟩), (100001, ⟨false, false, true, false, 1, h1⟩)])) := by
  have e1 : (fun g0_h2 => loopW (journal_scan_E N) [100000, 100001] N (journal_scan_at N F [1, 1, 0, 0] []) N (journal_scan_s0 nh0_0 h1 g0_h2)) = (fun g0_h2 => (journal_scan_q0 N (F (.tup [(.int .i64 (0 : Int)), (.int .i64 (0 : Int))]) [(100000, ⟨false, false, false, false, 0, [(.own 100001 0 nh0_0)]⟩), (100001, ⟨false, false, true, false, 1, h1⟩)]) nh0_0 h1 N g0_h2)) := by funext g0_h2; exact (loopW_eq ..).trans (journal_scan_q0_eq N F nh0_0 h1 N g0_h2)
  have h0 : execF Try.prog muts (journal_scan_T N) journal_scan_hs N 27 [.nsl, (.fn 28 [(.optr 100000 0)])] [(100000, ⟨false, false, false, false, 0, [(.own 100001 0 nh0_0)]⟩), (100001, ⟨false, false, true, false, 1, h1⟩)] F = (journal_scanB N (F (.tup [(.int .i64 (0 : Int)), (.int .i64 (0 : Int))]) [(100000, ⟨false, false, false, false, 0, [(.own 100001 0 nh0_0)]⟩), (100001, ⟨false, false, true, false, 1, h1⟩)]) (fun g0_h2 => loopW (journal_scan_E N) [100000, 100001] N (journal_scan_at N F [1, 1, 0, 0] []) N (journal_scan_s0 nh0_0 h1 g0_h2)) nh0_0 h1) := by kernel_rfl
  rw [journal_scan_def]
  exact (h0).trans (congrArg (fun z => (journal_scanB N (F (.tup [(.int .i64 (0 : Int)), (.int .i64 (0 : Int))]) [(100000, ⟨false, false, false, false, 0, [(.own 100001 0 nh0_0)]⟩), (100001, ⟨false, false, true, false, 1, h1⟩)]) z nh0_0 h1)) e1)
noncomputable def journal_scan_run {R : Type} (N : Nat) (args : List AV) (h : Heap) (k : AV → Heap → Option R) : Option R :=
  match args, h with
  | [.nsl, (.fn 28 [(.optr 100000 0)])], [(100000, ⟨false, false, false, false, 0, [(.own 100001 0 nh0_0)]⟩), (100001, ⟨false, false, true, false, 1, h1⟩)] => (journal_scan N nh0_0 h1 (k (.tup [(.int .i64 (0 : Int)), (.int .i64 (0 : Int))]) [(100000, ⟨false, false, false, false, 0, [(.own 100001 0 nh0_0)]⟩), (100001, ⟨false, false, true, false, 1, h1⟩)]))
  | _, _ => none
noncomputable def journal_scan_Tw (N : Nat) : Tw where
  runK := journal_scan_run N
  eq := by
    intro R args h k
    unfold journal_scan_run
    split
    · exact (journal_scan_eq ..).symm.trans ((execF_bind ..).trans (congrArg (Option.bind · _) (journal_scan_eq ..)))
    · rfl
theorem journal_scan_ok (N : Nat) : TwOk Try.prog 27 (journal_scan_Tw N) := by
  intro args h res h1 hh0
  have hh : journal_scan_run N args h (fun v h1 => some (v, h1)) = some (res, h1) := hh0
  unfold journal_scan_run at hh
  split at hh
  · exact execF_sound (T := journal_scan_T N) ⟨journal_table_ok N, trivial⟩ follows ((journal_scan_eq ..).trans hh)
  · cases hh
/- gridmarket/journal.Recover -/
noncomputable def journal_RecoverB {R : Type} (N : Nat) (r0 : List AV → Option R)   : Option R :=
  (journal_scan N 0 [] (r0 []))
noncomputable def journal_Recoveri {R : Type} (N : Nat)  (r0 : List AV → Option R) : Option R := (journal_RecoverB N r0)
noncomputable def journal_Recover {R : Type} := (shut (@journal_Recoveri R)).1
theorem journal_Recover_def {R : Type} : @journal_Recover R = @journal_Recoveri R := (shut _).2
noncomputable def journal_Recover_hs : Hints := { H := (.node [] (.node [0, 2] .leaf .leaf) (.node [] (.node [2, 3] .leaf .leaf) (.node [] (.node [2, 3] .leaf .leaf) .leaf))), nils := [], modes := [(1, 1), (0, 0)], free := [] }
noncomputable def journal_Recover_T (N : Nat) : List (Nat × Tw) := [(27, journal_scan_Tw N)]
noncomputable def journal_Recover_E (N : Nat) : Env := { P := Try.prog, nt := 12, muts := muts, nils := journal_Recover_hs.nils, free := journal_Recover_hs.free, tbl := journal_Recover_T N }
noncomputable def journal_Recover_fin {R : Type} (N : Nat) (F : AV → Heap → Option R) : St → Option R := afinish (journal_Recover_E N) Try.f18 journal_Recover_hs.modes [] F
noncomputable def journal_Recover_at {R : Type} (N : Nat) (F : AV → Heap → Option R) (p : List Nat) (ks : List (St → Option R)) : Cut R := atC (journal_Recover_E N) [] N p (bodyOf Try.f18) journal_Recover_hs.H (journal_Recover_fin N F) (fun _ _ => none) (journal_Recover_fin N F) ks
theorem journal_Recover_eq {R : Type} (N : Nat)  (F : AV → Heap → Option R) : execF Try.prog muts (journal_Recover_T N) journal_Recover_hs N 18 [.nsl] [] F = (journal_Recover N (fun zc0_0 => F (.tup [(.imm zc0_0 0 1 false false), (.int .i64 (0 : Int))]) [])) := by
  have h0 : execF Try.prog muts (journal_Recover_T N) journal_Recover_hs N 18 [.nsl] [] F = (journal_RecoverB N (fun zc0_0 => F (.tup [(.imm zc0_0 0 1 false false), (.int .i64 (0 : Int))]) [])) := by kernel_rfl
  rw [journal_Recover_def]
  exact h0
noncomputable def journal_Recover_run {R : Type} (N : Nat) (args : List AV) (h : Heap) (k : AV → Heap → Option R) : Option R :=
  match args, h with
  | [.nsl], [] => (journal_Recover N (fun zc0_0 => k (.tup [(.imm zc0_0 0 1 false false), (.int .i64 (0 : Int))]) []))
  | _, _ => none
noncomputable def journal_Recover_Tw (N : Nat) : Tw where
  runK := journal_Recover_run N
  eq := by
    intro R args h k
    unfold journal_Recover_run
    split
    · exact (journal_Recover_eq ..).symm.trans ((execF_bind ..).trans (congrArg (Option.bind · _) (journal_Recover_eq ..)))
    · rfl
theorem journal_Recover_ok (N : Nat) : TwOk Try.prog 18 (journal_Recover_Tw N) := by
  intro args h res h1 hh0
  have hh : journal_Recover_run N args h (fun v h1 => some (v, h1)) = some (res, h1) := hh0
  unfold journal_Recover_run at hh
  split at hh
  · exact execF_sound (T := journal_Recover_T N) ⟨journal_scan_ok N, trivial⟩ follows ((journal_Recover_eq ..).trans hh)
  · cases hh
/- gridmarket/journal.Checksum -/
noncomputable def journal_ChecksumB {R : Type} (N : Nat) (r0 : Int → Option R)  (c0 : List AV) (n0 : Nat) (t0 : Bool) (o0 : Bool) : Option R :=
  (journal_table N (fun y1 => (cond ((Nat.beq (List.length y1) 256) && ((Nat.ble 256 256) && (!false))) (journal_checksum N (setCells (List.replicate 256 (.int .u32 (0 : Int))) 0 y1) true c0 n0 false o0 (fun y2 => (r0 y2))) none)))
noncomputable def journal_Checksumi {R : Type} (N : Nat) (c0 : List AV) (n0 : Nat) (t0 : Bool) (o0 : Bool) (r0 : Int → Option R) : Option R := (journal_ChecksumB N r0 c0 n0 t0 o0)
noncomputable def journal_Checksum {R : Type} := (shut (@journal_Checksumi R)).1
theorem journal_Checksum_def {R : Type} : @journal_Checksum R = @journal_Checksumi R := (shut _).2
noncomputable def journal_Checksum_hs : Hints := { H := (.node [] (.node [0] .leaf .leaf) (.node [] (.node [0, 3] .leaf .leaf) (.node [] (.node [2] .leaf .leaf) .leaf))), nils := [], modes := [], free := [] }
noncomputable def journal_Checksum_T (N : Nat) : List (Nat × Tw) := [(24, journal_table_Tw N), (25, journal_checksum_Tw N)]
noncomputable def journal_Checksum_E (N : Nat) : Env := { P := Try.prog, nt := 7, muts := muts, nils := journal_Checksum_hs.nils, free := journal_Checksum_hs.free, tbl := journal_Checksum_T N }
noncomputable def journal_Checksum_fin {R : Type} (N : Nat) (F : AV → Heap → Option R) : St → Option R := afinish (journal_Checksum_E N) Try.f11 journal_Checksum_hs.modes [] F
noncomputable def journal_Checksum_at {R : Type} (N : Nat) (F : AV → Heap → Option R) (p : List Nat) (ks : List (St → Option R)) : Cut R := atC (journal_Checksum_E N) [] N p (bodyOf Try.f11) journal_Checksum_hs.H (journal_Checksum_fin N F) (fun _ _ => none) (journal_Checksum_fin N F) ks
theorem journal_Checksum_eq {R : Type} (N : Nat) (c0 : List AV) (n0 : Nat) (t0 : Bool) (o0 : Bool) (F : AV → Heap → Option R) : execF Try.prog muts (journal_Checksum_T N) journal_Checksum_hs N 11 [(.imm c0 n0 1 t0 o0)] [] F = (journal_Checksum N c0 n0 t0 o0 (fun zi0 => F (.int .u32 zi0) [])) := by
  have h0 : execF Try.prog muts (journal_Checksum_T N) journal_Checksum_hs N 11 [(.imm c0 n0 1 t0 o0)] [] F = (journal_ChecksumB N (fun zi0 => F (.int .u32 zi0) []) c0 n0 t0 o0) := by kernel_rfl
  rw [journal_Checksum_def]
  exact h0
noncomputable def journal_Checksum_run {R : Type} (N : Nat) (args : List AV) (h : Heap) (k : AV → Heap → Option R) : Option R :=
  match args, h with
  | [(.imm c0 n0 1 t0 o0)], [] => (journal_Checksum N c0 n0 t0 o0 (fun zi0 => k (.int .u32 zi0) []))
  | _, _ => none
noncomputable def journal_Checksum_Tw (N : Nat) : Tw where
  runK := journal_Checksum_run N
  eq := by
    intro R args h k
    unfold journal_Checksum_run
    split
    · exact (journal_Checksum_eq ..).symm.trans ((execF_bind ..).trans (congrArg (Option.bind · _) (journal_Checksum_eq ..)))
    · rfl
theorem journal_Checksum_ok (N : Nat) : TwOk Try.prog 11 (journal_Checksum_Tw N) := by
  intro args h res h1 hh0
  have hh : journal_Checksum_run N args h (fun v h1 => some (v, h1)) = some (res, h1) := hh0
  unfold journal_Checksum_run at hh
  split at hh
  · exact execF_sound (T := journal_Checksum_T N) ⟨journal_table_ok N, journal_checksum_ok N, trivial⟩ follows ((journal_Checksum_eq ..).trans hh)
  · cases hh
/- gridmarket/gridmarketlaw44.awake -/
noncomputable def law44_awakeB {R : Type} (N : Nat) (r0 : Bool → Option R)   : Option R :=
  (journal_Encode N (0 : Int) [(.int .u8 (97 : Int))] 1 false true (fun y1 y2 y3 => (journal_Recover N (fun y4 => (journal_Checksum N [(.int .u8 (49 : Int)), (.int .u8 (50 : Int)), (.int .u8 (51 : Int)), (.int .u8 (52 : Int)), (.int .u8 (53 : Int)), (.int .u8 (54 : Int)), (.int .u8 (55 : Int)), (.int .u8 (56 : Int)), (.int .u8 (57 : Int))] 9 false true (fun y5 => (cond ((y5 == (3421780262 : Int)) == true) (cond ((cond true (y3 == (0 : Int)) false) == true) (cond ((cond true (((y2 : Nat) : Int) == (17 : Int)) false) == true) (r0 true) (r0 false)) (r0 false)) (r0 false))))))))
noncomputable def law44_awakei {R : Type} (N : Nat)  (r0 : Bool → Option R) : Option R := (law44_awakeB N r0)
noncomputable def law44_awake {R : Type} := (shut (@law44_awakei R)).1
theorem law44_awake_def {R : Type} : @law44_awake R = @law44_awakei R := (shut _).2
noncomputable def law44_awake_hs : Hints := { H := (.node [] .leaf (.node [] (.node [1, 2] .leaf .leaf) (.node [] (.node [1, 2, 3, 4] .leaf .leaf) (.node [] (.node [0] .leaf .leaf) .leaf)))), nils := [], modes := [], free := [] }
noncomputable def law44_awake_T (N : Nat) : List (Nat × Tw) := [(14, journal_Encode_Tw N), (18, journal_Recover_Tw N), (11, journal_Checksum_Tw N)]
noncomputable def law44_awake_E (N : Nat) : Env := { P := Try.prog, nt := 37, muts := muts, nils := law44_awake_hs.nils, free := law44_awake_hs.free, tbl := law44_awake_T N }
noncomputable def law44_awake_fin {R : Type} (N : Nat) (F : AV → Heap → Option R) : St → Option R := afinish (law44_awake_E N) Try.f10 law44_awake_hs.modes [] F
noncomputable def law44_awake_at {R : Type} (N : Nat) (F : AV → Heap → Option R) (p : List Nat) (ks : List (St → Option R)) : Cut R := atC (law44_awake_E N) [] N p (bodyOf Try.f10) law44_awake_hs.H (law44_awake_fin N F) (fun _ _ => none) (law44_awake_fin N F) ks
theorem law44_awake_eq {R : Type} (N : Nat)  (F : AV → Heap → Option R) : execF Try.prog muts (law44_awake_T N) law44_awake_hs N 10 [] [] F = (law44_awake N (fun zb0 => F (.bool zb0) [])) := by
  have h0 : execF Try.prog muts (law44_awake_T N) law44_awake_hs N 10 [] [] F = (law44_awakeB N (fun zb0 => F (.bool zb0) [])) := by kernel_rfl
  rw [law44_awake_def]
  exact h0
noncomputable def law44_awake_run {R : Type} (N : Nat) (args : List AV) (h : Heap) (k : AV → Heap → Option R) : Option R :=
  match args, h with
  | [], [] => (law44_awake N (fun zb0 => k (.bool zb0) []))
  | _, _ => none
noncomputable def law44_awake_Tw (N : Nat) : Tw where
  runK := law44_awake_run N
  eq := by
    intro R args h k
    unfold law44_awake_run
    split
    · exact (law44_awake_eq ..).symm.trans ((execF_bind ..).trans (congrArg (Option.bind · _) (law44_awake_eq ..)))
    · rfl
theorem law44_awake_ok (N : Nat) : TwOk Try.prog 10 (law44_awake_Tw N) := by
  intro args h res h1 hh0
  have hh : law44_awake_run N args h (fun v h1 => some (v, h1)) = some (res, h1) := hh0
  unfold law44_awake_run at hh
  split at hh
  · exact execF_sound (T := law44_awake_T N) ⟨journal_Encode_ok N, journal_Recover_ok N, journal_Checksum_ok N, trivial⟩ follows ((law44_awake_eq ..).trans hh)
  · cases hh
/- gridmarket/gridmarketref44.Checksum -/
noncomputable def ref44_Checksum_q1B {R : Type} (N : Nat) (k0 : Int → Int → Option R) (r0 : Int → Option R) (c0 : List AV) (n0 : Nat) (t0 : Bool) (o0 : Bool) (k1 : Int → Int → Int → Option R)  (g1_i3 : Int) (g1_i4 : Int) (g1_i5 : Int) : Option R :=
  (cond (decide (g1_i5 < (8 : Int))) (cond ((bitAnd .u32 g1_i3 (1 : Int)) == (1 : Int)) (k1 (bitXor .u32 (Int.fdiv g1_i3 (2 ^ 1)) (3988292384 : Int)) g1_i4 (IntKind.wrap .i64 (g1_i5 + (1 : Int)))) (k1 (Int.fdiv g1_i3 (2 ^ 1)) g1_i4 (IntKind.wrap .i64 (g1_i5 + (1 : Int))))) (k0 g1_i3 (IntKind.wrap .i64 (g1_i4 + (1 : Int)))))
noncomputable def ref44_Checksum_q1 {R : Type} (N : Nat) (k0 : Int → Int → Option R) (r0 : Int → Option R) (c0 : List AV) (n0 : Nat) (t0 : Bool) (o0 : Bool) : Nat → Int → Int → Int → Option R
  | 0, _, _, _ => none
  | n + 1, g1_i3, g1_i4, g1_i5 => (ref44_Checksum_q1B N k0 r0 c0 n0 t0 o0 (ref44_Checksum_q1 N k0 r0 c0 n0 t0 o0 n) g1_i3 g1_i4 g1_i5)
noncomputable def ref44_Checksum_q0B {R : Type} (N : Nat)  (r0 : Int → Option R) (c0 : List AV) (n0 : Nat) (t0 : Bool) (o0 : Bool) (k0 : Int → Int → Option R) (q1 : Int → Int → Int → Option R) (g0_i3 : Int) (g0_i4 : Int) : Option R :=
  (cond (decide (g0_i4 < ((n0 : Nat) : Int))) (cond (inIdx g0_i4 n0) (rdI .u8 (List.drop ((Int.toNat g0_i4) * 1) c0) fun x1 => (q1 (bitXor .u32 g0_i3 (IntKind.wrap .u32 x1)) g0_i4 (0 : Int))) none) (r0 (bitXor .u32 (4294967295 : Int) g0_i3)))
noncomputable def ref44_Checksum_q0 {R : Type} (N : Nat)  (r0 : Int → Option R) (c0 : List AV) (n0 : Nat) (t0 : Bool) (o0 : Bool) : Nat → Int → Int → Option R
  | 0, _, _ => none
  | n + 1, g0_i3, g0_i4 => (ref44_Checksum_q0B N r0 c0 n0 t0 o0 (ref44_Checksum_q0 N r0 c0 n0 t0 o0 n) (fun g1_i3 g1_i4 g1_i5 => (ref44_Checksum_q1 N (ref44_Checksum_q0 N r0 c0 n0 t0 o0 n) r0 c0 n0 t0 o0 N g1_i3 g1_i4 g1_i5)) g0_i3 g0_i4)
noncomputable def ref44_ChecksumB {R : Type} (N : Nat) (r0 : Int → Option R) (q0 : Int → Int → Option R) (c0 : List AV) (n0 : Nat) (t0 : Bool) (o0 : Bool) : Option R :=
  (q0 (4294967295 : Int) (0 : Int))
noncomputable def ref44_Checksumi {R : Type} (N : Nat) (c0 : List AV) (n0 : Nat) (t0 : Bool) (o0 : Bool) (r0 : Int → Option R) : Option R := (ref44_ChecksumB N r0 (fun g0_i3 g0_i4 => (ref44_Checksum_q0 N r0 c0 n0 t0 o0 N g0_i3 g0_i4)) c0 n0 t0 o0)
noncomputable def ref44_Checksum {R : Type} := (shut (@ref44_Checksumi R)).1
theorem ref44_Checksum_def {R : Type} : @ref44_Checksum R = @ref44_Checksumi R := (shut _).2
noncomputable def ref44_Checksum_hs : Hints := { H := (.node [] (.node [0] .leaf .leaf) (.node [] (.node [0, 3] .leaf .leaf) (.node [] (.node [] (.node [0, 3, 4] .leaf .leaf) (.node [3] (.node [0, 3, 4] (.node [] (.node [] (.node [0, 3, 4, 10] .leaf .leaf) (.node [0, 3, 4] .leaf .leaf)) (.node [] (.node [0, 3, 4] (.node [] (.node [0, 3, 4] .leaf .leaf) (.node [] (.node [0, 3, 4, 5] .leaf .leaf) (.node [0, 3, 4] (.node [0, 3, 4, 5] (.node [] (.node [] (.node [0, 3, 4, 5, 21] .leaf .leaf) (.node [0, 3, 4, 5] .leaf .leaf)) (.node [] (.node [0, 3, 4, 5] (.node [] (.node [0, 3, 4, 5, 6] .leaf .leaf) (.node [] (.node [0, 3, 4, 5, 6] .leaf .leaf) (.node [] (.node [0, 3, 4, 5, 29] .leaf .leaf) (.node [0, 3, 4, 5] (.node [0, 3, 4, 5] .leaf .leaf) .leaf)))) .leaf) (.node [0, 3, 4, 5] .leaf .leaf))) .leaf) .leaf))) .leaf) (.node [0, 3, 4] .leaf .leaf))) .leaf) .leaf)) (.node [] (.node [2] .leaf .leaf) .leaf)))), nils := [], modes := [], free := [] }
noncomputable def ref44_Checksum_T (N : Nat) : List (Nat × Tw) := []
noncomputable def ref44_Checksum_E (N : Nat) : Env := { P := Try.prog, nt := 34, muts := muts, nils := ref44_Checksum_hs.nils, free := ref44_Checksum_hs.free, tbl := ref44_Checksum_T N }
noncomputable def ref44_Checksum_fin {R : Type} (N : Nat) (F : AV → Heap → Option R) : St → Option R := afinish (ref44_Checksum_E N) Try.f12 ref44_Checksum_hs.modes [] F
noncomputable def ref44_Checksum_at {R : Type} (N : Nat) (F : AV → Heap → Option R) (p : List Nat) (ks : List (St → Option R)) : Cut R := atC (ref44_Checksum_E N) [] N p (bodyOf Try.f12) ref44_Checksum_hs.H (ref44_Checksum_fin N F) (fun _ _ => none) (ref44_Checksum_fin N F) ks
def ref44_Checksum_s1 (c0 : List AV) (n0 : Nat) (t0 : Bool) (o0 : Bool) (g1_i3 : Int) (g1_i4 : Int) (g1_i5 : Int) : St := { s := [(0, (.imm c0 n0 1 t0 o0)), (3, (.int .u32 g1_i3)), (4, (.int .i64 g1_i4)), (5, (.int .i64 g1_i5))], h := [] }
def ref44_Checksum_s0 (c0 : List AV) (n0 : Nat) (t0 : Bool) (o0 : Bool) (g0_i3 : Int) (g0_i4 : Int) : St := { s := [(0, (.imm c0 n0 1 t0 o0)), (3, (.int .u32 g0_i3)), (4, (.int .i64 g0_i4))], h := [] }
theorem ref44_Checksum_q1_eq {R : Type} (N : Nat) (Q0 : St → Option R) (F : AV → Heap → Option R) (c0 : List AV) (n0 : Nat) (t0 : Bool) (o0 : Bool) : ∀ (n : Nat) (g1_i3 : Int) (g1_i4 : Int) (g1_i5 : Int), loopAt (ref44_Checksum_E N) [] N (ref44_Checksum_at N F [1, 1, 0, 1, 0, 0, 1, 0, 0, 1, 1, 0] [Q0]) n (ref44_Checksum_s1 c0 n0 t0 o0 g1_i3 g1_i4 g1_i5) = (ref44_Checksum_q1 N (fun g0_i3 g0_i4 => Q0 (ref44_Checksum_s0 c0 n0 t0 o0 g0_i3 g0_i4)) (fun zi0 => F (.int .u32 zi0) []) c0 n0 t0 o0 n g1_i3 g1_i4 g1_i5) := by
  intro n
  induction n with
  | zero => intros; rfl
  | succ n ih =>
    intro g1_i3 g1_i4 g1_i5
    have e0 : (fun g1_i3 g1_i4 g1_i5 => loopAt (ref44_Checksum_E N) [] N (ref44_Checksum_at N F [1, 1, 0, 1, 0, 0, 1, 0, 0, 1, 1, 0] [Q0]) n (ref44_Checksum_s1 c0 n0 t0 o0 g1_i3 g1_i4 g1_i5)) = (ref44_Checksum_q1 N (fun g0_i3 g0_i4 => Q0 (ref44_Checksum_s0 c0 n0 t0 o0 g0_i3 g0_i4)) (fun zi0 => F (.int .u32 zi0) []) c0 n0 t0 o0 n) := by funext g1_i3; funext g1_i4; funext g1_i5; exact ih g1_i3 g1_i4 g1_i5
    have h0 : loopAt (ref44_Checksum_E N) [] N (ref44_Checksum_at N F [1, 1, 0, 1, 0, 0, 1, 0, 0, 1, 1, 0] [Q0]) (n + 1) (ref44_Checksum_s1 c0 n0 t0 o0 g1_i3 g1_i4 g1_i5) = (ref44_Checksum_q1B N (fun g0_i3 g0_i4 => Q0 (ref44_Checksum_s0 c0 n0 t0 o0 g0_i3 g0_i4)) (fun zi0 => F (.int .u32 zi0) []) c0 n0 t0 o0 (fun g1_i3 g1_i4 g1_i5 => loopAt (ref44_Checksum_E N) [] N (ref44_Checksum_at N F [1, 1, 0, 1, 0, 0, 1, 0, 0, 1, 1, 0] [Q0]) n (ref44_Checksum_s1 c0 n0 t0 o0 g1_i3 g1_i4 g1_i5)) g1_i3 g1_i4 g1_i5) := by kernel_rfl
    exact (h0).trans (congrArg (fun z => (ref44_Checksum_q1B N (fun g0_i3 g0_i4 => Q0 (ref44_Checksum_s0 c0 n0 t0 o0 g0_i3 g0_i4)) (fun zi0 => F (.int .u32 zi0) []) c0 n0 t0 o0 z g1_i3 g1_i4 g1_i5)) e0)
theorem ref44_Checksum_q0_eq {R : Type} (N : Nat)  (F : AV → Heap → Option R) (c0 : List AV) (n0 : Nat) (t0 : Bool) (o0 : Bool) : ∀ (n : Nat) (g0_i3 : Int) (g0_i4 : Int), loopAt (ref44_Checksum_E N) [] N (ref44_Checksum_at N F [1, 1, 0, 1, 0] []) n (ref44_Checksum_s0 c0 n0 t0 o0 g0_i3 g0_i4) = (ref44_Checksum_q0 N (fun zi0 => F (.int .u32 zi0) []) c0 n0 t0 o0 n g0_i3 g0_i4) := by
  intro n
  induction n with
  | zero => intros; rfl
  | succ n ih =>
    intro g0_i3 g0_i4
    have e0 : (fun g0_i3 g0_i4 => loopAt (ref44_Checksum_E N) [] N (ref44_Checksum_at N F [1, 1, 0, 1, 0] []) n (ref44_Checksum_s0 c0 n0 t0 o0 g0_i3 g0_i4)) = (ref44_Checksum_q0 N (fun zi0 => F (.int .u32 zi0) []) c0 n0 t0 o0 n) := by funext g0_i3; funext g0_i4; exact ih g0_i3 g0_i4
    have e1 : (fun g1_i3 g1_i4 g1_i5 => loopW (ref44_Checksum_E N) [] N (ref44_Checksum_at N F [1, 1, 0, 1, 0, 0, 1, 0, 0, 1, 1, 0] [(loopAt (ref44_Checksum_E N) [] N (ref44_Checksum_at N F [1, 1, 0, 1, 0] []) n)]) N (ref44_Checksum_s1 c0 n0 t0 o0 g1_i3 g1_i4 g1_i5)) = (fun g1_i3 g1_i4 g1_i5 => (ref44_Checksum_q1 N (ref44_Checksum_q0 N (fun zi0 => F (.int .u32 zi0) []) c0 n0 t0 o0 n) (fun zi0 => F (.int .u32 zi0) []) c0 n0 t0 o0 N g1_i3 g1_i4 g1_i5)) := by funext g1_i3; funext g1_i4; funext g1_i5; exact ((loopW_eq ..).trans (ref44_Checksum_q1_eq N (loopAt (ref44_Checksum_E N) [] N (ref44_Checksum_at N F [1, 1, 0, 1, 0] []) n) F c0 n0 t0 o0 N g1_i3 g1_i4 g1_i5)).trans (by rw [e0])
    have h0 : loopAt (ref44_Checksum_E N) [] N (ref44_Checksum_at N F [1, 1, 0, 1, 0] []) (n + 1) (ref44_Checksum_s0 c0 n0 t0 o0 g0_i3 g0_i4) = (ref44_Checksum_q0B N (fun zi0 => F (.int .u32 zi0) []) c0 n0 t0 o0 (fun g0_i3 g0_i4 => loopAt (ref44_Checksum_E N) [] N (ref44_Checksum_at N F [1, 1, 0, 1, 0] []) n (ref44_Checksum_s0 c0 n0 t0 o0 g0_i3 g0_i4)) (fun g1_i3 g1_i4 g1_i5 => loopW (ref44_Checksum_E N) [] N (ref44_Checksum_at N F [1, 1, 0, 1, 0, 0, 1, 0, 0, 1, 1, 0] [(loopAt (ref44_Checksum_E N) [] N (ref44_Checksum_at N F [1, 1, 0, 1, 0] []) n)]) N (ref44_Checksum_s1 c0 n0 t0 o0 g1_i3 g1_i4 g1_i5)) g0_i3 g0_i4) := by kernel_rfl
    exact ((h0).trans (congrArg (fun z => (ref44_Checksum_q0B N (fun zi0 => F (.int .u32 zi0) []) c0 n0 t0 o0 z (fun g1_i3 g1_i4 g1_i5 => loopW (ref44_Checksum_E N) [] N (ref44_Checksum_at N F [1, 1, 0, 1, 0, 0, 1, 0, 0, 1, 1, 0] [(loopAt (ref44_Checksum_E N) [] N (ref44_Checksum_at N F [1, 1, 0, 1, 0] []) n)]) N (ref44_Checksum_s1 c0 n0 t0 o0 g1_i3 g1_i4 g1_i5)) g0_i3 g0_i4)) e0)).trans (congrArg (fun z => (ref44_Checksum_q0B N (fun zi0 => F (.int .u32 zi0) []) c0 n0 t0 o0 (ref44_Checksum_q0 N (fun zi0 => F (.int .u32 zi0) []) c0 n0 t0 o0 n) z g0_i3 g0_i4)) e1)
theorem ref44_Checksum_eq {R : Type} (N : Nat) (c0 : List AV) (n0 : Nat) (t0 : Bool) (o0 : Bool) (F : AV → Heap → Option R) : execF Try.prog muts (ref44_Checksum_T N) ref44_Checksum_hs N 12 [(.imm c0 n0 1 t0 o0)] [] F = (ref44_Checksum N c0 n0 t0 o0 (fun zi0 => F (.int .u32 zi0) [])) := by
  have e1 : (fun g0_i3 g0_i4 => loopW (ref44_Checksum_E N) [] N (ref44_Checksum_at N F [1, 1, 0, 1, 0] []) N (ref44_Checksum_s0 c0 n0 t0 o0 g0_i3 g0_i4)) = (fun g0_i3 g0_i4 => (ref44_Checksum_q0 N (fun zi0 => F (.int .u32 zi0) []) c0 n0 t0 o0 N g0_i3 g0_i4)) := by funext g0_i3; funext g0_i4; exact (loopW_eq ..).trans (ref44_Checksum_q0_eq N F c0 n0 t0 o0 N g0_i3 g0_i4)
  have h0 : execF Try.prog muts (ref44_Checksum_T N) ref44_Checksum_hs N 12 [(.imm c0 n0 1 t0 o0)] [] F = (ref44_ChecksumB N (fun zi0 => F (.int .u32 zi0) []) (fun g0_i3 g0_i4 => loopW (ref44_Checksum_E N) [] N (ref44_Checksum_at N F [1, 1, 0, 1, 0] []) N (ref44_Checksum_s0 c0 n0 t0 o0 g0_i3 g0_i4)) c0 n0 t0 o0) := by kernel_rfl
  rw [ref44_Checksum_def]
  exact (h0).trans (congrArg (fun z => (ref44_ChecksumB N (fun zi0 => F (.int .u32 zi0) []) z c0 n0 t0 o0)) e1)
noncomputable def ref44_Checksum_run {R : Type} (N : Nat) (args : List AV) (h : Heap) (k : AV → Heap → Option R) : Option R :=
  match args, h with
  | [(.imm c0 n0 1 t0 o0)], [] => (ref44_Checksum N c0 n0 t0 o0 (fun zi0 => k (.int .u32 zi0) []))
  | _, _ => none
noncomputable def ref44_Checksum_Tw (N : Nat) : Tw where
  runK := ref44_Checksum_run N
  eq := by
    intro R args h k
    unfold ref44_Checksum_run
    split
    · exact (ref44_Checksum_eq ..).symm.trans ((execF_bind ..).trans (congrArg (Option.bind · _) (ref44_Checksum_eq ..)))
    · rfl
theorem ref44_Checksum_ok (N : Nat) : TwOk Try.prog 12 (ref44_Checksum_Tw N) := by
  intro args h res h1 hh0
  have hh : ref44_Checksum_run N args h (fun v h1 => some (v, h1)) = some (res, h1) := hh0
  unfold ref44_Checksum_run at hh
  split at hh
  · exact execF_sound (T := ref44_Checksum_T N) trivial follows ((ref44_Checksum_eq ..).trans hh)
  · cases hh
/- gridmarket/gridmarketlaw44.JournalChecksum -/
noncomputable def law44_JournalChecksumB {R : Type} (N : Nat) (r0 : Bool → Option R)  (c0 : List AV) (n0 : Nat) (t0 : Bool) (o0 : Bool) : Option R :=
  (cond ((decide (((n0 : Nat) : Int) > (2000 : Int))) == false) (law44_awake N (fun y1 => (cond (y1 == true) (journal_Checksum N c0 n0 false o0 (fun y2 => (ref44_Checksum N c0 n0 false o0 (fun y3 => (r0 (cond false true (cond true (y2 == y3) false))))))) (r0 false)))) (r0 true))
noncomputable def law44_JournalChecksumi {R : Type} (N : Nat) (c0 : List AV) (n0 : Nat) (t0 : Bool) (o0 : Bool) (r0 : Bool → Option R) : Option R := (law44_JournalChecksumB N r0 c0 n0 t0 o0)
noncomputable def law44_JournalChecksum {R : Type} := (shut (@law44_JournalChecksumi R)).1
theorem law44_JournalChecksum_def {R : Type} : @law44_JournalChecksum R = @law44_JournalChecksumi R := (shut _).2
noncomputable def law44_JournalChecksum_hs : Hints := { H := (.node [] (.node [0] .leaf .leaf) (.node [] (.node [2] .leaf .leaf) .leaf)), nils := [], modes := [], free := [] }
noncomputable def law44_JournalChecksum_T (N : Nat) : List (Nat × Tw) := [(10, law44_awake_Tw N), (11, journal_Checksum_Tw N), (12, ref44_Checksum_Tw N)]
noncomputable def law44_JournalChecksum_E (N : Nat) : Env := { P := Try.prog, nt := 16, muts := muts, nils := law44_JournalChecksum_hs.nils, free := law44_JournalChecksum_hs.free, tbl := law44_JournalChecksum_T N }
noncomputable def law44_JournalChecksum_fin {R : Type} (N : Nat) (F : AV → Heap → Option R) : St → Option R := afinish (law44_JournalChecksum_E N) Try.f3 law44_JournalChecksum_hs.modes [] F
noncomputable def law44_JournalChecksum_at {R : Type} (N : Nat) (F : AV → Heap → Option R) (p : List Nat) (ks : List (St → Option R)) : Cut R := atC (law44_JournalChecksum_E N) [] N p (bodyOf Try.f3) law44_JournalChecksum_hs.H (law44_JournalChecksum_fin N F) (fun _ _ => none) (law44_JournalChecksum_fin N F) ks
theorem law44_JournalChecksum_eq {R : Type} (N : Nat) (c0 : List AV) (n0 : Nat) (t0 : Bool) (o0 : Bool) (F : AV → Heap → Option R) : execF Try.prog muts (law44_JournalChecksum_T N) law44_JournalChecksum_hs N 3 [(.imm c0 n0 1 t0 o0)] [] F = (law44_JournalChecksum N c0 n0 t0 o0 (fun zb0 => F (.bool zb0) [])) := by
  have h0 : execF Try.prog muts (law44_JournalChecksum_T N) law44_JournalChecksum_hs N 3 [(.imm c0 n0 1 t0 o0)] [] F = (law44_JournalChecksumB N (fun zb0 => F (.bool zb0) []) c0 n0 t0 o0) := by kernel_rfl
  rw [law44_JournalChecksum_def]
  exact h0
noncomputable def law44_JournalChecksum_run {R : Type} (N : Nat) (args : List AV) (h : Heap) (k : AV → Heap → Option R) : Option R :=
  match args, h with
  | [(.imm c0 n0 1 t0 o0)], [] => (law44_JournalChecksum N c0 n0 t0 o0 (fun zb0 => k (.bool zb0) []))
  | _, _ => none
noncomputable def law44_JournalChecksum_Tw (N : Nat) : Tw where
  runK := law44_JournalChecksum_run N
  eq := by
    intro R args h k
    unfold law44_JournalChecksum_run
    split
    · exact (law44_JournalChecksum_eq ..).symm.trans ((execF_bind ..).trans (congrArg (Option.bind · _) (law44_JournalChecksum_eq ..)))
    · rfl
theorem law44_JournalChecksum_ok (N : Nat) : TwOk Try.prog 3 (law44_JournalChecksum_Tw N) := by
  intro args h res h1 hh0
  have hh : law44_JournalChecksum_run N args h (fun v h1 => some (v, h1)) = some (res, h1) := hh0
  unfold law44_JournalChecksum_run at hh
  split at hh
  · exact execF_sound (T := law44_JournalChecksum_T N) ⟨law44_awake_ok N, journal_Checksum_ok N, ref44_Checksum_ok N, trivial⟩ follows ((law44_JournalChecksum_eq ..).trans hh)
  · cases hh
/- gridmarket/gridmarketmake.Mod -/
noncomputable def mk_ModB {R : Type} (N : Nat) (r0 : Int → Option R)  (i0 : Int) (i1 : Int) : Option R :=
  (cond ((IntKind.wrap .u64 i1) == (0 : Int)) none (r0 (IntKind.wrap .i64 (Int.tmod (IntKind.wrap .u64 i0) (IntKind.wrap .u64 i1)))))
noncomputable def mk_Modi {R : Type} (N : Nat) (i0 : Int) (i1 : Int) (r0 : Int → Option R) : Option R := (mk_ModB N r0 i0 i1)
noncomputable def mk_Mod {R : Type} := (shut (@mk_Modi R)).1
theorem mk_Mod_def {R : Type} : @mk_Mod R = @mk_Modi R := (shut _).2
noncomputable def mk_Mod_hs : Hints := { H := (.node [] (.node [0, 1] .leaf .leaf) (.node [] (.node [4] .leaf .leaf) .leaf)), nils := [], modes := [], free := [] }
noncomputable def mk_Mod_T (N : Nat) : List (Nat × Tw) := []
noncomputable def mk_Mod_E (N : Nat) : Env := { P := Try.prog, nt := 11, muts := muts, nils := mk_Mod_hs.nils, free := mk_Mod_hs.free, tbl := mk_Mod_T N }
noncomputable def mk_Mod_fin {R : Type} (N : Nat) (F : AV → Heap → Option R) : St → Option R := afinish (mk_Mod_E N) Try.f13 mk_Mod_hs.modes [] F
noncomputable def mk_Mod_at {R : Type} (N : Nat) (F : AV → Heap → Option R) (p : List Nat) (ks : List (St → Option R)) : Cut R := atC (mk_Mod_E N) [] N p (bodyOf Try.f13) mk_Mod_hs.H (mk_Mod_fin N F) (fun _ _ => none) (mk_Mod_fin N F) ks
theorem mk_Mod_eq {R : Type} (N : Nat) (i0 : Int) (i1 : Int) (F : AV → Heap → Option R) : execF Try.prog muts (mk_Mod_T N) mk_Mod_hs N 13 [(.int .i64 i0), (.int .i64 i1)] [] F = (mk_Mod N i0 i1 (fun zi0 => F (.int .i64 zi0) [])) := by
  have h0 : execF Try.prog muts (mk_Mod_T N) mk_Mod_hs N 13 [(.int .i64 i0), (.int .i64 i1)] [] F = (mk_ModB N (fun zi0 => F (.int .i64 zi0) []) i0 i1) := by kernel_rfl
  rw [mk_Mod_def]
  exact h0
noncomputable def mk_Mod_run {R : Type} (N : Nat) (args : List AV) (h : Heap) (k : AV → Heap → Option R) : Option R :=
  match args, h with
  | [(.int .i64 i0), (.int .i64 i1)], [] => (mk_Mod N i0 i1 (fun zi0 => k (.int .i64 zi0) []))
  | _, _ => none
noncomputable def mk_Mod_Tw (N : Nat) : Tw where
  runK := mk_Mod_run N
  eq := by
    intro R args h k
    unfold mk_Mod_run
    split
    · exact (mk_Mod_eq ..).symm.trans ((execF_bind ..).trans (congrArg (Option.bind · _) (mk_Mod_eq ..)))
    · rfl
theorem mk_Mod_ok (N : Nat) : TwOk Try.prog 13 (mk_Mod_Tw N) := by
  intro args h res h1 hh0
  have hh : mk_Mod_run N args h (fun v h1 => some (v, h1)) = some (res, h1) := hh0
  unfold mk_Mod_run at hh
  split at hh
  · exact execF_sound (T := mk_Mod_T N) trivial follows ((mk_Mod_eq ..).trans hh)
  · cases hh
/- gridmarket/gridmarketref44.four -/
noncomputable def ref44_fourB {R : Type} (N : Nat) (r0 : List AV → Option R)  (i0 : Int) : Option R :=
  (r0 [(.int .u8 (IntKind.wrap .u8 i0)), (.int .u8 (IntKind.wrap .u8 (Int.fdiv i0 (2 ^ 8)))), (.int .u8 (IntKind.wrap .u8 (Int.fdiv i0 (2 ^ 16)))), (.int .u8 (IntKind.wrap .u8 (Int.fdiv i0 (2 ^ 24))))])
noncomputable def ref44_fouri {R : Type} (N : Nat) (i0 : Int) (r0 : List AV → Option R) : Option R := (ref44_fourB N r0 i0)
noncomputable def ref44_four {R : Type} := (shut (@ref44_fouri R)).1
theorem ref44_four_def {R : Type} : @ref44_four R = @ref44_fouri R := (shut _).2
noncomputable def ref44_four_hs : Hints := { H := (.node [] (.node [0] .leaf .leaf) (.node [] (.node [2] .leaf .leaf) .leaf)), nils := [(2, 1)], modes := [], free := [] }
noncomputable def ref44_four_T (N : Nat) : List (Nat × Tw) := []
noncomputable def ref44_four_E (N : Nat) : Env := { P := Try.prog, nt := 15, muts := muts, nils := ref44_four_hs.nils, free := ref44_four_hs.free, tbl := ref44_four_T N }
noncomputable def ref44_four_fin {R : Type} (N : Nat) (F : AV → Heap → Option R) : St → Option R := afinish (ref44_four_E N) Try.f31 ref44_four_hs.modes [] F
noncomputable def ref44_four_at {R : Type} (N : Nat) (F : AV → Heap → Option R) (p : List Nat) (ks : List (St → Option R)) : Cut R := atC (ref44_four_E N) [] N p (bodyOf Try.f31) ref44_four_hs.H (ref44_four_fin N F) (fun _ _ => none) (ref44_four_fin N F) ks
theorem ref44_four_eq {R : Type} (N : Nat) (i0 : Int) (F : AV → Heap → Option R) : execF Try.prog muts (ref44_four_T N) ref44_four_hs N 31 [(.int .u32 i0)] [] F = (ref44_four N i0 (fun zh0 => F (.own 300000 0 4) [(300000, ⟨false, false, true, false, 1, zh0⟩)])) := by
  have h0 : execF Try.prog muts (ref44_four_T N) ref44_four_hs N 31 [(.int .u32 i0)] [] F = (ref44_fourB N (fun zh0 => F (.own 300000 0 4) [(300000, ⟨false, false, true, false, 1, zh0⟩)]) i0) := by kernel_rfl
  rw [ref44_four_def]
  exact h0
noncomputable def ref44_four_run {R : Type} (N : Nat) (args : List AV) (h : Heap) (k : AV → Heap → Option R) : Option R :=
  match args, h with
  | [(.int .u32 i0)], [] => (ref44_four N i0 (fun zh0 => k (.own 300000 0 4) [(300000, ⟨false, false, true, false, 1, zh0⟩)]))
  | _, _ => none
noncomputable def ref44_four_Tw (N : Nat) : Tw where
  runK := ref44_four_run N
  eq := by
    intro R args h k
    unfold ref44_four_run
    split
    · exact (ref44_four_eq ..).symm.trans ((execF_bind ..).trans (congrArg (Option.bind · _) (ref44_four_eq ..)))
    · rfl
theorem ref44_four_ok (N : Nat) : TwOk Try.prog 31 (ref44_four_Tw N) := by
  intro args h res h1 hh0
  have hh : ref44_four_run N args h (fun v h1 => some (v, h1)) = some (res, h1) := hh0
  unfold ref44_four_run at hh
  split at hh
  · exact execF_sound (T := ref44_four_T N) trivial follows ((ref44_four_eq ..).trans hh)
  · cases hh
/- gridmarket/gridmarketref44.Record -/
noncomputable def ref44_RecordB {R : Type} (N : Nat) (r0 : Nat → List AV → Option R)  (i0 : Int) (c1 : List AV) (n1 : Nat) (t1 : Bool) (o1 : Bool) : Option R :=
  (ref44_four N (IntKind.wrap .u32 i0) (fun y1 => (ref44_four N (IntKind.wrap .u32 ((n1 : Nat) : Int)) (fun y2 => (ref44_Checksum N (List.take 8 ((List.take 4 y1) ++ (List.take 4 y2))) 8 false true (fun y3 => (ref44_four N y3 (fun y4 => (cond ((!o1) || (plainZ c1)) (cond ((Nat.ble (12 + n1) 140737488355328) && (Nat.ble ((12 + n1) * 1) 140737488355328)) (ref44_Checksum N c1 n1 false o1 (fun y5 => (ref44_four N y5 (fun y6 => (cond ((Nat.ble ((12 + n1) + 4) 140737488355328) && (Nat.ble (((12 + n1) + 4) * 1) 140737488355328)) (r0 ((12 + n1) + 4) ((List.take ((12 + n1) * 1) ((List.take 12 ((List.take 8 ((List.take 4 y1) ++ (List.take 4 y2))) ++ (List.take 4 y4))) ++ c1)) ++ (List.take 4 y6))) none))))) none) none)))))))))
noncomputable def ref44_Recordi {R : Type} (N : Nat) (i0 : Int) (c1 : List AV) (n1 : Nat) (t1 : Bool) (o1 : Bool) (r0 : Nat → List AV → Option R) : Option R := (ref44_RecordB N r0 i0 c1 n1 t1 o1)
noncomputable def ref44_Record {R : Type} := (shut (@ref44_Recordi R)).1
theorem ref44_Record_def {R : Type} : @ref44_Record R = @ref44_Recordi R := (shut _).2
noncomputable def ref44_Record_hs : Hints := { H := (.node [] (.node [0, 1] .leaf .leaf) (.node [] (.node [1, 5] .leaf .leaf) (.node [] (.node [1, 5] .leaf .leaf) (.node [] (.node [1, 5] .leaf .leaf) (.node [] (.node [4] .leaf .leaf) .leaf))))), nils := [(4, 1)], modes := [(0, 0)], free := [] }
noncomputable def ref44_Record_T (N : Nat) : List (Nat × Tw) := [(31, ref44_four_Tw N), (12, ref44_Checksum_Tw N)]
noncomputable def ref44_Record_E (N : Nat) : Env := { P := Try.prog, nt := 27, muts := muts, nils := ref44_Record_hs.nils, free := ref44_Record_hs.free, tbl := ref44_Record_T N }
noncomputable def ref44_Record_fin {R : Type} (N : Nat) (F : AV → Heap → Option R) : St → Option R := afinish (ref44_Record_E N) Try.f23 ref44_Record_hs.modes [] F
noncomputable def ref44_Record_at {R : Type} (N : Nat) (F : AV → Heap → Option R) (p : List Nat) (ks : List (St → Option R)) : Cut R := atC (ref44_Record_E N) [] N p (bodyOf Try.f23) ref44_Record_hs.H (ref44_Record_fin N F) (fun _ _ => none) (ref44_Record_fin N F) ks
theorem ref44_Record_eq {R : Type} (N : Nat) (i0 : Int) (c1 : List AV) (n1 : Nat) (t1 : Bool) (o1 : Bool) (F : AV → Heap → Option R) : execF Try.prog muts (ref44_Record_T N) ref44_Record_hs N 23 [(.int .i64 i0), (.imm c1 n1 1 t1 o1)] [] F = (ref44_Record N i0 c1 n1 t1 o1 (fun zn0 zh0 => F (.own 300000 0 zn0) [(300000, ⟨false, false, true, false, 1, zh0⟩)])) := by
  have h0 : execF Try.prog muts (ref44_Record_T N) ref44_Record_hs N 23 [(.int .i64 i0), (.imm c1 n1 1 t1 o1)] [] F = (ref44_RecordB N (fun zn0 zh0 => F (.own 300000 0 zn0) [(300000, ⟨false, false, true, false, 1, zh0⟩)]) i0 c1 n1 t1 o1) := by kernel_rfl
  rw [ref44_Record_def]
  exact h0
noncomputable def ref44_Record_run {R : Type} (N : Nat) (args : List AV) (h : Heap) (k : AV → Heap → Option R) : Option R :=
  match args, h with
  | [(.int .i64 i0), (.imm c1 n1 1 t1 o1)], [] => (ref44_Record N i0 c1 n1 t1 o1 (fun zn0 zh0 => k (.own 300000 0 zn0) [(300000, ⟨false, false, true, false, 1, zh0⟩)]))
  | _, _ => none
noncomputable def ref44_Record_Tw (N : Nat) : Tw where
  runK := ref44_Record_run N
  eq := by
    intro R args h k
    unfold ref44_Record_run
    split
    · exact (ref44_Record_eq ..).symm.trans ((execF_bind ..).trans (congrArg (Option.bind · _) (ref44_Record_eq ..)))
    · rfl
theorem ref44_Record_ok (N : Nat) : TwOk Try.prog 23 (ref44_Record_Tw N) := by
  intro args h res h1 hh0
  have hh : ref44_Record_run N args h (fun v h1 => some (v, h1)) = some (res, h1) := hh0
  unfold ref44_Record_run at hh
  split at hh
  · exact execF_sound (T := ref44_Record_T N) ⟨ref44_four_ok N, ref44_Checksum_ok N, trivial⟩ follows ((ref44_Record_eq ..).trans hh)
  · cases hh
/- gridmarket/gridmarketref44.Encode -/
noncomputable def ref44_EncodeB {R : Type} (N : Nat) (r0 : List AV → Nat → Int → Option R)  (i0 : Int) (c1 : List AV) (n1 : Nat) (t1 : Bool) (o1 : Bool) : Option R :=
  (cond ((decide (i0 < (0 : Int))) == false) (cond (cond false true (decide (i0 ≥ (1024 : Int)))) (r0 [] 0 (3 : Int)) (cond (decide (((n1 : Nat) : Int) > (2097152 : Int))) (r0 [] 0 (8 : Int)) (ref44_Record N i0 c1 n1 false o1 (fun y1 y2 => (r0 (List.take (y1 * 1) y2) y1 (0 : Int)))))) (r0 [] 0 (3 : Int)))
noncomputable def ref44_Encodei {R : Type} (N : Nat) (i0 : Int) (c1 : List AV) (n1 : Nat) (t1 : Bool) (o1 : Bool) (r0 : List AV → Nat → Int → Option R) : Option R := (ref44_EncodeB N r0 i0 c1 n1 t1 o1)
noncomputable def ref44_Encode {R : Type} := (shut (@ref44_Encodei R)).1
theorem ref44_Encode_def {R : Type} : @ref44_Encode R = @ref44_Encodei R := (shut _).2
noncomputable def ref44_Encode_hs : Hints := { H := (.node [] (.node [0, 1] .leaf .leaf) (.node [] (.node [] (.node [0, 1, 11] .leaf .leaf) (.node [0, 1] (.node [] (.node [4, 5] .leaf .leaf) .leaf) .leaf)) (.node [] (.node [] (.node [0, 1, 14] .leaf .leaf) (.node [0, 1] (.node [] (.node [4, 5] .leaf .leaf) .leaf) .leaf)) (.node [] (.node [4, 5] .leaf .leaf) .leaf)))), nils := [(4, 1)], modes := [(1, 1), (0, 0)], free := [] }
noncomputable def ref44_Encode_T (N : Nat) : List (Nat × Tw) := [(23, ref44_Record_Tw N)]
noncomputable def ref44_Encode_E (N : Nat) : Env := { P := Try.prog, nt := 18, muts := muts, nils := ref44_Encode_hs.nils, free := ref44_Encode_hs.free, tbl := ref44_Encode_T N }
noncomputable def ref44_Encode_fin {R : Type} (N : Nat) (F : AV → Heap → Option R) : St → Option R := afinish (ref44_Encode_E N) Try.f15 ref44_Encode_hs.modes [] F
noncomputable def ref44_Encode_at {R : Type} (N : Nat) (F : AV → Heap → Option R) (p : List Nat) (ks : List (St → Option R)) : Cut R := atC (ref44_Encode_E N) [] N p (bodyOf Try.f15) ref44_Encode_hs.H (ref44_Encode_fin N F) (fun _ _ => none) (ref44_Encode_fin N F) ks
theorem ref44_Encode_eq {R : Type} (N : Nat) (i0 : Int) (c1 : List AV) (n1 : Nat) (t1 : Bool) (o1 : Bool) (F : AV → Heap → Option R) : execF Try.prog muts (ref44_Encode_T N) ref44_Encode_hs N 15 [(.int .i64 i0), (.imm c1 n1 1 t1 o1)] [] F = (ref44_Encode N i0 c1 n1 t1 o1 (fun zc0_0 zn0_0 zi0_1 => F (.tup [(.imm zc0_0 zn0_0 1 false false), (.int .i64 zi0_1)]) [])) := by
  have h0 : execF Try.prog muts (ref44_Encode_T N) ref44_Encode_hs N 15 [(.int .i64 i0), (.imm c1 n1 1 t1 o1)] [] F = (ref44_EncodeB N (fun zc0_0 zn0_0 zi0_1 => F (.tup [(.imm zc0_0 zn0_0 1 false false), (.int .i64 zi0_1)]) []) i0 c1 n1 t1 o1) := by kernel_rfl
  rw [ref44_Encode_def]
  exact h0
noncomputable def ref44_Encode_run {R : Type} (N : Nat) (args : List AV) (h : Heap) (k : AV → Heap → Option R) : Option R :=
  match args, h with
  | [(.int .i64 i0), (.imm c1 n1 1 t1 o1)], [] => (ref44_Encode N i0 c1 n1 t1 o1 (fun zc0_0 zn0_0 zi0_1 => k (.tup [(.imm zc0_0 zn0_0 1 false false), (.int .i64 zi0_1)]) []))
  | _, _ => none
noncomputable def ref44_Encode_Tw (N : Nat) : Tw where
  runK := ref44_Encode_run N
  eq := by
    intro R args h k
    unfold ref44_Encode_run
    split
    · exact (ref44_Encode_eq ..).symm.trans ((execF_bind ..).trans (congrArg (Option.bind · _) (ref44_Encode_eq ..)))
    · rfl
theorem ref44_Encode_ok (N : Nat) : TwOk Try.prog 15 (ref44_Encode_Tw N) := by
  intro args h res h1 hh0
  have hh : ref44_Encode_run N args h (fun v h1 => some (v, h1)) = some (res, h1) := hh0
  unfold ref44_Encode_run at hh
  split at hh
  · exact execF_sound (T := ref44_Encode_T N) ⟨ref44_Record_ok N, trivial⟩ follows ((ref44_Encode_eq ..).trans hh)
  · cases hh
/- gridmarket/gridmarketlaw44.JournalEncodes -/
noncomputable def law44_JournalEncodes_q0B {R : Type} (N : Nat)  (r0 : Bool → Option R) (c1 : List AV) (n1 : Nat) (t1 : Bool) (o1 : Bool)   (g0_i0 : Int) : Option R :=
  (journal_Encode N g0_i0 c1 n1 false o1 (fun y2 y3 y4 => (ref44_Encode N g0_i0 c1 n1 false o1 (fun y5 y6 y7 => (law44_awake N (fun y8 => (cond (y8 == true) (cond ((cond true (y4 == y7) false) == true) (Option.bind (asBytes y2) fun s9 => (Option.bind (asBytes y5) fun s10 => (r0 (cond true (s9 == s10) false)))) (r0 false)) (r0 false))))))))
noncomputable def law44_JournalEncodes_q0 {R : Type} (N : Nat)  (r0 : Bool → Option R) (c1 : List AV) (n1 : Nat) (t1 : Bool) (o1 : Bool) (g0_i0 : Int) : Option R := (law44_JournalEncodes_q0B N r0 c1 n1 t1 o1 g0_i0)
noncomputable def law44_JournalEncodesB {R : Type} (N : Nat) (r0 : Bool → Option R) (q0 : Int → Option R) (i0 : Int) (c1 : List AV) (n1 : Nat) (t1 : Bool) (o1 : Bool) (b2 : Bool) : Option R :=
  (cond (decide (((n1 : Nat) : Int) > (2000 : Int))) (r0 true) (cond b2 (mk_Mod N i0 (1026 : Int) (fun y1 => (q0 (IntKind.wrap .i64 (y1 - (1 : Int)))))) (q0 i0)))
noncomputable def law44_JournalEncodesi {R : Type} (N : Nat) (i0 : Int) (c1 : List AV) (n1 : Nat) (t1 : Bool) (o1 : Bool) (b2 : Bool) (r0 : Bool → Option R) : Option R := (law44_JournalEncodesB N r0 (fun g0_i0 => (law44_JournalEncodes_q0 N r0 c1 n1 t1 o1 g0_i0)) i0 c1 n1 t1 o1 b2)
noncomputable def law44_JournalEncodes {R : Type} := (shut (@law44_JournalEncodesi R)).1
theorem law44_JournalEncodes_def {R : Type} : @law44_JournalEncodes R = @law44_JournalEncodesi R := (shut _).2
noncomputable def law44_JournalEncodes_hs : Hints := { H := (.node [] (.node [0, 1, 2] .leaf .leaf) (.node [] (.node [] (.node [0, 1, 2, 13] .leaf .leaf) (.node [0, 1, 2] (.node [] (.node [6] .leaf .leaf) .leaf) .leaf)) (.join (.node [] (.node [0, 1, 14] .leaf .leaf) (.node [0, 1] (.node [0, 1] .leaf .leaf) .leaf)) (.node [] (.node [0, 1, 7, 8] .leaf .leaf) (.node [] (.node [7, 8, 9, 10] .leaf .leaf) (.node [] (.node [6] .leaf .leaf) .leaf)))))), nils := [], modes := [], free := [] }
noncomputable def law44_JournalEncodes_T (N : Nat) : List (Nat × Tw) := [(13, mk_Mod_Tw N), (14, journal_Encode_Tw N), (15, ref44_Encode_Tw N), (10, law44_awake_Tw N)]
noncomputable def law44_JournalEncodes_E (N : Nat) : Env := { P := Try.prog, nt := 43, muts := muts, nils := law44_JournalEncodes_hs.nils, free := law44_JournalEncodes_hs.free, tbl := law44_JournalEncodes_T N }
noncomputable def law44_JournalEncodes_fin {R : Type} (N : Nat) (F : AV → Heap → Option R) : St → Option R := afinish (law44_JournalEncodes_E N) Try.f4 law44_JournalEncodes_hs.modes [] F
noncomputable def law44_JournalEncodes_at {R : Type} (N : Nat) (F : AV → Heap → Option R) (p : List Nat) (ks : List (St → Option R)) : Cut R := atC (law44_JournalEncodes_E N) [] N p (bodyOf Try.f4) law44_JournalEncodes_hs.H (law44_JournalEncodes_fin N F) (fun _ _ => none) (law44_JournalEncodes_fin N F) ks
def law44_JournalEncodes_s0 (c1 : List AV) (n1 : Nat) (t1 : Bool) (o1 : Bool) (g0_i0 : Int) : St := { s := [(0, (.int .i64 g0_i0)), (1, (.imm c1 n1 1 t1 o1))], h := [] }
theorem law44_JournalEncodes_q0_eq {R : Type} (N : Nat)  (F : AV → Heap → Option R) (c1 : List AV) (n1 : Nat) (t1 : Bool) (o1 : Bool) : ∀ (g0_i0 : Int), joinIn (law44_JournalEncodes_E N) [] N (law44_JournalEncodes_at N F [1, 1, 1] []) (law44_JournalEncodes_s0 c1 n1 t1 o1 g0_i0) = (law44_JournalEncodes_q0 N (fun zb0 => F (.bool zb0) []) c1 n1 t1 o1 g0_i0) := by
  intro g0_i0
  have h0 : joinIn (law44_JournalEncodes_E N) [] N (law44_JournalEncodes_at N F [1, 1, 1] []) (law44_JournalEncodes_s0 c1 n1 t1 o1 g0_i0) = (law44_JournalEncodes_q0B N (fun zb0 => F (.bool zb0) []) c1 n1 t1 o1 g0_i0) := by kernel_rfl
  exact h0
theorem law44_JournalEncodes_eq {R : Type} (N : Nat) (i0 : Int) (c1 : List AV) (n1 : Nat) (t1 : Bool) (o1 : Bool) (b2 : Bool) (F : AV → Heap → Option R) : execF Try.prog muts (law44_JournalEncodes_T N) law44_JournalEncodes_hs N 4 [(.int .i64 i0), (.imm c1 n1 1 t1 o1), (.bool b2)] [] F = (law44_JournalEncodes N i0 c1 n1 t1 o1 b2 (fun zb0 => F (.bool zb0) [])) := by
  have e1 : (fun g0_i0 => joinAt (law44_JournalEncodes_E N) [] N (law44_JournalEncodes_at N F [1, 1, 1] []) (law44_JournalEncodes_s0 c1 n1 t1 o1 g0_i0)) = (fun g0_i0 => (law44_JournalEncodes_q0 N (fun zb0 => F (.bool zb0) []) c1 n1 t1 o1 g0_i0)) := by funext g0_i0; exact (joinAt_eq ..).trans (law44_JournalEncodes_q0_eq N F c1 n1 t1 o1 g0_i0)
  have h0 : execF Try.prog muts (law44_JournalEncodes_T N) law44_JournalEncodes_hs N 4 [(.int .i64 i0), (.imm c1 n1 1 t1 o1), (.bool b2)] [] F = (law44_JournalEncodesB N (fun zb0 => F (.bool zb0) []) (fun g0_i0 => joinAt (law44_JournalEncodes_E N) [] N (law44_JournalEncodes_at N F [1, 1, 1] []) (law44_JournalEncodes_s0 c1 n1 t1 o1 g0_i0)) i0 c1 n1 t1 o1 b2) := by kernel_rfl
  rw [law44_JournalEncodes_def]
  exact (h0).trans (congrArg (fun z => (law44_JournalEncodesB N (fun zb0 => F (.bool zb0) []) z i0 c1 n1 t1 o1 b2)) e1)
noncomputable def law44_JournalEncodes_run {R : Type} (N : Nat) (args : List AV) (h : Heap) (k : AV → Heap → Option R) : Option R :=
  match args, h with
  | [(.int .i64 i0), (.imm c1 n1 1 t1 o1), (.bool b2)], [] => (law44_JournalEncodes N i0 c1 n1 t1 o1 b2 (fun zb0 => k (.bool zb0) []))
  | _, _ => none
noncomputable def law44_JournalEncodes_Tw (N : Nat) : Tw where
  runK := law44_JournalEncodes_run N
  eq := by
    intro R args h k
    unfold law44_JournalEncodes_run
    split
    · exact (law44_JournalEncodes_eq ..).symm.trans ((execF_bind ..).trans (congrArg (Option.bind · _) (law44_JournalEncodes_eq ..)))
    · rfl
theorem law44_JournalEncodes_ok (N : Nat) : TwOk Try.prog 4 (law44_JournalEncodes_Tw N) := by
  intro args h res h1 hh0
  have hh : law44_JournalEncodes_run N args h (fun v h1 => some (v, h1)) = some (res, h1) := hh0
  unfold law44_JournalEncodes_run at hh
  split at hh
  · exact execF_sound (T := law44_JournalEncodes_T N) ⟨mk_Mod_ok N, journal_Encode_ok N, ref44_Encode_ok N, law44_awake_ok N, trivial⟩ follows ((law44_JournalEncodes_eq ..).trans hh)
  · cases hh
/- gridmarket/gridmarketlaw44.light -/
noncomputable def law44_light_q0B {R : Type} (N : Nat)  (r0 : Bool → Option R) (c0 : List AV) (n0 : Nat) (t0 : Bool) (o0 : Bool) (k0 : Int → Option R)  (g0_i3 : Int) : Option R :=
  (cond (decide (g0_i3 < ((n0 : Nat) : Int))) (cond (inIdx g0_i3 n0) (rdL 1 (List.drop ((Int.toNat g0_i3) * 1) c0) fun l1 m2 => (cond (decide (((m2 : Nat) : Int) > (200 : Int))) (r0 false) (k0 (IntKind.wrap .i64 (g0_i3 + (1 : Int)))))) none) (r0 true))
noncomputable def law44_light_q0 {R : Type} (N : Nat)  (r0 : Bool → Option R) (c0 : List AV) (n0 : Nat) (t0 : Bool) (o0 : Bool) : Nat → Int → Option R
  | 0, _ => none
  | n + 1, g0_i3 => (law44_light_q0B N r0 c0 n0 t0 o0 (law44_light_q0 N r0 c0 n0 t0 o0 n) g0_i3)
noncomputable def law44_lightB {R : Type} (N : Nat) (r0 : Bool → Option R) (q0 : Int → Option R) (c0 : List AV) (n0 : Nat) (t0 : Bool) (o0 : Bool) : Option R :=
  (cond (decide (((n0 : Nat) : Int) > (12 : Int))) (r0 false) (q0 (0 : Int)))
noncomputable def law44_lighti {R : Type} (N : Nat) (c0 : List AV) (n0 : Nat) (t0 : Bool) (o0 : Bool) (r0 : Bool → Option R) : Option R := (law44_lightB N r0 (fun g0_i3 => (law44_light_q0 N r0 c0 n0 t0 o0 N g0_i3)) c0 n0 t0 o0)
noncomputable def law44_light {R : Type} := (shut (@law44_lighti R)).1
theorem law44_light_def {R : Type} : @law44_light R = @law44_lighti R := (shut _).2
noncomputable def law44_light_hs : Hints := { H := (.node [] (.node [0] .leaf .leaf) (.node [] (.node [] (.node [0, 6] .leaf .leaf) (.node [0] (.node [] (.node [2] .leaf .leaf) .leaf) .leaf)) (.node [] (.node [] (.node [0, 3] .leaf .leaf) (.node [] (.node [0, 3] (.node [] (.node [] (.node [0, 3, 10] .leaf .leaf) (.node [0, 3] .leaf .leaf)) (.node [] (.node [0, 3] (.node [] (.node [0, 3, 18] .leaf .leaf) (.node [0, 3] (.node [] (.node [2] .leaf .leaf) .leaf) .leaf)) .leaf) (.node [0, 3] .leaf .leaf))) .leaf) .leaf)) (.node [] (.node [2] .leaf .leaf) .leaf)))), nils := [], modes := [], free := [] }
noncomputable def law44_light_T (N : Nat) : List (Nat × Tw) := []
noncomputable def law44_light_E (N : Nat) : Env := { P := Try.prog, nt := 19, muts := muts, nils := law44_light_hs.nils, free := law44_light_hs.free, tbl := law44_light_T N }
noncomputable def law44_light_fin {R : Type} (N : Nat) (F : AV → Heap → Option R) : St → Option R := afinish (law44_light_E N) Try.f16 law44_light_hs.modes [] F
noncomputable def law44_light_at {R : Type} (N : Nat) (F : AV → Heap → Option R) (p : List Nat) (ks : List (St → Option R)) : Cut R := atC (law44_light_E N) [] N p (bodyOf Try.f16) law44_light_hs.H (law44_light_fin N F) (fun _ _ => none) (law44_light_fin N F) ks
def law44_light_s0 (c0 : List AV) (n0 : Nat) (t0 : Bool) (o0 : Bool) (g0_i3 : Int) : St := { s := [(0, (.imm c0 n0 1 t0 o0)), (3, (.int .i64 g0_i3))], h := [] }
theorem law44_light_q0_eq {R : Type} (N : Nat)  (F : AV → Heap → Option R) (c0 : List AV) (n0 : Nat) (t0 : Bool) (o0 : Bool) : ∀ (n : Nat) (g0_i3 : Int), loopAt (law44_light_E N) [] N (law44_light_at N F [1, 1, 0, 1, 0] []) n (law44_light_s0 c0 n0 t0 o0 g0_i3) = (law44_light_q0 N (fun zb0 => F (.bool zb0) []) c0 n0 t0 o0 n g0_i3) := by
  intro n
  induction n with
  | zero => intros; rfl
  | succ n ih =>
    intro g0_i3
    have e0 : (fun g0_i3 => loopAt (law44_light_E N) [] N (law44_light_at N F [1, 1, 0, 1, 0] []) n (law44_light_s0 c0 n0 t0 o0 g0_i3)) = (law44_light_q0 N (fun zb0 => F (.bool zb0) []) c0 n0 t0 o0 n) := by funext g0_i3; exact ih g0_i3
    have h0 : loopAt (law44_light_E N) [] N (law44_light_at N F [1, 1, 0, 1, 0] []) (n + 1) (law44_light_s0 c0 n0 t0 o0 g0_i3) = (law44_light_q0B N (fun zb0 => F (.bool zb0) []) c0 n0 t0 o0 (fun g0_i3 => loopAt (law44_light_E N) [] N (law44_light_at N F [1, 1, 0, 1, 0] []) n (law44_light_s0 c0 n0 t0 o0 g0_i3)) g0_i3) := by kernel_rfl
    exact (h0).trans (congrArg (fun z => (law44_light_q0B N (fun zb0 => F (.bool zb0) []) c0 n0 t0 o0 z g0_i3)) e0)
theorem law44_light_eq {R : Type} (N : Nat) (c0 : List AV) (n0 : Nat) (t0 : Bool) (o0 : Bool) (F : AV → Heap → Option R) : execF Try.prog muts (law44_light_T N) law44_light_hs N 16 [(.imm c0 n0 1 t0 o0)] [] F = (law44_light N c0 n0 t0 o0 (fun zb0 => F (.bool zb0) [])) := by
  have e1 : (fun g0_i3 => loopW (law44_light_E N) [] N (law44_light_at N F [1, 1, 0, 1, 0] []) N (law44_light_s0 c0 n0 t0 o0 g0_i3)) = (fun g0_i3 => (law44_light_q0 N (fun zb0 => F (.bool zb0) []) c0 n0 t0 o0 N g0_i3)) := by funext g0_i3; exact (loopW_eq ..).trans (law44_light_q0_eq N F c0 n0 t0 o0 N g0_i3)
  have h0 : execF Try.prog muts (law44_light_T N) law44_light_hs N 16 [(.imm c0 n0 1 t0 o0)] [] F = (law44_lightB N (fun zb0 => F (.bool zb0) []) (fun g0_i3 => loopW (law44_light_E N) [] N (law44_light_at N F [1, 1, 0, 1, 0] []) N (law44_light_s0 c0 n0 t0 o0 g0_i3)) c0 n0 t0 o0) := by kernel_rfl
  rw [law44_light_def]
  exact (h0).trans (congrArg (fun z => (law44_lightB N (fun zb0 => F (.bool zb0) []) z c0 n0 t0 o0)) e1)
noncomputable def law44_light_run {R : Type} (N : Nat) (args : List AV) (h : Heap) (k : AV → Heap → Option R) : Option R :=
  match args, h with
  | [(.imm c0 n0 1 t0 o0)], [] => (law44_light N c0 n0 t0 o0 (fun zb0 => k (.bool zb0) []))
  | _, _ => none
noncomputable def law44_light_Tw (N : Nat) : Tw where
  runK := law44_light_run N
  eq := by
    intro R args h k
    unfold law44_light_run
    split
    · exact (law44_light_eq ..).symm.trans ((execF_bind ..).trans (congrArg (Option.bind · _) (law44_light_eq ..)))
    · rfl
theorem law44_light_ok (N : Nat) : TwOk Try.prog 16 (law44_light_Tw N) := by
  intro args h res h1 hh0
  have hh : law44_light_run N args h (fun v h1 => some (v, h1)) = some (res, h1) := hh0
  unfold law44_light_run at hh
  split at hh
  · exact execF_sound (T := law44_light_T N) trivial follows ((law44_light_eq ..).trans hh)
  · cases hh
/- gridmarket/gridmarketlaw44.disk -/
noncomputable def law44_disk_q0B {R : Type} (N : Nat)  (r0 : Nat → List AV → Option R) (c0 : List AV) (n0 : Nat) (t0 : Bool) (o0 : Bool) (k0 : Nat → Int → List AV → Option R)  (g0_n3 : Nat) (g0_i4 : Int) (g0_h0 : List AV) : Option R :=
  (cond (decide (g0_i4 < ((n0 : Nat) : Int))) (cond (inIdx g0_i4 n0) (rdL 1 (List.drop ((Int.toNat g0_i4) * 1) c0) fun l1 m2 => (ref44_Record N g0_i4 l1 m2 false o0 (fun y3 y4 => (cond ((Nat.ble (g0_n3 + y3) 140737488355328) && (Nat.ble ((g0_n3 + y3) * 1) 140737488355328)) (k0 (g0_n3 + y3) (IntKind.wrap .i64 (g0_i4 + (1 : Int))) ((List.take (g0_n3 * 1) g0_h0) ++ (List.take (y3 * 1) y4))) none)))) none) (r0 g0_n3 g0_h0))
noncomputable def law44_disk_q0 {R : Type} (N : Nat)  (r0 : Nat → List AV → Option R) (c0 : List AV) (n0 : Nat) (t0 : Bool) (o0 : Bool) : Nat → Nat → Int → List AV → Option R
  | 0, _, _, _ => none
  | n + 1, g0_n3, g0_i4, g0_h0 => (law44_disk_q0B N r0 c0 n0 t0 o0 (law44_disk_q0 N r0 c0 n0 t0 o0 n) g0_n3 g0_i4 g0_h0)
noncomputable def law44_diskB {R : Type} (N : Nat) (r0 : Nat → List AV → Option R) (q0 : Nat → Int → List AV → Option R) (c0 : List AV) (n0 : Nat) (t0 : Bool) (o0 : Bool) : Option R :=
  (q0 0 (0 : Int) [])
noncomputable def law44_diski {R : Type} (N : Nat) (c0 : List AV) (n0 : Nat) (t0 : Bool) (o0 : Bool) (r0 : Nat → List AV → Option R) : Option R := (law44_diskB N r0 (fun g0_n3 g0_i4 g0_h0 => (law44_disk_q0 N r0 c0 n0 t0 o0 N g0_n3 g0_i4 g0_h0)) c0 n0 t0 o0)
noncomputable def law44_disk {R : Type} := (shut (@law44_diski R)).1
theorem law44_disk_def {R : Type} : @law44_disk R = @law44_diski R := (shut _).2
noncomputable def law44_disk_hs : Hints := { H := (.node [] (.node [0] .leaf .leaf) (.node [] (.node [0, 3] .leaf .leaf) (.node [] (.node [] (.node [0, 3, 4] .leaf .leaf) (.node [3] (.node [0, 3, 4] (.node [] (.node [] (.node [0, 3, 4, 8] .leaf .leaf) (.node [0, 3, 4] .leaf .leaf)) (.node [] (.node [0, 3, 4] (.node [0, 3, 4] .leaf .leaf) .leaf) (.node [0, 3, 4] .leaf .leaf))) .leaf) .leaf)) (.node [] (.node [2] .leaf .leaf) .leaf)))), nils := [(2, 1), (3, 1)], modes := [(2, 1)], free := [] }
noncomputable def law44_disk_T (N : Nat) : List (Nat × Tw) := [(23, ref44_Record_Tw N)]
noncomputable def law44_disk_E (N : Nat) : Env := { P := Try.prog, nt := 20, muts := muts, nils := law44_disk_hs.nils, free := law44_disk_hs.free, tbl := law44_disk_T N }
noncomputable def law44_disk_fin {R : Type} (N : Nat) (F : AV → Heap → Option R) : St → Option R := afinish (law44_disk_E N) Try.f17 law44_disk_hs.modes [] F
noncomputable def law44_disk_at {R : Type} (N : Nat) (F : AV → Heap → Option R) (p : List Nat) (ks : List (St → Option R)) : Cut R := atC (law44_disk_E N) [] N p (bodyOf Try.f17) law44_disk_hs.H (law44_disk_fin N F) (fun _ _ => none) (law44_disk_fin N F) ks
def law44_disk_s0 (c0 : List AV) (n0 : Nat) (t0 : Bool) (o0 : Bool) (g0_n3 : Nat) (g0_i4 : Int) (g0_h0 : List AV) : St := { s := [(0, (.imm c0 n0 1 t0 o0)), (3, (.own 300000 0 g0_n3)), (4, (.int .i64 g0_i4))], h := [(300000, ⟨false, false, true, false, 1, g0_h0⟩)] }
theorem law44_disk_q0_eq {R : Type} (N : Nat)  (F : AV → Heap → Option R) (c0 : List AV) (n0 : Nat) (t0 : Bool) (o0 : Bool) : ∀ (n : Nat) (g0_n3 : Nat) (g0_i4 : Int) (g0_h0 : List AV), loopAt (law44_disk_E N) [] N (law44_disk_at N F [1, 1, 0, 1, 0] []) n (law44_disk_s0 c0 n0 t0 o0 g0_n3 g0_i4 g0_h0) = (law44_disk_q0 N (fun zn0 zh0 => F (.own 300000 0 zn0) [(300000, ⟨false, false, true, false, 1, zh0⟩)]) c0 n0 t0 o0 n g0_n3 g0_i4 g0_h0) := by
  intro n
  induction n with
  | zero => intros; rfl
  | succ n ih =>
    intro g0_n3 g0_i4 g0_h0
    have e0 : (fun g0_n3 g0_i4 g0_h0 => loopAt (law44_disk_E N) [] N (law44_disk_at N F [1, 1, 0, 1, 0] []) n (law44_disk_s0 c0 n0 t0 o0 g0_n3 g0_i4 g0_h0)) = (law44_disk_q0 N (fun zn0 zh0 => F (.own 300000 0 zn0) [(300000, ⟨false, false, true, false, 1, zh0⟩)]) c0 n0 t0 o0 n) := by funext g0_n3; funext g0_i4; funext g0_h0; exact ih g0_n3 g0_i4 g0_h0
    have h0 : loopAt (law44_disk_E N) [] N (law44_disk_at N F [1, 1, 0, 1, 0] []) (n + 1) (law44_disk_s0 c0 n0 t0 o0 g0_n3 g0_i4 g0_h0) = (law44_disk_q0B N (fun zn0 zh0 => F (.own 300000 0 zn0) [(300000, ⟨false, false, true, false, 1, zh0⟩)]) c0 n0 t0 o0 (fun g0_n3 g0_i4 g0_h0 => loopAt (law44_disk_E N) [] N (law44_disk_at N F [1, 1, 0, 1, 0] []) n (law44_disk_s0 c0 n0 t0 o0 g0_n3 g0_i4 g0_h0)) g0_n3 g0_i4 g0_h0) := by kernel_rfl
    exact (h0).trans (congrArg (fun z => (law44_disk_q0B N (fun zn0 zh0 => F (.own 300000 0 zn0) [(300000, ⟨false, false, true, false, 1, zh0⟩)]) c0 n0 t0 o0 z g0_n3 g0_i4 g0_h0)) e0)
theorem law44_disk_eq {R : Type} (N : Nat) (c0 : List AV) (n0 : Nat) (t0 : Bool) (o0 : Bool) (F : AV → Heap → Option R) : execF Try.prog muts (law44_disk_T N) law44_disk_hs N 17 [(.imm c0 n0 1 t0 o0)] [] F = (law44_disk N c0 n0 t0 o0 (fun zn0 zh0 => F (.own 300000 0 zn0) [(300000, ⟨false, false, true, false, 1, zh0⟩)])) := by
  have e1 : (fun g0_n3 g0_i4 g0_h0 => loopW (law44_disk_E N) [] N (law44_disk_at N F [1, 1, 0, 1, 0] []) N (law44_disk_s0 c0 n0 t0 o0 g0_n3 g0_i4 g0_h0)) = (fun g0_n3 g0_i4 g0_h0 => (law44_disk_q0 N (fun zn0 zh0 => F (.own 300000 0 zn0) [(300000, ⟨false, false, true, false, 1, zh0⟩)]) c0 n0 t0 o0 N g0_n3 g0_i4 g0_h0)) := by funext g0_n3; funext g0_i4; funext g0_h0; exact (loopW_eq ..).trans (law44_disk_q0_eq N F c0 n0 t0 o0 N g0_n3 g0_i4 g0_h0)
  have h0 : execF Try.prog muts (law44_disk_T N) law44_disk_hs N 17 [(.imm c0 n0 1 t0 o0)] [] F = (law44_diskB N (fun zn0 zh0 => F (.own 300000 0 zn0) [(300000, ⟨false, false, true, false, 1, zh0⟩)]) (fun g0_n3 g0_i4 g0_h0 => loopW (law44_disk_E N) [] N (law44_disk_at N F [1, 1, 0, 1, 0] []) N (law44_disk_s0 c0 n0 t0 o0 g0_n3 g0_i4 g0_h0)) c0 n0 t0 o0) := by kernel_rfl
  rw [law44_disk_def]
  exact (h0).trans (congrArg (fun z => (law44_diskB N (fun zn0 zh0 => F (.own 300000 0 zn0) [(300000, ⟨false, false, true, false, 1, zh0⟩)]) z c0 n0 t0 o0)) e1)
noncomputable def law44_disk_run {R : Type} (N : Nat) (args : List AV) (h : Heap) (k : AV → Heap → Option R) : Option R :=
  match args, h with
  | [(.imm c0 n0 1 t0 o0)], [] => (law44_disk N c0 n0 t0 o0 (fun zn0 zh0 => k (.own 300000 0 zn0) [(300000, ⟨false, false, true, false, 1, zh0⟩)]))
  | _, _ => none
noncomputable def law44_disk_Tw (N : Nat) : Tw where
  runK := law44_disk_run N
  eq := by
    intro R args h k
    unfold law44_disk_run
    split
    · exact (law44_disk_eq ..).symm.trans ((execF_bind ..).trans (congrArg (Option.bind · _) (law44_disk_eq ..)))
    · rfl
theorem law44_disk_ok (N : Nat) : TwOk Try.prog 17 (law44_disk_Tw N) := by
  intro args h res h1 hh0
  have hh : law44_disk_run N args h (fun v h1 => some (v, h1)) = some (res, h1) := hh0
  unfold law44_disk_run at hh
  split at hh
  · exact execF_sound (T := law44_disk_T N) ⟨ref44_Record_ok N, trivial⟩ follows ((law44_disk_eq ..).trans hh)
  · cases hh
/- gridmarket/journal.get -/
noncomputable def journal_getB {R : Type} (N : Nat) (r0 : Int → Option R)  (c0 : List AV) (n0 : Nat) (t0 : Bool) (o0 : Bool) : Option R :=
  (cond (inIdx (0 : Int) n0) (rdI .u8 c0 fun x1 => (cond (inIdx (1 : Int) n0) (rdI .u8 (List.drop 1 c0) fun x2 => (cond (inIdx (2 : Int) n0) (rdI .u8 (List.drop 2 c0) fun x3 => (cond (inIdx (3 : Int) n0) (rdI .u8 (List.drop 3 c0) fun x4 => (r0 (bitOr .u32 (bitOr .u32 (bitOr .u32 (IntKind.wrap .u32 x1) (IntKind.wrap .u32 ((IntKind.wrap .u32 x2) * 2 ^ 8))) (IntKind.wrap .u32 ((IntKind.wrap .u32 x3) * 2 ^ 16))) (IntKind.wrap .u32 ((IntKind.wrap .u32 x4) * 2 ^ 24))))) none)) none)) none)) none)
noncomputable def journal_geti {R : Type} (N : Nat) (c0 : List AV) (n0 : Nat) (t0 : Bool) (o0 : Bool) (r0 : Int → Option R) : Option R := (journal_getB N r0 c0 n0 t0 o0)
noncomputable def journal_get {R : Type} := (shut (@journal_geti R)).1
theorem journal_get_def {R : Type} : @journal_get R = @journal_geti R := (shut _).2
noncomputable def journal_get_hs : Hints := { H := (.node [] (.node [0] .leaf .leaf) (.node [] (.node [2] .leaf .leaf) .leaf)), nils := [], modes := [], free := [] }
noncomputable def journal_get_T (N : Nat) : List (Nat × Tw) := []
noncomputable def journal_get_E (N : Nat) : Env := { P := Try.prog, nt := 25, muts := muts, nils := journal_get_hs.nils, free := journal_get_hs.free, tbl := journal_get_T N }
noncomputable def journal_get_fin {R : Type} (N : Nat) (F : AV → Heap → Option R) : St → Option R := afinish (journal_get_E N) Try.f33 journal_get_hs.modes [] F
noncomputable def journal_get_at {R : Type} (N : Nat) (F : AV → Heap → Option R) (p : List Nat) (ks : List (St → Option R)) : Cut R := atC (journal_get_E N) [] N p (bodyOf Try.f33) journal_get_hs.H (journal_get_fin N F) (fun _ _ => none) (journal_get_fin N F) ks
theorem journal_get_eq {R : Type} (N : Nat) (c0 : List AV) (n0 : Nat) (t0 : Bool) (o0 : Bool) (F : AV → Heap → Option R) : execF Try.prog muts (journal_get_T N) journal_get_hs N 33 [(.imm c0 n0 1 t0 o0)] [] F = (journal_get N c0 n0 t0 o0 (fun zi0 => F (.int .u32 zi0) [])) := by
  have h0 : execF Try.prog muts (journal_get_T N) journal_get_hs N 33 [(.imm c0 n0 1 t0 o0)] [] F = (journal_getB N (fun zi0 => F (.int .u32 zi0) []) c0 n0 t0 o0) := by kernel_rfl
  rw [journal_get_def]
  exact h0
noncomputable def journal_get_run {R : Type} (N : Nat) (args : List AV) (h : Heap) (k : AV → Heap → Option R) : Option R :=
  match args, h with
  | [(.imm c0 n0 1 t0 o0)], [] => (journal_get N c0 n0 t0 o0 (fun zi0 => k (.int .u32 zi0) []))
  | _, _ => none
noncomputable def journal_get_Tw (N : Nat) : Tw where
  runK := journal_get_run N
  eq := by
    intro R args h k
    unfold journal_get_run
    split
    · exact (journal_get_eq ..).symm.trans ((execF_bind ..).trans (congrArg (Option.bind · _) (journal_get_eq ..)))
    · rfl
theorem journal_get_ok (N : Nat) : TwOk Try.prog 33 (journal_get_Tw N) := by
  intro args h res h1 hh0
  have hh : journal_get_run N args h (fun v h1 => some (v, h1)) = some (res, h1) := hh0
  unfold journal_get_run at hh
  split at hh
  · exact execF_sound (T := journal_get_T N) trivial follows ((journal_get_eq ..).trans hh)
  · cases hh
/- gridmarket/journal.Recover$1 -/
noncomputable def journal_Recover_c1B {R : Type} (N : Nat) (r0 : Nat → List AV → Option R)  (c0 : List AV) (n0 : Nat) (t0 : Bool) (o0 : Bool) (nh0_0 : Nat) (h1 : List AV) : Option R :=
  (cond ((!o0) || (plainZ c0)) (cond ((Nat.ble (0 + n0) 140737488355328) && (Nat.ble ((0 + n0) * 1) 140737488355328)) (cond ((Nat.ble (nh0_0 + 1) 140737488355328) && (Nat.ble ((nh0_0 + 1) * 24) 140737488355328)) (r0 (nh0_0 + 1) ((List.take (nh0_0 * 1) h1) ++ [(.imm (List.take ((0 + n0) * 1) c0) (0 + n0) 1 false false)])) none) none) none)
noncomputable def journal_Recover_c1i {R : Type} (N : Nat) (c0 : List AV) (n0 : Nat) (t0 : Bool) (o0 : Bool) (nh0_0 : Nat) (h1 : List AV) (r0 : Nat → List AV → Option R) : Option R := (journal_Recover_c1B N r0 c0 n0 t0 o0 nh0_0 h1)
noncomputable def journal_Recover_c1 {R : Type} := (shut (@journal_Recover_c1i R)).1
theorem journal_Recover_c1_def {R : Type} : @journal_Recover_c1 R = @journal_Recover_c1i R := (shut _).2
noncomputable def journal_Recover_c1_hs : Hints := { H := .leaf, nils := [], modes := [], free := [] }
noncomputable def journal_Recover_c1_T (N : Nat) : List (Nat × Tw) := []
noncomputable def journal_Recover_c1_E (N : Nat) : Env := { P := Try.prog, nt := 8, muts := muts, nils := journal_Recover_c1_hs.nils, free := journal_Recover_c1_hs.free, tbl := journal_Recover_c1_T N }
noncomputable def journal_Recover_c1_fin {R : Type} (N : Nat) (F : AV → Heap → Option R) : St → Option R := afinish (journal_Recover_c1_E N) Try.f28 journal_Recover_c1_hs.modes [100000, 100001] F
noncomputable def journal_Recover_c1_at {R : Type} (N : Nat) (F : AV → Heap → Option R) (p : List Nat) (ks : List (St → Option R)) : Cut R := atC (journal_Recover_c1_E N) [100000, 100001] N p (bodyOf Try.f28) journal_Recover_c1_hs.H (journal_Recover_c1_fin N F) (fun _ _ => none) (journal_Recover_c1_fin N F) ks
theorem journal_Recover_c1_eq {R : Type} (N : Nat) (c0 : List AV) (n0 : Nat) (t0 : Bool) (o0 : Bool) (nh0_0 : Nat) (h1 : List AV) (F : AV → Heap → Option R) : execF Try.prog muts (journal_Recover_c1_T N) journal_Recover_c1_hs N 28 [(.imm c0 n0 1 t0 o0), (.optr 100000 0)] [(100000, ⟨false, false, false, false, 0, [(.own 100001 0 nh0_0)]⟩), (100001, ⟨false, false, true, false, 1, h1⟩)] F = (journal_Recover_c1 N c0 n0 t0 o0 nh0_0 h1 (fun znh0_0 zh1 => F (.tup []) [(100000, ⟨false, false, false, false, 0, [(.own 300000 0 znh0_0)]⟩), (300000, ⟨false, false, true, false, 1, zh1⟩)])) := by
  have h0 : execF Try.prog muts (journal_Recover_c1_T N) journal_Recover_c1_hs N 28 [(.imm c0 n0 1 t0 o0), (.optr 100000 0)] [(100000, ⟨false, false, false, false, 0, [(.own 100001 0 nh0_0)]⟩), (100001, ⟨false, false, true, false, 1, h1⟩)] F = (journal_Recover_c1B N (fun znh0_0 zh1 => F (.tup []) [(100000, ⟨false, false, false, false, 0, [(.own 300000 0 znh0_0)]⟩), (300000, ⟨false, false, true, false, 1, zh1⟩)]) c0 n0 t0 o0 nh0_0 h1) := by kernel_rfl
  rw [journal_Recover_c1_def]
  exact h0
noncomputable def journal_Recover_c1_run {R : Type} (N : Nat) (args : List AV) (h : Heap) (k : AV → Heap → Option R) : Option R :=
  match args, h with
  | [(.imm c0 n0 1 t0 o0), (.optr 100000 0)], [(100000, ⟨false, false, false, false, 0, [(.own 100001 0 nh0_0)]⟩), (100001, ⟨false, false, true, false, 1, h1⟩)] => (journal_Recover_c1 N c0 n0 t0 o0 nh0_0 h1 (fun znh0_0 zh1 => k (.tup []) [(100000, ⟨false, false, false, false, 0, [(.own 300000 0 znh0_0)]⟩), (300000, ⟨false, false, true, false, 1, zh1⟩)]))
  | _, _ => none
noncomputable def journal_Recover_c1_Tw (N : Nat) : Tw where
  runK := journal_Recover_c1_run N
  eq := by
    intro R args h k
    unfold journal_Recover_c1_run
    split
    · exact (journal_Recover_c1_eq ..).symm.trans ((execF_bind ..).trans (congrArg (Option.bind · _) (journal_Recover_c1_eq ..)))
    · rfl
theorem journal_Recover_c1_ok (N : Nat) : TwOk Try.prog 28 (journal_Recover_c1_Tw N) := by
  intro args h res h1 hh0
  have hh : journal_Recover_c1_run N args h (fun v h1 => some (v, h1)) = some (res, h1) := hh0
  unfold journal_Recover_c1_run at hh
  split at hh
  · exact execF_sound (T := journal_Recover_c1_T N) trivial follows ((journal_Recover_c1_eq ..).trans hh)
  · cases hh
/- gridmarket/journal.scan -/
noncomputable def journal_scan_v2_q1B {R : Type} (N : Nat) (k0 : Int → Int → Nat → List AV → List AV → Option R) (r0 : Int → Int → Nat → List AV → Option R) (c0 : List AV) (n0 : Nat) (t0 : Bool) (o0 : Bool) (y2 : Int) (g0_h1 : List AV) (nh0_0 : Nat) (h1 : List AV)   (g1_i4 : Int) (g1_i5 : Int) (g1_c7 : List AV) (g1_n7 : Nat) (g1_nh0_0 : Nat) (g1_h2 : List AV) : Option R :=
  (cond (decide (((g1_n7 : Nat) : Int) < (IntKind.wrap .i64 ((16 : Int) + (IntKind.wrap .i64 y2))))) (r0 g1_i4 g1_i5 g1_nh0_0 g1_h2) (cond ((decide ((0 : Int) ≤ (12 : Int))) && ((decide ((12 : Int) ≤ (IntKind.wrap .i64 ((12 : Int) + (IntKind.wrap .i64 y2))))) && ((decide ((IntKind.wrap .i64 ((12 : Int) + (IntKind.wrap .i64 y2))) ≤ ((g1_n7 : Nat) : Int))) && (decide (((g1_n7 : Nat) : Int) ≤ ((g1_n7 : Nat) : Int)))))) (cond ((decide ((0 : Int) ≤ (IntKind.wrap .i64 ((12 : Int) + (IntKind.wrap .i64 y2))))) && ((decide ((IntKind.wrap .i64 ((12 : Int) + (IntKind.wrap .i64 y2))) ≤ ((g1_n7 : Nat) : Int))) && ((decide (((g1_n7 : Nat) : Int) ≤ ((g1_n7 : Nat) : Int))) && (decide (((g1_n7 : Nat) : Int) ≤ ((g1_n7 : Nat) : Int)))))) (journal_get N (List.take ((g1_n7 - (Int.toNat (IntKind.wrap .i64 ((12 : Int) + (IntKind.wrap .i64 y2))))) * 1) (List.drop ((Int.toNat (IntKind.wrap .i64 ((12 : Int) + (IntKind.wrap .i64 y2)))) * 1) g1_c7)) (g1_n7 - (Int.toNat (IntKind.wrap .i64 ((12 : Int) + (IntKind.wrap .i64 y2))))) false o0 (fun y6 => (journal_checksum N g0_h1 true (List.take (((Int.toNat (IntKind.wrap .i64 ((12 : Int) + (IntKind.wrap .i64 y2)))) - 12) * 1) (List.drop 12 g1_c7)) ((Int.toNat (IntKind.wrap .i64 ((12 : Int) + (IntKind.wrap .i64 y2)))) - 12) false o0 (fun y7 => (cond (y6 != y7) (r0 g1_i4 g1_i5 g1_nh0_0 g1_h2) (journal_Recover_c1 N (List.take (((Int.toNat (IntKind.wrap .i64 ((12 : Int) + (IntKind.wrap .i64 y2)))) - 12) * 1) (List.drop 12 g1_c7)) ((Int.toNat (IntKind.wrap .i64 ((12 : Int) + (IntKind.wrap .i64 y2)))) - 12) false o0 g1_nh0_0 g1_h2 (fun y8 y9 => (k0 (IntKind.wrap .i64 (g1_i4 + (1 : Int))) (IntKind.wrap .i64 (g1_i5 + (IntKind.wrap .i64 ((16 : Int) + (IntKind.wrap .i64 y2))))) y8 g0_h1 y9)))))))) none) none))
noncomputable def journal_scan_v2_q1 {R : Type} (N : Nat) (k0 : Int → Int → Nat → List AV → List AV → Option R) (r0 : Int → Int → Nat → List AV → Option R) (c0 : List AV) (n0 : Nat) (t0 : Bool) (o0 : Bool) (y2 : Int) (g0_h1 : List AV) (nh0_0 : Nat) (h1 : List AV) (g1_i4 : Int) (g1_i5 : Int) (g1_c7 : List AV) (g1_n7 : Nat) (g1_nh0_0 : Nat) (g1_h2 : List AV) : Option R := (journal_scan_v2_q1B N k0 r0 c0 n0 t0 o0 y2 g0_h1 nh0_0 h1 g1_i4 g1_i5 g1_c7 g1_n7 g1_nh0_0 g1_h2)
noncomputable def journal_scan_v2_q0B {R : Type} (N : Nat)  (r0 : Int → Int → Nat → List AV → Option R) (c0 : List AV) (n0 : Nat) (t0 : Bool) (o0 : Bool) (nh0_0 : Nat) (h1 : List AV) (k0 : Int → Int → Nat → List AV → List AV → Option R) (q1 : Int → Int → Int → List AV → Nat → Nat → List AV → Option R) (g0_i4 : Int) (g0_i5 : Int) (g0_nh0_0 : Nat) (g0_h1 : List AV) (g0_h2 : List AV) : Option R :=
  (cond (decide (g0_i4 < (1024 : Int))) (cond ((decide ((0 : Int) ≤ g0_i5)) && ((decide (g0_i5 ≤ ((n0 : Nat) : Int))) && ((decide (((n0 : Nat) : Int) ≤ ((n0 : Nat) : Int))) && (decide (((n0 : Nat) : Int) ≤ ((n0 : Nat) : Int)))))) (cond (decide ((((n0 - (Int.toNat g0_i5)) : Nat) : Int) < (16 : Int))) (r0 g0_i4 g0_i5 g0_nh0_0 g0_h2) (cond ((decide ((0 : Int) ≤ (4 : Int))) && ((decide ((4 : Int) ≤ (((n0 - (Int.toNat g0_i5)) : Nat) : Int))) && ((decide ((((n0 - (Int.toNat g0_i5)) : Nat) : Int) ≤ (((n0 - (Int.toNat g0_i5)) : Nat) : Int))) && (decide ((((n0 - (Int.toNat g0_i5)) : Nat) : Int) ≤ (((n0 - (Int.toNat g0_i5)) : Nat) : Int)))))) (journal_get N (List.take (((n0 - (Int.toNat g0_i5)) - 4) * 1) (List.drop 4 (List.take ((n0 - (Int.toNat g0_i5)) * 1) (List.drop ((Int.toNat g0_i5) * 1) c0)))) ((n0 - (Int.toNat g0_i5)) - 4) false o0 (fun y2 => (journal_get N (List.take ((n0 - (Int.toNat g0_i5)) * 1) (List.drop ((Int.toNat g0_i5) * 1) c0)) (n0 - (Int.toNat g0_i5)) false o0 (fun y3 => (cond ((y3 != (IntKind.wrap .u32 g0_i4)) == false) (cond ((cond false true (decide (y2 > (2097152 : Int)))) == false) (cond ((decide ((0 : Int) ≤ (8 : Int))) && ((decide ((8 : Int) ≤ (((n0 - (Int.toNat g0_i5)) : Nat) : Int))) && ((decide ((((n0 - (Int.toNat g0_i5)) : Nat) : Int) ≤ (((n0 - (Int.toNat g0_i5)) : Nat) : Int))) && (decide ((((n0 - (Int.toNat g0_i5)) : Nat) : Int) ≤ (((n0 - (Int.toNat g0_i5)) : Nat) : Int)))))) (journal_get N (List.take (((n0 - (Int.toNat g0_i5)) - 8) * 1) (List.drop 8 (List.take ((n0 - (Int.toNat g0_i5)) * 1) (List.drop ((Int.toNat g0_i5) * 1) c0)))) ((n0 - (Int.toNat g0_i5)) - 8) false o0 (fun y4 => (cond ((decide ((0 : Int) ≤ (0 : Int))) && ((decide ((0 : Int) ≤ (8 : Int))) && ((decide ((8 : Int) ≤ (((n0 - (Int.toNat g0_i5)) : Nat) : Int))) && (decide ((((n0 - (Int.toNat g0_i5)) : Nat) : Int) ≤ (((n0 - (Int.toNat g0_i5)) : Nat) : Int)))))) (journal_checksum N g0_h1 true (List.take 8 (List.take ((n0 - (Int.toNat g0_i5)) * 1) (List.drop ((Int.toNat g0_i5) * 1) c0))) 8 false o0 (fun y5 => (cond (cond false true (y4 != y5)) (r0 g0_i4 g0_i5 g0_nh0_0 g0_h2) (q1 y2 g0_i4 g0_i5 (List.take ((n0 - (Int.toNat g0_i5)) * 1) (List.drop ((Int.toNat g0_i5) * 1) c0)) (n0 - (Int.toNat g0_i5)) g0_nh0_0 g0_h2)))) none))) none) (r0 g0_i4 g0_i5 g0_nh0_0 g0_h2)) (r0 g0_i4 g0_i5 g0_nh0_0 g0_h2)))))) none)) none) (r0 g0_i4 g0_i5 g0_nh0_0 g0_h2))
noncomputable def journal_scan_v2_q0 {R : Type} (N : Nat)  (r0 : Int → Int → Nat → List AV → Option R) (c0 : List AV) (n0 : Nat) (t0 : Bool) (o0 : Bool) (nh0_0 : Nat) (h1 : List AV) : Nat → Int → Int → Nat → List AV → List AV → Option R
  | 0, _, _, _, _, _ => none
  | n + 1, g0_i4, g0_i5, g0_nh0_0, g0_h1, g0_h2 => (journal_scan_v2_q0B N r0 c0 n0 t0 o0 nh0_0 h1 (journal_scan_v2_q0 N r0 c0 n0 t0 o0 nh0_0 h1 n) (fun y2 g1_i4 g1_i5 g1_c7 g1_n7 g1_nh0_0 g1_h2 => (journal_scan_v2_q1 N (journal_scan_v2_q0 N r0 c0 n0 t0 o0 nh0_0 h1 n) r0 c0 n0 t0 o0 y2 g0_h1 nh0_0 h1 g1_i4 g1_i5 g1_c7 g1_n7 g1_nh0_0 g1_h2)) g0_i4 g0_i5 g0_nh0_0 g0_h1 g0_h2)
noncomputable def journal_scan_v2B {R : Type} (N : Nat) (r0 : Int → Int → Nat → List AV → Option R) (q0 : Int → Int → Nat → List AV → List AV → Option R) (c0 : List AV) (n0 : Nat) (t0 : Bool) (o0 : Bool) (nh0_0 : Nat) (h1 : List AV) : Option R :=
  (journal_table N (fun y1 => (cond ((Nat.beq (List.length y1) 256) && ((Nat.ble 256 256) && (!false))) (q0 (0 : Int) (0 : Int) nh0_0 (setCells (List.replicate 256 (.int .u32 (0 : Int))) 0 y1) h1) none)))
noncomputable def journal_scan_v2i {R : Type} (N : Nat) (c0 : List AV) (n0 : Nat) (t0 : Bool) (o0 : Bool) (nh0_0 : Nat) (h1 : List AV) (r0 : Int → Int → Nat → List AV → Option R) : Option R := (journal_scan_v2B N r0 (fun g0_i4 g0_i5 g0_nh0_0 g0_h1 g0_h2 => (journal_scan_v2_q0 N r0 c0 n0 t0 o0 nh0_0 h1 N g0_i4 g0_i5 g0_nh0_0 g0_h1 g0_h2)) c0 n0 t0 o0 nh0_0 h1)
noncomputable def journal_scan_v2 {R : Type} := (shut (@journal_scan_v2i R)).1
theorem journal_scan_v2_def {R : Type} : @journal_scan_v2 R = @journal_scan_v2i R := (shut _).2
noncomputable def journal_scan_v2_hs : Hints := { H := (.node [] (.node [0, 1, 4, 5] .leaf .leaf) (.node [] (.node [0, 1, 4, 5, 6] .leaf .leaf) (.node [] (.node [4, 5] (.node [0, 1, 4, 5, 6] (.node [] (.node [] (.node [0, 1, 4, 5, 6, 13] .leaf .leaf) (.node [0, 1, 4, 5, 6] .leaf .leaf)) (.node [0, 1, 4, 5, 6] (.node [] (.node [0, 1, 4, 5, 6, 7] .leaf .leaf) (.node [] (.node [] (.node [0, 1, 4, 5, 6, 7, 19] .leaf .leaf) (.node [0, 1, 4, 5, 6, 7] .leaf .leaf)) (.node [] (.node [0, 1, 4, 5, 6, 7, 8] .leaf .leaf) (.join (.node [] (.node [0, 1, 4, 5, 6, 7, 8, 40] .leaf .leaf) (.node [0, 1, 4, 5, 6, 7, 8] .leaf .leaf)) (.node [] (.node [0, 1, 4, 5, 6, 7, 9] .leaf .leaf) (.node [] (.node [] (.node [0, 1, 4, 5, 6, 7, 9, 47] .leaf .leaf) (.node [0, 1, 4, 5, 6, 7, 9] .leaf .leaf)) (.node [] (.node [0, 1, 4, 5, 6, 7, 9, 10] .leaf .leaf) (.node [] (.node [] (.node [0, 1, 4, 5, 6, 9, 10, 59] .leaf .leaf) (.node [0, 1, 4, 5, 6, 9, 10] .leaf .leaf)) (.node [] (.node [0, 1, 4, 5, 6, 9] .leaf .leaf) (.node [] (.node [0, 1, 4, 5, 6, 9] .leaf .leaf) (.node [0, 1, 4, 5, 6] .leaf .leaf))))))))))) .leaf)) .leaf) .leaf) (.node [] (.node [4, 5] .leaf .leaf) .leaf)))), nils := [], modes := [], free := [100001] }
noncomputable def journal_scan_v2_T (N : Nat) : List (Nat × Tw) := [(24, journal_table_Tw N), (33, journal_get_Tw N), (25, journal_checksum_Tw N), (28, journal_Recover_c1_Tw N)]
noncomputable def journal_scan_v2_E (N : Nat) : Env := { P := Try.prog, nt := 71, muts := muts, nils := journal_scan_v2_hs.nils, free := journal_scan_v2_hs.free, tbl := journal_scan_v2_T N }
noncomputable def journal_scan_v2_fin {R : Type} (N : Nat) (F : AV → Heap → Option R) : St → Option R := afinish (journal_scan_v2_E N) Try.f27 journal_scan_v2_hs.modes [100000, 100001] F
noncomputable def journal_scan_v2_at {R : Type} (N : Nat) (F : AV → Heap → Option R) (p : List Nat) (ks : List (St → Option R)) : Cut R := atC (journal_scan_v2_E N) [100000, 100001] N p (bodyOf Try.f27) journal_scan_v2_hs.H (journal_scan_v2_fin N F) (fun _ _ => none) (journal_scan_v2_fin N F) ks
def journal_scan_v2_s1 (c0 : List AV) (n0 : Nat) (t0 : Bool) (o0 : Bool) (y2 : Int) (g0_h1 : List AV) (nh0_0 : Nat) (h1 : List AV) (g1_i4 : Int) (g1_i5 : Int) (g1_c7 : List AV) (g1_n7 : Nat) (g1_nh0_0 : Nat) (g1_h2 : List AV) : St := { s := [(0, (.imm c0 n0 1 t0 o0)), (1, (.fn 28 [(.optr 100000 0)])), (4, (.int .i64 g1_i4)), (5, (.int .i64 g1_i5)), (6, (.optr 300000 0)), (7, (.imm g1_c7 g1_n7 1 t0 o0)), (8, (.int .u32 y2))], h := [(100000, ⟨false, false, false, false, 0, [(.own 300001 0 g1_nh0_0)]⟩), (300000, ⟨false, false, true, false, 0, g0_h1⟩), (300001, ⟨false, false, true, false, 1, g1_h2⟩)] }
def journal_scan_v2_s0 (c0 : List AV) (n0 : Nat) (t0 : Bool) (o0 : Bool) (nh0_0 : Nat) (h1 : List AV) (g0_i4 : Int) (g0_i5 : Int) (g0_nh0_0 : Nat) (g0_h1 : List AV) (g0_h2 : List AV) : St := { s := [(0, (.imm c0 n0 1 t0 o0)), (1, (.fn 28 [(.optr 100000 0)])), (4, (.int .i64 g0_i4)), (5, (.int .i64 g0_i5)), (6, (.optr 300000 0))], h := [(100000, ⟨false, false, false, false, 0, [(.own 300001 0 g0_nh0_0)]⟩), (300000, ⟨false, false, true, false, 0, g0_h1⟩), (300001, ⟨false, false, true, false, 1, g0_h2⟩)] }
theorem journal_scan_v2_q1_eq {R : Type} (N : Nat) (Q0 : St → Option R) (F : AV → Heap → Option R) (c0 : List AV) (n0 : Nat) (t0 : Bool) (o0 : Bool) (y2 : Int) (g0_h1 : List AV) (nh0_0 : Nat) (h1 : List AV) : ∀ (g1_i4 : Int) (g1_i5 : Int) (g1_c7 : List AV) (g1_n7 : Nat) (g1_nh0_0 : Nat) (g1_h2 : List AV), joinIn (journal_scan_v2_E N) [100000, 100001] N (journal_scan_v2_at N F [1, 1, 0, 0, 0, 1, 0, 1, 1, 1, 1] [Q0]) (journal_scan_v2_s1 c0 n0 t0 o0 y2 g0_h1 nh0_0 h1 g1_i4 g1_i5 g1_c7 g1_n7 g1_nh0_0 g1_h2) = (journal_scan_v2_q1 N (fun g0_i4 g0_i5 g0_nh0_0 g0_h1 g0_h2 => Q0 (journal_scan_v2_s0 c0 n0 t0 o0 nh0_0 h1 g0_i4 g0_i5 g0_nh0_0 g0_h1 g0_h2)) (fun zi0_0 zi0_1 znh0_0 zh1 => F (.tup [(.int .i64 zi0_0), (.int .i64 zi0_1)]) [(100000, ⟨false, false, false, false, 0, [(.own 300000 0 znh0_0)]⟩), (300000, ⟨false, false, true, false, 1, zh1⟩)]) c0 n0 t0 o0 y2 g0_h1 nh0_0 h1 g1_i4 g1_i5 g1_c7 g1_n7 g1_nh0_0 g1_h2) := by
  intro g1_i4 g1_i5 g1_c7 g1_n7 g1_nh0_0 g1_h2
  have h0 : joinIn (journal_scan_v2_E N) [100000, 100001] N (journal_scan_v2_at N F [1, 1, 0, 0, 0, 1, 0, 1, 1, 1, 1] [Q0]) (journal_scan_v2_s1 c0 n0 t0 o0 y2 g0_h1 nh0_0 h1 g1_i4 g1_i5 g1_c7 g1_n7 g1_nh0_0 g1_h2) = (journal_scan_v2_q1B N (fun g0_i4 g0_i5 g0_nh0_0 g0_h1 g0_h2 => Q0 (journal_scan_v2_s0 c0 n0 t0 o0 nh0_0 h1 g0_i4 g0_i5 g0_nh0_0 g0_h1 g0_h2)) (fun zi0_0 zi0_1 znh0_0 zh1 => F (.tup [(.int .i64 zi0_0), (.int .i64 zi0_1)]) [(100000, ⟨false, false, false, false, 0, [(.own 300000 0 znh0_0)]⟩), (300000, ⟨false, false, true, false, 1, zh1⟩)]) c0 n0 t0 o0 y2 g0_h1 nh0_0 h1 g1_i4 g1_i5 g1_c7 g1_n7 g1_nh0_0 g1_h2) := by kernel_rfl
  exact h0
theorem journal_scan_v2_q0_eq {R : Type} (N : Nat)  (F : AV → Heap → Option R) (c0 : List AV) (n0 : Nat) (t0 : Bool) (o0 : Bool) (nh0_0 : Nat) (h1 : List AV) : ∀ (n : Nat) (g0_i4 : Int) (g0_i5 : Int) (g0_nh0_0 : Nat) (g0_h1 : List AV) (g0_h2 : List AV), loopAt (journal_scan_v2_E N) [100000, 100001] N (journal_scan_v2_at N F [1, 1, 0, 0] []) n (journal_scan_v2_s0 c0 n0 t0 o0 nh0_0 h1 g0_i4 g0_i5 g0_nh0_0 g0_h1 g0_h2) = (journal_scan_v2_q0 N (fun zi0_0 zi0_1 znh0_0 zh1 => F (.tup [(.int .i64 zi0_0), (.int .i64 zi0_1)]) [(100000, ⟨false, false, false, false, 0, [(.own 300000 0 znh0_0)]⟩), (300000, ⟨false, false, true, false, 1, zh1⟩)]) c0 n0 t0 o0 nh0_0 h1 n g0_i4 g0_i5 g0_nh0_0 g0_h1 g0_h2) := by
  intro n
  induction n with
  | zero => intros; rfl
  | succ n ih =>
    intro g0_i4 g0_i5 g0_nh0_0 g0_h1 g0_h2
    have e0 : (fun g0_i4 g0_i5 g0_nh0_0 g0_h1 g0_h2 => loopAt (journal_scan_v2_E N) [100000, 100001] N (journal_scan_v2_at N F [1, 1, 0, 0] []) n (journal_scan_v2_s0 c0 n0 t0 o0 nh0_0 h1 g0_i4 g0_i5 g0_nh0_0 g0_h1 g0_h2)) = (journal_scan_v2_q0 N (fun zi0_0 zi0_1 znh0_0 zh1 => F (.tup [(.int .i64 zi0_0), (.int .i64 zi0_1)]) [(100000, ⟨false, false, false, false, 0, [(.own 300000 0 znh0_0)]⟩), (300000, ⟨false, false, true, false, 1, zh1⟩)]) c0 n0 t0 o0 nh0_0 h1 n) := by funext g0_i4; funext g0_i5; funext g0_nh0_0; funext g0_h1; funext g0_h2; exact ih g0_i4 g0_i5 g0_nh0_0 g0_h1 g0_h2
    have e1 : (fun y2 g1_i4 g1_i5 g1_c7 g1_n7 g1_nh0_0 g1_h2 => joinAt (journal_scan_v2_E N) [100000, 100001] N (journal_scan_v2_at N F [1, 1, 0, 0, 0, 1, 0, 1, 1, 1, 1] [(loopAt (journal_scan_v2_E N) [100000, 100001] N (journal_scan_v2_at N F [1, 1, 0, 0] []) n)]) (journal_scan_v2_s1 c0 n0 t0 o0 y2 g0_h1 nh0_0 h1 g1_i4 g1_i5 g1_c7 g1_n7 g1_nh0_0 g1_h2)) = (fun y2 g1_i4 g1_i5 g1_c7 g1_n7 g1_nh0_0 g1_h2 => (journal_scan_v2_q1 N (journal_scan_v2_q0 N (fun zi0_0 zi0_1 znh0_0 zh1 => F (.tup [(.int .i64 zi0_0), (.int .i64 zi0_1)]) [(100000, ⟨false, false, false, false, 0, [(.own 300000 0 znh0_0)]⟩), (300000, ⟨false, false, true, false, 1, zh1⟩)]) c0 n0 t0 o0 nh0_0 h1 n) (fun zi0_0 zi0_1 znh0_0 zh1 => F (.tup [(.int .i64 zi0_0), (.int .i64 zi0_1)]) [(100000, ⟨false, false, false, false, 0, [(.own 300000 0 znh0_0)]⟩), (300000, ⟨false, false, true, false, 1, zh1⟩)]) c0 n0 t0 o0 y2 g0_h1 nh0_0 h1 g1_i4 g1_i5 g1_c7 g1_n7 g1_nh0_0 g1_h2)) := by funext y2; funext g1_i4; funext g1_i5; funext g1_c7; funext g1_n7; funext g1_nh0_0; funext g1_h2; exact ((joinAt_eq ..).trans (journal_scan_v2_q1_eq N (loopAt (journal_scan_v2_E N) [100000, 100001] N (journal_scan_v2_at N F [1, 1, 0, 0] []) n) F c0 n0 t0 o0 y2 g0_h1 nh0_0 h1 g1_i4 g1_i5 g1_c7 g1_n7 g1_nh0_0 g1_h2)).trans (by rw [e0])
    have h0 : loopAt (journal_scan_v2_E N) [100000, 100001] N (journal_scan_v2_at N F [1, 1, 0, 0] []) (n + 1) (journal_scan_v2_s0 c0 n0 t0 o0 nh0_0 h1 g0_i4 g0_i5 g0_nh0_0 g0_h1 g0_h2) = (journal_scan_v2_q0B N (fun zi0_0 zi0_1 znh0_0 zh1 => F (.tup [(.int .i64 zi0_0), (.int .i64 zi0_1)]) [(100000, ⟨false, false, false, false, 0, [(.own 300000 0 znh0_0)]⟩), (300000, ⟨false, false, true, false, 1, zh1⟩)]) c0 n0 t0 o0 nh0_0 h1 (fun g0_i4 g0_i5 g0_nh0_0 g0_h1 g0_h2 => loopAt (journal_scan_v2_E N) [100000, 100001] N (journal_scan_v2_at N F [1, 1, 0, 0] []) n (journal_scan_v2_s0 c0 n0 t0 o0 nh0_0 h1 g0_i4 g0_i5 g0_nh0_0 g0_h1 g0_h2)) (fun y2 g1_i4 g1_i5 g1_c7 g1_n7 g1_nh0_0 g1_h2 => joinAt (journal_scan_v2_E N) [100000, 100001] N (journal_scan_v2_at N F [1, 1, 0, 0, 0, 1, 0, 1, 1, 1, 1] [(loopAt (journal_scan_v2_E N) [100000, 100001] N (journal_scan_v2_at N F [1, 1, 0, 0] []) n)]) (journal_scan_v2_s1 c0 n0 t0 o0 y2 g0_h1 nh0_0 h1 g1_i4 g1_i5 g1_c7 g1_n7 g1_nh0_0 g1_h2)) g0_i4 g0_i5 g0_nh0_0 g0_h1 g0_h2) := by kernel_rfl
    exact ((h0).trans (congrArg (fun z => (journal_scan_v2_q0B N (fun zi0_0 zi0_1 znh0_0 zh1 => F (.tup [(.int .i64 zi0_0), (.int .i64 zi0_1)]) [(100000, ⟨false, false, false, false, 0, [(.own 300000 0 znh0_0)]⟩), (300000, ⟨false, false, true, false, 1, zh1⟩)]) c0 n0 t0 o0 nh0_0 h1 z (fun y2 g1_i4 g1_i5 g1_c7 g1_n7 g1_nh0_0 g1_h2 => joinAt (journal_scan_v2_E N) [100000, 100001] N (journal_scan_v2_at N F [1, 1, 0, 0, 0, 1, 0, 1, 1, 1, 1] [(loopAt (journal_scan_v2_E N) [100000, 100001] N (journal_scan_v2_at N F [1, 1, 0, 0] []) n)]) (journal_scan_v2_s1 c0 n0 t0 o0 y2 g0_h1 nh0_0 h1 g1_i4 g1_i5 g1_c7 g1_n7 g1_nh0_0 g1_h2)) g0_i4 g0_i5 g0_nh0_0 g0_h1 g0_h2)) e0)).trans (congrArg (fun z => (journal_scan_v2_q0B N (fun zi0_0 zi0_1 znh0_0 zh1 => F (.tup [(.int .i64 zi0_0), (.int .i64 zi0_1)]) [(100000, ⟨false, false, false, false, 0, [(.own 300000 0 znh0_0)]⟩), (300000, ⟨false, false, true, false, 1, zh1⟩)]) c0 n0 t0 o0 nh0_0 h1 (journal_scan_v2_q0 N (fun zi0_0 zi0_1 znh0_0 zh1 => F (.tup [(.int .i64 zi0_0), (.int .i64 zi0_1)]) [(100000, ⟨false, false, false, false, 0, [(.own 300000 0 znh0_0)]⟩), (300000, ⟨false, false, true, false, 1, zh1⟩)]) c0 n0 t0 o0 nh0_0 h1 n) z g0_i4 g0_i5 g0_nh0_0 g0_h1 g0_h2)) e1)
theorem journal_scan_v2_eq {R : Type} (N : Nat) (c0 : List AV) (n0 : Nat) (t0 : Bool) (o0 : Bool) (nh0_0 : Nat) (h1 : List AV) (F : AV → Heap → Option R) : execF Try.prog muts (journal_scan_v2_T N) journal_scan_v2_hs N 27 [(.imm c0 n0 1 t0 o0), (.fn 28 [(.optr 100000 0)])] [(100000, ⟨false, false, false, false, 0, [(.own 100001 0 nh0_0)]⟩), (100001, ⟨false, false, true, false, 1, h1⟩)] F = (journal_scan_v2 N c0 n0 t0 o0 nh0_0 h1 (fun zi0_0 zi0_1 znh0_0 zh1 => F (.tup [(.int .i64 zi0_0), (.int .i64 zi0_1)]) [(100000, ⟨false, false, false, false, 0, [(.own 300000 0 znh0_0)]⟩), (300000, ⟨false, false, true, false, 1, zh1⟩)])) := by
  have e1 : (fun g0_i4 g0_i5 g0_nh0_0 g0_h1 g0_h2 => loopW (journal_scan_v2_E N) [100000, 100001] N (journal_scan_v2_at N F [1, 1, 0, 0] []) N (journal_scan_v2_s0 c0 n0 t0 o0 nh0_0 h1 g0_i4 g0_i5 g0_nh0_0 g0_h1 g0_h2)) = (fun g0_i4 g0_i5 g0_nh0_0 g0_h1 g0_h2 => (journal_scan_v2_q0 N (fun zi0_0 zi0_1 znh0_0 zh1 => F (.tup [(.int .i64 zi0_0), (.int .i64 zi0_1)]) [(100000, ⟨false, false, false, false, 0, [(.own 300000 0 znh0_0)]⟩), (300000, ⟨false, false, true, false, 1, zh1⟩)]) c0 n0 t0 o0 nh0_0 h1 N g0_i4 g0_i5 g0_nh0_0 g0_h1 g0_h2)) := by funext g0_i4; funext g0_i5; funext g0_nh0_0; funext g0_h1; funext g0_h2; exact (loopW_eq ..).trans (journal_scan_v2_q0_eq N F c0 n0 t0 o0 nh0_0 h1 N g0_i4 g0_i5 g0_nh0_0 g0_h1 g0_h2)
  have h0 : execF Try.prog muts (journal_scan_v2_T N) journal_scan_v2_hs N 27 [(.imm c0 n0 1 t0 o0), (.fn 28 [(.optr 100000 0)])] [(100000, ⟨false, false, false, false, 0, [(.own 100001 0 nh0_0)]⟩), (100001, ⟨false, false, true, false, 1, h1⟩)] F = (journal_scan_v2B N (fun zi0_0 zi0_1 znh0_0 zh1 => F (.tup [(.int .i64 zi0_0), (.int .i64 zi0_1)]) [(100000, ⟨false, false, false, false, 0, [(.own 300000 0 znh0_0)]⟩), (300000, ⟨false, false, true, false, 1, zh1⟩)]) (fun g0_i4 g0_i5 g0_nh0_0 g0_h1 g0_h2 => loopW (journal_scan_v2_E N) [100000, 100001] N (journal_scan_v2_at N F [1, 1, 0, 0] []) N (journal_scan_v2_s0 c0 n0 t0 o0 nh0_0 h1 g0_i4 g0_i5 g0_nh0_0 g0_h1 g0_h2)) c0 n0 t0 o0 nh0_0 h1) := by kernel_rfl
  rw [journal_scan_v2_def]
  exact (h0).trans (congrArg (fun z => (journal_scan_v2B N (fun zi0_0 zi0_1 znh0_0 zh1 => F (.tup [(.int .i64 zi0_0), (.int .i64 zi0_1)]) [(100000, ⟨false, false, false, false, 0, [(.own 300000 0 znh0_0)]⟩), (300000, ⟨false, false, true, false, 1, zh1⟩)]) z c0 n0 t0 o0 nh0_0 h1)) e1)
noncomputable def journal_scan_v2_run {R : Type} (N : Nat) (args : List AV) (h : Heap) (k : AV → Heap → Option R) : Option R :=
  match args, h with
  | [(.imm c0 n0 1 t0 o0), (.fn 28 [(.optr 100000 0)])], [(100000, ⟨false, false, false, false, 0, [(.own 100001 0 nh0_0)]⟩), (100001, ⟨false, false, true, false, 1, h1⟩)] => (journal_scan_v2 N c0 n0 t0 o0 nh0_0 h1 (fun zi0_0 zi0_1 znh0_0 zh1 => k (.tup [(.int .i64 zi0_0), (.int .i64 zi0_1)]) [(100000, ⟨false, false, false, false, 0, [(.own 300000 0 znh0_0)]⟩), (300000, ⟨false, false, true, false, 1, zh1⟩)]))
  | _, _ => none
noncomputable def journal_scan_v2_Tw (N : Nat) : Tw where
  runK := journal_scan_v2_run N
  eq := by
    intro R args h k
    unfold journal_scan_v2_run
    split
    · exact (journal_scan_v2_eq ..).symm.trans ((execF_bind ..).trans (congrArg (Option.bind · _) (journal_scan_v2_eq ..)))
    · rfl
theorem journal_scan_v2_ok (N : Nat) : TwOk Try.prog 27 (journal_scan_v2_Tw N) := by
  intro args h res h1 hh0
  have hh : journal_scan_v2_run N args h (fun v h1 => some (v, h1)) = some (res, h1) := hh0
  unfold journal_scan_v2_run at hh
  split at hh
  · exact execF_sound (T := journal_scan_v2_T N) ⟨journal_table_ok N, journal_get_ok N, journal_checksum_ok N, journal_Recover_c1_ok N, trivial⟩ follows ((journal_scan_v2_eq ..).trans hh)
  · cases hh
/- gridmarket/journal.Recover -/
noncomputable def journal_Recover_v2B {R : Type} (N : Nat) (r0 : List AV → Nat → Int → Option R)  (c0 : List AV) (n0 : Nat) (t0 : Bool) (o0 : Bool) : Option R :=
  (journal_scan_v2 N c0 n0 false o0 0 [] (fun y1 y2 y3 y4 => (r0 (List.take (y3 * 1) y4) y3 y2)))
noncomputable def journal_Recover_v2i {R : Type} (N : Nat) (c0 : List AV) (n0 : Nat) (t0 : Bool) (o0 : Bool) (r0 : List AV → Nat → Int → Option R) : Option R := (journal_Recover_v2B N r0 c0 n0 t0 o0)
noncomputable def journal_Recover_v2 {R : Type} := (shut (@journal_Recover_v2i R)).1
theorem journal_Recover_v2_def {R : Type} : @journal_Recover_v2 R = @journal_Recover_v2i R := (shut _).2
noncomputable def journal_Recover_v2_hs : Hints := { H := (.node [] (.node [0, 2] .leaf .leaf) (.node [] (.node [2, 3] .leaf .leaf) (.node [] (.node [2, 3] .leaf .leaf) .leaf))), nils := [], modes := [(1, 1), (0, 0)], free := [] }
noncomputable def journal_Recover_v2_T (N : Nat) : List (Nat × Tw) := [(27, journal_scan_v2_Tw N)]
noncomputable def journal_Recover_v2_E (N : Nat) : Env := { P := Try.prog, nt := 12, muts := muts, nils := journal_Recover_v2_hs.nils, free := journal_Recover_v2_hs.free, tbl := journal_Recover_v2_T N }
noncomputable def journal_Recover_v2_fin {R : Type} (N : Nat) (F : AV → Heap → Option R) : St → Option R := afinish (journal_Recover_v2_E N) Try.f18 journal_Recover_v2_hs.modes [] F
noncomputable def journal_Recover_v2_at {R : Type} (N : Nat) (F : AV → Heap → Option R) (p : List Nat) (ks : List (St → Option R)) : Cut R := atC (journal_Recover_v2_E N) [] N p (bodyOf Try.f18) journal_Recover_v2_hs.H (journal_Recover_v2_fin N F) (fun _ _ => none) (journal_Recover_v2_fin N F) ks
theorem journal_Recover_v2_eq {R : Type} (N : Nat) (c0 : List AV) (n0 : Nat) (t0 : Bool) (o0 : Bool) (F : AV → Heap → Option R) : execF Try.prog muts (journal_Recover_v2_T N) journal_Recover_v2_hs N 18 [(.imm c0 n0 1 t0 o0)] [] F = (journal_Recover_v2 N c0 n0 t0 o0 (fun zc0_0 zn0_0 zi0_1 => F (.tup [(.imm zc0_0 zn0_0 1 false false), (.int .i64 zi0_1)]) [])) := by
  have h0 : execF Try.prog muts (journal_Recover_v2_T N) journal_Recover_v2_hs N 18 [(.imm c0 n0 1 t0 o0)] [] F = (journal_Recover_v2B N (fun zc0_0 zn0_0 zi0_1 => F (.tup [(.imm zc0_0 zn0_0 1 false false), (.int .i64 zi0_1)]) []) c0 n0 t0 o0) := by kernel_rfl
  rw [journal_Recover_v2_def]
  exact h0
noncomputable def journal_Recover_v2_run {R : Type} (N : Nat) (args : List AV) (h : Heap) (k : AV → Heap → Option R) : Option R :=
  match args, h with
  | [(.imm c0 n0 1 t0 o0)], [] => (journal_Recover_v2 N c0 n0 t0 o0 (fun zc0_0 zn0_0 zi0_1 => k (.tup [(.imm zc0_0 zn0_0 1 false false), (.int .i64 zi0_1)]) []))
  | _, _ => none
noncomputable def journal_Recover_v2_Tw (N : Nat) : Tw where
  runK := journal_Recover_v2_run N
  eq := by
    intro R args h k
    unfold journal_Recover_v2_run
    split
    · exact (journal_Recover_v2_eq ..).symm.trans ((execF_bind ..).trans (congrArg (Option.bind · _) (journal_Recover_v2_eq ..)))
    · rfl
theorem journal_Recover_v2_ok (N : Nat) : TwOk Try.prog 18 (journal_Recover_v2_Tw N) := by
  intro args h res h1 hh0
  have hh : journal_Recover_v2_run N args h (fun v h1 => some (v, h1)) = some (res, h1) := hh0
  unfold journal_Recover_v2_run at hh
  split at hh
  · exact execF_sound (T := journal_Recover_v2_T N) ⟨journal_scan_v2_ok N, trivial⟩ follows ((journal_Recover_v2_eq ..).trans hh)
  · cases hh
/- gridmarket/gridmarketref44.number -/
noncomputable def ref44_numberB {R : Type} (N : Nat) (r0 : Int → Option R)  (c0 : List AV) (n0 : Nat) (t0 : Bool) (o0 : Bool) : Option R :=
  (cond (inIdx (0 : Int) n0) (rdI .u8 c0 fun x1 => (cond (inIdx (1 : Int) n0) (rdI .u8 (List.drop 1 c0) fun x2 => (cond (inIdx (2 : Int) n0) (rdI .u8 (List.drop 2 c0) fun x3 => (cond (inIdx (3 : Int) n0) (rdI .u8 (List.drop 3 c0) fun x4 => (r0 (bitOr .u32 (bitOr .u32 (bitOr .u32 (IntKind.wrap .u32 x1) (IntKind.wrap .u32 ((IntKind.wrap .u32 x2) * 2 ^ 8))) (IntKind.wrap .u32 ((IntKind.wrap .u32 x3) * 2 ^ 16))) (IntKind.wrap .u32 ((IntKind.wrap .u32 x4) * 2 ^ 24))))) none)) none)) none)) none)
noncomputable def ref44_numberi {R : Type} (N : Nat) (c0 : List AV) (n0 : Nat) (t0 : Bool) (o0 : Bool) (r0 : Int → Option R) : Option R := (ref44_numberB N r0 c0 n0 t0 o0)
noncomputable def ref44_number {R : Type} := (shut (@ref44_numberi R)).1
theorem ref44_number_def {R : Type} : @ref44_number R = @ref44_numberi R := (shut _).2
noncomputable def ref44_number_hs : Hints := { H := (.node [] (.node [0] .leaf .leaf) (.node [] (.node [2] .leaf .leaf) .leaf)), nils := [], modes := [], free := [] }
noncomputable def ref44_number_T (N : Nat) : List (Nat × Tw) := []
noncomputable def ref44_number_E (N : Nat) : Env := { P := Try.prog, nt := 25, muts := muts, nils := ref44_number_hs.nils, free := ref44_number_hs.free, tbl := ref44_number_T N }
noncomputable def ref44_number_fin {R : Type} (N : Nat) (F : AV → Heap → Option R) : St → Option R := afinish (ref44_number_E N) Try.f29 ref44_number_hs.modes [] F
noncomputable def ref44_number_at {R : Type} (N : Nat) (F : AV → Heap → Option R) (p : List Nat) (ks : List (St → Option R)) : Cut R := atC (ref44_number_E N) [] N p (bodyOf Try.f29) ref44_number_hs.H (ref44_number_fin N F) (fun _ _ => none) (ref44_number_fin N F) ks
theorem ref44_number_eq {R : Type} (N : Nat) (c0 : List AV) (n0 : Nat) (t0 : Bool) (o0 : Bool) (F : AV → Heap → Option R) : execF Try.prog muts (ref44_number_T N) ref44_number_hs N 29 [(.imm c0 n0 1 t0 o0)] [] F = (ref44_number N c0 n0 t0 o0 (fun zi0 => F (.int .u32 zi0) [])) := by
  have h0 : execF Try.prog muts (ref44_number_T N) ref44_number_hs N 29 [(.imm c0 n0 1 t0 o0)] [] F = (ref44_numberB N (fun zi0 => F (.int .u32 zi0) []) c0 n0 t0 o0) := by kernel_rfl
  rw [ref44_number_def]
  exact h0
noncomputable def ref44_number_run {R : Type} (N : Nat) (args : List AV) (h : Heap) (k : AV → Heap → Option R) : Option R :=
  match args, h with
  | [(.imm c0 n0 1 t0 o0)], [] => (ref44_number N c0 n0 t0 o0 (fun zi0 => k (.int .u32 zi0) []))
  | _, _ => none
noncomputable def ref44_number_Tw (N : Nat) : Tw where
  runK := ref44_number_run N
  eq := by
    intro R args h k
    unfold ref44_number_run
    split
    · exact (ref44_number_eq ..).symm.trans ((execF_bind ..).trans (congrArg (Option.bind · _) (ref44_number_eq ..)))
    · rfl
theorem ref44_number_ok (N : Nat) : TwOk Try.prog 29 (ref44_number_Tw N) := by
  intro args h res h1 hh0
  have hh : ref44_number_run N args h (fun v h1 => some (v, h1)) = some (res, h1) := hh0
  unfold ref44_number_run at hh
  split at hh
  · exact execF_sound (T := ref44_number_T N) trivial follows ((ref44_number_eq ..).trans hh)
  · cases hh
/- gridmarket/gridmarketref44.Recover -/
noncomputable def ref44_Recover_q2B {R : Type} (N : Nat) (k0 : Nat → Int → Int → List AV → Option R) (r0 : List AV → Nat → Int → Option R) (c0 : List AV) (n0 : Nat) (t0 : Bool) (o0 : Bool) (g1_c5 : List AV)   (g2_n2 : Nat) (g2_i3 : Int) (g2_i4 : Int) (g2_n5 : Nat) (g2_i6 : Int) (g2_h0 : List AV) : Option R :=
  (cond ((decide ((0 : Int) ≤ (12 : Int))) && ((decide ((12 : Int) ≤ (IntKind.wrap .i64 ((12 : Int) + g2_i6)))) && ((decide ((IntKind.wrap .i64 ((12 : Int) + g2_i6)) ≤ ((g2_n5 : Nat) : Int))) && (decide (((g2_n5 : Nat) : Int) ≤ ((g2_n5 : Nat) : Int)))))) (cond ((!o0) || (plainZ (List.take (((Int.toNat (IntKind.wrap .i64 ((12 : Int) + g2_i6))) - 12) * 1) (List.drop 12 g1_c5)))) (cond ((Nat.ble (0 + ((Int.toNat (IntKind.wrap .i64 ((12 : Int) + g2_i6))) - 12)) 140737488355328) && (Nat.ble ((0 + ((Int.toNat (IntKind.wrap .i64 ((12 : Int) + g2_i6))) - 12)) * 1) 140737488355328)) (cond ((Nat.ble (g2_n2 + 1) 140737488355328) && (Nat.ble ((g2_n2 + 1) * 24) 140737488355328)) (k0 (g2_n2 + 1) (IntKind.wrap .i64 ((IntKind.wrap .i64 (g2_i3 + (16 : Int))) + g2_i6)) (IntKind.wrap .i64 (g2_i4 + (1 : Int))) ((List.take (g2_n2 * 1) g2_h0) ++ [(.imm (List.take ((0 + ((Int.toNat (IntKind.wrap .i64 ((12 : Int) + g2_i6))) - 12)) * 1) (List.take (((Int.toNat (IntKind.wrap .i64 ((12 : Int) + g2_i6))) - 12) * 1) (List.drop 12 g1_c5))) (0 + ((Int.toNat (IntKind.wrap .i64 ((12 : Int) + g2_i6))) - 12)) 1 false false)])) none) none) none) none)
noncomputable def ref44_Recover_q2 {R : Type} (N : Nat) (k0 : Nat → Int → Int → List AV → Option R) (r0 : List AV → Nat → Int → Option R) (c0 : List AV) (n0 : Nat) (t0 : Bool) (o0 : Bool) (g1_c5 : List AV) (g2_n2 : Nat) (g2_i3 : Int) (g2_i4 : Int) (g2_n5 : Nat) (g2_i6 : Int) (g2_h0 : List AV) : Option R := (ref44_Recover_q2B N k0 r0 c0 n0 t0 o0 g1_c5 g2_n2 g2_i3 g2_i4 g2_n5 g2_i6 g2_h0)
noncomputable def ref44_Recover_q1B {R : Type} (N : Nat) (k0 : Nat → Int → Int → List AV → Option R) (r0 : List AV → Nat → Int → Option R) (c0 : List AV) (n0 : Nat) (t0 : Bool) (o0 : Bool)  (q2 : Nat → Int → Int → Nat → Int → List AV → Option R) (g1_n2 : Nat) (g1_i3 : Int) (g1_i4 : Int) (g1_c5 : List AV) (g1_n5 : Nat) (g1_h0 : List AV) : Option R :=
  (cond ((decide ((0 : Int) ≤ (4 : Int))) && ((decide ((4 : Int) ≤ ((g1_n5 : Nat) : Int))) && ((decide (((g1_n5 : Nat) : Int) ≤ ((g1_n5 : Nat) : Int))) && (decide (((g1_n5 : Nat) : Int) ≤ ((g1_n5 : Nat) : Int)))))) (ref44_number N (List.take ((g1_n5 - 4) * 1) (List.drop 4 g1_c5)) (g1_n5 - 4) false o0 (fun y4 => (cond ((decide ((IntKind.wrap .i64 y4) > (2097152 : Int))) == false) (cond ((cond false true (decide (((g1_n5 : Nat) : Int) < (IntKind.wrap .i64 ((16 : Int) + (IntKind.wrap .i64 y4)))))) == false) (cond ((decide ((0 : Int) ≤ (IntKind.wrap .i64 ((12 : Int) + (IntKind.wrap .i64 y4))))) && ((decide ((IntKind.wrap .i64 ((12 : Int) + (IntKind.wrap .i64 y4))) ≤ ((g1_n5 : Nat) : Int))) && ((decide (((g1_n5 : Nat) : Int) ≤ ((g1_n5 : Nat) : Int))) && (decide (((g1_n5 : Nat) : Int) ≤ ((g1_n5 : Nat) : Int)))))) (ref44_number N (List.take ((g1_n5 - (Int.toNat (IntKind.wrap .i64 ((12 : Int) + (IntKind.wrap .i64 y4))))) * 1) (List.drop ((Int.toNat (IntKind.wrap .i64 ((12 : Int) + (IntKind.wrap .i64 y4)))) * 1) g1_c5)) (g1_n5 - (Int.toNat (IntKind.wrap .i64 ((12 : Int) + (IntKind.wrap .i64 y4))))) false o0 (fun y5 => (cond ((decide ((0 : Int) ≤ (12 : Int))) && ((decide ((12 : Int) ≤ (IntKind.wrap .i64 ((12 : Int) + (IntKind.wrap .i64 y4))))) && ((decide ((IntKind.wrap .i64 ((12 : Int) + (IntKind.wrap .i64 y4))) ≤ ((g1_n5 : Nat) : Int))) && (decide (((g1_n5 : Nat) : Int) ≤ ((g1_n5 : Nat) : Int)))))) (ref44_Checksum N (List.take (((Int.toNat (IntKind.wrap .i64 ((12 : Int) + (IntKind.wrap .i64 y4)))) - 12) * 1) (List.drop 12 g1_c5)) ((Int.toNat (IntKind.wrap .i64 ((12 : Int) + (IntKind.wrap .i64 y4)))) - 12) false o0 (fun y6 => (cond (cond false true (y5 != y6)) (r0 (List.take (g1_n2 * 1) g1_h0) g1_n2 g1_i3) (q2 g1_n2 g1_i3 g1_i4 g1_n5 (IntKind.wrap .i64 y4) g1_h0)))) none))) none) (r0 (List.take (g1_n2 * 1) g1_h0) g1_n2 g1_i3)) (r0 (List.take (g1_n2 * 1) g1_h0) g1_n2 g1_i3)))) none)
noncomputable def ref44_Recover_q1 {R : Type} (N : Nat) (k0 : Nat → Int → Int → List AV → Option R) (r0 : List AV → Nat → Int → Option R) (c0 : List AV) (n0 : Nat) (t0 : Bool) (o0 : Bool) (g1_n2 : Nat) (g1_i3 : Int) (g1_i4 : Int) (g1_c5 : List AV) (g1_n5 : Nat) (g1_h0 : List AV) : Option R := (ref44_Recover_q1B N k0 r0 c0 n0 t0 o0 (fun g2_n2 g2_i3 g2_i4 g2_n5 g2_i6 g2_h0 => (ref44_Recover_q2 N k0 r0 c0 n0 t0 o0 g1_c5 g2_n2 g2_i3 g2_i4 g2_n5 g2_i6 g2_h0)) g1_n2 g1_i3 g1_i4 g1_c5 g1_n5 g1_h0)
noncomputable def ref44_Recover_q0B {R : Type} (N : Nat)  (r0 : List AV → Nat → Int → Option R) (c0 : List AV) (n0 : Nat) (t0 : Bool) (o0 : Bool) (k0 : Nat → Int → Int → List AV → Option R) (q1 : Nat → Int → Int → List AV → Nat → List AV → Option R) (g0_n2 : Nat) (g0_i3 : Int) (g0_i4 : Int) (g0_h0 : List AV) : Option R :=
  (cond (decide (g0_i4 < (1024 : Int))) (cond ((decide ((0 : Int) ≤ g0_i3)) && ((decide (g0_i3 ≤ ((n0 : Nat) : Int))) && ((decide (((n0 : Nat) : Int) ≤ ((n0 : Nat) : Int))) && (decide (((n0 : Nat) : Int) ≤ ((n0 : Nat) : Int)))))) (cond ((decide ((((n0 - (Int.toNat g0_i3)) : Nat) : Int) < (16 : Int))) == false) (ref44_number N (List.take ((n0 - (Int.toNat g0_i3)) * 1) (List.drop ((Int.toNat g0_i3) * 1) c0)) (n0 - (Int.toNat g0_i3)) false o0 (fun y1 => (cond ((cond false true (y1 != (IntKind.wrap .u32 g0_i4))) == false) (cond ((decide ((0 : Int) ≤ (8 : Int))) && ((decide ((8 : Int) ≤ (((n0 - (Int.toNat g0_i3)) : Nat) : Int))) && ((decide ((((n0 - (Int.toNat g0_i3)) : Nat) : Int) ≤ (((n0 - (Int.toNat g0_i3)) : Nat) : Int))) && (decide ((((n0 - (Int.toNat g0_i3)) : Nat) : Int) ≤ (((n0 - (Int.toNat g0_i3)) : Nat) : Int)))))) (ref44_number N (List.take (((n0 - (Int.toNat g0_i3)) - 8) * 1) (List.drop 8 (List.take ((n0 - (Int.toNat g0_i3)) * 1) (List.drop ((Int.toNat g0_i3) * 1) c0)))) ((n0 - (Int.toNat g0_i3)) - 8) false o0 (fun y2 => (cond ((decide ((0 : Int) ≤ (0 : Int))) && ((decide ((0 : Int) ≤ (8 : Int))) && ((decide ((8 : Int) ≤ (((n0 - (Int.toNat g0_i3)) : Nat) : Int))) && (decide ((((n0 - (Int.toNat g0_i3)) : Nat) : Int) ≤ (((n0 - (Int.toNat g0_i3)) : Nat) : Int)))))) (ref44_Checksum N (List.take 8 (List.take ((n0 - (Int.toNat g0_i3)) * 1) (List.drop ((Int.toNat g0_i3) * 1) c0))) 8 false o0 (fun y3 => (cond (cond false true (y2 != y3)) (r0 (List.take (g0_n2 * 1) g0_h0) g0_n2 g0_i3) (q1 g0_n2 g0_i3 g0_i4 (List.take ((n0 - (Int.toNat g0_i3)) * 1) (List.drop ((Int.toNat g0_i3) * 1) c0)) (n0 - (Int.toNat g0_i3)) g0_h0)))) none))) none) (r0 (List.take (g0_n2 * 1) g0_h0) g0_n2 g0_i3)))) (r0 (List.take (g0_n2 * 1) g0_h0) g0_n2 g0_i3)) none) (r0 (List.take (g0_n2 * 1) g0_h0) g0_n2 g0_i3))
noncomputable def ref44_Recover_q0 {R : Type} (N : Nat)  (r0 : List AV → Nat → Int → Option R) (c0 : List AV) (n0 : Nat) (t0 : Bool) (o0 : Bool) : Nat → Nat → Int → Int → List AV → Option R
  | 0, _, _, _, _ => none
  | n + 1, g0_n2, g0_i3, g0_i4, g0_h0 => (ref44_Recover_q0B N r0 c0 n0 t0 o0 (ref44_Recover_q0 N r0 c0 n0 t0 o0 n) (fun g1_n2 g1_i3 g1_i4 g1_c5 g1_n5 g1_h0 => (ref44_Recover_q1 N (ref44_Recover_q0 N r0 c0 n0 t0 o0 n) r0 c0 n0 t0 o0 g1_n2 g1_i3 g1_i4 g1_c5 g1_n5 g1_h0)) g0_n2 g0_i3 g0_i4 g0_h0)
noncomputable def ref44_RecoverB {R : Type} (N : Nat) (r0 : List AV → Nat → Int → Option R) (q0 : Nat → Int → Int → List AV → Option R) (c0 : List AV) (n0 : Nat) (t0 : Bool) (o0 : Bool) : Option R :=
  (q0 0 (0 : Int) (0 : Int) [])
noncomputable def ref44_Recoveri {R : Type} (N : Nat) (c0 : List AV) (n0 : Nat) (t0 : Bool) (o0 : Bool) (r0 : List AV → Nat → Int → Option R) : Option R := (ref44_RecoverB N r0 (fun g0_n2 g0_i3 g0_i4 g0_h0 => (ref44_Recover_q0 N r0 c0 n0 t0 o0 N g0_n2 g0_i3 g0_i4 g0_h0)) c0 n0 t0 o0)
noncomputable def ref44_Recover {R : Type} := (shut (@ref44_Recoveri R)).1
theorem ref44_Recover_def {R : Type} : @ref44_Recover R = @ref44_Recoveri R := (shut _).2
noncomputable def ref44_Recover_hs : Hints := { H := (.node [] (.node [0, 2, 3] .leaf .leaf) (.node [] (.node [] (.node [0, 2, 3, 4] .leaf .leaf) (.node [2, 3] (.node [0, 2, 3, 4] (.node [] (.node [] (.node [0, 2, 3, 4, 8] .leaf .leaf) (.node [0, 2, 3, 4] .leaf .leaf)) (.node [] (.node [0, 2, 3, 4] (.node [] (.node [0, 2, 3, 4, 5] .leaf .leaf) (.join (.node [] (.node [0, 2, 3, 4, 5, 32] .leaf .leaf) (.node [0, 2, 3, 4, 5] (.node [] (.node [2, 3] .leaf .leaf) .leaf) .leaf)) (.node [] (.node [0, 2, 3, 4, 5, 6] .leaf .leaf) (.join (.node [] (.node [0, 2, 3, 4, 5, 6, 60] .leaf .leaf) (.node [0, 2, 3, 4, 5, 6] (.node [] (.node [2, 3] .leaf .leaf) .leaf) .leaf)) (.node [0, 2, 3, 4] .leaf .leaf))))) .leaf) (.node [0, 2, 3, 4] .leaf .leaf))) .leaf) .leaf)) (.node [] (.node [2, 3] .leaf .leaf) .leaf))), nils := [(2, 1)], modes := [(1, 1), (0, 0)], free := [] }
noncomputable def ref44_Recover_T (N : Nat) : List (Nat × Tw) := [(29, ref44_number_Tw N), (12, ref44_Checksum_Tw N)]
noncomputable def ref44_Recover_E (N : Nat) : Env := { P := Try.prog, nt := 78, muts := muts, nils := ref44_Recover_hs.nils, free := ref44_Recover_hs.free, tbl := ref44_Recover_T N }
noncomputable def ref44_Recover_fin {R : Type} (N : Nat) (F : AV → Heap → Option R) : St → Option R := afinish (ref44_Recover_E N) Try.f20 ref44_Recover_hs.modes [] F
noncomputable def ref44_Recover_at {R : Type} (N : Nat) (F : AV → Heap → Option R) (p : List Nat) (ks : List (St → Option R)) : Cut R := atC (ref44_Recover_E N) [] N p (bodyOf Try.f20) ref44_Recover_hs.H (ref44_Recover_fin N F) (fun _ _ => none) (ref44_Recover_fin N F) ks
def ref44_Recover_s2 (c0 : List AV) (n0 : Nat) (t0 : Bool) (o0 : Bool) (g1_c5 : List AV) (g2_n2 : Nat) (g2_i3 : Int) (g2_i4 : Int) (g2_n5 : Nat) (g2_i6 : Int) (g2_h0 : List AV) : St := { s := [(0, (.imm c0 n0 1 t0 o0)), (2, (.own 300000 0 g2_n2)), (3, (.int .i64 g2_i3)), (4, (.int .i64 g2_i4)), (5, (.imm g1_c5 g2_n5 1 t0 o0)), (6, (.int .i64 g2_i6))], h := [(300000, ⟨false, false, true, false, 1, g2_h0⟩)] }
def ref44_Recover_s1 (c0 : List AV) (n0 : Nat) (t0 : Bool) (o0 : Bool) (g1_n2 : Nat) (g1_i3 : Int) (g1_i4 : Int) (g1_c5 : List AV) (g1_n5 : Nat) (g1_h0 : List AV) : St := { s := [(0, (.imm c0 n0 1 t0 o0)), (2, (.own 300000 0 g1_n2)), (3, (.int .i64 g1_i3)), (4, (.int .i64 g1_i4)), (5, (.imm g1_c5 g1_n5 1 t0 o0))], h := [(300000, ⟨false, false, true, false, 1, g1_h0⟩)] }
def ref44_Recover_s0 (c0 : List AV) (n0 : Nat) (t0 : Bool) (o0 : Bool) (g0_n2 : Nat) (g0_i3 : Int) (g0_i4 : Int) (g0_h0 : List AV) : St := { s := [(0, (.imm c0 n0 1 t0 o0)), (2, (.own 300000 0 g0_n2)), (3, (.int .i64 g0_i3)), (4, (.int .i64 g0_i4))], h := [(300000, ⟨false, false, true, false, 1, g0_h0⟩)] }
theorem ref44_Recover_q2_eq {R : Type} (N : Nat) (Q0 : St → Option R) (F : AV → Heap → Option R) (c0 : List AV) (n0 : Nat) (t0 : Bool) (o0 : Bool) (g1_c5 : List AV) : ∀ (g2_n2 : Nat) (g2_i3 : Int) (g2_i4 : Int) (g2_n5 : Nat) (g2_i6 : Int) (g2_h0 : List AV), joinIn (ref44_Recover_E N) [] N (ref44_Recover_at N F [1, 0, 1, 0, 0, 1, 0, 0, 1, 1, 1, 1] [Q0]) (ref44_Recover_s2 c0 n0 t0 o0 g1_c5 g2_n2 g2_i3 g2_i4 g2_n5 g2_i6 g2_h0) = (ref44_Recover_q2 N (fun g0_n2 g0_i3 g0_i4 g0_h0 => Q0 (ref44_Recover_s0 c0 n0 t0 o0 g0_n2 g0_i3 g0_i4 g0_h0)) (fun zc0_0 zn0_0 zi0_1 => F (.tup [(.imm zc0_0 zn0_0 1 false false), (.int .i64 zi0_1)]) []) c0 n0 t0 o0 g1_c5 g2_n2 g2_i3 g2_i4 g2_n5 g2_i6 g2_h0) := by
  intro g2_n2 g2_i3 g2_i4 g2_n5 g2_i6 g2_h0
  have h0 : joinIn (ref44_Recover_E N) [] N (ref44_Recover_at N F [1, 0, 1, 0, 0, 1, 0, 0, 1, 1, 1, 1] [Q0]) (ref44_Recover_s2 c0 n0 t0 o0 g1_c5 g2_n2 g2_i3 g2_i4 g2_n5 g2_i6 g2_h0) = (ref44_Recover_q2B N (fun g0_n2 g0_i3 g0_i4 g0_h0 => Q0 (ref44_Recover_s0 c0 n0 t0 o0 g0_n2 g0_i3 g0_i4 g0_h0)) (fun zc0_0 zn0_0 zi0_1 => F (.tup [(.imm zc0_0 zn0_0 1 false false), (.int .i64 zi0_1)]) []) c0 n0 t0 o0 g1_c5 g2_n2 g2_i3 g2_i4 g2_n5 g2_i6 g2_h0) := by kernel_rfl
  exact h0
theorem ref44_Recover_q1_eq {R : Type} (N : Nat) (Q0 : St → Option R) (F : AV → Heap → Option R) (c0 : List AV) (n0 : Nat) (t0 : Bool) (o0 : Bool) : ∀ (g1_n2 : Nat) (g1_i3 : Int) (g1_i4 : Int) (g1_c5 : List AV) (g1_n5 : Nat) (g1_h0 : List AV), joinIn (ref44_Recover_E N) [] N (ref44_Recover_at N F [1, 0, 1, 0, 0, 1, 0, 0, 1, 1] [Q0]) (ref44_Recover_s1 c0 n0 t0 o0 g1_n2 g1_i3 g1_i4 g1_c5 g1_n5 g1_h0) = (ref44_Recover_q1 N (fun g0_n2 g0_i3 g0_i4 g0_h0 => Q0 (ref44_Recover_s0 c0 n0 t0 o0 g0_n2 g0_i3 g0_i4 g0_h0)) (fun zc0_0 zn0_0 zi0_1 => F (.tup [(.imm zc0_0 zn0_0 1 false false), (.int .i64 zi0_1)]) []) c0 n0 t0 o0 g1_n2 g1_i3 g1_i4 g1_c5 g1_n5 g1_h0) := by
  intro g1_n2 g1_i3 g1_i4 g1_c5 g1_n5 g1_h0
  have e1 : (fun g2_n2 g2_i3 g2_i4 g2_n5 g2_i6 g2_h0 => joinAt (ref44_Recover_E N) [] N (ref44_Recover_at N F [1, 0, 1, 0, 0, 1, 0, 0, 1, 1, 1, 1] [Q0]) (ref44_Recover_s2 c0 n0 t0 o0 g1_c5 g2_n2 g2_i3 g2_i4 g2_n5 g2_i6 g2_h0)) = (fun g2_n2 g2_i3 g2_i4 g2_n5 g2_i6 g2_h0 => (ref44_Recover_q2 N (fun g0_n2 g0_i3 g0_i4 g0_h0 => Q0 (ref44_Recover_s0 c0 n0 t0 o0 g0_n2 g0_i3 g0_i4 g0_h0)) (fun zc0_0 zn0_0 zi0_1 => F (.tup [(.imm zc0_0 zn0_0 1 false false), (.int .i64 zi0_1)]) []) c0 n0 t0 o0 g1_c5 g2_n2 g2_i3 g2_i4 g2_n5 g2_i6 g2_h0)) := by funext g2_n2; funext g2_i3; funext g2_i4; funext g2_n5; funext g2_i6; funext g2_h0; exact (joinAt_eq ..).trans (ref44_Recover_q2_eq N Q0 F c0 n0 t0 o0 g1_c5 g2_n2 g2_i3 g2_i4 g2_n5 g2_i6 g2_h0)
  have h0 : joinIn (ref44_Recover_E N) [] N (ref44_Recover_at N F [1, 0, 1, 0, 0, 1, 0, 0, 1, 1] [Q0]) (ref44_Recover_s1 c0 n0 t0 o0 g1_n2 g1_i3 g1_i4 g1_c5 g1_n5 g1_h0) = (ref44_Recover_q1B N (fun g0_n2 g0_i3 g0_i4 g0_h0 => Q0 (ref44_Recover_s0 c0 n0 t0 o0 g0_n2 g0_i3 g0_i4 g0_h0)) (fun zc0_0 zn0_0 zi0_1 => F (.tup [(.imm zc0_0 zn0_0 1 false false), (.int .i64 zi0_1)]) []) c0 n0 t0 o0 (fun g2_n2 g2_i3 g2_i4 g2_n5 g2_i6 g2_h0 => joinAt (ref44_Recover_E N) [] N (ref44_Recover_at N F [1, 0, 1, 0, 0, 1, 0, 0, 1, 1, 1, 1] [Q0]) (ref44_Recover_s2 c0 n0 t0 o0 g1_c5 g2_n2 g2_i3 g2_i4 g2_n5 g2_i6 g2_h0)) g1_n2 g1_i3 g1_i4 g1_c5 g1_n5 g1_h0) := by kernel_rfl
  exact (h0).trans (congrArg (fun z => (ref44_Recover_q1B N (fun g0_n2 g0_i3 g0_i4 g0_h0 => Q0 (ref44_Recover_s0 c0 n0 t0 o0 g0_n2 g0_i3 g0_i4 g0_h0)) (fun zc0_0 zn0_0 zi0_1 => F (.tup [(.imm zc0_0 zn0_0 1 false false), (.int .i64 zi0_1)]) []) c0 n0 t0 o0 z g1_n2 g1_i3 g1_i4 g1_c5 g1_n5 g1_h0)) e1)
theorem ref44_Recover_q0_eq {R : Type} (N : Nat)  (F : AV → Heap → Option R) (c0 : List AV) (n0 : Nat) (t0 : Bool) (o0 : Bool) : ∀ (n : Nat) (g0_n2 : Nat) (g0_i3 : Int) (g0_i4 : Int) (g0_h0 : List AV), loopAt (ref44_Recover_E N) [] N (ref44_Recover_at N F [1, 0, 1, 0] []) n (ref44_Recover_s0 c0 n0 t0 o0 g0_n2 g0_i3 g0_i4 g0_h0) = (ref44_Recover_q0 N (fun zc0_0 zn0_0 zi0_1 => F (.tup [(.imm zc0_0 zn0_0 1 false false), (.int .i64 zi0_1)]) []) c0 n0 t0 o0 n g0_n2 g0_i3 g0_i4 g0_h0) := by
  intro n
  induction n with
  | zero => intros; rfl
  | succ n ih =>
    intro g0_n2 g0_i3 g0_i4 g0_h0
    have e0 : (fun g0_n2 g0_i3 g0_i4 g0_h0 => loopAt (ref44_Recover_E N) [] N (ref44_Recover_at N F [1, 0, 1, 0] []) n (ref44_Recover_s0 c0 n0 t0 o0 g0_n2 g0_i3 g0_i4 g0_h0)) = (ref44_Recover_q0 N (fun zc0_0 zn0_0 zi0_1 => F (.tup [(.imm zc0_0 zn0_0 1 false false), (.int .i64 zi0_1)]) []) c0 n0 t0 o0 n) := by funext g0_n2; funext g0_i3; funext g0_i4; funext g0_h0; exact ih g0_n2 g0_i3 g0_i4 g0_h0
    have e1 : (fun g1_n2 g1_i3 g1_i4 g1_c5 g1_n5 g1_h0 => joinAt (ref44_Recover_E N) [] N (ref44_Recover_at N F [1, 0, 1, 0, 0, 1, 0, 0, 1, 1] [(loopAt (ref44_Recover_E N) [] N (ref44_Recover_at N F [1, 0, 1, 0] []) n)]) (ref44_Recover_s1 c0 n0 t0 o0 g1_n2 g1_i3 g1_i4 g1_c5 g1_n5 g1_h0)) = (fun g1_n2 g1_i3 g1_i4 g1_c5 g1_n5 g1_h0 => (ref44_Recover_q1 N (ref44_Recover_q0 N (fun zc0_0 zn0_0 zi0_1 => F (.tup [(.imm zc0_0 zn0_0 1 false false), (.int .i64 zi0_1)]) []) c0 n0 t0 o0 n) (fun zc0_0 zn0_0 zi0_1 => F (.tup [(.imm zc0_0 zn0_0 1 false false), (.int .i64 zi0_1)]) []) c0 n0 t0 o0 g1_n2 g1_i3 g1_i4 g1_c5 g1_n5 g1_h0)) := by funext g1_n2; funext g1_i3; funext g1_i4; funext g1_c5; funext g1_n5; funext g1_h0; exact ((joinAt_eq ..).trans (ref44_Recover_q1_eq N (loopAt (ref44_Recover_E N) [] N (ref44_Recover_at N F [1, 0, 1, 0] []) n) F c0 n0 t0 o0 g1_n2 g1_i3 g1_i4 g1_c5 g1_n5 g1_h0)).trans (by rw [e0])
    have h0 : loopAt (ref44_Recover_E N) [] N (ref44_Recover_at N F [1, 0, 1, 0] []) (n + 1) (ref44_Recover_s0 c0 n0 t0 o0 g0_n2 g0_i3 g0_i4 g0_h0) = (ref44_Recover_q0B N (fun zc0_0 zn0_0 zi0_1 => F (.tup [(.imm zc0_0 zn0_0 1 false false), (.int .i64 zi0_1)]) []) c0 n0 t0 o0 (fun g0_n2 g0_i3 g0_i4 g0_h0 => loopAt (ref44_Recover_E N) [] N (ref44_Recover_at N F [1, 0, 1, 0] []) n (ref44_Recover_s0 c0 n0 t0 o0 g0_n2 g0_i3 g0_i4 g0_h0)) (fun g1_n2 g1_i3 g1_i4 g1_c5 g1_n5 g1_h0 => joinAt (ref44_Recover_E N) [] N (ref44_Recover_at N F [1, 0, 1, 0, 0, 1, 0, 0, 1, 1] [(loopAt (ref44_Recover_E N) [] N (ref44_Recover_at N F [1, 0, 1, 0] []) n)]) (ref44_Recover_s1 c0 n0 t0 o0 g1_n2 g1_i3 g1_i4 g1_c5 g1_n5 g1_h0)) g0_n2 g0_i3 g0_i4 g0_h0) := by kernel_rfl
    exact ((h0).trans (congrArg (fun z => (ref44_Recover_q0B N (fun zc0_0 zn0_0 zi0_1 => F (.tup [(.imm zc0_0 zn0_0 1 false false), (.int .i64 zi0_1)]) []) c0 n0 t0 o0 z (fun g1_n2 g1_i3 g1_i4 g1_c5 g1_n5 g1_h0 => joinAt (ref44_Recover_E N) [] N (ref44_Recover_at N F [1, 0, 1, 0, 0, 1, 0, 0, 1, 1] [(loopAt (ref44_Recover_E N) [] N (ref44_Recover_at N F [1, 0, 1, 0] []) n)]) (ref44_Recover_s1 c0 n0 t0 o0 g1_n2 g1_i3 g1_i4 g1_c5 g1_n5 g1_h0)) g0_n2 g0_i3 g0_i4 g0_h0)) e0)).trans (congrArg (fun z => (ref44_Recover_q0B N (fun zc0_0 zn0_0 zi0_1 => F (.tup [(.imm zc0_0 zn0_0 1 false false), (.int .i64 zi0_1)]) []) c0 n0 t0 o0 (ref44_Recover_q0 N (fun zc0_0 zn0_0 zi0_1 => F (.tup [(.imm zc0_0 zn0_0 1 false false), (.int .i64 zi0_1)]) []) c0 n0 t0 o0 n) z g0_n2 g0_i3 g0_i4 g0_h0)) e1)
theorem ref44_Recover_eq {R : Type} (N : Nat) (c0 : List AV) (n0 : Nat) (t0 : Bool) (o0 : Bool) (F : AV → Heap → Option R) : execF Try.prog muts (ref44_Recover_T N) ref44_Recover_hs N 20 [(.imm c0 n0 1 t0 o0)] [] F = (ref44_Recover N c0 n0 t0 o0 (fun zc0_0 zn0_0 zi0_1 => F (.tup [(.imm zc0_0 zn0_0 1 false false), (.int .i64 zi0_1)]) [])) := by
  have e1 : (fun g0_n2 g0_i3 g0_i4 g0_h0 => loopW (ref44_Recover_E N) [] N (ref44_Recover_at N F [1, 0, 1, 0] []) N (ref44_Recover_s0 c0 n0 t0 o0 g0_n2 g0_i3 g0_i4 g0_h0)) = (fun g0_n2 g0_i3 g0_i4 g0_h0 => (ref44_Recover_q0 N (fun zc0_0 zn0_0 zi0_1 => F (.tup [(.imm zc0_0 zn0_0 1 false false), (.int .i64 zi0_1)]) []) c0 n0 t0 o0 N g0_n2 g0_i3 g0_i4 g0_h0)) := by funext g0_n2; funext g0_i3; funext g0_i4; funext g0_h0; exact (loopW_eq ..).trans (ref44_Recover_q0_eq N F c0 n0 t0 o0 N g0_n2 g0_i3 g0_i4 g0_h0)
  have h0 : execF Try.prog muts (ref44_Recover_T N) ref44_Recover_hs N 20 [(.imm c0 n0 1 t0 o0)] [] F = (ref44_RecoverB N (fun zc0_0 zn0_0 zi0_1 => F (.tup [(.imm zc0_0 zn0_0 1 false false), (.int .i64 zi0_1)]) []) (fun g0_n2 g0_i3 g0_i4 g0_h0 => loopW (ref44_Recover_E N) [] N (ref44_Recover_at N F [1, 0, 1, 0] []) N (ref44_Recover_s0 c0 n0 t0 o0 g0_n2 g0_i3 g0_i4 g0_h0)) c0 n0 t0 o0) := by kernel_rfl
  rw [ref44_Recover_def]
  exact (h0).trans (congrArg (fun z => (ref44_RecoverB N (fun zc0_0 zn0_0 zi0_1 => F (.tup [(.imm zc0_0 zn0_0 1 false false), (.int .i64 zi0_1)]) []) z c0 n0 t0 o0)) e1)
noncomputable def ref44_Recover_run {R : Type} (N : Nat) (args : List AV) (h : Heap) (k : AV → Heap → Option R) : Option R :=
  match args, h with
  | [(.imm c0 n0 1 t0 o0)], [] => (ref44_Recover N c0 n0 t0 o0 (fun zc0_0 zn0_0 zi0_1 => k (.tup [(.imm zc0_0 zn0_0 1 false false), (.int .i64 zi0_1)]) []))
  | _, _ => none
noncomputable def ref44_Recover_Tw (N : Nat) : Tw where
  runK := ref44_Recover_run N
  eq := by
    intro R args h k
    unfold ref44_Recover_run
    split
    · exact (ref44_Recover_eq ..).symm.trans ((execF_bind ..).trans (congrArg (Option.bind · _) (ref44_Recover_eq ..)))
    · rfl
theorem ref44_Recover_ok (N : Nat) : TwOk Try.prog 20 (ref44_Recover_Tw N) := by
  intro args h res h1 hh0
  have hh : ref44_Recover_run N args h (fun v h1 => some (v, h1)) = some (res, h1) := hh0
  unfold ref44_Recover_run at hh
  split at hh
  · exact execF_sound (T := ref44_Recover_T N) ⟨ref44_number_ok N, ref44_Checksum_ok N, trivial⟩ follows ((ref44_Recover_eq ..).trans hh)
  · cases hh
/- gridmarket/journal.Append$1 -/
noncomputable def journal_Append_c1B {R : Type} (N : Nat) (r0 : Option R)  (c0 : List AV) (n0 : Nat) (t0 : Bool) (o0 : Bool) : Option R :=
  r0
noncomputable def journal_Append_c1i {R : Type} (N : Nat) (c0 : List AV) (n0 : Nat) (t0 : Bool) (o0 : Bool) (r0 : Option R) : Option R := (journal_Append_c1B N r0 c0 n0 t0 o0)
noncomputable def journal_Append_c1 {R : Type} := (shut (@journal_Append_c1i R)).1
theorem journal_Append_c1_def {R : Type} : @journal_Append_c1 R = @journal_Append_c1i R := (shut _).2
noncomputable def journal_Append_c1_hs : Hints := { H := .leaf, nils := [], modes := [], free := [] }
noncomputable def journal_Append_c1_T (N : Nat) : List (Nat × Tw) := []
noncomputable def journal_Append_c1_E (N : Nat) : Env := { P := Try.prog, nt := 2, muts := muts, nils := journal_Append_c1_hs.nils, free := journal_Append_c1_hs.free, tbl := journal_Append_c1_T N }
noncomputable def journal_Append_c1_fin {R : Type} (N : Nat) (F : AV → Heap → Option R) : St → Option R := afinish (journal_Append_c1_E N) Try.f30 journal_Append_c1_hs.modes [] F
noncomputable def journal_Append_c1_at {R : Type} (N : Nat) (F : AV → Heap → Option R) (p : List Nat) (ks : List (St → Option R)) : Cut R := atC (journal_Append_c1_E N) [] N p (bodyOf Try.f30) journal_Append_c1_hs.H (journal_Append_c1_fin N F) (fun _ _ => none) (journal_Append_c1_fin N F) ks
theorem journal_Append_c1_eq {R : Type} (N : Nat) (c0 : List AV) (n0 : Nat) (t0 : Bool) (o0 : Bool) (F : AV → Heap → Option R) : execF Try.prog muts (journal_Append_c1_T N) journal_Append_c1_hs N 30 [(.imm c0 n0 1 t0 o0)] [] F = (journal_Append_c1 N c0 n0 t0 o0 (F (.tup []) [])) := by
  have h0 : execF Try.prog muts (journal_Append_c1_T N) journal_Append_c1_hs N 30 [(.imm c0 n0 1 t0 o0)] [] F = (journal_Append_c1B N (F (.tup []) []) c0 n0 t0 o0) := by kernel_rfl
  rw [journal_Append_c1_def]
  exact h0
noncomputable def journal_Append_c1_run {R : Type} (N : Nat) (args : List AV) (h : Heap) (k : AV → Heap → Option R) : Option R :=
  match args, h with
  | [(.imm c0 n0 1 t0 o0)], [] => (journal_Append_c1 N c0 n0 t0 o0 (k (.tup []) []))
  | _, _ => none
noncomputable def journal_Append_c1_Tw (N : Nat) : Tw where
  runK := journal_Append_c1_run N
  eq := by
    intro R args h k
    unfold journal_Append_c1_run
    split
    · exact (journal_Append_c1_eq ..).symm.trans ((execF_bind ..).trans (congrArg (Option.bind · _) (journal_Append_c1_eq ..)))
    · rfl
theorem journal_Append_c1_ok (N : Nat) : TwOk Try.prog 30 (journal_Append_c1_Tw N) := by
  intro args h res h1 hh0
  have hh : journal_Append_c1_run N args h (fun v h1 => some (v, h1)) = some (res, h1) := hh0
  unfold journal_Append_c1_run at hh
  split at hh
  · exact execF_sound (T := journal_Append_c1_T N) trivial follows ((journal_Append_c1_eq ..).trans hh)
  · cases hh
/- gridmarket/journal.scan -/
noncomputable def journal_scan_v3_q1B {R : Type} (N : Nat) (k0 : Int → Int → List AV → Option R) (r0 : Int → Int → Option R) (c0 : List AV) (n0 : Nat) (t0 : Bool) (o0 : Bool) (y2 : Int) (g0_h0 : List AV)   (g1_i4 : Int) (g1_i5 : Int) (g1_c7 : List AV) (g1_n7 : Nat) : Option R :=
  (cond (decide (((g1_n7 : Nat) : Int) < (IntKind.wrap .i64 ((16 : Int) + (IntKind.wrap .i64 y2))))) (r0 g1_i4 g1_i5) (cond ((decide ((0 : Int) ≤ (12 : Int))) && ((decide ((12 : Int) ≤ (IntKind.wrap .i64 ((12 : Int) + (IntKind.wrap .i64 y2))))) && ((decide ((IntKind.wrap .i64 ((12 : Int) + (IntKind.wrap .i64 y2))) ≤ ((g1_n7 : Nat) : Int))) && (decide (((g1_n7 : Nat) : Int) ≤ ((g1_n7 : Nat) : Int)))))) (cond ((decide ((0 : Int) ≤ (IntKind.wrap .i64 ((12 : Int) + (IntKind.wrap .i64 y2))))) && ((decide ((IntKind.wrap .i64 ((12 : Int) + (IntKind.wrap .i64 y2))) ≤ ((g1_n7 : Nat) : Int))) && ((decide (((g1_n7 : Nat) : Int) ≤ ((g1_n7 : Nat) : Int))) && (decide (((g1_n7 : Nat) : Int) ≤ ((g1_n7 : Nat) : Int)))))) (journal_get N (List.take ((g1_n7 - (Int.toNat (IntKind.wrap .i64 ((12 : Int) + (IntKind.wrap .i64 y2))))) * 1) (List.drop ((Int.toNat (IntKind.wrap .i64 ((12 : Int) + (IntKind.wrap .i64 y2)))) * 1) g1_c7)) (g1_n7 - (Int.toNat (IntKind.wrap .i64 ((12 : Int) + (IntKind.wrap .i64 y2))))) false o0 (fun y6 => (journal_checksum N g0_h0 true (List.take (((Int.toNat (IntKind.wrap .i64 ((12 : Int) + (IntKind.wrap .i64 y2)))) - 12) * 1) (List.drop 12 g1_c7)) ((Int.toNat (IntKind.wrap .i64 ((12 : Int) + (IntKind.wrap .i64 y2)))) - 12) false o0 (fun y7 => (cond (y6 != y7) (r0 g1_i4 g1_i5) (journal_Append_c1 N (List.take (((Int.toNat (IntKind.wrap .i64 ((12 : Int) + (IntKind.wrap .i64 y2)))) - 12) * 1) (List.drop 12 g1_c7)) ((Int.toNat (IntKind.wrap .i64 ((12 : Int) + (IntKind.wrap .i64 y2)))) - 12) false o0 (k0 (IntKind.wrap .i64 (g1_i4 + (1 : Int))) (IntKind.wrap .i64 (g1_i5 + (IntKind.wrap .i64 ((16 : Int) + (IntKind.wrap .i64 y2))))) g0_h0))))))) none) none))
noncomputable def journal_scan_v3_q1 {R : Type} (N : Nat) (k0 : Int → Int → List AV → Option R) (r0 : Int → Int → Option R) (c0 : List AV) (n0 : Nat) (t0 : Bool) (o0 : Bool) (y2 : Int) (g0_h0 : List AV) (g1_i4 : Int) (g1_i5 : Int) (g1_c7 : List AV) (g1_n7 : Nat) : Option R := (journal_scan_v3_q1B N k0 r0 c0 n0 t0 o0 y2 g0_h0 g1_i4 g1_i5 g1_c7 g1_n7)
noncomputable def journal_scan_v3_q0B {R : Type} (N : Nat)  (r0 : Int → Int → Option R) (c0 : List AV) (n0 : Nat) (t0 : Bool) (o0 : Bool) (k0 : Int → Int → List AV → Option R) (q1 : Int → Int → Int → List AV → Nat → Option R) (g0_i4 : Int) (g0_i5 : Int) (g0_h0 : List AV) : Option R :=
  (cond (decide (g0_i4 < (1024 : Int))) (cond ((decide ((0 : Int) ≤ g0_i5)) && ((decide (g0_i5 ≤ ((n0 : Nat) : Int))) && ((decide (((n0 : Nat) : Int) ≤ ((n0 : Nat) : Int))) && (decide (((n0 : Nat) : Int) ≤ ((n0 : Nat) : Int)))))) (cond (decide ((((n0 - (Int.toNat g0_i5)) : Nat) : Int) < (16 : Int))) (r0 g0_i4 g0_i5) (cond ((decide ((0 : Int) ≤ (4 : Int))) && ((decide ((4 : Int) ≤ (((n0 - (Int.toNat g0_i5)) : Nat) : Int))) && ((decide ((((n0 - (Int.toNat g0_i5)) : Nat) : Int) ≤ (((n0 - (Int.toNat g0_i5)) : Nat) : Int))) && (decide ((((n0 - (Int.toNat g0_i5)) : Nat) : Int) ≤ (((n0 - (Int.toNat g0_i5)) : Nat) : Int)))))) (journal_get N (List.take (((n0 - (Int.toNat g0_i5)) - 4) * 1) (List.drop 4 (List.take ((n0 - (Int.toNat g0_i5)) * 1) (List.drop ((Int.toNat g0_i5) * 1) c0)))) ((n0 - (Int.toNat g0_i5)) - 4) false o0 (fun y2 => (journal_get N (List.take ((n0 - (Int.toNat g0_i5)) * 1) (List.drop ((Int.toNat g0_i5) * 1) c0)) (n0 - (Int.toNat g0_i5)) false o0 (fun y3 => (cond ((y3 != (IntKind.wrap .u32 g0_i4)) == false) (cond ((cond false true (decide (y2 > (2097152 : Int)))) == false) (cond ((decide ((0 : Int) ≤ (8 : Int))) && ((decide ((8 : Int) ≤ (((n0 - (Int.toNat g0_i5)) : Nat) : Int))) && ((decide ((((n0 - (Int.toNat g0_i5)) : Nat) : Int) ≤ (((n0 - (Int.toNat g0_i5)) : Nat) : Int))) && (decide ((((n0 - (Int.toNat g0_i5)) : Nat) : Int) ≤ (((n0 - (Int.toNat g0_i5)) : Nat) : Int)))))) (journal_get N (List.take (((n0 - (Int.toNat g0_i5)) - 8) * 1) (List.drop 8 (List.take ((n0 - (Int.toNat g0_i5)) * 1) (List.drop ((Int.toNat g0_i5) * 1) c0)))) ((n0 - (Int.toNat g0_i5)) - 8) false o0 (fun y4 => (cond ((decide ((0 : Int) ≤ (0 : Int))) && ((decide ((0 : Int) ≤ (8 : Int))) && ((decide ((8 : Int) ≤ (((n0 - (Int.toNat g0_i5)) : Nat) : Int))) && (decide ((((n0 - (Int.toNat g0_i5)) : Nat) : Int) ≤ (((n0 - (Int.toNat g0_i5)) : Nat) : Int)))))) (journal_checksum N g0_h0 true (List.take 8 (List.take ((n0 - (Int.toNat g0_i5)) * 1) (List.drop ((Int.toNat g0_i5) * 1) c0))) 8 false o0 (fun y5 => (cond (cond false true (y4 != y5)) (r0 g0_i4 g0_i5) (q1 y2 g0_i4 g0_i5 (List.take ((n0 - (Int.toNat g0_i5)) * 1) (List.drop ((Int.toNat g0_i5) * 1) c0)) (n0 - (Int.toNat g0_i5)))))) none))) none) (r0 g0_i4 g0_i5)) (r0 g0_i4 g0_i5)))))) none)) none) (r0 g0_i4 g0_i5))
noncomputable def journal_scan_v3_q0 {R : Type} (N : Nat)  (r0 : Int → Int → Option R) (c0 : List AV) (n0 : Nat) (t0 : Bool) (o0 : Bool) : Nat → Int → Int → List AV → Option R
  | 0, _, _, _ => none
  | n + 1, g0_i4, g0_i5, g0_h0 => (journal_scan_v3_q0B N r0 c0 n0 t0 o0 (journal_scan_v3_q0 N r0 c0 n0 t0 o0 n) (fun y2 g1_i4 g1_i5 g1_c7 g1_n7 => (journal_scan_v3_q1 N (journal_scan_v3_q0 N r0 c0 n0 t0 o0 n) r0 c0 n0 t0 o0 y2 g0_h0 g1_i4 g1_i5 g1_c7 g1_n7)) g0_i4 g0_i5 g0_h0)
noncomputable def journal_scan_v3B {R : Type} (N : Nat) (r0 : Int → Int → Option R) (q0 : Int → Int → List AV → Option R) (c0 : List AV) (n0 : Nat) (t0 : Bool) (o0 : Bool) : Option R :=
  (journal_table N (fun y1 => (cond ((Nat.beq (List.length y1) 256) && ((Nat.ble 256 256) && (!false))) (q0 (0 : Int) (0 : Int) (setCells (List.replicate 256 (.int .u32 (0 : Int))) 0 y1)) none)))
noncomputable def journal_scan_v3i {R : Type} (N : Nat) (c0 : List AV) (n0 : Nat) (t0 : Bool) (o0 : Bool) (r0 : Int → Int → Option R) : Option R := (journal_scan_v3B N r0 (fun g0_i4 g0_i5 g0_h0 => (journal_scan_v3_q0 N r0 c0 n0 t0 o0 N g0_i4 g0_i5 g0_h0)) c0 n0 t0 o0)
noncomputable def journal_scan_v3 {R : Type} := (shut (@journal_scan_v3i R)).1
theorem journal_scan_v3_def {R : Type} : @journal_scan_v3 R = @journal_scan_v3i R := (shut _).2
noncomputable def journal_scan_v3_hs : Hints := { H := (.node [] (.node [0, 1, 4, 5] .leaf .leaf) (.node [] (.node [0, 1, 4, 5, 6] .leaf .leaf) (.node [] (.node [4, 5] (.node [0, 1, 4, 5, 6] (.node [] (.node [] (.node [0, 1, 4, 5, 6, 13] .leaf .leaf) (.node [0, 1, 4, 5, 6] .leaf .leaf)) (.node [0, 1, 4, 5, 6] (.node [] (.node [0, 1, 4, 5, 6, 7] .leaf .leaf) (.node [] (.node [] (.node [0, 1, 4, 5, 6, 7, 19] .leaf .leaf) (.node [0, 1, 4, 5, 6, 7] .leaf .leaf)) (.node [] (.node [0, 1, 4, 5, 6, 7, 8] .leaf .leaf) (.join (.node [] (.node [0, 1, 4, 5, 6, 7, 8, 40] .leaf .leaf) (.node [0, 1, 4, 5, 6, 7, 8] .leaf .leaf)) (.node [] (.node [0, 1, 4, 5, 6, 7, 9] .leaf .leaf) (.node [] (.node [] (.node [0, 1, 4, 5, 6, 7, 9, 47] .leaf .leaf) (.node [0, 1, 4, 5, 6, 7, 9] .leaf .leaf)) (.node [] (.node [0, 1, 4, 5, 6, 7, 9, 10] .leaf .leaf) (.node [] (.node [] (.node [0, 1, 4, 5, 6, 9, 10, 59] .leaf .leaf) (.node [0, 1, 4, 5, 6, 9, 10] .leaf .leaf)) (.node [] (.node [0, 1, 4, 5, 6, 9] .leaf .leaf) (.node [] (.node [0, 1, 4, 5, 6, 9] .leaf .leaf) (.node [0, 1, 4, 5, 6] .leaf .leaf))))))))))) .leaf)) .leaf) .leaf) (.node [] (.node [4, 5] .leaf .leaf) .leaf)))), nils := [], modes := [], free := [] }
noncomputable def journal_scan_v3_T (N : Nat) : List (Nat × Tw) := [(24, journal_table_Tw N), (33, journal_get_Tw N), (25, journal_checksum_Tw N), (30, journal_Append_c1_Tw N)]
noncomputable def journal_scan_v3_E (N : Nat) : Env := { P := Try.prog, nt := 71, muts := muts, nils := journal_scan_v3_hs.nils, free := journal_scan_v3_hs.free, tbl := journal_scan_v3_T N }
noncomputable def journal_scan_v3_fin {R : Type} (N : Nat) (F : AV → Heap → Option R) : St → Option R := afinish (journal_scan_v3_E N) Try.f27 journal_scan_v3_hs.modes [] F
noncomputable def journal_scan_v3_at {R : Type} (N : Nat) (F : AV → Heap → Option R) (p : List Nat) (ks : List (St → Option R)) : Cut R := atC (journal_scan_v3_E N) [] N p (bodyOf Try.f27) journal_scan_v3_hs.H (journal_scan_v3_fin N F) (fun _ _ => none) (journal_scan_v3_fin N F) ks
def journal_scan_v3_s1 (c0 : List AV) (n0 : Nat) (t0 : Bool) (o0 : Bool) (y2 : Int) (g0_h0 : List AV) (g1_i4 : Int) (g1_i5 : Int) (g1_c7 : List AV) (g1_n7 : Nat) : St := { s := [(0, (.imm c0 n0 1 t0 o0)), (1, (.fn 30 [])), (4, (.int .i64 g1_i4)), (5, (.int .i64 g1_i5)), (6, (.optr 300000 0)), (7, (.imm g1_c7 g1_n7 1 t0 o0)), (8, (.int .u32 y2))], h := [(300000, ⟨false, false, true, false, 0, g0_h0⟩)] }
def journal_scan_v3_s0 (c0 : List AV) (n0 : Nat) (t0 : Bool) (o0 : Bool) (g0_i4 : Int) (g0_i5 : Int) (g0_h0 : List AV) : St := { s := [(0, (.imm c0 n0 1 t0 o0)), (1, (.fn 30 [])), (4, (.int .i64 g0_i4)), (5, (.int .i64 g0_i5)), (6, (.optr 300000 0))], h := [(300000, ⟨false, false, true, false, 0, g0_h0⟩)] }
theorem journal_scan_v3_q1_eq {R : Type} (N : Nat) (Q0 : St → Option R) (F : AV → Heap → Option R) (c0 : List AV) (n0 : Nat) (t0 : Bool) (o0 : Bool) (y2 : Int) (g0_h0 : List AV) : ∀ (g1_i4 : Int) (g1_i5 : Int) (g1_c7 : List AV) (g1_n7 : Nat), joinIn (journal_scan_v3_E N) [] N (journal_scan_v3_at N F [1, 1, 0, 0, 0, 1, 0, 1, 1, 1, 1] [Q0]) (journal_scan_v3_s1 c0 n0 t0 o0 y2 g0_h0 g1_i4 g1_i5 g1_c7 g1_n7) = (journal_scan_v3_q1 N (fun g0_i4 g0_i5 g0_h0 => Q0 (journal_scan_v3_s0 c0 n0 t0 o0 g0_i4 g0_i5 g0_h0)) (fun zi0_0 zi0_1 => F (.tup [(.int .i64 zi0_0), (.int .i64 zi0_1)]) []) c0 n0 t0 o0 y2 g0_h0 g1_i4 g1_i5 g1_c7 g1_n7) := by
  intro g1_i4 g1_i5 g1_c7 g1_n7
  have h0 : joinIn (journal_scan_v3_E N) [] N (journal_scan_v3_at N F [1, 1, 0, 0, 0, 1, 0, 1, 1, 1, 1] [Q0]) (journal_scan_v3_s1 c0 n0 t0 o0 y2 g0_h0 g1_i4 g1_i5 g1_c7 g1_n7) = (journal_scan_v3_q1B N (fun g0_i4 g0_i5 g0_h0 => Q0 (journal_scan_v3_s0 c0 n0 t0 o0 g0_i4 g0_i5 g0_h0)) (fun zi0_0 zi0_1 => F (.tup [(.int .i64 zi0_0), (.int .i64 zi0_1)]) []) c0 n0 t0 o0 y2 g0_h0 g1_i4 g1_i5 g1_c7 g1_n7) := by kernel_rfl
  exact h0
theorem journal_scan_v3_q0_eq {R : Type} (N : Nat)  (F : AV → Heap → Option R) (c0 : List AV) (n0 : Nat) (t0 : Bool) (o0 : Bool) : ∀ (n : Nat) (g0_i4 : Int) (g0_i5 : Int) (g0_h0 : List AV), loopAt (journal_scan_v3_E N) [] N (journal_scan_v3_at N F [1, 1, 0, 0] []) n (journal_scan_v3_s0 c0 n0 t0 o0 g0_i4 g0_i5 g0_h0) = (journal_scan_v3_q0 N (fun zi0_0 zi0_1 => F (.tup [(.int .i64 zi0_0), (.int .i64 zi0_1)]) []) c0 n0 t0 o0 n g0_i4 g0_i5 g0_h0) := by
  intro n
  induction n with
  | zero => intros; rfl
  | succ n ih =>
    intro g0_i4 g0_i5 g0_h0
    have e0 : (fun g0_i4 g0_i5 g0_h0 => loopAt (journal_scan_v3_E N) [] N (journal_scan_v3_at N F [1, 1, 0, 0] []) n (journal_scan_v3_s0 c0 n0 t0 o0 g0_i4 g0_i5 g0_h0)) = (journal_scan_v3_q0 N (fun zi0_0 zi0_1 => F (.tup [(.int .i64 zi0_0), (.int .i64 zi0_1)]) []) c0 n0 t0 o0 n) := by funext g0_i4; funext g0_i5; funext g0_h0; exact ih g0_i4 g0_i5 g0_h0
    have e1 : (fun y2 g1_i4 g1_i5 g1_c7 g1_n7 => joinAt (journal_scan_v3_E N) [] N (journal_scan_v3_at N F [1, 1, 0, 0, 0, 1, 0, 1, 1, 1, 1] [(loopAt (journal_scan_v3_E N) [] N (journal_scan_v3_at N F [1, 1, 0, 0] []) n)]) (journal_scan_v3_s1 c0 n0 t0 o0 y2 g0_h0 g1_i4 g1_i5 g1_c7 g1_n7)) = (fun y2 g1_i4 g1_i5 g1_c7 g1_n7 => (journal_scan_v3_q1 N (journal_scan_v3_q0 N (fun zi0_0 zi0_1 => F (.tup [(.int .i64 zi0_0), (.int .i64 zi0_1)]) []) c0 n0 t0 o0 n) (fun zi0_0 zi0_1 => F (.tup [(.int .i64 zi0_0), (.int .i64 zi0_1)]) []) c0 n0 t0 o0 y2 g0_h0 g1_i4 g1_i5 g1_c7 g1_n7)) := by funext y2; funext g1_i4; funext g1_i5; funext g1_c7; funext g1_n7; exact ((joinAt_eq ..).trans (journal_scan_v3_q1_eq N (loopAt (journal_scan_v3_E N) [] N (journal_scan_v3_at N F [1, 1, 0, 0] []) n) F c0 n0 t0 o0 y2 g0_h0 g1_i4 g1_i5 g1_c7 g1_n7)).trans (by rw [e0])
    have h0 : loopAt (journal_scan_v3_E N) [] N (journal_scan_v3_at N F [1, 1, 0, 0] []) (n + 1) (journal_scan_v3_s0 c0 n0 t0 o0 g0_i4 g0_i5 g0_h0) = (journal_scan_v3_q0B N (fun zi0_0 zi0_1 => F (.tup [(.int .i64 zi0_0), (.int .i64 zi0_1)]) []) c0 n0 t0 o0 (fun g0_i4 g0_i5 g0_h0 => loopAt (journal_scan_v3_E N) [] N (journal_scan_v3_at N F [1, 1, 0, 0] []) n (journal_scan_v3_s0 c0 n0 t0 o0 g0_i4 g0_i5 g0_h0)) (fun y2 g1_i4 g1_i5 g1_c7 g1_n7 => joinAt (journal_scan_v3_E N) [] N (journal_scan_v3_at N F [1, 1, 0, 0, 0, 1, 0, 1, 1, 1, 1] [(loopAt (journal_scan_v3_E N) [] N (journal_scan_v3_at N F [1, 1, 0, 0] []) n)]) (journal_scan_v3_s1 c0 n0 t0 o0 y2 g0_h0 g1_i4 g1_i5 g1_c7 g1_n7)) g0_i4 g0_i5 g0_h0) := by kernel_rfl
    exact ((h0).trans (congrArg (fun z => (journal_scan_v3_q0B N (fun zi0_0 zi0_1 => F (.tup [(.int .i64 zi0_0), (.int .i64 zi0_1)]) []) c0 n0 t0 o0 z (fun y2 g1_i4 g1_i5 g1_c7 g1_n7 => joinAt (journal_scan_v3_E N) [] N (journal_scan_v3_at N F [1, 1, 0, 0, 0, 1, 0, 1, 1, 1, 1] [(loopAt (journal_scan_v3_E N) [] N (journal_scan_v3_at N F [1, 1, 0, 0] []) n)]) (journal_scan_v3_s1 c0 n0 t0 o0 y2 g0_h0 g1_i4 g1_i5 g1_c7 g1_n7)) g0_i4 g0_i5 g0_h0)) e0)).trans (congrArg (fun z => (journal_scan_v3_q0B N (fun zi0_0 zi0_1 => F (.tup [(.int .i64 zi0_0), (.int .i64 zi0_1)]) []) c0 n0 t0 o0 (journal_scan_v3_q0 N (fun zi0_0 zi0_1 => F (.tup [(.int .i64 zi0_0), (.int .i64 zi0_1)]) []) c0 n0 t0 o0 n) z g0_i4 g0_i5 g0_h0)) e1)
theorem journal_scan_v3_eq {R : Type} (N : Nat) (c0 : List AV) (n0 : Nat) (t0 : Bool) (o0 : Bool) (F : AV → Heap → Option R) : execF Try.prog muts (journal_scan_v3_T N) journal_scan_v3_hs N 27 [(.imm c0 n0 1 t0 o0), (.fn 30 [])] [] F = (journal_scan_v3 N c0 n0 t0 o0 (fun zi0_0 zi0_1 => F (.tup [(.int .i64 zi0_0), (.int .i64 zi0_1)]) [])) := by
  have e1 : (fun g0_i4 g0_i5 g0_h0 => loopW (journal_scan_v3_E N) [] N (journal_scan_v3_at N F [1, 1, 0, 0] []) N (journal_scan_v3_s0 c0 n0 t0 o0 g0_i4 g0_i5 g0_h0)) = (fun g0_i4 g0_i5 g0_h0 => (journal_scan_v3_q0 N (fun zi0_0 zi0_1 => F (.tup [(.int .i64 zi0_0), (.int .i64 zi0_1)]) []) c0 n0 t0 o0 N g0_i4 g0_i5 g0_h0)) := by funext g0_i4; funext g0_i5; funext g0_h0; exact (loopW_eq ..).trans (journal_scan_v3_q0_eq N F c0 n0 t0 o0 N g0_i4 g0_i5 g0_h0)
  have h0 : execF Try.prog muts (journal_scan_v3_T N) journal_scan_v3_hs N 27 [(.imm c0 n0 1 t0 o0), (.fn 30 [])] [] F = (journal_scan_v3B N (fun zi0_0 zi0_1 => F (.tup [(.int .i64 zi0_0), (.int .i64 zi0_1)]) []) (fun g0_i4 g0_i5 g0_h0 => loopW (journal_scan_v3_E N) [] N (journal_scan_v3_at N F [1, 1, 0, 0] []) N (journal_scan_v3_s0 c0 n0 t0 o0 g0_i4 g0_i5 g0_h0)) c0 n0 t0 o0) := by kernel_rfl
  rw [journal_scan_v3_def]
  exact (h0).trans (congrArg (fun z => (journal_scan_v3B N (fun zi0_0 zi0_1 => F (.tup [(.int .i64 zi0_0), (.int .i64 zi0_1)]) []) z c0 n0 t0 o0)) e1)
noncomputable def journal_scan_v3_run {R : Type} (N : Nat) (args : List AV) (h : Heap) (k : AV → Heap → Option R) : Option R :=
  match args, h with
  | [(.imm c0 n0 1 t0 o0), (.fn 30 [])], [] => (journal_scan_v3 N c0 n0 t0 o0 (fun zi0_0 zi0_1 => k (.tup [(.int .i64 zi0_0), (.int .i64 zi0_1)]) []))
  | _, _ => none
noncomputable def journal_scan_v3_Tw (N : Nat) : Tw where
  runK := journal_scan_v3_run N
  eq := by
    intro R args h k
    unfold journal_scan_v3_run
    split
    · exact (journal_scan_v3_eq ..).symm.trans ((execF_bind ..).trans (congrArg (Option.bind · _) (journal_scan_v3_eq ..)))
    · rfl
theorem journal_scan_v3_ok (N : Nat) : TwOk Try.prog 27 (journal_scan_v3_Tw N) := by
  intro args h res h1 hh0
  have hh : journal_scan_v3_run N args h (fun v h1 => some (v, h1)) = some (res, h1) := hh0
  unfold journal_scan_v3_run at hh
  split at hh
  · exact execF_sound (T := journal_scan_v3_T N) ⟨journal_table_ok N, journal_get_ok N, journal_checksum_ok N, journal_Append_c1_ok N, trivial⟩ follows ((journal_scan_v3_eq ..).trans hh)
  · cases hh
/- gridmarket/journal.Append -/
noncomputable def journal_Append_q0B {R : Type} (N : Nat)  (r0 : Nat → Int → List AV → Option R) (c0 : List AV) (n0 : Nat) (t0 : Bool) (o0 : Bool) (c1 : List AV) (n1 : Nat) (t1 : Bool) (o1 : Bool) (y1 : Int) (y2 : Int)    : Option R :=
  (cond ((decide ((0 : Int) ≤ (0 : Int))) && ((decide ((0 : Int) ≤ (IntKind.wrap .i64 ((IntKind.wrap .i64 (y2 + (16 : Int))) + ((n1 : Nat) : Int))))) && ((decide ((IntKind.wrap .i64 ((IntKind.wrap .i64 (y2 + (16 : Int))) + ((n1 : Nat) : Int))) ≤ (140737488355328 : Int))) && (decide (((IntKind.wrap .i64 ((IntKind.wrap .i64 (y2 + (16 : Int))) + ((n1 : Nat) : Int))) * ((1 : Nat) : Int)) ≤ (140737488355328 : Int)))))) (cond ((decide ((0 : Int) ≤ (0 : Int))) && ((decide ((0 : Int) ≤ y2)) && ((decide (y2 ≤ ((n0 : Nat) : Int))) && (decide (((n0 : Nat) : Int) ≤ ((n0 : Nat) : Int)))))) (cond ((!o0) || (plainZ (List.take ((Int.toNat y2) * 1) c0))) (cond ((Nat.ble (0 + (Int.toNat y2)) 140737488355328) && (Nat.ble ((0 + (Int.toNat y2)) * 1) 140737488355328)) (journal_record N (0 + (Int.toNat y2)) y1 c1 n1 false o1 (List.take ((Int.toNat y2) * 1) c0) (fun y3 y4 => (r0 y3 (0 : Int) y4))) none) none) none) none)
noncomputable def journal_Append_q0 {R : Type} (N : Nat)  (r0 : Nat → Int → List AV → Option R) (c0 : List AV) (n0 : Nat) (t0 : Bool) (o0 : Bool) (c1 : List AV) (n1 : Nat) (t1 : Bool) (o1 : Bool) (y1 : Int) (y2 : Int)  : Option R := (journal_Append_q0B N r0 c0 n0 t0 o0 c1 n1 t1 o1 y1 y2)
noncomputable def journal_AppendB {R : Type} (N : Nat) (r0 : Nat → Int → List AV → Option R) (q0 : Int → Int → Option R) (c0 : List AV) (n0 : Nat) (t0 : Bool) (o0 : Bool) (c1 : List AV) (n1 : Nat) (t1 : Bool) (o1 : Bool) : Option R :=
  (cond (decide (((n1 : Nat) : Int) > (2097152 : Int))) (r0 0 (8 : Int) []) (journal_scan_v3 N c0 n0 false o0 (fun y1 y2 => (cond ((y1 == (1024 : Int)) == false) (cond (cond false true (decide ((IntKind.wrap .i64 ((IntKind.wrap .i64 (y2 + (16 : Int))) + ((n1 : Nat) : Int))) > (16777216 : Int)))) (r0 0 (19 : Int) []) (q0 y1 y2)) (r0 0 (19 : Int) [])))))
noncomputable def journal_Appendi {R : Type} (N : Nat) (c0 : List AV) (n0 : Nat) (t0 : Bool) (o0 : Bool) (c1 : List AV) (n1 : Nat) (t1 : Bool) (o1 : Bool) (r0 : Nat → Int → List AV → Option R) : Option R := (journal_AppendB N r0 (fun y1 y2 => (journal_Append_q0 N r0 c0 n0 t0 o0 c1 n1 t1 o1 y1 y2)) c0 n0 t0 o0 c1 n1 t1 o1)
noncomputable def journal_Append {R : Type} := (shut (@journal_Appendi R)).1
theorem journal_Append_def {R : Type} : @journal_Append R = @journal_Appendi R := (shut _).2
noncomputable def journal_Append_hs : Hints := { H := (.node [] (.node [0, 1] .leaf .leaf) (.node [] (.node [] (.node [0, 1, 11] .leaf .leaf) (.node [0, 1] (.node [] (.node [4, 5] .leaf .leaf) .leaf) .leaf)) (.node [] (.node [0, 1, 6, 7] .leaf .leaf) (.join (.node [] (.node [0, 1, 6, 7, 26] .leaf .leaf) (.node [0, 1, 6, 7] (.node [] (.node [4, 5] .leaf .leaf) .leaf) .leaf)) (.node [] (.node [0, 1, 6, 7, 8] .leaf .leaf) (.node [] (.node [1, 6, 8] .leaf .leaf) (.node [] (.node [4, 5] .leaf .leaf) .leaf))))))), nils := [(4, 1)], modes := [(2, 1), (0, 0)], free := [] }
noncomputable def journal_Append_T (N : Nat) : List (Nat × Tw) := [(27, journal_scan_v3_Tw N), (26, journal_record_Tw N)]
noncomputable def journal_Append_E (N : Nat) : Env := { P := Try.prog, nt := 42, muts := muts, nils := journal_Append_hs.nils, free := journal_Append_hs.free, tbl := journal_Append_T N }
noncomputable def journal_Append_fin {R : Type} (N : Nat) (F : AV → Heap → Option R) : St → Option R := afinish (journal_Append_E N) Try.f21 journal_Append_hs.modes [] F
noncomputable def journal_Append_at {R : Type} (N : Nat) (F : AV → Heap → Option R) (p : List Nat) (ks : List (St → Option R)) : Cut R := atC (journal_Append_E N) [] N p (bodyOf Try.f21) journal_Append_hs.H (journal_Append_fin N F) (fun _ _ => none) (journal_Append_fin N F) ks
def journal_Append_s0 (c0 : List AV) (n0 : Nat) (t0 : Bool) (o0 : Bool) (c1 : List AV) (n1 : Nat) (t1 : Bool) (o1 : Bool) (y1 : Int) (y2 : Int) : St := { s := [(0, (.imm c0 n0 1 t0 o0)), (1, (.imm c1 n1 1 t1 o1)), (6, (.int .i64 y1)), (7, (.int .i64 y2))], h := [] }
theorem journal_Append_q0_eq {R : Type} (N : Nat)  (F : AV → Heap → Option R) (c0 : List AV) (n0 : Nat) (t0 : Bool) (o0 : Bool) (c1 : List AV) (n1 : Nat) (t1 : Bool) (o1 : Bool) (y1 : Int) (y2 : Int) : joinIn (journal_Append_E N) [] N (journal_Append_at N F [1, 1, 1, 1] []) (journal_Append_s0 c0 n0 t0 o0 c1 n1 t1 o1 y1 y2) = (journal_Append_q0 N (fun zn0_0 zi0_1 zh0 => F (.tup [(.own 300000 0 zn0_0), (.int .i64 zi0_1)]) [(300000, ⟨false, false, true, false, 1, zh0⟩)]) c0 n0 t0 o0 c1 n1 t1 o1 y1 y2) := by
  have h0 : joinIn (journal_Append_E N) [] N (journal_Append_at N F [1, 1, 1, 1] []) (journal_Append_s0 c0 n0 t0 o0 c1 n1 t1 o1 y1 y2) = (journal_Append_q0B N (fun zn0_0 zi0_1 zh0 => F (.tup [(.own 300000 0 zn0_0), (.int .i64 zi0_1)]) [(300000, ⟨false, false, true, false, 1, zh0⟩)]) c0 n0 t0 o0 c1 n1 t1 o1 y1 y2) := by kernel_rfl
  exact h0
theorem journal_Append_eq {R : Type} (N : Nat) (c0 : List AV) (n0 : Nat) (t0 : Bool) (o0 : Bool) (c1 : List AV) (n1 : Nat) (t1 : Bool) (o1 : Bool) (F : AV → Heap → Option R) : execF Try.prog muts (journal_Append_T N) journal_Append_hs N 21 [(.imm c0 n0 1 t0 o0), (.imm c1 n1 1 t1 o1)] [] F = (journal_Append N c0 n0 t0 o0 c1 n1 t1 o1 (fun zn0_0 zi0_1 zh0 => F (.tup [(.own 300000 0 zn0_0), (.int .i64 zi0_1)]) [(300000, ⟨false, false, true, false, 1, zh0⟩)])) := by
  have e1 : (fun y1 y2 => joinAt (journal_Append_E N) [] N (journal_Append_at N F [1, 1, 1, 1] []) (journal_Append_s0 c0 n0 t0 o0 c1 n1 t1 o1 y1 y2)) = (fun y1 y2 => (journal_Append_q0 N (fun zn0_0 zi0_1 zh0 => F (.tup [(.own 300000 0 zn0_0), (.int .i64 zi0_1)]) [(300000, ⟨false, false, true, false, 1, zh0⟩)]) c0 n0 t0 o0 c1 n1 t1 o1 y1 y2)) := by funext y1; funext y2; exact (joinAt_eq ..).trans (journal_Append_q0_eq N F c0 n0 t0 o0 c1 n1 t1 o1 y1 y2)
  have h0 : execF Try.prog muts (journal_Append_T N) journal_Append_hs N 21 [(.imm c0 n0 1 t0 o0), (.imm c1 n1 1 t1 o1)] [] F = (journal_AppendB N (fun zn0_0 zi0_1 zh0 => F (.tup [(.own 300000 0 zn0_0), (.int .i64 zi0_1)]) [(300000, ⟨false, false, true, false, 1, zh0⟩)]) (fun y1 y2 => joinAt (journal_Append_E N) [] N (journal_Append_at N F [1, 1, 1, 1] []) (journal_Append_s0 c0 n0 t0 o0 c1 n1 t1 o1 y1 y2)) c0 n0 t0 o0 c1 n1 t1 o1) := by kernel_rfl
  rw [journal_Append_def]
  exact (h0).trans (congrArg (fun z => (journal_AppendB N (fun zn0_0 zi0_1 zh0 => F (.tup [(.own 300000 0 zn0_0), (.int .i64 zi0_1)]) [(300000, ⟨false, false, true, false, 1, zh0⟩)]) z c0 n0 t0 o0 c1 n1 t1 o1)) e1)
noncomputable def journal_Append_run {R : Type} (N : Nat) (args : List AV) (h : Heap) (k : AV → Heap → Option R) : Option R :=
  match args, h with
  | [(.imm c0 n0 1 t0 o0), (.imm c1 n1 1 t1 o1)], [] => (journal_Append N c0 n0 t0 o0 c1 n1 t1 o1 (fun zn0_0 zi0_1 zh0 => k (.tup [(.own 300000 0 zn0_0), (.int .i64 zi0_1)]) [(300000, ⟨false, false, true, false, 1, zh0⟩)]))
  | _, _ => none
noncomputable def journal_Append_Tw (N : Nat) : Tw where
  runK := journal_Append_run N
  eq := by
    intro R args h k
    unfold journal_Append_run
    split
    · exact (journal_Append_eq ..).symm.trans ((execF_bind ..).trans (congrArg (Option.bind · _) (journal_Append_eq ..)))
    · rfl
theorem journal_Append_ok (N : Nat) : TwOk Try.prog 21 (journal_Append_Tw N) := by
  intro args h res h1 hh0
  have hh : journal_Append_run N args h (fun v h1 => some (v, h1)) = some (res, h1) := hh0
  unfold journal_Append_run at hh
  split at hh
  · exact execF_sound (T := journal_Append_T N) ⟨journal_scan_v3_ok N, journal_record_ok N, trivial⟩ follows ((journal_Append_eq ..).trans hh)
  · cases hh
/- gridmarket/gridmarketref44.Append -/
noncomputable def ref44_AppendB {R : Type} (N : Nat) (r0 : List AV → Nat → Int → Option R)  (c0 : List AV) (n0 : Nat) (t0 : Bool) (o0 : Bool) (c1 : List AV) (n1 : Nat) (t1 : Bool) (o1 : Bool) : Option R :=
  (cond (decide (((n1 : Nat) : Int) > (2097152 : Int))) (r0 [] 0 (8 : Int)) (ref44_Recover N c0 n0 false o0 (fun y1 y2 y3 => (cond ((decide (((y2 : Nat) : Int) ≥ (1024 : Int))) == false) (cond (cond false true (decide ((IntKind.wrap .i64 ((IntKind.wrap .i64 (y3 + (16 : Int))) + ((n1 : Nat) : Int))) > (16777216 : Int)))) (r0 [] 0 (19 : Int)) (cond ((decide ((0 : Int) ≤ (0 : Int))) && ((decide ((0 : Int) ≤ y3)) && ((decide (y3 ≤ ((n0 : Nat) : Int))) && (decide (((n0 : Nat) : Int) ≤ ((n0 : Nat) : Int)))))) (cond ((!o0) || (plainZ (List.take ((Int.toNat y3) * 1) c0))) (cond ((Nat.ble (0 + (Int.toNat y3)) 140737488355328) && (Nat.ble ((0 + (Int.toNat y3)) * 1) 140737488355328)) (ref44_Record N ((y2 : Nat) : Int) c1 n1 false o1 (fun y4 y5 => (cond ((Nat.ble ((0 + (Int.toNat y3)) + y4) 140737488355328) && (Nat.ble (((0 + (Int.toNat y3)) + y4) * 1) 140737488355328)) (r0 (List.take (((0 + (Int.toNat y3)) + y4) * 1) ((List.take ((0 + (Int.toNat y3)) * 1) (List.take ((Int.toNat y3) * 1) c0)) ++ (List.take (y4 * 1) y5))) ((0 + (Int.toNat y3)) + y4) (0 : Int)) none))) none) none) none)) (r0 [] 0 (19 : Int))))))
noncomputable def ref44_Appendi {R : Type} (N : Nat) (c0 : List AV) (n0 : Nat) (t0 : Bool) (o0 : Bool) (c1 : List AV) (n1 : Nat) (t1 : Bool) (o1 : Bool) (r0 : List AV → Nat → Int → Option R) : Option R := (ref44_AppendB N r0 c0 n0 t0 o0 c1 n1 t1 o1)
noncomputable def ref44_Append {R : Type} := (shut (@ref44_Appendi R)).1
theorem ref44_Append_def {R : Type} : @ref44_Append R = @ref44_Appendi R := (shut _).2
noncomputable def ref44_Append_hs : Hints := { H := (.node [] (.node [0, 1] .leaf .leaf) (.node [] (.node [] (.node [0, 1, 10] .leaf .leaf) (.node [0, 1] (.node [] (.node [4, 5] .leaf .leaf) .leaf) .leaf)) (.node [] (.node [0, 1, 6, 7] .leaf .leaf) (.node [] (.node [] (.node [0, 1, 6, 7, 26] .leaf .leaf) (.node [0, 1, 6, 7] (.node [] (.node [4, 5] .leaf .leaf) .leaf) .leaf)) (.node [] (.node [4, 5] .leaf .leaf) .leaf))))), nils := [(4, 1)], modes := [(1, 1), (0, 0)], free := [] }
noncomputable def ref44_Append_T (N : Nat) : List (Nat × Tw) := [(20, ref44_Recover_Tw N), (23, ref44_Record_Tw N)]
noncomputable def ref44_Append_E (N : Nat) : Env := { P := Try.prog, nt := 37, muts := muts, nils := ref44_Append_hs.nils, free := ref44_Append_hs.free, tbl := ref44_Append_T N }
noncomputable def ref44_Append_fin {R : Type} (N : Nat) (F : AV → Heap → Option R) : St → Option R := afinish (ref44_Append_E N) Try.f22 ref44_Append_hs.modes [] F
noncomputable def ref44_Append_at {R : Type} (N : Nat) (F : AV → Heap → Option R) (p : List Nat) (ks : List (St → Option R)) : Cut R := atC (ref44_Append_E N) [] N p (bodyOf Try.f22) ref44_Append_hs.H (ref44_Append_fin N F) (fun _ _ => none) (ref44_Append_fin N F) ks
theorem ref44_Append_eq {R : Type} (N : Nat) (c0 : List AV) (n0 : Nat) (t0 : Bool) (o0 : Bool) (c1 : List AV) (n1 : Nat) (t1 : Bool) (o1 : Bool) (F : AV → Heap → Option R) : execF Try.prog muts (ref44_Append_T N) ref44_Append_hs N 22 [(.imm c0 n0 1 t0 o0), (.imm c1 n1 1 t1 o1)] [] F = (ref44_Append N c0 n0 t0 o0 c1 n1 t1 o1 (fun zc0_0 zn0_0 zi0_1 => F (.tup [(.imm zc0_0 zn0_0 1 false false), (.int .i64 zi0_1)]) [])) := by
  have h0 : execF Try.prog muts (ref44_Append_T N) ref44_Append_hs N 22 [(.imm c0 n0 1 t0 o0), (.imm c1 n1 1 t1 o1)] [] F = (ref44_AppendB N (fun zc0_0 zn0_0 zi0_1 => F (.tup [(.imm zc0_0 zn0_0 1 false false), (.int .i64 zi0_1)]) []) c0 n0 t0 o0 c1 n1 t1 o1) := by kernel_rfl
  rw [ref44_Append_def]
  exact h0
noncomputable def ref44_Append_run {R : Type} (N : Nat) (args : List AV) (h : Heap) (k : AV → Heap → Option R) : Option R :=
  match args, h with
  | [(.imm c0 n0 1 t0 o0), (.imm c1 n1 1 t1 o1)], [] => (ref44_Append N c0 n0 t0 o0 c1 n1 t1 o1 (fun zc0_0 zn0_0 zi0_1 => k (.tup [(.imm zc0_0 zn0_0 1 false false), (.int .i64 zi0_1)]) []))
  | _, _ => none
noncomputable def ref44_Append_Tw (N : Nat) : Tw where
  runK := ref44_Append_run N
  eq := by
    intro R args h k
    unfold ref44_Append_run
    split
    · exact (ref44_Append_eq ..).symm.trans ((execF_bind ..).trans (congrArg (Option.bind · _) (ref44_Append_eq ..)))
    · rfl
theorem ref44_Append_ok (N : Nat) : TwOk Try.prog 22 (ref44_Append_Tw N) := by
  intro args h res h1 hh0
  have hh : ref44_Append_run N args h (fun v h1 => some (v, h1)) = some (res, h1) := hh0
  unfold ref44_Append_run at hh
  split at hh
  · exact execF_sound (T := ref44_Append_T N) ⟨ref44_Recover_ok N, ref44_Record_ok N, trivial⟩ follows ((ref44_Append_eq ..).trans hh)
  · cases hh
/- gridmarket/gridmarketref44.Same -/
noncomputable def ref44_Same_q0B {R : Type} (N : Nat)  (r0 : Bool → Option R) (c0 : List AV) (n0 : Nat) (t0 : Bool) (o0 : Bool) (c1 : List AV) (n1 : Nat) (t1 : Bool) (o1 : Bool) (k0 : Int → Option R)  (g0_i5 : Int) : Option R :=
  (cond (decide (g0_i5 < ((n0 : Nat) : Int))) (cond (inIdx g0_i5 n0) (rdL 1 (List.drop ((Int.toNat g0_i5) * 1) c0) fun l1 m2 => (Option.bind (asBytes l1) fun s3 => (cond (inIdx g0_i5 n1) (rdL 1 (List.drop ((Int.toNat g0_i5) * 1) c1) fun l4 m5 => (Option.bind (asBytes l4) fun s6 => (cond (!(s3 == s6)) (r0 false) (k0 (IntKind.wrap .i64 (g0_i5 + (1 : Int))))))) none))) none) (r0 true))
noncomputable def ref44_Same_q0 {R : Type} (N : Nat)  (r0 : Bool → Option R) (c0 : List AV) (n0 : Nat) (t0 : Bool) (o0 : Bool) (c1 : List AV) (n1 : Nat) (t1 : Bool) (o1 : Bool) : Nat → Int → Option R
  | 0, _ => none
  | n + 1, g0_i5 => (ref44_Same_q0B N r0 c0 n0 t0 o0 c1 n1 t1 o1 (ref44_Same_q0 N r0 c0 n0 t0 o0 c1 n1 t1 o1 n) g0_i5)
noncomputable def ref44_SameB {R : Type} (N : Nat) (r0 : Bool → Option R) (q0 : Int → Option R) (c0 : List AV) (n0 : Nat) (t0 : Bool) (o0 : Bool) (c1 : List AV) (n1 : Nat) (t1 : Bool) (o1 : Bool) : Option R :=
  (cond (((n0 : Nat) : Int) != ((n1 : Nat) : Int)) (r0 false) (q0 (0 : Int)))
noncomputable def ref44_Samei {R : Type} (N : Nat) (c0 : List AV) (n0 : Nat) (t0 : Bool) (o0 : Bool) (c1 : List AV) (n1 : Nat) (t1 : Bool) (o1 : Bool) (r0 : Bool → Option R) : Option R := (ref44_SameB N r0 (fun g0_i5 => (ref44_Same_q0 N r0 c0 n0 t0 o0 c1 n1 t1 o1 N g0_i5)) c0 n0 t0 o0 c1 n1 t1 o1)
noncomputable def ref44_Same {R : Type} := (shut (@ref44_Samei R)).1
theorem ref44_Same_def {R : Type} : @ref44_Same R = @ref44_Samei R := (shut _).2
noncomputable def ref44_Same_hs : Hints := { H := (.node [] (.node [0, 1] .leaf .leaf) (.node [] (.node [] (.node [0, 1, 10] .leaf .leaf) (.node [0, 1] (.node [] (.node [4] .leaf .leaf) .leaf) .leaf)) (.node [] (.node [] (.node [0, 1, 5] .leaf .leaf) (.node [] (.node [0, 1, 5] (.node [] (.node [] (.node [0, 1, 5, 14] .leaf .leaf) (.node [0, 1, 5] .leaf .leaf)) (.node [] (.node [0, 1, 5] (.node [] (.node [0, 1, 5, 27] .leaf .leaf) (.node [0, 1, 5] (.node [] (.node [4] .leaf .leaf) .leaf) .leaf)) .leaf) (.node [0, 1, 5] .leaf .leaf))) .leaf) .leaf)) (.node [] (.node [4] .leaf .leaf) .leaf)))), nils := [], modes := [], free := [] }
noncomputable def ref44_Same_T (N : Nat) : List (Nat × Tw) := []
noncomputable def ref44_Same_E (N : Nat) : Env := { P := Try.prog, nt := 28, muts := muts, nils := ref44_Same_hs.nils, free := ref44_Same_hs.free, tbl := ref44_Same_T N }
noncomputable def ref44_Same_fin {R : Type} (N : Nat) (F : AV → Heap → Option R) : St → Option R := afinish (ref44_Same_E N) Try.f19 ref44_Same_hs.modes [] F
noncomputable def ref44_Same_at {R : Type} (N : Nat) (F : AV → Heap → Option R) (p : List Nat) (ks : List (St → Option R)) : Cut R := atC (ref44_Same_E N) [] N p (bodyOf Try.f19) ref44_Same_hs.H (ref44_Same_fin N F) (fun _ _ => none) (ref44_Same_fin N F) ks
def ref44_Same_s0 (c0 : List AV) (n0 : Nat) (t0 : Bool) (o0 : Bool) (c1 : List AV) (n1 : Nat) (t1 : Bool) (o1 : Bool) (g0_i5 : Int) : St := { s := [(0, (.imm c0 n0 1 t0 o0)), (1, (.imm c1 n1 1 t1 o1)), (5, (.int .i64 g0_i5))], h := [] }
theorem ref44_Same_q0_eq {R : Type} (N : Nat)  (F : AV → Heap → Option R) (c0 : List AV) (n0 : Nat) (t0 : Bool) (o0 : Bool) (c1 : List AV) (n1 : Nat) (t1 : Bool) (o1 : Bool) : ∀ (n : Nat) (g0_i5 : Int), loopAt (ref44_Same_E N) [] N (ref44_Same_at N F [1, 1, 0, 1, 0] []) n (ref44_Same_s0 c0 n0 t0 o0 c1 n1 t1 o1 g0_i5) = (ref44_Same_q0 N (fun zb0 => F (.bool zb0) []) c0 n0 t0 o0 c1 n1 t1 o1 n g0_i5) := by
  intro n
  induction n with
  | zero => intros; rfl
  | succ n ih =>
    intro g0_i5
    have e0 : (fun g0_i5 => loopAt (ref44_Same_E N) [] N (ref44_Same_at N F [1, 1, 0, 1, 0] []) n (ref44_Same_s0 c0 n0 t0 o0 c1 n1 t1 o1 g0_i5)) = (ref44_Same_q0 N (fun zb0 => F (.bool zb0) []) c0 n0 t0 o0 c1 n1 t1 o1 n) := by funext g0_i5; exact ih g0_i5
    have h0 : loopAt (ref44_Same_E N) [] N (ref44_Same_at N F [1, 1, 0, 1, 0] []) (n + 1) (ref44_Same_s0 c0 n0 t0 o0 c1 n1 t1 o1 g0_i5) = (ref44_Same_q0B N (fun zb0 => F (.bool zb0) []) c0 n0 t0 o0 c1 n1 t1 o1 (fun g0_i5 => loopAt (ref44_Same_E N) [] N (ref44_Same_at N F [1, 1, 0, 1, 0] []) n (ref44_Same_s0 c0 n0 t0 o0 c1 n1 t1 o1 g0_i5)) g0_i5) := by kernel_rfl
    exact (h0).trans (congrArg (fun z => (ref44_Same_q0B N (fun zb0 => F (.bool zb0) []) c0 n0 t0 o0 c1 n1 t1 o1 z g0_i5)) e0)
theorem ref44_Same_eq {R : Type} (N : Nat) (c0 : List AV) (n0 : Nat) (t0 : Bool) (o0 : Bool) (c1 : List AV) (n1 : Nat) (t1 : Bool) (o1 : Bool) (F : AV → Heap → Option R) : execF Try.prog muts (ref44_Same_T N) ref44_Same_hs N 19 [(.imm c0 n0 1 t0 o0), (.imm c1 n1 1 t1 o1)] [] F = (ref44_Same N c0 n0 t0 o0 c1 n1 t1 o1 (fun zb0 => F (.bool zb0) [])) := by
  have e1 : (fun g0_i5 => loopW (ref44_Same_E N) [] N (ref44_Same_at N F [1, 1, 0, 1, 0] []) N (ref44_Same_s0 c0 n0 t0 o0 c1 n1 t1 o1 g0_i5)) = (fun g0_i5 => (ref44_Same_q0 N (fun zb0 => F (.bool zb0) []) c0 n0 t0 o0 c1 n1 t1 o1 N g0_i5)) := by funext g0_i5; exact (loopW_eq ..).trans (ref44_Same_q0_eq N F c0 n0 t0 o0 c1 n1 t1 o1 N g0_i5)
  have h0 : execF Try.prog muts (ref44_Same_T N) ref44_Same_hs N 19 [(.imm c0 n0 1 t0 o0), (.imm c1 n1 1 t1 o1)] [] F = (ref44_SameB N (fun zb0 => F (.bool zb0) []) (fun g0_i5 => loopW (ref44_Same_E N) [] N (ref44_Same_at N F [1, 1, 0, 1, 0] []) N (ref44_Same_s0 c0 n0 t0 o0 c1 n1 t1 o1 g0_i5)) c0 n0 t0 o0 c1 n1 t1 o1) := by kernel_rfl
  rw [ref44_Same_def]
  exact (h0).trans (congrArg (fun z => (ref44_SameB N (fun zb0 => F (.bool zb0) []) z c0 n0 t0 o0 c1 n1 t1 o1)) e1)
noncomputable def ref44_Same_run {R : Type} (N : Nat) (args : List AV) (h : Heap) (k : AV → Heap → Option R) : Option R :=
  match args, h with
  | [(.imm c0 n0 1 t0 o0), (.imm c1 n1 1 t1 o1)], [] => (ref44_Same N c0 n0 t0 o0 c1 n1 t1 o1 (fun zb0 => k (.bool zb0) []))
  | _, _ => none
noncomputable def ref44_Same_Tw (N : Nat) : Tw where
  runK := ref44_Same_run N
  eq := by
    intro R args h k
    unfold ref44_Same_run
    split
    · exact (ref44_Same_eq ..).symm.trans ((execF_bind ..).trans (congrArg (Option.bind · _) (ref44_Same_eq ..)))
    · rfl
theorem ref44_Same_ok (N : Nat) : TwOk Try.prog 19 (ref44_Same_Tw N) := by
  intro args h res h1 hh0
  have hh : ref44_Same_run N args h (fun v h1 => some (v, h1)) = some (res, h1) := hh0
  unfold ref44_Same_run at hh
  split at hh
  · exact execF_sound (T := ref44_Same_T N) trivial follows ((ref44_Same_eq ..).trans hh)
  · cases hh
/- gridmarket/gridmarketlaw44.JournalRecovers -/
noncomputable def law44_JournalRecovers_q2B {R : Type} (N : Nat) (k1 : Nat → Nat → Int → List AV → List AV → Option R) (r0 : Bool → Option R) (c0 : List AV) (n0 : Nat) (t0 : Bool) (o0 : Bool) (c1 : List AV) (n1 : Nat) (t1 : Bool) (o1 : Bool) (c2 : List AV) (n2 : Nat) (t2 : Bool) (o2 : Bool) (c5 : List AV) (n5 : Nat) (t5 : Bool) (o5 : Bool) (g1_n13 : Nat) (g1_n14 : Nat) (g1_h0 : List AV) (g1_h1 : List AV)   (g2_i15 : Int) : Option R :=
  (cond (inIdx g2_i15 n5) (rdI .i64 (List.drop ((Int.toNat g2_i15) * 1) c5) fun x9 => (mk_Mod N x9 ((g1_n14 : Nat) : Int) (fun y10 => (cond (inIdx y10 g1_n14) (rdI .u8 (List.drop (0 + ((Int.toNat y10) * 1)) g1_h1) fun x11 => (cond (inIdx (IntKind.wrap .i64 (g2_i15 + (1 : Int))) n5) (rdI .i64 (List.drop ((Int.toNat (IntKind.wrap .i64 (g2_i15 + (1 : Int)))) * 1) c5) fun x12 => (cond (inIdx y10 g1_n14) (cond ((Nat.beq 1 1) && ((Nat.ble ((0 + ((Int.toNat y10) * 1)) + 1) (List.length g1_h1)) && (!false))) (k1 g1_n13 g1_n14 (IntKind.wrap .i64 (g2_i15 + (2 : Int))) g1_h0 (List.set g1_h1 (0 + ((Int.toNat y10) * 1)) (.int .u8 (bitXor .u8 x11 (IntKind.wrap .u8 x12))))) none) none)) none)) none)))) none)
noncomputable def law44_JournalRecovers_q2 {R : Type} (N : Nat) (k1 : Nat → Nat → Int → List AV → List AV → Option R) (r0 : Bool → Option R) (c0 : List AV) (n0 : Nat) (t0 : Bool) (o0 : Bool) (c1 : List AV) (n1 : Nat) (t1 : Bool) (o1 : Bool) (c2 : List AV) (n2 : Nat) (t2 : Bool) (o2 : Bool) (c5 : List AV) (n5 : Nat) (t5 : Bool) (o5 : Bool) (g1_n13 : Nat) (g1_n14 : Nat) (g1_h0 : List AV) (g1_h1 : List AV) (g2_i15 : Int) : Option R := (law44_JournalRecovers_q2B N k1 r0 c0 n0 t0 o0 c1 n1 t1 o1 c2 n2 t2 o2 c5 n5 t5 o5 g1_n13 g1_n14 g1_h0 g1_h1 g2_i15)
noncomputable def law44_JournalRecovers_q3B {R : Type} (N : Nat)  (r0 : Bool → Option R) (c2 : List AV) (n2 : Nat) (t2 : Bool) (o2 : Bool) (k3 : Int → Bool → List AV → Option R)  (g3_i17 : Int) (g3_w0 : Bool) (g3_h0 : List AV) : Option R :=
  (cond (decide (g3_i17 < (4 : Int))) (cond (inIdx g3_i17 4) (rdL 1 (List.drop (0 + ((Int.toNat g3_i17) * 1)) g3_h0) fun l13 m14 => (journal_Recover_v2 N l13 m14 false g3_w0 (fun y15 y16 y17 => (cond (inIdx g3_i17 4) (rdL 1 (List.drop (0 + ((Int.toNat g3_i17) * 1)) g3_h0) fun l18 m19 => (ref44_Recover N l18 m19 false g3_w0 (fun y20 y21 y22 => (cond (inIdx g3_i17 4) (rdL 1 (List.drop (0 + ((Int.toNat g3_i17) * 1)) g3_h0) fun l23 m24 => (journal_Append N l23 m24 false g3_w0 c2 n2 false o2 (fun y25 y26 y27 => (cond (inIdx g3_i17 4) (rdL 1 (List.drop (0 + ((Int.toNat g3_i17) * 1)) g3_h0) fun l28 m29 => (ref44_Append N l28 m29 false g3_w0 c2 n2 false o2 (fun y30 y31 y32 => (law44_awake N (fun y33 => (cond ((!y33) == false) (cond ((cond false true (y17 != y22)) == false) (ref44_Same N y15 y16 false false y20 y21 false false (fun y34 => (cond ((cond false true (!y34)) == false) (cond ((cond false true (y26 != y32)) == false) (Option.bind (asBytes (List.take (y25 * 1) y27)) fun s35 => (Option.bind (asBytes y30) fun s36 => (cond (cond false true (!(s35 == s36))) (r0 false) (k3 (IntKind.wrap .i64 (g3_i17 + (1 : Int))) g3_w0 g3_h0)))) (r0 false)) (r0 false)))) (r0 false)) (r0 false))))))) none)))) none)))) none)))) none) (r0 true))
noncomputable def law44_JournalRecovers_q3 {R : Type} (N : Nat)  (r0 : Bool → Option R) (c2 : List AV) (n2 : Nat) (t2 : Bool) (o2 : Bool) : Nat → Int → Bool → List AV → Option R
  | 0, _, _, _ => none
  | n + 1, g3_i17, g3_w0, g3_h0 => (law44_JournalRecovers_q3B N r0 c2 n2 t2 o2 (law44_JournalRecovers_q3 N r0 c2 n2 t2 o2 n) g3_i17 g3_w0 g3_h0)
noncomputable def law44_JournalRecovers_q1B {R : Type} (N : Nat)  (r0 : Bool → Option R) (c0 : List AV) (n0 : Nat) (t0 : Bool) (o0 : Bool) (c1 : List AV) (n1 : Nat) (t1 : Bool) (o1 : Bool) (c2 : List AV) (n2 : Nat) (t2 : Bool) (o2 : Bool) (c5 : List AV) (n5 : Nat) (t5 : Bool) (o5 : Bool) (k1 : Nat → Nat → Int → List AV → List AV → Option R) (q2 : Int → Option R) (q3 : Int → Bool → List AV → Option R) (g1_n13 : Nat) (g1_n14 : Nat) (g1_i15 : Int) (g1_h0 : List AV) (g1_h1 : List AV) : Option R :=
  (cond ((decide ((IntKind.wrap .i64 (g1_i15 + (1 : Int))) < ((n5 : Nat) : Int))) == true) (cond (cond true (decide (((g1_n14 : Nat) : Int) > (0 : Int))) false) (q2 g1_i15) (law44_disk N c0 n0 false o0 (fun y5 y6 => (q3 (0 : Int) ((o1 || false) || false) [(.imm c1 n1 1 t1 o1), (.imm (List.take (g1_n13 * 1) g1_h0) g1_n13 1 false false), (.imm (List.take (g1_n14 * 1) g1_h1) g1_n14 1 false false), (.imm (List.take (y5 * 1) y6) y5 1 false false)])))) (law44_disk N c0 n0 false o0 (fun y7 y8 => (q3 (0 : Int) ((o1 || false) || false) [(.imm c1 n1 1 t1 o1), (.imm (List.take (g1_n13 * 1) g1_h0) g1_n13 1 false false), (.imm (List.take (g1_n14 * 1) g1_h1) g1_n14 1 false false), (.imm (List.take (y7 * 1) y8) y7 1 false false)]))))
noncomputable def law44_JournalRecovers_q1 {R : Type} (N : Nat)  (r0 : Bool → Option R) (c0 : List AV) (n0 : Nat) (t0 : Bool) (o0 : Bool) (c1 : List AV) (n1 : Nat) (t1 : Bool) (o1 : Bool) (c2 : List AV) (n2 : Nat) (t2 : Bool) (o2 : Bool) (c5 : List AV) (n5 : Nat) (t5 : Bool) (o5 : Bool) : Nat → Nat → Nat → Int → List AV → List AV → Option R
  | 0, _, _, _, _, _ => none
  | n + 1, g1_n13, g1_n14, g1_i15, g1_h0, g1_h1 => (law44_JournalRecovers_q1B N r0 c0 n0 t0 o0 c1 n1 t1 o1 c2 n2 t2 o2 c5 n5 t5 o5 (law44_JournalRecovers_q1 N r0 c0 n0 t0 o0 c1 n1 t1 o1 c2 n2 t2 o2 c5 n5 t5 o5 n) (fun g2_i15 => (law44_JournalRecovers_q2 N (law44_JournalRecovers_q1 N r0 c0 n0 t0 o0 c1 n1 t1 o1 c2 n2 t2 o2 c5 n5 t5 o5 n) r0 c0 n0 t0 o0 c1 n1 t1 o1 c2 n2 t2 o2 c5 n5 t5 o5 g1_n13 g1_n14 g1_h0 g1_h1 g2_i15)) (fun g3_i17 g3_w0 g3_h0 => (law44_JournalRecovers_q3 N r0 c2 n2 t2 o2 N g3_i17 g3_w0 g3_h0)) g1_n13 g1_n14 g1_i15 g1_h0 g1_h1)
noncomputable def law44_JournalRecovers_q0B {R : Type} (N : Nat)  (r0 : Bool → Option R) (c0 : List AV) (n0 : Nat) (t0 : Bool) (o0 : Bool) (c1 : List AV) (n1 : Nat) (t1 : Bool) (o1 : Bool) (c2 : List AV) (n2 : Nat) (t2 : Bool) (o2 : Bool) (c3 : List AV) (n3 : Nat) (t3 : Bool) (o3 : Bool) (i4 : Int) (c5 : List AV) (n5 : Nat) (t5 : Bool) (o5 : Bool)  (q1 : Nat → Nat → Int → List AV → List AV → Option R)  : Option R :=
  (law44_disk N c0 n0 false o0 (fun y2 y3 => (mk_Mod N i4 (IntKind.wrap .i64 (((y2 : Nat) : Int) + (1 : Int))) (fun y4 => (cond ((decide ((0 : Int) ≤ (0 : Int))) && ((decide ((0 : Int) ≤ y4)) && ((decide (y4 ≤ ((y2 : Nat) : Int))) && (decide (((y2 : Nat) : Int) ≤ ((y2 : Nat) : Int)))))) (cond ((!o3) || (plainZ c3)) (cond ((Nat.ble ((Int.toNat y4) + n3) 140737488355328) && (Nat.ble (((Int.toNat y4) + n3) * 1) 140737488355328)) (cond ((Nat.ble (0 + ((Int.toNat y4) + n3)) 140737488355328) && (Nat.ble ((0 + ((Int.toNat y4) + n3)) * 1) 140737488355328)) (q1 ((Int.toNat y4) + n3) (0 + ((Int.toNat y4) + n3)) (0 : Int) ((List.take ((Int.toNat y4) * 1) y3) ++ c3) (List.take (((Int.toNat y4) + n3) * 1) ((List.take ((Int.toNat y4) * 1) y3) ++ c3))) none) none) none) none)))))
noncomputable def law44_JournalRecovers_q0 {R : Type} (N : Nat)  (r0 : Bool → Option R) (c0 : List AV) (n0 : Nat) (t0 : Bool) (o0 : Bool) (c1 : List AV) (n1 : Nat) (t1 : Bool) (o1 : Bool) (c2 : List AV) (n2 : Nat) (t2 : Bool) (o2 : Bool) (c3 : List AV) (n3 : Nat) (t3 : Bool) (o3 : Bool) (i4 : Int) (c5 : List AV) (n5 : Nat) (t5 : Bool) (o5 : Bool)  : Option R := (law44_JournalRecovers_q0B N r0 c0 n0 t0 o0 c1 n1 t1 o1 c2 n2 t2 o2 c3 n3 t3 o3 i4 c5 n5 t5 o5 (fun g1_n13 g1_n14 g1_i15 g1_h0 g1_h1 => (law44_JournalRecovers_q1 N r0 c0 n0 t0 o0 c1 n1 t1 o1 c2 n2 t2 o2 c5 n5 t5 o5 N g1_n13 g1_n14 g1_i15 g1_h0 g1_h1)))
noncomputable def law44_JournalRecoversB {R : Type} (N : Nat) (r0 : Bool → Option R) (q0 : Option R) (c0 : List AV) (n0 : Nat) (t0 : Bool) (o0 : Bool) (c1 : List AV) (n1 : Nat) (t1 : Bool) (o1 : Bool) (c2 : List AV) (n2 : Nat) (t2 : Bool) (o2 : Bool) (c3 : List AV) (n3 : Nat) (t3 : Bool) (o3 : Bool) (i4 : Int) (c5 : List AV) (n5 : Nat) (t5 : Bool) (o5 : Bool) : Option R :=
  (law44_light N c0 n0 false o0 (fun y1 => (cond ((!y1) == false) (cond ((cond false true (decide (((n1 : Nat) : Int) > (400 : Int)))) == false) (cond ((cond false true (decide (((n2 : Nat) : Int) > (200 : Int)))) == false) (cond ((cond false true (decide (((n3 : Nat) : Int) > (100 : Int)))) == false) (cond (cond false true (decide (((n5 : Nat) : Int) > (12 : Int)))) (r0 true) q0) (r0 true)) (r0 true)) (r0 true)) (r0 true))))
noncomputable def law44_JournalRecoversi {R : Type} (N : Nat) (c0 : List AV) (n0 : Nat) (t0 : Bool) (o0 : Bool) (c1 : List AV) (n1 : Nat) (t1 : Bool) (o1 : Bool) (c2 : List AV) (n2 : Nat) (t2 : Bool) (o2 : Bool) (c3 : List AV) (n3 : Nat) (t3 : Bool) (o3 : Bool) (i4 : Int) (c5 : List AV) (n5 : Nat) (t5 : Bool) (o5 : Bool) (r0 : Bool → Option R) : Option R := (law44_JournalRecoversB N r0 (law44_JournalRecovers_q0 N r0 c0 n0 t0 o0 c1 n1 t1 o1 c2 n2 t2 o2 c3 n3 t3 o3 i4 c5 n5 t5 o5) c0 n0 t0 o0 c1 n1 t1 o1 c2 n2 t2 o2 c3 n3 t3 o3 i4 c5 n5 t5 o5)
noncomputable def law44_JournalRecovers {R : Type} := (shut (@law44_JournalRecoversi R)).1
theorem law44_JournalRecovers_def {R : Type} : @law44_JournalRecovers R = @law44_JournalRecoversi R := (shut _).2
noncomputable def law44_JournalRecovers_hs : Hints := { H := (.node [] (.node [0, 1, 2, 3, 4, 5] .leaf .leaf) (.join (.node [] (.node [0, 1, 2, 3, 4, 5, 48] .leaf .leaf) (.node [0, 1, 2, 3, 4, 5] (.node [] (.node [12] .leaf .leaf) .leaf) .leaf)) (.node [] (.node [0, 1, 2, 3, 4, 5, 13] .leaf .leaf) (.node [] (.node [0, 1, 2, 5, 13] .leaf .leaf) (.node [] (.node [0, 1, 2, 5, 13, 14] .leaf .leaf) (.node [] (.node [] (.node [0, 1, 2, 5, 13, 14, 15] .leaf .leaf) (.node [0, 1, 2, 13, 14] (.node [0, 1, 2, 5, 13, 14, 15] (.join (.node [] (.node [0, 1, 2, 5, 13, 14, 15, 74] .leaf .leaf) (.node [0, 1, 2, 5, 13, 14, 15] .leaf .leaf)) (.node [] (.node [0, 1, 2, 5, 13, 14, 15] (.node [0, 1, 2, 5, 13, 14, 15] .leaf .leaf) .leaf) (.node [0, 1, 2, 5, 13, 14, 15] .leaf .leaf))) .leaf) .leaf)) (.node [] (.node [2, 16] .leaf .leaf) (.node [] (.node [] (.node [2, 16, 17] .leaf .leaf) (.node [] (.node [2, 16, 17] (.node [] (.node [] (.node [2, 16, 17, 104] .leaf .leaf) (.node [2, 16, 17] .leaf .leaf)) (.node [] (.node [2, 16, 17] (.node [] (.node [2, 16, 17, 18, 19] .leaf .leaf) (.node [] (.node [2, 16, 17, 18, 19, 20, 21] .leaf .leaf) (.node [] (.node [2, 16, 17, 18, 19, 20, 21, 22, 23] .leaf .leaf) (.node [] (.node [2, 16, 17, 18, 19, 20, 21, 22, 23, 24, 25] .leaf .leaf) (.node [] (.node [2, 16, 17, 165] .leaf .leaf) (.node [2, 16, 17] (.node [] (.node [12] .leaf .leaf) .leaf) .leaf)))))) .leaf) (.node [2, 16, 17] .leaf .leaf))) .leaf) .leaf)) (.node [] (.node [12] .leaf .leaf) .leaf))))))))), nils := [], modes := [], free := [] }
noncomputable def law44_JournalRecovers_T (N : Nat) : List (Nat × Tw) := [(16, law44_light_Tw N), (17, law44_disk_Tw N), (13, mk_Mod_Tw N), (18, journal_Recover_v2_Tw N), (20, ref44_Recover_Tw N), (21, journal_Append_Tw N), (22, ref44_Append_Tw N), (10, law44_awake_Tw N), (19, ref44_Same_Tw N)]
noncomputable def law44_JournalRecovers_E (N : Nat) : Env := { P := Try.prog, nt := 166, muts := muts, nils := law44_JournalRecovers_hs.nils, free := law44_JournalRecovers_hs.free, tbl := law44_JournalRecovers_T N }
noncomputable def law44_JournalRecovers_fin {R : Type} (N : Nat) (F : AV → Heap → Option R) : St → Option R := afinish (law44_JournalRecovers_E N) Try.f6 law44_JournalRecovers_hs.modes [] F
noncomputable def law44_JournalRecovers_at {R : Type} (N : Nat) (F : AV → Heap → Option R) (p : List Nat) (ks : List (St → Option R)) : Cut R := atC (law44_JournalRecovers_E N) [] N p (bodyOf Try.f6) law44_JournalRecovers_hs.H (law44_JournalRecovers_fin N F) (fun _ _ => none) (law44_JournalRecovers_fin N F) ks
def law44_JournalRecovers_s2 (c0 : List AV) (n0 : Nat) (t0 : Bool) (o0 : Bool) (c1 : List AV) (n1 : Nat) (t1 : Bool) (o1 : Bool) (c2 : List AV) (n2 : Nat) (t2 : Bool) (o2 : Bool) (c5 : List AV) (n5 : Nat) (t5 : Bool) (o5 : Bool) (g1_n13 : Nat) (g1_n14 : Nat) (g1_h0 : List AV) (g1_h1 : List AV) (g2_i15 : Int) : St := { s := [(0, (.imm c0 n0 1 t0 o0)), (1, (.imm c1 n1 1 t1 o1)), (2, (.imm c2 n2 1 t2 o2)), (5, (.imm c5 n5 1 t5 o5)), (13, (.own 300000 0 g1_n13)), (14, (.own 300001 0 g1_n14)), (15, (.int .i64 g2_i15))], h := [(300000, ⟨false, false, true, false, 1, g1_h0⟩), (300001, ⟨false, false, true, false, 1, g1_h1⟩)] }
def law44_JournalRecovers_s3 (c2 : List AV) (n2 : Nat) (t2 : Bool) (o2 : Bool) (g3_i17 : Int) (g3_w0 : Bool) (g3_h0 : List AV) : St := { s := [(2, (.imm c2 n2 1 t2 o2)), (16, (.own 300000 0 4)), (17, (.int .i64 g3_i17))], h := [(300000, ⟨false, false, true, g3_w0, 1, g3_h0⟩)] }
def law44_JournalRecovers_s1 (c0 : List AV) (n0 : Nat) (t0 : Bool) (o0 : Bool) (c1 : List AV) (n1 : Nat) (t1 : Bool) (o1 : Bool) (c2 : List AV) (n2 : Nat) (t2 : Bool) (o2 : Bool) (c5 : List AV) (n5 : Nat) (t5 : Bool) (o5 : Bool) (g1_n13 : Nat) (g1_n14 : Nat) (g1_i15 : Int) (g1_h0 : List AV) (g1_h1 : List AV) : St := { s := [(0, (.imm c0 n0 1 t0 o0)), (1, (.imm c1 n1 1 t1 o1)), (2, (.imm c2 n2 1 t2 o2)), (5, (.imm c5 n5 1 t5 o5)), (13, (.own 300000 0 g1_n13)), (14, (.own 300001 0 g1_n14)), (15, (.int .i64 g1_i15))], h := [(300000, ⟨false, false, true, false, 1, g1_h0⟩), (300001, ⟨false, false, true, false, 1, g1_h1⟩)] }
def law44_JournalRecovers_s0 (c0 : List AV) (n0 : Nat) (t0 : Bool) (o0 : Bool) (c1 : List AV) (n1 : Nat) (t1 : Bool) (o1 : Bool) (c2 : List AV) (n2 : Nat) (t2 : Bool) (o2 : Bool) (c3 : List AV) (n3 : Nat) (t3 : Bool) (o3 : Bool) (i4 : Int) (c5 : List AV) (n5 : Nat) (t5 : Bool) (o5 : Bool) : St := { s := [(0, (.imm c0 n0 1 t0 o0)), (1, (.imm c1 n1 1 t1 o1)), (2, (.imm c2 n2 1 t2 o2)), (3, (.imm c3 n3 1 t3 o3)), (4, (.int .i64 i4)), (5, (.imm c5 n5 1 t5 o5))], h := [] }
theorem law44_JournalRecovers_q2_eq {R : Type} (N : Nat) (Q1 : St → Option R) (F : AV → Heap → Option R) (c0 : List AV) (n0 : Nat) (t0 : Bool) (o0 : Bool) (c1 : List AV) (n1 : Nat) (t1 : Bool) (o1 : Bool) (c2 : List AV) (n2 : Nat) (t2 : Bool) (o2 : Bool) (c5 : List AV) (n5 : Nat) (t5 : Bool) (o5 : Bool) (g1_n13 : Nat) (g1_n14 : Nat) (g1_h0 : List AV) (g1_h1 : List AV) : ∀ (g2_i15 : Int), joinIn (law44_JournalRecovers_E N) [] N (law44_JournalRecovers_at N F [1, 1, 1, 1, 1, 0, 1, 0, 0, 1] [Q1]) (law44_JournalRecovers_s2 c0 n0 t0 o0 c1 n1 t1 o1 c2 n2 t2 o2 c5 n5 t5 o5 g1_n13 g1_n14 g1_h0 g1_h1 g2_i15) = (law44_JournalRecovers_q2 N (fun g1_n13 g1_n14 g1_i15 g1_h0 g1_h1 => Q1 (law44_JournalRecovers_s1 c0 n0 t0 o0 c1 n1 t1 o1 c2 n2 t2 o2 c5 n5 t5 o5 g1_n13 g1_n14 g1_i15 g1_h0 g1_h1)) (fun zb0 => F (.bool zb0) []) c0 n0 t0 o0 c1 n1 t1 o1 c2 n2 t2 o2 c5 n5 t5 o5 g1_n13 g1_n14 g1_h0 g1_h1 g2_i15) := by
  intro g2_i15
  have h0 : joinIn (law44_JournalRecovers_E N) [] N (law44_JournalRecovers_at N F [1, 1, 1, 1, 1, 0, 1, 0, 0, 1] [Q1]) (law44_JournalRecovers_s2 c0 n0 t0 o0 c1 n1 t1 o1 c2 n2 t2 o2 c5 n5 t5 o5 g1_n13 g1_n14 g1_h0 g1_h1 g2_i15) = (law44_JournalRecovers_q2B N (fun g1_n13 g1_n14 g1_i15 g1_h0 g1_h1 => Q1 (law44_JournalRecovers_s1 c0 n0 t0 o0 c1 n1 t1 o1 c2 n2 t2 o2 c5 n5 t5 o5 g1_n13 g1_n14 g1_i15 g1_h0 g1_h1)) (fun zb0 => F (.bool zb0) []) c0 n0 t0 o0 c1 n1 t1 o1 c2 n2 t2 o2 c5 n5 t5 o5 g1_n13 g1_n14 g1_h0 g1_h1 g2_i15) := by kernel_rfl
  exact h0
theorem law44_JournalRecovers_q3_eq {R : Type} (N : Nat)  (F : AV → Heap → Option R) (c2 : List AV) (n2 : Nat) (t2 : Bool) (o2 : Bool) : ∀ (n : Nat) (g3_i17 : Int) (g3_w0 : Bool) (g3_h0 : List AV), loopAt (law44_JournalRecovers_E N) [] N (law44_JournalRecovers_at N F [1, 1, 1, 1, 1, 1, 1, 0, 1, 0] []) n (law44_JournalRecovers_s3 c2 n2 t2 o2 g3_i17 g3_w0 g3_h0) = (law44_JournalRecovers_q3 N (fun zb0 => F (.bool zb0) []) c2 n2 t2 o2 n g3_i17 g3_w0 g3_h0) := by
  intro n
  induction n with
  | zero => intros; rfl
  | succ n ih =>
    intro g3_i17 g3_w0 g3_h0
    have e0 : (fun g3_i17 g3_w0 g3_h0 => loopAt (law44_JournalRecovers_E N) [] N (law44_JournalRecovers_at N F [1, 1, 1, 1, 1, 1, 1, 0, 1, 0] []) n (law44_JournalRecovers_s3 c2 n2 t2 o2 g3_i17 g3_w0 g3_h0)) = (law44_JournalRecovers_q3 N (fun zb0 => F (.bool zb0) []) c2 n2 t2 o2 n) := by funext g3_i17; funext g3_w0; funext g3_h0; exact ih g3_i17 g3_w0 g3_h0
    have h0 : loopAt (law44_JournalRecovers_E N) [] N (law44_JournalRecovers_at N F [1, 1, 1, 1, 1, 1, 1, 0, 1, 0] []) (n + 1) (law44_JournalRecovers_s3 c2 n2 t2 o2 g3_i17 g3_w0 g3_h0) = (law44_JournalRecovers_q3B N (fun zb0 => F (.bool zb0) []) c2 n2 t2 o2 (fun g3_i17 g3_w0 g3_h0 => loopAt (law44_JournalRecovers_E N) [] N (law44_JournalRecovers_at N F [1, 1, 1, 1, 1, 1, 1, 0, 1, 0] []) n (law44_JournalRecovers_s3 c2 n2 t2 o2 g3_i17 g3_w0 g3_h0)) g3_i17 g3_w0 g3_h0) := by kernel_rfl
    exact (h0).trans (congrArg (fun z => (law44_JournalRecovers_q3B N (fun zb0 => F (.bool zb0) []) c2 n2 t2 o2 z g3_i17 g3_w0 g3_h0)) e0)
theorem law44_JournalRecovers_q1_eq {R : Type} (N : Nat)  (F : AV → Heap → Option R) (c0 : List AV) (n0 : Nat) (t0 : Bool) (o0 : Bool) (c1 : List AV) (n1 : Nat) (t1 : Bool) (o1 : Bool) (c2 : List AV) (n2 : Nat) (t2 : Bool) (o2 : Bool) (c5 : List AV) (n5 : Nat) (t5 : Bool) (o5 : Bool) : ∀ (n : Nat) (g1_n13 : Nat) (g1_n14 : Nat) (g1_i15 : Int) (g1_h0 : List AV) (g1_h1 : List AV), loopAt (law44_JournalRecovers_E N) [] N (law44_JournalRecovers_at N F [1, 1, 1, 1, 1, 0, 1, 0] []) n (law44_JournalRecovers_s1 c0 n0 t0 o0 c1 n1 t1 o1 c2 n2 t2 o2 c5 n5 t5 o5 g1_n13 g1_n14 g1_i15 g1_h0 g1_h1) = (law44_JournalRecovers_q1 N (fun zb0 => F (.bool zb0) []) c0 n0 t0 o0 c1 n1 t1 o1 c2 n2 t2 o2 c5 n5 t5 o5 n g1_n13 g1_n14 g1_i15 g1_h0 g1_h1) := by
  intro n
  induction n with
  | zero => intros; rfl
  | succ n ih =>
    intro g1_n13 g1_n14 g1_i15 g1_h0 g1_h1
    have e0 : (fun g1_n13 g1_n14 g1_i15 g1_h0 g1_h1 => loopAt (law44_JournalRecovers_E N) [] N (law44_JournalRecovers_at N F [1, 1, 1, 1, 1, 0, 1, 0] []) n (law44_JournalRecovers_s1 c0 n0 t0 o0 c1 n1 t1 o1 c2 n2 t2 o2 c5 n5 t5 o5 g1_n13 g1_n14 g1_i15 g1_h0 g1_h1)) = (law44_JournalRecovers_q1 N (fun zb0 => F (.bool zb0) []) c0 n0 t0 o0 c1 n1 t1 o1 c2 n2 t2 o2 c5 n5 t5 o5 n) := by funext g1_n13; funext g1_n14; funext g1_i15; funext g1_h0; funext g1_h1; exact ih g1_n13 g1_n14 g1_i15 g1_h0 g1_h1
    have e1 : (fun g2_i15 => joinAt (law44_JournalRecovers_E N) [] N (law44_JournalRecovers_at N F [1, 1, 1, 1, 1, 0, 1, 0, 0, 1] [(loopAt (law44_JournalRecovers_E N) [] N (law44_JournalRecovers_at N F [1, 1, 1, 1, 1, 0, 1, 0] []) n)]) (law44_JournalRecovers_s2 c0 n0 t0 o0 c1 n1 t1 o1 c2 n2 t2 o2 c5 n5 t5 o5 g1_n13 g1_n14 g1_h0 g1_h1 g2_i15)) = (fun g2_i15 => (law44_JournalRecovers_q2 N (law44_JournalRecovers_q1 N (fun zb0 => F (.bool zb0) []) c0 n0 t0 o0 c1 n1 t1 o1 c2 n2 t2 o2 c5 n5 t5 o5 n) (fun zb0 => F (.bool zb0) []) c0 n0 t0 o0 c1 n1 t1 o1 c2 n2 t2 o2 c5 n5 t5 o5 g1_n13 g1_n14 g1_h0 g1_h1 g2_i15)) := by funext g2_i15; exact ((joinAt_eq ..).trans (law44_JournalRecovers_q2_eq N (loopAt (law44_JournalRecovers_E N) [] N (law44_JournalRecovers_at N F [1, 1, 1, 1, 1, 0, 1, 0] []) n) F c0 n0 t0 o0 c1 n1 t1 o1 c2 n2 t2 o2 c5 n5 t5 o5 g1_n13 g1_n14 g1_h0 g1_h1 g2_i15)).trans (by rw [e0])
    have e2 : (fun g3_i17 g3_w0 g3_h0 => loopW (law44_JournalRecovers_E N) [] N (law44_JournalRecovers_at N F [1, 1, 1, 1, 1, 1, 1, 0, 1, 0] []) N (law44_JournalRecovers_s3 c2 n2 t2 o2 g3_i17 g3_w0 g3_h0)) = (fun g3_i17 g3_w0 g3_h0 => (law44_JournalRecovers_q3 N (fun zb0 => F (.bool zb0) []) c2 n2 t2 o2 N g3_i17 g3_w0 g3_h0)) := by funext g3_i17; funext g3_w0; funext g3_h0; exact ((loopW_eq ..).trans (law44_JournalRecovers_q3_eq N F c2 n2 t2 o2 N g3_i17 g3_w0 g3_h0))
    have h0 : loopAt (law44_JournalRecovers_E N) [] N (law44_JournalRecovers_at N F [1, 1, 1, 1, 1, 0, 1, 0] []) (n + 1) (law44_JournalRecovers_s1 c0 n0 t0 o0 c1 n1 t1 o1 c2 n2 t2 o2 c5 n5 t5 o5 g1_n13 g1_n14 g1_i15 g1_h0 g1_h1) = (law44_JournalRecovers_q1B N (fun zb0 => F (.bool zb0) []) c0 n0 t0 o0 c1 n1 t1 o1 c2 n2 t2 o2 c5 n5 t5 o5 (fun g1_n13 g1_n14 g1_i15 g1_h0 g1_h1 => loopAt (law44_JournalRecovers_E N) [] N (law44_JournalRecovers_at N F [1, 1, 1, 1, 1, 0, 1, 0] []) n (law44_JournalRecovers_s1 c0 n0 t0 o0 c1 n1 t1 o1 c2 n2 t2 o2 c5 n5 t5 o5 g1_n13 g1_n14 g1_i15 g1_h0 g1_h1)) (fun g2_i15 => joinAt (law44_JournalRecovers_E N) [] N (law44_JournalRecovers_at N F [1, 1, 1, 1, 1, 0, 1, 0, 0, 1] [(loopAt (law44_JournalRecovers_E N) [] N (law44_JournalRecovers_at N F [1, 1, 1, 1, 1, 0, 1, 0] []) n)]) (law44_JournalRecovers_s2 c0 n0 t0 o0 c1 n1 t1 o1 c2 n2 t2 o2 c5 n5 t5 o5 g1_n13 g1_n14 g1_h0 g1_h1 g2_i15)) (fun g3_i17 g3_w0 g3_h0 => loopW (law44_JournalRecovers_E N) [] N (law44_JournalRecovers_at N F [1, 1, 1, 1, 1, 1, 1, 0, 1, 0] []) N (law44_JournalRecovers_s3 c2 n2 t2 o2 g3_i17 g3_w0 g3_h0)) g1_n13 g1_n14 g1_i15 g1_h0 g1_h1) := by kernel_rfl
    exact (((h0).trans (congrArg (fun z => (law44_JournalRecovers_q1B N (fun zb0 => F (.bool zb0) []) c0 n0 t0 o0 c1 n1 t1 o1 c2 n2 t2 o2 c5 n5 t5 o5 z (fun g2_i15 => joinAt (law44_JournalRecovers_E N) [] N (law44_JournalRecovers_at N F [1, 1, 1, 1, 1, 0, 1, 0, 0, 1] [(loopAt (law44_JournalRecovers_E N) [] N (law44_JournalRecovers_at N F [1, 1, 1, 1, 1, 0, 1, 0] []) n)]) (law44_JournalRecovers_s2 c0 n0 t0 o0 c1 n1 t1 o1 c2 n2 t2 o2 c5 n5 t5 o5 g1_n13 g1_n14 g1_h0 g1_h1 g2_i15)) (fun g3_i17 g3_w0 g3_h0 => loopW (law44_JournalRecovers_E N) [] N (law44_JournalRecovers_at N F [1, 1, 1, 1, 1, 1, 1, 0, 1, 0] []) N (law44_JournalRecovers_s3 c2 n2 t2 o2 g3_i17 g3_w0 g3_h0)) g1_n13 g1_n14 g1_i15 g1_h0 g1_h1)) e0)).trans (congrArg (fun z => (law44_JournalRecovers_q1B N (fun zb0 => F (.bool zb0) []) c0 n0 t0 o0 c1 n1 t1 o1 c2 n2 t2 o2 c5 n5 t5 o5 (law44_JournalRecovers_q1 N (fun zb0 => F (.bool zb0) []) c0 n0 t0 o0 c1 n1 t1 o1 c2 n2 t2 o2 c5 n5 t5 o5 n) z (fun g3_i17 g3_w0 g3_h0 => loopW (law44_JournalRecovers_E N) [] N (law44_JournalRecovers_at N F [1, 1, 1, 1, 1, 1, 1, 0, 1, 0] []) N (law44_JournalRecovers_s3 c2 n2 t2 o2 g3_i17 g3_w0 g3_h0)) g1_n13 g1_n14 g1_i15 g1_h0 g1_h1)) e1)).trans (congrArg (fun z => (law44_JournalRecovers_q1B N (fun zb0 => F (.bool zb0) []) c0 n0 t0 o0 c1 n1 t1 o1 c2 n2 t2 o2 c5 n5 t5 o5 (law44_JournalRecovers_q1 N (fun zb0 => F (.bool zb0) []) c0 n0 t0 o0 c1 n1 t1 o1 c2 n2 t2 o2 c5 n5 t5 o5 n) (fun g2_i15 => (law44_JournalRecovers_q2 N (law44_JournalRecovers_q1 N (fun zb0 => F (.bool zb0) []) c0 n0 t0 o0 c1 n1 t1 o1 c2 n2 t2 o2 c5 n5 t5 o5 n) (fun zb0 => F (.bool zb0) []) c0 n0 t0 o0 c1 n1 t1 o1 c2 n2 t2 o2 c5 n5 t5 o5 g1_n13 g1_n14 g1_h0 g1_h1 g2_i15)) z g1_n13 g1_n14 g1_i15 g1_h0 g1_h1)) e2)
theorem law44_JournalRecovers_q0_eq {R : Type} (N : Nat)  (F : AV → Heap → Option R) (c0 : List AV) (n0 : Nat) (t0 : Bool) (o0 : Bool) (c1 : List AV) (n1 : Nat) (t1 : Bool) (o1 : Bool) (c2 : List AV) (n2 : Nat) (t2 : Bool) (o2 : Bool) (c3 : List AV) (n3 : Nat) (t3 : Bool) (o3 : Bool) (i4 : Int) (c5 : List AV) (n5 : Nat) (t5 : Bool) (o5 : Bool) : joinIn (law44_JournalRecovers_E N) [] N (law44_JournalRecovers_at N F [1, 1] []) (law44_JournalRecovers_s0 c0 n0 t0 o0 c1 n1 t1 o1 c2 n2 t2 o2 c3 n3 t3 o3 i4 c5 n5 t5 o5) = (law44_JournalRecovers_q0 N (fun zb0 => F (.bool zb0) []) c0 n0 t0 o0 c1 n1 t1 o1 c2 n2 t2 o2 c3 n3 t3 o3 i4 c5 n5 t5 o5) := by
  have e1 : (fun g1_n13 g1_n14 g1_i15 g1_h0 g1_h1 => loopW (law44_JournalRecovers_E N) [] N (law44_JournalRecovers_at N F [1, 1, 1, 1, 1, 0, 1, 0] []) N (law44_JournalRecovers_s1 c0 n0 t0 o0 c1 n1 t1 o1 c2 n2 t2 o2 c5 n5 t5 o5 g1_n13 g1_n14 g1_i15 g1_h0 g1_h1)) = (fun g1_n13 g1_n14 g1_i15 g1_h0 g1_h1 => (law44_JournalRecovers_q1 N (fun zb0 => F (.bool zb0) []) c0 n0 t0 o0 c1 n1 t1 o1 c2 n2 t2 o2 c5 n5 t5 o5 N g1_n13 g1_n14 g1_i15 g1_h0 g1_h1)) := by funext g1_n13; funext g1_n14; funext g1_i15; funext g1_h0; funext g1_h1; exact (loopW_eq ..).trans (law44_JournalRecovers_q1_eq N F c0 n0 t0 o0 c1 n1 t1 o1 c2 n2 t2 o2 c5 n5 t5 o5 N g1_n13 g1_n14 g1_i15 g1_h0 g1_h1)
  have h0 : joinIn (law44_JournalRecovers_E N) [] N (law44_JournalRecovers_at N F [1, 1] []) (law44_JournalRecovers_s0 c0 n0 t0 o0 c1 n1 t1 o1 c2 n2 t2 o2 c3 n3 t3 o3 i4 c5 n5 t5 o5) = (law44_JournalRecovers_q0B N (fun zb0 => F (.bool zb0) []) c0 n0 t0 o0 c1 n1 t1 o1 c2 n2 t2 o2 c3 n3 t3 o3 i4 c5 n5 t5 o5 (fun g1_n13 g1_n14 g1_i15 g1_h0 g1_h1 => loopW (law44_JournalRecovers_E N) [] N (law44_JournalRecovers_at N F [1, 1, 1, 1, 1, 0, 1, 0] []) N (law44_JournalRecovers_s1 c0 n0 t0 o0 c1 n1 t1 o1 c2 n2 t2 o2 c5 n5 t5 o5 g1_n13 g1_n14 g1_i15 g1_h0 g1_h1))) := by kernel_rfl
  exact (h0).trans (congrArg (fun z => (law44_JournalRecovers_q0B N (fun zb0 => F (.bool zb0) []) c0 n0 t0 o0 c1 n1 t1 o1 c2 n2 t2 o2 c3 n3 t3 o3 i4 c5 n5 t5 o5 z)) e1)
theorem law44_JournalRecovers_eq {R : Type} (N : Nat) (c0 : List AV) (n0 : Nat) (t0 : Bool) (o0 : Bool) (c1 : List AV) (n1 : Nat) (t1 : Bool) (o1 : Bool) (c2 : List AV) (n2 : Nat) (t2 : Bool) (o2 : Bool) (c3 : List AV) (n3 : Nat) (t3 : Bool) (o3 : Bool) (i4 : Int) (c5 : List AV) (n5 : Nat) (t5 : Bool) (o5 : Bool) (F : AV → Heap → Option R) : execF Try.prog muts (law44_JournalRecovers_T N) law44_JournalRecovers_hs N 6 [(.imm c0 n0 1 t0 o0), (.imm c1 n1 1 t1 o1), (.imm c2 n2 1 t2 o2), (.imm c3 n3 1 t3 o3), (.int .i64 i4), (.imm c5 n5 1 t5 o5)] [] F = (law44_JournalRecovers N c0 n0 t0 o0 c1 n1 t1 o1 c2 n2 t2 o2 c3 n3 t3 o3 i4 c5 n5 t5 o5 (fun zb0 => F (.bool zb0) [])) := by
  have e1 : (joinAt (law44_JournalRecovers_E N) [] N (law44_JournalRecovers_at N F [1, 1] []) (law44_JournalRecovers_s0 c0 n0 t0 o0 c1 n1 t1 o1 c2 n2 t2 o2 c3 n3 t3 o3 i4 c5 n5 t5 o5)) = (law44_JournalRecovers_q0 N (fun zb0 => F (.bool zb0) []) c0 n0 t0 o0 c1 n1 t1 o1 c2 n2 t2 o2 c3 n3 t3 o3 i4 c5 n5 t5 o5) := by exact (joinAt_eq ..).trans (law44_JournalRecovers_q0_eq N F c0 n0 t0 o0 c1 n1 t1 o1 c2 n2 t2 o2 c3 n3 t3 o3 i4 c5 n5 t5 o5)
  have h0 : execF Try.prog muts (law44_JournalRecovers_T N) law44_JournalRecovers_hs N 6 [(.imm c0 n0 1 t0 o0), (.imm c1 n1 1 t1 o1), (.imm c2 n2 1 t2 o2), (.imm c3 n3 1 t3 o3), (.int .i64 i4), (.imm c5 n5 1 t5 o5)] [] F = (law44_JournalRecoversB N (fun zb0 => F (.bool zb0) []) (joinAt (law44_JournalRecovers_E N) [] N (law44_JournalRecovers_at N F [1, 1] []) (law44_JournalRecovers_s0 c0 n0 t0 o0 c1 n1 t1 o1 c2 n2 t2 o2 c3 n3 t3 o3 i4 c5 n5 t5 o5)) c0 n0 t0 o0 c1 n1 t1 o1 c2 n2 t2 o2 c3 n3 t3 o3 i4 c5 n5 t5 o5) := by kernel_rfl
  rw [law44_JournalRecovers_def]
  exact (h0).trans (congrArg (fun z => (law44_JournalRecoversB N (fun zb0 => F (.bool zb0) []) z c0 n0 t0 o0 c1 n1 t1 o1 c2 n2 t2 o2 c3 n3 t3 o3 i4 c5 n5 t5 o5)) e1)
noncomputable def law44_JournalRecovers_run {R : Type} (N : Nat) (args : List AV) (h : Heap) (k : AV → Heap → Option R) : Option R :=
  match args, h with
  | [(.imm c0 n0 1 t0 o0), (.imm c1 n1 1 t1 o1), (.imm c2 n2 1 t2 o2), (.imm c3 n3 1 t3 o3), (.int .i64 i4), (.imm c5 n5 1 t5 o5)], [] => (law44_JournalRecovers N c0 n0 t0 o0 c1 n1 t1 o1 c2 n2 t2 o2 c3 n3 t3 o3 i4 c5 n5 t5 o5 (fun zb0 => k (.bool zb0) []))
  | _, _ => none
noncomputable def law44_JournalRecovers_Tw (N : Nat) : Tw where
  runK := law44_JournalRecovers_run N
  eq := by
    intro R args h k
    unfold law44_JournalRecovers_run
    split
    · exact (law44_JournalRecovers_eq ..).symm.trans ((execF_bind ..).trans (congrArg (Option.bind · _) (law44_JournalRecovers_eq ..)))
    · rfl
theorem law44_JournalRecovers_ok (N : Nat) : TwOk Try.prog 6 (law44_JournalRecovers_Tw N) := by
  intro args h res h1 hh0
  have hh : law44_JournalRecovers_run N args h (fun v h1 => some (v, h1)) = some (res, h1) := hh0
  unfold law44_JournalRecovers_run at hh
  split at hh
  · exact execF_sound (T := law44_JournalRecovers_T N) ⟨law44_light_ok N, law44_disk_ok N, mk_Mod_ok N, journal_Recover_v2_ok N, ref44_Recover_ok N, journal_Append_ok N, ref44_Append_ok N, law44_awake_ok N, ref44_Same_ok N, trivial⟩ follows ((law44_JournalRecovers_eq ..).trans hh)
  · cases hh
/- gridmarket/gridmarketlaw44.JournalKeeps -/
noncomputable def law44_JournalKeeps_q1B {R : Type} (N : Nat)  (r0 : Bool → Option R) (c0 : List AV) (n0 : Nat) (t0 : Bool) (o0 : Bool) (c1 : List AV) (n1 : Nat) (t1 : Bool) (o1 : Bool) (k1 : Nat → Int → List AV → Option R)  (g1_n5 : Nat) (g1_i6 : Int) (g1_h0 : List AV) : Option R :=
  (cond (decide (g1_i6 < ((n0 : Nat) : Int))) (cond ((Nat.ble (0 + g1_n5) 140737488355328) && (Nat.ble ((0 + g1_n5) * 1) 140737488355328)) (cond ((!o1) || (plainZ c1)) (cond ((Nat.ble ((0 + g1_n5) + n1) 140737488355328) && (Nat.ble (((0 + g1_n5) + n1) * 1) 140737488355328)) (cond (inIdx g1_i6 n0) (rdL 1 (List.drop ((Int.toNat g1_i6) * 1) c0) fun l2 m3 => (journal_Append N (List.take (((0 + g1_n5) + n1) * 1) ((List.take ((0 + g1_n5) * 1) (List.take (g1_n5 * 1) g1_h0)) ++ c1)) ((0 + g1_n5) + n1) false true l2 m3 false o0 (fun y4 y5 y6 => (cond (y5 != (0 : Int)) (r0 false) (k1 y4 (IntKind.wrap .i64 (g1_i6 + (1 : Int))) y6))))) none) none) none) none) (cond ((Nat.ble (0 + g1_n5) 140737488355328) && (Nat.ble ((0 + g1_n5) * 1) 140737488355328)) (cond ((!o1) || (plainZ c1)) (cond ((Nat.ble ((0 + g1_n5) + n1) 140737488355328) && (Nat.ble (((0 + g1_n5) + n1) * 1) 140737488355328)) (journal_Recover_v2 N (List.take (((0 + g1_n5) + n1) * 1) ((List.take ((0 + g1_n5) * 1) (List.take (g1_n5 * 1) g1_h0)) ++ c1)) ((0 + g1_n5) + n1) false true (fun y7 y8 y9 => (law44_awake N (fun y10 => (cond (y10 == true) (cond ((cond true (y9 == ((g1_n5 : Nat) : Int)) false) == true) (ref44_Same N y7 y8 false false c0 n0 false o0 (fun y11 => (r0 (cond true y11 false)))) (r0 false)) (r0 false)))))) none) none) none))
noncomputable def law44_JournalKeeps_q1 {R : Type} (N : Nat)  (r0 : Bool → Option R) (c0 : List AV) (n0 : Nat) (t0 : Bool) (o0 : Bool) (c1 : List AV) (n1 : Nat) (t1 : Bool) (o1 : Bool) : Nat → Nat → Int → List AV → Option R
  | 0, _, _, _ => none
  | n + 1, g1_n5, g1_i6, g1_h0 => (law44_JournalKeeps_q1B N r0 c0 n0 t0 o0 c1 n1 t1 o1 (law44_JournalKeeps_q1 N r0 c0 n0 t0 o0 c1 n1 t1 o1 n) g1_n5 g1_i6 g1_h0)
noncomputable def law44_JournalKeeps_q0B {R : Type} (N : Nat)  (r0 : Bool → Option R) (c0 : List AV) (n0 : Nat) (t0 : Bool) (o0 : Bool) (c1 : List AV) (n1 : Nat) (t1 : Bool) (o1 : Bool)  (q1 : Nat → Int → List AV → Option R)  : Option R :=
  (q1 0 (0 : Int) [])
noncomputable def law44_JournalKeeps_q0 {R : Type} (N : Nat)  (r0 : Bool → Option R) (c0 : List AV) (n0 : Nat) (t0 : Bool) (o0 : Bool) (c1 : List AV) (n1 : Nat) (t1 : Bool) (o1 : Bool)  : Option R := (law44_JournalKeeps_q0B N r0 c0 n0 t0 o0 c1 n1 t1 o1 (fun g1_n5 g1_i6 g1_h0 => (law44_JournalKeeps_q1 N r0 c0 n0 t0 o0 c1 n1 t1 o1 N g1_n5 g1_i6 g1_h0)))
noncomputable def law44_JournalKeepsB {R : Type} (N : Nat) (r0 : Bool → Option R) (q0 : Option R) (c0 : List AV) (n0 : Nat) (t0 : Bool) (o0 : Bool) (c1 : List AV) (n1 : Nat) (t1 : Bool) (o1 : Bool) : Option R :=
  (law44_light N c0 n0 false o0 (fun y1 => (cond ((!y1) == false) (cond (cond false true (decide (((n1 : Nat) : Int) > (3 : Int)))) (r0 true) q0) (r0 true))))
noncomputable def law44_JournalKeepsi {R : Type} (N : Nat) (c0 : List AV) (n0 : Nat) (t0 : Bool) (o0 : Bool) (c1 : List AV) (n1 : Nat) (t1 : Bool) (o1 : Bool) (r0 : Bool → Option R) : Option R := (law44_JournalKeepsB N r0 (law44_JournalKeeps_q0 N r0 c0 n0 t0 o0 c1 n1 t1 o1) c0 n0 t0 o0 c1 n1 t1 o1)
noncomputable def law44_JournalKeeps {R : Type} := (shut (@law44_JournalKeepsi R)).1
theorem law44_JournalKeeps_def {R : Type} : @law44_JournalKeeps R = @law44_JournalKeepsi R := (shut _).2
noncomputable def law44_JournalKeeps_hs : Hints := { H := (.node [] (.node [0, 1] .leaf .leaf) (.join (.node [] (.node [0, 1, 18] .leaf .leaf) (.node [0, 1] (.node [] (.node [4] .leaf .leaf) .leaf) .leaf)) (.node [] (.node [0, 1, 5] .leaf .leaf) (.node [] (.node [] (.node [0, 1, 5, 6] .leaf .leaf) (.node [0, 1, 5] (.node [0, 1, 5, 6] (.node [] (.node [] (.node [0, 1, 5, 6, 22] .leaf .leaf) (.node [0, 1, 5, 6] .leaf .leaf)) (.node [] (.node [0, 1, 5, 6] (.node [] (.node [0, 1, 6, 7, 8] .leaf .leaf) (.node [] (.node [] (.node [0, 1, 6, 7, 39] .leaf .leaf) (.node [0, 1, 6, 7] (.node [] (.node [4] .leaf .leaf) .leaf) .leaf)) (.node [0, 1, 5, 6] .leaf .leaf))) .leaf) (.node [0, 1, 5, 6] .leaf .leaf))) .leaf) .leaf)) (.node [] (.node [0, 5, 9, 10] .leaf .leaf) (.node [] (.node [4] .leaf .leaf) .leaf)))))), nils := [(5, 1)], modes := [], free := [] }
noncomputable def law44_JournalKeeps_T (N : Nat) : List (Nat × Tw) := [(16, law44_light_Tw N), (21, journal_Append_Tw N), (18, journal_Recover_v2_Tw N), (10, law44_awake_Tw N), (19, ref44_Same_Tw N)]
noncomputable def law44_JournalKeeps_E (N : Nat) : Env := { P := Try.prog, nt := 62, muts := muts, nils := law44_JournalKeeps_hs.nils, free := law44_JournalKeeps_hs.free, tbl := law44_JournalKeeps_T N }
noncomputable def law44_JournalKeeps_fin {R : Type} (N : Nat) (F : AV → Heap → Option R) : St → Option R := afinish (law44_JournalKeeps_E N) Try.f7 law44_JournalKeeps_hs.modes [] F
noncomputable def law44_JournalKeeps_at {R : Type} (N : Nat) (F : AV → Heap → Option R) (p : List Nat) (ks : List (St → Option R)) : Cut R := atC (law44_JournalKeeps_E N) [] N p (bodyOf Try.f7) law44_JournalKeeps_hs.H (law44_JournalKeeps_fin N F) (fun _ _ => none) (law44_JournalKeeps_fin N F) ks
def law44_JournalKeeps_s1 (c0 : List AV) (n0 : Nat) (t0 : Bool) (o0 : Bool) (c1 : List AV) (n1 : Nat) (t1 : Bool) (o1 : Bool) (g1_n5 : Nat) (g1_i6 : Int) (g1_h0 : List AV) : St := { s := [(0, (.imm c0 n0 1 t0 o0)), (1, (.imm c1 n1 1 t1 o1)), (5, (.own 300000 0 g1_n5)), (6, (.int .i64 g1_i6))], h := [(300000, ⟨false, false, true, false, 1, g1_h0⟩)] }
def law44_JournalKeeps_s0 (c0 : List AV) (n0 : Nat) (t0 : Bool) (o0 : Bool) (c1 : List AV) (n1 : Nat) (t1 : Bool) (o1 : Bool) : St := { s := [(0, (.imm c0 n0 1 t0 o0)), (1, (.imm c1 n1 1 t1 o1))], h := [] }
theorem law44_JournalKeeps_q1_eq {R : Type} (N : Nat)  (F : AV → Heap → Option R) (c0 : List AV) (n0 : Nat) (t0 : Bool) (o0 : Bool) (c1 : List AV) (n1 : Nat) (t1 : Bool) (o1 : Bool) : ∀ (n : Nat) (g1_n5 : Nat) (g1_i6 : Int) (g1_h0 : List AV), loopAt (law44_JournalKeeps_E N) [] N (law44_JournalKeeps_at N F [1, 1, 1, 0, 1, 0] []) n (law44_JournalKeeps_s1 c0 n0 t0 o0 c1 n1 t1 o1 g1_n5 g1_i6 g1_h0) = (law44_JournalKeeps_q1 N (fun zb0 => F (.bool zb0) []) c0 n0 t0 o0 c1 n1 t1 o1 n g1_n5 g1_i6 g1_h0) := by
  intro n
  induction n with
  | zero => intros; rfl
  | succ n ih =>
    intro g1_n5 g1_i6 g1_h0
    have e0 : (fun g1_n5 g1_i6 g1_h0 => loopAt (law44_JournalKeeps_E N) [] N (law44_JournalKeeps_at N F [1, 1, 1, 0, 1, 0] []) n (law44_JournalKeeps_s1 c0 n0 t0 o0 c1 n1 t1 o1 g1_n5 g1_i6 g1_h0)) = (law44_JournalKeeps_q1 N (fun zb0 => F (.bool zb0) []) c0 n0 t0 o0 c1 n1 t1 o1 n) := by funext g1_n5; funext g1_i6; funext g1_h0; exact ih g1_n5 g1_i6 g1_h0
    have h0 : loopAt (law44_JournalKeeps_E N) [] N (law44_JournalKeeps_at N F [1, 1, 1, 0, 1, 0] []) (n + 1) (law44_JournalKeeps_s1 c0 n0 t0 o0 c1 n1 t1 o1 g1_n5 g1_i6 g1_h0) = (law44_JournalKeeps_q1B N (fun zb0 => F (.bool zb0) []) c0 n0 t0 o0 c1 n1 t1 o1 (fun g1_n5 g1_i6 g1_h0 => loopAt (law44_JournalKeeps_E N) [] N (law44_JournalKeeps_at N F [1, 1, 1, 0, 1, 0] []) n (law44_JournalKeeps_s1 c0 n0 t0 o0 c1 n1 t1 o1 g1_n5 g1_i6 g1_h0)) g1_n5 g1_i6 g1_h0) := by kernel_rfl
    exact (h0).trans (congrArg (fun z => (law44_JournalKeeps_q1B N (fun zb0 => F (.bool zb0) []) c0 n0 t0 o0 c1 n1 t1 o1 z g1_n5 g1_i6 g1_h0)) e0)
theorem law44_JournalKeeps_q0_eq {R : Type} (N : Nat)  (F : AV → Heap → Option R) (c0 : List AV) (n0 : Nat) (t0 : Bool) (o0 : Bool) (c1 : List AV) (n1 : Nat) (t1 : Bool) (o1 : Bool) : joinIn (law44_JournalKeeps_E N) [] N (law44_JournalKeeps_at N F [1, 1] []) (law44_JournalKeeps_s0 c0 n0 t0 o0 c1 n1 t1 o1) = (law44_JournalKeeps_q0 N (fun zb0 => F (.bool zb0) []) c0 n0 t0 o0 c1 n1 t1 o1) := by
  have e1 : (fun g1_n5 g1_i6 g1_h0 => loopW (law44_JournalKeeps_E N) [] N (law44_JournalKeeps_at N F [1, 1, 1, 0, 1, 0] []) N (law44_JournalKeeps_s1 c0 n0 t0 o0 c1 n1 t1 o1 g1_n5 g1_i6 g1_h0)) = (fun g1_n5 g1_i6 g1_h0 => (law44_JournalKeeps_q1 N (fun zb0 => F (.bool zb0) []) c0 n0 t0 o0 c1 n1 t1 o1 N g1_n5 g1_i6 g1_h0)) := by funext g1_n5; funext g1_i6; funext g1_h0; exact (loopW_eq ..).trans (law44_JournalKeeps_q1_eq N F c0 n0 t0 o0 c1 n1 t1 o1 N g1_n5 g1_i6 g1_h0)
  have h0 : joinIn (law44_JournalKeeps_E N) [] N (law44_JournalKeeps_at N F [1, 1] []) (law44_JournalKeeps_s0 c0 n0 t0 o0 c1 n1 t1 o1) = (law44_JournalKeeps_q0B N (fun zb0 => F (.bool zb0) []) c0 n0 t0 o0 c1 n1 t1 o1 (fun g1_n5 g1_i6 g1_h0 => loopW (law44_JournalKeeps_E N) [] N (law44_JournalKeeps_at N F [1, 1, 1, 0, 1, 0] []) N (law44_JournalKeeps_s1 c0 n0 t0 o0 c1 n1 t1 o1 g1_n5 g1_i6 g1_h0))) := by kernel_rfl
  exact (h0).trans (congrArg (fun z => (law44_JournalKeeps_q0B N (fun zb0 => F (.bool zb0) []) c0 n0 t0 o0 c1 n1 t1 o1 z)) e1)
theorem law44_JournalKeeps_eq {R : Type} (N : Nat) (c0 : List AV) (n0 : Nat) (t0 : Bool) (o0 : Bool) (c1 : List AV) (n1 : Nat) (t1 : Bool) (o1 : Bool) (F : AV → Heap → Option R) : execF Try.prog muts (law44_JournalKeeps_T N) law44_JournalKeeps_hs N 7 [(.imm c0 n0 1 t0 o0), (.imm c1 n1 1 t1 o1)] [] F = (law44_JournalKeeps N c0 n0 t0 o0 c1 n1 t1 o1 (fun zb0 => F (.bool zb0) [])) := by
  have e1 : (joinAt (law44_JournalKeeps_E N) [] N (law44_JournalKeeps_at N F [1, 1] []) (law44_JournalKeeps_s0 c0 n0 t0 o0 c1 n1 t1 o1)) = (law44_JournalKeeps_q0 N (fun zb0 => F (.bool zb0) []) c0 n0 t0 o0 c1 n1 t1 o1) := by exact (joinAt_eq ..).trans (law44_JournalKeeps_q0_eq N F c0 n0 t0 o0 c1 n1 t1 o1)
  have h0 : execF Try.prog muts (law44_JournalKeeps_T N) law44_JournalKeeps_hs N 7 [(.imm c0 n0 1 t0 o0), (.imm c1 n1 1 t1 o1)] [] F = (law44_JournalKeepsB N (fun zb0 => F (.bool zb0) []) (joinAt (law44_JournalKeeps_E N) [] N (law44_JournalKeeps_at N F [1, 1] []) (law44_JournalKeeps_s0 c0 n0 t0 o0 c1 n1 t1 o1)) c0 n0 t0 o0 c1 n1 t1 o1) := by kernel_rfl
  rw [law44_JournalKeeps_def]
  exact (h0).trans (congrArg (fun z => (law44_JournalKeepsB N (fun zb0 => F (.bool zb0) []) z c0 n0 t0 o0 c1 n1 t1 o1)) e1)
noncomputable def law44_JournalKeeps_run {R : Type} (N : Nat) (args : List AV) (h : Heap) (k : AV → Heap → Option R) : Option R :=
  match args, h with
  | [(.imm c0 n0 1 t0 o0), (.imm c1 n1 1 t1 o1)], [] => (law44_JournalKeeps N c0 n0 t0 o0 c1 n1 t1 o1 (fun zb0 => k (.bool zb0) []))
  | _, _ => none
noncomputable def law44_JournalKeeps_Tw (N : Nat) : Tw where
  runK := law44_JournalKeeps_run N
  eq := by
    intro R args h k
    unfold law44_JournalKeeps_run
    split
    · exact (law44_JournalKeeps_eq ..).symm.trans ((execF_bind ..).trans (congrArg (Option.bind · _) (law44_JournalKeeps_eq ..)))
    · rfl
theorem law44_JournalKeeps_ok (N : Nat) : TwOk Try.prog 7 (law44_JournalKeeps_Tw N) := by
  intro args h res h1 hh0
  have hh : law44_JournalKeeps_run N args h (fun v h1 => some (v, h1)) = some (res, h1) := hh0
  unfold law44_JournalKeeps_run at hh
  split at hh
  · exact execF_sound (T := law44_JournalKeeps_T N) ⟨law44_light_ok N, journal_Append_ok N, journal_Recover_v2_ok N, law44_awake_ok N, ref44_Same_ok N, trivial⟩ follows ((law44_JournalKeeps_eq ..).trans hh)
  · cases hh
/- gridmarket/gridmarketlaw44.JournalTears -/
noncomputable def law44_JournalTears_q1B {R : Type} (N : Nat)  (r0 : Bool → Option R) (c0 : List AV) (n0 : Nat) (t0 : Bool) (o0 : Bool) (c1 : List AV) (n1 : Nat) (t1 : Bool) (o1 : Bool) (i2 : Int) (y2 : Nat) (y4 : Nat) (y3 : List AV) (y6 : List AV)    : Option R :=
  (mk_Mod N i2 (IntKind.wrap .i64 ((IntKind.wrap .i64 (((y4 : Nat) : Int) - ((y2 : Nat) : Int))) + (1 : Int))) (fun y8 => (cond ((decide ((0 : Int) ≤ (0 : Int))) && ((decide ((0 : Int) ≤ (IntKind.wrap .i64 (((y2 : Nat) : Int) + y8)))) && ((decide ((IntKind.wrap .i64 (((y2 : Nat) : Int) + y8)) ≤ ((y4 : Nat) : Int))) && (decide (((y4 : Nat) : Int) ≤ ((y4 : Nat) : Int)))))) (journal_Recover_v2 N (List.take ((Int.toNat (IntKind.wrap .i64 (((y2 : Nat) : Int) + y8))) * 1) y6) (Int.toNat (IntKind.wrap .i64 (((y2 : Nat) : Int) + y8))) false true (fun y9 y10 y11 => (cond ((IntKind.wrap .i64 (((y2 : Nat) : Int) + y8)) == ((y4 : Nat) : Int)) (cond ((y11 == (IntKind.wrap .i64 (((y2 : Nat) : Int) + y8))) == true) (cond ((cond true (((y10 : Nat) : Int) == (IntKind.wrap .i64 (((n0 : Nat) : Int) + (1 : Int)))) false) == true) (cond (inIdx ((n0 : Nat) : Int) y10) (rdL 1 (List.drop (n0 * 1) y9) fun l12 m13 => (Option.bind (asBytes l12) fun s14 => (Option.bind (asBytes c1) fun s15 => (cond ((cond true (s14 == s15) false) == true) (cond ((decide ((0 : Int) ≤ (0 : Int))) && ((decide ((0 : Int) ≤ ((n0 : Nat) : Int))) && ((decide (((n0 : Nat) : Int) ≤ ((y10 : Nat) : Int))) && (decide (((y10 : Nat) : Int) ≤ ((y10 : Nat) : Int)))))) (ref44_Same N (List.take (n0 * 1) y9) n0 false false c0 n0 false o0 (fun y16 => (r0 (cond true y16 false)))) none) (r0 false))))) none) (r0 false)) (r0 false)) (cond ((y11 == ((y2 : Nat) : Int)) == true) (ref44_Same N y9 y10 false false c0 n0 false o0 (fun y17 => (r0 (cond true y17 false)))) (r0 false))))) none)))
noncomputable def law44_JournalTears_q1 {R : Type} (N : Nat)  (r0 : Bool → Option R) (c0 : List AV) (n0 : Nat) (t0 : Bool) (o0 : Bool) (c1 : List AV) (n1 : Nat) (t1 : Bool) (o1 : Bool) (i2 : Int) (y2 : Nat) (y4 : Nat) (y3 : List AV) (y6 : List AV)  : Option R := (law44_JournalTears_q1B N r0 c0 n0 t0 o0 c1 n1 t1 o1 i2 y2 y4 y3 y6)
noncomputable def law44_JournalTears_q0B {R : Type} (N : Nat)  (r0 : Bool → Option R) (c0 : List AV) (n0 : Nat) (t0 : Bool) (o0 : Bool) (c1 : List AV) (n1 : Nat) (t1 : Bool) (o1 : Bool) (i2 : Int)  (q1 : Nat → Nat → List AV → List AV → Option R)  : Option R :=
  (law44_disk N c0 n0 false o0 (fun y2 y3 => (journal_Append N (List.take (y2 * 1) y3) y2 false true c1 n1 false o1 (fun y4 y5 y6 => (law44_awake N (fun y7 => (cond ((!y7) == false) (cond ((cond false true (y5 != (0 : Int))) == false) (cond (cond false true (decide (((y4 : Nat) : Int) ≤ ((y2 : Nat) : Int)))) (r0 false) (q1 y2 y4 y3 y6)) (r0 false)) (r0 false))))))))
noncomputable def law44_JournalTears_q0 {R : Type} (N : Nat)  (r0 : Bool → Option R) (c0 : List AV) (n0 : Nat) (t0 : Bool) (o0 : Bool) (c1 : List AV) (n1 : Nat) (t1 : Bool) (o1 : Bool) (i2 : Int)  : Option R := (law44_JournalTears_q0B N r0 c0 n0 t0 o0 c1 n1 t1 o1 i2 (fun y2 y4 y3 y6 => (law44_JournalTears_q1 N r0 c0 n0 t0 o0 c1 n1 t1 o1 i2 y2 y4 y3 y6)))
noncomputable def law44_JournalTearsB {R : Type} (N : Nat) (r0 : Bool → Option R) (q0 : Option R) (c0 : List AV) (n0 : Nat) (t0 : Bool) (o0 : Bool) (c1 : List AV) (n1 : Nat) (t1 : Bool) (o1 : Bool) (i2 : Int) : Option R :=
  (law44_light N c0 n0 false o0 (fun y1 => (cond ((!y1) == false) (cond (cond false true (decide (((n1 : Nat) : Int) > (200 : Int)))) (r0 true) q0) (r0 true))))
noncomputable def law44_JournalTearsi {R : Type} (N : Nat) (c0 : List AV) (n0 : Nat) (t0 : Bool) (o0 : Bool) (c1 : List AV) (n1 : Nat) (t1 : Bool) (o1 : Bool) (i2 : Int) (r0 : Bool → Option R) : Option R := (law44_JournalTearsB N r0 (law44_JournalTears_q0 N r0 c0 n0 t0 o0 c1 n1 t1 o1 i2) c0 n0 t0 o0 c1 n1 t1 o1 i2)
noncomputable def law44_JournalTears {R : Type} := (shut (@law44_JournalTearsi R)).1
theorem law44_JournalTears_def {R : Type} : @law44_JournalTears R = @law44_JournalTearsi R := (shut _).2
noncomputable def law44_JournalTears_hs : Hints := { H := (.node [] (.node [0, 1, 2] .leaf .leaf) (.join (.node [] (.node [0, 1, 2, 20] .leaf .leaf) (.node [0, 1, 2] (.node [] (.node [6] .leaf .leaf) .leaf) .leaf)) (.node [] (.node [0, 1, 2, 7] .leaf .leaf) (.node [] (.node [0, 1, 2, 7, 8, 9] .leaf .leaf) (.join (.node [] (.node [0, 1, 2, 7, 8, 41] .leaf .leaf) (.node [0, 1, 2, 7, 8] (.node [] (.node [6] .leaf .leaf) .leaf) .leaf)) (.node [] (.node [0, 1, 7, 8, 10] .leaf .leaf) (.node [] (.node [0, 1, 7, 8, 10, 11, 12] .leaf .leaf) (.node [] (.node [] (.node [0, 1, 7, 10, 11, 12, 63] .leaf .leaf) (.node [0, 7, 11, 12] (.node [] (.node [6] .leaf .leaf) .leaf) .leaf)) (.node [] (.node [6] .leaf .leaf) .leaf))))))))), nils := [], modes := [], free := [] }
noncomputable def law44_JournalTears_T (N : Nat) : List (Nat × Tw) := [(16, law44_light_Tw N), (17, law44_disk_Tw N), (21, journal_Append_Tw N), (10, law44_awake_Tw N), (13, mk_Mod_Tw N), (18, journal_Recover_v2_Tw N), (19, ref44_Same_Tw N)]
noncomputable def law44_JournalTears_E (N : Nat) : Env := { P := Try.prog, nt := 103, muts := muts, nils := law44_JournalTears_hs.nils, free := law44_JournalTears_hs.free, tbl := law44_JournalTears_T N }
noncomputable def law44_JournalTears_fin {R : Type} (N : Nat) (F : AV → Heap → Option R) : St → Option R := afinish (law44_JournalTears_E N) Try.f8 law44_JournalTears_hs.modes [] F
noncomputable def law44_JournalTears_at {R : Type} (N : Nat) (F : AV → Heap → Option R) (p : List Nat) (ks : List (St → Option R)) : Cut R := atC (law44_JournalTears_E N) [] N p (bodyOf Try.f8) law44_JournalTears_hs.H (law44_JournalTears_fin N F) (fun _ _ => none) (law44_JournalTears_fin N F) ks
def law44_JournalTears_s1 (c0 : List AV) (n0 : Nat) (t0 : Bool) (o0 : Bool) (c1 : List AV) (n1 : Nat) (t1 : Bool) (o1 : Bool) (i2 : Int) (y2 : Nat) (y4 : Nat) (y3 : List AV) (y6 : List AV) : St := { s := [(0, (.imm c0 n0 1 t0 o0)), (1, (.imm c1 n1 1 t1 o1)), (2, (.int .i64 i2)), (7, (.own 300000 0 y2)), (8, (.own 300001 0 y4))], h := [(300000, ⟨false, false, true, false, 1, y3⟩), (300001, ⟨false, false, true, false, 1, y6⟩)] }
def law44_JournalTears_s0 (c0 : List AV) (n0 : Nat) (t0 : Bool) (o0 : Bool) (c1 : List AV) (n1 : Nat) (t1 : Bool) (o1 : Bool) (i2 : Int) : St := { s := [(0, (.imm c0 n0 1 t0 o0)), (1, (.imm c1 n1 1 t1 o1)), (2, (.int .i64 i2))], h := [] }
theorem law44_JournalTears_q1_eq {R : Type} (N : Nat)  (F : AV → Heap → Option R) (c0 : List AV) (n0 : Nat) (t0 : Bool) (o0 : Bool) (c1 : List AV) (n1 : Nat) (t1 : Bool) (o1 : Bool) (i2 : Int) (y2 : Nat) (y4 : Nat) (y3 : List AV) (y6 : List AV) : joinIn (law44_JournalTears_E N) [] N (law44_JournalTears_at N F [1, 1, 1, 1, 1] []) (law44_JournalTears_s1 c0 n0 t0 o0 c1 n1 t1 o1 i2 y2 y4 y3 y6) = (law44_JournalTears_q1 N (fun zb0 => F (.bool zb0) []) c0 n0 t0 o0 c1 n1 t1 o1 i2 y2 y4 y3 y6) := by
  have h0 : joinIn (law44_JournalTears_E N) [] N (law44_JournalTears_at N F [1, 1, 1, 1, 1] []) (law44_JournalTears_s1 c0 n0 t0 o0 c1 n1 t1 o1 i2 y2 y4 y3 y6) = (law44_JournalTears_q1B N (fun zb0 => F (.bool zb0) []) c0 n0 t0 o0 c1 n1 t1 o1 i2 y2 y4 y3 y6) := by kernel_rfl
  exact h0
theorem law44_JournalTears_q0_eq {R : Type} (N : Nat)  (F : AV → Heap → Option R) (c0 : List AV) (n0 : Nat) (t0 : Bool) (o0 : Bool) (c1 : List AV) (n1 : Nat) (t1 : Bool) (o1 : Bool) (i2 : Int) : joinIn (law44_JournalTears_E N) [] N (law44_JournalTears_at N F [1, 1] []) (law44_JournalTears_s0 c0 n0 t0 o0 c1 n1 t1 o1 i2) = (law44_JournalTears_q0 N (fun zb0 => F (.bool zb0) []) c0 n0 t0 o0 c1 n1 t1 o1 i2) := by
  have e1 : (fun y2 y4 y3 y6 => joinAt (law44_JournalTears_E N) [] N (law44_JournalTears_at N F [1, 1, 1, 1, 1] []) (law44_JournalTears_s1 c0 n0 t0 o0 c1 n1 t1 o1 i2 y2 y4 y3 y6)) = (fun y2 y4 y3 y6 => (law44_JournalTears_q1 N (fun zb0 => F (.bool zb0) []) c0 n0 t0 o0 c1 n1 t1 o1 i2 y2 y4 y3 y6)) := by funext y2; funext y4; funext y3; funext y6; exact (joinAt_eq ..).trans (law44_JournalTears_q1_eq N F c0 n0 t0 o0 c1 n1 t1 o1 i2 y2 y4 y3 y6)
  have h0 : joinIn (law44_JournalTears_E N) [] N (law44_JournalTears_at N F [1, 1] []) (law44_JournalTears_s0 c0 n0 t0 o0 c1 n1 t1 o1 i2) = (law44_JournalTears_q0B N (fun zb0 => F (.bool zb0) []) c0 n0 t0 o0 c1 n1 t1 o1 i2 (fun y2 y4 y3 y6 => joinAt (law44_JournalTears_E N) [] N (law44_JournalTears_at N F [1, 1, 1, 1, 1] []) (law44_JournalTears_s1 c0 n0 t0 o0 c1 n1 t1 o1 i2 y2 y4 y3 y6))) := by kernel_rfl
  exact (h0).trans (congrArg (fun z => (law44_JournalTears_q0B N (fun zb0 => F (.bool zb0) []) c0 n0 t0 o0 c1 n1 t1 o1 i2 z)) e1)
theorem law44_JournalTears_eq {R : Type} (N : Nat) (c0 : List AV) (n0 : Nat) (t0 : Bool) (o0 : Bool) (c1 : List AV) (n1 : Nat) (t1 : Bool) (o1 : Bool) (i2 : Int) (F : AV → Heap → Option R) : execF Try.prog muts (law44_JournalTears_T N) law44_JournalTears_hs N 8 [(.imm c0 n0 1 t0 o0), (.imm c1 n1 1 t1 o1), (.int .i64 i2)] [] F = (law44_JournalTears N c0 n0 t0 o0 c1 n1 t1 o1 i2 (fun zb0 => F (.bool zb0) [])) := by
  have e1 : (joinAt (law44_JournalTears_E N) [] N (law44_JournalTears_at N F [1, 1] []) (law44_JournalTears_s0 c0 n0 t0 o0 c1 n1 t1 o1 i2)) = (law44_JournalTears_q0 N (fun zb0 => F (.bool zb0) []) c0 n0 t0 o0 c1 n1 t1 o1 i2) := by exact (joinAt_eq ..).trans (law44_JournalTears_q0_eq N F c0 n0 t0 o0 c1 n1 t1 o1 i2)
  have h0 : execF Try.prog muts (law44_JournalTears_T N) law44_JournalTears_hs N 8 [(.imm c0 n0 1 t0 o0), (.imm c1 n1 1 t1 o1), (.int .i64 i2)] [] F = (law44_JournalTearsB N (fun zb0 => F (.bool zb0) []) (joinAt (law44_JournalTears_E N) [] N (law44_JournalTears_at N F [1, 1] []) (law44_JournalTears_s0 c0 n0 t0 o0 c1 n1 t1 o1 i2)) c0 n0 t0 o0 c1 n1 t1 o1 i2) := by kernel_rfl
  rw [law44_JournalTears_def]
  exact (h0).trans (congrArg (fun z => (law44_JournalTearsB N (fun zb0 => F (.bool zb0) []) z c0 n0 t0 o0 c1 n1 t1 o1 i2)) e1)
noncomputable def law44_JournalTears_run {R : Type} (N : Nat) (args : List AV) (h : Heap) (k : AV → Heap → Option R) : Option R :=
  match args, h with
  | [(.imm c0 n0 1 t0 o0), (.imm c1 n1 1 t1 o1), (.int .i64 i2)], [] => (law44_JournalTears N c0 n0 t0 o0 c1 n1 t1 o1 i2 (fun zb0 => k (.bool zb0) []))
  | _, _ => none
noncomputable def law44_JournalTears_Tw (N : Nat) : Tw where
  runK := law44_JournalTears_run N
  eq := by
    intro R args h k
    unfold law44_JournalTears_run
    split
    · exact (law44_JournalTears_eq ..).symm.trans ((execF_bind ..).trans (congrArg (Option.bind · _) (law44_JournalTears_eq ..)))
    · rfl
theorem law44_JournalTears_ok (N : Nat) : TwOk Try.prog 8 (law44_JournalTears_Tw N) := by
  intro args h res h1 hh0
  have hh : law44_JournalTears_run N args h (fun v h1 => some (v, h1)) = some (res, h1) := hh0
  unfold law44_JournalTears_run at hh
  split at hh
  · exact execF_sound (T := law44_JournalTears_T N) ⟨law44_light_ok N, law44_disk_ok N, journal_Append_ok N, law44_awake_ok N, mk_Mod_ok N, journal_Recover_v2_ok N, ref44_Same_ok N, trivial⟩ follows ((law44_JournalTears_eq ..).trans hh)
  · cases hh
/- gridmarket/gridmarketlaw44.JournalFull -/
noncomputable def law44_JournalFull_q1B {R : Type} (N : Nat)  (r0 : Bool → Option R) (c0 : List AV) (n0 : Nat) (t0 : Bool) (o0 : Bool) (g0_i5 : Int) (g0_n6 : Nat) (y4 : Nat) (y5 : Int) (g0_h0 : List AV) (y6 : List AV)    : Option R :=
  (cond (g0_i5 == (1024 : Int)) (cond ((y5 == (19 : Int)) == true) (r0 (cond true (((y4 : Nat) : Int) == (0 : Int)) false)) (r0 false)) (cond ((y5 == (0 : Int)) == true) (r0 (cond true (((y4 : Nat) : Int) == (IntKind.wrap .i64 ((IntKind.wrap .i64 (((g0_n6 : Nat) : Int) + (16 : Int))) + ((n0 : Nat) : Int)))) false)) (r0 false)))
noncomputable def law44_JournalFull_q1 {R : Type} (N : Nat)  (r0 : Bool → Option R) (c0 : List AV) (n0 : Nat) (t0 : Bool) (o0 : Bool) (g0_i5 : Int) (g0_n6 : Nat) (y4 : Nat) (y5 : Int) (g0_h0 : List AV) (y6 : List AV)  : Option R := (law44_JournalFull_q1B N r0 c0 n0 t0 o0 g0_i5 g0_n6 y4 y5 g0_h0 y6)
noncomputable def law44_JournalFull_q0B {R : Type} (N : Nat)  (r0 : Bool → Option R) (c0 : List AV) (n0 : Nat) (t0 : Bool) (o0 : Bool) (k0 : Int → Nat → Int → List AV → Option R) (q1 : Nat → Int → List AV → Option R) (g0_i5 : Int) (g0_n6 : Nat) (g0_i7 : Int) (g0_h0 : List AV) : Option R :=
  (cond (decide (g0_i7 < g0_i5)) (ref44_Record N g0_i7 c0 n0 false o0 (fun y2 y3 => (cond ((Nat.ble (g0_n6 + y2) 140737488355328) && (Nat.ble ((g0_n6 + y2) * 1) 140737488355328)) (k0 g0_i5 (g0_n6 + y2) (IntKind.wrap .i64 (g0_i7 + (1 : Int))) ((List.take (g0_n6 * 1) g0_h0) ++ (List.take (y2 * 1) y3))) none))) (journal_Append N (List.take (g0_n6 * 1) g0_h0) g0_n6 false true c0 n0 false o0 (fun y4 y5 y6 => (journal_Recover_v2 N (List.take (g0_n6 * 1) g0_h0) g0_n6 false true (fun y7 y8 y9 => (law44_awake N (fun y10 => (cond ((!y10) == false) (cond ((cond false true (((y8 : Nat) : Int) != g0_i5)) == false) (cond (cond false true (y9 != ((g0_n6 : Nat) : Int))) (r0 false) (q1 y4 y5 y6)) (r0 false)) (r0 false)))))))))
noncomputable def law44_JournalFull_q0 {R : Type} (N : Nat)  (r0 : Bool → Option R) (c0 : List AV) (n0 : Nat) (t0 : Bool) (o0 : Bool) : Nat → Int → Nat → Int → List AV → Option R
  | 0, _, _, _, _ => none
  | n + 1, g0_i5, g0_n6, g0_i7, g0_h0 => (law44_JournalFull_q0B N r0 c0 n0 t0 o0 (law44_JournalFull_q0 N r0 c0 n0 t0 o0 n) (fun y4 y5 y6 => (law44_JournalFull_q1 N r0 c0 n0 t0 o0 g0_i5 g0_n6 y4 y5 g0_h0 y6)) g0_i5 g0_n6 g0_i7 g0_h0)
noncomputable def law44_JournalFullB {R : Type} (N : Nat) (r0 : Bool → Option R) (q0 : Int → Nat → Int → List AV → Option R) (c0 : List AV) (n0 : Nat) (t0 : Bool) (o0 : Bool) (i1 : Int) : Option R :=
  (cond (decide (((n0 : Nat) : Int) > (4 : Int))) (r0 true) (mk_Mod N i1 (3 : Int) (fun y1 => (q0 (IntKind.wrap .i64 ((1024 : Int) - y1)) 0 (0 : Int) []))))
noncomputable def law44_JournalFulli {R : Type} (N : Nat) (c0 : List AV) (n0 : Nat) (t0 : Bool) (o0 : Bool) (i1 : Int) (r0 : Bool → Option R) : Option R := (law44_JournalFullB N r0 (fun g0_i5 g0_n6 g0_i7 g0_h0 => (law44_JournalFull_q0 N r0 c0 n0 t0 o0 N g0_i5 g0_n6 g0_i7 g0_h0)) c0 n0 t0 o0 i1)
noncomputable def law44_JournalFull {R : Type} := (shut (@law44_JournalFulli R)).1
theorem law44_JournalFull_def {R : Type} : @law44_JournalFull R = @law44_JournalFulli R := (shut _).2
noncomputable def law44_JournalFull_hs : Hints := { H := (.node [] (.node [0, 1] .leaf .leaf) (.node [] (.node [] (.node [0, 1, 14] .leaf .leaf) (.node [0, 1] (.node [] (.node [4] .leaf .leaf) .leaf) .leaf)) (.node [] (.node [0, 5] .leaf .leaf) (.node [] (.node [0, 5, 6] .leaf .leaf) (.node [] (.node [] (.node [0, 5, 6, 7] .leaf .leaf) (.node [0, 5, 6] (.node [0, 5, 6, 7] (.node [] (.node [] (.node [0, 5, 6, 7, 20] .leaf .leaf) (.node [0, 5, 6, 7] .leaf .leaf)) (.node [] (.node [0, 5, 6, 7] (.node [0, 5, 6, 7] .leaf .leaf) .leaf) (.node [0, 5, 6, 7] .leaf .leaf))) .leaf) .leaf)) (.node [] (.node [0, 5, 6, 8, 9] .leaf .leaf) (.node [] (.node [0, 5, 6, 8, 9, 10, 11] .leaf .leaf) (.join (.node [] (.node [0, 5, 6, 8, 9, 52] .leaf .leaf) (.node [0, 5, 6, 8, 9] (.node [] (.node [4] .leaf .leaf) .leaf) .leaf)) (.node [] (.node [] (.node [0, 6, 8, 9, 54] .leaf .leaf) (.node [0, 6, 8, 9] (.node [] (.node [4] .leaf .leaf) .leaf) .leaf)) (.node [] (.node [4] .leaf .leaf) .leaf)))))))))), nils := [(6, 1)], modes := [], free := [] }
noncomputable def law44_JournalFull_T (N : Nat) : List (Nat × Tw) := [(13, mk_Mod_Tw N), (23, ref44_Record_Tw N), (21, journal_Append_Tw N), (18, journal_Recover_v2_Tw N), (10, law44_awake_Tw N)]
noncomputable def law44_JournalFull_E (N : Nat) : Env := { P := Try.prog, nt := 75, muts := muts, nils := law44_JournalFull_hs.nils, free := law44_JournalFull_hs.free, tbl := law44_JournalFull_T N }
noncomputable def law44_JournalFull_fin {R : Type} (N : Nat) (F : AV → Heap → Option R) : St → Option R := afinish (law44_JournalFull_E N) Try.f9 law44_JournalFull_hs.modes [] F
noncomputable def law44_JournalFull_at {R : Type} (N : Nat) (F : AV → Heap → Option R) (p : List Nat) (ks : List (St → Option R)) : Cut R := atC (law44_JournalFull_E N) [] N p (bodyOf Try.f9) law44_JournalFull_hs.H (law44_JournalFull_fin N F) (fun _ _ => none) (law44_JournalFull_fin N F) ks
def law44_JournalFull_s1 (c0 : List AV) (n0 : Nat) (t0 : Bool) (o0 : Bool) (g0_i5 : Int) (g0_n6 : Nat) (y4 : Nat) (y5 : Int) (g0_h0 : List AV) (y6 : List AV) : St := { s := [(0, (.imm c0 n0 1 t0 o0)), (5, (.int .i64 g0_i5)), (6, (.own 300000 0 g0_n6)), (8, (.own 300001 0 y4)), (9, (.int .i64 y5))], h := [(300000, ⟨false, false, true, false, 1, g0_h0⟩), (300001, ⟨false, false, true, false, 1, y6⟩)] }
def law44_JournalFull_s0 (c0 : List AV) (n0 : Nat) (t0 : Bool) (o0 : Bool) (g0_i5 : Int) (g0_n6 : Nat) (g0_i7 : Int) (g0_h0 : List AV) : St := { s := [(0, (.imm c0 n0 1 t0 o0)), (5, (.int .i64 g0_i5)), (6, (.own 300000 0 g0_n6)), (7, (.int .i64 g0_i7))], h := [(300000, ⟨false, false, true, false, 1, g0_h0⟩)] }
theorem law44_JournalFull_q1_eq {R : Type} (N : Nat)  (F : AV → Heap → Option R) (c0 : List AV) (n0 : Nat) (t0 : Bool) (o0 : Bool) (g0_i5 : Int) (g0_n6 : Nat) (y4 : Nat) (y5 : Int) (g0_h0 : List AV) (y6 : List AV) : joinIn (law44_JournalFull_E N) [] N (law44_JournalFull_at N F [1, 1, 1, 1, 1, 1, 1, 1] []) (law44_JournalFull_s1 c0 n0 t0 o0 g0_i5 g0_n6 y4 y5 g0_h0 y6) = (law44_JournalFull_q1 N (fun zb0 => F (.bool zb0) []) c0 n0 t0 o0 g0_i5 g0_n6 y4 y5 g0_h0 y6) := by
  have h0 : joinIn (law44_JournalFull_E N) [] N (law44_JournalFull_at N F [1, 1, 1, 1, 1, 1, 1, 1] []) (law44_JournalFull_s1 c0 n0 t0 o0 g0_i5 g0_n6 y4 y5 g0_h0 y6) = (law44_JournalFull_q1B N (fun zb0 => F (.bool zb0) []) c0 n0 t0 o0 g0_i5 g0_n6 y4 y5 g0_h0 y6) := by kernel_rfl
  exact h0
theorem law44_JournalFull_q0_eq {R : Type} (N : Nat)  (F : AV → Heap → Option R) (c0 : List AV) (n0 : Nat) (t0 : Bool) (o0 : Bool) : ∀ (n : Nat) (g0_i5 : Int) (g0_n6 : Nat) (g0_i7 : Int) (g0_h0 : List AV), loopAt (law44_JournalFull_E N) [] N (law44_JournalFull_at N F [1, 1, 1, 1, 0, 1, 0] []) n (law44_JournalFull_s0 c0 n0 t0 o0 g0_i5 g0_n6 g0_i7 g0_h0) = (law44_JournalFull_q0 N (fun zb0 => F (.bool zb0) []) c0 n0 t0 o0 n g0_i5 g0_n6 g0_i7 g0_h0) := by
  intro n
  induction n with
  | zero => intros; rfl
  | succ n ih =>
    intro g0_i5 g0_n6 g0_i7 g0_h0
    have e0 : (fun g0_i5 g0_n6 g0_i7 g0_h0 => loopAt (law44_JournalFull_E N) [] N (law44_JournalFull_at N F [1, 1, 1, 1, 0, 1, 0] []) n (law44_JournalFull_s0 c0 n0 t0 o0 g0_i5 g0_n6 g0_i7 g0_h0)) = (law44_JournalFull_q0 N (fun zb0 => F (.bool zb0) []) c0 n0 t0 o0 n) := by funext g0_i5; funext g0_n6; funext g0_i7; funext g0_h0; exact ih g0_i5 g0_n6 g0_i7 g0_h0
    have e1 : (fun y4 y5 y6 => joinAt (law44_JournalFull_E N) [] N (law44_JournalFull_at N F [1, 1, 1, 1, 1, 1, 1, 1] []) (law44_JournalFull_s1 c0 n0 t0 o0 g0_i5 g0_n6 y4 y5 g0_h0 y6)) = (fun y4 y5 y6 => (law44_JournalFull_q1 N (fun zb0 => F (.bool zb0) []) c0 n0 t0 o0 g0_i5 g0_n6 y4 y5 g0_h0 y6)) := by funext y4; funext y5; funext y6; exact ((joinAt_eq ..).trans (law44_JournalFull_q1_eq N F c0 n0 t0 o0 g0_i5 g0_n6 y4 y5 g0_h0 y6))
    have h0 : loopAt (law44_JournalFull_E N) [] N (law44_JournalFull_at N F [1, 1, 1, 1, 0, 1, 0] []) (n + 1) (law44_JournalFull_s0 c0 n0 t0 o0 g0_i5 g0_n6 g0_i7 g0_h0) = (law44_JournalFull_q0B N (fun zb0 => F (.bool zb0) []) c0 n0 t0 o0 (fun g0_i5 g0_n6 g0_i7 g0_h0 => loopAt (law44_JournalFull_E N) [] N (law44_JournalFull_at N F [1, 1, 1, 1, 0, 1, 0] []) n (law44_JournalFull_s0 c0 n0 t0 o0 g0_i5 g0_n6 g0_i7 g0_h0)) (fun y4 y5 y6 => joinAt (law44_JournalFull_E N) [] N (law44_JournalFull_at N F [1, 1, 1, 1, 1, 1, 1, 1] []) (law44_JournalFull_s1 c0 n0 t0 o0 g0_i5 g0_n6 y4 y5 g0_h0 y6)) g0_i5 g0_n6 g0_i7 g0_h0) := by kernel_rfl
    exact ((h0).trans (congrArg (fun z => (law44_JournalFull_q0B N (fun zb0 => F (.bool zb0) []) c0 n0 t0 o0 z (fun y4 y5 y6 => joinAt (law44_JournalFull_E N) [] N (law44_JournalFull_at N F [1, 1, 1, 1, 1, 1, 1, 1] []) (law44_JournalFull_s1 c0 n0 t0 o0 g0_i5 g0_n6 y4 y5 g0_h0 y6)) g0_i5 g0_n6 g0_i7 g0_h0)) e0)).trans (congrArg (fun z => (law44_JournalFull_q0B N (fun zb0 => F (.bool zb0) []) c0 n0 t0 o0 (law44_JournalFull_q0 N (fun zb0 => F (.bool zb0) []) c0 n0 t0 o0 n) z g0_i5 g0_n6 g0_i7 g0_h0)) e1)
theorem law44_JournalFull_eq {R : Type} (N : Nat) (c0 : List AV) (n0 : Nat) (t0 : Bool) (o0 : Bool) (i1 : Int) (F : AV → Heap → Option R) : execF Try.prog muts (law44_JournalFull_T N) law44_JournalFull_hs N 9 [(.imm c0 n0 1 t0 o0), (.int .i64 i1)] [] F = (law44_JournalFull N c0 n0 t0 o0 i1 (fun zb0 => F (.bool zb0) [])) := by
  have e1 : (fun g0_i5 g0_n6 g0_i7 g0_h0 => loopW (law44_JournalFull_E N) [] N (law44_JournalFull_at N F [1, 1, 1, 1, 0, 1, 0] []) N (law44_JournalFull_s0 c0 n0 t0 o0 g0_i5 g0_n6 g0_i7 g0_h0)) = (fun g0_i5 g0_n6 g0_i7 g0_h0 => (law44_JournalFull_q0 N (fun zb0 => F (.bool zb0) []) c0 n0 t0 o0 N g0_i5 g0_n6 g0_i7 g0_h0)) := by funext g0_i5; funext g0_n6; funext g0_i7; funext g0_h0; exact (loopW_eq ..).trans (law44_JournalFull_q0_eq N F c0 n0 t0 o0 N g0_i5 g0_n6 g0_i7 g0_h0)
  have h0 : execF Try.prog muts (law44_JournalFull_T N) law44_JournalFull_hs N 9 [(.imm c0 n0 1 t0 o0), (.int .i64 i1)] [] F = (law44_JournalFullB N (fun zb0 => F (.bool zb0) []) (fun g0_i5 g0_n6 g0_i7 g0_h0 => loopW (law44_JournalFull_E N) [] N (law44_JournalFull_at N F [1, 1, 1, 1, 0, 1, 0] []) N (law44_JournalFull_s0 c0 n0 t0 o0 g0_i5 g0_n6 g0_i7 g0_h0)) c0 n0 t0 o0 i1) := by kernel_rfl
  rw [law44_JournalFull_def]
  exact (h0).trans (congrArg (fun z => (law44_JournalFullB N (fun zb0 => F (.bool zb0) []) z c0 n0 t0 o0 i1)) e1)
noncomputable def law44_JournalFull_run {R : Type} (N : Nat) (args : List AV) (h : Heap) (k : AV → Heap → Option R) : Option R :=
  match args, h with
  | [(.imm c0 n0 1 t0 o0), (.int .i64 i1)], [] => (law44_JournalFull N c0 n0 t0 o0 i1 (fun zb0 => k (.bool zb0) []))
  | _, _ => none
noncomputable def law44_JournalFull_Tw (N : Nat) : Tw where
  runK := law44_JournalFull_run N
  eq := by
    intro R args h k
    unfold law44_JournalFull_run
    split
    · exact (law44_JournalFull_eq ..).symm.trans ((execF_bind ..).trans (congrArg (Option.bind · _) (law44_JournalFull_eq ..)))
    · rfl
theorem law44_JournalFull_ok (N : Nat) : TwOk Try.prog 9 (law44_JournalFull_Tw N) := by
  intro args h res h1 hh0
  have hh : law44_JournalFull_run N args h (fun v h1 => some (v, h1)) = some (res, h1) := hh0
  unfold law44_JournalFull_run at hh
  split at hh
  · exact execF_sound (T := law44_JournalFull_T N) ⟨mk_Mod_ok N, ref44_Record_ok N, journal_Append_ok N, journal_Recover_v2_ok N, law44_awake_ok N, trivial⟩ follows ((law44_JournalFull_eq ..).trans hh)
  · cases hh
/- gridmarket/gridmarketlaw44.JournalBursts -/
noncomputable def law44_JournalBursts_q3B {R : Type} (N : Nat) (k2 : Int → List AV → Option R) (r0 : Bool → Option R) (c0 : List AV) (n0 : Nat) (t0 : Bool) (o0 : Bool) (y9 : Int) (y6 : Nat) (g1_i8 : Int) (o2 : Bool) (c2 : List AV)   (g3_i9 : Int) (g3_h1 : List AV) : Option R :=
  (cond (inIdx (IntKind.wrap .i64 ((IntKind.wrap .i64 (y9 + g3_i9)) - g1_i8)) y6) (rdI .u8 (List.drop (0 + ((Int.toNat (IntKind.wrap .i64 ((IntKind.wrap .i64 (y9 + g3_i9)) - g1_i8))) * 1)) g3_h1) fun x10 => (cond (inIdx g3_i9 4) (rdI .u8 (List.drop (0 + ((Int.toNat g3_i9) * 1)) c2) fun x11 => (cond (inIdx (IntKind.wrap .i64 ((IntKind.wrap .i64 (y9 + g3_i9)) - g1_i8)) y6) (cond ((Nat.beq 1 1) && ((Nat.ble ((0 + ((Int.toNat (IntKind.wrap .i64 ((IntKind.wrap .i64 (y9 + g3_i9)) - g1_i8))) * 1)) + 1) (List.length g3_h1)) && (!false))) (k2 (IntKind.wrap .i64 (g3_i9 + (1 : Int))) (List.set g3_h1 (0 + ((Int.toNat (IntKind.wrap .i64 ((IntKind.wrap .i64 (y9 + g3_i9)) - g1_i8))) * 1)) (.int .u8 (bitXor .u8 x10 x11)))) none) none)) none)) none)
noncomputable def law44_JournalBursts_q3 {R : Type} (N : Nat) (k2 : Int → List AV → Option R) (r0 : Bool → Option R) (c0 : List AV) (n0 : Nat) (t0 : Bool) (o0 : Bool) (y9 : Int) (y6 : Nat) (g1_i8 : Int) (o2 : Bool) (c2 : List AV) (g3_i9 : Int) (g3_h1 : List AV) : Option R := (law44_JournalBursts_q3B N k2 r0 c0 n0 t0 o0 y9 y6 g1_i8 o2 c2 g3_i9 g3_h1)
noncomputable def law44_JournalBursts_q4B {R : Type} (N : Nat)  (r0 : Bool → Option R) (c0 : List AV) (n0 : Nat) (t0 : Bool) (o0 : Bool) (y9 : Int) (y6 : Nat) (k4 : Int → Int → List AV → Option R)  (g4_i10 : Int) (g4_i11 : Int) (g4_h0 : List AV) : Option R :=
  (cond ((decide (g4_i10 < ((n0 : Nat) : Int))) == true) (cond (inIdx g4_i10 n0) (rdL 1 (List.drop ((Int.toNat g4_i10) * 1) c0) fun l12 m13 => (cond (cond true (decide ((IntKind.wrap .i64 ((IntKind.wrap .i64 (g4_i11 + (16 : Int))) + ((m13 : Nat) : Int))) ≤ y9)) false) (cond (inIdx g4_i10 n0) (rdL 1 (List.drop ((Int.toNat g4_i10) * 1) c0) fun l14 m15 => (k4 (IntKind.wrap .i64 (g4_i10 + (1 : Int))) (IntKind.wrap .i64 ((IntKind.wrap .i64 (g4_i11 + (16 : Int))) + ((m15 : Nat) : Int))) g4_h0)) none) (journal_Recover_v2 N (List.take (y6 * 1) g4_h0) y6 false true (fun y16 y17 y18 => (law44_awake N (fun y19 => (cond (y19 == true) (cond ((cond true (y18 == g4_i11) false) == true) (cond ((decide ((0 : Int) ≤ (0 : Int))) && ((decide ((0 : Int) ≤ g4_i10)) && ((decide (g4_i10 ≤ ((n0 : Nat) : Int))) && (decide (((n0 : Nat) : Int) ≤ ((n0 : Nat) : Int)))))) (ref44_Same N y16 y17 false false (List.take ((Int.toNat g4_i10) * 1) c0) (Int.toNat g4_i10) false o0 (fun y20 => (r0 (cond true y20 false)))) none) (r0 false)) (r0 false)))))))) none) (journal_Recover_v2 N (List.take (y6 * 1) g4_h0) y6 false true (fun y21 y22 y23 => (law44_awake N (fun y24 => (cond (y24 == true) (cond ((cond true (y23 == g4_i11) false) == true) (cond ((decide ((0 : Int) ≤ (0 : Int))) && ((decide ((0 : Int) ≤ g4_i10)) && ((decide (g4_i10 ≤ ((n0 : Nat) : Int))) && (decide (((n0 : Nat) : Int) ≤ ((n0 : Nat) : Int)))))) (ref44_Same N y21 y22 false false (List.take ((Int.toNat g4_i10) * 1) c0) (Int.toNat g4_i10) false o0 (fun y25 => (r0 (cond true y25 false)))) none) (r0 false)) (r0 false)))))))
noncomputable def law44_JournalBursts_q4 {R : Type} (N : Nat)  (r0 : Bool → Option R) (c0 : List AV) (n0 : Nat) (t0 : Bool) (o0 : Bool) (y9 : Int) (y6 : Nat) : Nat → Int → Int → List AV → Option R
  | 0, _, _, _ => none
  | n + 1, g4_i10, g4_i11, g4_h0 => (law44_JournalBursts_q4B N r0 c0 n0 t0 o0 y9 y6 (law44_JournalBursts_q4 N r0 c0 n0 t0 o0 y9 y6 n) g4_i10 g4_i11 g4_h0)
noncomputable def law44_JournalBursts_q2B {R : Type} (N : Nat)  (r0 : Bool → Option R) (c0 : List AV) (n0 : Nat) (t0 : Bool) (o0 : Bool) (y9 : Int) (y6 : Nat) (g1_i8 : Int) (o2 : Bool) (c2 : List AV) (k2 : Int → List AV → Option R) (q3 : Int → List AV → Option R) (q4 : Int → Int → List AV → Option R) (g2_i9 : Int) (g2_h1 : List AV) : Option R :=
  (cond ((decide (g2_i9 < (4 : Int))) == true) (cond (cond true (decide ((IntKind.wrap .i64 ((IntKind.wrap .i64 (y9 + g2_i9)) - g1_i8)) < ((y6 : Nat) : Int))) false) (q3 g2_i9 g2_h1) (q4 (0 : Int) (0 : Int) g2_h1)) (q4 (0 : Int) (0 : Int) g2_h1))
noncomputable def law44_JournalBursts_q2 {R : Type} (N : Nat)  (r0 : Bool → Option R) (c0 : List AV) (n0 : Nat) (t0 : Bool) (o0 : Bool) (y9 : Int) (y6 : Nat) (g1_i8 : Int) (o2 : Bool) (c2 : List AV) : Nat → Int → List AV → Option R
  | 0, _, _ => none
  | n + 1, g2_i9, g2_h1 => (law44_JournalBursts_q2B N r0 c0 n0 t0 o0 y9 y6 g1_i8 o2 c2 (law44_JournalBursts_q2 N r0 c0 n0 t0 o0 y9 y6 g1_i8 o2 c2 n) (fun g3_i9 g3_h1 => (law44_JournalBursts_q3 N (law44_JournalBursts_q2 N r0 c0 n0 t0 o0 y9 y6 g1_i8 o2 c2 n) r0 c0 n0 t0 o0 y9 y6 g1_i8 o2 c2 g3_i9 g3_h1)) (fun g4_i10 g4_i11 g4_h0 => (law44_JournalBursts_q4 N r0 c0 n0 t0 o0 y9 y6 N g4_i10 g4_i11 g4_h0)) g2_i9 g2_h1)
noncomputable def law44_JournalBursts_q1B {R : Type} (N : Nat)  (r0 : Bool → Option R) (c0 : List AV) (n0 : Nat) (t0 : Bool) (o0 : Bool) (i1 : Int) (y6 : Nat) (o2 : Bool) (c2 : List AV) (y7 : List AV) (k1 : Int → Option R) (q2 : Int → Int → List AV → Option R) (g1_i8 : Int) : Option R :=
  (cond (inIdx g1_i8 4) (rdI .u8 (List.drop (0 + ((Int.toNat g1_i8) * 1)) c2) fun x8 => (cond (x8 == (0 : Int)) (k1 (IntKind.wrap .i64 (g1_i8 + (1 : Int)))) (mk_Mod N i1 ((y6 : Nat) : Int) (fun y9 => (q2 y9 g1_i8 y7))))) none)
noncomputable def law44_JournalBursts_q1 {R : Type} (N : Nat)  (r0 : Bool → Option R) (c0 : List AV) (n0 : Nat) (t0 : Bool) (o0 : Bool) (i1 : Int) (y6 : Nat) (o2 : Bool) (c2 : List AV) (y7 : List AV) : Nat → Int → Option R
  | 0, _ => none
  | n + 1, g1_i8 => (law44_JournalBursts_q1B N r0 c0 n0 t0 o0 i1 y6 o2 c2 y7 (law44_JournalBursts_q1 N r0 c0 n0 t0 o0 i1 y6 o2 c2 y7 n) (fun y9 g2_i9 g2_h1 => (law44_JournalBursts_q2 N r0 c0 n0 t0 o0 y9 y6 g1_i8 o2 c2 N g2_i9 g2_h1)) g1_i8)
noncomputable def law44_JournalBursts_q0B {R : Type} (N : Nat)  (r0 : Bool → Option R) (c0 : List AV) (n0 : Nat) (t0 : Bool) (o0 : Bool) (i1 : Int) (o2 : Bool) (c2 : List AV)  (q1 : Nat → List AV → Int → Option R)  : Option R :=
  (law44_disk N c0 n0 false o0 (fun y6 y7 => (cond (((y6 : Nat) : Int) == (0 : Int)) (r0 true) (q1 y6 y7 (0 : Int)))))
noncomputable def law44_JournalBursts_q0 {R : Type} (N : Nat)  (r0 : Bool → Option R) (c0 : List AV) (n0 : Nat) (t0 : Bool) (o0 : Bool) (i1 : Int) (o2 : Bool) (c2 : List AV)  : Option R := (law44_JournalBursts_q0B N r0 c0 n0 t0 o0 i1 o2 c2 (fun y6 y7 g1_i8 => (law44_JournalBursts_q1 N r0 c0 n0 t0 o0 i1 y6 o2 c2 y7 N g1_i8)))
noncomputable def law44_JournalBurstsB {R : Type} (N : Nat) (r0 : Bool → Option R) (q0 : Option R) (c0 : List AV) (n0 : Nat) (t0 : Bool) (o0 : Bool) (i1 : Int) (c2 : List AV) (o2 : Bool) : Option R :=
  (law44_light N c0 n0 false o0 (fun y1 => (cond ((!y1) == false) (cond (Nat.ble 4 (List.length c2)) (cond ((!o2) || (plainZ (List.take 4 c2))) (cond ((Nat.ble 1 4) && ((Nat.beq (List.length (List.take 4 c2)) 4) && ((Nat.beq 4 4) && (true && (!false))))) (rdI .u8 (List.take 4 c2) fun x2 => (rdI .u8 (List.drop 1 (List.take 4 c2)) fun x3 => (rdI .u8 (List.drop 2 (List.take 4 c2)) fun x4 => (rdI .u8 (List.drop 3 (List.take 4 c2)) fun x5 => (cond (cond false true ((x2 == (0 : Int)) && ((x3 == (0 : Int)) && ((x4 == (0 : Int)) && ((x5 == (0 : Int)) && true))))) (r0 true) q0))))) none) none) none) (r0 true))))
noncomputable def law44_JournalBurstsi {R : Type} (N : Nat) (c0 : List AV) (n0 : Nat) (t0 : Bool) (o0 : Bool) (i1 : Int) (c2 : List AV) (o2 : Bool) (r0 : Bool → Option R) : Option R := (law44_JournalBurstsB N r0 (law44_JournalBursts_q0 N r0 c0 n0 t0 o0 i1 o2 c2) c0 n0 t0 o0 i1 c2 o2)
noncomputable def law44_JournalBursts {R : Type} := (shut (@law44_JournalBurstsi R)).1
theorem law44_JournalBursts_def {R : Type} : @law44_JournalBursts R = @law44_JournalBurstsi R := (shut _).2
noncomputable def law44_JournalBursts_hs : Hints := { H := (.node [] (.node [0, 1, 5] .leaf .leaf) (.join (.node [] (.node [0, 1, 5, 21] .leaf .leaf) (.node [0, 1, 5] (.node [] (.node [6] .leaf .leaf) .leaf) .leaf)) (.node [] (.node [0, 1, 5, 7] .leaf .leaf) (.node [] (.node [] (.node [0, 1, 5, 7, 26] .leaf .leaf) (.node [0, 1, 5, 7] (.node [] (.node [6] .leaf .leaf) .leaf) .leaf)) (.node [] (.node [0, 1, 5, 7, 8] .leaf .leaf) (.node [] (.node [0, 1, 5, 7, 8] (.node [0, 1, 5, 7, 8] (.node [] (.node [] (.node [0, 1, 5, 7, 8, 30] .leaf .leaf) (.node [0, 1, 5, 7, 8] .leaf .leaf)) (.node [0, 1, 5, 7, 8] (.node [0, 1, 5, 7, 8] .leaf .leaf) .leaf)) .leaf) .leaf) (.node [] (.node [0, 1, 5, 7, 8] .leaf .leaf) (.node [] (.node [] (.node [0, 1, 5, 7, 8, 9] .leaf .leaf) (.node [0, 1, 7] (.node [0, 1, 5, 7, 8, 9] (.join (.node [] (.node [0, 1, 5, 7, 8, 9, 49] .leaf .leaf) (.node [0, 1, 5, 7, 8, 9] .leaf .leaf)) (.node [] (.node [0, 1, 5, 7, 8, 9] (.node [0, 1, 5, 7, 8, 9] .leaf .leaf) .leaf) (.node [0, 1, 5, 7, 8, 9] .leaf .leaf))) .leaf) .leaf)) (.node [] (.node [0, 1, 7, 10, 11] .leaf .leaf) (.node [] (.node [0, 7, 10, 11] (.node [0, 1, 7, 10, 11] (.node [] (.node [] (.node [0, 1, 7, 10, 11, 80] .leaf .leaf) (.node [0, 1, 7, 10, 11] .leaf .leaf)) (.node [0, 1, 7, 10, 11] (.node [0, 1, 7, 10, 11] .leaf .leaf) .leaf)) .leaf) .leaf) (.node [] (.node [0, 10, 11, 12, 13] .leaf .leaf) (.node [] (.node [6] .leaf .leaf) .leaf)))))))))))), nils := [], modes := [], free := [] }
noncomputable def law44_JournalBursts_T (N : Nat) : List (Nat × Tw) := [(16, law44_light_Tw N), (17, law44_disk_Tw N), (13, mk_Mod_Tw N), (18, journal_Recover_v2_Tw N), (10, law44_awake_Tw N), (19, ref44_Same_Tw N)]
noncomputable def law44_JournalBursts_E (N : Nat) : Env := { P := Try.prog, nt := 109, muts := muts, nils := law44_JournalBursts_hs.nils, free := law44_JournalBursts_hs.free, tbl := law44_JournalBursts_T N }
noncomputable def law44_JournalBursts_fin {R : Type} (N : Nat) (F : AV → Heap → Option R) : St → Option R := afinish (law44_JournalBursts_E N) Try.f5 law44_JournalBursts_hs.modes [] F
noncomputable def law44_JournalBursts_at {R : Type} (N : Nat) (F : AV → Heap → Option R) (p : List Nat) (ks : List (St → Option R)) : Cut R := atC (law44_JournalBursts_E N) [] N p (bodyOf Try.f5) law44_JournalBursts_hs.H (law44_JournalBursts_fin N F) (fun _ _ => none) (law44_JournalBursts_fin N F) ks
def law44_JournalBursts_s3 (c0 : List AV) (n0 : Nat) (t0 : Bool) (o0 : Bool) (y9 : Int) (y6 : Nat) (g1_i8 : Int) (o2 : Bool) (c2 : List AV) (g3_i9 : Int) (g3_h1 : List AV) : St := { s := [(0, (.imm c0 n0 1 t0 o0)), (1, (.int .i64 y9)), (5, (.optr 300000 0)), (7, (.own 300001 0 y6)), (8, (.int .i64 g1_i8)), (9, (.int .i64 g3_i9))], h := [(300000, ⟨false, false, true, o2, 0, c2⟩), (300001, ⟨false, false, true, false, 1, g3_h1⟩)] }
def law44_JournalBursts_s4 (c0 : List AV) (n0 : Nat) (t0 : Bool) (o0 : Bool) (y9 : Int) (y6 : Nat) (g4_i10 : Int) (g4_i11 : Int) (g4_h0 : List AV) : St := { s := [(0, (.imm c0 n0 1 t0 o0)), (1, (.int .i64 y9)), (7, (.own 300000 0 y6)), (10, (.int .i64 g4_i10)), (11, (.int .i64 g4_i11))], h := [(300000, ⟨false, false, true, false, 1, g4_h0⟩)] }
def law44_JournalBursts_s2 (c0 : List AV) (n0 : Nat) (t0 : Bool) (o0 : Bool) (y9 : Int) (y6 : Nat) (g1_i8 : Int) (o2 : Bool) (c2 : List AV) (g2_i9 : Int) (g2_h1 : List AV) : St := { s := [(0, (.imm c0 n0 1 t0 o0)), (1, (.int .i64 y9)), (5, (.optr 300000 0)), (7, (.own 300001 0 y6)), (8, (.int .i64 g1_i8)), (9, (.int .i64 g2_i9))], h := [(300000, ⟨false, false, true, o2, 0, c2⟩), (300001, ⟨false, false, true, false, 1, g2_h1⟩)] }
def law44_JournalBursts_s1 (c0 : List AV) (n0 : Nat) (t0 : Bool) (o0 : Bool) (i1 : Int) (y6 : Nat) (o2 : Bool) (c2 : List AV) (y7 : List AV) (g1_i8 : Int) : St := { s := [(0, (.imm c0 n0 1 t0 o0)), (1, (.int .i64 i1)), (5, (.optr 300000 0)), (7, (.own 300001 0 y6)), (8, (.int .i64 g1_i8))], h := [(300000, ⟨false, false, true, o2, 0, c2⟩), (300001, ⟨false, false, true, false, 1, y7⟩)] }
def law44_JournalBursts_s0 (c0 : List AV) (n0 : Nat) (t0 : Bool) (o0 : Bool) (i1 : Int) (o2 : Bool) (c2 : List AV) : St := { s := [(0, (.imm c0 n0 1 t0 o0)), (1, (.int .i64 i1)), (5, (.optr 300000 0))], h := [(300000, ⟨false, false, true, o2, 0, c2⟩)] }
theorem law44_JournalBursts_q3_eq {R : Type} (N : Nat) (Q2 : St → Option R) (F : AV → Heap → Option R) (c0 : List AV) (n0 : Nat) (t0 : Bool) (o0 : Bool) (y9 : Int) (y6 : Nat) (g1_i8 : Int) (o2 : Bool) (c2 : List AV) : ∀ (g3_i9 : Int) (g3_h1 : List AV), joinIn (law44_JournalBursts_E N) [] N (law44_JournalBursts_at N F [1, 1, 1, 1, 1, 1, 1, 0, 1, 0, 0, 1] [Q2]) (law44_JournalBursts_s3 c0 n0 t0 o0 y9 y6 g1_i8 o2 c2 g3_i9 g3_h1) = (law44_JournalBursts_q3 N (fun g2_i9 g2_h1 => Q2 (law44_JournalBursts_s2 c0 n0 t0 o0 y9 y6 g1_i8 o2 c2 g2_i9 g2_h1)) (fun zb0 => F (.bool zb0) []) c0 n0 t0 o0 y9 y6 g1_i8 o2 c2 g3_i9 g3_h1) := by
  intro g3_i9 g3_h1
  have h0 : joinIn (law44_JournalBursts_E N) [] N (law44_JournalBursts_at N F [1, 1, 1, 1, 1, 1, 1, 0, 1, 0, 0, 1] [Q2]) (law44_JournalBursts_s3 c0 n0 t0 o0 y9 y6 g1_i8 o2 c2 g3_i9 g3_h1) = (law44_JournalBursts_q3B N (fun g2_i9 g2_h1 => Q2 (law44_JournalBursts_s2 c0 n0 t0 o0 y9 y6 g1_i8 o2 c2 g2_i9 g2_h1)) (fun zb0 => F (.bool zb0) []) c0 n0 t0 o0 y9 y6 g1_i8 o2 c2 g3_i9 g3_h1) := by kernel_rfl
  exact h0
theorem law44_JournalBursts_q4_eq {R : Type} (N : Nat)  (F : AV → Heap → Option R) (c0 : List AV) (n0 : Nat) (t0 : Bool) (o0 : Bool) (y9 : Int) (y6 : Nat) : ∀ (n : Nat) (g4_i10 : Int) (g4_i11 : Int) (g4_h0 : List AV), loopAt (law44_JournalBursts_E N) [] N (law44_JournalBursts_at N F [1, 1, 1, 1, 1, 1, 1, 1, 1, 0, 0] []) n (law44_JournalBursts_s4 c0 n0 t0 o0 y9 y6 g4_i10 g4_i11 g4_h0) = (law44_JournalBursts_q4 N (fun zb0 => F (.bool zb0) []) c0 n0 t0 o0 y9 y6 n g4_i10 g4_i11 g4_h0) := by
  intro n
  induction n with
  | zero => intros; rfl
  | succ n ih =>
    intro g4_i10 g4_i11 g4_h0
    have e0 : (fun g4_i10 g4_i11 g4_h0 => loopAt (law44_JournalBursts_E N) [] N (law44_JournalBursts_at N F [1, 1, 1, 1, 1, 1, 1, 1, 1, 0, 0] []) n (law44_JournalBursts_s4 c0 n0 t0 o0 y9 y6 g4_i10 g4_i11 g4_h0)) = (law44_JournalBursts_q4 N (fun zb0 => F (.bool zb0) []) c0 n0 t0 o0 y9 y6 n) := by funext g4_i10; funext g4_i11; funext g4_h0; exact ih g4_i10 g4_i11 g4_h0
    have h0 : loopAt (law44_JournalBursts_E N) [] N (law44_JournalBursts_at N F [1, 1, 1, 1, 1, 1, 1, 1, 1, 0, 0] []) (n + 1) (law44_JournalBursts_s4 c0 n0 t0 o0 y9 y6 g4_i10 g4_i11 g4_h0) = (law44_JournalBursts_q4B N (fun zb0 => F (.bool zb0) []) c0 n0 t0 o0 y9 y6 (fun g4_i10 g4_i11 g4_h0 => loopAt (law44_JournalBursts_E N) [] N (law44_JournalBursts_at N F [1, 1, 1, 1, 1, 1, 1, 1, 1, 0, 0] []) n (law44_JournalBursts_s4 c0 n0 t0 o0 y9 y6 g4_i10 g4_i11 g4_h0)) g4_i10 g4_i11 g4_h0) := by kernel_rfl
    exact (h0).trans (congrArg (fun z => (law44_JournalBursts_q4B N (fun zb0 => F (.bool zb0) []) c0 n0 t0 o0 y9 y6 z g4_i10 g4_i11 g4_h0)) e0)
theorem law44_JournalBursts_q2_eq {R : Type} (N : Nat)  (F : AV → Heap → Option R) (c0 : List AV) (n0 : Nat) (t0 : Bool) (o0 : Bool) (y9 : Int) (y6 : Nat) (g1_i8 : Int) (o2 : Bool) (c2 : List AV) : ∀ (n : Nat) (g2_i9 : Int) (g2_h1 : List AV), loopAt (law44_JournalBursts_E N) [] N (law44_JournalBursts_at N F [1, 1, 1, 1, 1, 1, 1, 0, 1, 0] []) n (law44_JournalBursts_s2 c0 n0 t0 o0 y9 y6 g1_i8 o2 c2 g2_i9 g2_h1) = (law44_JournalBursts_q2 N (fun zb0 => F (.bool zb0) []) c0 n0 t0 o0 y9 y6 g1_i8 o2 c2 n g2_i9 g2_h1) := by
  intro n
  induction n with
  | zero => intros; rfl
  | succ n ih =>
    intro g2_i9 g2_h1
    have e0 : (fun g2_i9 g2_h1 => loopAt (law44_JournalBursts_E N) [] N (law44_JournalBursts_at N F [1, 1, 1, 1, 1, 1, 1, 0, 1, 0] []) n (law44_JournalBursts_s2 c0 n0 t0 o0 y9 y6 g1_i8 o2 c2 g2_i9 g2_h1)) = (law44_JournalBursts_q2 N (fun zb0 => F (.bool zb0) []) c0 n0 t0 o0 y9 y6 g1_i8 o2 c2 n) := by funext g2_i9; funext g2_h1; exact ih g2_i9 g2_h1
    have e1 : (fun g3_i9 g3_h1 => joinAt (law44_JournalBursts_E N) [] N (law44_JournalBursts_at N F [1, 1, 1, 1, 1, 1, 1, 0, 1, 0, 0, 1] [(loopAt (law44_JournalBursts_E N) [] N (law44_JournalBursts_at N F [1, 1, 1, 1, 1, 1, 1, 0, 1, 0] []) n)]) (law44_JournalBursts_s3 c0 n0 t0 o0 y9 y6 g1_i8 o2 c2 g3_i9 g3_h1)) = (fun g3_i9 g3_h1 => (law44_JournalBursts_q3 N (law44_JournalBursts_q2 N (fun zb0 => F (.bool zb0) []) c0 n0 t0 o0 y9 y6 g1_i8 o2 c2 n) (fun zb0 => F (.bool zb0) []) c0 n0 t0 o0 y9 y6 g1_i8 o2 c2 g3_i9 g3_h1)) := by funext g3_i9; funext g3_h1; exact ((joinAt_eq ..).trans (law44_JournalBursts_q3_eq N (loopAt (law44_JournalBursts_E N) [] N (law44_JournalBursts_at N F [1, 1, 1, 1, 1, 1, 1, 0, 1, 0] []) n) F c0 n0 t0 o0 y9 y6 g1_i8 o2 c2 g3_i9 g3_h1)).trans (by rw [e0])
    have e2 : (fun g4_i10 g4_i11 g4_h0 => loopW (law44_JournalBursts_E N) [] N (law44_JournalBursts_at N F [1, 1, 1, 1, 1, 1, 1, 1, 1, 0, 0] []) N (law44_JournalBursts_s4 c0 n0 t0 o0 y9 y6 g4_i10 g4_i11 g4_h0)) = (fun g4_i10 g4_i11 g4_h0 => (law44_JournalBursts_q4 N (fun zb0 => F (.bool zb0) []) c0 n0 t0 o0 y9 y6 N g4_i10 g4_i11 g4_h0)) := by funext g4_i10; funext g4_i11; funext g4_h0; exact ((loopW_eq ..).trans (law44_JournalBursts_q4_eq N F c0 n0 t0 o0 y9 y6 N g4_i10 g4_i11 g4_h0))
    have h0 : loopAt (law44_JournalBursts_E N) [] N (law44_JournalBursts_at N F [1, 1, 1, 1, 1, 1, 1, 0, 1, 0] []) (n + 1) (law44_JournalBursts_s2 c0 n0 t0 o0 y9 y6 g1_i8 o2 c2 g2_i9 g2_h1) = (law44_JournalBursts_q2B N (fun zb0 => F (.bool zb0) []) c0 n0 t0 o0 y9 y6 g1_i8 o2 c2 (fun g2_i9 g2_h1 => loopAt (law44_JournalBursts_E N) [] N (law44_JournalBursts_at N F [1, 1, 1, 1, 1, 1, 1, 0, 1, 0] []) n (law44_JournalBursts_s2 c0 n0 t0 o0 y9 y6 g1_i8 o2 c2 g2_i9 g2_h1)) (fun g3_i9 g3_h1 => joinAt (law44_JournalBursts_E N) [] N (law44_JournalBursts_at N F [1, 1, 1, 1, 1, 1, 1, 0, 1, 0, 0, 1] [(loopAt (law44_JournalBursts_E N) [] N (law44_JournalBursts_at N F [1, 1, 1, 1, 1, 1, 1, 0, 1, 0] []) n)]) (law44_JournalBursts_s3 c0 n0 t0 o0 y9 y6 g1_i8 o2 c2 g3_i9 g3_h1)) (fun g4_i10 g4_i11 g4_h0 => loopW (law44_JournalBursts_E N) [] N (law44_JournalBursts_at N F [1, 1, 1, 1, 1, 1, 1, 1, 1, 0, 0] []) N (law44_JournalBursts_s4 c0 n0 t0 o0 y9 y6 g4_i10 g4_i11 g4_h0)) g2_i9 g2_h1) := by kernel_rfl
    exact (((h0).trans (congrArg (fun z => (law44_JournalBursts_q2B N (fun zb0 => F (.bool zb0) []) c0 n0 t0 o0 y9 y6 g1_i8 o2 c2 z (fun g3_i9 g3_h1 => joinAt (law44_JournalBursts_E N) [] N (law44_JournalBursts_at N F [1, 1, 1, 1, 1, 1, 1, 0, 1, 0, 0, 1] [(loopAt (law44_JournalBursts_E N) [] N (law44_JournalBursts_at N F [1, 1, 1, 1, 1, 1, 1, 0, 1, 0] []) n)]) (law44_JournalBursts_s3 c0 n0 t0 o0 y9 y6 g1_i8 o2 c2 g3_i9 g3_h1)) (fun g4_i10 g4_i11 g4_h0 => loopW (law44_JournalBursts_E N) [] N (law44_JournalBursts_at N F [1, 1, 1, 1, 1, 1, 1, 1, 1, 0, 0] []) N (law44_JournalBursts_s4 c0 n0 t0 o0 y9 y6 g4_i10 g4_i11 g4_h0)) g2_i9 g2_h1)) e0)).trans (congrArg (fun z => (law44_JournalBursts_q2B N (fun zb0 => F (.bool zb0) []) c0 n0 t0 o0 y9 y6 g1_i8 o2 c2 (law44_JournalBursts_q2 N (fun zb0 => F (.bool zb0) []) c0 n0 t0 o0 y9 y6 g1_i8 o2 c2 n) z (fun g4_i10 g4_i11 g4_h0 => loopW (law44_JournalBursts_E N) [] N (law44_JournalBursts_at N F [1, 1, 1, 1, 1, 1, 1, 1, 1, 0, 0] []) N (law44_JournalBursts_s4 c0 n0 t0 o0 y9 y6 g4_i10 g4_i11 g4_h0)) g2_i9 g2_h1)) e1)).trans (congrArg (fun z => (law44_JournalBursts_q2B N (fun zb0 => F (.bool zb0) []) c0 n0 t0 o0 y9 y6 g1_i8 o2 c2 (law44_JournalBursts_q2 N (fun zb0 => F (.bool zb0) []) c0 n0 t0 o0 y9 y6 g1_i8 o2 c2 n) (fun g3_i9 g3_h1 => (law44_JournalBursts_q3 N (law44_JournalBursts_q2 N (fun zb0 => F (.bool zb0) []) c0 n0 t0 o0 y9 y6 g1_i8 o2 c2 n) (fun zb0 => F (.bool zb0) []) c0 n0 t0 o0 y9 y6 g1_i8 o2 c2 g3_i9 g3_h1)) z g2_i9 g2_h1)) e2)
theorem law44_JournalBursts_q1_eq {R : Type} (N : Nat)  (F : AV → Heap → Option R) (c0 : List AV) (n0 : Nat) (t0 : Bool) (o0 : Bool) (i1 : Int) (y6 : Nat) (o2 : Bool) (c2 : List AV) (y7 : List AV) : ∀ (n : Nat) (g1_i8 : Int), loopAt (law44_JournalBursts_E N) [] N (law44_JournalBursts_at N F [1, 1, 1, 1, 1, 0, 0] []) n (law44_JournalBursts_s1 c0 n0 t0 o0 i1 y6 o2 c2 y7 g1_i8) = (law44_JournalBursts_q1 N (fun zb0 => F (.bool zb0) []) c0 n0 t0 o0 i1 y6 o2 c2 y7 n g1_i8) := by
  intro n
  induction n with
  | zero => intros; rfl
  | succ n ih =>
    intro g1_i8
    have e0 : (fun g1_i8 => loopAt (law44_JournalBursts_E N) [] N (law44_JournalBursts_at N F [1, 1, 1, 1, 1, 0, 0] []) n (law44_JournalBursts_s1 c0 n0 t0 o0 i1 y6 o2 c2 y7 g1_i8)) = (law44_JournalBursts_q1 N (fun zb0 => F (.bool zb0) []) c0 n0 t0 o0 i1 y6 o2 c2 y7 n) := by funext g1_i8; exact ih g1_i8
    have e1 : (fun y9 g2_i9 g2_h1 => loopW (law44_JournalBursts_E N) [] N (law44_JournalBursts_at N F [1, 1, 1, 1, 1, 1, 1, 0, 1, 0] []) N (law44_JournalBursts_s2 c0 n0 t0 o0 y9 y6 g1_i8 o2 c2 g2_i9 g2_h1)) = (fun y9 g2_i9 g2_h1 => (law44_JournalBursts_q2 N (fun zb0 => F (.bool zb0) []) c0 n0 t0 o0 y9 y6 g1_i8 o2 c2 N g2_i9 g2_h1)) := by funext y9; funext g2_i9; funext g2_h1; exact ((loopW_eq ..).trans (law44_JournalBursts_q2_eq N F c0 n0 t0 o0 y9 y6 g1_i8 o2 c2 N g2_i9 g2_h1))
    have h0 : loopAt (law44_JournalBursts_E N) [] N (law44_JournalBursts_at N F [1, 1, 1, 1, 1, 0, 0] []) (n + 1) (law44_JournalBursts_s1 c0 n0 t0 o0 i1 y6 o2 c2 y7 g1_i8) = (law44_JournalBursts_q1B N (fun zb0 => F (.bool zb0) []) c0 n0 t0 o0 i1 y6 o2 c2 y7 (fun g1_i8 => loopAt (law44_JournalBursts_E N) [] N (law44_JournalBursts_at N F [1, 1, 1, 1, 1, 0, 0] []) n (law44_JournalBursts_s1 c0 n0 t0 o0 i1 y6 o2 c2 y7 g1_i8)) (fun y9 g2_i9 g2_h1 => loopW (law44_JournalBursts_E N) [] N (law44_JournalBursts_at N F [1, 1, 1, 1, 1, 1, 1, 0, 1, 0] []) N (law44_JournalBursts_s2 c0 n0 t0 o0 y9 y6 g1_i8 o2 c2 g2_i9 g2_h1)) g1_i8) := by kernel_rfl
    exact ((h0).trans (congrArg (fun z => (law44_JournalBursts_q1B N (fun zb0 => F (.bool zb0) []) c0 n0 t0 o0 i1 y6 o2 c2 y7 z (fun y9 g2_i9 g2_h1 => loopW (law44_JournalBursts_E N) [] N (law44_JournalBursts_at N F [1, 1, 1, 1, 1, 1, 1, 0, 1, 0] []) N (law44_JournalBursts_s2 c0 n0 t0 o0 y9 y6 g1_i8 o2 c2 g2_i9 g2_h1)) g1_i8)) e0)).trans (congrArg (fun z => (law44_JournalBursts_q1B N (fun zb0 => F (.bool zb0) []) c0 n0 t0 o0 i1 y6 o2 c2 y7 (law44_JournalBursts_q1 N (fun zb0 => F (.bool zb0) []) c0 n0 t0 o0 i1 y6 o2 c2 y7 n) z g1_i8)) e1)
theorem law44_JournalBursts_q0_eq {R : Type} (N : Nat)  (F : AV → Heap → Option R) (c0 : List AV) (n0 : Nat) (t0 : Bool) (o0 : Bool) (i1 : Int) (o2 : Bool) (c2 : List AV) : joinIn (law44_JournalBursts_E N) [] N (law44_JournalBursts_at N F [1, 1] []) (law44_JournalBursts_s0 c0 n0 t0 o0 i1 o2 c2) = (law44_JournalBursts_q0 N (fun zb0 => F (.bool zb0) []) c0 n0 t0 o0 i1 o2 c2) := by
  have e1 : (fun y6 y7 g1_i8 => loopW (law44_JournalBursts_E N) [] N (law44_JournalBursts_at N F [1, 1, 1, 1, 1, 0, 0] []) N (law44_JournalBursts_s1 c0 n0 t0 o0 i1 y6 o2 c2 y7 g1_i8)) = (fun y6 y7 g1_i8 => (law44_JournalBursts_q1 N (fun zb0 => F (.bool zb0) []) c0 n0 t0 o0 i1 y6 o2 c2 y7 N g1_i8)) := by funext y6; funext y7; funext g1_i8; exact (loopW_eq ..).trans (law44_JournalBursts_q1_eq N F c0 n0 t0 o0 i1 y6 o2 c2 y7 N g1_i8)
  have h0 : joinIn (law44_JournalBursts_E N) [] N (law44_JournalBursts_at N F [1, 1] []) (law44_JournalBursts_s0 c0 n0 t0 o0 i1 o2 c2) = (law44_JournalBursts_q0B N (fun zb0 => F (.bool zb0) []) c0 n0 t0 o0 i1 o2 c2 (fun y6 y7 g1_i8 => loopW (law44_JournalBursts_E N) [] N (law44_JournalBursts_at N F [1, 1, 1, 1, 1, 0, 0] []) N (law44_JournalBursts_s1 c0 n0 t0 o0 i1 y6 o2 c2 y7 g1_i8))) := by kernel_rfl
  exact (h0).trans (congrArg (fun z => (law44_JournalBursts_q0B N (fun zb0 => F (.bool zb0) []) c0 n0 t0 o0 i1 o2 c2 z)) e1)
theorem law44_JournalBursts_eq {R : Type} (N : Nat) (c0 : List AV) (n0 : Nat) (t0 : Bool) (o0 : Bool) (i1 : Int) (c2 : List AV) (o2 : Bool) (F : AV → Heap → Option R) : execF Try.prog muts (law44_JournalBursts_T N) law44_JournalBursts_hs N 5 [(.imm c0 n0 1 t0 o0), (.int .i64 i1), (.pagg c2 o2)] [] F = (law44_JournalBursts N c0 n0 t0 o0 i1 c2 o2 (fun zb0 => F (.bool zb0) [])) := by
  have e1 : (joinAt (law44_JournalBursts_E N) [] N (law44_JournalBursts_at N F [1, 1] []) (law44_JournalBursts_s0 c0 n0 t0 o0 i1 o2 c2)) = (law44_JournalBursts_q0 N (fun zb0 => F (.bool zb0) []) c0 n0 t0 o0 i1 o2 c2) := by exact (joinAt_eq ..).trans (law44_JournalBursts_q0_eq N F c0 n0 t0 o0 i1 o2 c2)
  have h0 : execF Try.prog muts (law44_JournalBursts_T N) law44_JournalBursts_hs N 5 [(.imm c0 n0 1 t0 o0), (.int .i64 i1), (.pagg c2 o2)] [] F = (law44_JournalBurstsB N (fun zb0 => F (.bool zb0) []) (joinAt (law44_JournalBursts_E N) [] N (law44_JournalBursts_at N F [1, 1] []) (law44_JournalBursts_s0 c0 n0 t0 o0 i1 o2 c2)) c0 n0 t0 o0 i1 c2 o2) := by kernel_rfl
  rw [law44_JournalBursts_def]
  exact (h0).trans (congrArg (fun z => (law44_JournalBurstsB N (fun zb0 => F (.bool zb0) []) z c0 n0 t0 o0 i1 c2 o2)) e1)
noncomputable def law44_JournalBursts_run {R : Type} (N : Nat) (args : List AV) (h : Heap) (k : AV → Heap → Option R) : Option R :=
  match args, h with
  | [(.imm c0 n0 1 t0 o0), (.int .i64 i1), (.pagg c2 o2)], [] => (law44_JournalBursts N c0 n0 t0 o0 i1 c2 o2 (fun zb0 => k (.bool zb0) []))
  | _, _ => none
noncomputable def law44_JournalBursts_Tw (N : Nat) : Tw where
  runK := law44_JournalBursts_run N
  eq := by
    intro R args h k
    unfold law44_JournalBursts_run
    split
    · exact (law44_JournalBursts_eq ..).symm.trans ((execF_bind ..).trans (congrArg (Option.bind · _) (law44_JournalBursts_eq ..)))
    · rfl
theorem law44_JournalBursts_ok (N : Nat) : TwOk Try.prog 5 (law44_JournalBursts_Tw N) := by
  intro args h res h1 hh0
  have hh : law44_JournalBursts_run N args h (fun v h1 => some (v, h1)) = some (res, h1) := hh0
  unfold law44_JournalBursts_run at hh
  split at hh
  · exact execF_sound (T := law44_JournalBursts_T N) ⟨law44_light_ok N, law44_disk_ok N, mk_Mod_ok N, journal_Recover_v2_ok N, law44_awake_ok N, ref44_Same_ok N, trivial⟩ follows ((law44_JournalBursts_eq ..).trans hh)
  · cases hh
end Gx
