/- A part of the proof: what it holds is said at each theorem. -/
import Derived.Test.YtekpdhpnlfcobaaProg
import Derived.Test.YtekpdhpnlfcobaaP1
set_option linter.unusedVariables false
namespace Gx
open Go Go.Proofs
set_option maxRecDepth 100000
variable {R : Type}
def muts : Nat → List Bool := lookB [(17, [true, false]), (18, [true, false, false]), (20, [true, false, false, false, false]), (21, [true, false, false, false]), (22, [true, false, false, false]), (25, [true]), (26, [true]), (27, [true]), (28, [true]), (29, [true]), (30, [true]), (31, [true]), (32, [true]), (40, [true, false]), (41, [true, false]), (42, [true, false, false, false]), (43, [true, false, false, false, false, false, false, false]), (44, [true, false, false, false, false, false]), (46, [true, false, false]), (47, [true, false, false]), (48, [true, false, false]), (49, [true, false, false]), (50, [true, false, false]), (51, [true, false, false]), (52, [true, false, false, false, false]), (53, [true, false, false, false, false]), (54, [true, false, false, false]), (55, [true, false, true]), (56, [false, true, true, true, true, true, true, true, true]), (57, [false, true, true, true, true, true, true, true, true]), (58, [true, false, false]), (60, [true, false, false]), (61, [false, true, true, true, true, true, true, true, true]), (62, [true, false]), (63, [false, true, true, true, true, true, true, true, true]), (64, [false, true, true, true, true, true, true, true, true]), (65, [false, true, true, true, true, true, true, true, true]), (67, [true, false]), (73, [true, false, false, false, false, false]), (75, [true, false, false, false, false, false]), (76, [true, false, false])]
noncomputable abbrev mkE := mkEP Try.prog muts
theorem follows : Try.prog.follows .mixedOrders = true := by kernel_rfl
noncomputable def mk_NewB (N : Nat) (r0 : Option R)  (a : LA) (b : Nat) (c : Bool) (d : Bool) : Option R :=
  r0
noncomputable def mk_Newi (N : Nat) (a : LA) (b : Nat) (c : Bool) (d : Bool) (r0 : Option R) : Option R := (mk_NewB N r0 a b c d)
noncomputable def mk_New := (shut (@mk_Newi R)).1
theorem mk_New_def : @mk_New R = @mk_Newi R := (shut _).2
noncomputable def mk_New_hs : Hints := { H := (hS (hR [0]) (hS (hR [2]) hL)), nils := [], modes := [], free := [], cob := [] }
noncomputable def mk_New_T (N : Nat) : List (Nat × Tw) := []
noncomputable def mk_New_E (N : Nat) : Env := mkE 6 mk_New_hs (mk_New_T N)
noncomputable def mk_New_fin (N : Nat) (F : AV → Heap → Option R) := afinish (mk_New_E N) Try.f16 mk_New_hs.modes [] F
noncomputable def mk_New_at (N : Nat) (F : AV → Heap → Option R) := atF (mk_New_E N) [] N Try.f16 mk_New_hs (mk_New_fin N F)
noncomputable def mk_New_r0 (a : LA) (b : Nat) (c : Bool) (d : Bool) (F : AV → Heap → Option R) : Option R := F (.optr 300000 0) [(300000, ⟨false, false, false, false, 0, [(.imm a b 1 c d), (.int .i64 0)]⟩)]
theorem mk_New_eq (N : Nat) (a : LA) (b : Nat) (c : Bool) (d : Bool) (F : AV → Heap → Option R) : execF Try.prog muts (mk_New_T N) mk_New_hs N 16 [(.imm a b 1 c d)] [] F = (mk_New N a b c d (mk_New_r0 a b c d F)) := by
  have hK : execF Try.prog muts (mk_New_T N) mk_New_hs N 16 [(.imm a b 1 c d)] [] F = (mk_NewB N (mk_New_r0 a b c d F) a b c d) := by kernel_rfl
  rw [mk_New_def]
  exact hK
noncomputable def mk_New_run (N : Nat) (args : List AV) (h : Heap) (k : AV → Heap → Option R) : Option R :=
  match args, h with
  | [(.imm a b 1 c d)], [] => (mk_New N a b c d (mk_New_r0 a b c d k))
  | _, _ => none
noncomputable def mk_New_Tw (N : Nat) : Tw where
  runK := mk_New_run N
  eq := by
    intro R args h k
    unfold mk_New_run
    split
    · exact (mk_New_eq ..).symm.trans ((execF_bind ..).trans (congrArg (Option.bind · _) (mk_New_eq ..)))
    · rfl
theorem mk_New_ok (N : Nat) : TwOk Try.prog 16 (mk_New_Tw N) := by
  intro args h res e f
  have hh : mk_New_run N args h (fun v e => some (v, e)) = some (res, e) := f
  unfold mk_New_run at hh
  split at hh
  · exact execF_sound (T := mk_New_T N) trivial follows ((mk_New_eq ..).trans hh)
  · cases hh
noncomputable def mk_ModB (N : Nat) (r0 : Int → Option R)  (b : Int) (a : Int) : Option R :=
  (cond ((IntKind.wrap .u64 a) == (0 : Int)) none (r0 (IntKind.wrap .i64 (Int.tmod (IntKind.wrap .u64 b) (IntKind.wrap .u64 a)))))
noncomputable def mk_Modi (N : Nat) (b : Int) (a : Int) (r0 : Int → Option R) : Option R := (mk_ModB N r0 b a)
noncomputable def mk_Mod := (shut (@mk_Modi R)).1
theorem mk_Mod_def : @mk_Mod R = @mk_Modi R := (shut _).2
noncomputable def mk_Mod_hs : Hints := { H := (hS (hR [0,1]) (hS (hR [4]) hL)), nils := [], modes := [], free := [], cob := [] }
noncomputable def mk_Mod_T (N : Nat) : List (Nat × Tw) := []
noncomputable def mk_Mod_E (N : Nat) : Env := mkE 11 mk_Mod_hs (mk_Mod_T N)
noncomputable def mk_Mod_fin (N : Nat) (F : AV → Heap → Option R) := afinish (mk_Mod_E N) Try.f7 mk_Mod_hs.modes [] F
noncomputable def mk_Mod_at (N : Nat) (F : AV → Heap → Option R) := atF (mk_Mod_E N) [] N Try.f7 mk_Mod_hs (mk_Mod_fin N F)
noncomputable def mk_Mod_r0  (F : AV → Heap → Option R) : Int → Option R := (fun d => F (.int .i64 d) [])
theorem mk_Mod_eq (N : Nat) (b : Int) (a : Int) (F : AV → Heap → Option R) : execF Try.prog muts (mk_Mod_T N) mk_Mod_hs N 7 [(.int .i64 b), (.int .i64 a)] [] F = (mk_Mod N b a (mk_Mod_r0 F)) := by
  have hK : execF Try.prog muts (mk_Mod_T N) mk_Mod_hs N 7 [(.int .i64 b), (.int .i64 a)] [] F = (mk_ModB N (mk_Mod_r0 F) b a) := by kernel_rfl
  rw [mk_Mod_def]
  exact hK
noncomputable def mk_Mod_run (N : Nat) (args : List AV) (h : Heap) (k : AV → Heap → Option R) : Option R :=
  match args, h with
  | [(.int .i64 b), (.int .i64 a)], [] => (mk_Mod N b a (mk_Mod_r0 k))
  | _, _ => none
noncomputable def mk_Mod_Tw (N : Nat) : Tw where
  runK := mk_Mod_run N
  eq := by
    intro R args h k
    unfold mk_Mod_run
    split
    · exact (mk_Mod_eq ..).symm.trans ((execF_bind ..).trans (congrArg (Option.bind · _) (mk_Mod_eq ..)))
    · rfl
theorem mk_Mod_ok (N : Nat) : TwOk Try.prog 7 (mk_Mod_Tw N) := by
  intro args h res c e
  have hh : mk_Mod_run N args h (fun v c => some (v, c)) = some (res, c) := e
  unfold mk_Mod_run at hh
  split at hh
  · exact execF_sound (T := mk_Mod_T N) trivial follows ((mk_Mod_eq ..).trans hh)
  · cases hh
noncomputable def tp_NextB (N : Nat) (r0 : Int → Int → Option R)  (f : Int) (b : LA) (a : Nat) (c : Bool) (d : Bool) (e : Int) : Option R :=
  (cond (decide (e ≥ ((a : Nat) : Int))) (r0 0 e) (cond (inIdx (IntKind.wrap .i64 ((IntKind.wrap .i64 (e + (1 : Int))) - (1 : Int))) a) (rdI .i64 (List.drop ((Int.toNat (IntKind.wrap .i64 ((IntKind.wrap .i64 (e + (1 : Int))) - (1 : Int)))) * 1) b) fun i => (mk_Mod N i f (fun j => (r0 j (IntKind.wrap .i64 (e + (1 : Int))))))) none))
noncomputable def tp_Nexti (N : Nat) (f : Int) (b : LA) (a : Nat) (c : Bool) (d : Bool) (e : Int) (r0 : Int → Int → Option R) : Option R := (tp_NextB N r0 f b a c d e)
noncomputable def tp_Next := (shut (@tp_Nexti R)).1
theorem tp_Next_def : @tp_Next R = @tp_Nexti R := (shut _).2
noncomputable def tp_Next_hs : Hints := { H := (hS (hR [0,1]) (hS (hS (hR [0,1,14]) (hN [0,1] (hS (hR [4]) hL) hL)) (hS (hR [0,1]) (hS (hR [4]) hL)))), nils := [], modes := [], free := [], cob := [] }
noncomputable def tp_Next_T (N : Nat) : List (Nat × Tw) := [(7, mk_Mod_Tw N)]
noncomputable def tp_Next_E (N : Nat) : Env := mkE 35 tp_Next_hs (tp_Next_T N)
noncomputable def tp_Next_fin (N : Nat) (F : AV → Heap → Option R) := afinish (tp_Next_E N) Try.f17 tp_Next_hs.modes [100000] F
noncomputable def tp_Next_at (N : Nat) (F : AV → Heap → Option R) := atF (tp_Next_E N) [100000] N Try.f17 tp_Next_hs (tp_Next_fin N F)
noncomputable def tp_Next_r0 (b : LA) (a : Nat) (c : Bool) (d : Bool) (F : AV → Heap → Option R) : Int → Int → Option R := (fun l m => F (.int .i64 l) [(100000, ⟨false, false, false, false, 0, [(.imm b a 1 c d), (.int .i64 m)]⟩)])
theorem tp_Next_eq (N : Nat) (f : Int) (b : LA) (a : Nat) (c : Bool) (d : Bool) (e : Int) (F : AV → Heap → Option R) : execF Try.prog muts (tp_Next_T N) tp_Next_hs N 17 [(.optr 100000 0), (.int .i64 f)] [(100000, ⟨false, false, false, false, 0, [(.imm b a 1 c d), (.int .i64 e)]⟩)] F = (tp_Next N f b a c d e (tp_Next_r0 b a c d F)) := by
  have hK : execF Try.prog muts (tp_Next_T N) tp_Next_hs N 17 [(.optr 100000 0), (.int .i64 f)] [(100000, ⟨false, false, false, false, 0, [(.imm b a 1 c d), (.int .i64 e)]⟩)] F = (tp_NextB N (tp_Next_r0 b a c d F) f b a c d e) := by kernel_rfl
  rw [tp_Next_def]
  exact hK
noncomputable def tp_Next_run (N : Nat) (args : List AV) (h : Heap) (k : AV → Heap → Option R) : Option R :=
  match args, h with
  | [(.optr 100000 0), (.int .i64 f)], [(100000, ⟨false, false, false, false, 0, [(.imm b a 1 c d), (.int .i64 e)]⟩)] => (tp_Next N f b a c d e (tp_Next_r0 b a c d k))
  | _, _ => none
noncomputable def tp_Next_Tw (N : Nat) : Tw where
  runK := tp_Next_run N
  eq := by
    intro R args h k
    unfold tp_Next_run
    split
    · exact (tp_Next_eq ..).symm.trans ((execF_bind ..).trans (congrArg (Option.bind · _) (tp_Next_eq ..)))
    · rfl
theorem tp_Next_ok (N : Nat) : TwOk Try.prog 17 (tp_Next_Tw N) := by
  intro args h res g n
  have hh : tp_Next_run N args h (fun v g => some (v, g)) = some (res, g) := n
  unfold tp_Next_run at hh
  split at hh
  · exact execF_sound (T := tp_Next_T N) ⟨mk_Mod_ok N, trivial⟩ follows ((tp_Next_eq ..).trans hh)
  · cases hh
noncomputable def tp_hours_q0B (N : Nat)  (r0 : Nat → Int → LA → Option R) (e : Int) (f : Int) (a : LA) (b : Nat) (c : Bool) (d : Bool) (k0 : Nat → Int → Int → LA → Option R)  (g : Nat) (i : Int) (j : Int) (l : LA) : Option R :=
  (cond (decide (i < e)) (tp_Next N f a b c d j (fun p q => (cond ((Nat.ble (g + 1) 140737488355328) && (Nat.ble ((g + 1) * 8) 140737488355328)) (k0 (g + 1) (IntKind.wrap .i64 (i + (1 : Int))) q ((List.take (g * 1) l) ++ [(.int .i64 p)])) none))) (r0 g j l))
noncomputable def tp_hours_q0 (N : Nat)  (r0 : Nat → Int → LA → Option R) (e : Int) (f : Int) (a : LA) (b : Nat) (c : Bool) (d : Bool) : Nat → Nat → Int → Int → LA → Option R
  | 0, _, _, _, _ => none
  | n + 1, g, i, j, l => (tp_hours_q0B N r0 e f a b c d (tp_hours_q0 N r0 e f a b c d n) g i j l)
noncomputable def tp_hoursB (N : Nat) (r0 : Nat → Int → LA → Option R) (q0 : Nat → Int → Int → LA → Option R) (e : Int) (f : Int) (a : LA) (b : Nat) (c : Bool) (d : Bool) (m : Int) : Option R :=
  (q0 0 0 m [])
noncomputable def tp_hoursi (N : Nat) (e : Int) (f : Int) (a : LA) (b : Nat) (c : Bool) (d : Bool) (m : Int) (r0 : Nat → Int → LA → Option R) : Option R := (tp_hoursB N r0 (fun g i j l => (tp_hours_q0 N r0 e f a b c d N g i j l)) e f a b c d m)
noncomputable def tp_hours := (shut (@tp_hoursi R)).1
theorem tp_hours_def : @tp_hours R = @tp_hoursi R := (shut _).2
noncomputable def tp_hours_hs : Hints := { H := (hS (hR [0,1,2]) (hS (hR [0,1,2,7]) (hS (hS (hR [0,1,2,7,8]) (hN [7] (hN [0,1,2,7,8] (hS (hS (hR [0,1,2,7,8,11]) (hN [0,1,2,7,8] hL hL)) (hS (hN [0,1,2,7,8] (hR [0,1,2,7,8]) hL) (hR [0,1,2,7,8]))) hL) hL)) (hS (hR [6]) hL)))), nils := [(6, 1), (7, 1)], modes := [(2, 1)], free := [], cob := [] }
noncomputable def tp_hours_T (N : Nat) : List (Nat × Tw) := [(17, tp_Next_Tw N)]
noncomputable def tp_hours_E (N : Nat) : Env := mkE 21 tp_hours_hs (tp_hours_T N)
noncomputable def tp_hours_fin (N : Nat) (F : AV → Heap → Option R) := afinish (tp_hours_E N) Try.f18 tp_hours_hs.modes [100000] F
noncomputable def tp_hours_at (N : Nat) (F : AV → Heap → Option R) := atF (tp_hours_E N) [100000] N Try.f18 tp_hours_hs (tp_hours_fin N F)
noncomputable def tp_hours_r0 (a : LA) (b : Nat) (c : Bool) (d : Bool) (F : AV → Heap → Option R) : Nat → Int → LA → Option R := (fun r t u => F (.own 300000 0 r) [(100000, ⟨false, false, false, false, 0, [(.imm a b 1 c d), (.int .i64 t)]⟩), (300000, ⟨false, false, true, false, 1, u⟩)])
noncomputable def tp_hours_s0 (e : Int) (f : Int) (a : LA) (b : Nat) (c : Bool) (d : Bool) (g : Nat) (i : Int) (j : Int) (l : LA) : St := { s := [(0, (.optr 100000 0)), (1, (.int .i64 e)), (2, (.int .i64 f)), (7, (.own 300000 0 g)), (8, (.int .i64 i))], h := [(100000, ⟨false, false, false, false, 0, [(.imm a b 1 c d), (.int .i64 j)]⟩), (300000, ⟨false, false, true, false, 1, l⟩)] }
noncomputable def tp_hours_w0 (N : Nat) (F : AV → Heap → Option R) : St → Option R := loopW (tp_hours_E N) [100000] N (tp_hours_at N F [1, 1, 0, 1, 0] []) N
noncomputable def tp_hours_l0 (N : Nat) (F : AV → Heap → Option R) (n : Nat) : St → Option R := loopAt (tp_hours_E N) [100000] N (tp_hours_at N F [1, 1, 0, 1, 0] []) n
theorem tp_hours_q0_eq (N : Nat)  (F : AV → Heap → Option R) (e : Int) (f : Int) (a : LA) (b : Nat) (c : Bool) (d : Bool) : ∀ (n : Nat) (g : Nat) (i : Int) (j : Int) (l : LA), tp_hours_l0 N F n (tp_hours_s0 e f a b c d g i j l) = (tp_hours_q0 N (tp_hours_r0 a b c d F) e f a b c d n g i j l) := by
  intro n
  induction n with
  | zero => intros; kernel_rfl
  | succ n ih =>
    intro g i j l
    have e0 := funext fun g => funext fun i => funext fun j => funext fun l => (show tp_hours_l0 N F n (tp_hours_s0 e f a b c d g i j l) = _ from ih g i j l)
    have hK : tp_hours_l0 N F (n + 1) (tp_hours_s0 e f a b c d g i j l) = (tp_hours_q0B N (tp_hours_r0 a b c d F) e f a b c d (fun g i j l => tp_hours_l0 N F n (tp_hours_s0 e f a b c d g i j l)) g i j l) := by kernel_rfl
    exact hK.trans (by rw [e0]; rfl)
theorem tp_hours_eq (N : Nat) (e : Int) (f : Int) (a : LA) (b : Nat) (c : Bool) (d : Bool) (m : Int) (F : AV → Heap → Option R) : execF Try.prog muts (tp_hours_T N) tp_hours_hs N 18 [(.optr 100000 0), (.int .i64 e), (.int .i64 f)] [(100000, ⟨false, false, false, false, 0, [(.imm a b 1 c d), (.int .i64 m)]⟩)] F = (tp_hours N e f a b c d m (tp_hours_r0 a b c d F)) := by
  have e1 := funext fun g => funext fun i => funext fun j => funext fun l => (show tp_hours_w0 N F (tp_hours_s0 e f a b c d g i j l) = _ from (loopW_eq ..).trans (tp_hours_q0_eq N F e f a b c d N g i j l))
  have hK : execF Try.prog muts (tp_hours_T N) tp_hours_hs N 18 [(.optr 100000 0), (.int .i64 e), (.int .i64 f)] [(100000, ⟨false, false, false, false, 0, [(.imm a b 1 c d), (.int .i64 m)]⟩)] F = (tp_hoursB N (tp_hours_r0 a b c d F) (fun g i j l => tp_hours_w0 N F (tp_hours_s0 e f a b c d g i j l)) e f a b c d m) := by kernel_rfl
  rw [tp_hours_def]
  exact hK.trans (by rw [e1]; rfl)
noncomputable def tp_hours_run (N : Nat) (args : List AV) (h : Heap) (k : AV → Heap → Option R) : Option R :=
  match args, h with
  | [(.optr 100000 0), (.int .i64 e), (.int .i64 f)], [(100000, ⟨false, false, false, false, 0, [(.imm a b 1 c d), (.int .i64 m)]⟩)] => (tp_hours N e f a b c d m (tp_hours_r0 a b c d k))
  | _, _ => none
noncomputable def tp_hours_Tw (N : Nat) : Tw where
  runK := tp_hours_run N
  eq := by
    intro R args h k
    unfold tp_hours_run
    split
    · exact (tp_hours_eq ..).symm.trans ((execF_bind ..).trans (congrArg (Option.bind · _) (tp_hours_eq ..)))
    · rfl
theorem tp_hours_ok (N : Nat) : TwOk Try.prog 18 (tp_hours_Tw N) := by
  intro args h res o w
  have hh : tp_hours_run N args h (fun v o => some (v, o)) = some (res, o) := w
  unfold tp_hours_run at hh
  split at hh
  · exact execF_sound (T := tp_hours_T N) ⟨tp_Next_ok N, trivial⟩ follows ((tp_hours_eq ..).trans hh)
  · cases hh
noncomputable def mk_nameB (N : Nat) (r0 : List UInt8 → Option R)  (b : List UInt8) (a : Int) : Option R :=
  (cond ((decide ((0 : Int) ≤ (Int.tmod a (16 : Int)))) && ((decide ((Int.tmod a (16 : Int)) ≤ (IntKind.wrap .i64 ((Int.tmod a (16 : Int)) + (1 : Int))))) && ((decide ((IntKind.wrap .i64 ((Int.tmod a (16 : Int)) + (1 : Int))) ≤ (16 : Int))) && (decide ((16 : Int) ≤ (16 : Int)))))) (cond (Nat.ble ((List.length b) + (List.length (List.take ((Int.toNat (IntKind.wrap .i64 ((Int.tmod a (16 : Int)) + (1 : Int)))) - (Int.toNat (Int.tmod a (16 : Int)))) (List.drop (Int.toNat (Int.tmod a (16 : Int))) ([48, 49, 50, 51, 52, 53, 54, 55, 56, 57, 97, 98, 99, 100, 101, 102] : List UInt8))))) 140737488355328) (r0 (b ++ (List.take ((Int.toNat (IntKind.wrap .i64 ((Int.tmod a (16 : Int)) + (1 : Int)))) - (Int.toNat (Int.tmod a (16 : Int)))) (List.drop (Int.toNat (Int.tmod a (16 : Int))) ([48, 49, 50, 51, 52, 53, 54, 55, 56, 57, 97, 98, 99, 100, 101, 102] : List UInt8))))) none) none)
noncomputable def mk_namei (N : Nat) (b : List UInt8) (a : Int) (r0 : List UInt8 → Option R) : Option R := (mk_nameB N r0 b a)
noncomputable def mk_name := (shut (@mk_namei R)).1
theorem mk_name_def : @mk_name R = @mk_namei R := (shut _).2
noncomputable def mk_name_hs : Hints := { H := (hS (hR [0,1]) (hS (hR [4]) hL)), nils := [], modes := [], free := [], cob := [] }
noncomputable def mk_name_T (N : Nat) : List (Nat × Tw) := []
noncomputable def mk_name_E (N : Nat) : Env := mkE 13 mk_name_hs (mk_name_T N)
noncomputable def mk_name_fin (N : Nat) (F : AV → Heap → Option R) := afinish (mk_name_E N) Try.f19 mk_name_hs.modes [] F
noncomputable def mk_name_at (N : Nat) (F : AV → Heap → Option R) := atF (mk_name_E N) [] N Try.f19 mk_name_hs (mk_name_fin N F)
noncomputable def mk_name_r0  (F : AV → Heap → Option R) : List UInt8 → Option R := (fun d => F (.str d) [])
theorem mk_name_eq (N : Nat) (b : List UInt8) (a : Int) (F : AV → Heap → Option R) : execF Try.prog muts (mk_name_T N) mk_name_hs N 19 [(.str b), (.int .i64 a)] [] F = (mk_name N b a (mk_name_r0 F)) := by
  have hK : execF Try.prog muts (mk_name_T N) mk_name_hs N 19 [(.str b), (.int .i64 a)] [] F = (mk_nameB N (mk_name_r0 F) b a) := by kernel_rfl
  rw [mk_name_def]
  exact hK
noncomputable def mk_name_run (N : Nat) (args : List AV) (h : Heap) (k : AV → Heap → Option R) : Option R :=
  match args, h with
  | [(.str b), (.int .i64 a)], [] => (mk_name N b a (mk_name_r0 k))
  | _, _ => none
noncomputable def mk_name_Tw (N : Nat) : Tw where
  runK := mk_name_run N
  eq := by
    intro R args h k
    unfold mk_name_run
    split
    · exact (mk_name_eq ..).symm.trans ((execF_bind ..).trans (congrArg (Option.bind · _) (mk_name_eq ..)))
    · rfl
theorem mk_name_ok (N : Nat) : TwOk Try.prog 19 (mk_name_Tw N) := by
  intro args h res c e
  have hh : mk_name_run N args h (fun v c => some (v, c)) = some (res, c) := e
  unfold mk_name_run at hh
  split at hh
  · exact execF_sound (T := mk_name_T N) trivial follows ((mk_name_eq ..).trans hh)
  · cases hh
noncomputable def tp_awayB (N : Nat) (r0 : Nat → Int → LA → Option R)  (e : Int) (a : LA) (b : Nat) (c : Bool) (d : Bool) (f : Int) : Option R :=
  (tp_Next N 6 a b c d f (fun j i => (cond (j == (5 : Int)) (tp_Next N e a b c d i (fun l m => (r0 1 m [(.int .i64 l)]))) (r0 0 i []))))
noncomputable def tp_awayi (N : Nat) (e : Int) (a : LA) (b : Nat) (c : Bool) (d : Bool) (f : Int) (r0 : Nat → Int → LA → Option R) : Option R := (tp_awayB N r0 e a b c d f)
noncomputable def tp_away := (shut (@tp_awayi R)).1
theorem tp_away_def : @tp_away R = @tp_awayi R := (shut _).2
noncomputable def tp_away_hs : Hints := { H := (hS (hR [0,1]) (hS (hS (hR [0,1,7]) (hS (hS (hR [4]) hL) hL)) (hS (hR [4]) hL))), nils := [(4, 1)], modes := [(2, 1)], free := [], cob := [] }
noncomputable def tp_away_T (N : Nat) : List (Nat × Tw) := [(17, tp_Next_Tw N)]
noncomputable def tp_away_E (N : Nat) : Env := mkE 12 tp_away_hs (tp_away_T N)
noncomputable def tp_away_fin (N : Nat) (F : AV → Heap → Option R) := afinish (tp_away_E N) Try.f40 tp_away_hs.modes [100000] F
noncomputable def tp_away_at (N : Nat) (F : AV → Heap → Option R) := atF (tp_away_E N) [100000] N Try.f40 tp_away_hs (tp_away_fin N F)
noncomputable def tp_away_r0 (a : LA) (b : Nat) (c : Bool) (d : Bool) (F : AV → Heap → Option R) : Nat → Int → LA → Option R := (fun n o p => F (.own 300000 0 n) [(100000, ⟨false, false, false, false, 0, [(.imm a b 1 c d), (.int .i64 o)]⟩), (300000, ⟨false, false, true, false, 1, p⟩)])
theorem tp_away_eq (N : Nat) (e : Int) (a : LA) (b : Nat) (c : Bool) (d : Bool) (f : Int) (F : AV → Heap → Option R) : execF Try.prog muts (tp_away_T N) tp_away_hs N 40 [(.optr 100000 0), (.int .i64 e)] [(100000, ⟨false, false, false, false, 0, [(.imm a b 1 c d), (.int .i64 f)]⟩)] F = (tp_away N e a b c d f (tp_away_r0 a b c d F)) := by
  have hK : execF Try.prog muts (tp_away_T N) tp_away_hs N 40 [(.optr 100000 0), (.int .i64 e)] [(100000, ⟨false, false, false, false, 0, [(.imm a b 1 c d), (.int .i64 f)]⟩)] F = (tp_awayB N (tp_away_r0 a b c d F) e a b c d f) := by kernel_rfl
  rw [tp_away_def]
  exact hK
noncomputable def tp_away_run (N : Nat) (args : List AV) (h : Heap) (k : AV → Heap → Option R) : Option R :=
  match args, h with
  | [(.optr 100000 0), (.int .i64 e)], [(100000, ⟨false, false, false, false, 0, [(.imm a b 1 c d), (.int .i64 f)]⟩)] => (tp_away N e a b c d f (tp_away_r0 a b c d k))
  | _, _ => none
noncomputable def tp_away_Tw (N : Nat) : Tw where
  runK := tp_away_run N
  eq := by
    intro R args h k
    unfold tp_away_run
    split
    · exact (tp_away_eq ..).symm.trans ((execF_bind ..).trans (congrArg (Option.bind · _) (tp_away_eq ..)))
    · rfl
theorem tp_away_ok (N : Nat) : TwOk Try.prog 40 (tp_away_Tw N) := by
  intro args h res g q
  have hh : tp_away_run N args h (fun v g => some (v, g)) = some (res, g) := q
  unfold tp_away_run at hh
  split at hh
  · exact execF_sound (T := tp_away_T N) ⟨tp_Next_ok N, trivial⟩ follows ((tp_away_eq ..).trans hh)
  · cases hh
noncomputable def tp_lineB (N : Nat) (r0 : LA → Int → Option R)  (i : Int) (e : Int) (f : Int) (g : Int) (a : LA) (b : Nat) (c : Bool) (d : Bool) (j : Int) : Option R :=
  (mk_name N ([108] : List UInt8) i (fun n => (tp_Next N 4 a b c d j (fun o u => (tp_Next N 2 a b c d u (fun p w => (tp_Next N 40 a b c d w (fun l x => (tp_Next N 20 a b c d x (fun q y => (tp_Next N 5 a b c d y (fun z r => (cond (z == (4 : Int)) (tp_Next N 4 a b c d r (fun aa ab => (tp_Next N 2 a b c d ab (fun ac ad => (tp_Next N 4 a b c d ad (fun ae af => (tp_away N g a b c d af (fun s ag ah => (r0 [(.str n), (.int .i64 e), (.int .i64 f), (.int .i64 (IntKind.wrap .i64 ((1 : Int) + o))), (.int .i64 (IntKind.wrap .i64 ((1 : Int) + p))), (.int .i64 (IntKind.wrap .i64 ((0 : Int) - aa))), (.int .i64 (IntKind.wrap .i64 ((1 : Int) + ac))), (.int .i64 ae), (.int .i64 1), (.int .i64 (IntKind.wrap .i64 ((4 : Int) + l))), (.int .i64 (IntKind.wrap .i64 ((IntKind.wrap .i64 ((4 : Int) + l)) + q))), (.imm (List.take (s * 1) ah) s 1 false false)] ag))))))))) (tp_away N g a b c d r (fun t ai aj => (r0 [(.str n), (.int .i64 e), (.int .i64 f), (.int .i64 (IntKind.wrap .i64 ((1 : Int) + o))), (.int .i64 (IntKind.wrap .i64 ((1 : Int) + p))), (.int .i64 0), (.int .i64 1), (.int .i64 0), (.int .i64 1), (.int .i64 (IntKind.wrap .i64 ((4 : Int) + l))), (.int .i64 (IntKind.wrap .i64 ((IntKind.wrap .i64 ((4 : Int) + l)) + q))), (.imm (List.take (t * 1) aj) t 1 false false)] ai))))))))))))))))
noncomputable def tp_linei (N : Nat) (i : Int) (e : Int) (f : Int) (g : Int) (a : LA) (b : Nat) (c : Bool) (d : Bool) (j : Int) (r0 : LA → Int → Option R) : Option R := (tp_lineB N r0 i e f g a b c d j)
noncomputable def tp_line := (shut (@tp_linei R)).1
theorem tp_line_def : @tp_line R = @tp_linei R := (shut _).2
noncomputable def tp_line_hs : Hints := { H := (hS (hR [0,1,2,3,4,10]) (hS (hR [0,4,10,11]) (hS (hR [0,4,10,11]) (hS (hS (hR [0,4,10,11,37]) (hN [0,4,10,11] (hR [0,4,10,11]) hL)) (hS (hR [10,11]) (hS (hR [10]) hL)))))), nils := [], modes := [(3, 0)], free := [], cob := [28] }
noncomputable def tp_line_T (N : Nat) : List (Nat × Tw) := [(19, mk_name_Tw N), (17, tp_Next_Tw N), (40, tp_away_Tw N)]
noncomputable def tp_line_E (N : Nat) : Env := mkE 55 tp_line_hs (tp_line_T N)
noncomputable def tp_line_fin (N : Nat) (F : AV → Heap → Option R) := afinish (tp_line_E N) Try.f20 tp_line_hs.modes [100000] F
noncomputable def tp_line_at (N : Nat) (F : AV → Heap → Option R) := atF (tp_line_E N) [100000] N Try.f20 tp_line_hs (tp_line_fin N F)
noncomputable def tp_line_r0 (a : LA) (b : Nat) (c : Bool) (d : Bool) (F : AV → Heap → Option R) : LA → Int → Option R := (fun ak al => F (.pagg ak false) [(100000, ⟨false, false, false, false, 0, [(.imm a b 1 c d), (.int .i64 al)]⟩)])
theorem tp_line_eq (N : Nat) (i : Int) (e : Int) (f : Int) (g : Int) (a : LA) (b : Nat) (c : Bool) (d : Bool) (j : Int) (F : AV → Heap → Option R) : execF Try.prog muts (tp_line_T N) tp_line_hs N 20 [(.optr 100000 0), (.int .i64 i), (.int .i64 e), (.int .i64 f), (.int .i64 g)] [(100000, ⟨false, false, false, false, 0, [(.imm a b 1 c d), (.int .i64 j)]⟩)] F = (tp_line N i e f g a b c d j (tp_line_r0 a b c d F)) := by
  have hK : execF Try.prog muts (tp_line_T N) tp_line_hs N 20 [(.optr 100000 0), (.int .i64 i), (.int .i64 e), (.int .i64 f), (.int .i64 g)] [(100000, ⟨false, false, false, false, 0, [(.imm a b 1 c d), (.int .i64 j)]⟩)] F = (tp_lineB N (tp_line_r0 a b c d F) i e f g a b c d j) := by kernel_rfl
  rw [tp_line_def]
  exact hK
noncomputable def tp_line_run (N : Nat) (args : List AV) (h : Heap) (k : AV → Heap → Option R) : Option R :=
  match args, h with
  | [(.optr 100000 0), (.int .i64 i), (.int .i64 e), (.int .i64 f), (.int .i64 g)], [(100000, ⟨false, false, false, false, 0, [(.imm a b 1 c d), (.int .i64 j)]⟩)] => (tp_line N i e f g a b c d j (tp_line_r0 a b c d k))
  | _, _ => none
noncomputable def tp_line_Tw (N : Nat) : Tw where
  runK := tp_line_run N
  eq := by
    intro R args h k
    unfold tp_line_run
    split
    · exact (tp_line_eq ..).symm.trans ((execF_bind ..).trans (congrArg (Option.bind · _) (tp_line_eq ..)))
    · rfl
theorem tp_line_ok (N : Nat) : TwOk Try.prog 20 (tp_line_Tw N) := by
  intro args h res m am
  have hh : tp_line_run N args h (fun v m => some (v, m)) = some (res, m) := am
  unfold tp_line_run at hh
  split at hh
  · exact execF_sound (T := tp_line_T N) ⟨mk_name_ok N, tp_Next_ok N, tp_away_ok N, trivial⟩ follows ((tp_line_eq ..).trans hh)
  · cases hh
noncomputable def tp_unit_q1B (N : Nat)  (r0 : LA → Int → Option R) (a : LA) (b : Nat) (c : Bool) (d : Bool) (y : Int) (j : List UInt8) (l : Int) (e : Int) (g : Int) (f : Nat) (m : Int) (z : Int) (aa : Int) (ab : Int) (ac : Int) (x : Int) (t : Int) (ad : Int) (ae : Int) (af : Int) (u : Nat) (w : Int) (i : LA) (ag : LA)   (ah : Int) (ai : Int) (aj : Int) (ak : Int) : Option R :=
  (cond (w == (2 : Int)) (tp_Next N (IntKind.wrap .i64 ((IntKind.wrap .i64 (g - e)) + (1 : Int))) a b c d y (fun aw ax => (r0 [(.str j), (.int .i64 l), (.int .i64 e), (.int .i64 g), (.imm (List.take (f * 2) i) f 2 false false), (.int .i64 m), (.int .i64 z), (.int .i64 aa), (.int .i64 ah), (.int .i64 ai), (.int .i64 ab), (.int .i64 ac), (.int .i64 x), (.int .i64 t), (.int .i64 aj), (.int .i64 ad), (.int .i64 ae), (.int .i64 af), (.imm (List.take (u * 1) ag) u 1 false false), (.int .i64 w), (.int .i64 ak), (.int .i64 (IntKind.wrap .i64 (e + aw)))] ax))) (r0 [(.str j), (.int .i64 l), (.int .i64 e), (.int .i64 g), (.imm (List.take (f * 2) i) f 2 false false), (.int .i64 m), (.int .i64 z), (.int .i64 aa), (.int .i64 ah), (.int .i64 ai), (.int .i64 ab), (.int .i64 ac), (.int .i64 x), (.int .i64 t), (.int .i64 aj), (.int .i64 ad), (.int .i64 ae), (.int .i64 af), (.imm (List.take (u * 1) ag) u 1 false false), (.int .i64 w), (.int .i64 ak), (.int .i64 0)] y))
noncomputable def tp_unit_q1 (N : Nat)  (r0 : LA → Int → Option R) (a : LA) (b : Nat) (c : Bool) (d : Bool) (y : Int) (j : List UInt8) (l : Int) (e : Int) (g : Int) (f : Nat) (m : Int) (z : Int) (aa : Int) (ab : Int) (ac : Int) (x : Int) (t : Int) (ad : Int) (ae : Int) (af : Int) (u : Nat) (w : Int) (i : LA) (ag : LA) (ah : Int) (ai : Int) (aj : Int) (ak : Int) : Option R := (tp_unit_q1B N r0 a b c d y j l e g f m z aa ab ac x t ad ae af u w i ag ah ai aj ak)
noncomputable def tp_unit_q0B (N : Nat)  (r0 : LA → Int → Option R) (o : Int) (a : LA) (b : Nat) (c : Bool) (d : Bool) (j : List UInt8) (l : Int) (e : Int) (m : Int) (k0 : Int → Int → Int → Int → Nat → LA → Option R) (q1 : Int → Int → Int → Int → Int → Int → Int → Int → Int → Int → Nat → Int → LA → Int → Int → Int → Int → Option R) (p : Int) (q : Int) (r : Int) (g : Int) (f : Nat) (i : LA) : Option R :=
  (cond (decide (q > (0 : Int))) (tp_Next N 15 a b c d r (fun ap ay => (cond ((Nat.ble (f + 1) 140737488355328) && (Nat.ble ((f + 1) * 16) 140737488355328)) (tp_Next N 10 a b c d ay (fun az ba => (k0 (IntKind.wrap .i64 (p + az)) (IntKind.wrap .i64 (q - (1 : Int))) ba (IntKind.wrap .i64 (g + (IntKind.wrap .i64 ((1 : Int) + ap)))) (f + 1) ((List.take (f * 2) i) ++ [(.int .i64 (IntKind.wrap .i64 ((1 : Int) + ap))), (.int .i64 p)])))) none))) (tp_Next N 20 a b c d r (fun z bb => (tp_Next N 20 a b c d bb (fun aa bc => (tp_Next N (IntKind.wrap .i64 ((IntKind.wrap .i64 (g - e)) + (1 : Int))) a b c d bc (fun aq bd => (tp_Next N (IntKind.wrap .i64 ((IntKind.wrap .i64 (g - e)) + (1 : Int))) a b c d bd (fun ar be => (tp_Next N 3 a b c d be (fun ab bf => (tp_Next N 3 a b c d bf (fun ac bg => (tp_Next N 2 a b c d bg (fun x bh => (tp_Next N 30 a b c d bh (fun t bi => (tp_Next N 30 a b c d bi (fun au bj => (tp_Next N 4 a b c d bj (fun ad bk => (tp_Next N 8 a b c d bk (fun ae bl => (tp_Next N 4 a b c d bl (fun af bm => (tp_away N o a b c d bm (fun u bn ag => (tp_Next N (IntKind.wrap .i64 ((2 : Int) + x)) a b c d bn (fun av bo => (cond (inIdx av 3) (rdI .i64 (List.drop (0 + ((Int.toNat av) * 1)) [(.int .i64 0), (.int .i64 2), (.int .i64 1)]) fun w => (tp_Next N 4 a b c d bo (fun bp y => (cond (w == (1 : Int)) (q1 y z aa ab ac x t ad ae af u w ag (IntKind.wrap .i64 (e + aq)) (IntKind.wrap .i64 (e + ar)) (IntKind.wrap .i64 (t + au)) 1) (q1 y z aa ab ac x t ad ae af u w ag (IntKind.wrap .i64 (e + aq)) (IntKind.wrap .i64 (e + ar)) (IntKind.wrap .i64 (t + au)) (IntKind.wrap .i64 ((1 : Int) + bp))))))) none))))))))))))))))))))))))))))))
noncomputable def tp_unit_q0 (N : Nat)  (r0 : LA → Int → Option R) (o : Int) (a : LA) (b : Nat) (c : Bool) (d : Bool) (j : List UInt8) (l : Int) (e : Int) (m : Int) : Nat → Int → Int → Int → Int → Nat → LA → Option R
  | 0, _, _, _, _, _, _ => none
  | n + 1, p, q, r, g, f, i => (tp_unit_q0B N r0 o a b c d j l e m (tp_unit_q0 N r0 o a b c d j l e m n) (fun y z aa ab ac x t ad ae af u w ag ah ai aj ak => (tp_unit_q1 N r0 a b c d y j l e g f m z aa ab ac x t ad ae af u w i ag ah ai aj ak)) p q r g f i)
noncomputable def tp_unitB (N : Nat) (r0 : LA → Int → Option R) (q0 : List UInt8 → Int → Int → Int → Int → Int → Int → Int → Nat → LA → Option R) (al : Int) (am : Int) (o : Int) (a : LA) (b : Nat) (c : Bool) (d : Bool) (an : Int) : Option R :=
  (mk_name N ([117] : List UInt8) al (fun j => (tp_Next N am a b c d an (fun l bq => (tp_Next N 8 a b c d bq (fun e br => (tp_Next N 20 a b c d br (fun m bs => (tp_Next N 20 a b c d bs (fun bt bu => (tp_Next N 2 a b c d bu (fun bv bw => (q0 j l e m (IntKind.wrap .i64 (bt - (2 : Int))) (IntKind.wrap .i64 ((1 : Int) + bv)) bw e 0 [])))))))))))))
noncomputable def tp_uniti (N : Nat) (al : Int) (am : Int) (o : Int) (a : LA) (b : Nat) (c : Bool) (d : Bool) (an : Int) (r0 : LA → Int → Option R) : Option R := (tp_unitB N r0 (fun j l e m p q r g f i => (tp_unit_q0 N r0 o a b c d j l e m N p q r g f i)) al am o a b c d an)
noncomputable def tp_unit := (shut (@tp_uniti R)).1
theorem tp_unit_def : @tp_unit R = @tp_uniti R := (shut _).2
noncomputable def tp_unit_hs : Hints := { H := (hS (hR [0,1,2,3,8]) (hS (hR [0,3,8,9]) (hS (hR [0,3,8,9]) (hS (hR [0,3,8,9,10]) (hS (hS (hR [0,3,8,9,10,11]) (hN [0,3,8,9] (hN [0,3,8,9,10,11] (hS (hS (hR [0,3,8,9,10,11,33]) (hN [0,3,8,9,10,11] hL hL)) (hS (hN [0,3,8,9,10,11] (hS (hR [0,3,8,9,10,11,12]) (hS (hR [0,3,8,9,10,11,12]) (hR [0,3,8,9,10,11]))) hL) (hR [0,3,8,9,10,11]))) hL) hL)) (hS (hR [0,3,8,9]) (hS (hR [0,3,8,9]) (hS (hR [0,3,8,9]) (hS (hR [0,3,8,9]) (hS (hR [0,3,8,9]) (hS (hR [0,3,8,9]) (hS (hR [0,8,9]) (hS (hR [0,8,9]) (hJ (hS (hR [0,8,9,133]) (hN [0,8,9] (hR [0,8,9]) hL)) (hS (hS (hR [0,8,9,137]) (hN [8,9] (hR [8,9]) hL)) (hS (hR [8]) hL)))))))))))))))), nils := [], modes := [(3, 0)], free := [], cob := [22] }
noncomputable def tp_unit_T (N : Nat) : List (Nat × Tw) := [(19, mk_name_Tw N), (17, tp_Next_Tw N), (40, tp_away_Tw N)]
noncomputable def tp_unit_E (N : Nat) : Env := mkE 151 tp_unit_hs (tp_unit_T N)
noncomputable def tp_unit_fin (N : Nat) (F : AV → Heap → Option R) := afinish (tp_unit_E N) Try.f21 tp_unit_hs.modes [100000] F
noncomputable def tp_unit_at (N : Nat) (F : AV → Heap → Option R) := atF (tp_unit_E N) [100000] N Try.f21 tp_unit_hs (tp_unit_fin N F)
noncomputable def tp_unit_r0 (a : LA) (b : Nat) (c : Bool) (d : Bool) (F : AV → Heap → Option R) : LA → Int → Option R := (fun bx bz => F (.pagg bx false) [(100000, ⟨false, false, false, false, 0, [(.imm a b 1 c d), (.int .i64 bz)]⟩)])
noncomputable def tp_unit_s1 (a : LA) (b : Nat) (c : Bool) (d : Bool) (y : Int) (j : List UInt8) (l : Int) (e : Int) (g : Int) (f : Nat) (m : Int) (z : Int) (aa : Int) (ab : Int) (ac : Int) (x : Int) (t : Int) (ad : Int) (ae : Int) (af : Int) (u : Nat) (w : Int) (i : LA) (ag : LA) (ah : Int) (ai : Int) (aj : Int) (ak : Int) : St := { s := [(0, (.optr 100000 0)), (8, (.optr 300000 0)), (9, (.optr 300001 0))], h := [(100000, ⟨false, false, false, false, 0, [(.imm a b 1 c d), (.int .i64 y)]⟩), (300000, ⟨false, false, false, false, 0, [(.str ([] : List UInt8)), (.int .i64 0), (.int .i64 0), (.int .i64 0), .nsl, (.int .i64 0), (.int .i64 0), (.int .i64 0), (.int .i64 0), (.int .i64 0), (.int .i64 0), (.int .i64 0), (.int .i64 0), (.int .i64 0), (.int .i64 0), (.int .i64 0), (.int .i64 0), (.int .i64 0), .nsl, (.int .i64 0), (.int .i64 0), (.int .i64 0)]⟩), (300001, ⟨false, false, false, false, 0, [(.str j), (.int .i64 l), (.int .i64 e), (.int .i64 g), (.own 300002 0 f), (.int .i64 m), (.int .i64 z), (.int .i64 aa), (.int .i64 ah), (.int .i64 ai), (.int .i64 ab), (.int .i64 ac), (.int .i64 x), (.int .i64 t), (.int .i64 aj), (.int .i64 ad), (.int .i64 ae), (.int .i64 af), (.own 300003 0 u), (.int .i64 w), (.int .i64 ak), (.int .i64 0)]⟩), (300002, ⟨false, false, true, false, 2, i⟩), (300003, ⟨false, false, true, false, 1, ag⟩)] }
noncomputable def tp_unit_j1 (N : Nat) (F : AV → Heap → Option R) : St → Option R := joinAt (tp_unit_E N) [100000] N (tp_unit_at N F [1, 1, 1, 1, 1, 1, 1, 1, 1, 1, 1, 1, 1, 1] [])
noncomputable def tp_unit_i1 (N : Nat) (F : AV → Heap → Option R) : St → Option R := joinIn (tp_unit_E N) [100000] N (tp_unit_at N F [1, 1, 1, 1, 1, 1, 1, 1, 1, 1, 1, 1, 1, 1] [])
noncomputable def tp_unit_s0 (o : Int) (a : LA) (b : Nat) (c : Bool) (d : Bool) (j : List UInt8) (l : Int) (e : Int) (m : Int) (p : Int) (q : Int) (r : Int) (g : Int) (f : Nat) (i : LA) : St := { s := [(0, (.optr 100000 0)), (3, (.int .i64 o)), (8, (.optr 300000 0)), (9, (.optr 300001 0)), (10, (.int .i64 p)), (11, (.int .i64 q))], h := [(100000, ⟨false, false, false, false, 0, [(.imm a b 1 c d), (.int .i64 r)]⟩), (300000, ⟨false, false, false, false, 0, [(.str ([] : List UInt8)), (.int .i64 0), (.int .i64 0), (.int .i64 0), .nsl, (.int .i64 0), (.int .i64 0), (.int .i64 0), (.int .i64 0), (.int .i64 0), (.int .i64 0), (.int .i64 0), (.int .i64 0), (.int .i64 0), (.int .i64 0), (.int .i64 0), (.int .i64 0), (.int .i64 0), .nsl, (.int .i64 0), (.int .i64 0), (.int .i64 0)]⟩), (300001, ⟨false, false, false, false, 0, [(.str j), (.int .i64 l), (.int .i64 e), (.int .i64 g), (.own 300002 0 f), (.int .i64 m), (.int .i64 0), (.int .i64 0), (.int .i64 0), (.int .i64 0), (.int .i64 0), (.int .i64 0), (.int .i64 0), (.int .i64 0), (.int .i64 0), (.int .i64 0), (.int .i64 0), (.int .i64 0), (.own 300003 0 0), (.int .i64 0), (.int .i64 0), (.int .i64 0)]⟩), (300002, ⟨false, false, true, false, 2, i⟩), (300003, ⟨false, false, true, false, 1, []⟩)] }
noncomputable def tp_unit_w0 (N : Nat) (F : AV → Heap → Option R) : St → Option R := loopW (tp_unit_E N) [100000] N (tp_unit_at N F [1, 1, 1, 1, 0, 1, 0] []) N
noncomputable def tp_unit_l0 (N : Nat) (F : AV → Heap → Option R) (n : Nat) : St → Option R := loopAt (tp_unit_E N) [100000] N (tp_unit_at N F [1, 1, 1, 1, 0, 1, 0] []) n
theorem tp_unit_q1_eq (N : Nat)  (F : AV → Heap → Option R) (a : LA) (b : Nat) (c : Bool) (d : Bool) (y : Int) (j : List UInt8) (l : Int) (e : Int) (g : Int) (f : Nat) (m : Int) (z : Int) (aa : Int) (ab : Int) (ac : Int) (x : Int) (t : Int) (ad : Int) (ae : Int) (af : Int) (u : Nat) (w : Int) (i : LA) (ag : LA) : ∀ (ah : Int) (ai : Int) (aj : Int) (ak : Int), tp_unit_i1 N F (tp_unit_s1 a b c d y j l e g f m z aa ab ac x t ad ae af u w i ag ah ai aj ak) = (tp_unit_q1 N (tp_unit_r0 a b c d F) a b c d y j l e g f m z aa ab ac x t ad ae af u w i ag ah ai aj ak) := by
  intro ah ai aj ak
  have hK : tp_unit_i1 N F (tp_unit_s1 a b c d y j l e g f m z aa ab ac x t ad ae af u w i ag ah ai aj ak) = (tp_unit_q1B N (tp_unit_r0 a b c d F) a b c d y j l e g f m z aa ab ac x t ad ae af u w i ag ah ai aj ak) := by kernel_rfl
  exact hK
theorem tp_unit_q0_eq (N : Nat)  (F : AV → Heap → Option R) (o : Int) (a : LA) (b : Nat) (c : Bool) (d : Bool) (j : List UInt8) (l : Int) (e : Int) (m : Int) : ∀ (n : Nat) (p : Int) (q : Int) (r : Int) (g : Int) (f : Nat) (i : LA), tp_unit_l0 N F n (tp_unit_s0 o a b c d j l e m p q r g f i) = (tp_unit_q0 N (tp_unit_r0 a b c d F) o a b c d j l e m n p q r g f i) := by
  intro n
  induction n with
  | zero => intros; kernel_rfl
  | succ n ih =>
    intro p q r g f i
    have e0 := funext fun p => funext fun q => funext fun r => funext fun g => funext fun f => funext fun i => (show tp_unit_l0 N F n (tp_unit_s0 o a b c d j l e m p q r g f i) = _ from ih p q r g f i)
    have e1 := funext fun y => funext fun z => funext fun aa => funext fun ab => funext fun ac => funext fun x => funext fun t => funext fun ad => funext fun ae => funext fun af => funext fun u => funext fun w => funext fun ag => funext fun ah => funext fun ai => funext fun aj => funext fun ak => (show tp_unit_j1 N F (tp_unit_s1 a b c d y j l e g f m z aa ab ac x t ad ae af u w i ag ah ai aj ak) = _ from (joinAt_eq ..).trans (tp_unit_q1_eq N F a b c d y j l e g f m z aa ab ac x t ad ae af u w i ag ah ai aj ak))
    have hK : tp_unit_l0 N F (n + 1) (tp_unit_s0 o a b c d j l e m p q r g f i) = (tp_unit_q0B N (tp_unit_r0 a b c d F) o a b c d j l e m (fun p q r g f i => tp_unit_l0 N F n (tp_unit_s0 o a b c d j l e m p q r g f i)) (fun y z aa ab ac x t ad ae af u w ag ah ai aj ak => tp_unit_j1 N F (tp_unit_s1 a b c d y j l e g f m z aa ab ac x t ad ae af u w i ag ah ai aj ak)) p q r g f i) := by kernel_rfl
    exact hK.trans (by rw [e0, e1]; rfl)
theorem tp_unit_eq (N : Nat) (al : Int) (am : Int) (o : Int) (a : LA) (b : Nat) (c : Bool) (d : Bool) (an : Int) (F : AV → Heap → Option R) : execF Try.prog muts (tp_unit_T N) tp_unit_hs N 21 [(.optr 100000 0), (.int .i64 al), (.int .i64 am), (.int .i64 o)] [(100000, ⟨false, false, false, false, 0, [(.imm a b 1 c d), (.int .i64 an)]⟩)] F = (tp_unit N al am o a b c d an (tp_unit_r0 a b c d F)) := by
  have e1 := funext fun j => funext fun l => funext fun e => funext fun m => funext fun p => funext fun q => funext fun r => funext fun g => funext fun f => funext fun i => (show tp_unit_w0 N F (tp_unit_s0 o a b c d j l e m p q r g f i) = _ from (loopW_eq ..).trans (tp_unit_q0_eq N F o a b c d j l e m N p q r g f i))
  have hK : execF Try.prog muts (tp_unit_T N) tp_unit_hs N 21 [(.optr 100000 0), (.int .i64 al), (.int .i64 am), (.int .i64 o)] [(100000, ⟨false, false, false, false, 0, [(.imm a b 1 c d), (.int .i64 an)]⟩)] F = (tp_unitB N (tp_unit_r0 a b c d F) (fun j l e m p q r g f i => tp_unit_w0 N F (tp_unit_s0 o a b c d j l e m p q r g f i)) al am o a b c d an) := by kernel_rfl
  rw [tp_unit_def]
  exact hK.trans (by rw [e1]; rfl)
noncomputable def tp_unit_run (N : Nat) (args : List AV) (h : Heap) (k : AV → Heap → Option R) : Option R :=
  match args, h with
  | [(.optr 100000 0), (.int .i64 al), (.int .i64 am), (.int .i64 o)], [(100000, ⟨false, false, false, false, 0, [(.imm a b 1 c d), (.int .i64 an)]⟩)] => (tp_unit N al am o a b c d an (tp_unit_r0 a b c d k))
  | _, _ => none
noncomputable def tp_unit_Tw (N : Nat) : Tw where
  runK := tp_unit_run N
  eq := by
    intro R args h k
    unfold tp_unit_run
    split
    · exact (tp_unit_eq ..).symm.trans ((execF_bind ..).trans (congrArg (Option.bind · _) (tp_unit_eq ..)))
    · rfl
theorem tp_unit_ok (N : Nat) : TwOk Try.prog 21 (tp_unit_Tw N) := by
  intro args h res ao ca
  have hh : tp_unit_run N args h (fun v ao => some (v, ao)) = some (res, ao) := ca
  unfold tp_unit_run at hh
  split at hh
  · exact execF_sound (T := tp_unit_T N) ⟨mk_name_ok N, tp_Next_ok N, tp_away_ok N, trivial⟩ follows ((tp_unit_eq ..).trans hh)
  · cases hh
noncomputable def tp_outage_q1B (N : Nat)  (r0 : LA → Int → Option R) (e : Int) (a : LA) (b : Nat) (c : Bool) (d : Bool) (f : List UInt8) (g : Nat) (i : LA) (k1 : Int → Int → Nat → LA → Option R)  (l : Int) (o : Int) (j : Nat) (m : LA) : Option R :=
  (cond (decide (l < e)) (tp_Next N 2 a b c d o (fun ac x => (cond (ac == (1 : Int)) (tp_Next N 8 a b c d x (fun ad ae => (tp_Next N 8 a b c d ae (fun af ag => (cond ((Nat.ble (j + 1) 140737488355328) && (Nat.ble ((j + 1) * 24) 140737488355328)) (k1 (IntKind.wrap .i64 (l + (1 : Int))) ag (j + 1) ((List.take (j * 3) m) ++ [(.int .i64 l), (.int .i64 ad), (.int .i64 af)])) none))))) (k1 (IntKind.wrap .i64 (l + (1 : Int))) x j m)))) (r0 [(.str f), (.imm (List.take (g * 1) i) g 1 false false), (.bool true), (.imm (List.take (j * 3) m) j 3 false false)] o))
noncomputable def tp_outage_q1 (N : Nat)  (r0 : LA → Int → Option R) (e : Int) (a : LA) (b : Nat) (c : Bool) (d : Bool) (f : List UInt8) (g : Nat) (i : LA) : Nat → Int → Int → Nat → LA → Option R
  | 0, _, _, _, _ => none
  | n + 1, l, o, j, m => (tp_outage_q1B N r0 e a b c d f g i (tp_outage_q1 N r0 e a b c d f g i n) l o j m)
noncomputable def tp_outage_q0B (N : Nat)  (r0 : LA → Int → Option R) (e : Int) (a : LA) (b : Nat) (c : Bool) (d : Bool) (f : List UInt8)  (q1 : Int → Int → Nat → LA → Option R) (p : Int) (g : Nat) (i : LA) : Option R :=
  (tp_Next N 2 a b c d p (fun ah y => (cond (ah == (1 : Int)) (q1 0 y 0 []) (r0 [(.str f), (.imm (List.take (g * 1) i) g 1 false false), (.bool false), (.imm [] 0 3 false false)] y))))
noncomputable def tp_outage_q0 (N : Nat)  (r0 : LA → Int → Option R) (e : Int) (a : LA) (b : Nat) (c : Bool) (d : Bool) (f : List UInt8) (p : Int) (g : Nat) (i : LA) : Option R := (tp_outage_q0B N r0 e a b c d f (fun l o j m => (tp_outage_q1 N r0 e a b c d f g i N l o j m)) p g i)
noncomputable def tp_outageB (N : Nat) (r0 : LA → Int → Option R) (q0 : List UInt8 → Int → Nat → LA → Option R) (r : Int) (q : Int) (e : Int) (a : LA) (b : Nat) (c : Bool) (d : Bool) (t : Int) : Option R :=
  (mk_name N ([111] : List UInt8) r (fun f => (tp_Next N q a b c d t (fun u ai => (tp_Next N q a b c d ai (fun z aa => (cond ((decide (z > u)) == true) (tp_Next N 3 a b c d aa (fun aj ab => (cond (cond true (aj == (2 : Int)) false) (q0 f ab 2 [(.int .i64 u), (.int .i64 z)]) (q0 f ab 1 [(.int .i64 u)])))) (q0 f aa 1 [(.int .i64 u)]))))))))
noncomputable def tp_outagei (N : Nat) (r : Int) (q : Int) (e : Int) (a : LA) (b : Nat) (c : Bool) (d : Bool) (t : Int) (r0 : LA → Int → Option R) : Option R := (tp_outageB N r0 (fun f p g i => (tp_outage_q0 N r0 e a b c d f p g i)) r q e a b c d t)
noncomputable def tp_outage := (shut (@tp_outagei R)).1
theorem tp_outage_def : @tp_outage R = @tp_outagei R := (shut _).2
noncomputable def tp_outage_hs : Hints := { H := (hS (hR [0,1,2,3,8]) (hS (hR [0,2,3,8,9]) (hJ (hS (hR [0,3,8,9,10]) (hS (hR [0,3,8,9,10,32]) (hN [0,3,8,9] (hR [0,3,8,9]) hL))) (hS (hS (hR [0,3,8,9,41]) (hN [8,9] (hS (hR [0,3,8,9]) (hS (hR [0,3,8,9,11]) (hN [8,9] (hN [0,3,8,9,11] (hS (hS (hR [0,3,8,9,11,45]) (hN [0,3,8,9,11] hL hL)) (hS (hN [0,3,8,9,11] (hS (hR [0,3,8,9,11,50]) (hN [0,3,8,9,11] (hR [0,3,8,9,11]) hL)) hL) (hR [0,3,8,9,11]))) hL) hL))) hL)) (hS (hR [8]) hL))))), nils := [], modes := [(3, 0)], free := [], cob := [18] }
noncomputable def tp_outage_T (N : Nat) : List (Nat × Tw) := [(19, mk_name_Tw N), (17, tp_Next_Tw N)]
noncomputable def tp_outage_E (N : Nat) : Env := mkE 63 tp_outage_hs (tp_outage_T N)
noncomputable def tp_outage_fin (N : Nat) (F : AV → Heap → Option R) := afinish (tp_outage_E N) Try.f22 tp_outage_hs.modes [100000] F
noncomputable def tp_outage_at (N : Nat) (F : AV → Heap → Option R) := atF (tp_outage_E N) [100000] N Try.f22 tp_outage_hs (tp_outage_fin N F)
noncomputable def tp_outage_r0 (a : LA) (b : Nat) (c : Bool) (d : Bool) (F : AV → Heap → Option R) : LA → Int → Option R := (fun ak al => F (.pagg ak false) [(100000, ⟨false, false, false, false, 0, [(.imm a b 1 c d), (.int .i64 al)]⟩)])
noncomputable def tp_outage_s1 (e : Int) (a : LA) (b : Nat) (c : Bool) (d : Bool) (f : List UInt8) (g : Nat) (i : LA) (l : Int) (o : Int) (j : Nat) (m : LA) : St := { s := [(0, (.optr 100000 0)), (3, (.int .i64 e)), (8, (.optr 300000 0)), (9, (.optr 300001 0)), (11, (.int .i64 l))], h := [(100000, ⟨false, false, false, false, 0, [(.imm a b 1 c d), (.int .i64 o)]⟩), (300000, ⟨false, false, false, false, 0, [(.str ([] : List UInt8)), .nsl, (.bool false), .nsl]⟩), (300001, ⟨false, false, false, false, 0, [(.str f), (.own 300002 0 g), (.bool true), (.own 300003 0 j)]⟩), (300002, ⟨false, false, true, false, 1, i⟩), (300003, ⟨false, false, true, false, 3, m⟩)] }
noncomputable def tp_outage_w1 (N : Nat) (F : AV → Heap → Option R) : St → Option R := loopW (tp_outage_E N) [100000] N (tp_outage_at N F [1, 1, 1, 0, 1, 0, 1, 1, 0] []) N
noncomputable def tp_outage_l1 (N : Nat) (F : AV → Heap → Option R) (n : Nat) : St → Option R := loopAt (tp_outage_E N) [100000] N (tp_outage_at N F [1, 1, 1, 0, 1, 0, 1, 1, 0] []) n
noncomputable def tp_outage_s0 (e : Int) (a : LA) (b : Nat) (c : Bool) (d : Bool) (f : List UInt8) (p : Int) (g : Nat) (i : LA) : St := { s := [(0, (.optr 100000 0)), (3, (.int .i64 e)), (8, (.optr 300000 0)), (9, (.optr 300001 0))], h := [(100000, ⟨false, false, false, false, 0, [(.imm a b 1 c d), (.int .i64 p)]⟩), (300000, ⟨false, false, false, false, 0, [(.str ([] : List UInt8)), .nsl, (.bool false), .nsl]⟩), (300001, ⟨false, false, false, false, 0, [(.str f), (.own 300002 0 g), (.bool false), (.own 300003 0 0)]⟩), (300002, ⟨false, false, true, false, 1, i⟩), (300003, ⟨false, false, true, false, 3, []⟩)] }
noncomputable def tp_outage_j0 (N : Nat) (F : AV → Heap → Option R) : St → Option R := joinAt (tp_outage_E N) [100000] N (tp_outage_at N F [1, 1, 1] [])
noncomputable def tp_outage_i0 (N : Nat) (F : AV → Heap → Option R) : St → Option R := joinIn (tp_outage_E N) [100000] N (tp_outage_at N F [1, 1, 1] [])
theorem tp_outage_q1_eq (N : Nat)  (F : AV → Heap → Option R) (e : Int) (a : LA) (b : Nat) (c : Bool) (d : Bool) (f : List UInt8) (g : Nat) (i : LA) : ∀ (n : Nat) (l : Int) (o : Int) (j : Nat) (m : LA), tp_outage_l1 N F n (tp_outage_s1 e a b c d f g i l o j m) = (tp_outage_q1 N (tp_outage_r0 a b c d F) e a b c d f g i n l o j m) := by
  intro n
  induction n with
  | zero => intros; kernel_rfl
  | succ n ih =>
    intro l o j m
    have e0 := funext fun l => funext fun o => funext fun j => funext fun m => (show tp_outage_l1 N F n (tp_outage_s1 e a b c d f g i l o j m) = _ from ih l o j m)
    have hK : tp_outage_l1 N F (n + 1) (tp_outage_s1 e a b c d f g i l o j m) = (tp_outage_q1B N (tp_outage_r0 a b c d F) e a b c d f g i (fun l o j m => tp_outage_l1 N F n (tp_outage_s1 e a b c d f g i l o j m)) l o j m) := by kernel_rfl
    exact hK.trans (by rw [e0]; rfl)
theorem tp_outage_q0_eq (N : Nat)  (F : AV → Heap → Option R) (e : Int) (a : LA) (b : Nat) (c : Bool) (d : Bool) (f : List UInt8) : ∀ (p : Int) (g : Nat) (i : LA), tp_outage_i0 N F (tp_outage_s0 e a b c d f p g i) = (tp_outage_q0 N (tp_outage_r0 a b c d F) e a b c d f p g i) := by
  intro p g i
  have e1 := funext fun l => funext fun o => funext fun j => funext fun m => (show tp_outage_w1 N F (tp_outage_s1 e a b c d f g i l o j m) = _ from (loopW_eq ..).trans (tp_outage_q1_eq N F e a b c d f g i N l o j m))
  have hK : tp_outage_i0 N F (tp_outage_s0 e a b c d f p g i) = (tp_outage_q0B N (tp_outage_r0 a b c d F) e a b c d f (fun l o j m => tp_outage_w1 N F (tp_outage_s1 e a b c d f g i l o j m)) p g i) := by kernel_rfl
  exact hK.trans (by rw [e1]; rfl)
theorem tp_outage_eq (N : Nat) (r : Int) (q : Int) (e : Int) (a : LA) (b : Nat) (c : Bool) (d : Bool) (t : Int) (F : AV → Heap → Option R) : execF Try.prog muts (tp_outage_T N) tp_outage_hs N 22 [(.optr 100000 0), (.int .i64 r), (.int .i64 q), (.int .i64 e)] [(100000, ⟨false, false, false, false, 0, [(.imm a b 1 c d), (.int .i64 t)]⟩)] F = (tp_outage N r q e a b c d t (tp_outage_r0 a b c d F)) := by
  have e1 := funext fun f => funext fun p => funext fun g => funext fun i => (show tp_outage_j0 N F (tp_outage_s0 e a b c d f p g i) = _ from (joinAt_eq ..).trans (tp_outage_q0_eq N F e a b c d f p g i))
  have hK : execF Try.prog muts (tp_outage_T N) tp_outage_hs N 22 [(.optr 100000 0), (.int .i64 r), (.int .i64 q), (.int .i64 e)] [(100000, ⟨false, false, false, false, 0, [(.imm a b 1 c d), (.int .i64 t)]⟩)] F = (tp_outageB N (tp_outage_r0 a b c d F) (fun f p g i => tp_outage_j0 N F (tp_outage_s0 e a b c d f p g i)) r q e a b c d t) := by kernel_rfl
  rw [tp_outage_def]
  exact hK.trans (by rw [e1]; rfl)
noncomputable def tp_outage_run (N : Nat) (args : List AV) (h : Heap) (k : AV → Heap → Option R) : Option R :=
  match args, h with
  | [(.optr 100000 0), (.int .i64 r), (.int .i64 q), (.int .i64 e)], [(100000, ⟨false, false, false, false, 0, [(.imm a b 1 c d), (.int .i64 t)]⟩)] => (tp_outage N r q e a b c d t (tp_outage_r0 a b c d k))
  | _, _ => none
noncomputable def tp_outage_Tw (N : Nat) : Tw where
  runK := tp_outage_run N
  eq := by
    intro R args h k
    unfold tp_outage_run
    split
    · exact (tp_outage_eq ..).symm.trans ((execF_bind ..).trans (congrArg (Option.bind · _) (tp_outage_eq ..)))
    · rfl
theorem tp_outage_ok (N : Nat) : TwOk Try.prog 22 (tp_outage_Tw N) := by
  intro args h res w am
  have hh : tp_outage_run N args h (fun v w => some (v, w)) = some (res, w) := am
  unfold tp_outage_run at hh
  split at hh
  · exact execF_sound (T := tp_outage_T N) ⟨mk_name_ok N, tp_Next_ok N, trivial⟩ follows ((tp_outage_eq ..).trans hh)
  · cases hh
noncomputable def r18_between_q0B (N : Nat)  (r0 : Bool → Option R) (d : Int) (e : Int) (b : LA) (a : Nat) (f : Bool) (g : Bool) (k0 : Int → Option R)  (c : Int) : Option R :=
  (cond (decide (c < ((a : Nat) : Int))) (cond (inIdx c a) (rdI .i64 (List.drop ((Int.toNat c) * 1) b) fun j => (cond ((decide (j < d)) == false) (cond (inIdx c a) (rdI .i64 (List.drop ((Int.toNat c) * 1) b) fun l => (cond (cond false true (decide (l > e))) (r0 false) (k0 (IntKind.wrap .i64 (c + (1 : Int)))))) none) (r0 false))) none) (r0 true))
noncomputable def r18_between_q0 (N : Nat)  (r0 : Bool → Option R) (d : Int) (e : Int) (b : LA) (a : Nat) (f : Bool) (g : Bool) : Nat → Int → Option R
  | 0, _ => none
  | n + 1, c => (r18_between_q0B N r0 d e b a f g (r18_between_q0 N r0 d e b a f g n) c)
noncomputable def r18_betweenB (N : Nat) (r0 : Bool → Option R) (q0 : Int → Option R) (d : Int) (e : Int) (b : LA) (a : Nat) (f : Bool) (g : Bool) : Option R :=
  (q0 0)
noncomputable def r18_betweeni (N : Nat) (d : Int) (e : Int) (b : LA) (a : Nat) (f : Bool) (g : Bool) (r0 : Bool → Option R) : Option R := (r18_betweenB N r0 (fun c => (r18_between_q0 N r0 d e b a f g N c)) d e b a f g)
noncomputable def r18_between := (shut (@r18_betweeni R)).1
theorem r18_between_def : @r18_between R = @r18_betweeni R := (shut _).2
noncomputable def r18_between_hs : Hints := { H := (hS (hR [0,1,2]) (hS (hS (hR [0,1,2,7]) (hS (hN [0,1,2,7] (hS (hS (hR [0,1,2,7,11]) (hN [0,1,2,7] hL hL)) (hS (hN [0,1,2,7] (hS (hR [0,1,2,7,27]) (hN [0,1,2,7] (hS (hR [6]) hL) hL)) hL) (hR [0,1,2,7]))) hL) hL)) (hS (hR [6]) hL))), nils := [], modes := [], free := [], cob := [] }
noncomputable def r18_between_T (N : Nat) : List (Nat × Tw) := []
noncomputable def r18_between_E (N : Nat) : Env := mkE 28 r18_between_hs (r18_between_T N)
noncomputable def r18_between_fin (N : Nat) (F : AV → Heap → Option R) := afinish (r18_between_E N) Try.f45 r18_between_hs.modes [] F
noncomputable def r18_between_at (N : Nat) (F : AV → Heap → Option R) := atF (r18_between_E N) [] N Try.f45 r18_between_hs (r18_between_fin N F)
noncomputable def r18_between_r0  (F : AV → Heap → Option R) : Bool → Option R := (fun m => F (.bool m) [])
noncomputable def r18_between_s0 (d : Int) (e : Int) (b : LA) (a : Nat) (f : Bool) (g : Bool) (c : Int) : St := { s := [(0, (.int .i64 d)), (1, (.int .i64 e)), (2, (.imm b a 1 f g)), (7, (.int .i64 c))], h := [] }
noncomputable def r18_between_w0 (N : Nat) (F : AV → Heap → Option R) : St → Option R := loopW (r18_between_E N) [] N (r18_between_at N F [1, 0, 1, 0] []) N
noncomputable def r18_between_l0 (N : Nat) (F : AV → Heap → Option R) (n : Nat) : St → Option R := loopAt (r18_between_E N) [] N (r18_between_at N F [1, 0, 1, 0] []) n
theorem r18_between_q0_eq (N : Nat)  (F : AV → Heap → Option R) (d : Int) (e : Int) (b : LA) (a : Nat) (f : Bool) (g : Bool) : ∀ (n : Nat) (c : Int), r18_between_l0 N F n (r18_between_s0 d e b a f g c) = (r18_between_q0 N (r18_between_r0 F) d e b a f g n c) := by
  intro n
  induction n with
  | zero => intros; kernel_rfl
  | succ n ih =>
    intro c
    have e0 := funext fun c => (show r18_between_l0 N F n (r18_between_s0 d e b a f g c) = _ from ih c)
    have hK : r18_between_l0 N F (n + 1) (r18_between_s0 d e b a f g c) = (r18_between_q0B N (r18_between_r0 F) d e b a f g (fun c => r18_between_l0 N F n (r18_between_s0 d e b a f g c)) c) := by kernel_rfl
    exact hK.trans (by rw [e0]; rfl)
theorem r18_between_eq (N : Nat) (d : Int) (e : Int) (b : LA) (a : Nat) (f : Bool) (g : Bool) (F : AV → Heap → Option R) : execF Try.prog muts (r18_between_T N) r18_between_hs N 45 [(.int .i64 d), (.int .i64 e), (.imm b a 1 f g)] [] F = (r18_between N d e b a f g (r18_between_r0 F)) := by
  have e1 := funext fun c => (show r18_between_w0 N F (r18_between_s0 d e b a f g c) = _ from (loopW_eq ..).trans (r18_between_q0_eq N F d e b a f g N c))
  have hK : execF Try.prog muts (r18_between_T N) r18_between_hs N 45 [(.int .i64 d), (.int .i64 e), (.imm b a 1 f g)] [] F = (r18_betweenB N (r18_between_r0 F) (fun c => r18_between_w0 N F (r18_between_s0 d e b a f g c)) d e b a f g) := by kernel_rfl
  rw [r18_between_def]
  exact hK.trans (by rw [e1]; rfl)
noncomputable def r18_between_run (N : Nat) (args : List AV) (h : Heap) (k : AV → Heap → Option R) : Option R :=
  match args, h with
  | [(.int .i64 d), (.int .i64 e), (.imm b a 1 f g)], [] => (r18_between N d e b a f g (r18_between_r0 k))
  | _, _ => none
noncomputable def r18_between_Tw (N : Nat) : Tw where
  runK := r18_between_run N
  eq := by
    intro R args h k
    unfold r18_between_run
    split
    · exact (r18_between_eq ..).symm.trans ((execF_bind ..).trans (congrArg (Option.bind · _) (r18_between_eq ..)))
    · rfl
theorem r18_between_ok (N : Nat) : TwOk Try.prog 45 (r18_between_Tw N) := by
  intro args h res i o
  have hh : r18_between_run N args h (fun v i => some (v, i)) = some (res, i) := o
  unfold r18_between_run at hh
  split at hh
  · exact execF_sound (T := r18_between_T N) trivial follows ((r18_between_eq ..).trans hh)
  · cases hh
noncomputable def fi_need_q0B (N : Nat)  (r0 : LA → Option R) (b : Int) (c : Int) (d : Int) (e : Int) (a : LA)   (f : Bool) : Option R :=
  (cond f (cond ((Nat.beq 3 3) && ((Nat.ble 3 (List.length a)) && (!false))) (cond ((Nat.beq 1 1) && ((Nat.ble 4 (List.length (splice a 0 [(.int .i64 b), (.int .i64 c), (.int .i64 d)]))) && (!false))) (r0 (List.set (splice a 0 [(.int .i64 b), (.int .i64 c), (.int .i64 d)]) 3 (.int .i64 e))) none) none) (r0 a))
noncomputable def fi_need_q0 (N : Nat)  (r0 : LA → Option R) (b : Int) (c : Int) (d : Int) (e : Int) (a : LA) (f : Bool) : Option R := (fi_need_q0B N r0 b c d e a f)
noncomputable def fi_needB (N : Nat) (r0 : LA → Option R) (q0 : Bool → Option R) (g : Bool) (b : Int) (c : Int) (d : Int) (e : Int) (a : LA) : Option R :=
  (rdI .i64 (List.drop 3 a) fun j => (cond ((j == (0 : Int)) == true) (q0 (cond true (!g) false)) (q0 false)))
noncomputable def fi_needi (N : Nat) (g : Bool) (b : Int) (c : Int) (d : Int) (e : Int) (a : LA) (r0 : LA → Option R) : Option R := (fi_needB N r0 (fun f => (fi_need_q0 N r0 b c d e a f)) g b c d e a)
noncomputable def fi_need := (shut (@fi_needi R)).1
theorem fi_need_def : @fi_need R = @fi_needi R := (shut _).2
noncomputable def fi_need_hs : Hints := { H := (hJ (hR [0,2,3,4,5,20]) (hS hL hL)), nils := [], modes := [], free := [], cob := [] }
noncomputable def fi_need_T (N : Nat) : List (Nat × Tw) := []
noncomputable def fi_need_E (N : Nat) : Env := mkE 32 fi_need_hs (fi_need_T N)
noncomputable def fi_need_fin (N : Nat) (F : AV → Heap → Option R) := afinish (fi_need_E N) Try.f44 fi_need_hs.modes [100000] F
noncomputable def fi_need_at (N : Nat) (F : AV → Heap → Option R) := atF (fi_need_E N) [100000] N Try.f44 fi_need_hs (fi_need_fin N F)
noncomputable def fi_need_r0  (F : AV → Heap → Option R) : LA → Option R := (fun l => F (.tup []) [(100000, ⟨false, false, true, false, 0, l⟩)])
noncomputable def fi_need_s0 (b : Int) (c : Int) (d : Int) (e : Int) (a : LA) (f : Bool) : St := { s := [(0, (.optr 100000 0)), (2, (.int .i64 b)), (3, (.int .i64 c)), (4, (.int .i64 d)), (5, (.int .i64 e)), (20, (.bool f))], h := [(100000, ⟨false, false, true, false, 0, a⟩)] }
noncomputable def fi_need_j0 (N : Nat) (F : AV → Heap → Option R) : St → Option R := joinAt (fi_need_E N) [100000] N (fi_need_at N F [1] [])
noncomputable def fi_need_i0 (N : Nat) (F : AV → Heap → Option R) : St → Option R := joinIn (fi_need_E N) [100000] N (fi_need_at N F [1] [])
theorem fi_need_q0_eq (N : Nat)  (F : AV → Heap → Option R) (b : Int) (c : Int) (d : Int) (e : Int) (a : LA) : ∀ (f : Bool), fi_need_i0 N F (fi_need_s0 b c d e a f) = (fi_need_q0 N (fi_need_r0 F) b c d e a f) := by
  intro f
  have hK : fi_need_i0 N F (fi_need_s0 b c d e a f) = (fi_need_q0B N (fi_need_r0 F) b c d e a f) := by kernel_rfl
  exact hK
theorem fi_need_eq (N : Nat) (g : Bool) (b : Int) (c : Int) (d : Int) (e : Int) (a : LA) (F : AV → Heap → Option R) : execF Try.prog muts (fi_need_T N) fi_need_hs N 44 [(.optr 100000 0), (.bool g), (.int .i64 b), (.int .i64 c), (.int .i64 d), (.int .i64 e)] [(100000, ⟨false, false, true, false, 0, a⟩)] F = (fi_need N g b c d e a (fi_need_r0 F)) := by
  have e1 := funext fun f => (show fi_need_j0 N F (fi_need_s0 b c d e a f) = _ from (joinAt_eq ..).trans (fi_need_q0_eq N F b c d e a f))
  have hK : execF Try.prog muts (fi_need_T N) fi_need_hs N 44 [(.optr 100000 0), (.bool g), (.int .i64 b), (.int .i64 c), (.int .i64 d), (.int .i64 e)] [(100000, ⟨false, false, true, false, 0, a⟩)] F = (fi_needB N (fi_need_r0 F) (fun f => fi_need_j0 N F (fi_need_s0 b c d e a f)) g b c d e a) := by kernel_rfl
  rw [fi_need_def]
  exact hK.trans (by rw [e1]; rfl)
noncomputable def fi_need_run (N : Nat) (args : List AV) (h : Heap) (k : AV → Heap → Option R) : Option R :=
  match args, h with
  | [(.optr 100000 0), (.bool g), (.int .i64 b), (.int .i64 c), (.int .i64 d), (.int .i64 e)], [(100000, ⟨false, false, true, false, 0, a⟩)] => (fi_need N g b c d e a (fi_need_r0 k))
  | _, _ => none
noncomputable def fi_need_Tw (N : Nat) : Tw where
  runK := fi_need_run N
  eq := by
    intro R args h k
    unfold fi_need_run
    split
    · exact (fi_need_eq ..).symm.trans ((execF_bind ..).trans (congrArg (Option.bind · _) (fi_need_eq ..)))
    · rfl
theorem fi_need_ok (N : Nat) : TwOk Try.prog 44 (fi_need_Tw N) := by
  intro args h res i m
  have hh : fi_need_run N args h (fun v i => some (v, i)) = some (res, i) := m
  unfold fi_need_run at hh
  split at hh
  · exact execF_sound (T := fi_need_T N) trivial follows ((fi_need_eq ..).trans hh)
  · cases hh
noncomputable def fi_hourlyB (N : Nat) (r0 : LA → Option R)  (e : LA) (m : Bool) (f : LA) (a : Nat) (n : Bool) (g : Bool) (i : Int) (j : Int) (b : Int) (c : Int) (d : Int) (l : LA) : Option R :=
  (rdI .i64 e fun p => (fi_need N (((a : Nat) : Int) == p) b c d 4 l (fun q => (r18_between N i j f a false g (fun r => (fi_need N r b c d 3 q (fun s => (r0 s))))))))
noncomputable def fi_hourlyi (N : Nat) (e : LA) (m : Bool) (f : LA) (a : Nat) (n : Bool) (g : Bool) (i : Int) (j : Int) (b : Int) (c : Int) (d : Int) (l : LA) (r0 : LA → Option R) : Option R := (fi_hourlyB N r0 e m f a n g i j b c d l)
noncomputable def fi_hourly := (shut (@fi_hourlyi R)).1
theorem fi_hourly_def : @fi_hourly R = @fi_hourlyi R := (shut _).2
noncomputable def fi_hourly_hs : Hints := { H := (hS (hR [0,2,3,4,5,6,7,9]) (hS (hR [0,2,3,4,5,6,7]) hL)), nils := [], modes := [], free := [], cob := [] }
noncomputable def fi_hourly_T (N : Nat) : List (Nat × Tw) := [(44, fi_need_Tw N), (45, r18_between_Tw N)]
noncomputable def fi_hourly_E (N : Nat) : Env := mkE 35 fi_hourly_hs (fi_hourly_T N)
noncomputable def fi_hourly_fin (N : Nat) (F : AV → Heap → Option R) := afinish (fi_hourly_E N) Try.f43 fi_hourly_hs.modes [100000] F
noncomputable def fi_hourly_at (N : Nat) (F : AV → Heap → Option R) := atF (fi_hourly_E N) [100000] N Try.f43 fi_hourly_hs (fi_hourly_fin N F)
noncomputable def fi_hourly_r0  (F : AV → Heap → Option R) : LA → Option R := (fun t => F (.tup []) [(100000, ⟨false, false, true, false, 0, t⟩)])
theorem fi_hourly_eq (N : Nat) (e : LA) (m : Bool) (f : LA) (a : Nat) (n : Bool) (g : Bool) (i : Int) (j : Int) (b : Int) (c : Int) (d : Int) (l : LA) (F : AV → Heap → Option R) : execF Try.prog muts (fi_hourly_T N) fi_hourly_hs N 43 [(.optr 100000 0), (.pagg e m), (.imm f a 1 n g), (.int .i64 i), (.int .i64 j), (.int .i64 b), (.int .i64 c), (.int .i64 d)] [(100000, ⟨false, false, true, false, 0, l⟩)] F = (fi_hourly N e m f a n g i j b c d l (fi_hourly_r0 F)) := by
  have hK : execF Try.prog muts (fi_hourly_T N) fi_hourly_hs N 43 [(.optr 100000 0), (.pagg e m), (.imm f a 1 n g), (.int .i64 i), (.int .i64 j), (.int .i64 b), (.int .i64 c), (.int .i64 d)] [(100000, ⟨false, false, true, false, 0, l⟩)] F = (fi_hourlyB N (fi_hourly_r0 F) e m f a n g i j b c d l) := by kernel_rfl
  rw [fi_hourly_def]
  exact hK
noncomputable def fi_hourly_run (N : Nat) (args : List AV) (h : Heap) (k : AV → Heap → Option R) : Option R :=
  match args, h with
  | [(.optr 100000 0), (.pagg e m), (.imm f a 1 n g), (.int .i64 i), (.int .i64 j), (.int .i64 b), (.int .i64 c), (.int .i64 d)], [(100000, ⟨false, false, true, false, 0, l⟩)] => (fi_hourly N e m f a n g i j b c d l (fi_hourly_r0 k))
  | _, _ => none
noncomputable def fi_hourly_Tw (N : Nat) : Tw where
  runK := fi_hourly_run N
  eq := by
    intro R args h k
    unfold fi_hourly_run
    split
    · exact (fi_hourly_eq ..).symm.trans ((execF_bind ..).trans (congrArg (Option.bind · _) (fi_hourly_eq ..)))
    · rfl
theorem fi_hourly_ok (N : Nat) : TwOk Try.prog 43 (fi_hourly_Tw N) := by
  intro args h res o u
  have hh : fi_hourly_run N args h (fun v o => some (v, o)) = some (res, o) := u
  unfold fi_hourly_run at hh
  split at hh
  · exact execF_sound (T := fi_hourly_T N) ⟨fi_need_ok N, r18_between_ok N, trivial⟩ follows ((fi_hourly_eq ..).trans hh)
  · cases hh
noncomputable def r17_Names_q0B (N : Nat)  (r0 : Nat → LA → Option R) (b : Bool) (a : LA) (k0 : Nat → Int → LA → Option R)  (c : Nat) (j : Int) (r : LA) : Option R :=
  (rdL 3 (List.drop 2 a) fun be ab => (cond (decide (j < ((ab : Nat) : Int))) (rdL 3 (List.drop 2 a) fun ac ad => (cond (inIdx j ad) (rdS (List.drop ((Int.toNat j) * 3) ac) fun ae => (cond ((Nat.ble (c + 1) 140737488355328) && (Nat.ble ((c + 1) * 16) 140737488355328)) (k0 (c + 1) (IntKind.wrap .i64 (j + (1 : Int))) ((List.take (c * 1) r) ++ [(.str ae)])) none)) none)) (r0 c r)))
noncomputable def r17_Names_q0 (N : Nat)  (r0 : Nat → LA → Option R) (b : Bool) (a : LA) : Nat → Nat → Int → LA → Option R
  | 0, _, _, _ => none
  | n + 1, c, j, r => (r17_Names_q0B N r0 b a (r17_Names_q0 N r0 b a n) c j r)
noncomputable def r17_Names_q1B (N : Nat)  (r0 : Nat → LA → Option R) (b : Bool) (a : LA) (k1 : Nat → Int → LA → Option R)  (d : Nat) (l : Int) (t : LA) : Option R :=
  (rdL 12 (List.drop 3 a) fun bf af => (cond (decide (l < ((af : Nat) : Int))) (rdL 12 (List.drop 3 a) fun ag ah => (cond (inIdx l ah) (rdS (List.drop ((Int.toNat l) * 12) ag) fun ai => (cond ((Nat.ble (d + 1) 140737488355328) && (Nat.ble ((d + 1) * 16) 140737488355328)) (k1 (d + 1) (IntKind.wrap .i64 (l + (1 : Int))) ((List.take (d * 1) t) ++ [(.str ai)])) none)) none)) (r0 d t)))
noncomputable def r17_Names_q1 (N : Nat)  (r0 : Nat → LA → Option R) (b : Bool) (a : LA) : Nat → Nat → Int → LA → Option R
  | 0, _, _, _ => none
  | n + 1, d, l, t => (r17_Names_q1B N r0 b a (r17_Names_q1 N r0 b a n) d l t)
noncomputable def r17_Names_q2B (N : Nat)  (r0 : Nat → LA → Option R) (b : Bool) (a : LA) (k2 : Nat → Int → LA → Option R)  (e : Nat) (m : Int) (u : LA) : Option R :=
  (rdL 22 (List.drop 4 a) fun bg aj => (cond (decide (m < ((aj : Nat) : Int))) (rdL 22 (List.drop 4 a) fun ak al => (cond (inIdx m al) (rdS (List.drop ((Int.toNat m) * 22) ak) fun am => (cond ((Nat.ble (e + 1) 140737488355328) && (Nat.ble ((e + 1) * 16) 140737488355328)) (k2 (e + 1) (IntKind.wrap .i64 (m + (1 : Int))) ((List.take (e * 1) u) ++ [(.str am)])) none)) none)) (r0 e u)))
noncomputable def r17_Names_q2 (N : Nat)  (r0 : Nat → LA → Option R) (b : Bool) (a : LA) : Nat → Nat → Int → LA → Option R
  | 0, _, _, _ => none
  | n + 1, e, m, u => (r17_Names_q2B N r0 b a (r17_Names_q2 N r0 b a n) e m u)
noncomputable def r17_Names_q3B (N : Nat)  (r0 : Nat → LA → Option R) (b : Bool) (a : LA) (k3 : Nat → Int → LA → Option R)  (f : Nat) (o : Int) (w : LA) : Option R :=
  (rdL 9 (List.drop 5 a) fun bh an => (cond (decide (o < ((an : Nat) : Int))) (rdL 9 (List.drop 5 a) fun ao ap => (cond (inIdx o ap) (rdS (List.drop ((Int.toNat o) * 9) ao) fun aq => (cond ((Nat.ble (f + 1) 140737488355328) && (Nat.ble ((f + 1) * 16) 140737488355328)) (k3 (f + 1) (IntKind.wrap .i64 (o + (1 : Int))) ((List.take (f * 1) w) ++ [(.str aq)])) none)) none)) (r0 f w)))
noncomputable def r17_Names_q3 (N : Nat)  (r0 : Nat → LA → Option R) (b : Bool) (a : LA) : Nat → Nat → Int → LA → Option R
  | 0, _, _, _ => none
  | n + 1, f, o, w => (r17_Names_q3B N r0 b a (r17_Names_q3 N r0 b a n) f o w)
noncomputable def r17_Names_q4B (N : Nat)  (r0 : Nat → LA → Option R) (b : Bool) (a : LA) (k4 : Nat → Int → LA → Option R)  (g : Nat) (p : Int) (x : LA) : Option R :=
  (rdL 5 (List.drop 6 a) fun bi ar => (cond (decide (p < ((ar : Nat) : Int))) (rdL 5 (List.drop 6 a) fun au av => (cond (inIdx p av) (rdS (List.drop ((Int.toNat p) * 5) au) fun aw => (cond ((Nat.ble (g + 1) 140737488355328) && (Nat.ble ((g + 1) * 16) 140737488355328)) (k4 (g + 1) (IntKind.wrap .i64 (p + (1 : Int))) ((List.take (g * 1) x) ++ [(.str aw)])) none)) none)) (r0 g x)))
noncomputable def r17_Names_q4 (N : Nat)  (r0 : Nat → LA → Option R) (b : Bool) (a : LA) : Nat → Nat → Int → LA → Option R
  | 0, _, _, _ => none
  | n + 1, g, p, x => (r17_Names_q4B N r0 b a (r17_Names_q4 N r0 b a n) g p x)
noncomputable def r17_Names_q5B (N : Nat)  (r0 : Nat → LA → Option R) (b : Bool) (a : LA) (k5 : Nat → Int → LA → Option R)  (i : Nat) (q : Int) (y : LA) : Option R :=
  (rdL 4 (List.drop 7 a) fun bj ax => (cond (decide (q < ((ax : Nat) : Int))) (rdL 4 (List.drop 7 a) fun ay az => (cond (inIdx q az) (rdS (List.drop ((Int.toNat q) * 4) ay) fun ba => (cond ((Nat.ble (i + 1) 140737488355328) && (Nat.ble ((i + 1) * 16) 140737488355328)) (k5 (i + 1) (IntKind.wrap .i64 (q + (1 : Int))) ((List.take (i * 1) y) ++ [(.str ba)])) none)) none)) (r0 i y)))
noncomputable def r17_Names_q5 (N : Nat)  (r0 : Nat → LA → Option R) (b : Bool) (a : LA) : Nat → Nat → Int → LA → Option R
  | 0, _, _, _ => none
  | n + 1, i, q, y => (r17_Names_q5B N r0 b a (r17_Names_q5 N r0 b a n) i q y)
noncomputable def r17_NamesB (N : Nat) (r0 : Nat → LA → Option R) (q0 : Nat → Int → LA → Option R) (q1 : Nat → Int → LA → Option R) (q2 : Nat → Int → LA → Option R) (q3 : Nat → Int → LA → Option R) (q4 : Nat → Int → LA → Option R) (q5 : Nat → Int → LA → Option R) (a : LA) (b : Bool) (z : Int) : Option R :=
  (cond (z == (1 : Int)) (q0 0 0 []) (cond (z == (2 : Int)) (q1 0 0 []) (cond (z == (3 : Int)) (q2 0 0 []) (cond (z == (4 : Int)) (q3 0 0 []) (cond (z == (5 : Int)) (q4 0 0 []) (cond (z == (6 : Int)) (q5 0 0 []) (r0 0 [])))))))
noncomputable def r17_Namesi (N : Nat) (a : LA) (b : Bool) (z : Int) (r0 : Nat → LA → Option R) : Option R := (r17_NamesB N r0 (fun c j r => (r17_Names_q0 N r0 b a N c j r)) (fun d l t => (r17_Names_q1 N r0 b a N d l t)) (fun e m u => (r17_Names_q2 N r0 b a N e m u)) (fun f o w => (r17_Names_q3 N r0 b a N f o w)) (fun g p x => (r17_Names_q4 N r0 b a N g p x)) (fun i q y => (r17_Names_q5 N r0 b a N i q y)) a b z)
noncomputable def r17_Names := (shut (@r17_Namesi R)).1
theorem r17_Names_def : @r17_Names R = @r17_Namesi R := (shut _).2
noncomputable def r17_Names_hs : Hints := { H := (hS (hR [1,2]) (hS (hR [1,2,5]) (hS (hS (hR [2,5,12]) (hN [5] (hS (hR [2,5,12,13]) (hN [5] (hS (hR [2,5,6]) (hN [5] (hN [2,5,6] (hS (hS (hR [2,5,6,19]) (hN [2,5,6] hL hL)) (hS (hN [2,5,6] (hR [2,5,6]) hL) (hR [2,5,6]))) hL) hL)) (hS (hR [2,5,12,31]) (hN [5] (hS (hR [2,5,7]) (hN [5] (hN [2,5,7] (hS (hS (hR [2,5,7,37]) (hN [2,5,7] hL hL)) (hS (hN [2,5,7] (hR [2,5,7]) hL) (hR [2,5,7]))) hL) hL)) (hS (hR [2,5,12,49]) (hN [5] (hS (hR [2,5,8]) (hN [5] (hN [2,5,8] (hS (hS (hR [2,5,8,55]) (hN [2,5,8] hL hL)) (hS (hN [2,5,8] (hR [2,5,8]) hL) (hR [2,5,8]))) hL) hL)) (hS (hR [2,5,12,67]) (hN [5] (hS (hR [2,5,9]) (hN [5] (hN [2,5,9] (hS (hS (hR [2,5,9,73]) (hN [2,5,9] hL hL)) (hS (hN [2,5,9] (hR [2,5,9]) hL) (hR [2,5,9]))) hL) hL)) (hS (hR [2,5,12,85]) (hN [5] (hS (hR [2,5,10]) (hN [5] (hN [2,5,10] (hS (hS (hR [2,5,10,91]) (hN [2,5,10] hL hL)) (hS (hN [2,5,10] (hR [2,5,10]) hL) (hR [2,5,10]))) hL) hL)) (hS (hR [2,5,103]) (hN [5] (hS (hR [2,5,11]) (hN [5] (hN [2,5,11] (hS (hS (hR [2,5,11,109]) (hN [2,5,11] hL hL)) (hS (hN [2,5,11] (hR [2,5,11]) hL) (hR [2,5,11]))) hL) hL)) hL)))))))))))) hL)) (hS (hR [4]) hL)))), nils := [(4, 1), (5, 1)], modes := [(2, 1)], free := [], cob := [] }
noncomputable def r17_Names_T (N : Nat) : List (Nat × Tw) := []
noncomputable def r17_Names_E (N : Nat) : Env := mkE 122 r17_Names_hs (r17_Names_T N)
noncomputable def r17_Names_fin (N : Nat) (F : AV → Heap → Option R) := afinish (r17_Names_E N) Try.f70 r17_Names_hs.modes [] F
noncomputable def r17_Names_at (N : Nat) (F : AV → Heap → Option R) := atF (r17_Names_E N) [] N Try.f70 r17_Names_hs (r17_Names_fin N F)
noncomputable def r17_Names_r0  (F : AV → Heap → Option R) : Nat → LA → Option R := (fun bb bc => F (.own 300000 0 bb) [(300000, ⟨false, false, true, false, 1, bc⟩)])
noncomputable def r17_Names_s0 (b : Bool) (a : LA) (c : Nat) (j : Int) (r : LA) : St := { s := [(2, (.optr 300000 0)), (5, (.own 300001 0 c)), (6, (.int .i64 j))], h := [(300000, ⟨false, false, true, b, 0, a⟩), (300001, ⟨false, false, true, false, 1, r⟩)] }
noncomputable def r17_Names_w0 (N : Nat) (F : AV → Heap → Option R) : St → Option R := loopW (r17_Names_E N) [] N (r17_Names_at N F [1, 1, 0, 1, 0, 1, 0, 1, 0] []) N
noncomputable def r17_Names_l0 (N : Nat) (F : AV → Heap → Option R) (n : Nat) : St → Option R := loopAt (r17_Names_E N) [] N (r17_Names_at N F [1, 1, 0, 1, 0, 1, 0, 1, 0] []) n
noncomputable def r17_Names_s1 (b : Bool) (a : LA) (d : Nat) (l : Int) (t : LA) : St := { s := [(2, (.optr 300000 0)), (5, (.own 300001 0 d)), (7, (.int .i64 l))], h := [(300000, ⟨false, false, true, b, 0, a⟩), (300001, ⟨false, false, true, false, 1, t⟩)] }
noncomputable def r17_Names_w1 (N : Nat) (F : AV → Heap → Option R) : St → Option R := loopW (r17_Names_E N) [] N (r17_Names_at N F [1, 1, 0, 1, 0, 1, 1, 1, 0, 1, 0] []) N
noncomputable def r17_Names_l1 (N : Nat) (F : AV → Heap → Option R) (n : Nat) : St → Option R := loopAt (r17_Names_E N) [] N (r17_Names_at N F [1, 1, 0, 1, 0, 1, 1, 1, 0, 1, 0] []) n
noncomputable def r17_Names_s2 (b : Bool) (a : LA) (e : Nat) (m : Int) (u : LA) : St := { s := [(2, (.optr 300000 0)), (5, (.own 300001 0 e)), (8, (.int .i64 m))], h := [(300000, ⟨false, false, true, b, 0, a⟩), (300001, ⟨false, false, true, false, 1, u⟩)] }
noncomputable def r17_Names_w2 (N : Nat) (F : AV → Heap → Option R) : St → Option R := loopW (r17_Names_E N) [] N (r17_Names_at N F [1, 1, 0, 1, 0, 1, 1, 1, 1, 1, 0, 1, 0] []) N
noncomputable def r17_Names_l2 (N : Nat) (F : AV → Heap → Option R) (n : Nat) : St → Option R := loopAt (r17_Names_E N) [] N (r17_Names_at N F [1, 1, 0, 1, 0, 1, 1, 1, 1, 1, 0, 1, 0] []) n
noncomputable def r17_Names_s3 (b : Bool) (a : LA) (f : Nat) (o : Int) (w : LA) : St := { s := [(2, (.optr 300000 0)), (5, (.own 300001 0 f)), (9, (.int .i64 o))], h := [(300000, ⟨false, false, true, b, 0, a⟩), (300001, ⟨false, false, true, false, 1, w⟩)] }
noncomputable def r17_Names_w3 (N : Nat) (F : AV → Heap → Option R) : St → Option R := loopW (r17_Names_E N) [] N (r17_Names_at N F [1, 1, 0, 1, 0, 1, 1, 1, 1, 1, 1, 1, 0, 1, 0] []) N
noncomputable def r17_Names_l3 (N : Nat) (F : AV → Heap → Option R) (n : Nat) : St → Option R := loopAt (r17_Names_E N) [] N (r17_Names_at N F [1, 1, 0, 1, 0, 1, 1, 1, 1, 1, 1, 1, 0, 1, 0] []) n
noncomputable def r17_Names_s4 (b : Bool) (a : LA) (g : Nat) (p : Int) (x : LA) : St := { s := [(2, (.optr 300000 0)), (5, (.own 300001 0 g)), (10, (.int .i64 p))], h := [(300000, ⟨false, false, true, b, 0, a⟩), (300001, ⟨false, false, true, false, 1, x⟩)] }
noncomputable def r17_Names_w4 (N : Nat) (F : AV → Heap → Option R) : St → Option R := loopW (r17_Names_E N) [] N (r17_Names_at N F [1, 1, 0, 1, 0, 1, 1, 1, 1, 1, 1, 1, 1, 1, 0, 1, 0] []) N
noncomputable def r17_Names_l4 (N : Nat) (F : AV → Heap → Option R) (n : Nat) : St → Option R := loopAt (r17_Names_E N) [] N (r17_Names_at N F [1, 1, 0, 1, 0, 1, 1, 1, 1, 1, 1, 1, 1, 1, 0, 1, 0] []) n
noncomputable def r17_Names_s5 (b : Bool) (a : LA) (i : Nat) (q : Int) (y : LA) : St := { s := [(2, (.optr 300000 0)), (5, (.own 300001 0 i)), (11, (.int .i64 q))], h := [(300000, ⟨false, false, true, b, 0, a⟩), (300001, ⟨false, false, true, false, 1, y⟩)] }
noncomputable def r17_Names_w5 (N : Nat) (F : AV → Heap → Option R) : St → Option R := loopW (r17_Names_E N) [] N (r17_Names_at N F [1, 1, 0, 1, 0, 1, 1, 1, 1, 1, 1, 1, 1, 1, 1, 1, 0, 1, 0] []) N
noncomputable def r17_Names_l5 (N : Nat) (F : AV → Heap → Option R) (n : Nat) : St → Option R := loopAt (r17_Names_E N) [] N (r17_Names_at N F [1, 1, 0, 1, 0, 1, 1, 1, 1, 1, 1, 1, 1, 1, 1, 1, 0, 1, 0] []) n
theorem r17_Names_q0_eq (N : Nat)  (F : AV → Heap → Option R) (b : Bool) (a : LA) : ∀ (n : Nat) (c : Nat) (j : Int) (r : LA), r17_Names_l0 N F n (r17_Names_s0 b a c j r) = (r17_Names_q0 N (r17_Names_r0 F) b a n c j r) := by
  intro n
  induction n with
  | zero => intros; kernel_rfl
  | succ n ih =>
    intro c j r
    have e0 := funext fun c => funext fun j => funext fun r => (show r17_Names_l0 N F n (r17_Names_s0 b a c j r) = _ from ih c j r)
    have hK : r17_Names_l0 N F (n + 1) (r17_Names_s0 b a c j r) = (r17_Names_q0B N (r17_Names_r0 F) b a (fun c j r => r17_Names_l0 N F n (r17_Names_s0 b a c j r)) c j r) := by kernel_rfl
    exact hK.trans (by rw [e0]; rfl)
theorem r17_Names_q1_eq (N : Nat)  (F : AV → Heap → Option R) (b : Bool) (a : LA) : ∀ (n : Nat) (d : Nat) (l : Int) (t : LA), r17_Names_l1 N F n (r17_Names_s1 b a d l t) = (r17_Names_q1 N (r17_Names_r0 F) b a n d l t) := by
  intro n
  induction n with
  | zero => intros; kernel_rfl
  | succ n ih =>
    intro d l t
    have e0 := funext fun d => funext fun l => funext fun t => (show r17_Names_l1 N F n (r17_Names_s1 b a d l t) = _ from ih d l t)
    have hK : r17_Names_l1 N F (n + 1) (r17_Names_s1 b a d l t) = (r17_Names_q1B N (r17_Names_r0 F) b a (fun d l t => r17_Names_l1 N F n (r17_Names_s1 b a d l t)) d l t) := by kernel_rfl
    exact hK.trans (by rw [e0]; rfl)
theorem r17_Names_q2_eq (N : Nat)  (F : AV → Heap → Option R) (b : Bool) (a : LA) : ∀ (n : Nat) (e : Nat) (m : Int) (u : LA), r17_Names_l2 N F n (r17_Names_s2 b a e m u) = (r17_Names_q2 N (r17_Names_r0 F) b a n e m u) := by
  intro n
  induction n with
  | zero => intros; kernel_rfl
  | succ n ih =>
    intro e m u
    have e0 := funext fun e => funext fun m => funext fun u => (show r17_Names_l2 N F n (r17_Names_s2 b a e m u) = _ from ih e m u)
    have hK : r17_Names_l2 N F (n + 1) (r17_Names_s2 b a e m u) = (r17_Names_q2B N (r17_Names_r0 F) b a (fun e m u => r17_Names_l2 N F n (r17_Names_s2 b a e m u)) e m u) := by kernel_rfl
    exact hK.trans (by rw [e0]; rfl)
theorem r17_Names_q3_eq (N : Nat)  (F : AV → Heap → Option R) (b : Bool) (a : LA) : ∀ (n : Nat) (f : Nat) (o : Int) (w : LA), r17_Names_l3 N F n (r17_Names_s3 b a f o w) = (r17_Names_q3 N (r17_Names_r0 F) b a n f o w) := by
  intro n
  induction n with
  | zero => intros; kernel_rfl
  | succ n ih =>
    intro f o w
    have e0 := funext fun f => funext fun o => funext fun w => (show r17_Names_l3 N F n (r17_Names_s3 b a f o w) = _ from ih f o w)
    have hK : r17_Names_l3 N F (n + 1) (r17_Names_s3 b a f o w) = (r17_Names_q3B N (r17_Names_r0 F) b a (fun f o w => r17_Names_l3 N F n (r17_Names_s3 b a f o w)) f o w) := by kernel_rfl
    exact hK.trans (by rw [e0]; rfl)
theorem r17_Names_q4_eq (N : Nat)  (F : AV → Heap → Option R) (b : Bool) (a : LA) : ∀ (n : Nat) (g : Nat) (p : Int) (x : LA), r17_Names_l4 N F n (r17_Names_s4 b a g p x) = (r17_Names_q4 N (r17_Names_r0 F) b a n g p x) := by
  intro n
  induction n with
  | zero => intros; kernel_rfl
  | succ n ih =>
    intro g p x
    have e0 := funext fun g => funext fun p => funext fun x => (show r17_Names_l4 N F n (r17_Names_s4 b a g p x) = _ from ih g p x)
    have hK : r17_Names_l4 N F (n + 1) (r17_Names_s4 b a g p x) = (r17_Names_q4B N (r17_Names_r0 F) b a (fun g p x => r17_Names_l4 N F n (r17_Names_s4 b a g p x)) g p x) := by kernel_rfl
    exact hK.trans (by rw [e0]; rfl)
theorem r17_Names_q5_eq (N : Nat)  (F : AV → Heap → Option R) (b : Bool) (a : LA) : ∀ (n : Nat) (i : Nat) (q : Int) (y : LA), r17_Names_l5 N F n (r17_Names_s5 b a i q y) = (r17_Names_q5 N (r17_Names_r0 F) b a n i q y) := by
  intro n
  induction n with
  | zero => intros; kernel_rfl
  | succ n ih =>
    intro i q y
    have e0 := funext fun i => funext fun q => funext fun y => (show r17_Names_l5 N F n (r17_Names_s5 b a i q y) = _ from ih i q y)
    have hK : r17_Names_l5 N F (n + 1) (r17_Names_s5 b a i q y) = (r17_Names_q5B N (r17_Names_r0 F) b a (fun i q y => r17_Names_l5 N F n (r17_Names_s5 b a i q y)) i q y) := by kernel_rfl
    exact hK.trans (by rw [e0]; rfl)
theorem r17_Names_eq (N : Nat) (a : LA) (b : Bool) (z : Int) (F : AV → Heap → Option R) : execF Try.prog muts (r17_Names_T N) r17_Names_hs N 70 [(.pagg a b), (.int .i64 z)] [] F = (r17_Names N a b z (r17_Names_r0 F)) := by
  have e1 := funext fun c => funext fun j => funext fun r => (show r17_Names_w0 N F (r17_Names_s0 b a c j r) = _ from (loopW_eq ..).trans (r17_Names_q0_eq N F b a N c j r))
  have e2 := funext fun d => funext fun l => funext fun t => (show r17_Names_w1 N F (r17_Names_s1 b a d l t) = _ from (loopW_eq ..).trans (r17_Names_q1_eq N F b a N d l t))
  have e3 := funext fun e => funext fun m => funext fun u => (show r17_Names_w2 N F (r17_Names_s2 b a e m u) = _ from (loopW_eq ..).trans (r17_Names_q2_eq N F b a N e m u))
  have e4 := funext fun f => funext fun o => funext fun w => (show r17_Names_w3 N F (r17_Names_s3 b a f o w) = _ from (loopW_eq ..).trans (r17_Names_q3_eq N F b a N f o w))
  have e5 := funext fun g => funext fun p => funext fun x => (show r17_Names_w4 N F (r17_Names_s4 b a g p x) = _ from (loopW_eq ..).trans (r17_Names_q4_eq N F b a N g p x))
  have e6 := funext fun i => funext fun q => funext fun y => (show r17_Names_w5 N F (r17_Names_s5 b a i q y) = _ from (loopW_eq ..).trans (r17_Names_q5_eq N F b a N i q y))
  have hK : execF Try.prog muts (r17_Names_T N) r17_Names_hs N 70 [(.pagg a b), (.int .i64 z)] [] F = (r17_NamesB N (r17_Names_r0 F) (fun c j r => r17_Names_w0 N F (r17_Names_s0 b a c j r)) (fun d l t => r17_Names_w1 N F (r17_Names_s1 b a d l t)) (fun e m u => r17_Names_w2 N F (r17_Names_s2 b a e m u)) (fun f o w => r17_Names_w3 N F (r17_Names_s3 b a f o w)) (fun g p x => r17_Names_w4 N F (r17_Names_s4 b a g p x)) (fun i q y => r17_Names_w5 N F (r17_Names_s5 b a i q y)) a b z) := by kernel_rfl
  rw [r17_Names_def]
  exact hK.trans (by rw [e1, e2, e3, e4, e5, e6]; rfl)
noncomputable def r17_Names_run (N : Nat) (args : List AV) (h : Heap) (k : AV → Heap → Option R) : Option R :=
  match args, h with
  | [(.pagg a b), (.int .i64 z)], [] => (r17_Names N a b z (r17_Names_r0 k))
  | _, _ => none
noncomputable def r17_Names_Tw (N : Nat) : Tw where
  runK := r17_Names_run N
  eq := by
    intro R args h k
    unfold r17_Names_run
    split
    · exact (r17_Names_eq ..).symm.trans ((execF_bind ..).trans (congrArg (Option.bind · _) (r17_Names_eq ..)))
    · rfl
theorem r17_Names_ok (N : Nat) : TwOk Try.prog 70 (r17_Names_Tw N) := by
  intro args h res aa bd
  have hh : r17_Names_run N args h (fun v aa => some (v, aa)) = some (res, aa) := bd
  unfold r17_Names_run at hh
  split at hh
  · exact execF_sound (T := r17_Names_T N) trivial follows ((r17_Names_eq ..).trans hh)
  · cases hh
noncomputable def r17_MostB (N : Nat) (r0 : Int → Option R)  (a : Int) : Option R :=
  (cond (inIdx a 7) (rdI .i64 (List.drop (0 + ((Int.toNat a) * 1)) [(.int .i64 0), (.int .i64 32), (.int .i64 64), (.int .i64 16), (.int .i64 8), (.int .i64 8), (.int .i64 64)]) fun c => (r0 c)) none)
noncomputable def r17_Mosti (N : Nat) (a : Int) (r0 : Int → Option R) : Option R := (r17_MostB N r0 a)
noncomputable def r17_Most := (shut (@r17_Mosti R)).1
theorem r17_Most_def : @r17_Most R = @r17_Mosti R := (shut _).2
noncomputable def r17_Most_hs : Hints := { H := (hS (hR [0]) (hS (hR [2]) hL)), nils := [], modes := [], free := [], cob := [] }
noncomputable def r17_Most_T (N : Nat) : List (Nat × Tw) := []
noncomputable def r17_Most_E (N : Nat) : Env := mkE 7 r17_Most_hs (r17_Most_T N)
noncomputable def r17_Most_fin (N : Nat) (F : AV → Heap → Option R) := afinish (r17_Most_E N) Try.f71 r17_Most_hs.modes [] F
noncomputable def r17_Most_at (N : Nat) (F : AV → Heap → Option R) := atF (r17_Most_E N) [] N Try.f71 r17_Most_hs (r17_Most_fin N F)
noncomputable def r17_Most_r0  (F : AV → Heap → Option R) : Int → Option R := (fun d => F (.int .i64 d) [])
theorem r17_Most_eq (N : Nat) (a : Int) (F : AV → Heap → Option R) : execF Try.prog muts (r17_Most_T N) r17_Most_hs N 71 [(.int .i64 a)] [] F = (r17_Most N a (r17_Most_r0 F)) := by
  have hK : execF Try.prog muts (r17_Most_T N) r17_Most_hs N 71 [(.int .i64 a)] [] F = (r17_MostB N (r17_Most_r0 F) a) := by kernel_rfl
  rw [r17_Most_def]
  exact hK
noncomputable def r17_Most_run (N : Nat) (args : List AV) (h : Heap) (k : AV → Heap → Option R) : Option R :=
  match args, h with
  | [(.int .i64 a)], [] => (r17_Most N a (r17_Most_r0 k))
  | _, _ => none
noncomputable def r17_Most_Tw (N : Nat) : Tw where
  runK := r17_Most_run N
  eq := by
    intro R args h k
    unfold r17_Most_run
    split
    · exact (r17_Most_eq ..).symm.trans ((execF_bind ..).trans (congrArg (Option.bind · _) (r17_Most_eq ..)))
    · rfl
theorem r17_Most_ok (N : Nat) : TwOk Try.prog 71 (r17_Most_Tw N) := by
  intro args h res b e
  have hh : r17_Most_run N args h (fun v b => some (v, b)) = some (res, b) := e
  unfold r17_Most_run at hh
  split at hh
  · exact execF_sound (T := r17_Most_T N) trivial follows ((r17_Most_eq ..).trans hh)
  · cases hh
noncomputable def fi_frame_q0B (N : Nat)  (r0 : LA → Option R) (b : Bool) (a : LA) (k0 : Int → LA → Option R)  (c : Int) (d : LA) : Option R :=
  (cond (decide (c ≤ (6 : Int))) (cond (Nat.ble 8 (List.length a)) (r17_Names N (List.take 8 a) b c (fun g z => (r17_Most N c (fun i => (fi_need N (decide (((g : Nat) : Int) ≤ i)) 0 0 (IntKind.wrap .i64 (c + (1 : Int))) 8 d (fun j => (k0 (IntKind.wrap .i64 (c + (1 : Int))) j))))))) none) (r0 d))
noncomputable def fi_frame_q0 (N : Nat)  (r0 : LA → Option R) (b : Bool) (a : LA) : Nat → Int → LA → Option R
  | 0, _, _ => none
  | n + 1, c, d => (fi_frame_q0B N r0 b a (fi_frame_q0 N r0 b a n) c d)
noncomputable def fi_frameB (N : Nat) (r0 : LA → Option R) (q0 : Int → LA → Option R) (a : LA) (b : Bool) (e : LA) : Option R :=
  (rdI .i64 a fun l => (r18_between N 1 24 [(.int .i64 l)] 1 false true (fun m => (fi_need N m 0 0 0 3 e (fun o => (cond (Nat.ble 8 (List.length a)) (rdL 1 (List.drop 1 a) fun p q => (fi_hourly N (List.take 8 a) b p q false b 0 1048576 0 0 1 o (fun r => (rdL 3 (List.drop 2 a) fun aa t => (r18_between N 1 32 [(.int .i64 ((t : Nat) : Int))] 1 false true (fun u => (fi_need N u 0 0 2 8 r (fun w => (q0 2 w))))))))) none))))))
noncomputable def fi_framei (N : Nat) (a : LA) (b : Bool) (e : LA) (r0 : LA → Option R) : Option R := (fi_frameB N r0 (fun c d => (fi_frame_q0 N r0 b a N c d)) a b e)
noncomputable def fi_frame := (shut (@fi_framei R)).1
theorem fi_frame_def : @fi_frame R = @fi_framei R := (shut _).2
noncomputable def fi_frame_hs : Hints := { H := (hS (hR [0,3]) (hS (hR [0,3]) (hS (hR [0,3]) (hS (hR [0,3]) (hS (hR [0,3,4]) (hS (hN [0,3,4] (hS (hS (hR [0,3,4,24]) (hN [0,3,4] hL hL)) (hS (hN [0,3,4] (hR [0,3,4]) hL) (hR [0,3,4]))) hL) hL)))))), nils := [], modes := [], free := [], cob := [] }
noncomputable def fi_frame_T (N : Nat) : List (Nat × Tw) := [(45, r18_between_Tw N), (44, fi_need_Tw N), (43, fi_hourly_Tw N), (70, r17_Names_Tw N), (71, r17_Most_Tw N)]
noncomputable def fi_frame_E (N : Nat) : Env := mkE 38 fi_frame_hs (fi_frame_T N)
noncomputable def fi_frame_fin (N : Nat) (F : AV → Heap → Option R) := afinish (fi_frame_E N) Try.f41 fi_frame_hs.modes [100000] F
noncomputable def fi_frame_at (N : Nat) (F : AV → Heap → Option R) := atF (fi_frame_E N) [100000] N Try.f41 fi_frame_hs (fi_frame_fin N F)
noncomputable def fi_frame_r0  (F : AV → Heap → Option R) : LA → Option R := (fun x => F (.tup []) [(100000, ⟨false, false, true, false, 0, x⟩)])
noncomputable def fi_frame_s0 (b : Bool) (a : LA) (c : Int) (d : LA) : St := { s := [(0, (.optr 100000 0)), (3, (.optr 300000 0)), (4, (.int .i64 c))], h := [(100000, ⟨false, false, true, false, 0, d⟩), (300000, ⟨false, false, true, b, 0, a⟩)] }
noncomputable def fi_frame_w0 (N : Nat) (F : AV → Heap → Option R) : St → Option R := loopW (fi_frame_E N) [100000] N (fi_frame_at N F [1, 1, 1, 1, 1, 0] []) N
noncomputable def fi_frame_l0 (N : Nat) (F : AV → Heap → Option R) (n : Nat) : St → Option R := loopAt (fi_frame_E N) [100000] N (fi_frame_at N F [1, 1, 1, 1, 1, 0] []) n
theorem fi_frame_q0_eq (N : Nat)  (F : AV → Heap → Option R) (b : Bool) (a : LA) : ∀ (n : Nat) (c : Int) (d : LA), fi_frame_l0 N F n (fi_frame_s0 b a c d) = (fi_frame_q0 N (fi_frame_r0 F) b a n c d) := by
  intro n
  induction n with
  | zero => intros; kernel_rfl
  | succ n ih =>
    intro c d
    have e0 := funext fun c => funext fun d => (show fi_frame_l0 N F n (fi_frame_s0 b a c d) = _ from ih c d)
    have hK : fi_frame_l0 N F (n + 1) (fi_frame_s0 b a c d) = (fi_frame_q0B N (fi_frame_r0 F) b a (fun c d => fi_frame_l0 N F n (fi_frame_s0 b a c d)) c d) := by kernel_rfl
    exact hK.trans (by rw [e0]; rfl)
theorem fi_frame_eq (N : Nat) (a : LA) (b : Bool) (e : LA) (F : AV → Heap → Option R) : execF Try.prog muts (fi_frame_T N) fi_frame_hs N 41 [(.optr 100000 0), (.pagg a b)] [(100000, ⟨false, false, true, false, 0, e⟩)] F = (fi_frame N a b e (fi_frame_r0 F)) := by
  have e1 := funext fun c => funext fun d => (show fi_frame_w0 N F (fi_frame_s0 b a c d) = _ from (loopW_eq ..).trans (fi_frame_q0_eq N F b a N c d))
  have hK : execF Try.prog muts (fi_frame_T N) fi_frame_hs N 41 [(.optr 100000 0), (.pagg a b)] [(100000, ⟨false, false, true, false, 0, e⟩)] F = (fi_frameB N (fi_frame_r0 F) (fun c d => fi_frame_w0 N F (fi_frame_s0 b a c d)) a b e) := by kernel_rfl
  rw [fi_frame_def]
  exact hK.trans (by rw [e1]; rfl)
noncomputable def fi_frame_run (N : Nat) (args : List AV) (h : Heap) (k : AV → Heap → Option R) : Option R :=
  match args, h with
  | [(.optr 100000 0), (.pagg a b)], [(100000, ⟨false, false, true, false, 0, e⟩)] => (fi_frame N a b e (fi_frame_r0 k))
  | _, _ => none
noncomputable def fi_frame_Tw (N : Nat) : Tw where
  runK := fi_frame_run N
  eq := by
    intro R args h k
    unfold fi_frame_run
    split
    · exact (fi_frame_eq ..).symm.trans ((execF_bind ..).trans (congrArg (Option.bind · _) (fi_frame_eq ..)))
    · rfl
theorem fi_frame_ok (N : Nat) : TwOk Try.prog 41 (fi_frame_Tw N) := by
  intro args h res f y
  have hh : fi_frame_run N args h (fun v f => some (v, f)) = some (res, f) := y
  unfold fi_frame_run at hh
  split at hh
  · exact execF_sound (T := fi_frame_T N) ⟨r18_between_ok N, fi_need_ok N, fi_hourly_ok N, r17_Names_ok N, r17_Most_ok N, trivial⟩ follows ((fi_frame_eq ..).trans hh)
  · cases hh
noncomputable def r17_Name_q2B (N : Nat) (k1 : Int → Option R) (r0 : Bool → Option R) (a : List UInt8)   (c : Int) (d : Bool) : Option R :=
  (cond ((!d) == true) (cond ((c == (0 : Int)) == false) (cond (inIdx c (List.length a)) (cond ((((UInt8.toNat (List.getD a (Int.toNat c) 0) : Nat) : Int) != (95 : Int)) == true) (cond (inIdx c (List.length a)) (cond ((decide (((UInt8.toNat (List.getD a (Int.toNat c) 0) : Nat) : Int) < (48 : Int))) == false) (cond (inIdx c (List.length a)) (cond (cond true (cond false true (cond true (cond false true (decide (((UInt8.toNat (List.getD a (Int.toNat c) 0) : Nat) : Int) > (57 : Int)))) false)) false) (r0 false) (k1 (IntKind.wrap .i64 (c + (1 : Int))))) none) (r0 false)) none) (k1 (IntKind.wrap .i64 (c + (1 : Int))))) none) (r0 false)) (k1 (IntKind.wrap .i64 (c + (1 : Int)))))
noncomputable def r17_Name_q2 (N : Nat) (k1 : Int → Option R) (r0 : Bool → Option R) (a : List UInt8) (c : Int) (d : Bool) : Option R := (r17_Name_q2B N k1 r0 a c d)
noncomputable def r17_Name_q1B (N : Nat)  (r0 : Bool → Option R) (a : List UInt8) (k1 : Int → Option R) (q2 : Int → Bool → Option R) (b : Int) : Option R :=
  (cond (decide (b < ((List.length a : Nat) : Int))) (cond (inIdx b (List.length a)) (cond ((decide (((UInt8.toNat (List.getD a (Int.toNat b) 0) : Nat) : Int) ≥ (97 : Int))) == true) (cond (inIdx b (List.length a)) (q2 b (cond true (decide (((UInt8.toNat (List.getD a (Int.toNat b) 0) : Nat) : Int) ≤ (122 : Int))) false)) none) (q2 b false)) none) (r0 true))
noncomputable def r17_Name_q1 (N : Nat)  (r0 : Bool → Option R) (a : List UInt8) : Nat → Int → Option R
  | 0, _ => none
  | n + 1, b => (r17_Name_q1B N r0 a (r17_Name_q1 N r0 a n) (fun c d => (r17_Name_q2 N (r17_Name_q1 N r0 a n) r0 a c d)) b)
noncomputable def r17_Name_q0B (N : Nat)  (r0 : Bool → Option R) (a : List UInt8)  (q1 : Int → Option R)  : Option R :=
  (q1 0)
noncomputable def r17_Name_q0 (N : Nat)  (r0 : Bool → Option R) (a : List UInt8)  : Option R := (r17_Name_q0B N r0 a (fun b => (r17_Name_q1 N r0 a N b)))
noncomputable def r17_NameB (N : Nat) (r0 : Bool → Option R) (q0 : Option R) (a : List UInt8) : Option R :=
  (cond ((decide (((List.length a : Nat) : Int) < (1 : Int))) == false) (cond ((cond false true (decide (((List.length a : Nat) : Int) > (16 : Int)))) == false) (cond (cond false true (a == ([99, 111, 114, 114, 101, 99, 116, 105, 118, 101] : List UInt8))) (r0 false) q0) (r0 false)) (r0 false))
noncomputable def r17_Namei (N : Nat) (a : List UInt8) (r0 : Bool → Option R) : Option R := (r17_NameB N r0 (r17_Name_q0 N r0 a) a)
noncomputable def r17_Name := (shut (@r17_Namei R)).1
theorem r17_Name_def : @r17_Name R = @r17_Namei R := (shut _).2
noncomputable def r17_Name_hs : Hints := { H := (hS (hR [0]) (hJ (hS (hR [0,16]) (hN [0] (hS (hR [2]) hL) hL)) (hS (hS (hR [0,3]) (hS (hN [0,3] (hS (hS (hR [0,3,20]) (hN [0,3] hL hL)) (hS (hN [0,3] (hJ (hR [0,3,4]) (hS (hR [0,3,56]) (hN [0,3] (hS (hR [2]) hL) hL))) hL) (hR [0,3]))) hL) hL)) (hS (hR [2]) hL)))), nils := [], modes := [], free := [], cob := [] }
noncomputable def r17_Name_T (N : Nat) : List (Nat × Tw) := []
noncomputable def r17_Name_E (N : Nat) : Env := mkE 57 r17_Name_hs (r17_Name_T N)
noncomputable def r17_Name_fin (N : Nat) (F : AV → Heap → Option R) := afinish (r17_Name_E N) Try.f72 r17_Name_hs.modes [] F
noncomputable def r17_Name_at (N : Nat) (F : AV → Heap → Option R) := atF (r17_Name_E N) [] N Try.f72 r17_Name_hs (r17_Name_fin N F)
noncomputable def r17_Name_r0  (F : AV → Heap → Option R) : Bool → Option R := (fun f => F (.bool f) [])
noncomputable def r17_Name_s2 (a : List UInt8) (c : Int) (d : Bool) : St := { s := [(0, (.str a)), (3, (.int .i64 c)), (4, (.bool d))], h := [] }
noncomputable def r17_Name_j2 (N : Nat) (F : AV → Heap → Option R) (Q1 : St → Option R) : St → Option R := joinAt (r17_Name_E N) [] N (r17_Name_at N F [1, 1, 0, 1, 0, 0, 1, 0, 0, 1] [Q1])
noncomputable def r17_Name_i2 (N : Nat) (F : AV → Heap → Option R) (Q1 : St → Option R) : St → Option R := joinIn (r17_Name_E N) [] N (r17_Name_at N F [1, 1, 0, 1, 0, 0, 1, 0, 0, 1] [Q1])
noncomputable def r17_Name_s1 (a : List UInt8) (b : Int) : St := { s := [(0, (.str a)), (3, (.int .i64 b))], h := [] }
noncomputable def r17_Name_w1 (N : Nat) (F : AV → Heap → Option R) : St → Option R := loopW (r17_Name_E N) [] N (r17_Name_at N F [1, 1, 0, 1, 0] []) N
noncomputable def r17_Name_l1 (N : Nat) (F : AV → Heap → Option R) (n : Nat) : St → Option R := loopAt (r17_Name_E N) [] N (r17_Name_at N F [1, 1, 0, 1, 0] []) n
noncomputable def r17_Name_s0 (a : List UInt8) : St := { s := [(0, (.str a))], h := [] }
noncomputable def r17_Name_j0 (N : Nat) (F : AV → Heap → Option R) : St → Option R := joinAt (r17_Name_E N) [] N (r17_Name_at N F [1, 1] [])
noncomputable def r17_Name_i0 (N : Nat) (F : AV → Heap → Option R) : St → Option R := joinIn (r17_Name_E N) [] N (r17_Name_at N F [1, 1] [])
theorem r17_Name_q2_eq (N : Nat) (Q1 : St → Option R) (F : AV → Heap → Option R) (a : List UInt8) : ∀ (c : Int) (d : Bool), r17_Name_i2 N F Q1 (r17_Name_s2 a c d) = (r17_Name_q2 N (fun b => Q1 (r17_Name_s1 a b)) (r17_Name_r0 F) a c d) := by
  intro c d
  have hK : r17_Name_i2 N F Q1 (r17_Name_s2 a c d) = (r17_Name_q2B N (fun b => Q1 (r17_Name_s1 a b)) (r17_Name_r0 F) a c d) := by kernel_rfl
  exact hK
theorem r17_Name_q1_eq (N : Nat)  (F : AV → Heap → Option R) (a : List UInt8) : ∀ (n : Nat) (b : Int), r17_Name_l1 N F n (r17_Name_s1 a b) = (r17_Name_q1 N (r17_Name_r0 F) a n b) := by
  intro n
  induction n with
  | zero => intros; kernel_rfl
  | succ n ih =>
    intro b
    have e0 := funext fun b => (show r17_Name_l1 N F n (r17_Name_s1 a b) = _ from ih b)
    have e1 : (fun c d => r17_Name_j2 N F (r17_Name_l1 N F n) (r17_Name_s2 a c d)) = (fun c d => (r17_Name_q2 N (r17_Name_q1 N (r17_Name_r0 F) a n) (r17_Name_r0 F) a c d)) := by funext c; funext d; exact ((joinAt_eq ..).trans (r17_Name_q2_eq N (r17_Name_l1 N F n) F a c d)).trans (by rw [e0])
    have hK : r17_Name_l1 N F (n + 1) (r17_Name_s1 a b) = (r17_Name_q1B N (r17_Name_r0 F) a (fun b => r17_Name_l1 N F n (r17_Name_s1 a b)) (fun c d => r17_Name_j2 N F (r17_Name_l1 N F n) (r17_Name_s2 a c d)) b) := by kernel_rfl
    exact hK.trans (by rw [e0, e1]; rfl)
theorem r17_Name_q0_eq (N : Nat)  (F : AV → Heap → Option R) (a : List UInt8) : r17_Name_i0 N F (r17_Name_s0 a) = (r17_Name_q0 N (r17_Name_r0 F) a) := by
  have e1 := funext fun b => (show r17_Name_w1 N F (r17_Name_s1 a b) = _ from (loopW_eq ..).trans (r17_Name_q1_eq N F a N b))
  have hK : r17_Name_i0 N F (r17_Name_s0 a) = (r17_Name_q0B N (r17_Name_r0 F) a (fun b => r17_Name_w1 N F (r17_Name_s1 a b))) := by kernel_rfl
  exact hK.trans (by rw [e1]; rfl)
theorem r17_Name_eq (N : Nat) (a : List UInt8) (F : AV → Heap → Option R) : execF Try.prog muts (r17_Name_T N) r17_Name_hs N 72 [(.str a)] [] F = (r17_Name N a (r17_Name_r0 F)) := by
  have e1 := (show r17_Name_j0 N F (r17_Name_s0 a) = _ from (joinAt_eq ..).trans (r17_Name_q0_eq N F a))
  have hK : execF Try.prog muts (r17_Name_T N) r17_Name_hs N 72 [(.str a)] [] F = (r17_NameB N (r17_Name_r0 F) (r17_Name_j0 N F (r17_Name_s0 a)) a) := by kernel_rfl
  rw [r17_Name_def]
  exact hK.trans (by rw [e1]; rfl)
noncomputable def r17_Name_run (N : Nat) (args : List AV) (h : Heap) (k : AV → Heap → Option R) : Option R :=
  match args, h with
  | [(.str a)], [] => (r17_Name N a (r17_Name_r0 k))
  | _, _ => none
noncomputable def r17_Name_Tw (N : Nat) : Tw where
  runK := r17_Name_run N
  eq := by
    intro R args h k
    unfold r17_Name_run
    split
    · exact (r17_Name_eq ..).symm.trans ((execF_bind ..).trans (congrArg (Option.bind · _) (r17_Name_eq ..)))
    · rfl
theorem r17_Name_ok (N : Nat) : TwOk Try.prog 72 (r17_Name_Tw N) := by
  intro args h res e g
  have hh : r17_Name_run N args h (fun v e => some (v, e)) = some (res, e) := g
  unfold r17_Name_run at hh
  split at hh
  · exact execF_sound (T := r17_Name_T N) trivial follows ((r17_Name_eq ..).trans hh)
  · cases hh
noncomputable def fi_name_q0B (N : Nat)  (r0 : LA → Option R) (b : Int) (a : Int) (d : Nat) (e : LA) (k0 : Int → LA → Option R)  (c : Int) (f : LA) : Option R :=
  (cond (decide (c < a)) (cond (inIdx c d) (rdS (List.drop (0 + ((Int.toNat c) * 1)) e) fun m => (cond (inIdx a d) (rdS (List.drop (0 + ((Int.toNat a) * 1)) e) fun o => (fi_need N (!(m == o)) b a 0 10 f (fun p => (k0 (IntKind.wrap .i64 (c + (1 : Int))) p)))) none)) none) (r0 f))
noncomputable def fi_name_q0 (N : Nat)  (r0 : LA → Option R) (b : Int) (a : Int) (d : Nat) (e : LA) : Nat → Int → LA → Option R
  | 0, _, _ => none
  | n + 1, c, f => (fi_name_q0B N r0 b a d e (fi_name_q0 N r0 b a d e n) c f)
noncomputable def fi_nameB (N : Nat) (r0 : LA → Option R) (q0 : Nat → LA → Int → LA → Option R) (g : LA) (i : Bool) (b : Int) (a : Int) (j : LA) : Option R :=
  (cond (Nat.ble 8 (List.length g)) (r17_Names N (List.take 8 g) i b (fun d e => (cond (inIdx a d) (rdS (List.drop (0 + ((Int.toNat a) * 1)) e) fun q => (r17_Name N q (fun r => (fi_need N r b a 0 9 j (fun t => (q0 d e 0 t)))))) none))) none)
noncomputable def fi_namei (N : Nat) (g : LA) (i : Bool) (b : Int) (a : Int) (j : LA) (r0 : LA → Option R) : Option R := (fi_nameB N r0 (fun d e c f => (fi_name_q0 N r0 b a d e N c f)) g i b a j)
noncomputable def fi_name := (shut (@fi_namei R)).1
theorem fi_name_def : @fi_name R = @fi_namei R := (shut _).2
noncomputable def fi_name_hs : Hints := { H := (hS (hR [0,2,3,5]) (hS (hR [0,2,3,8]) (hS (hR [0,2,3,8]) (hS (hR [0,2,3,8,9]) (hS (hN [0,2,3,8,9] (hS (hS (hR [0,2,3,8,9,24]) (hN [0,2,3,8,9] hL hL)) (hS (hN [0,2,3,8,9] (hR [0,2,3,8,9]) hL) (hR [0,2,3,8,9]))) hL) hL))))), nils := [], modes := [], free := [], cob := [] }
noncomputable def fi_name_T (N : Nat) : List (Nat × Tw) := [(70, r17_Names_Tw N), (72, r17_Name_Tw N), (44, fi_need_Tw N)]
noncomputable def fi_name_E (N : Nat) : Env := mkE 40 fi_name_hs (fi_name_T N)
noncomputable def fi_name_fin (N : Nat) (F : AV → Heap → Option R) := afinish (fi_name_E N) Try.f42 fi_name_hs.modes [100000] F
noncomputable def fi_name_at (N : Nat) (F : AV → Heap → Option R) := atF (fi_name_E N) [100000] N Try.f42 fi_name_hs (fi_name_fin N F)
noncomputable def fi_name_r0  (F : AV → Heap → Option R) : LA → Option R := (fun u => F (.tup []) [(100000, ⟨false, false, true, false, 0, u⟩)])
noncomputable def fi_name_s0 (b : Int) (a : Int) (d : Nat) (e : LA) (c : Int) (f : LA) : St := { s := [(0, (.optr 100000 0)), (2, (.int .i64 b)), (3, (.int .i64 a)), (8, (.own 300000 0 d)), (9, (.int .i64 c))], h := [(100000, ⟨false, false, true, false, 0, f⟩), (300000, ⟨false, false, true, false, 1, e⟩)] }
noncomputable def fi_name_w0 (N : Nat) (F : AV → Heap → Option R) : St → Option R := loopW (fi_name_E N) [100000] N (fi_name_at N F [1, 1, 1, 1, 0] []) N
noncomputable def fi_name_l0 (N : Nat) (F : AV → Heap → Option R) (n : Nat) : St → Option R := loopAt (fi_name_E N) [100000] N (fi_name_at N F [1, 1, 1, 1, 0] []) n
theorem fi_name_q0_eq (N : Nat)  (F : AV → Heap → Option R) (b : Int) (a : Int) (d : Nat) (e : LA) : ∀ (n : Nat) (c : Int) (f : LA), fi_name_l0 N F n (fi_name_s0 b a d e c f) = (fi_name_q0 N (fi_name_r0 F) b a d e n c f) := by
  intro n
  induction n with
  | zero => intros; kernel_rfl
  | succ n ih =>
    intro c f
    have e0 := funext fun c => funext fun f => (show fi_name_l0 N F n (fi_name_s0 b a d e c f) = _ from ih c f)
    have hK : fi_name_l0 N F (n + 1) (fi_name_s0 b a d e c f) = (fi_name_q0B N (fi_name_r0 F) b a d e (fun c f => fi_name_l0 N F n (fi_name_s0 b a d e c f)) c f) := by kernel_rfl
    exact hK.trans (by rw [e0]; rfl)
theorem fi_name_eq (N : Nat) (g : LA) (i : Bool) (b : Int) (a : Int) (j : LA) (F : AV → Heap → Option R) : execF Try.prog muts (fi_name_T N) fi_name_hs N 42 [(.optr 100000 0), (.pagg g i), (.int .i64 b), (.int .i64 a)] [(100000, ⟨false, false, true, false, 0, j⟩)] F = (fi_name N g i b a j (fi_name_r0 F)) := by
  have e1 := funext fun d => funext fun e => funext fun c => funext fun f => (show fi_name_w0 N F (fi_name_s0 b a d e c f) = _ from (loopW_eq ..).trans (fi_name_q0_eq N F b a d e N c f))
  have hK : execF Try.prog muts (fi_name_T N) fi_name_hs N 42 [(.optr 100000 0), (.pagg g i), (.int .i64 b), (.int .i64 a)] [(100000, ⟨false, false, true, false, 0, j⟩)] F = (fi_nameB N (fi_name_r0 F) (fun d e c f => fi_name_w0 N F (fi_name_s0 b a d e c f)) g i b a j) := by kernel_rfl
  rw [fi_name_def]
  exact hK.trans (by rw [e1]; rfl)
noncomputable def fi_name_run (N : Nat) (args : List AV) (h : Heap) (k : AV → Heap → Option R) : Option R :=
  match args, h with
  | [(.optr 100000 0), (.pagg g i), (.int .i64 b), (.int .i64 a)], [(100000, ⟨false, false, true, false, 0, j⟩)] => (fi_name N g i b a j (fi_name_r0 k))
  | _, _ => none
noncomputable def fi_name_Tw (N : Nat) : Tw where
  runK := fi_name_run N
  eq := by
    intro R args h k
    unfold fi_name_run
    split
    · exact (fi_name_eq ..).symm.trans ((execF_bind ..).trans (congrArg (Option.bind · _) (fi_name_eq ..)))
    · rfl
theorem fi_name_ok (N : Nat) : TwOk Try.prog 42 (fi_name_Tw N) := by
  intro args h res l w
  have hh : fi_name_run N args h (fun v l => some (v, l)) = some (res, l) := w
  unfold fi_name_run at hh
  split at hh
  · exact execF_sound (T := fi_name_T N) ⟨r17_Names_ok N, r17_Name_ok N, fi_need_ok N, trivial⟩ follows ((fi_name_eq ..).trans hh)
  · cases hh
noncomputable def fi_busB (N : Nat) (r0 : LA → Option R)  (a : LA) (g : Bool) (b : Int) (c : Int) (d : Int) (e : Int) (f : LA) : Option R :=
  (rdL 3 (List.drop 2 a) fun p j => (r18_between N 0 (IntKind.wrap .i64 (((j : Nat) : Int) - (1 : Int))) [(.int .i64 b)] 1 false true (fun l => (fi_need N l c d e 12 f (fun m => (r0 m))))))
noncomputable def fi_busi (N : Nat) (a : LA) (g : Bool) (b : Int) (c : Int) (d : Int) (e : Int) (f : LA) (r0 : LA → Option R) : Option R := (fi_busB N r0 a g b c d e f)
noncomputable def fi_bus := (shut (@fi_busi R)).1
theorem fi_bus_def : @fi_bus R = @fi_busi R := (shut _).2
noncomputable def fi_bus_hs : Hints := { H := (hS (hR [0,2,3,4,5,7]) hL), nils := [], modes := [], free := [], cob := [] }
noncomputable def fi_bus_T (N : Nat) : List (Nat × Tw) := [(45, r18_between_Tw N), (44, fi_need_Tw N)]
noncomputable def fi_bus_E (N : Nat) : Env := mkE 24 fi_bus_hs (fi_bus_T N)
noncomputable def fi_bus_fin (N : Nat) (F : AV → Heap → Option R) := afinish (fi_bus_E N) Try.f73 fi_bus_hs.modes [100000] F
noncomputable def fi_bus_at (N : Nat) (F : AV → Heap → Option R) := atF (fi_bus_E N) [100000] N Try.f73 fi_bus_hs (fi_bus_fin N F)
noncomputable def fi_bus_r0  (F : AV → Heap → Option R) : LA → Option R := (fun n => F (.tup []) [(100000, ⟨false, false, true, false, 0, n⟩)])
theorem fi_bus_eq (N : Nat) (a : LA) (g : Bool) (b : Int) (c : Int) (d : Int) (e : Int) (f : LA) (F : AV → Heap → Option R) : execF Try.prog muts (fi_bus_T N) fi_bus_hs N 73 [(.optr 100000 0), (.pagg a g), (.int .i64 b), (.int .i64 c), (.int .i64 d), (.int .i64 e)] [(100000, ⟨false, false, true, false, 0, f⟩)] F = (fi_bus N a g b c d e f (fi_bus_r0 F)) := by
  have hK : execF Try.prog muts (fi_bus_T N) fi_bus_hs N 73 [(.optr 100000 0), (.pagg a g), (.int .i64 b), (.int .i64 c), (.int .i64 d), (.int .i64 e)] [(100000, ⟨false, false, true, false, 0, f⟩)] F = (fi_busB N (fi_bus_r0 F) a g b c d e f) := by kernel_rfl
  rw [fi_bus_def]
  exact hK
noncomputable def fi_bus_run (N : Nat) (args : List AV) (h : Heap) (k : AV → Heap → Option R) : Option R :=
  match args, h with
  | [(.optr 100000 0), (.pagg a g), (.int .i64 b), (.int .i64 c), (.int .i64 d), (.int .i64 e)], [(100000, ⟨false, false, true, false, 0, f⟩)] => (fi_bus N a g b c d e f (fi_bus_r0 k))
  | _, _ => none
noncomputable def fi_bus_Tw (N : Nat) : Tw where
  runK := fi_bus_run N
  eq := by
    intro R args h k
    unfold fi_bus_run
    split
    · exact (fi_bus_eq ..).symm.trans ((execF_bind ..).trans (congrArg (Option.bind · _) (fi_bus_eq ..)))
    · rfl
theorem fi_bus_ok (N : Nat) : TwOk Try.prog 73 (fi_bus_Tw N) := by
  intro args h res i o
  have hh : fi_bus_run N args h (fun v i => some (v, i)) = some (res, i) := o
  unfold fi_bus_run at hh
  split at hh
  · exact execF_sound (T := fi_bus_T N) ⟨r18_between_ok N, fi_need_ok N, trivial⟩ follows ((fi_bus_eq ..).trans hh)
  · cases hh
noncomputable def r18_fractionB (N : Nat) (r0 : Bool → Option R)  (a : LA) (b : Bool) : Option R :=
  (rdI .i64 (List.drop 1 a) fun d => (r18_between N 1 1048576 [(.int .i64 d)] 1 false true (fun e => (cond (e == true) (rdI .i64 a fun f => (r18_between N (-1048576) 1048576 [(.int .i64 f)] 1 false true (fun g => (r0 (cond true g false))))) (r0 false)))))
noncomputable def r18_fractioni (N : Nat) (a : LA) (b : Bool) (r0 : Bool → Option R) : Option R := (r18_fractionB N r0 a b)
noncomputable def r18_fraction := (shut (@r18_fractioni R)).1
theorem r18_fraction_def : @r18_fraction R = @r18_fractioni R := (shut _).2
noncomputable def r18_fraction_hs : Hints := { H := (hS (hR [1]) (hS (hR [2]) hL)), nils := [], modes := [], free := [], cob := [] }
noncomputable def r18_fraction_T (N : Nat) : List (Nat × Tw) := [(45, r18_between_Tw N)]
noncomputable def r18_fraction_E (N : Nat) : Env := mkE 13 r18_fraction_hs (r18_fraction_T N)
noncomputable def r18_fraction_fin (N : Nat) (F : AV → Heap → Option R) := afinish (r18_fraction_E N) Try.f74 r18_fraction_hs.modes [] F
noncomputable def r18_fraction_at (N : Nat) (F : AV → Heap → Option R) := atF (r18_fraction_E N) [] N Try.f74 r18_fraction_hs (r18_fraction_fin N F)
noncomputable def r18_fraction_r0  (F : AV → Heap → Option R) : Bool → Option R := (fun i => F (.bool i) [])
theorem r18_fraction_eq (N : Nat) (a : LA) (b : Bool) (F : AV → Heap → Option R) : execF Try.prog muts (r18_fraction_T N) r18_fraction_hs N 74 [(.pagg a b)] [] F = (r18_fraction N a b (r18_fraction_r0 F)) := by
  have hK : execF Try.prog muts (r18_fraction_T N) r18_fraction_hs N 74 [(.pagg a b)] [] F = (r18_fractionB N (r18_fraction_r0 F) a b) := by kernel_rfl
  rw [r18_fraction_def]
  exact hK
noncomputable def r18_fraction_run (N : Nat) (args : List AV) (h : Heap) (k : AV → Heap → Option R) : Option R :=
  match args, h with
  | [(.pagg a b)], [] => (r18_fraction N a b (r18_fraction_r0 k))
  | _, _ => none
noncomputable def r18_fraction_Tw (N : Nat) : Tw where
  runK := r18_fraction_run N
  eq := by
    intro R args h k
    unfold r18_fraction_run
    split
    · exact (r18_fraction_eq ..).symm.trans ((execF_bind ..).trans (congrArg (Option.bind · _) (r18_fraction_eq ..)))
    · rfl
theorem r18_fraction_ok (N : Nat) : TwOk Try.prog 74 (r18_fraction_Tw N) := by
  intro args h res c j
  have hh : r18_fraction_run N args h (fun v c => some (v, c)) = some (res, c) := j
  unfold r18_fraction_run at hh
  split at hh
  · exact execF_sound (T := r18_fraction_T N) ⟨r18_between_ok N, trivial⟩ follows ((r18_fraction_eq ..).trans hh)
  · cases hh
noncomputable def r18_rising_q0B (N : Nat)  (r0 : Bool → Option R) (b : LA) (a : Nat) (d : Bool) (e : Bool) (k0 : Int → Option R)  (c : Int) : Option R :=
  (cond (decide (c < ((a : Nat) : Int))) (cond (inIdx c a) (rdI .i64 (List.drop ((Int.toNat c) * 1) b) fun g => (cond (inIdx (IntKind.wrap .i64 (c - (1 : Int))) a) (rdI .i64 (List.drop ((Int.toNat (IntKind.wrap .i64 (c - (1 : Int)))) * 1) b) fun i => (cond (decide (g ≤ i)) (r0 false) (k0 (IntKind.wrap .i64 (c + (1 : Int)))))) none)) none) (r0 true))
noncomputable def r18_rising_q0 (N : Nat)  (r0 : Bool → Option R) (b : LA) (a : Nat) (d : Bool) (e : Bool) : Nat → Int → Option R
  | 0, _ => none
  | n + 1, c => (r18_rising_q0B N r0 b a d e (r18_rising_q0 N r0 b a d e n) c)
noncomputable def r18_risingB (N : Nat) (r0 : Bool → Option R) (q0 : Int → Option R) (b : LA) (a : Nat) (d : Bool) (e : Bool) : Option R :=
  (q0 1)
noncomputable def r18_risingi (N : Nat) (b : LA) (a : Nat) (d : Bool) (e : Bool) (r0 : Bool → Option R) : Option R := (r18_risingB N r0 (fun c => (r18_rising_q0 N r0 b a d e N c)) b a d e)
noncomputable def r18_rising := (shut (@r18_risingi R)).1
theorem r18_rising_def : @r18_rising R = @r18_risingi R := (shut _).2
noncomputable def r18_rising_hs : Hints := { H := (hS (hR [0]) (hS (hS (hR [0,3]) (hS (hN [0,3] (hS (hS (hR [0,3,7]) (hN [0,3] hL hL)) (hS (hN [0,3] (hS (hR [0,3,19]) (hN [0,3] (hS (hR [2]) hL) hL)) hL) (hR [0,3]))) hL) hL)) (hS (hR [2]) hL))), nils := [], modes := [], free := [], cob := [] }
noncomputable def r18_rising_T (N : Nat) : List (Nat × Tw) := []
noncomputable def r18_rising_E (N : Nat) : Env := mkE 20 r18_rising_hs (r18_rising_T N)
noncomputable def r18_rising_fin (N : Nat) (F : AV → Heap → Option R) := afinish (r18_rising_E N) Try.f77 r18_rising_hs.modes [] F
noncomputable def r18_rising_at (N : Nat) (F : AV → Heap → Option R) := atF (r18_rising_E N) [] N Try.f77 r18_rising_hs (r18_rising_fin N F)
noncomputable def r18_rising_r0  (F : AV → Heap → Option R) : Bool → Option R := (fun j => F (.bool j) [])
noncomputable def r18_rising_s0 (b : LA) (a : Nat) (d : Bool) (e : Bool) (c : Int) : St := { s := [(0, (.imm b a 1 d e)), (3, (.int .i64 c))], h := [] }
noncomputable def r18_rising_w0 (N : Nat) (F : AV → Heap → Option R) : St → Option R := loopW (r18_rising_E N) [] N (r18_rising_at N F [1, 0, 1, 0] []) N
noncomputable def r18_rising_l0 (N : Nat) (F : AV → Heap → Option R) (n : Nat) : St → Option R := loopAt (r18_rising_E N) [] N (r18_rising_at N F [1, 0, 1, 0] []) n
theorem r18_rising_q0_eq (N : Nat)  (F : AV → Heap → Option R) (b : LA) (a : Nat) (d : Bool) (e : Bool) : ∀ (n : Nat) (c : Int), r18_rising_l0 N F n (r18_rising_s0 b a d e c) = (r18_rising_q0 N (r18_rising_r0 F) b a d e n c) := by
  intro n
  induction n with
  | zero => intros; kernel_rfl
  | succ n ih =>
    intro c
    have e0 := funext fun c => (show r18_rising_l0 N F n (r18_rising_s0 b a d e c) = _ from ih c)
    have hK : r18_rising_l0 N F (n + 1) (r18_rising_s0 b a d e c) = (r18_rising_q0B N (r18_rising_r0 F) b a d e (fun c => r18_rising_l0 N F n (r18_rising_s0 b a d e c)) c) := by kernel_rfl
    exact hK.trans (by rw [e0]; rfl)
theorem r18_rising_eq (N : Nat) (b : LA) (a : Nat) (d : Bool) (e : Bool) (F : AV → Heap → Option R) : execF Try.prog muts (r18_rising_T N) r18_rising_hs N 77 [(.imm b a 1 d e)] [] F = (r18_rising N b a d e (r18_rising_r0 F)) := by
  have e1 := funext fun c => (show r18_rising_w0 N F (r18_rising_s0 b a d e c) = _ from (loopW_eq ..).trans (r18_rising_q0_eq N F b a d e N c))
  have hK : execF Try.prog muts (r18_rising_T N) r18_rising_hs N 77 [(.imm b a 1 d e)] [] F = (r18_risingB N (r18_rising_r0 F) (fun c => r18_rising_w0 N F (r18_rising_s0 b a d e c)) b a d e) := by kernel_rfl
  rw [r18_rising_def]
  exact hK.trans (by rw [e1]; rfl)
noncomputable def r18_rising_run (N : Nat) (args : List AV) (h : Heap) (k : AV → Heap → Option R) : Option R :=
  match args, h with
  | [(.imm b a 1 d e)], [] => (r18_rising N b a d e (r18_rising_r0 k))
  | _, _ => none
noncomputable def r18_rising_Tw (N : Nat) : Tw where
  runK := r18_rising_run N
  eq := by
    intro R args h k
    unfold r18_rising_run
    split
    · exact (r18_rising_eq ..).symm.trans ((execF_bind ..).trans (congrArg (Option.bind · _) (r18_rising_eq ..)))
    · rfl
theorem r18_rising_ok (N : Nat) : TwOk Try.prog 77 (r18_rising_Tw N) := by
  intro args h res f l
  have hh : r18_rising_run N args h (fun v f => some (v, f)) = some (res, f) := l
  unfold r18_rising_run at hh
  split at hh
  · exact execF_sound (T := r18_rising_T N) trivial follows ((r18_rising_eq ..).trans hh)
  · cases hh
noncomputable def fi_awayB (N : Nat) (r0 : LA → Option R)  (g : LA) (j : Bool) (a : LA) (b : Nat) (l : Bool) (c : Bool) (d : Int) (e : Int) (f : Int) (i : LA) : Option R :=
  (rdI .i64 g fun n => (r18_between N 0 (IntKind.wrap .i64 (n - (1 : Int))) a b false c (fun o => (fi_need N o d e f 3 i (fun p => (r18_rising N a b false c (fun q => (fi_need N q d e f 11 p (fun r => (r0 r))))))))))
noncomputable def fi_awayi (N : Nat) (g : LA) (j : Bool) (a : LA) (b : Nat) (l : Bool) (c : Bool) (d : Int) (e : Int) (f : Int) (i : LA) (r0 : LA → Option R) : Option R := (fi_awayB N r0 g j a b l c d e f i)
noncomputable def fi_away := (shut (@fi_awayi R)).1
theorem fi_away_def : @fi_away R = @fi_awayi R := (shut _).2
noncomputable def fi_away_hs : Hints := { H := (hS (hR [0,2,3,4,5,7]) (hS (hR [0,2,3,4,5]) hL)), nils := [], modes := [], free := [], cob := [] }
noncomputable def fi_away_T (N : Nat) : List (Nat × Tw) := [(45, r18_between_Tw N), (44, fi_need_Tw N), (77, r18_rising_Tw N)]
noncomputable def fi_away_E (N : Nat) : Env := mkE 29 fi_away_hs (fi_away_T N)
noncomputable def fi_away_fin (N : Nat) (F : AV → Heap → Option R) := afinish (fi_away_E N) Try.f75 fi_away_hs.modes [100000] F
noncomputable def fi_away_at (N : Nat) (F : AV → Heap → Option R) := atF (fi_away_E N) [100000] N Try.f75 fi_away_hs (fi_away_fin N F)
noncomputable def fi_away_r0  (F : AV → Heap → Option R) : LA → Option R := (fun s => F (.tup []) [(100000, ⟨false, false, true, false, 0, s⟩)])
theorem fi_away_eq (N : Nat) (g : LA) (j : Bool) (a : LA) (b : Nat) (l : Bool) (c : Bool) (d : Int) (e : Int) (f : Int) (i : LA) (F : AV → Heap → Option R) : execF Try.prog muts (fi_away_T N) fi_away_hs N 75 [(.optr 100000 0), (.pagg g j), (.imm a b 1 l c), (.int .i64 d), (.int .i64 e), (.int .i64 f)] [(100000, ⟨false, false, true, false, 0, i⟩)] F = (fi_away N g j a b l c d e f i (fi_away_r0 F)) := by
  have hK : execF Try.prog muts (fi_away_T N) fi_away_hs N 75 [(.optr 100000 0), (.pagg g j), (.imm a b 1 l c), (.int .i64 d), (.int .i64 e), (.int .i64 f)] [(100000, ⟨false, false, true, false, 0, i⟩)] F = (fi_awayB N (fi_away_r0 F) g j a b l c d e f i) := by kernel_rfl
  rw [fi_away_def]
  exact hK
noncomputable def fi_away_run (N : Nat) (args : List AV) (h : Heap) (k : AV → Heap → Option R) : Option R :=
  match args, h with
  | [(.optr 100000 0), (.pagg g j), (.imm a b 1 l c), (.int .i64 d), (.int .i64 e), (.int .i64 f)], [(100000, ⟨false, false, true, false, 0, i⟩)] => (fi_away N g j a b l c d e f i (fi_away_r0 k))
  | _, _ => none
noncomputable def fi_away_Tw (N : Nat) : Tw where
  runK := fi_away_run N
  eq := by
    intro R args h k
    unfold fi_away_run
    split
    · exact (fi_away_eq ..).symm.trans ((execF_bind ..).trans (congrArg (Option.bind · _) (fi_away_eq ..)))
    · rfl
theorem fi_away_ok (N : Nat) : TwOk Try.prog 75 (fi_away_Tw N) := by
  intro args h res m t
  have hh : fi_away_run N args h (fun v m => some (v, m)) = some (res, m) := t
  unfold fi_away_run at hh
  split at hh
  · exact execF_sound (T := fi_away_T N) ⟨r18_between_ok N, fi_need_ok N, r18_rising_ok N, trivial⟩ follows ((fi_away_eq ..).trans hh)
  · cases hh
noncomputable def fi_line_q2B (N : Nat)  (r0 : LA → Option R) (a : Int) (b : Bool) (c : LA) (d : LA)   (g : LA) : Option R :=
  (rdI .i64 (List.drop 9 d) fun n => (r18_between N 0 1048576 [(.int .i64 n)] 1 false true (fun o => (fi_need N o 2 a 6 3 g (fun p => (rdI .i64 (List.drop 9 d) fun q => (rdI .i64 (List.drop 10 d) fun r => (r18_between N q 1048576 [(.int .i64 r)] 1 false true (fun t => (fi_need N t 2 a 7 3 p (fun u => (cond (Nat.ble 8 (List.length c)) (rdL 1 (List.drop 11 d) fun w x => (fi_away N (List.take 8 c) b w x false b 2 a 8 u (fun y => (r0 y)))) none))))))))))))
noncomputable def fi_line_q2 (N : Nat)  (r0 : LA → Option R) (a : Int) (b : Bool) (c : LA) (d : LA) (g : LA) : Option R := (fi_line_q2B N r0 a b c d g)
noncomputable def fi_line_q1B (N : Nat)  (r0 : LA → Option R) (a : Int) (b : Bool) (c : LA) (d : LA)  (q2 : LA → Option R) (e : LA) : Option R :=
  (cond (Nat.ble 2 (List.length (List.drop 7 d))) (cond ((!b) || (plainZ (List.take 2 (List.drop 7 d)))) (r18_fraction N (List.take 2 (List.drop 7 d)) false (fun z => (cond (z == true) (rdI .i64 (List.drop 7 d) fun aa => (fi_need N (cond true (decide (aa ≥ (0 : Int))) false) 2 a 5 3 e (fun ab => (q2 ab)))) (fi_need N false 2 a 5 3 e (fun ac => (q2 ac)))))) none) none)
noncomputable def fi_line_q1 (N : Nat)  (r0 : LA → Option R) (a : Int) (b : Bool) (c : LA) (d : LA) (e : LA) : Option R := (fi_line_q1B N r0 a b c d (fun g => (fi_line_q2 N r0 a b c d g)) e)
noncomputable def fi_line_q0B (N : Nat)  (r0 : LA → Option R) (a : Int) (b : Bool) (c : LA)  (q1 : LA → Option R) (d : LA) (f : LA) : Option R :=
  (cond (Nat.ble 2 (List.length (List.drop 5 d))) (cond ((!b) || (plainZ (List.take 2 (List.drop 5 d)))) (r18_fraction N (List.take 2 (List.drop 5 d)) false (fun ad => (cond (ad == true) (rdI .i64 (List.drop 5 d) fun ae => (fi_need N (cond true (decide (ae ≤ (0 : Int))) false) 2 a 4 3 f (fun af => (q1 af)))) (fi_need N false 2 a 4 3 f (fun ag => (q1 ag)))))) none) none)
noncomputable def fi_line_q0 (N : Nat)  (r0 : LA → Option R) (a : Int) (b : Bool) (c : LA) (d : LA) (f : LA) : Option R := (fi_line_q0B N r0 a b c (fun e => (fi_line_q1 N r0 a b c d e)) d f)
noncomputable def fi_lineB (N : Nat) (r0 : LA → Option R) (q0 : LA → LA → Option R) (c : LA) (b : Bool) (a : Int) (j : LA) : Option R :=
  (rdL 12 (List.drop 3 c) fun i ah => (cond (inIdx a ah) (cond (Nat.ble 12 (List.length (List.drop ((Int.toNat a) * 12) i))) (cond ((Nat.beq 0 0) && ((Nat.beq (List.length (List.take 12 (List.drop ((Int.toNat a) * 12) i))) 12) && (Nat.beq 12 12))) (cond (Nat.ble 8 (List.length c)) (fi_name N (List.take 8 c) b 2 a j (fun ai => (cond (Nat.ble 8 (List.length c)) (rdI .i64 (List.drop 1 (List.take 12 (List.drop ((Int.toNat a) * 12) i))) fun aj => (fi_bus N (List.take 8 c) b aj 2 a 1 ai (fun ak => (cond (Nat.ble 8 (List.length c)) (rdI .i64 (List.drop 2 (List.take 12 (List.drop ((Int.toNat a) * 12) i))) fun al => (fi_bus N (List.take 8 c) b al 2 a 2 ak (fun am => (rdI .i64 (List.drop 1 (List.take 12 (List.drop ((Int.toNat a) * 12) i))) fun an => (rdI .i64 (List.drop 2 (List.take 12 (List.drop ((Int.toNat a) * 12) i))) fun ao => (fi_need N (an != ao) 2 a 2 1 am (fun m => (cond (Nat.ble 2 (List.length (List.drop 3 (List.take 12 (List.drop ((Int.toNat a) * 12) i))))) (cond ((!b) || (plainZ (List.take 2 (List.drop 3 (List.take 12 (List.drop ((Int.toNat a) * 12) i)))))) (r18_fraction N (List.take 2 (List.drop 3 (List.take 12 (List.drop ((Int.toNat a) * 12) i)))) false (fun ap => (cond (ap == true) (rdI .i64 (List.drop 3 (List.take 12 (List.drop ((Int.toNat a) * 12) i))) fun aq => (fi_need N (cond true (decide (aq > (0 : Int))) false) 2 a 3 3 m (fun ar => (q0 (List.take 12 (List.drop ((Int.toNat a) * 12) i)) ar)))) (fi_need N false 2 a 3 3 m (fun au => (q0 (List.take 12 (List.drop ((Int.toNat a) * 12) i)) au)))))) none) none)))))))) none)))) none))) none) none) none) none))
noncomputable def fi_linei (N : Nat) (c : LA) (b : Bool) (a : Int) (j : LA) (r0 : LA → Option R) : Option R := (fi_lineB N r0 (fun d f => (fi_line_q0 N r0 a b c d f)) c b a j)
noncomputable def fi_line := (shut (@fi_linei R)).1
theorem fi_line_def : @fi_line R = @fi_linei R := (shut _).2
noncomputable def fi_line_hs : Hints := { H := (hS (hR [0,2,4]) (hS (hR [0,2,4,6,7]) (hS (hR [0,2,4,6,7]) (hS (hR [0,2,4,6,7]) (hS (hR [0,2,4,6,7]) (hS (hR [0,2,4,6,7]) (hJ (hR [0,2,4,6,7]) (hJ (hR [0,2,4,6,7]) (hJ (hR [0,2,4,6,7]) (hS (hR [0,2,4,6,7]) (hS (hR [0,2,4,6,7]) hL))))))))))), nils := [], modes := [], free := [], cob := [] }
noncomputable def fi_line_T (N : Nat) : List (Nat × Tw) := [(42, fi_name_Tw N), (73, fi_bus_Tw N), (44, fi_need_Tw N), (74, r18_fraction_Tw N), (45, r18_between_Tw N), (75, fi_away_Tw N)]
noncomputable def fi_line_E (N : Nat) : Env := mkE 105 fi_line_hs (fi_line_T N)
noncomputable def fi_line_fin (N : Nat) (F : AV → Heap → Option R) := afinish (fi_line_E N) Try.f46 fi_line_hs.modes [100000] F
noncomputable def fi_line_at (N : Nat) (F : AV → Heap → Option R) := atF (fi_line_E N) [100000] N Try.f46 fi_line_hs (fi_line_fin N F)
noncomputable def fi_line_r0  (F : AV → Heap → Option R) : LA → Option R := (fun av => F (.tup []) [(100000, ⟨false, false, true, false, 0, av⟩)])
noncomputable def fi_line_s2 (a : Int) (b : Bool) (c : LA) (d : LA) (g : LA) : St := { s := [(0, (.optr 100000 0)), (2, (.int .i64 a)), (4, (.optr 64 0)), (6, (.optr 96 0)), (7, (.int .i64 2))], h := [(64, ⟨false, false, true, b, 0, c⟩), (96, ⟨false, false, true, b, 0, d⟩), (100000, ⟨false, false, true, false, 0, g⟩)] }
noncomputable def fi_line_j2 (N : Nat) (F : AV → Heap → Option R) : St → Option R := joinAt (fi_line_E N) [100000] N (fi_line_at N F [1, 1, 1, 1, 1, 1, 1, 1, 1] [])
noncomputable def fi_line_i2 (N : Nat) (F : AV → Heap → Option R) : St → Option R := joinIn (fi_line_E N) [100000] N (fi_line_at N F [1, 1, 1, 1, 1, 1, 1, 1, 1] [])
noncomputable def fi_line_s1 (a : Int) (b : Bool) (c : LA) (d : LA) (e : LA) : St := { s := [(0, (.optr 100000 0)), (2, (.int .i64 a)), (4, (.optr 64 0)), (6, (.optr 96 0)), (7, (.int .i64 2))], h := [(64, ⟨false, false, true, b, 0, c⟩), (96, ⟨false, false, true, b, 0, d⟩), (100000, ⟨false, false, true, false, 0, e⟩)] }
noncomputable def fi_line_j1 (N : Nat) (F : AV → Heap → Option R) : St → Option R := joinAt (fi_line_E N) [100000] N (fi_line_at N F [1, 1, 1, 1, 1, 1, 1, 1] [])
noncomputable def fi_line_i1 (N : Nat) (F : AV → Heap → Option R) : St → Option R := joinIn (fi_line_E N) [100000] N (fi_line_at N F [1, 1, 1, 1, 1, 1, 1, 1] [])
noncomputable def fi_line_s0 (a : Int) (b : Bool) (c : LA) (d : LA) (f : LA) : St := { s := [(0, (.optr 100000 0)), (2, (.int .i64 a)), (4, (.optr 64 0)), (6, (.optr 96 0)), (7, (.int .i64 2))], h := [(64, ⟨false, false, true, b, 0, c⟩), (96, ⟨false, false, true, b, 0, d⟩), (100000, ⟨false, false, true, false, 0, f⟩)] }
noncomputable def fi_line_j0 (N : Nat) (F : AV → Heap → Option R) : St → Option R := joinAt (fi_line_E N) [100000] N (fi_line_at N F [1, 1, 1, 1, 1, 1, 1] [])
noncomputable def fi_line_i0 (N : Nat) (F : AV → Heap → Option R) : St → Option R := joinIn (fi_line_E N) [100000] N (fi_line_at N F [1, 1, 1, 1, 1, 1, 1] [])
theorem fi_line_q2_eq (N : Nat)  (F : AV → Heap → Option R) (a : Int) (b : Bool) (c : LA) (d : LA) : ∀ (g : LA), fi_line_i2 N F (fi_line_s2 a b c d g) = (fi_line_q2 N (fi_line_r0 F) a b c d g) := by
  intro g
  have hK : fi_line_i2 N F (fi_line_s2 a b c d g) = (fi_line_q2B N (fi_line_r0 F) a b c d g) := by kernel_rfl
  exact hK
theorem fi_line_q1_eq (N : Nat)  (F : AV → Heap → Option R) (a : Int) (b : Bool) (c : LA) (d : LA) : ∀ (e : LA), fi_line_i1 N F (fi_line_s1 a b c d e) = (fi_line_q1 N (fi_line_r0 F) a b c d e) := by
  intro e
  have e1 := funext fun g => (show fi_line_j2 N F (fi_line_s2 a b c d g) = _ from (joinAt_eq ..).trans (fi_line_q2_eq N F a b c d g))
  have hK : fi_line_i1 N F (fi_line_s1 a b c d e) = (fi_line_q1B N (fi_line_r0 F) a b c d (fun g => fi_line_j2 N F (fi_line_s2 a b c d g)) e) := by kernel_rfl
  exact hK.trans (by rw [e1]; rfl)
theorem fi_line_q0_eq (N : Nat)  (F : AV → Heap → Option R) (a : Int) (b : Bool) (c : LA) : ∀ (d : LA) (f : LA), fi_line_i0 N F (fi_line_s0 a b c d f) = (fi_line_q0 N (fi_line_r0 F) a b c d f) := by
  intro d f
  have e1 := funext fun e => (show fi_line_j1 N F (fi_line_s1 a b c d e) = _ from (joinAt_eq ..).trans (fi_line_q1_eq N F a b c d e))
  have hK : fi_line_i0 N F (fi_line_s0 a b c d f) = (fi_line_q0B N (fi_line_r0 F) a b c (fun e => fi_line_j1 N F (fi_line_s1 a b c d e)) d f) := by kernel_rfl
  exact hK.trans (by rw [e1]; rfl)
theorem fi_line_eq (N : Nat) (c : LA) (b : Bool) (a : Int) (j : LA) (F : AV → Heap → Option R) : execF Try.prog muts (fi_line_T N) fi_line_hs N 46 [(.optr 100000 0), (.pagg c b), (.int .i64 a)] [(100000, ⟨false, false, true, false, 0, j⟩)] F = (fi_line N c b a j (fi_line_r0 F)) := by
  have e1 := funext fun d => funext fun f => (show fi_line_j0 N F (fi_line_s0 a b c d f) = _ from (joinAt_eq ..).trans (fi_line_q0_eq N F a b c d f))
  have hK : execF Try.prog muts (fi_line_T N) fi_line_hs N 46 [(.optr 100000 0), (.pagg c b), (.int .i64 a)] [(100000, ⟨false, false, true, false, 0, j⟩)] F = (fi_lineB N (fi_line_r0 F) (fun d f => fi_line_j0 N F (fi_line_s0 a b c d f)) c b a j) := by kernel_rfl
  rw [fi_line_def]
  exact hK.trans (by rw [e1]; rfl)
noncomputable def fi_line_run (N : Nat) (args : List AV) (h : Heap) (k : AV → Heap → Option R) : Option R :=
  match args, h with
  | [(.optr 100000 0), (.pagg c b), (.int .i64 a)], [(100000, ⟨false, false, true, false, 0, j⟩)] => (fi_line N c b a j (fi_line_r0 k))
  | _, _ => none
noncomputable def fi_line_Tw (N : Nat) : Tw where
  runK := fi_line_run N
  eq := by
    intro R args h k
    unfold fi_line_run
    split
    · exact (fi_line_eq ..).symm.trans ((execF_bind ..).trans (congrArg (Option.bind · _) (fi_line_eq ..)))
    · rfl
theorem fi_line_ok (N : Nat) : TwOk Try.prog 46 (fi_line_Tw N) := by
  intro args h res l aw
  have hh : fi_line_run N args h (fun v l => some (v, l)) = some (res, l) := aw
  unfold fi_line_run at hh
  split at hh
  · exact execF_sound (T := fi_line_T N) ⟨fi_name_ok N, fi_bus_ok N, fi_need_ok N, r18_fraction_ok N, r18_between_ok N, fi_away_ok N, trivial⟩ follows ((fi_line_eq ..).trans hh)
  · cases hh
noncomputable def fi_segments_q2B (N : Nat)  (r0 : LA → Option R) (b : Int) (d : LA) (c : Bool) (a : LA) (k2 : Int → Int → Option R)  (j : Int) (g : Int) : Option R :=
  (rdL 2 (List.drop 4 a) fun bc r => (cond ((decide (g < ((r : Nat) : Int))) == true) (rdI .i64 (List.drop 3 d) fun t => (cond (cond true (t == (0 : Int)) false) (rdL 2 (List.drop 4 a) fun u w => (cond (inIdx g w) (rdI .i64 (List.drop ((Int.toNat g) * 2) u) fun x => (k2 (IntKind.wrap .i64 (j + x)) (IntKind.wrap .i64 (g + (1 : Int))))) none)) (rdI .i64 (List.drop 3 d) fun y => (cond ((y != (0 : Int)) == false) (rdI .i64 (List.drop 3 a) fun z => (rdI .i64 (List.drop 2 a) fun aa => (fi_need N (cond false true (j == (IntKind.wrap .i64 (z - aa)))) 3 b 4 4 d (fun ab => (r0 ab))))) (fi_need N true 3 b 4 4 d (fun ac => (r0 ac))))))) (rdI .i64 (List.drop 3 d) fun ad => (cond ((ad != (0 : Int)) == false) (rdI .i64 (List.drop 3 a) fun ae => (rdI .i64 (List.drop 2 a) fun af => (fi_need N (cond false true (j == (IntKind.wrap .i64 (ae - af)))) 3 b 4 4 d (fun ag => (r0 ag))))) (fi_need N true 3 b 4 4 d (fun ah => (r0 ah)))))))
noncomputable def fi_segments_q2 (N : Nat)  (r0 : LA → Option R) (b : Int) (d : LA) (c : Bool) (a : LA) : Nat → Int → Int → Option R
  | 0, _, _ => none
  | n + 1, j, g => (fi_segments_q2B N r0 b d c a (fi_segments_q2 N r0 b d c a n) j g)
noncomputable def fi_segments_q1B (N : Nat)  (r0 : LA → Option R) (b : Int) (c : Bool) (a : LA) (k1 : Int → LA → Option R) (q2 : Int → Int → Option R) (f : Int) (d : LA) : Option R :=
  (rdL 2 (List.drop 4 a) fun bd ai => (cond (decide (f < ((ai : Nat) : Int))) (rdL 2 (List.drop 4 a) fun aj ak => (cond (inIdx f ak) (rdI .i64 (List.drop 1 (List.drop ((Int.toNat f) * 2) aj)) fun al => (rdL 2 (List.drop 4 a) fun am an => (cond (inIdx (IntKind.wrap .i64 (f - (1 : Int))) an) (rdI .i64 (List.drop 1 (List.drop ((Int.toNat (IntKind.wrap .i64 (f - (1 : Int)))) * 2) am)) fun ao => (fi_need N (decide (al ≥ ao)) 3 b 4 11 d (fun ap => (k1 (IntKind.wrap .i64 (f + (1 : Int))) ap)))) none))) none)) (q2 0 0)))
noncomputable def fi_segments_q1 (N : Nat)  (r0 : LA → Option R) (b : Int) (c : Bool) (a : LA) : Nat → Int → LA → Option R
  | 0, _, _ => none
  | n + 1, f, d => (fi_segments_q1B N r0 b c a (fi_segments_q1 N r0 b c a n) (fun j g => (fi_segments_q2 N r0 b d c a N j g)) f d)
noncomputable def fi_segments_q0B (N : Nat)  (r0 : LA → Option R) (b : Int) (i : LA) (o : Nat) (c : Bool) (a : LA) (k0 : Int → Int → LA → Option R) (q1 : Int → LA → Option R) (l : Int) (e : Int) (m : LA) : Option R :=
  (cond (decide (e < l)) (cond (inIdx e o) (cond (Nat.ble 2 (List.length (List.drop ((Int.toNat e) * 2) i))) (cond ((!c) || (plainZ (List.take 2 (List.drop ((Int.toNat e) * 2) i)))) (cond ((Nat.beq (List.length (List.take 2 (List.drop ((Int.toNat e) * 2) i))) 2) && ((Nat.ble 2 2) && (!false))) (rdI .i64 (setCells [(.int .i64 0), (.int .i64 0)] 0 (List.take 2 (List.drop ((Int.toNat e) * 2) i))) fun aq => (r18_between N 1 1048576 [(.int .i64 aq)] 1 false true (fun ar => (cond (ar == true) (rdI .i64 (List.drop 1 (setCells [(.int .i64 0), (.int .i64 0)] 0 (List.take 2 (List.drop ((Int.toNat e) * 2) i)))) fun au => (r18_between N (-1048576) 1048576 [(.int .i64 au)] 1 false true (fun av => (fi_need N (cond true av false) 3 b 4 3 m (fun aw => (k0 l (IntKind.wrap .i64 (e + (1 : Int))) aw)))))) (fi_need N false 3 b 4 3 m (fun ax => (k0 l (IntKind.wrap .i64 (e + (1 : Int))) ax))))))) none) none) none) none) (q1 1 m))
noncomputable def fi_segments_q0 (N : Nat)  (r0 : LA → Option R) (b : Int) (i : LA) (o : Nat) (c : Bool) (a : LA) : Nat → Int → Int → LA → Option R
  | 0, _, _, _ => none
  | n + 1, l, e, m => (fi_segments_q0B N r0 b i o c a (fi_segments_q0 N r0 b i o c a n) (fun f d => (fi_segments_q1 N r0 b c a N f d)) l e m)
noncomputable def fi_segmentsB (N : Nat) (r0 : LA → Option R) (q0 : LA → Nat → Int → Int → LA → Option R) (a : LA) (c : Bool) (b : Int) (p : LA) : Option R :=
  (rdL 2 (List.drop 4 a) fun be ay => (fi_need N (decide (((ay : Nat) : Int) ≤ (8 : Int))) 3 b 4 8 p (fun az => (rdL 2 (List.drop 4 a) fun i o => (q0 i o ((o : Nat) : Int) 0 az)))))
noncomputable def fi_segmentsi (N : Nat) (a : LA) (c : Bool) (b : Int) (p : LA) (r0 : LA → Option R) : Option R := (fi_segmentsB N r0 (fun i o l e m => (fi_segments_q0 N r0 b i o c a N l e m)) a c b p)
noncomputable def fi_segments := (shut (@fi_segmentsi R)).1
theorem fi_segments_def : @fi_segments R = @fi_segmentsi R := (shut _).2
noncomputable def fi_segments_hs : Hints := { H := (hS (hR [0,2,4]) (hS (hR [0,2,4,6]) (hS (hR [0,2,4,6]) (hS (hS (hR [0,2,4,6,21,22,23]) (hN [0,2,4,6] (hN [0,2,4,6,21,22,23] (hS (hR [0,2,4,6,21,22,23,24]) (hS (hN [0,2,4,6,21,22,23] hL hL) (hS (hN [0,2,4,6,21,22,23] (hS (hR [0,2,4,6,8,21,22,23]) (hR [0,2,4,6,21,22,23])) hL) (hR [0,2,4,6,21,22,23])))) hL) hL)) (hS (hS (hR [0,2,4,6,9]) (hN [0,2,4,6] (hN [0,2,4,6,9] (hS (hS (hR [0,2,4,6,9,46]) (hN [0,2,4,6,9] hL hL)) (hS (hN [0,2,4,6,9] (hR [0,2,4,6,9]) hL) (hR [0,2,4,6,9]))) hL) hL)) (hS (hR [0,2,4,6,10]) (hS (hS (hR [0,2,4,6,10,11]) (hN [0,2,4,6,10] (hN [0,2,4,6,10,11] (hS (hS (hR [0,2,4,6,10,11,78]) (hN [0,2,4,6,10,11] hL hL)) (hS (hN [0,2,4,6,10,11] (hR [0,2,4,6,10,11]) hL) (hR [0,2,4,6,10,11]))) hL) hL)) hL))))))), nils := [], modes := [], free := [], cob := [] }
noncomputable def fi_segments_T (N : Nat) : List (Nat × Tw) := [(44, fi_need_Tw N), (45, r18_between_Tw N)]
noncomputable def fi_segments_E (N : Nat) : Env := mkE 107 fi_segments_hs (fi_segments_T N)
noncomputable def fi_segments_fin (N : Nat) (F : AV → Heap → Option R) := afinish (fi_segments_E N) Try.f76 fi_segments_hs.modes [100000] F
noncomputable def fi_segments_at (N : Nat) (F : AV → Heap → Option R) := atF (fi_segments_E N) [100000] N Try.f76 fi_segments_hs (fi_segments_fin N F)
noncomputable def fi_segments_r0  (F : AV → Heap → Option R) : LA → Option R := (fun ba => F (.tup []) [(100000, ⟨false, false, true, false, 0, ba⟩)])
noncomputable def fi_segments_s2 (b : Int) (d : LA) (c : Bool) (a : LA) (j : Int) (g : Int) : St := { s := [(0, (.optr 100000 0)), (2, (.int .i64 b)), (4, (.optr 300000 0)), (6, (.int .i64 3)), (10, (.int .i64 j)), (11, (.int .i64 g))], h := [(100000, ⟨false, false, true, false, 0, d⟩), (300000, ⟨false, false, true, c, 0, a⟩)] }
noncomputable def fi_segments_w2 (N : Nat) (F : AV → Heap → Option R) : St → Option R := loopW (fi_segments_E N) [100000] N (fi_segments_at N F [1, 1, 1, 1, 1, 1, 0, 1, 0] []) N
noncomputable def fi_segments_l2 (N : Nat) (F : AV → Heap → Option R) (n : Nat) : St → Option R := loopAt (fi_segments_E N) [100000] N (fi_segments_at N F [1, 1, 1, 1, 1, 1, 0, 1, 0] []) n
noncomputable def fi_segments_s1 (b : Int) (c : Bool) (a : LA) (f : Int) (d : LA) : St := { s := [(0, (.optr 100000 0)), (2, (.int .i64 b)), (4, (.optr 300000 0)), (6, (.int .i64 3)), (9, (.int .i64 f))], h := [(100000, ⟨false, false, true, false, 0, d⟩), (300000, ⟨false, false, true, c, 0, a⟩)] }
noncomputable def fi_segments_w1 (N : Nat) (F : AV → Heap → Option R) : St → Option R := loopW (fi_segments_E N) [100000] N (fi_segments_at N F [1, 1, 1, 1, 0, 1, 0] []) N
noncomputable def fi_segments_l1 (N : Nat) (F : AV → Heap → Option R) (n : Nat) : St → Option R := loopAt (fi_segments_E N) [100000] N (fi_segments_at N F [1, 1, 1, 1, 0, 1, 0] []) n
noncomputable def fi_segments_s0 (b : Int) (i : LA) (o : Nat) (c : Bool) (a : LA) (l : Int) (e : Int) (m : LA) : St := { s := [(0, (.optr 100000 0)), (2, (.int .i64 b)), (4, (.optr 300000 0)), (6, (.int .i64 3)), (21, (.imm i o 2 false c)), (22, (.int .i64 l)), (23, (.int .i64 e))], h := [(100000, ⟨false, false, true, false, 0, m⟩), (300000, ⟨false, false, true, c, 0, a⟩)] }
noncomputable def fi_segments_w0 (N : Nat) (F : AV → Heap → Option R) : St → Option R := loopW (fi_segments_E N) [100000] N (fi_segments_at N F [1, 1, 1, 0, 1, 0] []) N
noncomputable def fi_segments_l0 (N : Nat) (F : AV → Heap → Option R) (n : Nat) : St → Option R := loopAt (fi_segments_E N) [100000] N (fi_segments_at N F [1, 1, 1, 0, 1, 0] []) n
theorem fi_segments_q2_eq (N : Nat)  (F : AV → Heap → Option R) (b : Int) (d : LA) (c : Bool) (a : LA) : ∀ (n : Nat) (j : Int) (g : Int), fi_segments_l2 N F n (fi_segments_s2 b d c a j g) = (fi_segments_q2 N (fi_segments_r0 F) b d c a n j g) := by
  intro n
  induction n with
  | zero => intros; kernel_rfl
  | succ n ih =>
    intro j g
    have e0 := funext fun j => funext fun g => (show fi_segments_l2 N F n (fi_segments_s2 b d c a j g) = _ from ih j g)
    have hK : fi_segments_l2 N F (n + 1) (fi_segments_s2 b d c a j g) = (fi_segments_q2B N (fi_segments_r0 F) b d c a (fun j g => fi_segments_l2 N F n (fi_segments_s2 b d c a j g)) j g) := by kernel_rfl
    exact hK.trans (by rw [e0]; rfl)
theorem fi_segments_q1_eq (N : Nat)  (F : AV → Heap → Option R) (b : Int) (c : Bool) (a : LA) : ∀ (n : Nat) (f : Int) (d : LA), fi_segments_l1 N F n (fi_segments_s1 b c a f d) = (fi_segments_q1 N (fi_segments_r0 F) b c a n f d) := by
  intro n
  induction n with
  | zero => intros; kernel_rfl
  | succ n ih =>
    intro f d
    have e0 := funext fun f => funext fun d => (show fi_segments_l1 N F n (fi_segments_s1 b c a f d) = _ from ih f d)
    have e1 := funext fun j => funext fun g => (show fi_segments_w2 N F (fi_segments_s2 b d c a j g) = _ from (loopW_eq ..).trans (fi_segments_q2_eq N F b d c a N j g))
    have hK : fi_segments_l1 N F (n + 1) (fi_segments_s1 b c a f d) = (fi_segments_q1B N (fi_segments_r0 F) b c a (fun f d => fi_segments_l1 N F n (fi_segments_s1 b c a f d)) (fun j g => fi_segments_w2 N F (fi_segments_s2 b d c a j g)) f d) := by kernel_rfl
    exact hK.trans (by rw [e0, e1]; rfl)
theorem fi_segments_q0_eq (N : Nat)  (F : AV → Heap → Option R) (b : Int) (i : LA) (o : Nat) (c : Bool) (a : LA) : ∀ (n : Nat) (l : Int) (e : Int) (m : LA), fi_segments_l0 N F n (fi_segments_s0 b i o c a l e m) = (fi_segments_q0 N (fi_segments_r0 F) b i o c a n l e m) := by
  intro n
  induction n with
  | zero => intros; kernel_rfl
  | succ n ih =>
    intro l e m
    have e0 := funext fun l => funext fun e => funext fun m => (show fi_segments_l0 N F n (fi_segments_s0 b i o c a l e m) = _ from ih l e m)
    have e1 := funext fun f => funext fun d => (show fi_segments_w1 N F (fi_segments_s1 b c a f d) = _ from (loopW_eq ..).trans (fi_segments_q1_eq N F b c a N f d))
    have hK : fi_segments_l0 N F (n + 1) (fi_segments_s0 b i o c a l e m) = (fi_segments_q0B N (fi_segments_r0 F) b i o c a (fun l e m => fi_segments_l0 N F n (fi_segments_s0 b i o c a l e m)) (fun f d => fi_segments_w1 N F (fi_segments_s1 b c a f d)) l e m) := by kernel_rfl
    exact hK.trans (by rw [e0, e1]; rfl)
theorem fi_segments_eq (N : Nat) (a : LA) (c : Bool) (b : Int) (p : LA) (F : AV → Heap → Option R) : execF Try.prog muts (fi_segments_T N) fi_segments_hs N 76 [(.optr 100000 0), (.pagg a c), (.int .i64 b)] [(100000, ⟨false, false, true, false, 0, p⟩)] F = (fi_segments N a c b p (fi_segments_r0 F)) := by
  have e1 := funext fun i => funext fun o => funext fun l => funext fun e => funext fun m => (show fi_segments_w0 N F (fi_segments_s0 b i o c a l e m) = _ from (loopW_eq ..).trans (fi_segments_q0_eq N F b i o c a N l e m))
  have hK : execF Try.prog muts (fi_segments_T N) fi_segments_hs N 76 [(.optr 100000 0), (.pagg a c), (.int .i64 b)] [(100000, ⟨false, false, true, false, 0, p⟩)] F = (fi_segmentsB N (fi_segments_r0 F) (fun i o l e m => fi_segments_w0 N F (fi_segments_s0 b i o c a l e m)) a c b p) := by kernel_rfl
  rw [fi_segments_def]
  exact hK.trans (by rw [e1]; rfl)
noncomputable def fi_segments_run (N : Nat) (args : List AV) (h : Heap) (k : AV → Heap → Option R) : Option R :=
  match args, h with
  | [(.optr 100000 0), (.pagg a c), (.int .i64 b)], [(100000, ⟨false, false, true, false, 0, p⟩)] => (fi_segments N a c b p (fi_segments_r0 k))
  | _, _ => none
noncomputable def fi_segments_Tw (N : Nat) : Tw where
  runK := fi_segments_run N
  eq := by
    intro R args h k
    unfold fi_segments_run
    split
    · exact (fi_segments_eq ..).symm.trans ((execF_bind ..).trans (congrArg (Option.bind · _) (fi_segments_eq ..)))
    · rfl
theorem fi_segments_ok (N : Nat) : TwOk Try.prog 76 (fi_segments_Tw N) := by
  intro args h res q bb
  have hh : fi_segments_run N args h (fun v q => some (v, q)) = some (res, q) := bb
  unfold fi_segments_run at hh
  split at hh
  · exact execF_sound (T := fi_segments_T N) ⟨fi_need_ok N, r18_between_ok N, trivial⟩ follows ((fi_segments_eq ..).trans hh)
  · cases hh
noncomputable def fi_unit_q1B (N : Nat)  (r0 : LA → Option R) (a : Int) (b : Bool) (c : LA)   (e : LA) : Option R :=
  (rdI .i64 (List.drop 19 c) fun n => (cond (n == (2 : Int)) (rdI .i64 (List.drop 2 c) fun o => (rdI .i64 (List.drop 3 c) fun p => (rdI .i64 (List.drop 21 c) fun q => (r18_between N o p [(.int .i64 q)] 1 false true (fun r => (fi_need N r 3 a 21 3 e (fun t => (r0 t)))))))) (rdI .i64 (List.drop 21 c) fun u => (fi_need N (u == (0 : Int)) 3 a 21 3 e (fun w => (r0 w))))))
noncomputable def fi_unit_q1 (N : Nat)  (r0 : LA → Option R) (a : Int) (b : Bool) (c : LA) (e : LA) : Option R := (fi_unit_q1B N r0 a b c e)
noncomputable def fi_unit_q0B (N : Nat)  (r0 : LA → Option R) (a : Int) (b : Bool)  (q1 : LA → Option R) (c : LA) (f : LA) : Option R :=
  (rdI .i64 (List.drop 20 c) fun x => (r18_between N 1 48 [(.int .i64 x)] 1 false true (fun y => (fi_need N y 3 a 20 3 f (fun l => (rdI .i64 (List.drop 19 c) fun z => (cond ((z != (1 : Int)) == false) (rdI .i64 (List.drop 20 c) fun aa => (rdI .i64 (List.drop 12 c) fun ab => (fi_need N (cond false true (decide (aa ≤ ab))) 3 a 20 3 l (fun ac => (q1 ac))))) (fi_need N true 3 a 20 3 l (fun ad => (q1 ad))))))))))
noncomputable def fi_unit_q0 (N : Nat)  (r0 : LA → Option R) (a : Int) (b : Bool) (c : LA) (f : LA) : Option R := (fi_unit_q0B N r0 a b (fun e => (fi_unit_q1 N r0 a b c e)) c f)
noncomputable def fi_unitB (N : Nat) (r0 : LA → Option R) (q0 : LA → LA → Option R) (g : LA) (b : Bool) (a : Int) (i : LA) : Option R :=
  (rdL 22 (List.drop 4 g) fun d ae => (cond (inIdx a ae) (cond (Nat.ble 22 (List.length (List.drop ((Int.toNat a) * 22) d))) (cond ((Nat.beq 0 0) && ((Nat.beq (List.length (List.take 22 (List.drop ((Int.toNat a) * 22) d))) 22) && (Nat.beq 22 22))) (cond (Nat.ble 8 (List.length g)) (fi_name N (List.take 8 g) b 3 a i (fun af => (cond (Nat.ble 8 (List.length g)) (rdI .i64 (List.drop 1 (List.take 22 (List.drop ((Int.toNat a) * 22) d))) fun ag => (fi_bus N (List.take 8 g) b ag 3 a 1 af (fun ah => (rdI .i64 (List.drop 2 (List.take 22 (List.drop ((Int.toNat a) * 22) d))) fun ai => (r18_between N 0 1048576 [(.int .i64 ai)] 1 false true (fun aj => (fi_need N aj 3 a 2 3 ah (fun ak => (rdI .i64 (List.drop 2 (List.take 22 (List.drop ((Int.toNat a) * 22) d))) fun al => (rdI .i64 (List.drop 3 (List.take 22 (List.drop ((Int.toNat a) * 22) d))) fun am => (r18_between N al 1048576 [(.int .i64 am)] 1 false true (fun an => (fi_need N an 3 a 3 3 ak (fun ao => (cond (Nat.ble 22 (List.length (List.take 22 (List.drop ((Int.toNat a) * 22) d)))) (fi_segments N (List.take 22 (List.take 22 (List.drop ((Int.toNat a) * 22) d))) b a ao (fun ap => (rdI .i64 (List.drop 5 (List.take 22 (List.drop ((Int.toNat a) * 22) d))) fun aq => (r18_between N 0 1048576 [(.int .i64 aq)] 1 false true (fun ar => (fi_need N ar 3 a 5 3 ap (fun au => (rdI .i64 (List.drop 6 (List.take 22 (List.drop ((Int.toNat a) * 22) d))) fun av => (r18_between N 0 1048576 [(.int .i64 av)] 1 false true (fun aw => (fi_need N aw 3 a 6 3 au (fun ax => (rdI .i64 (List.drop 7 (List.take 22 (List.drop ((Int.toNat a) * 22) d))) fun ay => (r18_between N 0 1048576 [(.int .i64 ay)] 1 false true (fun az => (fi_need N az 3 a 7 3 ax (fun ba => (rdI .i64 (List.drop 2 (List.take 22 (List.drop ((Int.toNat a) * 22) d))) fun bb => (rdI .i64 (List.drop 3 (List.take 22 (List.drop ((Int.toNat a) * 22) d))) fun bc => (rdI .i64 (List.drop 8 (List.take 22 (List.drop ((Int.toNat a) * 22) d))) fun bd => (r18_between N bb bc [(.int .i64 bd)] 1 false true (fun be => (fi_need N be 3 a 8 3 ba (fun bf => (rdI .i64 (List.drop 2 (List.take 22 (List.drop ((Int.toNat a) * 22) d))) fun bg => (rdI .i64 (List.drop 3 (List.take 22 (List.drop ((Int.toNat a) * 22) d))) fun bh => (rdI .i64 (List.drop 9 (List.take 22 (List.drop ((Int.toNat a) * 22) d))) fun bi => (r18_between N bg bh [(.int .i64 bi)] 1 false true (fun bj => (fi_need N bj 3 a 9 3 bf (fun bk => (rdI .i64 (List.drop 10 (List.take 22 (List.drop ((Int.toNat a) * 22) d))) fun bl => (r18_between N 0 24 [(.int .i64 bl)] 1 false true (fun bm => (fi_need N bm 3 a 10 3 bk (fun bn => (rdI .i64 (List.drop 11 (List.take 22 (List.drop ((Int.toNat a) * 22) d))) fun bo => (r18_between N 0 24 [(.int .i64 bo)] 1 false true (fun bp => (fi_need N bp 3 a 11 3 bn (fun bq => (rdI .i64 (List.drop 12 (List.take 22 (List.drop ((Int.toNat a) * 22) d))) fun br => (r18_between N 0 24 [(.int .i64 br)] 1 false true (fun bs => (fi_need N bs 3 a 12 3 bq (fun bt => (rdI .i64 (List.drop 13 (List.take 22 (List.drop ((Int.toNat a) * 22) d))) fun bu => (r18_between N 0 1048576 [(.int .i64 bu)] 1 false true (fun bv => (fi_need N bv 3 a 13 3 bt (fun bw => (rdI .i64 (List.drop 14 (List.take 22 (List.drop ((Int.toNat a) * 22) d))) fun bx => (r18_between N 0 1048576 [(.int .i64 bx)] 1 false true (fun bz => (fi_need N bz 3 a 14 3 bw (fun ca => (rdI .i64 (List.drop 15 (List.take 22 (List.drop ((Int.toNat a) * 22) d))) fun cb => (r18_between N 0 24 [(.int .i64 cb)] 1 false true (fun cc => (fi_need N cc 3 a 15 3 ca (fun cd => (rdI .i64 (List.drop 16 (List.take 22 (List.drop ((Int.toNat a) * 22) d))) fun ce => (r18_between N 0 1048576 [(.int .i64 ce)] 1 false true (fun cf => (fi_need N cf 3 a 16 3 cd (fun cg => (rdI .i64 (List.drop 17 (List.take 22 (List.drop ((Int.toNat a) * 22) d))) fun ch => (r18_between N 0 1048576 [(.int .i64 ch)] 1 false true (fun ci => (fi_need N ci 3 a 17 3 cg (fun cj => (cond (Nat.ble 8 (List.length g)) (rdL 1 (List.drop 18 (List.take 22 (List.drop ((Int.toNat a) * 22) d))) fun ck cl => (fi_away N (List.take 8 g) b ck cl false b 3 a 18 cj (fun cm => (rdI .i64 (List.drop 19 (List.take 22 (List.drop ((Int.toNat a) * 22) d))) fun cn => (r18_between N 0 2 [(.int .i64 cn)] 1 false true (fun co => (fi_need N co 3 a 19 12 cm (fun m => (rdI .i64 (List.drop 19 (List.take 22 (List.drop ((Int.toNat a) * 22) d))) fun cp => (cond ((cp != (1 : Int)) == false) (rdI .i64 (List.drop 12 (List.take 22 (List.drop ((Int.toNat a) * 22) d))) fun cq => (fi_need N (cond false true (decide (cq > (0 : Int)))) 3 a 19 16 m (fun cr => (q0 (List.take 22 (List.drop ((Int.toNat a) * 22) d)) cr)))) (fi_need N true 3 a 19 16 m (fun cs => (q0 (List.take 22 (List.drop ((Int.toNat a) * 22) d)) cs))))))))))))) none)))))))))))))))))))))))))))))))))))))))))))))))))))))))))))))))))))))))) none))))))))))))))) none))) none) none) none) none))
noncomputable def fi_uniti (N : Nat) (g : LA) (b : Bool) (a : Int) (i : LA) (r0 : LA → Option R) : Option R := (fi_unitB N r0 (fun c f => (fi_unit_q0 N r0 a b c f)) g b a i)
noncomputable def fi_unit := (shut (@fi_uniti R)).1
theorem fi_unit_def : @fi_unit R = @fi_uniti R := (shut _).2
noncomputable def fi_unit_hs : Hints := { H := (hS (hR [0,2,4]) (hS (hR [0,2,4,6,7]) (hS (hR [0,2,4,6,7]) (hS (hR [0,2,4,6,7]) (hS (hR [0,2,4,6,7]) (hS (hR [0,2,4,6,7]) (hS (hR [0,2,4,6,7]) (hS (hR [0,2,4,6,7]) (hS (hR [0,2,4,6,7]) (hS (hR [0,2,4,6,7]) (hS (hR [0,2,4,6,7]) (hS (hR [0,2,4,6,7]) (hS (hR [0,2,4,6,7]) (hS (hR [0,2,4,6,7]) (hS (hR [0,2,4,6,7]) (hS (hR [0,2,4,6,7]) (hS (hR [0,2,4,6,7]) (hS (hR [0,2,4,6,7]) (hS (hR [0,2,4,6,7]) (hS (hR [0,2,4,6,7]) (hS (hR [0,2,6,7]) (hS (hR [0,2,6,7]) (hJ (hR [0,2,6,7]) (hS (hR [0,2,6,7]) (hJ (hR [0,2,6,7]) (hS (hR [0,2,6,7,210]) (hS hL hL))))))))))))))))))))))))))), nils := [], modes := [], free := [], cob := [] }
noncomputable def fi_unit_T (N : Nat) : List (Nat × Tw) := [(42, fi_name_Tw N), (73, fi_bus_Tw N), (45, r18_between_Tw N), (44, fi_need_Tw N), (76, fi_segments_Tw N), (75, fi_away_Tw N)]
noncomputable def fi_unit_E (N : Nat) : Env := mkE 230 fi_unit_hs (fi_unit_T N)
noncomputable def fi_unit_fin (N : Nat) (F : AV → Heap → Option R) := afinish (fi_unit_E N) Try.f47 fi_unit_hs.modes [100000] F
noncomputable def fi_unit_at (N : Nat) (F : AV → Heap → Option R) := atF (fi_unit_E N) [100000] N Try.f47 fi_unit_hs (fi_unit_fin N F)
noncomputable def fi_unit_r0  (F : AV → Heap → Option R) : LA → Option R := (fun ct => F (.tup []) [(100000, ⟨false, false, true, false, 0, ct⟩)])
noncomputable def fi_unit_s1 (a : Int) (b : Bool) (c : LA) (e : LA) : St := { s := [(0, (.optr 100000 0)), (2, (.int .i64 a)), (6, (.optr 96 0)), (7, (.int .i64 3))], h := [(96, ⟨false, false, true, b, 0, c⟩), (100000, ⟨false, false, true, false, 0, e⟩)] }
noncomputable def fi_unit_j1 (N : Nat) (F : AV → Heap → Option R) : St → Option R := joinAt (fi_unit_E N) [100000] N (fi_unit_at N F [1, 1, 1, 1, 1, 1, 1, 1, 1, 1, 1, 1, 1, 1, 1, 1, 1, 1, 1, 1, 1, 1, 1, 1, 1] [])
noncomputable def fi_unit_i1 (N : Nat) (F : AV → Heap → Option R) : St → Option R := joinIn (fi_unit_E N) [100000] N (fi_unit_at N F [1, 1, 1, 1, 1, 1, 1, 1, 1, 1, 1, 1, 1, 1, 1, 1, 1, 1, 1, 1, 1, 1, 1, 1, 1] [])
noncomputable def fi_unit_s0 (a : Int) (b : Bool) (c : LA) (f : LA) : St := { s := [(0, (.optr 100000 0)), (2, (.int .i64 a)), (6, (.optr 96 0)), (7, (.int .i64 3))], h := [(96, ⟨false, false, true, b, 0, c⟩), (100000, ⟨false, false, true, false, 0, f⟩)] }
noncomputable def fi_unit_j0 (N : Nat) (F : AV → Heap → Option R) : St → Option R := joinAt (fi_unit_E N) [100000] N (fi_unit_at N F [1, 1, 1, 1, 1, 1, 1, 1, 1, 1, 1, 1, 1, 1, 1, 1, 1, 1, 1, 1, 1, 1, 1] [])
noncomputable def fi_unit_i0 (N : Nat) (F : AV → Heap → Option R) : St → Option R := joinIn (fi_unit_E N) [100000] N (fi_unit_at N F [1, 1, 1, 1, 1, 1, 1, 1, 1, 1, 1, 1, 1, 1, 1, 1, 1, 1, 1, 1, 1, 1, 1] [])
theorem fi_unit_q1_eq (N : Nat)  (F : AV → Heap → Option R) (a : Int) (b : Bool) (c : LA) : ∀ (e : LA), fi_unit_i1 N F (fi_unit_s1 a b c e) = (fi_unit_q1 N (fi_unit_r0 F) a b c e) := by
  intro e
  have hK : fi_unit_i1 N F (fi_unit_s1 a b c e) = (fi_unit_q1B N (fi_unit_r0 F) a b c e) := by kernel_rfl
  exact hK
theorem fi_unit_q0_eq (N : Nat)  (F : AV → Heap → Option R) (a : Int) (b : Bool) : ∀ (c : LA) (f : LA), fi_unit_i0 N F (fi_unit_s0 a b c f) = (fi_unit_q0 N (fi_unit_r0 F) a b c f) := by
  intro c f
  have e1 := funext fun e => (show fi_unit_j1 N F (fi_unit_s1 a b c e) = _ from (joinAt_eq ..).trans (fi_unit_q1_eq N F a b c e))
  have hK : fi_unit_i0 N F (fi_unit_s0 a b c f) = (fi_unit_q0B N (fi_unit_r0 F) a b (fun e => fi_unit_j1 N F (fi_unit_s1 a b c e)) c f) := by kernel_rfl
  exact hK.trans (by rw [e1]; rfl)
theorem fi_unit_eq (N : Nat) (g : LA) (b : Bool) (a : Int) (i : LA) (F : AV → Heap → Option R) : execF Try.prog muts (fi_unit_T N) fi_unit_hs N 47 [(.optr 100000 0), (.pagg g b), (.int .i64 a)] [(100000, ⟨false, false, true, false, 0, i⟩)] F = (fi_unit N g b a i (fi_unit_r0 F)) := by
  have e1 := funext fun c => funext fun f => (show fi_unit_j0 N F (fi_unit_s0 a b c f) = _ from (joinAt_eq ..).trans (fi_unit_q0_eq N F a b c f))
  have hK : execF Try.prog muts (fi_unit_T N) fi_unit_hs N 47 [(.optr 100000 0), (.pagg g b), (.int .i64 a)] [(100000, ⟨false, false, true, false, 0, i⟩)] F = (fi_unitB N (fi_unit_r0 F) (fun c f => fi_unit_j0 N F (fi_unit_s0 a b c f)) g b a i) := by kernel_rfl
  rw [fi_unit_def]
  exact hK.trans (by rw [e1]; rfl)
noncomputable def fi_unit_run (N : Nat) (args : List AV) (h : Heap) (k : AV → Heap → Option R) : Option R :=
  match args, h with
  | [(.optr 100000 0), (.pagg g b), (.int .i64 a)], [(100000, ⟨false, false, true, false, 0, i⟩)] => (fi_unit N g b a i (fi_unit_r0 k))
  | _, _ => none
noncomputable def fi_unit_Tw (N : Nat) : Tw where
  runK := fi_unit_run N
  eq := by
    intro R args h k
    unfold fi_unit_run
    split
    · exact (fi_unit_eq ..).symm.trans ((execF_bind ..).trans (congrArg (Option.bind · _) (fi_unit_eq ..)))
    · rfl
theorem fi_unit_ok (N : Nat) : TwOk Try.prog 47 (fi_unit_Tw N) := by
  intro args h res j cu
  have hh : fi_unit_run N args h (fun v j => some (v, j)) = some (res, j) := cu
  unfold fi_unit_run at hh
  split at hh
  · exact execF_sound (T := fi_unit_T N) ⟨fi_name_ok N, fi_bus_ok N, r18_between_ok N, fi_need_ok N, fi_segments_ok N, fi_away_ok N, trivial⟩ follows ((fi_unit_eq ..).trans hh)
  · cases hh
noncomputable def fi_storeB (N : Nat) (r0 : LA → Option R)  (c : LA) (d : Bool) (a : Int) (e : LA) : Option R :=
  (rdL 9 (List.drop 5 c) fun b i => (cond (inIdx a i) (cond (Nat.ble 9 (List.length (List.drop ((Int.toNat a) * 9) b))) (cond ((Nat.beq 0 0) && ((Nat.beq (List.length (List.take 9 (List.drop ((Int.toNat a) * 9) b))) 9) && (Nat.beq 9 9))) (cond (Nat.ble 8 (List.length c)) (fi_name N (List.take 8 c) d 4 a e (fun j => (cond (Nat.ble 8 (List.length c)) (rdI .i64 (List.drop 1 (List.take 9 (List.drop ((Int.toNat a) * 9) b))) fun l => (fi_bus N (List.take 8 c) d l 4 a 1 j (fun m => (rdI .i64 (List.drop 2 (List.take 9 (List.drop ((Int.toNat a) * 9) b))) fun n => (r18_between N 0 1048576 [(.int .i64 n)] 1 false true (fun o => (fi_need N o 4 a 2 3 m (fun p => (rdI .i64 (List.drop 2 (List.take 9 (List.drop ((Int.toNat a) * 9) b))) fun q => (rdI .i64 (List.drop 3 (List.take 9 (List.drop ((Int.toNat a) * 9) b))) fun r => (r18_between N 0 q [(.int .i64 r)] 1 false true (fun s => (fi_need N s 4 a 3 3 p (fun t => (rdI .i64 (List.drop 2 (List.take 9 (List.drop ((Int.toNat a) * 9) b))) fun u => (rdI .i64 (List.drop 4 (List.take 9 (List.drop ((Int.toNat a) * 9) b))) fun w => (r18_between N 0 u [(.int .i64 w)] 1 false true (fun x => (fi_need N x 4 a 4 3 t (fun y => (rdI .i64 (List.drop 5 (List.take 9 (List.drop ((Int.toNat a) * 9) b))) fun z => (r18_between N 0 1048576 [(.int .i64 z)] 1 false true (fun aa => (fi_need N aa 4 a 5 3 y (fun ab => (rdI .i64 (List.drop 6 (List.take 9 (List.drop ((Int.toNat a) * 9) b))) fun ac => (r18_between N 0 1048576 [(.int .i64 ac)] 1 false true (fun ad => (fi_need N ad 4 a 6 3 ab (fun f => (cond (Nat.ble 2 (List.length (List.drop 7 (List.take 9 (List.drop ((Int.toNat a) * 9) b))))) (cond ((!d) || (plainZ (List.take 2 (List.drop 7 (List.take 9 (List.drop ((Int.toNat a) * 9) b)))))) (r18_fraction N (List.take 2 (List.drop 7 (List.take 9 (List.drop ((Int.toNat a) * 9) b)))) false (fun ae => (cond (ae == true) (rdI .i64 (List.drop 7 (List.take 9 (List.drop ((Int.toNat a) * 9) b))) fun af => (cond ((cond true (decide (af > (0 : Int))) false) == true) (rdI .i64 (List.drop 7 (List.take 9 (List.drop ((Int.toNat a) * 9) b))) fun ag => (rdI .i64 (List.drop 8 (List.take 9 (List.drop ((Int.toNat a) * 9) b))) fun ah => (fi_need N (cond true (decide (ag ≤ ah)) false) 4 a 7 3 f (fun ai => (r0 ai))))) (fi_need N false 4 a 7 3 f (fun aj => (r0 aj))))) (fi_need N false 4 a 7 3 f (fun ak => (r0 ak)))))) none) none))))))))))))))))))))))))))))))) none))) none) none) none) none))
noncomputable def fi_storei (N : Nat) (c : LA) (d : Bool) (a : Int) (e : LA) (r0 : LA → Option R) : Option R := (fi_storeB N r0 c d a e)
noncomputable def fi_store := (shut (@fi_storei R)).1
theorem fi_store_def : @fi_store R = @fi_storei R := (shut _).2
noncomputable def fi_store_hs : Hints := { H := (hS (hR [0,2,4]) (hS (hR [0,2,4,6,7]) (hS (hR [0,2,4,6,7]) (hS (hR [0,2,6,7]) (hS (hR [0,2,6,7]) (hS (hR [0,2,6,7]) (hS (hR [0,2,6,7]) (hS (hR [0,2,6,7]) (hS (hR [0,2,6,7]) hL))))))))), nils := [], modes := [], free := [], cob := [] }
noncomputable def fi_store_T (N : Nat) : List (Nat × Tw) := [(42, fi_name_Tw N), (73, fi_bus_Tw N), (45, r18_between_Tw N), (44, fi_need_Tw N), (74, r18_fraction_Tw N)]
noncomputable def fi_store_E (N : Nat) : Env := mkE 91 fi_store_hs (fi_store_T N)
noncomputable def fi_store_fin (N : Nat) (F : AV → Heap → Option R) := afinish (fi_store_E N) Try.f48 fi_store_hs.modes [100000] F
noncomputable def fi_store_at (N : Nat) (F : AV → Heap → Option R) := atF (fi_store_E N) [100000] N Try.f48 fi_store_hs (fi_store_fin N F)
noncomputable def fi_store_r0  (F : AV → Heap → Option R) : LA → Option R := (fun al => F (.tup []) [(100000, ⟨false, false, true, false, 0, al⟩)])
theorem fi_store_eq (N : Nat) (c : LA) (d : Bool) (a : Int) (e : LA) (F : AV → Heap → Option R) : execF Try.prog muts (fi_store_T N) fi_store_hs N 48 [(.optr 100000 0), (.pagg c d), (.int .i64 a)] [(100000, ⟨false, false, true, false, 0, e⟩)] F = (fi_store N c d a e (fi_store_r0 F)) := by
  have hK : execF Try.prog muts (fi_store_T N) fi_store_hs N 48 [(.optr 100000 0), (.pagg c d), (.int .i64 a)] [(100000, ⟨false, false, true, false, 0, e⟩)] F = (fi_storeB N (fi_store_r0 F) c d a e) := by kernel_rfl
  rw [fi_store_def]
  exact hK
noncomputable def fi_store_run (N : Nat) (args : List AV) (h : Heap) (k : AV → Heap → Option R) : Option R :=
  match args, h with
  | [(.optr 100000 0), (.pagg c d), (.int .i64 a)], [(100000, ⟨false, false, true, false, 0, e⟩)] => (fi_store N c d a e (fi_store_r0 k))
  | _, _ => none
noncomputable def fi_store_Tw (N : Nat) : Tw where
  runK := fi_store_run N
  eq := by
    intro R args h k
    unfold fi_store_run
    split
    · exact (fi_store_eq ..).symm.trans ((execF_bind ..).trans (congrArg (Option.bind · _) (fi_store_eq ..)))
    · rfl
theorem fi_store_ok (N : Nat) : TwOk Try.prog 48 (fi_store_Tw N) := by
  intro args h res g am
  have hh : fi_store_run N args h (fun v g => some (v, g)) = some (res, g) := am
  unfold fi_store_run at hh
  split at hh
  · exact execF_sound (T := fi_store_T N) ⟨fi_name_ok N, fi_bus_ok N, r18_between_ok N, fi_need_ok N, r18_fraction_ok N, trivial⟩ follows ((fi_store_eq ..).trans hh)
  · cases hh
noncomputable def fi_tieB (N : Nat) (r0 : LA → Option R)  (b : LA) (c : Bool) (a : Int) (d : LA) : Option R :=
  (rdL 5 (List.drop 6 b) fun e g => (cond (inIdx a g) (cond (Nat.ble 5 (List.length (List.drop ((Int.toNat a) * 5) e))) (cond ((Nat.beq 0 0) && ((Nat.beq (List.length (List.take 5 (List.drop ((Int.toNat a) * 5) e))) 5) && (Nat.beq 5 5))) (cond (Nat.ble 8 (List.length b)) (fi_name N (List.take 8 b) c 5 a d (fun i => (cond (Nat.ble 8 (List.length b)) (rdI .i64 (List.drop 1 (List.take 5 (List.drop ((Int.toNat a) * 5) e))) fun j => (fi_bus N (List.take 8 b) c j 5 a 1 i (fun l => (cond (Nat.ble 8 (List.length b)) (rdL 1 (List.drop 2 (List.take 5 (List.drop ((Int.toNat a) * 5) e))) fun m n => (fi_hourly N (List.take 8 b) c m n false c 0 1048576 5 a 2 l (fun o => (cond (Nat.ble 8 (List.length b)) (rdL 1 (List.drop 3 (List.take 5 (List.drop ((Int.toNat a) * 5) e))) fun p q => (fi_hourly N (List.take 8 b) c p q false c 0 1048576 5 a 3 o (fun r => (cond (Nat.ble 8 (List.length b)) (rdL 1 (List.drop 4 (List.take 5 (List.drop ((Int.toNat a) * 5) e))) fun s t => (fi_hourly N (List.take 8 b) c s t false c (-1048576) 1048576 5 a 4 r (fun u => (r0 u)))) none)))) none)))) none)))) none))) none) none) none) none))
noncomputable def fi_tiei (N : Nat) (b : LA) (c : Bool) (a : Int) (d : LA) (r0 : LA → Option R) : Option R := (fi_tieB N r0 b c a d)
noncomputable def fi_tie := (shut (@fi_tiei R)).1
theorem fi_tie_def : @fi_tie R = @fi_tiei R := (shut _).2
noncomputable def fi_tie_hs : Hints := { H := (hS (hR [0,2,4]) (hS (hR [0,2,4,6,7]) (hS (hR [0,2,4,6,7]) (hS (hR [0,2,4,6,7]) (hS (hR [0,2,4,6,7]) (hS (hR [0,2,4,6,7]) hL)))))), nils := [], modes := [], free := [], cob := [] }
noncomputable def fi_tie_T (N : Nat) : List (Nat × Tw) := [(42, fi_name_Tw N), (73, fi_bus_Tw N), (43, fi_hourly_Tw N)]
noncomputable def fi_tie_E (N : Nat) : Env := mkE 46 fi_tie_hs (fi_tie_T N)
noncomputable def fi_tie_fin (N : Nat) (F : AV → Heap → Option R) := afinish (fi_tie_E N) Try.f49 fi_tie_hs.modes [100000] F
noncomputable def fi_tie_at (N : Nat) (F : AV → Heap → Option R) := atF (fi_tie_E N) [100000] N Try.f49 fi_tie_hs (fi_tie_fin N F)
noncomputable def fi_tie_r0  (F : AV → Heap → Option R) : LA → Option R := (fun w => F (.tup []) [(100000, ⟨false, false, true, false, 0, w⟩)])
theorem fi_tie_eq (N : Nat) (b : LA) (c : Bool) (a : Int) (d : LA) (F : AV → Heap → Option R) : execF Try.prog muts (fi_tie_T N) fi_tie_hs N 49 [(.optr 100000 0), (.pagg b c), (.int .i64 a)] [(100000, ⟨false, false, true, false, 0, d⟩)] F = (fi_tie N b c a d (fi_tie_r0 F)) := by
  have hK : execF Try.prog muts (fi_tie_T N) fi_tie_hs N 49 [(.optr 100000 0), (.pagg b c), (.int .i64 a)] [(100000, ⟨false, false, true, false, 0, d⟩)] F = (fi_tieB N (fi_tie_r0 F) b c a d) := by kernel_rfl
  rw [fi_tie_def]
  exact hK
noncomputable def fi_tie_run (N : Nat) (args : List AV) (h : Heap) (k : AV → Heap → Option R) : Option R :=
  match args, h with
  | [(.optr 100000 0), (.pagg b c), (.int .i64 a)], [(100000, ⟨false, false, true, false, 0, d⟩)] => (fi_tie N b c a d (fi_tie_r0 k))
  | _, _ => none
noncomputable def fi_tie_Tw (N : Nat) : Tw where
  runK := fi_tie_run N
  eq := by
    intro R args h k
    unfold fi_tie_run
    split
    · exact (fi_tie_eq ..).symm.trans ((execF_bind ..).trans (congrArg (Option.bind · _) (fi_tie_eq ..)))
    · rfl
theorem fi_tie_ok (N : Nat) : TwOk Try.prog 49 (fi_tie_Tw N) := by
  intro args h res f x
  have hh : fi_tie_run N args h (fun v f => some (v, f)) = some (res, f) := x
  unfold fi_tie_run at hh
  split at hh
  · exact execF_sound (T := fi_tie_T N) ⟨fi_name_ok N, fi_bus_ok N, fi_hourly_ok N, trivial⟩ follows ((fi_tie_eq ..).trans hh)
  · cases hh
noncomputable def fi_outage_q2B (N : Nat)  (r0 : LA → Option R) (a : Int) (i : LA) (q : Nat) (b : Bool) (k2 : Int → Int → LA → Option R)  (m : Int) (e : Int) (o : LA) : Option R :=
  (cond (decide (e < m)) (cond (inIdx e q) (cond (Nat.ble 3 (List.length (List.drop ((Int.toNat e) * 3) i))) (cond ((!b) || (plainZ (List.take 3 (List.drop ((Int.toNat e) * 3) i)))) (cond ((Nat.beq (List.length (List.take 3 (List.drop ((Int.toNat e) * 3) i))) 3) && ((Nat.ble 3 3) && (!false))) (rdI .i64 (List.drop 1 (setCells [(.int .i64 0), (.int .i64 0), (.int .i64 0)] 0 (List.take 3 (List.drop ((Int.toNat e) * 3) i)))) fun aa => (rdI .i64 (List.drop 2 (setCells [(.int .i64 0), (.int .i64 0), (.int .i64 0)] 0 (List.take 3 (List.drop ((Int.toNat e) * 3) i)))) fun ab => (r18_between N 0 1048576 [(.int .i64 aa), (.int .i64 ab)] 2 false true (fun ac => (fi_need N ac 6 a 3 3 o (fun ad => (k2 m (IntKind.wrap .i64 (e + (1 : Int))) ad))))))) none) none) none) none) (r0 o))
noncomputable def fi_outage_q2 (N : Nat)  (r0 : LA → Option R) (a : Int) (i : LA) (q : Nat) (b : Bool) : Nat → Int → Int → LA → Option R
  | 0, _, _, _ => none
  | n + 1, m, e, o => (fi_outage_q2B N r0 a i q b (fi_outage_q2 N r0 a i q b n) m e o)
noncomputable def fi_outage_q1B (N : Nat)  (r0 : LA → Option R) (a : Int) (j : LA) (r : Nat) (b : Bool) (t : LA) (c : LA) (d : LA) (k1 : Nat → Int → Int → LA → Option R) (q2 : LA → Nat → Int → Int → LA → Option R) (f : Nat) (p : Int) (g : Int) (l : LA) : Option R :=
  (cond (decide (g < p)) (cond (inIdx g r) (cond (Nat.ble 3 (List.length (List.drop ((Int.toNat g) * 3) j))) (cond ((!b) || (plainZ (List.take 3 (List.drop ((Int.toNat g) * 3) j)))) (cond ((Nat.beq (List.length (List.take 3 (List.drop ((Int.toNat g) * 3) j))) 3) && ((Nat.ble 3 3) && (!false))) (rdI .i64 (setCells [(.int .i64 0), (.int .i64 0), (.int .i64 0)] 0 (List.take 3 (List.drop ((Int.toNat g) * 3) j))) fun ae => (cond ((Nat.ble (f + 1) 140737488355328) && (Nat.ble ((f + 1) * 8) 140737488355328)) (k1 (f + 1) p (IntKind.wrap .i64 (g + (1 : Int))) ((List.take (f * 1) l) ++ [(.int .i64 ae)])) none)) none) none) none) none) (rdL 22 (List.drop 4 c) fun bg af => (r18_between N 0 (IntKind.wrap .i64 (((af : Nat) : Int) - (1 : Int))) (List.take (f * 1) l) f false true (fun ag => (fi_need N ag 6 a 3 12 t (fun ah => (r18_rising N (List.take (f * 1) l) f false true (fun ai => (fi_need N ai 6 a 3 11 ah (fun aj => (rdL 3 (List.drop 3 d) fun i q => (q2 i q ((q : Nat) : Int) 0 aj))))))))))))
noncomputable def fi_outage_q1 (N : Nat)  (r0 : LA → Option R) (a : Int) (j : LA) (r : Nat) (b : Bool) (t : LA) (c : LA) (d : LA) : Nat → Nat → Int → Int → LA → Option R
  | 0, _, _, _, _ => none
  | n + 1, f, p, g, l => (fi_outage_q1B N r0 a j r b t c d (fi_outage_q1 N r0 a j r b t c d n) (fun i q m e o => (fi_outage_q2 N r0 a i q b N m e o)) f p g l)
noncomputable def fi_outage_q0B (N : Nat)  (r0 : LA → Option R) (a : Int) (b : Bool) (c : LA)  (q1 : LA → Nat → LA → Nat → Int → Int → LA → Option R) (d : LA) (u : LA) : Option R :=
  (rdL 3 (List.drop 3 d) fun bh ak => (fi_need N (decide (((ak : Nat) : Int) ≤ (16 : Int))) 6 a 3 8 u (fun t => (rdL 3 (List.drop 3 d) fun j r => (q1 j r t 0 ((r : Nat) : Int) 0 [])))))
noncomputable def fi_outage_q0 (N : Nat)  (r0 : LA → Option R) (a : Int) (b : Bool) (c : LA) (d : LA) (u : LA) : Option R := (fi_outage_q0B N r0 a b c (fun j r t f p g l => (fi_outage_q1 N r0 a j r b t c d N f p g l)) d u)
noncomputable def fi_outageB (N : Nat) (r0 : LA → Option R) (q0 : LA → LA → Option R) (c : LA) (b : Bool) (a : Int) (w : LA) : Option R :=
  (rdL 4 (List.drop 7 c) fun x al => (cond (inIdx a al) (cond (Nat.ble 4 (List.length (List.drop ((Int.toNat a) * 4) x))) (cond ((Nat.beq 0 0) && ((Nat.beq (List.length (List.take 4 (List.drop ((Int.toNat a) * 4) x))) 4) && (Nat.beq 4 4))) (cond (Nat.ble 8 (List.length c)) (fi_name N (List.take 8 c) b 6 a w (fun am => (rdL 1 (List.drop 1 (List.take 4 (List.drop ((Int.toNat a) * 4) x))) fun bi an => (r18_between N 1 2 [(.int .i64 ((an : Nat) : Int))] 1 false true (fun ao => (fi_need N ao 6 a 1 4 am (fun ap => (rdL 12 (List.drop 3 c) fun bj aq => (rdL 1 (List.drop 1 (List.take 4 (List.drop ((Int.toNat a) * 4) x))) fun ar au => (r18_between N 0 (IntKind.wrap .i64 (((aq : Nat) : Int) - (1 : Int))) ar au false b (fun av => (fi_need N av 6 a 1 12 ap (fun aw => (rdL 1 (List.drop 1 (List.take 4 (List.drop ((Int.toNat a) * 4) x))) fun ax ay => (r18_rising N ax ay false b (fun az => (fi_need N az 6 a 1 11 aw (fun z => (rdB (List.drop 2 (List.take 4 (List.drop ((Int.toNat a) * 4) x))) fun ba => (cond (ba == false) (rdL 3 (List.drop 3 (List.take 4 (List.drop ((Int.toNat a) * 4) x))) fun bk bb => (fi_need N (cond false true (((bb : Nat) : Int) == (0 : Int))) 6 a 3 16 z (fun bc => (q0 (List.take 4 (List.drop ((Int.toNat a) * 4) x)) bc)))) (fi_need N true 6 a 3 16 z (fun bd => (q0 (List.take 4 (List.drop ((Int.toNat a) * 4) x)) bd))))))))))))))))))))))) none) none) none) none))
noncomputable def fi_outagei (N : Nat) (c : LA) (b : Bool) (a : Int) (w : LA) (r0 : LA → Option R) : Option R := (fi_outageB N r0 (fun d u => (fi_outage_q0 N r0 a b c d u)) c b a w)
noncomputable def fi_outage := (shut (@fi_outagei R)).1
theorem fi_outage_def : @fi_outage R = @fi_outagei R := (shut _).2
noncomputable def fi_outage_hs : Hints := { H := (hS (hR [0,2,4]) (hS (hR [0,2,4,6,7]) (hS (hR [0,2,4,6,7]) (hS (hR [0,2,4,6,7]) (hS (hR [0,2,4,6,7]) (hS (hR [0,2,4,6,7]) (hJ (hR [0,2,4,6,7]) (hS (hR [0,2,4,6,7]) (hS (hR [0,2,4,6,7,8]) (hS (hS (hR [0,2,4,6,7,8,71,72,73]) (hN [0,2,4,6,7,8] (hN [0,2,4,6,7,8,71,72,73] (hS (hR [0,2,4,6,7,8,71,72,73,74]) (hS (hN [0,2,4,6,7,8,71,72,73] hL hL) (hS (hN [0,2,4,6,7,8,71,72,73] (hS (hR [0,2,4,6,7,8,10,71,72,73]) (hR [0,2,4,6,7,8,71,72,73])) hL) (hR [0,2,4,6,7,8,71,72,73])))) hL) hL)) (hS (hR [0,2,6,7,8]) (hS (hR [0,2,6,7]) (hS (hR [0,2,7,100,101,102]) (hS (hN [0,2,7,100,101,102] (hS (hR [0,2,7,100,101,102,103]) (hS (hN [0,2,7,100,101,102] hL hL) (hS (hN [0,2,7,100,101,102] (hS (hR [0,2,7,12,100,101,102]) (hR [0,2,7,100,101,102])) hL) (hR [0,2,7,100,101,102])))) hL) hL)))))))))))))), nils := [(8, 1)], modes := [], free := [], cob := [] }
noncomputable def fi_outage_T (N : Nat) : List (Nat × Tw) := [(42, fi_name_Tw N), (45, r18_between_Tw N), (44, fi_need_Tw N), (77, r18_rising_Tw N)]
noncomputable def fi_outage_E (N : Nat) : Env := mkE 117 fi_outage_hs (fi_outage_T N)
noncomputable def fi_outage_fin (N : Nat) (F : AV → Heap → Option R) := afinish (fi_outage_E N) Try.f50 fi_outage_hs.modes [100000] F
noncomputable def fi_outage_at (N : Nat) (F : AV → Heap → Option R) := atF (fi_outage_E N) [100000] N Try.f50 fi_outage_hs (fi_outage_fin N F)
noncomputable def fi_outage_r0  (F : AV → Heap → Option R) : LA → Option R := (fun be => F (.tup []) [(100000, ⟨false, false, true, false, 0, be⟩)])
noncomputable def fi_outage_s2 (a : Int) (i : LA) (q : Nat) (b : Bool) (m : Int) (e : Int) (o : LA) : St := { s := [(0, (.optr 100000 0)), (2, (.int .i64 a)), (7, (.int .i64 6)), (100, (.imm i q 3 false b)), (101, (.int .i64 m)), (102, (.int .i64 e))], h := [(100000, ⟨false, false, true, false, 0, o⟩)] }
noncomputable def fi_outage_w2 (N : Nat) (F : AV → Heap → Option R) : St → Option R := loopW (fi_outage_E N) [100000] N (fi_outage_at N F [1, 1, 1, 1, 1, 1, 1, 1, 1, 1, 1, 1, 1, 0] []) N
noncomputable def fi_outage_l2 (N : Nat) (F : AV → Heap → Option R) (n : Nat) : St → Option R := loopAt (fi_outage_E N) [100000] N (fi_outage_at N F [1, 1, 1, 1, 1, 1, 1, 1, 1, 1, 1, 1, 1, 0] []) n
noncomputable def fi_outage_s1 (a : Int) (j : LA) (r : Nat) (b : Bool) (t : LA) (c : LA) (d : LA) (f : Nat) (p : Int) (g : Int) (l : LA) : St := { s := [(0, (.optr 100000 0)), (2, (.int .i64 a)), (4, (.optr 300000 0)), (6, (.optr 300001 0)), (7, (.int .i64 6)), (8, (.own 300002 0 f)), (71, (.imm j r 3 false b)), (72, (.int .i64 p)), (73, (.int .i64 g))], h := [(100000, ⟨false, false, true, false, 0, t⟩), (300000, ⟨false, false, true, b, 0, c⟩), (300001, ⟨false, false, true, b, 0, d⟩), (300002, ⟨false, false, true, false, 1, l⟩)] }
noncomputable def fi_outage_w1 (N : Nat) (F : AV → Heap → Option R) : St → Option R := loopW (fi_outage_E N) [100000] N (fi_outage_at N F [1, 1, 1, 1, 1, 1, 1, 1, 1, 0, 1, 0] []) N
noncomputable def fi_outage_l1 (N : Nat) (F : AV → Heap → Option R) (n : Nat) : St → Option R := loopAt (fi_outage_E N) [100000] N (fi_outage_at N F [1, 1, 1, 1, 1, 1, 1, 1, 1, 0, 1, 0] []) n
noncomputable def fi_outage_s0 (a : Int) (b : Bool) (c : LA) (d : LA) (u : LA) : St := { s := [(0, (.optr 100000 0)), (2, (.int .i64 a)), (4, (.optr 64 0)), (6, (.optr 96 0)), (7, (.int .i64 6))], h := [(64, ⟨false, false, true, b, 0, c⟩), (96, ⟨false, false, true, b, 0, d⟩), (100000, ⟨false, false, true, false, 0, u⟩)] }
noncomputable def fi_outage_j0 (N : Nat) (F : AV → Heap → Option R) : St → Option R := joinAt (fi_outage_E N) [100000] N (fi_outage_at N F [1, 1, 1, 1, 1, 1, 1] [])
noncomputable def fi_outage_i0 (N : Nat) (F : AV → Heap → Option R) : St → Option R := joinIn (fi_outage_E N) [100000] N (fi_outage_at N F [1, 1, 1, 1, 1, 1, 1] [])
theorem fi_outage_q2_eq (N : Nat)  (F : AV → Heap → Option R) (a : Int) (i : LA) (q : Nat) (b : Bool) : ∀ (n : Nat) (m : Int) (e : Int) (o : LA), fi_outage_l2 N F n (fi_outage_s2 a i q b m e o) = (fi_outage_q2 N (fi_outage_r0 F) a i q b n m e o) := by
  intro n
  induction n with
  | zero => intros; kernel_rfl
  | succ n ih =>
    intro m e o
    have e0 := funext fun m => funext fun e => funext fun o => (show fi_outage_l2 N F n (fi_outage_s2 a i q b m e o) = _ from ih m e o)
    have hK : fi_outage_l2 N F (n + 1) (fi_outage_s2 a i q b m e o) = (fi_outage_q2B N (fi_outage_r0 F) a i q b (fun m e o => fi_outage_l2 N F n (fi_outage_s2 a i q b m e o)) m e o) := by kernel_rfl
    exact hK.trans (by rw [e0]; rfl)
theorem fi_outage_q1_eq (N : Nat)  (F : AV → Heap → Option R) (a : Int) (j : LA) (r : Nat) (b : Bool) (t : LA) (c : LA) (d : LA) : ∀ (n : Nat) (f : Nat) (p : Int) (g : Int) (l : LA), fi_outage_l1 N F n (fi_outage_s1 a j r b t c d f p g l) = (fi_outage_q1 N (fi_outage_r0 F) a j r b t c d n f p g l) := by
  intro n
  induction n with
  | zero => intros; kernel_rfl
  | succ n ih =>
    intro f p g l
    have e0 := funext fun f => funext fun p => funext fun g => funext fun l => (show fi_outage_l1 N F n (fi_outage_s1 a j r b t c d f p g l) = _ from ih f p g l)
    have e1 := funext fun i => funext fun q => funext fun m => funext fun e => funext fun o => (show fi_outage_w2 N F (fi_outage_s2 a i q b m e o) = _ from (loopW_eq ..).trans (fi_outage_q2_eq N F a i q b N m e o))
    have hK : fi_outage_l1 N F (n + 1) (fi_outage_s1 a j r b t c d f p g l) = (fi_outage_q1B N (fi_outage_r0 F) a j r b t c d (fun f p g l => fi_outage_l1 N F n (fi_outage_s1 a j r b t c d f p g l)) (fun i q m e o => fi_outage_w2 N F (fi_outage_s2 a i q b m e o)) f p g l) := by kernel_rfl
    exact hK.trans (by rw [e0, e1]; rfl)
theorem fi_outage_q0_eq (N : Nat)  (F : AV → Heap → Option R) (a : Int) (b : Bool) (c : LA) : ∀ (d : LA) (u : LA), fi_outage_i0 N F (fi_outage_s0 a b c d u) = (fi_outage_q0 N (fi_outage_r0 F) a b c d u) := by
  intro d u
  have e1 := funext fun j => funext fun r => funext fun t => funext fun f => funext fun p => funext fun g => funext fun l => (show fi_outage_w1 N F (fi_outage_s1 a j r b t c d f p g l) = _ from (loopW_eq ..).trans (fi_outage_q1_eq N F a j r b t c d N f p g l))
  have hK : fi_outage_i0 N F (fi_outage_s0 a b c d u) = (fi_outage_q0B N (fi_outage_r0 F) a b c (fun j r t f p g l => fi_outage_w1 N F (fi_outage_s1 a j r b t c d f p g l)) d u) := by kernel_rfl
  exact hK.trans (by rw [e1]; rfl)
theorem fi_outage_eq (N : Nat) (c : LA) (b : Bool) (a : Int) (w : LA) (F : AV → Heap → Option R) : execF Try.prog muts (fi_outage_T N) fi_outage_hs N 50 [(.optr 100000 0), (.pagg c b), (.int .i64 a)] [(100000, ⟨false, false, true, false, 0, w⟩)] F = (fi_outage N c b a w (fi_outage_r0 F)) := by
  have e1 := funext fun d => funext fun u => (show fi_outage_j0 N F (fi_outage_s0 a b c d u) = _ from (joinAt_eq ..).trans (fi_outage_q0_eq N F a b c d u))
  have hK : execF Try.prog muts (fi_outage_T N) fi_outage_hs N 50 [(.optr 100000 0), (.pagg c b), (.int .i64 a)] [(100000, ⟨false, false, true, false, 0, w⟩)] F = (fi_outageB N (fi_outage_r0 F) (fun d u => fi_outage_j0 N F (fi_outage_s0 a b c d u)) c b a w) := by kernel_rfl
  rw [fi_outage_def]
  exact hK.trans (by rw [e1]; rfl)
noncomputable def fi_outage_run (N : Nat) (args : List AV) (h : Heap) (k : AV → Heap → Option R) : Option R :=
  match args, h with
  | [(.optr 100000 0), (.pagg c b), (.int .i64 a)], [(100000, ⟨false, false, true, false, 0, w⟩)] => (fi_outage N c b a w (fi_outage_r0 k))
  | _, _ => none
noncomputable def fi_outage_Tw (N : Nat) : Tw where
  runK := fi_outage_run N
  eq := by
    intro R args h k
    unfold fi_outage_run
    split
    · exact (fi_outage_eq ..).symm.trans ((execF_bind ..).trans (congrArg (Option.bind · _) (fi_outage_eq ..)))
    · rfl
theorem fi_outage_ok (N : Nat) : TwOk Try.prog 50 (fi_outage_Tw N) := by
  intro args h res y bf
  have hh : fi_outage_run N args h (fun v y => some (v, y)) = some (res, y) := bf
  unfold fi_outage_run at hh
  split at hh
  · exact execF_sound (T := fi_outage_T N) ⟨fi_name_ok N, r18_between_ok N, fi_need_ok N, r18_rising_ok N, trivial⟩ follows ((fi_outage_eq ..).trans hh)
  · cases hh
noncomputable def r18_has_q0B (N : Nat)  (r0 : Bool → Option R) (b : LA) (a : Nat) (d : Bool) (e : Bool) (c : Int) (k0 : Int → Option R)  (f : Int) : Option R :=
  (cond (decide (f < ((a : Nat) : Int))) (cond (inIdx f a) (rdI .i64 (List.drop ((Int.toNat f) * 1) b) fun i => (cond (i == c) (r0 true) (k0 (IntKind.wrap .i64 (f + (1 : Int)))))) none) (r0 false))
noncomputable def r18_has_q0 (N : Nat)  (r0 : Bool → Option R) (b : LA) (a : Nat) (d : Bool) (e : Bool) (c : Int) : Nat → Int → Option R
  | 0, _ => none
  | n + 1, f => (r18_has_q0B N r0 b a d e c (r18_has_q0 N r0 b a d e c n) f)
noncomputable def r18_hasB (N : Nat) (r0 : Bool → Option R) (q0 : Int → Option R) (b : LA) (a : Nat) (d : Bool) (e : Bool) (c : Int) : Option R :=
  (q0 0)
noncomputable def r18_hasi (N : Nat) (b : LA) (a : Nat) (d : Bool) (e : Bool) (c : Int) (r0 : Bool → Option R) : Option R := (r18_hasB N r0 (fun f => (r18_has_q0 N r0 b a d e c N f)) b a d e c)
noncomputable def r18_has := (shut (@r18_hasi R)).1
theorem r18_has_def : @r18_has R = @r18_hasi R := (shut _).2
noncomputable def r18_has_hs : Hints := { H := (hS (hR [0,1]) (hS (hS (hR [0,1,5]) (hS (hN [0,1,5] (hS (hS (hR [0,1,5,9]) (hN [0,1,5] hL hL)) (hS (hN [0,1,5] (hS (hR [0,1,5,17]) (hN [0,1,5] (hS (hR [4]) hL) hL)) hL) (hR [0,1,5]))) hL) hL)) (hS (hR [4]) hL))), nils := [], modes := [], free := [], cob := [] }
noncomputable def r18_has_T (N : Nat) : List (Nat × Tw) := []
noncomputable def r18_has_E (N : Nat) : Env := mkE 18 r18_has_hs (r18_has_T N)
noncomputable def r18_has_fin (N : Nat) (F : AV → Heap → Option R) := afinish (r18_has_E N) Try.f34 r18_has_hs.modes [] F
noncomputable def r18_has_at (N : Nat) (F : AV → Heap → Option R) := atF (r18_has_E N) [] N Try.f34 r18_has_hs (r18_has_fin N F)
noncomputable def r18_has_r0  (F : AV → Heap → Option R) : Bool → Option R := (fun j => F (.bool j) [])
noncomputable def r18_has_s0 (b : LA) (a : Nat) (d : Bool) (e : Bool) (c : Int) (f : Int) : St := { s := [(0, (.imm b a 1 d e)), (1, (.int .i64 c)), (5, (.int .i64 f))], h := [] }
noncomputable def r18_has_w0 (N : Nat) (F : AV → Heap → Option R) : St → Option R := loopW (r18_has_E N) [] N (r18_has_at N F [1, 0, 1, 0] []) N
noncomputable def r18_has_l0 (N : Nat) (F : AV → Heap → Option R) (n : Nat) : St → Option R := loopAt (r18_has_E N) [] N (r18_has_at N F [1, 0, 1, 0] []) n
theorem r18_has_q0_eq (N : Nat)  (F : AV → Heap → Option R) (b : LA) (a : Nat) (d : Bool) (e : Bool) (c : Int) : ∀ (n : Nat) (f : Int), r18_has_l0 N F n (r18_has_s0 b a d e c f) = (r18_has_q0 N (r18_has_r0 F) b a d e c n f) := by
  intro n
  induction n with
  | zero => intros; kernel_rfl
  | succ n ih =>
    intro f
    have e0 := funext fun f => (show r18_has_l0 N F n (r18_has_s0 b a d e c f) = _ from ih f)
    have hK : r18_has_l0 N F (n + 1) (r18_has_s0 b a d e c f) = (r18_has_q0B N (r18_has_r0 F) b a d e c (fun f => r18_has_l0 N F n (r18_has_s0 b a d e c f)) f) := by kernel_rfl
    exact hK.trans (by rw [e0]; rfl)
theorem r18_has_eq (N : Nat) (b : LA) (a : Nat) (d : Bool) (e : Bool) (c : Int) (F : AV → Heap → Option R) : execF Try.prog muts (r18_has_T N) r18_has_hs N 34 [(.imm b a 1 d e), (.int .i64 c)] [] F = (r18_has N b a d e c (r18_has_r0 F)) := by
  have e1 := funext fun f => (show r18_has_w0 N F (r18_has_s0 b a d e c f) = _ from (loopW_eq ..).trans (r18_has_q0_eq N F b a d e c N f))
  have hK : execF Try.prog muts (r18_has_T N) r18_has_hs N 34 [(.imm b a 1 d e), (.int .i64 c)] [] F = (r18_hasB N (r18_has_r0 F) (fun f => r18_has_w0 N F (r18_has_s0 b a d e c f)) b a d e c) := by kernel_rfl
  rw [r18_has_def]
  exact hK.trans (by rw [e1]; rfl)
noncomputable def r18_has_run (N : Nat) (args : List AV) (h : Heap) (k : AV → Heap → Option R) : Option R :=
  match args, h with
  | [(.imm b a 1 d e), (.int .i64 c)], [] => (r18_has N b a d e c (r18_has_r0 k))
  | _, _ => none
noncomputable def r18_has_Tw (N : Nat) : Tw where
  runK := r18_has_run N
  eq := by
    intro R args h k
    unfold r18_has_run
    split
    · exact (r18_has_eq ..).symm.trans ((execF_bind ..).trans (congrArg (Option.bind · _) (r18_has_eq ..)))
    · rfl
theorem r18_has_ok (N : Nat) : TwOk Try.prog 34 (r18_has_Tw N) := by
  intro args h res g l
  have hh : r18_has_run N args h (fun v g => some (v, g)) = some (res, g) := l
  unfold r18_has_run at hh
  split at hh
  · exact execF_sound (T := r18_has_T N) trivial follows ((r18_has_eq ..).trans hh)
  · cases hh
noncomputable def r18_InService_q0B (N : Nat)  (r0 : Nat → LA → Option R) (d : Int) (e : Bool) (a : LA) (k0 : Nat → Int → LA → Option R)  (b : Nat) (c : Int) (f : LA) : Option R :=
  (rdL 12 (List.drop 3 a) fun u i => (cond (decide (c < ((i : Nat) : Int))) (rdL 12 (List.drop 3 a) fun j l => (cond (inIdx c l) (rdL 1 (List.drop 11 (List.drop ((Int.toNat c) * 12) j)) fun m o => (r18_has N m o false e d (fun p => (cond (!p) (cond ((Nat.ble (b + 1) 140737488355328) && (Nat.ble ((b + 1) * 8) 140737488355328)) (k0 (b + 1) (IntKind.wrap .i64 (c + (1 : Int))) ((List.take (b * 1) f) ++ [(.int .i64 c)])) none) (k0 b (IntKind.wrap .i64 (c + (1 : Int))) f))))) none)) (r0 b f)))
noncomputable def r18_InService_q0 (N : Nat)  (r0 : Nat → LA → Option R) (d : Int) (e : Bool) (a : LA) : Nat → Nat → Int → LA → Option R
  | 0, _, _, _ => none
  | n + 1, b, c, f => (r18_InService_q0B N r0 d e a (r18_InService_q0 N r0 d e a n) b c f)
noncomputable def r18_InServiceB (N : Nat) (r0 : Nat → LA → Option R) (q0 : Nat → Int → LA → Option R) (a : LA) (e : Bool) (d : Int) : Option R :=
  (q0 0 0 [])
noncomputable def r18_InServicei (N : Nat) (a : LA) (e : Bool) (d : Int) (r0 : Nat → LA → Option R) : Option R := (r18_InServiceB N r0 (fun b c f => (r18_InService_q0 N r0 d e a N b c f)) a e d)
noncomputable def r18_InService := (shut (@r18_InServicei R)).1
theorem r18_InService_def : @r18_InService R = @r18_InServicei R := (shut _).2
noncomputable def r18_InService_hs : Hints := { H := (hS (hR [1,2]) (hS (hR [1,2,5]) (hS (hS (hR [1,2,5,6]) (hN [5] (hN [1,2,5,6] (hS (hS (hR [1,2,5,6,11]) (hN [1,2,5,6] hL hL)) (hS (hN [1,2,5,6] (hS (hR [1,2,5,6,22]) (hN [1,2,5,6] (hR [1,2,5,6]) hL)) hL) (hR [1,2,5,6]))) hL) hL)) (hS (hR [4]) hL)))), nils := [(4, 1), (5, 1)], modes := [(2, 1)], free := [], cob := [] }
noncomputable def r18_InService_T (N : Nat) : List (Nat × Tw) := [(34, r18_has_Tw N)]
noncomputable def r18_InService_E (N : Nat) : Env := mkE 28 r18_InService_hs (r18_InService_T N)
noncomputable def r18_InService_fin (N : Nat) (F : AV → Heap → Option R) := afinish (r18_InService_E N) Try.f33 r18_InService_hs.modes [] F
noncomputable def r18_InService_at (N : Nat) (F : AV → Heap → Option R) := atF (r18_InService_E N) [] N Try.f33 r18_InService_hs (r18_InService_fin N F)
noncomputable def r18_InService_r0  (F : AV → Heap → Option R) : Nat → LA → Option R := (fun q r => F (.own 300000 0 q) [(300000, ⟨false, false, true, false, 1, r⟩)])
noncomputable def r18_InService_s0 (d : Int) (e : Bool) (a : LA) (b : Nat) (c : Int) (f : LA) : St := { s := [(1, (.int .i64 d)), (2, (.optr 300000 0)), (5, (.own 300001 0 b)), (6, (.int .i64 c))], h := [(300000, ⟨false, false, true, e, 0, a⟩), (300001, ⟨false, false, true, false, 1, f⟩)] }
noncomputable def r18_InService_w0 (N : Nat) (F : AV → Heap → Option R) : St → Option R := loopW (r18_InService_E N) [] N (r18_InService_at N F [1, 1, 0, 1, 0] []) N
noncomputable def r18_InService_l0 (N : Nat) (F : AV → Heap → Option R) (n : Nat) : St → Option R := loopAt (r18_InService_E N) [] N (r18_InService_at N F [1, 1, 0, 1, 0] []) n
theorem r18_InService_q0_eq (N : Nat)  (F : AV → Heap → Option R) (d : Int) (e : Bool) (a : LA) : ∀ (n : Nat) (b : Nat) (c : Int) (f : LA), r18_InService_l0 N F n (r18_InService_s0 d e a b c f) = (r18_InService_q0 N (r18_InService_r0 F) d e a n b c f) := by
  intro n
  induction n with
  | zero => intros; kernel_rfl
  | succ n ih =>
    intro b c f
    have e0 := funext fun b => funext fun c => funext fun f => (show r18_InService_l0 N F n (r18_InService_s0 d e a b c f) = _ from ih b c f)
    have hK : r18_InService_l0 N F (n + 1) (r18_InService_s0 d e a b c f) = (r18_InService_q0B N (r18_InService_r0 F) d e a (fun b c f => r18_InService_l0 N F n (r18_InService_s0 d e a b c f)) b c f) := by kernel_rfl
    exact hK.trans (by rw [e0]; rfl)
theorem r18_InService_eq (N : Nat) (a : LA) (e : Bool) (d : Int) (F : AV → Heap → Option R) : execF Try.prog muts (r18_InService_T N) r18_InService_hs N 33 [(.pagg a e), (.int .i64 d)] [] F = (r18_InService N a e d (r18_InService_r0 F)) := by
  have e1 := funext fun b => funext fun c => funext fun f => (show r18_InService_w0 N F (r18_InService_s0 d e a b c f) = _ from (loopW_eq ..).trans (r18_InService_q0_eq N F d e a N b c f))
  have hK : execF Try.prog muts (r18_InService_T N) r18_InService_hs N 33 [(.pagg a e), (.int .i64 d)] [] F = (r18_InServiceB N (r18_InService_r0 F) (fun b c f => r18_InService_w0 N F (r18_InService_s0 d e a b c f)) a e d) := by kernel_rfl
  rw [r18_InService_def]
  exact hK.trans (by rw [e1]; rfl)
noncomputable def r18_InService_run (N : Nat) (args : List AV) (h : Heap) (k : AV → Heap → Option R) : Option R :=
  match args, h with
  | [(.pagg a e), (.int .i64 d)], [] => (r18_InService N a e d (r18_InService_r0 k))
  | _, _ => none
noncomputable def r18_InService_Tw (N : Nat) : Tw where
  runK := r18_InService_run N
  eq := by
    intro R args h k
    unfold r18_InService_run
    split
    · exact (r18_InService_eq ..).symm.trans ((execF_bind ..).trans (congrArg (Option.bind · _) (r18_InService_eq ..)))
    · rfl
theorem r18_InService_ok (N : Nat) : TwOk Try.prog 33 (r18_InService_Tw N) := by
  intro args h res g t
  have hh : r18_InService_run N args h (fun v g => some (v, g)) = some (res, g) := t
  unfold r18_InService_run at hh
  split at hh
  · exact execF_sound (T := r18_InService_T N) ⟨r18_has_ok N, trivial⟩ follows ((r18_InService_eq ..).trans hh)
  · cases hh
noncomputable def r18_Pairs_q0B (N : Nat)  (r0 : Nat → Nat → LA → LA → Option R) (e : Nat) (b : Bool) (a : LA) (i : LA) (k0 : Nat → Int → Int → LA → Option R)  (c : Nat) (f : Int) (d : Int) (g : LA) : Option R :=
  (cond (decide (d < f)) (cond (inIdx d e) (rdI .i64 (List.drop (0 + ((Int.toNat d) * 1)) i) fun l => (rdL 12 (List.drop 3 a) fun o p => (cond (inIdx l p) (rdI .i64 (List.drop 1 (List.drop ((Int.toNat l) * 12) o)) fun q => (rdL 12 (List.drop 3 a) fun r t => (cond (inIdx l t) (rdI .i64 (List.drop 2 (List.drop ((Int.toNat l) * 12) r)) fun u => (cond ((Nat.ble (c + 1) 140737488355328) && (Nat.ble ((c + 1) * 16) 140737488355328)) (k0 (c + 1) f (IntKind.wrap .i64 (d + (1 : Int))) ((List.take (c * 2) g) ++ [(.int .i64 q), (.int .i64 u)])) none)) none))) none))) none) (r0 c e g i))
noncomputable def r18_Pairs_q0 (N : Nat)  (r0 : Nat → Nat → LA → LA → Option R) (e : Nat) (b : Bool) (a : LA) (i : LA) : Nat → Nat → Int → Int → LA → Option R
  | 0, _, _, _, _ => none
  | n + 1, c, f, d, g => (r18_Pairs_q0B N r0 e b a i (r18_Pairs_q0 N r0 e b a i n) c f d g)
noncomputable def r18_PairsB (N : Nat) (r0 : Nat → Nat → LA → LA → Option R) (q0 : Nat → LA → Nat → Int → Int → LA → Option R) (a : LA) (b : Bool) (j : Int) : Option R :=
  (cond (Nat.ble 8 (List.length a)) (r18_InService N (List.take 8 a) b j (fun e i => (q0 e i 0 ((e : Nat) : Int) 0 []))) none)
noncomputable def r18_Pairsi (N : Nat) (a : LA) (b : Bool) (j : Int) (r0 : Nat → Nat → LA → LA → Option R) : Option R := (r18_PairsB N r0 (fun e i c f d g => (r18_Pairs_q0 N r0 e b a i N c f d g)) a b j)
noncomputable def r18_Pairs := (shut (@r18_Pairsi R)).1
theorem r18_Pairs_def : @r18_Pairs R = @r18_Pairsi R := (shut _).2
noncomputable def r18_Pairs_hs : Hints := { H := (hS (hR [1,2]) (hS (hR [2,6]) (hS (hR [2,6,7]) (hS (hS (hR [2,6,7,13,14,15]) (hN [6,7] (hN [2,6,7,13,14,15] (hS (hR [2,6,7,13,14,15,16]) (hS (hN [2,6,7,13,14,15] hL hL) (hS (hN [2,6,7,13,14,15] (hS (hR [2,6,7,9,13,14,15]) (hR [2,6,7,13,14,15])) hL) (hR [2,6,7,13,14,15])))) hL) hL)) (hS (hR [4,5]) hL))))), nils := [(4, 2), (5, 1), (7, 2)], modes := [(2, 2), (2, 1)], free := [], cob := [] }
noncomputable def r18_Pairs_T (N : Nat) : List (Nat × Tw) := [(33, r18_InService_Tw N)]
noncomputable def r18_Pairs_E (N : Nat) : Env := mkE 38 r18_Pairs_hs (r18_Pairs_T N)
noncomputable def r18_Pairs_fin (N : Nat) (F : AV → Heap → Option R) := afinish (r18_Pairs_E N) Try.f9 r18_Pairs_hs.modes [] F
noncomputable def r18_Pairs_at (N : Nat) (F : AV → Heap → Option R) := atF (r18_Pairs_E N) [] N Try.f9 r18_Pairs_hs (r18_Pairs_fin N F)
noncomputable def r18_Pairs_r0  (F : AV → Heap → Option R) : Nat → Nat → LA → LA → Option R := (fun w x y z => F (.tup [(.own 300000 0 w), (.own 300001 0 x)]) [(300000, ⟨false, false, true, false, 2, y⟩), (300001, ⟨false, false, true, false, 1, z⟩)])
noncomputable def r18_Pairs_s0 (e : Nat) (b : Bool) (a : LA) (i : LA) (c : Nat) (f : Int) (d : Int) (g : LA) : St := { s := [(2, (.optr 300000 0)), (6, (.own 300001 0 e)), (7, (.own 300002 0 c)), (13, (.own 300001 0 e)), (14, (.int .i64 f)), (15, (.int .i64 d))], h := [(300000, ⟨false, false, true, b, 0, a⟩), (300001, ⟨false, false, true, false, 1, i⟩), (300002, ⟨false, false, true, false, 2, g⟩)] }
noncomputable def r18_Pairs_w0 (N : Nat) (F : AV → Heap → Option R) : St → Option R := loopW (r18_Pairs_E N) [] N (r18_Pairs_at N F [1, 1, 1, 0, 1, 0] []) N
noncomputable def r18_Pairs_l0 (N : Nat) (F : AV → Heap → Option R) (n : Nat) : St → Option R := loopAt (r18_Pairs_E N) [] N (r18_Pairs_at N F [1, 1, 1, 0, 1, 0] []) n
theorem r18_Pairs_q0_eq (N : Nat)  (F : AV → Heap → Option R) (e : Nat) (b : Bool) (a : LA) (i : LA) : ∀ (n : Nat) (c : Nat) (f : Int) (d : Int) (g : LA), r18_Pairs_l0 N F n (r18_Pairs_s0 e b a i c f d g) = (r18_Pairs_q0 N (r18_Pairs_r0 F) e b a i n c f d g) := by
  intro n
  induction n with
  | zero => intros; kernel_rfl
  | succ n ih =>
    intro c f d g
    have e0 := funext fun c => funext fun f => funext fun d => funext fun g => (show r18_Pairs_l0 N F n (r18_Pairs_s0 e b a i c f d g) = _ from ih c f d g)
    have hK : r18_Pairs_l0 N F (n + 1) (r18_Pairs_s0 e b a i c f d g) = (r18_Pairs_q0B N (r18_Pairs_r0 F) e b a i (fun c f d g => r18_Pairs_l0 N F n (r18_Pairs_s0 e b a i c f d g)) c f d g) := by kernel_rfl
    exact hK.trans (by rw [e0]; rfl)
theorem r18_Pairs_eq (N : Nat) (a : LA) (b : Bool) (j : Int) (F : AV → Heap → Option R) : execF Try.prog muts (r18_Pairs_T N) r18_Pairs_hs N 9 [(.pagg a b), (.int .i64 j)] [] F = (r18_Pairs N a b j (r18_Pairs_r0 F)) := by
  have e1 := funext fun e => funext fun i => funext fun c => funext fun f => funext fun d => funext fun g => (show r18_Pairs_w0 N F (r18_Pairs_s0 e b a i c f d g) = _ from (loopW_eq ..).trans (r18_Pairs_q0_eq N F e b a i N c f d g))
  have hK : execF Try.prog muts (r18_Pairs_T N) r18_Pairs_hs N 9 [(.pagg a b), (.int .i64 j)] [] F = (r18_PairsB N (r18_Pairs_r0 F) (fun e i c f d g => r18_Pairs_w0 N F (r18_Pairs_s0 e b a i c f d g)) a b j) := by kernel_rfl
  rw [r18_Pairs_def]
  exact hK.trans (by rw [e1]; rfl)
noncomputable def r18_Pairs_run (N : Nat) (args : List AV) (h : Heap) (k : AV → Heap → Option R) : Option R :=
  match args, h with
  | [(.pagg a b), (.int .i64 j)], [] => (r18_Pairs N a b j (r18_Pairs_r0 k))
  | _, _ => none
noncomputable def r18_Pairs_Tw (N : Nat) : Tw where
  runK := r18_Pairs_run N
  eq := by
    intro R args h k
    unfold r18_Pairs_run
    split
    · exact (r18_Pairs_eq ..).symm.trans ((execF_bind ..).trans (congrArg (Option.bind · _) (r18_Pairs_eq ..)))
    · rfl
theorem r18_Pairs_ok (N : Nat) : TwOk Try.prog 9 (r18_Pairs_Tw N) := by
  intro args h res m aa
  have hh : r18_Pairs_run N args h (fun v m => some (v, m)) = some (res, m) := aa
  unfold r18_Pairs_run at hh
  split at hh
  · exact execF_sound (T := r18_Pairs_T N) ⟨r18_InService_ok N, trivial⟩ follows ((r18_Pairs_eq ..).trans hh)
  · cases hh
noncomputable def r18_Islands_q2B (N : Nat) (k1 : Bool → LA → Option R) (r0 : Nat → LA → Option R) (a : LA) (c : Nat) (e : Bool) (d : Bool) (b : Nat) (k2 : Bool → Int → Int → LA → Option R)  (o : Bool) (j : Int) (f : Int) (g : LA) : Option R :=
  (cond (decide (f < j)) (cond (inIdx f c) (cond (Nat.ble 2 (List.length (List.drop ((Int.toNat f) * 2) a))) (cond ((!d) || (plainZ (List.take 2 (List.drop ((Int.toNat f) * 2) a)))) (cond ((Nat.beq (List.length (List.take 2 (List.drop ((Int.toNat f) * 2) a))) 2) && ((Nat.ble 2 2) && (!false))) (rdI .i64 (setCells [(.int .i64 0), (.int .i64 0)] 0 (List.take 2 (List.drop ((Int.toNat f) * 2) a))) fun ac => (cond (inIdx ac b) (rdI .i64 (List.drop (0 + ((Int.toNat ac) * 1)) g) fun r => (rdI .i64 (List.drop 1 (setCells [(.int .i64 0), (.int .i64 0)] 0 (List.take 2 (List.drop ((Int.toNat f) * 2) a)))) fun ad => (cond (inIdx ad b) (rdI .i64 (List.drop (0 + ((Int.toNat ad) * 1)) g) fun t => (cond (o == false) (rdI .i64 (setCells [(.int .i64 0), (.int .i64 0)] 0 (List.take 2 (List.drop ((Int.toNat f) * 2) a))) fun ae => (cond (inIdx ae b) (rdI .i64 (List.drop (0 + ((Int.toNat ae) * 1)) g) fun ag => (cond ((cond false true (ag != (iMin r t))) == false) (rdI .i64 (List.drop 1 (setCells [(.int .i64 0), (.int .i64 0)] 0 (List.take 2 (List.drop ((Int.toNat f) * 2) a)))) fun af => (cond (inIdx af b) (rdI .i64 (List.drop (0 + ((Int.toNat af) * 1)) g) fun ah => (rdI .i64 (setCells [(.int .i64 0), (.int .i64 0)] 0 (List.take 2 (List.drop ((Int.toNat f) * 2) a))) fun u => (rdI .i64 (List.drop 1 (setCells [(.int .i64 0), (.int .i64 0)] 0 (List.take 2 (List.drop ((Int.toNat f) * 2) a)))) fun y => (cond (inIdx u b) (cond ((Nat.beq 1 1) && ((Nat.ble ((0 + ((Int.toNat u) * 1)) + 1) (List.length g)) && (!false))) (cond (inIdx y b) (cond ((Nat.beq 1 1) && ((Nat.ble ((0 + ((Int.toNat y) * 1)) + 1) (List.length (List.set g (0 + ((Int.toNat u) * 1)) (.int .i64 (iMin r t))))) && (!false))) (k2 (cond false true (ah != (iMin r t))) j (IntKind.wrap .i64 (f + (1 : Int))) (List.set (List.set g (0 + ((Int.toNat u) * 1)) (.int .i64 (iMin r t))) (0 + ((Int.toNat y) * 1)) (.int .i64 (iMin r t)))) none) none) none) none)))) none)) (rdI .i64 (setCells [(.int .i64 0), (.int .i64 0)] 0 (List.take 2 (List.drop ((Int.toNat f) * 2) a))) fun w => (rdI .i64 (List.drop 1 (setCells [(.int .i64 0), (.int .i64 0)] 0 (List.take 2 (List.drop ((Int.toNat f) * 2) a)))) fun z => (cond (inIdx w b) (cond ((Nat.beq 1 1) && ((Nat.ble ((0 + ((Int.toNat w) * 1)) + 1) (List.length g)) && (!false))) (cond (inIdx z b) (cond ((Nat.beq 1 1) && ((Nat.ble ((0 + ((Int.toNat z) * 1)) + 1) (List.length (List.set g (0 + ((Int.toNat w) * 1)) (.int .i64 (iMin r t))))) && (!false))) (k2 true j (IntKind.wrap .i64 (f + (1 : Int))) (List.set (List.set g (0 + ((Int.toNat w) * 1)) (.int .i64 (iMin r t))) (0 + ((Int.toNat z) * 1)) (.int .i64 (iMin r t)))) none) none) none) none))))) none)) (rdI .i64 (setCells [(.int .i64 0), (.int .i64 0)] 0 (List.take 2 (List.drop ((Int.toNat f) * 2) a))) fun x => (rdI .i64 (List.drop 1 (setCells [(.int .i64 0), (.int .i64 0)] 0 (List.take 2 (List.drop ((Int.toNat f) * 2) a)))) fun aa => (cond (inIdx x b) (cond ((Nat.beq 1 1) && ((Nat.ble ((0 + ((Int.toNat x) * 1)) + 1) (List.length g)) && (!false))) (cond (inIdx aa b) (cond ((Nat.beq 1 1) && ((Nat.ble ((0 + ((Int.toNat aa) * 1)) + 1) (List.length (List.set g (0 + ((Int.toNat x) * 1)) (.int .i64 (iMin r t))))) && (!false))) (k2 true j (IntKind.wrap .i64 (f + (1 : Int))) (List.set (List.set g (0 + ((Int.toNat x) * 1)) (.int .i64 (iMin r t))) (0 + ((Int.toNat aa) * 1)) (.int .i64 (iMin r t)))) none) none) none) none))))) none))) none)) none) none) none) none) (k1 o g))
noncomputable def r18_Islands_q2 (N : Nat) (k1 : Bool → LA → Option R) (r0 : Nat → LA → Option R) (a : LA) (c : Nat) (e : Bool) (d : Bool) (b : Nat) : Nat → Bool → Int → Int → LA → Option R
  | 0, _, _, _, _ => none
  | n + 1, o, j, f, g => (r18_Islands_q2B N k1 r0 a c e d b (r18_Islands_q2 N k1 r0 a c e d b n) o j f g)
noncomputable def r18_Islands_q1B (N : Nat)  (r0 : Nat → LA → Option R) (a : LA) (c : Nat) (e : Bool) (d : Bool) (b : Nat) (k1 : Bool → LA → Option R) (q2 : Bool → Int → Int → LA → Option R) (p : Bool) (l : LA) : Option R :=
  (cond p (q2 false ((c : Nat) : Int) 0 l) (r0 b l))
noncomputable def r18_Islands_q1 (N : Nat)  (r0 : Nat → LA → Option R) (a : LA) (c : Nat) (e : Bool) (d : Bool) (b : Nat) : Nat → Bool → LA → Option R
  | 0, _, _ => none
  | n + 1, p, l => (r18_Islands_q1B N r0 a c e d b (r18_Islands_q1 N r0 a c e d b n) (fun o j f g => (r18_Islands_q2 N (r18_Islands_q1 N r0 a c e d b n) r0 a c e d b N o j f g)) p l)
noncomputable def r18_Islands_q0B (N : Nat)  (r0 : Nat → LA → Option R) (i : Int) (a : LA) (c : Nat) (e : Bool) (d : Bool) (k0 : Nat → Int → LA → Option R) (q1 : Bool → LA → Option R) (b : Nat) (m : Int) (q : LA) : Option R :=
  (cond (decide (m < i)) (cond (inIdx m b) (cond ((Nat.beq 1 1) && ((Nat.ble ((0 + ((Int.toNat m) * 1)) + 1) (List.length q)) && (!false))) (k0 b (IntKind.wrap .i64 (m + (1 : Int))) (List.set q (0 + ((Int.toNat m) * 1)) (.int .i64 m))) none) none) (q1 true q))
noncomputable def r18_Islands_q0 (N : Nat)  (r0 : Nat → LA → Option R) (i : Int) (a : LA) (c : Nat) (e : Bool) (d : Bool) : Nat → Nat → Int → LA → Option R
  | 0, _, _, _ => none
  | n + 1, b, m, q => (r18_Islands_q0B N r0 i a c e d (r18_Islands_q0 N r0 i a c e d n) (fun p l => (r18_Islands_q1 N r0 a c e d b N p l)) b m q)
noncomputable def r18_IslandsB (N : Nat) (r0 : Nat → LA → Option R) (q0 : Nat → Int → LA → Option R) (i : Int) (a : LA) (c : Nat) (e : Bool) (d : Bool) : Option R :=
  (cond ((decide ((0 : Int) ≤ i)) && ((decide (i ≤ i)) && ((decide (i ≤ (140737488355328 : Int))) && (decide ((i * ((8 : Nat) : Int)) ≤ (140737488355328 : Int)))))) (q0 (Int.toNat i) 0 (List.replicate (Int.toNat i) (.int .i64 0))) none)
noncomputable def r18_Islandsi (N : Nat) (i : Int) (a : LA) (c : Nat) (e : Bool) (d : Bool) (r0 : Nat → LA → Option R) : Option R := (r18_IslandsB N r0 (fun b m q => (r18_Islands_q0 N r0 i a c e d N b m q)) i a c e d)
noncomputable def r18_Islands := (shut (@r18_Islandsi R)).1
theorem r18_Islands_def : @r18_Islands R = @r18_Islandsi R := (shut _).2
noncomputable def r18_Islands_hs : Hints := { H := (hS (hR [0,1]) (hS (hR [0,1,5]) (hS (hS (hR [0,1,5,6]) (hN [1,5] (hN [0,1,5,6] (hS (hS (hR [0,1,5,6,15]) (hN [0,1,5,6] hL hL)) (hS (hN [0,1,5,6] (hR [0,1,5,6]) hL) (hR [0,1,5,6]))) hL) hL)) (hS (hS (hR [1,5,7]) (hN [5] (hN [1,5,7] (hS (hS (hR [1,5,22]) (hN [1,5] hL hL)) (hN [1,5,7] (hS (hR [1,5,7]) (hS (hR [1,5,7,23,24,25]) (hN [1,5,7] (hN [1,5,7,23,24,25] (hS (hR [1,5,7,23,24,25,26]) (hS (hN [1,5,7,23,24,25] hL hL) (hS (hN [1,5,7,23,24,25] (hS (hR [1,5,7,9,23,24,25]) (hS (hR [1,5,7,9,10,23,24,25]) (hS (hR [1,5,7,9,10,23,24,25]) (hR [1,5,7,23,24,25])))) hL) (hR [1,5,7,23,24,25])))) hL) hL))) hL)) hL) hL)) (hS (hR [4]) hL))))), nils := [(4, 1)], modes := [(2, 1)], free := [], cob := [] }
noncomputable def r18_Islands_T (N : Nat) : List (Nat × Tw) := []
noncomputable def r18_Islands_E (N : Nat) : Env := mkE 71 r18_Islands_hs (r18_Islands_T N)
noncomputable def r18_Islands_fin (N : Nat) (F : AV → Heap → Option R) := afinish (r18_Islands_E N) Try.f36 r18_Islands_hs.modes [] F
noncomputable def r18_Islands_at (N : Nat) (F : AV → Heap → Option R) := atF (r18_Islands_E N) [] N Try.f36 r18_Islands_hs (r18_Islands_fin N F)
noncomputable def r18_Islands_r0  (F : AV → Heap → Option R) : Nat → LA → Option R := (fun ai aj => F (.own 300000 0 ai) [(300000, ⟨false, false, true, false, 1, aj⟩)])
noncomputable def r18_Islands_s2 (a : LA) (c : Nat) (e : Bool) (d : Bool) (b : Nat) (o : Bool) (j : Int) (f : Int) (g : LA) : St := { s := [(1, (.imm a c 2 e d)), (5, (.own 300000 0 b)), (7, (.bool o)), (23, (.imm a c 2 e d)), (24, (.int .i64 j)), (25, (.int .i64 f))], h := [(300000, ⟨false, false, true, false, 1, g⟩)] }
noncomputable def r18_Islands_w2 (N : Nat) (F : AV → Heap → Option R) (Q1 : St → Option R) : St → Option R := loopW (r18_Islands_E N) [] N (r18_Islands_at N F [1, 1, 1, 0, 1, 0, 0, 1, 0, 1, 1, 0] [Q1]) N
noncomputable def r18_Islands_l2 (N : Nat) (F : AV → Heap → Option R) (Q1 : St → Option R) (n : Nat) : St → Option R := loopAt (r18_Islands_E N) [] N (r18_Islands_at N F [1, 1, 1, 0, 1, 0, 0, 1, 0, 1, 1, 0] [Q1]) n
noncomputable def r18_Islands_s1 (a : LA) (c : Nat) (e : Bool) (d : Bool) (b : Nat) (p : Bool) (l : LA) : St := { s := [(1, (.imm a c 2 e d)), (5, (.own 300000 0 b)), (7, (.bool p))], h := [(300000, ⟨false, false, true, false, 1, l⟩)] }
noncomputable def r18_Islands_w1 (N : Nat) (F : AV → Heap → Option R) : St → Option R := loopW (r18_Islands_E N) [] N (r18_Islands_at N F [1, 1, 1, 0, 1, 0] []) N
noncomputable def r18_Islands_l1 (N : Nat) (F : AV → Heap → Option R) (n : Nat) : St → Option R := loopAt (r18_Islands_E N) [] N (r18_Islands_at N F [1, 1, 1, 0, 1, 0] []) n
noncomputable def r18_Islands_s0 (i : Int) (a : LA) (c : Nat) (e : Bool) (d : Bool) (b : Nat) (m : Int) (q : LA) : St := { s := [(0, (.int .i64 i)), (1, (.imm a c 2 e d)), (5, (.own 300000 0 b)), (6, (.int .i64 m))], h := [(300000, ⟨false, false, true, false, 1, q⟩)] }
noncomputable def r18_Islands_w0 (N : Nat) (F : AV → Heap → Option R) : St → Option R := loopW (r18_Islands_E N) [] N (r18_Islands_at N F [1, 1, 0, 1, 0] []) N
noncomputable def r18_Islands_l0 (N : Nat) (F : AV → Heap → Option R) (n : Nat) : St → Option R := loopAt (r18_Islands_E N) [] N (r18_Islands_at N F [1, 1, 0, 1, 0] []) n
theorem r18_Islands_q2_eq (N : Nat) (Q1 : St → Option R) (F : AV → Heap → Option R) (a : LA) (c : Nat) (e : Bool) (d : Bool) (b : Nat) : ∀ (n : Nat) (o : Bool) (j : Int) (f : Int) (g : LA), r18_Islands_l2 N F Q1 n (r18_Islands_s2 a c e d b o j f g) = (r18_Islands_q2 N (fun p l => Q1 (r18_Islands_s1 a c e d b p l)) (r18_Islands_r0 F) a c e d b n o j f g) := by
  intro n
  induction n with
  | zero => intros; kernel_rfl
  | succ n ih =>
    intro o j f g
    have e0 := funext fun o => funext fun j => funext fun f => funext fun g => (show r18_Islands_l2 N F Q1 n (r18_Islands_s2 a c e d b o j f g) = _ from ih o j f g)
    have hK : r18_Islands_l2 N F Q1 (n + 1) (r18_Islands_s2 a c e d b o j f g) = (r18_Islands_q2B N (fun p l => Q1 (r18_Islands_s1 a c e d b p l)) (r18_Islands_r0 F) a c e d b (fun o j f g => r18_Islands_l2 N F Q1 n (r18_Islands_s2 a c e d b o j f g)) o j f g) := by kernel_rfl
    exact hK.trans (by rw [e0]; rfl)
theorem r18_Islands_q1_eq (N : Nat)  (F : AV → Heap → Option R) (a : LA) (c : Nat) (e : Bool) (d : Bool) (b : Nat) : ∀ (n : Nat) (p : Bool) (l : LA), r18_Islands_l1 N F n (r18_Islands_s1 a c e d b p l) = (r18_Islands_q1 N (r18_Islands_r0 F) a c e d b n p l) := by
  intro n
  induction n with
  | zero => intros; kernel_rfl
  | succ n ih =>
    intro p l
    have e0 := funext fun p => funext fun l => (show r18_Islands_l1 N F n (r18_Islands_s1 a c e d b p l) = _ from ih p l)
    have e1 : (fun o j f g => r18_Islands_w2 N F (r18_Islands_l1 N F n) (r18_Islands_s2 a c e d b o j f g)) = (fun o j f g => (r18_Islands_q2 N (r18_Islands_q1 N (r18_Islands_r0 F) a c e d b n) (r18_Islands_r0 F) a c e d b N o j f g)) := by funext o; funext j; funext f; funext g; exact ((loopW_eq ..).trans (r18_Islands_q2_eq N (r18_Islands_l1 N F n) F a c e d b N o j f g)).trans (by rw [e0])
    have hK : r18_Islands_l1 N F (n + 1) (r18_Islands_s1 a c e d b p l) = (r18_Islands_q1B N (r18_Islands_r0 F) a c e d b (fun p l => r18_Islands_l1 N F n (r18_Islands_s1 a c e d b p l)) (fun o j f g => r18_Islands_w2 N F (r18_Islands_l1 N F n) (r18_Islands_s2 a c e d b o j f g)) p l) := by kernel_rfl
    exact hK.trans (by rw [e0, e1]; rfl)
theorem r18_Islands_q0_eq (N : Nat)  (F : AV → Heap → Option R) (i : Int) (a : LA) (c : Nat) (e : Bool) (d : Bool) : ∀ (n : Nat) (b : Nat) (m : Int) (q : LA), r18_Islands_l0 N F n (r18_Islands_s0 i a c e d b m q) = (r18_Islands_q0 N (r18_Islands_r0 F) i a c e d n b m q) := by
  intro n
  induction n with
  | zero => intros; kernel_rfl
  | succ n ih =>
    intro b m q
    have e0 := funext fun b => funext fun m => funext fun q => (show r18_Islands_l0 N F n (r18_Islands_s0 i a c e d b m q) = _ from ih b m q)
    have e1 := funext fun p => funext fun l => (show r18_Islands_w1 N F (r18_Islands_s1 a c e d b p l) = _ from (loopW_eq ..).trans (r18_Islands_q1_eq N F a c e d b N p l))
    have hK : r18_Islands_l0 N F (n + 1) (r18_Islands_s0 i a c e d b m q) = (r18_Islands_q0B N (r18_Islands_r0 F) i a c e d (fun b m q => r18_Islands_l0 N F n (r18_Islands_s0 i a c e d b m q)) (fun p l => r18_Islands_w1 N F (r18_Islands_s1 a c e d b p l)) b m q) := by kernel_rfl
    exact hK.trans (by rw [e0, e1]; rfl)
theorem r18_Islands_eq (N : Nat) (i : Int) (a : LA) (c : Nat) (e : Bool) (d : Bool) (F : AV → Heap → Option R) : execF Try.prog muts (r18_Islands_T N) r18_Islands_hs N 36 [(.int .i64 i), (.imm a c 2 e d)] [] F = (r18_Islands N i a c e d (r18_Islands_r0 F)) := by
  have e1 := funext fun b => funext fun m => funext fun q => (show r18_Islands_w0 N F (r18_Islands_s0 i a c e d b m q) = _ from (loopW_eq ..).trans (r18_Islands_q0_eq N F i a c e d N b m q))
  have hK : execF Try.prog muts (r18_Islands_T N) r18_Islands_hs N 36 [(.int .i64 i), (.imm a c 2 e d)] [] F = (r18_IslandsB N (r18_Islands_r0 F) (fun b m q => r18_Islands_w0 N F (r18_Islands_s0 i a c e d b m q)) i a c e d) := by kernel_rfl
  rw [r18_Islands_def]
  exact hK.trans (by rw [e1]; rfl)
noncomputable def r18_Islands_run (N : Nat) (args : List AV) (h : Heap) (k : AV → Heap → Option R) : Option R :=
  match args, h with
  | [(.int .i64 i), (.imm a c 2 e d)], [] => (r18_Islands N i a c e d (r18_Islands_r0 k))
  | _, _ => none
noncomputable def r18_Islands_Tw (N : Nat) : Tw where
  runK := r18_Islands_run N
  eq := by
    intro R args h k
    unfold r18_Islands_run
    split
    · exact (r18_Islands_eq ..).symm.trans ((execF_bind ..).trans (congrArg (Option.bind · _) (r18_Islands_eq ..)))
    · rfl
theorem r18_Islands_ok (N : Nat) : TwOk Try.prog 36 (r18_Islands_Tw N) := by
  intro args h res ab ak
  have hh : r18_Islands_run N args h (fun v ab => some (v, ab)) = some (res, ab) := ak
  unfold r18_Islands_run at hh
  split at hh
  · exact execF_sound (T := r18_Islands_T N) trivial follows ((r18_Islands_eq ..).trans hh)
  · cases hh
noncomputable def r18_count_q0B (N : Nat)  (r0 : Int → Option R) (c : LA) (a : Nat) (d : Bool) (e : Bool) (k0 : Int → Int → Option R)  (f : Int) (b : Int) : Option R :=
  (cond (decide (b < ((a : Nat) : Int))) (cond (inIdx b a) (rdI .i64 (List.drop ((Int.toNat b) * 1) c) fun i => (cond (i == b) (k0 (IntKind.wrap .i64 (f + (1 : Int))) (IntKind.wrap .i64 (b + (1 : Int)))) (k0 f (IntKind.wrap .i64 (b + (1 : Int)))))) none) (r0 f))
noncomputable def r18_count_q0 (N : Nat)  (r0 : Int → Option R) (c : LA) (a : Nat) (d : Bool) (e : Bool) : Nat → Int → Int → Option R
  | 0, _, _ => none
  | n + 1, f, b => (r18_count_q0B N r0 c a d e (r18_count_q0 N r0 c a d e n) f b)
noncomputable def r18_countB (N : Nat) (r0 : Int → Option R) (q0 : Int → Int → Option R) (c : LA) (a : Nat) (d : Bool) (e : Bool) : Option R :=
  (q0 0 0)
noncomputable def r18_counti (N : Nat) (c : LA) (a : Nat) (d : Bool) (e : Bool) (r0 : Int → Option R) : Option R := (r18_countB N r0 (fun f b => (r18_count_q0 N r0 c a d e N f b)) c a d e)
noncomputable def r18_count := (shut (@r18_counti R)).1
theorem r18_count_def : @r18_count R = @r18_counti R := (shut _).2
noncomputable def r18_count_hs : Hints := { H := (hS (hR [0]) (hS (hR [0,3]) (hS (hS (hR [0,3,4]) (hN [3] (hN [0,3,4] (hS (hS (hR [0,3,4,8]) (hN [0,3,4] hL hL)) (hS (hN [0,3,4] (hS (hR [0,3,4,16]) (hN [0,3,4] (hR [0,3,4]) hL)) hL) (hR [0,3,4]))) hL) hL)) (hS (hR [2]) hL)))), nils := [], modes := [], free := [], cob := [] }
noncomputable def r18_count_T (N : Nat) : List (Nat × Tw) := []
noncomputable def r18_count_E (N : Nat) : Env := mkE 20 r18_count_hs (r18_count_T N)
noncomputable def r18_count_fin (N : Nat) (F : AV → Heap → Option R) := afinish (r18_count_E N) Try.f35 r18_count_hs.modes [] F
noncomputable def r18_count_at (N : Nat) (F : AV → Heap → Option R) := atF (r18_count_E N) [] N Try.f35 r18_count_hs (r18_count_fin N F)
noncomputable def r18_count_r0  (F : AV → Heap → Option R) : Int → Option R := (fun j => F (.int .i64 j) [])
noncomputable def r18_count_s0 (c : LA) (a : Nat) (d : Bool) (e : Bool) (f : Int) (b : Int) : St := { s := [(0, (.imm c a 1 d e)), (3, (.int .i64 f)), (4, (.int .i64 b))], h := [] }
noncomputable def r18_count_w0 (N : Nat) (F : AV → Heap → Option R) : St → Option R := loopW (r18_count_E N) [] N (r18_count_at N F [1, 1, 0, 1, 0] []) N
noncomputable def r18_count_l0 (N : Nat) (F : AV → Heap → Option R) (n : Nat) : St → Option R := loopAt (r18_count_E N) [] N (r18_count_at N F [1, 1, 0, 1, 0] []) n
theorem r18_count_q0_eq (N : Nat)  (F : AV → Heap → Option R) (c : LA) (a : Nat) (d : Bool) (e : Bool) : ∀ (n : Nat) (f : Int) (b : Int), r18_count_l0 N F n (r18_count_s0 c a d e f b) = (r18_count_q0 N (r18_count_r0 F) c a d e n f b) := by
  intro n
  induction n with
  | zero => intros; kernel_rfl
  | succ n ih =>
    intro f b
    have e0 := funext fun f => funext fun b => (show r18_count_l0 N F n (r18_count_s0 c a d e f b) = _ from ih f b)
    have hK : r18_count_l0 N F (n + 1) (r18_count_s0 c a d e f b) = (r18_count_q0B N (r18_count_r0 F) c a d e (fun f b => r18_count_l0 N F n (r18_count_s0 c a d e f b)) f b) := by kernel_rfl
    exact hK.trans (by rw [e0]; rfl)
theorem r18_count_eq (N : Nat) (c : LA) (a : Nat) (d : Bool) (e : Bool) (F : AV → Heap → Option R) : execF Try.prog muts (r18_count_T N) r18_count_hs N 35 [(.imm c a 1 d e)] [] F = (r18_count N c a d e (r18_count_r0 F)) := by
  have e1 := funext fun f => funext fun b => (show r18_count_w0 N F (r18_count_s0 c a d e f b) = _ from (loopW_eq ..).trans (r18_count_q0_eq N F c a d e N f b))
  have hK : execF Try.prog muts (r18_count_T N) r18_count_hs N 35 [(.imm c a 1 d e)] [] F = (r18_countB N (r18_count_r0 F) (fun f b => r18_count_w0 N F (r18_count_s0 c a d e f b)) c a d e) := by kernel_rfl
  rw [r18_count_def]
  exact hK.trans (by rw [e1]; rfl)
noncomputable def r18_count_run (N : Nat) (args : List AV) (h : Heap) (k : AV → Heap → Option R) : Option R :=
  match args, h with
  | [(.imm c a 1 d e)], [] => (r18_count N c a d e (r18_count_r0 k))
  | _, _ => none
noncomputable def r18_count_Tw (N : Nat) : Tw where
  runK := r18_count_run N
  eq := by
    intro R args h k
    unfold r18_count_run
    split
    · exact (r18_count_eq ..).symm.trans ((execF_bind ..).trans (congrArg (Option.bind · _) (r18_count_eq ..)))
    · rfl
theorem r18_count_ok (N : Nat) : TwOk Try.prog 35 (r18_count_Tw N) := by
  intro args h res g l
  have hh : r18_count_run N args h (fun v g => some (v, g)) = some (res, g) := l
  unfold r18_count_run at hh
  split at hh
  · exact execF_sound (T := r18_count_T N) trivial follows ((r18_count_eq ..).trans hh)
  · cases hh
noncomputable def r18_Separated_q0B (N : Nat)  (r0 : Bool → Option R) (e : Int) (a : LA) (c : Nat) (l : Bool) (f : Bool) (g : LA) (i : Nat) (m : Bool) (j : Bool) (k0 : Nat → Int → LA → Option R)  (d : Nat) (b : Int) (o : LA) : Option R :=
  (cond (decide (b < ((c : Nat) : Int))) (r18_has N g i false j b (fun t => (cond (!t) (cond (inIdx b c) (cond (Nat.ble 2 (List.length (List.drop ((Int.toNat b) * 2) a))) (cond ((!f) || (plainZ (List.take 2 (List.drop ((Int.toNat b) * 2) a)))) (cond ((Nat.beq (List.length (List.take 2 (List.drop ((Int.toNat b) * 2) a))) 2) && (Nat.ble 2 2)) (cond ((Nat.ble (d + 1) 140737488355328) && (Nat.ble ((d + 1) * 16) 140737488355328)) (k0 (d + 1) (IntKind.wrap .i64 (b + (1 : Int))) ((List.take (d * 2) o) ++ (List.take 2 (setCells [(.int .i64 0), (.int .i64 0)] 0 (List.take 2 (List.drop ((Int.toNat b) * 2) a)))))) none) none) none) none) none) (k0 d (IntKind.wrap .i64 (b + (1 : Int))) o)))) (r18_Islands N e (List.take (d * 2) o) d false true (fun q u => (r18_count N (List.take (q * 1) u) q false true (fun w => (r18_Islands N e a c false f (fun r x => (r18_count N (List.take (r * 1) x) r false true (fun y => (r0 (decide (w > y))))))))))))
noncomputable def r18_Separated_q0 (N : Nat)  (r0 : Bool → Option R) (e : Int) (a : LA) (c : Nat) (l : Bool) (f : Bool) (g : LA) (i : Nat) (m : Bool) (j : Bool) : Nat → Nat → Int → LA → Option R
  | 0, _, _, _ => none
  | n + 1, d, b, o => (r18_Separated_q0B N r0 e a c l f g i m j (r18_Separated_q0 N r0 e a c l f g i m j n) d b o)
noncomputable def r18_SeparatedB (N : Nat) (r0 : Bool → Option R) (q0 : Nat → Int → LA → Option R) (e : Int) (a : LA) (c : Nat) (l : Bool) (f : Bool) (g : LA) (i : Nat) (m : Bool) (j : Bool) : Option R :=
  (q0 0 0 [])
noncomputable def r18_Separatedi (N : Nat) (e : Int) (a : LA) (c : Nat) (l : Bool) (f : Bool) (g : LA) (i : Nat) (m : Bool) (j : Bool) (r0 : Bool → Option R) : Option R := (r18_SeparatedB N r0 (fun d b o => (r18_Separated_q0 N r0 e a c l f g i m j N d b o)) e a c l f g i m j)
noncomputable def r18_Separated := (shut (@r18_Separatedi R)).1
theorem r18_Separated_def : @r18_Separated R = @r18_Separatedi R := (shut _).2
noncomputable def r18_Separated_hs : Hints := { H := (hS (hR [0,1,2]) (hS (hR [0,1,2,7]) (hS (hS (hR [0,1,2,7,8]) (hN [0,1,7] (hN [0,1,2,7,8] (hS (hS (hR [0,1,2,7,8,12]) (hN [0,1,2,7,8] hL hL)) (hS (hN [0,1,2,7,8] (hS (hR [0,1,2,7,8,18]) (hN [0,1,2,7,8] (hR [0,1,2,7,8]) hL)) hL) (hR [0,1,2,7,8]))) hL) hL)) (hS (hR [6]) hL)))), nils := [(7, 2)], modes := [], free := [], cob := [] }
noncomputable def r18_Separated_T (N : Nat) : List (Nat × Tw) := [(34, r18_has_Tw N), (36, r18_Islands_Tw N), (35, r18_count_Tw N)]
noncomputable def r18_Separated_E (N : Nat) : Env := mkE 35 r18_Separated_hs (r18_Separated_T N)
noncomputable def r18_Separated_fin (N : Nat) (F : AV → Heap → Option R) := afinish (r18_Separated_E N) Try.f10 r18_Separated_hs.modes [] F
noncomputable def r18_Separated_at (N : Nat) (F : AV → Heap → Option R) := atF (r18_Separated_E N) [] N Try.f10 r18_Separated_hs (r18_Separated_fin N F)
noncomputable def r18_Separated_r0  (F : AV → Heap → Option R) : Bool → Option R := (fun z => F (.bool z) [])
noncomputable def r18_Separated_s0 (e : Int) (a : LA) (c : Nat) (l : Bool) (f : Bool) (g : LA) (i : Nat) (m : Bool) (j : Bool) (d : Nat) (b : Int) (o : LA) : St := { s := [(0, (.int .i64 e)), (1, (.imm a c 2 l f)), (2, (.imm g i 1 m j)), (7, (.own 300000 0 d)), (8, (.int .i64 b))], h := [(300000, ⟨false, false, true, false, 2, o⟩)] }
noncomputable def r18_Separated_w0 (N : Nat) (F : AV → Heap → Option R) : St → Option R := loopW (r18_Separated_E N) [] N (r18_Separated_at N F [1, 1, 0, 1, 0] []) N
noncomputable def r18_Separated_l0 (N : Nat) (F : AV → Heap → Option R) (n : Nat) : St → Option R := loopAt (r18_Separated_E N) [] N (r18_Separated_at N F [1, 1, 0, 1, 0] []) n
theorem r18_Separated_q0_eq (N : Nat)  (F : AV → Heap → Option R) (e : Int) (a : LA) (c : Nat) (l : Bool) (f : Bool) (g : LA) (i : Nat) (m : Bool) (j : Bool) : ∀ (n : Nat) (d : Nat) (b : Int) (o : LA), r18_Separated_l0 N F n (r18_Separated_s0 e a c l f g i m j d b o) = (r18_Separated_q0 N (r18_Separated_r0 F) e a c l f g i m j n d b o) := by
  intro n
  induction n with
  | zero => intros; kernel_rfl
  | succ n ih =>
    intro d b o
    have e0 := funext fun d => funext fun b => funext fun o => (show r18_Separated_l0 N F n (r18_Separated_s0 e a c l f g i m j d b o) = _ from ih d b o)
    have hK : r18_Separated_l0 N F (n + 1) (r18_Separated_s0 e a c l f g i m j d b o) = (r18_Separated_q0B N (r18_Separated_r0 F) e a c l f g i m j (fun d b o => r18_Separated_l0 N F n (r18_Separated_s0 e a c l f g i m j d b o)) d b o) := by kernel_rfl
    exact hK.trans (by rw [e0]; rfl)
theorem r18_Separated_eq (N : Nat) (e : Int) (a : LA) (c : Nat) (l : Bool) (f : Bool) (g : LA) (i : Nat) (m : Bool) (j : Bool) (F : AV → Heap → Option R) : execF Try.prog muts (r18_Separated_T N) r18_Separated_hs N 10 [(.int .i64 e), (.imm a c 2 l f), (.imm g i 1 m j)] [] F = (r18_Separated N e a c l f g i m j (r18_Separated_r0 F)) := by
  have e1 := funext fun d => funext fun b => funext fun o => (show r18_Separated_w0 N F (r18_Separated_s0 e a c l f g i m j d b o) = _ from (loopW_eq ..).trans (r18_Separated_q0_eq N F e a c l f g i m j N d b o))
  have hK : execF Try.prog muts (r18_Separated_T N) r18_Separated_hs N 10 [(.int .i64 e), (.imm a c 2 l f), (.imm g i 1 m j)] [] F = (r18_SeparatedB N (r18_Separated_r0 F) (fun d b o => r18_Separated_w0 N F (r18_Separated_s0 e a c l f g i m j d b o)) e a c l f g i m j) := by kernel_rfl
  rw [r18_Separated_def]
  exact hK.trans (by rw [e1]; rfl)
noncomputable def r18_Separated_run (N : Nat) (args : List AV) (h : Heap) (k : AV → Heap → Option R) : Option R :=
  match args, h with
  | [(.int .i64 e), (.imm a c 2 l f), (.imm g i 1 m j)], [] => (r18_Separated N e a c l f g i m j (r18_Separated_r0 k))
  | _, _ => none
noncomputable def r18_Separated_Tw (N : Nat) : Tw where
  runK := r18_Separated_run N
  eq := by
    intro R args h k
    unfold r18_Separated_run
    split
    · exact (r18_Separated_eq ..).symm.trans ((execF_bind ..).trans (congrArg (Option.bind · _) (r18_Separated_eq ..)))
    · rfl
theorem r18_Separated_ok (N : Nat) : TwOk Try.prog 10 (r18_Separated_Tw N) := by
  intro args h res p aa
  have hh : r18_Separated_run N args h (fun v p => some (v, p)) = some (res, p) := aa
  unfold r18_Separated_run at hh
  split at hh
  · exact execF_sound (T := r18_Separated_T N) ⟨r18_has_ok N, r18_Islands_ok N, r18_count_ok N, trivial⟩ follows ((r18_Separated_eq ..).trans hh)
  · cases hh
noncomputable def r18_Check_q1B (N : Nat) (k0 : Int → LA → Option R) (r0 : LA → Int → Option R) (b : Bool) (a : LA)   (q : Int) (ak : LA) : Option R :=
  (cond (Nat.ble 8 (List.length a)) (fi_name N (List.take 8 a) b 1 q ak (fun an => (cond (Nat.ble 8 (List.length a)) (rdL 3 (List.drop 2 a) fun ao ap => (cond (inIdx q ap) (rdL 1 (List.drop 1 (List.drop ((Int.toNat q) * 3) ao)) fun aq ar => (fi_hourly N (List.take 8 a) b aq ar false b 0 1048576 1 q 1 an (fun au => (rdL 3 (List.drop 2 a) fun av aw => (cond (inIdx q aw) (rdI .i64 (List.drop 2 (List.drop ((Int.toNat q) * 3) av)) fun ax => (r18_between N 0 1048576 [(.int .i64 ax)] 1 false true (fun ay => (fi_need N ay 1 q 2 3 au (fun az => (k0 (IntKind.wrap .i64 (q + (1 : Int))) az)))))) none))))) none)) none))) none)
noncomputable def r18_Check_q1 (N : Nat) (k0 : Int → LA → Option R) (r0 : LA → Int → Option R) (b : Bool) (a : LA) (q : Int) (ak : LA) : Option R := (r18_Check_q1B N k0 r0 b a q ak)
noncomputable def r18_Check_q10B (N : Nat) (k7 : Int → LA → Option R) (k9 : Int → Int → LA → Option R) (r0 : LA → Int → Option R) (d : Nat) (e : Nat) (b : Bool) (a : LA) (f : LA) (g : LA) (k10 : Int → Int → Nat → Int → LA → LA → Option R)  (p : Int) (l : Int) (j : Nat) (m : Int) (r : LA) (t : LA) : Option R :=
  (cond (decide (m < ((e : Nat) : Int))) (rdL 4 (List.drop 7 a) fun ba bb => (cond (inIdx l bb) (rdL 1 (List.drop 1 (List.drop ((Int.toNat l) * 4) ba)) fun bc bd => (cond (inIdx m e) (rdI .i64 (List.drop (0 + ((Int.toNat m) * 1)) g) fun be => (r18_has N bc bd false b be (fun bf => (cond bf (cond ((Nat.ble (j + 1) 140737488355328) && (Nat.ble ((j + 1) * 8) 140737488355328)) (k10 p l (j + 1) (IntKind.wrap .i64 (m + (1 : Int))) r ((List.take (j * 1) t) ++ [(.int .i64 m)])) none) (k10 p l j (IntKind.wrap .i64 (m + (1 : Int))) r t))))) none)) none)) (rdL 3 (List.drop 2 a) fun ck bg => (r18_Separated N ((bg : Nat) : Int) (List.take (d * 2) f) d false true (List.take (j * 1) t) j false true (fun bh => (fi_need N (!bh) 6 l p 13 r (fun bi => (k9 p (IntKind.wrap .i64 (l + (1 : Int))) bi)))))))
noncomputable def r18_Check_q10 (N : Nat) (k7 : Int → LA → Option R) (k9 : Int → Int → LA → Option R) (r0 : LA → Int → Option R) (d : Nat) (e : Nat) (b : Bool) (a : LA) (f : LA) (g : LA) : Nat → Int → Int → Nat → Int → LA → LA → Option R
  | 0, _, _, _, _, _, _ => none
  | n + 1, p, l, j, m, r, t => (r18_Check_q10B N k7 k9 r0 d e b a f g (r18_Check_q10 N k7 k9 r0 d e b a f g n) p l j m r t)
noncomputable def r18_Check_q9B (N : Nat) (k7 : Int → LA → Option R) (r0 : LA → Int → Option R) (d : Nat) (e : Nat) (b : Bool) (a : LA) (f : LA) (g : LA) (k9 : Int → Int → LA → Option R) (q10 : Int → Int → Nat → Int → LA → LA → Option R) (u : Int) (w : Int) (x : LA) : Option R :=
  (rdL 4 (List.drop 7 a) fun cl bj => (cond (decide (w < ((bj : Nat) : Int))) (q10 u w 0 0 x []) (k7 (IntKind.wrap .i64 (u + (1 : Int))) x)))
noncomputable def r18_Check_q9 (N : Nat) (k7 : Int → LA → Option R) (r0 : LA → Int → Option R) (d : Nat) (e : Nat) (b : Bool) (a : LA) (f : LA) (g : LA) : Nat → Int → Int → LA → Option R
  | 0, _, _, _ => none
  | n + 1, u, w, x => (r18_Check_q9B N k7 r0 d e b a f g (r18_Check_q9 N k7 r0 d e b a f g n) (fun p l j m r t => (r18_Check_q10 N k7 (r18_Check_q9 N k7 r0 d e b a f g n) r0 d e b a f g N p l j m r t)) u w x)
noncomputable def r18_Check_q8B (N : Nat) (k7 : Int → LA → Option R) (r0 : LA → Int → Option R) (b : Bool) (a : LA)  (q9 : Nat → Nat → LA → LA → Int → Int → LA → Option R) (aj : Int) (al : LA) : Option R :=
  (cond (Nat.ble 8 (List.length a)) (r18_Pairs N (List.take 8 a) b aj (fun d e f g => (q9 d e f g aj 0 al))) none)
noncomputable def r18_Check_q8 (N : Nat) (k7 : Int → LA → Option R) (r0 : LA → Int → Option R) (b : Bool) (a : LA) (aj : Int) (al : LA) : Option R := (r18_Check_q8B N k7 r0 b a (fun d e f g u w x => (r18_Check_q9 N k7 r0 d e b a f g N u w x)) aj al)
noncomputable def r18_Check_q7B (N : Nat)  (r0 : LA → Int → Option R) (b : Bool) (a : LA) (k7 : Int → LA → Option R) (q8 : Int → LA → Option R) (i : Int) (c : LA) : Option R :=
  (rdI .i64 a fun bk => (cond ((decide (i < bk)) == true) (rdI .i64 (List.drop 3 c) fun bl => (cond (cond true (bl == (0 : Int)) false) (q8 i c) (cond (Nat.ble 3 (List.length c)) (rdI .i64 (List.drop 3 c) fun bm => (cond ((Nat.beq (List.length (List.take 3 c)) 3) && ((Nat.ble 3 3) && (!false))) (cond (Nat.ble 3 (List.length (setCells [(.int .i64 0), (.int .i64 0), (.int .i64 0)] 0 (List.take 3 c)))) (r0 (List.take 3 (setCells [(.int .i64 0), (.int .i64 0), (.int .i64 0)] 0 (List.take 3 c))) bm) none) none)) none))) (cond (Nat.ble 3 (List.length c)) (rdI .i64 (List.drop 3 c) fun bn => (cond ((Nat.beq (List.length (List.take 3 c)) 3) && ((Nat.ble 3 3) && (!false))) (cond (Nat.ble 3 (List.length (setCells [(.int .i64 0), (.int .i64 0), (.int .i64 0)] 0 (List.take 3 c)))) (r0 (List.take 3 (setCells [(.int .i64 0), (.int .i64 0), (.int .i64 0)] 0 (List.take 3 c))) bn) none) none)) none)))
noncomputable def r18_Check_q7 (N : Nat)  (r0 : LA → Int → Option R) (b : Bool) (a : LA) : Nat → Int → LA → Option R
  | 0, _, _ => none
  | n + 1, i, c => (r18_Check_q7B N r0 b a (r18_Check_q7 N r0 b a n) (fun aj al => (r18_Check_q8 N (r18_Check_q7 N r0 b a n) r0 b a aj al)) i c)
noncomputable def r18_Check_q6B (N : Nat)  (r0 : LA → Int → Option R) (b : Bool) (a : LA) (k6 : Int → LA → Option R) (q7 : Int → LA → Option R) (ae : Int) (z : LA) : Option R :=
  (rdL 4 (List.drop 7 a) fun cm bo => (cond ((decide (ae < ((bo : Nat) : Int))) == true) (rdI .i64 (List.drop 3 z) fun bp => (cond (cond true (bp == (0 : Int)) false) (cond (Nat.ble 8 (List.length a)) (fi_outage N (List.take 8 a) b ae z (fun bq => (k6 (IntKind.wrap .i64 (ae + (1 : Int))) bq))) none) (q7 0 z))) (q7 0 z)))
noncomputable def r18_Check_q6 (N : Nat)  (r0 : LA → Int → Option R) (b : Bool) (a : LA) : Nat → Int → LA → Option R
  | 0, _, _ => none
  | n + 1, ae, z => (r18_Check_q6B N r0 b a (r18_Check_q6 N r0 b a n) (fun i c => (r18_Check_q7 N r0 b a N i c)) ae z)
noncomputable def r18_Check_q5B (N : Nat)  (r0 : LA → Int → Option R) (b : Bool) (a : LA) (k5 : Int → LA → Option R) (q6 : Int → LA → Option R) (af : Int) (aa : LA) : Option R :=
  (rdL 5 (List.drop 6 a) fun cn br => (cond ((decide (af < ((br : Nat) : Int))) == true) (rdI .i64 (List.drop 3 aa) fun bs => (cond (cond true (bs == (0 : Int)) false) (cond (Nat.ble 8 (List.length a)) (fi_tie N (List.take 8 a) b af aa (fun bt => (k5 (IntKind.wrap .i64 (af + (1 : Int))) bt))) none) (q6 0 aa))) (q6 0 aa)))
noncomputable def r18_Check_q5 (N : Nat)  (r0 : LA → Int → Option R) (b : Bool) (a : LA) : Nat → Int → LA → Option R
  | 0, _, _ => none
  | n + 1, af, aa => (r18_Check_q5B N r0 b a (r18_Check_q5 N r0 b a n) (fun ae z => (r18_Check_q6 N r0 b a N ae z)) af aa)
noncomputable def r18_Check_q4B (N : Nat)  (r0 : LA → Int → Option R) (b : Bool) (a : LA) (k4 : Int → LA → Option R) (q5 : Int → LA → Option R) (ag : Int) (ab : LA) : Option R :=
  (rdL 9 (List.drop 5 a) fun co bu => (cond ((decide (ag < ((bu : Nat) : Int))) == true) (rdI .i64 (List.drop 3 ab) fun bv => (cond (cond true (bv == (0 : Int)) false) (cond (Nat.ble 8 (List.length a)) (fi_store N (List.take 8 a) b ag ab (fun bw => (k4 (IntKind.wrap .i64 (ag + (1 : Int))) bw))) none) (q5 0 ab))) (q5 0 ab)))
noncomputable def r18_Check_q4 (N : Nat)  (r0 : LA → Int → Option R) (b : Bool) (a : LA) : Nat → Int → LA → Option R
  | 0, _, _ => none
  | n + 1, ag, ab => (r18_Check_q4B N r0 b a (r18_Check_q4 N r0 b a n) (fun af aa => (r18_Check_q5 N r0 b a N af aa)) ag ab)
noncomputable def r18_Check_q3B (N : Nat)  (r0 : LA → Int → Option R) (b : Bool) (a : LA) (k3 : Int → LA → Option R) (q4 : Int → LA → Option R) (ah : Int) (ac : LA) : Option R :=
  (rdL 22 (List.drop 4 a) fun cp bx => (cond ((decide (ah < ((bx : Nat) : Int))) == true) (rdI .i64 (List.drop 3 ac) fun bz => (cond (cond true (bz == (0 : Int)) false) (cond (Nat.ble 8 (List.length a)) (fi_unit N (List.take 8 a) b ah ac (fun ca => (k3 (IntKind.wrap .i64 (ah + (1 : Int))) ca))) none) (q4 0 ac))) (q4 0 ac)))
noncomputable def r18_Check_q3 (N : Nat)  (r0 : LA → Int → Option R) (b : Bool) (a : LA) : Nat → Int → LA → Option R
  | 0, _, _ => none
  | n + 1, ah, ac => (r18_Check_q3B N r0 b a (r18_Check_q3 N r0 b a n) (fun ag ab => (r18_Check_q4 N r0 b a N ag ab)) ah ac)
noncomputable def r18_Check_q2B (N : Nat)  (r0 : LA → Int → Option R) (b : Bool) (a : LA) (k2 : Int → LA → Option R) (q3 : Int → LA → Option R) (ai : Int) (ad : LA) : Option R :=
  (rdL 12 (List.drop 3 a) fun cq cb => (cond ((decide (ai < ((cb : Nat) : Int))) == true) (rdI .i64 (List.drop 3 ad) fun cc => (cond (cond true (cc == (0 : Int)) false) (cond (Nat.ble 8 (List.length a)) (fi_line N (List.take 8 a) b ai ad (fun cd => (k2 (IntKind.wrap .i64 (ai + (1 : Int))) cd))) none) (q3 0 ad))) (q3 0 ad)))
noncomputable def r18_Check_q2 (N : Nat)  (r0 : LA → Int → Option R) (b : Bool) (a : LA) : Nat → Int → LA → Option R
  | 0, _, _ => none
  | n + 1, ai, ad => (r18_Check_q2B N r0 b a (r18_Check_q2 N r0 b a n) (fun ah ac => (r18_Check_q3 N r0 b a N ah ac)) ai ad)
noncomputable def r18_Check_q0B (N : Nat)  (r0 : LA → Int → Option R) (b : Bool) (a : LA) (k0 : Int → LA → Option R) (q1 : Int → LA → Option R) (q2 : Int → LA → Option R) (y : Int) (o : LA) : Option R :=
  (rdL 3 (List.drop 2 a) fun cr ce => (cond ((decide (y < ((ce : Nat) : Int))) == true) (rdI .i64 (List.drop 3 o) fun cf => (cond (cond true (cf == (0 : Int)) false) (q1 y o) (q2 0 o))) (q2 0 o)))
noncomputable def r18_Check_q0 (N : Nat)  (r0 : LA → Int → Option R) (b : Bool) (a : LA) : Nat → Int → LA → Option R
  | 0, _, _ => none
  | n + 1, y, o => (r18_Check_q0B N r0 b a (r18_Check_q0 N r0 b a n) (fun q ak => (r18_Check_q1 N (r18_Check_q0 N r0 b a n) r0 b a q ak)) (fun ai ad => (r18_Check_q2 N r0 b a N ai ad)) y o)
noncomputable def r18_CheckB (N : Nat) (r0 : LA → Int → Option R) (q0 : Int → LA → Option R) (a : LA) (b : Bool) : Option R :=
  (cond (Nat.ble 8 (List.length a)) (fi_frame N (List.take 8 a) b [(.int .i64 0), (.int .i64 0), (.int .i64 0), (.int .i64 0)] (fun cg => (q0 0 cg))) none)
noncomputable def r18_Checki (N : Nat) (a : LA) (b : Bool) (r0 : LA → Int → Option R) : Option R := (r18_CheckB N r0 (fun y o => (r18_Check_q0 N r0 b a N y o)) a b)
noncomputable def r18_Check := (shut (@r18_Checki R)).1
theorem r18_Check_def : @r18_Check R = @r18_Checki R := (shut _).2
noncomputable def r18_Check_hs : Hints := { H := (hS (hR [1,2]) (hS (hR [1,2,4]) (hS (hR [1,2,4]) (hS (hS (hR [1,2,4,5]) (hN [1,2,4] (hN [1,2,4,5] (hJ (hS (hR [1,2,4,5,33]) (hN [1,2,4,5] hL hL)) (hS (hN [1,2,4,5] (hS (hR [1,2,4,5]) (hS (hR [1,2,4,5]) (hR [1,2,4,5]))) hL) (hR [1,2,4,5]))) hL) hL)) (hS (hS (hR [1,2,4,6]) (hN [1,2,4] (hN [1,2,4,6] (hS (hS (hR [1,2,4,6,72]) (hN [1,2,4,6] hL hL)) (hS (hN [1,2,4,6] (hR [1,2,4,6]) hL) (hR [1,2,4,6]))) hL) hL)) (hS (hS (hR [1,2,4,7]) (hN [1,2,4] (hN [1,2,4,7] (hS (hS (hR [1,2,4,7,90]) (hN [1,2,4,7] hL hL)) (hS (hN [1,2,4,7] (hR [1,2,4,7]) hL) (hR [1,2,4,7]))) hL) hL)) (hS (hS (hR [1,2,4,8]) (hN [1,2,4] (hN [1,2,4,8] (hS (hS (hR [1,2,4,8,108]) (hN [1,2,4,8] hL hL)) (hS (hN [1,2,4,8] (hR [1,2,4,8]) hL) (hR [1,2,4,8]))) hL) hL)) (hS (hS (hR [1,2,4,9]) (hN [1,2,4] (hN [1,2,4,9] (hS (hS (hR [1,2,4,9,126]) (hN [1,2,4,9] hL hL)) (hS (hN [1,2,4,9] (hR [1,2,4,9]) hL) (hR [1,2,4,9]))) hL) hL)) (hS (hS (hR [1,2,4,10]) (hN [1,2,4] (hN [1,2,4,10] (hS (hS (hR [1,2,4,10,144]) (hN [1,2,4,10] hL hL)) (hS (hN [1,2,4,10] (hR [1,2,4,10]) hL) (hR [1,2,4,10]))) hL) hL)) (hS (hS (hR [1,2,4,11]) (hN [2,4] (hN [1,2,4,11] (hJ (hS (hR [1,2,4,11,161]) (hN [1,2,4,11] hL hL)) (hS (hN [1,2,4,11] (hS (hR [1,2,4,11,12,13]) (hS (hR [1,2,4,11,12,13,14]) (hN [1,2,4,11] (hN [1,2,4,11,12,13,14] (hS (hS (hR [1,2,4,11,12,13,14,174]) (hN [1,2,4,11,12,13,14] hL hL)) (hS (hN [1,2,4,11,12,13,14] (hS (hR [1,2,4,11,12,13,14,15]) (hS (hS (hR [1,2,4,11,12,13,14,15,16]) (hN [1,2,4,11,12,13,14,15] (hN [1,2,4,11,12,13,14,15,16] (hS (hS (hR [1,2,4,11,12,13,14,15,16,180]) (hN [1,2,4,11,12,13,14,15,16] hL hL)) (hS (hN [1,2,4,11,12,13,14,15,16] (hS (hR [1,2,4,11,12,13,14,15,16,193]) (hN [1,2,4,11,12,13,14,15,16] (hR [1,2,4,11,12,13,14,15,16]) hL)) hL) (hR [1,2,4,11,12,13,14,15,16]))) hL) hL)) (hR [1,2,4,11,12,13,14]))) hL) (hR [1,2,4,11,12,13,14]))) hL) hL))) hL) (hR [1,2,4,11]))) hL) hL)) (hS (hR [2,3]) hL))))))))))), nils := [(15, 1)], modes := [(3, 0), (0, 0)], free := [], cob := [] }
noncomputable def r18_Check_T (N : Nat) : List (Nat × Tw) := [(41, fi_frame_Tw N), (42, fi_name_Tw N), (43, fi_hourly_Tw N), (45, r18_between_Tw N), (44, fi_need_Tw N), (46, fi_line_Tw N), (47, fi_unit_Tw N), (48, fi_store_Tw N), (49, fi_tie_Tw N), (50, fi_outage_Tw N), (9, r18_Pairs_Tw N), (34, r18_has_Tw N), (10, r18_Separated_Tw N)]
noncomputable def r18_Check_E (N : Nat) : Env := mkE 217 r18_Check_hs (r18_Check_T N)
noncomputable def r18_Check_fin (N : Nat) (F : AV → Heap → Option R) := afinish (r18_Check_E N) Try.f23 r18_Check_hs.modes [] F
noncomputable def r18_Check_at (N : Nat) (F : AV → Heap → Option R) := atF (r18_Check_E N) [] N Try.f23 r18_Check_hs (r18_Check_fin N F)
noncomputable def r18_Check_r0  (F : AV → Heap → Option R) : LA → Int → Option R := (fun ch ci => F (.tup [(.pagg ch false), (.int .i64 ci)]) [])
noncomputable def r18_Check_s1 (b : Bool) (a : LA) (q : Int) (ak : LA) : St := { s := [(1, (.optr 300000 0)), (2, (.optr 300001 0)), (4, (.optr 300002 0)), (5, (.int .i64 q))], h := [(300000, ⟨false, false, true, b, 0, a⟩), (300001, ⟨false, false, true, false, 0, [(.int .i64 0), (.int .i64 0), (.int .i64 0)]⟩), (300002, ⟨false, false, true, false, 0, ak⟩)] }
noncomputable def r18_Check_j1 (N : Nat) (F : AV → Heap → Option R) (Q0 : St → Option R) : St → Option R := joinAt (r18_Check_E N) [] N (r18_Check_at N F [1, 1, 1, 0, 1, 0, 0, 1] [Q0])
noncomputable def r18_Check_i1 (N : Nat) (F : AV → Heap → Option R) (Q0 : St → Option R) : St → Option R := joinIn (r18_Check_E N) [] N (r18_Check_at N F [1, 1, 1, 0, 1, 0, 0, 1] [Q0])
noncomputable def r18_Check_s10 (d : Nat) (e : Nat) (b : Bool) (a : LA) (f : LA) (g : LA) (p : Int) (l : Int) (j : Nat) (m : Int) (r : LA) (t : LA) : St := { s := [(1, (.optr 300000 0)), (2, (.optr 300001 0)), (4, (.optr 300002 0)), (11, (.int .i64 p)), (12, (.own 300003 0 d)), (13, (.own 300004 0 e)), (14, (.int .i64 l)), (15, (.own 300005 0 j)), (16, (.int .i64 m))], h := [(300000, ⟨false, false, true, b, 0, a⟩), (300001, ⟨false, false, true, false, 0, [(.int .i64 0), (.int .i64 0), (.int .i64 0)]⟩), (300002, ⟨false, false, true, false, 0, r⟩), (300003, ⟨false, false, true, false, 2, f⟩), (300004, ⟨false, false, true, false, 1, g⟩), (300005, ⟨false, false, true, false, 1, t⟩)] }
noncomputable def r18_Check_w10 (N : Nat) (F : AV → Heap → Option R) (Q7 : St → Option R) (Q9 : St → Option R) : St → Option R := loopW (r18_Check_E N) [] N (r18_Check_at N F [1, 1, 1, 1, 1, 1, 1, 1, 1, 0, 1, 0, 0, 1, 0, 0, 1, 1, 0, 0, 1, 0, 0, 1, 0, 1, 0] [Q7, Q9]) N
noncomputable def r18_Check_l10 (N : Nat) (F : AV → Heap → Option R) (Q7 : St → Option R) (Q9 : St → Option R) (n : Nat) : St → Option R := loopAt (r18_Check_E N) [] N (r18_Check_at N F [1, 1, 1, 1, 1, 1, 1, 1, 1, 0, 1, 0, 0, 1, 0, 0, 1, 1, 0, 0, 1, 0, 0, 1, 0, 1, 0] [Q7, Q9]) n
noncomputable def r18_Check_s9 (d : Nat) (e : Nat) (b : Bool) (a : LA) (f : LA) (g : LA) (u : Int) (w : Int) (x : LA) : St := { s := [(1, (.optr 300000 0)), (2, (.optr 300001 0)), (4, (.optr 300002 0)), (11, (.int .i64 u)), (12, (.own 300003 0 d)), (13, (.own 300004 0 e)), (14, (.int .i64 w))], h := [(300000, ⟨false, false, true, b, 0, a⟩), (300001, ⟨false, false, true, false, 0, [(.int .i64 0), (.int .i64 0), (.int .i64 0)]⟩), (300002, ⟨false, false, true, false, 0, x⟩), (300003, ⟨false, false, true, false, 2, f⟩), (300004, ⟨false, false, true, false, 1, g⟩)] }
noncomputable def r18_Check_w9 (N : Nat) (F : AV → Heap → Option R) (Q7 : St → Option R) : St → Option R := loopW (r18_Check_E N) [] N (r18_Check_at N F [1, 1, 1, 1, 1, 1, 1, 1, 1, 0, 1, 0, 0, 1, 0, 0, 1, 1, 0] [Q7]) N
noncomputable def r18_Check_l9 (N : Nat) (F : AV → Heap → Option R) (Q7 : St → Option R) (n : Nat) : St → Option R := loopAt (r18_Check_E N) [] N (r18_Check_at N F [1, 1, 1, 1, 1, 1, 1, 1, 1, 0, 1, 0, 0, 1, 0, 0, 1, 1, 0] [Q7]) n
noncomputable def r18_Check_s8 (b : Bool) (a : LA) (aj : Int) (al : LA) : St := { s := [(1, (.optr 300000 0)), (2, (.optr 300001 0)), (4, (.optr 300002 0)), (11, (.int .i64 aj))], h := [(300000, ⟨false, false, true, b, 0, a⟩), (300001, ⟨false, false, true, false, 0, [(.int .i64 0), (.int .i64 0), (.int .i64 0)]⟩), (300002, ⟨false, false, true, false, 0, al⟩)] }
noncomputable def r18_Check_j8 (N : Nat) (F : AV → Heap → Option R) (Q7 : St → Option R) : St → Option R := joinAt (r18_Check_E N) [] N (r18_Check_at N F [1, 1, 1, 1, 1, 1, 1, 1, 1, 0, 1, 0, 0, 1] [Q7])
noncomputable def r18_Check_i8 (N : Nat) (F : AV → Heap → Option R) (Q7 : St → Option R) : St → Option R := joinIn (r18_Check_E N) [] N (r18_Check_at N F [1, 1, 1, 1, 1, 1, 1, 1, 1, 0, 1, 0, 0, 1] [Q7])
noncomputable def r18_Check_s7 (b : Bool) (a : LA) (i : Int) (c : LA) : St := { s := [(1, (.optr 300000 0)), (2, (.optr 300001 0)), (4, (.optr 300002 0)), (11, (.int .i64 i))], h := [(300000, ⟨false, false, true, b, 0, a⟩), (300001, ⟨false, false, true, false, 0, [(.int .i64 0), (.int .i64 0), (.int .i64 0)]⟩), (300002, ⟨false, false, true, false, 0, c⟩)] }
noncomputable def r18_Check_w7 (N : Nat) (F : AV → Heap → Option R) : St → Option R := loopW (r18_Check_E N) [] N (r18_Check_at N F [1, 1, 1, 1, 1, 1, 1, 1, 1, 0, 1, 0] []) N
noncomputable def r18_Check_l7 (N : Nat) (F : AV → Heap → Option R) (n : Nat) : St → Option R := loopAt (r18_Check_E N) [] N (r18_Check_at N F [1, 1, 1, 1, 1, 1, 1, 1, 1, 0, 1, 0] []) n
noncomputable def r18_Check_s6 (b : Bool) (a : LA) (ae : Int) (z : LA) : St := { s := [(1, (.optr 300000 0)), (2, (.optr 300001 0)), (4, (.optr 300002 0)), (10, (.int .i64 ae))], h := [(300000, ⟨false, false, true, b, 0, a⟩), (300001, ⟨false, false, true, false, 0, [(.int .i64 0), (.int .i64 0), (.int .i64 0)]⟩), (300002, ⟨false, false, true, false, 0, z⟩)] }
noncomputable def r18_Check_w6 (N : Nat) (F : AV → Heap → Option R) : St → Option R := loopW (r18_Check_E N) [] N (r18_Check_at N F [1, 1, 1, 1, 1, 1, 1, 1, 0, 1, 0] []) N
noncomputable def r18_Check_l6 (N : Nat) (F : AV → Heap → Option R) (n : Nat) : St → Option R := loopAt (r18_Check_E N) [] N (r18_Check_at N F [1, 1, 1, 1, 1, 1, 1, 1, 0, 1, 0] []) n
noncomputable def r18_Check_s5 (b : Bool) (a : LA) (af : Int) (aa : LA) : St := { s := [(1, (.optr 300000 0)), (2, (.optr 300001 0)), (4, (.optr 300002 0)), (9, (.int .i64 af))], h := [(300000, ⟨false, false, true, b, 0, a⟩), (300001, ⟨false, false, true, false, 0, [(.int .i64 0), (.int .i64 0), (.int .i64 0)]⟩), (300002, ⟨false, false, true, false, 0, aa⟩)] }
noncomputable def r18_Check_w5 (N : Nat) (F : AV → Heap → Option R) : St → Option R := loopW (r18_Check_E N) [] N (r18_Check_at N F [1, 1, 1, 1, 1, 1, 1, 0, 1, 0] []) N
noncomputable def r18_Check_l5 (N : Nat) (F : AV → Heap → Option R) (n : Nat) : St → Option R := loopAt (r18_Check_E N) [] N (r18_Check_at N F [1, 1, 1, 1, 1, 1, 1, 0, 1, 0] []) n
noncomputable def r18_Check_s4 (b : Bool) (a : LA) (ag : Int) (ab : LA) : St := { s := [(1, (.optr 300000 0)), (2, (.optr 300001 0)), (4, (.optr 300002 0)), (8, (.int .i64 ag))], h := [(300000, ⟨false, false, true, b, 0, a⟩), (300001, ⟨false, false, true, false, 0, [(.int .i64 0), (.int .i64 0), (.int .i64 0)]⟩), (300002, ⟨false, false, true, false, 0, ab⟩)] }
noncomputable def r18_Check_w4 (N : Nat) (F : AV → Heap → Option R) : St → Option R := loopW (r18_Check_E N) [] N (r18_Check_at N F [1, 1, 1, 1, 1, 1, 0, 1, 0] []) N
noncomputable def r18_Check_l4 (N : Nat) (F : AV → Heap → Option R) (n : Nat) : St → Option R := loopAt (r18_Check_E N) [] N (r18_Check_at N F [1, 1, 1, 1, 1, 1, 0, 1, 0] []) n
noncomputable def r18_Check_s3 (b : Bool) (a : LA) (ah : Int) (ac : LA) : St := { s := [(1, (.optr 300000 0)), (2, (.optr 300001 0)), (4, (.optr 300002 0)), (7, (.int .i64 ah))], h := [(300000, ⟨false, false, true, b, 0, a⟩), (300001, ⟨false, false, true, false, 0, [(.int .i64 0), (.int .i64 0), (.int .i64 0)]⟩), (300002, ⟨false, false, true, false, 0, ac⟩)] }
noncomputable def r18_Check_w3 (N : Nat) (F : AV → Heap → Option R) : St → Option R := loopW (r18_Check_E N) [] N (r18_Check_at N F [1, 1, 1, 1, 1, 0, 1, 0] []) N
noncomputable def r18_Check_l3 (N : Nat) (F : AV → Heap → Option R) (n : Nat) : St → Option R := loopAt (r18_Check_E N) [] N (r18_Check_at N F [1, 1, 1, 1, 1, 0, 1, 0] []) n
noncomputable def r18_Check_s2 (b : Bool) (a : LA) (ai : Int) (ad : LA) : St := { s := [(1, (.optr 300000 0)), (2, (.optr 300001 0)), (4, (.optr 300002 0)), (6, (.int .i64 ai))], h := [(300000, ⟨false, false, true, b, 0, a⟩), (300001, ⟨false, false, true, false, 0, [(.int .i64 0), (.int .i64 0), (.int .i64 0)]⟩), (300002, ⟨false, false, true, false, 0, ad⟩)] }
noncomputable def r18_Check_w2 (N : Nat) (F : AV → Heap → Option R) : St → Option R := loopW (r18_Check_E N) [] N (r18_Check_at N F [1, 1, 1, 1, 0, 1, 0] []) N
noncomputable def r18_Check_l2 (N : Nat) (F : AV → Heap → Option R) (n : Nat) : St → Option R := loopAt (r18_Check_E N) [] N (r18_Check_at N F [1, 1, 1, 1, 0, 1, 0] []) n
noncomputable def r18_Check_s0 (b : Bool) (a : LA) (y : Int) (o : LA) : St := { s := [(1, (.optr 300000 0)), (2, (.optr 300001 0)), (4, (.optr 300002 0)), (5, (.int .i64 y))], h := [(300000, ⟨false, false, true, b, 0, a⟩), (300001, ⟨false, false, true, false, 0, [(.int .i64 0), (.int .i64 0), (.int .i64 0)]⟩), (300002, ⟨false, false, true, false, 0, o⟩)] }
noncomputable def r18_Check_w0 (N : Nat) (F : AV → Heap → Option R) : St → Option R := loopW (r18_Check_E N) [] N (r18_Check_at N F [1, 1, 1, 0, 1, 0] []) N
noncomputable def r18_Check_l0 (N : Nat) (F : AV → Heap → Option R) (n : Nat) : St → Option R := loopAt (r18_Check_E N) [] N (r18_Check_at N F [1, 1, 1, 0, 1, 0] []) n
theorem r18_Check_q1_eq (N : Nat) (Q0 : St → Option R) (F : AV → Heap → Option R) (b : Bool) (a : LA) : ∀ (q : Int) (ak : LA), r18_Check_i1 N F Q0 (r18_Check_s1 b a q ak) = (r18_Check_q1 N (fun y o => Q0 (r18_Check_s0 b a y o)) (r18_Check_r0 F) b a q ak) := by
  intro q ak
  have hK : r18_Check_i1 N F Q0 (r18_Check_s1 b a q ak) = (r18_Check_q1B N (fun y o => Q0 (r18_Check_s0 b a y o)) (r18_Check_r0 F) b a q ak) := by kernel_rfl
  exact hK
theorem r18_Check_q10_eq (N : Nat) (Q7 : St → Option R) (Q9 : St → Option R) (F : AV → Heap → Option R) (d : Nat) (e : Nat) (b : Bool) (a : LA) (f : LA) (g : LA) : ∀ (n : Nat) (p : Int) (l : Int) (j : Nat) (m : Int) (r : LA) (t : LA), r18_Check_l10 N F Q7 Q9 n (r18_Check_s10 d e b a f g p l j m r t) = (r18_Check_q10 N (fun i c => Q7 (r18_Check_s7 b a i c)) (fun u w x => Q9 (r18_Check_s9 d e b a f g u w x)) (r18_Check_r0 F) d e b a f g n p l j m r t) := by
  intro n
  induction n with
  | zero => intros; kernel_rfl
  | succ n ih =>
    intro p l j m r t
    have e0 := funext fun p => funext fun l => funext fun j => funext fun m => funext fun r => funext fun t => (show r18_Check_l10 N F Q7 Q9 n (r18_Check_s10 d e b a f g p l j m r t) = _ from ih p l j m r t)
    have hK : r18_Check_l10 N F Q7 Q9 (n + 1) (r18_Check_s10 d e b a f g p l j m r t) = (r18_Check_q10B N (fun i c => Q7 (r18_Check_s7 b a i c)) (fun u w x => Q9 (r18_Check_s9 d e b a f g u w x)) (r18_Check_r0 F) d e b a f g (fun p l j m r t => r18_Check_l10 N F Q7 Q9 n (r18_Check_s10 d e b a f g p l j m r t)) p l j m r t) := by kernel_rfl
    exact hK.trans (by rw [e0]; rfl)
theorem r18_Check_q9_eq (N : Nat) (Q7 : St → Option R) (F : AV → Heap → Option R) (d : Nat) (e : Nat) (b : Bool) (a : LA) (f : LA) (g : LA) : ∀ (n : Nat) (u : Int) (w : Int) (x : LA), r18_Check_l9 N F Q7 n (r18_Check_s9 d e b a f g u w x) = (r18_Check_q9 N (fun i c => Q7 (r18_Check_s7 b a i c)) (r18_Check_r0 F) d e b a f g n u w x) := by
  intro n
  induction n with
  | zero => intros; kernel_rfl
  | succ n ih =>
    intro u w x
    have e0 := funext fun u => funext fun w => funext fun x => (show r18_Check_l9 N F Q7 n (r18_Check_s9 d e b a f g u w x) = _ from ih u w x)
    have e1 : (fun p l j m r t => r18_Check_w10 N F Q7 (r18_Check_l9 N F Q7 n) (r18_Check_s10 d e b a f g p l j m r t)) = (fun p l j m r t => (r18_Check_q10 N (fun i c => Q7 (r18_Check_s7 b a i c)) (r18_Check_q9 N (fun i c => Q7 (r18_Check_s7 b a i c)) (r18_Check_r0 F) d e b a f g n) (r18_Check_r0 F) d e b a f g N p l j m r t)) := by funext p; funext l; funext j; funext m; funext r; funext t; exact ((loopW_eq ..).trans (r18_Check_q10_eq N Q7 (r18_Check_l9 N F Q7 n) F d e b a f g N p l j m r t)).trans (by rw [e0])
    have hK : r18_Check_l9 N F Q7 (n + 1) (r18_Check_s9 d e b a f g u w x) = (r18_Check_q9B N (fun i c => Q7 (r18_Check_s7 b a i c)) (r18_Check_r0 F) d e b a f g (fun u w x => r18_Check_l9 N F Q7 n (r18_Check_s9 d e b a f g u w x)) (fun p l j m r t => r18_Check_w10 N F Q7 (r18_Check_l9 N F Q7 n) (r18_Check_s10 d e b a f g p l j m r t)) u w x) := by kernel_rfl
    exact hK.trans (by rw [e0, e1]; rfl)
theorem r18_Check_q8_eq (N : Nat) (Q7 : St → Option R) (F : AV → Heap → Option R) (b : Bool) (a : LA) : ∀ (aj : Int) (al : LA), r18_Check_i8 N F Q7 (r18_Check_s8 b a aj al) = (r18_Check_q8 N (fun i c => Q7 (r18_Check_s7 b a i c)) (r18_Check_r0 F) b a aj al) := by
  intro aj al
  have e1 := funext fun d => funext fun e => funext fun f => funext fun g => funext fun u => funext fun w => funext fun x => (show r18_Check_w9 N F Q7 (r18_Check_s9 d e b a f g u w x) = _ from (loopW_eq ..).trans (r18_Check_q9_eq N Q7 F d e b a f g N u w x))
  have hK : r18_Check_i8 N F Q7 (r18_Check_s8 b a aj al) = (r18_Check_q8B N (fun i c => Q7 (r18_Check_s7 b a i c)) (r18_Check_r0 F) b a (fun d e f g u w x => r18_Check_w9 N F Q7 (r18_Check_s9 d e b a f g u w x)) aj al) := by kernel_rfl
  exact hK.trans (by rw [e1]; rfl)
theorem r18_Check_q7_eq (N : Nat)  (F : AV → Heap → Option R) (b : Bool) (a : LA) : ∀ (n : Nat) (i : Int) (c : LA), r18_Check_l7 N F n (r18_Check_s7 b a i c) = (r18_Check_q7 N (r18_Check_r0 F) b a n i c) := by
  intro n
  induction n with
  | zero => intros; kernel_rfl
  | succ n ih =>
    intro i c
    have e0 := funext fun i => funext fun c => (show r18_Check_l7 N F n (r18_Check_s7 b a i c) = _ from ih i c)
    have e1 : (fun aj al => r18_Check_j8 N F (r18_Check_l7 N F n) (r18_Check_s8 b a aj al)) = (fun aj al => (r18_Check_q8 N (r18_Check_q7 N (r18_Check_r0 F) b a n) (r18_Check_r0 F) b a aj al)) := by funext aj; funext al; exact ((joinAt_eq ..).trans (r18_Check_q8_eq N (r18_Check_l7 N F n) F b a aj al)).trans (by rw [e0])
    have hK : r18_Check_l7 N F (n + 1) (r18_Check_s7 b a i c) = (r18_Check_q7B N (r18_Check_r0 F) b a (fun i c => r18_Check_l7 N F n (r18_Check_s7 b a i c)) (fun aj al => r18_Check_j8 N F (r18_Check_l7 N F n) (r18_Check_s8 b a aj al)) i c) := by kernel_rfl
    exact hK.trans (by rw [e0, e1]; rfl)
theorem r18_Check_q6_eq (N : Nat)  (F : AV → Heap → Option R) (b : Bool) (a : LA) : ∀ (n : Nat) (ae : Int) (z : LA), r18_Check_l6 N F n (r18_Check_s6 b a ae z) = (r18_Check_q6 N (r18_Check_r0 F) b a n ae z) := by
  intro n
  induction n with
  | zero => intros; kernel_rfl
  | succ n ih =>
    intro ae z
    have e0 := funext fun ae => funext fun z => (show r18_Check_l6 N F n (r18_Check_s6 b a ae z) = _ from ih ae z)
    have e1 := funext fun i => funext fun c => (show r18_Check_w7 N F (r18_Check_s7 b a i c) = _ from (loopW_eq ..).trans (r18_Check_q7_eq N F b a N i c))
    have hK : r18_Check_l6 N F (n + 1) (r18_Check_s6 b a ae z) = (r18_Check_q6B N (r18_Check_r0 F) b a (fun ae z => r18_Check_l6 N F n (r18_Check_s6 b a ae z)) (fun i c => r18_Check_w7 N F (r18_Check_s7 b a i c)) ae z) := by kernel_rfl
    exact hK.trans (by rw [e0, e1]; rfl)
theorem r18_Check_q5_eq (N : Nat)  (F : AV → Heap → Option R) (b : Bool) (a : LA) : ∀ (n : Nat) (af : Int) (aa : LA), r18_Check_l5 N F n (r18_Check_s5 b a af aa) = (r18_Check_q5 N (r18_Check_r0 F) b a n af aa) := by
  intro n
  induction n with
  | zero => intros; kernel_rfl
  | succ n ih =>
    intro af aa
    have e0 := funext fun af => funext fun aa => (show r18_Check_l5 N F n (r18_Check_s5 b a af aa) = _ from ih af aa)
    have e1 := funext fun ae => funext fun z => (show r18_Check_w6 N F (r18_Check_s6 b a ae z) = _ from (loopW_eq ..).trans (r18_Check_q6_eq N F b a N ae z))
    have hK : r18_Check_l5 N F (n + 1) (r18_Check_s5 b a af aa) = (r18_Check_q5B N (r18_Check_r0 F) b a (fun af aa => r18_Check_l5 N F n (r18_Check_s5 b a af aa)) (fun ae z => r18_Check_w6 N F (r18_Check_s6 b a ae z)) af aa) := by kernel_rfl
    exact hK.trans (by rw [e0, e1]; rfl)
theorem r18_Check_q4_eq (N : Nat)  (F : AV → Heap → Option R) (b : Bool) (a : LA) : ∀ (n : Nat) (ag : Int) (ab : LA), r18_Check_l4 N F n (r18_Check_s4 b a ag ab) = (r18_Check_q4 N (r18_Check_r0 F) b a n ag ab) := by
  intro n
  induction n with
  | zero => intros; kernel_rfl
  | succ n ih =>
    intro ag ab
    have e0 := funext fun ag => funext fun ab => (show r18_Check_l4 N F n (r18_Check_s4 b a ag ab) = _ from ih ag ab)
    have e1 := funext fun af => funext fun aa => (show r18_Check_w5 N F (r18_Check_s5 b a af aa) = _ from (loopW_eq ..).trans (r18_Check_q5_eq N F b a N af aa))
    have hK : r18_Check_l4 N F (n + 1) (r18_Check_s4 b a ag ab) = (r18_Check_q4B N (r18_Check_r0 F) b a (fun ag ab => r18_Check_l4 N F n (r18_Check_s4 b a ag ab)) (fun af aa => r18_Check_w5 N F (r18_Check_s5 b a af aa)) ag ab) := by kernel_rfl
    exact hK.trans (by rw [e0, e1]; rfl)
theorem r18_Check_q3_eq (N : Nat)  (F : AV → Heap → Option R) (b : Bool) (a : LA) : ∀ (n : Nat) (ah : Int) (ac : LA), r18_Check_l3 N F n (r18_Check_s3 b a ah ac) = (r18_Check_q3 N (r18_Check_r0 F) b a n ah ac) := by
  intro n
  induction n with
  | zero => intros; kernel_rfl
  | succ n ih =>
    intro ah ac
    have e0 := funext fun ah => funext fun ac => (show r18_Check_l3 N F n (r18_Check_s3 b a ah ac) = _ from ih ah ac)
    have e1 := funext fun ag => funext fun ab => (show r18_Check_w4 N F (r18_Check_s4 b a ag ab) = _ from (loopW_eq ..).trans (r18_Check_q4_eq N F b a N ag ab))
    have hK : r18_Check_l3 N F (n + 1) (r18_Check_s3 b a ah ac) = (r18_Check_q3B N (r18_Check_r0 F) b a (fun ah ac => r18_Check_l3 N F n (r18_Check_s3 b a ah ac)) (fun ag ab => r18_Check_w4 N F (r18_Check_s4 b a ag ab)) ah ac) := by kernel_rfl
    exact hK.trans (by rw [e0, e1]; rfl)
theorem r18_Check_q2_eq (N : Nat)  (F : AV → Heap → Option R) (b : Bool) (a : LA) : ∀ (n : Nat) (ai : Int) (ad : LA), r18_Check_l2 N F n (r18_Check_s2 b a ai ad) = (r18_Check_q2 N (r18_Check_r0 F) b a n ai ad) := by
  intro n
  induction n with
  | zero => intros; kernel_rfl
  | succ n ih =>
    intro ai ad
    have e0 := funext fun ai => funext fun ad => (show r18_Check_l2 N F n (r18_Check_s2 b a ai ad) = _ from ih ai ad)
    have e1 := funext fun ah => funext fun ac => (show r18_Check_w3 N F (r18_Check_s3 b a ah ac) = _ from (loopW_eq ..).trans (r18_Check_q3_eq N F b a N ah ac))
    have hK : r18_Check_l2 N F (n + 1) (r18_Check_s2 b a ai ad) = (r18_Check_q2B N (r18_Check_r0 F) b a (fun ai ad => r18_Check_l2 N F n (r18_Check_s2 b a ai ad)) (fun ah ac => r18_Check_w3 N F (r18_Check_s3 b a ah ac)) ai ad) := by kernel_rfl
    exact hK.trans (by rw [e0, e1]; rfl)
theorem r18_Check_q0_eq (N : Nat)  (F : AV → Heap → Option R) (b : Bool) (a : LA) : ∀ (n : Nat) (y : Int) (o : LA), r18_Check_l0 N F n (r18_Check_s0 b a y o) = (r18_Check_q0 N (r18_Check_r0 F) b a n y o) := by
  intro n
  induction n with
  | zero => intros; kernel_rfl
  | succ n ih =>
    intro y o
    have e0 := funext fun y => funext fun o => (show r18_Check_l0 N F n (r18_Check_s0 b a y o) = _ from ih y o)
    have e1 : (fun q ak => r18_Check_j1 N F (r18_Check_l0 N F n) (r18_Check_s1 b a q ak)) = (fun q ak => (r18_Check_q1 N (r18_Check_q0 N (r18_Check_r0 F) b a n) (r18_Check_r0 F) b a q ak)) := by funext q; funext ak; exact ((joinAt_eq ..).trans (r18_Check_q1_eq N (r18_Check_l0 N F n) F b a q ak)).trans (by rw [e0])
    have e2 := funext fun ai => funext fun ad => (show r18_Check_w2 N F (r18_Check_s2 b a ai ad) = _ from (loopW_eq ..).trans (r18_Check_q2_eq N F b a N ai ad))
    have hK : r18_Check_l0 N F (n + 1) (r18_Check_s0 b a y o) = (r18_Check_q0B N (r18_Check_r0 F) b a (fun y o => r18_Check_l0 N F n (r18_Check_s0 b a y o)) (fun q ak => r18_Check_j1 N F (r18_Check_l0 N F n) (r18_Check_s1 b a q ak)) (fun ai ad => r18_Check_w2 N F (r18_Check_s2 b a ai ad)) y o) := by kernel_rfl
    exact hK.trans (by rw [e0, e1, e2]; rfl)
theorem r18_Check_eq (N : Nat) (a : LA) (b : Bool) (F : AV → Heap → Option R) : execF Try.prog muts (r18_Check_T N) r18_Check_hs N 23 [(.pagg a b)] [] F = (r18_Check N a b (r18_Check_r0 F)) := by
  have e1 := funext fun y => funext fun o => (show r18_Check_w0 N F (r18_Check_s0 b a y o) = _ from (loopW_eq ..).trans (r18_Check_q0_eq N F b a N y o))
  have hK : execF Try.prog muts (r18_Check_T N) r18_Check_hs N 23 [(.pagg a b)] [] F = (r18_CheckB N (r18_Check_r0 F) (fun y o => r18_Check_w0 N F (r18_Check_s0 b a y o)) a b) := by kernel_rfl
  rw [r18_Check_def]
  exact hK.trans (by rw [e1]; rfl)
noncomputable def r18_Check_run (N : Nat) (args : List AV) (h : Heap) (k : AV → Heap → Option R) : Option R :=
  match args, h with
  | [(.pagg a b)], [] => (r18_Check N a b (r18_Check_r0 k))
  | _, _ => none
noncomputable def r18_Check_Tw (N : Nat) : Tw where
  runK := r18_Check_run N
  eq := by
    intro R args h k
    unfold r18_Check_run
    split
    · exact (r18_Check_eq ..).symm.trans ((execF_bind ..).trans (congrArg (Option.bind · _) (r18_Check_eq ..)))
    · rfl
theorem r18_Check_ok (N : Nat) : TwOk Try.prog 23 (r18_Check_Tw N) := by
  intro args h res am cj
  have hh : r18_Check_run N args h (fun v am => some (v, am)) = some (res, am) := cj
  unfold r18_Check_run at hh
  split at hh
  · exact execF_sound (T := r18_Check_T N) ⟨fi_frame_ok N, fi_name_ok N, fi_hourly_ok N, r18_between_ok N, fi_need_ok N, fi_line_ok N, fi_unit_ok N, fi_store_ok N, fi_tie_ok N, fi_outage_ok N, r18_Pairs_ok N, r18_has_ok N, r18_Separated_ok N, trivial⟩ follows ((r18_Check_eq ..).trans hh)
  · cases hh
end Gx
