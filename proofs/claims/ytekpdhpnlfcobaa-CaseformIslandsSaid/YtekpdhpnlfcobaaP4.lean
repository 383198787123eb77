/- A part of the proof: what it holds is said at each theorem. -/
import Derived.ProofKit
import Derived.OpenShut
import Derived.ChangeOld
import Derived.Below
import Derived.IntWalk
import Derived.Test.YtekpdhpnlfcobaaP3
set_option linter.unusedVariables false
namespace Gx
open Go Go.Proofs
set_option maxRecDepth 100000
variable {R : Type}
noncomputable def cf_parts_q3B (N : Nat) (k1 : Int → Int → Int → LA → Option R) (r0 : Int → Option R) (a : Nat) (l : Int) (m : Int) (d : LA) (c : Nat) (e : Bool) (f : Bool) (i : Int) (o : Int) (g : Bool) (b : LA) (k3 : Int → Int → Int → LA → Option R)  (w : Int) (x : Int) (r : Int) (u : LA) : Option R :=
  (cond (decide (r < x)) (cond (inIdx r a) (rdI .i64 (List.drop (0 + ((Int.toNat r) * 1)) u) fun af => (cond (af == m) (cond (inIdx r a) (cond ((Nat.beq 1 1) && ((Nat.ble ((0 + ((Int.toNat r) * 1)) + 1) (List.length u)) && (!false))) (k3 w x (IntKind.wrap .i64 (r + (1 : Int))) (List.set u (0 + ((Int.toNat r) * 1)) (.int .i64 l))) none) none) (k3 w x (IntKind.wrap .i64 (r + (1 : Int))) u))) none) (k1 w i (IntKind.wrap .i64 (o + (1 : Int))) u))
noncomputable def cf_parts_q3 (N : Nat) (k1 : Int → Int → Int → LA → Option R) (r0 : Int → Option R) (a : Nat) (l : Int) (m : Int) (d : LA) (c : Nat) (e : Bool) (f : Bool) (i : Int) (o : Int) (g : Bool) (b : LA) : Nat → Int → Int → Int → LA → Option R
  | 0, _, _, _, _ => none
  | n + 1, w, x, r, u => (cf_parts_q3B N k1 r0 a l m d c e f i o g b (cf_parts_q3 N k1 r0 a l m d c e f i o g b n) w x r u)
noncomputable def cf_parts_q2B (N : Nat) (k1 : Int → Int → Int → LA → Option R) (r0 : Int → Option R) (a : Nat) (j : Int) (l : Int) (m : Int) (d : LA) (c : Nat) (e : Bool) (f : Bool) (i : Int) (g : Bool) (b : LA)  (q3 : Int → Int → Int → LA → Option R) (o : Int) (aa : LA) : Option R :=
  (q3 (IntKind.wrap .i64 (j - (1 : Int))) ((a : Nat) : Int) 0 aa)
noncomputable def cf_parts_q2 (N : Nat) (k1 : Int → Int → Int → LA → Option R) (r0 : Int → Option R) (a : Nat) (j : Int) (l : Int) (m : Int) (d : LA) (c : Nat) (e : Bool) (f : Bool) (i : Int) (g : Bool) (b : LA) (o : Int) (aa : LA) : Option R := (cf_parts_q2B N k1 r0 a j l m d c e f i g b (fun w x r u => (cf_parts_q3 N k1 r0 a l m d c e f i o g b N w x r u)) o aa)
noncomputable def cf_parts_q1B (N : Nat)  (r0 : Int → Option R) (a : Nat) (d : LA) (c : Nat) (e : Bool) (f : Bool) (g : Bool) (b : LA) (k1 : Int → Int → Int → LA → Option R) (q2 : Int → Int → Int → LA → Option R) (j : Int) (i : Int) (p : Int) (q : LA) : Option R :=
  (cond (decide (p < i)) (cond (inIdx p c) (rdI .i64 (List.drop ((Int.toNat p) * 1) d) fun ab => (rdL 12 (List.drop 3 b) fun ag ah => (cond (inIdx ab ah) (rdI .i64 (List.drop 1 (List.drop ((Int.toNat ab) * 12) ag)) fun ad => (cond (inIdx ad a) (rdI .i64 (List.drop (0 + ((Int.toNat ad) * 1)) q) fun l => (rdL 12 (List.drop 3 b) fun ai aj => (cond (inIdx ab aj) (rdI .i64 (List.drop 2 (List.drop ((Int.toNat ab) * 12) ai)) fun ae => (cond (inIdx ae a) (rdI .i64 (List.drop (0 + ((Int.toNat ae) * 1)) q) fun m => (cond ((l == m) == false) (slices_Contains__int_int_v2 N ab (q2 l m p q)) (k1 j i (IntKind.wrap .i64 (p + (1 : Int))) q))) none)) none))) none)) none))) none) (r0 j))
noncomputable def cf_parts_q1 (N : Nat)  (r0 : Int → Option R) (a : Nat) (d : LA) (c : Nat) (e : Bool) (f : Bool) (g : Bool) (b : LA) : Nat → Int → Int → Int → LA → Option R
  | 0, _, _, _, _ => none
  | n + 1, j, i, p, q => (cf_parts_q1B N r0 a d c e f g b (cf_parts_q1 N r0 a d c e f g b n) (fun l m o aa => (cf_parts_q2 N (cf_parts_q1 N r0 a d c e f g b n) r0 a j l m d c e f i g b o aa)) j i p q)
noncomputable def cf_parts_q0B (N : Nat)  (r0 : Int → Option R) (d : LA) (c : Nat) (e : Bool) (f : Bool) (a : Nat) (g : Bool) (b : LA) (k0 : Int → Int → LA → Option R) (q1 : Int → Int → Int → LA → Option R) (z : Int) (t : Int) (y : LA) : Option R :=
  (cond (decide (t < z)) (cond (inIdx t a) (cond ((Nat.beq 1 1) && ((Nat.ble ((0 + ((Int.toNat t) * 1)) + 1) (List.length y)) && (!false))) (k0 z (IntKind.wrap .i64 (t + (1 : Int))) (List.set y (0 + ((Int.toNat t) * 1)) (.int .i64 t))) none) none) (q1 ((a : Nat) : Int) ((c : Nat) : Int) 0 y))
noncomputable def cf_parts_q0 (N : Nat)  (r0 : Int → Option R) (d : LA) (c : Nat) (e : Bool) (f : Bool) (a : Nat) (g : Bool) (b : LA) : Nat → Int → Int → LA → Option R
  | 0, _, _, _ => none
  | n + 1, z, t, y => (cf_parts_q0B N r0 d c e f a g b (cf_parts_q0 N r0 d c e f a g b n) (fun j i p q => (cf_parts_q1 N r0 a d c e f g b N j i p q)) z t y)
noncomputable def cf_partsB (N : Nat) (r0 : Int → Option R) (q0 : Nat → Int → Int → LA → Option R) (b : LA) (g : Bool) (d : LA) (c : Nat) (e : Bool) (f : Bool) : Option R :=
  (rdL 3 (List.drop 2 b) fun am a => (cond ((decide ((0 : Int) ≤ ((a : Nat) : Int))) && ((decide (((a : Nat) : Int) ≤ ((a : Nat) : Int))) && ((decide (((a : Nat) : Int) ≤ (140737488355328 : Int))) && (decide ((((a : Nat) : Int) * ((8 : Nat) : Int)) ≤ (140737488355328 : Int)))))) (q0 a ((a : Nat) : Int) 0 (List.replicate a (.int .i64 0))) none))
noncomputable def cf_partsi (N : Nat) (b : LA) (g : Bool) (d : LA) (c : Nat) (e : Bool) (f : Bool) (r0 : Int → Option R) : Option R := (cf_partsB N r0 (fun a z t y => (cf_parts_q0 N r0 d c e f a g b N z t y)) b g d c e f)
noncomputable def cf_parts := (shut (@cf_partsi R)).1
theorem cf_parts_def : @cf_parts R = @cf_partsi R := (shut _).2
noncomputable def cf_parts_hs : Hints := { H := (hS (hR [1,2,3]) (hS (hR [1,2,3,7]) (hS (hS (hR [1,2,3,7,20,21]) (hN [1,2,3,7] (hN [1,2,3,7,20,21] (hS (hR [1,2,3,7,20,21,22]) (hS (hN [1,2,3,7,20,21] hL hL) (hS (hN [1,2,3,7,20,21] (hS (hR [1,2,3,7,8,20,21]) (hR [1,2,3,7,20,21])) hL) (hR [1,2,3,7,20,21])))) hL) hL)) (hS (hR [1,2,3,7,9]) (hS (hS (hR [2,3,7,9,31,32,33]) (hN [9] (hN [2,3,7,9,31,32,33] (hS (hR [2,3,7,9,31,32,33,34]) (hS (hN [2,3,7,9,31,32,33] hL hL) (hS (hN [2,3,7,9,31,32,33] (hS (hR [2,3,7,9,11,31,32,33]) (hS (hR [2,3,7,9,11,12,13,31,32,33]) (hJ (hS (hR [2,3,7,9,12,13,31,32,33,62]) (hN [2,3,7,9,12,13,31,32,33] hL hL)) (hS (hR [2,3,7,9,12,13,31,32,33]) (hS (hR [2,3,7,9,12,13,31,32,33,66,67]) (hN [2,3,7,9,31,32,33] (hN [2,3,7,9,12,13,31,32,33,66,67] (hS (hR [2,3,7,9,12,13,31,32,33,66,67,68]) (hS (hN [2,3,7,9,12,13,31,32,33,66,67] hL hL) (hS (hN [2,3,7,9,12,13,31,32,33,66,67] (hS (hR [2,3,7,9,12,13,14,31,32,33,66,67]) (hS (hR [2,3,7,9,12,13,14,31,32,33,66,67,75]) (hN [2,3,7,9,12,13,31,32,33,66,67] (hR [2,3,7,9,12,13,31,32,33,66,67]) hL))) hL) (hR [2,3,7,9,12,13,31,32,33,66,67])))) hL) hL)))))) hL) (hR [2,3,7,9,31,32,33])))) hL) hL)) (hS (hR [6]) hL)))))), nils := [], modes := [], free := [], cob := [] }
noncomputable def cf_parts_T (N : Nat) : List (Nat × Tw) := [(39, slices_Contains__int_int_v2_Tw N)]
noncomputable def cf_parts_E (N : Nat) : Env := mkE 83 cf_parts_hs (cf_parts_T N)
noncomputable def cf_parts_fin (N : Nat) (F : AV → Heap → Option R) := afinish (cf_parts_E N) Try.f68 cf_parts_hs.modes [] F
noncomputable def cf_parts_at (N : Nat) (F : AV → Heap → Option R) := atF (cf_parts_E N) [] N Try.f68 cf_parts_hs (cf_parts_fin N F)
noncomputable def cf_parts_r0  (F : AV → Heap → Option R) : Int → Option R := (fun ak => F (.int .i64 ak) [])
noncomputable def cf_parts_s3 (a : Nat) (l : Int) (m : Int) (d : LA) (c : Nat) (e : Bool) (f : Bool) (i : Int) (o : Int) (g : Bool) (b : LA) (w : Int) (x : Int) (r : Int) (u : LA) : St := { s := [(2, .nsl), (3, (.optr 300000 0)), (7, (.own 300001 0 a)), (9, (.int .i64 w)), (12, (.int .i64 l)), (13, (.int .i64 m)), (31, (.imm d c 1 e f)), (32, (.int .i64 i)), (33, (.int .i64 o)), (66, (.int .i64 x)), (67, (.int .i64 r))], h := [(300000, ⟨false, false, true, g, 0, b⟩), (300001, ⟨false, false, true, false, 1, u⟩)] }
noncomputable def cf_parts_w3 (N : Nat) (F : AV → Heap → Option R) (Q1 : St → Option R) : St → Option R := loopW (cf_parts_E N) [] N (cf_parts_at N F [1, 1, 1, 1, 0, 1, 0, 0, 1, 1, 0, 0, 1, 1, 1, 1, 1, 0] [Q1]) N
noncomputable def cf_parts_l3 (N : Nat) (F : AV → Heap → Option R) (Q1 : St → Option R) (n : Nat) : St → Option R := loopAt (cf_parts_E N) [] N (cf_parts_at N F [1, 1, 1, 1, 0, 1, 0, 0, 1, 1, 0, 0, 1, 1, 1, 1, 1, 0] [Q1]) n
noncomputable def cf_parts_s2 (a : Nat) (j : Int) (l : Int) (m : Int) (d : LA) (c : Nat) (e : Bool) (f : Bool) (i : Int) (g : Bool) (b : LA) (o : Int) (aa : LA) : St := { s := [(2, .nsl), (3, (.optr 300000 0)), (7, (.own 300001 0 a)), (9, (.int .i64 j)), (12, (.int .i64 l)), (13, (.int .i64 m)), (31, (.imm d c 1 e f)), (32, (.int .i64 i)), (33, (.int .i64 o))], h := [(300000, ⟨false, false, true, g, 0, b⟩), (300001, ⟨false, false, true, false, 1, aa⟩)] }
noncomputable def cf_parts_j2 (N : Nat) (F : AV → Heap → Option R) (Q1 : St → Option R) : St → Option R := joinAt (cf_parts_E N) [] N (cf_parts_at N F [1, 1, 1, 1, 0, 1, 0, 0, 1, 1, 0, 0, 1, 1, 1] [Q1])
noncomputable def cf_parts_i2 (N : Nat) (F : AV → Heap → Option R) (Q1 : St → Option R) : St → Option R := joinIn (cf_parts_E N) [] N (cf_parts_at N F [1, 1, 1, 1, 0, 1, 0, 0, 1, 1, 0, 0, 1, 1, 1] [Q1])
noncomputable def cf_parts_s1 (a : Nat) (d : LA) (c : Nat) (e : Bool) (f : Bool) (g : Bool) (b : LA) (j : Int) (i : Int) (p : Int) (q : LA) : St := { s := [(2, .nsl), (3, (.optr 300000 0)), (7, (.own 300001 0 a)), (9, (.int .i64 j)), (31, (.imm d c 1 e f)), (32, (.int .i64 i)), (33, (.int .i64 p))], h := [(300000, ⟨false, false, true, g, 0, b⟩), (300001, ⟨false, false, true, false, 1, q⟩)] }
noncomputable def cf_parts_w1 (N : Nat) (F : AV → Heap → Option R) : St → Option R := loopW (cf_parts_E N) [] N (cf_parts_at N F [1, 1, 1, 1, 0, 1, 0] []) N
noncomputable def cf_parts_l1 (N : Nat) (F : AV → Heap → Option R) (n : Nat) : St → Option R := loopAt (cf_parts_E N) [] N (cf_parts_at N F [1, 1, 1, 1, 0, 1, 0] []) n
noncomputable def cf_parts_s0 (d : LA) (c : Nat) (e : Bool) (f : Bool) (a : Nat) (g : Bool) (b : LA) (z : Int) (t : Int) (y : LA) : St := { s := [(1, (.imm d c 1 e f)), (2, .nsl), (3, (.optr 300000 0)), (7, (.own 300001 0 a)), (20, (.int .i64 z)), (21, (.int .i64 t))], h := [(300000, ⟨false, false, true, g, 0, b⟩), (300001, ⟨false, false, true, false, 1, y⟩)] }
noncomputable def cf_parts_w0 (N : Nat) (F : AV → Heap → Option R) : St → Option R := loopW (cf_parts_E N) [] N (cf_parts_at N F [1, 1, 0, 1, 0] []) N
noncomputable def cf_parts_l0 (N : Nat) (F : AV → Heap → Option R) (n : Nat) : St → Option R := loopAt (cf_parts_E N) [] N (cf_parts_at N F [1, 1, 0, 1, 0] []) n
theorem cf_parts_q3_eq (N : Nat) (Q1 : St → Option R) (F : AV → Heap → Option R) (a : Nat) (l : Int) (m : Int) (d : LA) (c : Nat) (e : Bool) (f : Bool) (i : Int) (o : Int) (g : Bool) (b : LA) : ∀ (n : Nat) (w : Int) (x : Int) (r : Int) (u : LA), cf_parts_l3 N F Q1 n (cf_parts_s3 a l m d c e f i o g b w x r u) = (cf_parts_q3 N (fun j i p q => Q1 (cf_parts_s1 a d c e f g b j i p q)) (cf_parts_r0 F) a l m d c e f i o g b n w x r u) := by
  intro n
  induction n with
  | zero => intros; kernel_rfl
  | succ n ih =>
    intro w x r u
    have e0 := funext fun w => funext fun x => funext fun r => funext fun u => (show cf_parts_l3 N F Q1 n (cf_parts_s3 a l m d c e f i o g b w x r u) = _ from ih w x r u)
    have hK : cf_parts_l3 N F Q1 (n + 1) (cf_parts_s3 a l m d c e f i o g b w x r u) = (cf_parts_q3B N (fun j i p q => Q1 (cf_parts_s1 a d c e f g b j i p q)) (cf_parts_r0 F) a l m d c e f i o g b (fun w x r u => cf_parts_l3 N F Q1 n (cf_parts_s3 a l m d c e f i o g b w x r u)) w x r u) := by kernel_rfl
    exact hK.trans (by rw [e0]; rfl)
theorem cf_parts_q2_eq (N : Nat) (Q1 : St → Option R) (F : AV → Heap → Option R) (a : Nat) (j : Int) (l : Int) (m : Int) (d : LA) (c : Nat) (e : Bool) (f : Bool) (i : Int) (g : Bool) (b : LA) : ∀ (o : Int) (aa : LA), cf_parts_i2 N F Q1 (cf_parts_s2 a j l m d c e f i g b o aa) = (cf_parts_q2 N (fun j i p q => Q1 (cf_parts_s1 a d c e f g b j i p q)) (cf_parts_r0 F) a j l m d c e f i g b o aa) := by
  intro o aa
  have e1 := funext fun w => funext fun x => funext fun r => funext fun u => (show cf_parts_w3 N F Q1 (cf_parts_s3 a l m d c e f i o g b w x r u) = _ from (loopW_eq ..).trans (cf_parts_q3_eq N Q1 F a l m d c e f i o g b N w x r u))
  have hK : cf_parts_i2 N F Q1 (cf_parts_s2 a j l m d c e f i g b o aa) = (cf_parts_q2B N (fun j i p q => Q1 (cf_parts_s1 a d c e f g b j i p q)) (cf_parts_r0 F) a j l m d c e f i g b (fun w x r u => cf_parts_w3 N F Q1 (cf_parts_s3 a l m d c e f i o g b w x r u)) o aa) := by kernel_rfl
  exact hK.trans (by rw [e1]; rfl)
theorem cf_parts_q1_eq (N : Nat)  (F : AV → Heap → Option R) (a : Nat) (d : LA) (c : Nat) (e : Bool) (f : Bool) (g : Bool) (b : LA) : ∀ (n : Nat) (j : Int) (i : Int) (p : Int) (q : LA), cf_parts_l1 N F n (cf_parts_s1 a d c e f g b j i p q) = (cf_parts_q1 N (cf_parts_r0 F) a d c e f g b n j i p q) := by
  intro n
  induction n with
  | zero => intros; kernel_rfl
  | succ n ih =>
    intro j i p q
    have e0 := funext fun j => funext fun i => funext fun p => funext fun q => (show cf_parts_l1 N F n (cf_parts_s1 a d c e f g b j i p q) = _ from ih j i p q)
    have e1 : (fun l m o aa => cf_parts_j2 N F (cf_parts_l1 N F n) (cf_parts_s2 a j l m d c e f i g b o aa)) = (fun l m o aa => (cf_parts_q2 N (cf_parts_q1 N (cf_parts_r0 F) a d c e f g b n) (cf_parts_r0 F) a j l m d c e f i g b o aa)) := by funext l; funext m; funext o; funext aa; exact ((joinAt_eq ..).trans (cf_parts_q2_eq N (cf_parts_l1 N F n) F a j l m d c e f i g b o aa)).trans (by rw [e0])
    have hK : cf_parts_l1 N F (n + 1) (cf_parts_s1 a d c e f g b j i p q) = (cf_parts_q1B N (cf_parts_r0 F) a d c e f g b (fun j i p q => cf_parts_l1 N F n (cf_parts_s1 a d c e f g b j i p q)) (fun l m o aa => cf_parts_j2 N F (cf_parts_l1 N F n) (cf_parts_s2 a j l m d c e f i g b o aa)) j i p q) := by kernel_rfl
    exact hK.trans (by rw [e0, e1]; rfl)
theorem cf_parts_q0_eq (N : Nat)  (F : AV → Heap → Option R) (d : LA) (c : Nat) (e : Bool) (f : Bool) (a : Nat) (g : Bool) (b : LA) : ∀ (n : Nat) (z : Int) (t : Int) (y : LA), cf_parts_l0 N F n (cf_parts_s0 d c e f a g b z t y) = (cf_parts_q0 N (cf_parts_r0 F) d c e f a g b n z t y) := by
  intro n
  induction n with
  | zero => intros; kernel_rfl
  | succ n ih =>
    intro z t y
    have e0 := funext fun z => funext fun t => funext fun y => (show cf_parts_l0 N F n (cf_parts_s0 d c e f a g b z t y) = _ from ih z t y)
    have e1 := funext fun j => funext fun i => funext fun p => funext fun q => (show cf_parts_w1 N F (cf_parts_s1 a d c e f g b j i p q) = _ from (loopW_eq ..).trans (cf_parts_q1_eq N F a d c e f g b N j i p q))
    have hK : cf_parts_l0 N F (n + 1) (cf_parts_s0 d c e f a g b z t y) = (cf_parts_q0B N (cf_parts_r0 F) d c e f a g b (fun z t y => cf_parts_l0 N F n (cf_parts_s0 d c e f a g b z t y)) (fun j i p q => cf_parts_w1 N F (cf_parts_s1 a d c e f g b j i p q)) z t y) := by kernel_rfl
    exact hK.trans (by rw [e0, e1]; rfl)
theorem cf_parts_eq (N : Nat) (b : LA) (g : Bool) (d : LA) (c : Nat) (e : Bool) (f : Bool) (F : AV → Heap → Option R) : execF Try.prog muts (cf_parts_T N) cf_parts_hs N 68 [(.pagg b g), (.imm d c 1 e f), .nsl] [] F = (cf_parts N b g d c e f (cf_parts_r0 F)) := by
  have e1 := funext fun a => funext fun z => funext fun t => funext fun y => (show cf_parts_w0 N F (cf_parts_s0 d c e f a g b z t y) = _ from (loopW_eq ..).trans (cf_parts_q0_eq N F d c e f a g b N z t y))
  have hK : execF Try.prog muts (cf_parts_T N) cf_parts_hs N 68 [(.pagg b g), (.imm d c 1 e f), .nsl] [] F = (cf_partsB N (cf_parts_r0 F) (fun a z t y => cf_parts_w0 N F (cf_parts_s0 d c e f a g b z t y)) b g d c e f) := by kernel_rfl
  rw [cf_parts_def]
  exact hK.trans (by rw [e1]; rfl)
noncomputable def cf_parts_run (N : Nat) (args : List AV) (h : Heap) (k : AV → Heap → Option R) : Option R :=
  match args, h with
  | [(.pagg b g), (.imm d c 1 e f), .nsl], [] => (cf_parts N b g d c e f (cf_parts_r0 k))
  | _, _ => none
noncomputable def cf_parts_Tw (N : Nat) : Tw where
  runK := cf_parts_run N
  eq := by
    intro R args h k
    unfold cf_parts_run
    split
    · exact (cf_parts_eq ..).symm.trans ((execF_bind ..).trans (congrArg (Option.bind · _) (cf_parts_eq ..)))
    · rfl
theorem cf_parts_ok (N : Nat) : TwOk Try.prog 68 (cf_parts_Tw N) := by
  intro args h res ac al
  have hh : cf_parts_run N args h (fun v ac => some (v, ac)) = some (res, ac) := al
  unfold cf_parts_run at hh
  split at hh
  · exact execF_sound (T := cf_parts_T N) ⟨slices_Contains__int_int_v2_ok N, trivial⟩ follows ((cf_parts_eq ..).trans hh)
  · cases hh
noncomputable def cf_parts_v2_q3B (N : Nat) (k1 : Int → Int → Int → LA → Option R) (r0 : Int → Option R) (d : LA) (e : Nat) (i : Bool) (f : Bool) (a : Nat) (r : Int) (t : Int) (g : LA) (c : Nat) (j : Bool) (l : Bool) (p : Int) (o : Int) (m : Bool) (b : LA) (k3 : Int → Int → Int → LA → Option R)  (z : Int) (aa : Int) (w : Int) (y : LA) : Option R :=
  (cond (decide (w < aa)) (cond (inIdx w a) (rdI .i64 (List.drop (0 + ((Int.toNat w) * 1)) y) fun ai => (cond (ai == t) (cond (inIdx w a) (cond ((Nat.beq 1 1) && ((Nat.ble ((0 + ((Int.toNat w) * 1)) + 1) (List.length y)) && (!false))) (k3 z aa (IntKind.wrap .i64 (w + (1 : Int))) (List.set y (0 + ((Int.toNat w) * 1)) (.int .i64 r))) none) none) (k3 z aa (IntKind.wrap .i64 (w + (1 : Int))) y))) none) (k1 z p (IntKind.wrap .i64 (o + (1 : Int))) y))
noncomputable def cf_parts_v2_q3 (N : Nat) (k1 : Int → Int → Int → LA → Option R) (r0 : Int → Option R) (d : LA) (e : Nat) (i : Bool) (f : Bool) (a : Nat) (r : Int) (t : Int) (g : LA) (c : Nat) (j : Bool) (l : Bool) (p : Int) (o : Int) (m : Bool) (b : LA) : Nat → Int → Int → Int → LA → Option R
  | 0, _, _, _, _ => none
  | n + 1, z, aa, w, y => (cf_parts_v2_q3B N k1 r0 d e i f a r t g c j l p o m b (cf_parts_v2_q3 N k1 r0 d e i f a r t g c j l p o m b n) z aa w y)
noncomputable def cf_parts_v2_q2B (N : Nat) (k1 : Int → Int → Int → LA → Option R) (r0 : Int → Option R) (d : LA) (e : Nat) (i : Bool) (f : Bool) (a : Nat) (q : Int) (r : Int) (t : Int) (g : LA) (c : Nat) (j : Bool) (l : Bool) (p : Int) (o : Int) (m : Bool) (b : LA)  (q3 : Int → Int → Int → LA → Option R) (ad : LA) : Option R :=
  (q3 (IntKind.wrap .i64 (q - (1 : Int))) ((a : Nat) : Int) 0 ad)
noncomputable def cf_parts_v2_q2 (N : Nat) (k1 : Int → Int → Int → LA → Option R) (r0 : Int → Option R) (d : LA) (e : Nat) (i : Bool) (f : Bool) (a : Nat) (q : Int) (r : Int) (t : Int) (g : LA) (c : Nat) (j : Bool) (l : Bool) (p : Int) (o : Int) (m : Bool) (b : LA) (ad : LA) : Option R := (cf_parts_v2_q2B N k1 r0 d e i f a q r t g c j l p o m b (fun z aa w y => (cf_parts_v2_q3 N k1 r0 d e i f a r t g c j l p o m b N z aa w y)) ad)
noncomputable def cf_parts_v2_q1B (N : Nat)  (r0 : Int → Option R) (d : LA) (e : Nat) (i : Bool) (f : Bool) (a : Nat) (g : LA) (c : Nat) (j : Bool) (l : Bool) (m : Bool) (b : LA) (k1 : Int → Int → Int → LA → Option R) (q2 : Int → Int → LA → Option R) (q : Int) (p : Int) (o : Int) (u : LA) : Option R :=
  (cond (decide (o < p)) (cond (inIdx o c) (rdI .i64 (List.drop ((Int.toNat o) * 1) g) fun ae => (rdL 12 (List.drop 3 b) fun aj ak => (cond (inIdx ae ak) (rdI .i64 (List.drop 1 (List.drop ((Int.toNat ae) * 12) aj)) fun ag => (cond (inIdx ag a) (rdI .i64 (List.drop (0 + ((Int.toNat ag) * 1)) u) fun r => (rdL 12 (List.drop 3 b) fun al am => (cond (inIdx ae am) (rdI .i64 (List.drop 2 (List.drop ((Int.toNat ae) * 12) al)) fun ah => (cond (inIdx ah a) (rdI .i64 (List.drop (0 + ((Int.toNat ah) * 1)) u) fun t => (cond ((r == t) == false) (slices_Contains__int_int N d e false f ae (fun an => (cond (cond false true an) (k1 q p (IntKind.wrap .i64 (o + (1 : Int))) u) (q2 r t u)))) (k1 q p (IntKind.wrap .i64 (o + (1 : Int))) u))) none)) none))) none)) none))) none) (r0 q))
noncomputable def cf_parts_v2_q1 (N : Nat)  (r0 : Int → Option R) (d : LA) (e : Nat) (i : Bool) (f : Bool) (a : Nat) (g : LA) (c : Nat) (j : Bool) (l : Bool) (m : Bool) (b : LA) : Nat → Int → Int → Int → LA → Option R
  | 0, _, _, _, _ => none
  | n + 1, q, p, o, u => (cf_parts_v2_q1B N r0 d e i f a g c j l m b (cf_parts_v2_q1 N r0 d e i f a g c j l m b n) (fun r t ad => (cf_parts_v2_q2 N (cf_parts_v2_q1 N r0 d e i f a g c j l m b n) r0 d e i f a q r t g c j l p o m b ad)) q p o u)
noncomputable def cf_parts_v2_q0B (N : Nat)  (r0 : Int → Option R) (g : LA) (c : Nat) (j : Bool) (l : Bool) (d : LA) (e : Nat) (i : Bool) (f : Bool) (a : Nat) (m : Bool) (b : LA) (k0 : Int → Int → LA → Option R) (q1 : Int → Int → Int → LA → Option R) (ac : Int) (x : Int) (ab : LA) : Option R :=
  (cond (decide (x < ac)) (cond (inIdx x a) (cond ((Nat.beq 1 1) && ((Nat.ble ((0 + ((Int.toNat x) * 1)) + 1) (List.length ab)) && (!false))) (k0 ac (IntKind.wrap .i64 (x + (1 : Int))) (List.set ab (0 + ((Int.toNat x) * 1)) (.int .i64 x))) none) none) (q1 ((a : Nat) : Int) ((c : Nat) : Int) 0 ab))
noncomputable def cf_parts_v2_q0 (N : Nat)  (r0 : Int → Option R) (g : LA) (c : Nat) (j : Bool) (l : Bool) (d : LA) (e : Nat) (i : Bool) (f : Bool) (a : Nat) (m : Bool) (b : LA) : Nat → Int → Int → LA → Option R
  | 0, _, _, _ => none
  | n + 1, ac, x, ab => (cf_parts_v2_q0B N r0 g c j l d e i f a m b (cf_parts_v2_q0 N r0 g c j l d e i f a m b n) (fun q p o u => (cf_parts_v2_q1 N r0 d e i f a g c j l m b N q p o u)) ac x ab)
noncomputable def cf_parts_v2B (N : Nat) (r0 : Int → Option R) (q0 : Nat → Int → Int → LA → Option R) (b : LA) (m : Bool) (g : LA) (c : Nat) (j : Bool) (l : Bool) (d : LA) (e : Nat) (i : Bool) (f : Bool) : Option R :=
  (rdL 3 (List.drop 2 b) fun aq a => (cond ((decide ((0 : Int) ≤ ((a : Nat) : Int))) && ((decide (((a : Nat) : Int) ≤ ((a : Nat) : Int))) && ((decide (((a : Nat) : Int) ≤ (140737488355328 : Int))) && (decide ((((a : Nat) : Int) * ((8 : Nat) : Int)) ≤ (140737488355328 : Int)))))) (q0 a ((a : Nat) : Int) 0 (List.replicate a (.int .i64 0))) none))
noncomputable def cf_parts_v2i (N : Nat) (b : LA) (m : Bool) (g : LA) (c : Nat) (j : Bool) (l : Bool) (d : LA) (e : Nat) (i : Bool) (f : Bool) (r0 : Int → Option R) : Option R := (cf_parts_v2B N r0 (fun a ac x ab => (cf_parts_v2_q0 N r0 g c j l d e i f a m b N ac x ab)) b m g c j l d e i f)
noncomputable def cf_parts_v2 := (shut (@cf_parts_v2i R)).1
theorem cf_parts_v2_def : @cf_parts_v2 R = @cf_parts_v2i R := (shut _).2
noncomputable def cf_parts_v2_hs : Hints := { H := (hS (hR [1,2,3]) (hS (hR [1,2,3,7]) (hS (hS (hR [1,2,3,7,20,21]) (hN [1,2,3,7] (hN [1,2,3,7,20,21] (hS (hR [1,2,3,7,20,21,22]) (hS (hN [1,2,3,7,20,21] hL hL) (hS (hN [1,2,3,7,20,21] (hS (hR [1,2,3,7,8,20,21]) (hR [1,2,3,7,20,21])) hL) (hR [1,2,3,7,20,21])))) hL) hL)) (hS (hR [1,2,3,7,9]) (hS (hS (hR [2,3,7,9,31,32,33]) (hN [9] (hN [2,3,7,9,31,32,33] (hS (hR [2,3,7,9,31,32,33,34]) (hS (hN [2,3,7,9,31,32,33] hL hL) (hS (hN [2,3,7,9,31,32,33] (hS (hR [2,3,7,9,11,31,32,33]) (hS (hR [2,3,7,9,11,12,13,31,32,33]) (hJ (hS (hR [2,3,7,9,12,13,31,32,33,62]) (hN [2,3,7,9,12,13,31,32,33] hL hL)) (hS (hR [2,3,7,9,12,13,31,32,33]) (hS (hR [2,3,7,9,12,13,31,32,33,66,67]) (hN [2,3,7,9,31,32,33] (hN [2,3,7,9,12,13,31,32,33,66,67] (hS (hR [2,3,7,9,12,13,31,32,33,66,67,68]) (hS (hN [2,3,7,9,12,13,31,32,33,66,67] hL hL) (hS (hN [2,3,7,9,12,13,31,32,33,66,67] (hS (hR [2,3,7,9,12,13,14,31,32,33,66,67]) (hS (hR [2,3,7,9,12,13,14,31,32,33,66,67,75]) (hN [2,3,7,9,12,13,31,32,33,66,67] (hR [2,3,7,9,12,13,31,32,33,66,67]) hL))) hL) (hR [2,3,7,9,12,13,31,32,33,66,67])))) hL) hL)))))) hL) (hR [2,3,7,9,31,32,33])))) hL) hL)) (hS (hR [6]) hL)))))), nils := [], modes := [], free := [], cob := [] }
noncomputable def cf_parts_v2_T (N : Nat) : List (Nat × Tw) := [(39, slices_Contains__int_int_Tw N)]
noncomputable def cf_parts_v2_E (N : Nat) : Env := mkE 83 cf_parts_v2_hs (cf_parts_v2_T N)
noncomputable def cf_parts_v2_fin (N : Nat) (F : AV → Heap → Option R) := afinish (cf_parts_v2_E N) Try.f68 cf_parts_v2_hs.modes [] F
noncomputable def cf_parts_v2_at (N : Nat) (F : AV → Heap → Option R) := atF (cf_parts_v2_E N) [] N Try.f68 cf_parts_v2_hs (cf_parts_v2_fin N F)
noncomputable def cf_parts_v2_r0  (F : AV → Heap → Option R) : Int → Option R := (fun ao => F (.int .i64 ao) [])
noncomputable def cf_parts_v2_s3 (d : LA) (e : Nat) (i : Bool) (f : Bool) (a : Nat) (r : Int) (t : Int) (g : LA) (c : Nat) (j : Bool) (l : Bool) (p : Int) (o : Int) (m : Bool) (b : LA) (z : Int) (aa : Int) (w : Int) (y : LA) : St := { s := [(2, (.imm d e 1 i f)), (3, (.optr 300000 0)), (7, (.own 300001 0 a)), (9, (.int .i64 z)), (12, (.int .i64 r)), (13, (.int .i64 t)), (31, (.imm g c 1 j l)), (32, (.int .i64 p)), (33, (.int .i64 o)), (66, (.int .i64 aa)), (67, (.int .i64 w))], h := [(300000, ⟨false, false, true, m, 0, b⟩), (300001, ⟨false, false, true, false, 1, y⟩)] }
noncomputable def cf_parts_v2_w3 (N : Nat) (F : AV → Heap → Option R) (Q1 : St → Option R) : St → Option R := loopW (cf_parts_v2_E N) [] N (cf_parts_v2_at N F [1, 1, 1, 1, 0, 1, 0, 0, 1, 1, 0, 0, 1, 1, 1, 1, 1, 0] [Q1]) N
noncomputable def cf_parts_v2_l3 (N : Nat) (F : AV → Heap → Option R) (Q1 : St → Option R) (n : Nat) : St → Option R := loopAt (cf_parts_v2_E N) [] N (cf_parts_v2_at N F [1, 1, 1, 1, 0, 1, 0, 0, 1, 1, 0, 0, 1, 1, 1, 1, 1, 0] [Q1]) n
noncomputable def cf_parts_v2_s2 (d : LA) (e : Nat) (i : Bool) (f : Bool) (a : Nat) (q : Int) (r : Int) (t : Int) (g : LA) (c : Nat) (j : Bool) (l : Bool) (p : Int) (o : Int) (m : Bool) (b : LA) (ad : LA) : St := { s := [(2, (.imm d e 1 i f)), (3, (.optr 300000 0)), (7, (.own 300001 0 a)), (9, (.int .i64 q)), (12, (.int .i64 r)), (13, (.int .i64 t)), (31, (.imm g c 1 j l)), (32, (.int .i64 p)), (33, (.int .i64 o))], h := [(300000, ⟨false, false, true, m, 0, b⟩), (300001, ⟨false, false, true, false, 1, ad⟩)] }
noncomputable def cf_parts_v2_j2 (N : Nat) (F : AV → Heap → Option R) (Q1 : St → Option R) : St → Option R := joinAt (cf_parts_v2_E N) [] N (cf_parts_v2_at N F [1, 1, 1, 1, 0, 1, 0, 0, 1, 1, 0, 0, 1, 1, 1] [Q1])
noncomputable def cf_parts_v2_i2 (N : Nat) (F : AV → Heap → Option R) (Q1 : St → Option R) : St → Option R := joinIn (cf_parts_v2_E N) [] N (cf_parts_v2_at N F [1, 1, 1, 1, 0, 1, 0, 0, 1, 1, 0, 0, 1, 1, 1] [Q1])
noncomputable def cf_parts_v2_s1 (d : LA) (e : Nat) (i : Bool) (f : Bool) (a : Nat) (g : LA) (c : Nat) (j : Bool) (l : Bool) (m : Bool) (b : LA) (q : Int) (p : Int) (o : Int) (u : LA) : St := { s := [(2, (.imm d e 1 i f)), (3, (.optr 300000 0)), (7, (.own 300001 0 a)), (9, (.int .i64 q)), (31, (.imm g c 1 j l)), (32, (.int .i64 p)), (33, (.int .i64 o))], h := [(300000, ⟨false, false, true, m, 0, b⟩), (300001, ⟨false, false, true, false, 1, u⟩)] }
noncomputable def cf_parts_v2_w1 (N : Nat) (F : AV → Heap → Option R) : St → Option R := loopW (cf_parts_v2_E N) [] N (cf_parts_v2_at N F [1, 1, 1, 1, 0, 1, 0] []) N
noncomputable def cf_parts_v2_l1 (N : Nat) (F : AV → Heap → Option R) (n : Nat) : St → Option R := loopAt (cf_parts_v2_E N) [] N (cf_parts_v2_at N F [1, 1, 1, 1, 0, 1, 0] []) n
noncomputable def cf_parts_v2_s0 (g : LA) (c : Nat) (j : Bool) (l : Bool) (d : LA) (e : Nat) (i : Bool) (f : Bool) (a : Nat) (m : Bool) (b : LA) (ac : Int) (x : Int) (ab : LA) : St := { s := [(1, (.imm g c 1 j l)), (2, (.imm d e 1 i f)), (3, (.optr 300000 0)), (7, (.own 300001 0 a)), (20, (.int .i64 ac)), (21, (.int .i64 x))], h := [(300000, ⟨false, false, true, m, 0, b⟩), (300001, ⟨false, false, true, false, 1, ab⟩)] }
noncomputable def cf_parts_v2_w0 (N : Nat) (F : AV → Heap → Option R) : St → Option R := loopW (cf_parts_v2_E N) [] N (cf_parts_v2_at N F [1, 1, 0, 1, 0] []) N
noncomputable def cf_parts_v2_l0 (N : Nat) (F : AV → Heap → Option R) (n : Nat) : St → Option R := loopAt (cf_parts_v2_E N) [] N (cf_parts_v2_at N F [1, 1, 0, 1, 0] []) n
theorem cf_parts_v2_q3_eq (N : Nat) (Q1 : St → Option R) (F : AV → Heap → Option R) (d : LA) (e : Nat) (i : Bool) (f : Bool) (a : Nat) (r : Int) (t : Int) (g : LA) (c : Nat) (j : Bool) (l : Bool) (p : Int) (o : Int) (m : Bool) (b : LA) : ∀ (n : Nat) (z : Int) (aa : Int) (w : Int) (y : LA), cf_parts_v2_l3 N F Q1 n (cf_parts_v2_s3 d e i f a r t g c j l p o m b z aa w y) = (cf_parts_v2_q3 N (fun q p o u => Q1 (cf_parts_v2_s1 d e i f a g c j l m b q p o u)) (cf_parts_v2_r0 F) d e i f a r t g c j l p o m b n z aa w y) := by
  intro n
  induction n with
  | zero => intros; kernel_rfl
  | succ n ih =>
    intro z aa w y
    have e0 := funext fun z => funext fun aa => funext fun w => funext fun y => (show cf_parts_v2_l3 N F Q1 n (cf_parts_v2_s3 d e i f a r t g c j l p o m b z aa w y) = _ from ih z aa w y)
    have hK : cf_parts_v2_l3 N F Q1 (n + 1) (cf_parts_v2_s3 d e i f a r t g c j l p o m b z aa w y) = (cf_parts_v2_q3B N (fun q p o u => Q1 (cf_parts_v2_s1 d e i f a g c j l m b q p o u)) (cf_parts_v2_r0 F) d e i f a r t g c j l p o m b (fun z aa w y => cf_parts_v2_l3 N F Q1 n (cf_parts_v2_s3 d e i f a r t g c j l p o m b z aa w y)) z aa w y) := by kernel_rfl
    exact hK.trans (by rw [e0]; rfl)
theorem cf_parts_v2_q2_eq (N : Nat) (Q1 : St → Option R) (F : AV → Heap → Option R) (d : LA) (e : Nat) (i : Bool) (f : Bool) (a : Nat) (q : Int) (r : Int) (t : Int) (g : LA) (c : Nat) (j : Bool) (l : Bool) (p : Int) (o : Int) (m : Bool) (b : LA) : ∀ (ad : LA), cf_parts_v2_i2 N F Q1 (cf_parts_v2_s2 d e i f a q r t g c j l p o m b ad) = (cf_parts_v2_q2 N (fun q p o u => Q1 (cf_parts_v2_s1 d e i f a g c j l m b q p o u)) (cf_parts_v2_r0 F) d e i f a q r t g c j l p o m b ad) := by
  intro ad
  have e1 := funext fun z => funext fun aa => funext fun w => funext fun y => (show cf_parts_v2_w3 N F Q1 (cf_parts_v2_s3 d e i f a r t g c j l p o m b z aa w y) = _ from (loopW_eq ..).trans (cf_parts_v2_q3_eq N Q1 F d e i f a r t g c j l p o m b N z aa w y))
  have hK : cf_parts_v2_i2 N F Q1 (cf_parts_v2_s2 d e i f a q r t g c j l p o m b ad) = (cf_parts_v2_q2B N (fun q p o u => Q1 (cf_parts_v2_s1 d e i f a g c j l m b q p o u)) (cf_parts_v2_r0 F) d e i f a q r t g c j l p o m b (fun z aa w y => cf_parts_v2_w3 N F Q1 (cf_parts_v2_s3 d e i f a r t g c j l p o m b z aa w y)) ad) := by kernel_rfl
  exact hK.trans (by rw [e1]; rfl)
theorem cf_parts_v2_q1_eq (N : Nat)  (F : AV → Heap → Option R) (d : LA) (e : Nat) (i : Bool) (f : Bool) (a : Nat) (g : LA) (c : Nat) (j : Bool) (l : Bool) (m : Bool) (b : LA) : ∀ (n : Nat) (q : Int) (p : Int) (o : Int) (u : LA), cf_parts_v2_l1 N F n (cf_parts_v2_s1 d e i f a g c j l m b q p o u) = (cf_parts_v2_q1 N (cf_parts_v2_r0 F) d e i f a g c j l m b n q p o u) := by
  intro n
  induction n with
  | zero => intros; kernel_rfl
  | succ n ih =>
    intro q p o u
    have e0 := funext fun q => funext fun p => funext fun o => funext fun u => (show cf_parts_v2_l1 N F n (cf_parts_v2_s1 d e i f a g c j l m b q p o u) = _ from ih q p o u)
    have e1 : (fun r t ad => cf_parts_v2_j2 N F (cf_parts_v2_l1 N F n) (cf_parts_v2_s2 d e i f a q r t g c j l p o m b ad)) = (fun r t ad => (cf_parts_v2_q2 N (cf_parts_v2_q1 N (cf_parts_v2_r0 F) d e i f a g c j l m b n) (cf_parts_v2_r0 F) d e i f a q r t g c j l p o m b ad)) := by funext r; funext t; funext ad; exact ((joinAt_eq ..).trans (cf_parts_v2_q2_eq N (cf_parts_v2_l1 N F n) F d e i f a q r t g c j l p o m b ad)).trans (by rw [e0])
    have hK : cf_parts_v2_l1 N F (n + 1) (cf_parts_v2_s1 d e i f a g c j l m b q p o u) = (cf_parts_v2_q1B N (cf_parts_v2_r0 F) d e i f a g c j l m b (fun q p o u => cf_parts_v2_l1 N F n (cf_parts_v2_s1 d e i f a g c j l m b q p o u)) (fun r t ad => cf_parts_v2_j2 N F (cf_parts_v2_l1 N F n) (cf_parts_v2_s2 d e i f a q r t g c j l p o m b ad)) q p o u) := by kernel_rfl
    exact hK.trans (by rw [e0, e1]; rfl)
theorem cf_parts_v2_q0_eq (N : Nat)  (F : AV → Heap → Option R) (g : LA) (c : Nat) (j : Bool) (l : Bool) (d : LA) (e : Nat) (i : Bool) (f : Bool) (a : Nat) (m : Bool) (b : LA) : ∀ (n : Nat) (ac : Int) (x : Int) (ab : LA), cf_parts_v2_l0 N F n (cf_parts_v2_s0 g c j l d e i f a m b ac x ab) = (cf_parts_v2_q0 N (cf_parts_v2_r0 F) g c j l d e i f a m b n ac x ab) := by
  intro n
  induction n with
  | zero => intros; kernel_rfl
  | succ n ih =>
    intro ac x ab
    have e0 := funext fun ac => funext fun x => funext fun ab => (show cf_parts_v2_l0 N F n (cf_parts_v2_s0 g c j l d e i f a m b ac x ab) = _ from ih ac x ab)
    have e1 := funext fun q => funext fun p => funext fun o => funext fun u => (show cf_parts_v2_w1 N F (cf_parts_v2_s1 d e i f a g c j l m b q p o u) = _ from (loopW_eq ..).trans (cf_parts_v2_q1_eq N F d e i f a g c j l m b N q p o u))
    have hK : cf_parts_v2_l0 N F (n + 1) (cf_parts_v2_s0 g c j l d e i f a m b ac x ab) = (cf_parts_v2_q0B N (cf_parts_v2_r0 F) g c j l d e i f a m b (fun ac x ab => cf_parts_v2_l0 N F n (cf_parts_v2_s0 g c j l d e i f a m b ac x ab)) (fun q p o u => cf_parts_v2_w1 N F (cf_parts_v2_s1 d e i f a g c j l m b q p o u)) ac x ab) := by kernel_rfl
    exact hK.trans (by rw [e0, e1]; rfl)
theorem cf_parts_v2_eq (N : Nat) (b : LA) (m : Bool) (g : LA) (c : Nat) (j : Bool) (l : Bool) (d : LA) (e : Nat) (i : Bool) (f : Bool) (F : AV → Heap → Option R) : execF Try.prog muts (cf_parts_v2_T N) cf_parts_v2_hs N 68 [(.pagg b m), (.imm g c 1 j l), (.imm d e 1 i f)] [] F = (cf_parts_v2 N b m g c j l d e i f (cf_parts_v2_r0 F)) := by
  have e1 := funext fun a => funext fun ac => funext fun x => funext fun ab => (show cf_parts_v2_w0 N F (cf_parts_v2_s0 g c j l d e i f a m b ac x ab) = _ from (loopW_eq ..).trans (cf_parts_v2_q0_eq N F g c j l d e i f a m b N ac x ab))
  have hK : execF Try.prog muts (cf_parts_v2_T N) cf_parts_v2_hs N 68 [(.pagg b m), (.imm g c 1 j l), (.imm d e 1 i f)] [] F = (cf_parts_v2B N (cf_parts_v2_r0 F) (fun a ac x ab => cf_parts_v2_w0 N F (cf_parts_v2_s0 g c j l d e i f a m b ac x ab)) b m g c j l d e i f) := by kernel_rfl
  rw [cf_parts_v2_def]
  exact hK.trans (by rw [e1]; rfl)
noncomputable def cf_parts_v2_run (N : Nat) (args : List AV) (h : Heap) (k : AV → Heap → Option R) : Option R :=
  match args, h with
  | [(.pagg b m), (.imm g c 1 j l), (.imm d e 1 i f)], [] => (cf_parts_v2 N b m g c j l d e i f (cf_parts_v2_r0 k))
  | _, _ => none
noncomputable def cf_parts_v2_Tw (N : Nat) : Tw where
  runK := cf_parts_v2_run N
  eq := by
    intro R args h k
    unfold cf_parts_v2_run
    split
    · exact (cf_parts_v2_eq ..).symm.trans ((execF_bind ..).trans (congrArg (Option.bind · _) (cf_parts_v2_eq ..)))
    · rfl
theorem cf_parts_v2_ok (N : Nat) : TwOk Try.prog 68 (cf_parts_v2_Tw N) := by
  intro args h res af ap
  have hh : cf_parts_v2_run N args h (fun v af => some (v, af)) = some (res, af) := ap
  unfold cf_parts_v2_run at hh
  split at hh
  · exact execF_sound (T := cf_parts_v2_T N) ⟨slices_Contains__int_int_ok N, trivial⟩ follows ((cf_parts_v2_eq ..).trans hh)
  · cases hh
noncomputable def ck_islands_q1B (N : Nat) (k0 : Int → Bool → LA → Option R) (r0 : Bool → LA → Option R) (i : Nat) (w : Int) (c : Int) (j : LA) (t : Nat) (u : LA) (b : Bool) (a : LA) (k1 : Int → Int → Bool → Int → Int → Bool → LA → Option R)  (l : Int) (m : Int) (o : Bool) (p : Int) (e : Int) (q : Bool) (r : LA) : Option R :=
  (cond (decide (e < p)) (cond (inIdx e t) (cond (Nat.ble 4 (List.length (List.drop ((Int.toNat e) * 4) j))) (cond ((Nat.beq 0 0) && ((Nat.beq (List.length (List.take 4 (List.drop ((Int.toNat e) * 4) j))) 4) && (Nat.beq 4 4))) (ck_at N 6 e q r (fun ag y => (cond (Nat.ble 8 (List.length y)) (rdL 1 (List.drop 1 (List.take 4 (List.drop ((Int.toNat e) * 4) j))) fun ah ai => (cf_parts_v2 N (List.take 8 y) ag (List.take (i * 1) u) i false true ah ai false o (fun aj => (ck_need N (aj == w) l 13 ag y (fun ak al => (k1 l m o p (IntKind.wrap .i64 (e + (1 : Int))) ak al)))))) none))) none) none) none) (k0 (IntKind.wrap .i64 (m + (1 : Int))) q r))
noncomputable def ck_islands_q1 (N : Nat) (k0 : Int → Bool → LA → Option R) (r0 : Bool → LA → Option R) (i : Nat) (w : Int) (c : Int) (j : LA) (t : Nat) (u : LA) (b : Bool) (a : LA) : Nat → Int → Int → Bool → Int → Int → Bool → LA → Option R
  | 0, _, _, _, _, _, _, _ => none
  | n + 1, l, m, o, p, e, q, r => (ck_islands_q1B N k0 r0 i w c j t u b a (ck_islands_q1 N k0 r0 i w c j t u b a n) l m o p e q r)
noncomputable def ck_islands_q0B (N : Nat)  (r0 : Bool → LA → Option R) (c : Int) (b : Bool) (a : LA) (k0 : Int → Bool → LA → Option R) (q1 : Nat → Int → LA → Nat → LA → Int → Int → Bool → Int → Int → Bool → LA → Option R) (g : Int) (f : Bool) (d : LA) : Option R :=
  (cond (decide (g < c)) (cond (Nat.ble 8 (List.length d)) (cf_active N (List.take 8 d) f g (fun i u => (cond (Nat.ble 8 (List.length d)) (cf_parts N (List.take 8 d) f (List.take (i * 1) u) i false true (fun w => (rdL 4 (List.drop 7 d) fun j t => (q1 i w j t u g g f ((t : Nat) : Int) 0 f d)))) none))) none) (r0 f d))
noncomputable def ck_islands_q0 (N : Nat)  (r0 : Bool → LA → Option R) (c : Int) (b : Bool) (a : LA) : Nat → Int → Bool → LA → Option R
  | 0, _, _, _ => none
  | n + 1, g, f, d => (ck_islands_q0B N r0 c b a (ck_islands_q0 N r0 c b a n) (fun i w j t u l m o p e q r => (ck_islands_q1 N (ck_islands_q0 N r0 c b a n) r0 i w c j t u b a N l m o p e q r)) g f d)
noncomputable def ck_islandsB (N : Nat) (r0 : Bool → LA → Option R) (q0 : Int → Int → Bool → LA → Option R) (b : Bool) (a : LA) : Option R :=
  (rdI .i64 a fun c => (q0 c 0 b a))
noncomputable def ck_islandsi (N : Nat) (b : Bool) (a : LA) (r0 : Bool → LA → Option R) : Option R := (ck_islandsB N r0 (fun c g f d => (ck_islands_q0 N r0 c b a N g f d)) b a)
noncomputable def ck_islands := (shut (@ck_islandsi R)).1
theorem ck_islands_def : @ck_islands R = @ck_islandsi R := (shut _).2
noncomputable def ck_islands_hs : Hints := { H := (hS (hR [0,11,12]) (hS (hN [0,11,12] (hS (hR [0,11,12,13]) (hS (hN [0,11,12] hL hL) (hS (hN [0,11,12] (hS (hR [0,2,11,12]) (hS (hR [0,2,3,11,12]) (hS (hR [0,2,3,4,11,12]) (hS (hR [0,2,3,4,11,12,31,32,33]) (hN [0,11,12] (hN [0,2,3,4,11,12,31,32,33] (hS (hR [0,2,3,4,11,12,31,32,33,34]) (hS (hN [0,2,3,4,11,12,31,32,33] hL hL) (hS (hN [0,2,3,4,11,12,31,32,33] (hS (hR [0,2,3,4,5,6,11,12,31,32,33]) (hS (hR [0,2,3,4,6,11,12,31,32,33]) (hR [0,2,3,4,11,12,31,32,33]))) hL) (hR [0,2,3,4,11,12,31,32,33])))) hL) hL))))) hL) (hR [0,11,12])))) hL) hL)), nils := [], modes := [], free := [], cob := [] }
noncomputable def cf_parts_cf_parts_v2_all_run (N : Nat) (args : List AV) (h : Heap) (k : AV → Heap → Option R) : Option R :=
  match args, h with
  | [(.pagg z aa), (.imm ab ac 1 ad ae), .nsl], [] => (cf_parts N z aa ab ac ad ae (cf_parts_r0 k))
  | [(.pagg z aa), (.imm ab ac 1 ad ae), (.imm am an 1 ao ap)], [] => (cf_parts_v2 N z aa ab ac ad ae am an ao ap (cf_parts_v2_r0 k))
  | _, _ => none
noncomputable def cf_parts_cf_parts_v2_all_Tw (N : Nat) : Tw where
  runK := cf_parts_cf_parts_v2_all_run N
  eq := by
    intro R args h k
    unfold cf_parts_cf_parts_v2_all_run
    split
    · exact (cf_parts_eq ..).symm.trans ((execF_bind ..).trans (congrArg (Option.bind · _) (cf_parts_eq ..)))
    · exact (cf_parts_v2_eq ..).symm.trans ((execF_bind ..).trans (congrArg (Option.bind · _) (cf_parts_v2_eq ..)))
    · rfl
theorem cf_parts_cf_parts_v2_all_ok (N : Nat) : TwOk Try.prog 68 (cf_parts_cf_parts_v2_all_Tw N) := by
  intro args h res x af
  have hh : cf_parts_cf_parts_v2_all_run N args h (fun v x => some (v, x)) = some (res, x) := af
  unfold cf_parts_cf_parts_v2_all_run at hh
  split at hh
  · exact execF_sound (T := cf_parts_T N) ⟨slices_Contains__int_int_v2_ok N, trivial⟩ follows ((cf_parts_eq ..).trans hh)
  · exact execF_sound (T := cf_parts_v2_T N) ⟨slices_Contains__int_int_ok N, trivial⟩ follows ((cf_parts_v2_eq ..).trans hh)
  · cases hh
noncomputable def ck_islands_T (N : Nat) : List (Nat × Tw) := [(38, cf_active_Tw N), (68, cf_parts_cf_parts_v2_all_Tw N), (51, ck_at_Tw N), (54, ck_need_Tw N)]
noncomputable def ck_islands_E (N : Nat) : Env := mkE 56 ck_islands_hs (ck_islands_T N)
noncomputable def ck_islands_fin (N : Nat) (F : AV → Heap → Option R) := afinish (ck_islands_E N) Try.f32 ck_islands_hs.modes [100000] F
noncomputable def ck_islands_at (N : Nat) (F : AV → Heap → Option R) := atF (ck_islands_E N) [100000] N Try.f32 ck_islands_hs (ck_islands_fin N F)
noncomputable def ck_islands_r0  (F : AV → Heap → Option R) : Bool → LA → Option R := (fun aq ar => F (.tup []) [(100000, ⟨false, false, true, aq, 0, ar⟩)])
noncomputable def ck_islands_s1 (i : Nat) (w : Int) (c : Int) (j : LA) (t : Nat) (u : LA) (b : Bool) (a : LA) (l : Int) (m : Int) (o : Bool) (p : Int) (e : Int) (q : Bool) (r : LA) : St := { s := [(0, (.optr 100000 0)), (2, (.int .i64 l)), (3, (.own 300000 0 i)), (4, (.int .i64 w)), (11, (.int .i64 c)), (12, (.int .i64 m)), (31, (.imm j t 4 false o)), (32, (.int .i64 p)), (33, (.int .i64 e))], h := [(100000, ⟨false, false, true, q, 0, r⟩), (300000, ⟨false, false, true, false, 1, u⟩)] }
noncomputable def ck_islands_w1 (N : Nat) (F : AV → Heap → Option R) (Q0 : St → Option R) : St → Option R := loopW (ck_islands_E N) [100000] N (ck_islands_at N F [1, 0, 0, 1, 1, 0, 0, 1, 1, 1, 1, 0] [Q0]) N
noncomputable def ck_islands_l1 (N : Nat) (F : AV → Heap → Option R) (Q0 : St → Option R) (n : Nat) : St → Option R := loopAt (ck_islands_E N) [100000] N (ck_islands_at N F [1, 0, 0, 1, 1, 0, 0, 1, 1, 1, 1, 0] [Q0]) n
noncomputable def ck_islands_s0 (c : Int) (b : Bool) (a : LA) (g : Int) (f : Bool) (d : LA) : St := { s := [(0, (.optr 100000 0)), (11, (.int .i64 c)), (12, (.int .i64 g))], h := [(100000, ⟨false, false, true, f, 0, d⟩)] }
noncomputable def ck_islands_w0 (N : Nat) (F : AV → Heap → Option R) : St → Option R := loopW (ck_islands_E N) [100000] N (ck_islands_at N F [1, 0] []) N
noncomputable def ck_islands_l0 (N : Nat) (F : AV → Heap → Option R) (n : Nat) : St → Option R := loopAt (ck_islands_E N) [100000] N (ck_islands_at N F [1, 0] []) n
theorem ck_islands_q1_eq (N : Nat) (Q0 : St → Option R) (F : AV → Heap → Option R) (i : Nat) (w : Int) (c : Int) (j : LA) (t : Nat) (u : LA) (b : Bool) (a : LA) : ∀ (n : Nat) (l : Int) (m : Int) (o : Bool) (p : Int) (e : Int) (q : Bool) (r : LA), ck_islands_l1 N F Q0 n (ck_islands_s1 i w c j t u b a l m o p e q r) = (ck_islands_q1 N (fun g f d => Q0 (ck_islands_s0 c b a g f d)) (ck_islands_r0 F) i w c j t u b a n l m o p e q r) := by
  intro n
  induction n with
  | zero => intros; kernel_rfl
  | succ n ih =>
    intro l m o p e q r
    have e0 := funext fun l => funext fun m => funext fun o => funext fun p => funext fun e => funext fun q => funext fun r => (show ck_islands_l1 N F Q0 n (ck_islands_s1 i w c j t u b a l m o p e q r) = _ from ih l m o p e q r)
    have hK : ck_islands_l1 N F Q0 (n + 1) (ck_islands_s1 i w c j t u b a l m o p e q r) = (ck_islands_q1B N (fun g f d => Q0 (ck_islands_s0 c b a g f d)) (ck_islands_r0 F) i w c j t u b a (fun l m o p e q r => ck_islands_l1 N F Q0 n (ck_islands_s1 i w c j t u b a l m o p e q r)) l m o p e q r) := by kernel_rfl
    exact hK.trans (by rw [e0]; rfl)
theorem ck_islands_q0_eq (N : Nat)  (F : AV → Heap → Option R) (c : Int) (b : Bool) (a : LA) : ∀ (n : Nat) (g : Int) (f : Bool) (d : LA), ck_islands_l0 N F n (ck_islands_s0 c b a g f d) = (ck_islands_q0 N (ck_islands_r0 F) c b a n g f d) := by
  intro n
  induction n with
  | zero => intros; kernel_rfl
  | succ n ih =>
    intro g f d
    have e0 := funext fun g => funext fun f => funext fun d => (show ck_islands_l0 N F n (ck_islands_s0 c b a g f d) = _ from ih g f d)
    have e1 : (fun i w j t u l m o p e q r => ck_islands_w1 N F (ck_islands_l0 N F n) (ck_islands_s1 i w c j t u b a l m o p e q r)) = (fun i w j t u l m o p e q r => (ck_islands_q1 N (ck_islands_q0 N (ck_islands_r0 F) c b a n) (ck_islands_r0 F) i w c j t u b a N l m o p e q r)) := by funext i; funext w; funext j; funext t; funext u; funext l; funext m; funext o; funext p; funext e; funext q; funext r; exact ((loopW_eq ..).trans (ck_islands_q1_eq N (ck_islands_l0 N F n) F i w c j t u b a N l m o p e q r)).trans (by rw [e0])
    have hK : ck_islands_l0 N F (n + 1) (ck_islands_s0 c b a g f d) = (ck_islands_q0B N (ck_islands_r0 F) c b a (fun g f d => ck_islands_l0 N F n (ck_islands_s0 c b a g f d)) (fun i w j t u l m o p e q r => ck_islands_w1 N F (ck_islands_l0 N F n) (ck_islands_s1 i w c j t u b a l m o p e q r)) g f d) := by kernel_rfl
    exact hK.trans (by rw [e0, e1]; rfl)
theorem ck_islands_eq (N : Nat) (b : Bool) (a : LA) (F : AV → Heap → Option R) : execF Try.prog muts (ck_islands_T N) ck_islands_hs N 32 [(.optr 100000 0)] [(100000, ⟨false, false, true, b, 0, a⟩)] F = (ck_islands N b a (ck_islands_r0 F)) := by
  have e1 := funext fun c => funext fun g => funext fun f => funext fun d => (show ck_islands_w0 N F (ck_islands_s0 c b a g f d) = _ from (loopW_eq ..).trans (ck_islands_q0_eq N F c b a N g f d))
  have hK : execF Try.prog muts (ck_islands_T N) ck_islands_hs N 32 [(.optr 100000 0)] [(100000, ⟨false, false, true, b, 0, a⟩)] F = (ck_islandsB N (ck_islands_r0 F) (fun c g f d => ck_islands_w0 N F (ck_islands_s0 c b a g f d)) b a) := by kernel_rfl
  rw [ck_islands_def]
  exact hK.trans (by rw [e1]; rfl)
noncomputable def ck_islands_run (N : Nat) (args : List AV) (h : Heap) (k : AV → Heap → Option R) : Option R :=
  match args, h with
  | [(.optr 100000 0)], [(100000, ⟨false, false, true, b, 0, a⟩)] => (ck_islands N b a (ck_islands_r0 k))
  | _, _ => none
noncomputable def ck_islands_Tw (N : Nat) : Tw where
  runK := ck_islands_run N
  eq := by
    intro R args h k
    unfold ck_islands_run
    split
    · exact (ck_islands_eq ..).symm.trans ((execF_bind ..).trans (congrArg (Option.bind · _) (ck_islands_eq ..)))
    · rfl
theorem ck_islands_ok (N : Nat) : TwOk Try.prog 32 (ck_islands_Tw N) := by
  intro args h res x af
  have hh : ck_islands_run N args h (fun v x => some (v, x)) = some (res, x) := af
  unfold ck_islands_run at hh
  split at hh
  · exact execF_sound (T := ck_islands_T N) ⟨cf_active_ok N, cf_parts_cf_parts_v2_all_ok N, ck_at_ok N, ck_need_ok N, trivial⟩ follows ((ck_islands_eq ..).trans hh)
  · cases hh
noncomputable def cf_Check_q0B (N : Nat)  (r0 : LA → Int → Option R)  (k0 : Int → Bool → LA → Option R)  (a : Int) (b : Bool) (c : LA) : Option R :=
  (cond (decide (a < (8 : Int))) (cond (inIdx a 8) (cond (Nat.beq (0 + ((Int.toNat a) * 1)) 0) (ck_whole N b c (fun r f => (rdI .i64 (List.drop 11 f) fun ab => (cond (ab != (0 : Int)) (cond (Nat.ble 3 (List.length (List.drop 8 f))) (cond ((!r) || (plainZ (List.take 3 (List.drop 8 f)))) (rdI .i64 (List.drop 11 f) fun ac => (cond ((Nat.beq (List.length (List.take 3 (List.drop 8 f))) 3) && ((Nat.ble 3 3) && (!false))) (cond (Nat.ble 3 (List.length (setCells [(.int .i64 0), (.int .i64 0), (.int .i64 0)] 0 (List.take 3 (List.drop 8 f))))) (r0 (List.take 3 (setCells [(.int .i64 0), (.int .i64 0), (.int .i64 0)] 0 (List.take 3 (List.drop 8 f)))) ac) none) none)) none) none) (k0 (IntKind.wrap .i64 (a + (1 : Int))) r f))))) (cond (Nat.beq (0 + ((Int.toNat a) * 1)) 1) (ck_buses N b c (fun t g => (rdI .i64 (List.drop 11 g) fun ad => (cond (ad != (0 : Int)) (cond (Nat.ble 3 (List.length (List.drop 8 g))) (cond ((!t) || (plainZ (List.take 3 (List.drop 8 g)))) (rdI .i64 (List.drop 11 g) fun ae => (cond ((Nat.beq (List.length (List.take 3 (List.drop 8 g))) 3) && ((Nat.ble 3 3) && (!false))) (cond (Nat.ble 3 (List.length (setCells [(.int .i64 0), (.int .i64 0), (.int .i64 0)] 0 (List.take 3 (List.drop 8 g))))) (r0 (List.take 3 (setCells [(.int .i64 0), (.int .i64 0), (.int .i64 0)] 0 (List.take 3 (List.drop 8 g)))) ae) none) none)) none) none) (k0 (IntKind.wrap .i64 (a + (1 : Int))) t g))))) (cond (Nat.beq (0 + ((Int.toNat a) * 1)) 2) (ck_lines N b c (fun u i => (rdI .i64 (List.drop 11 i) fun af => (cond (af != (0 : Int)) (cond (Nat.ble 3 (List.length (List.drop 8 i))) (cond ((!u) || (plainZ (List.take 3 (List.drop 8 i)))) (rdI .i64 (List.drop 11 i) fun ag => (cond ((Nat.beq (List.length (List.take 3 (List.drop 8 i))) 3) && ((Nat.ble 3 3) && (!false))) (cond (Nat.ble 3 (List.length (setCells [(.int .i64 0), (.int .i64 0), (.int .i64 0)] 0 (List.take 3 (List.drop 8 i))))) (r0 (List.take 3 (setCells [(.int .i64 0), (.int .i64 0), (.int .i64 0)] 0 (List.take 3 (List.drop 8 i)))) ag) none) none)) none) none) (k0 (IntKind.wrap .i64 (a + (1 : Int))) u i))))) (cond (Nat.beq (0 + ((Int.toNat a) * 1)) 3) (ck_units N b c (fun w j => (rdI .i64 (List.drop 11 j) fun ah => (cond (ah != (0 : Int)) (cond (Nat.ble 3 (List.length (List.drop 8 j))) (cond ((!w) || (plainZ (List.take 3 (List.drop 8 j)))) (rdI .i64 (List.drop 11 j) fun ai => (cond ((Nat.beq (List.length (List.take 3 (List.drop 8 j))) 3) && ((Nat.ble 3 3) && (!false))) (cond (Nat.ble 3 (List.length (setCells [(.int .i64 0), (.int .i64 0), (.int .i64 0)] 0 (List.take 3 (List.drop 8 j))))) (r0 (List.take 3 (setCells [(.int .i64 0), (.int .i64 0), (.int .i64 0)] 0 (List.take 3 (List.drop 8 j)))) ai) none) none)) none) none) (k0 (IntKind.wrap .i64 (a + (1 : Int))) w j))))) (cond (Nat.beq (0 + ((Int.toNat a) * 1)) 4) (ck_stores N b c (fun x l => (rdI .i64 (List.drop 11 l) fun aj => (cond (aj != (0 : Int)) (cond (Nat.ble 3 (List.length (List.drop 8 l))) (cond ((!x) || (plainZ (List.take 3 (List.drop 8 l)))) (rdI .i64 (List.drop 11 l) fun ak => (cond ((Nat.beq (List.length (List.take 3 (List.drop 8 l))) 3) && ((Nat.ble 3 3) && (!false))) (cond (Nat.ble 3 (List.length (setCells [(.int .i64 0), (.int .i64 0), (.int .i64 0)] 0 (List.take 3 (List.drop 8 l))))) (r0 (List.take 3 (setCells [(.int .i64 0), (.int .i64 0), (.int .i64 0)] 0 (List.take 3 (List.drop 8 l)))) ak) none) none)) none) none) (k0 (IntKind.wrap .i64 (a + (1 : Int))) x l))))) (cond (Nat.beq (0 + ((Int.toNat a) * 1)) 5) (ck_ties N b c (fun y m => (rdI .i64 (List.drop 11 m) fun al => (cond (al != (0 : Int)) (cond (Nat.ble 3 (List.length (List.drop 8 m))) (cond ((!y) || (plainZ (List.take 3 (List.drop 8 m)))) (rdI .i64 (List.drop 11 m) fun am => (cond ((Nat.beq (List.length (List.take 3 (List.drop 8 m))) 3) && ((Nat.ble 3 3) && (!false))) (cond (Nat.ble 3 (List.length (setCells [(.int .i64 0), (.int .i64 0), (.int .i64 0)] 0 (List.take 3 (List.drop 8 m))))) (r0 (List.take 3 (setCells [(.int .i64 0), (.int .i64 0), (.int .i64 0)] 0 (List.take 3 (List.drop 8 m)))) am) none) none)) none) none) (k0 (IntKind.wrap .i64 (a + (1 : Int))) y m))))) (cond (Nat.beq (0 + ((Int.toNat a) * 1)) 6) (ck_outages N b c (fun z o => (rdI .i64 (List.drop 11 o) fun an => (cond (an != (0 : Int)) (cond (Nat.ble 3 (List.length (List.drop 8 o))) (cond ((!z) || (plainZ (List.take 3 (List.drop 8 o)))) (rdI .i64 (List.drop 11 o) fun ao => (cond ((Nat.beq (List.length (List.take 3 (List.drop 8 o))) 3) && ((Nat.ble 3 3) && (!false))) (cond (Nat.ble 3 (List.length (setCells [(.int .i64 0), (.int .i64 0), (.int .i64 0)] 0 (List.take 3 (List.drop 8 o))))) (r0 (List.take 3 (setCells [(.int .i64 0), (.int .i64 0), (.int .i64 0)] 0 (List.take 3 (List.drop 8 o)))) ao) none) none)) none) none) (k0 (IntKind.wrap .i64 (a + (1 : Int))) z o))))) (cond (Nat.beq (0 + ((Int.toNat a) * 1)) 7) (ck_islands N b c (fun aa p => (rdI .i64 (List.drop 11 p) fun ap => (cond (ap != (0 : Int)) (cond (Nat.ble 3 (List.length (List.drop 8 p))) (cond ((!aa) || (plainZ (List.take 3 (List.drop 8 p)))) (rdI .i64 (List.drop 11 p) fun aq => (cond ((Nat.beq (List.length (List.take 3 (List.drop 8 p))) 3) && ((Nat.ble 3 3) && (!false))) (cond (Nat.ble 3 (List.length (setCells [(.int .i64 0), (.int .i64 0), (.int .i64 0)] 0 (List.take 3 (List.drop 8 p))))) (r0 (List.take 3 (setCells [(.int .i64 0), (.int .i64 0), (.int .i64 0)] 0 (List.take 3 (List.drop 8 p)))) aq) none) none)) none) none) (k0 (IntKind.wrap .i64 (a + (1 : Int))) aa p))))) none)))))))) none) (r0 [(.int .i64 0), (.int .i64 0), (.int .i64 0)] 0))
noncomputable def cf_Check_q0 (N : Nat)  (r0 : LA → Int → Option R)  : Nat → Int → Bool → LA → Option R
  | 0, _, _, _ => none
  | n + 1, a, b, c => (cf_Check_q0B N r0 (cf_Check_q0 N r0 n) a b c)
noncomputable def cf_CheckB (N : Nat) (r0 : LA → Int → Option R) (q0 : Int → Bool → LA → Option R) (d : LA) (e : Bool) : Option R :=
  (cond (Nat.ble 8 (List.length d)) (cond ((Nat.beq (List.length (List.take 8 d)) 8) && (Nat.ble 8 12)) (q0 0 (e || false) (setCells [(.int .i64 0), .nsl, .nsl, .nsl, .nsl, .nsl, .nsl, .nsl, (.int .i64 0), (.int .i64 0), (.int .i64 0), (.int .i64 0)] 0 (List.take 8 d))) none) none)
noncomputable def cf_Checki (N : Nat) (d : LA) (e : Bool) (r0 : LA → Int → Option R) : Option R := (cf_CheckB N r0 (fun a b c => (cf_Check_q0 N r0 N a b c)) d e)
noncomputable def cf_Check := (shut (@cf_Checki R)).1
theorem cf_Check_def : @cf_Check R = @cf_Checki R := (shut _).2
noncomputable def cf_Check_hs : Hints := { H := (hS (hR [1,2]) (hS (hR [2,4]) (hS (hS (hR [2,4,26,27,28]) (hN [2] (hN [2,4,26,27,28] (hS (hR [2,4,26,27,28,29]) (hS (hN [2,4,26,27,28] hL hL) (hS (hN [2,4,26,27,28] (hS (hR [2,4,6,26,27,28]) (hS (hR [2,4,26,27,28]) (hS (hR [2,4,26,27,28,38]) (hN [2,4,26,27,28] (hS (hR [2,3]) hL) hL)))) hL) (hR [2,4,26,27,28])))) hL) hL)) (hS (hR [2,3]) hL)))), nils := [], modes := [(3, 0), (0, 0)], free := [], cob := [] }
noncomputable def cf_Check_T (N : Nat) : List (Nat × Tw) := [(25, ck_whole_Tw N), (26, ck_buses_Tw N), (27, ck_lines_Tw N), (28, ck_units_Tw N), (29, ck_stores_Tw N), (30, ck_ties_Tw N), (31, ck_outages_Tw N), (32, ck_islands_Tw N)]
noncomputable def cf_Check_E (N : Nat) : Env := mkE 49 cf_Check_hs (cf_Check_T N)
noncomputable def cf_Check_fin (N : Nat) (F : AV → Heap → Option R) := afinish (cf_Check_E N) Try.f8 cf_Check_hs.modes [] F
noncomputable def cf_Check_at (N : Nat) (F : AV → Heap → Option R) := atF (cf_Check_E N) [] N Try.f8 cf_Check_hs (cf_Check_fin N F)
noncomputable def cf_Check_r0  (F : AV → Heap → Option R) : LA → Int → Option R := (fun ar au => F (.tup [(.pagg ar false), (.int .i64 au)]) [])
noncomputable def cf_Check_s0 (a : Int) (b : Bool) (c : LA) : St := { s := [(2, (.optr 300000 0)), (4, (.optr 300001 0)), (26, (.own 300002 0 8)), (27, (.int .i64 8)), (28, (.int .i64 a))], h := [(300000, ⟨false, false, true, false, 0, [(.int .i64 0), (.int .i64 0), (.int .i64 0)]⟩), (300001, ⟨false, false, true, b, 0, c⟩), (300002, ⟨false, false, false, false, 1, [(.fn 1000025 [(.optr 300001 0)]), (.fn 1000026 [(.optr 300001 0)]), (.fn 1000027 [(.optr 300001 0)]), (.fn 1000028 [(.optr 300001 0)]), (.fn 1000029 [(.optr 300001 0)]), (.fn 1000030 [(.optr 300001 0)]), (.fn 1000031 [(.optr 300001 0)]), (.fn 1000032 [(.optr 300001 0)])]⟩)] }
noncomputable def cf_Check_w0 (N : Nat) (F : AV → Heap → Option R) : St → Option R := loopW (cf_Check_E N) [] N (cf_Check_at N F [1, 1, 0, 1, 0] []) N
noncomputable def cf_Check_l0 (N : Nat) (F : AV → Heap → Option R) (n : Nat) : St → Option R := loopAt (cf_Check_E N) [] N (cf_Check_at N F [1, 1, 0, 1, 0] []) n
theorem cf_Check_q0_eq (N : Nat)  (F : AV → Heap → Option R)  : ∀ (n : Nat) (a : Int) (b : Bool) (c : LA), cf_Check_l0 N F n (cf_Check_s0 a b c) = (cf_Check_q0 N (cf_Check_r0 F) n a b c) := by
  intro n
  induction n with
  | zero => intros; kernel_rfl
  | succ n ih =>
    intro a b c
    have e0 := funext fun a => funext fun b => funext fun c => (show cf_Check_l0 N F n (cf_Check_s0 a b c) = _ from ih a b c)
    have hK : cf_Check_l0 N F (n + 1) (cf_Check_s0 a b c) = (cf_Check_q0B N (cf_Check_r0 F) (fun a b c => cf_Check_l0 N F n (cf_Check_s0 a b c)) a b c) := by kernel_rfl
    exact hK.trans (by rw [e0]; rfl)
theorem cf_Check_eq (N : Nat) (d : LA) (e : Bool) (F : AV → Heap → Option R) : execF Try.prog muts (cf_Check_T N) cf_Check_hs N 8 [(.pagg d e)] [] F = (cf_Check N d e (cf_Check_r0 F)) := by
  have e1 := funext fun a => funext fun b => funext fun c => (show cf_Check_w0 N F (cf_Check_s0 a b c) = _ from (loopW_eq ..).trans (cf_Check_q0_eq N F N a b c))
  have hK : execF Try.prog muts (cf_Check_T N) cf_Check_hs N 8 [(.pagg d e)] [] F = (cf_CheckB N (cf_Check_r0 F) (fun a b c => cf_Check_w0 N F (cf_Check_s0 a b c)) d e) := by kernel_rfl
  rw [cf_Check_def]
  exact hK.trans (by rw [e1]; rfl)
noncomputable def cf_Check_run (N : Nat) (args : List AV) (h : Heap) (k : AV → Heap → Option R) : Option R :=
  match args, h with
  | [(.pagg d e)], [] => (cf_Check N d e (cf_Check_r0 k))
  | _, _ => none
noncomputable def cf_Check_Tw (N : Nat) : Tw where
  runK := cf_Check_run N
  eq := by
    intro R args h k
    unfold cf_Check_run
    split
    · exact (cf_Check_eq ..).symm.trans ((execF_bind ..).trans (congrArg (Option.bind · _) (cf_Check_eq ..)))
    · rfl
theorem cf_Check_ok (N : Nat) : TwOk Try.prog 8 (cf_Check_Tw N) := by
  intro args h res q av
  have hh : cf_Check_run N args h (fun v q => some (v, q)) = some (res, q) := av
  unfold cf_Check_run at hh
  split at hh
  · exact execF_sound (T := cf_Check_T N) ⟨ck_whole_ok N, ck_buses_ok N, ck_lines_ok N, ck_units_ok N, ck_stores_ok N, ck_ties_ok N, ck_outages_ok N, ck_islands_ok N, trivial⟩ follows ((cf_Check_eq ..).trans hh)
  · cases hh
noncomputable def cf_ActiveB (N : Nat) (r0 : Nat → LA → Option R)  (a : LA) (c : Bool) (b : Int) : Option R :=
  (cond (Nat.ble 8 (List.length a)) (cf_Check N (List.take 8 a) c (fun e f => (cond ((Nat.beq (List.length e) 3) && ((Nat.ble 3 3) && (!false))) (cond ((f != (0 : Int)) == false) (cond ((cond false true (decide (b < (0 : Int)))) == false) (rdI .i64 a fun g => (cond (cond false true (decide (b ≥ g))) (r0 0 []) (cond (Nat.ble 8 (List.length a)) (cf_active N (List.take 8 a) c b (fun i j => (r0 i j))) none))) (r0 0 [])) (r0 0 [])) none))) none)
noncomputable def cf_Activei (N : Nat) (a : LA) (c : Bool) (b : Int) (r0 : Nat → LA → Option R) : Option R := (cf_ActiveB N r0 a c b)
noncomputable def cf_Active := (shut (@cf_Activei R)).1
theorem cf_Active_def : @cf_Active R = @cf_Activei R := (shut _).2
noncomputable def cf_Active_hs : Hints := { H := (hS (hR [1,2]) (hS (hS (hR [1,2,6]) (hS (hR [1,2,23]) (hN [1,2] (hS (hR [4]) hL) hL))) (hS (hR [4]) hL))), nils := [(4, 1)], modes := [(2, 1)], free := [], cob := [] }
noncomputable def cf_Active_T (N : Nat) : List (Nat × Tw) := [(8, cf_Check_Tw N), (38, cf_active_Tw N)]
noncomputable def cf_Active_E (N : Nat) : Env := mkE 27 cf_Active_hs (cf_Active_T N)
noncomputable def cf_Active_fin (N : Nat) (F : AV → Heap → Option R) := afinish (cf_Active_E N) Try.f12 cf_Active_hs.modes [] F
noncomputable def cf_Active_at (N : Nat) (F : AV → Heap → Option R) := atF (cf_Active_E N) [] N Try.f12 cf_Active_hs (cf_Active_fin N F)
noncomputable def cf_Active_r0  (F : AV → Heap → Option R) : Nat → LA → Option R := (fun l m => F (.own 300000 0 l) [(300000, ⟨false, false, true, false, 1, m⟩)])
theorem cf_Active_eq (N : Nat) (a : LA) (c : Bool) (b : Int) (F : AV → Heap → Option R) : execF Try.prog muts (cf_Active_T N) cf_Active_hs N 12 [(.pagg a c), (.int .i64 b)] [] F = (cf_Active N a c b (cf_Active_r0 F)) := by
  have hK : execF Try.prog muts (cf_Active_T N) cf_Active_hs N 12 [(.pagg a c), (.int .i64 b)] [] F = (cf_ActiveB N (cf_Active_r0 F) a c b) := by kernel_rfl
  rw [cf_Active_def]
  exact hK
noncomputable def cf_Active_run (N : Nat) (args : List AV) (h : Heap) (k : AV → Heap → Option R) : Option R :=
  match args, h with
  | [(.pagg a c), (.int .i64 b)], [] => (cf_Active N a c b (cf_Active_r0 k))
  | _, _ => none
noncomputable def cf_Active_Tw (N : Nat) : Tw where
  runK := cf_Active_run N
  eq := by
    intro R args h k
    unfold cf_Active_run
    split
    · exact (cf_Active_eq ..).symm.trans ((execF_bind ..).trans (congrArg (Option.bind · _) (cf_Active_eq ..)))
    · rfl
theorem cf_Active_ok (N : Nat) : TwOk Try.prog 12 (cf_Active_Tw N) := by
  intro args h res d n
  have hh : cf_Active_run N args h (fun v d => some (v, d)) = some (res, d) := n
  unfold cf_Active_run at hh
  split at hh
  · exact execF_sound (T := cf_Active_T N) ⟨cf_Check_ok N, cf_active_ok N, trivial⟩ follows ((cf_Active_eq ..).trans hh)
  · cases hh
noncomputable def r18_ActiveB (N : Nat) (r0 : Nat → LA → Option R)  (a : LA) (c : Bool) (b : Int) : Option R :=
  (cond (Nat.ble 8 (List.length a)) (r18_Check N (List.take 8 a) c (fun e f => (cond ((Nat.beq (List.length e) 3) && ((Nat.ble 3 3) && (!false))) (cond ((f != (0 : Int)) == false) (cond ((cond false true (decide (b < (0 : Int)))) == false) (rdI .i64 a fun g => (cond (cond false true (decide (b ≥ g))) (r0 0 []) (cond (Nat.ble 8 (List.length a)) (r18_InService N (List.take 8 a) c b (fun i j => (r0 i j))) none))) (r0 0 [])) (r0 0 [])) none))) none)
noncomputable def r18_Activei (N : Nat) (a : LA) (c : Bool) (b : Int) (r0 : Nat → LA → Option R) : Option R := (r18_ActiveB N r0 a c b)
noncomputable def r18_Active := (shut (@r18_Activei R)).1
theorem r18_Active_def : @r18_Active R = @r18_Activei R := (shut _).2
noncomputable def r18_Active_hs : Hints := { H := (hS (hR [1,2]) (hS (hS (hR [1,2,6]) (hS (hR [1,2,23]) (hN [1,2] (hS (hR [4]) hL) hL))) (hS (hR [4]) hL))), nils := [(4, 1)], modes := [(2, 1)], free := [], cob := [] }
noncomputable def r18_Active_T (N : Nat) : List (Nat × Tw) := [(23, r18_Check_Tw N), (33, r18_InService_Tw N)]
noncomputable def r18_Active_E (N : Nat) : Env := mkE 27 r18_Active_hs (r18_Active_T N)
noncomputable def r18_Active_fin (N : Nat) (F : AV → Heap → Option R) := afinish (r18_Active_E N) Try.f13 r18_Active_hs.modes [] F
noncomputable def r18_Active_at (N : Nat) (F : AV → Heap → Option R) := atF (r18_Active_E N) [] N Try.f13 r18_Active_hs (r18_Active_fin N F)
noncomputable def r18_Active_r0  (F : AV → Heap → Option R) : Nat → LA → Option R := (fun l m => F (.own 300000 0 l) [(300000, ⟨false, false, true, false, 1, m⟩)])
theorem r18_Active_eq (N : Nat) (a : LA) (c : Bool) (b : Int) (F : AV → Heap → Option R) : execF Try.prog muts (r18_Active_T N) r18_Active_hs N 13 [(.pagg a c), (.int .i64 b)] [] F = (r18_Active N a c b (r18_Active_r0 F)) := by
  have hK : execF Try.prog muts (r18_Active_T N) r18_Active_hs N 13 [(.pagg a c), (.int .i64 b)] [] F = (r18_ActiveB N (r18_Active_r0 F) a c b) := by kernel_rfl
  rw [r18_Active_def]
  exact hK
noncomputable def r18_Active_run (N : Nat) (args : List AV) (h : Heap) (k : AV → Heap → Option R) : Option R :=
  match args, h with
  | [(.pagg a c), (.int .i64 b)], [] => (r18_Active N a c b (r18_Active_r0 k))
  | _, _ => none
noncomputable def r18_Active_Tw (N : Nat) : Tw where
  runK := r18_Active_run N
  eq := by
    intro R args h k
    unfold r18_Active_run
    split
    · exact (r18_Active_eq ..).symm.trans ((execF_bind ..).trans (congrArg (Option.bind · _) (r18_Active_eq ..)))
    · rfl
theorem r18_Active_ok (N : Nat) : TwOk Try.prog 13 (r18_Active_Tw N) := by
  intro args h res d n
  have hh : r18_Active_run N args h (fun v d => some (v, d)) = some (res, d) := n
  unfold r18_Active_run at hh
  split at hh
  · exact execF_sound (T := r18_Active_T N) ⟨r18_Check_ok N, r18_InService_ok N, trivial⟩ follows ((r18_Active_eq ..).trans hh)
  · cases hh
noncomputable def r17_Ints_q0B (N : Nat)  (r0 : Bool → Option R) (d : LA) (a : Nat) (f : Bool) (g : Bool) (e : LA) (b : Nat) (i : Bool) (j : Bool) (k0 : Int → Option R)  (c : Int) : Option R :=
  (cond (decide (c < ((a : Nat) : Int))) (cond (inIdx c a) (rdI .i64 (List.drop ((Int.toNat c) * 1) d) fun m => (cond (inIdx c b) (rdI .i64 (List.drop ((Int.toNat c) * 1) e) fun o => (cond (m != o) (r0 false) (k0 (IntKind.wrap .i64 (c + (1 : Int)))))) none)) none) (r0 true))
noncomputable def r17_Ints_q0 (N : Nat)  (r0 : Bool → Option R) (d : LA) (a : Nat) (f : Bool) (g : Bool) (e : LA) (b : Nat) (i : Bool) (j : Bool) : Nat → Int → Option R
  | 0, _ => none
  | n + 1, c => (r17_Ints_q0B N r0 d a f g e b i j (r17_Ints_q0 N r0 d a f g e b i j n) c)
noncomputable def r17_IntsB (N : Nat) (r0 : Bool → Option R) (q0 : Int → Option R) (d : LA) (a : Nat) (f : Bool) (g : Bool) (e : LA) (b : Nat) (i : Bool) (j : Bool) : Option R :=
  (cond (((a : Nat) : Int) != ((b : Nat) : Int)) (r0 false) (q0 0))
noncomputable def r17_Intsi (N : Nat) (d : LA) (a : Nat) (f : Bool) (g : Bool) (e : LA) (b : Nat) (i : Bool) (j : Bool) (r0 : Bool → Option R) : Option R := (r17_IntsB N r0 (fun c => (r17_Ints_q0 N r0 d a f g e b i j N c)) d a f g e b i j)
noncomputable def r17_Ints := (shut (@r17_Intsi R)).1
theorem r17_Ints_def : @r17_Ints R = @r17_Intsi R := (shut _).2
noncomputable def r17_Ints_hs : Hints := { H := (hS (hR [0,1]) (hS (hS (hR [0,1,10]) (hN [0,1] (hS (hR [4]) hL) hL)) (hS (hS (hR [0,1,5]) (hS (hN [0,1,5] (hS (hS (hR [0,1,5,14]) (hN [0,1,5] hL hL)) (hS (hN [0,1,5] (hS (hR [0,1,5,25]) (hN [0,1,5] (hS (hR [4]) hL) hL)) hL) (hR [0,1,5]))) hL) hL)) (hS (hR [4]) hL)))), nils := [], modes := [], free := [], cob := [] }
noncomputable def r17_Ints_T (N : Nat) : List (Nat × Tw) := []
noncomputable def r17_Ints_E (N : Nat) : Env := mkE 26 r17_Ints_hs (r17_Ints_T N)
noncomputable def r17_Ints_fin (N : Nat) (F : AV → Heap → Option R) := afinish (r17_Ints_E N) Try.f37 r17_Ints_hs.modes [] F
noncomputable def r17_Ints_at (N : Nat) (F : AV → Heap → Option R) := atF (r17_Ints_E N) [] N Try.f37 r17_Ints_hs (r17_Ints_fin N F)
noncomputable def r17_Ints_r0  (F : AV → Heap → Option R) : Bool → Option R := (fun p => F (.bool p) [])
noncomputable def r17_Ints_s0 (d : LA) (a : Nat) (f : Bool) (g : Bool) (e : LA) (b : Nat) (i : Bool) (j : Bool) (c : Int) : St := { s := [(0, (.imm d a 1 f g)), (1, (.imm e b 1 i j)), (5, (.int .i64 c))], h := [] }
noncomputable def r17_Ints_w0 (N : Nat) (F : AV → Heap → Option R) : St → Option R := loopW (r17_Ints_E N) [] N (r17_Ints_at N F [1, 1, 0, 1, 0] []) N
noncomputable def r17_Ints_l0 (N : Nat) (F : AV → Heap → Option R) (n : Nat) : St → Option R := loopAt (r17_Ints_E N) [] N (r17_Ints_at N F [1, 1, 0, 1, 0] []) n
theorem r17_Ints_q0_eq (N : Nat)  (F : AV → Heap → Option R) (d : LA) (a : Nat) (f : Bool) (g : Bool) (e : LA) (b : Nat) (i : Bool) (j : Bool) : ∀ (n : Nat) (c : Int), r17_Ints_l0 N F n (r17_Ints_s0 d a f g e b i j c) = (r17_Ints_q0 N (r17_Ints_r0 F) d a f g e b i j n c) := by
  intro n
  induction n with
  | zero => intros; kernel_rfl
  | succ n ih =>
    intro c
    have e0 := funext fun c => (show r17_Ints_l0 N F n (r17_Ints_s0 d a f g e b i j c) = _ from ih c)
    have hK : r17_Ints_l0 N F (n + 1) (r17_Ints_s0 d a f g e b i j c) = (r17_Ints_q0B N (r17_Ints_r0 F) d a f g e b i j (fun c => r17_Ints_l0 N F n (r17_Ints_s0 d a f g e b i j c)) c) := by kernel_rfl
    exact hK.trans (by rw [e0]; rfl)
theorem r17_Ints_eq (N : Nat) (d : LA) (a : Nat) (f : Bool) (g : Bool) (e : LA) (b : Nat) (i : Bool) (j : Bool) (F : AV → Heap → Option R) : execF Try.prog muts (r17_Ints_T N) r17_Ints_hs N 37 [(.imm d a 1 f g), (.imm e b 1 i j)] [] F = (r17_Ints N d a f g e b i j (r17_Ints_r0 F)) := by
  have e1 := funext fun c => (show r17_Ints_w0 N F (r17_Ints_s0 d a f g e b i j c) = _ from (loopW_eq ..).trans (r17_Ints_q0_eq N F d a f g e b i j N c))
  have hK : execF Try.prog muts (r17_Ints_T N) r17_Ints_hs N 37 [(.imm d a 1 f g), (.imm e b 1 i j)] [] F = (r17_IntsB N (r17_Ints_r0 F) (fun c => r17_Ints_w0 N F (r17_Ints_s0 d a f g e b i j c)) d a f g e b i j) := by kernel_rfl
  rw [r17_Ints_def]
  exact hK.trans (by rw [e1]; rfl)
noncomputable def r17_Ints_run (N : Nat) (args : List AV) (h : Heap) (k : AV → Heap → Option R) : Option R :=
  match args, h with
  | [(.imm d a 1 f g), (.imm e b 1 i j)], [] => (r17_Ints N d a f g e b i j (r17_Ints_r0 k))
  | _, _ => none
noncomputable def r17_Ints_Tw (N : Nat) : Tw where
  runK := r17_Ints_run N
  eq := by
    intro R args h k
    unfold r17_Ints_run
    split
    · exact (r17_Ints_eq ..).symm.trans ((execF_bind ..).trans (congrArg (Option.bind · _) (r17_Ints_eq ..)))
    · rfl
theorem r17_Ints_ok (N : Nat) : TwOk Try.prog 37 (r17_Ints_Tw N) := by
  intro args h res l q
  have hh : r17_Ints_run N args h (fun v l => some (v, l)) = some (res, l) := q
  unfold r17_Ints_run at hh
  split at hh
  · exact execF_sound (T := r17_Ints_T N) trivial follows ((r17_Ints_eq ..).trans hh)
  · cases hh
noncomputable def r18_IntsB (N : Nat) (r0 : Bool → Option R)  (a : LA) (b : Nat) (g : Bool) (c : Bool) (d : LA) (e : Nat) (i : Bool) (f : Bool) : Option R :=
  (r17_Ints N a b false c d e false f (fun l => (r0 l)))
noncomputable def r18_Intsi (N : Nat) (a : LA) (b : Nat) (g : Bool) (c : Bool) (d : LA) (e : Nat) (i : Bool) (f : Bool) (r0 : Bool → Option R) : Option R := (r18_IntsB N r0 a b g c d e i f)
noncomputable def r18_Ints := (shut (@r18_Intsi R)).1
theorem r18_Ints_def : @r18_Ints R = @r18_Intsi R := (shut _).2
noncomputable def r18_Ints_hs : Hints := { H := (hS (hR [0,1]) (hS (hR [4]) hL)), nils := [], modes := [], free := [], cob := [] }
noncomputable def r18_Ints_T (N : Nat) : List (Nat × Tw) := [(37, r17_Ints_Tw N)]
noncomputable def r18_Ints_E (N : Nat) : Env := mkE 8 r18_Ints_hs (r18_Ints_T N)
noncomputable def r18_Ints_fin (N : Nat) (F : AV → Heap → Option R) := afinish (r18_Ints_E N) Try.f11 r18_Ints_hs.modes [] F
noncomputable def r18_Ints_at (N : Nat) (F : AV → Heap → Option R) := atF (r18_Ints_E N) [] N Try.f11 r18_Ints_hs (r18_Ints_fin N F)
noncomputable def r18_Ints_r0  (F : AV → Heap → Option R) : Bool → Option R := (fun m => F (.bool m) [])
theorem r18_Ints_eq (N : Nat) (a : LA) (b : Nat) (g : Bool) (c : Bool) (d : LA) (e : Nat) (i : Bool) (f : Bool) (F : AV → Heap → Option R) : execF Try.prog muts (r18_Ints_T N) r18_Ints_hs N 11 [(.imm a b 1 g c), (.imm d e 1 i f)] [] F = (r18_Ints N a b g c d e i f (r18_Ints_r0 F)) := by
  have hK : execF Try.prog muts (r18_Ints_T N) r18_Ints_hs N 11 [(.imm a b 1 g c), (.imm d e 1 i f)] [] F = (r18_IntsB N (r18_Ints_r0 F) a b g c d e i f) := by kernel_rfl
  rw [r18_Ints_def]
  exact hK
noncomputable def r18_Ints_run (N : Nat) (args : List AV) (h : Heap) (k : AV → Heap → Option R) : Option R :=
  match args, h with
  | [(.imm a b 1 g c), (.imm d e 1 i f)], [] => (r18_Ints N a b g c d e i f (r18_Ints_r0 k))
  | _, _ => none
noncomputable def r18_Ints_Tw (N : Nat) : Tw where
  runK := r18_Ints_run N
  eq := by
    intro R args h k
    unfold r18_Ints_run
    split
    · exact (r18_Ints_eq ..).symm.trans ((execF_bind ..).trans (congrArg (Option.bind · _) (r18_Ints_eq ..)))
    · rfl
theorem r18_Ints_ok (N : Nat) : TwOk Try.prog 11 (r18_Ints_Tw N) := by
  intro args h res j n
  have hh : r18_Ints_run N args h (fun v j => some (v, j)) = some (res, j) := n
  unfold r18_Ints_run at hh
  split at hh
  · exact execF_sound (T := r18_Ints_T N) ⟨r17_Ints_ok N, trivial⟩ follows ((r18_Ints_eq ..).trans hh)
  · cases hh
noncomputable def cf_Failing_q1B (N : Nat)  (r0 : Nat → LA → Option R) (a : Int) (j : Nat) (c : Bool) (b : LA) (l : LA) (k1 : Nat → Int → Int → LA → Option R)  (d : Nat) (f : Int) (e : Int) (g : LA) : Option R :=
  (cond (decide (e < f)) (cond (inIdx e j) (rdI .i64 (List.drop (0 + ((Int.toNat e) * 1)) l) fun o => (rdL 4 (List.drop 7 b) fun p q => (cond (inIdx a q) (rdL 1 (List.drop 1 (List.drop ((Int.toNat a) * 4) p)) fun r t => (slices_Contains__int_int N r t false c o (fun u => (cond u (cond ((Nat.ble (d + 1) 140737488355328) && (Nat.ble ((d + 1) * 8) 140737488355328)) (k1 (d + 1) f (IntKind.wrap .i64 (e + (1 : Int))) ((List.take (d * 1) g) ++ [(.int .i64 o)])) none) (k1 d f (IntKind.wrap .i64 (e + (1 : Int))) g))))) none))) none) (r0 d g))
noncomputable def cf_Failing_q1 (N : Nat)  (r0 : Nat → LA → Option R) (a : Int) (j : Nat) (c : Bool) (b : LA) (l : LA) : Nat → Nat → Int → Int → LA → Option R
  | 0, _, _, _, _ => none
  | n + 1, d, f, e, g => (cf_Failing_q1B N r0 a j c b l (cf_Failing_q1 N r0 a j c b l n) d f e g)
noncomputable def cf_Failing_q0B (N : Nat)  (r0 : Nat → LA → Option R) (a : Int) (i : Int) (c : Bool) (b : LA)  (q1 : Nat → LA → Nat → Int → Int → LA → Option R)  : Option R :=
  (cond (Nat.ble 8 (List.length b)) (cf_Active N (List.take 8 b) c i (fun j l => (q1 j l 0 ((j : Nat) : Int) 0 []))) none)
noncomputable def cf_Failing_q0 (N : Nat)  (r0 : Nat → LA → Option R) (a : Int) (i : Int) (c : Bool) (b : LA)  : Option R := (cf_Failing_q0B N r0 a i c b (fun j l d f e g => (cf_Failing_q1 N r0 a j c b l N d f e g)))
noncomputable def cf_FailingB (N : Nat) (r0 : Nat → LA → Option R) (q0 : Option R) (b : LA) (c : Bool) (a : Int) (i : Int) : Option R :=
  (cond ((decide (a < (0 : Int))) == false) (rdL 4 (List.drop 7 b) fun aa w => (cond (cond false true (decide (a ≥ ((w : Nat) : Int)))) (r0 0 []) q0)) (r0 0 []))
noncomputable def cf_Failingi (N : Nat) (b : LA) (c : Bool) (a : Int) (i : Int) (r0 : Nat → LA → Option R) : Option R := (cf_FailingB N r0 (cf_Failing_q0 N r0 a i c b) b c a i)
noncomputable def cf_Failing := (shut (@cf_Failingi R)).1
theorem cf_Failing_def : @cf_Failing R = @cf_Failingi R := (shut _).2
noncomputable def cf_Failing_hs : Hints := { H := (hS (hR [1,2,3]) (hJ (hS (hR [1,2,3,18]) (hN [1,2,3] (hS (hR [6]) hL) hL)) (hS (hR [1,2,3,7]) (hS (hS (hR [1,3,7,21,22,23]) (hN [7] (hN [1,3,7,21,22,23] (hS (hR [1,3,7,21,22,23,24]) (hS (hN [1,3,7,21,22,23] hL hL) (hS (hN [1,3,7,21,22,23] (hS (hR [1,3,7,9,21,22,23]) (hS (hR [1,3,7,9,21,22,23,34]) (hN [1,3,7,21,22,23] (hR [1,3,7,21,22,23]) hL))) hL) (hR [1,3,7,21,22,23])))) hL) hL)) (hS (hR [6]) hL))))), nils := [(6, 1), (7, 1)], modes := [(2, 1)], free := [], cob := [] }
noncomputable def cf_Failing_T (N : Nat) : List (Nat × Tw) := [(12, cf_Active_Tw N), (39, slices_Contains__int_int_Tw N)]
noncomputable def cf_Failing_E (N : Nat) : Env := mkE 41 cf_Failing_hs (cf_Failing_T N)
noncomputable def cf_Failing_fin (N : Nat) (F : AV → Heap → Option R) := afinish (cf_Failing_E N) Try.f14 cf_Failing_hs.modes [] F
noncomputable def cf_Failing_at (N : Nat) (F : AV → Heap → Option R) := atF (cf_Failing_E N) [] N Try.f14 cf_Failing_hs (cf_Failing_fin N F)
noncomputable def cf_Failing_r0  (F : AV → Heap → Option R) : Nat → LA → Option R := (fun x y => F (.own 300000 0 x) [(300000, ⟨false, false, true, false, 1, y⟩)])
noncomputable def cf_Failing_s1 (a : Int) (j : Nat) (c : Bool) (b : LA) (l : LA) (d : Nat) (f : Int) (e : Int) (g : LA) : St := { s := [(1, (.int .i64 a)), (3, (.optr 300000 0)), (7, (.own 300001 0 d)), (21, (.own 300002 0 j)), (22, (.int .i64 f)), (23, (.int .i64 e))], h := [(300000, ⟨false, false, true, c, 0, b⟩), (300001, ⟨false, false, true, false, 1, g⟩), (300002, ⟨false, false, true, false, 1, l⟩)] }
noncomputable def cf_Failing_w1 (N : Nat) (F : AV → Heap → Option R) : St → Option R := loopW (cf_Failing_E N) [] N (cf_Failing_at N F [1, 1, 1, 0, 1, 0] []) N
noncomputable def cf_Failing_l1 (N : Nat) (F : AV → Heap → Option R) (n : Nat) : St → Option R := loopAt (cf_Failing_E N) [] N (cf_Failing_at N F [1, 1, 1, 0, 1, 0] []) n
noncomputable def cf_Failing_s0 (a : Int) (i : Int) (c : Bool) (b : LA) : St := { s := [(1, (.int .i64 a)), (2, (.int .i64 i)), (3, (.optr 300000 0))], h := [(300000, ⟨false, false, true, c, 0, b⟩)] }
noncomputable def cf_Failing_j0 (N : Nat) (F : AV → Heap → Option R) : St → Option R := joinAt (cf_Failing_E N) [] N (cf_Failing_at N F [1, 1] [])
noncomputable def cf_Failing_i0 (N : Nat) (F : AV → Heap → Option R) : St → Option R := joinIn (cf_Failing_E N) [] N (cf_Failing_at N F [1, 1] [])
theorem cf_Failing_q1_eq (N : Nat)  (F : AV → Heap → Option R) (a : Int) (j : Nat) (c : Bool) (b : LA) (l : LA) : ∀ (n : Nat) (d : Nat) (f : Int) (e : Int) (g : LA), cf_Failing_l1 N F n (cf_Failing_s1 a j c b l d f e g) = (cf_Failing_q1 N (cf_Failing_r0 F) a j c b l n d f e g) := by
  intro n
  induction n with
  | zero => intros; kernel_rfl
  | succ n ih =>
    intro d f e g
    have e0 := funext fun d => funext fun f => funext fun e => funext fun g => (show cf_Failing_l1 N F n (cf_Failing_s1 a j c b l d f e g) = _ from ih d f e g)
    have hK : cf_Failing_l1 N F (n + 1) (cf_Failing_s1 a j c b l d f e g) = (cf_Failing_q1B N (cf_Failing_r0 F) a j c b l (fun d f e g => cf_Failing_l1 N F n (cf_Failing_s1 a j c b l d f e g)) d f e g) := by kernel_rfl
    exact hK.trans (by rw [e0]; rfl)
theorem cf_Failing_q0_eq (N : Nat)  (F : AV → Heap → Option R) (a : Int) (i : Int) (c : Bool) (b : LA) : cf_Failing_i0 N F (cf_Failing_s0 a i c b) = (cf_Failing_q0 N (cf_Failing_r0 F) a i c b) := by
  have e1 := funext fun j => funext fun l => funext fun d => funext fun f => funext fun e => funext fun g => (show cf_Failing_w1 N F (cf_Failing_s1 a j c b l d f e g) = _ from (loopW_eq ..).trans (cf_Failing_q1_eq N F a j c b l N d f e g))
  have hK : cf_Failing_i0 N F (cf_Failing_s0 a i c b) = (cf_Failing_q0B N (cf_Failing_r0 F) a i c b (fun j l d f e g => cf_Failing_w1 N F (cf_Failing_s1 a j c b l d f e g))) := by kernel_rfl
  exact hK.trans (by rw [e1]; rfl)
theorem cf_Failing_eq (N : Nat) (b : LA) (c : Bool) (a : Int) (i : Int) (F : AV → Heap → Option R) : execF Try.prog muts (cf_Failing_T N) cf_Failing_hs N 14 [(.pagg b c), (.int .i64 a), (.int .i64 i)] [] F = (cf_Failing N b c a i (cf_Failing_r0 F)) := by
  have e1 := (show cf_Failing_j0 N F (cf_Failing_s0 a i c b) = _ from (joinAt_eq ..).trans (cf_Failing_q0_eq N F a i c b))
  have hK : execF Try.prog muts (cf_Failing_T N) cf_Failing_hs N 14 [(.pagg b c), (.int .i64 a), (.int .i64 i)] [] F = (cf_FailingB N (cf_Failing_r0 F) (cf_Failing_j0 N F (cf_Failing_s0 a i c b)) b c a i) := by kernel_rfl
  rw [cf_Failing_def]
  exact hK.trans (by rw [e1]; rfl)
noncomputable def cf_Failing_run (N : Nat) (args : List AV) (h : Heap) (k : AV → Heap → Option R) : Option R :=
  match args, h with
  | [(.pagg b c), (.int .i64 a), (.int .i64 i)], [] => (cf_Failing N b c a i (cf_Failing_r0 k))
  | _, _ => none
noncomputable def cf_Failing_Tw (N : Nat) : Tw where
  runK := cf_Failing_run N
  eq := by
    intro R args h k
    unfold cf_Failing_run
    split
    · exact (cf_Failing_eq ..).symm.trans ((execF_bind ..).trans (congrArg (Option.bind · _) (cf_Failing_eq ..)))
    · rfl
theorem cf_Failing_ok (N : Nat) : TwOk Try.prog 14 (cf_Failing_Tw N) := by
  intro args h res m z
  have hh : cf_Failing_run N args h (fun v m => some (v, m)) = some (res, m) := z
  unfold cf_Failing_run at hh
  split at hh
  · exact execF_sound (T := cf_Failing_T N) ⟨cf_Active_ok N, slices_Contains__int_int_ok N, trivial⟩ follows ((cf_Failing_eq ..).trans hh)
  · cases hh
noncomputable def r18_Failing_q1B (N : Nat)  (r0 : Nat → LA → Option R) (a : Int) (j : Nat) (c : Bool) (b : LA) (l : LA) (k1 : Nat → Int → Int → LA → Option R)  (d : Nat) (f : Int) (e : Int) (g : LA) : Option R :=
  (cond (decide (e < f)) (cond (inIdx e j) (rdI .i64 (List.drop (0 + ((Int.toNat e) * 1)) l) fun o => (rdL 4 (List.drop 7 b) fun p q => (cond (inIdx a q) (rdL 1 (List.drop 1 (List.drop ((Int.toNat a) * 4) p)) fun r t => (r18_has N r t false c o (fun u => (cond u (cond ((Nat.ble (d + 1) 140737488355328) && (Nat.ble ((d + 1) * 8) 140737488355328)) (k1 (d + 1) f (IntKind.wrap .i64 (e + (1 : Int))) ((List.take (d * 1) g) ++ [(.int .i64 o)])) none) (k1 d f (IntKind.wrap .i64 (e + (1 : Int))) g))))) none))) none) (r0 d g))
noncomputable def r18_Failing_q1 (N : Nat)  (r0 : Nat → LA → Option R) (a : Int) (j : Nat) (c : Bool) (b : LA) (l : LA) : Nat → Nat → Int → Int → LA → Option R
  | 0, _, _, _, _ => none
  | n + 1, d, f, e, g => (r18_Failing_q1B N r0 a j c b l (r18_Failing_q1 N r0 a j c b l n) d f e g)
noncomputable def r18_Failing_q0B (N : Nat)  (r0 : Nat → LA → Option R) (a : Int) (i : Int) (c : Bool) (b : LA)  (q1 : Nat → LA → Nat → Int → Int → LA → Option R)  : Option R :=
  (cond (Nat.ble 8 (List.length b)) (r18_Active N (List.take 8 b) c i (fun j l => (q1 j l 0 ((j : Nat) : Int) 0 []))) none)
noncomputable def r18_Failing_q0 (N : Nat)  (r0 : Nat → LA → Option R) (a : Int) (i : Int) (c : Bool) (b : LA)  : Option R := (r18_Failing_q0B N r0 a i c b (fun j l d f e g => (r18_Failing_q1 N r0 a j c b l N d f e g)))
noncomputable def r18_FailingB (N : Nat) (r0 : Nat → LA → Option R) (q0 : Option R) (b : LA) (c : Bool) (a : Int) (i : Int) : Option R :=
  (cond ((decide (a < (0 : Int))) == false) (rdL 4 (List.drop 7 b) fun aa w => (cond (cond false true (decide (a ≥ ((w : Nat) : Int)))) (r0 0 []) q0)) (r0 0 []))
noncomputable def r18_Failingi (N : Nat) (b : LA) (c : Bool) (a : Int) (i : Int) (r0 : Nat → LA → Option R) : Option R := (r18_FailingB N r0 (r18_Failing_q0 N r0 a i c b) b c a i)
noncomputable def r18_Failing := (shut (@r18_Failingi R)).1
theorem r18_Failing_def : @r18_Failing R = @r18_Failingi R := (shut _).2
noncomputable def r18_Failing_hs : Hints := { H := (hS (hR [1,2,3]) (hS (hR [1,2,3,7]) (hJ (hS (hR [1,2,3,7,18]) (hN [1,2,3,7] (hS (hR [6]) hL) hL)) (hS (hS (hR [1,3,7,21,22,23]) (hN [7] (hN [1,3,7,21,22,23] (hS (hR [1,3,7,21,22,23,24]) (hS (hN [1,3,7,21,22,23] hL hL) (hS (hN [1,3,7,21,22,23] (hS (hR [1,3,7,9,21,22,23]) (hS (hR [1,3,7,9,21,22,23,34]) (hN [1,3,7,21,22,23] (hR [1,3,7,21,22,23]) hL))) hL) (hR [1,3,7,21,22,23])))) hL) hL)) (hS (hR [6]) hL))))), nils := [(6, 1), (7, 1)], modes := [(2, 1)], free := [], cob := [] }
noncomputable def r18_Failing_T (N : Nat) : List (Nat × Tw) := [(13, r18_Active_Tw N), (34, r18_has_Tw N)]
noncomputable def r18_Failing_E (N : Nat) : Env := mkE 41 r18_Failing_hs (r18_Failing_T N)
noncomputable def r18_Failing_fin (N : Nat) (F : AV → Heap → Option R) := afinish (r18_Failing_E N) Try.f15 r18_Failing_hs.modes [] F
noncomputable def r18_Failing_at (N : Nat) (F : AV → Heap → Option R) := atF (r18_Failing_E N) [] N Try.f15 r18_Failing_hs (r18_Failing_fin N F)
noncomputable def r18_Failing_r0  (F : AV → Heap → Option R) : Nat → LA → Option R := (fun x y => F (.own 300000 0 x) [(300000, ⟨false, false, true, false, 1, y⟩)])
noncomputable def r18_Failing_s1 (a : Int) (j : Nat) (c : Bool) (b : LA) (l : LA) (d : Nat) (f : Int) (e : Int) (g : LA) : St := { s := [(1, (.int .i64 a)), (3, (.optr 300000 0)), (7, (.own 300001 0 d)), (21, (.own 300002 0 j)), (22, (.int .i64 f)), (23, (.int .i64 e))], h := [(300000, ⟨false, false, true, c, 0, b⟩), (300001, ⟨false, false, true, false, 1, g⟩), (300002, ⟨false, false, true, false, 1, l⟩)] }
noncomputable def r18_Failing_w1 (N : Nat) (F : AV → Heap → Option R) : St → Option R := loopW (r18_Failing_E N) [] N (r18_Failing_at N F [1, 1, 1, 0, 1, 0] []) N
noncomputable def r18_Failing_l1 (N : Nat) (F : AV → Heap → Option R) (n : Nat) : St → Option R := loopAt (r18_Failing_E N) [] N (r18_Failing_at N F [1, 1, 1, 0, 1, 0] []) n
noncomputable def r18_Failing_s0 (a : Int) (i : Int) (c : Bool) (b : LA) : St := { s := [(1, (.int .i64 a)), (2, (.int .i64 i)), (3, (.optr 300000 0)), (7, (.own 300001 0 0))], h := [(300000, ⟨false, false, true, c, 0, b⟩), (300001, ⟨false, false, true, false, 1, []⟩)] }
noncomputable def r18_Failing_j0 (N : Nat) (F : AV → Heap → Option R) : St → Option R := joinAt (r18_Failing_E N) [] N (r18_Failing_at N F [1, 1, 1] [])
noncomputable def r18_Failing_i0 (N : Nat) (F : AV → Heap → Option R) : St → Option R := joinIn (r18_Failing_E N) [] N (r18_Failing_at N F [1, 1, 1] [])
theorem r18_Failing_q1_eq (N : Nat)  (F : AV → Heap → Option R) (a : Int) (j : Nat) (c : Bool) (b : LA) (l : LA) : ∀ (n : Nat) (d : Nat) (f : Int) (e : Int) (g : LA), r18_Failing_l1 N F n (r18_Failing_s1 a j c b l d f e g) = (r18_Failing_q1 N (r18_Failing_r0 F) a j c b l n d f e g) := by
  intro n
  induction n with
  | zero => intros; kernel_rfl
  | succ n ih =>
    intro d f e g
    have e0 := funext fun d => funext fun f => funext fun e => funext fun g => (show r18_Failing_l1 N F n (r18_Failing_s1 a j c b l d f e g) = _ from ih d f e g)
    have hK : r18_Failing_l1 N F (n + 1) (r18_Failing_s1 a j c b l d f e g) = (r18_Failing_q1B N (r18_Failing_r0 F) a j c b l (fun d f e g => r18_Failing_l1 N F n (r18_Failing_s1 a j c b l d f e g)) d f e g) := by kernel_rfl
    exact hK.trans (by rw [e0]; rfl)
theorem r18_Failing_q0_eq (N : Nat)  (F : AV → Heap → Option R) (a : Int) (i : Int) (c : Bool) (b : LA) : r18_Failing_i0 N F (r18_Failing_s0 a i c b) = (r18_Failing_q0 N (r18_Failing_r0 F) a i c b) := by
  have e1 := funext fun j => funext fun l => funext fun d => funext fun f => funext fun e => funext fun g => (show r18_Failing_w1 N F (r18_Failing_s1 a j c b l d f e g) = _ from (loopW_eq ..).trans (r18_Failing_q1_eq N F a j c b l N d f e g))
  have hK : r18_Failing_i0 N F (r18_Failing_s0 a i c b) = (r18_Failing_q0B N (r18_Failing_r0 F) a i c b (fun j l d f e g => r18_Failing_w1 N F (r18_Failing_s1 a j c b l d f e g))) := by kernel_rfl
  exact hK.trans (by rw [e1]; rfl)
theorem r18_Failing_eq (N : Nat) (b : LA) (c : Bool) (a : Int) (i : Int) (F : AV → Heap → Option R) : execF Try.prog muts (r18_Failing_T N) r18_Failing_hs N 15 [(.pagg b c), (.int .i64 a), (.int .i64 i)] [] F = (r18_Failing N b c a i (r18_Failing_r0 F)) := by
  have e1 := (show r18_Failing_j0 N F (r18_Failing_s0 a i c b) = _ from (joinAt_eq ..).trans (r18_Failing_q0_eq N F a i c b))
  have hK : execF Try.prog muts (r18_Failing_T N) r18_Failing_hs N 15 [(.pagg b c), (.int .i64 a), (.int .i64 i)] [] F = (r18_FailingB N (r18_Failing_r0 F) (r18_Failing_j0 N F (r18_Failing_s0 a i c b)) b c a i) := by kernel_rfl
  rw [r18_Failing_def]
  exact hK.trans (by rw [e1]; rfl)
noncomputable def r18_Failing_run (N : Nat) (args : List AV) (h : Heap) (k : AV → Heap → Option R) : Option R :=
  match args, h with
  | [(.pagg b c), (.int .i64 a), (.int .i64 i)], [] => (r18_Failing N b c a i (r18_Failing_r0 k))
  | _, _ => none
noncomputable def r18_Failing_Tw (N : Nat) : Tw where
  runK := r18_Failing_run N
  eq := by
    intro R args h k
    unfold r18_Failing_run
    split
    · exact (r18_Failing_eq ..).symm.trans ((execF_bind ..).trans (congrArg (Option.bind · _) (r18_Failing_eq ..)))
    · rfl
theorem r18_Failing_ok (N : Nat) : TwOk Try.prog 15 (r18_Failing_Tw N) := by
  intro args h res m z
  have hh : r18_Failing_run N args h (fun v m => some (v, m)) = some (res, m) := z
  unfold r18_Failing_run at hh
  split at hh
  · exact execF_sound (T := r18_Failing_T N) ⟨r18_Active_ok N, r18_has_ok N, trivial⟩ follows ((r18_Failing_eq ..).trans hh)
  · cases hh
noncomputable def law18_row_q0B (N : Nat)  (r0 : LA → Option R)  (k0 : Int → Nat → LA → Option R)  (b : Int) (a : Nat) (c : LA) : Option R :=
  (cond (decide (b < (3 : Int))) (cond (inIdx b 3) (rdS (List.drop (0 + ((Int.toNat b) * 1)) [(.str ([97] : List UInt8)), (.str ([98] : List UInt8)), (.str ([99] : List UInt8))]) fun e => (cond ((Nat.ble (a + 1) 140737488355328) && (Nat.ble ((a + 1) * 48) 140737488355328)) (k0 (IntKind.wrap .i64 (b + (1 : Int))) (a + 1) ((List.take (a * 3) c) ++ [(.str e), (.imm [(.int .i64 0)] 1 1 false false), (.int .i64 0)])) none)) none) (r0 [(.int .i64 1), (.imm [(.int .i64 0)] 1 1 false false), (.imm (List.take (a * 3) c) a 3 false false), (.imm [(.str ([107] : List UInt8)), (.int .i64 0), (.int .i64 1), (.int .i64 1), (.int .i64 1), (.int .i64 0), (.int .i64 1), (.int .i64 0), (.int .i64 1), (.int .i64 0), (.int .i64 0), .nsl, (.str ([108] : List UInt8)), (.int .i64 1), (.int .i64 2), (.int .i64 1), (.int .i64 1), (.int .i64 0), (.int .i64 1), (.int .i64 0), (.int .i64 1), (.int .i64 0), (.int .i64 0), .nsl] 2 12 false false), (.imm [] 0 22 false false), (.imm [] 0 9 false false), (.imm [] 0 5 false false), (.imm [(.str ([111] : List UInt8)), (.imm [(.int .i64 0)] 1 1 false false), (.bool false), (.imm [] 0 3 false false)] 1 4 false false)]))
noncomputable def law18_row_q0 (N : Nat)  (r0 : LA → Option R)  : Nat → Int → Nat → LA → Option R
  | 0, _, _, _ => none
  | n + 1, b, a, c => (law18_row_q0B N r0 (law18_row_q0 N r0 n) b a c)
noncomputable def law18_rowB (N : Nat) (r0 : LA → Option R) (q0 : Int → Nat → LA → Option R)  : Option R :=
  (q0 0 0 [])
noncomputable def law18_rowi (N : Nat)  (r0 : LA → Option R) : Option R := (law18_rowB N r0 (fun b a c => (law18_row_q0 N r0 N b a c)))
noncomputable def law18_row := (shut (@law18_rowi R)).1
theorem law18_row_def : @law18_row R = @law18_rowi R := (shut _).2
noncomputable def law18_row_hs : Hints := { H := (hS (hR [0]) (hS (hR [0,1]) (hS (hR [0,1,2]) (hS (hR [0,1,2,3]) (hS (hS (hR [0,1,2,3,10,11,12]) (hN [0,1,2,3] (hN [0,1,2,3,10,11,12] (hS (hR [0,1,2,3,10,11,12,13]) (hS (hN [0,1,2,3,10,11,12] hL hL) (hS (hN [0,1,2,3,10,11,12] (hS (hR [0,1,2,3,5,10,11,12]) (hR [0,1,2,3,10,11,12])) hL) (hR [0,1,2,3,10,11,12])))) hL) hL)) (hS (hR [0,3]) (hS (hR [0,3]) (hS (hR [0]) hL)))))))), nils := [], modes := [(3, 0)], free := [], cob := [9, 20, 28, 32, 36] }
noncomputable def law18_row_T (N : Nat) : List (Nat × Tw) := []
noncomputable def law18_row_E (N : Nat) : Env := mkE 40 law18_row_hs (law18_row_T N)
noncomputable def law18_row_fin (N : Nat) (F : AV → Heap → Option R) := afinish (law18_row_E N) Try.f24 law18_row_hs.modes [] F
noncomputable def law18_row_at (N : Nat) (F : AV → Heap → Option R) := atF (law18_row_E N) [] N Try.f24 law18_row_hs (law18_row_fin N F)
noncomputable def law18_row_r0  (F : AV → Heap → Option R) : LA → Option R := (fun f => F (.pagg f false) [])
noncomputable def law18_row_s0 (b : Int) (a : Nat) (c : LA) : St := { s := [(0, (.optr 300000 0)), (1, (.optr 300001 0)), (2, (.optr 300002 0)), (3, (.optr 300003 0)), (10, (.own 300004 0 3)), (11, (.int .i64 3)), (12, (.int .i64 b))], h := [(300000, ⟨false, false, false, false, 0, [(.int .i64 0), .nsl, .nsl, .nsl, .nsl, .nsl, .nsl, .nsl]⟩), (300001, ⟨false, false, true, false, 0, [(.int .i64 1), (.int .i64 1)]⟩), (300002, ⟨false, false, true, false, 0, [(.int .i64 0), (.int .i64 1)]⟩), (300003, ⟨false, false, false, false, 0, [(.int .i64 1), (.own 300005 0 1), (.own 300006 0 a), (.own 300007 0 0), (.own 300008 0 0), (.own 300009 0 0), (.own 300010 0 0), (.own 300011 0 0)]⟩), (300004, ⟨false, false, true, false, 1, [(.str ([97] : List UInt8)), (.str ([98] : List UInt8)), (.str ([99] : List UInt8))]⟩), (300005, ⟨false, false, true, false, 1, [(.int .i64 0)]⟩), (300006, ⟨false, false, true, false, 3, c⟩), (300007, ⟨false, false, true, false, 12, []⟩), (300008, ⟨false, false, true, false, 22, []⟩), (300009, ⟨false, false, true, false, 9, []⟩), (300010, ⟨false, false, true, false, 5, []⟩), (300011, ⟨false, false, true, false, 4, []⟩)] }
noncomputable def law18_row_w0 (N : Nat) (F : AV → Heap → Option R) : St → Option R := loopW (law18_row_E N) [] N (law18_row_at N F [1, 1, 1, 1, 0, 1, 0] []) N
noncomputable def law18_row_l0 (N : Nat) (F : AV → Heap → Option R) (n : Nat) : St → Option R := loopAt (law18_row_E N) [] N (law18_row_at N F [1, 1, 1, 1, 0, 1, 0] []) n
theorem law18_row_q0_eq (N : Nat)  (F : AV → Heap → Option R)  : ∀ (n : Nat) (b : Int) (a : Nat) (c : LA), law18_row_l0 N F n (law18_row_s0 b a c) = (law18_row_q0 N (law18_row_r0 F) n b a c) := by
  intro n
  induction n with
  | zero => intros; kernel_rfl
  | succ n ih =>
    intro b a c
    have e0 := funext fun b => funext fun a => funext fun c => (show law18_row_l0 N F n (law18_row_s0 b a c) = _ from ih b a c)
    have hK : law18_row_l0 N F (n + 1) (law18_row_s0 b a c) = (law18_row_q0B N (law18_row_r0 F) (fun b a c => law18_row_l0 N F n (law18_row_s0 b a c)) b a c) := by kernel_rfl
    exact hK.trans (by rw [e0]; rfl)
theorem law18_row_eq (N : Nat)  (F : AV → Heap → Option R) : execF Try.prog muts (law18_row_T N) law18_row_hs N 24 [] [] F = (law18_row N (law18_row_r0 F)) := by
  have e1 := funext fun b => funext fun a => funext fun c => (show law18_row_w0 N F (law18_row_s0 b a c) = _ from (loopW_eq ..).trans (law18_row_q0_eq N F N b a c))
  have hK : execF Try.prog muts (law18_row_T N) law18_row_hs N 24 [] [] F = (law18_rowB N (law18_row_r0 F) (fun b a c => law18_row_w0 N F (law18_row_s0 b a c))) := by kernel_rfl
  rw [law18_row_def]
  exact hK.trans (by rw [e1]; rfl)
noncomputable def law18_row_run (N : Nat) (args : List AV) (h : Heap) (k : AV → Heap → Option R) : Option R :=
  match args, h with
  | [], [] => (law18_row N (law18_row_r0 k))
  | _, _ => none
noncomputable def law18_row_Tw (N : Nat) : Tw where
  runK := law18_row_run N
  eq := by
    intro R args h k
    unfold law18_row_run
    split
    · exact (law18_row_eq ..).symm.trans ((execF_bind ..).trans (congrArg (Option.bind · _) (law18_row_eq ..)))
    · rfl
theorem law18_row_ok (N : Nat) : TwOk Try.prog 24 (law18_row_Tw N) := by
  intro args h res d g
  have hh : law18_row_run N args h (fun v d => some (v, d)) = some (res, d) := g
  unfold law18_row_run at hh
  split at hh
  · exact execF_sound (T := law18_row_T N) trivial follows ((law18_row_eq ..).trans hh)
  · cases hh
noncomputable def law18_awakeB (N : Nat) (r0 : Bool → Option R)   : Option R :=
  (cf_Check N [(.int .i64 1), (.imm [(.int .i64 0)] 1 1 false true), .nsl, .nsl, .nsl, .nsl, .nsl, .nsl] true (fun a e => (cond ((Nat.beq (List.length a) 3) && ((Nat.ble 3 3) && (!false))) (law18_row N (fun f => (cf_Check N f false (fun b g => (cond ((Nat.beq (List.length b) 3) && ((Nat.ble 3 3) && (!false))) (law18_row N (fun c => (cond ((Nat.beq 0 0) && ((Nat.beq (List.length c) 8) && (Nat.beq 8 8))) (cond ((Nat.beq 1 1) && ((Nat.ble 8 (List.length c)) && (!false))) (cond (Nat.ble 8 (List.length (List.set c 7 .nsl))) (cf_Check N (List.take 8 (List.set c 7 .nsl)) false (fun i j => (cond ((Nat.beq (List.length i) 3) && ((Nat.ble 3 3) && (!false))) (cond ((e == (8 : Int)) == true) (cond (Nat.ble 3 (List.length (setCells [(.int .i64 0), (.int .i64 0), (.int .i64 0)] 0 a))) (cond ((Nat.ble 1 3) && ((Nat.beq (List.length (List.take 3 (setCells [(.int .i64 0), (.int .i64 0), (.int .i64 0)] 0 a))) 3) && ((Nat.beq 3 3) && (true && (!false))))) (rdI .i64 (List.take 3 (setCells [(.int .i64 0), (.int .i64 0), (.int .i64 0)] 0 a)) fun l => (rdI .i64 (List.drop 1 (List.take 3 (setCells [(.int .i64 0), (.int .i64 0), (.int .i64 0)] 0 a))) fun m => (rdI .i64 (List.drop 2 (List.take 3 (setCells [(.int .i64 0), (.int .i64 0), (.int .i64 0)] 0 a))) fun n => (cond ((cond true ((l == (0 : Int)) && ((m == (0 : Int)) && ((n == (2 : Int)) && true))) false) == true) (cond ((cond true (g == (13 : Int)) false) == true) (cond (Nat.ble 3 (List.length (setCells [(.int .i64 0), (.int .i64 0), (.int .i64 0)] 0 b))) (cond ((Nat.ble 1 3) && ((Nat.beq (List.length (List.take 3 (setCells [(.int .i64 0), (.int .i64 0), (.int .i64 0)] 0 b))) 3) && ((Nat.beq 3 3) && (true && (!false))))) (rdI .i64 (List.take 3 (setCells [(.int .i64 0), (.int .i64 0), (.int .i64 0)] 0 b)) fun o => (rdI .i64 (List.drop 1 (List.take 3 (setCells [(.int .i64 0), (.int .i64 0), (.int .i64 0)] 0 b))) fun p => (rdI .i64 (List.drop 2 (List.take 3 (setCells [(.int .i64 0), (.int .i64 0), (.int .i64 0)] 0 b))) fun q => (cond ((cond true ((o == (6 : Int)) && ((p == (0 : Int)) && ((q == (0 : Int)) && true))) false) == true) (cond ((cond true (j == (0 : Int)) false) == true) (cond (Nat.ble 8 (List.length (List.set c 7 .nsl))) (cf_Active N (List.take 8 (List.set c 7 .nsl)) false 0 (fun r u => (r0 (cond true (((r : Nat) : Int) == (2 : Int)) false)))) none) (r0 false)) (r0 false))))) none) none) (r0 false)) (r0 false))))) none) none) (r0 false)) none))) none) none) none))) none))))) none)))
noncomputable def law18_awakei (N : Nat)  (r0 : Bool → Option R) : Option R := (law18_awakeB N r0)
noncomputable def law18_awake := (shut (@law18_awakei R)).1
theorem law18_awake_def : @law18_awake R = @law18_awakei R := (shut _).2
noncomputable def law18_awake_hs : Hints := { H := (hS hL (hS (hR [1,2]) (hS (hR [1,2,3,4]) (hS (hR [1,2,3,4,5]) (hS (hR [1,2,3,4,5]) (hS (hR [1,2,3,4,5,7]) (hS (hR [0]) hL))))))), nils := [], modes := [], free := [], cob := [] }
noncomputable def law18_awake_T (N : Nat) : List (Nat × Tw) := [(8, cf_Check_Tw N), (24, law18_row_Tw N), (12, cf_Active_Tw N)]
noncomputable def law18_awake_E (N : Nat) : Env := mkE 52 law18_awake_hs (law18_awake_T N)
noncomputable def law18_awake_fin (N : Nat) (F : AV → Heap → Option R) := afinish (law18_awake_E N) Try.f6 law18_awake_hs.modes [] F
noncomputable def law18_awake_at (N : Nat) (F : AV → Heap → Option R) := atF (law18_awake_E N) [] N Try.f6 law18_awake_hs (law18_awake_fin N F)
noncomputable def law18_awake_r0  (F : AV → Heap → Option R) : Bool → Option R := (fun s => F (.bool s) [])
theorem law18_awake_eq (N : Nat)  (F : AV → Heap → Option R) : execF Try.prog muts (law18_awake_T N) law18_awake_hs N 6 [] [] F = (law18_awake N (law18_awake_r0 F)) := by
  have hK : execF Try.prog muts (law18_awake_T N) law18_awake_hs N 6 [] [] F = (law18_awakeB N (law18_awake_r0 F)) := by kernel_rfl
  rw [law18_awake_def]
  exact hK
noncomputable def law18_awake_run (N : Nat) (args : List AV) (h : Heap) (k : AV → Heap → Option R) : Option R :=
  match args, h with
  | [], [] => (law18_awake N (law18_awake_r0 k))
  | _, _ => none
noncomputable def law18_awake_Tw (N : Nat) : Tw where
  runK := law18_awake_run N
  eq := by
    intro R args h k
    unfold law18_awake_run
    split
    · exact (law18_awake_eq ..).symm.trans ((execF_bind ..).trans (congrArg (Option.bind · _) (law18_awake_eq ..)))
    · rfl
theorem law18_awake_ok (N : Nat) : TwOk Try.prog 6 (law18_awake_Tw N) := by
  intro args h res d t
  have hh : law18_awake_run N args h (fun v d => some (v, d)) = some (res, d) := t
  unfold law18_awake_run at hh
  split at hh
  · exact execF_sound (T := law18_awake_T N) ⟨cf_Check_ok N, law18_row_ok N, cf_Active_ok N, trivial⟩ follows ((law18_awake_eq ..).trans hh)
  · cases hh
noncomputable def law18_CaseformHours_q0B (N : Nat)  (r0 : Bool → Option R) (c : LA) (k0 : Int → LA → Option R)  (a : Int) (b : LA) : Option R :=
  (cond (decide (a < (2 : Int))) (cond (inIdx a 2) (cond (Nat.ble 2 (List.length (List.drop (0 + ((Int.toNat a) * 2)) b))) (cond ((Nat.beq (List.length (List.take 2 (List.drop (0 + ((Int.toNat a) * 2)) b))) 2) && ((Nat.ble 2 2) && (!false))) (cond (Nat.ble 8 (List.length c)) (rdI .i64 (List.drop 1 (setCells [(.int .i64 0), (.int .i64 0)] 0 (List.take 2 (List.drop (0 + ((Int.toNat a) * 2)) b)))) fun r => (cf_Active N (List.take 8 c) false r (fun m t => (cond (Nat.ble 8 (List.length c)) (rdI .i64 (List.drop 1 (setCells [(.int .i64 0), (.int .i64 0)] 0 (List.take 2 (List.drop (0 + ((Int.toNat a) * 2)) b)))) fun u => (r18_Active N (List.take 8 c) false u (fun o w => (r18_Ints N (List.take (m * 1) t) m false true (List.take (o * 1) w) o false true (fun x => (cond ((!x) == false) (cond (Nat.ble 8 (List.length c)) (rdI .i64 (setCells [(.int .i64 0), (.int .i64 0)] 0 (List.take 2 (List.drop (0 + ((Int.toNat a) * 2)) b))) fun y => (rdI .i64 (List.drop 1 (setCells [(.int .i64 0), (.int .i64 0)] 0 (List.take 2 (List.drop (0 + ((Int.toNat a) * 2)) b)))) fun z => (cf_Failing N (List.take 8 c) false y z (fun p aa => (cond (Nat.ble 8 (List.length c)) (rdI .i64 (setCells [(.int .i64 0), (.int .i64 0)] 0 (List.take 2 (List.drop (0 + ((Int.toNat a) * 2)) b))) fun ab => (rdI .i64 (List.drop 1 (setCells [(.int .i64 0), (.int .i64 0)] 0 (List.take 2 (List.drop (0 + ((Int.toNat a) * 2)) b)))) fun ac => (r18_Failing N (List.take 8 c) false ab ac (fun q ad => (r18_Ints N (List.take (p * 1) aa) p false true (List.take (q * 1) ad) q false true (fun ae => (cond (cond false true (!ae)) (r0 false) (k0 (IntKind.wrap .i64 (a + (1 : Int))) b)))))))) none))))) none) (r0 false))))))) none)))) none) none) none) none) (law18_awake N (fun af => (cond (af == true) (cf_Active N [(.int .i64 0), .nsl, .nsl, .nsl, .nsl, .nsl, .nsl, .nsl] false 0 (fun ag al => (r0 (cond true (((ag : Nat) : Int) == (0 : Int)) false)))) (r0 false)))))
noncomputable def law18_CaseformHours_q0 (N : Nat)  (r0 : Bool → Option R) (c : LA) : Nat → Int → LA → Option R
  | 0, _, _ => none
  | n + 1, a, b => (law18_CaseformHours_q0B N r0 c (law18_CaseformHours_q0 N r0 c n) a b)
noncomputable def law18_CaseformHoursB (N : Nat) (r0 : Bool → Option R) (q0 : LA → Int → LA → Option R) (f : LA) (g : Nat) (j : Bool) (i : Bool) (d : Int) (e : Int) : Option R :=
  (mk_Case N f g false i (fun c => (cond ((Nat.beq 0 0) && ((Nat.beq (List.length c) 8) && (Nat.beq 8 8))) (mk_Mod N d 4 (fun ah => (mk_Mod N e 4 (fun ai => (q0 c 0 [(.int .i64 d), (.int .i64 e), (.int .i64 ah), (.int .i64 ai)]))))) none)))
noncomputable def law18_CaseformHoursi (N : Nat) (f : LA) (g : Nat) (j : Bool) (i : Bool) (d : Int) (e : Int) (r0 : Bool → Option R) : Option R := (law18_CaseformHoursB N r0 (fun c a b => (law18_CaseformHours_q0 N r0 c N a b)) f g j i d e)
noncomputable def law18_CaseformHours := (shut (@law18_CaseformHoursi R)).1
theorem law18_CaseformHours_def : @law18_CaseformHours R = @law18_CaseformHoursi R := (shut _).2
noncomputable def law18_CaseformHours_hs : Hints := { H := (hS (hR [0,1,2]) (hS (hR [1,2,7]) (hS (hS (hR [7,20,21,22]) (hS (hN [7,20,21,22] (hS (hR [7,20,21,22,23]) (hS (hN [7,20,21,22] hL hL) (hS (hN [7,20,21,22] (hS (hR [7,9,20,21,22]) (hS (hR [7,20,21,22,51]) (hN [7,20,21,22] (hS (hR [6]) hL) hL))) hL) (hR [7,20,21,22])))) hL) hL)) (hS (hR [6]) hL)))), nils := [], modes := [], free := [], cob := [] }
noncomputable def law18_CaseformHours_T (N : Nat) : List (Nat × Tw) := [(5, mk_Case_Tw N), (7, mk_Mod_Tw N), (12, cf_Active_Tw N), (13, r18_Active_Tw N), (11, r18_Ints_Tw N), (14, cf_Failing_Tw N), (15, r18_Failing_Tw N), (6, law18_awake_Tw N)]
noncomputable def law18_CaseformHours_E (N : Nat) : Env := mkE 60 law18_CaseformHours_hs (law18_CaseformHours_T N)
noncomputable def law18_CaseformHours_fin (N : Nat) (F : AV → Heap → Option R) := afinish (law18_CaseformHours_E N) Try.f4 law18_CaseformHours_hs.modes [] F
noncomputable def law18_CaseformHours_at (N : Nat) (F : AV → Heap → Option R) := atF (law18_CaseformHours_E N) [] N Try.f4 law18_CaseformHours_hs (law18_CaseformHours_fin N F)
noncomputable def law18_CaseformHours_r0  (F : AV → Heap → Option R) : Bool → Option R := (fun aj => F (.bool aj) [])
noncomputable def law18_CaseformHours_s0 (c : LA) (a : Int) (b : LA) : St := { s := [(7, (.optr 300000 0)), (20, (.own 300001 0 2)), (21, (.int .i64 2)), (22, (.int .i64 a))], h := [(300000, ⟨false, false, true, false, 0, c⟩), (300001, ⟨false, false, true, false, 2, b⟩)] }
noncomputable def law18_CaseformHours_w0 (N : Nat) (F : AV → Heap → Option R) : St → Option R := loopW (law18_CaseformHours_E N) [] N (law18_CaseformHours_at N F [1, 1, 0, 1, 0] []) N
noncomputable def law18_CaseformHours_l0 (N : Nat) (F : AV → Heap → Option R) (n : Nat) : St → Option R := loopAt (law18_CaseformHours_E N) [] N (law18_CaseformHours_at N F [1, 1, 0, 1, 0] []) n
theorem law18_CaseformHours_q0_eq (N : Nat)  (F : AV → Heap → Option R) (c : LA) : ∀ (n : Nat) (a : Int) (b : LA), law18_CaseformHours_l0 N F n (law18_CaseformHours_s0 c a b) = (law18_CaseformHours_q0 N (law18_CaseformHours_r0 F) c n a b) := by
  intro n
  induction n with
  | zero => intros; kernel_rfl
  | succ n ih =>
    intro a b
    have e0 := funext fun a => funext fun b => (show law18_CaseformHours_l0 N F n (law18_CaseformHours_s0 c a b) = _ from ih a b)
    have hK : law18_CaseformHours_l0 N F (n + 1) (law18_CaseformHours_s0 c a b) = (law18_CaseformHours_q0B N (law18_CaseformHours_r0 F) c (fun a b => law18_CaseformHours_l0 N F n (law18_CaseformHours_s0 c a b)) a b) := by kernel_rfl
    exact hK.trans (by rw [e0]; rfl)
theorem law18_CaseformHours_eq (N : Nat) (f : LA) (g : Nat) (j : Bool) (i : Bool) (d : Int) (e : Int) (F : AV → Heap → Option R) : execF Try.prog muts (law18_CaseformHours_T N) law18_CaseformHours_hs N 4 [(.imm f g 1 j i), (.int .i64 d), (.int .i64 e)] [] F = (law18_CaseformHours N f g j i d e (law18_CaseformHours_r0 F)) := by
  have e1 := funext fun c => funext fun a => funext fun b => (show law18_CaseformHours_w0 N F (law18_CaseformHours_s0 c a b) = _ from (loopW_eq ..).trans (law18_CaseformHours_q0_eq N F c N a b))
  have hK : execF Try.prog muts (law18_CaseformHours_T N) law18_CaseformHours_hs N 4 [(.imm f g 1 j i), (.int .i64 d), (.int .i64 e)] [] F = (law18_CaseformHoursB N (law18_CaseformHours_r0 F) (fun c a b => law18_CaseformHours_w0 N F (law18_CaseformHours_s0 c a b)) f g j i d e) := by kernel_rfl
  rw [law18_CaseformHours_def]
  exact hK.trans (by rw [e1]; rfl)
noncomputable def law18_CaseformHours_run (N : Nat) (args : List AV) (h : Heap) (k : AV → Heap → Option R) : Option R :=
  match args, h with
  | [(.imm f g 1 j i), (.int .i64 d), (.int .i64 e)], [] => (law18_CaseformHours N f g j i d e (law18_CaseformHours_r0 k))
  | _, _ => none
noncomputable def law18_CaseformHours_Tw (N : Nat) : Tw where
  runK := law18_CaseformHours_run N
  eq := by
    intro R args h k
    unfold law18_CaseformHours_run
    split
    · exact (law18_CaseformHours_eq ..).symm.trans ((execF_bind ..).trans (congrArg (Option.bind · _) (law18_CaseformHours_eq ..)))
    · rfl
theorem law18_CaseformHours_ok (N : Nat) : TwOk Try.prog 4 (law18_CaseformHours_Tw N) := by
  intro args h res l ak
  have hh : law18_CaseformHours_run N args h (fun v l => some (v, l)) = some (res, l) := ak
  unfold law18_CaseformHours_run at hh
  split at hh
  · exact execF_sound (T := law18_CaseformHours_T N) ⟨mk_Case_ok N, mk_Mod_ok N, cf_Active_ok N, r18_Active_ok N, r18_Ints_ok N, cf_Failing_ok N, r18_Failing_ok N, law18_awake_ok N, trivial⟩ follows ((law18_CaseformHours_eq ..).trans hh)
  · cases hh
noncomputable def law18_CaseformIslands_q2B (N : Nat) (k1 : Int → LA → Option R) (r0 : Bool → Option R) (b : Int) (c : Int) (e : Int) (o : Nat) (m : Nat) (a : LA) (d : LA) (q : LA) (p : LA) (k2 : Int → Nat → Int → LA → Option R)  (i : Int) (f : Nat) (g : Int) (j : LA) : Option R :=
  (cond (decide (g < ((m : Nat) : Int))) (cond (inIdx g m) (rdI .i64 (List.drop (0 + ((Int.toNat g) * 1)) p) fun af => (cond ((af == b) == false) (cond (inIdx g m) (rdI .i64 (List.drop (0 + ((Int.toNat g) * 1)) p) fun ag => (cond (cond false true (ag == c)) (cond ((Nat.ble (f + 1) 140737488355328) && (Nat.ble ((f + 1) * 8) 140737488355328)) (k2 i (f + 1) (IntKind.wrap .i64 (g + (1 : Int))) ((List.take (f * 1) j) ++ [(.int .i64 g)])) none) (k2 i f (IntKind.wrap .i64 (g + (1 : Int))) j))) none) (cond ((Nat.ble (f + 1) 140737488355328) && (Nat.ble ((f + 1) * 8) 140737488355328)) (k2 i (f + 1) (IntKind.wrap .i64 (g + (1 : Int))) ((List.take (f * 1) j) ++ [(.int .i64 g)])) none))) none) (rdL 3 (List.drop 2 a) fun ay ah => (r18_Separated N ((ah : Nat) : Int) (List.take (o * 2) q) o false true (List.take (f * 1) j) f false true (fun ai => (cond ai (cond ((e == (13 : Int)) == true) (cond (Nat.ble 3 (List.length d)) (rdL 4 (List.drop 7 a) fun az aj => (cond ((Nat.ble 1 3) && ((Nat.beq (List.length (List.take 3 d)) 3) && ((Nat.beq 3 3) && (true && (!false))))) (rdI .i64 (List.take 3 d) fun ak => (rdI .i64 (List.drop 1 (List.take 3 d)) fun al => (rdI .i64 (List.drop 2 (List.take 3 d)) fun am => (cond ((cond true ((ak == (6 : Int)) && ((al == ((aj : Nat) : Int)) && ((am == i) && true))) false) == true) (law18_awake N (fun an => (r0 (cond true an false)))) (r0 false))))) none)) none) (r0 false)) (k1 (IntKind.wrap .i64 (i + (1 : Int))) d))))))
noncomputable def law18_CaseformIslands_q2 (N : Nat) (k1 : Int → LA → Option R) (r0 : Bool → Option R) (b : Int) (c : Int) (e : Int) (o : Nat) (m : Nat) (a : LA) (d : LA) (q : LA) (p : LA) : Nat → Int → Nat → Int → LA → Option R
  | 0, _, _, _, _ => none
  | n + 1, i, f, g, j => (law18_CaseformIslands_q2B N k1 r0 b c e o m a d q p (law18_CaseformIslands_q2 N k1 r0 b c e o m a d q p n) i f g j)
noncomputable def law18_CaseformIslands_q1B (N : Nat)  (r0 : Bool → Option R) (b : Int) (c : Int) (e : Int) (a : LA) (k1 : Int → LA → Option R) (q2 : Nat → Nat → LA → LA → Int → Nat → Int → LA → Option R) (l : Int) (d : LA) : Option R :=
  (rdI .i64 a fun ao => (cond (decide (l < ao)) (cond (Nat.ble 8 (List.length a)) (r18_Pairs N (List.take 8 a) false l (fun o m q p => (q2 o m q p l 0 0 []))) none) (cond ((e == (0 : Int)) == true) (law18_awake N (fun ap => (r0 (cond true ap false)))) (r0 false))))
noncomputable def law18_CaseformIslands_q1 (N : Nat)  (r0 : Bool → Option R) (b : Int) (c : Int) (e : Int) (a : LA) : Nat → Int → LA → Option R
  | 0, _, _ => none
  | n + 1, l, d => (law18_CaseformIslands_q1B N r0 b c e a (law18_CaseformIslands_q1 N r0 b c e a n) (fun o m q p i f g j => (law18_CaseformIslands_q2 N (law18_CaseformIslands_q1 N r0 b c e a n) r0 b c e o m a d q p N i f g j)) l d)
noncomputable def law18_CaseformIslands_q0B (N : Nat)  (r0 : Bool → Option R) (b : Int) (c : Int) (a : LA)  (q1 : Int → Int → LA → Option R) (r : Nat) (t : LA) : Option R :=
  (cond (Nat.ble 8 (List.length a)) (cond ((Nat.beq 0 0) && ((Nat.beq (List.length (List.take 8 a)) 8) && (Nat.beq 8 8))) (rdL 4 (List.drop 7 a) fun ad u => (cond ((Nat.ble (0 + u) 140737488355328) && (Nat.ble ((0 + u) * 72) 140737488355328)) (cond ((Nat.ble ((0 + u) + 1) 140737488355328) && (Nat.ble (((0 + u) + 1) * 72) 140737488355328)) (cond ((Nat.beq 1 1) && ((Nat.ble 8 (List.length (List.take 8 a))) && (!false))) (cond (Nat.ble 8 (List.length (List.set (List.take 8 a) 7 (.imm (List.take (((0 + u) + 1) * 4) ((List.take ((0 + u) * 4) ad) ++ [(.str ([109, 111, 114, 101] : List UInt8)), (.imm (List.take (r * 1) t) r 1 false false), (.bool false), .nsl])) ((0 + u) + 1) 4 false false)))) (cf_Check N (List.take 8 (List.set (List.take 8 a) 7 (.imm (List.take (((0 + u) + 1) * 4) ((List.take ((0 + u) * 4) ad) ++ [(.str ([109, 111, 114, 101] : List UInt8)), (.imm (List.take (r * 1) t) r 1 false false), (.bool false), .nsl])) ((0 + u) + 1) 4 false false))) false (fun ae e => (cond ((Nat.beq (List.length ae) 3) && ((Nat.ble 3 3) && (!false))) (q1 e 0 (setCells [(.int .i64 0), (.int .i64 0), (.int .i64 0)] 0 ae)) none))) none) none) none) none)) none) none)
noncomputable def law18_CaseformIslands_q0 (N : Nat)  (r0 : Bool → Option R) (b : Int) (c : Int) (a : LA) (r : Nat) (t : LA) : Option R := (law18_CaseformIslands_q0B N r0 b c a (fun e l d => (law18_CaseformIslands_q1 N r0 b c e a N l d)) r t)
noncomputable def law18_CaseformIslandsB (N : Nat) (r0 : Bool → Option R) (q0 : Int → Int → LA → Nat → LA → Option R) (w : LA) (x : Nat) (ab : Bool) (y : Bool) (z : Int) (aa : Int) : Option R :=
  (mk_Case N w x false y (fun a => (cond ((Nat.beq 0 0) && ((Nat.beq (List.length a) 8) && (Nat.beq 8 8))) (rdL 12 (List.drop 3 a) fun ba aq => (cond (((aq : Nat) : Int) == (0 : Int)) (law18_awake N (fun ar => (r0 ar))) (rdL 12 (List.drop 3 a) fun bb au => (mk_Mod N z ((au : Nat) : Int) (fun b => (rdL 12 (List.drop 3 a) fun bc av => (mk_Mod N aa ((av : Nat) : Int) (fun c => (cond (b == c) (q0 b c a 1 [(.int .i64 (iMin b c)), (.int .i64 (iMax b c))]) (q0 b c a 2 [(.int .i64 (iMin b c)), (.int .i64 (iMax b c))])))))))))) none)))
noncomputable def law18_CaseformIslandsi (N : Nat) (w : LA) (x : Nat) (ab : Bool) (y : Bool) (z : Int) (aa : Int) (r0 : Bool → Option R) : Option R := (law18_CaseformIslandsB N r0 (fun b c a r t => (law18_CaseformIslands_q0 N r0 b c a r t)) w x ab y z aa)
noncomputable def law18_CaseformIslands := (shut (@law18_CaseformIslandsi R)).1
theorem law18_CaseformIslands_def : @law18_CaseformIslands R = @law18_CaseformIslandsi R := (shut _).2
noncomputable def law18_CaseformIslands_hs : Hints := { H := (hS (hR [0,1,2]) (hS (hR [1,2,7]) (hS (hS (hR [1,2,7,24]) (hN [1,2,7] (hS (hR [6]) hL) hL)) (hS (hR [7,8,9]) (hS (hR [7,8,9,10]) (hJ (hS (hR [7,8,9,10,45]) (hN [7,8,9,10] (hR [7,8,9,10]) hL)) (hS (hR [7,8,9,10,11]) (hS (hR [7,8,9,11]) (hS (hR [7,8,9,12,13]) (hS (hS (hR [7,8,9,12,13,14]) (hN [13] (hN [7,8,9,12,13,14] (hS (hS (hR [7,8,9,12,13,14,66]) (hN [7,8,9,12,13,14] hL hL)) (hS (hN [7,8,9,12,13,14] (hS (hR [7,8,9,12,13,14,15,16]) (hS (hR [7,8,9,12,13,14,15,16,17]) (hS (hS (hR [7,8,9,12,13,14,15,16,17,18]) (hN [7,8,9,12,13,14,15,17] (hN [7,8,9,12,13,14,15,16,17,18] (hS (hS (hR [7,8,9,12,13,14,15,16,17,18,78]) (hN [7,8,9,12,13,14,15,16,17,18] hL hL)) (hS (hN [7,8,9,12,13,14,15,16,17,18] (hS (hR [7,8,9,12,13,14,15,16,17,18,94]) (hN [7,8,9,12,13,14,15,16,17,18] (hR [7,8,9,12,13,14,15,16,17,18]) hL)) hL) (hR [7,8,9,12,13,14,15,16,17,18]))) hL) hL)) (hS (hR [7,8,9,12,13,14,104]) (hN [7,8,9,12,13,14] (hS (hR [6]) hL) hL))))) hL) (hR [7,8,9,12,13,14]))) hL) hL)) (hS (hR [6]) hL))))))))))), nils := [(17, 1)], modes := [], free := [], cob := [] }
noncomputable def law18_CaseformIslands_T (N : Nat) : List (Nat × Tw) := [(5, mk_Case_Tw N), (6, law18_awake_Tw N), (7, mk_Mod_Tw N), (8, cf_Check_Tw N), (9, r18_Pairs_Tw N), (10, r18_Separated_Tw N)]
noncomputable def law18_CaseformIslands_E (N : Nat) : Env := mkE 124 law18_CaseformIslands_hs (law18_CaseformIslands_T N)
noncomputable def law18_CaseformIslands_fin (N : Nat) (F : AV → Heap → Option R) := afinish (law18_CaseformIslands_E N) Try.f3 law18_CaseformIslands_hs.modes [] F
noncomputable def law18_CaseformIslands_at (N : Nat) (F : AV → Heap → Option R) := atF (law18_CaseformIslands_E N) [] N Try.f3 law18_CaseformIslands_hs (law18_CaseformIslands_fin N F)
noncomputable def law18_CaseformIslands_r0  (F : AV → Heap → Option R) : Bool → Option R := (fun aw => F (.bool aw) [])
noncomputable def law18_CaseformIslands_s2 (b : Int) (c : Int) (e : Int) (o : Nat) (m : Nat) (a : LA) (d : LA) (q : LA) (p : LA) (i : Int) (f : Nat) (g : Int) (j : LA) : St := { s := [(7, (.optr 300000 0)), (8, (.int .i64 b)), (9, (.int .i64 c)), (12, (.optr 300001 0)), (13, (.int .i64 e)), (14, (.int .i64 i)), (15, (.own 300002 0 o)), (16, (.own 300003 0 m)), (17, (.own 300004 0 f)), (18, (.int .i64 g))], h := [(300000, ⟨false, false, true, false, 0, a⟩), (300001, ⟨false, false, true, false, 0, d⟩), (300002, ⟨false, false, true, false, 2, q⟩), (300003, ⟨false, false, true, false, 1, p⟩), (300004, ⟨false, false, true, false, 1, j⟩)] }
noncomputable def law18_CaseformIslands_w2 (N : Nat) (F : AV → Heap → Option R) (Q1 : St → Option R) : St → Option R := loopW (law18_CaseformIslands_E N) [] N (law18_CaseformIslands_at N F [1, 1, 1, 1, 1, 1, 1, 1, 1, 0, 1, 0, 0, 1, 0, 0, 1, 1, 0, 1, 0] [Q1]) N
noncomputable def law18_CaseformIslands_l2 (N : Nat) (F : AV → Heap → Option R) (Q1 : St → Option R) (n : Nat) : St → Option R := loopAt (law18_CaseformIslands_E N) [] N (law18_CaseformIslands_at N F [1, 1, 1, 1, 1, 1, 1, 1, 1, 0, 1, 0, 0, 1, 0, 0, 1, 1, 0, 1, 0] [Q1]) n
noncomputable def law18_CaseformIslands_s1 (b : Int) (c : Int) (e : Int) (a : LA) (l : Int) (d : LA) : St := { s := [(7, (.optr 300000 0)), (8, (.int .i64 b)), (9, (.int .i64 c)), (12, (.optr 300001 0)), (13, (.int .i64 e)), (14, (.int .i64 l))], h := [(300000, ⟨false, false, true, false, 0, a⟩), (300001, ⟨false, false, true, false, 0, d⟩)] }
noncomputable def law18_CaseformIslands_w1 (N : Nat) (F : AV → Heap → Option R) : St → Option R := loopW (law18_CaseformIslands_E N) [] N (law18_CaseformIslands_at N F [1, 1, 1, 1, 1, 1, 1, 1, 1, 0, 1, 0] []) N
noncomputable def law18_CaseformIslands_l1 (N : Nat) (F : AV → Heap → Option R) (n : Nat) : St → Option R := loopAt (law18_CaseformIslands_E N) [] N (law18_CaseformIslands_at N F [1, 1, 1, 1, 1, 1, 1, 1, 1, 0, 1, 0] []) n
noncomputable def law18_CaseformIslands_s0 (b : Int) (c : Int) (a : LA) (r : Nat) (t : LA) : St := { s := [(7, (.optr 300000 0)), (8, (.int .i64 b)), (9, (.int .i64 c)), (10, (.own 300001 0 r))], h := [(300000, ⟨false, false, true, false, 0, a⟩), (300001, ⟨false, false, true, false, 1, t⟩)] }
noncomputable def law18_CaseformIslands_j0 (N : Nat) (F : AV → Heap → Option R) : St → Option R := joinAt (law18_CaseformIslands_E N) [] N (law18_CaseformIslands_at N F [1, 1, 1, 1, 1, 1] [])
noncomputable def law18_CaseformIslands_i0 (N : Nat) (F : AV → Heap → Option R) : St → Option R := joinIn (law18_CaseformIslands_E N) [] N (law18_CaseformIslands_at N F [1, 1, 1, 1, 1, 1] [])
theorem law18_CaseformIslands_q2_eq (N : Nat) (Q1 : St → Option R) (F : AV → Heap → Option R) (b : Int) (c : Int) (e : Int) (o : Nat) (m : Nat) (a : LA) (d : LA) (q : LA) (p : LA) : ∀ (n : Nat) (i : Int) (f : Nat) (g : Int) (j : LA), law18_CaseformIslands_l2 N F Q1 n (law18_CaseformIslands_s2 b c e o m a d q p i f g j) = (law18_CaseformIslands_q2 N (fun l d => Q1 (law18_CaseformIslands_s1 b c e a l d)) (law18_CaseformIslands_r0 F) b c e o m a d q p n i f g j) := by
  intro n
  induction n with
  | zero => intros; kernel_rfl
  | succ n ih =>
    intro i f g j
    have e0 := funext fun i => funext fun f => funext fun g => funext fun j => (show law18_CaseformIslands_l2 N F Q1 n (law18_CaseformIslands_s2 b c e o m a d q p i f g j) = _ from ih i f g j)
    have hK : law18_CaseformIslands_l2 N F Q1 (n + 1) (law18_CaseformIslands_s2 b c e o m a d q p i f g j) = (law18_CaseformIslands_q2B N (fun l d => Q1 (law18_CaseformIslands_s1 b c e a l d)) (law18_CaseformIslands_r0 F) b c e o m a d q p (fun i f g j => law18_CaseformIslands_l2 N F Q1 n (law18_CaseformIslands_s2 b c e o m a d q p i f g j)) i f g j) := by kernel_rfl
    exact hK.trans (by rw [e0]; rfl)
theorem law18_CaseformIslands_q1_eq (N : Nat)  (F : AV → Heap → Option R) (b : Int) (c : Int) (e : Int) (a : LA) : ∀ (n : Nat) (l : Int) (d : LA), law18_CaseformIslands_l1 N F n (law18_CaseformIslands_s1 b c e a l d) = (law18_CaseformIslands_q1 N (law18_CaseformIslands_r0 F) b c e a n l d) := by
  intro n
  induction n with
  | zero => intros; kernel_rfl
  | succ n ih =>
    intro l d
    have e0 := funext fun l => funext fun d => (show law18_CaseformIslands_l1 N F n (law18_CaseformIslands_s1 b c e a l d) = _ from ih l d)
    have e1 : (fun o m q p i f g j => law18_CaseformIslands_w2 N F (law18_CaseformIslands_l1 N F n) (law18_CaseformIslands_s2 b c e o m a d q p i f g j)) = (fun o m q p i f g j => (law18_CaseformIslands_q2 N (law18_CaseformIslands_q1 N (law18_CaseformIslands_r0 F) b c e a n) (law18_CaseformIslands_r0 F) b c e o m a d q p N i f g j)) := by funext o; funext m; funext q; funext p; funext i; funext f; funext g; funext j; exact ((loopW_eq ..).trans (law18_CaseformIslands_q2_eq N (law18_CaseformIslands_l1 N F n) F b c e o m a d q p N i f g j)).trans (by rw [e0])
    have hK : law18_CaseformIslands_l1 N F (n + 1) (law18_CaseformIslands_s1 b c e a l d) = (law18_CaseformIslands_q1B N (law18_CaseformIslands_r0 F) b c e a (fun l d => law18_CaseformIslands_l1 N F n (law18_CaseformIslands_s1 b c e a l d)) (fun o m q p i f g j => law18_CaseformIslands_w2 N F (law18_CaseformIslands_l1 N F n) (law18_CaseformIslands_s2 b c e o m a d q p i f g j)) l d) := by kernel_rfl
    exact hK.trans (by rw [e0, e1]; rfl)
theorem law18_CaseformIslands_q0_eq (N : Nat)  (F : AV → Heap → Option R) (b : Int) (c : Int) (a : LA) : ∀ (r : Nat) (t : LA), law18_CaseformIslands_i0 N F (law18_CaseformIslands_s0 b c a r t) = (law18_CaseformIslands_q0 N (law18_CaseformIslands_r0 F) b c a r t) := by
  intro r t
  have e1 := funext fun e => funext fun l => funext fun d => (show law18_CaseformIslands_w1 N F (law18_CaseformIslands_s1 b c e a l d) = _ from (loopW_eq ..).trans (law18_CaseformIslands_q1_eq N F b c e a N l d))
  have hK : law18_CaseformIslands_i0 N F (law18_CaseformIslands_s0 b c a r t) = (law18_CaseformIslands_q0B N (law18_CaseformIslands_r0 F) b c a (fun e l d => law18_CaseformIslands_w1 N F (law18_CaseformIslands_s1 b c e a l d)) r t) := by kernel_rfl
  exact hK.trans (by rw [e1]; rfl)
theorem law18_CaseformIslands_eq (N : Nat) (w : LA) (x : Nat) (ab : Bool) (y : Bool) (z : Int) (aa : Int) (F : AV → Heap → Option R) : execF Try.prog muts (law18_CaseformIslands_T N) law18_CaseformIslands_hs N 3 [(.imm w x 1 ab y), (.int .i64 z), (.int .i64 aa)] [] F = (law18_CaseformIslands N w x ab y z aa (law18_CaseformIslands_r0 F)) := by
  have e1 := funext fun b => funext fun c => funext fun a => funext fun r => funext fun t => (show law18_CaseformIslands_j0 N F (law18_CaseformIslands_s0 b c a r t) = _ from (joinAt_eq ..).trans (law18_CaseformIslands_q0_eq N F b c a r t))
  have hK : execF Try.prog muts (law18_CaseformIslands_T N) law18_CaseformIslands_hs N 3 [(.imm w x 1 ab y), (.int .i64 z), (.int .i64 aa)] [] F = (law18_CaseformIslandsB N (law18_CaseformIslands_r0 F) (fun b c a r t => law18_CaseformIslands_j0 N F (law18_CaseformIslands_s0 b c a r t)) w x ab y z aa) := by kernel_rfl
  rw [law18_CaseformIslands_def]
  exact hK.trans (by rw [e1]; rfl)
noncomputable def law18_CaseformIslands_run (N : Nat) (args : List AV) (h : Heap) (k : AV → Heap → Option R) : Option R :=
  match args, h with
  | [(.imm w x 1 ab y), (.int .i64 z), (.int .i64 aa)], [] => (law18_CaseformIslands N w x ab y z aa (law18_CaseformIslands_r0 k))
  | _, _ => none
noncomputable def law18_CaseformIslands_Tw (N : Nat) : Tw where
  runK := law18_CaseformIslands_run N
  eq := by
    intro R args h k
    unfold law18_CaseformIslands_run
    split
    · exact (law18_CaseformIslands_eq ..).symm.trans ((execF_bind ..).trans (congrArg (Option.bind · _) (law18_CaseformIslands_eq ..)))
    · rfl
theorem law18_CaseformIslands_ok (N : Nat) : TwOk Try.prog 3 (law18_CaseformIslands_Tw N) := by
  intro args h res ac ax
  have hh : law18_CaseformIslands_run N args h (fun v ac => some (v, ac)) = some (res, ac) := ax
  unfold law18_CaseformIslands_run at hh
  split at hh
  · exact execF_sound (T := law18_CaseformIslands_T N) ⟨mk_Case_ok N, law18_awake_ok N, mk_Mod_ok N, cf_Check_ok N, r18_Pairs_ok N, r18_Separated_ok N, trivial⟩ follows ((law18_CaseformIslands_eq ..).trans hh)
  · cases hh
end Gx

namespace Gx
open Go Go.RowKit

/- A law's call. -/
theorem law_calls {P : Program} {f : Nat} {t : Tw} (hok : TwOk P f t) {W : World} {avs : List AV} {vs : List Value} (hr : Reps (fun _ k => k < W.heap.size) (fun _ => none) [] W avs vs)
    (hrun : (t.runK avs [] fun v h => some (v, h)) = some (.bool true, [])) : Calls P f vs.toArray W fun e w' => e = .returned (.bool true) ∧ Below W.heap.size W w' := by
  have S : SimH (fun _ k => k < W.heap.size) (fun _ => none) [] W := ⟨fun _ _ h => h, fun _ h => h, fun b x hb => by simp [hget] at hb, fun b b' x x' k o o' hb => by simp [hget] at hb⟩
  refine Calls.mono (hok avs [] _ _ hrun _ _ W vs S hr) ?_
  rintro e w' ⟨vc, J', β', rfl, F, hv⟩
  rw [Rep] at hv; subst hv
  refine ⟨rfl, F.os, F.tape, F.output, F.size, fun k hk => F.frame k hk ?_⟩
  rintro ⟨b, x, o, hb, _⟩
  change hget [] b = some x at hb
  simp [hget] at hb

/-- Data of type t read as cells. -/
structure Opens (P : Program) (t : TypeId) {α : Type} (e : α → List AV) (n : Nat) : Prop where
  size : P.cellsOf t = n
  pos : 0 < n
  len : ∀ a, (e a).length = n
  read : ∀ {H : Type} (enc : TypeId × Value → H) (W : World) (fuel : Nat) (cs : List Value) (d : DataW H) (ps : List MemPlace), DataW.trod enc P W 0 (fun _ => true) true fuel t cs = some (d, ps) →
    cs.length = n ∧ ∃ a, RepCs (fun k => k < W.heap.size) W (e a) (fun j => cs[j]?) 0

theorem opens_int {P : Program} {t : TypeId} {k : IntKind} (hu : P.underlying t = some (.int k)) (hc : P.cellsOf t = 1) : Opens P t (α := { n : Int // (Lit.int k n).wf = true }) (fun n => [.int k n.1]) 1 := by
  refine ⟨hc, by omega, fun _ => rfl, fun enc W fuel cs d ps h => ?_⟩
  obtain ⟨n, rfl, _, hw⟩ := DataW.trod_int hu h
  exact ⟨rfl, ⟨n, hw⟩, by simp [RepCs, RepC]⟩
theorem opens_bool {P : Program} {t : TypeId} (hu : P.underlying t = some .bool) (hc : P.cellsOf t = 1) : Opens P t (α := Bool) (fun b => [.bool b]) 1 := by
  refine ⟨hc, by omega, fun _ => rfl, fun enc W fuel cs d ps h => ?_⟩
  obtain ⟨b, rfl, _⟩ := DataW.trod_bool hu h
  exact ⟨rfl, b, by simp [RepCs, RepC]⟩
theorem opens_u8 {P : Program} {t : TypeId} (hu : P.underlying t = some (.int .u8)) (hc : P.cellsOf t = 1) : Opens P t (α := UInt8) (fun b => [.int .u8 (b.toNat : Int)]) 1 := by
  refine ⟨hc, by omega, fun _ => rfl, fun enc W fuel cs d ps h => ?_⟩
  obtain ⟨n, rfl, _, hw⟩ := DataW.trod_int hu h
  have h1 : 0 ≤ n ∧ n ≤ 255 := by simpa [Lit.wf, IntKind.min, IntKind.max, IntKind.signed, IntKind.bits] using hw
  refine ⟨rfl, UInt8.ofNat n.toNat, ?_⟩
  have : ((UInt8.ofNat n.toNat).toNat : Int) = n := by
    rw [UInt8.toNat_ofNat']; omega
  simp [RepCs, RepC]
  omega

theorem flatMap_get {α β : Type} {e : α → List β} {n : Nat} (hn : 0 < n) (he : ∀ a, (e a).length = n) : ∀ (l : List α) (j : Nat), (l.flatMap e)[j]? = (l[j / n]?).bind fun a => (e a)[j % n]?
  | [], j => by simp
  | a :: r, j => by
    rw [List.flatMap_cons]
    by_cases hj : j < n
    · rw [List.getElem?_append_left (by rw [he]; exact hj), Nat.div_eq_of_lt hj, Nat.mod_eq_of_lt hj]; simp
    · rw [List.getElem?_append_right (by rw [he]; omega), he, flatMap_get hn he r (j - n)]
      have h1 : j / n = (j - n) / n + 1 := by
        have := Nat.add_div_right (j - n) hn
        rw [show j - n + n = j by omega] at this; exact this
      have h2 : j % n = (j - n) % n := by
        have := Nat.add_mod_right (j - n) n
        rw [show j - n + n = j by omega] at this; exact this
      rw [h1, h2]; simp
theorem flatMap_len {α β : Type} {e : α → List β} {n : Nat} (he : ∀ a, (e a).length = n) : ∀ (l : List α), (l.flatMap e).length = l.length * n
  | [] => by simp
  | a :: r => by rw [List.flatMap_cons, List.length_append, he, flatMap_len he r, List.length_cons, Nat.succ_mul]; omega

theorem mapM_get {α β : Type} {f : α → Option β} : ∀ {l : List α} {r : List β}, l.mapM f = some r → r.length = l.length ∧ ∀ (i : Nat) (a : α), l[i]? = some a → f a = r[i]?
  | [], r, h => by simp at h; subst h; simp
  | x :: l, r, h => by
    rw [List.mapM_cons] at h
    cases hx : f x with
    | none => simp [hx] at h
    | some y =>
      cases hl : l.mapM f with
      | none => simp [hx, hl] at h
      | some ys =>
        simp [hx, hl] at h
        subst h
        obtain ⟨h1, h2⟩ := mapM_get hl
        refine ⟨by simp [h1], fun i a hi => ?_⟩
        cases i with
        | zero => simp at hi; subst hi; simpa using hx
        | succ i => simpa using h2 i a (by simpa using hi)

theorem opens_slice {P : Program} {t el : TypeId} {α : Type} {e : α → List AV} {n : Nat} (hu : P.underlying t = some (.slice el)) (hc : P.cellsOf t = 1) (he : Opens P el e n) :
    Opens P t (α := { l : List α // l.length ≤ maxLen }) (fun l => [.imm (l.1.flatMap e) l.1.length n false false]) 1 := by
  refine ⟨hc, by omega, fun _ => rfl, fun enc W fuel cs d ps h => ?_⟩
  cases fuel with
  | zero => simp [DataW.trod] at h
  | succ fuel =>
    unfold DataW.trod at h
    simp only [hu] at h
    split at h
    all_goals first | (rename_i hx; simp at hx; done) | (rename_i hx _; simp at hx; done) | (rename_i hx _ _; simp at hx; done) | skip
    · refine ⟨rfl, ⟨[], by simp⟩, ?_⟩
      simp [RepCs, RepC]
    · rename_i e' a len cap hx
      simp at hx; subst hx
      split at h
      · rename_i hcond
        obtain ⟨hb, hlc, hcm⟩ := hcond
        refine ⟨rfl, ?_⟩
        cases hm : (List.range len).mapM (fun i => (W.cells? 0 (a.add (i * P.cellsOf el)) (P.cellsOf el)).bind (DataW.trod enc P W 0 (fun _ => true) true fuel el)) with
        | none => rw [hm] at h; simp at h
        | some elems =>
          obtain ⟨h1, h2⟩ := mapM_get hm
          rw [he.size] at h2
          have each : ∀ i : Nat, i < len → ∃ x : α, ∃ cs, W.cells? 0 (a.add (i * n)) n = some cs ∧ RepCs (fun k => k < W.heap.size) W (e x) (fun j => cs[j]?) 0 := by
            intro i hi
            have h3 := h2 i i (by simp [hi])
            rw [List.getElem?_eq_getElem (by rw [h1]; simpa using hi)] at h3
            cases hcs : W.cells? 0 (a.add (i * n)) n with
            | none => rw [hcs] at h3; simp at h3
            | some cs =>
              rw [hcs] at h3
              obtain ⟨_, x, hx⟩ := he.read enc W fuel cs _ _ h3
              exact ⟨x, cs, rfl, hx⟩
          have build : ∀ m, m ≤ len → ∃ l : List α, l.length = m ∧ ∀ i x, l[i]? = some x → ∃ cs, W.cells? 0 (a.add (i * n)) n = some cs ∧ RepCs (fun k => k < W.heap.size) W (e x) (fun j => cs[j]?) 0 := by
            intro m
            induction m with
            | zero => intro _; exact ⟨[], rfl, by simp⟩
            | succ m ih =>
              intro hm
              obtain ⟨l, hl, hl2⟩ := ih (by omega)
              obtain ⟨x, cs, hx1, hx2⟩ := each m (by omega)
              refine ⟨l ++ [x], by simp [hl], fun i y hy => ?_⟩
              rw [List.getElem?_append] at hy
              split at hy
              · exact hl2 i y hy
              · have : i = m := by
                  have := (List.getElem?_eq_some_iff.1 hy).1
                  simp at this; omega
                subst this
                simp [hl] at hy; subst hy
                exact ⟨cs, hx1, hx2⟩
          obtain ⟨l, hl, hl2⟩ := build len (Nat.le_refl _)
          refine ⟨⟨l, by omega⟩, ?_⟩
          simp only [RepCs, RepC, and_true]
          refine ⟨_, rfl, ?_, some a, cap, by rw [hl], by omega, by simp, ?_⟩
          · exact flatMap_len he.len l
          · by_cases h0 : l.length = 0
            · exact .inl h0
            · right
              refine ⟨a, rfl, ?_, ?_⟩
              · obtain ⟨x, cs, hx, _⟩ := each 0 (by omega)
                have := World.cells?_block hx he.pos
                rwa [block_add] at this
              · rw [RepCs_iff]
                intro j x hj
                rw [flatMap_get he.pos he.len] at hj
                cases hq : l[j / n]? with
                | none => rw [hq] at hj; simp at hj
                | some y =>
                  rw [hq] at hj
                  simp at hj
                  obtain ⟨cs, hcs, hrep⟩ := hl2 (j / n) y hq
                  rw [RepCs_iff] at hrep
                  obtain ⟨u, hu1, hu2⟩ := hrep (j % n) x hj
                  refine ⟨u, ?_, hu2⟩
                  obtain ⟨_, hlen, hcell⟩ := World.cells?_some hcs
                  have hlt : j % n < n := Nat.mod_lt _ he.pos
                  have := hcell (j % n) hlt
                  rw [Addr.add_add, show j / n * n + j % n = j by rw [Nat.mul_comm]; exact Nat.div_add_mod j n] at this
                  simp only [Nat.zero_add] at hu1 ⊢
                  rw [this]; exact hu1
      · simp at h
    · simp at h
end Gx

namespace Gx
open Go

/- Machine integers that are natural numbers. -/
theorem wrap_u8 (a : Nat) : IntKind.wrap .u8 (a : Int) = ((a % 256 : Nat) : Int) := by rw [IntKind.wrap_u8]; omega
theorem wrap_u32 (a : Nat) (h : a < 4294967296) : IntKind.wrap .u32 (a : Int) = (a : Int) := IntWalk.u32_in _ (by omega)
theorem wrap_u32' (a : Nat) : IntKind.wrap .u32 (a : Int) = ((a % 4294967296 : Nat) : Int) := by rw [IntKind.wrap_u32]; omega
theorem wrap_i64 (a : Int) (h : -9223372036854775808 ≤ a ∧ a ≤ 9223372036854775807) : IntKind.wrap .i64 a = a := IntWalk.i64_in _ h
theorem wrap_u64 (a : Nat) (h : a < 18446744073709551616) : IntKind.wrap .u64 (a : Int) = (a : Int) := IntWalk.u64_in _ (by omega)

theorem ofInt_nat (w a : Nat) : BitVec.ofInt w (a : Int) = BitVec.ofNat w a := by simp
theorem bitXor_nat {k : IntKind} (hs : k.signed = false) {a b : Nat} (ha : a < 2 ^ k.bits) (hb : b < 2 ^ k.bits) : bitXor k a b = ((a ^^^ b : Nat) : Int) := by
  unfold bitXor
  rw [ofInt_nat, ofInt_nat]
  have h1 : (BitVec.ofNat k.bits a ^^^ BitVec.ofNat k.bits b).toNat = a ^^^ b := by
    rw [BitVec.toNat_xor, BitVec.toNat_ofNat, BitVec.toNat_ofNat, Nat.mod_eq_of_lt ha, Nat.mod_eq_of_lt hb]
  rw [h1]
  have h2 : a ^^^ b < 2 ^ k.bits := Nat.xor_lt_two_pow ha hb
  unfold IntKind.wrap
  simp only [hs, Bool.false_and, Bool.false_eq_true, if_false]
  have : (2 ^ k.bits : Int) = ((2 ^ k.bits : Nat) : Int) := by simp
  rw [this, ← Int.natCast_emod, Nat.mod_eq_of_lt h2]
theorem bitAnd_nat {k : IntKind} (hs : k.signed = false) {a b : Nat} (ha : a < 2 ^ k.bits) (hb : b < 2 ^ k.bits) : bitAnd k a b = ((a &&& b : Nat) : Int) := by
  unfold bitAnd
  rw [ofInt_nat, ofInt_nat]
  have h1 : (BitVec.ofNat k.bits a &&& BitVec.ofNat k.bits b).toNat = a &&& b := by
    rw [BitVec.toNat_and, BitVec.toNat_ofNat, BitVec.toNat_ofNat, Nat.mod_eq_of_lt ha, Nat.mod_eq_of_lt hb]
  rw [h1]
  have h2 : a &&& b < 2 ^ k.bits := Nat.and_lt_two_pow _ hb
  unfold IntKind.wrap
  simp only [hs, Bool.false_and, Bool.false_eq_true, if_false]
  have : (2 ^ k.bits : Int) = ((2 ^ k.bits : Nat) : Int) := by simp
  rw [this, ← Int.natCast_emod, Nat.mod_eq_of_lt h2]
theorem bitOr_nat {k : IntKind} (hs : k.signed = false) {a b : Nat} (ha : a < 2 ^ k.bits) (hb : b < 2 ^ k.bits) : bitOr k a b = ((a ||| b : Nat) : Int) := by
  unfold bitOr
  rw [ofInt_nat, ofInt_nat]
  have h1 : (BitVec.ofNat k.bits a ||| BitVec.ofNat k.bits b).toNat = a ||| b := by
    rw [BitVec.toNat_or, BitVec.toNat_ofNat, BitVec.toNat_ofNat, Nat.mod_eq_of_lt ha, Nat.mod_eq_of_lt hb]
  rw [h1]
  have h2 : a ||| b < 2 ^ k.bits := Nat.or_lt_two_pow ha hb
  unfold IntKind.wrap
  simp only [hs, Bool.false_and, Bool.false_eq_true, if_false]
  have : (2 ^ k.bits : Int) = ((2 ^ k.bits : Nat) : Int) := by simp
  rw [this, ← Int.natCast_emod, Nat.mod_eq_of_lt h2]
theorem fdiv_nat (a k : Nat) : Int.fdiv (a : Int) (2 ^ k) = ((a / 2 ^ k : Nat) : Int) := by
  have : (2 ^ k : Int) = ((2 ^ k : Nat) : Int) := by simp
  rw [this, Int.fdiv_eq_ediv_of_nonneg (a : Int) (Int.natCast_nonneg (2 ^ k))]
  rfl

/- Reading cells. -/
theorem rdI_cons {R : Type} {k : IntKind} {n : Int} {r : List AV} {f : Int → Option R} : rdI k (.int k n :: r) f = f n := by simp [rdI, asInt, kindEq]
theorem rdL_cons {R : Type} {c : List AV} {n sz : Nat} {t o : Bool} {r : List AV} {f : List AV → Nat → Option R} : rdL sz (.imm c n sz t o :: r) f = f c n := by simp [rdL, asSl]
theorem bytesAV_length (l : List UInt8) : (bytesAV l).length = l.length := by simp [bytesAV]
theorem bytesAV_drop (l : List UInt8) (n : Nat) : (bytesAV l).drop n = bytesAV (l.drop n) := by simp [bytesAV, List.map_drop]
theorem bytesAV_take (l : List UInt8) (n : Nat) : (bytesAV l).take n = bytesAV (l.take n) := by simp [bytesAV, List.map_take]
theorem bytesAV_append (l m : List UInt8) : bytesAV l ++ bytesAV m = bytesAV (l ++ m) := by simp [bytesAV]
theorem plainZ_bytes : ∀ l : List UInt8, plainZ (bytesAV l) = true
  | [] => rfl
  | b :: r => by show plainZ (.int .u8 _ :: bytesAV r) = true; rw [plainZ]; exact plainZ_bytes r
theorem rdI_bytes {R : Type} {l : List UInt8} {i : Nat} (h : i < l.length) {f : Int → Option R} : rdI .u8 (List.drop i (bytesAV l)) f = f ((l[i].toNat : Nat) : Int) := by
  rw [bytesAV_drop, List.drop_eq_getElem_cons h]
  exact rdI_cons
theorem asBytes_bytes : ∀ l : List UInt8, asBytes (bytesAV l) = some l
  | [] => rfl
  | b :: r => by
    show asBytes (.int .u8 (b.toNat : Int) :: bytesAV r) = _
    rw [asBytes, asBytes_bytes r]
    simp [asByte]
theorem inIdx_nat {i n : Nat} (h : i < n) : inIdx (i : Int) n = true := by simp [inIdx]; omega
end Gx

namespace Gx
open Go Go.RowKit
section
variable {P : Program} {W : World} {H : Type} {enc : TypeId × Value → H} {β : Beta} {h : Heap}

theorem open_sl {t el : TypeId} {α : Type} {e : α → List AV} {n : Nat} {a : Option Addr} {len cap : Nat} {d : DataW H} {p : List MemPlace} (hu : P.underlying t = some (.slice el)) (hc : P.cellsOf t = 1) (he : Opens P el e n)
    (hd : DataW.Trod enc P W 0 (fun _ => true) true t (.slice a len cap) d p) : ∃ l : List α, l.length ≤ maxLen ∧ Rep (fun _ k => k < W.heap.size) β h W (.imm (l.flatMap e) l.length n false false) (.slice a len cap) := by
  obtain ⟨fuel, hf⟩ := hd
  obtain ⟨_, ⟨l, hl⟩, hr⟩ := (opens_slice hu hc he).read enc W fuel _ _ _ hf
  refine ⟨l, hl, ?_⟩
  simp only [RepCs, Value.cells, and_true] at hr
  obtain ⟨u, hu, hr⟩ := hr
  simp at hu; subst hu
  rw [Rep]; exact hr
theorem flat_bytes : ∀ l : List UInt8, l.flatMap (fun b => [AV.int .u8 (b.toNat : Int)]) = bytesAV l
  | [] => rfl
  | b :: r => by rw [List.flatMap_cons, flat_bytes r]; rfl
theorem rep_int {k : IntKind} {n : Int} : Rep (fun _ k => k < W.heap.size) β h W (.int k n) (.int k n) := by rw [Rep]
theorem rep_bool {b : Bool} : Rep (fun _ k => k < W.heap.size) β h W (.bool b) (.bool b) := by rw [Rep]
theorem reps_nil : Reps (fun _ k => k < W.heap.size) β h W [] [] := by rw [Reps]
theorem reps_cons {x : AV} {xs : List AV} {v : Value} {vs : List Value} (h1 : Rep (fun _ k => k < W.heap.size) β h W x v) (h2 : Reps (fun _ k => k < W.heap.size) β h W xs vs) : Reps (fun _ k => k < W.heap.size) β h W (x :: xs) (v :: vs) := by
  rw [Reps]; exact ⟨v, vs, rfl, h1, h2⟩
end
end Gx

namespace Gx
open Go Go.RowKit
theorem opens_array {P : Program} {t el : TypeId} {α : Type} {e : α → List AV} {n m : Nat} (hu : P.underlying t = some (.array m el)) (hc : P.cellsOf t = m * n) (hm : 0 < m) (he : Opens P el e n) :
    Opens P t (α := { l : List α // l.length = m }) (fun l => l.1.flatMap e) (m * n) := by
  refine ⟨hc, Nat.mul_pos hm he.pos, fun l => by rw [flatMap_len he.len, l.2], fun enc W fuel cs d ps h => ?_⟩
  obtain ⟨xs, g, rfl, _, hl, hxs, hget⟩ := DataW.trod_array hu h
  rw [hc] at hl
  refine ⟨hl, ?_⟩
  rw [he.size] at hget
  have each : ∀ i : Nat, i < m → ∃ x : α, RepCs (fun k => k < W.heap.size) W (e x) (fun j => ((cs.drop (i * n)).take n)[j]?) 0 := by
    intro i hi
    have h3 := hget i hi
    rw [List.getElem?_eq_getElem (by omega)] at h3
    obtain ⟨_, x, hx⟩ := he.read enc W g _ _ _ h3
    exact ⟨x, hx⟩
  have build : ∀ q, q ≤ m → ∃ l : List α, l.length = q ∧ ∀ i x, l[i]? = some x → RepCs (fun k => k < W.heap.size) W (e x) (fun j => ((cs.drop (i * n)).take n)[j]?) 0 := by
    intro q
    induction q with
    | zero => intro _; exact ⟨[], rfl, by simp⟩
    | succ q ih =>
      intro hq
      obtain ⟨l, hl, hl2⟩ := ih (by omega)
      obtain ⟨x, hx⟩ := each q (by omega)
      refine ⟨l ++ [x], by simp [hl], fun i y hy => ?_⟩
      rw [List.getElem?_append] at hy
      split at hy
      · exact hl2 i y hy
      · have : i = q := by
          have := (List.getElem?_eq_some_iff.1 hy).1
          simp at this; omega
        subst this
        simp [hl] at hy; subst hy
        exact hx
  obtain ⟨l, hl3, hl2⟩ := build m (Nat.le_refl _)
  refine ⟨⟨l, hl3⟩, ?_⟩
  rw [RepCs_iff]
  intro j x hj
  rw [flatMap_get he.pos he.len] at hj
  cases hq : l[j / n]? with
  | none => rw [hq] at hj; simp at hj
  | some y =>
    rw [hq] at hj
    have h1 := hl2 _ _ hq
    rw [RepCs_iff] at h1
    have h2 := h1 (j % n) x hj
    have hmod := Nat.mod_lt j he.pos
    have hdm := Nat.div_add_mod j n
    simp only [Nat.zero_add] at h2 ⊢
    rw [List.getElem?_take_of_lt hmod, List.getElem?_drop, Nat.mul_comm, hdm] at h2
    exact h2
section
variable {P : Program} {W : World} {H : Type} {enc : TypeId × Value → H} {β : Beta} {h : Heap}
theorem okWide_array {t el : TypeId} {m b0 : Nat} {r : Reach} {v : Value} (hu : P.underlying t = some (.array m el)) (h : Value.okWide P W r b0 t v) : ∃ cs, v = .agg cs := by
  unfold Value.okWide at h
  rw [hu] at h
  obtain ⟨cs, h, _⟩ := h
  exact ⟨cs, h⟩
theorem open_agg {t : TypeId} {α : Type} {e : α → List AV} {n : Nat} {cs : Array Value} {d : DataW H} {p : List MemPlace} (he : Opens P t e n)
    (hd : DataW.Trod enc P W 0 (fun _ => true) true t (.agg cs) d p) : ∃ a : α, Rep (fun _ k => k < W.heap.size) β h W (.pagg (e a) false) (.agg cs) := by
  obtain ⟨fuel, hf⟩ := hd
  obtain ⟨hl, a, hr⟩ := he.read enc W fuel _ _ _ hf
  refine ⟨a, ?_⟩
  rw [Rep]
  exact ⟨cs.toList, rfl, by rw [he.len]; exact hl, hr⟩
end
end Gx

namespace Gx
open Go Go.Proofs

/-- A slice in a cell: nil, or what it holds. -/
inductive Sl (α : Type) where
  | nil
  | of (l : List α) (t o : Bool)
def Sl.l {α : Type} : Sl α → List α
  | .nil => []
  | .of l _ _ => l
def Sl.av {α : Type} (sz : Nat) (e : α → List AV) : Sl α → AV
  | .nil => .nsl
  | .of l t o => .imm (l.flatMap e) l.length sz t o
def intE (n : Int) : List AV := [.int .i64 n]
def ints (l : List Int) : List AV := l.map fun n => .int .i64 n
theorem flat_ints : ∀ l : List Int, l.flatMap intE = ints l
  | [] => rfl
  | a :: r => by rw [List.flatMap_cons, flat_ints r]; rfl
theorem ints_length (l : List Int) : (ints l).length = l.length := by simp [ints]
theorem ints_drop (l : List Int) (n : Nat) : (ints l).drop n = ints (l.drop n) := by simp [ints, List.map_drop]
theorem ints_take (l : List Int) (n : Nat) : (ints l).take n = ints (l.take n) := by simp [ints, List.map_take]
theorem ints_append (l m : List Int) : ints l ++ ints m = ints (l ++ m) := by simp [ints]

structure FracD where
  num : Int
  den : Int
structure BusD where
  name : List UInt8
  demand : Sl Int
  shed : Int
structure LineD where
  name : List UInt8
  fr : Int
  to : Int
  re : FracD
  smin : FracD
  smax : FracD
  limit : Int
  emer : Int
  away : Sl Int
structure SegD where
  width : Int
  price : Int
structure UnitD where
  name : List UInt8
  bus : Int
  min : Int
  max : Int
  segs : Sl SegD
  noLoad : Int
  rampUp : Int
  rampDown : Int
  startRamp : Int
  stopRamp : Int
  upTime : Int
  downTime : Int
  startTime : Int
  hotCost : Int
  coldCost : Int
  hotHours : Int
  reserve : Int
  reservePrice : Int
  away : Sl Int
  state : Int
  hours : Int
  output : Int
structure StoreD where
  name : List UInt8
  bus : Int
  capacity : Int
  initial : Int
  final : Int
  charge : Int
  discharge : Int
  eff : FracD
structure TieD where
  name : List UInt8
  bus : Int
  imp : Sl Int
  exp : Sl Int
  price : Sl Int
structure MoveD where
  unit : Int
  up : Int
  down : Int
structure OutD where
  name : List UInt8
  lines : Sl Int
  corr : Bool
  moves : Sl MoveD
structure CaseD where
  hours : Int
  reserve : Sl Int
  buses : Sl BusD
  lines : Sl LineD
  units : Sl UnitD
  stores : Sl StoreD
  ties : Sl TieD
  outs : Sl OutD

def BusD.av (b : BusD) : List AV := [.str b.name, b.demand.av 1 intE, .int .i64 b.shed]
def LineD.av (b : LineD) : List AV := [.str b.name, .int .i64 b.fr, .int .i64 b.to, .int .i64 b.re.num, .int .i64 b.re.den, .int .i64 b.smin.num, .int .i64 b.smin.den, .int .i64 b.smax.num, .int .i64 b.smax.den, .int .i64 b.limit, .int .i64 b.emer, b.away.av 1 intE]
def SegD.av (s : SegD) : List AV := [.int .i64 s.width, .int .i64 s.price]
def UnitD.av (u : UnitD) : List AV := [.str u.name, .int .i64 u.bus, .int .i64 u.min, .int .i64 u.max, u.segs.av 2 SegD.av, .int .i64 u.noLoad, .int .i64 u.rampUp, .int .i64 u.rampDown, .int .i64 u.startRamp, .int .i64 u.stopRamp, .int .i64 u.upTime, .int .i64 u.downTime, .int .i64 u.startTime, .int .i64 u.hotCost, .int .i64 u.coldCost, .int .i64 u.hotHours, .int .i64 u.reserve, .int .i64 u.reservePrice, u.away.av 1 intE, .int .i64 u.state, .int .i64 u.hours, .int .i64 u.output]
def StoreD.av (s : StoreD) : List AV := [.str s.name, .int .i64 s.bus, .int .i64 s.capacity, .int .i64 s.initial, .int .i64 s.final, .int .i64 s.charge, .int .i64 s.discharge, .int .i64 s.eff.num, .int .i64 s.eff.den]
def TieD.av (t : TieD) : List AV := [.str t.name, .int .i64 t.bus, t.imp.av 1 intE, t.exp.av 1 intE, t.price.av 1 intE]
def MoveD.av (m : MoveD) : List AV := [.int .i64 m.unit, .int .i64 m.up, .int .i64 m.down]
def OutD.av (o : OutD) : List AV := [.str o.name, o.lines.av 1 intE, .bool o.corr, o.moves.av 3 MoveD.av]
def CaseD.av (c : CaseD) : List AV := [.int .i64 c.hours, c.reserve.av 1 intE, c.buses.av 3 BusD.av, c.lines.av 12 LineD.av, c.units.av 22 UnitD.av, c.stores.av 9 StoreD.av, c.ties.av 5 TieD.av, c.outs.av 4 OutD.av]

section
variable {R : Type}
theorem rdL_sl {α : Type} {sz : Nat} {e : α → List AV} {s : Sl α} {r : List AV} {f : List AV → Nat → Option R} : rdL sz (s.av sz e :: r) f = f (s.l.flatMap e) s.l.length := by
  cases s <;> simp [rdL, Sl.av, Sl.l, asSl]
theorem rdS_cons {s : List UInt8} {r : List AV} {f : List UInt8 → Option R} : rdS (.str s :: r) f = f s := by simp [rdS, asStr]
theorem rdB_cons {b : Bool} {r : List AV} {f : Bool → Option R} : rdB (.bool b :: r) f = f b := by simp [rdB, asBool]
theorem nble (a b : Nat) : Nat.ble a b = decide (a ≤ b) := by
  cases h : Nat.ble a b with
  | true => simp at h; simp [h]
  | false => have : ¬ a ≤ b := fun h2 => by rw [Nat.ble_eq_true_of_le h2] at h; cases h
             simp [this]
theorem nbeq (a b : Nat) : Nat.beq a b = decide (a = b) := by
  cases h : Nat.beq a b with
  | true => have := Nat.eq_of_beq_eq_true h; simp [this]
  | false => have : a ≠ b := fun e => by subst e; rw [Nat.beq_refl] at h; cases h
             simp [this]
theorem ct (x y : Option R) : cond true x y = x := rfl
theorem cf (x y : Option R) : cond false x y = y := rfl

/-- An element of a list of structs. -/
theorem drop_flat {α : Type} {e : α → List AV} {sz : Nat} (he : ∀ a, (e a).length = sz) : ∀ (l : List α) (j : Nat) (h : j < l.length), List.drop (j * sz) (l.flatMap e) = e l[j] ++ (l.drop (j + 1)).flatMap e
  | a :: r, 0, _ => by simp
  | a :: r, j + 1, h => by
    have := drop_flat he r j (by simpa using h)
    rw [List.flatMap_cons, List.drop_append, he, show (j + 1) * sz - sz = j * sz by rw [Nat.add_mul]; omega, List.drop_eq_nil_of_le (by rw [he, Nat.add_mul]; omega)]
    simpa using this
theorem rdI_ints {l : List Int} {i : Nat} (h : i < l.length) {f : Int → Option R} : rdI .i64 (List.drop i (ints l)) f = f l[i] := by
  rw [ints, List.drop_eq_getElem_cons (by simpa using h)]; simp [rdI_cons]

/-- The first error, with the part of the case. -/
abbrev Err := Option ((Int × Int × Int) × { e : Int // e ≠ 0 })
def nd (p : Err) (ok : Bool) (w : Int × Int × Int) (e : { e : Int // e ≠ 0 }) : Err := match p with
  | some x => some x
  | none => cond ok none (some (w, e))
theorem nd_true (p : Err) (w : Int × Int × Int) (e : { e : Int // e ≠ 0 }) : nd p true w e = p := by cases p <;> rfl
theorem nd_some (x : (Int × Int × Int) × { e : Int // e ≠ 0 }) (ok : Bool) (w : Int × Int × Int) (e : { e : Int // e ≠ 0 }) : nd (some x) ok w e = some x := rfl
theorem nd_nd (p : Err) (a b : Bool) (w : Int × Int × Int) (e : { e : Int // e ≠ 0 }) : nd (nd p a w e) b w e = nd p (a && b) w e := by cases p <;> cases a <;> cases b <;> rfl

/-- The checker's four cells. -/
def fin4 (p : Err) (k i : Int) : List AV := match p with
  | none => [.int .i64 k, .int .i64 i, .int .i64 0, .int .i64 0]
  | some ((a, b, f), e) => [.int .i64 a, .int .i64 b, .int .i64 f, .int .i64 e.1]
/-- The checker's cells. -/
def stC (c : CaseD) (p : Err) (k i : Int) : List AV := c.av ++ fin4 p k i

theorem ck_at_spec {N : Nat} {c : CaseD} {p : Err} {k i k' i' : Int} {w : Bool} {K : Bool → List AV → Option R} :
    ck_at N k' i' w (stC c p k i) K = K w (stC c p k' i') := by
  rw [ck_at_def]; unfold ck_ati ck_atB
  rcases p with _ | ⟨⟨a, b, f⟩, e, he⟩
  · simp [stC, CaseD.av, fin4, rdI_cons, splice, nble, nbeq]
  · have : (e == 0) = false := by simpa using he
    simp [stC, CaseD.av, fin4, rdI_cons, this]
theorem ck_need_spec {N : Nat} {c : CaseD} {p : Err} {k i f e : Int} {ok w : Bool} {K : Bool → List AV → Option R} (he : e ≠ 0) :
    ck_need N ok f e w (stC c p k i) K = K w (stC c (nd p ok (k, i, f) ⟨e, he⟩) k i) := by
  rw [ck_need_def]; unfold ck_needi ck_needB
  rcases p with _ | ⟨⟨a, b, f'⟩, e', he'⟩
  · cases ok <;> simp [stC, CaseD.av, fin4, rdI_cons, nd, nble, nbeq]
  · have : (e' == 0) = false := by simpa using he'
    simp [stC, CaseD.av, fin4, rdI_cons, nd, this]
def btw (lo hi n : Int) : Bool := decide (lo ≤ n) && decide (n ≤ hi)
theorem ck_within_spec {N : Nat} {c : CaseD} {p : Err} {k i f n lo hi : Int} {w : Bool} {K : Bool → List AV → Option R} :
    ck_within N f n lo hi w (stC c p k i) K = K w (stC c (nd p (btw lo hi n) (k, i, f) ⟨3, by decide⟩) k i) := by
  rw [ck_within_def]; unfold ck_withini ck_withinB
  rw [ck_need_spec (by decide), ck_need_spec (by decide)]
  unfold btw
  cases h : decide (n ≥ lo) with
  | true => simp at h; simp [h]
  | false => simp at h; simp [show ¬ lo ≤ n by omega]
end
end Gx

namespace Gx
open Go Go.Proofs
section
variable {R : Type}

/-- Lists that are not too long. -/
def fits (n N : Nat) : Prop := n < N ∧ n < 4611686018427387904
theorem wrapS {j : Nat} (h : j < 4611686018427387904) : IntKind.wrap .i64 ((j : Int) + 1) = ((j + 1 : Nat) : Int) := by rw [wrap_i64 _ (by omega)]; omega
theorem rd_at {l : List Int} {j : Nat} (h : j < l.length) {f : Int → Option R} : rdI .i64 (List.drop ((Int.toNat (j : Int)) * 1) (ints l)) f = f l[j] := by
  rw [Int.toNat_natCast, Nat.mul_one, rdI_ints h]
theorem ltT {j n : Nat} (h : j < n) : decide ((j : Int) < (n : Int)) = true := by simp; omega
theorem ltF {j n : Nat} (h : n ≤ j) : decide ((j : Int) < (n : Int)) = false := by simp; omega
theorem dropC {α : Type} {l : List α} {j : Nat} (h : j < l.length) : l.drop j = l[j] :: l.drop (j + 1) := List.drop_eq_getElem_cons h
theorem dropN {α : Type} {l : List α} {j : Nat} (h : l.length ≤ j) : l.drop j = [] := List.drop_eq_nil_of_le h

theorem r18_between_loop {N : Nat} {lo hi : Int} {l : List Int} {t o : Bool} {K : Bool → Option R} (hs : l.length < 4611686018427387904) : ∀ (m j fuel : Nat), j + m = l.length → m < fuel →
    r18_between_q0 N K lo hi (ints l) l.length t o fuel (j : Int) = K ((l.drop j).all (btw lo hi))
  | 0, j, fuel + 1, hj, _ => by
    rw [r18_between_q0]; unfold r18_between_q0B
    rw [ltF (by omega), cf, dropN (by omega)]; rfl
  | m + 1, j, fuel + 1, hj, hf => by
    rw [r18_between_q0]; unfold r18_between_q0B
    have h : j < l.length := by omega
    rw [ltT h, ct, inIdx_nat h, ct, rd_at h, ct, rd_at h, wrapS (by omega), r18_between_loop hs m (j + 1) fuel (by omega) (by omega), dropC h, List.all_cons]
    unfold btw
    by_cases h1 : l[j] < lo
    · have : ¬ lo ≤ l[j] := by omega
      simp [h1, this]
    · have : lo ≤ l[j] := by omega
      by_cases h2 : l[j] > hi
      · have : ¬ l[j] ≤ hi := by omega
        simp [h1, h2, this]
      · have h3 : l[j] ≤ hi := by omega
        simp [h1, h2, this, h3]
theorem r18_between_spec {N : Nat} {lo hi : Int} {l : List Int} {n : Nat} {t o : Bool} {K : Bool → Option R} (hn : n = l.length) (hs : fits l.length N) : r18_between N lo hi (ints l) n t o K = K (l.all (btw lo hi)) := by
  subst hn
  rw [r18_between_def]; unfold r18_betweeni r18_betweenB
  have := r18_between_loop (R := R) (N := N) (lo := lo) (hi := hi) (t := t) (o := o) (K := K) hs.2 l.length 0 N (by omega) hs.1
  simpa using this
theorem r18_between_one {N : Nat} {lo hi a : Int} {t o : Bool} {K : Bool → Option R} (hN : 8 ≤ N) : r18_between N lo hi [.int .i64 a] 1 t o K = K (btw lo hi a) := by
  have := r18_between_spec (R := R) (N := N) (lo := lo) (hi := hi) (l := [a]) (t := t) (o := o) (K := K) rfl ⟨by simp; omega, by simp⟩
  simpa [ints] using this
theorem r18_between_two {N : Nat} {lo hi a b : Int} {t o : Bool} {K : Bool → Option R} (hN : 8 ≤ N) : r18_between N lo hi [.int .i64 a, .int .i64 b] 2 t o K = K (btw lo hi a && btw lo hi b) := by
  have := r18_between_spec (R := R) (N := N) (lo := lo) (hi := hi) (l := [a, b]) (t := t) (o := o) (K := K) rfl ⟨by simp; omega, by simp⟩
  simpa [ints] using this

/-- Strictly ascending. -/
def asc : List Int → Bool
  | a :: b :: r => decide (a < b) && asc (b :: r)
  | _ => true
theorem asc_cons2 (a b : Int) (r : List Int) : asc (a :: b :: r) = (decide (a < b) && asc (b :: r)) := by rw [asc]
theorem asc_one (a : Int) : asc [a] = true := by rw [asc]; intros; simp_all
theorem asc_nil : asc [] = true := by rw [asc]; intros; simp_all
theorem wrapP {j : Nat} (h : j + 1 < 4611686018427387904) : IntKind.wrap .i64 (((j + 1 : Nat) : Int) - 1) = (j : Int) := by rw [wrap_i64 _ (by omega)]; omega
theorem r18_rising_loop {N : Nat} {l : List Int} {t o : Bool} {K : Bool → Option R} (hs : l.length < 4611686018427387904) : ∀ (m j fuel : Nat), j + 1 + m = l.length → m < fuel →
    r18_rising_q0 N K (ints l) l.length t o fuel ((j + 1 : Nat) : Int) = K (asc (l.drop j))
  | 0, j, fuel + 1, hj, _ => by
    rw [r18_rising_q0]; unfold r18_rising_q0B
    rw [ltF (by omega), cf, dropC (by omega), dropN (by omega), asc_one]
  | m + 1, j, fuel + 1, hj, hf => by
    rw [r18_rising_q0]; unfold r18_rising_q0B
    have h : j + 1 < l.length := by omega
    have h' : j < l.length := by omega
    rw [ltT h, ct, inIdx_nat h, ct, rd_at h, wrapP (by omega), inIdx_nat h', ct, rd_at h', wrapS (by omega), r18_rising_loop hs m (j + 1) fuel (by omega) (by omega), dropC h', dropC h, asc_cons2]
    by_cases h1 : l[j + 1] ≤ l[j]
    · have : ¬ l[j] < l[j + 1] := by omega
      simp [h1, this]
    · have : l[j] < l[j + 1] := by omega
      simp [h1, this]
theorem r18_rising_spec {N : Nat} {l : List Int} {n : Nat} {t o : Bool} {K : Bool → Option R} (hn : n = l.length) (hs : fits l.length N) : r18_rising N (ints l) n t o K = K (asc l) := by
  subst hn
  rw [r18_rising_def]; unfold r18_risingi r18_risingB
  rcases l with _ | ⟨a, r⟩
  · have hN := hs.1
    rcases N with _ | N
    · simp at hN
    · dsimp only; rw [r18_rising_q0]; unfold r18_rising_q0B; simp [asc_nil]
  · have := r18_rising_loop (R := R) (N := N) (t := t) (o := o) (K := K) hs.2 r.length 0 N (by simp; omega) (by have := hs.1; simp at this; omega)
    simpa using this
theorem cf_ascending_loop {N : Nat} {l : List Int} {t o : Bool} {K : Bool → Option R} (hs : l.length < 4611686018427387904) : ∀ (m j fuel : Nat), j + 1 + m = l.length → m < fuel →
    cf_ascending_q0 N K (ints l) l.length t o fuel ((j + 1 : Nat) : Int) = K (asc (l.drop j))
  | 0, j, fuel + 1, hj, _ => by
    rw [cf_ascending_q0]; unfold cf_ascending_q0B
    rw [ltF (by omega), cf, dropC (by omega), dropN (by omega), asc_one]
  | m + 1, j, fuel + 1, hj, hf => by
    rw [cf_ascending_q0]; unfold cf_ascending_q0B
    have h : j + 1 < l.length := by omega
    have h' : j < l.length := by omega
    rw [ltT h, ct, inIdx_nat h, ct, rd_at h, wrapP (by omega), inIdx_nat h', ct, rd_at h', wrapS (by omega), cf_ascending_loop hs m (j + 1) fuel (by omega) (by omega), dropC h', dropC h, asc_cons2]
    by_cases h1 : l[j + 1] ≤ l[j]
    · have : ¬ l[j] < l[j + 1] := by omega
      simp [h1, this]
    · have : l[j] < l[j + 1] := by omega
      simp [h1, this]
theorem cf_ascending_spec {N : Nat} {l : List Int} {n : Nat} {t o : Bool} {K : Bool → Option R} (hn : n = l.length) (hs : fits l.length N) : cf_ascending N (ints l) n t o K = K (asc l) := by
  subst hn
  rw [cf_ascending_def]; unfold cf_ascendingi cf_ascendingB
  rcases l with _ | ⟨a, r⟩
  · have hN := hs.1
    rcases N with _ | N
    · simp at hN
    · dsimp only; rw [cf_ascending_q0]; unfold cf_ascending_q0B; simp [asc_nil]
  · have := cf_ascending_loop (R := R) (N := N) (t := t) (o := o) (K := K) hs.2 r.length 0 N (by simp; omega) (by have := hs.1; simp at this; omega)
    simpa using this

theorem r18_has_loop {N : Nat} {v : Int} {l : List Int} {t o : Bool} {K : Bool → Option R} (hs : l.length < 4611686018427387904) : ∀ (m j fuel : Nat), j + m = l.length → m < fuel →
    r18_has_q0 N K (ints l) l.length t o v fuel (j : Int) = K ((l.drop j).contains v)
  | 0, j, fuel + 1, hj, _ => by
    rw [r18_has_q0]; unfold r18_has_q0B
    rw [ltF (by omega), cf, dropN (by omega)]; rfl
  | m + 1, j, fuel + 1, hj, hf => by
    rw [r18_has_q0]; unfold r18_has_q0B
    have h : j < l.length := by omega
    rw [ltT h, ct, inIdx_nat h, ct, rd_at h, wrapS (by omega), r18_has_loop hs m (j + 1) fuel (by omega) (by omega), dropC h, List.contains_cons, BEq.comm]
    cases h1 : v == l[j] <;> simp
theorem r18_has_spec {N : Nat} {v : Int} {l : List Int} {n : Nat} {t o : Bool} {K : Bool → Option R} (hn : n = l.length) (hs : fits l.length N) : r18_has N (ints l) n t o v K = K (l.contains v) := by
  subst hn
  rw [r18_has_def]; unfold r18_hasi r18_hasB
  have := r18_has_loop (R := R) (N := N) (v := v) (t := t) (o := o) (K := K) hs.2 l.length 0 N (by omega) hs.1
  simpa using this

theorem index_loop {N : Nat} {v : Int} {l : List Int} {t o : Bool} {K : Int → Option R} (hs : l.length < 4611686018427387904) : ∀ (m j fuel : Nat), j + m = l.length → m < fuel →
    ∃ r : Int, (decide (r ≥ 0) = (l.drop j).contains v) ∧ slices_Index__int_int_q0 N K (ints l) l.length t o v fuel (l.length : Int) (j : Int) = K r
  | 0, j, fuel + 1, hj, _ => by
    rw [slices_Index__int_int_q0]; unfold slices_Index__int_int_q0B
    rw [ltF (by omega), cf, dropN (by omega)]; exact ⟨-1, by simp, rfl⟩
  | m + 1, j, fuel + 1, hj, hf => by
    rw [slices_Index__int_int_q0]; unfold slices_Index__int_int_q0B
    have h : j < l.length := by omega
    rw [ltT h, ct, inIdx_nat h, ct, rd_at h, wrapS (by omega), dropC h, List.contains_cons]
    cases h1 : v == l[j] with
    | true => exact ⟨j, by simp, rfl⟩
    | false => simpa using index_loop hs m (j + 1) fuel (by omega) (by omega)
theorem contains_spec {N : Nat} {v : Int} {l : List Int} {n : Nat} {t o : Bool} {K : Bool → Option R} (hn : n = l.length) (hs : fits l.length N) : slices_Contains__int_int N (ints l) n t o v K = K (l.contains v) := by
  subst hn
  rw [slices_Contains__int_int_def]; unfold slices_Contains__int_inti slices_Contains__int_intB
  rw [slices_Index__int_int_def]; unfold slices_Index__int_inti slices_Index__int_intB
  obtain ⟨r, h1, h2⟩ := index_loop (R := R) (N := N) (v := v) (t := false) (o := o) (K := fun y1 => K (decide (y1 ≥ 0))) hs.2 l.length 0 N (by omega) hs.1
  simp only [List.drop_zero] at h1
  rw [← h1]
  simpa using h2
theorem contains_nil {N : Nat} {v : Int} {K : Option R} (hN : 8 ≤ N) : slices_Contains__int_int_v2 N v K = K := by
  rw [slices_Contains__int_int_v2_def]; unfold slices_Contains__int_int_v2i slices_Contains__int_int_v2B
  rw [slices_Index__int_int_v2_def]; unfold slices_Index__int_int_v2i slices_Index__int_int_v2B
  rcases N with _ | N
  · omega
  · rw [slices_Index__int_int_v2_q0]; unfold slices_Index__int_int_v2_q0B; rfl

theorem r17_Ints_loop {N : Nat} {l m2 : List Int} {t o t' o' : Bool} {K : Bool → Option R} (hs : l.length < 4611686018427387904) (he : m2.length = l.length) : ∀ (m j fuel : Nat), j + m = l.length → m < fuel →
    r17_Ints_q0 N K (ints l) l.length t o (ints m2) l.length t' o' fuel (j : Int) = K (decide (l.drop j = m2.drop j))
  | 0, j, fuel + 1, hj, _ => by
    rw [r17_Ints_q0]; unfold r17_Ints_q0B
    rw [ltF (by omega), cf, dropN (by omega), dropN (by omega)]; rfl
  | m + 1, j, fuel + 1, hj, hf => by
    rw [r17_Ints_q0]; unfold r17_Ints_q0B
    have h : j < l.length := by omega
    have h' : j < m2.length := by omega
    rw [ltT h, ct, inIdx_nat h, ct, rd_at h, ct, rd_at h', wrapS (by omega), r17_Ints_loop hs he m (j + 1) fuel (by omega) (by omega), dropC h, dropC h']
    by_cases h1 : l[j] = m2[j]
    · simp only [h1, bne_self_eq_false, cond_false, List.cons.injEq, true_and]
    · have h2 : (l[j] != m2[j]) = true := by simpa using h1
      simp only [h2, cond_true, List.cons.injEq, h1, false_and, decide_false]
theorem r17_Ints_spec {N : Nat} {l m2 : List Int} {n n' : Nat} {t o t' o' : Bool} {K : Bool → Option R} (hn : n = l.length) (hn' : n' = m2.length) (hs : fits l.length N) : r17_Ints N (ints l) n t o (ints m2) n' t' o' K = K (decide (l = m2)) := by
  subst hn hn'
  rw [r17_Ints_def]; unfold r17_Intsi r17_IntsB
  by_cases he : l.length = m2.length
  · have := r17_Ints_loop (R := R) (N := N) (l := l) (m2 := m2) (t := t) (o := o) (t' := t') (o' := o') (K := K) hs.2 he.symm l.length 0 N (by omega) hs.1
    simp only [he] at this ⊢
    simpa using this
  · have : l ≠ m2 := fun e => he (by rw [e])
    have h2 : ((l.length : Int) != (m2.length : Int)) = true := by simp; omega
    rw [h2]; simp [this]
theorem r18_Ints_spec {N : Nat} {l m2 : List Int} {n n' : Nat} {t o t' o' : Bool} {K : Bool → Option R} (hn : n = l.length) (hn' : n' = m2.length) (hs : fits l.length N) : r18_Ints N (ints l) n t o (ints m2) n' t' o' K = K (decide (l = m2)) := by
  rw [r18_Ints_def]; unfold r18_Intsi r18_IntsB
  exact r17_Ints_spec hn hn' hs
end
end Gx

namespace Gx
open Go Go.Proofs
section
variable {R : Type}

def errOf : Err → Int
  | none => 0
  | some x => x.2.1
theorem rd_err {c : CaseD} {p : Err} {k i : Int} {f : Int → Option R} : rdI .i64 (List.drop 11 (stC c p k i)) f = f (errOf p) := by
  rcases p with _ | ⟨⟨a, b, f'⟩, e, he⟩ <;> simp [stC, CaseD.av, fin4, rdI_cons, errOf]
theorem rd_idx {c : CaseD} {k i : Int} {f : Int → Option R} : rdI .i64 (List.drop 9 (stC c none k i)) f = f i := by simp [stC, CaseD.av, fin4, rdI_cons]
theorem rd_hours {c : CaseD} {p : Err} {k i : Int} {f : Int → Option R} : rdI .i64 (stC c p k i) f = f c.hours := by simp [stC, CaseD.av, rdI_cons]
theorem rd_reserve {c : CaseD} {p : Err} {k i : Int} {f : List AV → Nat → Option R} : rdL 1 (List.drop 1 (stC c p k i)) f = f (ints c.reserve.l) c.reserve.l.length := by simp [stC, CaseD.av, rdL_sl, flat_ints]
theorem rd_buses {c : CaseD} {p : Err} {k i : Int} {f : List AV → Nat → Option R} : rdL 3 (List.drop 2 (stC c p k i)) f = f (c.buses.l.flatMap BusD.av) c.buses.l.length := by simp [stC, CaseD.av, rdL_sl]
theorem rd_lines {c : CaseD} {p : Err} {k i : Int} {f : List AV → Nat → Option R} : rdL 12 (List.drop 3 (stC c p k i)) f = f (c.lines.l.flatMap LineD.av) c.lines.l.length := by simp [stC, CaseD.av, rdL_sl]
theorem rd_units {c : CaseD} {p : Err} {k i : Int} {f : List AV → Nat → Option R} : rdL 22 (List.drop 4 (stC c p k i)) f = f (c.units.l.flatMap UnitD.av) c.units.l.length := by simp [stC, CaseD.av, rdL_sl]
theorem rd_stores {c : CaseD} {p : Err} {k i : Int} {f : List AV → Nat → Option R} : rdL 9 (List.drop 5 (stC c p k i)) f = f (c.stores.l.flatMap StoreD.av) c.stores.l.length := by simp [stC, CaseD.av, rdL_sl]
theorem rd_ties {c : CaseD} {p : Err} {k i : Int} {f : List AV → Nat → Option R} : rdL 5 (List.drop 6 (stC c p k i)) f = f (c.ties.l.flatMap TieD.av) c.ties.l.length := by simp [stC, CaseD.av, rdL_sl]
theorem rd_outs {c : CaseD} {p : Err} {k i : Int} {f : List AV → Nat → Option R} : rdL 4 (List.drop 7 (stC c p k i)) f = f (c.outs.l.flatMap OutD.av) c.outs.l.length := by simp [stC, CaseD.av, rdL_sl]
theorem ca_hours {c : CaseD} {f : Int → Option R} : rdI .i64 c.av f = f c.hours := by simp [CaseD.av, rdI_cons]
theorem ca_reserve {c : CaseD} {f : List AV → Nat → Option R} : rdL 1 (List.drop 1 c.av) f = f (ints c.reserve.l) c.reserve.l.length := by simp [CaseD.av, rdL_sl, flat_ints]
theorem ca_buses {c : CaseD} {f : List AV → Nat → Option R} : rdL 3 (List.drop 2 c.av) f = f (c.buses.l.flatMap BusD.av) c.buses.l.length := by simp [CaseD.av, rdL_sl]
theorem ca_lines {c : CaseD} {f : List AV → Nat → Option R} : rdL 12 (List.drop 3 c.av) f = f (c.lines.l.flatMap LineD.av) c.lines.l.length := by simp [CaseD.av, rdL_sl]
theorem ca_units {c : CaseD} {f : List AV → Nat → Option R} : rdL 22 (List.drop 4 c.av) f = f (c.units.l.flatMap UnitD.av) c.units.l.length := by simp [CaseD.av, rdL_sl]
theorem ca_stores {c : CaseD} {f : List AV → Nat → Option R} : rdL 9 (List.drop 5 c.av) f = f (c.stores.l.flatMap StoreD.av) c.stores.l.length := by simp [CaseD.av, rdL_sl]
theorem ca_ties {c : CaseD} {f : List AV → Nat → Option R} : rdL 5 (List.drop 6 c.av) f = f (c.ties.l.flatMap TieD.av) c.ties.l.length := by simp [CaseD.av, rdL_sl]
theorem ca_outs {c : CaseD} {f : List AV → Nat → Option R} : rdL 4 (List.drop 7 c.av) f = f (c.outs.l.flatMap OutD.av) c.outs.l.length := by simp [CaseD.av, rdL_sl]

/- The finding. -/
def fst4 (p : Err) : List AV := fin4 p 0 0
theorem fi_need_spec {N : Nat} {p : Err} {k i f e : Int} {ok : Bool} {K : List AV → Option R} (he : e ≠ 0) :
    fi_need N ok k i f e (fst4 p) K = K (fst4 (nd p ok (k, i, f) ⟨e, he⟩)) := by
  rw [fi_need_def]; unfold fi_needi fi_needB fi_need_q0 fi_need_q0B
  rcases p with _ | ⟨⟨a, b, f'⟩, e', he'⟩
  · cases ok <;> simp [fst4, fin4, rdI_cons, nd, nble, nbeq, splice]
  · have : (e' == 0) = false := by simpa using he'
    simp [fst4, fin4, rdI_cons, nd, this]

/- Lists of numbers. -/
def hourS (h : Int) (l : List Int) (lo hi : Int) (w : Int × Int × Int) (p : Err) : Err := nd (nd p ((l.length : Int) == h) w ⟨4, by decide⟩) (l.all (btw lo hi)) w ⟨3, by decide⟩
def awayS (h : Int) (l : List Int) (w : Int × Int × Int) (p : Err) : Err := nd (nd p (l.all (btw 0 (IntKind.wrap .i64 (h - 1)))) w ⟨3, by decide⟩) (asc l) w ⟨11, by decide⟩
theorem ck_hourly_loop {N : Nat} {c : CaseD} {k i f lo hi : Int} {l : List Int} {t o w : Bool} {K : Bool → List AV → Option R} (hs : l.length < 4611686018427387904) : ∀ (m j fuel : Nat) (p : Err), j + m = l.length → m < fuel →
    ck_hourly_q0 N K f lo hi (ints l) l.length t o fuel (l.length : Int) (j : Int) w (stC c p k i) = K w (stC c (nd p ((l.drop j).all (btw lo hi)) (k, i, f) ⟨3, by decide⟩) k i)
  | 0, j, fuel + 1, p, hj, _ => by
    rw [ck_hourly_q0]; unfold ck_hourly_q0B
    rw [ltF (by omega), cf, dropN (by omega), List.all_nil, nd_true]
  | m + 1, j, fuel + 1, p, hj, hf => by
    rw [ck_hourly_q0]; unfold ck_hourly_q0B
    have h : j < l.length := by omega
    rw [ltT h, ct, inIdx_nat h, ct, rd_at h, rd_err, ck_within_spec, wrapS (by omega), ck_hourly_loop hs m (j + 1) fuel _ (by omega) (by omega), dropC h, List.all_cons, nd_nd]
    rcases p with _ | ⟨x, e, he⟩
    · simp [errOf]
    · have : (e != 0) = true := by simpa using he
      simp [errOf, this, nd]
theorem ck_hourly_spec {N : Nat} {c : CaseD} {p : Err} {k i f lo hi : Int} {l : List Int} {n : Nat} {t o w : Bool} {K : Bool → List AV → Option R} (hn : n = l.length) (hs : fits l.length N) :
    ck_hourly N f (ints l) n t o lo hi w (stC c p k i) K = K w (stC c (hourS c.hours l lo hi (k, i, f) p) k i) := by
  subst hn
  rw [ck_hourly_def]; unfold ck_hourlyi ck_hourlyB
  rw [rd_hours, ck_need_spec (by decide)]
  have := ck_hourly_loop (R := R) (N := N) (c := c) (k := k) (i := i) (f := f) (lo := lo) (hi := hi) (t := t) (o := o) (w := w) (K := K) hs.2 l.length 0 N (nd p ((l.length : Int) == c.hours) (k, i, f) ⟨4, by decide⟩) (by omega) hs.1
  simpa [hourS] using this
theorem fi_hourly_spec {N : Nat} {c : CaseD} {p : Err} {k i f lo hi : Int} {l : List Int} {n : Nat} {t o o1 : Bool} {K : List AV → Option R} (hn : n = l.length) (hs : fits l.length N) :
    fi_hourly N c.av o1 (ints l) n t o lo hi k i f (fst4 p) K = K (fst4 (hourS c.hours l lo hi (k, i, f) p)) := by
  rw [fi_hourly_def]; unfold fi_hourlyi fi_hourlyB
  rw [ca_hours, fi_need_spec (by decide), r18_between_spec hn hs, fi_need_spec (by decide), hn]; rfl
theorem ck_away_loop {N : Nat} {c : CaseD} {k i f : Int} {l : List Int} {t o w w0 : Bool} {h0 : List AV} {K : Bool → List AV → Option R} (hs : fits l.length N) : ∀ (m j fuel : Nat) (p : Err), j + m = l.length → m < fuel →
    ck_away_q0 N K f (ints l) l.length t o w0 h0 fuel (l.length : Int) (j : Int) w (stC c p k i) = K w (stC c (nd (nd p ((l.drop j).all (btw 0 (IntKind.wrap .i64 (c.hours - 1)))) (k, i, f) ⟨3, by decide⟩) (asc l) (k, i, f) ⟨11, by decide⟩) k i)
  | 0, j, fuel + 1, p, hj, _ => by
    rw [ck_away_q0]; unfold ck_away_q0B
    rw [ltF (by omega), cf, dropN (by omega), List.all_nil, nd_true, cf_ascending_spec rfl hs, ck_need_spec (by decide)]
  | m + 1, j, fuel + 1, p, hj, hf => by
    rw [ck_away_q0]; unfold ck_away_q0B
    have h : j < l.length := by omega
    have hs2 := hs.2
    rw [ltT h, ct, inIdx_nat h, ct, rd_at h, rd_err, rd_hours, ck_within_spec, wrapS (by omega), ck_away_loop hs m (j + 1) fuel _ (by omega) (by omega), dropC h, List.all_cons, nd_nd]
    rcases p with _ | ⟨x, e, he⟩
    · simp [errOf]
    · have : (e != 0) = true := by simpa using he
      simp [errOf, this, nd]
theorem ck_away_spec {N : Nat} {c : CaseD} {p : Err} {k i f : Int} {l : List Int} {n : Nat} {t o w : Bool} {K : Bool → List AV → Option R} (hn : n = l.length) (hs : fits l.length N) :
    ck_away N f (ints l) n t o w (stC c p k i) K = K w (stC c (awayS c.hours l (k, i, f) p) k i) := by
  subst hn
  rw [ck_away_def]; unfold ck_awayi ck_awayB
  have := ck_away_loop (R := R) (N := N) (c := c) (k := k) (i := i) (f := f) (t := t) (o := o) (w := w) (w0 := w) (h0 := stC c p k i) (K := K) hs l.length 0 N p (by omega) hs.1
  simpa [awayS] using this
theorem fi_away_spec {N : Nat} {c : CaseD} {p : Err} {k i f : Int} {l : List Int} {n : Nat} {t o o1 : Bool} {K : List AV → Option R} (hn : n = l.length) (hs : fits l.length N) :
    fi_away N c.av o1 (ints l) n t o k i f (fst4 p) K = K (fst4 (awayS c.hours l (k, i, f) p)) := by
  rw [fi_away_def]; unfold fi_awayi fi_awayB
  rw [ca_hours, r18_between_spec hn hs, fi_need_spec (by decide), r18_rising_spec hn hs, fi_need_spec (by decide)]; rfl

def busOk (c : CaseD) (b : Int) : Bool := decide (0 ≤ b) && decide (b < (c.buses.l.length : Int))
theorem ck_bus_spec {N : Nat} {c : CaseD} {p : Err} {k i f b : Int} {w : Bool} {K : Bool → List AV → Option R} :
    ck_bus N f b w (stC c p k i) K = K w (stC c (nd p (busOk c b) (k, i, f) ⟨12, by decide⟩) k i) := by
  rw [ck_bus_def]; unfold ck_busi ck_busB
  rw [rd_buses, ck_need_spec (by decide), ck_need_spec (by decide)]
  unfold busOk
  cases h : decide (b ≥ 0) with
  | true => simp at h; simp [h]
  | false => simp at h; simp [show ¬ 0 ≤ b by omega]
theorem btw_lt (n : Nat) (b : Int) (h : n < 4611686018427387904) : btw 0 (IntKind.wrap .i64 ((n : Int) - 1)) b = (decide (0 ≤ b) && decide (b < (n : Int))) := by
  rw [wrap_i64 _ (by omega), btw]
  congr 1
  simp; omega
theorem fi_bus_spec {N : Nat} {c : CaseD} {p : Err} {k i f b : Int} {o1 : Bool} {K : List AV → Option R} (hN : 8 ≤ N) (hb : c.buses.l.length < 4611686018427387904) :
    fi_bus N c.av o1 b k i f (fst4 p) K = K (fst4 (nd p (busOk c b) (k, i, f) ⟨12, by decide⟩)) := by
  rw [fi_bus_def]; unfold fi_busi fi_busB
  rw [ca_buses, r18_between_one hN, btw_lt _ _ hb, fi_need_spec (by decide)]; rfl
def fracOk (f : FracD) : Bool := btw 1 1048576 f.den && btw (-1048576) 1048576 f.num
theorem cf_valid_spec {N : Nat} {f : FracD} {o : Bool} {K : Bool → Option R} : cf_valid N [.int .i64 f.num, .int .i64 f.den] o K = K (fracOk f) := by
  rw [cf_valid_def]; unfold cf_validi cf_validB
  simp only [List.drop_succ_cons, List.drop_zero, rdI_cons]
  unfold fracOk btw
  by_cases h1 : 1 ≤ f.den <;> by_cases h2 : f.den ≤ 1048576 <;> by_cases h3 : -1048576 ≤ f.num <;> simp [h1, h2, h3]
theorem r18_fraction_spec {N : Nat} {f : FracD} {o : Bool} {K : Bool → Option R} (hN : 8 ≤ N) : r18_fraction N [.int .i64 f.num, .int .i64 f.den] o K = K (fracOk f) := by
  rw [r18_fraction_def]; unfold r18_fractioni r18_fractionB
  simp only [List.drop_succ_cons, List.drop_zero, rdI_cons, r18_between_one hN]
  unfold fracOk
  cases btw 1 1048576 f.den <;> simp

/- Names. -/
def letter (c : UInt8) : Bool := decide (97 ≤ c.toNat) && decide (c.toNat ≤ 122)
def chOk (c : UInt8) : Bool := letter c || (decide (48 ≤ c.toNat) && decide (c.toNat ≤ 57)) || decide (c.toNat = 95)
def nameOk (s : List UInt8) : Bool := decide (1 ≤ s.length) && (decide (s.length ≤ 16) && (!(s == [99, 111, 114, 114, 101, 99, 116, 105, 118, 101]) && (letter (s.getD 0 0) && s.all chOk)))
theorem getD_at {s : List UInt8} {j : Nat} (h : j < s.length) : List.getD s (Int.toNat (j : Int)) 0 = s[j] := by
  rw [Int.toNat_natCast, List.getD_eq_getElem?_getD, List.getElem?_eq_getElem h]; rfl
theorem ct_Name_loop {N : Nat} {s : List UInt8} {K : Bool → Option R} (hs : s.length < 4611686018427387904) : ∀ (m j fuel : Nat), j + m = s.length → m < fuel →
    ct_Name_q1 N K s fuel (s.length : Int) (j : Int) = K ((s.drop j).all chOk)
  | 0, j, fuel + 1, hj, _ => by
    rw [ct_Name_q1]; unfold ct_Name_q1B
    rw [ltF (by omega), cf, dropN (by omega)]; rfl
  | m + 1, j, fuel + 1, hj, hf => by
    rw [ct_Name_q1]; unfold ct_Name_q1B
    have h : j < s.length := by omega
    rw [ltT h, ct, inIdx_nat h, ct, wrapS (by omega), ct_Name_loop hs m (j + 1) fuel (by omega) (by omega), dropC h, List.all_cons, getD_at h]
    unfold chOk letter
    generalize s[j].toNat = v
    generalize (s.drop (j + 1)).all _ = r
    by_cases h1 : 97 ≤ v <;> by_cases h2 : v ≤ 122 <;> by_cases h3 : 48 ≤ v <;> by_cases h4 : v ≤ 57 <;> by_cases h5 : v = 95 <;>
      simp [h1, h2, h3, h4, show ((v : Int) < 97) ↔ ¬ 97 ≤ v by omega, show ((v : Int) < 48) ↔ ¬ 48 ≤ v by omega, show ((122 : Int) < v) ↔ ¬ v ≤ 122 by omega, show ((57 : Int) < v) ↔ ¬ v ≤ 57 by omega, show ((v : Int) != 95) = !decide (v = 95) by (by_cases v = 95 <;> simp_all <;> omega), h5]
theorem ct_Name_spec {N : Nat} {s : List UInt8} {K : Bool → Option R} (hN : 64 ≤ N) : ct_Name N s K = K (nameOk s) := by
  rw [ct_Name_def]; unfold ct_Namei ct_NameB ct_Name_q0 ct_Name_q0B
  dsimp only
  unfold nameOk
  by_cases h1 : 1 ≤ s.length
  · by_cases h2 : s.length ≤ 16
    · have hl := ct_Name_loop (R := R) (N := N) (s := s) (K := K) (by omega) s.length 0 N (by omega) (by omega)
      simp only [List.drop_zero, Int.natCast_zero] at hl
      rw [hl]
      have h0 : inIdx 0 s.length = true := inIdx_nat (i := 0) (by omega)
      rw [h0]
      simp only [h1, h2, show (decide ((s.length : Int) < 1)) = false by simp; omega, show (decide ((s.length : Int) > 16)) = false by simp; omega, decide_true, cond_true, cond_false, beq_self_eq_true]
      cases s == [99, 111, 114, 114, 101, 99, 116, 105, 118, 101]
      · unfold letter
        generalize (List.getD s 0 0).toNat = v
        by_cases h3 : 97 ≤ v <;> by_cases h4 : v ≤ 122 <;> simp [h3, h4, show ((v : Int) < 97) ↔ ¬ 97 ≤ v by omega, show ((122 : Int) < v) ↔ ¬ v ≤ 122 by omega]
      · simp
    · simp [h1, h2, show ((s.length : Int) < 1) ↔ ¬ 1 ≤ s.length by omega, show ((16 : Int) < s.length) ↔ ¬ s.length ≤ 16 by omega]
  · simp [h1, show ((s.length : Int) < 1) ↔ ¬ 1 ≤ s.length by omega]
theorem r17_Name_loop {N : Nat} {s : List UInt8} {K : Bool → Option R} (hs : s.length < 4611686018427387904) : ∀ (m j fuel : Nat), j + m = s.length → m < fuel →
    r17_Name_q1 N K s fuel (j : Int) = K ((decide (j ≠ 0) || (decide (s.length = 0) || letter (s.getD 0 0))) && (s.drop j).all chOk)
  | 0, j, fuel + 1, hj, _ => by
    rw [r17_Name_q1]; unfold r17_Name_q1B
    rw [ltF (by omega), cf, dropN (by omega)]
    by_cases h : j = 0
    · have : s.length = 0 := by omega
      simp [this]
    · simp [h]
  | m + 1, j, fuel + 1, hj, hf => by
    rw [r17_Name_q1]; unfold r17_Name_q1B r17_Name_q2 r17_Name_q2B
    dsimp only
    have h : j < s.length := by omega
    rw [ltT h, ct, inIdx_nat h, ct, wrapS (by omega), r17_Name_loop hs m (j + 1) fuel (by omega) (by omega), dropC h, List.all_cons, getD_at h]
    have hd : j = 0 → s.getD 0 0 = s[j] := fun e => by
      have := getD_at h; rw [← this, e]; rfl
    unfold chOk letter
    by_cases hj0 : j = 0
    · rw [hd hj0]
      have hne : decide (s.length = 0) = false := decide_eq_false (by omega)
      have e : ((j : Int) == 0) = true := by simp; omega
      simp only [ct, e, hj0, ne_eq, not_true_eq_false, decide_false, Bool.false_or, hne, Nat.zero_add, show decide (¬ (1 = 0)) = true by decide, Bool.true_or, Bool.true_and]
      simp only [hj0] at *
      generalize s[0].toNat = v
      by_cases h1 : 97 ≤ v <;> by_cases h2 : v ≤ 122 <;> simp [h1, h2, show ((97 : Int) ≤ v) ↔ 97 ≤ v by omega, show ((v : Int) ≤ 122) ↔ v ≤ 122 by omega]
    · have e : ((j : Int) == 0) = false := by simp; omega
      simp only [ct, e, hj0, ne_eq, not_false_eq_true, decide_true, Bool.true_or, Bool.true_and, show decide (¬ (j + 1 = 0)) = true by simp]
      generalize s[j].toNat = v
      generalize (s.drop (j + 1)).all _ = r
      by_cases h1 : 97 ≤ v <;> by_cases h2 : v ≤ 122 <;> by_cases h3 : 48 ≤ v <;> by_cases h4 : v ≤ 57 <;> by_cases h5 : v = 95 <;>
        simp [h1, h2, h3, h4, show ((97 : Int) ≤ v) ↔ 97 ≤ v by omega, show ((v : Int) ≤ 122) ↔ v ≤ 122 by omega, show ((v : Int) < 48) ↔ ¬ 48 ≤ v by omega, show ((57 : Int) < v) ↔ ¬ v ≤ 57 by omega, show ((v : Int) != 95) = !decide (v = 95) by (by_cases v = 95 <;> simp_all <;> omega), h5]
theorem r17_Name_spec {N : Nat} {s : List UInt8} {K : Bool → Option R} (hN : 64 ≤ N) : r17_Name N s K = K (nameOk s) := by
  rw [r17_Name_def]; unfold r17_Namei r17_NameB r17_Name_q0 r17_Name_q0B
  dsimp only
  unfold nameOk
  by_cases h1 : 1 ≤ s.length
  · by_cases h2 : s.length ≤ 16
    · have hl := r17_Name_loop (R := R) (N := N) (s := s) (K := K) (by omega) s.length 0 N (by omega) (by omega)
      simp only [List.drop_zero, Int.natCast_zero] at hl
      rw [hl]
      simp only [h1, h2, show (decide ((s.length : Int) < 1)) = false by simp; omega, show (decide ((s.length : Int) > 16)) = false by simp; omega, decide_true, cond_true, cond_false, beq_self_eq_true]
      have : s.length ≠ 0 := by omega
      cases s == [99, 111, 114, 114, 101, 99, 116, 105, 118, 101] <;> simp [this]
    · simp [h1, h2, show ((s.length : Int) < 1) ↔ ¬ 1 ≤ s.length by omega, show ((16 : Int) < s.length) ↔ ¬ s.length ≤ 16 by omega]
  · simp [h1, show ((s.length : Int) < 1) ↔ ¬ 1 ≤ s.length by omega]
end
end Gx

namespace Gx
open Go Go.Proofs
section
variable {R : Type}
/-- The check of a name. -/
def nameS (names : List (List UInt8)) (k i : Int) (s : List UInt8) (p : Err) : Err := nd (nd p (nameOk s) (k, i, 0) ⟨9, by decide⟩) (names.all fun x => !(x == s)) (k, i, 0) ⟨10, by decide⟩
theorem nameS_some {names : List (List UInt8)} {k i : Int} {s : List UInt8} {x : (Int × Int × Int) × { e : Int // e ≠ 0 }} : nameS names k i s (some x) = some x := rfl
theorem BusD_len (a : BusD) : a.av.length = 3 := rfl
theorem ck_buses_c1_spec {N : Nat} {c : CaseD} {p : Err} {k i : Int} {w : Bool} {j : Nat} {K : List UInt8 → Option R} (h : j < c.buses.l.length) : ck_buses_c1 N (j : Int) w (stC c p k i) K = K c.buses.l[j].name := by
  rw [ck_buses_c1_def]; unfold ck_buses_c1i ck_buses_c1B
  rw [rd_buses, inIdx_nat h, ct, Int.toNat_natCast, drop_flat BusD_len _ _ h]
  simp [BusD.av, rdS_cons]
theorem ck_name_loop {N : Nat} {c : CaseD} {k i : Int} {s : List UInt8} {w : Bool} {K : Bool → List AV → Option R} {n : Nat} (hn : n ≤ c.buses.l.length) (hs : n < 4611686018427387904) : ∀ (m j fuel : Nat) (p : Err), j + m = n → m < fuel →
    ck_name_q0 N K s (n : Int) fuel (j : Int) w (stC c p k i) = K w (stC c (nd p ((((c.buses.l.map (·.name)).take n).drop j).all fun x => !(x == s)) (k, i, 0) ⟨10, by decide⟩) k i)
  | 0, j, fuel + 1, p, hj, _ => by
    rw [ck_name_q0]; unfold ck_name_q0B
    rw [ltF (by omega), cf, dropN (by simp; omega), List.all_nil, nd_true]
  | m + 1, j, fuel + 1, p, hj, hf => by
    rw [ck_name_q0]; unfold ck_name_q0B
    have h : j < c.buses.l.length := by omega
    have h2 : j < ((c.buses.l.map (·.name)).take n).length := by simp; omega
    rw [ltT (by omega), ct, rd_err, ck_buses_c1_spec h, ck_need_spec (by decide), wrapS (by omega), ck_name_loop hn hs m (j + 1) fuel _ (by omega) (by omega), dropC h2, List.all_cons, nd_nd]
    have e : ((c.buses.l.map (·.name)).take n)[j] = c.buses.l[j].name := by simp
    rw [e]
    rcases p with _ | ⟨x, e', he⟩
    · simp [errOf]
    · have : (e' != 0) = true := by simpa using he
      simp [errOf, this, nd]
theorem ck_name_spec {N : Nat} {c : CaseD} {p : Err} {k : Int} {n : Nat} {s : List UInt8} {w : Bool} {K : Bool → List AV → Option R} (hN : 64 ≤ N) (hn : n ≤ c.buses.l.length) (hs : fits n N) :
    ck_name N s w (stC c p k (n : Int)) K = K w (stC c (nameS ((c.buses.l.map (·.name)).take n) k n s p) k n) := by
  rw [ck_name_def]; unfold ck_namei ck_nameB
  rw [ct_Name_spec hN, ck_need_spec (by decide)]
  unfold nameS
  cases hp : nd p (nameOk s) (k, (n : Int), 0) ⟨9, by decide⟩ with
  | none =>
    rw [rd_idx]
    have := ck_name_loop (R := R) (N := N) (c := c) (k := k) (i := n) (s := s) (w := w) (K := K) hn hs.2 n 0 N none (by omega) hs.1
    simpa using this
  | some x =>
    obtain ⟨⟨a, b, f⟩, e, he⟩ := x
    have hb : ∀ g : Int → Option R, rdI .i64 (List.drop 9 (stC c (some ((a, b, f), ⟨e, he⟩)) k n)) g = g b := by intro g; simp [stC, CaseD.av, fin4, rdI_cons]
    rw [hb, nd_some]
    rcases N with _ | N
    · omega
    · dsimp only
      rw [ck_name_q0]; unfold ck_name_q0B
      rw [rd_err]
      have : (e != 0) = true := by simpa using he
      cases decide (0 < b) <;> simp [errOf, this]
theorem LineD_len (a : LineD) : a.av.length = 12 := rfl
theorem ck_lines_c1_spec {N : Nat} {c : CaseD} {p : Err} {k i : Int} {w : Bool} {j : Nat} {K : List UInt8 → Option R} (h : j < c.lines.l.length) : ck_lines_c1 N (j : Int) w (stC c p k i) K = K c.lines.l[j].name := by
  rw [ck_lines_c1_def]; unfold ck_lines_c1i ck_lines_c1B
  rw [rd_lines, inIdx_nat h, ct, Int.toNat_natCast, drop_flat LineD_len _ _ h]
  simp [LineD.av, rdS_cons]
theorem ck_name_v2_loop {N : Nat} {c : CaseD} {k i : Int} {s : List UInt8} {w : Bool} {K : Bool → List AV → Option R} {n : Nat} (hn : n ≤ c.lines.l.length) (hs : n < 4611686018427387904) : ∀ (m j fuel : Nat) (p : Err), j + m = n → m < fuel →
    ck_name_v2_q0 N K s (n : Int) fuel (j : Int) w (stC c p k i) = K w (stC c (nd p ((((c.lines.l.map (·.name)).take n).drop j).all fun x => !(x == s)) (k, i, 0) ⟨10, by decide⟩) k i)
  | 0, j, fuel + 1, p, hj, _ => by
    rw [ck_name_v2_q0]; unfold ck_name_v2_q0B
    rw [ltF (by omega), cf, dropN (by simp; omega), List.all_nil, nd_true]
  | m + 1, j, fuel + 1, p, hj, hf => by
    rw [ck_name_v2_q0]; unfold ck_name_v2_q0B
    have h : j < c.lines.l.length := by omega
    have h2 : j < ((c.lines.l.map (·.name)).take n).length := by simp; omega
    rw [ltT (by omega), ct, rd_err, ck_lines_c1_spec h, ck_need_spec (by decide), wrapS (by omega), ck_name_v2_loop hn hs m (j + 1) fuel _ (by omega) (by omega), dropC h2, List.all_cons, nd_nd]
    have e : ((c.lines.l.map (·.name)).take n)[j] = c.lines.l[j].name := by simp
    rw [e]
    rcases p with _ | ⟨x, e', he⟩
    · simp [errOf]
    · have : (e' != 0) = true := by simpa using he
      simp [errOf, this, nd]
theorem ck_name_v2_spec {N : Nat} {c : CaseD} {p : Err} {k : Int} {n : Nat} {s : List UInt8} {w : Bool} {K : Bool → List AV → Option R} (hN : 64 ≤ N) (hn : n ≤ c.lines.l.length) (hs : fits n N) :
    ck_name_v2 N s w (stC c p k (n : Int)) K = K w (stC c (nameS ((c.lines.l.map (·.name)).take n) k n s p) k n) := by
  rw [ck_name_v2_def]; unfold ck_name_v2i ck_name_v2B
  rw [ct_Name_spec hN, ck_need_spec (by decide)]
  unfold nameS
  cases hp : nd p (nameOk s) (k, (n : Int), 0) ⟨9, by decide⟩ with
  | none =>
    rw [rd_idx]
    have := ck_name_v2_loop (R := R) (N := N) (c := c) (k := k) (i := n) (s := s) (w := w) (K := K) hn hs.2 n 0 N none (by omega) hs.1
    simpa using this
  | some x =>
    obtain ⟨⟨a, b, f⟩, e, he⟩ := x
    have hb : ∀ g : Int → Option R, rdI .i64 (List.drop 9 (stC c (some ((a, b, f), ⟨e, he⟩)) k n)) g = g b := by intro g; simp [stC, CaseD.av, fin4, rdI_cons]
    rw [hb, nd_some]
    rcases N with _ | N
    · omega
    · dsimp only
      rw [ck_name_v2_q0]; unfold ck_name_v2_q0B
      rw [rd_err]
      have : (e != 0) = true := by simpa using he
      cases decide (0 < b) <;> simp [errOf, this]
theorem UnitD_len (a : UnitD) : a.av.length = 22 := rfl
theorem ck_units_c1_spec {N : Nat} {c : CaseD} {p : Err} {k i : Int} {w : Bool} {j : Nat} {K : List UInt8 → Option R} (h : j < c.units.l.length) : ck_units_c1 N (j : Int) w (stC c p k i) K = K c.units.l[j].name := by
  rw [ck_units_c1_def]; unfold ck_units_c1i ck_units_c1B
  rw [rd_units, inIdx_nat h, ct, Int.toNat_natCast, drop_flat UnitD_len _ _ h]
  simp [UnitD.av, rdS_cons]
theorem ck_name_v3_loop {N : Nat} {c : CaseD} {k i : Int} {s : List UInt8} {w : Bool} {K : Bool → List AV → Option R} {n : Nat} (hn : n ≤ c.units.l.length) (hs : n < 4611686018427387904) : ∀ (m j fuel : Nat) (p : Err), j + m = n → m < fuel →
    ck_name_v3_q0 N K s (n : Int) fuel (j : Int) w (stC c p k i) = K w (stC c (nd p ((((c.units.l.map (·.name)).take n).drop j).all fun x => !(x == s)) (k, i, 0) ⟨10, by decide⟩) k i)
  | 0, j, fuel + 1, p, hj, _ => by
    rw [ck_name_v3_q0]; unfold ck_name_v3_q0B
    rw [ltF (by omega), cf, dropN (by simp; omega), List.all_nil, nd_true]
  | m + 1, j, fuel + 1, p, hj, hf => by
    rw [ck_name_v3_q0]; unfold ck_name_v3_q0B
    have h : j < c.units.l.length := by omega
    have h2 : j < ((c.units.l.map (·.name)).take n).length := by simp; omega
    rw [ltT (by omega), ct, rd_err, ck_units_c1_spec h, ck_need_spec (by decide), wrapS (by omega), ck_name_v3_loop hn hs m (j + 1) fuel _ (by omega) (by omega), dropC h2, List.all_cons, nd_nd]
    have e : ((c.units.l.map (·.name)).take n)[j] = c.units.l[j].name := by simp
    rw [e]
    rcases p with _ | ⟨x, e', he⟩
    · simp [errOf]
    · have : (e' != 0) = true := by simpa using he
      simp [errOf, this, nd]
theorem ck_name_v3_spec {N : Nat} {c : CaseD} {p : Err} {k : Int} {n : Nat} {s : List UInt8} {w : Bool} {K : Bool → List AV → Option R} (hN : 64 ≤ N) (hn : n ≤ c.units.l.length) (hs : fits n N) :
    ck_name_v3 N s w (stC c p k (n : Int)) K = K w (stC c (nameS ((c.units.l.map (·.name)).take n) k n s p) k n) := by
  rw [ck_name_v3_def]; unfold ck_name_v3i ck_name_v3B
  rw [ct_Name_spec hN, ck_need_spec (by decide)]
  unfold nameS
  cases hp : nd p (nameOk s) (k, (n : Int), 0) ⟨9, by decide⟩ with
  | none =>
    rw [rd_idx]
    have := ck_name_v3_loop (R := R) (N := N) (c := c) (k := k) (i := n) (s := s) (w := w) (K := K) hn hs.2 n 0 N none (by omega) hs.1
    simpa using this
  | some x =>
    obtain ⟨⟨a, b, f⟩, e, he⟩ := x
    have hb : ∀ g : Int → Option R, rdI .i64 (List.drop 9 (stC c (some ((a, b, f), ⟨e, he⟩)) k n)) g = g b := by intro g; simp [stC, CaseD.av, fin4, rdI_cons]
    rw [hb, nd_some]
    rcases N with _ | N
    · omega
    · dsimp only
      rw [ck_name_v3_q0]; unfold ck_name_v3_q0B
      rw [rd_err]
      have : (e != 0) = true := by simpa using he
      cases decide (0 < b) <;> simp [errOf, this]
theorem StoreD_len (a : StoreD) : a.av.length = 9 := rfl
theorem ck_stores_c1_spec {N : Nat} {c : CaseD} {p : Err} {k i : Int} {w : Bool} {j : Nat} {K : List UInt8 → Option R} (h : j < c.stores.l.length) : ck_stores_c1 N (j : Int) w (stC c p k i) K = K c.stores.l[j].name := by
  rw [ck_stores_c1_def]; unfold ck_stores_c1i ck_stores_c1B
  rw [rd_stores, inIdx_nat h, ct, Int.toNat_natCast, drop_flat StoreD_len _ _ h]
  simp [StoreD.av, rdS_cons]
theorem ck_name_v4_loop {N : Nat} {c : CaseD} {k i : Int} {s : List UInt8} {w : Bool} {K : Bool → List AV → Option R} {n : Nat} (hn : n ≤ c.stores.l.length) (hs : n < 4611686018427387904) : ∀ (m j fuel : Nat) (p : Err), j + m = n → m < fuel →
    ck_name_v4_q0 N K s (n : Int) fuel (j : Int) w (stC c p k i) = K w (stC c (nd p ((((c.stores.l.map (·.name)).take n).drop j).all fun x => !(x == s)) (k, i, 0) ⟨10, by decide⟩) k i)
  | 0, j, fuel + 1, p, hj, _ => by
    rw [ck_name_v4_q0]; unfold ck_name_v4_q0B
    rw [ltF (by omega), cf, dropN (by simp; omega), List.all_nil, nd_true]
  | m + 1, j, fuel + 1, p, hj, hf => by
    rw [ck_name_v4_q0]; unfold ck_name_v4_q0B
    have h : j < c.stores.l.length := by omega
    have h2 : j < ((c.stores.l.map (·.name)).take n).length := by simp; omega
    rw [ltT (by omega), ct, rd_err, ck_stores_c1_spec h, ck_need_spec (by decide), wrapS (by omega), ck_name_v4_loop hn hs m (j + 1) fuel _ (by omega) (by omega), dropC h2, List.all_cons, nd_nd]
    have e : ((c.stores.l.map (·.name)).take n)[j] = c.stores.l[j].name := by simp
    rw [e]
    rcases p with _ | ⟨x, e', he⟩
    · simp [errOf]
    · have : (e' != 0) = true := by simpa using he
      simp [errOf, this, nd]
theorem ck_name_v4_spec {N : Nat} {c : CaseD} {p : Err} {k : Int} {n : Nat} {s : List UInt8} {w : Bool} {K : Bool → List AV → Option R} (hN : 64 ≤ N) (hn : n ≤ c.stores.l.length) (hs : fits n N) :
    ck_name_v4 N s w (stC c p k (n : Int)) K = K w (stC c (nameS ((c.stores.l.map (·.name)).take n) k n s p) k n) := by
  rw [ck_name_v4_def]; unfold ck_name_v4i ck_name_v4B
  rw [ct_Name_spec hN, ck_need_spec (by decide)]
  unfold nameS
  cases hp : nd p (nameOk s) (k, (n : Int), 0) ⟨9, by decide⟩ with
  | none =>
    rw [rd_idx]
    have := ck_name_v4_loop (R := R) (N := N) (c := c) (k := k) (i := n) (s := s) (w := w) (K := K) hn hs.2 n 0 N none (by omega) hs.1
    simpa using this
  | some x =>
    obtain ⟨⟨a, b, f⟩, e, he⟩ := x
    have hb : ∀ g : Int → Option R, rdI .i64 (List.drop 9 (stC c (some ((a, b, f), ⟨e, he⟩)) k n)) g = g b := by intro g; simp [stC, CaseD.av, fin4, rdI_cons]
    rw [hb, nd_some]
    rcases N with _ | N
    · omega
    · dsimp only
      rw [ck_name_v4_q0]; unfold ck_name_v4_q0B
      rw [rd_err]
      have : (e != 0) = true := by simpa using he
      cases decide (0 < b) <;> simp [errOf, this]
theorem TieD_len (a : TieD) : a.av.length = 5 := rfl
theorem ck_ties_c1_spec {N : Nat} {c : CaseD} {p : Err} {k i : Int} {w : Bool} {j : Nat} {K : List UInt8 → Option R} (h : j < c.ties.l.length) : ck_ties_c1 N (j : Int) w (stC c p k i) K = K c.ties.l[j].name := by
  rw [ck_ties_c1_def]; unfold ck_ties_c1i ck_ties_c1B
  rw [rd_ties, inIdx_nat h, ct, Int.toNat_natCast, drop_flat TieD_len _ _ h]
  simp [TieD.av, rdS_cons]
theorem ck_name_v5_loop {N : Nat} {c : CaseD} {k i : Int} {s : List UInt8} {w : Bool} {K : Bool → List AV → Option R} {n : Nat} (hn : n ≤ c.ties.l.length) (hs : n < 4611686018427387904) : ∀ (m j fuel : Nat) (p : Err), j + m = n → m < fuel →
    ck_name_v5_q0 N K s (n : Int) fuel (j : Int) w (stC c p k i) = K w (stC c (nd p ((((c.ties.l.map (·.name)).take n).drop j).all fun x => !(x == s)) (k, i, 0) ⟨10, by decide⟩) k i)
  | 0, j, fuel + 1, p, hj, _ => by
    rw [ck_name_v5_q0]; unfold ck_name_v5_q0B
    rw [ltF (by omega), cf, dropN (by simp; omega), List.all_nil, nd_true]
  | m + 1, j, fuel + 1, p, hj, hf => by
    rw [ck_name_v5_q0]; unfold ck_name_v5_q0B
    have h : j < c.ties.l.length := by omega
    have h2 : j < ((c.ties.l.map (·.name)).take n).length := by simp; omega
    rw [ltT (by omega), ct, rd_err, ck_ties_c1_spec h, ck_need_spec (by decide), wrapS (by omega), ck_name_v5_loop hn hs m (j + 1) fuel _ (by omega) (by omega), dropC h2, List.all_cons, nd_nd]
    have e : ((c.ties.l.map (·.name)).take n)[j] = c.ties.l[j].name := by simp
    rw [e]
    rcases p with _ | ⟨x, e', he⟩
    · simp [errOf]
    · have : (e' != 0) = true := by simpa using he
      simp [errOf, this, nd]
theorem ck_name_v5_spec {N : Nat} {c : CaseD} {p : Err} {k : Int} {n : Nat} {s : List UInt8} {w : Bool} {K : Bool → List AV → Option R} (hN : 64 ≤ N) (hn : n ≤ c.ties.l.length) (hs : fits n N) :
    ck_name_v5 N s w (stC c p k (n : Int)) K = K w (stC c (nameS ((c.ties.l.map (·.name)).take n) k n s p) k n) := by
  rw [ck_name_v5_def]; unfold ck_name_v5i ck_name_v5B
  rw [ct_Name_spec hN, ck_need_spec (by decide)]
  unfold nameS
  cases hp : nd p (nameOk s) (k, (n : Int), 0) ⟨9, by decide⟩ with
  | none =>
    rw [rd_idx]
    have := ck_name_v5_loop (R := R) (N := N) (c := c) (k := k) (i := n) (s := s) (w := w) (K := K) hn hs.2 n 0 N none (by omega) hs.1
    simpa using this
  | some x =>
    obtain ⟨⟨a, b, f⟩, e, he⟩ := x
    have hb : ∀ g : Int → Option R, rdI .i64 (List.drop 9 (stC c (some ((a, b, f), ⟨e, he⟩)) k n)) g = g b := by intro g; simp [stC, CaseD.av, fin4, rdI_cons]
    rw [hb, nd_some]
    rcases N with _ | N
    · omega
    · dsimp only
      rw [ck_name_v5_q0]; unfold ck_name_v5_q0B
      rw [rd_err]
      have : (e != 0) = true := by simpa using he
      cases decide (0 < b) <;> simp [errOf, this]
theorem OutD_len (a : OutD) : a.av.length = 4 := rfl
theorem ck_outages_c1_spec {N : Nat} {c : CaseD} {p : Err} {k i : Int} {w : Bool} {j : Nat} {K : List UInt8 → Option R} (h : j < c.outs.l.length) : ck_outages_c1 N (j : Int) w (stC c p k i) K = K c.outs.l[j].name := by
  rw [ck_outages_c1_def]; unfold ck_outages_c1i ck_outages_c1B
  rw [rd_outs, inIdx_nat h, ct, Int.toNat_natCast, drop_flat OutD_len _ _ h]
  simp [OutD.av, rdS_cons]
theorem ck_name_v6_loop {N : Nat} {c : CaseD} {k i : Int} {s : List UInt8} {w : Bool} {K : Bool → List AV → Option R} {n : Nat} (hn : n ≤ c.outs.l.length) (hs : n < 4611686018427387904) : ∀ (m j fuel : Nat) (p : Err), j + m = n → m < fuel →
    ck_name_v6_q0 N K s (n : Int) fuel (j : Int) w (stC c p k i) = K w (stC c (nd p ((((c.outs.l.map (·.name)).take n).drop j).all fun x => !(x == s)) (k, i, 0) ⟨10, by decide⟩) k i)
  | 0, j, fuel + 1, p, hj, _ => by
    rw [ck_name_v6_q0]; unfold ck_name_v6_q0B
    rw [ltF (by omega), cf, dropN (by simp; omega), List.all_nil, nd_true]
  | m + 1, j, fuel + 1, p, hj, hf => by
    rw [ck_name_v6_q0]; unfold ck_name_v6_q0B
    have h : j < c.outs.l.length := by omega
    have h2 : j < ((c.outs.l.map (·.name)).take n).length := by simp; omega
    rw [ltT (by omega), ct, rd_err, ck_outages_c1_spec h, ck_need_spec (by decide), wrapS (by omega), ck_name_v6_loop hn hs m (j + 1) fuel _ (by omega) (by omega), dropC h2, List.all_cons, nd_nd]
    have e : ((c.outs.l.map (·.name)).take n)[j] = c.outs.l[j].name := by simp
    rw [e]
    rcases p with _ | ⟨x, e', he⟩
    · simp [errOf]
    · have : (e' != 0) = true := by simpa using he
      simp [errOf, this, nd]
theorem ck_name_v6_spec {N : Nat} {c : CaseD} {p : Err} {k : Int} {n : Nat} {s : List UInt8} {w : Bool} {K : Bool → List AV → Option R} (hN : 64 ≤ N) (hn : n ≤ c.outs.l.length) (hs : fits n N) :
    ck_name_v6 N s w (stC c p k (n : Int)) K = K w (stC c (nameS ((c.outs.l.map (·.name)).take n) k n s p) k n) := by
  rw [ck_name_v6_def]; unfold ck_name_v6i ck_name_v6B
  rw [ct_Name_spec hN, ck_need_spec (by decide)]
  unfold nameS
  cases hp : nd p (nameOk s) (k, (n : Int), 0) ⟨9, by decide⟩ with
  | none =>
    rw [rd_idx]
    have := ck_name_v6_loop (R := R) (N := N) (c := c) (k := k) (i := n) (s := s) (w := w) (K := K) hn hs.2 n 0 N none (by omega) hs.1
    simpa using this
  | some x =>
    obtain ⟨⟨a, b, f⟩, e, he⟩ := x
    have hb : ∀ g : Int → Option R, rdI .i64 (List.drop 9 (stC c (some ((a, b, f), ⟨e, he⟩)) k n)) g = g b := by intro g; simp [stC, CaseD.av, fin4, rdI_cons]
    rw [hb, nd_some]
    rcases N with _ | N
    · omega
    · dsimp only
      rw [ck_name_v6_q0]; unfold ck_name_v6_q0B
      rw [rd_err]
      have : (e != 0) = true := by simpa using he
      cases decide (0 < b) <;> simp [errOf, this]
end
end Gx

namespace Gx
open Go Go.Proofs
section
variable {R : Type}

/-- A case whose lists are not too long. -/
structure Small (c : CaseD) (N : Nat) : Prop where
  n64 : 64 ≤ N
  res : fits c.reserve.l.length N
  bus : fits c.buses.l.length N
  lin : fits c.lines.l.length N
  uni : fits c.units.l.length N
  sto : fits c.stores.l.length N
  tie : fits c.ties.l.length N
  out : fits c.outs.l.length N
  dem : ∀ b ∈ c.buses.l, fits b.demand.l.length N
  law : ∀ b ∈ c.lines.l, fits b.away.l.length N
  seg : ∀ b ∈ c.units.l, fits b.segs.l.length N
  uaw : ∀ b ∈ c.units.l, fits b.away.l.length N
  tim : ∀ b ∈ c.ties.l, fits b.imp.l.length N
  tex : ∀ b ∈ c.ties.l, fits b.exp.l.length N
  tpr : ∀ b ∈ c.ties.l, fits b.price.l.length N
  oli : ∀ b ∈ c.outs.l, fits b.lines.l.length N
  omo : ∀ b ∈ c.outs.l, fits b.moves.l.length N
  omb : ∀ b ∈ c.outs.l, b.moves.l.length < 8796093022208
  top : c.buses.l.length ≤ 1000000 ∧ c.lines.l.length ≤ 1000000 ∧ c.units.l.length ≤ 1000000 ∧ c.stores.l.length ≤ 1000000 ∧ c.ties.l.length ≤ 1000000 ∧ c.outs.l.length ≤ 1000000

/-- A check of the elements of a list, one after the other. -/
def loopS {α : Type} (f : Nat → α → Err → Err) : List α → Nat → Err → Err
  | [], _, p => p
  | a :: r, j, p => loopS f r (j + 1) (f j a p)
theorem loopS_some {α : Type} {f : Nat → α → Err → Err} {x : (Int × Int × Int) × { e : Int // e ≠ 0 }} (hf : ∀ j a, f j a (some x) = some x) : ∀ (l : List α) (j : Nat), loopS f l j (some x) = some x
  | [], _ => rfl
  | a :: r, j => by rw [loopS, hf]; exact loopS_some hf r (j + 1)

abbrev e1 : { e : Int // e ≠ 0 } := ⟨1, by decide⟩
abbrev e3 : { e : Int // e ≠ 0 } := ⟨3, by decide⟩
abbrev e4 : { e : Int // e ≠ 0 } := ⟨4, by decide⟩
abbrev e8 : { e : Int // e ≠ 0 } := ⟨8, by decide⟩
abbrev e11 : { e : Int // e ≠ 0 } := ⟨11, by decide⟩
abbrev e12 : { e : Int // e ≠ 0 } := ⟨12, by decide⟩
abbrev e13 : { e : Int // e ≠ 0 } := ⟨13, by decide⟩
abbrev e16 : { e : Int // e ≠ 0 } := ⟨16, by decide⟩

def wholeS (c : CaseD) (p : Err) : Err :=
  let p := nd p (btw 1 24 c.hours) (0, 0, 0) e3
  let p := hourS c.hours c.reserve.l 0 1048576 (0, 0, 1) p
  let p := nd p (btw 1 32 (c.buses.l.length : Int)) (0, 0, 2) e8
  let p := nd p (decide ((c.lines.l.length : Int) ≤ 64)) (0, 0, 3) e8
  let p := nd p (decide ((c.units.l.length : Int) ≤ 16)) (0, 0, 4) e8
  let p := nd p (decide ((c.stores.l.length : Int) ≤ 8)) (0, 0, 5) e8
  let p := nd p (decide ((c.ties.l.length : Int) ≤ 8)) (0, 0, 6) e8
  nd p (decide ((c.outs.l.length : Int) ≤ 64)) (0, 0, 7) e8
theorem ck_whole_spec {N : Nat} {c : CaseD} {p : Err} {k i : Int} {w : Bool} {K : Bool → List AV → Option R} (hs : Small c N) : ck_whole N w (stC c p k i) K = K w (stC c (wholeS c p) 0 0) := by
  rw [ck_whole_def]; unfold ck_wholei ck_wholeB ck_whole_q0 ck_whole_q0B
  simp only [ck_at_spec, rd_hours, ck_within_spec, rd_reserve, ck_hourly_spec rfl hs.res, rd_buses, rd_lines, rd_units, rd_stores, rd_ties, rd_outs, ck_need_spec (show (8 : Int) ≠ 0 by decide)]
  unfold wholeS
  cases h : decide (((c.buses.l.length : Nat) : Int) ≥ 1) with
  | true => simp only [beq_self_eq_true, cond_true]; simp only [btw]; simp at h; simp [show (1 : Int) ≤ (c.buses.l.length : Int) by omega]
  | false => simp only [btw]; simp at h; simp [show ¬ ((1 : Int) ≤ (c.buses.l.length : Int)) by simp; omega]

def busS (c : CaseD) (j : Nat) (b : BusD) (p : Err) : Err :=
  let p := nameS ((c.buses.l.map (·.name)).take j) 1 j b.name p
  let p := hourS c.hours b.demand.l 0 1048576 (1, j, 1) p
  nd p (btw 0 1048576 b.shed) (1, j, 2) e3
def lineS (c : CaseD) (j : Nat) (x : LineD) (p : Err) : Err :=
  let p := nameS ((c.lines.l.map (·.name)).take j) 2 j x.name p
  let p := nd p (busOk c x.fr) (2, j, 1) e12
  let p := nd p (busOk c x.to) (2, j, 2) e12
  let p := nd p (x.to != x.fr) (2, j, 2) e1
  let p := nd p (fracOk x.re && decide (x.re.num > 0)) (2, j, 3) e3
  let p := nd p (fracOk x.smin && decide (x.smin.num ≤ 0)) (2, j, 4) e3
  let p := nd p (fracOk x.smax && decide (x.smax.num ≥ 0)) (2, j, 5) e3
  let p := nd p (btw 0 1048576 x.limit) (2, j, 6) e3
  let p := nd p (btw x.limit 1048576 x.emer) (2, j, 7) e3
  awayS c.hours x.away.l (2, j, 8) p
def storeS (c : CaseD) (j : Nat) (x : StoreD) (p : Err) : Err :=
  let p := nameS ((c.stores.l.map (·.name)).take j) 4 j x.name p
  let p := nd p (busOk c x.bus) (4, j, 1) e12
  let p := nd p (btw 0 1048576 x.capacity) (4, j, 2) e3
  let p := nd p (btw 0 x.capacity x.initial) (4, j, 3) e3
  let p := nd p (btw 0 x.capacity x.final) (4, j, 4) e3
  let p := nd p (btw 0 1048576 x.charge) (4, j, 5) e3
  let p := nd p (btw 0 1048576 x.discharge) (4, j, 6) e3
  nd p (fracOk x.eff && (decide (x.eff.num > 0) && decide (x.eff.num ≤ x.eff.den))) (4, j, 7) e3
def tieS (c : CaseD) (j : Nat) (x : TieD) (p : Err) : Err :=
  let p := nameS ((c.ties.l.map (·.name)).take j) 5 j x.name p
  let p := nd p (busOk c x.bus) (5, j, 1) e12
  let p := hourS c.hours x.imp.l 0 1048576 (5, j, 2) p
  let p := hourS c.hours x.exp.l 0 1048576 (5, j, 3) p
  hourS c.hours x.price.l (-1048576) 1048576 (5, j, 4) p
theorem ck_buses_loop {N : Nat} {c : CaseD} {w w0 : Bool} (hs : Small c N) : ∀ (m j fuel : Nat) (p : Err) (k i : Int), j + m = c.buses.l.length → m < fuel →
    ∃ k' i' : Int, ∀ K : Bool → List AV → Option R, ck_buses_q0 N K (c.buses.l.flatMap BusD.av) c.buses.l.length w0 fuel (c.buses.l.length : Int) (j : Int) w (stC c p k i) = K w (stC c (loopS (busS c) (c.buses.l.drop j) j p) k' i')
  | 0, j, fuel + 1, p, k, i, hj, _ => by
    refine ⟨k, i, fun K => ?_⟩
    rw [ck_buses_q0]; unfold ck_buses_q0B
    rw [ltF (by omega), cf, dropN (by omega), loopS]
  | m + 1, j, fuel + 1, p, k, i, hj, hf => by
    have h : j < c.buses.l.length := by omega
    have hN := hs.n64
    have hfit := hs.bus
    obtain ⟨k', i', ih⟩ := ck_buses_loop (w := w) (w0 := w0) hs m (j + 1) fuel (busS c j c.buses.l[j] p) 1 j (by omega) (by omega)
    refine ⟨k', i', fun K => ?_⟩
    rw [ck_buses_q0]; unfold ck_buses_q0B 
    rw [ltT h, ct, inIdx_nat h, ct, Int.toNat_natCast, drop_flat BusD_len _ _ h, dropC h, loopS, ← ih K]
    have hm : c.buses.l[j] ∈ c.buses.l := List.getElem_mem h
    have hd := hs.dem _ hm
    have hnm := @ck_name_spec R N c
    generalize c.buses.l[j] = b at *
    have b1 : Nat.ble 3 (List.length (b.av ++ List.flatMap BusD.av (List.drop (j + 1) c.buses.l))) = true := by rw [nble, List.length_append, BusD_len]; simp
    have b2 : List.take 3 (b.av ++ List.flatMap BusD.av (List.drop (j + 1) c.buses.l)) = b.av := List.take_left' (BusD_len b)
    rw [b1, ct, b2, BusD_len]
    simp only [BusD.av, List.drop_succ_cons, List.drop_zero, rdS_cons, rdI_cons, rdL_sl, flat_ints, nbeq, decide_true, Bool.and_true, cond_true, ck_at_spec, wrapS (show j < 4611686018427387904 by have := hfit.2; omega)]
    simp only [hnm hN (show j ≤ _ by omega) ⟨by have := hfit.1; omega, by have := hfit.2; omega⟩, ck_hourly_spec rfl hd, ck_within_spec]
    rfl
theorem ck_buses_spec {N : Nat} {c : CaseD} {p : Err} {k i : Int} {w : Bool} (hs : Small c N) : ∃ k' i' : Int, ∀ K : Bool → List AV → Option R, ck_buses N w (stC c p k i) K = K w (stC c (loopS (busS c) c.buses.l 0 p) k' i') := by
  obtain ⟨k', i', h⟩ := ck_buses_loop (R := R) (w := w) (w0 := w) hs c.buses.l.length 0 N p k i (by omega) hs.bus.1
  refine ⟨k', i', fun K => ?_⟩
  rw [ck_buses_def]; unfold ck_busesi ck_busesB
  rw [rd_buses]
  simpa using h K
theorem ck_lines_loop {N : Nat} {c : CaseD} {w w0 : Bool} {h0 : List AV} (hs : Small c N) : ∀ (m j fuel : Nat) (p : Err) (k i : Int), j + m = c.lines.l.length → m < fuel →
    ∃ k' i' : Int, ∀ K : Bool → List AV → Option R, ck_lines_q0 N K (c.lines.l.flatMap LineD.av) c.lines.l.length w0 h0 fuel (c.lines.l.length : Int) (j : Int) w (stC c p k i) = K w (stC c (loopS (lineS c) (c.lines.l.drop j) j p) k' i')
  | 0, j, fuel + 1, p, k, i, hj, _ => by
    refine ⟨k, i, fun K => ?_⟩
    rw [ck_lines_q0]; unfold ck_lines_q0B
    rw [ltF (by omega), cf, dropN (by omega), loopS]
  | m + 1, j, fuel + 1, p, k, i, hj, hf => by
    have h : j < c.lines.l.length := by omega
    have hN := hs.n64
    have hfit := hs.lin
    obtain ⟨k', i', ih⟩ := ck_lines_loop (w := w) (w0 := w0) (h0 := h0) hs m (j + 1) fuel (lineS c j c.lines.l[j] p) 2 j (by omega) (by omega)
    refine ⟨k', i', fun K => ?_⟩
    rw [ck_lines_q0]; unfold ck_lines_q0B ck_lines_q1 ck_lines_q1B ck_lines_q2 ck_lines_q2B ck_lines_q3 ck_lines_q3B
    rw [ltT h, ct, inIdx_nat h, ct, Int.toNat_natCast, drop_flat LineD_len _ _ h, dropC h, loopS, ← ih K]
    have hm : c.lines.l[j] ∈ c.lines.l := List.getElem_mem h
    have hd := hs.law _ hm
    have hnm := @ck_name_v2_spec R N c
    generalize c.lines.l[j] = b at *
    have b1 : Nat.ble 12 (List.length (b.av ++ List.flatMap LineD.av (List.drop (j + 1) c.lines.l))) = true := by rw [nble, List.length_append, LineD_len]; simp
    have b2 : List.take 12 (b.av ++ List.flatMap LineD.av (List.drop (j + 1) c.lines.l)) = b.av := List.take_left' (LineD_len b)
    rw [b1, ct, b2, LineD_len]
    simp only [LineD.av, List.drop_succ_cons, List.drop_zero, List.take_succ_cons, List.take_zero, List.length_cons, List.length_nil, rdS_cons, rdI_cons, rdL_sl, flat_ints, nble, nbeq, plainZ, Nat.reduceAdd, Nat.reduceLeDiff, decide_true, Bool.and_true, Bool.or_true, cond_true, Nat.zero_add, ck_at_spec, wrapS (show j < 4611686018427387904 by have := hfit.2; omega)]
    simp only [hnm hN (show j ≤ _ by omega) ⟨by have := hfit.1; omega, by have := hfit.2; omega⟩, ck_bus_spec, ck_within_spec, ck_away_spec rfl hd, cf_valid_spec, ck_need_spec (show (1 : Int) ≠ 0 by decide), ck_need_spec (show (3 : Int) ≠ 0 by decide)]
    unfold lineS; cases fracOk b.re <;> cases fracOk b.smin <;> cases fracOk b.smax <;> rfl
theorem ck_lines_spec {N : Nat} {c : CaseD} {p : Err} {k i : Int} {w : Bool} (hs : Small c N) : ∃ k' i' : Int, ∀ K : Bool → List AV → Option R, ck_lines N w (stC c p k i) K = K w (stC c (loopS (lineS c) c.lines.l 0 p) k' i') := by
  obtain ⟨k', i', h⟩ := ck_lines_loop (R := R) (w := w) (w0 := w) (h0 := stC c p k i) hs c.lines.l.length 0 N p k i (by omega) hs.lin.1
  refine ⟨k', i', fun K => ?_⟩
  rw [ck_lines_def]; unfold ck_linesi ck_linesB
  rw [rd_lines]
  simpa using h K
theorem ck_stores_loop {N : Nat} {c : CaseD} {w w0 : Bool} (hs : Small c N) : ∀ (m j fuel : Nat) (p : Err) (k i : Int), j + m = c.stores.l.length → m < fuel →
    ∃ k' i' : Int, ∀ K : Bool → List AV → Option R, ck_stores_q0 N K (c.stores.l.flatMap StoreD.av) c.stores.l.length w0 fuel (c.stores.l.length : Int) (j : Int) w (stC c p k i) = K w (stC c (loopS (storeS c) (c.stores.l.drop j) j p) k' i')
  | 0, j, fuel + 1, p, k, i, hj, _ => by
    refine ⟨k, i, fun K => ?_⟩
    rw [ck_stores_q0]; unfold ck_stores_q0B
    rw [ltF (by omega), cf, dropN (by omega), loopS]
  | m + 1, j, fuel + 1, p, k, i, hj, hf => by
    have h : j < c.stores.l.length := by omega
    have hN := hs.n64
    have hfit := hs.sto
    obtain ⟨k', i', ih⟩ := ck_stores_loop (w := w) (w0 := w0) hs m (j + 1) fuel (storeS c j c.stores.l[j] p) 4 j (by omega) (by omega)
    refine ⟨k', i', fun K => ?_⟩
    rw [ck_stores_q0]; unfold ck_stores_q0B 
    rw [ltT h, ct, inIdx_nat h, ct, Int.toNat_natCast, drop_flat StoreD_len _ _ h, dropC h, loopS, ← ih K]
    have hm : c.stores.l[j] ∈ c.stores.l := List.getElem_mem h
    skip
    have hnm := @ck_name_v4_spec R N c
    generalize c.stores.l[j] = b at *
    have b1 : Nat.ble 9 (List.length (b.av ++ List.flatMap StoreD.av (List.drop (j + 1) c.stores.l))) = true := by rw [nble, List.length_append, StoreD_len]; simp
    have b2 : List.take 9 (b.av ++ List.flatMap StoreD.av (List.drop (j + 1) c.stores.l)) = b.av := List.take_left' (StoreD_len b)
    rw [b1, ct, b2, StoreD_len]
    simp only [StoreD.av, setCells, splice, List.nil_append, List.append_nil, List.drop_nil, List.drop_succ_cons, List.drop_zero, List.take_succ_cons, List.take_zero, List.length_cons, List.length_nil, rdS_cons, rdI_cons, nble, nbeq, plainZ, Nat.reduceAdd, decide_true, Bool.and_true, Bool.or_true, Bool.not_false, cond_true, Nat.zero_add, Nat.le_refl, ck_at_spec, wrapS (show j < 4611686018427387904 by have := hfit.2; omega)]
    simp only [hnm hN (show j ≤ _ by omega) ⟨by have := hfit.1; omega, by have := hfit.2; omega⟩, ck_bus_spec, ck_within_spec, cf_valid_spec, ck_need_spec (show (3 : Int) ≠ 0 by decide)]
    unfold storeS; cases fracOk b.eff <;> cases decide (b.eff.num > 0) <;> rfl
theorem ck_stores_spec {N : Nat} {c : CaseD} {p : Err} {k i : Int} {w : Bool} (hs : Small c N) : ∃ k' i' : Int, ∀ K : Bool → List AV → Option R, ck_stores N w (stC c p k i) K = K w (stC c (loopS (storeS c) c.stores.l 0 p) k' i') := by
  obtain ⟨k', i', h⟩ := ck_stores_loop (R := R) (w := w) (w0 := w) hs c.stores.l.length 0 N p k i (by omega) hs.sto.1
  refine ⟨k', i', fun K => ?_⟩
  rw [ck_stores_def]; unfold ck_storesi ck_storesB
  rw [rd_stores]
  simpa using h K
theorem ck_ties_loop {N : Nat} {c : CaseD} {w w0 : Bool} (hs : Small c N) : ∀ (m j fuel : Nat) (p : Err) (k i : Int), j + m = c.ties.l.length → m < fuel →
    ∃ k' i' : Int, ∀ K : Bool → List AV → Option R, ck_ties_q0 N K (c.ties.l.flatMap TieD.av) c.ties.l.length w0 fuel (c.ties.l.length : Int) (j : Int) w (stC c p k i) = K w (stC c (loopS (tieS c) (c.ties.l.drop j) j p) k' i')
  | 0, j, fuel + 1, p, k, i, hj, _ => by
    refine ⟨k, i, fun K => ?_⟩
    rw [ck_ties_q0]; unfold ck_ties_q0B
    rw [ltF (by omega), cf, dropN (by omega), loopS]
  | m + 1, j, fuel + 1, p, k, i, hj, hf => by
    have h : j < c.ties.l.length := by omega
    have hN := hs.n64
    have hfit := hs.tie
    obtain ⟨k', i', ih⟩ := ck_ties_loop (w := w) (w0 := w0) hs m (j + 1) fuel (tieS c j c.ties.l[j] p) 5 j (by omega) (by omega)
    refine ⟨k', i', fun K => ?_⟩
    rw [ck_ties_q0]; unfold ck_ties_q0B 
    rw [ltT h, ct, inIdx_nat h, ct, Int.toNat_natCast, drop_flat TieD_len _ _ h, dropC h, loopS, ← ih K]
    have hm : c.ties.l[j] ∈ c.ties.l := List.getElem_mem h
    have hd := hs.tim _ hm; have hd2 := hs.tex _ hm; have hd3 := hs.tpr _ hm
    have hnm := @ck_name_v5_spec R N c
    generalize c.ties.l[j] = b at *
    have b1 : Nat.ble 5 (List.length (b.av ++ List.flatMap TieD.av (List.drop (j + 1) c.ties.l))) = true := by rw [nble, List.length_append, TieD_len]; simp
    have b2 : List.take 5 (b.av ++ List.flatMap TieD.av (List.drop (j + 1) c.ties.l)) = b.av := List.take_left' (TieD_len b)
    rw [b1, ct, b2, TieD_len]
    simp only [TieD.av, List.drop_succ_cons, List.drop_zero, rdS_cons, rdI_cons, rdL_sl, flat_ints, nbeq, decide_true, Bool.and_true, cond_true, ck_at_spec, wrapS (show j < 4611686018427387904 by have := hfit.2; omega)]
    simp only [hnm hN (show j ≤ _ by omega) ⟨by have := hfit.1; omega, by have := hfit.2; omega⟩, ck_bus_spec, ck_hourly_spec rfl hd, ck_hourly_spec rfl hd2, ck_hourly_spec rfl hd3]
    rfl
theorem ck_ties_spec {N : Nat} {c : CaseD} {p : Err} {k i : Int} {w : Bool} (hs : Small c N) : ∃ k' i' : Int, ∀ K : Bool → List AV → Option R, ck_ties N w (stC c p k i) K = K w (stC c (loopS (tieS c) c.ties.l 0 p) k' i') := by
  obtain ⟨k', i', h⟩ := ck_ties_loop (R := R) (w := w) (w0 := w) hs c.ties.l.length 0 N p k i (by omega) hs.tie.1
  refine ⟨k', i', fun K => ?_⟩
  rw [ck_ties_def]; unfold ck_tiesi ck_tiesB
  rw [rd_ties]
  simpa using h K
end
end Gx

namespace Gx
open Go Go.Proofs
section
variable {R : Type}

theorem SegD_len (a : SegD) : a.av.length = 2 := rfl
theorem MoveD_len (a : MoveD) : a.av.length = 3 := rfl
def segOk (s : SegD) : Bool := btw 1 1048576 s.width && btw (-1048576) 1048576 s.price
def wsum (a : Int) : List SegD → Int
  | [] => a
  | s :: r => wsum (IntKind.wrap .i64 (a + s.width)) r
def ordP : List SegD → Bool
  | a :: b :: r => decide (b.price ≥ a.price) && ordP (b :: r)
  | _ => true
theorem ordP_cons2 (a b : SegD) (r : List SegD) : ordP (a :: b :: r) = (decide (b.price ≥ a.price) && ordP (b :: r)) := by rw [ordP]
theorem ordP_one (a : SegD) : ordP [a] = true := by rw [ordP]; intros; simp_all
theorem ordP_nil : ordP [] = true := by rw [ordP]; intros; simp_all
def segS (u : UnitD) (j : Nat) (p : Err) : Err :=
  let p := nd p (decide ((u.segs.l.length : Int) ≤ 8)) (3, j, 4) e8
  let p := nd p (u.segs.l.all segOk) (3, j, 4) e3
  let p := nd p (ordP u.segs.l) (3, j, 4) e11
  nd p (wsum 0 u.segs.l == IntKind.wrap .i64 (u.max - u.min)) (3, j, 4) e4
theorem u_segs {u : UnitD} {f : List AV → Nat → Option R} : rdL 2 (List.drop 4 u.av) f = f (u.segs.l.flatMap SegD.av) u.segs.l.length := by simp [UnitD.av, rdL_sl]
theorem u_max {u : UnitD} {f : Int → Option R} : rdI .i64 (List.drop 3 u.av) f = f u.max := by simp [UnitD.av, rdI_cons]
theorem u_min {u : UnitD} {f : Int → Option R} : rdI .i64 (List.drop 2 u.av) f = f u.min := by simp [UnitD.av, rdI_cons]
theorem seg_price {l : List SegD} {j : Nat} (h : j < l.length) {f : Int → Option R} : rdI .i64 (List.drop 1 (List.drop ((Int.toNat (j : Int)) * 2) (l.flatMap SegD.av))) f = f l[j].price := by
  rw [Int.toNat_natCast, drop_flat SegD_len _ _ h]; simp [SegD.av, rdI_cons]
theorem seg_width {l : List SegD} {j : Nat} (h : j < l.length) {f : Int → Option R} : rdI .i64 (List.drop ((Int.toNat (j : Int)) * 2) (l.flatMap SegD.av)) f = f l[j].width := by
  rw [Int.toNat_natCast, drop_flat SegD_len _ _ h]; simp [SegD.av, rdI_cons]
theorem ck_seg1_loop {N : Nat} {c : CaseD} {k i s : Int} {u : UnitD} {o w : Bool} {K : Bool → List AV → Option R} (hs : u.segs.l.length < 4611686018427387904) : ∀ (m j fuel : Nat) (p : Err), j + 1 + m = u.segs.l.length → m < fuel →
    ck_segments_q1 N K s o u.av fuel ((j + 1 : Nat) : Int) w (stC c p k i) = K w (stC c (nd (nd p (ordP (u.segs.l.drop j)) (k, i, 4) e11) (s == IntKind.wrap .i64 (u.max - u.min)) (k, i, 4) e4) k i)
  | 0, j, fuel + 1, p, hj, _ => by
    rw [ck_segments_q1]; unfold ck_segments_q1B
    rw [u_segs, ltF (by omega), cf, dropC (l := u.segs.l) (j := j) (by omega), dropN (l := u.segs.l) (j := j + 1) (by omega), ordP_one, nd_true, u_max, u_min, ck_need_spec (by decide)]
  | m + 1, j, fuel + 1, p, hj, hf => by
    rw [ck_segments_q1]; unfold ck_segments_q1B
    have h : j + 1 < u.segs.l.length := by omega
    have h' : j < u.segs.l.length := by omega
    simp only [u_segs]
    rw [ltT h, ct, inIdx_nat h, ct, seg_price h, wrapP (by omega), inIdx_nat h', ct, seg_price h', wrapS (by omega), ck_need_spec (by decide), ck_seg1_loop hs m (j + 1) fuel _ (by omega) (by omega), dropC h', dropC h, ordP_cons2, nd_nd]
theorem ck_seg0_loop {N : Nat} {c : CaseD} {k i : Int} {u : UnitD} {o w : Bool} {K : Bool → List AV → Option R} (hs : fits u.segs.l.length N) : ∀ (m j fuel : Nat) (p : Err) (a : Int), j + m = u.segs.l.length → m < fuel →
    ck_segments_q0 N K (u.segs.l.flatMap SegD.av) u.segs.l.length o u.av fuel a (u.segs.l.length : Int) (j : Int) w (stC c p k i) =
      K w (stC c (nd (nd (nd p ((u.segs.l.drop j).all segOk) (k, i, 4) e3) (ordP u.segs.l) (k, i, 4) e11) (wsum a (u.segs.l.drop j) == IntKind.wrap .i64 (u.max - u.min)) (k, i, 4) e4) k i)
  | 0, j, fuel + 1, p, a, hj, _ => by
    rw [ck_segments_q0]; unfold ck_segments_q0B
    rw [ltF (by omega), cf, dropN (by omega), List.all_nil, nd_true, wsum]
    rcases hl : u.segs.l with _ | ⟨b, r⟩
    · rw [ordP_nil, nd_true]
      have hN := hs.1
      rcases N with _ | N
      · omega
      · dsimp only
        rw [ck_segments_q1]; unfold ck_segments_q1B
        rw [u_segs, hl]
        simp only [List.length_nil, Int.natCast_zero]
        rw [show decide ((1 : Int) < 0) = false by decide, cf, u_max, u_min, ck_need_spec (by decide)]
    · have := ck_seg1_loop (R := R) (N := N) (c := c) (k := k) (i := i) (s := a) (u := u) (o := o) (w := w) (K := K) hs.2 r.length 0 N p (by rw [hl]; simp; omega) (by have := hs.1; rw [hl] at this; simp at this; omega)
      rw [hl] at this
      simpa using this
  | m + 1, j, fuel + 1, p, a, hj, hf => by
    rw [ck_segments_q0]; unfold ck_segments_q0B
    have h : j < u.segs.l.length := by omega
    have hs2 := hs.2
    rw [ltT h, ct, inIdx_nat h, ct, Int.toNat_natCast, drop_flat SegD_len _ _ h, dropC h, List.all_cons, wsum, wrapS (by omega)]
    have b1 : Nat.ble 2 (List.length (u.segs.l[j].av ++ List.flatMap SegD.av (List.drop (j + 1) u.segs.l))) = true := by rw [nble, List.length_append, SegD_len]; simp
    have b2 : List.take 2 (u.segs.l[j].av ++ List.flatMap SegD.av (List.drop (j + 1) u.segs.l)) = u.segs.l[j].av := List.take_left' (SegD_len _)
    rw [b1, ct, b2, SegD_len]
    simp only [SegD.av, setCells, splice, List.nil_append, List.append_nil, List.drop_nil, List.drop_succ_cons, List.drop_zero, List.take_zero, List.length_cons, List.length_nil, rdI_cons, nble, nbeq, plainZ, Nat.reduceAdd, decide_true, Bool.and_true, Bool.or_true, Bool.not_false, cond_true, Nat.zero_add, Nat.le_refl, ck_within_spec, ck_seg0_loop hs m (j + 1) fuel _ _ (show j + 1 + m = _ by omega) (show m < fuel by omega)]
    rw [nd_nd, nd_nd, ← Bool.and_assoc]; rfl
theorem ck_segments_spec {N : Nat} {c : CaseD} {p : Err} {j : Nat} {u : UnitD} {o w : Bool} {K : Bool → List AV → Option R} (hs : fits u.segs.l.length N) :
    ck_segments N u.av o w (stC c p 3 j) K = K w (stC c (segS u j p) 3 j) := by
  rw [ck_segments_def]; unfold ck_segmentsi ck_segmentsB
  simp only [u_segs, ck_need_spec (show (8 : Int) ≠ 0 by decide), rd_err]
  have := ck_seg0_loop (R := R) (N := N) (c := c) (k := 3) (i := j) (u := u) (o := o) (w := w) (K := K) hs u.segs.l.length 0 N (nd p (decide ((u.segs.l.length : Int) ≤ 8)) (3, j, 4) e8) 0 (by omega) hs.1
  simp only [List.drop_zero, Int.natCast_zero] at this
  rw [this]
  unfold segS
  cases hp : nd p (decide ((u.segs.l.length : Int) ≤ 8)) (3, (j : Int), 4) e8 with
  | none => simp [errOf]
  | some x =>
    have : (x.2.1 != 0) = true := by simpa using x.2.2
    simp [errOf, this, nd]

def unitS (c : CaseD) (j : Nat) (u : UnitD) (p : Err) : Err :=
  let p := nameS ((c.units.l.map (·.name)).take j) 3 j u.name p
  let p := nd p (busOk c u.bus) (3, j, 1) e12
  let p := nd p (btw 0 1048576 u.min) (3, j, 2) e3
  let p := nd p (btw u.min 1048576 u.max) (3, j, 3) e3
  let p := segS u j p
  let p := nd p (btw 0 1048576 u.noLoad) (3, j, 5) e3
  let p := nd p (btw 0 1048576 u.rampUp) (3, j, 6) e3
  let p := nd p (btw 0 1048576 u.rampDown) (3, j, 7) e3
  let p := nd p (btw u.min u.max u.startRamp) (3, j, 8) e3
  let p := nd p (btw u.min u.max u.stopRamp) (3, j, 9) e3
  let p := nd p (btw 0 24 u.upTime) (3, j, 10) e3
  let p := nd p (btw 0 24 u.downTime) (3, j, 11) e3
  let p := nd p (btw 0 24 u.startTime) (3, j, 12) e3
  let p := nd p (btw 0 1048576 u.hotCost) (3, j, 13) e3
  let p := nd p (btw 0 1048576 u.coldCost) (3, j, 14) e3
  let p := nd p (btw 0 24 u.hotHours) (3, j, 15) e3
  let p := nd p (btw 0 1048576 u.reserve) (3, j, 16) e3
  let p := nd p (btw 0 1048576 u.reservePrice) (3, j, 17) e3
  let p := awayS c.hours u.away.l (3, j, 18) p
  let p := nd p (btw 0 2 u.state) (3, j, 19) e12
  let p := nd p (u.state != 1 || u.startTime != 0) (3, j, 19) e16
  let p := nd p (btw 1 48 u.hours) (3, j, 20) e3
  let p := nd p (u.state != 1 || decide (u.hours ≤ u.startTime)) (3, j, 20) e3
  cond (u.state == 2) (nd p (btw u.min u.max u.output) (3, j, 21) e3) (nd p (btw 0 0 u.output) (3, j, 21) e3)

/- The moves of an outage. -/
def mvOk (c : CaseD) (m : MoveD) : Bool := decide (0 ≤ m.unit) && decide (m.unit < (c.units.l.length : Int))
def mvIn (m : MoveD) : Bool := btw 0 1048576 m.up && btw 0 1048576 m.down
def movesS (c : CaseD) (o : OutD) (j : Nat) (p : Err) : Err :=
  let p := nd p ((o.moves.l.length : Int) == 0 || o.corr) (6, j, 3) e16
  let p := nd p (decide ((o.moves.l.length : Int) ≤ 16)) (6, j, 3) e8
  let p := nd p (o.moves.l.all (mvOk c)) (6, j, 3) e12
  let p := nd p (asc (o.moves.l.map (·.unit))) (6, j, 3) e11
  nd p (o.moves.l.all mvIn) (6, j, 3) e3
theorem o_moves {u : OutD} {f : List AV → Nat → Option R} : rdL 3 (List.drop 3 u.av) f = f (u.moves.l.flatMap MoveD.av) u.moves.l.length := by simp [OutD.av, rdL_sl]
theorem o_corr {u : OutD} {f : Bool → Option R} : rdB (List.drop 2 u.av) f = f u.corr := by simp [OutD.av, rdB_cons]
theorem ck_mv2_loop {N : Nat} {c : CaseD} {k i : Int} {l : List MoveD} {o w : Bool} {K : Bool → List AV → Option R} (hs : l.length < 4611686018427387904) : ∀ (m j fuel : Nat) (p : Err), j + m = l.length → m < fuel →
    ck_moves_q2 N K (l.flatMap MoveD.av) l.length o fuel (l.length : Int) (j : Int) w (stC c p k i) = K w (stC c (nd p ((l.drop j).all mvIn) (k, i, 3) e3) k i)
  | 0, j, fuel + 1, p, hj, _ => by
    rw [ck_moves_q2]; unfold ck_moves_q2B
    rw [ltF (by omega), cf, dropN (by omega), List.all_nil, nd_true]
  | m + 1, j, fuel + 1, p, hj, hf => by
    rw [ck_moves_q2]; unfold ck_moves_q2B
    have h : j < l.length := by omega
    rw [ltT h, ct, inIdx_nat h, ct, Int.toNat_natCast, drop_flat MoveD_len _ _ h, dropC h, List.all_cons, wrapS (by omega)]
    have b1 : Nat.ble 3 (List.length (l[j].av ++ List.flatMap MoveD.av (List.drop (j + 1) l))) = true := by rw [nble, List.length_append, MoveD_len]; simp
    have b2 : List.take 3 (l[j].av ++ List.flatMap MoveD.av (List.drop (j + 1) l)) = l[j].av := List.take_left' (MoveD_len _)
    rw [b1, ct, b2, MoveD_len]
    simp only [MoveD.av, setCells, splice, List.nil_append, List.append_nil, List.drop_nil, List.drop_succ_cons, List.drop_zero, List.take_zero, List.length_cons, List.length_nil, rdI_cons, nble, nbeq, plainZ, Nat.reduceAdd, decide_true, Bool.and_true, Bool.or_true, Bool.not_false, cond_true, Nat.zero_add, Nat.le_refl, ck_within_spec, ck_mv2_loop hs m (j + 1) fuel _ (show j + 1 + m = _ by omega) (show m < fuel by omega)]
    rw [nd_nd, nd_nd, ← Bool.and_assoc]; rfl
theorem ck_mv1_loop {N : Nat} {c : CaseD} {k i : Int} {u : OutD} {o w : Bool} {K : Bool → List AV → Option R} (hs : fits u.moves.l.length N) (hb : u.moves.l.length ≤ 16) : ∀ (m j fuel : Nat) (p : Err), j + m = u.moves.l.length → m < fuel →
    ck_moves_q1 N K (u.moves.l.flatMap MoveD.av) u.moves.l.length o u.av fuel j (u.moves.l.length : Int) (j : Int) w (stC c p k i) (ints ((u.moves.l.take j).map (·.unit))) =
      K w (stC c (nd (nd (nd p ((u.moves.l.drop j).all (mvOk c)) (k, i, 3) e12) (asc (u.moves.l.map (·.unit))) (k, i, 3) e11) (u.moves.l.all mvIn) (k, i, 3) e3) k i)
  | 0, j, fuel + 1, p, hj, _ => by
    rw [ck_moves_q1]; unfold ck_moves_q1B
    have hjl : j = u.moves.l.length := by omega
    rw [ltF (by omega), cf, dropN (l := u.moves.l) (j := j) (by omega), List.all_nil, nd_true, Nat.mul_one, List.take_of_length_le (by simp [ints_length]; omega), List.take_of_length_le (show u.moves.l.length ≤ j by omega)]
    rw [cf_ascending_spec (by simp; omega) (by simpa using hs), ck_need_spec (by decide), o_moves]
    have := ck_mv2_loop (R := R) (N := N) (c := c) (k := k) (i := i) (l := u.moves.l) (o := o) (w := w) (K := K) hs.2 u.moves.l.length 0 N (nd p (asc (u.moves.l.map (·.unit))) (k, i, 3) e11) (by omega) hs.1
    simpa using this
  | m + 1, j, fuel + 1, p, hj, hf => by
    rw [ck_moves_q1]; unfold ck_moves_q1B
    have h : j < u.moves.l.length := by omega
    have hs2 := hs.2
    have b1 : Nat.ble 3 (List.length (u.moves.l[j].av ++ List.flatMap MoveD.av (List.drop (j + 1) u.moves.l))) = true := by rw [nble, List.length_append, MoveD_len]; simp
    have b2 : List.take 3 (u.moves.l[j].av ++ List.flatMap MoveD.av (List.drop (j + 1) u.moves.l)) = u.moves.l[j].av := List.take_left' (MoveD_len _)
    have b3 : (Nat.ble (j + 1) 140737488355328 && Nat.ble ((j + 1) * 8) 140737488355328) = true := by rw [nble, nble]; simp; omega
    have b4 : List.take (j * 1) (ints ((u.moves.l.take j).map (·.unit))) ++ [.int .i64 u.moves.l[j].unit] = ints ((u.moves.l.take (j + 1)).map (·.unit)) := by
      rw [List.take_of_length_le (by simp [ints_length]; omega), List.take_succ_eq_append_getElem h, List.map_append, ← ints_append]; rfl
    rw [ltT h, ct, inIdx_nat h, ct, Int.toNat_natCast, drop_flat MoveD_len _ _ h, dropC h, List.all_cons, wrapS (by omega), b1, ct, b2, MoveD_len]
    simp only [MoveD.av, setCells, splice, List.nil_append, List.append_nil, List.drop_nil, List.drop_succ_cons, List.take_zero, List.length_cons, List.length_nil, rdI_cons, nble, nbeq, plainZ, Nat.reduceAdd, Nat.reduceLeDiff, decide_true, Bool.and_true, Bool.or_true, Bool.not_false, cond_true, Nat.zero_add, Nat.le_refl, rd_units, ck_need_spec (show (12 : Int) ≠ 0 by decide), b4, ck_mv1_loop hs hb m (j + 1) fuel _ (show j + 1 + m = _ by omega) (show m < fuel by omega)]
    rw [nd_nd, nd_nd]
    unfold mvOk
    generalize (List.drop (j + 1) u.moves.l).all _ = r
    have b5 : (decide (j ≤ 140737488355327) && decide ((j + 1) * 8 ≤ 140737488355328)) = true := by simp; omega
    by_cases h1 : 0 ≤ u.moves.l[j].unit
    · have e1 : decide (u.moves.l[j].unit ≥ 0) = true := by simpa using h1
      rw [e1, b5]; rfl
    · have e1 : decide (u.moves.l[j].unit ≥ 0) = false := by simpa using h1
      rw [e1, b5]; rfl
theorem ck_moves_spec {N : Nat} {c : CaseD} {p : Err} {j : Nat} {u : OutD} {o w : Bool} {K : Bool → List AV → Option R} (hs : fits u.moves.l.length N) :
    ck_moves N u.av o w (stC c p 6 j) K = K w (stC c (movesS c u j p) 6 j) := by
  rw [ck_moves_def]; unfold ck_movesi ck_movesB ck_moves_q0 ck_moves_q0B
  simp only [o_moves, o_corr, ck_need_spec (show (16 : Int) ≠ 0 by decide), ck_need_spec (show (8 : Int) ≠ 0 by decide), rd_err]
  have key : ∀ p0 : Err, (cond (errOf (nd p0 (decide ((u.moves.l.length : Int) ≤ 16)) (6, (j : Int), 3) e8) != 0) (K w (stC c (nd p0 (decide ((u.moves.l.length : Int) ≤ 16)) (6, (j : Int), 3) e8) 6 j))
      (ck_moves_q1 N K (u.moves.l.flatMap MoveD.av) u.moves.l.length o u.av N 0 (u.moves.l.length : Int) 0 w (stC c (nd p0 (decide ((u.moves.l.length : Int) ≤ 16)) (6, (j : Int), 3) e8) 6 j) [])) =
      K w (stC c (nd (nd (nd (nd p0 (decide ((u.moves.l.length : Int) ≤ 16)) (6, (j : Int), 3) e8) (u.moves.l.all (mvOk c)) (6, j, 3) e12) (asc (u.moves.l.map (·.unit))) (6, j, 3) e11) (u.moves.l.all mvIn) (6, j, 3) e3) 6 j) := by
    intro p0
    cases hp : nd p0 (decide ((u.moves.l.length : Int) ≤ 16)) (6, (j : Int), 3) e8 with
    | none =>
      have hb : u.moves.l.length ≤ 16 := by
        rcases p0 with _ | x
        · by_cases hb : u.moves.l.length ≤ 16
          · exact hb
          · have : decide ((u.moves.l.length : Int) ≤ 16) = false := by simp; omega
            rw [this] at hp; simp [nd] at hp
        · simp [nd] at hp
      have := ck_mv1_loop (R := R) (N := N) (c := c) (k := 6) (i := j) (u := u) (o := o) (w := w) (K := K) hs hb u.moves.l.length 0 N none (by omega) hs.1
      simp only [List.take_zero, List.map_nil, List.drop_zero, Int.natCast_zero, ints] at this
      simp only [errOf, bne_self_eq_false, cond_false]
      exact this
    | some x =>
      have : (x.2.1 != 0) = true := by simpa using x.2.2
      simp [errOf, this, nd]
  unfold movesS
  cases h1 : ((u.moves.l.length : Int) == 0) with
  | true => simp only [Bool.true_or, cond_false, show (true == false) = false from rfl]; exact key _
  | false => simp only [beq_self_eq_true, Bool.false_or, cond_true, cond_false]; exact key _

def outS (c : CaseD) (j : Nat) (x : OutD) (p : Err) : Err :=
  let p := nameS ((c.outs.l.map (·.name)).take j) 6 j x.name p
  let p := nd p ((x.lines.l.length : Int) == 1 || (x.lines.l.length : Int) == 2) (6, j, 1) e4
  let p := nd p (x.lines.l.all fun n => decide (0 ≤ n) && decide (n < (c.lines.l.length : Int))) (6, j, 1) e12
  let p := nd p (asc x.lines.l) (6, j, 1) e11
  movesS c x j p
theorem outS_some {c : CaseD} {j : Nat} {x : OutD} {y : (Int × Int × Int) × { e : Int // e ≠ 0 }} : outS c j x (some y) = some y := rfl

theorem ck_units_loop {N : Nat} {c : CaseD} {w w0 : Bool} {h0 : List AV} (hs : Small c N) : ∀ (m j fuel : Nat) (p : Err) (k i : Int), j + m = c.units.l.length → m < fuel →
    ∃ k' i' : Int, ∀ K : Bool → List AV → Option R, ck_units_q0 N K (c.units.l.flatMap UnitD.av) c.units.l.length w0 h0 fuel (c.units.l.length : Int) (j : Int) w (stC c p k i) = K w (stC c (loopS (unitS c) (c.units.l.drop j) j p) k' i')
  | 0, j, fuel + 1, p, k, i, hj, _ => by
    refine ⟨k, i, fun K => ?_⟩
    rw [ck_units_q0]; unfold ck_units_q0B
    rw [ltF (by omega), cf, dropN (by omega), loopS]
  | m + 1, j, fuel + 1, p, k, i, hj, hf => by
    have h : j < c.units.l.length := by omega
    have hN := hs.n64
    have hfit := hs.uni
    obtain ⟨k', i', ih⟩ := ck_units_loop (w := w) (w0 := w0) (h0 := h0) hs m (j + 1) fuel (unitS c j c.units.l[j] p) 3 j (by omega) (by omega)
    refine ⟨k', i', fun K => ?_⟩
    rw [ck_units_q0]; unfold ck_units_q0B ck_units_q1 ck_units_q1B ck_units_q2 ck_units_q2B ck_units_q3 ck_units_q3B
    rw [ltT h, ct, inIdx_nat h, ct, Int.toNat_natCast, drop_flat UnitD_len _ _ h, dropC h, loopS, ← ih K]
    have hm : c.units.l[j] ∈ c.units.l := List.getElem_mem h
    have hd := hs.seg _ hm; have hd2 := hs.uaw _ hm
    have hnm := @ck_name_v3_spec R N c
    generalize c.units.l[j] = b at *
    have b1 : Nat.ble 22 (List.length (b.av ++ List.flatMap UnitD.av (List.drop (j + 1) c.units.l))) = true := by rw [nble, List.length_append, UnitD_len]; simp
    have b2 : List.take 22 (b.av ++ List.flatMap UnitD.av (List.drop (j + 1) c.units.l)) = b.av := List.take_left' (UnitD_len b)
    rw [b1, ct, b2, UnitD_len]
    have hsg : ∀ (p : Err) (K : Bool → List AV → Option R), ck_segments N [.str b.name, .int .i64 b.bus, .int .i64 b.min, .int .i64 b.max, b.segs.av 2 SegD.av, .int .i64 b.noLoad, .int .i64 b.rampUp, .int .i64 b.rampDown, .int .i64 b.startRamp, .int .i64 b.stopRamp, .int .i64 b.upTime, .int .i64 b.downTime, .int .i64 b.startTime, .int .i64 b.hotCost, .int .i64 b.coldCost, .int .i64 b.hotHours, .int .i64 b.reserve, .int .i64 b.reservePrice, b.away.av 1 intE, .int .i64 b.state, .int .i64 b.hours, .int .i64 b.output] w0 w (stC c p 3 j) K = K w (stC c (segS b j p) 3 j) := fun p K => ck_segments_spec hd
    simp only [UnitD.av, List.drop_succ_cons, List.drop_zero, List.take_succ_cons, List.take_zero, rdS_cons, rdI_cons, rdL_sl, flat_ints, nble, nbeq, decide_true, Bool.and_true, cond_true, cond_false, Nat.le_refl, ck_at_spec, wrapS (show j < 4611686018427387904 by have := hfit.2; omega)]
    simp only [hnm hN (show j ≤ _ by omega) ⟨by have := hfit.1; omega, by have := hfit.2; omega⟩, ck_bus_spec, ck_within_spec, hsg, ck_away_spec rfl hd2, ck_need_spec (show (12 : Int) ≠ 0 by decide), ck_need_spec (show (16 : Int) ≠ 0 by decide), ck_need_spec (show (3 : Int) ≠ 0 by decide)]
    unfold unitS
    unfold btw
    by_cases s0 : b.state = 0
    · simp [s0]
    · by_cases s1 : b.state = 1
      · simp [s1]
      · by_cases s2 : b.state = 2
        · simp [s2]
        · have a0 : (b.state == 0) = false := by simpa using s0
          have a1 : (b.state == 1) = false := by simpa using s1
          have a2 : (b.state == 2) = false := by simpa using s2
          have a3 : (decide (0 ≤ b.state) && decide (b.state ≤ 2)) = false := by simp; omega
          have a4 : (b.state != 1) = true := by simpa using s1
          simp [a0, a1, a2, a3, a4]
theorem ck_units_spec {N : Nat} {c : CaseD} {p : Err} {k i : Int} {w : Bool} (hs : Small c N) : ∃ k' i' : Int, ∀ K : Bool → List AV → Option R, ck_units N w (stC c p k i) K = K w (stC c (loopS (unitS c) c.units.l 0 p) k' i') := by
  obtain ⟨k', i', h⟩ := ck_units_loop (R := R) (w := w) (w0 := w) (h0 := stC c p k i) hs c.units.l.length 0 N p k i (by omega) hs.uni.1
  refine ⟨k', i', fun K => ?_⟩
  rw [ck_units_def]; unfold ck_unitsi ck_unitsB
  rw [rd_units]
  simpa using h K
end
end Gx

namespace Gx
open Go Go.Proofs
section
variable {R : Type}

def lnOk (c : CaseD) (n : Int) : Bool := decide (0 ≤ n) && decide (n < (c.lines.l.length : Int))
theorem o_lines {u : OutD} {f : List AV → Nat → Option R} : rdL 1 (List.drop 1 u.av) f = f (ints u.lines.l) u.lines.l.length := by simp [OutD.av, rdL_sl, flat_ints]
theorem o_take {u : OutD} : List.take 4 u.av = u.av := rfl
theorem ck_out2_loop {N : Nat} {c : CaseD} {j : Nat} {x : OutD} {w w0 : Bool} {l1 h0 : List AV} {m2 : Nat} {a i12 : Int} {K0 : Int → Int → Bool → List AV → Option R} {K : Bool → List AV → Option R} (hs : fits x.lines.l.length N) (hm : fits x.moves.l.length N) : ∀ (m q fuel : Nat) (p : Err), q + m = x.lines.l.length → m < fuel →
    ck_outages_q2 N K0 K l1 m2 w0 a (ints x.lines.l) x.lines.l.length x.av h0 fuel i12 (x.lines.l.length : Int) (q : Int) w (stC c p 6 j) =
      K0 a (IntKind.wrap .i64 (i12 + 1)) w (stC c (movesS c x j (nd (nd p ((x.lines.l.drop q).all (lnOk c)) (6, j, 1) e12) (asc x.lines.l) (6, j, 1) e11)) 6 j)
  | 0, q, fuel + 1, p, hj, _ => by
    rw [ck_outages_q2]; unfold ck_outages_q2B
    rw [ltF (by omega), cf, dropN (l := x.lines.l) (j := q) (by omega), List.all_nil, nd_true, o_lines, cf_ascending_spec rfl hs, ck_need_spec (by decide), o_take, ck_moves_spec hm]; rfl
  | m + 1, q, fuel + 1, p, hj, hf => by
    rw [ck_outages_q2]; unfold ck_outages_q2B
    have h : q < x.lines.l.length := by omega
    have hs2 := hs.2
    rw [ltT h, ct, inIdx_nat h, ct, rd_at h, rd_lines, ck_need_spec (by decide), ck_need_spec (by decide), wrapS (by omega), ck_out2_loop hs hm m (q + 1) fuel _ (by omega) (by omega), ck_out2_loop hs hm m (q + 1) fuel _ (by omega) (by omega), dropC h, List.all_cons, nd_nd, nd_nd]
    unfold lnOk
    generalize (List.drop (q + 1) x.lines.l).all _ = r
    by_cases h1 : 0 ≤ x.lines.l[q]
    · have e1 : decide (x.lines.l[q] ≥ 0) = true := by simpa using h1
      rw [e1]; rfl
    · have e1 : decide (x.lines.l[q] ≥ 0) = false := by simpa using h1
      rw [e1]; rfl
theorem ck_outages_loop {N : Nat} {c : CaseD} {w w0 : Bool} {h0 : List AV} (hs : Small c N) : ∀ (m j fuel : Nat) (p : Err) (k i : Int), j + m = c.outs.l.length → m < fuel →
    ∃ k' i' : Int, ∀ K : Bool → List AV → Option R, ck_outages_q0 N K (c.outs.l.flatMap OutD.av) c.outs.l.length w0 h0 fuel (c.outs.l.length : Int) (j : Int) w (stC c p k i) = K w (stC c (loopS (outS c) (c.outs.l.drop j) j p) k' i')
  | 0, j, fuel + 1, p, k, i, hj, _ => by
    refine ⟨k, i, fun K => ?_⟩
    rw [ck_outages_q0]; unfold ck_outages_q0B
    rw [ltF (by omega), cf, dropN (by omega), loopS]
  | m + 1, j, fuel + 1, p, k, i, hj, hf => by
    have h : j < c.outs.l.length := by omega
    have hN := hs.n64
    have hfit := hs.out
    have hm : c.outs.l[j] ∈ c.outs.l := List.getElem_mem h
    have hd := hs.oli _ hm
    have hd2 := hs.omo _ hm
    obtain ⟨k1, i1, ih⟩ := ck_outages_loop (w := w) (w0 := w0) (h0 := h0) hs m (j + 1) fuel (outS c j c.outs.l[j] p) 6 j (by omega) (by omega)
    cases hp : nd (nameS ((c.outs.l.map (·.name)).take j) 6 j c.outs.l[j].name p) ((c.outs.l[j].lines.l.length : Int) == 1 || (c.outs.l[j].lines.l.length : Int) == 2) (6, (j : Int), 1) e4 with
    | none =>
      refine ⟨k1, i1, fun K => ?_⟩
      rw [ck_outages_q0]; unfold ck_outages_q0B ck_outages_q1 ck_outages_q1B
      rw [ltT h, ct, inIdx_nat h, ct, Int.toNat_natCast, drop_flat OutD_len _ _ h, dropC h, loopS, ← ih K]
      have hnm := @ck_name_v6_spec R N c
      generalize c.outs.l[j] = b at *
      have b1 : Nat.ble 4 (List.length (b.av ++ List.flatMap OutD.av (List.drop (j + 1) c.outs.l))) = true := by rw [nble, List.length_append, OutD_len]; simp
      have b2 : List.take 4 (b.av ++ List.flatMap OutD.av (List.drop (j + 1) c.outs.l)) = b.av := List.take_left' (OutD_len b)
      rw [b1, ct, b2, OutD_len]
      have hnam : ∀ f : List UInt8 → Option R, rdS b.av f = f b.name := fun f => by simp [OutD.av, rdS_cons]
      simp only [nbeq, decide_true, Bool.and_true, Bool.true_and, cond_true, ck_at_spec, hnam, o_lines, hnm hN (show j ≤ _ by omega) ⟨by have := hfit.1; omega, by have := hfit.2; omega⟩, ck_need_spec (show (4 : Int) ≠ 0 by decide), rd_err]
      have l2 := fun p => ck_out2_loop (R := R) (N := N) (c := c) (j := j) (x := b) (w := w) (w0 := w0) (l1 := c.outs.l.flatMap OutD.av) (h0 := h0) (m2 := c.outs.l.length) (a := c.outs.l.length) (i12 := j) (K0 := ck_outages_q0 N K (c.outs.l.flatMap OutD.av) c.outs.l.length w0 h0 fuel) (K := K) hd hd2 b.lines.l.length 0 N p (by omega) hd.1
      simp only [List.drop_zero, Int.natCast_zero] at l2
      simp only [l2, wrapS (show j < 4611686018427387904 by have := hfit.2; omega)]
      unfold outS
      cases h1 : ((b.lines.l.length : Int) == 1) with
      | true =>
        rw [h1] at hp
        simp only [Bool.true_or] at hp
        simp only [show (true == false) = false from rfl, cond_false, Bool.true_or, hp, errOf, bne_self_eq_false]; rfl
      | false =>
        rw [h1] at hp
        simp only [Bool.false_or] at hp
        simp only [beq_self_eq_true, cond_true, cond_false, Bool.false_or, hp, errOf, bne_self_eq_false]; rfl
    | some y =>
      have hy : (y.2.1 != 0) = true := by simpa using y.2.2
      have ho : outS c j c.outs.l[j] p = some y := by unfold outS; simp only; rw [hp]; rfl
      refine ⟨6, j, fun K => ?_⟩
      rw [ck_outages_q0]; unfold ck_outages_q0B ck_outages_q1 ck_outages_q1B
      rw [ltT h, ct, inIdx_nat h, ct, Int.toNat_natCast, drop_flat OutD_len _ _ h, dropC h, loopS, ho, loopS_some (fun _ _ => outS_some)]
      have hnm := @ck_name_v6_spec R N c
      generalize c.outs.l[j] = b at *
      have b1 : Nat.ble 4 (List.length (b.av ++ List.flatMap OutD.av (List.drop (j + 1) c.outs.l))) = true := by rw [nble, List.length_append, OutD_len]; simp
      have b2 : List.take 4 (b.av ++ List.flatMap OutD.av (List.drop (j + 1) c.outs.l)) = b.av := List.take_left' (OutD_len b)
      rw [b1, ct, b2, OutD_len]
      have hnam : ∀ f : List UInt8 → Option R, rdS b.av f = f b.name := fun f => by simp [OutD.av, rdS_cons]
      simp only [nbeq, decide_true, Bool.and_true, Bool.true_and, cond_true, ck_at_spec, hnam, o_lines, hnm hN (show j ≤ _ by omega) ⟨by have := hfit.1; omega, by have := hfit.2; omega⟩, ck_need_spec (show (4 : Int) ≠ 0 by decide), rd_err]
      cases h1 : ((b.lines.l.length : Int) == 1) with
      | true =>
        rw [h1] at hp
        simp only [Bool.true_or] at hp
        simp only [show (true == false) = false from rfl, cond_false, hp, errOf, hy, cond_true]
      | false =>
        rw [h1] at hp
        simp only [Bool.false_or] at hp
        simp only [beq_self_eq_true, cond_true, cond_false, hp, errOf, hy]
theorem ck_outages_spec {N : Nat} {c : CaseD} {p : Err} {k i : Int} {w : Bool} (hs : Small c N) : ∃ k' i' : Int, ∀ K : Bool → List AV → Option R, ck_outages N w (stC c p k i) K = K w (stC c (loopS (outS c) c.outs.l 0 p) k' i') := by
  obtain ⟨k', i', h⟩ := ck_outages_loop (R := R) (w := w) (w0 := w) (h0 := stC c p k i) hs c.outs.l.length 0 N p k i (by omega) hs.out.1
  refine ⟨k', i', fun K => ?_⟩
  rw [ck_outages_def]; unfold ck_outagesi ck_outagesB
  rw [rd_outs]
  simpa using h K
end
end Gx

namespace Gx
open Go Go.Proofs
section
variable {R : Type}

def strs (l : List (List UInt8)) : List AV := l.map fun s => .str s
theorem strs_length (l : List (List UInt8)) : (strs l).length = l.length := by simp [strs]
theorem rdS_strs {l : List (List UInt8)} {i : Nat} (h : i < l.length) {f : List UInt8 → Option R} : rdS (List.drop i (strs l)) f = f l[i] := by
  rw [strs, List.drop_eq_getElem_cons (by simpa using h)]; simp [rdS_cons]
theorem ca_take {c : CaseD} : List.take 8 c.av = c.av := rfl
theorem ca_len {c : CaseD} : Nat.ble 8 (List.length c.av) = true := rfl
theorem names_buses_loop {N : Nat} {c : CaseD} {o : Bool} {K : Nat → List AV → Option R} (hb : c.buses.l.length ≤ 1000000) : ∀ (m j fuel : Nat), j + m = c.buses.l.length → m < fuel →
    r17_Names_q0 N K o c.av fuel j (j : Int) (strs ((c.buses.l.take j).map (·.name))) = K c.buses.l.length (strs (c.buses.l.map (·.name)))
  | 0, j, fuel + 1, hj, _ => by
    rw [r17_Names_q0]; unfold r17_Names_q0B
    have hjl : j = c.buses.l.length := by omega
    rw [ca_buses, ltF (by omega), cf, List.take_of_length_le (by omega), hjl]
  | m + 1, j, fuel + 1, hj, hf => by
    rw [r17_Names_q0]; unfold r17_Names_q0B
    have h : j < c.buses.l.length := by omega
    have b3 : (Nat.ble (j + 1) 140737488355328 && Nat.ble ((j + 1) * 16) 140737488355328) = true := by rw [nble, nble]; simp; omega
    have b4 : List.take (j * 1) (strs ((c.buses.l.take j).map (·.name))) ++ [.str c.buses.l[j].name] = strs ((c.buses.l.take (j + 1)).map (·.name)) := by
      rw [List.take_of_length_le (by simp [strs_length]; omega), List.take_succ_eq_append_getElem h, List.map_append]; simp [strs]
    have b5 : ∀ f : List UInt8 → Option R, rdS (List.drop (j * 3) (List.flatMap BusD.av c.buses.l)) f = f c.buses.l[j].name := fun f => by rw [drop_flat BusD_len _ _ h]; simp [BusD.av, rdS_cons]
    rw [ca_buses, ltT h, ct, ca_buses, inIdx_nat h, ct, Int.toNat_natCast, b5, b3, ct, b4, wrapS (by omega), names_buses_loop hb m (j + 1) fuel (by omega) (by omega)]
theorem names_buses {N : Nat} {c : CaseD} {o : Bool} {K : Nat → List AV → Option R} (hs : Small c N) : r17_Names N c.av o 1 K = K (c.buses.l.map (·.name)).length (strs (c.buses.l.map (·.name))) := by
  rw [r17_Names_def]; unfold r17_Namesi r17_NamesB
  have := names_buses_loop (R := R) (N := N) (c := c) (o := o) (K := K) hs.top.1 c.buses.l.length 0 N (by omega) hs.bus.1
  simpa [strs] using this
theorem names_lines_loop {N : Nat} {c : CaseD} {o : Bool} {K : Nat → List AV → Option R} (hb : c.lines.l.length ≤ 1000000) : ∀ (m j fuel : Nat), j + m = c.lines.l.length → m < fuel →
    r17_Names_q1 N K o c.av fuel j (j : Int) (strs ((c.lines.l.take j).map (·.name))) = K c.lines.l.length (strs (c.lines.l.map (·.name)))
  | 0, j, fuel + 1, hj, _ => by
    rw [r17_Names_q1]; unfold r17_Names_q1B
    have hjl : j = c.lines.l.length := by omega
    rw [ca_lines, ltF (by omega), cf, List.take_of_length_le (by omega), hjl]
  | m + 1, j, fuel + 1, hj, hf => by
    rw [r17_Names_q1]; unfold r17_Names_q1B
    have h : j < c.lines.l.length := by omega
    have b3 : (Nat.ble (j + 1) 140737488355328 && Nat.ble ((j + 1) * 16) 140737488355328) = true := by rw [nble, nble]; simp; omega
    have b4 : List.take (j * 1) (strs ((c.lines.l.take j).map (·.name))) ++ [.str c.lines.l[j].name] = strs ((c.lines.l.take (j + 1)).map (·.name)) := by
      rw [List.take_of_length_le (by simp [strs_length]; omega), List.take_succ_eq_append_getElem h, List.map_append]; simp [strs]
    have b5 : ∀ f : List UInt8 → Option R, rdS (List.drop (j * 12) (List.flatMap LineD.av c.lines.l)) f = f c.lines.l[j].name := fun f => by rw [drop_flat LineD_len _ _ h]; simp [LineD.av, rdS_cons]
    rw [ca_lines, ltT h, ct, ca_lines, inIdx_nat h, ct, Int.toNat_natCast, b5, b3, ct, b4, wrapS (by omega), names_lines_loop hb m (j + 1) fuel (by omega) (by omega)]
theorem names_lines {N : Nat} {c : CaseD} {o : Bool} {K : Nat → List AV → Option R} (hs : Small c N) : r17_Names N c.av o 2 K = K (c.lines.l.map (·.name)).length (strs (c.lines.l.map (·.name))) := by
  rw [r17_Names_def]; unfold r17_Namesi r17_NamesB
  have := names_lines_loop (R := R) (N := N) (c := c) (o := o) (K := K) hs.top.2.1 c.lines.l.length 0 N (by omega) hs.lin.1
  simpa [strs] using this
theorem names_units_loop {N : Nat} {c : CaseD} {o : Bool} {K : Nat → List AV → Option R} (hb : c.units.l.length ≤ 1000000) : ∀ (m j fuel : Nat), j + m = c.units.l.length → m < fuel →
    r17_Names_q2 N K o c.av fuel j (j : Int) (strs ((c.units.l.take j).map (·.name))) = K c.units.l.length (strs (c.units.l.map (·.name)))
  | 0, j, fuel + 1, hj, _ => by
    rw [r17_Names_q2]; unfold r17_Names_q2B
    have hjl : j = c.units.l.length := by omega
    rw [ca_units, ltF (by omega), cf, List.take_of_length_le (by omega), hjl]
  | m + 1, j, fuel + 1, hj, hf => by
    rw [r17_Names_q2]; unfold r17_Names_q2B
    have h : j < c.units.l.length := by omega
    have b3 : (Nat.ble (j + 1) 140737488355328 && Nat.ble ((j + 1) * 16) 140737488355328) = true := by rw [nble, nble]; simp; omega
    have b4 : List.take (j * 1) (strs ((c.units.l.take j).map (·.name))) ++ [.str c.units.l[j].name] = strs ((c.units.l.take (j + 1)).map (·.name)) := by
      rw [List.take_of_length_le (by simp [strs_length]; omega), List.take_succ_eq_append_getElem h, List.map_append]; simp [strs]
    have b5 : ∀ f : List UInt8 → Option R, rdS (List.drop (j * 22) (List.flatMap UnitD.av c.units.l)) f = f c.units.l[j].name := fun f => by rw [drop_flat UnitD_len _ _ h]; simp [UnitD.av, rdS_cons]
    rw [ca_units, ltT h, ct, ca_units, inIdx_nat h, ct, Int.toNat_natCast, b5, b3, ct, b4, wrapS (by omega), names_units_loop hb m (j + 1) fuel (by omega) (by omega)]
theorem names_units {N : Nat} {c : CaseD} {o : Bool} {K : Nat → List AV → Option R} (hs : Small c N) : r17_Names N c.av o 3 K = K (c.units.l.map (·.name)).length (strs (c.units.l.map (·.name))) := by
  rw [r17_Names_def]; unfold r17_Namesi r17_NamesB
  have := names_units_loop (R := R) (N := N) (c := c) (o := o) (K := K) hs.top.2.2.1 c.units.l.length 0 N (by omega) hs.uni.1
  simpa [strs] using this
theorem names_stores_loop {N : Nat} {c : CaseD} {o : Bool} {K : Nat → List AV → Option R} (hb : c.stores.l.length ≤ 1000000) : ∀ (m j fuel : Nat), j + m = c.stores.l.length → m < fuel →
    r17_Names_q3 N K o c.av fuel j (j : Int) (strs ((c.stores.l.take j).map (·.name))) = K c.stores.l.length (strs (c.stores.l.map (·.name)))
  | 0, j, fuel + 1, hj, _ => by
    rw [r17_Names_q3]; unfold r17_Names_q3B
    have hjl : j = c.stores.l.length := by omega
    rw [ca_stores, ltF (by omega), cf, List.take_of_length_le (by omega), hjl]
  | m + 1, j, fuel + 1, hj, hf => by
    rw [r17_Names_q3]; unfold r17_Names_q3B
    have h : j < c.stores.l.length := by omega
    have b3 : (Nat.ble (j + 1) 140737488355328 && Nat.ble ((j + 1) * 16) 140737488355328) = true := by rw [nble, nble]; simp; omega
    have b4 : List.take (j * 1) (strs ((c.stores.l.take j).map (·.name))) ++ [.str c.stores.l[j].name] = strs ((c.stores.l.take (j + 1)).map (·.name)) := by
      rw [List.take_of_length_le (by simp [strs_length]; omega), List.take_succ_eq_append_getElem h, List.map_append]; simp [strs]
    have b5 : ∀ f : List UInt8 → Option R, rdS (List.drop (j * 9) (List.flatMap StoreD.av c.stores.l)) f = f c.stores.l[j].name := fun f => by rw [drop_flat StoreD_len _ _ h]; simp [StoreD.av, rdS_cons]
    rw [ca_stores, ltT h, ct, ca_stores, inIdx_nat h, ct, Int.toNat_natCast, b5, b3, ct, b4, wrapS (by omega), names_stores_loop hb m (j + 1) fuel (by omega) (by omega)]
theorem names_stores {N : Nat} {c : CaseD} {o : Bool} {K : Nat → List AV → Option R} (hs : Small c N) : r17_Names N c.av o 4 K = K (c.stores.l.map (·.name)).length (strs (c.stores.l.map (·.name))) := by
  rw [r17_Names_def]; unfold r17_Namesi r17_NamesB
  have := names_stores_loop (R := R) (N := N) (c := c) (o := o) (K := K) hs.top.2.2.2.1 c.stores.l.length 0 N (by omega) hs.sto.1
  simpa [strs] using this
theorem names_ties_loop {N : Nat} {c : CaseD} {o : Bool} {K : Nat → List AV → Option R} (hb : c.ties.l.length ≤ 1000000) : ∀ (m j fuel : Nat), j + m = c.ties.l.length → m < fuel →
    r17_Names_q4 N K o c.av fuel j (j : Int) (strs ((c.ties.l.take j).map (·.name))) = K c.ties.l.length (strs (c.ties.l.map (·.name)))
  | 0, j, fuel + 1, hj, _ => by
    rw [r17_Names_q4]; unfold r17_Names_q4B
    have hjl : j = c.ties.l.length := by omega
    rw [ca_ties, ltF (by omega), cf, List.take_of_length_le (by omega), hjl]
  | m + 1, j, fuel + 1, hj, hf => by
    rw [r17_Names_q4]; unfold r17_Names_q4B
    have h : j < c.ties.l.length := by omega
    have b3 : (Nat.ble (j + 1) 140737488355328 && Nat.ble ((j + 1) * 16) 140737488355328) = true := by rw [nble, nble]; simp; omega
    have b4 : List.take (j * 1) (strs ((c.ties.l.take j).map (·.name))) ++ [.str c.ties.l[j].name] = strs ((c.ties.l.take (j + 1)).map (·.name)) := by
      rw [List.take_of_length_le (by simp [strs_length]; omega), List.take_succ_eq_append_getElem h, List.map_append]; simp [strs]
    have b5 : ∀ f : List UInt8 → Option R, rdS (List.drop (j * 5) (List.flatMap TieD.av c.ties.l)) f = f c.ties.l[j].name := fun f => by rw [drop_flat TieD_len _ _ h]; simp [TieD.av, rdS_cons]
    rw [ca_ties, ltT h, ct, ca_ties, inIdx_nat h, ct, Int.toNat_natCast, b5, b3, ct, b4, wrapS (by omega), names_ties_loop hb m (j + 1) fuel (by omega) (by omega)]
theorem names_ties {N : Nat} {c : CaseD} {o : Bool} {K : Nat → List AV → Option R} (hs : Small c N) : r17_Names N c.av o 5 K = K (c.ties.l.map (·.name)).length (strs (c.ties.l.map (·.name))) := by
  rw [r17_Names_def]; unfold r17_Namesi r17_NamesB
  have := names_ties_loop (R := R) (N := N) (c := c) (o := o) (K := K) hs.top.2.2.2.2.1 c.ties.l.length 0 N (by omega) hs.tie.1
  simpa [strs] using this
theorem names_outs_loop {N : Nat} {c : CaseD} {o : Bool} {K : Nat → List AV → Option R} (hb : c.outs.l.length ≤ 1000000) : ∀ (m j fuel : Nat), j + m = c.outs.l.length → m < fuel →
    r17_Names_q5 N K o c.av fuel j (j : Int) (strs ((c.outs.l.take j).map (·.name))) = K c.outs.l.length (strs (c.outs.l.map (·.name)))
  | 0, j, fuel + 1, hj, _ => by
    rw [r17_Names_q5]; unfold r17_Names_q5B
    have hjl : j = c.outs.l.length := by omega
    rw [ca_outs, ltF (by omega), cf, List.take_of_length_le (by omega), hjl]
  | m + 1, j, fuel + 1, hj, hf => by
    rw [r17_Names_q5]; unfold r17_Names_q5B
    have h : j < c.outs.l.length := by omega
    have b3 : (Nat.ble (j + 1) 140737488355328 && Nat.ble ((j + 1) * 16) 140737488355328) = true := by rw [nble, nble]; simp; omega
    have b4 : List.take (j * 1) (strs ((c.outs.l.take j).map (·.name))) ++ [.str c.outs.l[j].name] = strs ((c.outs.l.take (j + 1)).map (·.name)) := by
      rw [List.take_of_length_le (by simp [strs_length]; omega), List.take_succ_eq_append_getElem h, List.map_append]; simp [strs]
    have b5 : ∀ f : List UInt8 → Option R, rdS (List.drop (j * 4) (List.flatMap OutD.av c.outs.l)) f = f c.outs.l[j].name := fun f => by rw [drop_flat OutD_len _ _ h]; simp [OutD.av, rdS_cons]
    rw [ca_outs, ltT h, ct, ca_outs, inIdx_nat h, ct, Int.toNat_natCast, b5, b3, ct, b4, wrapS (by omega), names_outs_loop hb m (j + 1) fuel (by omega) (by omega)]
theorem names_outs {N : Nat} {c : CaseD} {o : Bool} {K : Nat → List AV → Option R} (hs : Small c N) : r17_Names N c.av o 6 K = K (c.outs.l.map (·.name)).length (strs (c.outs.l.map (·.name))) := by
  rw [r17_Names_def]; unfold r17_Namesi r17_NamesB
  have := names_outs_loop (R := R) (N := N) (c := c) (o := o) (K := K) hs.top.2.2.2.2.2 c.outs.l.length 0 N (by omega) hs.out.1
  simpa [strs] using this

theorem fi_name_loop {N : Nat} {L : List (List UInt8)} {k : Int} {n : Nat} {K : List AV → Option R} (hn : n < L.length) (hs : n < 4611686018427387904) : ∀ (m j fuel : Nat) (p : Err), j + m = n → m < fuel →
    fi_name_q0 N K k (n : Int) L.length (strs L) fuel (j : Int) (fst4 p) = K (fst4 (nd p (((L.take n).drop j).all fun x => !(x == L[n])) (k, n, 0) ⟨10, by decide⟩))
  | 0, j, fuel + 1, p, hj, _ => by
    rw [fi_name_q0]; unfold fi_name_q0B
    rw [ltF (by omega), cf, dropN (l := L.take n) (by simp; omega), List.all_nil, nd_true]
  | m + 1, j, fuel + 1, p, hj, hf => by
    rw [fi_name_q0]; unfold fi_name_q0B
    have h : j < L.length := by omega
    have h2 : j < (L.take n).length := by simp; omega
    rw [ltT (by omega), ct, inIdx_nat h, ct, Int.toNat_natCast, Nat.zero_add, Nat.mul_one, rdS_strs h, inIdx_nat hn, ct, Int.toNat_natCast, Nat.zero_add, Nat.mul_one, rdS_strs hn, fi_need_spec (by decide), wrapS (by omega), fi_name_loop hn hs m (j + 1) fuel _ (by omega) (by omega), dropC h2, List.all_cons, nd_nd]
    have e : (L.take n)[j] = L[j] := by simp
    rw [e]
theorem fi_name_spec {N : Nat} {c : CaseD} {L : List (List UInt8)} {o : Bool} {p : Err} {k : Int} {n : Nat} {K : List AV → Option R} (hN : 64 ≤ N) (hL : ∀ K : Nat → List AV → Option R, r17_Names N c.av o k K = K L.length (strs L)) (hn : n < L.length) (hs : fits n N) :
    fi_name N c.av o k (n : Int) (fst4 p) K = K (fst4 (nameS (L.take n) k n L[n] p)) := by
  rw [fi_name_def]; unfold fi_namei fi_nameB
  rw [ca_take, ca_len, ct, hL, inIdx_nat hn, ct, Int.toNat_natCast, Nat.zero_add, Nat.mul_one, rdS_strs hn, r17_Name_spec hN, fi_need_spec (by decide)]
  have := fi_name_loop (R := R) (N := N) (L := L) (k := k) (n := n) (K := K) hn hs.2 n 0 N (nd p (nameOk L[n]) (k, n, 0) ⟨9, by decide⟩) (by omega) hs.1
  simpa [nameS] using this

theorem fi_frame_loop {N fuel : Nat} {c : CaseD} {o : Bool} {p : Err} {K : List AV → Option R} (hs : Small c N) : fi_frame_q0 N K o c.av (fuel + 6) 2 (fst4 p) = K (fst4
    (nd (nd (nd (nd (nd p (decide ((c.lines.l.length : Int) ≤ 64)) (0, 0, 3) e8) (decide ((c.units.l.length : Int) ≤ 16)) (0, 0, 4) e8) (decide ((c.stores.l.length : Int) ≤ 8)) (0, 0, 5) e8) (decide ((c.ties.l.length : Int) ≤ 8)) (0, 0, 6) e8) (decide ((c.outs.l.length : Int) ≤ 64)) (0, 0, 7) e8)) := by
  have most : ∀ (k : Nat) (n : Int) (K : Int → Option R), k < 7 → ([0, 32, 64, 16, 8, 8, 64] : List Int)[k]? = some n → r17_Most N (k : Int) K = K n := by
    intro k n K hk he
    rw [r17_Most_def]; unfold r17_Mosti r17_MostB
    rw [inIdx_nat hk, ct]
    have e : [(.int .i64 (0 : Int)), (.int .i64 (32 : Int)), (.int .i64 (64 : Int)), (.int .i64 (16 : Int)), (.int .i64 (8 : Int)), (.int .i64 (8 : Int)), (.int .i64 (64 : Int))] = ints [0, 32, 64, 16, 8, 8, 64] := rfl
    rw [e, Int.toNat_natCast, Nat.zero_add, Nat.mul_one, rdI_ints (by simpa using hk)]
    rw [List.getElem?_eq_getElem (by simpa using hk)] at he
    simp only [Option.some.injEq] at he
    rw [he]
  have m2 : ∀ K : Int → Option R, r17_Most N 2 K = K 64 := fun K => most 2 64 K (by omega) rfl
  have m3 : ∀ K : Int → Option R, r17_Most N 3 K = K 16 := fun K => most 3 16 K (by omega) rfl
  have m4 : ∀ K : Int → Option R, r17_Most N 4 K = K 8 := fun K => most 4 8 K (by omega) rfl
  have m5 : ∀ K : Int → Option R, r17_Most N 5 K = K 8 := fun K => most 5 8 K (by omega) rfl
  have m6 : ∀ K : Int → Option R, r17_Most N 6 K = K 64 := fun K => most 6 64 K (by omega) rfl
  have w2 : IntKind.wrap .i64 (2 + 1) = 3 := rfl
  have w3 : IntKind.wrap .i64 (3 + 1) = 4 := rfl
  have w4 : IntKind.wrap .i64 (4 + 1) = 5 := rfl
  have w5 : IntKind.wrap .i64 (5 + 1) = 6 := rfl
  have w6 : IntKind.wrap .i64 (6 + 1) = 7 := rfl
  rw [fi_frame_q0]; unfold fi_frame_q0B
  rw [show decide ((2 : Int) ≤ 6) = true from rfl, ct, ca_len, ct, ca_take, names_lines hs, m2, fi_need_spec (by decide), w2]
  rw [fi_frame_q0]; unfold fi_frame_q0B
  rw [show decide ((3 : Int) ≤ 6) = true from rfl, ct, ca_len, ct, ca_take, names_units hs, m3, fi_need_spec (by decide), w3]
  rw [fi_frame_q0]; unfold fi_frame_q0B
  rw [show decide ((4 : Int) ≤ 6) = true from rfl, ct, ca_len, ct, ca_take, names_stores hs, m4, fi_need_spec (by decide), w4]
  rw [fi_frame_q0]; unfold fi_frame_q0B
  rw [show decide ((5 : Int) ≤ 6) = true from rfl, ct, ca_len, ct, ca_take, names_ties hs, m5, fi_need_spec (by decide), w5]
  rw [fi_frame_q0]; unfold fi_frame_q0B
  rw [show decide ((6 : Int) ≤ 6) = true from rfl, ct, ca_len, ct, ca_take, names_outs hs, m6, fi_need_spec (by decide), w6]
  rw [fi_frame_q0]; unfold fi_frame_q0B
  rw [show decide ((7 : Int) ≤ 6) = false from rfl, cf]
  simp only [List.length_map]
theorem fi_frame_spec {N : Nat} {c : CaseD} {o : Bool} {p : Err} {K : List AV → Option R} (hs : Small c N) : fi_frame N c.av o (fst4 p) K = K (fst4 (wholeS c p)) := by
  have hN := hs.n64
  rw [fi_frame_def]; unfold fi_framei fi_frameB
  have := fun p => fi_frame_loop (fuel := N - 6) (o := o) (p := p) (K := K) hs
  rw [show N - 6 + 6 = N by omega] at this
  simp only [ca_hours, r18_between_one (show 8 ≤ N by omega), fi_need_spec (show (3 : Int) ≠ 0 by decide), fi_need_spec (show (8 : Int) ≠ 0 by decide), ca_len, ct, ca_take, ca_reserve, ca_buses, fi_hourly_spec rfl hs.res, this]
  rfl
end
end Gx

namespace Gx
open Go Go.Proofs
section
variable {R : Type}

theorem fd_err {p : Err} {f : Int → Option R} : rdI .i64 (List.drop 3 (fst4 p)) f = f (errOf p) := by
  rcases p with _ | ⟨⟨a, b, f'⟩, e, he⟩ <;> simp [fst4, fin4, rdI_cons, errOf]
/- The segments of a unit. -/
theorem fi_seg2_loop {N : Nat} {i : Int} {u : UnitD} {o : Bool} {p : Err} {K : List AV → Option R} (hs : u.segs.l.length < 4611686018427387904) : ∀ (m j fuel : Nat) (a : Int), j + m = u.segs.l.length → m < fuel →
    fi_segments_q2 N K i (fst4 p) o u.av fuel a (j : Int) = K (fst4 (nd p (wsum a (u.segs.l.drop j) == IntKind.wrap .i64 (u.max - u.min)) (3, i, 4) e4))
  | 0, j, fuel + 1, a, hj, _ => by
    rw [fi_segments_q2]; unfold fi_segments_q2B
    simp only [u_segs, u_max, u_min, fd_err, fi_need_spec (show (4 : Int) ≠ 0 by decide)]
    rw [ltF (by omega), dropN (l := u.segs.l) (by omega), wsum, nd_true]
    rcases p with _ | ⟨x, e, he⟩
    · simp [errOf]
    · have : (e != 0) = true := by simpa using he
      simp [errOf, this, nd]
  | m + 1, j, fuel + 1, a, hj, hf => by
    rw [fi_segments_q2]; unfold fi_segments_q2B
    have h : j < u.segs.l.length := by omega
    simp only [u_segs, u_max, u_min, fd_err, fi_need_spec (show (4 : Int) ≠ 0 by decide), seg_width h, inIdx_nat h]
    rw [ltT h, wrapS (by omega), fi_seg2_loop hs m (j + 1) fuel _ (by omega) (by omega), dropC h, wsum, nd_true]
    rcases p with _ | ⟨x, e, he⟩
    · simp [errOf]
    · have h1 : (e != 0) = true := by simpa using he
      have h2 : (e == 0) = false := by simpa using he
      simp [errOf, h1, h2, nd]
theorem fi_seg1_loop {N : Nat} {i : Int} {u : UnitD} {o : Bool} {K : List AV → Option R} (hs : fits u.segs.l.length N) : ∀ (m j fuel : Nat) (p : Err), j + 1 + m = u.segs.l.length → m < fuel →
    fi_segments_q1 N K i o u.av fuel ((j + 1 : Nat) : Int) (fst4 p) = K (fst4 (nd (nd p (ordP (u.segs.l.drop j)) (3, i, 4) e11) (wsum 0 u.segs.l == IntKind.wrap .i64 (u.max - u.min)) (3, i, 4) e4))
  | 0, j, fuel + 1, p, hj, _ => by
    rw [fi_segments_q1]; unfold fi_segments_q1B
    rw [u_segs, ltF (by omega), cf, dropC (l := u.segs.l) (j := j) (by omega), dropN (l := u.segs.l) (j := j + 1) (by omega), ordP_one, nd_true]
    have := fi_seg2_loop (R := R) (N := N) (i := i) (u := u) (o := o) (p := p) (K := K) hs.2 u.segs.l.length 0 N 0 (by omega) hs.1
    simpa using this
  | m + 1, j, fuel + 1, p, hj, hf => by
    rw [fi_segments_q1]; unfold fi_segments_q1B
    have h : j + 1 < u.segs.l.length := by omega
    have h' : j < u.segs.l.length := by omega
    have hs2 := hs.2
    simp only [u_segs]
    rw [ltT h, ct, inIdx_nat h, ct, seg_price h, wrapP (by omega), inIdx_nat h', ct, seg_price h', wrapS (by omega), fi_need_spec (by decide), fi_seg1_loop hs m (j + 1) fuel _ (by omega) (by omega), dropC h', dropC h, ordP_cons2, nd_nd]
theorem fi_seg0_loop {N : Nat} {i : Int} {u : UnitD} {o : Bool} {K : List AV → Option R} (hN : 8 ≤ N) (hs : fits u.segs.l.length N) : ∀ (m j fuel : Nat) (p : Err), j + m = u.segs.l.length → m < fuel →
    fi_segments_q0 N K i (u.segs.l.flatMap SegD.av) u.segs.l.length o u.av fuel (u.segs.l.length : Int) (j : Int) (fst4 p) =
      K (fst4 (nd (nd (nd p ((u.segs.l.drop j).all segOk) (3, i, 4) e3) (ordP u.segs.l) (3, i, 4) e11) (wsum 0 u.segs.l == IntKind.wrap .i64 (u.max - u.min)) (3, i, 4) e4))
  | 0, j, fuel + 1, p, hj, _ => by
    rw [fi_segments_q0]; unfold fi_segments_q0B
    rw [ltF (by omega), cf, dropN (l := u.segs.l) (by omega), List.all_nil, nd_true]
    rcases hl : u.segs.l with _ | ⟨b, r⟩
    · rw [ordP_nil, nd_true]
      have l2 := fi_seg2_loop (R := R) (N := N) (i := i) (u := u) (o := o) (p := p) (K := K) hs.2 u.segs.l.length 0 N 0 (by omega) hs.1
      rcases N with _ | N
      · omega
      · dsimp only
        rw [fi_segments_q1]; unfold fi_segments_q1B
        rw [u_segs, hl]
        simp only [List.length_nil, Int.natCast_zero]
        rw [show decide ((1 : Int) < 0) = false by decide, cf]
        rw [hl] at l2
        simpa using l2
    · have := fi_seg1_loop (R := R) (N := N) (i := i) (u := u) (o := o) (K := K) hs r.length 0 N p (by rw [hl]; simp; omega) (by have := hs.1; rw [hl] at this; simp at this; omega)
      rw [hl] at this
      simpa using this
  | m + 1, j, fuel + 1, p, hj, hf => by
    rw [fi_segments_q0]; unfold fi_segments_q0B
    have h : j < u.segs.l.length := by omega
    have hs2 := hs.2
    rw [ltT h, ct, inIdx_nat h, ct, Int.toNat_natCast, drop_flat SegD_len _ _ h, dropC h, List.all_cons, wrapS (by omega)]
    have b1 : Nat.ble 2 (List.length (u.segs.l[j].av ++ List.flatMap SegD.av (List.drop (j + 1) u.segs.l))) = true := by rw [nble, List.length_append, SegD_len]; simp
    have b2 : List.take 2 (u.segs.l[j].av ++ List.flatMap SegD.av (List.drop (j + 1) u.segs.l)) = u.segs.l[j].av := List.take_left' (SegD_len _)
    rw [b1, ct, b2, SegD_len]
    simp only [SegD.av, setCells, splice, List.nil_append, List.append_nil, List.drop_nil, List.drop_succ_cons, List.drop_zero, List.take_zero, List.length_cons, List.length_nil, rdI_cons, nble, nbeq, plainZ, Nat.reduceAdd, decide_true, Bool.and_true, Bool.or_true, Bool.not_false, cond_true, Nat.zero_add, Nat.le_refl, r18_between_one hN, fi_need_spec (show (3 : Int) ≠ 0 by decide), fi_seg0_loop hN hs m (j + 1) fuel _ (show j + 1 + m = _ by omega) (show m < fuel by omega)]
    unfold segOk
    rw [nd_nd, nd_nd]
    cases btw 1 1048576 u.segs.l[j].width <;> rfl
theorem fi_segments_spec {N : Nat} {p : Err} {j : Nat} {u : UnitD} {o : Bool} {K : List AV → Option R} (hN : 8 ≤ N) (hs : fits u.segs.l.length N) :
    fi_segments N u.av o (j : Int) (fst4 p) K = K (fst4 (segS u j p)) := by
  rw [fi_segments_def]; unfold fi_segmentsi fi_segmentsB
  simp only [u_segs, fi_need_spec (show (8 : Int) ≠ 0 by decide)]
  have := fi_seg0_loop (R := R) (N := N) (i := j) (u := u) (o := o) (K := K) hN hs u.segs.l.length 0 N (nd p (decide ((u.segs.l.length : Int) ≤ 8)) (3, j, 4) e8) (by omega) hs.1
  simpa [segS] using this
/- The moves of an outage. -/
theorem fi_mv2_loop {N : Nat} {i : Int} {l : List MoveD} {o : Bool} {K : List AV → Option R} (hN : 8 ≤ N) (hs : l.length < 4611686018427387904) : ∀ (m j fuel : Nat) (p : Err), j + m = l.length → m < fuel →
    fi_outage_q2 N K i (l.flatMap MoveD.av) l.length o fuel (l.length : Int) (j : Int) (fst4 p) = K (fst4 (nd p ((l.drop j).all mvIn) (6, i, 3) e3))
  | 0, j, fuel + 1, p, hj, _ => by
    rw [fi_outage_q2]; unfold fi_outage_q2B
    rw [ltF (by omega), cf, dropN (by omega), List.all_nil, nd_true]
  | m + 1, j, fuel + 1, p, hj, hf => by
    rw [fi_outage_q2]; unfold fi_outage_q2B
    have h : j < l.length := by omega
    rw [ltT h, ct, inIdx_nat h, ct, Int.toNat_natCast, drop_flat MoveD_len _ _ h, dropC h, List.all_cons, wrapS (by omega)]
    have b1 : Nat.ble 3 (List.length (l[j].av ++ List.flatMap MoveD.av (List.drop (j + 1) l))) = true := by rw [nble, List.length_append, MoveD_len]; simp
    have b2 : List.take 3 (l[j].av ++ List.flatMap MoveD.av (List.drop (j + 1) l)) = l[j].av := List.take_left' (MoveD_len _)
    rw [b1, ct, b2, MoveD_len]
    simp only [MoveD.av, setCells, splice, List.nil_append, List.append_nil, List.drop_nil, List.drop_succ_cons, List.drop_zero, List.take_zero, List.length_cons, List.length_nil, rdI_cons, nble, nbeq, plainZ, Nat.reduceAdd, decide_true, Bool.and_true, Bool.or_true, Bool.not_false, cond_true, Nat.zero_add, Nat.le_refl, r18_between_two hN, fi_need_spec (show (3 : Int) ≠ 0 by decide), fi_mv2_loop hN hs m (j + 1) fuel _ (show j + 1 + m = _ by omega) (show m < fuel by omega)]
    rw [nd_nd]; rfl
theorem fi_mv1_loop {N : Nat} {c : CaseD} {i : Int} {u : OutD} {o : Bool} {p : Err} {K : List AV → Option R} (hN : 8 ≤ N) (hu : c.units.l.length ≤ 1000000) (hs : fits u.moves.l.length N) (hb : u.moves.l.length < 8796093022208) : ∀ (m j fuel : Nat), j + m = u.moves.l.length → m < fuel →
    fi_outage_q1 N K i (u.moves.l.flatMap MoveD.av) u.moves.l.length o (fst4 p) c.av u.av fuel j (u.moves.l.length : Int) (j : Int) (ints ((u.moves.l.take j).map (·.unit))) =
      K (fst4 (nd (nd (nd p (u.moves.l.all (mvOk c)) (6, i, 3) e12) (asc (u.moves.l.map (·.unit))) (6, i, 3) e11) (u.moves.l.all mvIn) (6, i, 3) e3))
  | 0, j, fuel + 1, hj, _ => by
    rw [fi_outage_q1]; unfold fi_outage_q1B
    have hjl : j = u.moves.l.length := by omega
    rw [ltF (by omega), cf, Nat.mul_one, List.take_of_length_le (by simp [ints_length]; omega), List.take_of_length_le (show u.moves.l.length ≤ j by omega)]
    rw [ca_units, r18_between_spec (by simp; omega) (by simpa using hs), fi_need_spec (by decide), r18_rising_spec (by simp; omega) (by simpa using hs), fi_need_spec (by decide), o_moves]
    have := fi_mv2_loop (R := R) (N := N) (i := i) (l := u.moves.l) (o := o) (K := K) hN hs.2 u.moves.l.length 0 N (nd (nd p (u.moves.l.all (mvOk c)) (6, i, 3) e12) (asc (u.moves.l.map (·.unit))) (6, i, 3) e11) (by omega) hs.1
    have e : (u.moves.l.map (·.unit)).all (btw 0 (IntKind.wrap .i64 ((c.units.l.length : Int) - 1))) = u.moves.l.all (mvOk c) := by
      rw [List.all_map]; congr 1; funext m; exact btw_lt _ _ (by omega)
    rw [e]
    simpa using this
  | m + 1, j, fuel + 1, hj, hf => by
    rw [fi_outage_q1]; unfold fi_outage_q1B
    have h : j < u.moves.l.length := by omega
    have b1 : Nat.ble 3 (List.length (u.moves.l[j].av ++ List.flatMap MoveD.av (List.drop (j + 1) u.moves.l))) = true := by rw [nble, List.length_append, MoveD_len]; simp
    have b2 : List.take 3 (u.moves.l[j].av ++ List.flatMap MoveD.av (List.drop (j + 1) u.moves.l)) = u.moves.l[j].av := List.take_left' (MoveD_len _)
    have b3 : (decide (j ≤ 140737488355327) && decide ((j + 1) * 8 ≤ 140737488355328)) = true := by simp; omega
    have b4 : List.take (j * 1) (ints ((u.moves.l.take j).map (·.unit))) ++ [.int .i64 u.moves.l[j].unit] = ints ((u.moves.l.take (j + 1)).map (·.unit)) := by
      rw [List.take_of_length_le (by simp [ints_length]; omega), List.take_succ_eq_append_getElem h, List.map_append, ← ints_append]; rfl
    rw [ltT h, ct, inIdx_nat h, ct, Int.toNat_natCast, drop_flat MoveD_len _ _ h, wrapS (by omega), b1, ct, b2, MoveD_len]
    simp only [MoveD.av, setCells, splice, List.nil_append, List.append_nil, List.drop_nil, List.drop_succ_cons, List.take_zero, List.length_cons, List.length_nil, rdI_cons, nble, nbeq, plainZ, Nat.reduceAdd, Nat.reduceLeDiff, decide_true, Bool.and_true, Bool.or_true, Bool.not_false, cond_true, Nat.zero_add, Nat.le_refl, b3, b4, fi_mv1_loop hN hu hs hb m (j + 1) fuel (show j + 1 + m = _ by omega) (show m < fuel by omega)]

theorem fi_tie_spec {N : Nat} {c : CaseD} {p : Err} {o : Bool} {j : Nat} {K : List AV → Option R} (hs : Small c N) (h : j < c.ties.l.length) :
    fi_tie N c.av o (j : Int) (fst4 p) K = K (fst4 (tieS c j c.ties.l[j] p)) := by
  have hN := hs.n64
  have hN8 : 8 ≤ N := by omega
  have hfit := hs.tie
  have htop := hs.top
  have hm : c.ties.l[j] ∈ c.ties.l := List.getElem_mem h
  have hd := hs.tim _ hm; have hd2 := hs.tex _ hm; have hd3 := hs.tpr _ hm
  have hnm := @fi_name_spec R N c (c.ties.l.map (·.name)) o (k := 5) (n := j) (hN := hN) (hL := fun K => names_ties hs) (hn := by simpa using h) (hs := ⟨by have := hfit.1; omega, by have := hfit.2; omega⟩)
  have hne : (c.ties.l.map (·.name))[j]'(by simpa using h) = c.ties.l[j].name := by simp
  rw [hne] at hnm
  rw [fi_tie_def]; unfold fi_tiei fi_tieB 
  rw [ca_ties, inIdx_nat h, ct, Int.toNat_natCast, drop_flat TieD_len _ _ h]
  generalize c.ties.l[j] = b at *
  have b1 : Nat.ble 5 (List.length (b.av ++ List.flatMap TieD.av (List.drop (j + 1) c.ties.l))) = true := by rw [nble, List.length_append, TieD_len]; simp
  have b2 : List.take 5 (b.av ++ List.flatMap TieD.av (List.drop (j + 1) c.ties.l)) = b.av := List.take_left' (TieD_len b)
  rw [b1, ct, b2, TieD_len]
  
  simp only [ca_take, hnm, TieD.av, List.drop_succ_cons, List.drop_zero, rdI_cons, rdL_sl, flat_ints, nble, nbeq, decide_true, Bool.and_true, cond_true]
  simp only [fi_bus_spec hN8 (show c.buses.l.length < 4611686018427387904 by omega), fi_hourly_spec rfl hd, fi_hourly_spec rfl hd2, fi_hourly_spec rfl hd3]
  rfl
theorem fi_store_spec {N : Nat} {c : CaseD} {p : Err} {o : Bool} {j : Nat} {K : List AV → Option R} (hs : Small c N) (h : j < c.stores.l.length) :
    fi_store N c.av o (j : Int) (fst4 p) K = K (fst4 (storeS c j c.stores.l[j] p)) := by
  have hN := hs.n64
  have hN8 : 8 ≤ N := by omega
  have hfit := hs.sto
  have htop := hs.top
  have hm : c.stores.l[j] ∈ c.stores.l := List.getElem_mem h
  skip
  have hnm := @fi_name_spec R N c (c.stores.l.map (·.name)) o (k := 4) (n := j) (hN := hN) (hL := fun K => names_stores hs) (hn := by simpa using h) (hs := ⟨by have := hfit.1; omega, by have := hfit.2; omega⟩)
  have hne : (c.stores.l.map (·.name))[j]'(by simpa using h) = c.stores.l[j].name := by simp
  rw [hne] at hnm
  rw [fi_store_def]; unfold fi_storei fi_storeB 
  rw [ca_stores, inIdx_nat h, ct, Int.toNat_natCast, drop_flat StoreD_len _ _ h]
  generalize c.stores.l[j] = b at *
  have b1 : Nat.ble 9 (List.length (b.av ++ List.flatMap StoreD.av (List.drop (j + 1) c.stores.l))) = true := by rw [nble, List.length_append, StoreD_len]; simp
  have b2 : List.take 9 (b.av ++ List.flatMap StoreD.av (List.drop (j + 1) c.stores.l)) = b.av := List.take_left' (StoreD_len b)
  rw [b1, ct, b2, StoreD_len]
  
  simp only [ca_take, hnm, StoreD.av, List.drop_succ_cons, List.drop_zero, List.take_succ_cons, List.take_zero, List.length_cons, List.length_nil, rdI_cons, nble, nbeq, plainZ, Nat.reduceAdd, decide_true, Bool.and_true, Bool.or_true, cond_true, Nat.zero_add, Nat.le_refl]
  simp only [fi_bus_spec hN8 (show c.buses.l.length < 4611686018427387904 by omega), r18_between_one hN8, fi_need_spec (show (3 : Int) ≠ 0 by decide), r18_fraction_spec hN8]
  unfold storeS; cases fracOk b.eff <;> cases decide (b.eff.num > 0) <;> rfl
theorem fi_line_spec {N : Nat} {c : CaseD} {p : Err} {o : Bool} {j : Nat} {K : List AV → Option R} (hs : Small c N) (h : j < c.lines.l.length) :
    fi_line N c.av o (j : Int) (fst4 p) K = K (fst4 (lineS c j c.lines.l[j] p)) := by
  have hN := hs.n64
  have hN8 : 8 ≤ N := by omega
  have hfit := hs.lin
  have htop := hs.top
  have hm : c.lines.l[j] ∈ c.lines.l := List.getElem_mem h
  have hd := hs.law _ hm
  have hnm := @fi_name_spec R N c (c.lines.l.map (·.name)) o (k := 2) (n := j) (hN := hN) (hL := fun K => names_lines hs) (hn := by simpa using h) (hs := ⟨by have := hfit.1; omega, by have := hfit.2; omega⟩)
  have hne : (c.lines.l.map (·.name))[j]'(by simpa using h) = c.lines.l[j].name := by simp
  rw [hne] at hnm
  rw [fi_line_def]; unfold fi_linei fi_lineB fi_line_q0 fi_line_q0B fi_line_q1 fi_line_q1B fi_line_q2 fi_line_q2B
  rw [ca_lines, inIdx_nat h, ct, Int.toNat_natCast, drop_flat LineD_len _ _ h]
  generalize c.lines.l[j] = b at *
  have b1 : Nat.ble 12 (List.length (b.av ++ List.flatMap LineD.av (List.drop (j + 1) c.lines.l))) = true := by rw [nble, List.length_append, LineD_len]; simp
  have b2 : List.take 12 (b.av ++ List.flatMap LineD.av (List.drop (j + 1) c.lines.l)) = b.av := List.take_left' (LineD_len b)
  rw [b1, ct, b2, LineD_len]
  
  simp only [ca_take, hnm, LineD.av, List.drop_succ_cons, List.drop_zero, List.take_succ_cons, List.take_zero, List.length_cons, List.length_nil, rdI_cons, rdL_sl, flat_ints, nble, nbeq, plainZ, Nat.reduceAdd, Nat.reduceLeDiff, decide_true, Bool.and_true, Bool.or_true, cond_true, Nat.zero_add]
  simp only [fi_bus_spec hN8 (show c.buses.l.length < 4611686018427387904 by omega), r18_between_one hN8, fi_need_spec (show (1 : Int) ≠ 0 by decide), fi_need_spec (show (3 : Int) ≠ 0 by decide), r18_fraction_spec hN8, fi_away_spec rfl hd]
  unfold lineS; rw [show (b.fr != b.to) = (b.to != b.fr) by simp [bne, BEq.comm (a := b.fr)]]; cases fracOk b.re <;> cases fracOk b.smin <;> cases fracOk b.smax <;> rfl
end
end Gx

namespace Gx
open Go Go.Proofs
section
variable {R : Type}

def unitA (c : CaseD) (j : Nat) (u : UnitD) (p : Err) : Err :=
  let p := nameS ((c.units.l.map (·.name)).take j) 3 j u.name p
  let p := nd p (busOk c u.bus) (3, j, 1) e12
  let p := nd p (btw 0 1048576 u.min) (3, j, 2) e3
  let p := nd p (btw u.min 1048576 u.max) (3, j, 3) e3
  let p := segS u j p
  let p := nd p (btw 0 1048576 u.noLoad) (3, j, 5) e3
  let p := nd p (btw 0 1048576 u.rampUp) (3, j, 6) e3
  let p := nd p (btw 0 1048576 u.rampDown) (3, j, 7) e3
  let p := nd p (btw u.min u.max u.startRamp) (3, j, 8) e3
  let p := nd p (btw u.min u.max u.stopRamp) (3, j, 9) e3
  let p := nd p (btw 0 24 u.upTime) (3, j, 10) e3
  nd p (btw 0 24 u.downTime) (3, j, 11) e3
def unitB (c : CaseD) (j : Nat) (u : UnitD) (p : Err) : Err :=
  let p := nd p (btw 0 24 u.startTime) (3, j, 12) e3
  let p := nd p (btw 0 1048576 u.hotCost) (3, j, 13) e3
  let p := nd p (btw 0 1048576 u.coldCost) (3, j, 14) e3
  let p := nd p (btw 0 24 u.hotHours) (3, j, 15) e3
  let p := nd p (btw 0 1048576 u.reserve) (3, j, 16) e3
  let p := nd p (btw 0 1048576 u.reservePrice) (3, j, 17) e3
  let p := awayS c.hours u.away.l (3, j, 18) p
  let p := nd p (btw 0 2 u.state) (3, j, 19) e12
  let p := nd p (u.state != 1 || decide (u.startTime > 0)) (3, j, 19) e16
  let p := nd p (btw 1 48 u.hours) (3, j, 20) e3
  let p := nd p (u.state != 1 || decide (u.hours ≤ u.startTime)) (3, j, 20) e3
  cond (u.state == 2) (nd p (btw u.min u.max u.output) (3, j, 21) e3) (nd p (u.output == 0) (3, j, 21) e3)
theorem btw00 (n : Int) : btw 0 0 n = (n == 0) := by
  unfold btw
  by_cases h : n = 0
  · simp [h]
  · have : (n == 0) = false := by simpa using h
    rw [this]; simp; omega
theorem unit_eq {c : CaseD} {j : Nat} {u : UnitD} {p : Err} : unitB c j u (unitA c j u p) = unitS c j u p := by
  show _ = (let p := nd (unitA c j u p) (btw 0 24 u.startTime) (3, j, 12) e3
    let p := nd p (btw 0 1048576 u.hotCost) (3, j, 13) e3
    let p := nd p (btw 0 1048576 u.coldCost) (3, j, 14) e3
    let p := nd p (btw 0 24 u.hotHours) (3, j, 15) e3
    let p := nd p (btw 0 1048576 u.reserve) (3, j, 16) e3
    let p := nd p (btw 0 1048576 u.reservePrice) (3, j, 17) e3
    let p := awayS c.hours u.away.l (3, j, 18) p
    let p := nd p (btw 0 2 u.state) (3, j, 19) e12
    let p := nd p (u.state != 1 || u.startTime != 0) (3, j, 19) e16
    let p := nd p (btw 1 48 u.hours) (3, j, 20) e3
    let p := nd p (u.state != 1 || decide (u.hours ≤ u.startTime)) (3, j, 20) e3
    cond (u.state == 2) (nd p (btw u.min u.max u.output) (3, j, 21) e3) (nd p (btw 0 0 u.output) (3, j, 21) e3))
  unfold unitB
  rw [btw00]
  cases hq : nd (unitA c j u p) (btw 0 24 u.startTime) (3, (j : Int), 12) e3 with
  | some x => simp only [nd_some, awayS]
  | none =>
    have hst : btw 0 24 u.startTime = true := by
      cases hb : btw 0 24 u.startTime with
      | true => rfl
      | false =>
        rw [hb] at hq
        cases hp : unitA c j u p <;> rw [hp] at hq <;> simp [nd] at hq
    have : decide (u.startTime > 0) = (u.startTime != 0) := by
      unfold btw at hst
      simp at hst
      by_cases h : u.startTime = 0
      · simp [h]
      · have h1 : (u.startTime != 0) = true := by simpa using h
        rw [h1]; simp; omega
    rw [this]

theorem fi_unit_spec {N : Nat} {c : CaseD} {p : Err} {o : Bool} {j : Nat} {K : List AV → Option R} (hs : Small c N) (h : j < c.units.l.length) :
    fi_unit N c.av o (j : Int) (fst4 p) K = K (fst4 (unitS c j c.units.l[j] p)) := by
  have hN := hs.n64
  have hN8 : 8 ≤ N := by omega
  have hfit := hs.uni
  have htop := hs.top
  have hm : c.units.l[j] ∈ c.units.l := List.getElem_mem h
  have hd := hs.seg _ hm; have hd2 := hs.uaw _ hm
  have hnm := @fi_name_spec R N c (c.units.l.map (·.name)) o (k := 3) (n := j) (hN := hN) (hL := fun K => names_units hs) (hn := by simpa using h) (hs := ⟨by have := hfit.1; omega, by have := hfit.2; omega⟩)
  have hne : (c.units.l.map (·.name))[j]'(by simpa using h) = c.units.l[j].name := by simp
  rw [hne] at hnm
  rw [fi_unit_def]; unfold fi_uniti fi_unitB fi_unit_q0 fi_unit_q0B fi_unit_q1 fi_unit_q1B
  rw [ca_units, inIdx_nat h, ct, Int.toNat_natCast, drop_flat UnitD_len _ _ h]
  generalize c.units.l[j] = b at *
  have b1 : Nat.ble 22 (List.length (b.av ++ List.flatMap UnitD.av (List.drop (j + 1) c.units.l))) = true := by rw [nble, List.length_append, UnitD_len]; simp
  have b2 : List.take 22 (b.av ++ List.flatMap UnitD.av (List.drop (j + 1) c.units.l)) = b.av := List.take_left' (UnitD_len b)
  rw [b1, ct, b2, UnitD_len]
  have hsg : ∀ (p : Err) (K : List AV → Option R), fi_segments N [.str b.name, .int .i64 b.bus, .int .i64 b.min, .int .i64 b.max, b.segs.av 2 SegD.av, .int .i64 b.noLoad, .int .i64 b.rampUp, .int .i64 b.rampDown, .int .i64 b.startRamp, .int .i64 b.stopRamp, .int .i64 b.upTime, .int .i64 b.downTime, .int .i64 b.startTime, .int .i64 b.hotCost, .int .i64 b.coldCost, .int .i64 b.hotHours, .int .i64 b.reserve, .int .i64 b.reservePrice, b.away.av 1 intE, .int .i64 b.state, .int .i64 b.hours, .int .i64 b.output] o j (fst4 p) K = K (fst4 (segS b j p)) := fun p K => fi_segments_spec hN8 hd
  simp only [ca_take, hnm, UnitD.av, List.drop_succ_cons, List.drop_zero, List.take_succ_cons, List.take_zero, rdI_cons, rdL_sl, flat_ints, nble, nbeq, decide_true, Bool.and_true, cond_true, cond_false, Nat.le_refl]
  simp only [fi_bus_spec hN8 (show c.buses.l.length < 4611686018427387904 by omega), r18_between_one hN8, fi_need_spec (show (3 : Int) ≠ 0 by decide), fi_need_spec (show (12 : Int) ≠ 0 by decide), fi_need_spec (show (16 : Int) ≠ 0 by decide), hsg, fi_away_spec rfl hd2]
  rw [← unit_eq]
  unfold unitB
  by_cases s1 : b.state = 1
  · simp [s1]; rfl
  · have a4 : (b.state != 1) = true := by simpa using s1
    rw [a4]
    cases b.state == 2 <;> rfl
theorem fi_outage_spec {N : Nat} {c : CaseD} {p : Err} {o : Bool} {j : Nat} {K : List AV → Option R} (hs : Small c N) (h : j < c.outs.l.length) :
    fi_outage N c.av o (j : Int) (fst4 p) K = K (fst4 (outS c j c.outs.l[j] p)) := by
  have hN := hs.n64
  have hN8 : 8 ≤ N := by omega
  have hfit := hs.out
  have htop := hs.top
  have hm : c.outs.l[j] ∈ c.outs.l := List.getElem_mem h
  have hd := hs.oli _ hm; have hd2 := hs.omo _ hm; have hd3 := hs.omb _ hm
  have hnm := @fi_name_spec R N c (c.outs.l.map (·.name)) o (k := 6) (n := j) (hN := hN) (hL := fun K => names_outs hs) (hn := by simpa using h) (hs := ⟨by have := hfit.1; omega, by have := hfit.2; omega⟩)
  have hne : (c.outs.l.map (·.name))[j]'(by simpa using h) = c.outs.l[j].name := by simp
  rw [hne] at hnm
  rw [fi_outage_def]; unfold fi_outagei fi_outageB fi_outage_q0 fi_outage_q0B
  rw [ca_outs, inIdx_nat h, ct, Int.toNat_natCast, drop_flat OutD_len _ _ h]
  generalize c.outs.l[j] = b at *
  have b1 : Nat.ble 4 (List.length (b.av ++ List.flatMap OutD.av (List.drop (j + 1) c.outs.l))) = true := by rw [nble, List.length_append, OutD_len]; simp
  have b2 : List.take 4 (b.av ++ List.flatMap OutD.av (List.drop (j + 1) c.outs.l)) = b.av := List.take_left' (OutD_len b)
  rw [b1, ct, b2, OutD_len]
  have l1 := fun p => fi_mv1_loop (R := R) (N := N) (c := c) (i := j) (u := b) (o := o) (p := p) (K := K) hN8 htop.2.2.1 hd2 hd3 b.moves.l.length 0 N (by omega) hd2.1
  simp only [List.take_zero, List.map_nil, Int.natCast_zero, ints] at l1
  simp only [nbeq, decide_true, Bool.and_true, cond_true, ca_len, ca_take, hnm, o_lines, o_moves, o_corr, r18_between_one hN8, r18_between_spec rfl hd, r18_rising_spec rfl hd, ca_lines, fi_need_spec (show (4 : Int) ≠ 0 by decide), fi_need_spec (show (8 : Int) ≠ 0 by decide), fi_need_spec (show (11 : Int) ≠ 0 by decide), fi_need_spec (show (12 : Int) ≠ 0 by decide), fi_need_spec (show (16 : Int) ≠ 0 by decide), l1]
  have a1 : btw 1 2 (b.lines.l.length : Int) = ((b.lines.l.length : Int) == 1 || (b.lines.l.length : Int) == 2) := by
    unfold btw
    by_cases x1 : b.lines.l.length = 1
    · simp [x1]
    · by_cases x2 : b.lines.l.length = 2
      · simp [x2]
      · have y1 : ((b.lines.l.length : Int) == 1) = false := by simp; omega
        have y2 : ((b.lines.l.length : Int) == 2) = false := by simp; omega
        rw [y1, y2]; simp; omega
  have a2 : b.lines.l.all (btw 0 (IntKind.wrap .i64 ((c.lines.l.length : Int) - 1))) = b.lines.l.all fun n => decide (0 ≤ n) && decide (n < (c.lines.l.length : Int)) := by
    congr 1; funext n; exact btw_lt _ _ (by omega)
  rw [a1, a2]
  unfold outS movesS
  cases b.corr
  · simp
  · simp
end
end Gx
