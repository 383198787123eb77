/- A part of the proof: what it holds is said at each theorem. -/
import Derived.Test.YtekpdhpnlfcobaaP2
set_option linter.unusedVariables false
namespace Gx
open Go Go.Proofs
set_option maxRecDepth 100000
variable {R : Type}
noncomputable def mk_Case_q3B (N : Nat) (k2 : Int → Int → Nat → LA → Option R) (r0 : LA → Option R) (j : Int) (a : LA) (b : Nat) (c : Bool) (e : Int) (f : Nat) (d : Nat) (i : LA) (g : LA)   (aq : Int) (ar : Int) (ah : Nat) (au : LA) : Option R :=
  (tp_Next N j a b false c ar (fun bd br => (tp_Next N (IntKind.wrap .i64 (j - (1 : Int))) a b false c br (fun bs bt => (cond (j == (0 : Int)) none (tp_line N ((ah : Nat) : Int) bd (Int.tmod (IntKind.wrap .i64 ((IntKind.wrap .i64 (bd + (1 : Int))) + bs)) j) e a b false c bt (fun be bu => (cond ((Nat.beq (List.length be) 12) && (Nat.ble 12 12)) (cond ((Nat.ble (ah + 1) 140737488355328) && (Nat.ble ((ah + 1) * 120) 140737488355328)) (k2 (IntKind.wrap .i64 (aq - (1 : Int))) bu (ah + 1) ((List.take (ah * 12) au) ++ (List.take 12 (setCells [(.str ([] : List UInt8)), (.int .i64 0), (.int .i64 0), (.int .i64 0), (.int .i64 0), (.int .i64 0), (.int .i64 0), (.int .i64 0), (.int .i64 0), (.int .i64 0), (.int .i64 0), .nsl] 0 be)))) none) none))))))))
noncomputable def mk_Case_q3 (N : Nat) (k2 : Int → Int → Nat → LA → Option R) (r0 : LA → Option R) (j : Int) (a : LA) (b : Nat) (c : Bool) (e : Int) (f : Nat) (d : Nat) (i : LA) (g : LA) (aq : Int) (ar : Int) (ah : Nat) (au : LA) : Option R := (mk_Case_q3B N k2 r0 j a b c e f d i g aq ar ah au)
noncomputable def mk_Case_q8B (N : Nat) (k7 : Int → Int → Nat → LA → Option R) (r0 : LA → Option R) (a : LA) (b : Nat) (c : Bool) (e : Int) (f : Nat) (d : Nat) (m : Nat) (l : Nat) (q : Nat) (t : Nat) (i : LA) (g : LA) (o : LA) (p : LA) (r : LA) (u : LA)   (ap : Int) (av : Int) (w : Nat) (ao : LA) : Option R :=
  (tp_outage N ((w : Nat) : Int) ((m : Nat) : Int) ((l : Nat) : Int) a b false c av (fun az bf => (cond ((Nat.beq 0 0) && ((Nat.beq (List.length az) 4) && (Nat.beq 4 4))) (cond ((Nat.ble (0 + w) 140737488355328) && (Nat.ble ((0 + w) * 72) 140737488355328)) (cond (Nat.ble 4 (List.length az)) (cond ((Nat.beq (List.length (List.take 4 az)) 4) && (Nat.ble 4 4)) (cond ((Nat.ble ((0 + w) + 1) 140737488355328) && (Nat.ble (((0 + w) + 1) * 72) 140737488355328)) (r18_Check N [(.int .i64 e), (.imm (List.take (f * 1) i) f 1 false true), (.imm (List.take (d * 3) g) d 3 false true), (.imm (List.take (m * 12) o) m 12 false true), (.imm (List.take (l * 22) p) l 22 false true), (.imm (List.take (q * 9) r) q 9 false true), (.imm (List.take (t * 5) u) t 5 false true), (.imm (List.take (((0 + w) + 1) * 4) ((List.take ((0 + w) * 4) (List.take (w * 4) ao)) ++ (List.take 4 (setCells [(.str ([] : List UInt8)), .nsl, (.bool false), .nsl] 0 (List.take 4 az))))) ((0 + w) + 1) 4 false true)] true (fun bv bw => (cond ((Nat.beq (List.length bv) 3) && ((Nat.ble 3 3) && (!false))) (cond (bw == (0 : Int)) (k7 (IntKind.wrap .i64 (ap - (1 : Int))) bf ((0 + w) + 1) ((List.take ((0 + w) * 4) (List.take (w * 4) ao)) ++ (List.take 4 (setCells [(.str ([] : List UInt8)), .nsl, (.bool false), .nsl] 0 (List.take 4 az))))) (k7 (IntKind.wrap .i64 (ap - (1 : Int))) bf w ao)) none))) none) none) none) none) none)))
noncomputable def mk_Case_q8 (N : Nat) (k7 : Int → Int → Nat → LA → Option R) (r0 : LA → Option R) (a : LA) (b : Nat) (c : Bool) (e : Int) (f : Nat) (d : Nat) (m : Nat) (l : Nat) (q : Nat) (t : Nat) (i : LA) (g : LA) (o : LA) (p : LA) (r : LA) (u : LA) (ap : Int) (av : Int) (w : Nat) (ao : LA) : Option R := (mk_Case_q8B N k7 r0 a b c e f d m l q t i g o p r u ap av w ao)
noncomputable def mk_Case_q7B (N : Nat)  (r0 : LA → Option R) (a : LA) (b : Nat) (c : Bool) (e : Int) (f : Nat) (d : Nat) (m : Nat) (l : Nat) (q : Nat) (t : Nat) (i : LA) (g : LA) (o : LA) (p : LA) (r : LA) (u : LA) (k7 : Int → Int → Nat → LA → Option R) (q8 : Int → Int → Nat → LA → Option R) (ac : Int) (af : Int) (x : Nat) (y : LA) : Option R :=
  (cond ((decide (ac > (0 : Int))) == true) (cond (cond true (decide (((m : Nat) : Int) > (0 : Int))) false) (q8 ac af x y) (r0 [(.int .i64 e), (.imm (List.take (f * 1) i) f 1 false false), (.imm (List.take (d * 3) g) d 3 false false), (.imm (List.take (m * 12) o) m 12 false false), (.imm (List.take (l * 22) p) l 22 false false), (.imm (List.take (q * 9) r) q 9 false false), (.imm (List.take (t * 5) u) t 5 false false), (.imm (List.take (x * 4) y) x 4 false false)])) (r0 [(.int .i64 e), (.imm (List.take (f * 1) i) f 1 false false), (.imm (List.take (d * 3) g) d 3 false false), (.imm (List.take (m * 12) o) m 12 false false), (.imm (List.take (l * 22) p) l 22 false false), (.imm (List.take (q * 9) r) q 9 false false), (.imm (List.take (t * 5) u) t 5 false false), (.imm (List.take (x * 4) y) x 4 false false)]))
noncomputable def mk_Case_q7 (N : Nat)  (r0 : LA → Option R) (a : LA) (b : Nat) (c : Bool) (e : Int) (f : Nat) (d : Nat) (m : Nat) (l : Nat) (q : Nat) (t : Nat) (i : LA) (g : LA) (o : LA) (p : LA) (r : LA) (u : LA) : Nat → Int → Int → Nat → LA → Option R
  | 0, _, _, _, _ => none
  | n + 1, ac, af, x, y => (mk_Case_q7B N r0 a b c e f d m l q t i g o p r u (mk_Case_q7 N r0 a b c e f d m l q t i g o p r u n) (fun ap av w ao => (mk_Case_q8 N (mk_Case_q7 N r0 a b c e f d m l q t i g o p r u n) r0 a b c e f d m l q t i g o p r u ap av w ao)) ac af x y)
noncomputable def mk_Case_q6B (N : Nat)  (r0 : LA → Option R) (a : LA) (b : Nat) (c : Bool) (e : Int) (f : Nat) (d : Nat) (m : Nat) (l : Nat) (q : Nat) (i : LA) (g : LA) (o : LA) (p : LA) (r : LA)  (q7 : Int → Int → Nat → LA → Option R) (aw : Int) (t : Nat) (u : LA) : Option R :=
  (tp_Next N 4 a b false c aw (fun bx bz => (q7 bx bz 0 [])))
noncomputable def mk_Case_q6 (N : Nat)  (r0 : LA → Option R) (a : LA) (b : Nat) (c : Bool) (e : Int) (f : Nat) (d : Nat) (m : Nat) (l : Nat) (q : Nat) (i : LA) (g : LA) (o : LA) (p : LA) (r : LA) (aw : Int) (t : Nat) (u : LA) : Option R := (mk_Case_q6B N r0 a b c e f d m l q i g o p r (fun ac af x y => (mk_Case_q7 N r0 a b c e f d m l q t i g o p r u N ac af x y)) aw t u)
noncomputable def mk_Case_q5B (N : Nat)  (r0 : LA → Option R) (j : Int) (a : LA) (b : Nat) (c : Bool) (e : Int) (f : Nat) (d : Nat) (m : Nat) (l : Nat) (i : LA) (g : LA) (o : LA) (p : LA)  (q6 : Int → Nat → LA → Option R) (ax : Int) (q : Nat) (r : LA) : Option R :=
  (tp_Next N 3 a b false c ax (fun ca bg => (cond (ca == (2 : Int)) (tp_Next N j a b false c bg (fun cb cc => (tp_hours N e 12 a b false c cc (fun bh cd ce => (tp_hours N e 12 a b false c cd (fun bi cf cg => (tp_hours N e 40 a b false c cf (fun bj ch ci => (q6 ch 1 [(.str ([116, 48] : List UInt8)), (.int .i64 cb), (.imm (List.take (bh * 1) ce) bh 1 false false), (.imm (List.take (bi * 1) cg) bi 1 false false), (.imm (List.take (bj * 1) ci) bj 1 false false)]))))))))) (q6 bg 0 []))))
noncomputable def mk_Case_q5 (N : Nat)  (r0 : LA → Option R) (j : Int) (a : LA) (b : Nat) (c : Bool) (e : Int) (f : Nat) (d : Nat) (m : Nat) (l : Nat) (i : LA) (g : LA) (o : LA) (p : LA) (ax : Int) (q : Nat) (r : LA) : Option R := (mk_Case_q5B N r0 j a b c e f d m l i g o p (fun aw t u => (mk_Case_q6 N r0 a b c e f d m l q i g o p r aw t u)) ax q r)
noncomputable def mk_Case_q4B (N : Nat)  (r0 : LA → Option R) (j : Int) (a : LA) (b : Nat) (c : Bool) (e : Int) (f : Nat) (d : Nat) (i : LA) (g : LA) (k4 : Int → Int → Nat → Nat → LA → LA → Option R) (q5 : Int → Nat → LA → Option R) (aj : Int) (ak : Int) (m : Nat) (l : Nat) (o : LA) (p : LA) : Option R :=
  (cond (decide (aj > (0 : Int))) (tp_unit N ((l : Nat) : Int) j e a b false c ak (fun bk cj => (cond ((Nat.beq (List.length bk) 22) && (Nat.ble 22 22)) (cond ((Nat.ble (l + 1) 140737488355328) && (Nat.ble ((l + 1) * 216) 140737488355328)) (k4 (IntKind.wrap .i64 (aj - (1 : Int))) cj m (l + 1) o ((List.take (l * 22) p) ++ (List.take 22 (setCells [(.str ([] : List UInt8)), (.int .i64 0), (.int .i64 0), (.int .i64 0), .nsl, (.int .i64 0), (.int .i64 0), (.int .i64 0), (.int .i64 0), (.int .i64 0), (.int .i64 0), (.int .i64 0), (.int .i64 0), (.int .i64 0), (.int .i64 0), (.int .i64 0), (.int .i64 0), (.int .i64 0), .nsl, (.int .i64 0), (.int .i64 0), (.int .i64 0)] 0 bk)))) none) none))) (tp_Next N 3 a b false c ak (fun ck bl => (cond (ck == (2 : Int)) (tp_Next N j a b false c bl (fun cl cm => (tp_Next N 20 a b false c cm (fun bb cn => (tp_Next N 8 a b false c cn (fun co cp => (tp_Next N 8 a b false c cp (fun cq cr => (tp_Next N 4 a b false c cr (fun cs ct => (tp_Next N (IntKind.wrap .i64 (bb + (1 : Int))) a b false c ct (fun cu cv => (tp_Next N (IntKind.wrap .i64 (bb + (1 : Int))) a b false c cv (fun cw cx => (q5 cx 1 [(.str ([115, 48] : List UInt8)), (.int .i64 cl), (.int .i64 bb), (.int .i64 cu), (.int .i64 cw), (.int .i64 co), (.int .i64 cq), (.int .i64 (IntKind.wrap .i64 ((1 : Int) + cs))), (.int .i64 4)]))))))))))))))) (q5 bl 0 [])))))
noncomputable def mk_Case_q4 (N : Nat)  (r0 : LA → Option R) (j : Int) (a : LA) (b : Nat) (c : Bool) (e : Int) (f : Nat) (d : Nat) (i : LA) (g : LA) : Nat → Int → Int → Nat → Nat → LA → LA → Option R
  | 0, _, _, _, _, _, _ => none
  | n + 1, aj, ak, m, l, o, p => (mk_Case_q4B N r0 j a b c e f d i g (mk_Case_q4 N r0 j a b c e f d i g n) (fun ax q r => (mk_Case_q5 N r0 j a b c e f d m l i g o p ax q r)) aj ak m l o p)
noncomputable def mk_Case_q2B (N : Nat)  (r0 : LA → Option R) (j : Int) (a : LA) (b : Nat) (c : Bool) (e : Int) (f : Nat) (d : Nat) (i : LA) (g : LA) (k2 : Int → Int → Nat → LA → Option R) (q3 : Int → Int → Nat → LA → Option R) (q4 : Int → Int → Nat → Nat → LA → LA → Option R) (ad : Int) (z : Int) (aa : Nat) (ab : LA) : Option R :=
  (cond ((decide (ad > (0 : Int))) == true) (cond (cond true (decide (j > (1 : Int))) false) (q3 ad z aa ab) (tp_Next N 3 a b false c z (fun cy cz => (q4 (IntKind.wrap .i64 ((1 : Int) + cy)) cz aa 0 ab [])))) (tp_Next N 3 a b false c z (fun da db => (q4 (IntKind.wrap .i64 ((1 : Int) + da)) db aa 0 ab []))))
noncomputable def mk_Case_q2 (N : Nat)  (r0 : LA → Option R) (j : Int) (a : LA) (b : Nat) (c : Bool) (e : Int) (f : Nat) (d : Nat) (i : LA) (g : LA) : Nat → Int → Int → Nat → LA → Option R
  | 0, _, _, _, _ => none
  | n + 1, ad, z, aa, ab => (mk_Case_q2B N r0 j a b c e f d i g (mk_Case_q2 N r0 j a b c e f d i g n) (fun aq ar ah au => (mk_Case_q3 N (mk_Case_q2 N r0 j a b c e f d i g n) r0 j a b c e f d i g aq ar ah au)) (fun aj ak m l o p => (mk_Case_q4 N r0 j a b c e f d i g N aj ak m l o p)) ad z aa ab)
noncomputable def mk_Case_q1B (N : Nat)  (r0 : LA → Option R) (a : LA) (b : Nat) (c : Bool) (e : Int) (f : Nat) (d : Nat) (i : LA) (g : LA) (k1 : Int → Int → Int → Nat → LA → Option R) (q2 : Int → Int → Nat → LA → Option R) (j : Int) (ag : Int) (al : Int) (ae : Nat) (am : LA) : Option R :=
  (cond (decide (ag < j)) (tp_Next N ag a b false c al (fun dc dd => (tp_line N ((ae : Nat) : Int) dc ag e a b false c dd (fun bm de => (cond ((Nat.beq (List.length bm) 12) && (Nat.ble 12 12)) (cond ((Nat.ble (ae + 1) 140737488355328) && (Nat.ble ((ae + 1) * 120) 140737488355328)) (k1 j (IntKind.wrap .i64 (ag + (1 : Int))) de (ae + 1) ((List.take (ae * 12) am) ++ (List.take 12 (setCells [(.str ([] : List UInt8)), (.int .i64 0), (.int .i64 0), (.int .i64 0), (.int .i64 0), (.int .i64 0), (.int .i64 0), (.int .i64 0), (.int .i64 0), (.int .i64 0), (.int .i64 0), .nsl] 0 bm)))) none) none))))) (tp_Next N 5 a b false c al (fun df dg => (q2 df dg ae am))))
noncomputable def mk_Case_q1 (N : Nat)  (r0 : LA → Option R) (a : LA) (b : Nat) (c : Bool) (e : Int) (f : Nat) (d : Nat) (i : LA) (g : LA) : Nat → Int → Int → Int → Nat → LA → Option R
  | 0, _, _, _, _, _ => none
  | n + 1, j, ag, al, ae, am => (mk_Case_q1B N r0 a b c e f d i g (mk_Case_q1 N r0 a b c e f d i g n) (fun ad z aa ab => (mk_Case_q2 N r0 j a b c e f d i g N ad z aa ab)) j ag al ae am)
noncomputable def mk_Case_q0B (N : Nat)  (r0 : LA → Option R) (a : LA) (b : Nat) (c : Bool) (f : Nat) (i : LA) (k0 : Int → Int → Int → Nat → LA → Option R) (q1 : Int → Int → Int → Nat → LA → Option R) (ai : Int) (an : Int) (e : Int) (d : Nat) (g : LA) : Option R :=
  (cond (decide (ai > (0 : Int))) (mk_name N ([98] : List UInt8) ((d : Nat) : Int) (fun bn => (tp_hours N e 14 a b false c an (fun ba dh bo => (tp_Next N 2 a b false c dh (fun di bp => (cond (di == (1 : Int)) (tp_Next N 200 a b false c bp (fun dj dk => (cond ((Nat.ble (d + 1) 140737488355328) && (Nat.ble ((d + 1) * 48) 140737488355328)) (k0 (IntKind.wrap .i64 (ai - (1 : Int))) dk e (d + 1) ((List.take (d * 3) g) ++ [(.str bn), (.imm (List.take (ba * 1) bo) ba 1 false false), (.int .i64 (IntKind.wrap .i64 ((100 : Int) + dj)))])) none))) (cond ((Nat.ble (d + 1) 140737488355328) && (Nat.ble ((d + 1) * 48) 140737488355328)) (k0 (IntKind.wrap .i64 (ai - (1 : Int))) bp e (d + 1) ((List.take (d * 3) g) ++ [(.str bn), (.imm (List.take (ba * 1) bo) ba 1 false false), (.int .i64 0)])) none)))))))) (q1 ((d : Nat) : Int) 1 an 0 []))
noncomputable def mk_Case_q0 (N : Nat)  (r0 : LA → Option R) (a : LA) (b : Nat) (c : Bool) (f : Nat) (i : LA) : Nat → Int → Int → Int → Nat → LA → Option R
  | 0, _, _, _, _, _ => none
  | n + 1, ai, an, e, d, g => (mk_Case_q0B N r0 a b c f i (mk_Case_q0 N r0 a b c f i n) (fun j ag al ae am => (mk_Case_q1 N r0 a b c e f d i g N j ag al ae am)) ai an e d g)
noncomputable def mk_CaseB (N : Nat) (r0 : LA → Option R) (q0 : Nat → LA → Int → Int → Int → Nat → LA → Option R) (a : LA) (b : Nat) (ay : Bool) (c : Bool) : Option R :=
  (mk_New N a b false c (tp_Next N 3 a b false c 0 (fun bq dl => (tp_hours N (IntKind.wrap .i64 ((1 : Int) + bq)) 5 a b false c dl (fun f dm i => (tp_Next N 4 a b false c dm (fun dn dp => (q0 f i (IntKind.wrap .i64 ((1 : Int) + dn)) dp (IntKind.wrap .i64 ((1 : Int) + bq)) 0 []))))))))
noncomputable def mk_Casei (N : Nat) (a : LA) (b : Nat) (ay : Bool) (c : Bool) (r0 : LA → Option R) : Option R := (mk_CaseB N r0 (fun f i ai an e d g => (mk_Case_q0 N r0 a b c f i N ai an e d g)) a b ay c)
noncomputable def mk_Case := (shut (@mk_Casei R)).1
theorem mk_Case_def : @mk_Case R = @mk_Casei R := (shut _).2
noncomputable def mk_Case_hs : Hints := { H := (hS (hR [0,2]) (hS (hR [2,3]) (hS (hR [2,3,4]) (hS (hR [2,3,4]) (hS (hS (hR [2,3,4,5]) (hN [2,3,4] (hN [2,3,4,5] (hS (hS (hR [2,3,4,5,33]) (hN [2,3,4,5] hL hL)) (hS (hN [2,3,4,5] (hS (hR [2,3,4,5,6]) (hS (hS (hR [2,3,4,5,6,47]) (hN [2,3,4,5,6] (hR [2,3,4,5,6]) hL)) (hR [2,3,4,5]))) hL) (hR [2,3,4,5]))) hL) hL)) (hS (hR [2,3,4,7]) (hS (hS (hR [2,3,4,7,8]) (hN [2,3,4,7] (hN [2,3,4,7,8] (hS (hS (hR [2,3,4,7,8,63]) (hN [2,3,4,7,8] hL hL)) (hS (hN [2,3,4,7,8] (hR [2,3,4,7,8]) hL) (hR [2,3,4,7,8]))) hL) hL)) (hS (hS (hR [2,3,4,7,9]) (hN [2,3,4,7] (hN [2,3,4,7,9] (hJ (hS (hR [2,3,4,7,9,89]) (hN [2,3,4,7,9] hL hL)) (hS (hN [2,3,4,7,9] (hS (hR [2,3,4,7,9,10]) (hR [2,3,4,7,9])) hL) (hR [2,3,4,7,9]))) hL) hL)) (hS (hS (hR [2,3,4,7,11]) (hN [2,3,4,7] (hN [2,3,4,7,11] (hS (hS (hR [2,3,4,7,11,121]) (hN [2,3,4,7,11] hL hL)) (hS (hN [2,3,4,7,11] (hR [2,3,4,7,11]) hL) (hR [2,3,4,7,11]))) hL) hL)) (hJ (hS (hR [2,3,4,7,139]) (hN [2,3,4,7] (hS (hR [2,3,4,7,12]) (hS (hR [2,3,4,7,12]) (hR [2,3,4,7]))) hL)) (hJ (hS (hR [2,3,4,7,174]) (hN [2,3,4] (hR [2,3,4]) hL)) (hS (hS (hR [2,3,4,13]) (hN [2,4] (hN [2,3,4,13] (hJ (hS (hR [2,3,4,13,205]) (hN [2,3,4,13] hL hL)) (hS (hN [2,3,4,13] (hS (hR [2,3,4,13,14]) (hS (hR [2,3,4,13,14,15]) (hS (hR [2,3,4,13,15]) (hS (hR [2,3,4,13,15,17]) (hS (hR [2,3,4,13,15,234]) (hN [2,3,4,13] (hR [2,3,4,13]) hL)))))) hL) (hR [2,3,4,13]))) hL) hL)) (hS (hR [2]) hL))))))))))))), nils := [], modes := [(3, 0)], free := [], cob := [23, 44, 192] }
noncomputable def mk_Case_T (N : Nat) : List (Nat × Tw) := [(16, mk_New_Tw N), (17, tp_Next_Tw N), (18, tp_hours_Tw N), (19, mk_name_Tw N), (20, tp_line_Tw N), (21, tp_unit_Tw N), (22, tp_outage_Tw N), (23, r18_Check_Tw N)]
noncomputable def mk_Case_E (N : Nat) : Env := mkE 237 mk_Case_hs (mk_Case_T N)
noncomputable def mk_Case_fin (N : Nat) (F : AV → Heap → Option R) := afinish (mk_Case_E N) Try.f5 mk_Case_hs.modes [] F
noncomputable def mk_Case_at (N : Nat) (F : AV → Heap → Option R) := atF (mk_Case_E N) [] N Try.f5 mk_Case_hs (mk_Case_fin N F)
noncomputable def mk_Case_r0  (F : AV → Heap → Option R) : LA → Option R := (fun dq => F (.pagg dq false) [])
noncomputable def mk_Case_s3 (j : Int) (a : LA) (b : Nat) (c : Bool) (e : Int) (f : Nat) (d : Nat) (i : LA) (g : LA) (aq : Int) (ar : Int) (ah : Nat) (au : LA) : St := { s := [(2, (.optr 300000 0)), (3, (.optr 300001 0)), (4, (.optr 300002 0)), (7, (.int .i64 j)), (9, (.int .i64 aq))], h := [(300000, ⟨false, false, false, false, 0, [(.int .i64 0), .nsl, .nsl, .nsl, .nsl, .nsl, .nsl, .nsl]⟩), (300001, ⟨false, false, false, false, 0, [(.imm a b 1 false c), (.int .i64 ar)]⟩), (300002, ⟨false, false, false, false, 0, [(.int .i64 e), (.own 300003 0 f), (.own 300004 0 d), (.own 300005 0 ah), (.own 300006 0 0), (.own 300007 0 0), (.own 300008 0 0), (.own 300009 0 0)]⟩), (300003, ⟨false, false, true, false, 1, i⟩), (300004, ⟨false, false, true, false, 3, g⟩), (300005, ⟨false, false, true, false, 12, au⟩), (300006, ⟨false, false, true, false, 22, []⟩), (300007, ⟨false, false, true, false, 9, []⟩), (300008, ⟨false, false, true, false, 5, []⟩), (300009, ⟨false, false, true, false, 4, []⟩)] }
noncomputable def mk_Case_j3 (N : Nat) (F : AV → Heap → Option R) (Q2 : St → Option R) : St → Option R := joinAt (mk_Case_E N) [] N (mk_Case_at N F [1, 1, 1, 1, 1, 1, 1, 0, 1, 0, 0, 1] [Q2])
noncomputable def mk_Case_i3 (N : Nat) (F : AV → Heap → Option R) (Q2 : St → Option R) : St → Option R := joinIn (mk_Case_E N) [] N (mk_Case_at N F [1, 1, 1, 1, 1, 1, 1, 0, 1, 0, 0, 1] [Q2])
noncomputable def mk_Case_s8 (a : LA) (b : Nat) (c : Bool) (e : Int) (f : Nat) (d : Nat) (m : Nat) (l : Nat) (q : Nat) (t : Nat) (i : LA) (g : LA) (o : LA) (p : LA) (r : LA) (u : LA) (ap : Int) (av : Int) (w : Nat) (ao : LA) : St := { s := [(2, (.optr 300000 0)), (3, (.optr 300001 0)), (4, (.optr 300002 0)), (13, (.int .i64 ap))], h := [(300000, ⟨false, false, false, false, 0, [(.int .i64 0), .nsl, .nsl, .nsl, .nsl, .nsl, .nsl, .nsl]⟩), (300001, ⟨false, false, false, false, 0, [(.imm a b 1 false c), (.int .i64 av)]⟩), (300002, ⟨false, false, false, false, 0, [(.int .i64 e), (.own 300003 0 f), (.own 300004 0 d), (.own 300005 0 m), (.own 300006 0 l), (.own 300007 0 q), (.own 300008 0 t), (.own 300009 0 w)]⟩), (300003, ⟨false, false, true, false, 1, i⟩), (300004, ⟨false, false, true, false, 3, g⟩), (300005, ⟨false, false, true, false, 12, o⟩), (300006, ⟨false, false, true, false, 22, p⟩), (300007, ⟨false, false, true, false, 9, r⟩), (300008, ⟨false, false, true, false, 5, u⟩), (300009, ⟨false, false, true, false, 4, ao⟩)] }
noncomputable def mk_Case_j8 (N : Nat) (F : AV → Heap → Option R) (Q7 : St → Option R) : St → Option R := joinAt (mk_Case_E N) [] N (mk_Case_at N F [1, 1, 1, 1, 1, 1, 1, 1, 1, 1, 1, 0, 1, 0, 0, 1] [Q7])
noncomputable def mk_Case_i8 (N : Nat) (F : AV → Heap → Option R) (Q7 : St → Option R) : St → Option R := joinIn (mk_Case_E N) [] N (mk_Case_at N F [1, 1, 1, 1, 1, 1, 1, 1, 1, 1, 1, 0, 1, 0, 0, 1] [Q7])
noncomputable def mk_Case_s7 (a : LA) (b : Nat) (c : Bool) (e : Int) (f : Nat) (d : Nat) (m : Nat) (l : Nat) (q : Nat) (t : Nat) (i : LA) (g : LA) (o : LA) (p : LA) (r : LA) (u : LA) (ac : Int) (af : Int) (x : Nat) (y : LA) : St := { s := [(2, (.optr 300000 0)), (3, (.optr 300001 0)), (4, (.optr 300002 0)), (13, (.int .i64 ac))], h := [(300000, ⟨false, false, false, false, 0, [(.int .i64 0), .nsl, .nsl, .nsl, .nsl, .nsl, .nsl, .nsl]⟩), (300001, ⟨false, false, false, false, 0, [(.imm a b 1 false c), (.int .i64 af)]⟩), (300002, ⟨false, false, false, false, 0, [(.int .i64 e), (.own 300003 0 f), (.own 300004 0 d), (.own 300005 0 m), (.own 300006 0 l), (.own 300007 0 q), (.own 300008 0 t), (.own 300009 0 x)]⟩), (300003, ⟨false, false, true, false, 1, i⟩), (300004, ⟨false, false, true, false, 3, g⟩), (300005, ⟨false, false, true, false, 12, o⟩), (300006, ⟨false, false, true, false, 22, p⟩), (300007, ⟨false, false, true, false, 9, r⟩), (300008, ⟨false, false, true, false, 5, u⟩), (300009, ⟨false, false, true, false, 4, y⟩)] }
noncomputable def mk_Case_w7 (N : Nat) (F : AV → Heap → Option R) : St → Option R := loopW (mk_Case_E N) [] N (mk_Case_at N F [1, 1, 1, 1, 1, 1, 1, 1, 1, 1, 1, 0, 1, 0] []) N
noncomputable def mk_Case_l7 (N : Nat) (F : AV → Heap → Option R) (n : Nat) : St → Option R := loopAt (mk_Case_E N) [] N (mk_Case_at N F [1, 1, 1, 1, 1, 1, 1, 1, 1, 1, 1, 0, 1, 0] []) n
noncomputable def mk_Case_s6 (a : LA) (b : Nat) (c : Bool) (e : Int) (f : Nat) (d : Nat) (m : Nat) (l : Nat) (q : Nat) (i : LA) (g : LA) (o : LA) (p : LA) (r : LA) (aw : Int) (t : Nat) (u : LA) : St := { s := [(2, (.optr 300000 0)), (3, (.optr 300001 0)), (4, (.optr 300002 0))], h := [(300000, ⟨false, false, false, false, 0, [(.int .i64 0), .nsl, .nsl, .nsl, .nsl, .nsl, .nsl, .nsl]⟩), (300001, ⟨false, false, false, false, 0, [(.imm a b 1 false c), (.int .i64 aw)]⟩), (300002, ⟨false, false, false, false, 0, [(.int .i64 e), (.own 300003 0 f), (.own 300004 0 d), (.own 300005 0 m), (.own 300006 0 l), (.own 300007 0 q), (.own 300008 0 t), (.own 300009 0 0)]⟩), (300003, ⟨false, false, true, false, 1, i⟩), (300004, ⟨false, false, true, false, 3, g⟩), (300005, ⟨false, false, true, false, 12, o⟩), (300006, ⟨false, false, true, false, 22, p⟩), (300007, ⟨false, false, true, false, 9, r⟩), (300008, ⟨false, false, true, false, 5, u⟩), (300009, ⟨false, false, true, false, 4, []⟩)] }
noncomputable def mk_Case_j6 (N : Nat) (F : AV → Heap → Option R) : St → Option R := joinAt (mk_Case_E N) [] N (mk_Case_at N F [1, 1, 1, 1, 1, 1, 1, 1, 1, 1, 1] [])
noncomputable def mk_Case_i6 (N : Nat) (F : AV → Heap → Option R) : St → Option R := joinIn (mk_Case_E N) [] N (mk_Case_at N F [1, 1, 1, 1, 1, 1, 1, 1, 1, 1, 1] [])
noncomputable def mk_Case_s5 (j : Int) (a : LA) (b : Nat) (c : Bool) (e : Int) (f : Nat) (d : Nat) (m : Nat) (l : Nat) (i : LA) (g : LA) (o : LA) (p : LA) (ax : Int) (q : Nat) (r : LA) : St := { s := [(2, (.optr 300000 0)), (3, (.optr 300001 0)), (4, (.optr 300002 0)), (7, (.int .i64 j))], h := [(300000, ⟨false, false, false, false, 0, [(.int .i64 0), .nsl, .nsl, .nsl, .nsl, .nsl, .nsl, .nsl]⟩), (300001, ⟨false, false, false, false, 0, [(.imm a b 1 false c), (.int .i64 ax)]⟩), (300002, ⟨false, false, false, false, 0, [(.int .i64 e), (.own 300003 0 f), (.own 300004 0 d), (.own 300005 0 m), (.own 300006 0 l), (.own 300007 0 q), (.own 300008 0 0), (.own 300009 0 0)]⟩), (300003, ⟨false, false, true, false, 1, i⟩), (300004, ⟨false, false, true, false, 3, g⟩), (300005, ⟨false, false, true, false, 12, o⟩), (300006, ⟨false, false, true, false, 22, p⟩), (300007, ⟨false, false, true, false, 9, r⟩), (300008, ⟨false, false, true, false, 5, []⟩), (300009, ⟨false, false, true, false, 4, []⟩)] }
noncomputable def mk_Case_j5 (N : Nat) (F : AV → Heap → Option R) : St → Option R := joinAt (mk_Case_E N) [] N (mk_Case_at N F [1, 1, 1, 1, 1, 1, 1, 1, 1, 1] [])
noncomputable def mk_Case_i5 (N : Nat) (F : AV → Heap → Option R) : St → Option R := joinIn (mk_Case_E N) [] N (mk_Case_at N F [1, 1, 1, 1, 1, 1, 1, 1, 1, 1] [])
noncomputable def mk_Case_s4 (j : Int) (a : LA) (b : Nat) (c : Bool) (e : Int) (f : Nat) (d : Nat) (i : LA) (g : LA) (aj : Int) (ak : Int) (m : Nat) (l : Nat) (o : LA) (p : LA) : St := { s := [(2, (.optr 300000 0)), (3, (.optr 300001 0)), (4, (.optr 300002 0)), (7, (.int .i64 j)), (11, (.int .i64 aj))], h := [(300000, ⟨false, false, false, false, 0, [(.int .i64 0), .nsl, .nsl, .nsl, .nsl, .nsl, .nsl, .nsl]⟩), (300001, ⟨false, false, false, false, 0, [(.imm a b 1 false c), (.int .i64 ak)]⟩), (300002, ⟨false, false, false, false, 0, [(.int .i64 e), (.own 300003 0 f), (.own 300004 0 d), (.own 300005 0 m), (.own 300006 0 l), (.own 300007 0 0), (.own 300008 0 0), (.own 300009 0 0)]⟩), (300003, ⟨false, false, true, false, 1, i⟩), (300004, ⟨false, false, true, false, 3, g⟩), (300005, ⟨false, false, true, false, 12, o⟩), (300006, ⟨false, false, true, false, 22, p⟩), (300007, ⟨false, false, true, false, 9, []⟩), (300008, ⟨false, false, true, false, 5, []⟩), (300009, ⟨false, false, true, false, 4, []⟩)] }
noncomputable def mk_Case_w4 (N : Nat) (F : AV → Heap → Option R) : St → Option R := loopW (mk_Case_E N) [] N (mk_Case_at N F [1, 1, 1, 1, 1, 1, 1, 1, 0, 1, 0] []) N
noncomputable def mk_Case_l4 (N : Nat) (F : AV → Heap → Option R) (n : Nat) : St → Option R := loopAt (mk_Case_E N) [] N (mk_Case_at N F [1, 1, 1, 1, 1, 1, 1, 1, 0, 1, 0] []) n
noncomputable def mk_Case_s2 (j : Int) (a : LA) (b : Nat) (c : Bool) (e : Int) (f : Nat) (d : Nat) (i : LA) (g : LA) (ad : Int) (z : Int) (aa : Nat) (ab : LA) : St := { s := [(2, (.optr 300000 0)), (3, (.optr 300001 0)), (4, (.optr 300002 0)), (7, (.int .i64 j)), (9, (.int .i64 ad))], h := [(300000, ⟨false, false, false, false, 0, [(.int .i64 0), .nsl, .nsl, .nsl, .nsl, .nsl, .nsl, .nsl]⟩), (300001, ⟨false, false, false, false, 0, [(.imm a b 1 false c), (.int .i64 z)]⟩), (300002, ⟨false, false, false, false, 0, [(.int .i64 e), (.own 300003 0 f), (.own 300004 0 d), (.own 300005 0 aa), (.own 300006 0 0), (.own 300007 0 0), (.own 300008 0 0), (.own 300009 0 0)]⟩), (300003, ⟨false, false, true, false, 1, i⟩), (300004, ⟨false, false, true, false, 3, g⟩), (300005, ⟨false, false, true, false, 12, ab⟩), (300006, ⟨false, false, true, false, 22, []⟩), (300007, ⟨false, false, true, false, 9, []⟩), (300008, ⟨false, false, true, false, 5, []⟩), (300009, ⟨false, false, true, false, 4, []⟩)] }
noncomputable def mk_Case_w2 (N : Nat) (F : AV → Heap → Option R) : St → Option R := loopW (mk_Case_E N) [] N (mk_Case_at N F [1, 1, 1, 1, 1, 1, 1, 0, 1, 0] []) N
noncomputable def mk_Case_l2 (N : Nat) (F : AV → Heap → Option R) (n : Nat) : St → Option R := loopAt (mk_Case_E N) [] N (mk_Case_at N F [1, 1, 1, 1, 1, 1, 1, 0, 1, 0] []) n
noncomputable def mk_Case_s1 (a : LA) (b : Nat) (c : Bool) (e : Int) (f : Nat) (d : Nat) (i : LA) (g : LA) (j : Int) (ag : Int) (al : Int) (ae : Nat) (am : LA) : St := { s := [(2, (.optr 300000 0)), (3, (.optr 300001 0)), (4, (.optr 300002 0)), (7, (.int .i64 j)), (8, (.int .i64 ag))], h := [(300000, ⟨false, false, false, false, 0, [(.int .i64 0), .nsl, .nsl, .nsl, .nsl, .nsl, .nsl, .nsl]⟩), (300001, ⟨false, false, false, false, 0, [(.imm a b 1 false c), (.int .i64 al)]⟩), (300002, ⟨false, false, false, false, 0, [(.int .i64 e), (.own 300003 0 f), (.own 300004 0 d), (.own 300005 0 ae), (.own 300006 0 0), (.own 300007 0 0), (.own 300008 0 0), (.own 300009 0 0)]⟩), (300003, ⟨false, false, true, false, 1, i⟩), (300004, ⟨false, false, true, false, 3, g⟩), (300005, ⟨false, false, true, false, 12, am⟩), (300006, ⟨false, false, true, false, 22, []⟩), (300007, ⟨false, false, true, false, 9, []⟩), (300008, ⟨false, false, true, false, 5, []⟩), (300009, ⟨false, false, true, false, 4, []⟩)] }
noncomputable def mk_Case_w1 (N : Nat) (F : AV → Heap → Option R) : St → Option R := loopW (mk_Case_E N) [] N (mk_Case_at N F [1, 1, 1, 1, 1, 1, 0, 1, 0] []) N
noncomputable def mk_Case_l1 (N : Nat) (F : AV → Heap → Option R) (n : Nat) : St → Option R := loopAt (mk_Case_E N) [] N (mk_Case_at N F [1, 1, 1, 1, 1, 1, 0, 1, 0] []) n
noncomputable def mk_Case_s0 (a : LA) (b : Nat) (c : Bool) (f : Nat) (i : LA) (ai : Int) (an : Int) (e : Int) (d : Nat) (g : LA) : St := { s := [(2, (.optr 300000 0)), (3, (.optr 300001 0)), (4, (.optr 300002 0)), (5, (.int .i64 ai))], h := [(300000, ⟨false, false, false, false, 0, [(.int .i64 0), .nsl, .nsl, .nsl, .nsl, .nsl, .nsl, .nsl]⟩), (300001, ⟨false, false, false, false, 0, [(.imm a b 1 false c), (.int .i64 an)]⟩), (300002, ⟨false, false, false, false, 0, [(.int .i64 e), (.own 300003 0 f), (.own 300004 0 d), (.own 300005 0 0), (.own 300006 0 0), (.own 300007 0 0), (.own 300008 0 0), (.own 300009 0 0)]⟩), (300003, ⟨false, false, true, false, 1, i⟩), (300004, ⟨false, false, true, false, 3, g⟩), (300005, ⟨false, false, true, false, 12, []⟩), (300006, ⟨false, false, true, false, 22, []⟩), (300007, ⟨false, false, true, false, 9, []⟩), (300008, ⟨false, false, true, false, 5, []⟩), (300009, ⟨false, false, true, false, 4, []⟩)] }
noncomputable def mk_Case_w0 (N : Nat) (F : AV → Heap → Option R) : St → Option R := loopW (mk_Case_E N) [] N (mk_Case_at N F [1, 1, 1, 1, 0, 1, 0] []) N
noncomputable def mk_Case_l0 (N : Nat) (F : AV → Heap → Option R) (n : Nat) : St → Option R := loopAt (mk_Case_E N) [] N (mk_Case_at N F [1, 1, 1, 1, 0, 1, 0] []) n
theorem mk_Case_q3_eq (N : Nat) (Q2 : St → Option R) (F : AV → Heap → Option R) (j : Int) (a : LA) (b : Nat) (c : Bool) (e : Int) (f : Nat) (d : Nat) (i : LA) (g : LA) : ∀ (aq : Int) (ar : Int) (ah : Nat) (au : LA), mk_Case_i3 N F Q2 (mk_Case_s3 j a b c e f d i g aq ar ah au) = (mk_Case_q3 N (fun ad z aa ab => Q2 (mk_Case_s2 j a b c e f d i g ad z aa ab)) (mk_Case_r0 F) j a b c e f d i g aq ar ah au) := by
  intro aq ar ah au
  have hK : mk_Case_i3 N F Q2 (mk_Case_s3 j a b c e f d i g aq ar ah au) = (mk_Case_q3B N (fun ad z aa ab => Q2 (mk_Case_s2 j a b c e f d i g ad z aa ab)) (mk_Case_r0 F) j a b c e f d i g aq ar ah au) := by kernel_rfl
  exact hK
theorem mk_Case_q8_eq (N : Nat) (Q7 : St → Option R) (F : AV → Heap → Option R) (a : LA) (b : Nat) (c : Bool) (e : Int) (f : Nat) (d : Nat) (m : Nat) (l : Nat) (q : Nat) (t : Nat) (i : LA) (g : LA) (o : LA) (p : LA) (r : LA) (u : LA) : ∀ (ap : Int) (av : Int) (w : Nat) (ao : LA), mk_Case_i8 N F Q7 (mk_Case_s8 a b c e f d m l q t i g o p r u ap av w ao) = (mk_Case_q8 N (fun ac af x y => Q7 (mk_Case_s7 a b c e f d m l q t i g o p r u ac af x y)) (mk_Case_r0 F) a b c e f d m l q t i g o p r u ap av w ao) := by
  intro ap av w ao
  have hK : mk_Case_i8 N F Q7 (mk_Case_s8 a b c e f d m l q t i g o p r u ap av w ao) = (mk_Case_q8B N (fun ac af x y => Q7 (mk_Case_s7 a b c e f d m l q t i g o p r u ac af x y)) (mk_Case_r0 F) a b c e f d m l q t i g o p r u ap av w ao) := by kernel_rfl
  exact hK
theorem mk_Case_q7_eq (N : Nat)  (F : AV → Heap → Option R) (a : LA) (b : Nat) (c : Bool) (e : Int) (f : Nat) (d : Nat) (m : Nat) (l : Nat) (q : Nat) (t : Nat) (i : LA) (g : LA) (o : LA) (p : LA) (r : LA) (u : LA) : ∀ (n : Nat) (ac : Int) (af : Int) (x : Nat) (y : LA), mk_Case_l7 N F n (mk_Case_s7 a b c e f d m l q t i g o p r u ac af x y) = (mk_Case_q7 N (mk_Case_r0 F) a b c e f d m l q t i g o p r u n ac af x y) := by
  intro n
  induction n with
  | zero => intros; kernel_rfl
  | succ n ih =>
    intro ac af x y
    have e0 := funext fun ac => funext fun af => funext fun x => funext fun y => (show mk_Case_l7 N F n (mk_Case_s7 a b c e f d m l q t i g o p r u ac af x y) = _ from ih ac af x y)
    have e1 : (fun ap av w ao => mk_Case_j8 N F (mk_Case_l7 N F n) (mk_Case_s8 a b c e f d m l q t i g o p r u ap av w ao)) = (fun ap av w ao => (mk_Case_q8 N (mk_Case_q7 N (mk_Case_r0 F) a b c e f d m l q t i g o p r u n) (mk_Case_r0 F) a b c e f d m l q t i g o p r u ap av w ao)) := by funext ap; funext av; funext w; funext ao; exact ((joinAt_eq ..).trans (mk_Case_q8_eq N (mk_Case_l7 N F n) F a b c e f d m l q t i g o p r u ap av w ao)).trans (by rw [e0])
    have hK : mk_Case_l7 N F (n + 1) (mk_Case_s7 a b c e f d m l q t i g o p r u ac af x y) = (mk_Case_q7B N (mk_Case_r0 F) a b c e f d m l q t i g o p r u (fun ac af x y => mk_Case_l7 N F n (mk_Case_s7 a b c e f d m l q t i g o p r u ac af x y)) (fun ap av w ao => mk_Case_j8 N F (mk_Case_l7 N F n) (mk_Case_s8 a b c e f d m l q t i g o p r u ap av w ao)) ac af x y) := by kernel_rfl
    exact hK.trans (by rw [e0, e1]; rfl)
theorem mk_Case_q6_eq (N : Nat)  (F : AV → Heap → Option R) (a : LA) (b : Nat) (c : Bool) (e : Int) (f : Nat) (d : Nat) (m : Nat) (l : Nat) (q : Nat) (i : LA) (g : LA) (o : LA) (p : LA) (r : LA) : ∀ (aw : Int) (t : Nat) (u : LA), mk_Case_i6 N F (mk_Case_s6 a b c e f d m l q i g o p r aw t u) = (mk_Case_q6 N (mk_Case_r0 F) a b c e f d m l q i g o p r aw t u) := by
  intro aw t u
  have e1 := funext fun ac => funext fun af => funext fun x => funext fun y => (show mk_Case_w7 N F (mk_Case_s7 a b c e f d m l q t i g o p r u ac af x y) = _ from (loopW_eq ..).trans (mk_Case_q7_eq N F a b c e f d m l q t i g o p r u N ac af x y))
  have hK : mk_Case_i6 N F (mk_Case_s6 a b c e f d m l q i g o p r aw t u) = (mk_Case_q6B N (mk_Case_r0 F) a b c e f d m l q i g o p r (fun ac af x y => mk_Case_w7 N F (mk_Case_s7 a b c e f d m l q t i g o p r u ac af x y)) aw t u) := by kernel_rfl
  exact hK.trans (by rw [e1]; rfl)
theorem mk_Case_q5_eq (N : Nat)  (F : AV → Heap → Option R) (j : Int) (a : LA) (b : Nat) (c : Bool) (e : Int) (f : Nat) (d : Nat) (m : Nat) (l : Nat) (i : LA) (g : LA) (o : LA) (p : LA) : ∀ (ax : Int) (q : Nat) (r : LA), mk_Case_i5 N F (mk_Case_s5 j a b c e f d m l i g o p ax q r) = (mk_Case_q5 N (mk_Case_r0 F) j a b c e f d m l i g o p ax q r) := by
  intro ax q r
  have e1 := funext fun aw => funext fun t => funext fun u => (show mk_Case_j6 N F (mk_Case_s6 a b c e f d m l q i g o p r aw t u) = _ from (joinAt_eq ..).trans (mk_Case_q6_eq N F a b c e f d m l q i g o p r aw t u))
  have hK : mk_Case_i5 N F (mk_Case_s5 j a b c e f d m l i g o p ax q r) = (mk_Case_q5B N (mk_Case_r0 F) j a b c e f d m l i g o p (fun aw t u => mk_Case_j6 N F (mk_Case_s6 a b c e f d m l q i g o p r aw t u)) ax q r) := by kernel_rfl
  exact hK.trans (by rw [e1]; rfl)
theorem mk_Case_q4_eq (N : Nat)  (F : AV → Heap → Option R) (j : Int) (a : LA) (b : Nat) (c : Bool) (e : Int) (f : Nat) (d : Nat) (i : LA) (g : LA) : ∀ (n : Nat) (aj : Int) (ak : Int) (m : Nat) (l : Nat) (o : LA) (p : LA), mk_Case_l4 N F n (mk_Case_s4 j a b c e f d i g aj ak m l o p) = (mk_Case_q4 N (mk_Case_r0 F) j a b c e f d i g n aj ak m l o p) := by
  intro n
  induction n with
  | zero => intros; kernel_rfl
  | succ n ih =>
    intro aj ak m l o p
    have e0 := funext fun aj => funext fun ak => funext fun m => funext fun l => funext fun o => funext fun p => (show mk_Case_l4 N F n (mk_Case_s4 j a b c e f d i g aj ak m l o p) = _ from ih aj ak m l o p)
    have e1 := funext fun ax => funext fun q => funext fun r => (show mk_Case_j5 N F (mk_Case_s5 j a b c e f d m l i g o p ax q r) = _ from (joinAt_eq ..).trans (mk_Case_q5_eq N F j a b c e f d m l i g o p ax q r))
    have hK : mk_Case_l4 N F (n + 1) (mk_Case_s4 j a b c e f d i g aj ak m l o p) = (mk_Case_q4B N (mk_Case_r0 F) j a b c e f d i g (fun aj ak m l o p => mk_Case_l4 N F n (mk_Case_s4 j a b c e f d i g aj ak m l o p)) (fun ax q r => mk_Case_j5 N F (mk_Case_s5 j a b c e f d m l i g o p ax q r)) aj ak m l o p) := by kernel_rfl
    exact hK.trans (by rw [e0, e1]; rfl)
theorem mk_Case_q2_eq (N : Nat)  (F : AV → Heap → Option R) (j : Int) (a : LA) (b : Nat) (c : Bool) (e : Int) (f : Nat) (d : Nat) (i : LA) (g : LA) : ∀ (n : Nat) (ad : Int) (z : Int) (aa : Nat) (ab : LA), mk_Case_l2 N F n (mk_Case_s2 j a b c e f d i g ad z aa ab) = (mk_Case_q2 N (mk_Case_r0 F) j a b c e f d i g n ad z aa ab) := by
  intro n
  induction n with
  | zero => intros; kernel_rfl
  | succ n ih =>
    intro ad z aa ab
    have e0 := funext fun ad => funext fun z => funext fun aa => funext fun ab => (show mk_Case_l2 N F n (mk_Case_s2 j a b c e f d i g ad z aa ab) = _ from ih ad z aa ab)
    have e1 : (fun aq ar ah au => mk_Case_j3 N F (mk_Case_l2 N F n) (mk_Case_s3 j a b c e f d i g aq ar ah au)) = (fun aq ar ah au => (mk_Case_q3 N (mk_Case_q2 N (mk_Case_r0 F) j a b c e f d i g n) (mk_Case_r0 F) j a b c e f d i g aq ar ah au)) := by funext aq; funext ar; funext ah; funext au; exact ((joinAt_eq ..).trans (mk_Case_q3_eq N (mk_Case_l2 N F n) F j a b c e f d i g aq ar ah au)).trans (by rw [e0])
    have e2 := funext fun aj => funext fun ak => funext fun m => funext fun l => funext fun o => funext fun p => (show mk_Case_w4 N F (mk_Case_s4 j a b c e f d i g aj ak m l o p) = _ from (loopW_eq ..).trans (mk_Case_q4_eq N F j a b c e f d i g N aj ak m l o p))
    have hK : mk_Case_l2 N F (n + 1) (mk_Case_s2 j a b c e f d i g ad z aa ab) = (mk_Case_q2B N (mk_Case_r0 F) j a b c e f d i g (fun ad z aa ab => mk_Case_l2 N F n (mk_Case_s2 j a b c e f d i g ad z aa ab)) (fun aq ar ah au => mk_Case_j3 N F (mk_Case_l2 N F n) (mk_Case_s3 j a b c e f d i g aq ar ah au)) (fun aj ak m l o p => mk_Case_w4 N F (mk_Case_s4 j a b c e f d i g aj ak m l o p)) ad z aa ab) := by kernel_rfl
    exact hK.trans (by rw [e0, e1, e2]; rfl)
theorem mk_Case_q1_eq (N : Nat)  (F : AV → Heap → Option R) (a : LA) (b : Nat) (c : Bool) (e : Int) (f : Nat) (d : Nat) (i : LA) (g : LA) : ∀ (n : Nat) (j : Int) (ag : Int) (al : Int) (ae : Nat) (am : LA), mk_Case_l1 N F n (mk_Case_s1 a b c e f d i g j ag al ae am) = (mk_Case_q1 N (mk_Case_r0 F) a b c e f d i g n j ag al ae am) := by
  intro n
  induction n with
  | zero => intros; kernel_rfl
  | succ n ih =>
    intro j ag al ae am
    have e0 := funext fun j => funext fun ag => funext fun al => funext fun ae => funext fun am => (show mk_Case_l1 N F n (mk_Case_s1 a b c e f d i g j ag al ae am) = _ from ih j ag al ae am)
    have e1 := funext fun ad => funext fun z => funext fun aa => funext fun ab => (show mk_Case_w2 N F (mk_Case_s2 j a b c e f d i g ad z aa ab) = _ from (loopW_eq ..).trans (mk_Case_q2_eq N F j a b c e f d i g N ad z aa ab))
    have hK : mk_Case_l1 N F (n + 1) (mk_Case_s1 a b c e f d i g j ag al ae am) = (mk_Case_q1B N (mk_Case_r0 F) a b c e f d i g (fun j ag al ae am => mk_Case_l1 N F n (mk_Case_s1 a b c e f d i g j ag al ae am)) (fun ad z aa ab => mk_Case_w2 N F (mk_Case_s2 j a b c e f d i g ad z aa ab)) j ag al ae am) := by kernel_rfl
    exact hK.trans (by rw [e0, e1]; rfl)
theorem mk_Case_q0_eq (N : Nat)  (F : AV → Heap → Option R) (a : LA) (b : Nat) (c : Bool) (f : Nat) (i : LA) : ∀ (n : Nat) (ai : Int) (an : Int) (e : Int) (d : Nat) (g : LA), mk_Case_l0 N F n (mk_Case_s0 a b c f i ai an e d g) = (mk_Case_q0 N (mk_Case_r0 F) a b c f i n ai an e d g) := by
  intro n
  induction n with
  | zero => intros; kernel_rfl
  | succ n ih =>
    intro ai an e d g
    have e0 := funext fun ai => funext fun an => funext fun e => funext fun d => funext fun g => (show mk_Case_l0 N F n (mk_Case_s0 a b c f i ai an e d g) = _ from ih ai an e d g)
    have e1 := funext fun j => funext fun ag => funext fun al => funext fun ae => funext fun am => (show mk_Case_w1 N F (mk_Case_s1 a b c e f d i g j ag al ae am) = _ from (loopW_eq ..).trans (mk_Case_q1_eq N F a b c e f d i g N j ag al ae am))
    have hK : mk_Case_l0 N F (n + 1) (mk_Case_s0 a b c f i ai an e d g) = (mk_Case_q0B N (mk_Case_r0 F) a b c f i (fun ai an e d g => mk_Case_l0 N F n (mk_Case_s0 a b c f i ai an e d g)) (fun j ag al ae am => mk_Case_w1 N F (mk_Case_s1 a b c e f d i g j ag al ae am)) ai an e d g) := by kernel_rfl
    exact hK.trans (by rw [e0, e1]; rfl)
theorem mk_Case_eq (N : Nat) (a : LA) (b : Nat) (ay : Bool) (c : Bool) (F : AV → Heap → Option R) : execF Try.prog muts (mk_Case_T N) mk_Case_hs N 5 [(.imm a b 1 ay c)] [] F = (mk_Case N a b ay c (mk_Case_r0 F)) := by
  have e1 := funext fun f => funext fun i => funext fun ai => funext fun an => funext fun e => funext fun d => funext fun g => (show mk_Case_w0 N F (mk_Case_s0 a b c f i ai an e d g) = _ from (loopW_eq ..).trans (mk_Case_q0_eq N F a b c f i N ai an e d g))
  have hK : execF Try.prog muts (mk_Case_T N) mk_Case_hs N 5 [(.imm a b 1 ay c)] [] F = (mk_CaseB N (mk_Case_r0 F) (fun f i ai an e d g => mk_Case_w0 N F (mk_Case_s0 a b c f i ai an e d g)) a b ay c) := by kernel_rfl
  rw [mk_Case_def]
  exact hK.trans (by rw [e1]; rfl)
noncomputable def mk_Case_run (N : Nat) (args : List AV) (h : Heap) (k : AV → Heap → Option R) : Option R :=
  match args, h with
  | [(.imm a b 1 ay c)], [] => (mk_Case N a b ay c (mk_Case_r0 k))
  | _, _ => none
noncomputable def mk_Case_Tw (N : Nat) : Tw where
  runK := mk_Case_run N
  eq := by
    intro R args h k
    unfold mk_Case_run
    split
    · exact (mk_Case_eq ..).symm.trans ((execF_bind ..).trans (congrArg (Option.bind · _) (mk_Case_eq ..)))
    · rfl
theorem mk_Case_ok (N : Nat) : TwOk Try.prog 5 (mk_Case_Tw N) := by
  intro args h res bc dr
  have hh : mk_Case_run N args h (fun v bc => some (v, bc)) = some (res, bc) := dr
  unfold mk_Case_run at hh
  split at hh
  · exact execF_sound (T := mk_Case_T N) ⟨mk_New_ok N, tp_Next_ok N, tp_hours_ok N, mk_name_ok N, tp_line_ok N, tp_unit_ok N, tp_outage_ok N, r18_Check_ok N, trivial⟩ follows ((mk_Case_eq ..).trans hh)
  · cases hh
noncomputable def ck_atB (N : Nat) (r0 : Bool → LA → Option R)  (c : Int) (d : Int) (b : Bool) (a : LA) : Option R :=
  (rdI .i64 (List.drop 11 a) fun f => (cond (f == (0 : Int)) (cond ((Nat.beq 3 3) && ((Nat.ble 11 (List.length a)) && (!false))) (r0 (b || false) (splice a 8 [(.int .i64 c), (.int .i64 d), (.int .i64 0)])) none) (r0 b a)))
noncomputable def ck_ati (N : Nat) (c : Int) (d : Int) (b : Bool) (a : LA) (r0 : Bool → LA → Option R) : Option R := (ck_atB N r0 c d b a)
noncomputable def ck_at := (shut (@ck_ati R)).1
theorem ck_at_def : @ck_at R = @ck_ati R := (shut _).2
noncomputable def ck_at_hs : Hints := { H := (hS (hR [0,1,2,10]) (hS hL hL)), nils := [], modes := [], free := [], cob := [] }
noncomputable def ck_at_T (N : Nat) : List (Nat × Tw) := []
noncomputable def ck_at_E (N : Nat) : Env := mkE 17 ck_at_hs (ck_at_T N)
noncomputable def ck_at_fin (N : Nat) (F : AV → Heap → Option R) := afinish (ck_at_E N) Try.f51 ck_at_hs.modes [100000] F
noncomputable def ck_at_at (N : Nat) (F : AV → Heap → Option R) := atF (ck_at_E N) [100000] N Try.f51 ck_at_hs (ck_at_fin N F)
noncomputable def ck_at_r0  (F : AV → Heap → Option R) : Bool → LA → Option R := (fun g i => F (.tup []) [(100000, ⟨false, false, true, g, 0, i⟩)])
theorem ck_at_eq (N : Nat) (c : Int) (d : Int) (b : Bool) (a : LA) (F : AV → Heap → Option R) : execF Try.prog muts (ck_at_T N) ck_at_hs N 51 [(.optr 100000 0), (.int .i64 c), (.int .i64 d)] [(100000, ⟨false, false, true, b, 0, a⟩)] F = (ck_at N c d b a (ck_at_r0 F)) := by
  have hK : execF Try.prog muts (ck_at_T N) ck_at_hs N 51 [(.optr 100000 0), (.int .i64 c), (.int .i64 d)] [(100000, ⟨false, false, true, b, 0, a⟩)] F = (ck_atB N (ck_at_r0 F) c d b a) := by kernel_rfl
  rw [ck_at_def]
  exact hK
noncomputable def ck_at_run (N : Nat) (args : List AV) (h : Heap) (k : AV → Heap → Option R) : Option R :=
  match args, h with
  | [(.optr 100000 0), (.int .i64 c), (.int .i64 d)], [(100000, ⟨false, false, true, b, 0, a⟩)] => (ck_at N c d b a (ck_at_r0 k))
  | _, _ => none
noncomputable def ck_at_Tw (N : Nat) : Tw where
  runK := ck_at_run N
  eq := by
    intro R args h k
    unfold ck_at_run
    split
    · exact (ck_at_eq ..).symm.trans ((execF_bind ..).trans (congrArg (Option.bind · _) (ck_at_eq ..)))
    · rfl
theorem ck_at_ok (N : Nat) : TwOk Try.prog 51 (ck_at_Tw N) := by
  intro args h res e j
  have hh : ck_at_run N args h (fun v e => some (v, e)) = some (res, e) := j
  unfold ck_at_run at hh
  split at hh
  · exact execF_sound (T := ck_at_T N) trivial follows ((ck_at_eq ..).trans hh)
  · cases hh
noncomputable def ck_needB (N : Nat) (r0 : Bool → LA → Option R)  (d : Bool) (c : Int) (e : Int) (b : Bool) (a : LA) : Option R :=
  (rdI .i64 (List.drop 11 a) fun g => (cond ((g == (0 : Int)) == true) (cond (cond true (!d) false) (cond ((Nat.beq 1 1) && ((Nat.ble 11 (List.length a)) && (!false))) (cond ((Nat.beq 1 1) && ((Nat.ble 12 (List.length (List.set a 10 (.int .i64 c)))) && (!false))) (r0 ((b || false) || false) (List.set (List.set a 10 (.int .i64 c)) 11 (.int .i64 e))) none) none) (r0 b a)) (r0 b a)))
noncomputable def ck_needi (N : Nat) (d : Bool) (c : Int) (e : Int) (b : Bool) (a : LA) (r0 : Bool → LA → Option R) : Option R := (ck_needB N r0 d c e b a)
noncomputable def ck_need := (shut (@ck_needi R)).1
theorem ck_need_def : @ck_need R = @ck_needi R := (shut _).2
noncomputable def ck_need_hs : Hints := { H := (hS (hR [0,2,3,16]) (hS hL hL)), nils := [], modes := [], free := [], cob := [] }
noncomputable def ck_need_T (N : Nat) : List (Nat × Tw) := []
noncomputable def ck_need_E (N : Nat) : Env := mkE 26 ck_need_hs (ck_need_T N)
noncomputable def ck_need_fin (N : Nat) (F : AV → Heap → Option R) := afinish (ck_need_E N) Try.f54 ck_need_hs.modes [100000] F
noncomputable def ck_need_at (N : Nat) (F : AV → Heap → Option R) := atF (ck_need_E N) [100000] N Try.f54 ck_need_hs (ck_need_fin N F)
noncomputable def ck_need_r0  (F : AV → Heap → Option R) : Bool → LA → Option R := (fun i j => F (.tup []) [(100000, ⟨false, false, true, i, 0, j⟩)])
theorem ck_need_eq (N : Nat) (d : Bool) (c : Int) (e : Int) (b : Bool) (a : LA) (F : AV → Heap → Option R) : execF Try.prog muts (ck_need_T N) ck_need_hs N 54 [(.optr 100000 0), (.bool d), (.int .i64 c), (.int .i64 e)] [(100000, ⟨false, false, true, b, 0, a⟩)] F = (ck_need N d c e b a (ck_need_r0 F)) := by
  have hK : execF Try.prog muts (ck_need_T N) ck_need_hs N 54 [(.optr 100000 0), (.bool d), (.int .i64 c), (.int .i64 e)] [(100000, ⟨false, false, true, b, 0, a⟩)] F = (ck_needB N (ck_need_r0 F) d c e b a) := by kernel_rfl
  rw [ck_need_def]
  exact hK
noncomputable def ck_need_run (N : Nat) (args : List AV) (h : Heap) (k : AV → Heap → Option R) : Option R :=
  match args, h with
  | [(.optr 100000 0), (.bool d), (.int .i64 c), (.int .i64 e)], [(100000, ⟨false, false, true, b, 0, a⟩)] => (ck_need N d c e b a (ck_need_r0 k))
  | _, _ => none
noncomputable def ck_need_Tw (N : Nat) : Tw where
  runK := ck_need_run N
  eq := by
    intro R args h k
    unfold ck_need_run
    split
    · exact (ck_need_eq ..).symm.trans ((execF_bind ..).trans (congrArg (Option.bind · _) (ck_need_eq ..)))
    · rfl
theorem ck_need_ok (N : Nat) : TwOk Try.prog 54 (ck_need_Tw N) := by
  intro args h res f l
  have hh : ck_need_run N args h (fun v f => some (v, f)) = some (res, f) := l
  unfold ck_need_run at hh
  split at hh
  · exact execF_sound (T := ck_need_T N) trivial follows ((ck_need_eq ..).trans hh)
  · cases hh
noncomputable def ck_withinB (N : Nat) (r0 : Bool → LA → Option R)  (a : Int) (b : Int) (e : Int) (f : Int) (c : Bool) (d : LA) : Option R :=
  (cond ((decide (b ≥ e)) == true) (ck_need N (cond true (decide (b ≤ f)) false) a 3 c d (fun i j => (r0 i j))) (ck_need N false a 3 c d (fun l m => (r0 l m))))
noncomputable def ck_withini (N : Nat) (a : Int) (b : Int) (e : Int) (f : Int) (c : Bool) (d : LA) (r0 : Bool → LA → Option R) : Option R := (ck_withinB N r0 a b e f c d)
noncomputable def ck_within := (shut (@ck_withini R)).1
theorem ck_within_def : @ck_within R = @ck_withini R := (shut _).2
noncomputable def ck_within_hs : Hints := { H := hL, nils := [], modes := [], free := [], cob := [] }
noncomputable def ck_within_T (N : Nat) : List (Nat × Tw) := [(54, ck_need_Tw N)]
noncomputable def ck_within_E (N : Nat) : Env := mkE 21 ck_within_hs (ck_within_T N)
noncomputable def ck_within_fin (N : Nat) (F : AV → Heap → Option R) := afinish (ck_within_E N) Try.f52 ck_within_hs.modes [100000] F
noncomputable def ck_within_at (N : Nat) (F : AV → Heap → Option R) := atF (ck_within_E N) [100000] N Try.f52 ck_within_hs (ck_within_fin N F)
noncomputable def ck_within_r0  (F : AV → Heap → Option R) : Bool → LA → Option R := (fun n o => F (.tup []) [(100000, ⟨false, false, true, n, 0, o⟩)])
theorem ck_within_eq (N : Nat) (a : Int) (b : Int) (e : Int) (f : Int) (c : Bool) (d : LA) (F : AV → Heap → Option R) : execF Try.prog muts (ck_within_T N) ck_within_hs N 52 [(.optr 100000 0), (.int .i64 a), (.int .i64 b), (.int .i64 e), (.int .i64 f)] [(100000, ⟨false, false, true, c, 0, d⟩)] F = (ck_within N a b e f c d (ck_within_r0 F)) := by
  have hK : execF Try.prog muts (ck_within_T N) ck_within_hs N 52 [(.optr 100000 0), (.int .i64 a), (.int .i64 b), (.int .i64 e), (.int .i64 f)] [(100000, ⟨false, false, true, c, 0, d⟩)] F = (ck_withinB N (ck_within_r0 F) a b e f c d) := by kernel_rfl
  rw [ck_within_def]
  exact hK
noncomputable def ck_within_run (N : Nat) (args : List AV) (h : Heap) (k : AV → Heap → Option R) : Option R :=
  match args, h with
  | [(.optr 100000 0), (.int .i64 a), (.int .i64 b), (.int .i64 e), (.int .i64 f)], [(100000, ⟨false, false, true, c, 0, d⟩)] => (ck_within N a b e f c d (ck_within_r0 k))
  | _, _ => none
noncomputable def ck_within_Tw (N : Nat) : Tw where
  runK := ck_within_run N
  eq := by
    intro R args h k
    unfold ck_within_run
    split
    · exact (ck_within_eq ..).symm.trans ((execF_bind ..).trans (congrArg (Option.bind · _) (ck_within_eq ..)))
    · rfl
theorem ck_within_ok (N : Nat) : TwOk Try.prog 52 (ck_within_Tw N) := by
  intro args h res g p
  have hh : ck_within_run N args h (fun v g => some (v, g)) = some (res, g) := p
  unfold ck_within_run at hh
  split at hh
  · exact execF_sound (T := ck_within_T N) ⟨ck_need_ok N, trivial⟩ follows ((ck_within_eq ..).trans hh)
  · cases hh
noncomputable def ck_hourly_q0B (N : Nat)  (r0 : Bool → LA → Option R) (b : Int) (c : Int) (d : Int) (e : LA) (a : Nat) (f : Bool) (g : Bool) (k0 : Int → Int → Bool → LA → Option R)  (m : Int) (i : Int) (l : Bool) (j : LA) : Option R :=
  (cond (decide (i < m)) (cond (inIdx i a) (rdI .i64 (List.drop ((Int.toNat i) * 1) e) fun r => (rdI .i64 (List.drop 11 j) fun t => (cond (t != (0 : Int)) (r0 l j) (ck_within N b r c d l j (fun u w => (k0 m (IntKind.wrap .i64 (i + (1 : Int))) u w)))))) none) (r0 l j))
noncomputable def ck_hourly_q0 (N : Nat)  (r0 : Bool → LA → Option R) (b : Int) (c : Int) (d : Int) (e : LA) (a : Nat) (f : Bool) (g : Bool) : Nat → Int → Int → Bool → LA → Option R
  | 0, _, _, _, _ => none
  | n + 1, m, i, l, j => (ck_hourly_q0B N r0 b c d e a f g (ck_hourly_q0 N r0 b c d e a f g n) m i l j)
noncomputable def ck_hourlyB (N : Nat) (r0 : Bool → LA → Option R) (q0 : Int → Int → Bool → LA → Option R) (b : Int) (e : LA) (a : Nat) (f : Bool) (g : Bool) (c : Int) (d : Int) (p : Bool) (o : LA) : Option R :=
  (rdI .i64 o fun x => (ck_need N (((a : Nat) : Int) == x) b 4 p o (fun y z => (q0 ((a : Nat) : Int) 0 y z))))
noncomputable def ck_hourlyi (N : Nat) (b : Int) (e : LA) (a : Nat) (f : Bool) (g : Bool) (c : Int) (d : Int) (p : Bool) (o : LA) (r0 : Bool → LA → Option R) : Option R := (ck_hourlyB N r0 (fun m i l j => (ck_hourly_q0 N r0 b c d e a f g N m i l j)) b e a f g c d p o)
noncomputable def ck_hourly := (shut (@ck_hourlyi R)).1
theorem ck_hourly_def : @ck_hourly R = @ck_hourlyi R := (shut _).2
noncomputable def ck_hourly_hs : Hints := { H := (hS (hR [0,1,2,3,4]) (hS (hR [0,1,3,4,23,24,25]) (hS (hN [0,1,3,4,23,24,25] (hS (hR [0,1,3,4,23,24,25,26]) (hS (hN [0,1,3,4,23,24,25] hL hL) (hS (hN [0,1,3,4,23,24,25] (hS (hR [0,1,3,4,11,23,24,25]) (hS (hS (hR [0,1,3,4,11,23,24,25,33]) (hN [0,1,3,4,11,23,24,25] hL hL)) (hR [0,1,3,4,23,24,25]))) hL) (hR [0,1,3,4,23,24,25])))) hL) hL))), nils := [], modes := [], free := [], cob := [] }
noncomputable def ck_hourly_T (N : Nat) : List (Nat × Tw) := [(54, ck_need_Tw N), (52, ck_within_Tw N)]
noncomputable def ck_hourly_E (N : Nat) : Env := mkE 41 ck_hourly_hs (ck_hourly_T N)
noncomputable def ck_hourly_fin (N : Nat) (F : AV → Heap → Option R) := afinish (ck_hourly_E N) Try.f53 ck_hourly_hs.modes [100000] F
noncomputable def ck_hourly_at (N : Nat) (F : AV → Heap → Option R) := atF (ck_hourly_E N) [100000] N Try.f53 ck_hourly_hs (ck_hourly_fin N F)
noncomputable def ck_hourly_r0  (F : AV → Heap → Option R) : Bool → LA → Option R := (fun aa ab => F (.tup []) [(100000, ⟨false, false, true, aa, 0, ab⟩)])
noncomputable def ck_hourly_s0 (b : Int) (c : Int) (d : Int) (e : LA) (a : Nat) (f : Bool) (g : Bool) (m : Int) (i : Int) (l : Bool) (j : LA) : St := { s := [(0, (.optr 100000 0)), (1, (.int .i64 b)), (3, (.int .i64 c)), (4, (.int .i64 d)), (23, (.imm e a 1 f g)), (24, (.int .i64 m)), (25, (.int .i64 i))], h := [(100000, ⟨false, false, true, l, 0, j⟩)] }
noncomputable def ck_hourly_w0 (N : Nat) (F : AV → Heap → Option R) : St → Option R := loopW (ck_hourly_E N) [100000] N (ck_hourly_at N F [1, 1, 0] []) N
noncomputable def ck_hourly_l0 (N : Nat) (F : AV → Heap → Option R) (n : Nat) : St → Option R := loopAt (ck_hourly_E N) [100000] N (ck_hourly_at N F [1, 1, 0] []) n
theorem ck_hourly_q0_eq (N : Nat)  (F : AV → Heap → Option R) (b : Int) (c : Int) (d : Int) (e : LA) (a : Nat) (f : Bool) (g : Bool) : ∀ (n : Nat) (m : Int) (i : Int) (l : Bool) (j : LA), ck_hourly_l0 N F n (ck_hourly_s0 b c d e a f g m i l j) = (ck_hourly_q0 N (ck_hourly_r0 F) b c d e a f g n m i l j) := by
  intro n
  induction n with
  | zero => intros; kernel_rfl
  | succ n ih =>
    intro m i l j
    have e0 := funext fun m => funext fun i => funext fun l => funext fun j => (show ck_hourly_l0 N F n (ck_hourly_s0 b c d e a f g m i l j) = _ from ih m i l j)
    have hK : ck_hourly_l0 N F (n + 1) (ck_hourly_s0 b c d e a f g m i l j) = (ck_hourly_q0B N (ck_hourly_r0 F) b c d e a f g (fun m i l j => ck_hourly_l0 N F n (ck_hourly_s0 b c d e a f g m i l j)) m i l j) := by kernel_rfl
    exact hK.trans (by rw [e0]; rfl)
theorem ck_hourly_eq (N : Nat) (b : Int) (e : LA) (a : Nat) (f : Bool) (g : Bool) (c : Int) (d : Int) (p : Bool) (o : LA) (F : AV → Heap → Option R) : execF Try.prog muts (ck_hourly_T N) ck_hourly_hs N 53 [(.optr 100000 0), (.int .i64 b), (.imm e a 1 f g), (.int .i64 c), (.int .i64 d)] [(100000, ⟨false, false, true, p, 0, o⟩)] F = (ck_hourly N b e a f g c d p o (ck_hourly_r0 F)) := by
  have e1 := funext fun m => funext fun i => funext fun l => funext fun j => (show ck_hourly_w0 N F (ck_hourly_s0 b c d e a f g m i l j) = _ from (loopW_eq ..).trans (ck_hourly_q0_eq N F b c d e a f g N m i l j))
  have hK : execF Try.prog muts (ck_hourly_T N) ck_hourly_hs N 53 [(.optr 100000 0), (.int .i64 b), (.imm e a 1 f g), (.int .i64 c), (.int .i64 d)] [(100000, ⟨false, false, true, p, 0, o⟩)] F = (ck_hourlyB N (ck_hourly_r0 F) (fun m i l j => ck_hourly_w0 N F (ck_hourly_s0 b c d e a f g m i l j)) b e a f g c d p o) := by kernel_rfl
  rw [ck_hourly_def]
  exact hK.trans (by rw [e1]; rfl)
noncomputable def ck_hourly_run (N : Nat) (args : List AV) (h : Heap) (k : AV → Heap → Option R) : Option R :=
  match args, h with
  | [(.optr 100000 0), (.int .i64 b), (.imm e a 1 f g), (.int .i64 c), (.int .i64 d)], [(100000, ⟨false, false, true, p, 0, o⟩)] => (ck_hourly N b e a f g c d p o (ck_hourly_r0 k))
  | _, _ => none
noncomputable def ck_hourly_Tw (N : Nat) : Tw where
  runK := ck_hourly_run N
  eq := by
    intro R args h k
    unfold ck_hourly_run
    split
    · exact (ck_hourly_eq ..).symm.trans ((execF_bind ..).trans (congrArg (Option.bind · _) (ck_hourly_eq ..)))
    · rfl
theorem ck_hourly_ok (N : Nat) : TwOk Try.prog 53 (ck_hourly_Tw N) := by
  intro args h res q ac
  have hh : ck_hourly_run N args h (fun v q => some (v, q)) = some (res, q) := ac
  unfold ck_hourly_run at hh
  split at hh
  · exact execF_sound (T := ck_hourly_T N) ⟨ck_need_ok N, ck_within_ok N, trivial⟩ follows ((ck_hourly_eq ..).trans hh)
  · cases hh
noncomputable def ck_whole_q0B (N : Nat)  (r0 : Bool → LA → Option R)    (b : Bool) (a : LA) : Option R :=
  (rdL 12 (List.drop 3 a) fun aq q => (ck_need N (decide (((q : Nat) : Int) ≤ (64 : Int))) 3 8 b a (fun r g => (rdL 22 (List.drop 4 g) fun ar t => (ck_need N (decide (((t : Nat) : Int) ≤ (16 : Int))) 4 8 r g (fun u i => (rdL 9 (List.drop 5 i) fun au w => (ck_need N (decide (((w : Nat) : Int) ≤ (8 : Int))) 5 8 u i (fun x j => (rdL 5 (List.drop 6 j) fun av y => (ck_need N (decide (((y : Nat) : Int) ≤ (8 : Int))) 6 8 x j (fun z l => (rdL 4 (List.drop 7 l) fun aw aa => (ck_need N (decide (((aa : Nat) : Int) ≤ (64 : Int))) 7 8 z l (fun ab ac => (r0 ab ac))))))))))))))))
noncomputable def ck_whole_q0 (N : Nat)  (r0 : Bool → LA → Option R)  (b : Bool) (a : LA) : Option R := (ck_whole_q0B N r0 b a)
noncomputable def ck_wholeB (N : Nat) (r0 : Bool → LA → Option R) (q0 : Bool → LA → Option R) (c : Bool) (d : LA) : Option R :=
  (ck_at N 0 0 c d (fun ad m => (rdI .i64 m fun ae => (ck_within N 0 ae 1 24 ad m (fun n o => (rdL 1 (List.drop 1 o) fun af ag => (ck_hourly N 1 af ag false n 0 1048576 n o (fun p e => (rdL 3 (List.drop 2 e) fun ax ah => (cond ((decide (((ah : Nat) : Int) ≥ (1 : Int))) == true) (rdL 3 (List.drop 2 e) fun ay ai => (ck_need N (cond true (decide (((ai : Nat) : Int) ≤ (32 : Int))) false) 2 8 p e (fun aj ak => (q0 aj ak)))) (ck_need N false 2 8 p e (fun al am => (q0 al am)))))))))))))
noncomputable def ck_wholei (N : Nat) (c : Bool) (d : LA) (r0 : Bool → LA → Option R) : Option R := (ck_wholeB N r0 (fun b a => (ck_whole_q0 N r0 b a)) c d)
noncomputable def ck_whole := (shut (@ck_wholei R)).1
theorem ck_whole_def : @ck_whole R = @ck_wholei R := (shut _).2
noncomputable def ck_whole_hs : Hints := { H := (hS (hR [0]) (hS (hR [0]) (hS (hR [0]) (hJ (hR [0]) (hS (hR [0]) (hS (hR [0]) (hS (hR [0]) (hS (hR [0]) hL)))))))), nils := [], modes := [], free := [], cob := [] }
noncomputable def ck_whole_T (N : Nat) : List (Nat × Tw) := [(51, ck_at_Tw N), (52, ck_within_Tw N), (53, ck_hourly_Tw N), (54, ck_need_Tw N)]
noncomputable def ck_whole_E (N : Nat) : Env := mkE 81 ck_whole_hs (ck_whole_T N)
noncomputable def ck_whole_fin (N : Nat) (F : AV → Heap → Option R) := afinish (ck_whole_E N) Try.f25 ck_whole_hs.modes [100000] F
noncomputable def ck_whole_at (N : Nat) (F : AV → Heap → Option R) := atF (ck_whole_E N) [100000] N Try.f25 ck_whole_hs (ck_whole_fin N F)
noncomputable def ck_whole_r0  (F : AV → Heap → Option R) : Bool → LA → Option R := (fun an ao => F (.tup []) [(100000, ⟨false, false, true, an, 0, ao⟩)])
noncomputable def ck_whole_s0 (b : Bool) (a : LA) : St := { s := [(0, (.optr 100000 0))], h := [(100000, ⟨false, false, true, b, 0, a⟩)] }
noncomputable def ck_whole_j0 (N : Nat) (F : AV → Heap → Option R) : St → Option R := joinAt (ck_whole_E N) [100000] N (ck_whole_at N F [1, 1, 1, 1] [])
noncomputable def ck_whole_i0 (N : Nat) (F : AV → Heap → Option R) : St → Option R := joinIn (ck_whole_E N) [100000] N (ck_whole_at N F [1, 1, 1, 1] [])
theorem ck_whole_q0_eq (N : Nat)  (F : AV → Heap → Option R)  : ∀ (b : Bool) (a : LA), ck_whole_i0 N F (ck_whole_s0 b a) = (ck_whole_q0 N (ck_whole_r0 F) b a) := by
  intro b a
  have hK : ck_whole_i0 N F (ck_whole_s0 b a) = (ck_whole_q0B N (ck_whole_r0 F) b a) := by kernel_rfl
  exact hK
theorem ck_whole_eq (N : Nat) (c : Bool) (d : LA) (F : AV → Heap → Option R) : execF Try.prog muts (ck_whole_T N) ck_whole_hs N 25 [(.optr 100000 0)] [(100000, ⟨false, false, true, c, 0, d⟩)] F = (ck_whole N c d (ck_whole_r0 F)) := by
  have e1 := funext fun b => funext fun a => (show ck_whole_j0 N F (ck_whole_s0 b a) = _ from (joinAt_eq ..).trans (ck_whole_q0_eq N F b a))
  have hK : execF Try.prog muts (ck_whole_T N) ck_whole_hs N 25 [(.optr 100000 0)] [(100000, ⟨false, false, true, c, 0, d⟩)] F = (ck_wholeB N (ck_whole_r0 F) (fun b a => ck_whole_j0 N F (ck_whole_s0 b a)) c d) := by kernel_rfl
  rw [ck_whole_def]
  exact hK.trans (by rw [e1]; rfl)
noncomputable def ck_whole_run (N : Nat) (args : List AV) (h : Heap) (k : AV → Heap → Option R) : Option R :=
  match args, h with
  | [(.optr 100000 0)], [(100000, ⟨false, false, true, c, 0, d⟩)] => (ck_whole N c d (ck_whole_r0 k))
  | _, _ => none
noncomputable def ck_whole_Tw (N : Nat) : Tw where
  runK := ck_whole_run N
  eq := by
    intro R args h k
    unfold ck_whole_run
    split
    · exact (ck_whole_eq ..).symm.trans ((execF_bind ..).trans (congrArg (Option.bind · _) (ck_whole_eq ..)))
    · rfl
theorem ck_whole_ok (N : Nat) : TwOk Try.prog 25 (ck_whole_Tw N) := by
  intro args h res f ap
  have hh : ck_whole_run N args h (fun v f => some (v, f)) = some (res, f) := ap
  unfold ck_whole_run at hh
  split at hh
  · exact execF_sound (T := ck_whole_T N) ⟨ck_at_ok N, ck_within_ok N, ck_hourly_ok N, ck_need_ok N, trivial⟩ follows ((ck_whole_eq ..).trans hh)
  · cases hh
noncomputable def ct_Name_q1B (N : Nat)  (r0 : Bool → Option R) (a : List UInt8) (k1 : Int → Int → Option R)  (c : Int) (b : Int) : Option R :=
  (cond (decide (b < c)) (cond (inIdx b (List.length a)) (cond ((decide (((UInt8.toNat (List.getD a (Int.toNat b) 0) : Nat) : Int) < (97 : Int))) == false) (cond ((cond false true (decide (((UInt8.toNat (List.getD a (Int.toNat b) 0) : Nat) : Int) > (122 : Int)))) == true) (cond ((decide (((UInt8.toNat (List.getD a (Int.toNat b) 0) : Nat) : Int) < (48 : Int))) == false) (cond ((cond true (cond false true (decide (((UInt8.toNat (List.getD a (Int.toNat b) 0) : Nat) : Int) > (57 : Int)))) false) == true) (cond (cond true (((UInt8.toNat (List.getD a (Int.toNat b) 0) : Nat) : Int) != (95 : Int)) false) (r0 false) (k1 c (IntKind.wrap .i64 (b + (1 : Int))))) (k1 c (IntKind.wrap .i64 (b + (1 : Int))))) (cond (cond true (((UInt8.toNat (List.getD a (Int.toNat b) 0) : Nat) : Int) != (95 : Int)) false) (r0 false) (k1 c (IntKind.wrap .i64 (b + (1 : Int)))))) (k1 c (IntKind.wrap .i64 (b + (1 : Int))))) (cond ((decide (((UInt8.toNat (List.getD a (Int.toNat b) 0) : Nat) : Int) < (48 : Int))) == false) (cond ((cond true (cond false true (decide (((UInt8.toNat (List.getD a (Int.toNat b) 0) : Nat) : Int) > (57 : Int)))) false) == true) (cond (cond true (((UInt8.toNat (List.getD a (Int.toNat b) 0) : Nat) : Int) != (95 : Int)) false) (r0 false) (k1 c (IntKind.wrap .i64 (b + (1 : Int))))) (k1 c (IntKind.wrap .i64 (b + (1 : Int))))) (cond (cond true (((UInt8.toNat (List.getD a (Int.toNat b) 0) : Nat) : Int) != (95 : Int)) false) (r0 false) (k1 c (IntKind.wrap .i64 (b + (1 : Int))))))) none) (r0 true))
noncomputable def ct_Name_q1 (N : Nat)  (r0 : Bool → Option R) (a : List UInt8) : Nat → Int → Int → Option R
  | 0, _, _ => none
  | n + 1, c, b => (ct_Name_q1B N r0 a (ct_Name_q1 N r0 a n) c b)
noncomputable def ct_Name_q0B (N : Nat)  (r0 : Bool → Option R) (a : List UInt8)  (q1 : Int → Int → Option R)  : Option R :=
  (q1 ((List.length a : Nat) : Int) 0)
noncomputable def ct_Name_q0 (N : Nat)  (r0 : Bool → Option R) (a : List UInt8)  : Option R := (ct_Name_q0B N r0 a (fun c b => (ct_Name_q1 N r0 a N c b)))
noncomputable def ct_NameB (N : Nat) (r0 : Bool → Option R) (q0 : Option R) (a : List UInt8) : Option R :=
  (cond ((decide (((List.length a : Nat) : Int) < (1 : Int))) == false) (cond ((cond false true (decide (((List.length a : Nat) : Int) > (16 : Int)))) == false) (cond ((cond false true (a == ([99, 111, 114, 114, 101, 99, 116, 105, 118, 101] : List UInt8))) == false) (cond (inIdx (0 : Int) (List.length a)) (cond ((cond false true (decide (((UInt8.toNat (List.getD a 0 0) : Nat) : Int) < (97 : Int)))) == false) (cond (inIdx (0 : Int) (List.length a)) (cond (cond false true (decide (((UInt8.toNat (List.getD a 0 0) : Nat) : Int) > (122 : Int)))) (r0 false) q0) none) (r0 false)) none) (r0 false)) (r0 false)) (r0 false))
noncomputable def ct_Namei (N : Nat) (a : List UInt8) (r0 : Bool → Option R) : Option R := (ct_NameB N r0 (ct_Name_q0 N r0 a) a)
noncomputable def ct_Name := (shut (@ct_Namei R)).1
theorem ct_Name_def : @ct_Name R = @ct_Namei R := (shut _).2
noncomputable def ct_Name_hs : Hints := { H := (hS (hR [0]) (hJ (hS (hR [0,26]) (hN [0] (hS (hR [2]) hL) hL)) (hS (hS (hR [0,28,29]) (hS (hN [0,28,29] (hS (hR [0,28,29,30]) (hS (hN [0,28,29] hL hL) (hS (hN [0,28,29] (hS (hR [0,3,28,29]) (hS (hR [0,4,28,29]) (hS (hR [0,28,29,52]) (hN [0,28,29] (hS (hR [2]) hL) hL)))) hL) (hR [0,28,29])))) hL) hL)) (hS (hR [2]) hL)))), nils := [], modes := [], free := [], cob := [] }
noncomputable def ct_Name_T (N : Nat) : List (Nat × Tw) := []
noncomputable def ct_Name_E (N : Nat) : Env := mkE 54 ct_Name_hs (ct_Name_T N)
noncomputable def ct_Name_fin (N : Nat) (F : AV → Heap → Option R) := afinish (ct_Name_E N) Try.f78 ct_Name_hs.modes [] F
noncomputable def ct_Name_at (N : Nat) (F : AV → Heap → Option R) := atF (ct_Name_E N) [] N Try.f78 ct_Name_hs (ct_Name_fin N F)
noncomputable def ct_Name_r0  (F : AV → Heap → Option R) : Bool → Option R := (fun e => F (.bool e) [])
noncomputable def ct_Name_s1 (a : List UInt8) (c : Int) (b : Int) : St := { s := [(0, (.str a)), (28, (.int .i64 c)), (29, (.int .i64 b))], h := [] }
noncomputable def ct_Name_w1 (N : Nat) (F : AV → Heap → Option R) : St → Option R := loopW (ct_Name_E N) [] N (ct_Name_at N F [1, 1, 0, 1, 0] []) N
noncomputable def ct_Name_l1 (N : Nat) (F : AV → Heap → Option R) (n : Nat) : St → Option R := loopAt (ct_Name_E N) [] N (ct_Name_at N F [1, 1, 0, 1, 0] []) n
noncomputable def ct_Name_s0 (a : List UInt8) : St := { s := [(0, (.str a))], h := [] }
noncomputable def ct_Name_j0 (N : Nat) (F : AV → Heap → Option R) : St → Option R := joinAt (ct_Name_E N) [] N (ct_Name_at N F [1, 1] [])
noncomputable def ct_Name_i0 (N : Nat) (F : AV → Heap → Option R) : St → Option R := joinIn (ct_Name_E N) [] N (ct_Name_at N F [1, 1] [])
theorem ct_Name_q1_eq (N : Nat)  (F : AV → Heap → Option R) (a : List UInt8) : ∀ (n : Nat) (c : Int) (b : Int), ct_Name_l1 N F n (ct_Name_s1 a c b) = (ct_Name_q1 N (ct_Name_r0 F) a n c b) := by
  intro n
  induction n with
  | zero => intros; kernel_rfl
  | succ n ih =>
    intro c b
    have e0 := funext fun c => funext fun b => (show ct_Name_l1 N F n (ct_Name_s1 a c b) = _ from ih c b)
    have hK : ct_Name_l1 N F (n + 1) (ct_Name_s1 a c b) = (ct_Name_q1B N (ct_Name_r0 F) a (fun c b => ct_Name_l1 N F n (ct_Name_s1 a c b)) c b) := by kernel_rfl
    exact hK.trans (by rw [e0]; rfl)
theorem ct_Name_q0_eq (N : Nat)  (F : AV → Heap → Option R) (a : List UInt8) : ct_Name_i0 N F (ct_Name_s0 a) = (ct_Name_q0 N (ct_Name_r0 F) a) := by
  have e1 := funext fun c => funext fun b => (show ct_Name_w1 N F (ct_Name_s1 a c b) = _ from (loopW_eq ..).trans (ct_Name_q1_eq N F a N c b))
  have hK : ct_Name_i0 N F (ct_Name_s0 a) = (ct_Name_q0B N (ct_Name_r0 F) a (fun c b => ct_Name_w1 N F (ct_Name_s1 a c b))) := by kernel_rfl
  exact hK.trans (by rw [e1]; rfl)
theorem ct_Name_eq (N : Nat) (a : List UInt8) (F : AV → Heap → Option R) : execF Try.prog muts (ct_Name_T N) ct_Name_hs N 78 [(.str a)] [] F = (ct_Name N a (ct_Name_r0 F)) := by
  have e1 := (show ct_Name_j0 N F (ct_Name_s0 a) = _ from (joinAt_eq ..).trans (ct_Name_q0_eq N F a))
  have hK : execF Try.prog muts (ct_Name_T N) ct_Name_hs N 78 [(.str a)] [] F = (ct_NameB N (ct_Name_r0 F) (ct_Name_j0 N F (ct_Name_s0 a)) a) := by kernel_rfl
  rw [ct_Name_def]
  exact hK.trans (by rw [e1]; rfl)
noncomputable def ct_Name_run (N : Nat) (args : List AV) (h : Heap) (k : AV → Heap → Option R) : Option R :=
  match args, h with
  | [(.str a)], [] => (ct_Name N a (ct_Name_r0 k))
  | _, _ => none
noncomputable def ct_Name_Tw (N : Nat) : Tw where
  runK := ct_Name_run N
  eq := by
    intro R args h k
    unfold ct_Name_run
    split
    · exact (ct_Name_eq ..).symm.trans ((execF_bind ..).trans (congrArg (Option.bind · _) (ct_Name_eq ..)))
    · rfl
theorem ct_Name_ok (N : Nat) : TwOk Try.prog 78 (ct_Name_Tw N) := by
  intro args h res d f
  have hh : ct_Name_run N args h (fun v d => some (v, d)) = some (res, d) := f
  unfold ct_Name_run at hh
  split at hh
  · exact execF_sound (T := ct_Name_T N) trivial follows ((ct_Name_eq ..).trans hh)
  · cases hh
noncomputable def ck_buses_c1B (N : Nat) (r0 : List UInt8 → Option R)  (c : Int) (b : Bool) (a : LA) : Option R :=
  (rdL 3 (List.drop 2 a) fun d e => (cond (inIdx c e) (rdS (List.drop ((Int.toNat c) * 3) d) fun f => (r0 f)) none))
noncomputable def ck_buses_c1i (N : Nat) (c : Int) (b : Bool) (a : LA) (r0 : List UInt8 → Option R) : Option R := (ck_buses_c1B N r0 c b a)
noncomputable def ck_buses_c1 := (shut (@ck_buses_c1i R)).1
theorem ck_buses_c1_def : @ck_buses_c1 R = @ck_buses_c1i R := (shut _).2
noncomputable def ck_buses_c1_hs : Hints := { H := (hS (hR [0,1]) (hS (hR [3]) hL)), nils := [], modes := [], free := [], cob := [] }
noncomputable def ck_buses_c1_T (N : Nat) : List (Nat × Tw) := []
noncomputable def ck_buses_c1_E (N : Nat) : Env := mkE 13 ck_buses_c1_hs (ck_buses_c1_T N)
noncomputable def ck_buses_c1_fin (N : Nat) (F : AV → Heap → Option R) := afinish (ck_buses_c1_E N) Try.f56 ck_buses_c1_hs.modes [100000, 100001] F
noncomputable def ck_buses_c1_at (N : Nat) (F : AV → Heap → Option R) := atF (ck_buses_c1_E N) [100000, 100001] N Try.f56 ck_buses_c1_hs (ck_buses_c1_fin N F)
noncomputable def ck_buses_c1_r0 (b : Bool) (a : LA) (F : AV → Heap → Option R) : List UInt8 → Option R := (fun g => F (.str g) [(100000, ⟨false, false, false, false, 0, [(.optr 100001 0)]⟩), (100001, ⟨false, false, true, b, 0, a⟩)])
theorem ck_buses_c1_eq (N : Nat) (c : Int) (b : Bool) (a : LA) (F : AV → Heap → Option R) : execF Try.prog muts (ck_buses_c1_T N) ck_buses_c1_hs N 56 [(.int .i64 c), (.optr 100000 0)] [(100000, ⟨false, false, false, false, 0, [(.optr 100001 0)]⟩), (100001, ⟨false, false, true, b, 0, a⟩)] F = (ck_buses_c1 N c b a (ck_buses_c1_r0 b a F)) := by
  have hK : execF Try.prog muts (ck_buses_c1_T N) ck_buses_c1_hs N 56 [(.int .i64 c), (.optr 100000 0)] [(100000, ⟨false, false, false, false, 0, [(.optr 100001 0)]⟩), (100001, ⟨false, false, true, b, 0, a⟩)] F = (ck_buses_c1B N (ck_buses_c1_r0 b a F) c b a) := by kernel_rfl
  rw [ck_buses_c1_def]
  exact hK
noncomputable def ck_buses_c1_run (N : Nat) (args : List AV) (h : Heap) (k : AV → Heap → Option R) : Option R :=
  match args, h with
  | [(.int .i64 c), (.optr 100000 0)], [(100000, ⟨false, false, false, false, 0, [(.optr 100001 0)]⟩), (100001, ⟨false, false, true, b, 0, a⟩)] => (ck_buses_c1 N c b a (ck_buses_c1_r0 b a k))
  | _, _ => none
noncomputable def ck_buses_c1_Tw (N : Nat) : Tw where
  runK := ck_buses_c1_run N
  eq := by
    intro R args h k
    unfold ck_buses_c1_run
    split
    · exact (ck_buses_c1_eq ..).symm.trans ((execF_bind ..).trans (congrArg (Option.bind · _) (ck_buses_c1_eq ..)))
    · rfl
theorem ck_buses_c1_ok (N : Nat) : TwOk Try.prog 56 (ck_buses_c1_Tw N) := by
  intro args h res a i
  have hh : ck_buses_c1_run N args h (fun v a => some (v, a)) = some (res, a) := i
  unfold ck_buses_c1_run at hh
  split at hh
  · exact execF_sound (T := ck_buses_c1_T N) trivial follows ((ck_buses_c1_eq ..).trans hh)
  · cases hh
noncomputable def ck_name_q0B (N : Nat)  (r0 : Bool → LA → Option R) (a : List UInt8) (e : Int) (k0 : Int → Bool → LA → Option R)  (d : Int) (c : Bool) (b : LA) : Option R :=
  (cond (decide (d < e)) (rdI .i64 (List.drop 11 b) fun l => (cond (l != (0 : Int)) (r0 c b) (ck_buses_c1 N d c b (fun m => (ck_need N (!(m == a)) 0 10 c b (fun o p => (k0 (IntKind.wrap .i64 (d + (1 : Int))) o p))))))) (r0 c b))
noncomputable def ck_name_q0 (N : Nat)  (r0 : Bool → LA → Option R) (a : List UInt8) (e : Int) : Nat → Int → Bool → LA → Option R
  | 0, _, _, _ => none
  | n + 1, d, c, b => (ck_name_q0B N r0 a e (ck_name_q0 N r0 a e n) d c b)
noncomputable def ck_nameB (N : Nat) (r0 : Bool → LA → Option R) (q0 : Int → Int → Bool → LA → Option R) (a : List UInt8) (f : Bool) (g : LA) : Option R :=
  (ct_Name N a (fun q => (ck_need N q 0 9 f g (fun r j => (rdI .i64 (List.drop 9 j) fun e => (q0 e 0 r j))))))
noncomputable def ck_namei (N : Nat) (a : List UInt8) (f : Bool) (g : LA) (r0 : Bool → LA → Option R) : Option R := (ck_nameB N r0 (fun e d c b => (ck_name_q0 N r0 a e N d c b)) a f g)
noncomputable def ck_name := (shut (@ck_namei R)).1
theorem ck_name_def : @ck_name R = @ck_namei R := (shut _).2
noncomputable def ck_name_hs : Hints := { H := (hS (hR [0,1,2]) (hS (hR [0,1,2,15,16]) (hS (hN [0,1,2,15,16] (hS (hR [0,1,2,15,16,17]) (hS (hN [0,1,2,15,16] hL hL) (hS (hN [0,1,2,15,16] (hS (hR [0,1,2,6,15,16]) (hS (hS (hR [0,1,2,6,15,16,23]) (hN [0,1,2,6,15,16] hL hL)) (hR [0,1,2,15,16]))) hL) (hR [0,1,2,15,16])))) hL) hL))), nils := [], modes := [], free := [], cob := [] }
noncomputable def ck_name_T (N : Nat) : List (Nat × Tw) := [(78, ct_Name_Tw N), (54, ck_need_Tw N), (56, ck_buses_c1_Tw N)]
noncomputable def ck_name_E (N : Nat) : Env := mkE 32 ck_name_hs (ck_name_T N)
noncomputable def ck_name_fin (N : Nat) (F : AV → Heap → Option R) := afinish (ck_name_E N) Try.f55 ck_name_hs.modes [100000, 100001] F
noncomputable def ck_name_at (N : Nat) (F : AV → Heap → Option R) := atF (ck_name_E N) [100000, 100001] N Try.f55 ck_name_hs (ck_name_fin N F)
noncomputable def ck_name_r0  (F : AV → Heap → Option R) : Bool → LA → Option R := (fun t u => F (.tup []) [(100000, ⟨false, false, true, t, 0, u⟩), (100001, ⟨false, false, false, false, 0, [(.optr 100000 0)]⟩)])
noncomputable def ck_name_s0 (a : List UInt8) (e : Int) (d : Int) (c : Bool) (b : LA) : St := { s := [(0, (.optr 100000 0)), (1, (.str a)), (2, (.fn 56 [(.optr 100001 0)])), (15, (.int .i64 e)), (16, (.int .i64 d))], h := [(100000, ⟨false, false, true, c, 0, b⟩), (100001, ⟨false, false, false, false, 0, [(.optr 100000 0)]⟩)] }
noncomputable def ck_name_w0 (N : Nat) (F : AV → Heap → Option R) : St → Option R := loopW (ck_name_E N) [100000, 100001] N (ck_name_at N F [1, 1, 0] []) N
noncomputable def ck_name_l0 (N : Nat) (F : AV → Heap → Option R) (n : Nat) : St → Option R := loopAt (ck_name_E N) [100000, 100001] N (ck_name_at N F [1, 1, 0] []) n
theorem ck_name_q0_eq (N : Nat)  (F : AV → Heap → Option R) (a : List UInt8) (e : Int) : ∀ (n : Nat) (d : Int) (c : Bool) (b : LA), ck_name_l0 N F n (ck_name_s0 a e d c b) = (ck_name_q0 N (ck_name_r0 F) a e n d c b) := by
  intro n
  induction n with
  | zero => intros; kernel_rfl
  | succ n ih =>
    intro d c b
    have e0 := funext fun d => funext fun c => funext fun b => (show ck_name_l0 N F n (ck_name_s0 a e d c b) = _ from ih d c b)
    have hK : ck_name_l0 N F (n + 1) (ck_name_s0 a e d c b) = (ck_name_q0B N (ck_name_r0 F) a e (fun d c b => ck_name_l0 N F n (ck_name_s0 a e d c b)) d c b) := by kernel_rfl
    exact hK.trans (by rw [e0]; rfl)
theorem ck_name_eq (N : Nat) (a : List UInt8) (f : Bool) (g : LA) (F : AV → Heap → Option R) : execF Try.prog muts (ck_name_T N) ck_name_hs N 55 [(.optr 100000 0), (.str a), (.fn 56 [(.optr 100001 0)])] [(100000, ⟨false, false, true, f, 0, g⟩), (100001, ⟨false, false, false, false, 0, [(.optr 100000 0)]⟩)] F = (ck_name N a f g (ck_name_r0 F)) := by
  have e1 := funext fun e => funext fun d => funext fun c => funext fun b => (show ck_name_w0 N F (ck_name_s0 a e d c b) = _ from (loopW_eq ..).trans (ck_name_q0_eq N F a e N d c b))
  have hK : execF Try.prog muts (ck_name_T N) ck_name_hs N 55 [(.optr 100000 0), (.str a), (.fn 56 [(.optr 100001 0)])] [(100000, ⟨false, false, true, f, 0, g⟩), (100001, ⟨false, false, false, false, 0, [(.optr 100000 0)]⟩)] F = (ck_nameB N (ck_name_r0 F) (fun e d c b => ck_name_w0 N F (ck_name_s0 a e d c b)) a f g) := by kernel_rfl
  rw [ck_name_def]
  exact hK.trans (by rw [e1]; rfl)
noncomputable def ck_name_run (N : Nat) (args : List AV) (h : Heap) (k : AV → Heap → Option R) : Option R :=
  match args, h with
  | [(.optr 100000 0), (.str a), (.fn 56 [(.optr 100001 0)])], [(100000, ⟨false, false, true, f, 0, g⟩), (100001, ⟨false, false, false, false, 0, [(.optr 100000 0)]⟩)] => (ck_name N a f g (ck_name_r0 k))
  | _, _ => none
noncomputable def ck_name_Tw (N : Nat) : Tw where
  runK := ck_name_run N
  eq := by
    intro R args h k
    unfold ck_name_run
    split
    · exact (ck_name_eq ..).symm.trans ((execF_bind ..).trans (congrArg (Option.bind · _) (ck_name_eq ..)))
    · rfl
theorem ck_name_ok (N : Nat) : TwOk Try.prog 55 (ck_name_Tw N) := by
  intro args h res i w
  have hh : ck_name_run N args h (fun v i => some (v, i)) = some (res, i) := w
  unfold ck_name_run at hh
  split at hh
  · exact execF_sound (T := ck_name_T N) ⟨ct_Name_ok N, ck_need_ok N, ck_buses_c1_ok N, trivial⟩ follows ((ck_name_eq ..).trans hh)
  · cases hh
noncomputable def ck_buses_q0B (N : Nat)  (r0 : Bool → LA → Option R) (c : LA) (g : Nat) (b : Bool) (k0 : Int → Int → Bool → LA → Option R)  (d : Int) (a : Int) (e : Bool) (f : LA) : Option R :=
  (cond (decide (a < d)) (cond (inIdx a g) (cond (Nat.ble 3 (List.length (List.drop ((Int.toNat a) * 3) c))) (cond ((Nat.beq 0 0) && ((Nat.beq (List.length (List.take 3 (List.drop ((Int.toNat a) * 3) c))) 3) && (Nat.beq 3 3))) (ck_at N 1 a e f (fun l m => (rdS (List.take 3 (List.drop ((Int.toNat a) * 3) c)) fun o => (ck_name N o l m (fun p q => (rdL 1 (List.drop 1 (List.take 3 (List.drop ((Int.toNat a) * 3) c))) fun r t => (ck_hourly N 1 r t false b 0 1048576 p q (fun u w => (rdI .i64 (List.drop 2 (List.take 3 (List.drop ((Int.toNat a) * 3) c))) fun x => (ck_within N 2 x 0 1048576 u w (fun y z => (k0 d (IntKind.wrap .i64 (a + (1 : Int))) y z)))))))))))) none) none) none) (r0 e f))
noncomputable def ck_buses_q0 (N : Nat)  (r0 : Bool → LA → Option R) (c : LA) (g : Nat) (b : Bool) : Nat → Int → Int → Bool → LA → Option R
  | 0, _, _, _, _ => none
  | n + 1, d, a, e, f => (ck_buses_q0B N r0 c g b (ck_buses_q0 N r0 c g b n) d a e f)
noncomputable def ck_busesB (N : Nat) (r0 : Bool → LA → Option R) (q0 : LA → Nat → Int → Int → Bool → LA → Option R) (b : Bool) (i : LA) : Option R :=
  (rdL 3 (List.drop 2 i) fun c g => (q0 c g ((g : Nat) : Int) 0 b i))
noncomputable def ck_busesi (N : Nat) (b : Bool) (i : LA) (r0 : Bool → LA → Option R) : Option R := (ck_busesB N r0 (fun c g d a e f => (ck_buses_q0 N r0 c g b N d a e f)) b i)
noncomputable def ck_buses := (shut (@ck_busesi R)).1
theorem ck_buses_def : @ck_buses R = @ck_busesi R := (shut _).2
noncomputable def ck_buses_hs : Hints := { H := (hS (hR [1]) (hS (hR [1,8,9,10]) (hS (hN [1,8,9,10] (hS (hR [1,8,9,10,11]) (hS (hN [1,8,9,10] hL hL) (hS (hN [1,8,9,10] (hS (hR [1,2,3,8,9,10]) (hS (hR [1,3,8,9,10]) (hS (hR [1,3,8,9,10]) (hS (hR [1,3,8,9,10]) (hR [1,8,9,10]))))) hL) (hR [1,8,9,10])))) hL) hL))), nils := [], modes := [], free := [], cob := [] }
noncomputable def ck_buses_T (N : Nat) : List (Nat × Tw) := [(51, ck_at_Tw N), (55, ck_name_Tw N), (53, ck_hourly_Tw N), (52, ck_within_Tw N)]
noncomputable def ck_buses_E (N : Nat) : Env := mkE 32 ck_buses_hs (ck_buses_T N)
noncomputable def ck_buses_fin (N : Nat) (F : AV → Heap → Option R) := afinish (ck_buses_E N) Try.f26 ck_buses_hs.modes [100000] F
noncomputable def ck_buses_at (N : Nat) (F : AV → Heap → Option R) := atF (ck_buses_E N) [100000] N Try.f26 ck_buses_hs (ck_buses_fin N F)
noncomputable def ck_buses_r0  (F : AV → Heap → Option R) : Bool → LA → Option R := (fun aa ab => F (.tup []) [(100000, ⟨false, false, true, aa, 0, ab⟩)])
noncomputable def ck_buses_s0 (c : LA) (g : Nat) (b : Bool) (d : Int) (a : Int) (e : Bool) (f : LA) : St := { s := [(1, (.optr 300000 0)), (8, (.imm c g 3 false b)), (9, (.int .i64 d)), (10, (.int .i64 a))], h := [(100000, ⟨false, false, true, e, 0, f⟩), (300000, ⟨false, false, false, false, 0, [(.optr 100000 0)]⟩)] }
noncomputable def ck_buses_w0 (N : Nat) (F : AV → Heap → Option R) : St → Option R := loopW (ck_buses_E N) [100000] N (ck_buses_at N F [1, 1, 0] []) N
noncomputable def ck_buses_l0 (N : Nat) (F : AV → Heap → Option R) (n : Nat) : St → Option R := loopAt (ck_buses_E N) [100000] N (ck_buses_at N F [1, 1, 0] []) n
theorem ck_buses_q0_eq (N : Nat)  (F : AV → Heap → Option R) (c : LA) (g : Nat) (b : Bool) : ∀ (n : Nat) (d : Int) (a : Int) (e : Bool) (f : LA), ck_buses_l0 N F n (ck_buses_s0 c g b d a e f) = (ck_buses_q0 N (ck_buses_r0 F) c g b n d a e f) := by
  intro n
  induction n with
  | zero => intros; kernel_rfl
  | succ n ih =>
    intro d a e f
    have e0 := funext fun d => funext fun a => funext fun e => funext fun f => (show ck_buses_l0 N F n (ck_buses_s0 c g b d a e f) = _ from ih d a e f)
    have hK : ck_buses_l0 N F (n + 1) (ck_buses_s0 c g b d a e f) = (ck_buses_q0B N (ck_buses_r0 F) c g b (fun d a e f => ck_buses_l0 N F n (ck_buses_s0 c g b d a e f)) d a e f) := by kernel_rfl
    exact hK.trans (by rw [e0]; rfl)
theorem ck_buses_eq (N : Nat) (b : Bool) (i : LA) (F : AV → Heap → Option R) : execF Try.prog muts (ck_buses_T N) ck_buses_hs N 26 [(.optr 100000 0)] [(100000, ⟨false, false, true, b, 0, i⟩)] F = (ck_buses N b i (ck_buses_r0 F)) := by
  have e1 := funext fun c => funext fun g => funext fun d => funext fun a => funext fun e => funext fun f => (show ck_buses_w0 N F (ck_buses_s0 c g b d a e f) = _ from (loopW_eq ..).trans (ck_buses_q0_eq N F c g b N d a e f))
  have hK : execF Try.prog muts (ck_buses_T N) ck_buses_hs N 26 [(.optr 100000 0)] [(100000, ⟨false, false, true, b, 0, i⟩)] F = (ck_busesB N (ck_buses_r0 F) (fun c g d a e f => ck_buses_w0 N F (ck_buses_s0 c g b d a e f)) b i) := by kernel_rfl
  rw [ck_buses_def]
  exact hK.trans (by rw [e1]; rfl)
noncomputable def ck_buses_run (N : Nat) (args : List AV) (h : Heap) (k : AV → Heap → Option R) : Option R :=
  match args, h with
  | [(.optr 100000 0)], [(100000, ⟨false, false, true, b, 0, i⟩)] => (ck_buses N b i (ck_buses_r0 k))
  | _, _ => none
noncomputable def ck_buses_Tw (N : Nat) : Tw where
  runK := ck_buses_run N
  eq := by
    intro R args h k
    unfold ck_buses_run
    split
    · exact (ck_buses_eq ..).symm.trans ((execF_bind ..).trans (congrArg (Option.bind · _) (ck_buses_eq ..)))
    · rfl
theorem ck_buses_ok (N : Nat) : TwOk Try.prog 26 (ck_buses_Tw N) := by
  intro args h res j ac
  have hh : ck_buses_run N args h (fun v j => some (v, j)) = some (res, j) := ac
  unfold ck_buses_run at hh
  split at hh
  · exact execF_sound (T := ck_buses_T N) ⟨ck_at_ok N, ck_name_ok N, ck_hourly_ok N, ck_within_ok N, trivial⟩ follows ((ck_buses_eq ..).trans hh)
  · cases hh
noncomputable def ck_lines_c1B (N : Nat) (r0 : List UInt8 → Option R)  (c : Int) (b : Bool) (a : LA) : Option R :=
  (rdL 12 (List.drop 3 a) fun d e => (cond (inIdx c e) (rdS (List.drop ((Int.toNat c) * 12) d) fun f => (r0 f)) none))
noncomputable def ck_lines_c1i (N : Nat) (c : Int) (b : Bool) (a : LA) (r0 : List UInt8 → Option R) : Option R := (ck_lines_c1B N r0 c b a)
noncomputable def ck_lines_c1 := (shut (@ck_lines_c1i R)).1
theorem ck_lines_c1_def : @ck_lines_c1 R = @ck_lines_c1i R := (shut _).2
noncomputable def ck_lines_c1_hs : Hints := { H := (hS (hR [0,1]) (hS (hR [3]) hL)), nils := [], modes := [], free := [], cob := [] }
noncomputable def ck_lines_c1_T (N : Nat) : List (Nat × Tw) := []
noncomputable def ck_lines_c1_E (N : Nat) : Env := mkE 13 ck_lines_c1_hs (ck_lines_c1_T N)
noncomputable def ck_lines_c1_fin (N : Nat) (F : AV → Heap → Option R) := afinish (ck_lines_c1_E N) Try.f57 ck_lines_c1_hs.modes [100000, 100001] F
noncomputable def ck_lines_c1_at (N : Nat) (F : AV → Heap → Option R) := atF (ck_lines_c1_E N) [100000, 100001] N Try.f57 ck_lines_c1_hs (ck_lines_c1_fin N F)
noncomputable def ck_lines_c1_r0 (b : Bool) (a : LA) (F : AV → Heap → Option R) : List UInt8 → Option R := (fun g => F (.str g) [(100000, ⟨false, false, false, false, 0, [(.optr 100001 0)]⟩), (100001, ⟨false, false, true, b, 0, a⟩)])
theorem ck_lines_c1_eq (N : Nat) (c : Int) (b : Bool) (a : LA) (F : AV → Heap → Option R) : execF Try.prog muts (ck_lines_c1_T N) ck_lines_c1_hs N 57 [(.int .i64 c), (.optr 100000 0)] [(100000, ⟨false, false, false, false, 0, [(.optr 100001 0)]⟩), (100001, ⟨false, false, true, b, 0, a⟩)] F = (ck_lines_c1 N c b a (ck_lines_c1_r0 b a F)) := by
  have hK : execF Try.prog muts (ck_lines_c1_T N) ck_lines_c1_hs N 57 [(.int .i64 c), (.optr 100000 0)] [(100000, ⟨false, false, false, false, 0, [(.optr 100001 0)]⟩), (100001, ⟨false, false, true, b, 0, a⟩)] F = (ck_lines_c1B N (ck_lines_c1_r0 b a F) c b a) := by kernel_rfl
  rw [ck_lines_c1_def]
  exact hK
noncomputable def ck_lines_c1_run (N : Nat) (args : List AV) (h : Heap) (k : AV → Heap → Option R) : Option R :=
  match args, h with
  | [(.int .i64 c), (.optr 100000 0)], [(100000, ⟨false, false, false, false, 0, [(.optr 100001 0)]⟩), (100001, ⟨false, false, true, b, 0, a⟩)] => (ck_lines_c1 N c b a (ck_lines_c1_r0 b a k))
  | _, _ => none
noncomputable def ck_lines_c1_Tw (N : Nat) : Tw where
  runK := ck_lines_c1_run N
  eq := by
    intro R args h k
    unfold ck_lines_c1_run
    split
    · exact (ck_lines_c1_eq ..).symm.trans ((execF_bind ..).trans (congrArg (Option.bind · _) (ck_lines_c1_eq ..)))
    · rfl
theorem ck_lines_c1_ok (N : Nat) : TwOk Try.prog 57 (ck_lines_c1_Tw N) := by
  intro args h res a i
  have hh : ck_lines_c1_run N args h (fun v a => some (v, a)) = some (res, a) := i
  unfold ck_lines_c1_run at hh
  split at hh
  · exact execF_sound (T := ck_lines_c1_T N) trivial follows ((ck_lines_c1_eq ..).trans hh)
  · cases hh
noncomputable def ck_name_v2_q0B (N : Nat)  (r0 : Bool → LA → Option R) (a : List UInt8) (e : Int) (k0 : Int → Bool → LA → Option R)  (d : Int) (c : Bool) (b : LA) : Option R :=
  (cond (decide (d < e)) (rdI .i64 (List.drop 11 b) fun l => (cond (l != (0 : Int)) (r0 c b) (ck_lines_c1 N d c b (fun m => (ck_need N (!(m == a)) 0 10 c b (fun o p => (k0 (IntKind.wrap .i64 (d + (1 : Int))) o p))))))) (r0 c b))
noncomputable def ck_name_v2_q0 (N : Nat)  (r0 : Bool → LA → Option R) (a : List UInt8) (e : Int) : Nat → Int → Bool → LA → Option R
  | 0, _, _, _ => none
  | n + 1, d, c, b => (ck_name_v2_q0B N r0 a e (ck_name_v2_q0 N r0 a e n) d c b)
noncomputable def ck_name_v2B (N : Nat) (r0 : Bool → LA → Option R) (q0 : Int → Int → Bool → LA → Option R) (a : List UInt8) (f : Bool) (g : LA) : Option R :=
  (ct_Name N a (fun q => (ck_need N q 0 9 f g (fun r j => (rdI .i64 (List.drop 9 j) fun e => (q0 e 0 r j))))))
noncomputable def ck_name_v2i (N : Nat) (a : List UInt8) (f : Bool) (g : LA) (r0 : Bool → LA → Option R) : Option R := (ck_name_v2B N r0 (fun e d c b => (ck_name_v2_q0 N r0 a e N d c b)) a f g)
noncomputable def ck_name_v2 := (shut (@ck_name_v2i R)).1
theorem ck_name_v2_def : @ck_name_v2 R = @ck_name_v2i R := (shut _).2
noncomputable def ck_name_v2_hs : Hints := { H := (hS (hR [0,1,2]) (hS (hR [0,1,2,15,16]) (hS (hN [0,1,2,15,16] (hS (hR [0,1,2,15,16,17]) (hS (hN [0,1,2,15,16] hL hL) (hS (hN [0,1,2,15,16] (hS (hR [0,1,2,6,15,16]) (hS (hS (hR [0,1,2,6,15,16,23]) (hN [0,1,2,6,15,16] hL hL)) (hR [0,1,2,15,16]))) hL) (hR [0,1,2,15,16])))) hL) hL))), nils := [], modes := [], free := [], cob := [] }
noncomputable def ck_name_v2_T (N : Nat) : List (Nat × Tw) := [(78, ct_Name_Tw N), (54, ck_need_Tw N), (57, ck_lines_c1_Tw N)]
noncomputable def ck_name_v2_E (N : Nat) : Env := mkE 32 ck_name_v2_hs (ck_name_v2_T N)
noncomputable def ck_name_v2_fin (N : Nat) (F : AV → Heap → Option R) := afinish (ck_name_v2_E N) Try.f55 ck_name_v2_hs.modes [100000, 100001] F
noncomputable def ck_name_v2_at (N : Nat) (F : AV → Heap → Option R) := atF (ck_name_v2_E N) [100000, 100001] N Try.f55 ck_name_v2_hs (ck_name_v2_fin N F)
noncomputable def ck_name_v2_r0  (F : AV → Heap → Option R) : Bool → LA → Option R := (fun t u => F (.tup []) [(100000, ⟨false, false, true, t, 0, u⟩), (100001, ⟨false, false, false, false, 0, [(.optr 100000 0)]⟩)])
noncomputable def ck_name_v2_s0 (a : List UInt8) (e : Int) (d : Int) (c : Bool) (b : LA) : St := { s := [(0, (.optr 100000 0)), (1, (.str a)), (2, (.fn 57 [(.optr 100001 0)])), (15, (.int .i64 e)), (16, (.int .i64 d))], h := [(100000, ⟨false, false, true, c, 0, b⟩), (100001, ⟨false, false, false, false, 0, [(.optr 100000 0)]⟩)] }
noncomputable def ck_name_v2_w0 (N : Nat) (F : AV → Heap → Option R) : St → Option R := loopW (ck_name_v2_E N) [100000, 100001] N (ck_name_v2_at N F [1, 1, 0] []) N
noncomputable def ck_name_v2_l0 (N : Nat) (F : AV → Heap → Option R) (n : Nat) : St → Option R := loopAt (ck_name_v2_E N) [100000, 100001] N (ck_name_v2_at N F [1, 1, 0] []) n
theorem ck_name_v2_q0_eq (N : Nat)  (F : AV → Heap → Option R) (a : List UInt8) (e : Int) : ∀ (n : Nat) (d : Int) (c : Bool) (b : LA), ck_name_v2_l0 N F n (ck_name_v2_s0 a e d c b) = (ck_name_v2_q0 N (ck_name_v2_r0 F) a e n d c b) := by
  intro n
  induction n with
  | zero => intros; kernel_rfl
  | succ n ih =>
    intro d c b
    have e0 := funext fun d => funext fun c => funext fun b => (show ck_name_v2_l0 N F n (ck_name_v2_s0 a e d c b) = _ from ih d c b)
    have hK : ck_name_v2_l0 N F (n + 1) (ck_name_v2_s0 a e d c b) = (ck_name_v2_q0B N (ck_name_v2_r0 F) a e (fun d c b => ck_name_v2_l0 N F n (ck_name_v2_s0 a e d c b)) d c b) := by kernel_rfl
    exact hK.trans (by rw [e0]; rfl)
theorem ck_name_v2_eq (N : Nat) (a : List UInt8) (f : Bool) (g : LA) (F : AV → Heap → Option R) : execF Try.prog muts (ck_name_v2_T N) ck_name_v2_hs N 55 [(.optr 100000 0), (.str a), (.fn 57 [(.optr 100001 0)])] [(100000, ⟨false, false, true, f, 0, g⟩), (100001, ⟨false, false, false, false, 0, [(.optr 100000 0)]⟩)] F = (ck_name_v2 N a f g (ck_name_v2_r0 F)) := by
  have e1 := funext fun e => funext fun d => funext fun c => funext fun b => (show ck_name_v2_w0 N F (ck_name_v2_s0 a e d c b) = _ from (loopW_eq ..).trans (ck_name_v2_q0_eq N F a e N d c b))
  have hK : execF Try.prog muts (ck_name_v2_T N) ck_name_v2_hs N 55 [(.optr 100000 0), (.str a), (.fn 57 [(.optr 100001 0)])] [(100000, ⟨false, false, true, f, 0, g⟩), (100001, ⟨false, false, false, false, 0, [(.optr 100000 0)]⟩)] F = (ck_name_v2B N (ck_name_v2_r0 F) (fun e d c b => ck_name_v2_w0 N F (ck_name_v2_s0 a e d c b)) a f g) := by kernel_rfl
  rw [ck_name_v2_def]
  exact hK.trans (by rw [e1]; rfl)
noncomputable def ck_name_v2_run (N : Nat) (args : List AV) (h : Heap) (k : AV → Heap → Option R) : Option R :=
  match args, h with
  | [(.optr 100000 0), (.str a), (.fn 57 [(.optr 100001 0)])], [(100000, ⟨false, false, true, f, 0, g⟩), (100001, ⟨false, false, false, false, 0, [(.optr 100000 0)]⟩)] => (ck_name_v2 N a f g (ck_name_v2_r0 k))
  | _, _ => none
noncomputable def ck_name_v2_Tw (N : Nat) : Tw where
  runK := ck_name_v2_run N
  eq := by
    intro R args h k
    unfold ck_name_v2_run
    split
    · exact (ck_name_v2_eq ..).symm.trans ((execF_bind ..).trans (congrArg (Option.bind · _) (ck_name_v2_eq ..)))
    · rfl
theorem ck_name_v2_ok (N : Nat) : TwOk Try.prog 55 (ck_name_v2_Tw N) := by
  intro args h res i w
  have hh : ck_name_v2_run N args h (fun v i => some (v, i)) = some (res, i) := w
  unfold ck_name_v2_run at hh
  split at hh
  · exact execF_sound (T := ck_name_v2_T N) ⟨ct_Name_ok N, ck_need_ok N, ck_lines_c1_ok N, trivial⟩ follows ((ck_name_v2_eq ..).trans hh)
  · cases hh
noncomputable def ck_busB (N : Nat) (r0 : Bool → LA → Option R)  (b : Int) (c : Int) (d : Bool) (a : LA) : Option R :=
  (cond ((decide (c ≥ (0 : Int))) == true) (rdL 3 (List.drop 2 a) fun p f => (ck_need N (cond true (decide (c < ((f : Nat) : Int))) false) b 12 d a (fun g i => (r0 g i)))) (ck_need N false b 12 d a (fun j l => (r0 j l))))
noncomputable def ck_busi (N : Nat) (b : Int) (c : Int) (d : Bool) (a : LA) (r0 : Bool → LA → Option R) : Option R := (ck_busB N r0 b c d a)
noncomputable def ck_bus := (shut (@ck_busi R)).1
theorem ck_bus_def : @ck_bus R = @ck_busi R := (shut _).2
noncomputable def ck_bus_hs : Hints := { H := hL, nils := [], modes := [], free := [], cob := [] }
noncomputable def ck_bus_T (N : Nat) : List (Nat × Tw) := [(54, ck_need_Tw N)]
noncomputable def ck_bus_E (N : Nat) : Env := mkE 21 ck_bus_hs (ck_bus_T N)
noncomputable def ck_bus_fin (N : Nat) (F : AV → Heap → Option R) := afinish (ck_bus_E N) Try.f58 ck_bus_hs.modes [100000] F
noncomputable def ck_bus_at (N : Nat) (F : AV → Heap → Option R) := atF (ck_bus_E N) [100000] N Try.f58 ck_bus_hs (ck_bus_fin N F)
noncomputable def ck_bus_r0  (F : AV → Heap → Option R) : Bool → LA → Option R := (fun m n => F (.tup []) [(100000, ⟨false, false, true, m, 0, n⟩)])
theorem ck_bus_eq (N : Nat) (b : Int) (c : Int) (d : Bool) (a : LA) (F : AV → Heap → Option R) : execF Try.prog muts (ck_bus_T N) ck_bus_hs N 58 [(.optr 100000 0), (.int .i64 b), (.int .i64 c)] [(100000, ⟨false, false, true, d, 0, a⟩)] F = (ck_bus N b c d a (ck_bus_r0 F)) := by
  have hK : execF Try.prog muts (ck_bus_T N) ck_bus_hs N 58 [(.optr 100000 0), (.int .i64 b), (.int .i64 c)] [(100000, ⟨false, false, true, d, 0, a⟩)] F = (ck_busB N (ck_bus_r0 F) b c d a) := by kernel_rfl
  rw [ck_bus_def]
  exact hK
noncomputable def ck_bus_run (N : Nat) (args : List AV) (h : Heap) (k : AV → Heap → Option R) : Option R :=
  match args, h with
  | [(.optr 100000 0), (.int .i64 b), (.int .i64 c)], [(100000, ⟨false, false, true, d, 0, a⟩)] => (ck_bus N b c d a (ck_bus_r0 k))
  | _, _ => none
noncomputable def ck_bus_Tw (N : Nat) : Tw where
  runK := ck_bus_run N
  eq := by
    intro R args h k
    unfold ck_bus_run
    split
    · exact (ck_bus_eq ..).symm.trans ((execF_bind ..).trans (congrArg (Option.bind · _) (ck_bus_eq ..)))
    · rfl
theorem ck_bus_ok (N : Nat) : TwOk Try.prog 58 (ck_bus_Tw N) := by
  intro args h res e o
  have hh : ck_bus_run N args h (fun v e => some (v, e)) = some (res, e) := o
  unfold ck_bus_run at hh
  split at hh
  · exact execF_sound (T := ck_bus_T N) ⟨ck_need_ok N, trivial⟩ follows ((ck_bus_eq ..).trans hh)
  · cases hh
noncomputable def cf_validB (N : Nat) (r0 : Bool → Option R)  (a : LA) (b : Bool) : Option R :=
  (rdI .i64 (List.drop 1 a) fun d => (cond ((decide (d ≥ (1 : Int))) == true) (rdI .i64 (List.drop 1 a) fun e => (cond ((cond true (decide (e ≤ (1048576 : Int))) false) == true) (rdI .i64 a fun f => (cond ((cond true (decide (f ≥ (-1048576 : Int))) false) == true) (rdI .i64 a fun g => (r0 (cond true (decide (g ≤ (1048576 : Int))) false))) (r0 false))) (r0 false))) (r0 false)))
noncomputable def cf_validi (N : Nat) (a : LA) (b : Bool) (r0 : Bool → Option R) : Option R := (cf_validB N r0 a b)
noncomputable def cf_valid := (shut (@cf_validi R)).1
theorem cf_valid_def : @cf_valid R = @cf_validi R := (shut _).2
noncomputable def cf_valid_hs : Hints := { H := (hS (hR [1]) (hS (hR [2]) hL)), nils := [], modes := [], free := [], cob := [] }
noncomputable def cf_valid_T (N : Nat) : List (Nat × Tw) := []
noncomputable def cf_valid_E (N : Nat) : Env := mkE 21 cf_valid_hs (cf_valid_T N)
noncomputable def cf_valid_fin (N : Nat) (F : AV → Heap → Option R) := afinish (cf_valid_E N) Try.f59 cf_valid_hs.modes [] F
noncomputable def cf_valid_at (N : Nat) (F : AV → Heap → Option R) := atF (cf_valid_E N) [] N Try.f59 cf_valid_hs (cf_valid_fin N F)
noncomputable def cf_valid_r0  (F : AV → Heap → Option R) : Bool → Option R := (fun i => F (.bool i) [])
theorem cf_valid_eq (N : Nat) (a : LA) (b : Bool) (F : AV → Heap → Option R) : execF Try.prog muts (cf_valid_T N) cf_valid_hs N 59 [(.pagg a b)] [] F = (cf_valid N a b (cf_valid_r0 F)) := by
  have hK : execF Try.prog muts (cf_valid_T N) cf_valid_hs N 59 [(.pagg a b)] [] F = (cf_validB N (cf_valid_r0 F) a b) := by kernel_rfl
  rw [cf_valid_def]
  exact hK
noncomputable def cf_valid_run (N : Nat) (args : List AV) (h : Heap) (k : AV → Heap → Option R) : Option R :=
  match args, h with
  | [(.pagg a b)], [] => (cf_valid N a b (cf_valid_r0 k))
  | _, _ => none
noncomputable def cf_valid_Tw (N : Nat) : Tw where
  runK := cf_valid_run N
  eq := by
    intro R args h k
    unfold cf_valid_run
    split
    · exact (cf_valid_eq ..).symm.trans ((execF_bind ..).trans (congrArg (Option.bind · _) (cf_valid_eq ..)))
    · rfl
theorem cf_valid_ok (N : Nat) : TwOk Try.prog 59 (cf_valid_Tw N) := by
  intro args h res c j
  have hh : cf_valid_run N args h (fun v c => some (v, c)) = some (res, c) := j
  unfold cf_valid_run at hh
  split at hh
  · exact execF_sound (T := cf_valid_T N) trivial follows ((cf_valid_eq ..).trans hh)
  · cases hh
noncomputable def cf_ascending_q0B (N : Nat)  (r0 : Bool → Option R) (b : LA) (a : Nat) (d : Bool) (e : Bool) (k0 : Int → Option R)  (c : Int) : Option R :=
  (cond (decide (c < ((a : Nat) : Int))) (cond (inIdx c a) (rdI .i64 (List.drop ((Int.toNat c) * 1) b) fun g => (cond (inIdx (IntKind.wrap .i64 (c - (1 : Int))) a) (rdI .i64 (List.drop ((Int.toNat (IntKind.wrap .i64 (c - (1 : Int)))) * 1) b) fun i => (cond (decide (g ≤ i)) (r0 false) (k0 (IntKind.wrap .i64 (c + (1 : Int)))))) none)) none) (r0 true))
noncomputable def cf_ascending_q0 (N : Nat)  (r0 : Bool → Option R) (b : LA) (a : Nat) (d : Bool) (e : Bool) : Nat → Int → Option R
  | 0, _ => none
  | n + 1, c => (cf_ascending_q0B N r0 b a d e (cf_ascending_q0 N r0 b a d e n) c)
noncomputable def cf_ascendingB (N : Nat) (r0 : Bool → Option R) (q0 : Int → Option R) (b : LA) (a : Nat) (d : Bool) (e : Bool) : Option R :=
  (q0 1)
noncomputable def cf_ascendingi (N : Nat) (b : LA) (a : Nat) (d : Bool) (e : Bool) (r0 : Bool → Option R) : Option R := (cf_ascendingB N r0 (fun c => (cf_ascending_q0 N r0 b a d e N c)) b a d e)
noncomputable def cf_ascending := (shut (@cf_ascendingi R)).1
theorem cf_ascending_def : @cf_ascending R = @cf_ascendingi R := (shut _).2
noncomputable def cf_ascending_hs : Hints := { H := (hS (hR [0]) (hS (hS (hR [0,3]) (hS (hN [0,3] (hS (hS (hR [0,3,7]) (hN [0,3] hL hL)) (hS (hN [0,3] (hS (hR [0,3,19]) (hN [0,3] (hS (hR [2]) hL) hL)) hL) (hR [0,3]))) hL) hL)) (hS (hR [2]) hL))), nils := [], modes := [], free := [], cob := [] }
noncomputable def cf_ascending_T (N : Nat) : List (Nat × Tw) := []
noncomputable def cf_ascending_E (N : Nat) : Env := mkE 20 cf_ascending_hs (cf_ascending_T N)
noncomputable def cf_ascending_fin (N : Nat) (F : AV → Heap → Option R) := afinish (cf_ascending_E N) Try.f66 cf_ascending_hs.modes [] F
noncomputable def cf_ascending_at (N : Nat) (F : AV → Heap → Option R) := atF (cf_ascending_E N) [] N Try.f66 cf_ascending_hs (cf_ascending_fin N F)
noncomputable def cf_ascending_r0  (F : AV → Heap → Option R) : Bool → Option R := (fun j => F (.bool j) [])
noncomputable def cf_ascending_s0 (b : LA) (a : Nat) (d : Bool) (e : Bool) (c : Int) : St := { s := [(0, (.imm b a 1 d e)), (3, (.int .i64 c))], h := [] }
noncomputable def cf_ascending_w0 (N : Nat) (F : AV → Heap → Option R) : St → Option R := loopW (cf_ascending_E N) [] N (cf_ascending_at N F [1, 0, 1, 0] []) N
noncomputable def cf_ascending_l0 (N : Nat) (F : AV → Heap → Option R) (n : Nat) : St → Option R := loopAt (cf_ascending_E N) [] N (cf_ascending_at N F [1, 0, 1, 0] []) n
theorem cf_ascending_q0_eq (N : Nat)  (F : AV → Heap → Option R) (b : LA) (a : Nat) (d : Bool) (e : Bool) : ∀ (n : Nat) (c : Int), cf_ascending_l0 N F n (cf_ascending_s0 b a d e c) = (cf_ascending_q0 N (cf_ascending_r0 F) b a d e n c) := by
  intro n
  induction n with
  | zero => intros; kernel_rfl
  | succ n ih =>
    intro c
    have e0 := funext fun c => (show cf_ascending_l0 N F n (cf_ascending_s0 b a d e c) = _ from ih c)
    have hK : cf_ascending_l0 N F (n + 1) (cf_ascending_s0 b a d e c) = (cf_ascending_q0B N (cf_ascending_r0 F) b a d e (fun c => cf_ascending_l0 N F n (cf_ascending_s0 b a d e c)) c) := by kernel_rfl
    exact hK.trans (by rw [e0]; rfl)
theorem cf_ascending_eq (N : Nat) (b : LA) (a : Nat) (d : Bool) (e : Bool) (F : AV → Heap → Option R) : execF Try.prog muts (cf_ascending_T N) cf_ascending_hs N 66 [(.imm b a 1 d e)] [] F = (cf_ascending N b a d e (cf_ascending_r0 F)) := by
  have e1 := funext fun c => (show cf_ascending_w0 N F (cf_ascending_s0 b a d e c) = _ from (loopW_eq ..).trans (cf_ascending_q0_eq N F b a d e N c))
  have hK : execF Try.prog muts (cf_ascending_T N) cf_ascending_hs N 66 [(.imm b a 1 d e)] [] F = (cf_ascendingB N (cf_ascending_r0 F) (fun c => cf_ascending_w0 N F (cf_ascending_s0 b a d e c)) b a d e) := by kernel_rfl
  rw [cf_ascending_def]
  exact hK.trans (by rw [e1]; rfl)
noncomputable def cf_ascending_run (N : Nat) (args : List AV) (h : Heap) (k : AV → Heap → Option R) : Option R :=
  match args, h with
  | [(.imm b a 1 d e)], [] => (cf_ascending N b a d e (cf_ascending_r0 k))
  | _, _ => none
noncomputable def cf_ascending_Tw (N : Nat) : Tw where
  runK := cf_ascending_run N
  eq := by
    intro R args h k
    unfold cf_ascending_run
    split
    · exact (cf_ascending_eq ..).symm.trans ((execF_bind ..).trans (congrArg (Option.bind · _) (cf_ascending_eq ..)))
    · rfl
theorem cf_ascending_ok (N : Nat) : TwOk Try.prog 66 (cf_ascending_Tw N) := by
  intro args h res f l
  have hh : cf_ascending_run N args h (fun v f => some (v, f)) = some (res, f) := l
  unfold cf_ascending_run at hh
  split at hh
  · exact execF_sound (T := cf_ascending_T N) trivial follows ((cf_ascending_eq ..).trans hh)
  · cases hh
noncomputable def ck_away_q0B (N : Nat)  (r0 : Bool → LA → Option R) (c : Int) (b : LA) (a : Nat) (e : Bool) (d : Bool) (g : Bool) (i : LA) (k0 : Int → Int → Bool → LA → Option R)  (m : Int) (j : Int) (l : Bool) (f : LA) : Option R :=
  (cond (decide (j < m)) (cond (inIdx j a) (rdI .i64 (List.drop ((Int.toNat j) * 1) b) fun p => (rdI .i64 (List.drop 11 f) fun q => (cond (q != (0 : Int)) (r0 l f) (rdI .i64 f fun r => (ck_within N c p 0 (IntKind.wrap .i64 (r - (1 : Int))) l f (fun t u => (k0 m (IntKind.wrap .i64 (j + (1 : Int))) t u))))))) none) (cf_ascending N b a false d (fun w => (ck_need N w c 11 l f (fun x y => (r0 x y))))))
noncomputable def ck_away_q0 (N : Nat)  (r0 : Bool → LA → Option R) (c : Int) (b : LA) (a : Nat) (e : Bool) (d : Bool) (g : Bool) (i : LA) : Nat → Int → Int → Bool → LA → Option R
  | 0, _, _, _, _ => none
  | n + 1, m, j, l, f => (ck_away_q0B N r0 c b a e d g i (ck_away_q0 N r0 c b a e d g i n) m j l f)
noncomputable def ck_awayB (N : Nat) (r0 : Bool → LA → Option R) (q0 : Int → Int → Bool → LA → Option R) (c : Int) (b : LA) (a : Nat) (e : Bool) (d : Bool) (g : Bool) (i : LA) : Option R :=
  (q0 ((a : Nat) : Int) 0 g i)
noncomputable def ck_awayi (N : Nat) (c : Int) (b : LA) (a : Nat) (e : Bool) (d : Bool) (g : Bool) (i : LA) (r0 : Bool → LA → Option R) : Option R := (ck_awayB N r0 (fun m j l f => (ck_away_q0 N r0 c b a e d g i N m j l f)) c b a e d g i)
noncomputable def ck_away := (shut (@ck_awayi R)).1
theorem ck_away_def : @ck_away R = @ck_awayi R := (shut _).2
noncomputable def ck_away_hs : Hints := { H := (hS (hS (hR [0,1,2,8,9,10]) (hN [0,1,2] (hN [0,1,2,8,9,10] (hS (hR [0,1,2,8,9,10,11]) (hS (hN [0,1,2,8,9,10] hL hL) (hS (hN [0,1,2,8,9,10] (hS (hR [0,1,2,7,8,9,10]) (hS (hS (hR [0,1,2,7,8,9,10,18]) (hN [0,1,2,7,8,9,10] hL hL)) (hR [0,1,2,8,9,10]))) hL) (hR [0,1,2,8,9,10])))) hL) hL)) hL), nils := [], modes := [], free := [], cob := [] }
noncomputable def ck_away_T (N : Nat) : List (Nat × Tw) := [(52, ck_within_Tw N), (66, cf_ascending_Tw N), (54, ck_need_Tw N)]
noncomputable def ck_away_E (N : Nat) : Env := mkE 35 ck_away_hs (ck_away_T N)
noncomputable def ck_away_fin (N : Nat) (F : AV → Heap → Option R) := afinish (ck_away_E N) Try.f60 ck_away_hs.modes [100000] F
noncomputable def ck_away_at (N : Nat) (F : AV → Heap → Option R) := atF (ck_away_E N) [100000] N Try.f60 ck_away_hs (ck_away_fin N F)
noncomputable def ck_away_r0  (F : AV → Heap → Option R) : Bool → LA → Option R := (fun z aa => F (.tup []) [(100000, ⟨false, false, true, z, 0, aa⟩)])
noncomputable def ck_away_s0 (c : Int) (b : LA) (a : Nat) (e : Bool) (d : Bool) (g : Bool) (i : LA) (m : Int) (j : Int) (l : Bool) (f : LA) : St := { s := [(0, (.optr 100000 0)), (1, (.int .i64 c)), (2, (.imm b a 1 e d)), (8, (.imm b a 1 e d)), (9, (.int .i64 m)), (10, (.int .i64 j))], h := [(100000, ⟨false, false, true, l, 0, f⟩)] }
noncomputable def ck_away_w0 (N : Nat) (F : AV → Heap → Option R) : St → Option R := loopW (ck_away_E N) [100000] N (ck_away_at N F [0, 1, 0] []) N
noncomputable def ck_away_l0 (N : Nat) (F : AV → Heap → Option R) (n : Nat) : St → Option R := loopAt (ck_away_E N) [100000] N (ck_away_at N F [0, 1, 0] []) n
theorem ck_away_q0_eq (N : Nat)  (F : AV → Heap → Option R) (c : Int) (b : LA) (a : Nat) (e : Bool) (d : Bool) (g : Bool) (i : LA) : ∀ (n : Nat) (m : Int) (j : Int) (l : Bool) (f : LA), ck_away_l0 N F n (ck_away_s0 c b a e d g i m j l f) = (ck_away_q0 N (ck_away_r0 F) c b a e d g i n m j l f) := by
  intro n
  induction n with
  | zero => intros; kernel_rfl
  | succ n ih =>
    intro m j l f
    have e0 := funext fun m => funext fun j => funext fun l => funext fun f => (show ck_away_l0 N F n (ck_away_s0 c b a e d g i m j l f) = _ from ih m j l f)
    have hK : ck_away_l0 N F (n + 1) (ck_away_s0 c b a e d g i m j l f) = (ck_away_q0B N (ck_away_r0 F) c b a e d g i (fun m j l f => ck_away_l0 N F n (ck_away_s0 c b a e d g i m j l f)) m j l f) := by kernel_rfl
    exact hK.trans (by rw [e0]; rfl)
theorem ck_away_eq (N : Nat) (c : Int) (b : LA) (a : Nat) (e : Bool) (d : Bool) (g : Bool) (i : LA) (F : AV → Heap → Option R) : execF Try.prog muts (ck_away_T N) ck_away_hs N 60 [(.optr 100000 0), (.int .i64 c), (.imm b a 1 e d)] [(100000, ⟨false, false, true, g, 0, i⟩)] F = (ck_away N c b a e d g i (ck_away_r0 F)) := by
  have e1 := funext fun m => funext fun j => funext fun l => funext fun f => (show ck_away_w0 N F (ck_away_s0 c b a e d g i m j l f) = _ from (loopW_eq ..).trans (ck_away_q0_eq N F c b a e d g i N m j l f))
  have hK : execF Try.prog muts (ck_away_T N) ck_away_hs N 60 [(.optr 100000 0), (.int .i64 c), (.imm b a 1 e d)] [(100000, ⟨false, false, true, g, 0, i⟩)] F = (ck_awayB N (ck_away_r0 F) (fun m j l f => ck_away_w0 N F (ck_away_s0 c b a e d g i m j l f)) c b a e d g i) := by kernel_rfl
  rw [ck_away_def]
  exact hK.trans (by rw [e1]; rfl)
noncomputable def ck_away_run (N : Nat) (args : List AV) (h : Heap) (k : AV → Heap → Option R) : Option R :=
  match args, h with
  | [(.optr 100000 0), (.int .i64 c), (.imm b a 1 e d)], [(100000, ⟨false, false, true, g, 0, i⟩)] => (ck_away N c b a e d g i (ck_away_r0 k))
  | _, _ => none
noncomputable def ck_away_Tw (N : Nat) : Tw where
  runK := ck_away_run N
  eq := by
    intro R args h k
    unfold ck_away_run
    split
    · exact (ck_away_eq ..).symm.trans ((execF_bind ..).trans (congrArg (Option.bind · _) (ck_away_eq ..)))
    · rfl
theorem ck_away_ok (N : Nat) : TwOk Try.prog 60 (ck_away_Tw N) := by
  intro args h res o ab
  have hh : ck_away_run N args h (fun v o => some (v, o)) = some (res, o) := ab
  unfold ck_away_run at hh
  split at hh
  · exact execF_sound (T := ck_away_T N) ⟨ck_within_ok N, cf_ascending_ok N, ck_need_ok N, trivial⟩ follows ((ck_away_eq ..).trans hh)
  · cases hh
noncomputable def ck_lines_q3B (N : Nat) (k0 : Int → Int → Bool → LA → Option R) (r0 : Bool → LA → Option R) (a : LA) (e : Nat) (b : Bool) (c : Int) (f : LA) (d : LA)   (t : Int) (u : Bool) (w : LA) : Option R :=
  (rdI .i64 (List.drop 9 f) fun aa => (ck_within N 6 aa 0 1048576 u w (fun ab ac => (rdI .i64 (List.drop 10 f) fun ad => (rdI .i64 (List.drop 9 f) fun ae => (ck_within N 7 ad ae 1048576 ab ac (fun af ag => (rdL 1 (List.drop 11 f) fun ah ai => (ck_away N 8 ah ai false b af ag (fun aj ak => (k0 c (IntKind.wrap .i64 (t + (1 : Int))) aj ak)))))))))))
noncomputable def ck_lines_q3 (N : Nat) (k0 : Int → Int → Bool → LA → Option R) (r0 : Bool → LA → Option R) (a : LA) (e : Nat) (b : Bool) (c : Int) (f : LA) (d : LA) (t : Int) (u : Bool) (w : LA) : Option R := (ck_lines_q3B N k0 r0 a e b c f d t u w)
noncomputable def ck_lines_q2B (N : Nat) (k0 : Int → Int → Bool → LA → Option R) (r0 : Bool → LA → Option R) (a : LA) (e : Nat) (b : Bool) (c : Int) (f : LA) (d : LA)  (q3 : Int → Bool → LA → Option R) (p : Int) (q : Bool) (r : LA) : Option R :=
  (cond (Nat.ble 2 (List.length (List.drop 7 f))) (cond ((!b) || (plainZ (List.take 2 (List.drop 7 f)))) (cf_valid N (List.take 2 (List.drop 7 f)) false (fun al => (cond (al == true) (rdI .i64 (List.drop 7 f) fun am => (ck_need N (cond true (decide (am ≥ (0 : Int))) false) 5 3 q r (fun an ao => (q3 p an ao)))) (ck_need N false 5 3 q r (fun ap aq => (q3 p ap aq)))))) none) none)
noncomputable def ck_lines_q2 (N : Nat) (k0 : Int → Int → Bool → LA → Option R) (r0 : Bool → LA → Option R) (a : LA) (e : Nat) (b : Bool) (c : Int) (f : LA) (d : LA) (p : Int) (q : Bool) (r : LA) : Option R := (ck_lines_q2B N k0 r0 a e b c f d (fun t u w => (ck_lines_q3 N k0 r0 a e b c f d t u w)) p q r)
noncomputable def ck_lines_q1B (N : Nat) (k0 : Int → Int → Bool → LA → Option R) (r0 : Bool → LA → Option R) (a : LA) (e : Nat) (b : Bool) (c : Int) (d : LA)  (q2 : Int → Bool → LA → Option R) (l : Int) (f : LA) (m : Bool) (o : LA) : Option R :=
  (cond (Nat.ble 2 (List.length (List.drop 5 f))) (cond ((!b) || (plainZ (List.take 2 (List.drop 5 f)))) (cf_valid N (List.take 2 (List.drop 5 f)) false (fun ar => (cond (ar == true) (rdI .i64 (List.drop 5 f) fun au => (ck_need N (cond true (decide (au ≤ (0 : Int))) false) 4 3 m o (fun av aw => (q2 l av aw)))) (ck_need N false 4 3 m o (fun ax ay => (q2 l ax ay)))))) none) none)
noncomputable def ck_lines_q1 (N : Nat) (k0 : Int → Int → Bool → LA → Option R) (r0 : Bool → LA → Option R) (a : LA) (e : Nat) (b : Bool) (c : Int) (d : LA) (l : Int) (f : LA) (m : Bool) (o : LA) : Option R := (ck_lines_q1B N k0 r0 a e b c d (fun p q r => (ck_lines_q2 N k0 r0 a e b c f d p q r)) l f m o)
noncomputable def ck_lines_q0B (N : Nat)  (r0 : Bool → LA → Option R) (a : LA) (e : Nat) (b : Bool) (d : LA) (k0 : Int → Int → Bool → LA → Option R) (q1 : Int → LA → Bool → LA → Option R) (c : Int) (g : Int) (i : Bool) (j : LA) : Option R :=
  (cond (decide (g < c)) (cond (inIdx g e) (cond (Nat.ble 12 (List.length (List.drop ((Int.toNat g) * 12) a))) (cond ((Nat.beq 0 0) && ((Nat.beq (List.length (List.take 12 (List.drop ((Int.toNat g) * 12) a))) 12) && (Nat.beq 12 12))) (ck_at N 2 g i j (fun az ba => (rdS (List.take 12 (List.drop ((Int.toNat g) * 12) a)) fun bb => (ck_name_v2 N bb az ba (fun bc bd => (rdI .i64 (List.drop 1 (List.take 12 (List.drop ((Int.toNat g) * 12) a))) fun be => (ck_bus N 1 be bc bd (fun bf bg => (rdI .i64 (List.drop 2 (List.take 12 (List.drop ((Int.toNat g) * 12) a))) fun bh => (ck_bus N 2 bh bf bg (fun bi bj => (rdI .i64 (List.drop 2 (List.take 12 (List.drop ((Int.toNat g) * 12) a))) fun bk => (rdI .i64 (List.drop 1 (List.take 12 (List.drop ((Int.toNat g) * 12) a))) fun bl => (ck_need N (bk != bl) 2 1 bi bj (fun y z => (cond (Nat.ble 2 (List.length (List.drop 3 (List.take 12 (List.drop ((Int.toNat g) * 12) a))))) (cond ((!b) || (plainZ (List.take 2 (List.drop 3 (List.take 12 (List.drop ((Int.toNat g) * 12) a)))))) (cf_valid N (List.take 2 (List.drop 3 (List.take 12 (List.drop ((Int.toNat g) * 12) a)))) false (fun bm => (cond (bm == true) (rdI .i64 (List.drop 3 (List.take 12 (List.drop ((Int.toNat g) * 12) a))) fun bn => (ck_need N (cond true (decide (bn > (0 : Int))) false) 3 3 y z (fun bo bp => (q1 g (List.take 12 (List.drop ((Int.toNat g) * 12) a)) bo bp)))) (ck_need N false 3 3 y z (fun bq br => (q1 g (List.take 12 (List.drop ((Int.toNat g) * 12) a)) bq br)))))) none) none)))))))))))))))) none) none) none) (r0 i j))
noncomputable def ck_lines_q0 (N : Nat)  (r0 : Bool → LA → Option R) (a : LA) (e : Nat) (b : Bool) (d : LA) : Nat → Int → Int → Bool → LA → Option R
  | 0, _, _, _, _ => none
  | n + 1, c, g, i, j => (ck_lines_q0B N r0 a e b d (ck_lines_q0 N r0 a e b d n) (fun l f m o => (ck_lines_q1 N (ck_lines_q0 N r0 a e b d n) r0 a e b c d l f m o)) c g i j)
noncomputable def ck_linesB (N : Nat) (r0 : Bool → LA → Option R) (q0 : LA → Nat → Int → Int → Bool → LA → Option R) (b : Bool) (d : LA) : Option R :=
  (rdL 12 (List.drop 3 d) fun a e => (q0 a e ((e : Nat) : Int) 0 b d))
noncomputable def ck_linesi (N : Nat) (b : Bool) (d : LA) (r0 : Bool → LA → Option R) : Option R := (ck_linesB N r0 (fun a e c g i j => (ck_lines_q0 N r0 a e b d N c g i j)) b d)
noncomputable def ck_lines := (shut (@ck_linesi R)).1
theorem ck_lines_def : @ck_lines R = @ck_linesi R := (shut _).2
noncomputable def ck_lines_hs : Hints := { H := (hS (hR [1]) (hS (hR [1,8,9,10]) (hS (hN [1,8,9,10] (hS (hR [1,8,9,10,11]) (hS (hN [1,8,9,10] hL hL) (hS (hN [1,8,9,10] (hS (hR [1,2,3,8,9,10]) (hS (hR [1,3,8,9,10]) (hS (hR [1,3,8,9,10]) (hS (hR [1,3,8,9,10]) (hS (hR [1,3,8,9,10]) (hS (hR [1,3,8,9,10]) (hJ (hR [1,3,8,9,10]) (hJ (hR [1,3,8,9,10]) (hJ (hR [1,3,8,9,10]) (hS (hR [1,3,8,9,10]) (hS (hR [1,3,8,9,10]) (hR [1,8,9,10])))))))))))) hL) (hR [1,8,9,10])))) hL) hL))), nils := [], modes := [], free := [], cob := [] }
noncomputable def ck_lines_T (N : Nat) : List (Nat × Tw) := [(51, ck_at_Tw N), (55, ck_name_v2_Tw N), (58, ck_bus_Tw N), (54, ck_need_Tw N), (59, cf_valid_Tw N), (52, ck_within_Tw N), (60, ck_away_Tw N)]
noncomputable def ck_lines_E (N : Nat) : Env := mkE 86 ck_lines_hs (ck_lines_T N)
noncomputable def ck_lines_fin (N : Nat) (F : AV → Heap → Option R) := afinish (ck_lines_E N) Try.f27 ck_lines_hs.modes [100000] F
noncomputable def ck_lines_at (N : Nat) (F : AV → Heap → Option R) := atF (ck_lines_E N) [100000] N Try.f27 ck_lines_hs (ck_lines_fin N F)
noncomputable def ck_lines_r0  (F : AV → Heap → Option R) : Bool → LA → Option R := (fun bs bt => F (.tup []) [(100000, ⟨false, false, true, bs, 0, bt⟩)])
noncomputable def ck_lines_s3 (a : LA) (e : Nat) (b : Bool) (c : Int) (f : LA) (d : LA) (t : Int) (u : Bool) (w : LA) : St := { s := [(1, (.optr 300000 0)), (3, (.optr 48 0)), (8, (.imm a e 12 false b)), (9, (.int .i64 c)), (10, (.int .i64 t))], h := [(48, ⟨false, false, true, b, 0, f⟩), (100000, ⟨false, false, true, u, 0, w⟩), (300000, ⟨false, false, false, false, 0, [(.optr 100000 0)]⟩)] }
noncomputable def ck_lines_j3 (N : Nat) (F : AV → Heap → Option R) (Q0 : St → Option R) : St → Option R := joinAt (ck_lines_E N) [100000] N (ck_lines_at N F [1, 1, 0, 0, 1, 1, 0, 0, 1, 1, 1, 1, 1, 1, 1, 1, 1] [Q0])
noncomputable def ck_lines_i3 (N : Nat) (F : AV → Heap → Option R) (Q0 : St → Option R) : St → Option R := joinIn (ck_lines_E N) [100000] N (ck_lines_at N F [1, 1, 0, 0, 1, 1, 0, 0, 1, 1, 1, 1, 1, 1, 1, 1, 1] [Q0])
noncomputable def ck_lines_s2 (a : LA) (e : Nat) (b : Bool) (c : Int) (f : LA) (d : LA) (p : Int) (q : Bool) (r : LA) : St := { s := [(1, (.optr 300000 0)), (3, (.optr 48 0)), (8, (.imm a e 12 false b)), (9, (.int .i64 c)), (10, (.int .i64 p))], h := [(48, ⟨false, false, true, b, 0, f⟩), (100000, ⟨false, false, true, q, 0, r⟩), (300000, ⟨false, false, false, false, 0, [(.optr 100000 0)]⟩)] }
noncomputable def ck_lines_j2 (N : Nat) (F : AV → Heap → Option R) (Q0 : St → Option R) : St → Option R := joinAt (ck_lines_E N) [100000] N (ck_lines_at N F [1, 1, 0, 0, 1, 1, 0, 0, 1, 1, 1, 1, 1, 1, 1, 1] [Q0])
noncomputable def ck_lines_i2 (N : Nat) (F : AV → Heap → Option R) (Q0 : St → Option R) : St → Option R := joinIn (ck_lines_E N) [100000] N (ck_lines_at N F [1, 1, 0, 0, 1, 1, 0, 0, 1, 1, 1, 1, 1, 1, 1, 1] [Q0])
noncomputable def ck_lines_s1 (a : LA) (e : Nat) (b : Bool) (c : Int) (d : LA) (l : Int) (f : LA) (m : Bool) (o : LA) : St := { s := [(1, (.optr 300000 0)), (3, (.optr 48 0)), (8, (.imm a e 12 false b)), (9, (.int .i64 c)), (10, (.int .i64 l))], h := [(48, ⟨false, false, true, b, 0, f⟩), (100000, ⟨false, false, true, m, 0, o⟩), (300000, ⟨false, false, false, false, 0, [(.optr 100000 0)]⟩)] }
noncomputable def ck_lines_j1 (N : Nat) (F : AV → Heap → Option R) (Q0 : St → Option R) : St → Option R := joinAt (ck_lines_E N) [100000] N (ck_lines_at N F [1, 1, 0, 0, 1, 1, 0, 0, 1, 1, 1, 1, 1, 1, 1] [Q0])
noncomputable def ck_lines_i1 (N : Nat) (F : AV → Heap → Option R) (Q0 : St → Option R) : St → Option R := joinIn (ck_lines_E N) [100000] N (ck_lines_at N F [1, 1, 0, 0, 1, 1, 0, 0, 1, 1, 1, 1, 1, 1, 1] [Q0])
noncomputable def ck_lines_s0 (a : LA) (e : Nat) (b : Bool) (d : LA) (c : Int) (g : Int) (i : Bool) (j : LA) : St := { s := [(1, (.optr 300000 0)), (8, (.imm a e 12 false b)), (9, (.int .i64 c)), (10, (.int .i64 g))], h := [(100000, ⟨false, false, true, i, 0, j⟩), (300000, ⟨false, false, false, false, 0, [(.optr 100000 0)]⟩)] }
noncomputable def ck_lines_w0 (N : Nat) (F : AV → Heap → Option R) : St → Option R := loopW (ck_lines_E N) [100000] N (ck_lines_at N F [1, 1, 0] []) N
noncomputable def ck_lines_l0 (N : Nat) (F : AV → Heap → Option R) (n : Nat) : St → Option R := loopAt (ck_lines_E N) [100000] N (ck_lines_at N F [1, 1, 0] []) n
theorem ck_lines_q3_eq (N : Nat) (Q0 : St → Option R) (F : AV → Heap → Option R) (a : LA) (e : Nat) (b : Bool) (c : Int) (f : LA) (d : LA) : ∀ (t : Int) (u : Bool) (w : LA), ck_lines_i3 N F Q0 (ck_lines_s3 a e b c f d t u w) = (ck_lines_q3 N (fun c g i j => Q0 (ck_lines_s0 a e b d c g i j)) (ck_lines_r0 F) a e b c f d t u w) := by
  intro t u w
  have hK : ck_lines_i3 N F Q0 (ck_lines_s3 a e b c f d t u w) = (ck_lines_q3B N (fun c g i j => Q0 (ck_lines_s0 a e b d c g i j)) (ck_lines_r0 F) a e b c f d t u w) := by kernel_rfl
  exact hK
theorem ck_lines_q2_eq (N : Nat) (Q0 : St → Option R) (F : AV → Heap → Option R) (a : LA) (e : Nat) (b : Bool) (c : Int) (f : LA) (d : LA) : ∀ (p : Int) (q : Bool) (r : LA), ck_lines_i2 N F Q0 (ck_lines_s2 a e b c f d p q r) = (ck_lines_q2 N (fun c g i j => Q0 (ck_lines_s0 a e b d c g i j)) (ck_lines_r0 F) a e b c f d p q r) := by
  intro p q r
  have e1 := funext fun t => funext fun u => funext fun w => (show ck_lines_j3 N F Q0 (ck_lines_s3 a e b c f d t u w) = _ from (joinAt_eq ..).trans (ck_lines_q3_eq N Q0 F a e b c f d t u w))
  have hK : ck_lines_i2 N F Q0 (ck_lines_s2 a e b c f d p q r) = (ck_lines_q2B N (fun c g i j => Q0 (ck_lines_s0 a e b d c g i j)) (ck_lines_r0 F) a e b c f d (fun t u w => ck_lines_j3 N F Q0 (ck_lines_s3 a e b c f d t u w)) p q r) := by kernel_rfl
  exact hK.trans (by rw [e1]; rfl)
theorem ck_lines_q1_eq (N : Nat) (Q0 : St → Option R) (F : AV → Heap → Option R) (a : LA) (e : Nat) (b : Bool) (c : Int) (d : LA) : ∀ (l : Int) (f : LA) (m : Bool) (o : LA), ck_lines_i1 N F Q0 (ck_lines_s1 a e b c d l f m o) = (ck_lines_q1 N (fun c g i j => Q0 (ck_lines_s0 a e b d c g i j)) (ck_lines_r0 F) a e b c d l f m o) := by
  intro l f m o
  have e1 := funext fun p => funext fun q => funext fun r => (show ck_lines_j2 N F Q0 (ck_lines_s2 a e b c f d p q r) = _ from (joinAt_eq ..).trans (ck_lines_q2_eq N Q0 F a e b c f d p q r))
  have hK : ck_lines_i1 N F Q0 (ck_lines_s1 a e b c d l f m o) = (ck_lines_q1B N (fun c g i j => Q0 (ck_lines_s0 a e b d c g i j)) (ck_lines_r0 F) a e b c d (fun p q r => ck_lines_j2 N F Q0 (ck_lines_s2 a e b c f d p q r)) l f m o) := by kernel_rfl
  exact hK.trans (by rw [e1]; rfl)
theorem ck_lines_q0_eq (N : Nat)  (F : AV → Heap → Option R) (a : LA) (e : Nat) (b : Bool) (d : LA) : ∀ (n : Nat) (c : Int) (g : Int) (i : Bool) (j : LA), ck_lines_l0 N F n (ck_lines_s0 a e b d c g i j) = (ck_lines_q0 N (ck_lines_r0 F) a e b d n c g i j) := by
  intro n
  induction n with
  | zero => intros; kernel_rfl
  | succ n ih =>
    intro c g i j
    have e0 := funext fun c => funext fun g => funext fun i => funext fun j => (show ck_lines_l0 N F n (ck_lines_s0 a e b d c g i j) = _ from ih c g i j)
    have e1 : (fun l f m o => ck_lines_j1 N F (ck_lines_l0 N F n) (ck_lines_s1 a e b c d l f m o)) = (fun l f m o => (ck_lines_q1 N (ck_lines_q0 N (ck_lines_r0 F) a e b d n) (ck_lines_r0 F) a e b c d l f m o)) := by funext l; funext f; funext m; funext o; exact ((joinAt_eq ..).trans (ck_lines_q1_eq N (ck_lines_l0 N F n) F a e b c d l f m o)).trans (by rw [e0])
    have hK : ck_lines_l0 N F (n + 1) (ck_lines_s0 a e b d c g i j) = (ck_lines_q0B N (ck_lines_r0 F) a e b d (fun c g i j => ck_lines_l0 N F n (ck_lines_s0 a e b d c g i j)) (fun l f m o => ck_lines_j1 N F (ck_lines_l0 N F n) (ck_lines_s1 a e b c d l f m o)) c g i j) := by kernel_rfl
    exact hK.trans (by rw [e0, e1]; rfl)
theorem ck_lines_eq (N : Nat) (b : Bool) (d : LA) (F : AV → Heap → Option R) : execF Try.prog muts (ck_lines_T N) ck_lines_hs N 27 [(.optr 100000 0)] [(100000, ⟨false, false, true, b, 0, d⟩)] F = (ck_lines N b d (ck_lines_r0 F)) := by
  have e1 := funext fun a => funext fun e => funext fun c => funext fun g => funext fun i => funext fun j => (show ck_lines_w0 N F (ck_lines_s0 a e b d c g i j) = _ from (loopW_eq ..).trans (ck_lines_q0_eq N F a e b d N c g i j))
  have hK : execF Try.prog muts (ck_lines_T N) ck_lines_hs N 27 [(.optr 100000 0)] [(100000, ⟨false, false, true, b, 0, d⟩)] F = (ck_linesB N (ck_lines_r0 F) (fun a e c g i j => ck_lines_w0 N F (ck_lines_s0 a e b d c g i j)) b d) := by kernel_rfl
  rw [ck_lines_def]
  exact hK.trans (by rw [e1]; rfl)
noncomputable def ck_lines_run (N : Nat) (args : List AV) (h : Heap) (k : AV → Heap → Option R) : Option R :=
  match args, h with
  | [(.optr 100000 0)], [(100000, ⟨false, false, true, b, 0, d⟩)] => (ck_lines N b d (ck_lines_r0 k))
  | _, _ => none
noncomputable def ck_lines_Tw (N : Nat) : Tw where
  runK := ck_lines_run N
  eq := by
    intro R args h k
    unfold ck_lines_run
    split
    · exact (ck_lines_eq ..).symm.trans ((execF_bind ..).trans (congrArg (Option.bind · _) (ck_lines_eq ..)))
    · rfl
theorem ck_lines_ok (N : Nat) : TwOk Try.prog 27 (ck_lines_Tw N) := by
  intro args h res x bu
  have hh : ck_lines_run N args h (fun v x => some (v, x)) = some (res, x) := bu
  unfold ck_lines_run at hh
  split at hh
  · exact execF_sound (T := ck_lines_T N) ⟨ck_at_ok N, ck_name_v2_ok N, ck_bus_ok N, ck_need_ok N, cf_valid_ok N, ck_within_ok N, ck_away_ok N, trivial⟩ follows ((ck_lines_eq ..).trans hh)
  · cases hh
noncomputable def ck_units_c1B (N : Nat) (r0 : List UInt8 → Option R)  (c : Int) (b : Bool) (a : LA) : Option R :=
  (rdL 22 (List.drop 4 a) fun d e => (cond (inIdx c e) (rdS (List.drop ((Int.toNat c) * 22) d) fun f => (r0 f)) none))
noncomputable def ck_units_c1i (N : Nat) (c : Int) (b : Bool) (a : LA) (r0 : List UInt8 → Option R) : Option R := (ck_units_c1B N r0 c b a)
noncomputable def ck_units_c1 := (shut (@ck_units_c1i R)).1
theorem ck_units_c1_def : @ck_units_c1 R = @ck_units_c1i R := (shut _).2
noncomputable def ck_units_c1_hs : Hints := { H := (hS (hR [0,1]) (hS (hR [3]) hL)), nils := [], modes := [], free := [], cob := [] }
noncomputable def ck_units_c1_T (N : Nat) : List (Nat × Tw) := []
noncomputable def ck_units_c1_E (N : Nat) : Env := mkE 13 ck_units_c1_hs (ck_units_c1_T N)
noncomputable def ck_units_c1_fin (N : Nat) (F : AV → Heap → Option R) := afinish (ck_units_c1_E N) Try.f61 ck_units_c1_hs.modes [100000, 100001] F
noncomputable def ck_units_c1_at (N : Nat) (F : AV → Heap → Option R) := atF (ck_units_c1_E N) [100000, 100001] N Try.f61 ck_units_c1_hs (ck_units_c1_fin N F)
noncomputable def ck_units_c1_r0 (b : Bool) (a : LA) (F : AV → Heap → Option R) : List UInt8 → Option R := (fun g => F (.str g) [(100000, ⟨false, false, false, false, 0, [(.optr 100001 0)]⟩), (100001, ⟨false, false, true, b, 0, a⟩)])
theorem ck_units_c1_eq (N : Nat) (c : Int) (b : Bool) (a : LA) (F : AV → Heap → Option R) : execF Try.prog muts (ck_units_c1_T N) ck_units_c1_hs N 61 [(.int .i64 c), (.optr 100000 0)] [(100000, ⟨false, false, false, false, 0, [(.optr 100001 0)]⟩), (100001, ⟨false, false, true, b, 0, a⟩)] F = (ck_units_c1 N c b a (ck_units_c1_r0 b a F)) := by
  have hK : execF Try.prog muts (ck_units_c1_T N) ck_units_c1_hs N 61 [(.int .i64 c), (.optr 100000 0)] [(100000, ⟨false, false, false, false, 0, [(.optr 100001 0)]⟩), (100001, ⟨false, false, true, b, 0, a⟩)] F = (ck_units_c1B N (ck_units_c1_r0 b a F) c b a) := by kernel_rfl
  rw [ck_units_c1_def]
  exact hK
noncomputable def ck_units_c1_run (N : Nat) (args : List AV) (h : Heap) (k : AV → Heap → Option R) : Option R :=
  match args, h with
  | [(.int .i64 c), (.optr 100000 0)], [(100000, ⟨false, false, false, false, 0, [(.optr 100001 0)]⟩), (100001, ⟨false, false, true, b, 0, a⟩)] => (ck_units_c1 N c b a (ck_units_c1_r0 b a k))
  | _, _ => none
noncomputable def ck_units_c1_Tw (N : Nat) : Tw where
  runK := ck_units_c1_run N
  eq := by
    intro R args h k
    unfold ck_units_c1_run
    split
    · exact (ck_units_c1_eq ..).symm.trans ((execF_bind ..).trans (congrArg (Option.bind · _) (ck_units_c1_eq ..)))
    · rfl
theorem ck_units_c1_ok (N : Nat) : TwOk Try.prog 61 (ck_units_c1_Tw N) := by
  intro args h res a i
  have hh : ck_units_c1_run N args h (fun v a => some (v, a)) = some (res, a) := i
  unfold ck_units_c1_run at hh
  split at hh
  · exact execF_sound (T := ck_units_c1_T N) trivial follows ((ck_units_c1_eq ..).trans hh)
  · cases hh
noncomputable def ck_name_v3_q0B (N : Nat)  (r0 : Bool → LA → Option R) (a : List UInt8) (e : Int) (k0 : Int → Bool → LA → Option R)  (d : Int) (c : Bool) (b : LA) : Option R :=
  (cond (decide (d < e)) (rdI .i64 (List.drop 11 b) fun l => (cond (l != (0 : Int)) (r0 c b) (ck_units_c1 N d c b (fun m => (ck_need N (!(m == a)) 0 10 c b (fun o p => (k0 (IntKind.wrap .i64 (d + (1 : Int))) o p))))))) (r0 c b))
noncomputable def ck_name_v3_q0 (N : Nat)  (r0 : Bool → LA → Option R) (a : List UInt8) (e : Int) : Nat → Int → Bool → LA → Option R
  | 0, _, _, _ => none
  | n + 1, d, c, b => (ck_name_v3_q0B N r0 a e (ck_name_v3_q0 N r0 a e n) d c b)
noncomputable def ck_name_v3B (N : Nat) (r0 : Bool → LA → Option R) (q0 : Int → Int → Bool → LA → Option R) (a : List UInt8) (f : Bool) (g : LA) : Option R :=
  (ct_Name N a (fun q => (ck_need N q 0 9 f g (fun r j => (rdI .i64 (List.drop 9 j) fun e => (q0 e 0 r j))))))
noncomputable def ck_name_v3i (N : Nat) (a : List UInt8) (f : Bool) (g : LA) (r0 : Bool → LA → Option R) : Option R := (ck_name_v3B N r0 (fun e d c b => (ck_name_v3_q0 N r0 a e N d c b)) a f g)
noncomputable def ck_name_v3 := (shut (@ck_name_v3i R)).1
theorem ck_name_v3_def : @ck_name_v3 R = @ck_name_v3i R := (shut _).2
noncomputable def ck_name_v3_hs : Hints := { H := (hS (hR [0,1,2]) (hS (hR [0,1,2,15,16]) (hS (hN [0,1,2,15,16] (hS (hR [0,1,2,15,16,17]) (hS (hN [0,1,2,15,16] hL hL) (hS (hN [0,1,2,15,16] (hS (hR [0,1,2,6,15,16]) (hS (hS (hR [0,1,2,6,15,16,23]) (hN [0,1,2,6,15,16] hL hL)) (hR [0,1,2,15,16]))) hL) (hR [0,1,2,15,16])))) hL) hL))), nils := [], modes := [], free := [], cob := [] }
noncomputable def ck_name_v3_T (N : Nat) : List (Nat × Tw) := [(78, ct_Name_Tw N), (54, ck_need_Tw N), (61, ck_units_c1_Tw N)]
noncomputable def ck_name_v3_E (N : Nat) : Env := mkE 32 ck_name_v3_hs (ck_name_v3_T N)
noncomputable def ck_name_v3_fin (N : Nat) (F : AV → Heap → Option R) := afinish (ck_name_v3_E N) Try.f55 ck_name_v3_hs.modes [100000, 100001] F
noncomputable def ck_name_v3_at (N : Nat) (F : AV → Heap → Option R) := atF (ck_name_v3_E N) [100000, 100001] N Try.f55 ck_name_v3_hs (ck_name_v3_fin N F)
noncomputable def ck_name_v3_r0  (F : AV → Heap → Option R) : Bool → LA → Option R := (fun t u => F (.tup []) [(100000, ⟨false, false, true, t, 0, u⟩), (100001, ⟨false, false, false, false, 0, [(.optr 100000 0)]⟩)])
noncomputable def ck_name_v3_s0 (a : List UInt8) (e : Int) (d : Int) (c : Bool) (b : LA) : St := { s := [(0, (.optr 100000 0)), (1, (.str a)), (2, (.fn 61 [(.optr 100001 0)])), (15, (.int .i64 e)), (16, (.int .i64 d))], h := [(100000, ⟨false, false, true, c, 0, b⟩), (100001, ⟨false, false, false, false, 0, [(.optr 100000 0)]⟩)] }
noncomputable def ck_name_v3_w0 (N : Nat) (F : AV → Heap → Option R) : St → Option R := loopW (ck_name_v3_E N) [100000, 100001] N (ck_name_v3_at N F [1, 1, 0] []) N
noncomputable def ck_name_v3_l0 (N : Nat) (F : AV → Heap → Option R) (n : Nat) : St → Option R := loopAt (ck_name_v3_E N) [100000, 100001] N (ck_name_v3_at N F [1, 1, 0] []) n
theorem ck_name_v3_q0_eq (N : Nat)  (F : AV → Heap → Option R) (a : List UInt8) (e : Int) : ∀ (n : Nat) (d : Int) (c : Bool) (b : LA), ck_name_v3_l0 N F n (ck_name_v3_s0 a e d c b) = (ck_name_v3_q0 N (ck_name_v3_r0 F) a e n d c b) := by
  intro n
  induction n with
  | zero => intros; kernel_rfl
  | succ n ih =>
    intro d c b
    have e0 := funext fun d => funext fun c => funext fun b => (show ck_name_v3_l0 N F n (ck_name_v3_s0 a e d c b) = _ from ih d c b)
    have hK : ck_name_v3_l0 N F (n + 1) (ck_name_v3_s0 a e d c b) = (ck_name_v3_q0B N (ck_name_v3_r0 F) a e (fun d c b => ck_name_v3_l0 N F n (ck_name_v3_s0 a e d c b)) d c b) := by kernel_rfl
    exact hK.trans (by rw [e0]; rfl)
theorem ck_name_v3_eq (N : Nat) (a : List UInt8) (f : Bool) (g : LA) (F : AV → Heap → Option R) : execF Try.prog muts (ck_name_v3_T N) ck_name_v3_hs N 55 [(.optr 100000 0), (.str a), (.fn 61 [(.optr 100001 0)])] [(100000, ⟨false, false, true, f, 0, g⟩), (100001, ⟨false, false, false, false, 0, [(.optr 100000 0)]⟩)] F = (ck_name_v3 N a f g (ck_name_v3_r0 F)) := by
  have e1 := funext fun e => funext fun d => funext fun c => funext fun b => (show ck_name_v3_w0 N F (ck_name_v3_s0 a e d c b) = _ from (loopW_eq ..).trans (ck_name_v3_q0_eq N F a e N d c b))
  have hK : execF Try.prog muts (ck_name_v3_T N) ck_name_v3_hs N 55 [(.optr 100000 0), (.str a), (.fn 61 [(.optr 100001 0)])] [(100000, ⟨false, false, true, f, 0, g⟩), (100001, ⟨false, false, false, false, 0, [(.optr 100000 0)]⟩)] F = (ck_name_v3B N (ck_name_v3_r0 F) (fun e d c b => ck_name_v3_w0 N F (ck_name_v3_s0 a e d c b)) a f g) := by kernel_rfl
  rw [ck_name_v3_def]
  exact hK.trans (by rw [e1]; rfl)
noncomputable def ck_name_v3_run (N : Nat) (args : List AV) (h : Heap) (k : AV → Heap → Option R) : Option R :=
  match args, h with
  | [(.optr 100000 0), (.str a), (.fn 61 [(.optr 100001 0)])], [(100000, ⟨false, false, true, f, 0, g⟩), (100001, ⟨false, false, false, false, 0, [(.optr 100000 0)]⟩)] => (ck_name_v3 N a f g (ck_name_v3_r0 k))
  | _, _ => none
noncomputable def ck_name_v3_Tw (N : Nat) : Tw where
  runK := ck_name_v3_run N
  eq := by
    intro R args h k
    unfold ck_name_v3_run
    split
    · exact (ck_name_v3_eq ..).symm.trans ((execF_bind ..).trans (congrArg (Option.bind · _) (ck_name_v3_eq ..)))
    · rfl
theorem ck_name_v3_ok (N : Nat) : TwOk Try.prog 55 (ck_name_v3_Tw N) := by
  intro args h res i w
  have hh : ck_name_v3_run N args h (fun v i => some (v, i)) = some (res, i) := w
  unfold ck_name_v3_run at hh
  split at hh
  · exact execF_sound (T := ck_name_v3_T N) ⟨ct_Name_ok N, ck_need_ok N, ck_units_c1_ok N, trivial⟩ follows ((ck_name_v3_eq ..).trans hh)
  · cases hh
noncomputable def ck_segments_q1B (N : Nat)  (r0 : Bool → LA → Option R) (c : Int) (b : Bool) (a : LA) (k1 : Int → Bool → LA → Option R)  (e : Int) (g : Bool) (i : LA) : Option R :=
  (rdL 2 (List.drop 4 a) fun ax w => (cond (decide (e < ((w : Nat) : Int))) (rdL 2 (List.drop 4 a) fun x y => (cond (inIdx e y) (rdI .i64 (List.drop 1 (List.drop ((Int.toNat e) * 2) x)) fun z => (rdL 2 (List.drop 4 a) fun aa ab => (cond (inIdx (IntKind.wrap .i64 (e - (1 : Int))) ab) (rdI .i64 (List.drop 1 (List.drop ((Int.toNat (IntKind.wrap .i64 (e - (1 : Int)))) * 2) aa)) fun ac => (ck_need N (decide (z ≥ ac)) 4 11 g i (fun ad ae => (k1 (IntKind.wrap .i64 (e + (1 : Int))) ad ae)))) none))) none)) (rdI .i64 (List.drop 3 a) fun af => (rdI .i64 (List.drop 2 a) fun ag => (ck_need N (c == (IntKind.wrap .i64 (af - ag))) 4 4 g i (fun ah ai => (r0 ah ai)))))))
noncomputable def ck_segments_q1 (N : Nat)  (r0 : Bool → LA → Option R) (c : Int) (b : Bool) (a : LA) : Nat → Int → Bool → LA → Option R
  | 0, _, _, _ => none
  | n + 1, e, g, i => (ck_segments_q1B N r0 c b a (ck_segments_q1 N r0 c b a n) e g i)
noncomputable def ck_segments_q0B (N : Nat)  (r0 : Bool → LA → Option R) (f : LA) (o : Nat) (b : Bool) (a : LA) (k0 : Int → Int → Int → Bool → LA → Option R) (q1 : Int → Bool → LA → Option R) (c : Int) (j : Int) (d : Int) (l : Bool) (m : LA) : Option R :=
  (cond (decide (d < j)) (cond (inIdx d o) (cond (Nat.ble 2 (List.length (List.drop ((Int.toNat d) * 2) f))) (cond ((!b) || (plainZ (List.take 2 (List.drop ((Int.toNat d) * 2) f)))) (cond ((Nat.beq (List.length (List.take 2 (List.drop ((Int.toNat d) * 2) f))) 2) && ((Nat.ble 2 2) && (!false))) (rdI .i64 (setCells [(.int .i64 0), (.int .i64 0)] 0 (List.take 2 (List.drop ((Int.toNat d) * 2) f))) fun aj => (ck_within N 4 aj 1 1048576 l m (fun ak al => (rdI .i64 (List.drop 1 (setCells [(.int .i64 0), (.int .i64 0)] 0 (List.take 2 (List.drop ((Int.toNat d) * 2) f)))) fun am => (ck_within N 4 am (-1048576) 1048576 ak al (fun an ao => (rdI .i64 (setCells [(.int .i64 0), (.int .i64 0)] 0 (List.take 2 (List.drop ((Int.toNat d) * 2) f))) fun ap => (k0 (IntKind.wrap .i64 (c + ap)) j (IntKind.wrap .i64 (d + (1 : Int))) an ao)))))))) none) none) none) none) (q1 1 l m))
noncomputable def ck_segments_q0 (N : Nat)  (r0 : Bool → LA → Option R) (f : LA) (o : Nat) (b : Bool) (a : LA) : Nat → Int → Int → Int → Bool → LA → Option R
  | 0, _, _, _, _, _ => none
  | n + 1, c, j, d, l, m => (ck_segments_q0B N r0 f o b a (ck_segments_q0 N r0 f o b a n) (fun e g i => (ck_segments_q1 N r0 c b a N e g i)) c j d l m)
noncomputable def ck_segmentsB (N : Nat) (r0 : Bool → LA → Option R) (q0 : LA → Nat → Int → Int → Int → Bool → LA → Option R) (a : LA) (b : Bool) (p : Bool) (q : LA) : Option R :=
  (rdL 2 (List.drop 4 a) fun ay aq => (ck_need N (decide (((aq : Nat) : Int) ≤ (8 : Int))) 4 8 p q (fun u r => (rdI .i64 (List.drop 11 r) fun ar => (cond (ar != (0 : Int)) (r0 u r) (rdL 2 (List.drop 4 a) fun f o => (q0 f o 0 ((o : Nat) : Int) 0 u r)))))))
noncomputable def ck_segmentsi (N : Nat) (a : LA) (b : Bool) (p : Bool) (q : LA) (r0 : Bool → LA → Option R) : Option R := (ck_segmentsB N r0 (fun f o c j d l m => (ck_segments_q0 N r0 f o b a N c j d l m)) a b p q)
noncomputable def ck_segments := (shut (@ck_segmentsi R)).1
theorem ck_segments_def : @ck_segments R = @ck_segmentsi R := (shut _).2
noncomputable def ck_segments_hs : Hints := { H := (hS (hR [0,3]) (hS (hR [0,3]) (hS (hS (hR [0,3,18]) (hN [0,3] hL hL)) (hS (hR [0,3,4]) (hS (hS (hR [0,3,4,20,21,22]) (hN [0,3,4] (hN [0,3,4,20,21,22] (hS (hR [0,3,4,20,21,22,23]) (hS (hN [0,3,4,20,21,22] hL hL) (hS (hN [0,3,4,20,21,22] (hS (hR [0,3,4,6,20,21,22]) (hS (hR [0,3,4,6,20,21,22]) (hS (hR [0,3,4,6,20,21,22]) (hR [0,3,4,20,21,22])))) hL) (hR [0,3,4,20,21,22])))) hL) hL)) (hS (hS (hR [0,3,4,7]) (hN [0,3,4] (hN [0,3,4,7] (hS (hS (hR [0,3,4,7,43]) (hN [0,3,4,7] hL hL)) (hS (hN [0,3,4,7] (hR [0,3,4,7]) hL) (hR [0,3,4,7]))) hL) hL)) hL)))))), nils := [], modes := [], free := [], cob := [] }
noncomputable def ck_segments_T (N : Nat) : List (Nat × Tw) := [(54, ck_need_Tw N), (52, ck_within_Tw N)]
noncomputable def ck_segments_E (N : Nat) : Env := mkE 71 ck_segments_hs (ck_segments_T N)
noncomputable def ck_segments_fin (N : Nat) (F : AV → Heap → Option R) := afinish (ck_segments_E N) Try.f62 ck_segments_hs.modes [100000] F
noncomputable def ck_segments_at (N : Nat) (F : AV → Heap → Option R) := atF (ck_segments_E N) [100000] N Try.f62 ck_segments_hs (ck_segments_fin N F)
noncomputable def ck_segments_r0  (F : AV → Heap → Option R) : Bool → LA → Option R := (fun au av => F (.tup []) [(100000, ⟨false, false, true, au, 0, av⟩)])
noncomputable def ck_segments_s1 (c : Int) (b : Bool) (a : LA) (e : Int) (g : Bool) (i : LA) : St := { s := [(0, (.optr 100000 0)), (3, (.optr 300000 0)), (4, (.int .i64 c)), (7, (.int .i64 e))], h := [(100000, ⟨false, false, true, g, 0, i⟩), (300000, ⟨false, false, true, b, 0, a⟩)] }
noncomputable def ck_segments_w1 (N : Nat) (F : AV → Heap → Option R) : St → Option R := loopW (ck_segments_E N) [100000] N (ck_segments_at N F [1, 1, 1, 1, 1, 0, 1, 0] []) N
noncomputable def ck_segments_l1 (N : Nat) (F : AV → Heap → Option R) (n : Nat) : St → Option R := loopAt (ck_segments_E N) [100000] N (ck_segments_at N F [1, 1, 1, 1, 1, 0, 1, 0] []) n
noncomputable def ck_segments_s0 (f : LA) (o : Nat) (b : Bool) (a : LA) (c : Int) (j : Int) (d : Int) (l : Bool) (m : LA) : St := { s := [(0, (.optr 100000 0)), (3, (.optr 300000 0)), (4, (.int .i64 c)), (20, (.imm f o 2 false b)), (21, (.int .i64 j)), (22, (.int .i64 d))], h := [(100000, ⟨false, false, true, l, 0, m⟩), (300000, ⟨false, false, true, b, 0, a⟩)] }
noncomputable def ck_segments_w0 (N : Nat) (F : AV → Heap → Option R) : St → Option R := loopW (ck_segments_E N) [100000] N (ck_segments_at N F [1, 1, 1, 1, 0, 1, 0] []) N
noncomputable def ck_segments_l0 (N : Nat) (F : AV → Heap → Option R) (n : Nat) : St → Option R := loopAt (ck_segments_E N) [100000] N (ck_segments_at N F [1, 1, 1, 1, 0, 1, 0] []) n
theorem ck_segments_q1_eq (N : Nat)  (F : AV → Heap → Option R) (c : Int) (b : Bool) (a : LA) : ∀ (n : Nat) (e : Int) (g : Bool) (i : LA), ck_segments_l1 N F n (ck_segments_s1 c b a e g i) = (ck_segments_q1 N (ck_segments_r0 F) c b a n e g i) := by
  intro n
  induction n with
  | zero => intros; kernel_rfl
  | succ n ih =>
    intro e g i
    have e0 := funext fun e => funext fun g => funext fun i => (show ck_segments_l1 N F n (ck_segments_s1 c b a e g i) = _ from ih e g i)
    have hK : ck_segments_l1 N F (n + 1) (ck_segments_s1 c b a e g i) = (ck_segments_q1B N (ck_segments_r0 F) c b a (fun e g i => ck_segments_l1 N F n (ck_segments_s1 c b a e g i)) e g i) := by kernel_rfl
    exact hK.trans (by rw [e0]; rfl)
theorem ck_segments_q0_eq (N : Nat)  (F : AV → Heap → Option R) (f : LA) (o : Nat) (b : Bool) (a : LA) : ∀ (n : Nat) (c : Int) (j : Int) (d : Int) (l : Bool) (m : LA), ck_segments_l0 N F n (ck_segments_s0 f o b a c j d l m) = (ck_segments_q0 N (ck_segments_r0 F) f o b a n c j d l m) := by
  intro n
  induction n with
  | zero => intros; kernel_rfl
  | succ n ih =>
    intro c j d l m
    have e0 := funext fun c => funext fun j => funext fun d => funext fun l => funext fun m => (show ck_segments_l0 N F n (ck_segments_s0 f o b a c j d l m) = _ from ih c j d l m)
    have e1 := funext fun e => funext fun g => funext fun i => (show ck_segments_w1 N F (ck_segments_s1 c b a e g i) = _ from (loopW_eq ..).trans (ck_segments_q1_eq N F c b a N e g i))
    have hK : ck_segments_l0 N F (n + 1) (ck_segments_s0 f o b a c j d l m) = (ck_segments_q0B N (ck_segments_r0 F) f o b a (fun c j d l m => ck_segments_l0 N F n (ck_segments_s0 f o b a c j d l m)) (fun e g i => ck_segments_w1 N F (ck_segments_s1 c b a e g i)) c j d l m) := by kernel_rfl
    exact hK.trans (by rw [e0, e1]; rfl)
theorem ck_segments_eq (N : Nat) (a : LA) (b : Bool) (p : Bool) (q : LA) (F : AV → Heap → Option R) : execF Try.prog muts (ck_segments_T N) ck_segments_hs N 62 [(.optr 100000 0), (.pagg a b)] [(100000, ⟨false, false, true, p, 0, q⟩)] F = (ck_segments N a b p q (ck_segments_r0 F)) := by
  have e1 := funext fun f => funext fun o => funext fun c => funext fun j => funext fun d => funext fun l => funext fun m => (show ck_segments_w0 N F (ck_segments_s0 f o b a c j d l m) = _ from (loopW_eq ..).trans (ck_segments_q0_eq N F f o b a N c j d l m))
  have hK : execF Try.prog muts (ck_segments_T N) ck_segments_hs N 62 [(.optr 100000 0), (.pagg a b)] [(100000, ⟨false, false, true, p, 0, q⟩)] F = (ck_segmentsB N (ck_segments_r0 F) (fun f o c j d l m => ck_segments_w0 N F (ck_segments_s0 f o b a c j d l m)) a b p q) := by kernel_rfl
  rw [ck_segments_def]
  exact hK.trans (by rw [e1]; rfl)
noncomputable def ck_segments_run (N : Nat) (args : List AV) (h : Heap) (k : AV → Heap → Option R) : Option R :=
  match args, h with
  | [(.optr 100000 0), (.pagg a b)], [(100000, ⟨false, false, true, p, 0, q⟩)] => (ck_segments N a b p q (ck_segments_r0 k))
  | _, _ => none
noncomputable def ck_segments_Tw (N : Nat) : Tw where
  runK := ck_segments_run N
  eq := by
    intro R args h k
    unfold ck_segments_run
    split
    · exact (ck_segments_eq ..).symm.trans ((execF_bind ..).trans (congrArg (Option.bind · _) (ck_segments_eq ..)))
    · rfl
theorem ck_segments_ok (N : Nat) : TwOk Try.prog 62 (ck_segments_Tw N) := by
  intro args h res t aw
  have hh : ck_segments_run N args h (fun v t => some (v, t)) = some (res, t) := aw
  unfold ck_segments_run at hh
  split at hh
  · exact execF_sound (T := ck_segments_T N) ⟨ck_need_ok N, ck_within_ok N, trivial⟩ follows ((ck_segments_eq ..).trans hh)
  · cases hh
noncomputable def ck_units_q3B (N : Nat) (k0 : Int → Int → Bool → LA → Option R) (r0 : Bool → LA → Option R) (a : LA) (e : Nat) (b : Bool) (c : Int) (g : LA) (d : LA)   (p : Int) (q : Bool) (r : LA) : Option R :=
  (rdI .i64 (List.drop 19 g) fun ac => (cond (ac == (2 : Int)) (rdI .i64 (List.drop 21 g) fun ad => (rdI .i64 (List.drop 2 g) fun ae => (rdI .i64 (List.drop 3 g) fun af => (ck_within N 21 ad ae af q r (fun ag ah => (k0 c (IntKind.wrap .i64 (p + (1 : Int))) ag ah)))))) (rdI .i64 (List.drop 21 g) fun ai => (ck_within N 21 ai 0 0 q r (fun aj ak => (k0 c (IntKind.wrap .i64 (p + (1 : Int))) aj ak))))))
noncomputable def ck_units_q3 (N : Nat) (k0 : Int → Int → Bool → LA → Option R) (r0 : Bool → LA → Option R) (a : LA) (e : Nat) (b : Bool) (c : Int) (g : LA) (d : LA) (p : Int) (q : Bool) (r : LA) : Option R := (ck_units_q3B N k0 r0 a e b c g d p q r)
noncomputable def ck_units_q2B (N : Nat) (k0 : Int → Int → Bool → LA → Option R) (r0 : Bool → LA → Option R) (a : LA) (e : Nat) (b : Bool) (c : Int) (g : LA) (d : LA)  (q3 : Int → Bool → LA → Option R) (t : Int) (u : Bool) (w : LA) : Option R :=
  (rdI .i64 (List.drop 20 g) fun al => (ck_within N 20 al 1 48 u w (fun aa ab => (rdI .i64 (List.drop 19 g) fun am => (cond ((am != (1 : Int)) == false) (rdI .i64 (List.drop 20 g) fun an => (rdI .i64 (List.drop 12 g) fun ao => (ck_need N (cond false true (decide (an ≤ ao))) 20 3 aa ab (fun ap aq => (q3 t ap aq))))) (ck_need N true 20 3 aa ab (fun ar au => (q3 t ar au))))))))
noncomputable def ck_units_q2 (N : Nat) (k0 : Int → Int → Bool → LA → Option R) (r0 : Bool → LA → Option R) (a : LA) (e : Nat) (b : Bool) (c : Int) (g : LA) (d : LA) (t : Int) (u : Bool) (w : LA) : Option R := (ck_units_q2B N k0 r0 a e b c g d (fun p q r => (ck_units_q3 N k0 r0 a e b c g d p q r)) t u w)
noncomputable def ck_units_q1B (N : Nat) (k0 : Int → Int → Bool → LA → Option R) (r0 : Bool → LA → Option R) (a : LA) (e : Nat) (b : Bool) (c : Int) (d : LA)  (q2 : Int → Bool → LA → Option R) (l : Int) (g : LA) (m : Bool) (o : LA) : Option R :=
  (rdI .i64 (List.drop 19 g) fun av => (cond ((av != (1 : Int)) == false) (rdI .i64 (List.drop 12 g) fun aw => (ck_need N (cond false true (aw != (0 : Int))) 19 16 m o (fun ax ay => (q2 l ax ay)))) (ck_need N true 19 16 m o (fun az ba => (q2 l az ba)))))
noncomputable def ck_units_q1 (N : Nat) (k0 : Int → Int → Bool → LA → Option R) (r0 : Bool → LA → Option R) (a : LA) (e : Nat) (b : Bool) (c : Int) (d : LA) (l : Int) (g : LA) (m : Bool) (o : LA) : Option R := (ck_units_q1B N k0 r0 a e b c d (fun t u w => (ck_units_q2 N k0 r0 a e b c g d t u w)) l g m o)
noncomputable def ck_units_q0B (N : Nat)  (r0 : Bool → LA → Option R) (a : LA) (e : Nat) (b : Bool) (d : LA) (k0 : Int → Int → Bool → LA → Option R) (q1 : Int → LA → Bool → LA → Option R) (c : Int) (f : Int) (i : Bool) (j : LA) : Option R :=
  (cond (decide (f < c)) (cond (inIdx f e) (cond (Nat.ble 22 (List.length (List.drop ((Int.toNat f) * 22) a))) (cond ((Nat.beq 0 0) && ((Nat.beq (List.length (List.take 22 (List.drop ((Int.toNat f) * 22) a))) 22) && (Nat.beq 22 22))) (ck_at N 3 f i j (fun bb bc => (rdS (List.take 22 (List.drop ((Int.toNat f) * 22) a)) fun bd => (ck_name_v3 N bd bb bc (fun be bf => (rdI .i64 (List.drop 1 (List.take 22 (List.drop ((Int.toNat f) * 22) a))) fun bg => (ck_bus N 1 bg be bf (fun bh bi => (rdI .i64 (List.drop 2 (List.take 22 (List.drop ((Int.toNat f) * 22) a))) fun bj => (ck_within N 2 bj 0 1048576 bh bi (fun bk bl => (rdI .i64 (List.drop 3 (List.take 22 (List.drop ((Int.toNat f) * 22) a))) fun bm => (rdI .i64 (List.drop 2 (List.take 22 (List.drop ((Int.toNat f) * 22) a))) fun bn => (ck_within N 3 bm bn 1048576 bk bl (fun bo bp => (cond (Nat.ble 22 (List.length (List.take 22 (List.drop ((Int.toNat f) * 22) a)))) (ck_segments N (List.take 22 (List.take 22 (List.drop ((Int.toNat f) * 22) a))) b bo bp (fun bq br => (rdI .i64 (List.drop 5 (List.take 22 (List.drop ((Int.toNat f) * 22) a))) fun bs => (ck_within N 5 bs 0 1048576 bq br (fun bt bu => (rdI .i64 (List.drop 6 (List.take 22 (List.drop ((Int.toNat f) * 22) a))) fun bv => (ck_within N 6 bv 0 1048576 bt bu (fun bw bx => (rdI .i64 (List.drop 7 (List.take 22 (List.drop ((Int.toNat f) * 22) a))) fun bz => (ck_within N 7 bz 0 1048576 bw bx (fun ca cb => (rdI .i64 (List.drop 8 (List.take 22 (List.drop ((Int.toNat f) * 22) a))) fun cc => (rdI .i64 (List.drop 2 (List.take 22 (List.drop ((Int.toNat f) * 22) a))) fun cd => (rdI .i64 (List.drop 3 (List.take 22 (List.drop ((Int.toNat f) * 22) a))) fun ce => (ck_within N 8 cc cd ce ca cb (fun cf cg => (rdI .i64 (List.drop 9 (List.take 22 (List.drop ((Int.toNat f) * 22) a))) fun ch => (rdI .i64 (List.drop 2 (List.take 22 (List.drop ((Int.toNat f) * 22) a))) fun ci => (rdI .i64 (List.drop 3 (List.take 22 (List.drop ((Int.toNat f) * 22) a))) fun cj => (ck_within N 9 ch ci cj cf cg (fun ck cl => (rdI .i64 (List.drop 10 (List.take 22 (List.drop ((Int.toNat f) * 22) a))) fun cm => (ck_within N 10 cm 0 24 ck cl (fun cn co => (rdI .i64 (List.drop 11 (List.take 22 (List.drop ((Int.toNat f) * 22) a))) fun cp => (ck_within N 11 cp 0 24 cn co (fun cq cr => (rdI .i64 (List.drop 12 (List.take 22 (List.drop ((Int.toNat f) * 22) a))) fun cs => (ck_within N 12 cs 0 24 cq cr (fun ct cu => (rdI .i64 (List.drop 13 (List.take 22 (List.drop ((Int.toNat f) * 22) a))) fun cv => (ck_within N 13 cv 0 1048576 ct cu (fun cw cx => (rdI .i64 (List.drop 14 (List.take 22 (List.drop ((Int.toNat f) * 22) a))) fun cy => (ck_within N 14 cy 0 1048576 cw cx (fun cz da => (rdI .i64 (List.drop 15 (List.take 22 (List.drop ((Int.toNat f) * 22) a))) fun db => (ck_within N 15 db 0 24 cz da (fun dc dd => (rdI .i64 (List.drop 16 (List.take 22 (List.drop ((Int.toNat f) * 22) a))) fun de => (ck_within N 16 de 0 1048576 dc dd (fun df dg => (rdI .i64 (List.drop 17 (List.take 22 (List.drop ((Int.toNat f) * 22) a))) fun dh => (ck_within N 17 dh 0 1048576 df dg (fun di dj => (rdL 1 (List.drop 18 (List.take 22 (List.drop ((Int.toNat f) * 22) a))) fun dk dl => (ck_away N 18 dk dl false b di dj (fun x y => (rdI .i64 (List.drop 19 (List.take 22 (List.drop ((Int.toNat f) * 22) a))) fun dm => (cond ((dm == (0 : Int)) == false) (rdI .i64 (List.drop 19 (List.take 22 (List.drop ((Int.toNat f) * 22) a))) fun dn => (cond ((cond false true (dn == (1 : Int))) == false) (rdI .i64 (List.drop 19 (List.take 22 (List.drop ((Int.toNat f) * 22) a))) fun dp => (ck_need N (cond false true (dp == (2 : Int))) 19 12 x y (fun dq dr => (q1 f (List.take 22 (List.drop ((Int.toNat f) * 22) a)) dq dr)))) (ck_need N true 19 12 x y (fun ds dt => (q1 f (List.take 22 (List.drop ((Int.toNat f) * 22) a)) ds dt))))) (ck_need N true 19 12 x y (fun du dv => (q1 f (List.take 22 (List.drop ((Int.toNat f) * 22) a)) du dv))))))))))))))))))))))))))))))))))))))))))))))))))))) none)))))))))))))))) none) none) none) (r0 i j))
noncomputable def ck_units_q0 (N : Nat)  (r0 : Bool → LA → Option R) (a : LA) (e : Nat) (b : Bool) (d : LA) : Nat → Int → Int → Bool → LA → Option R
  | 0, _, _, _, _ => none
  | n + 1, c, f, i, j => (ck_units_q0B N r0 a e b d (ck_units_q0 N r0 a e b d n) (fun l g m o => (ck_units_q1 N (ck_units_q0 N r0 a e b d n) r0 a e b c d l g m o)) c f i j)
noncomputable def ck_unitsB (N : Nat) (r0 : Bool → LA → Option R) (q0 : LA → Nat → Int → Int → Bool → LA → Option R) (b : Bool) (d : LA) : Option R :=
  (rdL 22 (List.drop 4 d) fun a e => (q0 a e ((e : Nat) : Int) 0 b d))
noncomputable def ck_unitsi (N : Nat) (b : Bool) (d : LA) (r0 : Bool → LA → Option R) : Option R := (ck_unitsB N r0 (fun a e c f i j => (ck_units_q0 N r0 a e b d N c f i j)) b d)
noncomputable def ck_units := (shut (@ck_unitsi R)).1
theorem ck_units_def : @ck_units R = @ck_unitsi R := (shut _).2
noncomputable def ck_units_hs : Hints := { H := (hS (hR [1]) (hS (hR [1,8,9,10]) (hS (hN [1,8,9,10] (hS (hR [1,8,9,10,11]) (hS (hN [1,8,9,10] hL hL) (hS (hN [1,8,9,10] (hS (hR [1,2,3,8,9,10]) (hS (hR [1,3,8,9,10]) (hS (hR [1,3,8,9,10]) (hS (hR [1,3,8,9,10]) (hS (hR [1,3,8,9,10]) (hS (hR [1,3,8,9,10]) (hS (hR [1,3,8,9,10]) (hS (hR [1,3,8,9,10]) (hS (hR [1,3,8,9,10]) (hS (hR [1,3,8,9,10]) (hS (hR [1,3,8,9,10]) (hS (hR [1,3,8,9,10]) (hS (hR [1,3,8,9,10]) (hS (hR [1,3,8,9,10]) (hS (hR [1,3,8,9,10]) (hS (hR [1,3,8,9,10]) (hS (hR [1,3,8,9,10]) (hS (hR [1,3,8,9,10]) (hS (hR [1,3,8,9,10]) (hS (hR [1,3,8,9,10]) (hS (hR [1,3,8,9,10]) (hJ (hR [1,3,8,9,10]) (hJ (hR [1,3,8,9,10]) (hS (hR [1,3,8,9,10]) (hJ (hR [1,3,8,9,10]) (hS (hR [1,3,8,9,10,147]) (hN [1,8,9,10] (hR [1,8,9,10]) (hR [1,8,9,10])))))))))))))))))))))))))))) hL) (hR [1,8,9,10])))) hL) hL))), nils := [], modes := [], free := [], cob := [] }
noncomputable def ck_units_T (N : Nat) : List (Nat × Tw) := [(51, ck_at_Tw N), (55, ck_name_v3_Tw N), (58, ck_bus_Tw N), (52, ck_within_Tw N), (62, ck_segments_Tw N), (60, ck_away_Tw N), (54, ck_need_Tw N)]
noncomputable def ck_units_E (N : Nat) : Env := mkE 161 ck_units_hs (ck_units_T N)
noncomputable def ck_units_fin (N : Nat) (F : AV → Heap → Option R) := afinish (ck_units_E N) Try.f28 ck_units_hs.modes [100000] F
noncomputable def ck_units_at (N : Nat) (F : AV → Heap → Option R) := atF (ck_units_E N) [100000] N Try.f28 ck_units_hs (ck_units_fin N F)
noncomputable def ck_units_r0  (F : AV → Heap → Option R) : Bool → LA → Option R := (fun dw dx => F (.tup []) [(100000, ⟨false, false, true, dw, 0, dx⟩)])
noncomputable def ck_units_s3 (a : LA) (e : Nat) (b : Bool) (c : Int) (g : LA) (d : LA) (p : Int) (q : Bool) (r : LA) : St := { s := [(1, (.optr 300000 0)), (3, (.optr 48 0)), (8, (.imm a e 22 false b)), (9, (.int .i64 c)), (10, (.int .i64 p))], h := [(48, ⟨false, false, true, b, 0, g⟩), (100000, ⟨false, false, true, q, 0, r⟩), (300000, ⟨false, false, false, false, 0, [(.optr 100000 0)]⟩)] }
noncomputable def ck_units_j3 (N : Nat) (F : AV → Heap → Option R) (Q0 : St → Option R) : St → Option R := joinAt (ck_units_E N) [100000] N (ck_units_at N F [1, 1, 0, 0, 1, 1, 0, 0, 1, 1, 1, 1, 1, 1, 1, 1, 1, 1, 1, 1, 1, 1, 1, 1, 1, 1, 1, 1, 1, 1, 1, 1, 1] [Q0])
noncomputable def ck_units_i3 (N : Nat) (F : AV → Heap → Option R) (Q0 : St → Option R) : St → Option R := joinIn (ck_units_E N) [100000] N (ck_units_at N F [1, 1, 0, 0, 1, 1, 0, 0, 1, 1, 1, 1, 1, 1, 1, 1, 1, 1, 1, 1, 1, 1, 1, 1, 1, 1, 1, 1, 1, 1, 1, 1, 1] [Q0])
noncomputable def ck_units_s2 (a : LA) (e : Nat) (b : Bool) (c : Int) (g : LA) (d : LA) (t : Int) (u : Bool) (w : LA) : St := { s := [(1, (.optr 300000 0)), (3, (.optr 48 0)), (8, (.imm a e 22 false b)), (9, (.int .i64 c)), (10, (.int .i64 t))], h := [(48, ⟨false, false, true, b, 0, g⟩), (100000, ⟨false, false, true, u, 0, w⟩), (300000, ⟨false, false, false, false, 0, [(.optr 100000 0)]⟩)] }
noncomputable def ck_units_j2 (N : Nat) (F : AV → Heap → Option R) (Q0 : St → Option R) : St → Option R := joinAt (ck_units_E N) [100000] N (ck_units_at N F [1, 1, 0, 0, 1, 1, 0, 0, 1, 1, 1, 1, 1, 1, 1, 1, 1, 1, 1, 1, 1, 1, 1, 1, 1, 1, 1, 1, 1, 1, 1] [Q0])
noncomputable def ck_units_i2 (N : Nat) (F : AV → Heap → Option R) (Q0 : St → Option R) : St → Option R := joinIn (ck_units_E N) [100000] N (ck_units_at N F [1, 1, 0, 0, 1, 1, 0, 0, 1, 1, 1, 1, 1, 1, 1, 1, 1, 1, 1, 1, 1, 1, 1, 1, 1, 1, 1, 1, 1, 1, 1] [Q0])
noncomputable def ck_units_s1 (a : LA) (e : Nat) (b : Bool) (c : Int) (d : LA) (l : Int) (g : LA) (m : Bool) (o : LA) : St := { s := [(1, (.optr 300000 0)), (3, (.optr 48 0)), (8, (.imm a e 22 false b)), (9, (.int .i64 c)), (10, (.int .i64 l))], h := [(48, ⟨false, false, true, b, 0, g⟩), (100000, ⟨false, false, true, m, 0, o⟩), (300000, ⟨false, false, false, false, 0, [(.optr 100000 0)]⟩)] }
noncomputable def ck_units_j1 (N : Nat) (F : AV → Heap → Option R) (Q0 : St → Option R) : St → Option R := joinAt (ck_units_E N) [100000] N (ck_units_at N F [1, 1, 0, 0, 1, 1, 0, 0, 1, 1, 1, 1, 1, 1, 1, 1, 1, 1, 1, 1, 1, 1, 1, 1, 1, 1, 1, 1, 1, 1] [Q0])
noncomputable def ck_units_i1 (N : Nat) (F : AV → Heap → Option R) (Q0 : St → Option R) : St → Option R := joinIn (ck_units_E N) [100000] N (ck_units_at N F [1, 1, 0, 0, 1, 1, 0, 0, 1, 1, 1, 1, 1, 1, 1, 1, 1, 1, 1, 1, 1, 1, 1, 1, 1, 1, 1, 1, 1, 1] [Q0])
noncomputable def ck_units_s0 (a : LA) (e : Nat) (b : Bool) (d : LA) (c : Int) (f : Int) (i : Bool) (j : LA) : St := { s := [(1, (.optr 300000 0)), (8, (.imm a e 22 false b)), (9, (.int .i64 c)), (10, (.int .i64 f))], h := [(100000, ⟨false, false, true, i, 0, j⟩), (300000, ⟨false, false, false, false, 0, [(.optr 100000 0)]⟩)] }
noncomputable def ck_units_w0 (N : Nat) (F : AV → Heap → Option R) : St → Option R := loopW (ck_units_E N) [100000] N (ck_units_at N F [1, 1, 0] []) N
noncomputable def ck_units_l0 (N : Nat) (F : AV → Heap → Option R) (n : Nat) : St → Option R := loopAt (ck_units_E N) [100000] N (ck_units_at N F [1, 1, 0] []) n
theorem ck_units_q3_eq (N : Nat) (Q0 : St → Option R) (F : AV → Heap → Option R) (a : LA) (e : Nat) (b : Bool) (c : Int) (g : LA) (d : LA) : ∀ (p : Int) (q : Bool) (r : LA), ck_units_i3 N F Q0 (ck_units_s3 a e b c g d p q r) = (ck_units_q3 N (fun c f i j => Q0 (ck_units_s0 a e b d c f i j)) (ck_units_r0 F) a e b c g d p q r) := by
  intro p q r
  have hK : ck_units_i3 N F Q0 (ck_units_s3 a e b c g d p q r) = (ck_units_q3B N (fun c f i j => Q0 (ck_units_s0 a e b d c f i j)) (ck_units_r0 F) a e b c g d p q r) := by kernel_rfl
  exact hK
theorem ck_units_q2_eq (N : Nat) (Q0 : St → Option R) (F : AV → Heap → Option R) (a : LA) (e : Nat) (b : Bool) (c : Int) (g : LA) (d : LA) : ∀ (t : Int) (u : Bool) (w : LA), ck_units_i2 N F Q0 (ck_units_s2 a e b c g d t u w) = (ck_units_q2 N (fun c f i j => Q0 (ck_units_s0 a e b d c f i j)) (ck_units_r0 F) a e b c g d t u w) := by
  intro t u w
  have e1 := funext fun p => funext fun q => funext fun r => (show ck_units_j3 N F Q0 (ck_units_s3 a e b c g d p q r) = _ from (joinAt_eq ..).trans (ck_units_q3_eq N Q0 F a e b c g d p q r))
  have hK : ck_units_i2 N F Q0 (ck_units_s2 a e b c g d t u w) = (ck_units_q2B N (fun c f i j => Q0 (ck_units_s0 a e b d c f i j)) (ck_units_r0 F) a e b c g d (fun p q r => ck_units_j3 N F Q0 (ck_units_s3 a e b c g d p q r)) t u w) := by kernel_rfl
  exact hK.trans (by rw [e1]; rfl)
theorem ck_units_q1_eq (N : Nat) (Q0 : St → Option R) (F : AV → Heap → Option R) (a : LA) (e : Nat) (b : Bool) (c : Int) (d : LA) : ∀ (l : Int) (g : LA) (m : Bool) (o : LA), ck_units_i1 N F Q0 (ck_units_s1 a e b c d l g m o) = (ck_units_q1 N (fun c f i j => Q0 (ck_units_s0 a e b d c f i j)) (ck_units_r0 F) a e b c d l g m o) := by
  intro l g m o
  have e1 := funext fun t => funext fun u => funext fun w => (show ck_units_j2 N F Q0 (ck_units_s2 a e b c g d t u w) = _ from (joinAt_eq ..).trans (ck_units_q2_eq N Q0 F a e b c g d t u w))
  have hK : ck_units_i1 N F Q0 (ck_units_s1 a e b c d l g m o) = (ck_units_q1B N (fun c f i j => Q0 (ck_units_s0 a e b d c f i j)) (ck_units_r0 F) a e b c d (fun t u w => ck_units_j2 N F Q0 (ck_units_s2 a e b c g d t u w)) l g m o) := by kernel_rfl
  exact hK.trans (by rw [e1]; rfl)
theorem ck_units_q0_eq (N : Nat)  (F : AV → Heap → Option R) (a : LA) (e : Nat) (b : Bool) (d : LA) : ∀ (n : Nat) (c : Int) (f : Int) (i : Bool) (j : LA), ck_units_l0 N F n (ck_units_s0 a e b d c f i j) = (ck_units_q0 N (ck_units_r0 F) a e b d n c f i j) := by
  intro n
  induction n with
  | zero => intros; kernel_rfl
  | succ n ih =>
    intro c f i j
    have e0 := funext fun c => funext fun f => funext fun i => funext fun j => (show ck_units_l0 N F n (ck_units_s0 a e b d c f i j) = _ from ih c f i j)
    have e1 : (fun l g m o => ck_units_j1 N F (ck_units_l0 N F n) (ck_units_s1 a e b c d l g m o)) = (fun l g m o => (ck_units_q1 N (ck_units_q0 N (ck_units_r0 F) a e b d n) (ck_units_r0 F) a e b c d l g m o)) := by funext l; funext g; funext m; funext o; exact ((joinAt_eq ..).trans (ck_units_q1_eq N (ck_units_l0 N F n) F a e b c d l g m o)).trans (by rw [e0])
    have hK : ck_units_l0 N F (n + 1) (ck_units_s0 a e b d c f i j) = (ck_units_q0B N (ck_units_r0 F) a e b d (fun c f i j => ck_units_l0 N F n (ck_units_s0 a e b d c f i j)) (fun l g m o => ck_units_j1 N F (ck_units_l0 N F n) (ck_units_s1 a e b c d l g m o)) c f i j) := by kernel_rfl
    exact hK.trans (by rw [e0, e1]; rfl)
theorem ck_units_eq (N : Nat) (b : Bool) (d : LA) (F : AV → Heap → Option R) : execF Try.prog muts (ck_units_T N) ck_units_hs N 28 [(.optr 100000 0)] [(100000, ⟨false, false, true, b, 0, d⟩)] F = (ck_units N b d (ck_units_r0 F)) := by
  have e1 := funext fun a => funext fun e => funext fun c => funext fun f => funext fun i => funext fun j => (show ck_units_w0 N F (ck_units_s0 a e b d c f i j) = _ from (loopW_eq ..).trans (ck_units_q0_eq N F a e b d N c f i j))
  have hK : execF Try.prog muts (ck_units_T N) ck_units_hs N 28 [(.optr 100000 0)] [(100000, ⟨false, false, true, b, 0, d⟩)] F = (ck_unitsB N (ck_units_r0 F) (fun a e c f i j => ck_units_w0 N F (ck_units_s0 a e b d c f i j)) b d) := by kernel_rfl
  rw [ck_units_def]
  exact hK.trans (by rw [e1]; rfl)
noncomputable def ck_units_run (N : Nat) (args : List AV) (h : Heap) (k : AV → Heap → Option R) : Option R :=
  match args, h with
  | [(.optr 100000 0)], [(100000, ⟨false, false, true, b, 0, d⟩)] => (ck_units N b d (ck_units_r0 k))
  | _, _ => none
noncomputable def ck_units_Tw (N : Nat) : Tw where
  runK := ck_units_run N
  eq := by
    intro R args h k
    unfold ck_units_run
    split
    · exact (ck_units_eq ..).symm.trans ((execF_bind ..).trans (congrArg (Option.bind · _) (ck_units_eq ..)))
    · rfl
theorem ck_units_ok (N : Nat) : TwOk Try.prog 28 (ck_units_Tw N) := by
  intro args h res z dy
  have hh : ck_units_run N args h (fun v z => some (v, z)) = some (res, z) := dy
  unfold ck_units_run at hh
  split at hh
  · exact execF_sound (T := ck_units_T N) ⟨ck_at_ok N, ck_name_v3_ok N, ck_bus_ok N, ck_within_ok N, ck_segments_ok N, ck_away_ok N, ck_need_ok N, trivial⟩ follows ((ck_units_eq ..).trans hh)
  · cases hh
noncomputable def ck_stores_c1B (N : Nat) (r0 : List UInt8 → Option R)  (c : Int) (b : Bool) (a : LA) : Option R :=
  (rdL 9 (List.drop 5 a) fun d e => (cond (inIdx c e) (rdS (List.drop ((Int.toNat c) * 9) d) fun f => (r0 f)) none))
noncomputable def ck_stores_c1i (N : Nat) (c : Int) (b : Bool) (a : LA) (r0 : List UInt8 → Option R) : Option R := (ck_stores_c1B N r0 c b a)
noncomputable def ck_stores_c1 := (shut (@ck_stores_c1i R)).1
theorem ck_stores_c1_def : @ck_stores_c1 R = @ck_stores_c1i R := (shut _).2
noncomputable def ck_stores_c1_hs : Hints := { H := (hS (hR [0,1]) (hS (hR [3]) hL)), nils := [], modes := [], free := [], cob := [] }
noncomputable def ck_stores_c1_T (N : Nat) : List (Nat × Tw) := []
noncomputable def ck_stores_c1_E (N : Nat) : Env := mkE 13 ck_stores_c1_hs (ck_stores_c1_T N)
noncomputable def ck_stores_c1_fin (N : Nat) (F : AV → Heap → Option R) := afinish (ck_stores_c1_E N) Try.f63 ck_stores_c1_hs.modes [100000, 100001] F
noncomputable def ck_stores_c1_at (N : Nat) (F : AV → Heap → Option R) := atF (ck_stores_c1_E N) [100000, 100001] N Try.f63 ck_stores_c1_hs (ck_stores_c1_fin N F)
noncomputable def ck_stores_c1_r0 (b : Bool) (a : LA) (F : AV → Heap → Option R) : List UInt8 → Option R := (fun g => F (.str g) [(100000, ⟨false, false, false, false, 0, [(.optr 100001 0)]⟩), (100001, ⟨false, false, true, b, 0, a⟩)])
theorem ck_stores_c1_eq (N : Nat) (c : Int) (b : Bool) (a : LA) (F : AV → Heap → Option R) : execF Try.prog muts (ck_stores_c1_T N) ck_stores_c1_hs N 63 [(.int .i64 c), (.optr 100000 0)] [(100000, ⟨false, false, false, false, 0, [(.optr 100001 0)]⟩), (100001, ⟨false, false, true, b, 0, a⟩)] F = (ck_stores_c1 N c b a (ck_stores_c1_r0 b a F)) := by
  have hK : execF Try.prog muts (ck_stores_c1_T N) ck_stores_c1_hs N 63 [(.int .i64 c), (.optr 100000 0)] [(100000, ⟨false, false, false, false, 0, [(.optr 100001 0)]⟩), (100001, ⟨false, false, true, b, 0, a⟩)] F = (ck_stores_c1B N (ck_stores_c1_r0 b a F) c b a) := by kernel_rfl
  rw [ck_stores_c1_def]
  exact hK
noncomputable def ck_stores_c1_run (N : Nat) (args : List AV) (h : Heap) (k : AV → Heap → Option R) : Option R :=
  match args, h with
  | [(.int .i64 c), (.optr 100000 0)], [(100000, ⟨false, false, false, false, 0, [(.optr 100001 0)]⟩), (100001, ⟨false, false, true, b, 0, a⟩)] => (ck_stores_c1 N c b a (ck_stores_c1_r0 b a k))
  | _, _ => none
noncomputable def ck_stores_c1_Tw (N : Nat) : Tw where
  runK := ck_stores_c1_run N
  eq := by
    intro R args h k
    unfold ck_stores_c1_run
    split
    · exact (ck_stores_c1_eq ..).symm.trans ((execF_bind ..).trans (congrArg (Option.bind · _) (ck_stores_c1_eq ..)))
    · rfl
theorem ck_stores_c1_ok (N : Nat) : TwOk Try.prog 63 (ck_stores_c1_Tw N) := by
  intro args h res a i
  have hh : ck_stores_c1_run N args h (fun v a => some (v, a)) = some (res, a) := i
  unfold ck_stores_c1_run at hh
  split at hh
  · exact execF_sound (T := ck_stores_c1_T N) trivial follows ((ck_stores_c1_eq ..).trans hh)
  · cases hh
noncomputable def ck_name_v4_q0B (N : Nat)  (r0 : Bool → LA → Option R) (a : List UInt8) (e : Int) (k0 : Int → Bool → LA → Option R)  (d : Int) (c : Bool) (b : LA) : Option R :=
  (cond (decide (d < e)) (rdI .i64 (List.drop 11 b) fun l => (cond (l != (0 : Int)) (r0 c b) (ck_stores_c1 N d c b (fun m => (ck_need N (!(m == a)) 0 10 c b (fun o p => (k0 (IntKind.wrap .i64 (d + (1 : Int))) o p))))))) (r0 c b))
noncomputable def ck_name_v4_q0 (N : Nat)  (r0 : Bool → LA → Option R) (a : List UInt8) (e : Int) : Nat → Int → Bool → LA → Option R
  | 0, _, _, _ => none
  | n + 1, d, c, b => (ck_name_v4_q0B N r0 a e (ck_name_v4_q0 N r0 a e n) d c b)
noncomputable def ck_name_v4B (N : Nat) (r0 : Bool → LA → Option R) (q0 : Int → Int → Bool → LA → Option R) (a : List UInt8) (f : Bool) (g : LA) : Option R :=
  (ct_Name N a (fun q => (ck_need N q 0 9 f g (fun r j => (rdI .i64 (List.drop 9 j) fun e => (q0 e 0 r j))))))
noncomputable def ck_name_v4i (N : Nat) (a : List UInt8) (f : Bool) (g : LA) (r0 : Bool → LA → Option R) : Option R := (ck_name_v4B N r0 (fun e d c b => (ck_name_v4_q0 N r0 a e N d c b)) a f g)
noncomputable def ck_name_v4 := (shut (@ck_name_v4i R)).1
theorem ck_name_v4_def : @ck_name_v4 R = @ck_name_v4i R := (shut _).2
noncomputable def ck_name_v4_hs : Hints := { H := (hS (hR [0,1,2]) (hS (hR [0,1,2,15,16]) (hS (hN [0,1,2,15,16] (hS (hR [0,1,2,15,16,17]) (hS (hN [0,1,2,15,16] hL hL) (hS (hN [0,1,2,15,16] (hS (hR [0,1,2,6,15,16]) (hS (hS (hR [0,1,2,6,15,16,23]) (hN [0,1,2,6,15,16] hL hL)) (hR [0,1,2,15,16]))) hL) (hR [0,1,2,15,16])))) hL) hL))), nils := [], modes := [], free := [], cob := [] }
noncomputable def ck_name_v4_T (N : Nat) : List (Nat × Tw) := [(78, ct_Name_Tw N), (54, ck_need_Tw N), (63, ck_stores_c1_Tw N)]
noncomputable def ck_name_v4_E (N : Nat) : Env := mkE 32 ck_name_v4_hs (ck_name_v4_T N)
noncomputable def ck_name_v4_fin (N : Nat) (F : AV → Heap → Option R) := afinish (ck_name_v4_E N) Try.f55 ck_name_v4_hs.modes [100000, 100001] F
noncomputable def ck_name_v4_at (N : Nat) (F : AV → Heap → Option R) := atF (ck_name_v4_E N) [100000, 100001] N Try.f55 ck_name_v4_hs (ck_name_v4_fin N F)
noncomputable def ck_name_v4_r0  (F : AV → Heap → Option R) : Bool → LA → Option R := (fun t u => F (.tup []) [(100000, ⟨false, false, true, t, 0, u⟩), (100001, ⟨false, false, false, false, 0, [(.optr 100000 0)]⟩)])
noncomputable def ck_name_v4_s0 (a : List UInt8) (e : Int) (d : Int) (c : Bool) (b : LA) : St := { s := [(0, (.optr 100000 0)), (1, (.str a)), (2, (.fn 63 [(.optr 100001 0)])), (15, (.int .i64 e)), (16, (.int .i64 d))], h := [(100000, ⟨false, false, true, c, 0, b⟩), (100001, ⟨false, false, false, false, 0, [(.optr 100000 0)]⟩)] }
noncomputable def ck_name_v4_w0 (N : Nat) (F : AV → Heap → Option R) : St → Option R := loopW (ck_name_v4_E N) [100000, 100001] N (ck_name_v4_at N F [1, 1, 0] []) N
noncomputable def ck_name_v4_l0 (N : Nat) (F : AV → Heap → Option R) (n : Nat) : St → Option R := loopAt (ck_name_v4_E N) [100000, 100001] N (ck_name_v4_at N F [1, 1, 0] []) n
theorem ck_name_v4_q0_eq (N : Nat)  (F : AV → Heap → Option R) (a : List UInt8) (e : Int) : ∀ (n : Nat) (d : Int) (c : Bool) (b : LA), ck_name_v4_l0 N F n (ck_name_v4_s0 a e d c b) = (ck_name_v4_q0 N (ck_name_v4_r0 F) a e n d c b) := by
  intro n
  induction n with
  | zero => intros; kernel_rfl
  | succ n ih =>
    intro d c b
    have e0 := funext fun d => funext fun c => funext fun b => (show ck_name_v4_l0 N F n (ck_name_v4_s0 a e d c b) = _ from ih d c b)
    have hK : ck_name_v4_l0 N F (n + 1) (ck_name_v4_s0 a e d c b) = (ck_name_v4_q0B N (ck_name_v4_r0 F) a e (fun d c b => ck_name_v4_l0 N F n (ck_name_v4_s0 a e d c b)) d c b) := by kernel_rfl
    exact hK.trans (by rw [e0]; rfl)
theorem ck_name_v4_eq (N : Nat) (a : List UInt8) (f : Bool) (g : LA) (F : AV → Heap → Option R) : execF Try.prog muts (ck_name_v4_T N) ck_name_v4_hs N 55 [(.optr 100000 0), (.str a), (.fn 63 [(.optr 100001 0)])] [(100000, ⟨false, false, true, f, 0, g⟩), (100001, ⟨false, false, false, false, 0, [(.optr 100000 0)]⟩)] F = (ck_name_v4 N a f g (ck_name_v4_r0 F)) := by
  have e1 := funext fun e => funext fun d => funext fun c => funext fun b => (show ck_name_v4_w0 N F (ck_name_v4_s0 a e d c b) = _ from (loopW_eq ..).trans (ck_name_v4_q0_eq N F a e N d c b))
  have hK : execF Try.prog muts (ck_name_v4_T N) ck_name_v4_hs N 55 [(.optr 100000 0), (.str a), (.fn 63 [(.optr 100001 0)])] [(100000, ⟨false, false, true, f, 0, g⟩), (100001, ⟨false, false, false, false, 0, [(.optr 100000 0)]⟩)] F = (ck_name_v4B N (ck_name_v4_r0 F) (fun e d c b => ck_name_v4_w0 N F (ck_name_v4_s0 a e d c b)) a f g) := by kernel_rfl
  rw [ck_name_v4_def]
  exact hK.trans (by rw [e1]; rfl)
noncomputable def ck_name_v4_run (N : Nat) (args : List AV) (h : Heap) (k : AV → Heap → Option R) : Option R :=
  match args, h with
  | [(.optr 100000 0), (.str a), (.fn 63 [(.optr 100001 0)])], [(100000, ⟨false, false, true, f, 0, g⟩), (100001, ⟨false, false, false, false, 0, [(.optr 100000 0)]⟩)] => (ck_name_v4 N a f g (ck_name_v4_r0 k))
  | _, _ => none
noncomputable def ck_name_v4_Tw (N : Nat) : Tw where
  runK := ck_name_v4_run N
  eq := by
    intro R args h k
    unfold ck_name_v4_run
    split
    · exact (ck_name_v4_eq ..).symm.trans ((execF_bind ..).trans (congrArg (Option.bind · _) (ck_name_v4_eq ..)))
    · rfl
theorem ck_name_v4_ok (N : Nat) : TwOk Try.prog 55 (ck_name_v4_Tw N) := by
  intro args h res i w
  have hh : ck_name_v4_run N args h (fun v i => some (v, i)) = some (res, i) := w
  unfold ck_name_v4_run at hh
  split at hh
  · exact execF_sound (T := ck_name_v4_T N) ⟨ct_Name_ok N, ck_need_ok N, ck_stores_c1_ok N, trivial⟩ follows ((ck_name_v4_eq ..).trans hh)
  · cases hh
noncomputable def ck_stores_q0B (N : Nat)  (r0 : Bool → LA → Option R) (b : LA) (g : Nat) (c : Bool) (k0 : Int → Int → Bool → LA → Option R)  (d : Int) (a : Int) (e : Bool) (f : LA) : Option R :=
  (cond (decide (a < d)) (cond (inIdx a g) (cond (Nat.ble 9 (List.length (List.drop ((Int.toNat a) * 9) b))) (cond ((Nat.beq 0 0) && ((Nat.beq (List.length (List.take 9 (List.drop ((Int.toNat a) * 9) b))) 9) && (Nat.beq 9 9))) (ck_at N 4 a e f (fun o p => (rdS (List.take 9 (List.drop ((Int.toNat a) * 9) b)) fun q => (ck_name_v4 N q o p (fun r t => (rdI .i64 (List.drop 1 (List.take 9 (List.drop ((Int.toNat a) * 9) b))) fun u => (ck_bus N 1 u r t (fun w x => (rdI .i64 (List.drop 2 (List.take 9 (List.drop ((Int.toNat a) * 9) b))) fun y => (ck_within N 2 y 0 1048576 w x (fun z aa => (rdI .i64 (List.drop 3 (List.take 9 (List.drop ((Int.toNat a) * 9) b))) fun ab => (rdI .i64 (List.drop 2 (List.take 9 (List.drop ((Int.toNat a) * 9) b))) fun ac => (ck_within N 3 ab 0 ac z aa (fun ad ae => (rdI .i64 (List.drop 4 (List.take 9 (List.drop ((Int.toNat a) * 9) b))) fun af => (rdI .i64 (List.drop 2 (List.take 9 (List.drop ((Int.toNat a) * 9) b))) fun ag => (ck_within N 4 af 0 ag ad ae (fun ah ai => (rdI .i64 (List.drop 5 (List.take 9 (List.drop ((Int.toNat a) * 9) b))) fun aj => (ck_within N 5 aj 0 1048576 ah ai (fun ak al => (rdI .i64 (List.drop 6 (List.take 9 (List.drop ((Int.toNat a) * 9) b))) fun am => (ck_within N 6 am 0 1048576 ak al (fun j l => (cond (Nat.ble 2 (List.length (List.drop 7 (List.take 9 (List.drop ((Int.toNat a) * 9) b))))) (cond ((!c) || (plainZ (List.take 2 (List.drop 7 (List.take 9 (List.drop ((Int.toNat a) * 9) b)))))) (cond ((Nat.beq (List.length (List.take 2 (List.drop 7 (List.take 9 (List.drop ((Int.toNat a) * 9) b))))) 2) && ((Nat.ble 2 2) && (!false))) (cond (Nat.ble 2 (List.length (setCells [(.int .i64 0), (.int .i64 0)] 0 (List.take 2 (List.drop 7 (List.take 9 (List.drop ((Int.toNat a) * 9) b))))))) (cf_valid N (List.take 2 (setCells [(.int .i64 0), (.int .i64 0)] 0 (List.take 2 (List.drop 7 (List.take 9 (List.drop ((Int.toNat a) * 9) b)))))) false (fun an => (cond (an == true) (rdI .i64 (setCells [(.int .i64 0), (.int .i64 0)] 0 (List.take 2 (List.drop 7 (List.take 9 (List.drop ((Int.toNat a) * 9) b))))) fun ao => (cond ((cond true (decide (ao > (0 : Int))) false) == true) (rdI .i64 (setCells [(.int .i64 0), (.int .i64 0)] 0 (List.take 2 (List.drop 7 (List.take 9 (List.drop ((Int.toNat a) * 9) b))))) fun ap => (rdI .i64 (List.drop 1 (setCells [(.int .i64 0), (.int .i64 0)] 0 (List.take 2 (List.drop 7 (List.take 9 (List.drop ((Int.toNat a) * 9) b)))))) fun aq => (ck_need N (cond true (decide (ap ≤ aq)) false) 7 3 j l (fun ar au => (k0 d (IntKind.wrap .i64 (a + (1 : Int))) ar au))))) (ck_need N false 7 3 j l (fun av aw => (k0 d (IntKind.wrap .i64 (a + (1 : Int))) av aw))))) (ck_need N false 7 3 j l (fun ax ay => (k0 d (IntKind.wrap .i64 (a + (1 : Int))) ax ay)))))) none) none) none) none)))))))))))))))))))))))))) none) none) none) (r0 e f))
noncomputable def ck_stores_q0 (N : Nat)  (r0 : Bool → LA → Option R) (b : LA) (g : Nat) (c : Bool) : Nat → Int → Int → Bool → LA → Option R
  | 0, _, _, _, _ => none
  | n + 1, d, a, e, f => (ck_stores_q0B N r0 b g c (ck_stores_q0 N r0 b g c n) d a e f)
noncomputable def ck_storesB (N : Nat) (r0 : Bool → LA → Option R) (q0 : LA → Nat → Int → Int → Bool → LA → Option R) (c : Bool) (i : LA) : Option R :=
  (rdL 9 (List.drop 5 i) fun b g => (q0 b g ((g : Nat) : Int) 0 c i))
noncomputable def ck_storesi (N : Nat) (c : Bool) (i : LA) (r0 : Bool → LA → Option R) : Option R := (ck_storesB N r0 (fun b g d a e f => (ck_stores_q0 N r0 b g c N d a e f)) c i)
noncomputable def ck_stores := (shut (@ck_storesi R)).1
theorem ck_stores_def : @ck_stores R = @ck_storesi R := (shut _).2
noncomputable def ck_stores_hs : Hints := { H := (hS (hR [1]) (hS (hR [1,9,10,11]) (hS (hN [1,9,10,11] (hS (hR [1,9,10,11,12]) (hS (hN [1,9,10,11] hL hL) (hS (hN [1,9,10,11] (hS (hR [1,2,3,9,10,11]) (hS (hR [1,3,9,10,11]) (hS (hR [1,3,9,10,11]) (hS (hR [1,3,9,10,11]) (hS (hR [1,3,9,10,11]) (hS (hR [1,3,9,10,11]) (hS (hR [1,3,9,10,11]) (hS (hR [1,3,9,10,11]) (hS (hR [1,3,9,10,11]) (hS (hR [1,4,9,10,11]) (hR [1,9,10,11]))))))))))) hL) (hR [1,9,10,11])))) hL) hL))), nils := [], modes := [], free := [], cob := [] }
noncomputable def ck_stores_T (N : Nat) : List (Nat × Tw) := [(51, ck_at_Tw N), (55, ck_name_v4_Tw N), (58, ck_bus_Tw N), (52, ck_within_Tw N), (59, cf_valid_Tw N), (54, ck_need_Tw N)]
noncomputable def ck_stores_E (N : Nat) : Env := mkE 71 ck_stores_hs (ck_stores_T N)
noncomputable def ck_stores_fin (N : Nat) (F : AV → Heap → Option R) := afinish (ck_stores_E N) Try.f29 ck_stores_hs.modes [100000] F
noncomputable def ck_stores_at (N : Nat) (F : AV → Heap → Option R) := atF (ck_stores_E N) [100000] N Try.f29 ck_stores_hs (ck_stores_fin N F)
noncomputable def ck_stores_r0  (F : AV → Heap → Option R) : Bool → LA → Option R := (fun az ba => F (.tup []) [(100000, ⟨false, false, true, az, 0, ba⟩)])
noncomputable def ck_stores_s0 (b : LA) (g : Nat) (c : Bool) (d : Int) (a : Int) (e : Bool) (f : LA) : St := { s := [(1, (.optr 300000 0)), (9, (.imm b g 9 false c)), (10, (.int .i64 d)), (11, (.int .i64 a))], h := [(100000, ⟨false, false, true, e, 0, f⟩), (300000, ⟨false, false, false, false, 0, [(.optr 100000 0)]⟩)] }
noncomputable def ck_stores_w0 (N : Nat) (F : AV → Heap → Option R) : St → Option R := loopW (ck_stores_E N) [100000] N (ck_stores_at N F [1, 1, 0] []) N
noncomputable def ck_stores_l0 (N : Nat) (F : AV → Heap → Option R) (n : Nat) : St → Option R := loopAt (ck_stores_E N) [100000] N (ck_stores_at N F [1, 1, 0] []) n
theorem ck_stores_q0_eq (N : Nat)  (F : AV → Heap → Option R) (b : LA) (g : Nat) (c : Bool) : ∀ (n : Nat) (d : Int) (a : Int) (e : Bool) (f : LA), ck_stores_l0 N F n (ck_stores_s0 b g c d a e f) = (ck_stores_q0 N (ck_stores_r0 F) b g c n d a e f) := by
  intro n
  induction n with
  | zero => intros; kernel_rfl
  | succ n ih =>
    intro d a e f
    have e0 := funext fun d => funext fun a => funext fun e => funext fun f => (show ck_stores_l0 N F n (ck_stores_s0 b g c d a e f) = _ from ih d a e f)
    have hK : ck_stores_l0 N F (n + 1) (ck_stores_s0 b g c d a e f) = (ck_stores_q0B N (ck_stores_r0 F) b g c (fun d a e f => ck_stores_l0 N F n (ck_stores_s0 b g c d a e f)) d a e f) := by kernel_rfl
    exact hK.trans (by rw [e0]; rfl)
theorem ck_stores_eq (N : Nat) (c : Bool) (i : LA) (F : AV → Heap → Option R) : execF Try.prog muts (ck_stores_T N) ck_stores_hs N 29 [(.optr 100000 0)] [(100000, ⟨false, false, true, c, 0, i⟩)] F = (ck_stores N c i (ck_stores_r0 F)) := by
  have e1 := funext fun b => funext fun g => funext fun d => funext fun a => funext fun e => funext fun f => (show ck_stores_w0 N F (ck_stores_s0 b g c d a e f) = _ from (loopW_eq ..).trans (ck_stores_q0_eq N F b g c N d a e f))
  have hK : execF Try.prog muts (ck_stores_T N) ck_stores_hs N 29 [(.optr 100000 0)] [(100000, ⟨false, false, true, c, 0, i⟩)] F = (ck_storesB N (ck_stores_r0 F) (fun b g d a e f => ck_stores_w0 N F (ck_stores_s0 b g c d a e f)) c i) := by kernel_rfl
  rw [ck_stores_def]
  exact hK.trans (by rw [e1]; rfl)
noncomputable def ck_stores_run (N : Nat) (args : List AV) (h : Heap) (k : AV → Heap → Option R) : Option R :=
  match args, h with
  | [(.optr 100000 0)], [(100000, ⟨false, false, true, c, 0, i⟩)] => (ck_stores N c i (ck_stores_r0 k))
  | _, _ => none
noncomputable def ck_stores_Tw (N : Nat) : Tw where
  runK := ck_stores_run N
  eq := by
    intro R args h k
    unfold ck_stores_run
    split
    · exact (ck_stores_eq ..).symm.trans ((execF_bind ..).trans (congrArg (Option.bind · _) (ck_stores_eq ..)))
    · rfl
theorem ck_stores_ok (N : Nat) : TwOk Try.prog 29 (ck_stores_Tw N) := by
  intro args h res m bb
  have hh : ck_stores_run N args h (fun v m => some (v, m)) = some (res, m) := bb
  unfold ck_stores_run at hh
  split at hh
  · exact execF_sound (T := ck_stores_T N) ⟨ck_at_ok N, ck_name_v4_ok N, ck_bus_ok N, ck_within_ok N, cf_valid_ok N, ck_need_ok N, trivial⟩ follows ((ck_stores_eq ..).trans hh)
  · cases hh
noncomputable def ck_ties_c1B (N : Nat) (r0 : List UInt8 → Option R)  (c : Int) (b : Bool) (a : LA) : Option R :=
  (rdL 5 (List.drop 6 a) fun d e => (cond (inIdx c e) (rdS (List.drop ((Int.toNat c) * 5) d) fun f => (r0 f)) none))
noncomputable def ck_ties_c1i (N : Nat) (c : Int) (b : Bool) (a : LA) (r0 : List UInt8 → Option R) : Option R := (ck_ties_c1B N r0 c b a)
noncomputable def ck_ties_c1 := (shut (@ck_ties_c1i R)).1
theorem ck_ties_c1_def : @ck_ties_c1 R = @ck_ties_c1i R := (shut _).2
noncomputable def ck_ties_c1_hs : Hints := { H := (hS (hR [0,1]) (hS (hR [3]) hL)), nils := [], modes := [], free := [], cob := [] }
noncomputable def ck_ties_c1_T (N : Nat) : List (Nat × Tw) := []
noncomputable def ck_ties_c1_E (N : Nat) : Env := mkE 13 ck_ties_c1_hs (ck_ties_c1_T N)
noncomputable def ck_ties_c1_fin (N : Nat) (F : AV → Heap → Option R) := afinish (ck_ties_c1_E N) Try.f64 ck_ties_c1_hs.modes [100000, 100001] F
noncomputable def ck_ties_c1_at (N : Nat) (F : AV → Heap → Option R) := atF (ck_ties_c1_E N) [100000, 100001] N Try.f64 ck_ties_c1_hs (ck_ties_c1_fin N F)
noncomputable def ck_ties_c1_r0 (b : Bool) (a : LA) (F : AV → Heap → Option R) : List UInt8 → Option R := (fun g => F (.str g) [(100000, ⟨false, false, false, false, 0, [(.optr 100001 0)]⟩), (100001, ⟨false, false, true, b, 0, a⟩)])
theorem ck_ties_c1_eq (N : Nat) (c : Int) (b : Bool) (a : LA) (F : AV → Heap → Option R) : execF Try.prog muts (ck_ties_c1_T N) ck_ties_c1_hs N 64 [(.int .i64 c), (.optr 100000 0)] [(100000, ⟨false, false, false, false, 0, [(.optr 100001 0)]⟩), (100001, ⟨false, false, true, b, 0, a⟩)] F = (ck_ties_c1 N c b a (ck_ties_c1_r0 b a F)) := by
  have hK : execF Try.prog muts (ck_ties_c1_T N) ck_ties_c1_hs N 64 [(.int .i64 c), (.optr 100000 0)] [(100000, ⟨false, false, false, false, 0, [(.optr 100001 0)]⟩), (100001, ⟨false, false, true, b, 0, a⟩)] F = (ck_ties_c1B N (ck_ties_c1_r0 b a F) c b a) := by kernel_rfl
  rw [ck_ties_c1_def]
  exact hK
noncomputable def ck_ties_c1_run (N : Nat) (args : List AV) (h : Heap) (k : AV → Heap → Option R) : Option R :=
  match args, h with
  | [(.int .i64 c), (.optr 100000 0)], [(100000, ⟨false, false, false, false, 0, [(.optr 100001 0)]⟩), (100001, ⟨false, false, true, b, 0, a⟩)] => (ck_ties_c1 N c b a (ck_ties_c1_r0 b a k))
  | _, _ => none
noncomputable def ck_ties_c1_Tw (N : Nat) : Tw where
  runK := ck_ties_c1_run N
  eq := by
    intro R args h k
    unfold ck_ties_c1_run
    split
    · exact (ck_ties_c1_eq ..).symm.trans ((execF_bind ..).trans (congrArg (Option.bind · _) (ck_ties_c1_eq ..)))
    · rfl
theorem ck_ties_c1_ok (N : Nat) : TwOk Try.prog 64 (ck_ties_c1_Tw N) := by
  intro args h res a i
  have hh : ck_ties_c1_run N args h (fun v a => some (v, a)) = some (res, a) := i
  unfold ck_ties_c1_run at hh
  split at hh
  · exact execF_sound (T := ck_ties_c1_T N) trivial follows ((ck_ties_c1_eq ..).trans hh)
  · cases hh
noncomputable def ck_name_v5_q0B (N : Nat)  (r0 : Bool → LA → Option R) (a : List UInt8) (e : Int) (k0 : Int → Bool → LA → Option R)  (d : Int) (c : Bool) (b : LA) : Option R :=
  (cond (decide (d < e)) (rdI .i64 (List.drop 11 b) fun l => (cond (l != (0 : Int)) (r0 c b) (ck_ties_c1 N d c b (fun m => (ck_need N (!(m == a)) 0 10 c b (fun o p => (k0 (IntKind.wrap .i64 (d + (1 : Int))) o p))))))) (r0 c b))
noncomputable def ck_name_v5_q0 (N : Nat)  (r0 : Bool → LA → Option R) (a : List UInt8) (e : Int) : Nat → Int → Bool → LA → Option R
  | 0, _, _, _ => none
  | n + 1, d, c, b => (ck_name_v5_q0B N r0 a e (ck_name_v5_q0 N r0 a e n) d c b)
noncomputable def ck_name_v5B (N : Nat) (r0 : Bool → LA → Option R) (q0 : Int → Int → Bool → LA → Option R) (a : List UInt8) (f : Bool) (g : LA) : Option R :=
  (ct_Name N a (fun q => (ck_need N q 0 9 f g (fun r j => (rdI .i64 (List.drop 9 j) fun e => (q0 e 0 r j))))))
noncomputable def ck_name_v5i (N : Nat) (a : List UInt8) (f : Bool) (g : LA) (r0 : Bool → LA → Option R) : Option R := (ck_name_v5B N r0 (fun e d c b => (ck_name_v5_q0 N r0 a e N d c b)) a f g)
noncomputable def ck_name_v5 := (shut (@ck_name_v5i R)).1
theorem ck_name_v5_def : @ck_name_v5 R = @ck_name_v5i R := (shut _).2
noncomputable def ck_name_v5_hs : Hints := { H := (hS (hR [0,1,2]) (hS (hR [0,1,2,15,16]) (hS (hN [0,1,2,15,16] (hS (hR [0,1,2,15,16,17]) (hS (hN [0,1,2,15,16] hL hL) (hS (hN [0,1,2,15,16] (hS (hR [0,1,2,6,15,16]) (hS (hS (hR [0,1,2,6,15,16,23]) (hN [0,1,2,6,15,16] hL hL)) (hR [0,1,2,15,16]))) hL) (hR [0,1,2,15,16])))) hL) hL))), nils := [], modes := [], free := [], cob := [] }
noncomputable def ck_name_v5_T (N : Nat) : List (Nat × Tw) := [(78, ct_Name_Tw N), (54, ck_need_Tw N), (64, ck_ties_c1_Tw N)]
noncomputable def ck_name_v5_E (N : Nat) : Env := mkE 32 ck_name_v5_hs (ck_name_v5_T N)
noncomputable def ck_name_v5_fin (N : Nat) (F : AV → Heap → Option R) := afinish (ck_name_v5_E N) Try.f55 ck_name_v5_hs.modes [100000, 100001] F
noncomputable def ck_name_v5_at (N : Nat) (F : AV → Heap → Option R) := atF (ck_name_v5_E N) [100000, 100001] N Try.f55 ck_name_v5_hs (ck_name_v5_fin N F)
noncomputable def ck_name_v5_r0  (F : AV → Heap → Option R) : Bool → LA → Option R := (fun t u => F (.tup []) [(100000, ⟨false, false, true, t, 0, u⟩), (100001, ⟨false, false, false, false, 0, [(.optr 100000 0)]⟩)])
noncomputable def ck_name_v5_s0 (a : List UInt8) (e : Int) (d : Int) (c : Bool) (b : LA) : St := { s := [(0, (.optr 100000 0)), (1, (.str a)), (2, (.fn 64 [(.optr 100001 0)])), (15, (.int .i64 e)), (16, (.int .i64 d))], h := [(100000, ⟨false, false, true, c, 0, b⟩), (100001, ⟨false, false, false, false, 0, [(.optr 100000 0)]⟩)] }
noncomputable def ck_name_v5_w0 (N : Nat) (F : AV → Heap → Option R) : St → Option R := loopW (ck_name_v5_E N) [100000, 100001] N (ck_name_v5_at N F [1, 1, 0] []) N
noncomputable def ck_name_v5_l0 (N : Nat) (F : AV → Heap → Option R) (n : Nat) : St → Option R := loopAt (ck_name_v5_E N) [100000, 100001] N (ck_name_v5_at N F [1, 1, 0] []) n
theorem ck_name_v5_q0_eq (N : Nat)  (F : AV → Heap → Option R) (a : List UInt8) (e : Int) : ∀ (n : Nat) (d : Int) (c : Bool) (b : LA), ck_name_v5_l0 N F n (ck_name_v5_s0 a e d c b) = (ck_name_v5_q0 N (ck_name_v5_r0 F) a e n d c b) := by
  intro n
  induction n with
  | zero => intros; kernel_rfl
  | succ n ih =>
    intro d c b
    have e0 := funext fun d => funext fun c => funext fun b => (show ck_name_v5_l0 N F n (ck_name_v5_s0 a e d c b) = _ from ih d c b)
    have hK : ck_name_v5_l0 N F (n + 1) (ck_name_v5_s0 a e d c b) = (ck_name_v5_q0B N (ck_name_v5_r0 F) a e (fun d c b => ck_name_v5_l0 N F n (ck_name_v5_s0 a e d c b)) d c b) := by kernel_rfl
    exact hK.trans (by rw [e0]; rfl)
theorem ck_name_v5_eq (N : Nat) (a : List UInt8) (f : Bool) (g : LA) (F : AV → Heap → Option R) : execF Try.prog muts (ck_name_v5_T N) ck_name_v5_hs N 55 [(.optr 100000 0), (.str a), (.fn 64 [(.optr 100001 0)])] [(100000, ⟨false, false, true, f, 0, g⟩), (100001, ⟨false, false, false, false, 0, [(.optr 100000 0)]⟩)] F = (ck_name_v5 N a f g (ck_name_v5_r0 F)) := by
  have e1 := funext fun e => funext fun d => funext fun c => funext fun b => (show ck_name_v5_w0 N F (ck_name_v5_s0 a e d c b) = _ from (loopW_eq ..).trans (ck_name_v5_q0_eq N F a e N d c b))
  have hK : execF Try.prog muts (ck_name_v5_T N) ck_name_v5_hs N 55 [(.optr 100000 0), (.str a), (.fn 64 [(.optr 100001 0)])] [(100000, ⟨false, false, true, f, 0, g⟩), (100001, ⟨false, false, false, false, 0, [(.optr 100000 0)]⟩)] F = (ck_name_v5B N (ck_name_v5_r0 F) (fun e d c b => ck_name_v5_w0 N F (ck_name_v5_s0 a e d c b)) a f g) := by kernel_rfl
  rw [ck_name_v5_def]
  exact hK.trans (by rw [e1]; rfl)
noncomputable def ck_name_v5_run (N : Nat) (args : List AV) (h : Heap) (k : AV → Heap → Option R) : Option R :=
  match args, h with
  | [(.optr 100000 0), (.str a), (.fn 64 [(.optr 100001 0)])], [(100000, ⟨false, false, true, f, 0, g⟩), (100001, ⟨false, false, false, false, 0, [(.optr 100000 0)]⟩)] => (ck_name_v5 N a f g (ck_name_v5_r0 k))
  | _, _ => none
noncomputable def ck_name_v5_Tw (N : Nat) : Tw where
  runK := ck_name_v5_run N
  eq := by
    intro R args h k
    unfold ck_name_v5_run
    split
    · exact (ck_name_v5_eq ..).symm.trans ((execF_bind ..).trans (congrArg (Option.bind · _) (ck_name_v5_eq ..)))
    · rfl
theorem ck_name_v5_ok (N : Nat) : TwOk Try.prog 55 (ck_name_v5_Tw N) := by
  intro args h res i w
  have hh : ck_name_v5_run N args h (fun v i => some (v, i)) = some (res, i) := w
  unfold ck_name_v5_run at hh
  split at hh
  · exact execF_sound (T := ck_name_v5_T N) ⟨ct_Name_ok N, ck_need_ok N, ck_ties_c1_ok N, trivial⟩ follows ((ck_name_v5_eq ..).trans hh)
  · cases hh
noncomputable def ck_ties_q0B (N : Nat)  (r0 : Bool → LA → Option R) (c : LA) (g : Nat) (b : Bool) (k0 : Int → Int → Bool → LA → Option R)  (d : Int) (a : Int) (e : Bool) (f : LA) : Option R :=
  (cond (decide (a < d)) (cond (inIdx a g) (cond (Nat.ble 5 (List.length (List.drop ((Int.toNat a) * 5) c))) (cond ((Nat.beq 0 0) && ((Nat.beq (List.length (List.take 5 (List.drop ((Int.toNat a) * 5) c))) 5) && (Nat.beq 5 5))) (ck_at N 5 a e f (fun l m => (rdS (List.take 5 (List.drop ((Int.toNat a) * 5) c)) fun o => (ck_name_v5 N o l m (fun p q => (rdI .i64 (List.drop 1 (List.take 5 (List.drop ((Int.toNat a) * 5) c))) fun r => (ck_bus N 1 r p q (fun t u => (rdL 1 (List.drop 2 (List.take 5 (List.drop ((Int.toNat a) * 5) c))) fun w x => (ck_hourly N 2 w x false b 0 1048576 t u (fun y z => (rdL 1 (List.drop 3 (List.take 5 (List.drop ((Int.toNat a) * 5) c))) fun aa ab => (ck_hourly N 3 aa ab false b 0 1048576 y z (fun ac ad => (rdL 1 (List.drop 4 (List.take 5 (List.drop ((Int.toNat a) * 5) c))) fun ae af => (ck_hourly N 4 ae af false b (-1048576) 1048576 ac ad (fun ag ah => (k0 d (IntKind.wrap .i64 (a + (1 : Int))) ag ah)))))))))))))))))) none) none) none) (r0 e f))
noncomputable def ck_ties_q0 (N : Nat)  (r0 : Bool → LA → Option R) (c : LA) (g : Nat) (b : Bool) : Nat → Int → Int → Bool → LA → Option R
  | 0, _, _, _, _ => none
  | n + 1, d, a, e, f => (ck_ties_q0B N r0 c g b (ck_ties_q0 N r0 c g b n) d a e f)
noncomputable def ck_tiesB (N : Nat) (r0 : Bool → LA → Option R) (q0 : LA → Nat → Int → Int → Bool → LA → Option R) (b : Bool) (i : LA) : Option R :=
  (rdL 5 (List.drop 6 i) fun c g => (q0 c g ((g : Nat) : Int) 0 b i))
noncomputable def ck_tiesi (N : Nat) (b : Bool) (i : LA) (r0 : Bool → LA → Option R) : Option R := (ck_tiesB N r0 (fun c g d a e f => (ck_ties_q0 N r0 c g b N d a e f)) b i)
noncomputable def ck_ties := (shut (@ck_tiesi R)).1
theorem ck_ties_def : @ck_ties R = @ck_tiesi R := (shut _).2
noncomputable def ck_ties_hs : Hints := { H := (hS (hR [1]) (hS (hR [1,8,9,10]) (hS (hN [1,8,9,10] (hS (hR [1,8,9,10,11]) (hS (hN [1,8,9,10] hL hL) (hS (hN [1,8,9,10] (hS (hR [1,2,3,8,9,10]) (hS (hR [1,3,8,9,10]) (hS (hR [1,3,8,9,10]) (hS (hR [1,3,8,9,10]) (hS (hR [1,3,8,9,10]) (hS (hR [1,3,8,9,10]) (hR [1,8,9,10]))))))) hL) (hR [1,8,9,10])))) hL) hL))), nils := [], modes := [], free := [], cob := [] }
noncomputable def ck_ties_T (N : Nat) : List (Nat × Tw) := [(51, ck_at_Tw N), (55, ck_name_v5_Tw N), (58, ck_bus_Tw N), (53, ck_hourly_Tw N)]
noncomputable def ck_ties_E (N : Nat) : Env := mkE 40 ck_ties_hs (ck_ties_T N)
noncomputable def ck_ties_fin (N : Nat) (F : AV → Heap → Option R) := afinish (ck_ties_E N) Try.f30 ck_ties_hs.modes [100000] F
noncomputable def ck_ties_at (N : Nat) (F : AV → Heap → Option R) := atF (ck_ties_E N) [100000] N Try.f30 ck_ties_hs (ck_ties_fin N F)
noncomputable def ck_ties_r0  (F : AV → Heap → Option R) : Bool → LA → Option R := (fun ai aj => F (.tup []) [(100000, ⟨false, false, true, ai, 0, aj⟩)])
noncomputable def ck_ties_s0 (c : LA) (g : Nat) (b : Bool) (d : Int) (a : Int) (e : Bool) (f : LA) : St := { s := [(1, (.optr 300000 0)), (8, (.imm c g 5 false b)), (9, (.int .i64 d)), (10, (.int .i64 a))], h := [(100000, ⟨false, false, true, e, 0, f⟩), (300000, ⟨false, false, false, false, 0, [(.optr 100000 0)]⟩)] }
noncomputable def ck_ties_w0 (N : Nat) (F : AV → Heap → Option R) : St → Option R := loopW (ck_ties_E N) [100000] N (ck_ties_at N F [1, 1, 0] []) N
noncomputable def ck_ties_l0 (N : Nat) (F : AV → Heap → Option R) (n : Nat) : St → Option R := loopAt (ck_ties_E N) [100000] N (ck_ties_at N F [1, 1, 0] []) n
theorem ck_ties_q0_eq (N : Nat)  (F : AV → Heap → Option R) (c : LA) (g : Nat) (b : Bool) : ∀ (n : Nat) (d : Int) (a : Int) (e : Bool) (f : LA), ck_ties_l0 N F n (ck_ties_s0 c g b d a e f) = (ck_ties_q0 N (ck_ties_r0 F) c g b n d a e f) := by
  intro n
  induction n with
  | zero => intros; kernel_rfl
  | succ n ih =>
    intro d a e f
    have e0 := funext fun d => funext fun a => funext fun e => funext fun f => (show ck_ties_l0 N F n (ck_ties_s0 c g b d a e f) = _ from ih d a e f)
    have hK : ck_ties_l0 N F (n + 1) (ck_ties_s0 c g b d a e f) = (ck_ties_q0B N (ck_ties_r0 F) c g b (fun d a e f => ck_ties_l0 N F n (ck_ties_s0 c g b d a e f)) d a e f) := by kernel_rfl
    exact hK.trans (by rw [e0]; rfl)
theorem ck_ties_eq (N : Nat) (b : Bool) (i : LA) (F : AV → Heap → Option R) : execF Try.prog muts (ck_ties_T N) ck_ties_hs N 30 [(.optr 100000 0)] [(100000, ⟨false, false, true, b, 0, i⟩)] F = (ck_ties N b i (ck_ties_r0 F)) := by
  have e1 := funext fun c => funext fun g => funext fun d => funext fun a => funext fun e => funext fun f => (show ck_ties_w0 N F (ck_ties_s0 c g b d a e f) = _ from (loopW_eq ..).trans (ck_ties_q0_eq N F c g b N d a e f))
  have hK : execF Try.prog muts (ck_ties_T N) ck_ties_hs N 30 [(.optr 100000 0)] [(100000, ⟨false, false, true, b, 0, i⟩)] F = (ck_tiesB N (ck_ties_r0 F) (fun c g d a e f => ck_ties_w0 N F (ck_ties_s0 c g b d a e f)) b i) := by kernel_rfl
  rw [ck_ties_def]
  exact hK.trans (by rw [e1]; rfl)
noncomputable def ck_ties_run (N : Nat) (args : List AV) (h : Heap) (k : AV → Heap → Option R) : Option R :=
  match args, h with
  | [(.optr 100000 0)], [(100000, ⟨false, false, true, b, 0, i⟩)] => (ck_ties N b i (ck_ties_r0 k))
  | _, _ => none
noncomputable def ck_ties_Tw (N : Nat) : Tw where
  runK := ck_ties_run N
  eq := by
    intro R args h k
    unfold ck_ties_run
    split
    · exact (ck_ties_eq ..).symm.trans ((execF_bind ..).trans (congrArg (Option.bind · _) (ck_ties_eq ..)))
    · rfl
theorem ck_ties_ok (N : Nat) : TwOk Try.prog 30 (ck_ties_Tw N) := by
  intro args h res j ak
  have hh : ck_ties_run N args h (fun v j => some (v, j)) = some (res, j) := ak
  unfold ck_ties_run at hh
  split at hh
  · exact execF_sound (T := ck_ties_T N) ⟨ck_at_ok N, ck_name_v5_ok N, ck_bus_ok N, ck_hourly_ok N, trivial⟩ follows ((ck_ties_eq ..).trans hh)
  · cases hh
noncomputable def ck_outages_c1B (N : Nat) (r0 : List UInt8 → Option R)  (c : Int) (b : Bool) (a : LA) : Option R :=
  (rdL 4 (List.drop 7 a) fun d e => (cond (inIdx c e) (rdS (List.drop ((Int.toNat c) * 4) d) fun f => (r0 f)) none))
noncomputable def ck_outages_c1i (N : Nat) (c : Int) (b : Bool) (a : LA) (r0 : List UInt8 → Option R) : Option R := (ck_outages_c1B N r0 c b a)
noncomputable def ck_outages_c1 := (shut (@ck_outages_c1i R)).1
theorem ck_outages_c1_def : @ck_outages_c1 R = @ck_outages_c1i R := (shut _).2
noncomputable def ck_outages_c1_hs : Hints := { H := (hS (hR [0,1]) (hS (hR [3]) hL)), nils := [], modes := [], free := [], cob := [] }
noncomputable def ck_outages_c1_T (N : Nat) : List (Nat × Tw) := []
noncomputable def ck_outages_c1_E (N : Nat) : Env := mkE 13 ck_outages_c1_hs (ck_outages_c1_T N)
noncomputable def ck_outages_c1_fin (N : Nat) (F : AV → Heap → Option R) := afinish (ck_outages_c1_E N) Try.f65 ck_outages_c1_hs.modes [100000, 100001] F
noncomputable def ck_outages_c1_at (N : Nat) (F : AV → Heap → Option R) := atF (ck_outages_c1_E N) [100000, 100001] N Try.f65 ck_outages_c1_hs (ck_outages_c1_fin N F)
noncomputable def ck_outages_c1_r0 (b : Bool) (a : LA) (F : AV → Heap → Option R) : List UInt8 → Option R := (fun g => F (.str g) [(100000, ⟨false, false, false, false, 0, [(.optr 100001 0)]⟩), (100001, ⟨false, false, true, b, 0, a⟩)])
theorem ck_outages_c1_eq (N : Nat) (c : Int) (b : Bool) (a : LA) (F : AV → Heap → Option R) : execF Try.prog muts (ck_outages_c1_T N) ck_outages_c1_hs N 65 [(.int .i64 c), (.optr 100000 0)] [(100000, ⟨false, false, false, false, 0, [(.optr 100001 0)]⟩), (100001, ⟨false, false, true, b, 0, a⟩)] F = (ck_outages_c1 N c b a (ck_outages_c1_r0 b a F)) := by
  have hK : execF Try.prog muts (ck_outages_c1_T N) ck_outages_c1_hs N 65 [(.int .i64 c), (.optr 100000 0)] [(100000, ⟨false, false, false, false, 0, [(.optr 100001 0)]⟩), (100001, ⟨false, false, true, b, 0, a⟩)] F = (ck_outages_c1B N (ck_outages_c1_r0 b a F) c b a) := by kernel_rfl
  rw [ck_outages_c1_def]
  exact hK
noncomputable def ck_outages_c1_run (N : Nat) (args : List AV) (h : Heap) (k : AV → Heap → Option R) : Option R :=
  match args, h with
  | [(.int .i64 c), (.optr 100000 0)], [(100000, ⟨false, false, false, false, 0, [(.optr 100001 0)]⟩), (100001, ⟨false, false, true, b, 0, a⟩)] => (ck_outages_c1 N c b a (ck_outages_c1_r0 b a k))
  | _, _ => none
noncomputable def ck_outages_c1_Tw (N : Nat) : Tw where
  runK := ck_outages_c1_run N
  eq := by
    intro R args h k
    unfold ck_outages_c1_run
    split
    · exact (ck_outages_c1_eq ..).symm.trans ((execF_bind ..).trans (congrArg (Option.bind · _) (ck_outages_c1_eq ..)))
    · rfl
theorem ck_outages_c1_ok (N : Nat) : TwOk Try.prog 65 (ck_outages_c1_Tw N) := by
  intro args h res a i
  have hh : ck_outages_c1_run N args h (fun v a => some (v, a)) = some (res, a) := i
  unfold ck_outages_c1_run at hh
  split at hh
  · exact execF_sound (T := ck_outages_c1_T N) trivial follows ((ck_outages_c1_eq ..).trans hh)
  · cases hh
noncomputable def ck_name_v6_q0B (N : Nat)  (r0 : Bool → LA → Option R) (a : List UInt8) (e : Int) (k0 : Int → Bool → LA → Option R)  (d : Int) (c : Bool) (b : LA) : Option R :=
  (cond (decide (d < e)) (rdI .i64 (List.drop 11 b) fun l => (cond (l != (0 : Int)) (r0 c b) (ck_outages_c1 N d c b (fun m => (ck_need N (!(m == a)) 0 10 c b (fun o p => (k0 (IntKind.wrap .i64 (d + (1 : Int))) o p))))))) (r0 c b))
noncomputable def ck_name_v6_q0 (N : Nat)  (r0 : Bool → LA → Option R) (a : List UInt8) (e : Int) : Nat → Int → Bool → LA → Option R
  | 0, _, _, _ => none
  | n + 1, d, c, b => (ck_name_v6_q0B N r0 a e (ck_name_v6_q0 N r0 a e n) d c b)
noncomputable def ck_name_v6B (N : Nat) (r0 : Bool → LA → Option R) (q0 : Int → Int → Bool → LA → Option R) (a : List UInt8) (f : Bool) (g : LA) : Option R :=
  (ct_Name N a (fun q => (ck_need N q 0 9 f g (fun r j => (rdI .i64 (List.drop 9 j) fun e => (q0 e 0 r j))))))
noncomputable def ck_name_v6i (N : Nat) (a : List UInt8) (f : Bool) (g : LA) (r0 : Bool → LA → Option R) : Option R := (ck_name_v6B N r0 (fun e d c b => (ck_name_v6_q0 N r0 a e N d c b)) a f g)
noncomputable def ck_name_v6 := (shut (@ck_name_v6i R)).1
theorem ck_name_v6_def : @ck_name_v6 R = @ck_name_v6i R := (shut _).2
noncomputable def ck_name_v6_hs : Hints := { H := (hS (hR [0,1,2]) (hS (hR [0,1,2,15,16]) (hS (hN [0,1,2,15,16] (hS (hR [0,1,2,15,16,17]) (hS (hN [0,1,2,15,16] hL hL) (hS (hN [0,1,2,15,16] (hS (hR [0,1,2,6,15,16]) (hS (hS (hR [0,1,2,6,15,16,23]) (hN [0,1,2,6,15,16] hL hL)) (hR [0,1,2,15,16]))) hL) (hR [0,1,2,15,16])))) hL) hL))), nils := [], modes := [], free := [], cob := [] }
noncomputable def ck_name_v6_T (N : Nat) : List (Nat × Tw) := [(78, ct_Name_Tw N), (54, ck_need_Tw N), (65, ck_outages_c1_Tw N)]
noncomputable def ck_name_v6_E (N : Nat) : Env := mkE 32 ck_name_v6_hs (ck_name_v6_T N)
noncomputable def ck_name_v6_fin (N : Nat) (F : AV → Heap → Option R) := afinish (ck_name_v6_E N) Try.f55 ck_name_v6_hs.modes [100000, 100001] F
noncomputable def ck_name_v6_at (N : Nat) (F : AV → Heap → Option R) := atF (ck_name_v6_E N) [100000, 100001] N Try.f55 ck_name_v6_hs (ck_name_v6_fin N F)
noncomputable def ck_name_v6_r0  (F : AV → Heap → Option R) : Bool → LA → Option R := (fun t u => F (.tup []) [(100000, ⟨false, false, true, t, 0, u⟩), (100001, ⟨false, false, false, false, 0, [(.optr 100000 0)]⟩)])
noncomputable def ck_name_v6_s0 (a : List UInt8) (e : Int) (d : Int) (c : Bool) (b : LA) : St := { s := [(0, (.optr 100000 0)), (1, (.str a)), (2, (.fn 65 [(.optr 100001 0)])), (15, (.int .i64 e)), (16, (.int .i64 d))], h := [(100000, ⟨false, false, true, c, 0, b⟩), (100001, ⟨false, false, false, false, 0, [(.optr 100000 0)]⟩)] }
noncomputable def ck_name_v6_w0 (N : Nat) (F : AV → Heap → Option R) : St → Option R := loopW (ck_name_v6_E N) [100000, 100001] N (ck_name_v6_at N F [1, 1, 0] []) N
noncomputable def ck_name_v6_l0 (N : Nat) (F : AV → Heap → Option R) (n : Nat) : St → Option R := loopAt (ck_name_v6_E N) [100000, 100001] N (ck_name_v6_at N F [1, 1, 0] []) n
theorem ck_name_v6_q0_eq (N : Nat)  (F : AV → Heap → Option R) (a : List UInt8) (e : Int) : ∀ (n : Nat) (d : Int) (c : Bool) (b : LA), ck_name_v6_l0 N F n (ck_name_v6_s0 a e d c b) = (ck_name_v6_q0 N (ck_name_v6_r0 F) a e n d c b) := by
  intro n
  induction n with
  | zero => intros; kernel_rfl
  | succ n ih =>
    intro d c b
    have e0 := funext fun d => funext fun c => funext fun b => (show ck_name_v6_l0 N F n (ck_name_v6_s0 a e d c b) = _ from ih d c b)
    have hK : ck_name_v6_l0 N F (n + 1) (ck_name_v6_s0 a e d c b) = (ck_name_v6_q0B N (ck_name_v6_r0 F) a e (fun d c b => ck_name_v6_l0 N F n (ck_name_v6_s0 a e d c b)) d c b) := by kernel_rfl
    exact hK.trans (by rw [e0]; rfl)
theorem ck_name_v6_eq (N : Nat) (a : List UInt8) (f : Bool) (g : LA) (F : AV → Heap → Option R) : execF Try.prog muts (ck_name_v6_T N) ck_name_v6_hs N 55 [(.optr 100000 0), (.str a), (.fn 65 [(.optr 100001 0)])] [(100000, ⟨false, false, true, f, 0, g⟩), (100001, ⟨false, false, false, false, 0, [(.optr 100000 0)]⟩)] F = (ck_name_v6 N a f g (ck_name_v6_r0 F)) := by
  have e1 := funext fun e => funext fun d => funext fun c => funext fun b => (show ck_name_v6_w0 N F (ck_name_v6_s0 a e d c b) = _ from (loopW_eq ..).trans (ck_name_v6_q0_eq N F a e N d c b))
  have hK : execF Try.prog muts (ck_name_v6_T N) ck_name_v6_hs N 55 [(.optr 100000 0), (.str a), (.fn 65 [(.optr 100001 0)])] [(100000, ⟨false, false, true, f, 0, g⟩), (100001, ⟨false, false, false, false, 0, [(.optr 100000 0)]⟩)] F = (ck_name_v6B N (ck_name_v6_r0 F) (fun e d c b => ck_name_v6_w0 N F (ck_name_v6_s0 a e d c b)) a f g) := by kernel_rfl
  rw [ck_name_v6_def]
  exact hK.trans (by rw [e1]; rfl)
noncomputable def ck_name_v6_run (N : Nat) (args : List AV) (h : Heap) (k : AV → Heap → Option R) : Option R :=
  match args, h with
  | [(.optr 100000 0), (.str a), (.fn 65 [(.optr 100001 0)])], [(100000, ⟨false, false, true, f, 0, g⟩), (100001, ⟨false, false, false, false, 0, [(.optr 100000 0)]⟩)] => (ck_name_v6 N a f g (ck_name_v6_r0 k))
  | _, _ => none
noncomputable def ck_name_v6_Tw (N : Nat) : Tw where
  runK := ck_name_v6_run N
  eq := by
    intro R args h k
    unfold ck_name_v6_run
    split
    · exact (ck_name_v6_eq ..).symm.trans ((execF_bind ..).trans (congrArg (Option.bind · _) (ck_name_v6_eq ..)))
    · rfl
theorem ck_name_v6_ok (N : Nat) : TwOk Try.prog 55 (ck_name_v6_Tw N) := by
  intro args h res i w
  have hh : ck_name_v6_run N args h (fun v i => some (v, i)) = some (res, i) := w
  unfold ck_name_v6_run at hh
  split at hh
  · exact execF_sound (T := ck_name_v6_T N) ⟨ct_Name_ok N, ck_need_ok N, ck_outages_c1_ok N, trivial⟩ follows ((ck_name_v6_eq ..).trans hh)
  · cases hh
noncomputable def ck_moves_q2B (N : Nat)  (r0 : Bool → LA → Option R) (g : LA) (r : Nat) (a : Bool) (k2 : Int → Int → Bool → LA → Option R)  (o : Int) (e : Int) (p : Bool) (q : LA) : Option R :=
  (cond (decide (e < o)) (cond (inIdx e r) (cond (Nat.ble 3 (List.length (List.drop ((Int.toNat e) * 3) g))) (cond ((!a) || (plainZ (List.take 3 (List.drop ((Int.toNat e) * 3) g)))) (cond ((Nat.beq (List.length (List.take 3 (List.drop ((Int.toNat e) * 3) g))) 3) && ((Nat.ble 3 3) && (!false))) (rdI .i64 (List.drop 1 (setCells [(.int .i64 0), (.int .i64 0), (.int .i64 0)] 0 (List.take 3 (List.drop ((Int.toNat e) * 3) g)))) fun ac => (ck_within N 3 ac 0 1048576 p q (fun ad ae => (rdI .i64 (List.drop 2 (setCells [(.int .i64 0), (.int .i64 0), (.int .i64 0)] 0 (List.take 3 (List.drop ((Int.toNat e) * 3) g)))) fun af => (ck_within N 3 af 0 1048576 ad ae (fun ag ah => (k2 o (IntKind.wrap .i64 (e + (1 : Int))) ag ah))))))) none) none) none) none) (r0 p q))
noncomputable def ck_moves_q2 (N : Nat)  (r0 : Bool → LA → Option R) (g : LA) (r : Nat) (a : Bool) : Nat → Int → Int → Bool → LA → Option R
  | 0, _, _, _, _ => none
  | n + 1, o, e, p, q => (ck_moves_q2B N r0 g r a (ck_moves_q2 N r0 g r a n) o e p q)
noncomputable def ck_moves_q1B (N : Nat)  (r0 : Bool → LA → Option R) (f : LA) (t : Nat) (a : Bool) (b : LA) (k1 : Nat → Int → Int → Bool → LA → LA → Option R) (q2 : LA → Nat → Int → Int → Bool → LA → Option R) (d : Nat) (j : Int) (c : Int) (l : Bool) (i : LA) (m : LA) : Option R :=
  (cond (decide (c < j)) (cond (inIdx c t) (cond (Nat.ble 3 (List.length (List.drop ((Int.toNat c) * 3) f))) (cond ((!a) || (plainZ (List.take 3 (List.drop ((Int.toNat c) * 3) f)))) (cond ((Nat.beq (List.length (List.take 3 (List.drop ((Int.toNat c) * 3) f))) 3) && ((Nat.ble 3 3) && (!false))) (rdI .i64 (setCells [(.int .i64 0), (.int .i64 0), (.int .i64 0)] 0 (List.take 3 (List.drop ((Int.toNat c) * 3) f))) fun ai => (cond ((decide (ai ≥ (0 : Int))) == true) (rdI .i64 (setCells [(.int .i64 0), (.int .i64 0), (.int .i64 0)] 0 (List.take 3 (List.drop ((Int.toNat c) * 3) f))) fun aj => (rdL 22 (List.drop 4 i) fun bh ak => (ck_need N (cond true (decide (aj < ((ak : Nat) : Int))) false) 3 12 l i (fun al am => (rdI .i64 (setCells [(.int .i64 0), (.int .i64 0), (.int .i64 0)] 0 (List.take 3 (List.drop ((Int.toNat c) * 3) f))) fun an => (cond ((Nat.ble (d + 1) 140737488355328) && (Nat.ble ((d + 1) * 8) 140737488355328)) (k1 (d + 1) j (IntKind.wrap .i64 (c + (1 : Int))) al am ((List.take (d * 1) m) ++ [(.int .i64 an)])) none)))))) (ck_need N false 3 12 l i (fun ao ap => (rdI .i64 (setCells [(.int .i64 0), (.int .i64 0), (.int .i64 0)] 0 (List.take 3 (List.drop ((Int.toNat c) * 3) f))) fun aq => (cond ((Nat.ble (d + 1) 140737488355328) && (Nat.ble ((d + 1) * 8) 140737488355328)) (k1 (d + 1) j (IntKind.wrap .i64 (c + (1 : Int))) ao ap ((List.take (d * 1) m) ++ [(.int .i64 aq)])) none)))))) none) none) none) none) (cf_ascending N (List.take (d * 1) m) d false true (fun ar => (ck_need N ar 3 11 l i (fun au av => (rdL 3 (List.drop 3 b) fun g r => (q2 g r ((r : Nat) : Int) 0 au av)))))))
noncomputable def ck_moves_q1 (N : Nat)  (r0 : Bool → LA → Option R) (f : LA) (t : Nat) (a : Bool) (b : LA) : Nat → Nat → Int → Int → Bool → LA → LA → Option R
  | 0, _, _, _, _, _, _ => none
  | n + 1, d, j, c, l, i, m => (ck_moves_q1B N r0 f t a b (ck_moves_q1 N r0 f t a b n) (fun g r o e p q => (ck_moves_q2 N r0 g r a N o e p q)) d j c l i m)
noncomputable def ck_moves_q0B (N : Nat)  (r0 : Bool → LA → Option R) (a : Bool) (b : LA)  (q1 : LA → Nat → Nat → Int → Int → Bool → LA → LA → Option R) (u : Bool) (w : LA) : Option R :=
  (rdL 3 (List.drop 3 b) fun bi aw => (ck_need N (decide (((aw : Nat) : Int) ≤ (16 : Int))) 3 8 u w (fun ab z => (rdI .i64 (List.drop 11 z) fun ax => (cond (ax != (0 : Int)) (r0 ab z) (rdL 3 (List.drop 3 b) fun f t => (q1 f t 0 ((t : Nat) : Int) 0 ab z [])))))))
noncomputable def ck_moves_q0 (N : Nat)  (r0 : Bool → LA → Option R) (a : Bool) (b : LA) (u : Bool) (w : LA) : Option R := (ck_moves_q0B N r0 a b (fun f t d j c l i m => (ck_moves_q1 N r0 f t a b N d j c l i m)) u w)
noncomputable def ck_movesB (N : Nat) (r0 : Bool → LA → Option R) (q0 : Bool → LA → Option R) (b : LA) (a : Bool) (x : Bool) (y : LA) : Option R :=
  (rdL 3 (List.drop 3 b) fun bj ay => (cond ((((ay : Nat) : Int) == (0 : Int)) == false) (rdB (List.drop 2 b) fun az => (ck_need N (cond false true az) 3 16 x y (fun ba bb => (q0 ba bb)))) (ck_need N true 3 16 x y (fun bc bd => (q0 bc bd)))))
noncomputable def ck_movesi (N : Nat) (b : LA) (a : Bool) (x : Bool) (y : LA) (r0 : Bool → LA → Option R) : Option R := (ck_movesB N r0 (fun u w => (ck_moves_q0 N r0 a b u w)) b a x y)
noncomputable def ck_moves := (shut (@ck_movesi R)).1
theorem ck_moves_def : @ck_moves R = @ck_movesi R := (shut _).2
noncomputable def ck_moves_hs : Hints := { H := (hS (hR [0,3]) (hJ (hR [0,3]) (hS (hR [0,3]) (hS (hS (hR [0,3,29]) (hN [0,3] hL hL)) (hS (hR [0,3,4]) (hS (hS (hR [0,3,4,31,32,33]) (hN [0,3,4] (hN [0,3,4,31,32,33] (hS (hR [0,3,4,31,32,33,34]) (hS (hN [0,3,4,31,32,33] hL hL) (hS (hN [0,3,4,31,32,33] (hS (hR [0,3,4,6,31,32,33]) (hS (hR [0,3,4,6,31,32,33]) (hR [0,3,4,31,32,33]))) hL) (hR [0,3,4,31,32,33])))) hL) hL)) (hS (hR [0,3]) (hS (hR [0,64,65,66]) (hS (hN [0,64,65,66] (hS (hR [0,64,65,66,67]) (hS (hN [0,64,65,66] hL hL) (hS (hN [0,64,65,66] (hS (hR [0,8,64,65,66]) (hS (hR [0,8,64,65,66]) (hR [0,64,65,66]))) hL) (hR [0,64,65,66])))) hL) hL))))))))), nils := [(4, 1)], modes := [], free := [], cob := [] }
noncomputable def ck_moves_T (N : Nat) : List (Nat × Tw) := [(54, ck_need_Tw N), (66, cf_ascending_Tw N), (52, ck_within_Tw N)]
noncomputable def ck_moves_E (N : Nat) : Env := mkE 79 ck_moves_hs (ck_moves_T N)
noncomputable def ck_moves_fin (N : Nat) (F : AV → Heap → Option R) := afinish (ck_moves_E N) Try.f67 ck_moves_hs.modes [100000] F
noncomputable def ck_moves_at (N : Nat) (F : AV → Heap → Option R) := atF (ck_moves_E N) [100000] N Try.f67 ck_moves_hs (ck_moves_fin N F)
noncomputable def ck_moves_r0  (F : AV → Heap → Option R) : Bool → LA → Option R := (fun be bf => F (.tup []) [(100000, ⟨false, false, true, be, 0, bf⟩)])
noncomputable def ck_moves_s2 (g : LA) (r : Nat) (a : Bool) (o : Int) (e : Int) (p : Bool) (q : LA) : St := { s := [(0, (.optr 100000 0)), (64, (.imm g r 3 false a)), (65, (.int .i64 o)), (66, (.int .i64 e))], h := [(100000, ⟨false, false, true, p, 0, q⟩)] }
noncomputable def ck_moves_w2 (N : Nat) (F : AV → Heap → Option R) : St → Option R := loopW (ck_moves_E N) [100000] N (ck_moves_at N F [1, 1, 1, 1, 1, 1, 1, 1, 0] []) N
noncomputable def ck_moves_l2 (N : Nat) (F : AV → Heap → Option R) (n : Nat) : St → Option R := loopAt (ck_moves_E N) [100000] N (ck_moves_at N F [1, 1, 1, 1, 1, 1, 1, 1, 0] []) n
noncomputable def ck_moves_s1 (f : LA) (t : Nat) (a : Bool) (b : LA) (d : Nat) (j : Int) (c : Int) (l : Bool) (i : LA) (m : LA) : St := { s := [(0, (.optr 100000 0)), (3, (.optr 300000 0)), (4, (.own 300001 0 d)), (31, (.imm f t 3 false a)), (32, (.int .i64 j)), (33, (.int .i64 c))], h := [(100000, ⟨false, false, true, l, 0, i⟩), (300000, ⟨false, false, true, a, 0, b⟩), (300001, ⟨false, false, true, false, 1, m⟩)] }
noncomputable def ck_moves_w1 (N : Nat) (F : AV → Heap → Option R) : St → Option R := loopW (ck_moves_E N) [100000] N (ck_moves_at N F [1, 1, 1, 1, 1, 0, 1, 0] []) N
noncomputable def ck_moves_l1 (N : Nat) (F : AV → Heap → Option R) (n : Nat) : St → Option R := loopAt (ck_moves_E N) [100000] N (ck_moves_at N F [1, 1, 1, 1, 1, 0, 1, 0] []) n
noncomputable def ck_moves_s0 (a : Bool) (b : LA) (u : Bool) (w : LA) : St := { s := [(0, (.optr 100000 0)), (3, (.optr 48 0))], h := [(48, ⟨false, false, true, a, 0, b⟩), (100000, ⟨false, false, true, u, 0, w⟩)] }
noncomputable def ck_moves_j0 (N : Nat) (F : AV → Heap → Option R) : St → Option R := joinAt (ck_moves_E N) [100000] N (ck_moves_at N F [1, 1] [])
noncomputable def ck_moves_i0 (N : Nat) (F : AV → Heap → Option R) : St → Option R := joinIn (ck_moves_E N) [100000] N (ck_moves_at N F [1, 1] [])
theorem ck_moves_q2_eq (N : Nat)  (F : AV → Heap → Option R) (g : LA) (r : Nat) (a : Bool) : ∀ (n : Nat) (o : Int) (e : Int) (p : Bool) (q : LA), ck_moves_l2 N F n (ck_moves_s2 g r a o e p q) = (ck_moves_q2 N (ck_moves_r0 F) g r a n o e p q) := by
  intro n
  induction n with
  | zero => intros; kernel_rfl
  | succ n ih =>
    intro o e p q
    have e0 := funext fun o => funext fun e => funext fun p => funext fun q => (show ck_moves_l2 N F n (ck_moves_s2 g r a o e p q) = _ from ih o e p q)
    have hK : ck_moves_l2 N F (n + 1) (ck_moves_s2 g r a o e p q) = (ck_moves_q2B N (ck_moves_r0 F) g r a (fun o e p q => ck_moves_l2 N F n (ck_moves_s2 g r a o e p q)) o e p q) := by kernel_rfl
    exact hK.trans (by rw [e0]; rfl)
theorem ck_moves_q1_eq (N : Nat)  (F : AV → Heap → Option R) (f : LA) (t : Nat) (a : Bool) (b : LA) : ∀ (n : Nat) (d : Nat) (j : Int) (c : Int) (l : Bool) (i : LA) (m : LA), ck_moves_l1 N F n (ck_moves_s1 f t a b d j c l i m) = (ck_moves_q1 N (ck_moves_r0 F) f t a b n d j c l i m) := by
  intro n
  induction n with
  | zero => intros; kernel_rfl
  | succ n ih =>
    intro d j c l i m
    have e0 := funext fun d => funext fun j => funext fun c => funext fun l => funext fun i => funext fun m => (show ck_moves_l1 N F n (ck_moves_s1 f t a b d j c l i m) = _ from ih d j c l i m)
    have e1 := funext fun g => funext fun r => funext fun o => funext fun e => funext fun p => funext fun q => (show ck_moves_w2 N F (ck_moves_s2 g r a o e p q) = _ from (loopW_eq ..).trans (ck_moves_q2_eq N F g r a N o e p q))
    have hK : ck_moves_l1 N F (n + 1) (ck_moves_s1 f t a b d j c l i m) = (ck_moves_q1B N (ck_moves_r0 F) f t a b (fun d j c l i m => ck_moves_l1 N F n (ck_moves_s1 f t a b d j c l i m)) (fun g r o e p q => ck_moves_w2 N F (ck_moves_s2 g r a o e p q)) d j c l i m) := by kernel_rfl
    exact hK.trans (by rw [e0, e1]; rfl)
theorem ck_moves_q0_eq (N : Nat)  (F : AV → Heap → Option R) (a : Bool) (b : LA) : ∀ (u : Bool) (w : LA), ck_moves_i0 N F (ck_moves_s0 a b u w) = (ck_moves_q0 N (ck_moves_r0 F) a b u w) := by
  intro u w
  have e1 := funext fun f => funext fun t => funext fun d => funext fun j => funext fun c => funext fun l => funext fun i => funext fun m => (show ck_moves_w1 N F (ck_moves_s1 f t a b d j c l i m) = _ from (loopW_eq ..).trans (ck_moves_q1_eq N F f t a b N d j c l i m))
  have hK : ck_moves_i0 N F (ck_moves_s0 a b u w) = (ck_moves_q0B N (ck_moves_r0 F) a b (fun f t d j c l i m => ck_moves_w1 N F (ck_moves_s1 f t a b d j c l i m)) u w) := by kernel_rfl
  exact hK.trans (by rw [e1]; rfl)
theorem ck_moves_eq (N : Nat) (b : LA) (a : Bool) (x : Bool) (y : LA) (F : AV → Heap → Option R) : execF Try.prog muts (ck_moves_T N) ck_moves_hs N 67 [(.optr 100000 0), (.pagg b a)] [(100000, ⟨false, false, true, x, 0, y⟩)] F = (ck_moves N b a x y (ck_moves_r0 F)) := by
  have e1 := funext fun u => funext fun w => (show ck_moves_j0 N F (ck_moves_s0 a b u w) = _ from (joinAt_eq ..).trans (ck_moves_q0_eq N F a b u w))
  have hK : execF Try.prog muts (ck_moves_T N) ck_moves_hs N 67 [(.optr 100000 0), (.pagg b a)] [(100000, ⟨false, false, true, x, 0, y⟩)] F = (ck_movesB N (ck_moves_r0 F) (fun u w => ck_moves_j0 N F (ck_moves_s0 a b u w)) b a x y) := by kernel_rfl
  rw [ck_moves_def]
  exact hK.trans (by rw [e1]; rfl)
noncomputable def ck_moves_run (N : Nat) (args : List AV) (h : Heap) (k : AV → Heap → Option R) : Option R :=
  match args, h with
  | [(.optr 100000 0), (.pagg b a)], [(100000, ⟨false, false, true, x, 0, y⟩)] => (ck_moves N b a x y (ck_moves_r0 k))
  | _, _ => none
noncomputable def ck_moves_Tw (N : Nat) : Tw where
  runK := ck_moves_run N
  eq := by
    intro R args h k
    unfold ck_moves_run
    split
    · exact (ck_moves_eq ..).symm.trans ((execF_bind ..).trans (congrArg (Option.bind · _) (ck_moves_eq ..)))
    · rfl
theorem ck_moves_ok (N : Nat) : TwOk Try.prog 67 (ck_moves_Tw N) := by
  intro args h res aa bg
  have hh : ck_moves_run N args h (fun v aa => some (v, aa)) = some (res, aa) := bg
  unfold ck_moves_run at hh
  split at hh
  · exact execF_sound (T := ck_moves_T N) ⟨ck_need_ok N, cf_ascending_ok N, ck_within_ok N, trivial⟩ follows ((ck_moves_eq ..).trans hh)
  · cases hh
noncomputable def ck_outages_q2B (N : Nat) (k0 : Int → Int → Bool → LA → Option R) (r0 : Bool → LA → Option R) (b : LA) (e : Nat) (a : Bool) (c : Int) (u : LA) (r : Nat) (g : LA) (d : LA) (k2 : Int → Int → Int → Bool → LA → Option R)  (o : Int) (p : Int) (l : Int) (q : Bool) (m : LA) : Option R :=
  (cond (decide (l < p)) (cond (inIdx l r) (rdI .i64 (List.drop ((Int.toNat l) * 1) u) fun z => (cond ((decide (z ≥ (0 : Int))) == true) (rdL 12 (List.drop 3 m) fun bd ac => (ck_need N (cond true (decide (z < ((ac : Nat) : Int))) false) 1 12 q m (fun ad ae => (k2 o p (IntKind.wrap .i64 (l + (1 : Int))) ad ae)))) (ck_need N false 1 12 q m (fun af ag => (k2 o p (IntKind.wrap .i64 (l + (1 : Int))) af ag))))) none) (rdL 1 (List.drop 1 g) fun ah ai => (cf_ascending N ah ai false a (fun aj => (ck_need N aj 1 11 q m (fun ak al => (cond (Nat.ble 4 (List.length g)) (ck_moves N (List.take 4 g) a ak al (fun am an => (k0 c (IntKind.wrap .i64 (o + (1 : Int))) am an))) none)))))))
noncomputable def ck_outages_q2 (N : Nat) (k0 : Int → Int → Bool → LA → Option R) (r0 : Bool → LA → Option R) (b : LA) (e : Nat) (a : Bool) (c : Int) (u : LA) (r : Nat) (g : LA) (d : LA) : Nat → Int → Int → Int → Bool → LA → Option R
  | 0, _, _, _, _, _ => none
  | n + 1, o, p, l, q, m => (ck_outages_q2B N k0 r0 b e a c u r g d (ck_outages_q2 N k0 r0 b e a c u r g d n) o p l q m)
noncomputable def ck_outages_q1B (N : Nat) (k0 : Int → Int → Bool → LA → Option R) (r0 : Bool → LA → Option R) (b : LA) (e : Nat) (a : Bool) (c : Int) (d : LA)  (q2 : LA → Nat → Int → Int → Int → Bool → LA → Option R) (x : Int) (g : LA) (w : Bool) (t : LA) : Option R :=
  (rdI .i64 (List.drop 11 t) fun ao => (cond (ao != (0 : Int)) (r0 w t) (rdL 1 (List.drop 1 g) fun u r => (q2 u r x ((r : Nat) : Int) 0 w t))))
noncomputable def ck_outages_q1 (N : Nat) (k0 : Int → Int → Bool → LA → Option R) (r0 : Bool → LA → Option R) (b : LA) (e : Nat) (a : Bool) (c : Int) (d : LA) (x : Int) (g : LA) (w : Bool) (t : LA) : Option R := (ck_outages_q1B N k0 r0 b e a c d (fun u r o p l q m => (ck_outages_q2 N k0 r0 b e a c u r g d N o p l q m)) x g w t)
noncomputable def ck_outages_q0B (N : Nat)  (r0 : Bool → LA → Option R) (b : LA) (e : Nat) (a : Bool) (d : LA) (k0 : Int → Int → Bool → LA → Option R) (q1 : Int → LA → Bool → LA → Option R) (c : Int) (f : Int) (i : Bool) (j : LA) : Option R :=
  (cond (decide (f < c)) (cond (inIdx f e) (cond (Nat.ble 4 (List.length (List.drop ((Int.toNat f) * 4) b))) (cond ((Nat.beq 0 0) && ((Nat.beq (List.length (List.take 4 (List.drop ((Int.toNat f) * 4) b))) 4) && (Nat.beq 4 4))) (ck_at N 6 f i j (fun ap aq => (rdS (List.take 4 (List.drop ((Int.toNat f) * 4) b)) fun ar => (ck_name_v6 N ar ap aq (fun aa ab => (rdL 1 (List.drop 1 (List.take 4 (List.drop ((Int.toNat f) * 4) b))) fun be au => (cond ((((au : Nat) : Int) == (1 : Int)) == false) (rdL 1 (List.drop 1 (List.take 4 (List.drop ((Int.toNat f) * 4) b))) fun bf av => (ck_need N (cond false true (((av : Nat) : Int) == (2 : Int))) 1 4 aa ab (fun aw ax => (q1 f (List.take 4 (List.drop ((Int.toNat f) * 4) b)) aw ax)))) (ck_need N true 1 4 aa ab (fun ay az => (q1 f (List.take 4 (List.drop ((Int.toNat f) * 4) b)) ay az)))))))))) none) none) none) (r0 i j))
noncomputable def ck_outages_q0 (N : Nat)  (r0 : Bool → LA → Option R) (b : LA) (e : Nat) (a : Bool) (d : LA) : Nat → Int → Int → Bool → LA → Option R
  | 0, _, _, _, _ => none
  | n + 1, c, f, i, j => (ck_outages_q0B N r0 b e a d (ck_outages_q0 N r0 b e a d n) (fun x g w t => (ck_outages_q1 N (ck_outages_q0 N r0 b e a d n) r0 b e a c d x g w t)) c f i j)
noncomputable def ck_outagesB (N : Nat) (r0 : Bool → LA → Option R) (q0 : LA → Nat → Int → Int → Bool → LA → Option R) (a : Bool) (d : LA) : Option R :=
  (rdL 4 (List.drop 7 d) fun b e => (q0 b e ((e : Nat) : Int) 0 a d))
noncomputable def ck_outagesi (N : Nat) (a : Bool) (d : LA) (r0 : Bool → LA → Option R) : Option R := (ck_outagesB N r0 (fun b e c f i j => (ck_outages_q0 N r0 b e a d N c f i j)) a d)
noncomputable def ck_outages := (shut (@ck_outagesi R)).1
theorem ck_outages_def : @ck_outages R = @ck_outagesi R := (shut _).2
noncomputable def ck_outages_hs : Hints := { H := (hS (hR [1]) (hS (hR [1,10,11,12]) (hS (hN [1,10,11,12] (hS (hR [1,10,11,12,13]) (hS (hN [1,10,11,12] hL hL) (hS (hN [1,10,11,12] (hS (hR [1,2,3,10,11,12]) (hS (hR [1,3,10,11,12]) (hS (hR [1,3,10,11,12]) (hJ (hR [1,3,10,11,12]) (hS (hS (hR [1,3,10,11,12,41]) (hN [1,3,10,11,12] hL hL)) (hS (hS (hR [1,3,10,11,12,43,44,45]) (hN [1,3,10,11,12] (hN [1,3,10,11,12,43,44,45] (hS (hR [1,3,10,11,12,43,44,45,46]) (hS (hN [1,3,10,11,12,43,44,45] hL hL) (hS (hN [1,3,10,11,12,43,44,45] (hS (hR [1,3,5,10,11,12,43,44,45]) (hR [1,3,10,11,12,43,44,45])) hL) (hR [1,3,10,11,12,43,44,45])))) hL) hL)) (hS (hR [1,3,10,11,12]) (hR [1,10,11,12])))))))) hL) (hR [1,10,11,12])))) hL) hL))), nils := [], modes := [], free := [], cob := [] }
noncomputable def ck_outages_T (N : Nat) : List (Nat × Tw) := [(51, ck_at_Tw N), (55, ck_name_v6_Tw N), (54, ck_need_Tw N), (66, cf_ascending_Tw N), (67, ck_moves_Tw N)]
noncomputable def ck_outages_E (N : Nat) : Env := mkE 73 ck_outages_hs (ck_outages_T N)
noncomputable def ck_outages_fin (N : Nat) (F : AV → Heap → Option R) := afinish (ck_outages_E N) Try.f31 ck_outages_hs.modes [100000] F
noncomputable def ck_outages_at (N : Nat) (F : AV → Heap → Option R) := atF (ck_outages_E N) [100000] N Try.f31 ck_outages_hs (ck_outages_fin N F)
noncomputable def ck_outages_r0  (F : AV → Heap → Option R) : Bool → LA → Option R := (fun ba bb => F (.tup []) [(100000, ⟨false, false, true, ba, 0, bb⟩)])
noncomputable def ck_outages_s2 (b : LA) (e : Nat) (a : Bool) (c : Int) (u : LA) (r : Nat) (g : LA) (d : LA) (o : Int) (p : Int) (l : Int) (q : Bool) (m : LA) : St := { s := [(1, (.optr 300000 0)), (3, (.optr 300001 0)), (10, (.imm b e 4 false a)), (11, (.int .i64 c)), (12, (.int .i64 o)), (43, (.imm u r 1 false a)), (44, (.int .i64 p)), (45, (.int .i64 l))], h := [(100000, ⟨false, false, true, q, 0, m⟩), (300000, ⟨false, false, false, false, 0, [(.optr 100000 0)]⟩), (300001, ⟨false, false, true, a, 0, g⟩)] }
noncomputable def ck_outages_w2 (N : Nat) (F : AV → Heap → Option R) (Q0 : St → Option R) : St → Option R := loopW (ck_outages_E N) [100000] N (ck_outages_at N F [1, 1, 0, 0, 1, 1, 0, 0, 1, 1, 1, 1, 1, 0, 1, 0] [Q0]) N
noncomputable def ck_outages_l2 (N : Nat) (F : AV → Heap → Option R) (Q0 : St → Option R) (n : Nat) : St → Option R := loopAt (ck_outages_E N) [100000] N (ck_outages_at N F [1, 1, 0, 0, 1, 1, 0, 0, 1, 1, 1, 1, 1, 0, 1, 0] [Q0]) n
noncomputable def ck_outages_s1 (b : LA) (e : Nat) (a : Bool) (c : Int) (d : LA) (x : Int) (g : LA) (w : Bool) (t : LA) : St := { s := [(1, (.optr 300000 0)), (3, (.optr 48 0)), (10, (.imm b e 4 false a)), (11, (.int .i64 c)), (12, (.int .i64 x))], h := [(48, ⟨false, false, true, a, 0, g⟩), (100000, ⟨false, false, true, w, 0, t⟩), (300000, ⟨false, false, false, false, 0, [(.optr 100000 0)]⟩)] }
noncomputable def ck_outages_j1 (N : Nat) (F : AV → Heap → Option R) (Q0 : St → Option R) : St → Option R := joinAt (ck_outages_E N) [100000] N (ck_outages_at N F [1, 1, 0, 0, 1, 1, 0, 0, 1, 1, 1, 1] [Q0])
noncomputable def ck_outages_i1 (N : Nat) (F : AV → Heap → Option R) (Q0 : St → Option R) : St → Option R := joinIn (ck_outages_E N) [100000] N (ck_outages_at N F [1, 1, 0, 0, 1, 1, 0, 0, 1, 1, 1, 1] [Q0])
noncomputable def ck_outages_s0 (b : LA) (e : Nat) (a : Bool) (d : LA) (c : Int) (f : Int) (i : Bool) (j : LA) : St := { s := [(1, (.optr 300000 0)), (10, (.imm b e 4 false a)), (11, (.int .i64 c)), (12, (.int .i64 f))], h := [(100000, ⟨false, false, true, i, 0, j⟩), (300000, ⟨false, false, false, false, 0, [(.optr 100000 0)]⟩)] }
noncomputable def ck_outages_w0 (N : Nat) (F : AV → Heap → Option R) : St → Option R := loopW (ck_outages_E N) [100000] N (ck_outages_at N F [1, 1, 0] []) N
noncomputable def ck_outages_l0 (N : Nat) (F : AV → Heap → Option R) (n : Nat) : St → Option R := loopAt (ck_outages_E N) [100000] N (ck_outages_at N F [1, 1, 0] []) n
theorem ck_outages_q2_eq (N : Nat) (Q0 : St → Option R) (F : AV → Heap → Option R) (b : LA) (e : Nat) (a : Bool) (c : Int) (u : LA) (r : Nat) (g : LA) (d : LA) : ∀ (n : Nat) (o : Int) (p : Int) (l : Int) (q : Bool) (m : LA), ck_outages_l2 N F Q0 n (ck_outages_s2 b e a c u r g d o p l q m) = (ck_outages_q2 N (fun c f i j => Q0 (ck_outages_s0 b e a d c f i j)) (ck_outages_r0 F) b e a c u r g d n o p l q m) := by
  intro n
  induction n with
  | zero => intros; kernel_rfl
  | succ n ih =>
    intro o p l q m
    have e0 := funext fun o => funext fun p => funext fun l => funext fun q => funext fun m => (show ck_outages_l2 N F Q0 n (ck_outages_s2 b e a c u r g d o p l q m) = _ from ih o p l q m)
    have hK : ck_outages_l2 N F Q0 (n + 1) (ck_outages_s2 b e a c u r g d o p l q m) = (ck_outages_q2B N (fun c f i j => Q0 (ck_outages_s0 b e a d c f i j)) (ck_outages_r0 F) b e a c u r g d (fun o p l q m => ck_outages_l2 N F Q0 n (ck_outages_s2 b e a c u r g d o p l q m)) o p l q m) := by kernel_rfl
    exact hK.trans (by rw [e0]; rfl)
theorem ck_outages_q1_eq (N : Nat) (Q0 : St → Option R) (F : AV → Heap → Option R) (b : LA) (e : Nat) (a : Bool) (c : Int) (d : LA) : ∀ (x : Int) (g : LA) (w : Bool) (t : LA), ck_outages_i1 N F Q0 (ck_outages_s1 b e a c d x g w t) = (ck_outages_q1 N (fun c f i j => Q0 (ck_outages_s0 b e a d c f i j)) (ck_outages_r0 F) b e a c d x g w t) := by
  intro x g w t
  have e1 := funext fun u => funext fun r => funext fun o => funext fun p => funext fun l => funext fun q => funext fun m => (show ck_outages_w2 N F Q0 (ck_outages_s2 b e a c u r g d o p l q m) = _ from (loopW_eq ..).trans (ck_outages_q2_eq N Q0 F b e a c u r g d N o p l q m))
  have hK : ck_outages_i1 N F Q0 (ck_outages_s1 b e a c d x g w t) = (ck_outages_q1B N (fun c f i j => Q0 (ck_outages_s0 b e a d c f i j)) (ck_outages_r0 F) b e a c d (fun u r o p l q m => ck_outages_w2 N F Q0 (ck_outages_s2 b e a c u r g d o p l q m)) x g w t) := by kernel_rfl
  exact hK.trans (by rw [e1]; rfl)
theorem ck_outages_q0_eq (N : Nat)  (F : AV → Heap → Option R) (b : LA) (e : Nat) (a : Bool) (d : LA) : ∀ (n : Nat) (c : Int) (f : Int) (i : Bool) (j : LA), ck_outages_l0 N F n (ck_outages_s0 b e a d c f i j) = (ck_outages_q0 N (ck_outages_r0 F) b e a d n c f i j) := by
  intro n
  induction n with
  | zero => intros; kernel_rfl
  | succ n ih =>
    intro c f i j
    have e0 := funext fun c => funext fun f => funext fun i => funext fun j => (show ck_outages_l0 N F n (ck_outages_s0 b e a d c f i j) = _ from ih c f i j)
    have e1 : (fun x g w t => ck_outages_j1 N F (ck_outages_l0 N F n) (ck_outages_s1 b e a c d x g w t)) = (fun x g w t => (ck_outages_q1 N (ck_outages_q0 N (ck_outages_r0 F) b e a d n) (ck_outages_r0 F) b e a c d x g w t)) := by funext x; funext g; funext w; funext t; exact ((joinAt_eq ..).trans (ck_outages_q1_eq N (ck_outages_l0 N F n) F b e a c d x g w t)).trans (by rw [e0])
    have hK : ck_outages_l0 N F (n + 1) (ck_outages_s0 b e a d c f i j) = (ck_outages_q0B N (ck_outages_r0 F) b e a d (fun c f i j => ck_outages_l0 N F n (ck_outages_s0 b e a d c f i j)) (fun x g w t => ck_outages_j1 N F (ck_outages_l0 N F n) (ck_outages_s1 b e a c d x g w t)) c f i j) := by kernel_rfl
    exact hK.trans (by rw [e0, e1]; rfl)
theorem ck_outages_eq (N : Nat) (a : Bool) (d : LA) (F : AV → Heap → Option R) : execF Try.prog muts (ck_outages_T N) ck_outages_hs N 31 [(.optr 100000 0)] [(100000, ⟨false, false, true, a, 0, d⟩)] F = (ck_outages N a d (ck_outages_r0 F)) := by
  have e1 := funext fun b => funext fun e => funext fun c => funext fun f => funext fun i => funext fun j => (show ck_outages_w0 N F (ck_outages_s0 b e a d c f i j) = _ from (loopW_eq ..).trans (ck_outages_q0_eq N F b e a d N c f i j))
  have hK : execF Try.prog muts (ck_outages_T N) ck_outages_hs N 31 [(.optr 100000 0)] [(100000, ⟨false, false, true, a, 0, d⟩)] F = (ck_outagesB N (ck_outages_r0 F) (fun b e c f i j => ck_outages_w0 N F (ck_outages_s0 b e a d c f i j)) a d) := by kernel_rfl
  rw [ck_outages_def]
  exact hK.trans (by rw [e1]; rfl)
noncomputable def ck_outages_run (N : Nat) (args : List AV) (h : Heap) (k : AV → Heap → Option R) : Option R :=
  match args, h with
  | [(.optr 100000 0)], [(100000, ⟨false, false, true, a, 0, d⟩)] => (ck_outages N a d (ck_outages_r0 k))
  | _, _ => none
noncomputable def ck_outages_Tw (N : Nat) : Tw where
  runK := ck_outages_run N
  eq := by
    intro R args h k
    unfold ck_outages_run
    split
    · exact (ck_outages_eq ..).symm.trans ((execF_bind ..).trans (congrArg (Option.bind · _) (ck_outages_eq ..)))
    · rfl
theorem ck_outages_ok (N : Nat) : TwOk Try.prog 31 (ck_outages_Tw N) := by
  intro args h res y bc
  have hh : ck_outages_run N args h (fun v y => some (v, y)) = some (res, y) := bc
  unfold ck_outages_run at hh
  split at hh
  · exact execF_sound (T := ck_outages_T N) ⟨ck_at_ok N, ck_name_v6_ok N, ck_need_ok N, cf_ascending_ok N, ck_moves_ok N, trivial⟩ follows ((ck_outages_eq ..).trans hh)
  · cases hh
noncomputable def slices_Index__int_int_q0B (N : Nat)  (r0 : Int → Option R) (b : LA) (a : Nat) (e : Bool) (f : Bool) (c : Int) (k0 : Int → Int → Option R)  (g : Int) (d : Int) : Option R :=
  (cond (decide (d < g)) (cond (inIdx d a) (rdI .i64 (List.drop ((Int.toNat d) * 1) b) fun j => (cond (c == j) (r0 d) (k0 g (IntKind.wrap .i64 (d + (1 : Int)))))) none) (r0 (-1)))
noncomputable def slices_Index__int_int_q0 (N : Nat)  (r0 : Int → Option R) (b : LA) (a : Nat) (e : Bool) (f : Bool) (c : Int) : Nat → Int → Int → Option R
  | 0, _, _ => none
  | n + 1, g, d => (slices_Index__int_int_q0B N r0 b a e f c (slices_Index__int_int_q0 N r0 b a e f c n) g d)
noncomputable def slices_Index__int_intB (N : Nat) (r0 : Int → Option R) (q0 : Int → Int → Option R) (b : LA) (a : Nat) (e : Bool) (f : Bool) (c : Int) : Option R :=
  (q0 ((a : Nat) : Int) 0)
noncomputable def slices_Index__int_inti (N : Nat) (b : LA) (a : Nat) (e : Bool) (f : Bool) (c : Int) (r0 : Int → Option R) : Option R := (slices_Index__int_intB N r0 (fun g d => (slices_Index__int_int_q0 N r0 b a e f c N g d)) b a e f c)
noncomputable def slices_Index__int_int := (shut (@slices_Index__int_inti R)).1
theorem slices_Index__int_int_def : @slices_Index__int_int R = @slices_Index__int_inti R := (shut _).2
noncomputable def slices_Index__int_int_hs : Hints := { H := (hS (hR [0,1]) (hS (hS (hR [0,1,7,8]) (hS (hN [0,1,7,8] (hS (hR [0,1,7,8,9]) (hS (hN [0,1,7,8] hL hL) (hS (hN [0,1,7,8] (hS (hR [0,1,5,7,8]) (hS (hR [0,1,5,7,8,16]) (hN [0,1,7,8] (hS (hR [4]) hL) hL))) hL) (hR [0,1,7,8])))) hL) hL)) (hS (hR [4]) hL))), nils := [], modes := [], free := [], cob := [] }
noncomputable def slices_Index__int_int_T (N : Nat) : List (Nat × Tw) := []
noncomputable def slices_Index__int_int_E (N : Nat) : Env := mkE 19 slices_Index__int_int_hs (slices_Index__int_int_T N)
noncomputable def slices_Index__int_int_fin (N : Nat) (F : AV → Heap → Option R) := afinish (slices_Index__int_int_E N) Try.f69 slices_Index__int_int_hs.modes [] F
noncomputable def slices_Index__int_int_at (N : Nat) (F : AV → Heap → Option R) := atF (slices_Index__int_int_E N) [] N Try.f69 slices_Index__int_int_hs (slices_Index__int_int_fin N F)
noncomputable def slices_Index__int_int_r0  (F : AV → Heap → Option R) : Int → Option R := (fun l => F (.int .i64 l) [])
noncomputable def slices_Index__int_int_s0 (b : LA) (a : Nat) (e : Bool) (f : Bool) (c : Int) (g : Int) (d : Int) : St := { s := [(0, (.imm b a 1 e f)), (1, (.int .i64 c)), (7, (.int .i64 g)), (8, (.int .i64 d))], h := [] }
noncomputable def slices_Index__int_int_w0 (N : Nat) (F : AV → Heap → Option R) : St → Option R := loopW (slices_Index__int_int_E N) [] N (slices_Index__int_int_at N F [1, 0, 1, 0] []) N
noncomputable def slices_Index__int_int_l0 (N : Nat) (F : AV → Heap → Option R) (n : Nat) : St → Option R := loopAt (slices_Index__int_int_E N) [] N (slices_Index__int_int_at N F [1, 0, 1, 0] []) n
theorem slices_Index__int_int_q0_eq (N : Nat)  (F : AV → Heap → Option R) (b : LA) (a : Nat) (e : Bool) (f : Bool) (c : Int) : ∀ (n : Nat) (g : Int) (d : Int), slices_Index__int_int_l0 N F n (slices_Index__int_int_s0 b a e f c g d) = (slices_Index__int_int_q0 N (slices_Index__int_int_r0 F) b a e f c n g d) := by
  intro n
  induction n with
  | zero => intros; kernel_rfl
  | succ n ih =>
    intro g d
    have e0 := funext fun g => funext fun d => (show slices_Index__int_int_l0 N F n (slices_Index__int_int_s0 b a e f c g d) = _ from ih g d)
    have hK : slices_Index__int_int_l0 N F (n + 1) (slices_Index__int_int_s0 b a e f c g d) = (slices_Index__int_int_q0B N (slices_Index__int_int_r0 F) b a e f c (fun g d => slices_Index__int_int_l0 N F n (slices_Index__int_int_s0 b a e f c g d)) g d) := by kernel_rfl
    exact hK.trans (by rw [e0]; rfl)
theorem slices_Index__int_int_eq (N : Nat) (b : LA) (a : Nat) (e : Bool) (f : Bool) (c : Int) (F : AV → Heap → Option R) : execF Try.prog muts (slices_Index__int_int_T N) slices_Index__int_int_hs N 69 [(.imm b a 1 e f), (.int .i64 c)] [] F = (slices_Index__int_int N b a e f c (slices_Index__int_int_r0 F)) := by
  have e1 := funext fun g => funext fun d => (show slices_Index__int_int_w0 N F (slices_Index__int_int_s0 b a e f c g d) = _ from (loopW_eq ..).trans (slices_Index__int_int_q0_eq N F b a e f c N g d))
  have hK : execF Try.prog muts (slices_Index__int_int_T N) slices_Index__int_int_hs N 69 [(.imm b a 1 e f), (.int .i64 c)] [] F = (slices_Index__int_intB N (slices_Index__int_int_r0 F) (fun g d => slices_Index__int_int_w0 N F (slices_Index__int_int_s0 b a e f c g d)) b a e f c) := by kernel_rfl
  rw [slices_Index__int_int_def]
  exact hK.trans (by rw [e1]; rfl)
noncomputable def slices_Index__int_int_run (N : Nat) (args : List AV) (h : Heap) (k : AV → Heap → Option R) : Option R :=
  match args, h with
  | [(.imm b a 1 e f), (.int .i64 c)], [] => (slices_Index__int_int N b a e f c (slices_Index__int_int_r0 k))
  | _, _ => none
noncomputable def slices_Index__int_int_Tw (N : Nat) : Tw where
  runK := slices_Index__int_int_run N
  eq := by
    intro R args h k
    unfold slices_Index__int_int_run
    split
    · exact (slices_Index__int_int_eq ..).symm.trans ((execF_bind ..).trans (congrArg (Option.bind · _) (slices_Index__int_int_eq ..)))
    · rfl
theorem slices_Index__int_int_ok (N : Nat) : TwOk Try.prog 69 (slices_Index__int_int_Tw N) := by
  intro args h res i m
  have hh : slices_Index__int_int_run N args h (fun v i => some (v, i)) = some (res, i) := m
  unfold slices_Index__int_int_run at hh
  split at hh
  · exact execF_sound (T := slices_Index__int_int_T N) trivial follows ((slices_Index__int_int_eq ..).trans hh)
  · cases hh
noncomputable def slices_Contains__int_intB (N : Nat) (r0 : Bool → Option R)  (a : LA) (b : Nat) (e : Bool) (c : Bool) (d : Int) : Option R :=
  (slices_Index__int_int N a b false c d (fun g => (r0 (decide (g ≥ (0 : Int))))))
noncomputable def slices_Contains__int_inti (N : Nat) (a : LA) (b : Nat) (e : Bool) (c : Bool) (d : Int) (r0 : Bool → Option R) : Option R := (slices_Contains__int_intB N r0 a b e c d)
noncomputable def slices_Contains__int_int := (shut (@slices_Contains__int_inti R)).1
theorem slices_Contains__int_int_def : @slices_Contains__int_int R = @slices_Contains__int_inti R := (shut _).2
noncomputable def slices_Contains__int_int_hs : Hints := { H := (hS (hR [0,1]) (hS (hR [4]) hL)), nils := [], modes := [], free := [], cob := [] }
noncomputable def slices_Contains__int_int_T (N : Nat) : List (Nat × Tw) := [(69, slices_Index__int_int_Tw N)]
noncomputable def slices_Contains__int_int_E (N : Nat) : Env := mkE 9 slices_Contains__int_int_hs (slices_Contains__int_int_T N)
noncomputable def slices_Contains__int_int_fin (N : Nat) (F : AV → Heap → Option R) := afinish (slices_Contains__int_int_E N) Try.f39 slices_Contains__int_int_hs.modes [] F
noncomputable def slices_Contains__int_int_at (N : Nat) (F : AV → Heap → Option R) := atF (slices_Contains__int_int_E N) [] N Try.f39 slices_Contains__int_int_hs (slices_Contains__int_int_fin N F)
noncomputable def slices_Contains__int_int_r0  (F : AV → Heap → Option R) : Bool → Option R := (fun i => F (.bool i) [])
theorem slices_Contains__int_int_eq (N : Nat) (a : LA) (b : Nat) (e : Bool) (c : Bool) (d : Int) (F : AV → Heap → Option R) : execF Try.prog muts (slices_Contains__int_int_T N) slices_Contains__int_int_hs N 39 [(.imm a b 1 e c), (.int .i64 d)] [] F = (slices_Contains__int_int N a b e c d (slices_Contains__int_int_r0 F)) := by
  have hK : execF Try.prog muts (slices_Contains__int_int_T N) slices_Contains__int_int_hs N 39 [(.imm a b 1 e c), (.int .i64 d)] [] F = (slices_Contains__int_intB N (slices_Contains__int_int_r0 F) a b e c d) := by kernel_rfl
  rw [slices_Contains__int_int_def]
  exact hK
noncomputable def slices_Contains__int_int_run (N : Nat) (args : List AV) (h : Heap) (k : AV → Heap → Option R) : Option R :=
  match args, h with
  | [(.imm a b 1 e c), (.int .i64 d)], [] => (slices_Contains__int_int N a b e c d (slices_Contains__int_int_r0 k))
  | _, _ => none
noncomputable def slices_Contains__int_int_Tw (N : Nat) : Tw where
  runK := slices_Contains__int_int_run N
  eq := by
    intro R args h k
    unfold slices_Contains__int_int_run
    split
    · exact (slices_Contains__int_int_eq ..).symm.trans ((execF_bind ..).trans (congrArg (Option.bind · _) (slices_Contains__int_int_eq ..)))
    · rfl
theorem slices_Contains__int_int_ok (N : Nat) : TwOk Try.prog 39 (slices_Contains__int_int_Tw N) := by
  intro args h res f j
  have hh : slices_Contains__int_int_run N args h (fun v f => some (v, f)) = some (res, f) := j
  unfold slices_Contains__int_int_run at hh
  split at hh
  · exact execF_sound (T := slices_Contains__int_int_T N) ⟨slices_Index__int_int_ok N, trivial⟩ follows ((slices_Contains__int_int_eq ..).trans hh)
  · cases hh
noncomputable def cf_active_q0B (N : Nat)  (r0 : Nat → LA → Option R) (c : Int) (g : LA) (i : Nat) (d : Bool) (k0 : Nat → Int → Int → LA → Option R)  (b : Nat) (e : Int) (a : Int) (f : LA) : Option R :=
  (cond (decide (a < e)) (cond (inIdx a i) (cond (Nat.ble 12 (List.length (List.drop ((Int.toNat a) * 12) g))) (cond ((Nat.beq 0 0) && ((Nat.beq (List.length (List.take 12 (List.drop ((Int.toNat a) * 12) g))) 12) && (Nat.beq 12 12))) (rdL 1 (List.drop 11 (List.take 12 (List.drop ((Int.toNat a) * 12) g))) fun m o => (slices_Contains__int_int N m o false d c (fun p => (cond (!p) (cond ((Nat.ble (b + 1) 140737488355328) && (Nat.ble ((b + 1) * 8) 140737488355328)) (k0 (b + 1) e (IntKind.wrap .i64 (a + (1 : Int))) ((List.take (b * 1) f) ++ [(.int .i64 a)])) none) (k0 b e (IntKind.wrap .i64 (a + (1 : Int))) f))))) none) none) none) (r0 b f))
noncomputable def cf_active_q0 (N : Nat)  (r0 : Nat → LA → Option R) (c : Int) (g : LA) (i : Nat) (d : Bool) : Nat → Nat → Int → Int → LA → Option R
  | 0, _, _, _, _ => none
  | n + 1, b, e, a, f => (cf_active_q0B N r0 c g i d (cf_active_q0 N r0 c g i d n) b e a f)
noncomputable def cf_activeB (N : Nat) (r0 : Nat → LA → Option R) (q0 : LA → Nat → Nat → Int → Int → LA → Option R) (j : LA) (d : Bool) (c : Int) : Option R :=
  (rdL 12 (List.drop 3 j) fun g i => (q0 g i 0 ((i : Nat) : Int) 0 []))
noncomputable def cf_activei (N : Nat) (j : LA) (d : Bool) (c : Int) (r0 : Nat → LA → Option R) : Option R := (cf_activeB N r0 (fun g i b e a f => (cf_active_q0 N r0 c g i d N b e a f)) j d c)
noncomputable def cf_active := (shut (@cf_activei R)).1
theorem cf_active_def : @cf_active R = @cf_activei R := (shut _).2
noncomputable def cf_active_hs : Hints := { H := (hS (hR [1,2]) (hS (hR [1,2,5]) (hS (hS (hR [1,5,9,10,11]) (hN [5] (hN [1,5,9,10,11] (hS (hR [1,5,9,10,11,12]) (hS (hN [1,5,9,10,11] hL hL) (hS (hN [1,5,9,10,11] (hS (hR [1,5,6,7,9,10,11]) (hS (hR [1,5,6,9,10,11,20]) (hN [1,5,9,10,11] (hR [1,5,9,10,11]) hL))) hL) (hR [1,5,9,10,11])))) hL) hL)) (hS (hR [4]) hL)))), nils := [(4, 1), (5, 1)], modes := [(2, 1)], free := [], cob := [] }
noncomputable def cf_active_T (N : Nat) : List (Nat × Tw) := [(39, slices_Contains__int_int_Tw N)]
noncomputable def cf_active_E (N : Nat) : Env := mkE 27 cf_active_hs (cf_active_T N)
noncomputable def cf_active_fin (N : Nat) (F : AV → Heap → Option R) := afinish (cf_active_E N) Try.f38 cf_active_hs.modes [] F
noncomputable def cf_active_at (N : Nat) (F : AV → Heap → Option R) := atF (cf_active_E N) [] N Try.f38 cf_active_hs (cf_active_fin N F)
noncomputable def cf_active_r0  (F : AV → Heap → Option R) : Nat → LA → Option R := (fun q r => F (.own 300000 0 q) [(300000, ⟨false, false, true, false, 1, r⟩)])
noncomputable def cf_active_s0 (c : Int) (g : LA) (i : Nat) (d : Bool) (b : Nat) (e : Int) (a : Int) (f : LA) : St := { s := [(1, (.int .i64 c)), (5, (.own 300000 0 b)), (9, (.imm g i 12 false d)), (10, (.int .i64 e)), (11, (.int .i64 a))], h := [(300000, ⟨false, false, true, false, 1, f⟩)] }
noncomputable def cf_active_w0 (N : Nat) (F : AV → Heap → Option R) : St → Option R := loopW (cf_active_E N) [] N (cf_active_at N F [1, 1, 0, 1, 0] []) N
noncomputable def cf_active_l0 (N : Nat) (F : AV → Heap → Option R) (n : Nat) : St → Option R := loopAt (cf_active_E N) [] N (cf_active_at N F [1, 1, 0, 1, 0] []) n
theorem cf_active_q0_eq (N : Nat)  (F : AV → Heap → Option R) (c : Int) (g : LA) (i : Nat) (d : Bool) : ∀ (n : Nat) (b : Nat) (e : Int) (a : Int) (f : LA), cf_active_l0 N F n (cf_active_s0 c g i d b e a f) = (cf_active_q0 N (cf_active_r0 F) c g i d n b e a f) := by
  intro n
  induction n with
  | zero => intros; kernel_rfl
  | succ n ih =>
    intro b e a f
    have e0 := funext fun b => funext fun e => funext fun a => funext fun f => (show cf_active_l0 N F n (cf_active_s0 c g i d b e a f) = _ from ih b e a f)
    have hK : cf_active_l0 N F (n + 1) (cf_active_s0 c g i d b e a f) = (cf_active_q0B N (cf_active_r0 F) c g i d (fun b e a f => cf_active_l0 N F n (cf_active_s0 c g i d b e a f)) b e a f) := by kernel_rfl
    exact hK.trans (by rw [e0]; rfl)
theorem cf_active_eq (N : Nat) (j : LA) (d : Bool) (c : Int) (F : AV → Heap → Option R) : execF Try.prog muts (cf_active_T N) cf_active_hs N 38 [(.pagg j d), (.int .i64 c)] [] F = (cf_active N j d c (cf_active_r0 F)) := by
  have e1 := funext fun g => funext fun i => funext fun b => funext fun e => funext fun a => funext fun f => (show cf_active_w0 N F (cf_active_s0 c g i d b e a f) = _ from (loopW_eq ..).trans (cf_active_q0_eq N F c g i d N b e a f))
  have hK : execF Try.prog muts (cf_active_T N) cf_active_hs N 38 [(.pagg j d), (.int .i64 c)] [] F = (cf_activeB N (cf_active_r0 F) (fun g i b e a f => cf_active_w0 N F (cf_active_s0 c g i d b e a f)) j d c) := by kernel_rfl
  rw [cf_active_def]
  exact hK.trans (by rw [e1]; rfl)
noncomputable def cf_active_run (N : Nat) (args : List AV) (h : Heap) (k : AV → Heap → Option R) : Option R :=
  match args, h with
  | [(.pagg j d), (.int .i64 c)], [] => (cf_active N j d c (cf_active_r0 k))
  | _, _ => none
noncomputable def cf_active_Tw (N : Nat) : Tw where
  runK := cf_active_run N
  eq := by
    intro R args h k
    unfold cf_active_run
    split
    · exact (cf_active_eq ..).symm.trans ((execF_bind ..).trans (congrArg (Option.bind · _) (cf_active_eq ..)))
    · rfl
theorem cf_active_ok (N : Nat) : TwOk Try.prog 38 (cf_active_Tw N) := by
  intro args h res l t
  have hh : cf_active_run N args h (fun v l => some (v, l)) = some (res, l) := t
  unfold cf_active_run at hh
  split at hh
  · exact execF_sound (T := cf_active_T N) ⟨slices_Contains__int_int_ok N, trivial⟩ follows ((cf_active_eq ..).trans hh)
  · cases hh
noncomputable def slices_Index__int_int_v2_q0B (N : Nat)  (r0 : Option R) (a : Int) (k0 : Option R)   : Option R :=
  r0
noncomputable def slices_Index__int_int_v2_q0 (N : Nat)  (r0 : Option R) (a : Int) : Nat → Option R
  | 0 => none
  | n + 1 => (slices_Index__int_int_v2_q0B N r0 a (slices_Index__int_int_v2_q0 N r0 a n))
noncomputable def slices_Index__int_int_v2B (N : Nat) (r0 : Option R) (q0 : Option R) (a : Int) : Option R :=
  q0
noncomputable def slices_Index__int_int_v2i (N : Nat) (a : Int) (r0 : Option R) : Option R := (slices_Index__int_int_v2B N r0 (slices_Index__int_int_v2_q0 N r0 a N) a)
noncomputable def slices_Index__int_int_v2 := (shut (@slices_Index__int_int_v2i R)).1
theorem slices_Index__int_int_v2_def : @slices_Index__int_int_v2 R = @slices_Index__int_int_v2i R := (shut _).2
noncomputable def slices_Index__int_int_v2_hs : Hints := { H := (hS (hR [0,1]) (hS (hS (hR [0,1,7,8]) (hS (hN [0,1,7,8] (hS (hR [0,1,7,8,9]) (hS (hN [0,1,7,8] hL hL) (hS (hN [0,1,7,8] (hS (hR [0,1,5,7,8]) (hS (hR [0,1,5,7,8,16]) (hN [0,1,7,8] (hS (hR [4]) hL) hL))) hL) (hR [0,1,7,8])))) hL) hL)) (hS (hR [4]) hL))), nils := [], modes := [], free := [], cob := [] }
noncomputable def slices_Index__int_int_v2_T (N : Nat) : List (Nat × Tw) := []
noncomputable def slices_Index__int_int_v2_E (N : Nat) : Env := mkE 19 slices_Index__int_int_v2_hs (slices_Index__int_int_v2_T N)
noncomputable def slices_Index__int_int_v2_fin (N : Nat) (F : AV → Heap → Option R) := afinish (slices_Index__int_int_v2_E N) Try.f69 slices_Index__int_int_v2_hs.modes [] F
noncomputable def slices_Index__int_int_v2_at (N : Nat) (F : AV → Heap → Option R) := atF (slices_Index__int_int_v2_E N) [] N Try.f69 slices_Index__int_int_v2_hs (slices_Index__int_int_v2_fin N F)
noncomputable def slices_Index__int_int_v2_r0  (F : AV → Heap → Option R) : Option R := F (.int .i64 (-1)) []
noncomputable def slices_Index__int_int_v2_s0 (a : Int) : St := { s := [(0, .nsl), (1, (.int .i64 a)), (7, (.int .i64 0)), (8, (.int .i64 0))], h := [] }
noncomputable def slices_Index__int_int_v2_w0 (N : Nat) (F : AV → Heap → Option R) : St → Option R := loopW (slices_Index__int_int_v2_E N) [] N (slices_Index__int_int_v2_at N F [1, 0, 1, 0] []) N
noncomputable def slices_Index__int_int_v2_l0 (N : Nat) (F : AV → Heap → Option R) (n : Nat) : St → Option R := loopAt (slices_Index__int_int_v2_E N) [] N (slices_Index__int_int_v2_at N F [1, 0, 1, 0] []) n
theorem slices_Index__int_int_v2_q0_eq (N : Nat)  (F : AV → Heap → Option R) (a : Int) : ∀ (n : Nat) , slices_Index__int_int_v2_l0 N F n (slices_Index__int_int_v2_s0 a) = (slices_Index__int_int_v2_q0 N (slices_Index__int_int_v2_r0 F) a n) := by
  intro n
  induction n with
  | zero => intros; kernel_rfl
  | succ n ih =>
    have e0 := (show slices_Index__int_int_v2_l0 N F n (slices_Index__int_int_v2_s0 a) = _ from ih)
    have hK : slices_Index__int_int_v2_l0 N F (n + 1) (slices_Index__int_int_v2_s0 a) = (slices_Index__int_int_v2_q0B N (slices_Index__int_int_v2_r0 F) a (slices_Index__int_int_v2_l0 N F n (slices_Index__int_int_v2_s0 a))) := by kernel_rfl
    exact hK.trans (by rw [e0]; rfl)
theorem slices_Index__int_int_v2_eq (N : Nat) (a : Int) (F : AV → Heap → Option R) : execF Try.prog muts (slices_Index__int_int_v2_T N) slices_Index__int_int_v2_hs N 69 [.nsl, (.int .i64 a)] [] F = (slices_Index__int_int_v2 N a (slices_Index__int_int_v2_r0 F)) := by
  have e1 := (show slices_Index__int_int_v2_w0 N F (slices_Index__int_int_v2_s0 a) = _ from (loopW_eq ..).trans (slices_Index__int_int_v2_q0_eq N F a N))
  have hK : execF Try.prog muts (slices_Index__int_int_v2_T N) slices_Index__int_int_v2_hs N 69 [.nsl, (.int .i64 a)] [] F = (slices_Index__int_int_v2B N (slices_Index__int_int_v2_r0 F) (slices_Index__int_int_v2_w0 N F (slices_Index__int_int_v2_s0 a)) a) := by kernel_rfl
  rw [slices_Index__int_int_v2_def]
  exact hK.trans (by rw [e1]; rfl)
noncomputable def slices_Index__int_int_v2_run (N : Nat) (args : List AV) (h : Heap) (k : AV → Heap → Option R) : Option R :=
  match args, h with
  | [.nsl, (.int .i64 a)], [] => (slices_Index__int_int_v2 N a (slices_Index__int_int_v2_r0 k))
  | _, _ => none
noncomputable def slices_Index__int_int_v2_Tw (N : Nat) : Tw where
  runK := slices_Index__int_int_v2_run N
  eq := by
    intro R args h k
    unfold slices_Index__int_int_v2_run
    split
    · exact (slices_Index__int_int_v2_eq ..).symm.trans ((execF_bind ..).trans (congrArg (Option.bind · _) (slices_Index__int_int_v2_eq ..)))
    · rfl
theorem slices_Index__int_int_v2_ok (N : Nat) : TwOk Try.prog 69 (slices_Index__int_int_v2_Tw N) := by
  intro args h res b c
  have hh : slices_Index__int_int_v2_run N args h (fun v b => some (v, b)) = some (res, b) := c
  unfold slices_Index__int_int_v2_run at hh
  split at hh
  · exact execF_sound (T := slices_Index__int_int_v2_T N) trivial follows ((slices_Index__int_int_v2_eq ..).trans hh)
  · cases hh
noncomputable def slices_Contains__int_int_v2B (N : Nat) (r0 : Option R)  (a : Int) : Option R :=
  (slices_Index__int_int_v2 N a r0)
noncomputable def slices_Contains__int_int_v2i (N : Nat) (a : Int) (r0 : Option R) : Option R := (slices_Contains__int_int_v2B N r0 a)
noncomputable def slices_Contains__int_int_v2 := (shut (@slices_Contains__int_int_v2i R)).1
theorem slices_Contains__int_int_v2_def : @slices_Contains__int_int_v2 R = @slices_Contains__int_int_v2i R := (shut _).2
noncomputable def slices_Contains__int_int_v2_hs : Hints := { H := (hS (hR [0,1]) (hS (hR [4]) hL)), nils := [], modes := [], free := [], cob := [] }
noncomputable def slices_Contains__int_int_v2_T (N : Nat) : List (Nat × Tw) := [(69, slices_Index__int_int_v2_Tw N)]
noncomputable def slices_Contains__int_int_v2_E (N : Nat) : Env := mkE 9 slices_Contains__int_int_v2_hs (slices_Contains__int_int_v2_T N)
noncomputable def slices_Contains__int_int_v2_fin (N : Nat) (F : AV → Heap → Option R) := afinish (slices_Contains__int_int_v2_E N) Try.f39 slices_Contains__int_int_v2_hs.modes [] F
noncomputable def slices_Contains__int_int_v2_at (N : Nat) (F : AV → Heap → Option R) := atF (slices_Contains__int_int_v2_E N) [] N Try.f39 slices_Contains__int_int_v2_hs (slices_Contains__int_int_v2_fin N F)
noncomputable def slices_Contains__int_int_v2_r0  (F : AV → Heap → Option R) : Option R := F (.bool false) []
theorem slices_Contains__int_int_v2_eq (N : Nat) (a : Int) (F : AV → Heap → Option R) : execF Try.prog muts (slices_Contains__int_int_v2_T N) slices_Contains__int_int_v2_hs N 39 [.nsl, (.int .i64 a)] [] F = (slices_Contains__int_int_v2 N a (slices_Contains__int_int_v2_r0 F)) := by
  have hK : execF Try.prog muts (slices_Contains__int_int_v2_T N) slices_Contains__int_int_v2_hs N 39 [.nsl, (.int .i64 a)] [] F = (slices_Contains__int_int_v2B N (slices_Contains__int_int_v2_r0 F) a) := by kernel_rfl
  rw [slices_Contains__int_int_v2_def]
  exact hK
noncomputable def slices_Contains__int_int_v2_run (N : Nat) (args : List AV) (h : Heap) (k : AV → Heap → Option R) : Option R :=
  match args, h with
  | [.nsl, (.int .i64 a)], [] => (slices_Contains__int_int_v2 N a (slices_Contains__int_int_v2_r0 k))
  | _, _ => none
noncomputable def slices_Contains__int_int_v2_Tw (N : Nat) : Tw where
  runK := slices_Contains__int_int_v2_run N
  eq := by
    intro R args h k
    unfold slices_Contains__int_int_v2_run
    split
    · exact (slices_Contains__int_int_v2_eq ..).symm.trans ((execF_bind ..).trans (congrArg (Option.bind · _) (slices_Contains__int_int_v2_eq ..)))
    · rfl
theorem slices_Contains__int_int_v2_ok (N : Nat) : TwOk Try.prog 39 (slices_Contains__int_int_v2_Tw N) := by
  intro args h res b c
  have hh : slices_Contains__int_int_v2_run N args h (fun v b => some (v, b)) = some (res, b) := c
  unfold slices_Contains__int_int_v2_run at hh
  split at hh
  · exact execF_sound (T := slices_Contains__int_int_v2_T N) ⟨slices_Index__int_int_v2_ok N, trivial⟩ follows ((slices_Contains__int_int_v2_eq ..).trans hh)
  · cases hh
end Gx
