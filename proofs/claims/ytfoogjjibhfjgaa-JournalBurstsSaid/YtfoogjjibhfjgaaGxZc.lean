/- A part of the proof: what it holds is said at each theorem. -/
import Derived.Test.YtfoogjjibhfjgaaGxZb
set_option linter.unusedVariables false
namespace Gx
open Go
section
variable {R R' : Type}

theorem aone_bind2 (E : Env) (ops : Array Oper) (o : Oper) (st : St) (k : St → Foot → Option R) (g : R → Option R') : (aone E ops o st k).bind g = aone E ops o st fun st f => (k st f).bind g := by
  rw [aone_core, aone_core, Option.bind_assoc]
theorem settle_bind2 (ops : Array Oper) (o : Oper) (st : St) (k : St → Option R) (g : R → Option R') : (settle ops o st k).bind g = settle ops o st fun st => (k st).bind g := by
  unfold settle
  split
  · rfl
  · split
    · rfl
    · split
      · rw [bind_cond]
      · rfl
theorem aops_bind2 (E : Env) (ops : Array Oper) (g : R → Option R') : ∀ (l : List Oper) (st : St) (tr : List Foot) (k : St → List Foot → Option R), (aops E ops l st tr k).bind g = aops E ops l st tr fun st tr => (k st tr).bind g
  | [], st, tr, k => rfl
  | o :: r, st, tr, k => by
    rw [aops, aops, settle_bind2]
    congr 1; funext st
    rw [aone_bind2]
    congr 1; funext st f
    exact aops_bind2 E ops g r st (f :: tr) k
theorem aregion_bind2 (E : Env) (K roots : List Nat) (ops : Array Oper) (draw : Bool) (st : St) (k : St → Option R) (g : R → Option R') : (aregion E K roots ops draw st k).bind g = aregion E K roots ops draw st fun st => (k st).bind g := by
  unfold aregion
  rw [aops_bind2]
  congr 1; funext st tr
  rw [bind_cond, Option.bind_assoc]; rfl
theorem aloop_bind2 (cn : St → Option St) (b1 : (St → Option R) → St → Option R) (b2 : (St → Option R') → St → Option R') (g : R → Option R') (hb : ∀ k st, (b1 k st).bind g = b2 (fun st => (k st).bind g) st) : ∀ n st, (aloop cn b1 n st).bind g = aloop cn b2 n st
  | 0, st => rfl
  | n + 1, st => by
    rw [aloop, aloop, hb]
    congr 1; funext st
    rw [Option.bind_assoc]
    congr 1; funext st
    exact aloop_bind2 cn b1 b2 g hb n st
theorem acode_bind2 (E : Env) (roots : List Nat) (N : Nat) (g : R → Option R') : ∀ (c : Code) (H : Hint) (k : St → Option R) (x : Nat → St → Option R) (r : St → Option R) (st : St),
    (acode E roots N c H k x r st).bind g = acode E roots N c H (fun st => (k st).bind g) (fun j st => (x j st).bind g) (fun st => (r st).bind g) st := by
  intro c
  induction c with
  | skip => intro H k x r st; rfl
  | region id ops draw => intro H k x r st; exact aregion_bind2 ..
  | seq a b iha ihb =>
    intro H k x r st
    rw [acode, acode, wall_eq, wall_eq, iha]
    congr 1; funext st
    exact ihb ..
  | cond c a b iha ihb =>
    intro H k x r st
    rw [acode, acode]
    split
    · rw [bind_cond, iha, ihb]
      simp only [Option.bind_assoc]
    · rfl
  | block id c ih =>
    intro H k x r st
    rw [acode, acode, ih]
    simp only [Option.bind_assoc, bind_cond]
  | loop c ih =>
    intro H k x r st
    rw [acode, acode, Option.bind_assoc, wall_eq, wall_eq]
    congr 1; funext st
    exact aloop_bind2 _ _ _ g (fun k st => ih ..) N st
  | exit id => intro H k x r st; rfl
  | ret => intro H k x r st; rfl
  | rangeFunc => intro H k x r st; rfl
  | scope => intro H k x r st; rfl
  | label => intro H k x r st; rfl
  | goto => intro H k x r st; rfl
  | refuse => intro H k x r st; rfl

theorem aresult_bind2 (E : Env) (st : St) (g : R → Option R') : ∀ (l : List ResultVar) (acc : List AV) (k : List AV → Option R), (aresult E st l acc k).bind g = aresult E st l acc fun l => (k l).bind g
  | [], acc, k => rfl
  | .tmp t :: r, acc, k => by rw [aresult, aresult]; exact aresult_bind2 E st g r _ k
  | .cell a t :: r, acc, k => by
    rw [aresult, aresult, aload_bind, aload_bind (R := R'), Option.bind_assoc]
    congr 1; funext v
    exact aresult_bind2 E st g r _ k
theorem afinish_bind2 (E : Env) (fn : Func) (modes : List (Nat × Nat)) (outs : List Nat) (k : AV → Heap → Option R) (g : R → Option R') (st : St) : (afinish E fn modes outs k st).bind g = afinish E fn modes outs (fun v h => (k v h).bind g) st := by
  unfold afinish
  rw [aresult_bind2]
  congr 1; funext l
  rw [Option.bind_assoc]
  congr 1; funext q
  rw [bind_cond]; rfl
theorem execF_bind (P : Program) (muts : Nat → List Bool) (T : List (Nat × Tw)) (hs : Hints) (N f : Nat) (args : List AV) (h : Heap) (k : AV → Heap → Option R) :
    execF P muts T hs N f args h k = (execF P muts T hs N f args h fun v h => some (v, h)).bind fun p => k p.1 p.2 := by
  unfold execF
  split
  · rfl
  · split
    · rfl
    · simp only
      rw [bind_cond, acode_bind2]
      simp only [afinish_bind2]
      rfl

/-- A place in the code, and what follows there. -/
structure Cut (R : Type) where
  c : Code
  H : Hint
  k : St → Option R
  x : Nat → St → Option R
  r : St → Option R

noncomputable def atC (E : Env) (roots : List Nat) (N : Nat) : List Nat → Code → Hint → (St → Option R) → (Nat → St → Option R) → (St → Option R) → List (St → Option R) → Cut R
  | [], c, H, k, x, r, _ => ⟨c, H, k, x, r⟩
  | d :: p, .seq a b, H, k, x, r, ks => cond (Nat.beq d 0) (atC E roots N p a H.a (wall H.isJoin fun st => acode E roots N b H.b k x r st) x r ks) (atC E roots N p b H.b k x r ks)
  | d :: p, .cond _ a b, H, k, x, r, ks => cond (Nat.beq d 0) (atC E roots N p a H.a (fun st => (canon E H.live roots st).bind k) x r ks) (atC E roots N p b H.b (fun st => (canon E H.live roots st).bind k) x r ks)
  | _ :: p, .block id c, H, k, x, r, ks => atC E roots N p c H.a (fun st => (canon E H.live roots st).bind k) (fun j st => cond (Nat.beq j id) ((canon E H.live roots st).bind k) (x j st)) r ks
  | _ :: p, .loop c, H, _, x, r, q :: ks => atC E roots N p c H.a (fun st => (canon E H.live roots st).bind q) x r ks
  | _ :: _, c, H, k, x, r, _ => ⟨c, H, k, x, r⟩
def loopBody : Code → Code
  | .loop c => c
  | c => c
noncomputable def joinIn (E : Env) (roots : List Nat) (N : Nat) (q : Cut R) (st : St) : Option R := acode E roots N q.c q.H q.k q.x q.r st
noncomputable def joinAt (E : Env) (roots : List Nat) (N : Nat) (q : Cut R) (st : St) : Option R := wall true (fun st => acode E roots N q.c q.H q.k q.x q.r st) st
theorem joinAt_eq (E : Env) (roots : List Nat) (N : Nat) (q : Cut R) (st : St) : joinAt E roots N q st = joinIn E roots N q st := by unfold joinAt; rw [wall_eq]; rfl
noncomputable def loopAt (E : Env) (roots : List Nat) (N : Nat) (q : Cut R) (n : Nat) (st : St) : Option R := aloop (canon E q.H.live roots) (fun k st => acode E roots N (loopBody q.c) q.H.a k q.x q.r st) n st
noncomputable def loopW (E : Env) (roots : List Nat) (N : Nat) (q : Cut R) (n : Nat) (st : St) : Option R := wall true (aloop (canon E q.H.live roots) (fun k st => acode E roots N (loopBody q.c) q.H.a k q.x q.r st) n) st
theorem loopW_eq (E : Env) (roots : List Nat) (N : Nat) (q : Cut R) (n : Nat) (st : St) : loopW E roots N q n st = loopAt E roots N q n st := by unfold loopW; rw [wall_eq]; rfl
def bodyOf (fn : Func) : Code := match fn.body with | some c => c | none => .skip
def lookB : List (Nat × List Bool) → Nat → List Bool
  | [], _ => []
  | (i, l) :: r, f => cond (Nat.beq i f) l (lookB r f)
end

theorem twOk_of {P : Program} {f : Nat} {t : Tw} (h : ∀ args h res h', (t.runK args h fun v h' => some (v, h')) = some (res, h') → FOk P f args h res h') : TwOk P f t := h
end Gx
