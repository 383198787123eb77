/- A part of the proof: what it holds is said at each theorem. -/
import Derived.Test.YtfoogjjibhfjgaaGxP
set_option linter.unusedVariables false
namespace Gx
open Go
section
variable {R : Type}

theorem bind_cond {α β : Type} (b : Bool) (x y : Option α) (f : α → Option β) : (cond b x y).bind f = cond b (x.bind f) (y.bind f) := by cases b <;> rfl

theorem plainly_bind {R' : Type} (P : Program) (t : TypeId) (c : List AV) (o : Bool) (k : Bool → Option R') (f : R' → Option R) : (plainly P t c o k).bind f = plainly P t c o fun o => (k o).bind f := by
  unfold plainly; simp only [bind_cond, Option.bind_none]
theorem readT_bind (P : Program) (t : TypeId) (c : List AV) (org : Bool) (k : AV → Option R) : readT P t c org k = (readT P t c org some).bind k := by
  unfold readT
  split <;> simp [Option.bind_assoc, bind_cond, Function.comp_def, plainly_bind] <;> rfl
theorem takeT_bind (P : Program) (t : TypeId) (c : List AV) (k : AV → Option R) : takeT P t c k = (takeT P t c some).bind k := by
  unfold takeT
  split <;> simp [Option.bind_assoc, bind_cond, Function.comp_def]
theorem aload_bind (P : Program) (g : Look) (t : TypeId) (p : AV) (k : AV → Option R) : aload P g t p k = (aload P g t p some).bind k := by
  unfold aload
  split
  · exact readT_bind ..
  · rw [Option.bind_assoc]
    congr 1; funext x
    rw [bind_cond, ← readT_bind, ← takeT_bind]
  · rfl
theorem aindexAddr_bind (P : Program) (t : TypeId) (x i : AV) (k : AV → Option R) : aindexAddr P t x i k = (aindexAddr P t x i some).bind k := by
  unfold aindexAddr
  split <;> simp [Option.bind_assoc, bind_cond]
theorem afieldAddr_bind (P : Program) (t : TypeId) (x : AV) (f : Nat) (k : AV → Option R) : afieldAddr P t x f k = (afieldAddr P t x f some).bind k := by
  unfold afieldAddr
  simp only [Option.bind_assoc, bind_cond]
  congr 1; funext p; congr 1; funext n; congr 1
  split <;> rfl
theorem afield_bind (P : Program) (t : TypeId) (x : AV) (f : Nat) (k : AV → Option R) : afield P t x f k = (afield P t x f some).bind k := by
  unfold afield
  rw [Option.bind_assoc]
  congr 1; funext p
  split
  · exact readT_bind ..
  · exact takeT_bind ..
  · rfl
theorem aindex_bind (P : Program) (t : TypeId) (x i : AV) (k : AV → Option R) : aindex P t x i k = (aindex P t x i some).bind k := by
  unfold aindex
  split
  · simp [bind_cond]
  · simp only [Option.bind_assoc, bind_cond, ← readT_bind]; rfl
  · simp only [Option.bind_assoc, bind_cond, ← takeT_bind]; rfl
  · rfl
theorem sliceIn_bind {α : Type} (lo hi mx : Option AV) (n : Nat) (f : Nat → Nat → α) (k : α → Option R) : (sliceIn lo hi mx n fun l h => k (f l h)) = (sliceIn lo hi mx n fun l h => some (f l h)).bind k := by
  unfold sliceIn
  simp [Option.bind_assoc, bind_cond]
theorem aslice_bind (P : Program) (g : Look) (t : TypeId) (x : AV) (lo hi mx : Option AV) (k : AV → Option R) : aslice P g t x lo hi mx k = (aslice P g t x lo hi mx some).bind k := by
  unfold aslice
  split
  · rw [bind_cond, ← sliceIn_bind]; rfl
  · rw [Option.bind_assoc]; congr 1; funext _; exact sliceIn_bind lo hi mx 0 (fun _ _ => AV.nsl) k
  · rw [Option.bind_assoc]; congr 1; funext _; rw [bind_cond, ← sliceIn_bind]; rfl
  · rw [Option.bind_assoc]; congr 1; funext _; rw [Option.bind_assoc]; congr 1; funext _; rw [bind_cond, ← sliceIn_bind]; rfl
  · rfl
theorem abin_bind (P : Program) (t : TypeId) (op : BinOp) (x y : AV) (k : AV → Option R) : abin P t op x y k = (abin P t op x y some).bind k := by
  unfold abin
  split
  · split <;> simp [bind_cond]
  · split <;> simp [bind_cond]
  · split <;> simp [bind_cond]
  · rfl

def pr (v : AV) (u : Ups) : Option (AV × Ups) := some (v, u)

theorem astore_bind (P : Program) (g : Look) (t : TypeId) (p v : AV) (k : AV → Ups → Option R) : astore P g t p v k = (astore P g t p v pr).bind fun q => k q.1 q.2 := by
  unfold astore
  split
  · simp only [Option.bind_assoc, bind_cond]
    congr 1; funext x; congr 1; funext n; congr 1; congr 1
    split <;> simp [bind_cond, pr]
  · rfl
theorem abox_bind (P : Program) (g : Look) (d : Nat) (t : TypeId) (v : AV) (k : AV → Ups → Option R) : abox P g d t v k = (abox P g d t v pr).bind fun q => k q.1 q.2 := by
  unfold abox
  split <;> simp [Option.bind_assoc, bind_cond, pr]
theorem abuildSlice_bind (P : Program) (g : Look) (d : Nat) (t : TypeId) (len : Nat) (ps : List (Nat × AV)) (k : AV → Ups → Option R) : abuildSlice P g d t len ps k = (abuildSlice P g d t len ps pr).bind fun q => k q.1 q.2 := by
  unfold abuildSlice
  split <;> simp [Option.bind_assoc, bind_cond, pr]
theorem amake_bind (P : Program) (d : Nat) (t : TypeId) (l c : AV) (k : AV → Ups → Option R) : amake P d t l c k = (amake P d t l c pr).bind fun q => k q.1 q.2 := by
  unfold amake
  split <;> simp [Option.bind_assoc, bind_cond, pr]
theorem aappend_bind (P : Program) (g : Look) (d : Nat) (t tx : TypeId) (s x : AV) (k : AV → Ups → Option R) : aappend P g d t tx s x k = (aappend P g d t tx s x pr).bind fun q => k q.1 q.2 := by
  unfold aappend elemsK
  split <;> simp [Option.bind_assoc, bind_cond, pr, plainly_bind]
theorem acopy_bind (P : Program) (g : Look) (t : TypeId) (s x : AV) (k : AV → Ups → Option R) : acopy P g t s x k = (acopy P g t s x pr).bind fun q => k q.1 q.2 := by
  unfold acopy elemsK
  split <;> simp [Option.bind_assoc, bind_cond, pr, plainly_bind]
theorem aconv_bind (P : Program) (g : Look) (d : Nat) (src dst : TypeId) (x : AV) (k : AV → Ups → Option R) : aconv P g d src dst x k = (aconv P g d src dst x pr).bind fun q => k q.1 q.2 := by
  unfold aconv
  split
  · split <;> simp [bind_cond, pr]
  · split
    · split <;> simp [pr]
    · split
      · split <;> simp [Option.bind_assoc, pr]
      · rfl
    · rfl
  · split
    · rw [bind_cond, Option.bind_assoc]; simp only [bind_cond]; rfl
    · rfl
    · rfl
  · rfl
theorem aeqFs_bind {R' : Type} {f : R' → Option R} {s1 : TypeId → List AV → List AV → (Bool → Option R') → Option R'} {s2 : TypeId → List AV → List AV → (Bool → Option R) → Option R} (hs : ∀ t x y k, (s1 t x y k).bind f = s2 t x y fun b => (k b).bind f) {x y : List AV} :
    ∀ (l : List (Nat × TypeId)) (k : Bool → Option R'), (aeqFs s1 x y l k).bind f = aeqFs s2 x y l fun b => (k b).bind f
  | [], k => rfl
  | (o, t) :: r, k => by
    rw [aeqFs, aeqFs, hs]
    congr 1; funext b
    exact aeqFs_bind hs r _
theorem aeqK_bind {R' : Type} {f : R' → Option R} (P : Program) : ∀ (d : Nat) (t : TypeId) (x y : List AV) (k : Bool → Option R'), (aeqK P d t x y k).bind f = aeqK P d t x y fun b => (k b).bind f
  | 0, t, x, y, k => rfl
  | d + 1, t, x, y, k => by
    rw [aeqK, aeqK]
    split <;> simp only [Option.bind_assoc, bind_cond, Option.bind_none]
    · congr 1; funext sz; rw [aeqFs_bind (aeqK_bind P d)]
    · congr 1; funext s; congr 1; funext sz; rw [aeqFs_bind (aeqK_bind P d)]
theorem abin2_bind (P : Program) (t : TypeId) (op : BinOp) (x y : AV) (k : AV → Option R) : abin2 P t op x y k = (abin2 P t op x y some).bind k := by
  unfold abin2
  split
  · rw [Option.bind_assoc]
    congr 1; funext s
    rw [bind_cond]
    congr 1
    split
    · rw [aeqK_bind]; rfl
    · rw [aeqK_bind]; rfl
    · rfl
  · exact abin_bind ..
theorem apick_bind (c x y : AV) (k : AV → Option R) : apick c x y k = (apick c x y some).bind k := by
  unfold apick
  split <;> first | rfl | (rw [bind_cond]; rfl)
theorem aalloc_bind (P : Program) (g : Look) (d : Nat) (t : TypeId) (k : AV → Ups → Option R) : aalloc P g d t k = (aalloc P g d t pr).bind fun q => k q.1 q.2 := by
  unfold aalloc
  split
  · rw [Option.bind_assoc]; rfl
  · exact abox_bind ..
  · rfl
theorem tcall_eq : ∀ (T : List (Nat × Tw)) (f : Nat) (args : List AV) (h : Heap) (k : AV → Heap → Option R), tcall T f args h k = (tcall T f args h fun v h' => some (v, h')).bind fun p => k p.1 p.2
  | [], f, args, h, k => rfl
  | (g, t) :: r, f, args, h, k => by
    rw [tcall, tcall]
    cases Nat.beq g f
    · exact tcall_eq r f args h k
    · exact t.eq args h k
theorem acall_bind (E : Env) (g : Look) (d f : Nat) (args : List AV) (k : AV → Ups → Option R) : acall E g d f args k = (acall E g d f args pr).bind fun q => k q.1 q.2 := by
  unfold acall
  rw [Option.bind_assoc]
  congr 1; funext q
  simp only [bind_cond, Option.bind_none]
  congr 1
  rw [tcall_eq, tcall_eq (R := AV × Ups), Option.bind_assoc]
  congr 1; funext p
  simp only [bind_cond, Option.bind_none, pr, Option.bind_some]
theorem aval_bind (E : Env) (g : Look) (d : Nat) (v : Operand → AV) (o : Op) (k : AV → Ups → Option R) : aval E g d v o k = (aval E g d v o pr).bind fun q => k q.1 q.2 := by
  unfold aval
  split
  · rfl
  · rfl
  · rw [apick_bind, apick_bind (k := fun r => pr r []), Option.bind_assoc]; rfl
  · exact aalloc_bind ..
  · exact abox_bind ..
  · rw [Option.bind_assoc]; rfl
  · exact abuildSlice_bind ..
  · rw [aload_bind, aload_bind (k := fun r => pr r []), Option.bind_assoc]; rfl
  · exact astore_bind ..
  · split <;> rfl
  · rw [abin2_bind, abin2_bind (k := fun r => pr r []), Option.bind_assoc]; rfl
  · rw [Option.bind_assoc]; rfl
  · exact aconv_bind ..
  · rfl
  · exact amake_bind ..
  · rw [aslice_bind, aslice_bind (k := fun r => pr r []), Option.bind_assoc]; rfl
  · rw [afieldAddr_bind, afieldAddr_bind (k := fun r => pr r []), Option.bind_assoc]; rfl
  · rw [afield_bind, afield_bind (k := fun r => pr r []), Option.bind_assoc]; rfl
  · rw [aindexAddr_bind, aindexAddr_bind (k := fun r => pr r []), Option.bind_assoc]; rfl
  · rw [aindex_bind, aindex_bind (k := fun r => pr r []), Option.bind_assoc]; rfl
  · split
    · rw [Option.bind_assoc]; rfl
    · rfl
  · split
    · split
      · rw [Option.bind_assoc]; rfl
      · rfl
    · split
      · exact aappend_bind ..
      · rfl
    · split
      · exact acopy_bind ..
      · rfl
    · split
      · rw [bind_cond, ← acall_bind]; rfl
      · rfl
    · rfl
  · rfl
end
end Gx
