/- A part of the proof: what it holds is said at each theorem. -/
import Derived.Test.YtfoogjjibhfjgaaGxW
set_option linter.unusedVariables false
namespace Gx
open Go
section
variable {R : Type} {r : R} {Z : Start} {E : Env}

theorem acode_sound (hC : CallOk E) (hm : E.P.follows .mixedOrders = true) {roots : List Nat} {N : Nat} : ∀ (c : Code) {H : Hint} {kn : St → Option R} {kx : Nat → St → Option R} {kr : St → Option R} {st : St} {a : Act} {w : World} {J : Bool → Nat → Prop} {β : Beta} {Q : Exit → Act → World → Prop},
    Inv Z E.nt J β st a w → acode E roots N c H kn kx kr st = some r →
    (∀ st' a' w' J' β', Inv Z E.nt J' β' st' a' w' → kn st' = some r → Q .normal a' w') →
    (∀ id st' a' w' J' β', Inv Z E.nt J' β' st' a' w' → kx id st' = some r → Q (.exit id) a' w') →
    (∀ st' a' w' J' β', Inv Z E.nt J' β' st' a' w' → kr st' = some r → Q .ret a' w') → c.wp E.P Q a w := by
  intro c
  induction c with
  | skip => intro H kn kx kr st a w J β Q I hh hn hx hr; exact wp_skip (hn _ _ _ _ _ I hh)
  | region id ops draw => intro H kn kx kr st a w J β Q I hh hn hx hr; exact aregion_sound hC hm I hh hn
  | seq x y ihx ihy =>
    intro H kn kx kr st a w J β Q I hh hn hx hr
    rw [acode, wall_eq] at hh
    refine wp_seq (ihx I hh (fun st' a' w' J' β' I' h' => ?_) (fun id st' a' w' J' β' I' h' => hx id st' a' w' J' β' I' h') (fun st' a' w' J' β' I' h' => hr st' a' w' J' β' I' h'))
    exact ihy I' h' hn hx hr
  | cond c x y ihx ihy =>
    intro H kn kx kr st a w J β Q I hh hn hx hr
    rw [acode] at hh
    split at hh
    · rename_i t ht
      have h1 := rep_ev I.ss c
      rw [ht, Rep] at h1
      refine wp_cond h1 ?_
      have hn' : ∀ st' a' w' J' β', Inv Z E.nt J' β' st' a' w' → (canon E H.live roots st').bind kn = some r → Q .normal a' w' := by
        intro st' a' w' J' β' I' h'
        obtain ⟨s2, h2, h3⟩ := ub h'
        obtain ⟨β2, I2⟩ := canon_sound I' h2
        exact hn _ _ _ _ _ I2 h3
      cases t with
      | true => exact ihx I hh hn' hx hr
      | false => exact ihy I hh hn' hx hr
    · simp at hh
  | block id c ih =>
    intro H kn kx kr st a w J β Q I hh hn hx hr
    rw [acode] at hh
    have hn' : ∀ st' a' w' J' β', Inv Z E.nt J' β' st' a' w' → (canon E H.live roots st').bind kn = some r → Q .normal a' w' := by
      intro st' a' w' J' β' I' h'
      obtain ⟨s2, h2, h3⟩ := ub h'
      obtain ⟨β2, I2⟩ := canon_sound I' h2
      exact hn _ _ _ _ _ I2 h3
    refine wp_block (ih I hh (fun st' a' w' J' β' I' h' => hn' _ _ _ _ _ I' h') (fun j st' a' w' J' β' I' h' => ?_) (fun st' a' w' J' β' I' h' => hr _ _ _ _ _ I' h'))
    cases hj : Nat.beq j id with
    | true =>
      rw [hj] at h'
      have := Nat.eq_of_beq_eq_true hj
      subst this
      simp only [Exit.inBlock, if_true]
      exact hn' _ _ _ _ _ I' h'
    | false =>
      rw [hj] at h'
      simp only [Exit.inBlock]
      rw [if_neg (beqF' hj)]
      exact hx _ _ _ _ _ _ I' h'
  | loop c ih =>
    intro H kn kx kr st a w J β Q I hh hn hx hr
    rw [acode, wall_eq] at hh
    refine wp_loop_rounds N ?_
    have key : ∀ (n : Nat) {st : St} {a : Act} {w : World} {J : Bool → Nat → Prop} {β : Beta}, Inv Z E.nt J β st a w → aloop (canon E H.live roots) (fun k st => acode E roots N c H.a k kx kr st) n st = some r → Code.rounds E.P c Q n a w := by
      intro n
      induction n with
      | zero => intro st a w J β I h'; simp [aloop] at h'
      | succ n ihn =>
        intro st a w J β I h'
        rw [aloop] at h'
        rw [rounds_succ]
        refine ih I h' (fun st' a' w' J' β' I' h'' => ?_) (fun id st' a' w' J' β' I' h'' => hx _ _ _ _ _ _ I' h'') (fun st' a' w' J' β' I' h'' => hr _ _ _ _ _ I' h'')
        obtain ⟨s2, h2, h3⟩ := ub h''
        obtain ⟨β2, I2⟩ := canon_sound I' h2
        exact ihn I2 h3
    obtain ⟨s2, h2, h3⟩ := ub hh
    obtain ⟨β2, I2⟩ := canon_sound I h2
    exact key N I2 h3
  | exit id => intro H kn kx kr st a w J β Q I hh hn hx hr; exact wp_exit (hx _ _ _ _ _ _ I hh)
  | ret => intro H kn kx kr st a w J β Q I hh hn hx hr; exact wp_ret (hr _ _ _ _ _ I hh)
  | rangeFunc => intro H kn kx kr st a w J β Q I hh; simp [acode] at hh
  | scope => intro H kn kx kr st a w J β Q I hh; simp [acode] at hh
  | label => intro H kn kx kr st a w J β Q I hh; simp [acode] at hh
  | goto => intro H kn kx kr st a w J β Q I hh; simp [acode] at hh
  | refuse => intro H kn kx kr st a w J β Q I hh; simp [acode] at hh
end
end Gx
