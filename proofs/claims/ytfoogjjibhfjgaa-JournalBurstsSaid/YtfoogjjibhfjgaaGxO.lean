/- A part of the proof: what it holds is said at each theorem. -/
import Derived.Test.YtfoogjjibhfjgaaGxN
set_option linter.unusedVariables false
namespace Gx
open Go

/-- Where a function's activation began: its heap, its places, what never changes, and the world. -/
structure Start where
  J : Bool → Nat → Prop
  β : Beta
  h : Heap
  w : World

structure Inv (Z : Start) (nt : Nat) (J : Bool → Nat → Prop) (β : Beta) (st : St) (a : Act) (w : World) : Prop where
  sim : SimH J β st.h w
  ss : SimS J β st.h w st.s a.tmps
  tmps : a.tmps.size = nt
  defers : a.defers = []
  os : w.os = Z.w.os
  tape : w.tape = Z.w.tape
  output : w.output = Z.w.output
  size : Z.w.heap.size ≤ w.heap.size
  frame : ∀ k, k < Z.w.heap.size → ¬ Mut Z.β Z.h k → w.heap[k]? = Z.w.heap[k]?
  wr : ∀ k, Mut β st.h k → k < Z.w.heap.size → Mut Z.β Z.h k
  jsub : ∀ o k, Z.J o k → J o k
  jup : ∀ o k, J o k → Z.J o k ∨ Mut Z.β Z.h k ∨ Z.w.heap.size ≤ k
  sizes : ∀ k, blkSize Z.w k ≤ blkSize w k
  zlt : ∀ b x0, hget Z.h b = some x0 → b < 200000
  zge : ∀ b x0, hget Z.h b = some x0 → 100000 ≤ b
  outs : ∀ b x0 x, hget Z.h b = some x0 → hget st.h b = some x → x.dead = false → β b = Z.β b ∧ x.sz = x0.sz ∧ x.cells.length = x0.cells.length ∧ x0.dead = false

section
variable {R : Type} {r : R} {Z : Start} {nt : Nat} {J J' : Bool → Nat → Prop} {β β' : Beta} {st : St} {h' : Heap} {a : Act} {w w' : World} {ops : Array Oper} {o : Oper}

theorem sget_putS {s : Slots} {d : Option Nat} {v : AV} {i : Nat} : sget (putS nt s d v) i = if d = some i ∧ i < nt then v else sget s i := by
  unfold putS
  cases d with
  | none => simp
  | some d =>
    simp only [Option.some.injEq]
    cases hb : Nat.blt d nt with
    | true =>
      have hlt : d < nt := by simpa using hb
      simp only [cond_true]
      rw [sget_sput]
      by_cases e : i = d
      · subst e; simp [hlt]
      · rw [if_neg e, if_neg (fun hh => e hh.1.symm)]
    | false =>
      have hlt : ¬ d < nt := by intro hl; rw [show Nat.blt d nt = true by simpa using hl] at hb; cases hb
      simp only [cond_false]
      rw [if_neg (fun hh => by obtain ⟨h1, h2⟩ := hh; subst h1; exact hlt h2)]

theorem SimS.put {h : Heap} {s : Slots} {d : Option Nat} {v : AV} {vc : Value} (H : SimS J β h w s a.tmps) (hn : a.tmps.size = nt) (hv : Rep J β h w v vc) : SimS J β h w (putS nt s d v) (a.put d vc).tmps := by
  refine ⟨fun i u hu => ?_, fun i hi => ?_⟩
  · rw [sget_putS]
    cases d with
    | none => simp; exact H.slot i u hu
    | some d =>
      simp only [Act.put] at hu
      rw [Array.getElem?_setIfInBounds] at hu
      by_cases e : d = i
      · subst e
        simp only [if_true] at hu
        by_cases hlt : d < a.tmps.size
        · simp [hlt] at hu; subst hu
          rw [if_pos ⟨rfl, by omega⟩]; exact hv
        · simp [hlt] at hu
      · rw [if_neg e] at hu
        rw [if_neg (fun hh => e (by simpa using hh.1))]
        exact H.slot i u hu
  · have hs : (a.put d vc).tmps.size = a.tmps.size := by cases d <;> simp [Act.put]
    rw [hs] at hi
    rw [sget_putS, if_neg (by omega)]
    exact H.out i hi

theorem SimS.ext {h : Heap} {s : Slots} {t : Array Value} (E : Ext J β h w J' β' h' w') (H : SimS J β h w s t) : SimS J' β' h' w' s t :=
  ⟨fun i v hv => Rep.ext E (H.slot i v hv), H.out⟩

theorem Step.sizes {h : Heap} (A : Step J β h w J' β' h' w') (hs : ∀ k, blkSize w k ≤ blkSize w' k) : ∀ k, blkSize w k ≤ blkSize w' k := hs

/-- One step of the heap and of the world. -/
theorem Inv.step (I : Inv Z nt J β st a w) (A : Step J β st.h w J' β' h' w') (hnew : ∀ b x, hget h' b = some x → hget st.h b = none → newBase ≤ b) : Inv Z nt J' β' { s := st.s, h := h' } a w' where
  sim := A.sim
  ss := I.ss.ext A.ext
  tmps := I.tmps
  defers := I.defers
  os := A.os.trans I.os
  tape := A.tape.trans I.tape
  output := A.output.trans I.output
  size := Nat.le_trans I.size A.size
  frame k hk hm := (A.frame k (Nat.lt_of_lt_of_le hk I.size) (fun hm' => hm (I.wr k hm' hk))).trans (I.frame k hk hm)
  wr k hm hk := I.wr k (A.wr k hm (Nat.lt_of_lt_of_le hk I.size)) hk
  jsub o k hj := A.ext.jsub o k (I.jsub o k hj)
  jup o k hj := by
    rcases A.jup o k hj with h1 | h1 | h1
    · exact I.jup o k h1
    · by_cases hk : k < Z.w.heap.size
      · exact .inr (.inl (I.wr k h1 hk))
      · exact .inr (.inr (by omega))
    · exact .inr (.inr (Nat.le_trans I.size h1))
  sizes k := by
    refine Nat.le_trans (I.sizes k) ?_
    by_cases hm : ∃ b o, β b = some (k, o)
    · obtain ⟨b, o, hb⟩ := hm; exact A.ext.size b k o hb
    · by_cases hk : k < w.heap.size
      · have := A.frame k hk (fun ⟨b, x, o, _, _, _, hb⟩ => hm ⟨b, o, hb⟩)
        simp [blkSize, this]
      · simp [blkSize, Array.getElem?_eq_none (Nat.le_of_not_lt hk)]
  outs b x0 x h0 hx hd := by
    cases hb : hget st.h b with
    | none => have := hnew b x hx hb; have := I.zlt b x0 h0; unfold newBase at *; omega
    | some y =>
      obtain ⟨x', g1, g2⟩ := A.ext.blk b y hb
      change hget h' b = some x at hx
      rw [hx] at g1; simp at g1; subst g1
      rcases g2 with g2 | ⟨g2, g3, g4, g5⟩
      · simp [hd] at g2
      · obtain ⟨e1, e2, e3, e4⟩ := I.outs b x0 y h0 hb g2
        exact ⟨g3.trans e1, g4.trans e2, g5.trans e3, e4⟩
  zlt := I.zlt
  zge := I.zge

theorem Inv.put (I : Inv Z nt J β st a w) {d : Option Nat} {v : AV} {vc : Value} (hv : Rep J β st.h w v vc) : Inv Z nt J β { s := putS nt st.s d v, h := st.h } (a.put d vc) w where
  sim := I.sim
  ss := I.ss.put I.tmps hv
  tmps := by cases d <;> simp [Act.put, I.tmps]
  defers := by cases d <;> simp [Act.put, I.defers]
  os := I.os
  tape := I.tape
  output := I.output
  size := I.size
  frame := I.frame
  wr := I.wr
  jsub := I.jsub
  jup := I.jup
  sizes := I.sizes
  zlt := I.zlt
  zge := I.zge
  outs := I.outs

theorem upsOk_at {d : Nat} {F : List Nat} {h : Heap} : ∀ {ups : Ups}, upsOk d F h ups = true → ∀ b, inUps ups b = true → (isNew d b = true ∧ hget h b = none) ∨ (isNew d b = false ∧ memN F b = true ∧ ∃ x, hget h b = some x)
  | [], _, b, hb => by simp [inUps] at hb
  | (i, _) :: r, hu, b, hb => by
    rw [upsOk] at hu
    simp at hu
    rw [inUps] at hb
    cases hi : Nat.beq i b with
    | true =>
      have : i = b := Nat.eq_of_beq_eq_true hi
      subst this
      cases hn : isNew d i with
      | true => rw [hn] at hu; simp at hu; exact .inl ⟨rfl, hu.1⟩
      | false =>
        rw [hn] at hu; simp at hu
        obtain ⟨⟨h1, h2⟩, _⟩ := hu
        exact .inr ⟨rfl, h1, Option.isSome_iff_exists.1 h2⟩
    | false => rw [hi] at hb; exact upsOk_at hu.2 b (by simpa using hb)

theorem isNew_le {d b : Nat} (hn : isNew d b = true) : newBase ≤ b := by
  unfold isNew nid at hn
  simp at hn
  unfold newBase; omega

theorem applyUps_new {d : Nat} {F : List Nat} {h : Heap} {ups : Ups} (hu : upsOk d F h ups = true) {b : Nat} {x : Blk} (hx : hget (applyUps ups h) b = some x) (hn : hget h b = none) : newBase ≤ b := by
  cases hi : inUps ups b with
  | false => rw [applyUps_other _ _ _ hi, hn] at hx; cases hx
  | true =>
    rcases upsOk_at hu b hi with ⟨h1, _⟩ | ⟨_, _, y, hy⟩
    · exact isNew_le h1
    · rw [hn] at hy; cases hy

theorem looks_mask {h : Heap} {F : List Nat} : Looks (fun b => cond (memN F b) (hget h b) none) h := fun b x hb => by
  cases hm : memN F b with
  | true => simpa [hm] using hb
  | false => simp [hm] at hb

theorem awanted_sound {h : Heap} {s : Slots} (H : SimS J β h w s a.tmps) {t : Bool} (hw : awanted ops s o = some t) : Region.wanted o (yielded ops a.tmps) = t := by
  unfold awanted at hw
  unfold Region.wanted
  split at hw
  · rename_i hg; rw [hg]; simpa using hw
  · rename_i j want hg
    rw [hg]
    simp only
    unfold yielded
    split at hw
    · rename_i t' ht
      rw [ht]
      simp only [Option.bind_some]
      cases hv : a.tmps[t']? with
      | none =>
        have := H.out t' (by simpa using hv)
        rw [this] at hw; simp at hw
      | some v =>
        have hr := H.slot t' v hv
        split at hw
        · rename_i b hb
          rw [hb, Rep] at hr; subst hr
          simp at hw; subst hw
          simp
        · rename_i hb
          rw [hb, Rep] at hr
          obtain ⟨cs, rfl, hc⟩ := hr
          rw [Reps] at hc; subst hc
          simp at hw; subst hw
          simp
        · simp at hw
    · rename_i ht
      rw [ht]
      simp at hw; subst hw
      simp

theorem aone_sound {E : Env} (hC : CallOk E) (I : Inv Z E.nt J β st a w) {k : St → Foot → Option R} (hh : aone E ops o st k = some r) {K : Act → World → Prop} {Q : Exit → Act → World → Prop} :
    ∃ st' f, k st' f = some r ∧ ((∀ a' w' J' β', Inv Z E.nt J' β' st' a' w' → K a' w') → if Region.wanted o (yielded ops a.tmps) then o.wp E.P a w K Q else K (a.put o.dst undef) w) := by
  unfold aone at hh
  obtain ⟨t, ht, h1⟩ := ub hh
  rw [awanted_sound I.ss ht]
  cases t with
  | false =>
    refine ⟨_, _, h1, fun hK => ?_⟩
    simp only [Bool.false_eq_true, if_false]
    exact hK _ _ J β (I.put (by rw [Rep]; exact ⟨[], rfl, by rw [Reps]⟩))
  | true =>
    rw [cond_true] at h1
    obtain ⟨val, ups, h2, h3⟩ := aval_sound (o := o) (next := K) (Q := Q) hC I.sim I.ss looks_mask h1
    obtain ⟨hu, h4⟩ := uc h2
    refine ⟨_, _, h4, fun hK => ?_⟩
    simp only [if_true]
    refine h3 (fun b hb hn => ?_) (fun vc w' hd => ?_)
    · rcases upsOk_at hu b hb with ⟨_, g⟩ | ⟨g, _⟩
      · exact g
      · rw [hn] at g; cases g
    · obtain ⟨J', β', A, hv⟩ := hd
      exact hK _ _ J' β' ((I.step A (fun b x hx hn => applyUps_new hu hx hn)).put hv)

/-- Two states that read alike. -/
def Eqv (a b : St) : Prop := (∀ t, sget a.s t = sget b.s t) ∧ (∀ b', hget a.h b' = hget b.h b')
theorem Eqv.refl (a : St) : Eqv a a := ⟨fun _ => rfl, fun _ => rfl⟩
theorem Eqv.symm {a b : St} (h : Eqv a b) : Eqv b a := ⟨fun t => (h.1 t).symm, fun t => (h.2 t).symm⟩
theorem Eqv.trans {a b c : St} (h : Eqv a b) (k : Eqv b c) : Eqv a c := ⟨fun t => (h.1 t).trans (k.1 t), fun t => (h.2 t).trans (k.2 t)⟩

theorem Inv.eqv {nt : Nat} {J : Bool → Nat → Prop} {β : Beta} {st st2 : St} {a : Act} {w : World} (I : Inv Z nt J β st a w) (h : Eqv st st2) : Inv Z nt J β st2 a w := by
  have hr : ∀ {x v}, Rep J β st.h w x v → Rep J β st2.h w x v := fun hx => Rep.ext ⟨fun _ _ hj => hj, fun _ _ _ => rfl, fun b x hb => ⟨x, by rw [← h.2 b]; exact hb, by cases hd : x.dead <;> simp⟩, fun _ _ _ _ => Nat.le_refl _⟩ hx
  refine ⟨⟨I.sim.jlt, I.sim.jft, fun b x hb hd => ?_, fun b b' x x' k o o' hb hb' => I.sim.sep b b' x x' k o o' (by rw [h.2]; exact hb) (by rw [h.2]; exact hb')⟩, ⟨fun i v hv => by rw [← h.1 i]; exact hr (I.ss.slot i v hv), fun i hi => by rw [← h.1 i]; exact I.ss.out i hi⟩, I.tmps, I.defers, I.os, I.tape, I.output, I.size, I.frame, ?_, I.jsub, I.jup, I.sizes, I.zlt, I.zge, fun b x0 x h0 hx => I.outs b x0 x h0 (by rw [h.2]; exact hx)⟩
  · rcases I.sim.blk b x (by rw [h.2]; exact hb) hd with h1 | ⟨k, o, cs, ty, fr, h1, h2, h3, h4, h5, h6⟩
    · exact .inl h1
    · exact .inr ⟨k, o, cs, ty, fr, h1, h2, h3, h4, ⟨h5.1, fun hp j c hj => by
        obtain ⟨u, g1, g2, g3⟩ := h5.2 hp j c hj
        exact ⟨u, g1, hr g2, g3⟩⟩, h6⟩
  · rintro k ⟨b, x, o, hb, hd, hs, hβ⟩ hk
    exact I.wr k ⟨b, x, o, by rw [h.2]; exact hb, hd, hs, hβ⟩ hk

theorem settle_eqv {st : St} {k : St → Option R} (hh : settle ops o st k = some r) : ∃ st', Eqv st st' ∧ k st' = some r := by
  unfold settle at hh
  split at hh
  · exact ⟨st, Eqv.refl _, hh⟩
  · rename_i j want hg
    split at hh
    · exact ⟨st, Eqv.refl _, hh⟩
    · rename_i t ht
      split at hh
      · rename_i b hb
        have key : ∀ c : Bool, b = c → Eqv st { s := sput st.s t (.bool c), h := st.h } := by
          intro c hc
          refine ⟨fun i => ?_, fun _ => rfl⟩
          simp only
          rw [sget_sput]
          by_cases e : i = t
          · subst e; rw [if_pos rfl, hb, hc]
          · rw [if_neg e]
        cases hw : (b == want) with
        | true =>
          rw [hw] at hh
          exact ⟨_, key want (by simpa using hw), hh⟩
        | false =>
          rw [hw] at hh
          exact ⟨_, key (!want) (by cases b <;> cases want <;> simp_all), hh⟩
      · exact ⟨st, Eqv.refl _, hh⟩

/-- A region whose order is that of the text. -/
theorem aops_sound {E : Env} (hC : CallOk E) {Q : Exit → Act → World → Prop} : ∀ (l : List Oper) {st : St} {tr : List Foot} {k : St → List Foot → Option R} {a : Act} {w : World} {J : Bool → Nat → Prop} {β : Beta},
    Inv Z E.nt J β st a w → aops E ops l st tr k = some r → (∀ st' tr' a' w' J' β', Inv Z E.nt J' β' st' a' w' → k st' tr' = some r → Q .normal a' w') → wpList E.P ops Q l a w
  | [], st, tr, k, a, w, J, β, I, hh, hQ => hQ st tr a w J β I hh
  | o :: l, st, tr, k, a, w, J, β, I, hh, hQ => by
    rw [aops] at hh
    obtain ⟨st1, he, hh⟩ := settle_eqv hh
    obtain ⟨st', f, h1, h2⟩ := aone_sound (K := wpList E.P ops Q l) (Q := Q) hC (I.eqv he) hh
    have := h2 (fun a' w' J' β' I' => aops_sound hC l I' h1 hQ)
    rw [wpList]
    split
    · rename_i hw; rw [if_pos hw] at this; exact .inl this
    · rename_i hw; rw [if_neg hw] at this; exact this
end
end Gx
