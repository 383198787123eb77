/- A part of the proof: what it holds is said by each theorem. -/
import Derived.Test.YtlkhmflligkbkaaGreatProg
import Derived.Test.YtlkhmflligkbkaaGreatP0
set_option linter.unusedVariables false
namespace Gx
open Go
theorem Iz:∀ {l:List Nat} {b:Nat},Hc l b=true↔b ∈ l
  | [],b=>by simp [Hc]
  | i::r,b=>by
    rw [Hc]
    cases hi:Nat.beq i b with
    | true=>have:=Nat.eq_of_beq_eq_true hi;subst this;simp
    | false => have := Wg hi; simp only [cond_false, List.mem_cons]; rw [Iz]; constructor
               · exact fun h=>.inr h
               · rintro (h | h)
                 · exact absurd h.symm this
                 · exact h
theorem Ri:∀ {l:List Nat},Anp l=true→l.Nodup
  | [],_=>List.nodup_nil
  | i::r,h=>by
    rw [Anp] at h;simp at h
    refine List.nodup_cons.2 ⟨fun hm=>?_,Ri h.2⟩
    rw [Iz.2 hm] at h;simp at h
theorem A31 {g:Bg} {ids:List Nat}:∀ {l:List Nat},Bbd g ids l=true→∀ b ∈ l,∀ x,G9 g b=some x→b ∈ ids
  | [],_,b,hb,_,_=>by simp at hb
  | i::r,h,b,hb,x,hx=>by
    rw [Bbd] at h;simp at h
    rcases List.mem_cons.1 hb with e | hb
    · subst e
      rcases h.1 with h1 | h1
      · exact Iz.1 h1
      · rw [hx] at h1;simp at h1
    · exact A31 h.2 b hb x hx
theorem Bm2:∀ {l:List Nat},Bqy l=true→∀ b ∈ l,Fr≤b→Iy b<100000
  | [],_,b,hb,_=>by simp at hb
  | i::r,h,b,hb,hn=>by
    rw [Bqy] at h;simp at h
    rcases List.mem_cons.1 hb with e | hb
    · subst e
      have:Nat.ble Fr b=true:=by simpa using hn
      rw [this] at h;simpa using h.1
    · exact Bm2 h.2 b hb hn
theorem Zj (g:Bg):∀ c:List AV,(Ia g c).length=c.length
  | []=>rfl
  | x::r=>by rw [Ia,List.length_cons,List.length_cons,Zj g r]
section
variable {R:Type} {r:R} {Z:Start} {nt:Nat} {J J':Bool→Nat→Prop} {β β':B9} {st:St} {h h':Ak} {a:Act} {w w':World} {ids:List Nat}
def Mk (g:Bg) (x:Blk):Blk:={ x with cells:=cond x.pure x.cells (Ia g x.cells) }
theorem Awm {g:Bg}:∀ {ids:List Nat},(ids.map Iy).Nodup→∀ c y,Am (Zf g ids) c=some y→∃ b x,b ∈ ids∧Iy b=c∧G9 g b=some x∧y=Mk g x
  | [],_,c,y,hc=>by simp [Zf,Am] at hc
  | b::r,hn,c,y,hc=>by
    rw [List.map_cons,List.nodup_cons] at hn
    rw [Zf] at hc
    split at hc
    · rename_i x hx
      rw [Ae] at hc
      by_cases e:c=Iy b
      · rw [if_pos e] at hc;simp at hc
        exact ⟨b,x,by simp,e.symm,hx,hc.symm⟩
      · rw [if_neg e] at hc
        obtain ⟨b',x',h1,h2,h3,h4⟩:=Awm hn.2 c y hc
        exact ⟨b',x',by simp [h1],h2,h3,h4⟩
    · obtain ⟨b',x',h1,h2,h3,h4⟩:=Awm hn.2 c y hc
      exact ⟨b',x',by simp [h1],h2,h3,h4⟩
theorem Zk {g:Bg}:∀ {ids:List Nat},(ids.map Iy).Nodup→∀ b x,b ∈ ids→G9 g b=some x→Am (Zf g ids) (Iy b)=some (Mk g x)
  | [],_,b,x,hb,_=>by simp at hb
  | b'::r,hn,b,x,hb,hx=>by
    rw [List.map_cons,List.nodup_cons] at hn
    rw [Zf]
    by_cases e:b=b'
    · subst e
      rw [hx]
      simp only
      rw [Ae,if_pos rfl];rfl
    · have hm:b ∈ r:=by simpa [e] using hb
      have ne:Iy b≠Iy b':=fun h=>hn.1 (by rw [← h];exact List.mem_map.2 ⟨b,hm,rfl⟩)
      split
      · rw [Ae,if_neg ne];exact Zk hn.2 b x hm hx
      · exact Zk hn.2 b x hm hx
def Bbr (ids:List Nat) (c:Nat):Option Nat:=ids.find? fun b=>Nat.beq (Iy b) c
theorem Jc (hn:(ids.map Iy).Nodup) {b:Nat} (hb:b ∈ ids):Bbr ids (Iy b)=some b:=by
  induction ids with
  | nil=>simp at hb
  | cons i r ih =>
    rw [List.map_cons,List.nodup_cons] at hn
    unfold Bbr at ih ⊢
    rw [List.find?_cons]
    by_cases e:b=i
    · subst e;simp
    · have hm:b ∈ r:=by simpa [e] using hb
      have ne:Iy i≠Iy b:=fun h=>hn.1 (by rw [h];exact List.mem_map.2 ⟨b,hm,rfl⟩)
      rw [At6 ne];exact ih hn.2 hm
def Bvd (g:Bg) (ids:List Nat) (l:List Nat):Prop:=∀ b ∈ l,∀ x,G9 g b=some x→b ∈ ids
theorem Brz {b:Nat}:G9 (Am h) b=(Am h b).bind fun x=>cond x.dead none (some x):=rfl
theorem Awn {b:Nat} {x y:Blk} (hx:Am h b=some x) (hv:G9 (Am h) b=some y):y=x∧x.dead=false:=by
  rw [Brz,hx] at hv
  cases hd:x.dead with
  | true=>simp [hd] at hv
  | false=>simp [hd] at hv;exact ⟨hv.symm,rfl⟩
mutual
theorem Rep.clean (hn:(ids.map Iy).Nodup):∀ {x:AV} {v:Value},Bvd (Am h) ids (Fd x)→Rep J β h w x v →
    Rep J (fun c=>(Bbr ids c).bind β) (Zf (Am h) ids) w (Ze (Am h) x) v
  | .own b off n,v,hm,hr=>by
    rw [Rep] at hr
    obtain ⟨x,A,cap,⟨hx,hmp⟩,h1,h2,h3⟩:=hr
    rw [Ze]
    cases hv:G9 (Am h) b with
    | none=>simp only;rw [Rep];trivial
    | some y =>
      obtain ⟨rfl,hd⟩:=Awn hx hv
      have hb:=hm b (by simp [Fd]) _ hv
      simp only
      rw [Rep]
      refine ⟨Mk (Am h) y,A,cap,⟨Zk hn b y hb hv,hmp⟩,h1,h2,?_⟩
      rcases h3 with h3 | ⟨k,o,h4,h5⟩
      · exact .inl h3
      · refine .inr ⟨k,o,h4,?_⟩
        rcases h5 with h5 | ⟨h5,h6,h7⟩
        · simp [hd] at h5
        · refine .inr ⟨by rw [Jc hn hb];exact h5,h6,?_⟩
          have:(Mk (Am h) y).cells.length=y.cells.length:=by
            unfold Mk;cases y.pure
            · simp;exact Zj _ _
            · rfl
          rw [this];exact h7
  | .optr b off,v,hm,hr=>by
    rw [Rep] at hr
    obtain ⟨x,k,o,⟨hx,hmp⟩,h1,h2⟩:=hr
    rw [Ze]
    cases hv:G9 (Am h) b with
    | none=>simp only;rw [Rep];trivial
    | some y =>
      obtain ⟨rfl,hd⟩:=Awn hx hv
      have hb:=hm b (by simp [Fd]) _ hv
      simp only
      rw [Rep]
      refine ⟨Mk (Am h) y,k,o,⟨Zk hn b y hb hv,hmp⟩,h1,?_⟩
      rcases h2 with h2 | h2
      · simp [hd] at h2
      · exact .inr (by rw [Jc hn hb];exact h2)
  | .omap b,v,hm,hr=>by
    rw [Rep] at hr
    obtain ⟨x,k,⟨hx,hmp⟩,h1,h2⟩:=hr
    rw [Ze]
    cases hv:G9 (Am h) b with
    | none=>simp only;rw [Rep];trivial
    | some y =>
      obtain ⟨rfl,hd⟩:=Awn hx hv
      have hb:=hm b (by simp [Fd]) _ hv
      simp only
      rw [Rep]
      refine ⟨Mk (Am h) y,k,⟨Zk hn b y hb hv,hmp⟩,h1,?_⟩
      rcases h2 with h2 | h2
      · simp [hd] at h2
      · exact .inr (by rw [Jc hn hb];exact h2)
  | .agg c,v,hm,hr=>by
    rw [Rep] at hr
    obtain ⟨cs,h1,h2⟩:=hr
    rw [Ze,Rep]
    exact ⟨cs,h1,Reps.clean hn (by simpa [Fd] using hm) h2⟩
  | .tup c,v,hm,hr=>by
    rw [Rep] at hr
    obtain ⟨cs,h1,h2⟩:=hr
    rw [Ze,Rep]
    exact ⟨cs,h1,Reps.clean hn (by simpa [Fd] using hm) h2⟩
  | .fn f c,v,hm,hr=>by
    rw [Rep] at hr
    obtain ⟨cs,h1,h2⟩:=hr
    rw [Ze,Rep]
    exact ⟨cs,h1,Reps.clean hn (by simpa [Fd] using hm) h2⟩
  | .pagg c o,v,hm,hr=>by show Rep J _ _ w (.pagg c o) v;rw [Rep] at hr ⊢;exact hr
  | .undef,v,hm,hr=>by show Rep J _ _ w (.undef) v;rw [Rep] at hr ⊢;exact hr
  | .imm c n sz t o,v,hm,hr=>by show Rep J _ _ w (.imm c n sz t o) v;rw [Rep] at hr ⊢;exact hr
  | .iptr c o,v,hm,hr=>by show Rep J _ _ w (.iptr c o) v;rw [Rep] at hr ⊢;exact hr
  | .int k n,v,hm,hr=>by show Rep J _ _ w (.int k n) v;rw [Rep] at hr ⊢;exact hr
  | .bool b,v,hm,hr=>by show Rep J _ _ w (.bool b) v;rw [Rep] at hr ⊢;exact hr
  | .str s,v,hm,hr=>by show Rep J _ _ w (.str s) v;rw [Rep] at hr ⊢;exact hr
  | .nsl,v,hm,hr=>by show Rep J _ _ w (.nsl) v;rw [Rep] at hr ⊢;exact hr
  | .nilptr,v,hm,hr=>by show Rep J _ _ w (.nilptr) v;rw [Rep] at hr ⊢;exact hr
  | .nilfn,v,hm,hr=>by show Rep J _ _ w (.nilfn) v;rw [Rep] at hr ⊢;exact hr
theorem Reps.clean (hn:(ids.map Iy).Nodup):∀ {c:List AV} {cs:List Value},Bvd (Am h) ids (Hb c)→Reps J β h w c cs →
    Reps J (fun c=>(Bbr ids c).bind β) (Zf (Am h) ids) w (Ia (Am h) c) cs
  | [],cs,hm,hr=>by rw [Reps] at hr;rw [Ia,Reps];exact hr
  | x::r,cs,hm,hr=>by
    rw [Reps] at hr
    obtain ⟨u,us,h1,h2,h3⟩:=hr
    rw [Ia,Reps]
    exact ⟨u,us,h1,Rep.clean hn (fun b hb=>hm b (by simp [Hb,hb])) h2,Reps.clean hn (fun b hb=>hm b (by simp [Hb,hb])) h3⟩
end
theorem Abv {g:Bg} {K:List Nat}:∀ {s:Fc} {i:Nat},Ee (A3w g K s) i=if Hc K i=true then Ze g (Ee s i) else .undef
  | [],i=>by
    simp only [A3w,Ee]
    show AV.undef=if Hc K i=true then AV.undef else AV.undef
    split<;>rfl
  | (t,v)::r,i=>by
    rw [A3w,Ee]
    cases hk:Hc K t with
    | true =>
      simp only [cond_true,Ee]
      cases hi:Nat.beq t i with
      | true =>
        have:=Nat.eq_of_beq_eq_true hi;subst this
        simp [hk]
      | false=>simp only [cond_false];exact Abv
    | false =>
      simp only [cond_false]
      rw [Abv]
      cases hi:Nat.beq t i with
      | true =>
        have:=Nat.eq_of_beq_eq_true hi;subst this
        simp [hk]
      | false=>rfl
theorem Bbs {K:List Nat}:∀ {s:Fc} {i:Nat},Hc K i=true→∀ b ∈ Fd (Ee s i),b ∈ Bbc K s
  | [],i,_,b,hb=>by simp [Ee,Fd] at hb
  | (t,v)::r,i,hk,b,hb=>by
    rw [Ee] at hb
    rw [Bbc]
    cases hi:Nat.beq t i with
    | true =>
      have:=Nat.eq_of_beq_eq_true hi;subst this
      rw [hi] at hb
      rw [hk];simp at hb ⊢;exact .inl hb
    | false =>
      rw [hi] at hb
      have:=Bbs hk b hb
      cases Hc K t
      · exact this
      · simp;exact .inr this
theorem A32 {g:Bg}:∀ {ids:List Nat} {b:Nat} {x:Blk},b ∈ ids→g b=some x→x.pure=false→∀ c ∈ Hb x.cells,c ∈ Ix g ids
  | [],b,x,hb,_,_,_,_=>by simp at hb
  | i::r,b,x,hb,hx,hp,c,hc=>by
    rw [Ix]
    by_cases e:b=i
    · subst e;rw [hx];simp only [hp,cond_false];exact List.mem_append.2 (.inl hc)
    · exact List.mem_append.2 (.inr (A32 (by simpa [e] using hb) hx hp c hc))
theorem A33:∀ {c:List AV} {j:Nat} {x:AV},c[j]?=some x→∀ b ∈ Fd x,b ∈ Hb c
  | [],j,x,hj,_,_=>by simp at hj
  | y::r,j,x,hj,b,hb=>by
    rw [Hb]
    cases j with
    | zero=>simp at hj;subst hj;exact List.mem_append.2 (.inl hb)
    | succ j=>exact List.mem_append.2 (.inr (A33 (by simpa using hj) b hb))
theorem A7c {g:Bg}:∀ {c:List AV} {j:Nat} {y:AV},(Ia g c)[j]?=some y→∃ x,c[j]?=some x∧y=Ze g x
  | [],j,y,hj=>by simp [Ia] at hj
  | x::r,j,y,hj=>by
    rw [Ia] at hj
    cases j with
    | zero=>simp at hj;exact ⟨x,by simp,hj.symm⟩
    | succ j=>obtain ⟨x',h1,h2⟩:=A7c (c:=r) (j:=j) (by simpa using hj);exact ⟨x',by simpa using h1,h2⟩
theorem Br0 {b:Nat} (hb:b<Fr):Iy b=b:=by
  unfold Iy
  have:Nat.ble Fr b=false:=by
    cases h:Nat.ble Fr b with
    | false=>rfl
    | true=>have:=Nat.le_of_ble_eq_true h;omega
  rw [this];rfl
theorem Bm3 {K roots:List Nat} {st':St} (I:Inv Z nt J β st a w) (hh:clean K roots st=some st'):∃ β',Inv Z nt J β' st' a w:=by
  unfold clean at hh
  obtain ⟨hc,h1⟩:_∧_:=uc hh
  simp only [Bool.and_eq_true] at hc
  obtain ⟨c1,c2,c3,c4⟩:=hc
  generalize hids:Abs (Am st.h) (Zc (Am st.h) (Bbc K st.s++roots))=ids at *
  simp at h1
  have hn:=Ri c1
  have blk:∀ c y,Am (Zf (Am st.h) ids) c=some y→∃ b x,b ∈ ids∧Iy b=c∧Am st.h b=some x∧x.dead=false∧y=Mk (Am st.h) x:=by
    intro c y hy
    obtain ⟨b,x,g1,g2,g3,g4⟩:=Awm hn c y hy
    have hx:Am st.h b=some x∧x.dead=false:=Jb (fun _ _ h=>h) g3
    exact ⟨b,x,g1,g2,hx.1,hx.2,g4⟩
  have hlen:∀ x:Blk,(Mk (Am st.h) x).cells.length=x.cells.length:=fun x=>by
    unfold Mk;cases x.pure
    · simp;exact Zj _ _
    · rfl
  refine ⟨fun c=>(Bbr ids c).bind β,?_⟩
  subst h1
  refine ⟨⟨I.sim.jlt, I.sim.jft, fun c y hy hd hm => ?_, fun c y hy hd hm => by
      obtain ⟨b,x,hb,rfl,hx,hxd,rfl⟩:=blk c y hy
      obtain ⟨g1,g2,k,es,clk,g3,g4,g5,g6⟩:=I.sim.mblk b x hx hxd hm
      have:(Mk (Am st.h) x).cells=x.cells:=by unfold Mk;rw [g1];rfl
      exact ⟨g1,g2,k,es,clk,by simp only [Jc hn hb,Option.bind_some];exact g3,g4,by rw [this];exact g5,g6⟩,?_⟩,⟨fun i v hv=>?_,fun i hi=>?_⟩,I.tmps,I.defers,I.os,I.tape,I.output,I.size,I.frame,?_,I.jsub,I.jup,I.sizes,I.zlt,I.zge,?_⟩
  · obtain ⟨b,x,hb,rfl,hx,hxd,rfl⟩:=blk c y hy
    rcases I.sim.blk b x hx hxd hm with ⟨g1,g2⟩ | ⟨k,o,cs,ty,fr,g1,g2,g3,g4,g5,g6,g7⟩
    · refine .inl ⟨by simp only [Jc hn hb,Option.bind_some];exact g1,?_⟩
      have:=hlen x;rw [g2] at this;simpa using this
    · refine .inr ⟨k,o,cs,ty,fr,by simp only [Jc hn hb,Option.bind_some];exact g1,g2,g3,by rw [hlen];exact g4,⟨fun hp=>?_,fun hp j q hj=>?_⟩,g6,g7⟩
      · have hp':x.pure=true:=hp
        have:(Mk (Am st.h) x).cells=x.cells:=by unfold Mk;rw [hp'];rfl
        rw [this];exact g5.1 hp'
      · have hp':x.pure=false:=hp
        have:(Mk (Am st.h) x).cells=Ia (Am st.h) x.cells:=by unfold Mk;rw [hp'];rfl
        rw [this] at hj
        obtain ⟨q',hq,rfl⟩:=A7c hj
        obtain ⟨u,hu,hr,ho⟩:=g5.2 hp' j q' hq
        exact ⟨u,hu,Rep.clean hn (fun b' hb' x' hx'=>A31 c3 b' (A32 hb hx hp' b' (A33 hq b' hb')) x' hx') hr,ho⟩
  · intro c c' y y' k o o' hy hy' hd hd' hs hβ hβ'
    obtain ⟨b,x,hb,rfl,hx,hxd,rfl⟩:=blk c y hy
    obtain ⟨b',x',hb',rfl,hx',hxd',rfl⟩:=blk c' y' hy'
    simp only [Jc hn hb,Option.bind_some] at hβ
    simp only [Jc hn hb',Option.bind_some] at hβ'
    rw [I.sim.sep b b' x x' k o o' hx hx' hxd hxd' hs hβ hβ']
  · rw [Abv]
    split
    · rename_i hk
      exact Rep.clean hn (fun b hb x hx=>A31 c2 b (Bbs hk b hb) x hx) (I.ss.slot i v hv)
    · rw [Rep];trivial
  · rw [Abv,I.ss.out i hi]
    split
    · rfl
    · rfl
  · rintro k ⟨c,y,o,hy,hd,hs,hβ⟩ hk
    obtain ⟨b,x,hb,rfl,hx,hxd,rfl⟩:=blk c y hy
    simp only [Jc hn hb,Option.bind_some] at hβ
    exact I.wr k ⟨b,x,o,hx,hxd,hs,hβ⟩ hk
  · intro c x0 y h0 hy hd
    obtain ⟨b,x,hb,rfl,hx,hxd,rfl⟩:=blk c y hy
    have hlt:=I.zlt _ _ h0
    have hge:=I.zge _ _ h0
    have hbo:Iy b=b:=by
      by_cases hnb:Fr≤b
      · have:=Bm2 c4 b hb hnb;omega
      · exact Br0 (by omega)
    rw [hbo] at h0
    obtain ⟨⟨e1,em⟩,e2,e3,e4⟩:=I.outs b x0 x h0 hx hxd
    refine ⟨⟨?_,em⟩,e2,by rw [hlen];exact e3,e4⟩
    simp only [Jc hn hb,Option.bind_some];rw [hbo];exact e1
end
end Gx

namespace Gx
open Go
section
variable {R:Type}
theorem Ao {α β:Type} (b:Bool) (x y:Option α) (f:α→Option β):(cond b x y).bind f=cond b (x.bind f) (y.bind f):=by cases b<;>rfl
theorem Ah1 {R':Type} (P:Program) (t:TypeId) (c:List AV) (o:Bool) (k:Bool→Option R') (f:R'→Option R):(Wv P t c o k).bind f=Wv P t c o fun o=>(k o).bind f:=by
  unfold Wv;simp only [Ao,Option.bind_none]
theorem Rj (P:Program) (t:TypeId) (c:List AV) (org:Bool) (k:AV→Option R):Anl P t c org k=(Anl P t c org some).bind k:=by
  unfold Anl
  split<;>simp [Option.bind_assoc,Ao,Ah1]<;>rfl
theorem Bo7 (P:Program) (t:TypeId) (c:List AV) (k:AV→Option R):A63 P t c k=(A63 P t c some).bind k:=by
  unfold A63
  split<;>simp [Option.bind_assoc,Ao]
theorem A7d (n:Nat) (k:AV→Option R):∀ (c:List AV) (i:Nat),Ahq n k c i=(Ahq n some c i).bind k
  | [],_=>rfl
  | v::r,i=>by rw [Ahq,Ahq,Ao,A7d n k r (i+1)];rfl
theorem A7e (P:Program) (t:TypeId) (c:List AV) (off:Nat) (k:AV→Option R):Anm P t c off k=(Anm P t c off some).bind k:=by
  unfold Anm
  split
  · simp [Option.bind_assoc,Ao]
  · simp [Option.bind_assoc,Ao]
  · exact A7d ..
  · rfl
theorem Ah2 (P:Program) (g:Bg) (t:TypeId) (p:AV) (k:AV→Option R):Ba6 P g t p k=(Ba6 P g t p some).bind k:=by
  unfold Ba6
  split
  · exact Rj ..
  · rw [Option.bind_assoc]
    congr 1;funext x
    rw [Ao,← Rj,← A7e]
  · rfl
theorem Aml (P:Program) (t:TypeId) (x i:AV) (k:AV→Option R):Rc P t x i k=(Rc P t x i some).bind k:=by
  unfold Rc
  split<;>simp [Option.bind_assoc,Ao]
theorem Amm (P:Program) (t:TypeId) (x:AV) (f:Nat) (k:AV→Option R):Rd P t x f k=(Rd P t x f some).bind k:=by
  unfold Rd
  simp only [Option.bind_assoc,Ao]
  congr 1;funext p;congr 1;funext n;congr 1
  split<;>rfl
theorem A7f (P:Program) (t:TypeId) (x:AV) (f:Nat) (k:AV→Option R):A3o P t x f k=(A3o P t x f some).bind k:=by
  unfold A3o
  rw [Option.bind_assoc]
  congr 1;funext p
  split
  · exact Rj ..
  · exact Bo7 ..
  · rfl
theorem A7g (P:Program) (t:TypeId) (x i:AV) (k:AV→Option R):A3p P t x i k=(A3p P t x i some).bind k:=by
  unfold A3p
  split
  · simp [Ao]
  · simp only [Option.bind_assoc,Ao,← Rj];rfl
  · simp only [Option.bind_assoc,Ao,← A7e];rfl
  · rfl
theorem Wy {α:Type} (lo hi mx:Option AV) (n:Nat) (f:Nat→Nat→α) (k:α→Option R):(Ww lo hi mx n fun l h=>k (f l h))=(Ww lo hi mx n fun l h=>some (f l h)).bind k:=by
  unfold Ww
  simp [Option.bind_assoc,Ao]
theorem A7h (P:Program) (g:Bg) (t:TypeId) (x:AV) (lo hi mx:Option AV) (k:AV→Option R):A3q P g t x lo hi mx k=(A3q P g t x lo hi mx some).bind k:=by
  unfold A3q
  split
  · rw [Ao,← Wy];rfl
  · rw [Option.bind_assoc];congr 1;funext _;exact Wy lo hi mx 0 (fun _ _=>AV.nsl) k
  · rw [Option.bind_assoc];congr 1;funext _;rw [Ao,← Wy];rfl
  · rw [Option.bind_assoc];congr 1;funext _;rw [Option.bind_assoc];congr 1;funext _;rw [Ao,← Wy];rfl
  · rfl
theorem Br1 (P:Program) (t:TypeId) (op:BinOp) (x y:AV) (k:AV→Option R):Brq P t op x y k=(Brq P t op x y some).bind k:=by
  unfold Brq
  split
  · split<;>simp [Ao]
  · split<;>simp [Ao]
  · split<;>simp [Ao]
  · rfl
def pr (v:AV) (u:Ups):Option (AV×Ups):=some (v,u)
theorem Bm4 (P:Program) (g:Bg) (t:TypeId) (p v:AV) (k:AV→Ups→Option R):A3r P g t p v k=(A3r P g t p v pr).bind fun q=>k q.1 q.2:=by
  unfold A3r
  split
  · simp only [Option.bind_assoc,Ao]
    congr 1;funext x;congr 1;funext n;congr 1;congr 1
    split<;>simp [Ao,pr]
  · rfl
theorem Awo (P:Program) (c:List AV) (org:Bool):∀ (L:List (Nat×TypeId)) (acc:List AV) (k:List AV→Option R),Az2 P c org L acc k=(Az2 P c org L acc some).bind k
  | [],acc,k=>rfl
  | (off,t)::L,acc,k=>by
    rw [Az2,Az2,Ao]
    congr 1
    rw [Rj,Rj (k:=fun v=>Az2 P c org L (acc++[v]) some),Option.bind_assoc]
    congr 1;funext v
    exact Awo P c org L _ k
theorem A7i (P:Program) (co:Bool) (t:TypeId) (v:AV) (k:AV→Option R):A3t P co t v k=(A3t P co t v some).bind k:=by
  unfold A3t
  split
  · rename_i c org
    rw [Awo,Awo (k:=fun l=>cond (Nat.beq c.length l.length) (some (AV.agg l)) none),Option.bind_assoc]
    congr 1;funext l
    rw [Ao];rfl
  · rfl
theorem Bil (P:Program) (g:Bg) (d:Nat) (t:TypeId) (v:AV) (k:AV→Ups→Option R):Bml P g d t v k=(Bml P g d t v pr).bind fun q=>k q.1 q.2:=by
  unfold Bml
  split<;>simp [Option.bind_assoc,Ao,pr]
theorem A34 (P:Program) (g:Bg) (d:Nat) (t:TypeId) (len:Nat) (ps:List (Nat×AV)) (k:AV→Ups→Option R):Oe P g d t len ps k=(Oe P g d t len ps pr).bind fun q=>k q.1 q.2:=by
  unfold Oe
  split<;>simp [Option.bind_assoc,Ao,pr,Aga]
theorem A95 (P:Program) (g:Bg) (d:Nat) (t:TypeId) (len:Nat) (ps:List (Nat×AV)) (k:AV→Ups→Option R):Re P g d t len ps k=(Re P g d t len ps pr).bind fun q=>k q.1 q.2:=by
  unfold Re
  split<;>simp [Option.bind_assoc,Ao,pr]
theorem Br2 (P:Program) (t:TypeId) (co:Bool) (d:Nat) (v:AV) (k:AV→Ups→Option R):Brr P t co d v k=(Brr P t co d v pr).bind fun q=>k q.1 q.2:=by
  unfold Brr
  split<;>simp [Ao,pr]
theorem Bo8 (P:Program) (d:Nat) (t:TypeId) (l c:AV) (k:AV→Ups→Option R):Bia P d t l c k=(Bia P d t l c pr).bind fun q=>k q.1 q.2:=by
  unfold Bia
  split<;>simp [Option.bind_assoc,Ao,pr]
theorem Bk1 (P:Program) (g:Bg) (d:Nat) (t tx:TypeId) (s x:AV) (k:AV→Ups→Option R):Asc P g d t tx s x k=(Asc P g d t tx s x pr).bind fun q=>k q.1 q.2:=by
  unfold Asc Awd
  split<;>simp [Option.bind_assoc,Ao,pr,Ah1]
theorem Bo9 (P:Program) (g:Bg) (t:TypeId) (s x:AV) (k:AV→Ups→Option R):Bib P g t s x k=(Bib P g t s x pr).bind fun q=>k q.1 q.2:=by
  unfold Bib Awd
  split<;>simp [Option.bind_assoc,Ao,pr,Ah1]
theorem Bpa (P:Program) (g:Bg) (d:Nat) (src dst:TypeId) (x:AV) (k:AV→Ups→Option R):Bic P g d src dst x k=(Bic P g d src dst x pr).bind fun q=>k q.1 q.2:=by
  unfold Bic
  split
  · split<;>simp [Ao,pr]
  · split
    · split<;>simp [pr]
    · split
      · split<;>simp [Option.bind_assoc,pr]
      · rfl
    · rfl
  · split
    · rw [Ao,Option.bind_assoc];simp only [Ao];rfl
    · rfl
    · rfl
  · rfl
theorem Awp {R':Type} {f:R'→Option R} {s1:TypeId→List AV→List AV→(Bool→Option R')→Option R'} {s2:TypeId→List AV→List AV→(Bool→Option R)→Option R} (hs:∀ t x y k,(s1 t x y k).bind f=s2 t x y fun b=>(k b).bind f) {x y:List AV} :
    ∀ (l:List (Nat×TypeId)) (k:Bool→Option R'),(Af2 s1 x y l k).bind f=Af2 s2 x y l fun b=>(k b).bind f
  | [],k=>rfl
  | (o,t)::r,k=>by
    rw [Af2,Af2,hs]
    congr 1;funext b
    exact Awp hs r _
theorem Asm {R':Type} {f:R'→Option R} (P:Program):∀ (d:Nat) (t:TypeId) (x y:List AV) (k:Bool→Option R'),(A93 P d t x y k).bind f=A93 P d t x y fun b=>(k b).bind f
  | 0,t,x,y,k=>rfl
  | d+1,t,x,y,k=>by
    rw [A93,A93]
    split<;>simp only [Option.bind_assoc,Ao,Option.bind_none]
    · congr 1;funext sz;rw [Awp (Asm P d)]
    · congr 1;funext s;congr 1;funext sz;rw [Awp (Asm P d)]
theorem Bbt (P:Program) (t:TypeId) (op:BinOp) (x y:AV) (k:AV→Option R):Bh7 P t op x y k=(Bh7 P t op x y some).bind k:=by
  unfold Bh7
  split
  · rw [Option.bind_assoc]
    congr 1;funext s
    rw [Ao]
    congr 1
    split
    · rw [Asm];rfl
    · rw [Asm];rfl
    · rfl
  · exact Br1 ..
theorem Bbu (c x y:AV) (k:AV→Option R):Bif c x y k=(Bif c x y some).bind k:=by
  unfold Bif
  split<;>first | rfl | (rw [Ao];rfl)
theorem Bm5 (P:Program) (g:Bg) (co:Bool) (d:Nat) (t:TypeId) (k:AV→Ups→Option R):A3s P g co d t k=(A3s P g co d t pr).bind fun q=>k q.1 q.2:=by
  unfold A3s
  split
  · rw [Option.bind_assoc];rfl
  · exact Bil ..
  · rfl
theorem Bbv:∀ (T:List (Nat×Tw)) (f:Nat) (args:List AV) (h:Ak) (k:AV→Ak→Option R),Az3 T f args h k=(Az3 T f args h fun v h'=>some (v,h')).bind fun p=>k p.1 p.2
  | [],f,args,h,k=>rfl
  | (g,t)::r,f,args,h,k=>by
    rw [Az3,Az3]
    cases Nat.beq g f
    · exact Bbv r f args h k
    · exact t.eq args h k
theorem Bpb (E:Env) (g:Bg) (d f:Nat) (args:List AV) (k:AV→Ups→Option R):Bie E g d f args k=(Bie E g d f args pr).bind fun q=>k q.1 q.2:=by
  unfold Bie
  rw [Option.bind_assoc]
  congr 1;funext q
  simp only [Ao,Option.bind_none]
  congr 1
  rw [Bbv,Bbv (R:=AV×Ups),Option.bind_assoc]
  congr 1;funext p
  simp only [Ao,Option.bind_none,pr,Option.bind_some]
theorem Bg3 (d:Nat) (o:Option AV) (k:AV→Ups→Option R):Zb d o k=(Zb d o pr).bind fun q=>k q.1 q.2:=by
  unfold Zb
  split<;>rfl
theorem Bm6 (P:Program) (g:Bg) (t:TypeId) (m x y:AV) (k:AV→Ups→Option R):A3u P g t m x y k=(A3u P g t m x y pr).bind fun q=>k q.1 q.2:=by
  unfold A3u
  split<;>simp [Ao,Option.bind_assoc,pr]
theorem Bbw (P:Program) (g:Bg) (t:TypeId) (m x:AV) (c:Bool) (k:AV→Option R):Bid P g t m x c k=(Bid P g t m x c some).bind k:=by
  unfold Bid
  split<;>simp [Ao,Option.bind_assoc]
theorem Br3 (E:Env) (g:Bg) (d:Nat) (v:Operand→AV) (o:Op) (k:AV→Ups→Option R):Bgz E g d v o k=(Bgz E g d v o pr).bind fun q=>k q.1 q.2:=by
  unfold Bgz
  split
  · rfl
  · rfl
  · rw [Bbu,Bbu (k:=fun r=>pr r []),Option.bind_assoc];rfl
  · exact Bm5 ..
  · rw [A7i,A7i (k:=fun u=>Bml E.P g d _ u pr),Option.bind_assoc];congr 1;funext u;exact Bil ..
  · rw [Awj,Awj,Option.bind_assoc];congr 1;funext x;exact Br2 ..
  · rw [Ao,← A95,← A34]
  · rw [Ah2,Ah2 (k:=fun r=>pr r []),Option.bind_assoc];rfl
  · exact Bm4 ..
  · split<;>rfl
  · rw [Bbt,Bbt (k:=fun r=>pr r []),Option.bind_assoc];rfl
  · rw [Option.bind_assoc];rfl
  · exact Bpa ..
  · rw [Ao];rfl
  · exact Bo8 ..
  · rw [A7h,A7h (k:=fun r=>pr r []),Option.bind_assoc];rfl
  · rw [Amm,Amm (k:=fun r=>pr r []),Option.bind_assoc];rfl
  · rw [A7f,A7f (k:=fun r=>pr r []),Option.bind_assoc];rfl
  · rw [Aml,Aml (k:=fun r=>pr r []),Option.bind_assoc];rfl
  · rw [A7g,A7g (k:=fun r=>pr r []),Option.bind_assoc];rfl
  · exact Bg3 ..
  · exact Bm6 ..
  · rw [Bbw,Bbw (k:=fun r=>pr r []),Option.bind_assoc];rfl
  · split
    · rw [Option.bind_assoc];rfl
    · rfl
  · split
    · split
      · rw [Option.bind_assoc];rfl
      · rfl
    · split
      · exact Bk1 ..
      · rfl
    · split
      · exact Bo9 ..
      · rfl
    · split
      · rw [Option.bind_assoc];rfl
      · simp only [Option.bind_assoc];rfl
      · rfl
    · split
      · rw [Option.bind_assoc];rfl
      · simp only [Option.bind_assoc];rfl
      · rfl
    · split
      · rw [Ao,← Bpb];rfl
      · rfl
    · rfl
  · rfl
end
end Gx

namespace Gx
open Go
theorem Agc:∀ {l acc:List Nat} {b:Nat},b ∈ Bba l acc↔b ∈ l∨b ∈ acc
  | [],acc,b=>by simp [Bba]
  | i::r,acc,b=>by
    rw [Bba]
    cases hm:Hc acc i with
    | true =>
      simp only [cond_true]
      rw [Agc]
      have:=Iz.1 hm
      constructor
      · rintro (h | h)
        · exact .inl (by simp [h])
        · exact .inr h
      · rintro (h | h)
        · rcases List.mem_cons.1 h with e | h
          · subst e;exact .inr this
          · exact .inl h
        · exact .inr h
    | false =>
      simp only [cond_false]
      rw [Agc]
      simp only [List.mem_cons]
      constructor
      · rintro (h | h | h)
        · exact .inl (.inr h)
        · exact .inl (.inl h)
        · exact .inr h
      · rintro ((h | h) | h)
        · exact .inr (.inl h)
        · exact .inl h
        · exact .inr (.inr h)
theorem Abw {g g':Bg}:∀ {l:List Nat},(∀ b ∈ l,g' b=g b)→Ix g' l=Ix g l
  | [],_=>rfl
  | i::r,h=>by
    rw [Ix,Ix,h i (by simp),Abw (fun b hb=>h b (by simp [hb]))]
theorem A0e {g:Bg}:∀ {a b:List Nat},Ix g (a++b)=Ix g a++Ix g b
  | [],b=>rfl
  | i::r,b=>by rw [List.cons_append,Ix,Ix,A0e,List.append_assoc]
theorem Bm7 {g g':Bg} {ids:List Nat} (h:∀ b ∈ Zc g ids,g' b=g b):Zc g' ids=Zc g ids:=by
  have h1:∀ b ∈ ids,g' b=g b:=fun b hb=>h b (Agc.2 (.inl (List.mem_append.2 (.inl hb))))
  have e1:Ix g' ids=Ix g ids:=Abw h1
  have h2:∀ b ∈ Ix g ids,g' b=g b:=fun b hb=>h b (Agc.2 (.inl (List.mem_append.2 (.inr (by rw [A0e];exact List.mem_append.2 (.inl hb))))))
  unfold Zc
  rw [e1,Abw (l:=ids++Ix g ids) (fun b hb=>by
    rcases List.mem_append.1 hb with hb | hb
    · exact h1 b hb
    · exact h2 b hb)]
section
variable {R:Type} {E:Env} {ops:Array Oper} {o p:Oper} {st st1 st2:St}
theorem A7j {v v':Operand→AV} {parts:Array (Nat×Operand)} (h:∀ q ∈ parts.toList,v' q.2=v q.2):(parts.toList.map fun q=>(q.1,v' q.2))=(parts.toList.map fun q=>(q.1,v q.2)) :=
  List.map_congr_left (fun q hq=>by rw [h q hq])
theorem Bpc {g:Bg} {d:Nat} {v v':Operand→AV} {op:Op} {k:AV→Ups→Option R} (h:∀ x ∈ op.operands.toList,v' x=v x):Bgz E g d v' op k=Bgz E g d v op k:=by
  unfold Bgz
  cases op
  case build t parts =>
    simp only
    rw [A7j (v:=v) (v':=v') (fun q hq=>h q.2 (by simp [Op.operands];exact ⟨q.1,by simpa using hq⟩))]
  case buildSlice t n parts =>
    simp only
    rw [A7j (v:=v) (v':=v') (fun q hq=>h q.2 (by simp [Op.operands];exact ⟨q.1,by simpa using hq⟩))]
  case slice t x lo hi mx =>
    simp only
    have h1:v' x=v x:=h x (by simp [Op.operands])
    have h2:lo.map v'=lo.map v:=by
      cases lo with
      | none=>rfl
      | some y=>simp;exact h y (by simp [Op.operands])
    have h3:hi.map v'=hi.map v:=by
      cases hi with
      | none=>rfl
      | some y=>simp;exact h y (by simp [Op.operands])
    have h4:mx.map v'=mx.map v:=by
      cases mx with
      | none=>rfl
      | some y=>simp;exact h y (by simp [Op.operands])
    rw [h1,h2,h3,h4]
  case makeMap t rr =>
    simp only
    have h1:rr.map v'=rr.map v:=by
      cases rr with
      | none=>rfl
      | some y=>simp;exact h y (by simp [Op.operands])
    rw [h1]
  case makeFunc f first caps =>
    cases f<;>try rfl
    simp only
    have:(first.toList++caps.toList).map v'=(first.toList++caps.toList).map v:=List.map_congr_left (fun x hx=>h x (by simp [Op.operands];simpa using hx))
    rw [this]
  case call c =>
    have ha:∀ x ∈ c.args.toList,v' x=v x:=fun x hx=>h x (by
      simp only [Op.operands,Call.operands,Array.toList_append]
      exact List.mem_append.2 (.inr hx))
    have hm:c.args.toList.map v'=c.args.toList.map v:=List.map_congr_left ha
    simp only
    cases hc:c.callee with
    | value f =>
      have hf:v' f=v f:=h f (by simp [Op.operands,Call.operands,hc])
      simp only [hf,hm]
    | invoke a b=>rfl
    | builtin b =>
      cases b<;>try rfl
      all_goals
        simp only
        split
        · first
            | (rename_i h1 h2
               simp only [h1,List.mem_cons,List.not_mem_nil,or_false,forall_eq_or_imp,forall_eq] at ha
               simp only [ha])
            | (rename_i h1
               simp only [h1,List.mem_cons,List.not_mem_nil,or_false,forall_eq_or_imp,forall_eq] at ha
               simp only [ha])
        all_goals first
          | rfl
          | (rename_i h1
             simp only [h1,List.mem_cons,List.not_mem_nil,or_false,forall_eq_or_imp,forall_eq] at ha
             simp only [ha])
  all_goals first
    | rfl
    | (simp [Op.operands] at h;simp [h])
end
end Gx

namespace Gx
open Go
section
variable {R:Type} {E:Env} {ops:Array Oper} {o p:Oper} {st st1 st2 st3:St}
def Bq4 (ops:Array Oper) (o:Oper):List Nat:=match Asd ops o with | some p=>[p.1] | none=>[]
def Aeo (o:Oper) (s:Fc):List AV:=o.op.operands.toList.map (ev s)
def Bk2 (h:Ak) (F:List Nat):Bg:=fun b=>cond (Hc F b) (Am h b) none
def dOf (o:Oper):Nat:=o.dst.getD 50000
def Ra (E:Env) (ops:Array Oper) (o:Oper) (st:St):Option (AV×Ups×Foot) :=
  (Aht ops st.s o).bind fun wanted=>cond wanted
    ((Bgz E (Bk2 st.h (Vs st.h o.op (Aeo o st.s))) (dOf o) (ev st.s) o.op pr).bind fun q =>
      cond (Auh (dOf o) (Vs st.h o.op (Aeo o st.s)) st.h q.2) (some (q.1,q.2,{ r:=Bq4 ops o++Awf o.op.operands.toList,w:=o.dst,f:=Vs st.h o.op (Aeo o st.s),u:=q.2.map (·.1) })) none)
    (some (.tup [],[],{ r:=Bq4 ops o,w:=o.dst,f:=[],u:=[] }))
def after (E:Env) (o:Oper) (st:St) (q:AV×Ups×Foot):St:={ s:=Box E.nt st.s o.dst q.1,h:=Ai q.2.1 st.h }
theorem Asn (k:St→Foot→Option R):Bmo E ops o st k=(Ra E ops o st).bind fun q=>k (after E o st q) q.2.2:=by
  unfold Bmo Ra
  rw [Option.bind_assoc]
  congr 1;funext t
  rw [Ao]
  congr 1
  rw [Br3,Option.bind_assoc]
  congr 1;funext q
  rw [Ao]
  rfl
theorem Bbx:∀ {l:List Operand} {t:Nat},Operand.tmp t ∈ l→t ∈ Awf l
  | [],t,h=>by simp at h
  | x::r,t,h=>by
    rcases List.mem_cons.1 h with e | h'
    · subst e;simp [Awf]
    · have ih:=Bbx h'
      cases x<;>simp [Awf]<;>first | exact .inr ih | exact ih
theorem A7k {d:Nat} {F:List Nat} {h h2:Ak}:∀ {ups:Ups},(∀ b ∈ ups.map (·.1),Am h2 b=Am h b)→Auh d F h2 ups=Auh d F h ups
  | [],_=>rfl
  | (b,_)::r,hh=>by rw [Auh,Auh,hh b (by simp),A7k (fun c hc=>hh c (by simp at hc ⊢;exact .inr hc))]
theorem Auo {s s2:Fc} (h:∀ t ∈ Bq4 ops o,Ee s2 t=Ee s t):Aht ops s2 o=Aht ops s o:=by
  unfold Aht
  cases hg:o.guard with
  | none=>rfl
  | some q =>
    obtain ⟨j,want⟩:=q
    simp only
    cases ht:(ops[j]?).bind (·.dst) with
    | none=>rfl
    | some t =>
      have:Ee s2 t=Ee s t:=h t (by simp [Bq4,Asd,hg,ht])
      simp only [this]
theorem Anz {q:AV×Ups×Foot} (hc:Ra E ops o st=some q) (hr:∀ t ∈ q.2.2.r,Ee st2.s t=Ee st.s t) (hf:∀ b,b ∈ q.2.2.f∨b ∈ q.2.2.u→Am st2.h b=Am st.h b):Ra E ops o st2=some q:=by
  have hc0:=hc
  unfold Ra at hc
  obtain ⟨t,ht,h1⟩:=ub hc
  cases t with
  | false =>
    simp at h1;subst h1
    unfold Ra
    rw [Auo (s:=st.s) hr,ht];rfl
  | true =>
    rw [cond_true] at h1
    obtain ⟨x,hx,h2⟩:=ub h1
    obtain ⟨hu,h3⟩:=uc h2
    simp at h3;subst h3
    simp only at hr hf
    have hv:∀ y ∈ o.op.operands.toList,ev st2.s y=ev st.s y:=fun y hy=>by
      cases y with
      | tmp t=>exact hr t (List.mem_append.2 (.inr (Bbx hy)))
      | const _=>rfl
      | global _=>rfl
      | func _=>rfl
    have hvals:Aeo o st2.s=Aeo o st.s:=List.map_congr_left hv
    have hF:Vs st2.h o.op (Aeo o st.s)=Vs st.h o.op (Aeo o st.s):=by
      unfold Vs at hf ⊢
      cases hlk:Bqx o.op with
      | true=>rw [hlk] at hf;exact Bm7 (fun b hb=>hf b (.inl hb))
      | false=>rfl
    have hm:Bk2 st2.h (Vs st.h o.op (Aeo o st.s))=Bk2 st.h (Vs st.h o.op (Aeo o st.s)):=by
      funext b
      unfold Bk2
      cases hb:Hc (Vs st.h o.op (Aeo o st.s)) b with
      | false=>rfl
      | true=>simp only [cond_true];exact hf b (.inl (Iz.1 hb))
    unfold Ra
    rw [Auo (s:=st.s) (fun t ht=>hr t (List.mem_append.2 (.inl ht))),ht]
    simp only [Option.bind_some,cond_true]
    rw [hvals,hF,hm,Bpc hv,hx]
    simp only [Option.bind_some]
    rw [A7k (h:=st.h) (fun b hb=>hf b (.inr hb)),hu]
    rfl
theorem Aso:∀ {ups:Ups} {b:Nat},A1 ups b=true↔b ∈ ups.map (·.1)
  | [],b=>by simp [A1]
  | (i,_)::r,b=>by
    rw [A1]
    cases hi:Nat.beq i b with
    | true=>have:=Nat.eq_of_beq_eq_true hi;subst this;simp
    | false =>
      have ne:=Wg hi
      simp only [cond_false]
      rw [Aso]
      simp only [List.map_cons,List.mem_cons]
      constructor
      · exact fun h=>.inr h
      · rintro (h | h)
        · exact absurd h.symm ne
        · exact h
theorem Bq5 {q:AV×Ups×Foot} (hc:Ra E ops o st=some q):q.2.2.w=o.dst∧q.2.2.u=q.2.1.map (·.1):=by
  unfold Ra at hc
  obtain ⟨t,ht,h1⟩:=ub hc
  cases t with
  | false=>simp at h1;subst h1;simp
  | true =>
    rw [cond_true] at h1
    obtain ⟨x,hx,h2⟩:=ub h1
    obtain ⟨hu,h3⟩:=uc h2
    simp at h3;subst h3;simp
theorem Ff:∀ (ups:Ups) {h h2:Ak},(∀ b,Am h2 b=Am h b)→∀ b,Am (Ai ups h2) b=Am (Ai ups h) b
  | [],_,_,hh,b=>hh b
  | (i,some x)::r,h,h2,hh,b=>Ff r (fun c=>by rw [Ae,Ae,hh c]) b
  | (i,none)::r,h,h2,hh,b=>by
    rw [Ai,Ai]
    refine Ff r (fun c=>?_) b
    rw [hh i]
    split
    · rw [Ae,Ae,hh c]
    · exact hh c
theorem Bm8 {q:AV×Ups×Foot} (h:Eqv st st2):Eqv (after E o st q) (after E o st2 q):=by
  refine ⟨fun t=>?_,fun b=>?_⟩
  · unfold after;simp only;rw [Le,Le,h.1 t]
  · exact (Ff q.2.1 (fun b=>(h.2 b).symm) b).symm
theorem O1 {i:Nat} {y:Blk}:∀ (ups:Ups) {h:Ak},A1 ups i=false→∀ b,Am (Ai ups (Ei h i y)) b=if b=i then some y else Am (Ai ups h) b
  | [],h,_,b=>Ae h i y b
  | (j,some x)::r,h,hi,b=>by
    rw [A1] at hi
    cases hj:Nat.beq j i with
    | true=>rw [hj] at hi;simp at hi
    | false =>
      rw [hj] at hi
      have ne:=Wg hj
      rw [Ai,Ai,Ff r (h:=Ei (Ei h j x) i y) (fun c=>by
        rw [Ae,Ae,Ae,Ae]
        by_cases e1:c=j
        · subst e1;simp [ne]
        · simp [e1]) b]
      exact O1 r hi b
  | (j,none)::r,h,hi,b=>by
    rw [A1] at hi
    cases hj:Nat.beq j i with
    | true=>rw [hj] at hi;simp at hi
    | false =>
      rw [hj] at hi
      have ne:=Wg hj
      rw [Ai,Ai,Ae,if_neg ne]
      split
      · rename_i x hx
        rw [Ff r (h:=Ei (Ei h j { x with dead:=true,pure:=true,cells:=[] }) i y) (fun c=>by
          rw [Ae,Ae,Ae,Ae]
          by_cases e1:c=j
          · subst e1;simp [ne]
          · simp [e1]) b]
        exact O1 r hi b
      · exact O1 r hi b
theorem Tf:∀ (u1 u2:Ups) (h:Ak),(∀ b,A1 u1 b=true→A1 u2 b=false)→∀ b,Am (Ai u2 (Ai u1 h)) b=Am (Ai u1 (Ai u2 h)) b
  | [],u2,h,_,b=>rfl
  | (i,some x)::r,u2,h,hd,b=>by
    rw [Ai,Ai]
    have hi:A1 u2 i=false:=hd i (by simp [A1])
    rw [Tf r u2 (Ei h i x) (fun c hc=>hd c (by rw [A1,hc];cases Nat.beq i c<;>rfl)) b]
    refine Ff r (fun c=>?_) b
    rw [O1 u2 hi,Ae]
  | (i,none)::r,u2,h,hd,b=>by
    rw [Ai,Ai]
    have hi:A1 u2 i=false:=hd i (by simp [A1])
    rw [Cb u2 h i hi]
    split
    · rename_i x hx
      rw [Tf r u2 _ (fun c hc=>hd c (by rw [A1,hc];cases Nat.beq i c<;>rfl)) b]
      refine Ff r (fun c=>?_) b
      rw [O1 u2 hi,Ae]
    · exact Tf r u2 h (fun c hc=>hd c (by rw [A1,hc];cases Nat.beq i c<;>rfl)) b
theorem Bby:∀ {a l:List Nat},Bmn a l=true→∀ b ∈ a,b ∉ l
  | [],l,_,b,hb=>by simp at hb
  | i::r,l,h,b,hb=>by
    rw [Bmn] at h;simp at h
    rcases List.mem_cons.1 hb with e | hb
    · subst e;intro hm;rw [Iz.2 hm] at h;simp at h
    · exact Bby h.2 b hb
theorem Bbz {q:AV×Ups×Foot} {t:Nat} (h:o.dst≠some t):Ee (after E o st q).s t=Ee st.s t:=by
  unfold after;simp only;rw [Le,if_neg (fun hh=>h hh.1)]
theorem Bb0 {q:AV×Ups×Foot} {b:Nat} (h:b ∉ q.2.1.map (·.1)):Am (after E o st q).h b=Am st.h b:=by
  unfold after;simp only
  rw [Cb]
  cases hi:A1 q.2.1 b with
  | false=>rfl
  | true=>exact absurd (Aso.1 hi) h
theorem Bim {w:Option Nat} {l:List Nat} (h:wIn w l=false):∀ t ∈ l,w≠some t:=by
  intro t ht e
  subst e
  rw [wIn,Iz.2 ht] at h;cases h
theorem Bws {q1 q2:AV×Ups×Foot} (h1:Ra E ops p st=some q1) (h2:Ra E ops o (after E p st q1)=some q2) (hi:A65 q1.2.2 q2.2.2=true) :
    Ra E ops o st=some q2∧Ra E ops p (after E o st q2)=some q1∧Eqv (after E p (after E o st q2) q1) (after E o (after E p st q1) q2):=by
  unfold A65 at hi
  simp only [Bool.and_eq_true,Bool.not_eq_true'] at hi
  obtain ⟨⟨⟨⟨i1,i2⟩,i3⟩,i4⟩,i5⟩:=hi
  obtain ⟨w1,u1⟩:=Bq5 h1
  obtain ⟨w2,u2⟩:=Bq5 h2
  have d1:=Bby i4
  have d2:=Bby i5
  have a1:Ra E ops o st=some q2:=Anz h2 (fun t ht=>(Bbz (by rw [← w1];exact Bim i1 t ht)).symm) (fun b hb=>(Bb0 (fun hm=>by
    rw [← u1] at hm
    exact d1 b hm (by rcases hb with hb | hb<;>simp [hb]))).symm)
  have a2:Ra E ops p (after E o st q2)=some q1:=Anz h1 (fun t ht=>Bbz (by rw [← w2];exact Bim i2 t ht)) (fun b hb=>Bb0 (fun hm=>by
    rw [← u2] at hm
    rcases hb with hb | hb
    · exact d2 b hm hb
    · exact d1 b hb (by simp [hm])))
  refine ⟨a1,a2,fun t=>?_,fun b=>?_⟩
  · unfold after;simp only
    rw [Le,Le,Le,Le]
    by_cases e1:p.dst=some t∧t<E.nt
    · by_cases e2:o.dst=some t∧t<E.nt
      · exfalso
        rw [w1,w2,e1.1,e2.1] at i3
        simp at i3
      · rw [if_pos e1,if_neg e2,if_pos e1]
    · by_cases e2:o.dst=some t∧t<E.nt
      · rw [if_neg e1,if_pos e2,if_pos e2]
      · rw [if_neg e1,if_neg e2,if_neg e2,if_neg e1]
  · unfold after;simp only
    refine (Tf q1.2.1 q2.2.1 st.h (fun c hc=>?_) b).symm
    cases hx:A1 q2.2.1 c with
    | false=>rfl
    | true =>
      have m1:c ∈ q1.2.2.u:=by rw [u1];exact Aso.1 hc
      have m2:c ∈ q2.2.2.u:=by rw [u2];exact Aso.1 hx
      exact absurd (by simp [m2]) (d1 c m1)
def RunF (E:Env) (ops:Array Oper) (fp:Nat→Foot):List (Nat×Oper)→St→St→Prop
  | [],st,e=>Eqv st e
  | (i,o)::r,st,e=>∃ q,Ra E ops o st=some q∧q.2.2=fp i∧RunF E ops fp r (after E o st q) e
theorem RunF.congr {fp:Nat→Foot}:∀ {l:List (Nat×Oper)} {st st2 e:St},RunF E ops fp l st e→Eqv st st2→RunF E ops fp l st2 e
  | [],st,st2,e,h,he=>he.symm.trans h
  | (i,o)::r,st,st2,e,h,he=>by
    rw [RunF] at h ⊢
    obtain ⟨q,h1,h2,h3⟩:=h
    exact ⟨q,Anz h1 (fun t _=>(he.1 t).symm) (fun b _=>(he.2 b).symm),h2,RunF.congr h3 (Bm8 he)⟩
theorem RunF.pull {fp:Nat→Foot} {i:Nat} {o:Oper} {B:List (Nat×Oper)}:∀ {A:List (Nat×Oper)} {st e:St},RunF E ops fp (A++(i,o)::B) st e→(∀ jp ∈ A,A65 (fp jp.1) (fp i)=true) →
    ∃ q,Ra E ops o st=some q∧q.2.2=fp i∧RunF E ops fp (A++B) (after E o st q) e
  | [],st,e,h,_=>h
  | (j,p)::A,st,e,h,hA=>by
    rw [List.cons_append,RunF] at h
    obtain ⟨q1,h1,h2,h3⟩:=h
    obtain ⟨q2,g1,g2,g3⟩:=RunF.pull h3 (fun jp hm=>hA jp (by simp [hm]))
    have hi:A65 q1.2.2 q2.2.2=true:=by rw [h2,g2];exact hA (j,p) (by simp)
    obtain ⟨a1,a2,a3⟩:=Bws h1 g1 hi
    refine ⟨q2,a1,g2,?_⟩
    rw [List.cons_append,RunF]
    exact ⟨q1,a2,h2,RunF.congr g3 a3.symm⟩
end
end Gx

namespace Gx
open Go
def idx:Nat→List Oper→List (Nat×Oper)
  | _,[]=>[]
  | n,o::r=>(n,o)::idx (n+1) r
theorem Bas:∀ {l:List Oper} {n:Nat} {p:Nat×Oper},p ∈ idx n l↔n≤p.1∧l[p.1 - n]?=some p.2
  | [],n,p=>by simp [idx]
  | o::r,n,p=>by
    rw [idx,List.mem_cons,Bas]
    constructor
    · rintro (rfl | ⟨h1,h2⟩)
      · simp
      · refine ⟨by omega,?_⟩
        rw [show p.1 - n=(p.1 - (n+1))+1 by omega];simpa using h2
    · rintro ⟨h1,h2⟩
      by_cases e:p.1=n
      · left
        rw [e] at h2;simp at h2
        obtain ⟨a,b⟩:=p
        simp at e h2;subst e h2;rfl
      · right
        refine ⟨by omega,?_⟩
        rw [show p.1 - n=(p.1 - (n+1))+1 by omega] at h2;simpa using h2
theorem Bb1:∀ (l:List Oper) (n:Nat),(idx n l).Pairwise (fun a b=>a.1<b.1)
  | [],n=>List.Pairwise.nil
  | o::r,n=>by
    rw [idx]
    refine List.pairwise_cons.2 ⟨fun p hp=>?_,Bb1 r (n+1)⟩
    have:=(Bas.1 hp).1
    show n<p.1;omega
section
variable {R:Type} {r:R} {Z:Start} {E:Env} {ops:Array Oper}
def RunL (E:Env) (ops:Array Oper):List Oper→List Foot→St→St→Prop
  | [],[],st,e=>st=e
  | o::l,f::fs,st,e=>∃ st' q,Eqv st st'∧Ra E ops o st'=some q∧q.2.2=f∧RunL E ops l fs (after E o st' q) e
  | _,_,_,_=>False
theorem Bm9:∀ {l:List Oper} {st:St} {tr:List Foot} {k:St→List Foot→Option R},Bbb E ops l st tr k=some r→∃ fs e,k e (fs.reverse++tr)=some r∧RunL E ops l fs st e
  | [],st,tr,k,h=>⟨[],st,by simpa [Bbb] using h,rfl⟩
  | o::l,st,tr,k,h=>by
    rw [Bbb] at h
    obtain ⟨st',he,h⟩:=Bbp h
    rw [Asn] at h
    obtain ⟨q,h1,h2⟩:=ub h
    obtain ⟨fs,e,h3,h4⟩:=Bm9 h2
    exact ⟨q.2.2::fs,e,by simpa using h3,st',q,he,h1,rfl,h4⟩
theorem RunL.length:∀ {l:List Oper} {fs:List Foot} {st e:St},RunL E ops l fs st e→fs.length=l.length
  | [],[],_,_,_=>rfl
  | [],_::_,_,_,h=>h.elim
  | _::_,[],_,_,h=>h.elim
  | o::l,f::fs,st,e,⟨_,q,_,_,_,h⟩=>by simp [RunL.length h]
theorem RunL.runF {fp:Nat→Foot}:∀ {l:List Oper} {fs:List Foot} {n:Nat} {st e:St},RunL E ops l fs st e→(∀ (j:Nat) (f:Foot),fs[j]?=some f→fp (n+j)=f)→RunF E ops fp (idx n l) st e
  | [],[],n,st,e,h,_=>by subst h;exact Eqv.refl _
  | [],_::_,_,_,_,h,_=>h.elim
  | _::_,[],_,_,_,h,_=>h.elim
  | o::l,f::fs,n,st,e,⟨st',q,he,h1,h2,h3⟩,hf=>by
    rw [idx]
    refine RunF.congr ?_ he.symm
    rw [RunF]
    refine ⟨q,h1,by rw [h2];exact (hf 0 f (by simp)).symm,RunL.runF h3 (fun j g hj=>?_)⟩
    have:=hf (j+1) g (by simpa using hj)
    rwa [show n+(j+1)=n+1+j by omega] at this
theorem A7l {f:Foot} {anc:List Nat}:∀ {seen:List Foot} {i:Nat},Az5 f anc i seen=true→∀ (j:Nat) (g:Foot),seen[j]?=some g→(i+j) ∈ anc∨A65 g f=true
  | [],i,_,j,g,hj=>by simp at hj
  | x::r,i,h,j,g,hj=>by
    rw [Az5] at h;simp only [Bool.and_eq_true,Bool.or_eq_true] at h
    cases j with
    | zero =>
      simp at hj;subst hj
      rcases h.1 with h1 | h1
      · exact .inl (Iz.1 h1)
      · exact .inr h1
    | succ j =>
      have:=A7l h.2 j g (by simpa using hj)
      rwa [show i+1+j=i+(j+1) by omega] at this
theorem Bb2:∀ {fs:List Foot} {az9:List (List Nat)} {seen:List Foot},Ase fs az9 seen=true→∀ (i:Nat) (f:Foot),fs[i]?=some f →
    ∃ a,az9[i]?=some a∧∀ (j:Nat) (g:Foot),(seen++fs)[j]?=some g→j<seen.length+i→j ∈ a∨A65 g f=true
  | [],az9,seen,_,i,f,hf=>by simp at hf
  | x::r,[],seen,h,i,f,hf=>by simp [Ase] at h
  | x::r,a::az9,seen,h,i,f,hf=>by
    rw [Ase] at h;simp only [Bool.and_eq_true] at h
    cases i with
    | zero =>
      simp at hf;subst hf
      refine ⟨a,by simp,fun j g hj hlt=>?_⟩
      rw [List.getElem?_append,if_pos (by omega)] at hj
      simpa using A7l h.1 j g hj
    | succ i =>
      obtain ⟨a',h1,h2⟩:=Bb2 h.2 i f (by simpa using hf)
      refine ⟨a',by simpa using h1,fun j g hj hlt=>h2 j g ?_ (by simp;omega)⟩
      simpa using hj
theorem Aep:∀ {l:List Oper} {acc:List (List Nat)} {i:Nat},i<acc.length→(E1 l acc)[i]?=acc[i]?
  | [],acc,i,_=>rfl
  | o::r,acc,i,hi=>by
    rw [E1,Af7,Aep (by simp;omega),List.getElem?_append,if_pos hi]
theorem Ah3:∀ {l:List Oper} {acc:List (List Nat)} {i:Nat} {a:List Nat},(E1 l acc)[i]?=some a→acc.length≤i→∃ o,l[i - acc.length]?=some o ∧
    ∀ k ∈ a,k ∈ Ahu o∨∃ j a',j ∈ Ahu o∧j<i∧(E1 l acc)[j]?=some a'∧k ∈ a'
  | [],acc,i,a,h,hi=>by
    rw [E1,List.getElem?_eq_none hi] at h;cases h
  | o::r,acc,i,a,h,hi=>by
    by_cases e:i=acc.length
    · subst e
      rw [E1,Af7,Aep (by simp)] at h
      simp only [List.getElem?_concat_length,Option.some.injEq] at h
      refine ⟨o,by simp,fun k hk=>?_⟩
      rw [← h,Agc] at hk
      replace hk:=hk.resolve_right (by simp)
      rcases List.mem_append.1 hk with hk | hk
      · exact .inl hk
      · right
        obtain ⟨j,hj,hk⟩:=List.mem_flatMap.1 hk
        cases ha:acc[j]? with
        | none=>rw [ha] at hk;simp at hk
        | some a' =>
          rw [ha] at hk;simp at hk
          have hlt:j<acc.length:=(List.getElem?_eq_some_iff.1 ha).1
          exact ⟨j,a',hj,hlt,by rw [Aep hlt];exact ha,hk⟩
    · rw [E1,Af7] at h
      obtain ⟨o',h1,h2⟩:=Ah3 h (by simp;omega)
      refine ⟨o',?_,fun k hk=>?_⟩
      · simp at h1
        rw [show i - acc.length=(i - (acc.length+1))+1 by omega];simpa using h1
      · rw [E1,Af7];exact h2 k hk
theorem A0f:∀ {l:List Oper} {n i:Nat} {o:Oper},Ym n l=true→l[i]?=some o→∀ e ∈ o.after,Anr e=true→e.on<n+i
  | [],n,i,o,_,hi,_,_,_=>by simp at hi
  | x::r,n,i,o,h,hi,e,he,hb=>by
    rw [Ym] at h;simp only [Bool.and_eq_true] at h
    cases i with
    | zero =>
      simp at hi;subst hi
      have:=List.all_eq_true.1 h.1 e (by simpa using he)
      rw [hb] at this;simpa using this
    | succ i =>
      have:=A0f h.2 (by simpa using hi) e he hb
      omega
theorem Bin (e:Edge):Region.binds .any e=Anr e:=by
  unfold Region.binds Anr
  cases e.ground<;>rfl
theorem Bpd {listed:Array Bool} (hclosed:∀ (j:Nat) (o:Oper),ops[j]?=some o→listed.getD j true=true→∀ k ∈ Ahu o,listed.getD k false=true) :
    ∀ (i:Nat) (a:List Nat) (o:Oper),(E1 ops.toList [])[i]?=some a→ops[i]?=some o→(∀ k ∈ Ahu o,listed.getD k false=true)→∀ k ∈ a,listed.getD k false=true:=by
  intro i
  induction i using Nat.strongRecOn with
  | _ i ih =>
    intro a o ha ho hd k hk
    obtain ⟨o',h1,h2⟩:=Ah3 ha (by simp)
    simp at h1
    rw [ho] at h1;simp at h1;subst h1
    rcases h2 k hk with h3 | ⟨j,a',h3,h4,h5,h6⟩
    · exact hd k h3
    · have hjl:=hd j h3
      obtain ⟨oj,hoj,_⟩:=Ah3 h5 (by simp)
      simp at hoj
      have hjt:listed.getD j true=true:=by
        rw [Array.getD_eq_getD_getElem?] at hjl ⊢
        cases hx:listed[j]? with
        | none=>rw [hx] at hjl;simp at hjl
        | some b=>rw [hx] at hjl;simpa using hjl
      exact ih j h4 a' oj h5 hoj (hclosed j oj hoj hjt) k h6
def Q8 (ops:Array Oper) (listed:Array Bool):List (Nat×Oper):=(idx 0 ops.toList).filter fun p=>!listed.getD p.1 true
theorem An0 (listed:Array Bool):(Q8 ops listed).Pairwise (fun a b=>a.1<b.1):=(Bb1 _ _).filter _
theorem Agd {listed:Array Bool} {p:Nat×Oper}:p ∈ Q8 ops listed↔ops[p.1]?=some p.2∧listed.getD p.1 true=false:=by
  unfold Q8
  rw [List.mem_filter,Bas]
  simp
theorem Bna {listed:Array Bool} {i:Nat} {o:Oper} {A B:List (Nat×Oper)} (h:Q8 ops listed=A++(i,o)::B):Q8 ops (listed.setIfInBounds i true)=A++B:=by
  have hi:(i,o) ∈ Q8 ops listed:=by rw [h];simp
  have hil:=(Agd.1 hi).2
  have hlt:i<listed.size:=by
    rw [Array.getD_eq_getD_getElem?] at hil
    rcases Nat.lt_or_ge i listed.size with hl | hl
    · exact hl
    · rw [Array.getElem?_eq_none hl] at hil;simp at hil
  have h1:Q8 ops (listed.setIfInBounds i true)=(Q8 ops listed).filter fun p=>!Nat.beq p.1 i:=by
    unfold Q8
    rw [List.filter_filter]
    congr 1;funext p
    by_cases e:p.1=i
    · rw [e];simp [hlt]
    · rw [getD_set_ne true (fun e'=>e e'.symm),At6 e];simp
  rw [h1,h,List.filter_append,List.filter_cons]
  have hs:=An0 (ops:=ops) listed
  rw [h] at hs
  have hs':=List.pairwise_append.1 hs
  have hB:=List.pairwise_cons.1 hs'.2.1
  have e1:A.filter (fun p=>!Nat.beq p.1 i)=A:=List.filter_eq_self.2 (fun p hp=>by
    have:p.1<i:=hs'.2.2 p hp (i,o) (by simp)
    rw [At6 (by omega)];rfl)
  have e2:B.filter (fun p=>!Nat.beq p.1 i)=B:=List.filter_eq_self.2 (fun p hp=>by
    have:i<p.1:=hB.1 p hp
    rw [At6 (by omega)];rfl)
  rw [e1,e2];simp
theorem Br4 (hC:Awl E) {Q:Exit→Act→World→Prop} {fp:Nat→Foot} {e:St} (hfw:Ym 0 ops.toList=true)
    (hord:∀ (i j:Nat) (o:Oper),ops[i]?=some o→j<i→∃ a,(E1 ops.toList [])[i]?=some a∧(j ∈ a∨A65 (fp j) (fp i)=true))
    (hQ:∀ a' w' J' β',Inv Z E.nt J' β' e a' w'→Q .normal a' w') :
    ∀ (fuel:Nat) (listed:Array Bool) {st:St} {a:Act} {w:World} {J:Bool→Nat→Prop} {β:B9},listed.size=ops.size→(Q8 ops listed).length=fuel →
      (∀ (j:Nat) (o:Oper),ops[j]?=some o→listed.getD j true=true→∀ k ∈ Ahu o,listed.getD k false=true) →
      RunF E ops fp (Q8 ops listed) st e→Inv Z E.nt J β st a w→wpAny E.P .any ops Q fuel listed a w:=by
  intro fuel
  have fin:∀ (listed:Array Bool) {st:St} {a:Act} {w:World} {J:Bool→Nat→Prop} {β:B9},Q8 ops listed=[]→RunF E ops fp (Q8 ops listed) st e→Inv Z E.nt J β st a w→Region.ready .any ops listed=[]∧Q .normal a w:=by
    intro listed st a w J β hr hrun I
    refine ⟨List.eq_nil_iff_forall_not_mem.2 (fun i hi=>?_),?_⟩
    · obtain ⟨h1,o,h2,_⟩:=mem_ready.1 hi
      have:(i,o) ∈ Q8 ops listed:=Agd.2 ⟨h2,h1⟩
      rw [hr] at this;simp at this
    · rw [hr,RunF] at hrun
      exact hQ _ _ J β (I.eqv hrun)
  induction fuel with
  | zero =>
    intro listed st a w J β _ hlen _ hrun I
    exact fin listed (List.length_eq_zero_iff.1 hlen) hrun I
  | succ fuel ih =>
    intro listed st a w J β hsz hlen hclosed hrun I
    refine ⟨fun hnil=>?_,fun i hi=>?_⟩
    · 
      cases hrest:Q8 ops listed with
      | nil=>rw [hrest] at hlen;simp at hlen
      | cons p r =>
        exfalso
        have hp:p ∈ Q8 ops listed:=by rw [hrest];simp
        obtain ⟨ho,hl⟩:=Agd.1 hp
        have hs:=An0 (ops:=ops) listed
        rw [hrest] at hs
        have hmin:=(List.pairwise_cons.1 hs).1
        have:p.1 ∈ Region.ready .any ops listed:=mem_ready.2 ⟨hl,p.2,ho,fun ed hed hb=>by
          rw [Bin] at hb
          have hlt:=A0f hfw (i:=p.1) (o:=p.2) (by simpa using ho) ed hed hb
          simp at hlt
          have hops:ed.on<ops.size:=by have:=(Array.getElem?_eq_some_iff.1 ho).1;omega
          cases hx:listed.getD ed.on true with
          | true =>
            rw [Array.getD_eq_getD_getElem?] at hx ⊢
            rw [Array.getElem?_eq_getElem (by omega)] at hx ⊢
            simpa using hx
          | false =>
            have hm:(ed.on,ops[ed.on]) ∈ Q8 ops listed:=Agd.2 ⟨by simp [hops],hx⟩
            rw [hrest] at hm
            rcases List.mem_cons.1 hm with e1 | e1
            · have:ed.on=p.1:=by rw [← e1]
              omega
            · have:=hmin _ e1
              simp at this;omega⟩
        rw [hnil] at this;simp at this
    · obtain ⟨hl,o,ho,hall⟩:=mem_ready.1 hi
      have hmem:(i,o) ∈ Q8 ops listed:=Agd.2 ⟨ho,hl⟩
      obtain ⟨A,B,hAB⟩:=List.append_of_mem hmem
      have hdir:∀ k ∈ Ahu o,listed.getD k false=true:=by
        intro k hk
        unfold Ahu at hk
        obtain ⟨ed,hed,rfl⟩:=List.mem_map.1 hk
        obtain ⟨h1,h2⟩:=List.mem_filter.1 hed
        exact hall ed (by simpa using h1) (by rw [Bin];exact h2)
      have hs:=An0 (ops:=ops) listed
      rw [hAB] at hs
      have hs':=List.pairwise_append.1 hs
      rw [hAB] at hrun
      obtain ⟨q,g1,g2,g3⟩:=hrun.pull (fun jp hjp=>by
        have hlt:jp.1<i:=hs'.2.2 jp hjp (i,o) (by simp)
        obtain ⟨an,h1,h2⟩:=hord i jp.1 o ho hlt
        rcases h2 with h2 | h2
        · exfalso
          have:=Bpd hclosed i an o h1 ho hdir jp.1 h2
          have hjm:jp ∈ Q8 ops listed:=by rw [hAB];simp [hjp]
          have h3:=(Agd.1 hjm).2
          rw [Array.getD_eq_getD_getElem?] at this h3
          cases hx:listed[jp.1]? with
          | none=>rw [hx] at this;simp at this
          | some b=>rw [hx] at this h3;simp at this h3;rw [this] at h3;cases h3
        · exact h2)
      have hone:Bmo E ops o st (fun s f=>some (s,f))=some (after E o st q,q.2.2):=by rw [Asn,g1];rfl
      obtain ⟨st',f,h4,h5⟩:=Bbo (K:=wpAny E.P .any ops Q fuel (listed.setIfInBounds i true)) (Q:=Q) hC I hone
      simp only [Option.some.injEq,Prod.mk.injEq] at h4
      obtain ⟨rfl,rfl⟩:=h4
      have hlt:i<listed.size:=by rw [hsz];exact (Array.getElem?_eq_some_iff.1 ho).1
      have := h5 (fun a' w' J' β' I' => ih (listed.setIfInBounds i true) (by simp [hsz]) (by
          rw [Bna hAB];rw [hAB] at hlen;simp at hlen ⊢;omega) (fun j oj hoj hj k hk=>?_) (by rw [Bna hAB];exact g3) I')
      · unfold wpOp
        rw [ho]
        simp only
        split
        · rename_i hw;rw [if_pos hw] at this;exact .inl this
        · rename_i hw;rw [if_neg hw] at this;exact this
      · by_cases e1:j=i
        · subst e1
          rw [ho] at hoj;simp at hoj;subst hoj
          exact getD_set_true (hdir k hk)
        · rw [getD_set_ne true (fun e'=>e1 e'.symm)] at hj
          exact getD_set_true (hclosed j oj hoj hj k hk)
end
end Gx

namespace Gx
open Go
section
variable {R:Type} {r:R} {Z:Start} {E:Env}
theorem Bg4 (hC:Awl E) (hm:E.P.follows .mixedOrders=true) {K roots:List Nat} {id:Nat} {ops:Array Oper} {draw:Bool} {st:St} {k:St→Option R} {a:Act} {w:World} {J:Bool→Nat→Prop} {β:B9} {Q:Exit→Act→World→Prop}
    (I:Inv Z E.nt J β st a w) (hh:Asf E K roots ops draw st k=some r) (hQ:∀ st' a' w' J' β',Inv Z E.nt J' β' st' a' w'→k st'=some r→Q .normal a' w'):(Code.region id ops draw).wp E.P Q a w:=by
  unfold Asf at hh
  have done : ∀ {st' : St} {tr : List Foot} {a' : Act} {w' : World} {J' : Bool → Nat → Prop} {β' : B9}, Inv Z E.nt J' β' st' a' w' →
      cond (!draw||(Ym 0 ops.toList&&Ase tr.reverse (E1 ops.toList []) [])) ((clean K roots st').bind k) none=some r→Q .normal a' w':=by
    intro st' tr a' w' J' β' I' h'
    obtain ⟨_,h1⟩:=uc h'
    obtain ⟨st2,h2,h3⟩:=ub h1
    obtain ⟨β2,I2⟩:=Bm3 I' h2
    exact hQ _ _ _ _ _ I2 h3
  cases draw with
  | false=>exact wp_region_list (Bbq hC _ I hh (fun st' tr' a' w' J' β' I' h'=>done I' h'))
  | true =>
    obtain ⟨fs,e,h1,h2⟩:=Bm9 hh
    obtain ⟨hc,h3⟩:=uc h1
    simp at hc
    obtain ⟨hfw,hord⟩:=hc
    have hlen:=h2.length
    refine wp_region_any hm ?_
    have I':Inv Z E.nt J β st a w.drew:=I.step (Step.drew I.sim) (fun b x hx hn=>by rw [hx] at hn;cases hn)
    have hrest:Q8 ops (Array.replicate ops.size false)=idx 0 ops.toList:=by
      unfold Q8
      refine List.filter_eq_self.2 (fun p hp=>?_)
      have:=(Bas.1 hp).2
      have hlt:p.1<ops.size:=by
        simp at this
        exact (Array.getElem?_eq_some_iff.1 this).1
      simp [hlt]
    have hidx:(idx 0 ops.toList).length=ops.size:=by
      have:∀ (l:List Oper) (n:Nat),(idx n l).length=l.length:=by
        intro l
        induction l with
        | nil=>intro n;rfl
        | cons o r ih=>intro n;simp [idx,ih]
      rw [this];simp
    have hrun:RunF E ops (fun i=>fs.getD i { r:=[],w:=none,f:=[],u:=[] }) (idx 0 ops.toList) st e:=h2.runF (fun j f hj=>by simp [hj])
    refine Br4 hC (fp:=fun i=>fs.getD i { r:=[],w:=none,f:=[],u:=[] }) (e:=e) hfw (fun i j o ho hji=>?_) (fun a' w' J' β' Ie=>done (tr:=fs.reverse++[]) Ie h1) ops.size _ (by simp) (by rw [hrest,hidx]) (fun j o ho hj=>?_) (by rw [hrest];exact hrun) I'
    · have hi:i<fs.length:=by rw [hlen];simpa using (Array.getElem?_eq_some_iff.1 ho).1
      obtain ⟨an,g1,g2⟩:=Bb2 hord i fs[i] (List.getElem?_eq_getElem hi)
      refine ⟨an,g1,?_⟩
      have hj:j<fs.length:=by omega
      have:=g2 j fs[j] (by simp [hj]) (by simpa using hji)
      simpa [hi,hj] using this
    · exfalso
      have hlt:j<ops.size:=(Array.getElem?_eq_some_iff.1 ho).1
      simp [hlt] at hj
end
end Gx

namespace Gx
open Go
theorem A0g (ρ:Nat→Nat):∀ c:List AV,(Wf ρ c).length=c.length
  | []=>rfl
  | x::r=>by rw [Wf,List.length_cons,List.length_cons,A0g ρ r]
theorem Kd (ρ:Nat→Nat) (x:Blk):(Aej ρ x).cells.length=x.cells.length:=by
  unfold Aej;cases x.pure
  · simp;exact A0g _ _
  · rfl
theorem Bio {ρ:Nat→Nat}:∀ {c:List AV} {j:Nat} {y:AV},(Wf ρ c)[j]?=some y→∃ x,c[j]?=some x∧y=At5 ρ x
  | [],j,y,hj=>by simp [Wf] at hj
  | x::r,j,y,hj=>by
    rw [Wf] at hj
    cases j with
    | zero=>simp at hj;exact ⟨x,by simp,hj.symm⟩
    | succ j=>obtain ⟨x',h1,h2⟩:=Bio (c:=r) (j:=j) (by simpa using hj);exact ⟨x',by simpa using h1,h2⟩
section
variable {R:Type} {r:R} {J J':Bool→Nat→Prop} {β β':B9} {h h':Ak} {w w':World} {ids:List Nat} {ρ:Nat→Nat}
theorem Lf {g:Bg}:∀ {ids:List Nat},(ids.map ρ).Nodup→∀ c y,Am (sub g ρ ids) c=some y→∃ b x,b ∈ ids∧ρ b=c∧g b=some x∧y=Aej ρ x
  | [],_,c,y,hc=>by simp [sub,Am] at hc
  | b::r,hn,c,y,hc=>by
    rw [List.map_cons,List.nodup_cons] at hn
    rw [sub] at hc
    split at hc
    · rename_i x hx
      rw [Ae] at hc
      by_cases e:c=ρ b
      · rw [if_pos e] at hc;simp at hc
        exact ⟨b,x,by simp,e.symm,hx,hc.symm⟩
      · rw [if_neg e] at hc
        obtain ⟨b',x',h1,h2,h3,h4⟩:=Lf hn.2 c y hc
        exact ⟨b',x',by simp [h1],h2,h3,h4⟩
    · obtain ⟨b',x',h1,h2,h3,h4⟩:=Lf hn.2 c y hc
      exact ⟨b',x',by simp [h1],h2,h3,h4⟩
theorem Abx {g:Bg}:∀ {ids:List Nat},(ids.map ρ).Nodup→∀ b x,b ∈ ids→g b=some x→Am (sub g ρ ids) (ρ b)=some (Aej ρ x)
  | [],_,b,x,hb,_=>by simp at hb
  | b'::r,hn,b,x,hb,hx=>by
    rw [List.map_cons,List.nodup_cons] at hn
    rw [sub]
    by_cases e:b=b'
    · subst e
      rw [hx]
      simp only
      rw [Ae,if_pos rfl]
    · have hm:b ∈ r:=by simpa [e] using hb
      have ne:ρ b≠ρ b':=fun h=>hn.1 (by rw [← h];exact List.mem_map.2 ⟨b,hm,rfl⟩)
      split
      · rw [Ae,if_neg ne];exact Abx hn.2 b x hm hx
      · exact Abx hn.2 b x hm hx
def Btb (ρ:Nat→Nat) (ids:List Nat) (c:Nat):Option Nat:=ids.find? fun b=>Nat.beq (ρ b) c
theorem Btc (hn:(ids.map ρ).Nodup) {b:Nat} (hb:b ∈ ids):Btb ρ ids (ρ b)=some b:=by
  induction ids with
  | nil=>simp at hb
  | cons i r ih =>
    rw [List.map_cons,List.nodup_cons] at hn
    unfold Btb at ih ⊢
    rw [List.find?_cons]
    by_cases e:b=i
    · subst e;simp
    · have hm:b ∈ r:=by simpa [e] using hb
      have ne:ρ i≠ρ b:=fun h=>hn.1 (by rw [h];exact List.mem_map.2 ⟨b,hm,rfl⟩)
      rw [At6 ne];exact ih hn.2 hm
def Amn (ρ:Nat→Nat) (ids:List Nat) (β:B9):B9:=fun c=>(Btb ρ ids c).bind β
theorem Fg (hn:(ids.map ρ).Nodup) {b:Nat} (hb:b ∈ ids):Amn ρ ids β (ρ b)=β b:=by
  unfold Amn;rw [Btc hn hb];rfl
mutual
theorem Rep.ren (hn:(ids.map ρ).Nodup):∀ {x:AV} {v:Value},(∀ b ∈ Fd x,b ∈ ids)→Rep J β h w x v→Rep J (Amn ρ ids β) (sub (Am h) ρ ids) w (At5 ρ x) v
  | .own b off n,v,hm,hr=>by
    rw [Rep] at hr
    obtain ⟨x,A,cap,⟨hx,hmp⟩,h1,h2,h3⟩:=hr
    have hb:=hm b (by simp [Fd])
    rw [At5,Rep]
    refine ⟨Aej ρ x,A,cap,⟨Abx hn b x hb hx,hmp⟩,h1,h2,?_⟩
    rw [Kd,Fg hn hb]
    exact h3
  | .optr b off,v,hm,hr=>by
    rw [Rep] at hr
    obtain ⟨x,k,o,⟨hx,hmp⟩,h1,h2⟩:=hr
    have hb:=hm b (by simp [Fd])
    rw [At5,Rep]
    refine ⟨Aej ρ x,k,o,⟨Abx hn b x hb hx,hmp⟩,h1,?_⟩
    rw [Fg hn hb]
    exact h2
  | .omap b,v,hm,hr=>by
    rw [Rep] at hr
    obtain ⟨x,k,⟨hx,hmp⟩,h1,h2⟩:=hr
    have hb:=hm b (by simp [Fd])
    rw [At5,Rep]
    refine ⟨Aej ρ x,k,⟨Abx hn b x hb hx,hmp⟩,h1,?_⟩
    rw [Fg hn hb]
    exact h2
  | .agg c,v,hm,hr=>by
    rw [Rep] at hr
    obtain ⟨cs,h1,h2⟩:=hr
    rw [At5,Rep]
    exact ⟨cs,h1,Reps.ren hn (by simpa [Fd] using hm) h2⟩
  | .tup c,v,hm,hr=>by
    rw [Rep] at hr
    obtain ⟨cs,h1,h2⟩:=hr
    rw [At5,Rep]
    exact ⟨cs,h1,Reps.ren hn (by simpa [Fd] using hm) h2⟩
  | .fn f c,v,hm,hr=>by
    rw [Rep] at hr
    obtain ⟨cs,h1,h2⟩:=hr
    rw [At5,Rep]
    exact ⟨cs,h1,Reps.ren hn (by simpa [Fd] using hm) h2⟩
  | .pagg c o,v,hm,hr=>by show Rep J _ _ w (.pagg c o) v;rw [Rep] at hr ⊢;exact hr
  | .undef,v,hm,hr=>by show Rep J _ _ w (.undef) v;rw [Rep] at hr ⊢;exact hr
  | .imm c n sz t o,v,hm,hr=>by show Rep J _ _ w (.imm c n sz t o) v;rw [Rep] at hr ⊢;exact hr
  | .iptr c o,v,hm,hr=>by show Rep J _ _ w (.iptr c o) v;rw [Rep] at hr ⊢;exact hr
  | .int k n,v,hm,hr=>by show Rep J _ _ w (.int k n) v;rw [Rep] at hr ⊢;exact hr
  | .bool b,v,hm,hr=>by show Rep J _ _ w (.bool b) v;rw [Rep] at hr ⊢;exact hr
  | .str s,v,hm,hr=>by show Rep J _ _ w (.str s) v;rw [Rep] at hr ⊢;exact hr
  | .nsl,v,hm,hr=>by show Rep J _ _ w (.nsl) v;rw [Rep] at hr ⊢;exact hr
  | .nilptr,v,hm,hr=>by show Rep J _ _ w (.nilptr) v;rw [Rep] at hr ⊢;exact hr
  | .nilfn,v,hm,hr=>by show Rep J _ _ w (.nilfn) v;rw [Rep] at hr ⊢;exact hr
theorem Reps.ren (hn:(ids.map ρ).Nodup):∀ {c:List AV} {cs:List Value},(∀ b ∈ Hb c,b ∈ ids)→Reps J β h w c cs→Reps J (Amn ρ ids β) (sub (Am h) ρ ids) w (Wf ρ c) cs
  | [],cs,hm,hr=>by rw [Reps] at hr;rw [Wf,Reps];exact hr
  | x::r,cs,hm,hr=>by
    rw [Reps] at hr
    obtain ⟨u,us,h1,h2,h3⟩:=hr
    rw [Wf,Reps]
    exact ⟨u,us,h1,Rep.ren hn (fun b hb=>hm b (by simp [Hb,hb])) h2,Reps.ren hn (fun b hb=>hm b (by simp [Hb,hb])) h3⟩
end
theorem SimH.ren (S:SimH J β h w) (hn:(ids.map ρ).Nodup) (hin:∀ b ∈ Ix (Am h) ids,b ∈ ids):SimH J (Amn ρ ids β) (sub (Am h) ρ ids) w:=by
  refine ⟨S.jlt, S.jft, fun c y hy hd hm => ?_, fun c y hy hd hm => by
      obtain ⟨b,x,hb,rfl,hx,rfl⟩:=Lf hn c y hy
      obtain ⟨g1,g2,k,es,clk,g3,g4,g5,g6⟩:=S.mblk b x hx hd hm
      have:(Aej ρ x).cells=x.cells:=by unfold Aej;rw [g1];rfl
      exact ⟨g1,g2,k,es,clk,by rw [Fg hn hb];exact g3,g4,by rw [this];exact g5,g6⟩,?_⟩
  · obtain ⟨b,x,hb,rfl,hx,rfl⟩:=Lf hn c y hy
    rcases S.blk b x hx hd hm with ⟨g1,g2⟩ | ⟨k,o,cs,ty,fr,g1,g2,g3,g4,g5,g6,g7⟩
    · refine .inl ⟨by rw [Fg hn hb];exact g1,?_⟩
      have:=Kd ρ x;rw [g2] at this;simpa using this
    · refine .inr ⟨k,o,cs,ty,fr,by rw [Fg hn hb];exact g1,g2,g3,by rw [Kd];exact g4,⟨fun hp=>?_,fun hp j q hj=>?_⟩,g6,g7⟩
      · have hp':x.pure=true:=hp
        have:(Aej ρ x).cells=x.cells:=by unfold Aej;rw [hp'];rfl
        rw [this];exact g5.1 hp'
      · have hp':x.pure=false:=hp
        have:(Aej ρ x).cells=Wf ρ x.cells:=by unfold Aej;rw [hp'];rfl
        rw [this] at hj
        obtain ⟨q',hq,rfl⟩:=Bio hj
        obtain ⟨u,hu,hr,ho⟩:=g5.2 hp' j q' hq
        exact ⟨u,hu,Rep.ren hn (fun b' hb'=>hin b' (A32 hb hx hp' b' (A33 hq b' hb'))) hr,ho⟩
  · intro c c' y y' k o o' hy hy' hd hd' hs hβ hβ'
    obtain ⟨b,x,hb,rfl,hx,rfl⟩:=Lf hn c y hy
    obtain ⟨b',x',hb',rfl,hx',rfl⟩:=Lf hn c' y' hy'
    rw [Fg hn hb] at hβ
    rw [Fg hn hb'] at hβ'
    rw [S.sep b b' x x' k o o' hx hx' hd hd' hs hβ hβ']
theorem Bk3 (hn:(ids.map ρ).Nodup) {k:Nat} (hm:Mut (Amn ρ ids β) (sub (Am h) ρ ids) k):Mut β h k:=by
  obtain ⟨c,y,o,hy,hd,hs,hβ⟩:=hm
  obtain ⟨b,x,hb,rfl,hx,rfl⟩:=Lf hn c y hy
  rw [Fg hn hb] at hβ
  exact ⟨b,x,o,hx,hd,hs,hβ⟩
end
end Gx

namespace Gx
open Go
theorem Mq {ids:List Nat}:∀ {l:List Nat},Amg ids l=true→∀ b ∈ l,b ∈ ids
  | [],_,b,hb=>by simp at hb
  | i::r,h,b,hb=>by
    rw [Amg] at h
    simp at h
    rcases List.mem_cons.1 hb with rfl | hb
    · exact Iz.1 h.1
    · exact Mq h.2 b hb
theorem Zl {d:Nat}:∀ {l:List Nat} {base b:Nat},b ∈ l→base≤Gp d (Av base l) b∧Gp d (Av base l) b<base+l.length
  | [],base,b,hb=>by simp at hb
  | i::r,base,b,hb=>by
    rw [Av,Gp]
    cases hi:Nat.beq i b with
    | true=>simp
    | false =>
      have hne:=Wg hi
      have hm:b ∈ r:=by
        rcases List.mem_cons.1 hb with h | h
        · exact absurd h.symm hne
        · exact h
      have:=Zl (d:=d) (base:=base+1) hm
      simp only [cond_false,List.length_cons]
      omega
theorem Bnb {free ids:List Nat} {b:Nat} (h:Af8 free b=true):Zg free ids b=b:=by unfold Zg;rw [h];rfl
theorem Bk4 {free ids:List Nat} {b:Nat} (h:Af8 free b=false) (hb:b ∈ ids):300000≤Zg free ids b:=by
  unfold Zg Bs4;rw [h]
  exact (Zl (List.mem_filter.2 ⟨hb,by simp [h]⟩)).1
theorem Bb3 {b:Nat}:Bbe b=true↔100000≤b∧b<200000:=by unfold Bbe;simp
theorem A7m {free ids:List Nat} {b c:Nat} (hb:b ∈ ids) (hc:100000≤c∧c<200000) (he:Zg free ids b=c):b=c:=by
  cases hr:Af8 free b with
  | true=>rw [Bnb hr] at he;exact he
  | false=>have:=Bk4 hr hb;omega
theorem Age {ρ:Nat→Nat} {K:List Nat}:∀ {s:Fc} {i:Nat},Ee (Bs5 ρ K s) i=if Hc K i=true then At5 ρ (Ee s i) else .undef
  | [],i=>by
    show AV.undef=if Hc K i=true then At5 ρ .undef else AV.undef
    simp [At5]
  | (t,v)::r,i=>by
    rw [Bs5]
    by_cases e:t=i
    · subst e
      cases hk:Hc K t with
      | true=>simp [Ee]
      | false=>simp only [cond_false];rw [Age];simp [hk]
    · have hb:Nat.beq t i=false:=At6 e
      cases hk:Hc K t with
      | true=>simp only [cond_true,Ee,hb,cond_false];exact Age
      | false=>simp only [cond_false,Ee,hb];exact Age
theorem Bnc {g:Bg} {l:List Nat} {b:Nat} (h:b ∈ Abs g l):∃ x,g b=some x∧x.dead=false:=by
  unfold Abs at h
  obtain ⟨_,h2⟩:=List.mem_filter.1 h
  unfold G9 at h2
  cases hx:g b with
  | none=>simp [hx] at h2
  | some x =>
    cases hd:x.dead with
    | false=>exact ⟨x,rfl,hd⟩
    | true=>simp [hx,hd] at h2
section
variable {Z:Start} {nt:Nat} {J:Bool→Nat→Prop} {β:B9} {st st':St} {a:Act} {w:World}
def AV.isz:AV→Nat
  | .imm _ _ s _ _=>s
  | _=>0
theorem Lg {live:List Nat}:∀ (nils:List (Nat×Nat)) {st:St} {J:Bool→Nat→Prop} {β:B9},Inv Z nt J β st a w→Ahv live nils st=some st'→∃ J' β',Inv Z nt J' β' st' a w
  | [],st,J,β,I,hh=>by simp [Ahv] at hh;subst hh;exact ⟨J,β,I⟩
  | (t,sz)::r,st,J,β,I,hh=>by
    rw [Ahv] at hh
    cases hsz:Nat.ble 1000000 sz with
    | true =>
      rw [hsz,cond_true] at hh
      split at hh
      · rename_i hm hs
        refine Lg r (J:=J) (β:=β) (st:={ s:=Awc st.s t (.imm [] 0 (sz - 1000000) false false),h:=st.h }) ?_ hh
        refine { I with ss:=⟨fun i v hv=>?_,fun i hi=>?_⟩ }
        · rw [Lc]
          by_cases e:i=t
          · subst e
            have:=I.ss.slot i v hv
            rw [hs,Rep] at this
            subst this
            rw [if_pos rfl,Rep,RepC]
            exact ⟨by simp,none,0,rfl,Nat.le_refl _,fun _=>rfl,.inl rfl⟩
          · rw [if_neg e];exact I.ss.slot i v hv
        · rw [Lc]
          by_cases e:i=t
          · subst e
            have:=I.ss.out i hi
            rw [hs] at this;cases this
          · rw [if_neg e];exact I.ss.out i hi
      · rename_i b off n hm hs
        obtain ⟨⟨v',ups,org⟩,hp,h1⟩:=ub hh
        by_cases hti:∃ v,a.tmps[t]?=some v
        · obtain ⟨v0,hv0⟩:=hti
          have hr:=I.ss.slot t v0 hv0
          rw [hs] at hr
          obtain ⟨J1,A,hrep,_⟩:=Anv I.sim (fun b x hb=>⟨x,hb,rfl⟩) hp hr
          have I1:=I.step A (fun c x hx hn=>by
            exfalso
            unfold Aug at hp
            obtain ⟨y,hy,h2⟩:=ub hp
            obtain ⟨_,h2⟩:=uc h2
            simp at h2
            obtain ⟨_,h2,_⟩:=h2
            subst h2
            simp only [Ai,Ae] at hx
            unfold G9 at hy
            obtain ⟨y0,hy0,_⟩:=ub hy
            by_cases e:c=b
            · subst e;rw [hn] at hy0;cases hy0
            · rw [if_neg e,hn] at hx;cases hx)
          refine Lg r (J:=J1) (β:=β) (st:={ s:=Awc st.s t v',h:=Ai ups st.h }) ?_ h1
          have him:∃ c,v'=.imm c n (v'.isz) false org:=by
            unfold Aug at hp
            obtain ⟨y,hy,h2⟩:=ub hp
            obtain ⟨_,h2⟩:=uc h2
            simp at h2
            obtain ⟨h2,_,h3⟩:=h2
            subst h2 h3
            exact ⟨_,rfl⟩
          refine { I1 with ss:=⟨fun i v hv=>?_,fun i hi=>?_⟩ }
          · rw [Lc]
            by_cases e:i=t
            · subst e
              rw [if_pos rfl]
              rw [hv0] at hv;simp at hv;subst hv
              obtain ⟨c,hc⟩:=him
              rw [hc] at hrep ⊢
              rw [Rep];exact hrep
            · rw [if_neg e];exact I1.ss.slot i v hv
          · rw [Lc]
            by_cases e:i=t
            · subst e
              have:=I.ss.out i hi
              rw [hs] at this;cases this
            · rw [if_neg e];exact I1.ss.out i hi
        · exfalso
          have:=I.ss.out t (by
            cases h:a.tmps[t]? with
            | none=>simp at h;omega
            | some v=>exact absurd ⟨v,h⟩ hti)
          rw [hs] at this;cases this
      · exact Lg r I hh
    | false =>
      rw [hsz,cond_false] at hh
      split at hh
      · rename_i hm hs
        cases hf:Am st.h (nid t+15) with
        | some x=>simp [hf] at hh
        | none =>
          simp [hf] at hh
          have A:=Step.newNone I.sim (d:=nid t+15) (x:=Ef sz) hf rfl
          have I1:=I.step A (fun b x hx hn=>by
            rw [Ae] at hx
            by_cases e:b=nid t+15
            · subst e;unfold nid Fr;omega
            · rw [if_neg e,hn] at hx;cases hx)
          refine Lg r (J:=J) (β:=fun b=>if b=nid t+15 then none else β b) (st:={ s:=Awc st.s t (.own (nid t+15) 0 0),h:=Ei st.h (nid t+15) (Ef sz) }) ?_ hh
          refine { I1 with ss:=⟨fun i v hv=>?_,fun i hi=>?_⟩ }
          · rw [Lc]
            by_cases e:i=t
            · subst e
              rw [if_pos rfl,Rep]
              have:=I.ss.slot i v hv
              rw [hs,Rep] at this
              subst this
              exact ⟨Ef sz,none,0,⟨by rw [Ae,if_pos rfl],rfl⟩,rfl,Nat.le_refl _,.inl rfl⟩
            · rw [if_neg e];exact I1.ss.slot i v hv
          · rw [Lc]
            by_cases e:i=t
            · subst e
              have:=I.ss.out i hi
              rw [hs] at this;cases this
            · rw [if_neg e];exact I1.ss.out i hi
      · exact Lg r I hh
theorem Aby {E:Env} {live roots:List Nat} (I:Inv Z nt J β st a w) (hh:Q9 E live roots st=some st'):∃ J' β',Inv Z nt J' β' st' a w:=by
  unfold Q9 at hh
  obtain ⟨s1,h1,h2⟩:=ub hh
  obtain ⟨J1,β1,I1⟩:=Lg _ I h1
  obtain ⟨hc,h3⟩:=uc h2
  simp at hc h3
  subst h3
  obtain ⟨hn,hs,hi,_⟩:=hc
  have hn:=Ri hn
  have hin:∀ b ∈ Ix (Am s1.h) (Abs (Am s1.h) (Zc (Am s1.h) (Bbc live s1.s++roots))),b ∈ Abs (Am s1.h) (Zc (Am s1.h) (Bbc live s1.s++roots)):=Mq hi
  refine ⟨J1,Amn _ _ β1,{ I1 with sim:=I1.sim.ren hn hin,ss:=⟨fun i v hv=>?_,fun i hi=>?_⟩,wr:=fun k hm=>I1.wr k (Bk3 hn hm),outs:=fun b x0 x h0 hx hd=>?_ }⟩
  · rw [Age]
    cases hk:Hc live i with
    | false=>simp [Rep]
    | true =>
      simp only [if_true]
      exact Rep.ren hn (fun b hb=>Mq hs b (Bbs hk b hb)) (I1.ss.slot i v hv)
  · rw [Age,I1.ss.out i hi];simp [At5]
  · obtain ⟨b',x',hb',he,hg,rfl⟩:=Lf hn b x hx
    have:=A7m hb' ⟨I1.zge b x0 h0,I1.zlt b x0 h0⟩ he
    subst this
    obtain ⟨⟨e1,em⟩,e2,e3,e4⟩:=I1.outs b' x0 x' h0 hg hd
    refine ⟨⟨?_,em⟩,e2,by rw [Kd];exact e3,e4⟩
    have:=Fg (β:=β1) hn hb'
    rw [he] at this
    rw [this];exact e1
end
end Gx

namespace Gx
open Go
section
variable {R:Type} {r:R} {Z:Start} {E:Env}
theorem Bnd (hC:Awl E) (hm:E.P.follows .mixedOrders=true) {roots:List Nat} {N:Nat}:∀ (c:Code) {H:Hint} {kn:St→Option R} {kx:Nat→St→Option R} {kr:St→Option R} {st:St} {a:Act} {w:World} {J:Bool→Nat→Prop} {β:B9} {Q:Exit→Act→World→Prop},
    Inv Z E.nt J β st a w→Eg E roots N c H kn kx kr st=some r →
    (∀ st' a' w' J' β',Inv Z E.nt J' β' st' a' w'→kn st'=some r→Q .normal a' w') →
    (∀ id st' a' w' J' β',Inv Z E.nt J' β' st' a' w'→kx id st'=some r→Q (.exit id) a' w') →
    (∀ st' a' w' J' β',Inv Z E.nt J' β' st' a' w'→kr st'=some r→Q .ret a' w')→c.wp E.P Q a w:=by
  intro c
  induction c with
  | skip=>intro H kn kx kr st a w J β Q I hh hn hx hr;exact wp_skip (hn _ _ _ _ _ I hh)
  | region id ops draw=>intro H kn kx kr st a w J β Q I hh hn hx hr;exact Bg4 hC hm I hh hn
  | seq x y ihx ihy =>
    intro H kn kx kr st a w J β Q I hh hn hx hr
    rw [Eg,Abt] at hh
    refine wp_seq (ihx I hh (fun st' a' w' J' β' I' h'=>?_) (fun id st' a' w' J' β' I' h'=>hx id st' a' w' J' β' I' h') (fun st' a' w' J' β' I' h'=>hr st' a' w' J' β' I' h'))
    exact ihy I' h' hn hx hr
  | cond c x y ihx ihy =>
    intro H kn kx kr st a w J β Q I hh hn hx hr
    rw [Eg] at hh
    split at hh
    · rename_i t ht
      have h1:=A8 I.ss c
      rw [ht,Rep] at h1
      refine wp_cond h1 ?_
      have hn':∀ st' a' w' J' β',Inv Z E.nt J' β' st' a' w'→(Q9 E H.live roots st').bind kn=some r→Q .normal a' w':=by
        intro st' a' w' J' β' I' h'
        obtain ⟨s2,h2,h3⟩:=ub h'
        obtain ⟨J2,β2,I2⟩:=Aby I' h2
        exact hn _ _ _ _ _ I2 h3
      cases t with
      | true=>exact ihx I hh hn' hx hr
      | false=>exact ihy I hh hn' hx hr
    · simp at hh
  | block id c ih =>
    intro H kn kx kr st a w J β Q I hh hn hx hr
    rw [Eg] at hh
    have hn':∀ st' a' w' J' β',Inv Z E.nt J' β' st' a' w'→(Q9 E H.live roots st').bind kn=some r→Q .normal a' w':=by
      intro st' a' w' J' β' I' h'
      obtain ⟨s2,h2,h3⟩:=ub h'
      obtain ⟨J2,β2,I2⟩:=Aby I' h2
      exact hn _ _ _ _ _ I2 h3
    refine wp_block (ih I hh (fun st' a' w' J' β' I' h'=>hn' _ _ _ _ _ I' h') (fun j st' a' w' J' β' I' h'=>?_) (fun st' a' w' J' β' I' h'=>hr _ _ _ _ _ I' h'))
    cases hj:Nat.beq j id with
    | true =>
      rw [hj] at h'
      have:=Nat.eq_of_beq_eq_true hj
      subst this
      simp only [Exit.inBlock,if_true]
      exact hn' _ _ _ _ _ I' h'
    | false =>
      rw [hj] at h'
      simp only [Exit.inBlock]
      rw [if_neg (Wg hj)]
      exact hx _ _ _ _ _ _ I' h'
  | loop c ih =>
    intro H kn kx kr st a w J β Q I hh hn hx hr
    rw [Eg,Abt] at hh
    refine wp_loop_rounds N ?_
    have key:∀ (n:Nat) {st:St} {a:Act} {w:World} {J:Bool→Nat→Prop} {β:B9},Inv Z E.nt J β st a w→Ans (Q9 E H.live roots) (fun k st=>Eg E roots N c H.a k kx kr st) n st=some r→Code.rounds E.P c Q n a w:=by
      intro n
      induction n with
      | zero=>intro st a w J β I h';simp [Ans] at h'
      | succ n ihn =>
        intro st a w J β I h'
        rw [Ans] at h'
        rw [rounds_succ]
        refine ih I h' (fun st' a' w' J' β' I' h''=>?_) (fun id st' a' w' J' β' I' h''=>hx _ _ _ _ _ _ I' h'') (fun st' a' w' J' β' I' h''=>hr _ _ _ _ _ I' h'')
        obtain ⟨s2,h2,h3⟩:=ub h''
        obtain ⟨J2,β2,I2⟩:=Aby I' h2
        exact ihn I2 h3
    obtain ⟨s2,h2,h3⟩:=ub hh
    obtain ⟨J2,β2,I2⟩:=Aby I h2
    exact key N I2 h3
  | exit id=>intro H kn kx kr st a w J β Q I hh hn hx hr;exact wp_exit (hx _ _ _ _ _ _ I hh)
  | ret=>intro H kn kx kr st a w J β Q I hh hn hx hr;exact wp_ret (hr _ _ _ _ _ I hh)
  | rangeFunc=>intro H kn kx kr st a w J β Q I hh;simp [Eg] at hh
  | scope=>intro H kn kx kr st a w J β Q I hh;simp [Eg] at hh
  | label=>intro H kn kx kr st a w J β Q I hh;simp [Eg] at hh
  | goto=>intro H kn kx kr st a w J β Q I hh;simp [Eg] at hh
  | refuse=>intro H kn kx kr st a w J β Q I hh;simp [Eg] at hh
end
end Gx

namespace Gx
open Go
structure FDone (Z:Start) (J:Bool→Nat→Prop) (β:B9) (h:Ak) (w:World):Prop where
  sim:SimH J β h w
  os:w.os=Z.w.os
  tape:w.tape=Z.w.tape
  output:w.output=Z.w.output
  size:Z.w.heap.size≤w.heap.size
  frame:∀ k,k<Z.w.heap.size→¬ Mut Z.β Z.h k→w.heap[k]?=Z.w.heap[k]?
  wr:∀ k,Mut β h k→k<Z.w.heap.size→Mut Z.β Z.h k
  jsub:∀ o k,Z.J o k→J o k
  jup:∀ o k,J o k→Z.J o k∨Mut Z.β Z.h k∨Z.w.heap.size≤k
  sizes:∀ k,Bb Z.w k≤Bb w k
  outs:∀ b x0 x,Am Z.h b=some x0→Am h b=some x→x.dead=false→(β b=Z.β b∧x.mp=x0.mp)∧x.sz=x0.sz∧(x0.mp=false→x.cells.length=x0.cells.length)∧x0.dead=false
  live:∀ b x,Am h b=some x→x.dead=false
def FOk (P:Program) (f:Nat) (args:List AV) (h:Ak) (res:AV) (h':Ak):Prop :=
  ∀ (J:Bool→Nat→Prop) (β:B9) (w:World) (vs:List Value),SimH J β h w→Reps J β h w args vs →
    Calls P f vs.toArray w fun e w'=>∃ vc J' β',e=.returned vc∧FDone ⟨J,β,h,w⟩ J' β' h' w'∧Rep J' β' h' w' res vc
def Az (P:Program) (f:Nat) (t:Tw):Prop:=∀ args h res h',(t.runK args h fun v h'=>some (v,h'))=some (res,h')→FOk P f args h res h'
def Bq6 (P:Program):List (Nat×Tw)→Prop
  | []=>True
  | p::r=>Az P p.1 p.2∧Bq6 P r
theorem Bne {P:Program} {R:Type} {r:R}:∀ {T:List (Nat×Tw)},Bq6 P T→∀ {f:Nat} {args:List AV} {h:Ak} {k:AV→Ak→Option R},Az3 T f args h k=some r →
    ∃ res h',FOk P f args h res h'∧k res h'=some r
  | [],_,f,args,h,k,hh=>by simp [Az3] at hh
  | (g,t)::T,hT,f,args,h,k,hh=>by
    rw [Az3] at hh
    cases hb:Nat.beq g f with
    | false=>rw [hb] at hh;exact Bne hT.2 hh
    | true =>
      rw [hb] at hh
      have:=Nat.eq_of_beq_eq_true hb
      subst this
      simp only [cond_true] at hh
      rw [t.eq] at hh
      obtain ⟨⟨res,h'⟩,h1,h2⟩:=ub hh
      exact ⟨res,h',hT.1 args h res h' h1,h2⟩
section
variable {R:Type} {r:R} {Z:Start} {nt:Nat} {J:Bool→Nat→Prop} {β:B9} {st:St} {a:Act} {w:World}
def A0h (tmps:Array Value):ResultVar→Sem Value
  | .tmp t=>pure (tmps.getD t undef)
  | .cell a t=>do loadVar t (← Go.asAddr (tmps.getD a undef))
theorem Btd {α β:Type} (f:α→Sem β) (xs:Array α):xs.mapM f=(List.toArray <$> xs.toList.mapM f):=by
  rw [← List.mapM_toArray]
theorem Bpe (fn:Func) (tmps:Array Value):results fn tmps=(do let vs ← fn.results.mapM (A0h tmps);pure (if h:vs.size=1 then vs[0] else .tuple vs)):=by
  unfold results
  congr 1
def Bnf (l:List Value):Value:=match l with | [v]=>v | l=>.tuple l.toArray
theorem Bng {P:Program} (fn:Func) (tmps:Array Value) {vs:List Value} (h:(fn.results.toList.mapM (A0h tmps)).run P w=.ok vs w):(results fn tmps).run P w=.ok (Bnf vs) w:=by
  rw [Bpe,Btd]
  simp only [map_eq_pure_bind,Sem.run_bind,h,Result.andThen_ok,Sem.run_pure]
  congr 1
  match vs with
  | []=>rfl
  | [v]=>rfl
  | v::u::r=>simp [Bnf]
theorem Bnh {P:Program} {t:TypeId} {v vc:Value} (h:(Instr.loadAt t v).run P w=.ok vc w):(do loadVar t (← Go.asAddr v):Sem Value).run P w=.ok vc w:=by
  unfold Instr.loadAt at h
  cases v with
  | pointer a =>
    cases a with
    | some a=>exact h
    | none=>simp [Instr.sureAddr] at h
  | _=>simp [Instr.sureAddr] at h
theorem Aeq {E:Env} (S:SimH J β st.h w) (SS:SimS J β st.h w st.s a.tmps):∀ (l:List ResultVar) {acc:List AV} {k:List AV→Option R},Lb E st l acc k=some r →
    ∃ vals vs,k (acc.reverse++vals)=some r∧(l.mapM (A0h a.tmps)).run E.P w=.ok vs w∧Reps J β st.h w vals vs
  | [],acc,k,hh=>⟨[],[],by simpa [Lb] using hh,by simp,by rw [Reps]⟩
  | .tmp t::l,acc,k,hh=>by
    rw [Lb] at hh
    obtain ⟨vals,vs,h1,h2,h3⟩:=Aeq S SS l hh
    refine ⟨Ee st.s t::vals,a.tmps.getD t undef::vs,by simpa using h1,?_,by rw [Reps];exact ⟨_,_,rfl,A8 SS (.tmp t),h3⟩⟩
    simp only [List.mapM_cons,A0h,Sem.run_bind,Sem.run_pure,Result.andThen_ok,h2]
  | .cell ad t::l,acc,k,hh=>by
    rw [Lb] at hh
    obtain ⟨v,vc,h0,h1,h2⟩:=A68 S (fun _ _ h=>h) hh (A8 SS (.tmp ad))
    obtain ⟨vals,vs,h3,h4,h5⟩:=Aeq S SS l h0
    refine ⟨v::vals,vc::vs,by simpa using h3,?_,by rw [Reps];exact ⟨_,_,rfl,h2,h5⟩⟩
    have:(A0h a.tmps (.cell ad t)).run E.P w=.ok vc w:=Bnh h1
    simp only [List.mapM_cons,Sem.run_bind,this,Sem.run_pure,Result.andThen_ok,h4]
theorem Bpf {i:Nat} {m:Nat×Nat} {v v':AV} {ups:Ups} {vc:Value} {h:Ak} (S:SimH J β h w) (hh:Bvs (Am h) i m v=some (v',ups)) (hv:Rep J β h w v vc) :
    ∃ J' β',Step J β h w J' β' (Ai ups h) w∧Rep J' β' (Ai ups h) w v' vc∧(∀ b x,Am (Ai ups h) b=some x→Am h b=none→Fr≤b):=by
  have old:∀ {ups:Ups},(∀ b,A1 ups b=true→∃ x,Am h b=some x)→∀ b x,Am (Ai ups h) b=some x→Am h b=none→Fr≤b:=by
    intro ups hu b x hx hn
    cases hi:A1 ups b with
    | true=>obtain ⟨y,hy⟩:=hu b hi;rw [hy] at hn;cases hn
    | false=>rw [Cb _ _ _ hi,hn] at hx;cases hx
  unfold Bvs at hh
  cases h0:Nat.beq m.1 0 with
  | true =>
    rw [h0] at hh;simp at hh
    obtain ⟨rfl,rfl⟩:=hh
    exact ⟨J,β,Step.refl S,hv,old (by simp [A1])⟩
  | false =>
    rw [h0,cond_false] at hh
    cases h1:Nat.beq m.1 1 with
    | true =>
      rw [h1,cond_true] at hh
      split at hh
      · simp at hh;obtain ⟨rfl,rfl⟩:=hh
        rw [Rep] at hv;subst hv
        refine ⟨J,β,Step.refl S,?_,old (by simp [A1])⟩
        rw [Rep,RepC]
        exact ⟨by simp,none,0,rfl,Nat.le_refl _,by simp,.inl rfl⟩
      · simp at hh;obtain ⟨rfl,rfl⟩:=hh
        refine ⟨J,β,Step.refl S,?_,old (by simp [A1])⟩
        rw [Rep,RepC] at hv ⊢
        obtain ⟨e1,A,cap,e2,e3,e4,e5⟩:=hv
        exact ⟨e1,A,cap,e2,e3,by simp,e5⟩
      · obtain ⟨⟨q1,q2,q3⟩,hq,h2⟩:=ub hh
        simp at h2;obtain ⟨rfl,rfl⟩:=h2
        obtain ⟨J',A,hA,_⟩:=Anv S (Looks.s fun _ _ h=>h) hq hv
        refine ⟨J',β,A,?_,old (Bij hq)⟩
        unfold Aug at hq
        obtain ⟨x,hx,h3⟩:=ub hq
        obtain ⟨_,h4⟩:=uc h3
        simp at h4
        obtain ⟨rfl,rfl,rfl⟩:=h4
        rw [Rep];exact hA
      · simp at hh
    | false =>
      rw [h1,cond_false] at hh
      cases h2:Nat.beq m.1 2 with
      | true =>
        rw [h2,cond_true] at hh
        split at hh
        · obtain ⟨hn,h3⟩:=uc' hh
          simp at h3;obtain ⟨rfl,rfl⟩:=h3
          have hn':Am h (nid 90000+i)=none:=by cases hx:Am h (nid 90000+i)<;>simp_all
          have A:=Step.newNone S (x:=Ef m.2) hn' rfl
          refine ⟨J,fun b=>if b=nid 90000+i then none else β b,A,?_,fun b x hx hb=>?_⟩
          · rw [Rep] at hv;subst hv;rw [Rep]
            exact ⟨Ef m.2,none,0,⟨by simp only [Ai];rw [Ae,if_pos rfl],rfl⟩,rfl,Nat.le_refl _,.inl rfl⟩
          · simp only [Ai] at hx
            rw [Ae] at hx
            by_cases e:b=nid 90000+i
            · subst e;unfold nid Fr;omega
            · rw [if_neg e,hb] at hx;cases hx
        · simp at hh;obtain ⟨rfl,rfl⟩:=hh
          exact ⟨J,β,Step.refl S,hv,old (by simp [A1])⟩
      | false =>
        rw [h2,cond_false] at hh
        split at hh
        · rename_i c
          obtain ⟨⟨q1,q2,q3⟩,hq,h3⟩:=ub hh
          simp at h3;obtain ⟨rfl,rfl⟩:=h3
          rw [Rep] at hv
          obtain ⟨cs,rfl,hc⟩:=hv
          obtain ⟨J',A,hA,hlen,_⟩:=Oz S (Looks.s fun _ _ h=>h) hq hc
          refine ⟨J',β,A,?_,old (Zh hq)⟩
          rw [Rep]
          exact ⟨cs,rfl,hlen.symm,hA⟩
        · simp at hh;obtain ⟨rfl,rfl⟩:=hh
          exact ⟨J,β,Step.refl S,hv,old (by simp [A1])⟩
        · simp at hh
theorem A7n {s:Fc}:∀ (vals:List AV) {i:Nat} {ms:List (Nat×Nat)} {h h':Ak} {vals':List AV} {vs:List Value} {J:Bool→Nat→Prop} {β:B9},
    Inv Z nt J β { s:=s,h:=h } a w→Bmp h i ms vals=some (vals',h')→Reps J β h w vals vs →
    ∃ J' β',Inv Z nt J' β' { s:=s,h:=h' } a w∧Reps J' β' h' w vals' vs∧∀ x v,Rep J β h w x v→Rep J' β' h' w x v
  | [],i,ms,h,h',vals',vs,J,β,I,hh,hv=>by
    simp [Bmp] at hh;obtain ⟨rfl,rfl⟩:=hh
    exact ⟨J,β,I,hv,fun _ _ h=>h⟩
  | v::r,i,ms,h,h',vals',vs,J,β,I,hh,hv=>by
    rw [Bmp] at hh
    obtain ⟨⟨v1,u1⟩,h1,h2⟩:=ub hh
    obtain ⟨⟨r2,hr⟩,h3,h4⟩:=ub h2
    simp at h4;obtain ⟨rfl,rfl⟩:=h4
    rw [Reps] at hv
    obtain ⟨u,us,rfl,hv1,hv2⟩:=hv
    obtain ⟨J1,β1,A,hA,hnew⟩:=Bpf I.sim h1 hv1
    have I1:=I.step A hnew
    obtain ⟨J2,β2,I2,hB,hm⟩:=A7n r I1 h3 (Reps.ext A.ext hv2)
    refine ⟨J2,β2,I2,?_,fun x v h=>hm x v (Rep.ext A.ext h)⟩
    rw [Reps]
    exact ⟨u,us,rfl,hm _ _ hA,hB⟩
theorem Bg5 {E:Env} {fn:Func} {modes:List (Nat×Nat)} {outs:List Nat} {k:AV→Ak→Option R} (I:Inv Z nt J β st a w) (hh:As E fn modes outs k st=some r) :
    ∃ res h' vc J' β',k res h'=some r∧(results fn a.tmps).run E.P w=.ok vc w∧FDone Z J' β' h' w∧Rep J' β' h' w res vc:=by
  unfold As at hh
  obtain ⟨vals,vs,h1,h2,h3⟩:=Aeq I.sim I.ss _ hh
  simp only [List.reverse_nil,List.nil_append] at h1
  obtain ⟨⟨vals',h'⟩,h4,h5⟩:=ub h1
  obtain ⟨J1,β1,I1,hR,_⟩:=A7n (s:=st.s) vals I h4 h3
  obtain ⟨hc,h6⟩:=uc h5
  simp at hc
  obtain ⟨hn,hs,hi,_⟩:=hc
  have hn:=Ri hn
  have hin:=Mq hi
  have hs:=Mq hs
  refine ⟨_,_,Bnf vs,J1,Amn _ _ β1,h6,Bng fn a.tmps h2,?_,Rep.ren hn hs ?_⟩
  · exact ⟨I1.sim.ren hn hin, I1.os, I1.tape, I1.output, I1.size, I1.frame, fun k hm => I1.wr k (Bk3 hn hm), I1.jsub, I1.jup, I1.sizes, fun b x0 x h0 hx hd => by
      obtain ⟨b',x',hb',he,hg,rfl⟩:=Lf hn b x hx
      have:=A7m hb' ⟨I1.zge b x0 h0,I1.zlt b x0 h0⟩ he
      subst this
      obtain ⟨⟨e1,em⟩,e2,e3,e4⟩:=I1.outs b' x0 x' h0 hg hd
      refine ⟨⟨?_,em⟩,e2,by rw [Kd];exact e3,e4⟩
      have:=Fg (β:=β1) hn hb'
      rw [he] at this
      rw [this];exact e1,fun b x hx=>by
      obtain ⟨b',x',hb',he,hg,rfl⟩:=Lf hn b x hx
      obtain ⟨x2,h7,h8⟩:=Bnc hb'
      rw [hg] at h7;simp at h7;subst h7;exact h8⟩
  · match vals',vs,hR with
    | [],vs,hR=>rw [Reps] at hR;subst hR;simp only [Bnf,Bvt];rw [Rep];exact ⟨[],rfl,by rw [Reps]⟩
    | [v],vs,hR =>
      rw [Reps] at hR
      obtain ⟨u,us,rfl,hu,hus⟩:=hR
      rw [Reps] at hus;subst hus
      exact hu
    | v::v2::l,vs,hR =>
      have hR':=hR
      rw [Reps] at hR
      obtain ⟨u,us,rfl,hu,hus⟩:=hR
      rw [Reps] at hus
      obtain ⟨u2,us2,rfl,_,_⟩:=hus
      simp only [Bnf,Bvt]
      rw [Rep]
      exact ⟨_,rfl,hR'⟩
end
end Gx

namespace Gx
open Go
section
variable {J J':Bool→Nat→Prop} {β:B9} {h:Ak} {w:World}
mutual
theorem Rep.noOrg:∀ {x:AV} {v:Value},Aek x=false→Rep J β h w x v→Rep (fun _=>J false) β h w x v
  | .own ..,v,_,hr=>by rw [Rep] at hr ⊢;exact hr
  | .optr ..,v,_,hr=>by rw [Rep] at hr ⊢;exact hr
  | .omap ..,v,_,hr=>by rw [Rep] at hr ⊢;exact hr
  | .pagg c o,v,ho,hr=>by
    rw [Aek] at ho;subst ho
    rw [Rep] at hr ⊢;exact hr
  | .agg c,v,ho,hr=>by
    rw [Aek] at ho
    rw [Rep] at hr ⊢
    obtain ⟨cs,h1,h2⟩:=hr
    exact ⟨cs,h1,Reps.noOrg ho h2⟩
  | .tup c,v,ho,hr=>by
    rw [Aek] at ho
    rw [Rep] at hr ⊢
    obtain ⟨cs,h1,h2⟩:=hr
    exact ⟨cs,h1,Reps.noOrg ho h2⟩
  | .fn f c,v,ho,hr=>by
    rw [Aek] at ho
    rw [Rep] at hr ⊢
    obtain ⟨cs,h1,h2⟩:=hr
    exact ⟨cs,h1,Reps.noOrg ho h2⟩
  | .undef,_,_,_=>by rw [Rep];trivial
  | .imm c n sz t o,v,ho,hr=>by
    rw [Aek] at ho;subst ho
    rw [Rep] at hr ⊢;exact hr
  | .iptr c o,v,ho,hr=>by
    rw [Aek] at ho;subst ho
    rw [Rep] at hr ⊢;exact hr
  | .int ..,v,_,hr=>by rw [Rep] at hr ⊢;exact hr
  | .bool _,v,_,hr=>by rw [Rep] at hr ⊢;exact hr
  | .str _,v,_,hr=>by rw [Rep] at hr ⊢;exact hr
  | .nsl,v,_,hr=>by rw [Rep] at hr ⊢;exact hr
  | .nilptr,v,_,hr=>by rw [Rep] at hr ⊢;exact hr
  | .nilfn,v,_,hr=>by rw [Rep] at hr ⊢;exact hr
theorem Reps.noOrg:∀ {c:List AV} {cs:List Value},Tb c=false→Reps J β h w c cs→Reps (fun _=>J false) β h w c cs
  | [],_,_,hr=>by rw [Reps] at hr ⊢;exact hr
  | x::r,cs,ho,hr=>by
    rw [Tb] at ho
    simp at ho
    rw [Reps] at hr ⊢
    obtain ⟨u,us,h1,h2,h3⟩:=hr
    exact ⟨u,us,h1,Rep.noOrg ho.1 h2,Reps.noOrg ho.2 h3⟩
end
theorem Bb4:∀ {c:List AV} {j:Nat} {x:AV},Tb c=false→c[j]?=some x→Aek x=false
  | [],j,x,_,hj=>by simp at hj
  | y::r,j,x,ho,hj=>by
    rw [Tb] at ho
    simp at ho
    cases j with
    | zero=>simp at hj;subst hj;exact ho.1
    | succ j=>exact Bb4 ho.2 (by simpa using hj)
theorem Bb5:∀ {h:Ak} {b:Nat} {x:Blk},Az4 h=false→Am h b=some x→x.taint=false∧(x.pure=false→Tb x.cells=false)
  | [],b,x,_,hb=>by simp [Am] at hb
  | (i,y)::r,b,x,ho,hb=>by
    rw [Az4] at ho
    simp at ho
    rw [Am] at hb
    cases hi:Nat.beq i b with
    | true =>
      rw [hi] at hb;simp at hb;subst hb
      refine ⟨ho.1.1,fun hp=>?_⟩
      have:=ho.1.2
      rw [hp] at this;simpa using this
    | false=>rw [hi] at hb;exact Bb5 ho.2 (by simpa using hb)
theorem SimH.noOrg (S:SimH J β h w) (ho:Az4 h=false):SimH (fun _=>J false) β h w:=by
  refine ⟨fun _ k hj => S.jlt _ k hj, fun k hj => hj, fun b x hx hd hm => ?_, fun b x hx hd hm => by
      obtain ⟨g1,g2,k,es,clk,g3,g4,g5,g6⟩:=S.mblk b x hx hd hm
      exact ⟨g1,g2,k,es,clk,g3,g4,g5,fun _ hg=>g6 false hg⟩,S.sep⟩
  obtain ⟨ht,hc⟩:=Bb5 ho hx
  rcases S.blk b x hx hd hm with h1 | ⟨k,o,cs,ty,fr,h1,h2,h3,h4,h5,h6,h7⟩
  · exact .inl h1
  · refine .inr ⟨k,o,cs,ty,fr,h1,h2,h3,h4,⟨fun hp=>?_,fun hp j c hj=>?_⟩,fun hs _=>h6 hs _,fun hs=>?_⟩
    · have:=h5.1 hp;rw [ht] at this;exact this
    · obtain ⟨u,g1,g2,g3⟩:=h5.2 hp j c hj
      exact ⟨u,g1,Rep.noOrg (Bb4 (hc hp) hj) g2,g3⟩
    · have:=h7 hs;rw [ht] at this;exact this
theorem Ext.grow (hJ:∀ o k,J o k→J' o k):Ext J β h w J' β h w:=⟨hJ,fun _ _ _=>rfl,fun b x hb=>⟨x,⟨hb,rfl⟩,by cases hd:x.dead<;>simp⟩,fun _ _ _ _=>Nat.le_refl _⟩
theorem SimH.grow (S:SimH J β h w) (hJ:∀ o k,J o k→J' o k) (hlt:∀ o k,J' o k→k<w.heap.size) (hft:∀ k,J' false k→J' true k)
    (hun:∀ b x k o,Am h b=some x→x.dead=false→x.sealed=false→β b=some (k,o)→∀ g,¬ J' g k):SimH J' β h w:=by
  refine ⟨hlt, hft, fun b x hx hd hm => ?_, fun b x hx hd hm => by
      obtain ⟨g1,g2,k,es,clk,g3,g4,g5,g6⟩:=S.mblk b x hx hd hm
      exact ⟨g1,g2,k,es,clk,g3,g4,g5,hun b x k 0 hx hd g2 g3⟩,S.sep⟩
  rcases S.blk b x hx hd hm with h1 | ⟨k,o,cs,ty,fr,h1,h2,h3,h4,h5,h6,h7⟩
  · exact .inl h1
  · exact .inr ⟨k,o,cs,ty,fr,h1,h2,h3,h4,h5.ext (Ext.grow hJ),fun hs=>hun b x k o hx hd hs h1,fun hs=>hJ _ _ (h7 hs)⟩
def Bwi (β:B9) (h:Ak) (fz:List Nat) (k:Nat):Prop:=∃ b x o,b ∈ fz∧Am h b=some x∧x.dead=false∧x.sealed=false∧β b=some (k,o)
def JS (J:Bool→Nat→Prop) (β:B9) (h:Ak) (fz:List Nat):Bool→Nat→Prop:=fun o k=>J o k∨(o=true∧Bwi β h fz k)
theorem Bb6 {g:Bg} {b off n:Nat} {x:Blk} {vc:Value} {fz:List Nat} (S:SimH J β h w) (hl:Looks g h) (hx:G9 g b=some x) (hp:x.pure=true) (hf:x.sealed=false→b ∈ fz) (hv:Rep J β h w (.own b off n) vc) :
    Rep (JS J β h fz) β h w (.imm ((x.cells.drop off).take (n*x.sz)) n x.sz false (!x.sealed||x.taint)) vc:=by
  unfold G9 at hx
  obtain ⟨x0,hx0,hx⟩:=ub hx
  obtain ⟨hd,hx⟩:=uc' hx
  simp at hx;subst hx
  have hy:=hl b _ hx0
  rw [Rep]
  have key:=(Bq0 (J':=fun o k=>o≠x0.taint∨JS J β h fz (!x0.sealed||x0.taint) k) S hy hd hp hv (fun k o hβ=>.inr ?_) (fun o k hj=>?_) false (!x0.sealed||x0.taint)).2 (by simp)
  · exact RepC.keep (fun k hk=>by rcases hk with hk | hk;exact absurd rfl hk;exact hk) (fun _ _=>rfl) key
  · cases hs:x0.sealed with
    | false =>
      simp only [Bool.not_false,Bool.true_or]
      exact .inr ⟨rfl,b,x0,o,hf hs,hy,hd,hs,hβ⟩
    | true =>
      simp only [Bool.not_true,Bool.false_or]
      rcases S.blk b x0 hy hd (Bs6 hy hv) with ⟨h1,_⟩ | ⟨k',o',cs,ty,fr,h1,h2,h3,h4,h5,h6,h7⟩
      · rw [hβ] at h1;cases h1
      · rw [hβ] at h1;simp at h1;obtain ⟨rfl,rfl⟩:=h1
        exact .inl (h7 hs)
  · by_cases e:o=x0.taint
    · subst e
      right
      cases hs:x0.sealed with
      | false =>
        simp only [Bool.not_false,Bool.true_or]
        left
        cases ht:x0.taint with
        | false=>rw [ht] at hj;exact S.jft k hj
        | true=>rw [ht] at hj;exact hj
      | true=>simp only [Bool.not_true,Bool.false_or];exact .inl hj
    · exact .inl e
theorem JS.mono (S:SimH J β h w) {fz:List Nat} {a b:Bool} (k:Nat) (hk:JS J β h fz a k):JS J β h fz (a||b) k:=by
  cases a
  · cases b
    · exact hk
    · rcases hk with hk | ⟨h1,_⟩
      · exact .inl (S.jft k hk)
      · cases h1
  · exact hk
theorem Bg6 {g:Bg} {v v':AV} {o:Bool} {vc:Value} {fz:List Nat} (S:SimH J β h w) (hl:Looks g h) (hh:Ahs g v=some (v',o)) (hf:∀ b off n x,v=.own b off n→g b=some x→x.sealed=false→b ∈ fz) (hv:Rep J β h w v vc) :
    RepC (JS J β h fz o) w v' vc:=by
  cases v
  case own b off n =>
    rw [Ahs] at hh
    obtain ⟨x,hx,h1⟩:=ub hh
    obtain ⟨hp,h2⟩:=uc h1
    simp at h2
    obtain ⟨rfl,rfl⟩:=h2
    have:=Bb6 S hl hx hp (fun hs=>by
      unfold G9 at hx
      obtain ⟨x0,hx0,hx⟩:=ub hx
      obtain ⟨hd,hx⟩:=uc' hx
      simp at hx;subst hx
      exact hf b off n x0 rfl hx0 hs) hv
    rw [Rep] at this;exact this
  case imm c n sz t org =>
    simp [Ahs] at hh;obtain ⟨rfl,rfl⟩:=hh
    rw [Rep,RepC] at hv
    rw [RepC]
    obtain ⟨e1,A,cap,e2,e3,e4,e5⟩:=hv
    refine ⟨e1,A,cap,e2,e3,by simp,?_⟩
    rcases e5 with e5 | ⟨a,e6,e7,e8⟩
    · exact .inl e5
    · exact .inr ⟨a,e6,.inl e7,RepCs.keep (fun k hk=>.inl hk) (fun _ _=>rfl) (fun _=>rfl) e8⟩
  case iptr c org =>
    simp [Ahs] at hh;obtain ⟨rfl,rfl⟩:=hh
    rw [Rep] at hv
    exact RepC.keep (fun k hk=>.inl hk) (fun _ _=>rfl) hv
  all_goals first
    | (simp [Ahs] at hh;done)
    | (simp [Ahs] at hh;obtain ⟨rfl,rfl⟩:=hh;rw [Rep] at hv;rw [RepC];exact hv)
theorem An1 {g:Bg} {fz:List Nat} (S:SimH J β h w) (hl:Looks g h):∀ {c c':List AV} {o:Bool} {cs:List Value},Ano g c=some (c',o)→(∀ b ∈ H9 g c,b ∈ fz)→Reps J β h w c cs →
    cs.length=c'.length∧∀ (j:Nat) (x:AV),c'[j]?=some x→∃ u,cs[j]?=some u∧RepC (JS J β h fz o) w x u
  | [],c',o,cs,hh,hf,hv=>by
    simp [Ano] at hh;obtain ⟨rfl,rfl⟩:=hh
    rw [Reps] at hv;subst hv
    exact ⟨rfl,fun j x hj=>by simp at hj⟩
  | v::r,c',o,cs,hh,hf,hv=>by
    rw [Ano] at hh
    obtain ⟨⟨v1,o1⟩,h1,hh⟩:=ub hh
    obtain ⟨⟨r1,o2⟩,h2,hh⟩:=ub hh
    simp at hh;obtain ⟨rfl,rfl⟩:=hh
    rw [Reps] at hv
    obtain ⟨u,us,rfl,g1,g2⟩:=hv
    have hf2:∀ b ∈ H9 g r,b ∈ fz:=fun b hb=>hf b (by
      cases v<;>simp only [H9]<;>try exact hb
      split
      · rename_i x _;cases x.sealed<;>simp [hb]
      · exact hb)
    have a1:=Bg6 (fz:=fz) S hl h1 (fun b off n x e hx hs=>hf b (by subst e;simp [H9,hx,hs])) g1
    obtain ⟨b1,b2⟩:=An1 S hl h2 hf2 g2
    refine ⟨by simp [b1],fun j x hj=>?_⟩
    cases j with
    | zero=>simp at hj;subst hj;exact ⟨u,by simp,RepC.keep (fun k hk=>JS.mono S k hk) (fun _ _=>rfl) a1⟩
    | succ j =>
      obtain ⟨u',e1,e2⟩:=b2 j x (by simpa using hj)
      exact ⟨u',by simpa using e1,RepC.keep (fun k hk=>by rw [Bool.or_comm];exact JS.mono S k hk) (fun _ _=>rfl) e2⟩
theorem Bg7 {g:Bg} {v v':AV} {q:Bool} {vc:Value} {fz:List Nat} (S:SimH J β h w) (hl:Looks g h) (hh:Bkk g v=some (v',q)) (hf:∀ b ∈ Af5 g v,b ∈ fz) (hv:Rep J β h w v vc) :
    Rep (JS J β h fz) β h w v' vc∧Fd v'=[]:=by
  unfold Bkk at hh
  split at hh
  · rename_i b off n
    obtain ⟨x,hx,h1⟩:=ub hh
    obtain ⟨hp,h2⟩:=uc h1
    simp at h2
    obtain ⟨rfl,_⟩:=h2
    exact ⟨Bb6 S hl hx hp (fun hs=>by
      unfold G9 at hx
      obtain ⟨x0,hx0,hx⟩:=ub hx
      obtain ⟨hd,hx⟩:=uc' hx
      simp at hx;subst hx
      exact hf b (by simp [Af5,hx0,hs])) hv,by simp [Fd]⟩
  · simp at hh;obtain ⟨rfl,_⟩:=hh
    refine ⟨?_,by simp [Fd]⟩
    rw [Rep,RepC] at hv ⊢
    obtain ⟨e1,A,cap,e2,e3,e4,e5⟩:=hv
    refine ⟨e1,A,cap,e2,e3,by simp,?_⟩
    rcases e5 with e5 | ⟨a,e6,e7,e8⟩
    · exact .inl e5
    · exact .inr ⟨a,e6,.inl e7,RepCs.keep (fun k hk=>.inl hk) (fun _ _=>rfl) (fun _=>rfl) e8⟩
  · rename_i b off
    obtain ⟨x,hx,h1⟩:=ub hh
    obtain ⟨hp,h2⟩:=uc h1
    simp at h2
    obtain ⟨rfl,_⟩:=h2
    unfold G9 at hx
    obtain ⟨x0,hx0,hx⟩:=ub hx
    obtain ⟨hd,hx⟩:=uc' hx
    simp at hx;subst hx
    have hy:=hl b _ hx0
    refine ⟨?_,by simp [Fd]⟩
    rw [Rep] at hv
    obtain ⟨x1,k,o,⟨g1,gm⟩,g2,g3⟩:=hv
    rw [hy] at g1;simp at g1;subst g1
    rcases g3 with g3 | g3
    · simp [hd] at g3
    · rcases S.blk b x0 hy hd gm with ⟨h1,_⟩ | ⟨k',o',cs,ty,fr,h1,h2,h3,h4,h5,h6,h7⟩
      · rw [g3] at h1;cases h1
      · rw [g3] at h1;simp at h1;obtain ⟨rfl,rfl⟩:=h1
        have hin:∀ k2,J x0.taint k2→JS J β h fz (!x0.sealed||x0.taint) k2:=by
          intro k2 hj
          left
          cases hs:x0.sealed with
          | false =>
            simp only [Bool.not_false,Bool.true_or]
            cases ht:x0.taint with
            | false=>rw [ht] at hj;exact S.jft k2 hj
            | true=>rw [ht] at hj;exact hj
          | true=>simp only [Bool.not_true,Bool.false_or];exact hj
        rw [Rep,RepC]
        refine ⟨_,g2,?_,?_⟩
        · cases hs:x0.sealed with
          | false =>
            simp only [Bool.not_false,Bool.true_or]
            exact .inr ⟨rfl,b,x0,o,hf b (by simp [Af5,hx0,hs]),hy,hd,hs,g3⟩
          | true =>
            simp only [Bool.not_true,Bool.false_or]
            exact .inl (h7 hs)
        · refine RepCs.keep hin (fun _ _=>rfl) (fun j=>?_) ((h5.1 hp).drop off)
          rw [Addr.add_mid,Uz h2,Nat.add_assoc]
  · rename_i c
    obtain ⟨⟨c1,o1⟩,h1,h2⟩:=ub hh
    simp at h2;obtain ⟨rfl,_⟩:=h2
    rw [Rep] at hv
    obtain ⟨cs,rfl,hv⟩:=hv
    obtain ⟨b1,b2⟩:=An1 (fz:=fz) S hl h1 (by simpa [Af5] using hf) hv
    refine ⟨?_,by simp [Fd]⟩
    rw [Rep]
    refine ⟨cs,rfl,b1,?_⟩
    rw [B3]
    intro j x hj
    obtain ⟨u,e1,e2⟩:=b2 j x hj
    exact ⟨u,by simpa using e1,e2⟩
  · simp at hh;obtain ⟨rfl,_⟩:=hh
    exact ⟨Rep.ext (Ext.grow fun _ _ hj=>.inl hj) hv,by simp [Fd,Hb]⟩
  · simp at hh
  · simp at hh
  · simp at hh
  · simp at hh
  · simp at hh;obtain ⟨rfl,_⟩:=hh
    refine ⟨Rep.ext (Ext.grow fun _ _ hj=>.inl hj) hv,?_⟩
    cases v<;>first | rfl | simp_all
theorem Zm {g:Bg} {fz:List Nat} (S:SimH J β h w) (hl:Looks g h):∀ {args:List AV} {ms:List Bool} {args':List AV} {im fz':List Nat} {vs:List Value},
    Af6 g ms args=some (args',im,fz')→(∀ b ∈ fz',b ∈ fz)→Reps J β h w args vs→Reps (JS J β h fz) β h w args' vs∧∀ b ∈ Hb args',b ∈ im
  | [],ms,args',im,fz',vs,hh,hf,hv=>by
    simp [Af6] at hh;obtain ⟨rfl,rfl,rfl⟩:=hh
    rw [Reps] at hv;subst hv
    exact ⟨by rw [Reps],by simp [Hb]⟩
  | v::r,ms,args',im,fz',vs,hh,hf,hv=>by
    rw [Af6] at hh
    rw [Reps] at hv
    obtain ⟨u,us,rfl,hv1,hv2⟩:=hv
    cases hm:ms.headD false with
    | true =>
      rw [hm,cond_true] at hh
      obtain ⟨⟨a2,i2,f2⟩,h1,h2⟩:=ub hh
      simp at h2;obtain ⟨rfl,rfl,rfl⟩:=h2
      obtain ⟨g1,g2⟩:=Zm S hl h1 hf hv2
      refine ⟨by rw [Reps];exact ⟨u,us,rfl,Rep.ext (Ext.grow fun _ _ hj=>.inl hj) hv1,g1⟩,fun b hb=>?_⟩
      rw [Hb] at hb
      rcases List.mem_append.1 hb with hb | hb
      · exact List.mem_append.2 (.inl hb)
      · exact List.mem_append.2 (.inr (g2 b hb))
    | false =>
      rw [hm,cond_false] at hh
      obtain ⟨⟨v1,b1⟩,h0,hh⟩:=ub hh
      obtain ⟨⟨a2,i2,f2⟩,h1,h2⟩:=ub hh
      simp at h2;obtain ⟨rfl,rfl,rfl⟩:=h2
      obtain ⟨e1,e2⟩:=Bg7 S hl h0 (fun b hb=>hf b (List.mem_append.2 (.inl hb))) hv1
      obtain ⟨g1,g2⟩:=Zm S hl h1 (fun b hb=>hf b (List.mem_append.2 (.inr hb))) hv2
      refine ⟨by rw [Reps];exact ⟨u,us,rfl,e1,g1⟩,fun b hb=>?_⟩
      rw [Hb,e2] at hb
      exact g2 b (by simpa using hb)
end
end Gx

namespace Gx
open Go
theorem Bip {g g':Bg} {ρ:Nat→Nat}:∀ {ids:List Nat},(∀ b ∈ ids,g b=g' b)→sub g ρ ids=sub g' ρ ids
  | [],_=>rfl
  | b::r,h=>by
    rw [sub,sub,h b (by simp),Bip (fun c hc=>h c (by simp [hc]))]
theorem An2 {g:Bg}:∀ {l:List Nat},Anq g l=true→∀ b ∈ l,∃ x,g b=some x∧x.dead=false
  | [],_,b,hb=>by simp at hb
  | i::r,h,b,hb=>by
    rw [Anq] at h
    simp at h
    rcases List.mem_cons.1 hb with rfl | hb
    · cases hx:g b with
      | none=>rw [hx] at h;simp at h
      | some x=>rw [hx] at h;exact ⟨x,rfl,by simpa using h.1⟩
    · exact An2 h.2 b hb
theorem Bq7:∀ {l m:List Nat},Bmn l m=true→∀ b ∈ l,b ∉ m
  | [],m,_,b,hb=>by simp at hb
  | i::r,m,h,b,hb=>by
    rw [Bmn] at h
    simp at h
    rcases List.mem_cons.1 hb with rfl | hb
    · intro hm;have:=Iz.2 hm;rw [this] at h;simp at h
    · exact Bq7 h.2 b hb
theorem Agf {d:Nat}:∀ {l:List (Nat×Nat)} {b:Nat},b ∈ l.map (·.1)→Gp d l b ∈ l.map (·.2)
  | [],b,hb=>by simp at hb
  | (i,x)::r,b,hb=>by
    rw [Gp]
    cases hi:Nat.beq i b with
    | true=>simp
    | false =>
      have hm:b ∈ r.map (·.1):=by
        rw [List.map_cons] at hb
        rcases List.mem_cons.1 hb with h | h
        · exact absurd h.symm (Wg hi)
        · exact h
      simp only [cond_false,List.map_cons]
      exact List.mem_cons_of_mem _ (Agf hm)
theorem Wz {d:Nat}:∀ {l m:List (Nat×Nat)} {b:Nat},Gp d (l++m) b=if b ∈ l.map (·.1) then Gp d l b else Gp d m b
  | [],m,b=>by simp
  | (i,x)::r,m,b=>by
    rw [List.cons_append,Gp,Gp,Wz]
    cases hi:Nat.beq i b with
    | true=>have:=Nat.eq_of_beq_eq_true hi;subst this;simp
    | false =>
      have:=Wg hi
      simp only [cond_false,List.map_cons,List.mem_cons]
      by_cases hb:b ∈ r.map (·.1)
      · rw [if_pos hb,if_pos (.inr hb)]
      · rw [if_neg hb,if_neg (by rintro (h | h);exact this h.symm;exact hb h)]
theorem Ib:∀ {base:Nat} {l:List Nat},(Av base l).map (·.1)=l
  | _,[]=>rfl
  | base,i::r=>by rw [Av,List.map_cons,Ib]
theorem Bb7 {d d':Nat}:∀ {l:List Nat} {base b:Nat},b ∈ l→Gp d' ((Av base l).map fun p=>(p.2,p.1)) (Gp d (Av base l) b)=b
  | [],base,b,hb=>by simp at hb
  | i::r,base,b,hb=>by
    rw [Av,Gp,List.map_cons,Gp]
    cases hi:Nat.beq i b with
    | true=>have:=Nat.eq_of_beq_eq_true hi;subst this;simp
    | false =>
      have hm:b ∈ r:=by
        rcases List.mem_cons.1 hb with h | h
        · exact absurd h.symm (Wg hi)
        · exact h
      simp only [cond_false]
      have h1:=Zl (d:=d) (base:=base+1) hm
      rw [At6 (show base≠Gp d (Av (base+1) r) b by omega)]
      exact Bb7 hm
theorem Rk:∀ {base:Nat} {l:List Nat} {c:Nat},c ∈ (Av base l).map (·.2)→base≤c∧c<base+l.length
  | _,[],c,hc=>by simp [Av] at hc
  | base,i::r,c,hc=>by
    rw [Av,List.map_cons] at hc
    rcases List.mem_cons.1 hc with h | h
    · simp at h;subst h;simp
    · have:=Rk h;simp only [List.length_cons];omega
theorem Zn:∀ {base:Nat} {l:List Nat},((Av base l).map (·.2)).Nodup
  | _,[]=>by simp [Av]
  | base,i::r=>by
    rw [Av,List.map_cons,List.nodup_cons]
    exact ⟨fun h=>by have:=Rk h;simp at this;omega,Zn⟩
theorem An3:∀ {base:Nat} {l:List Nat} {b:Nat},b ∈ l→(b,Gp 0 (Av base l) b) ∈ Av base l
  | _,[],b,hb=>by simp at hb
  | base,i::r,b,hb=>by
    rw [Av,Gp]
    cases hi:Nat.beq i b with
    | true=>have:=Nat.eq_of_beq_eq_true hi;subst this;simp
    | false =>
      have hm:b ∈ r:=by
        rcases List.mem_cons.1 hb with h | h
        · exact absurd h.symm (Wg hi)
        · exact h
      simp only [cond_false]
      exact List.mem_cons_of_mem _ (An3 hm)
def Bpg (x:Blk):Blk:={ x with dead:=true,pure:=true,cells:=[] }
theorem Ke:∀ {ups:Ups} {h:Ak} {b:Nat} {o:Option Blk},(ups.map (·.1)).Nodup→(b,o) ∈ ups→Am (Ai ups h) b=match o with | some x=>some x | none=>(Am h b).map Bpg
  | [],h,b,o,_,hm=>by simp at hm
  | (i,y)::r,h,b,o,hn,hm=>by
    rw [List.map_cons,List.nodup_cons] at hn
    rcases List.mem_cons.1 hm with he | hm'
    · simp at he
      obtain ⟨rfl,rfl⟩:=he
      have hno:A1 r b=false:=by
        have:∀ {r:Ups},b ∉ r.map (·.1)→A1 r b=false:=by
          intro r
          induction r with
          | nil=>intro _;rfl
          | cons p r ih =>
            intro h
            simp only [List.map_cons,List.mem_cons,not_or] at h
            rw [A1,At6 (fun e=>h.1 e.symm)]
            exact ih h.2
        exact this hn.1
      cases o with
      | some x=>rw [Ai,Cb _ _ _ hno,Ae,if_pos rfl]
      | none =>
        rw [Ai,Cb _ _ _ hno]
        cases hx:Am h b with
        | none=>simp [hx]
        | some x=>simp only [Option.map_some];rw [Ae,if_pos rfl];rfl
    · have hne:b≠i:=fun e=>by subst e;exact hn.1 (List.mem_map.2 ⟨_,hm',rfl⟩)
      cases y with
      | some x =>
        rw [Ai,Ke hn.2 hm']
        cases o with
        | some _=>rfl
        | none=>simp only;rw [Ae,if_neg hne]
      | none =>
        rw [Ai,Ke hn.2 hm']
        cases o with
        | some _=>rfl
        | none =>
          simp only
          split
          · rw [Ae,if_neg hne]
          · rfl
theorem A35:∀ {ups:Ups} {b:Nat},A1 ups b=true↔b ∈ ups.map (·.1)
  | [],b=>by simp [A1]
  | (i,y)::r,b=>by
    rw [A1,List.map_cons,List.mem_cons,← A35]
    cases hi:Nat.beq i b with
    | true=>have:=Nat.eq_of_beq_eq_true hi;subst this;simp
    | false=>have:=Wg hi;simp;intro e;exact absurd e.symm this
theorem Bb8 {β:B9} {h:Ak} {ρ:Nat→Nat} {ids:List Nat} (hn:(ids.map ρ).Nodup) {k:Nat} (hm:Mut (Amn ρ ids β) (sub (Am h) ρ ids) k) :
    ∃ b x o,b ∈ ids∧Am h b=some x∧x.dead=false∧x.sealed=false∧β b=some (k,o):=by
  obtain ⟨c,y,o,hy,hd,hs,hβ⟩:=hm
  obtain ⟨b,x,hb,rfl,hx,rfl⟩:=Lf hn c y hy
  rw [Fg hn hb] at hβ
  exact ⟨b,x,o,hb,hx,hd,hs,hβ⟩
theorem SimH.unJ {J:Bool→Nat→Prop} {β:B9} {h:Ak} {w:World} (S:SimH J β h w) {b:Nat} {x:Blk} {k o:Nat} (hb:Am h b=some x) (hd:x.dead=false) (hs:x.sealed=false) (hβ:β b=some (k,o)):∀ g,¬ J g k:=by
  cases hm:x.mp with
  | false =>
    rcases S.blk b x hb hd hm with ⟨h2,_⟩ | ⟨k',o2,cs,ty,fr,h2,h3,h4,h5,h6,h7,h8⟩
    · rw [hβ] at h2;cases h2
    · rw [hβ] at h2;simp at h2;obtain ⟨rfl,rfl⟩:=h2
      exact h7 hs
  | true =>
    obtain ⟨_,_,k',es,clk,h2,_,_,h3⟩:=S.mblk b x hb hd hm
    rw [hβ] at h2;simp at h2;obtain ⟨rfl,_⟩:=h2
    exact h3
theorem SimH.seJ {J:Bool→Nat→Prop} {β:B9} {h:Ak} {w:World} (S:SimH J β h w) {b:Nat} {x:Blk} {k o:Nat} (hb:Am h b=some x) (hd:x.dead=false) (hs:x.sealed=true) (hβ:β b=some (k,o)):J x.taint k:=by
  cases hm:x.mp with
  | false =>
    rcases S.blk b x hb hd hm with ⟨h2,_⟩ | ⟨k',o2,cs,ty,fr,h2,h3,h4,h5,h6,h7,h8⟩
    · rw [hβ] at h2;cases h2
    · rw [hβ] at h2;simp at h2;obtain ⟨rfl,rfl⟩:=h2
      exact h8 hs
  | true =>
    have:=(S.mblk b x hb hd hm).2.1
    rw [hs] at this;cases this
theorem Step.merge {J J0 J1:Bool→Nat→Prop} {β β1:B9} {h h1 H:Ak} {w w':World} {D ids:List Nat} (S:SimH J β h w) (S1:SimH J0 β1 h1 w')
    (hH:∀ b,b ∉ D→Am H b=Am h b)
    (hD:∀ b x,b ∈ D→Am H b=some x→x.dead=false→Am h1 b=some x)
    (hD1:∀ b x,Am h1 b=some x→b ∈ D∧Am H b=some x)
    (hnew:∀ b x,b ∈ D→b ∉ ids→Am h b≠some x)
    (hold:∀ b x,b ∈ ids→Am h b=some x→∃ x',(Am H b=some x'∧x'.mp=x.mp)∧(x'.dead=true∨(x.dead=false∧β1 b=β b∧x'.sz=x.sz∧(x.mp=false→x'.cells.length=x.cells.length))))
    (hids:∀ b ∈ ids,b ∈ D)
    (os:w'.os=w.os) (tape:w'.tape=w.tape) (output:w'.output=w.output) (size:w.heap.size≤w'.heap.size)
    (frame:∀ k,k<w.heap.size→(¬ ∃ b x o,b ∈ ids∧Am h b=some x∧x.dead=false∧x.sealed=false∧β b=some (k,o))→w'.heap[k]?=w.heap[k]?)
    (wr:∀ k,Mut β1 h1 k→k<w.heap.size→∃ b x o,b ∈ ids∧Am h b=some x∧x.dead=false∧x.sealed=false∧β b=some (k,o))
    (jup:∀ o k,J0 o k→J o k∨(∃ b x o,b ∈ ids∧Am h b=some x∧x.dead=false∧x.sealed=false∧β b=some (k,o))∨w.heap.size≤k)
    (sizes:∀ k,Bb w k≤Bb w' k) :
    Step J β h w (fun o k=>J o k∨J0 o k) (fun b=>if b ∈ D then β1 b else β b) H w'∧Ext J0 β1 h1 w' (fun o k=>J o k∨J0 o k) (fun b=>if b ∈ D then β1 b else β b) H w':=by
  have E0:Ext J0 β1 h1 w' (fun o k=>J o k∨J0 o k) (fun b=>if b ∈ D then β1 b else β b) H w':=by
    refine ⟨fun _ _ hj=>.inr hj,fun _ _ _=>rfl,fun b x hb=>?_,fun _ _ _ _=>Nat.le_refl _⟩
    obtain ⟨h2,h3⟩:=hD1 b x hb
    refine ⟨x,⟨h3,rfl⟩,?_⟩
    cases hd:x.dead
    · exact .inr ⟨rfl,by simp [h2],rfl,fun _=>rfl⟩
    · exact .inl rfl
  have keepJ:∀ o k,J o k→w'.heap[k]?=w.heap[k]?:=by
    intro o k hj
    refine frame k (S.jlt o k hj) ?_
    rintro ⟨b,x,o',_,hb,hd,hs,hβ⟩
    exact S.unJ hb hd hs hβ o hj
  have E:Ext J β h w (fun o k=>J o k∨J0 o k) (fun b=>if b ∈ D then β1 b else β b) H w':=by
    refine ⟨fun _ _ hj=>.inl hj,keepJ,fun b x hb=>?_,fun b k o _=>sizes k⟩
    by_cases hi:b ∈ ids
    · obtain ⟨x',h2,h3⟩:=hold b x hi hb
      refine ⟨x',h2,?_⟩
      simp only [hids b hi,if_true]
      exact h3
    · have hnd:b ∉ D:=fun hd=>hnew b x hd hi hb
      refine ⟨x,⟨by rw [hH b hnd];exact hb,rfl⟩,?_⟩
      cases hd:x.dead
      · exact .inr ⟨rfl,by simp [hnd],rfl,fun _=>rfl⟩
      · exact .inl rfl
  have out:∀ {b x},b ∉ D→Am H b=some x→Am h b=some x:=fun hb hx=>by rw [← hH _ hb];exact hx
  refine ⟨⟨E, ⟨?_, ?_, fun b x hx hd hm => ?_, fun b x hx hd hm => by
      by_cases hb:b ∈ D
      · have h2:=hD b x hb hx hd
        have M:=S1.mblk b x h2 hd hm
        refine M.keep (by simp [hb]) (fun _ _ _=>rfl) (fun g k o hβ hj=>?_)
        rcases hj with hj | hj
        · exfalso
          by_cases hk:k<w.heap.size
          · obtain ⟨b',x',o',hb',hx',hd',hs',hβ'⟩:=wr k ⟨b,x,o,h2,hd,M.2.1,hβ⟩ hk
            exact S.unJ hx' hd' hs' hβ' g hj
          · exact hk (S.jlt g k hj)
        · exact hj
      · have h2:=out hb hx
        have M:=S.mblk b x h2 hd hm
        have hnm:∀ k o,β b=some (k,o)→¬ ∃ b x o,b ∈ ids∧Am h b=some x∧x.dead=false∧x.sealed=false∧β b=some (k,o):=by
          rintro k o h3 ⟨b',x',o',hb',hx',hd',hs',hβ'⟩
          have:=S.sep b b' x x' k o o' h2 hx' hd hd' M.2.1 h3 hβ'
          subst this
          exact hb (hids b hb')
        refine M.keep (by simp [hb]) (fun k o hβ=>frame k (Vt S h2 hd hβ) (hnm k o hβ)) (fun g k o hβ hj=>?_)
        rcases hj with hj | hj
        · exact hj
        · rcases jup g k hj with hj | hj | hj
          · exact hj
          · exact absurd hj (hnm k o hβ)
          · have:=Vt S h2 hd hβ;omega,?_⟩,os,tape,output,size,?_,?_,?_⟩,E0⟩
  · rintro o k (hj | hj)
    · exact Nat.lt_of_lt_of_le (S.jlt o k hj) size
    · exact S1.jlt o k hj
  · rintro k (hj | hj)
    · exact .inl (S.jft k hj)
    · exact .inr (S1.jft k hj)
  · by_cases hb:b ∈ D
    · have h2:=hD b x hb hx hd
      rcases S1.blk b x h2 hd hm with ⟨h3,h4⟩ | ⟨k,o,cs,ty,fr,h3,h4,h5,h6,h7,h8,h9⟩
      · exact .inl ⟨by simp [hb,h3],h4⟩
      · refine .inr ⟨k,o,cs,ty,fr,by simp [hb,h3],h4,h5,h6,h7.ext E0,fun hs g hj=>?_,fun hs=>.inr (h9 hs)⟩
        rcases hj with hj | hj
        · by_cases hk:k<w.heap.size
          · obtain ⟨b',x',o',hb',hx',hd',hs',hβ'⟩:=wr k ⟨b,x,o,h2,hd,hs,h3⟩ hk
            exact S.unJ hx' hd' hs' hβ' g hj
          · exact hk (S.jlt g k hj)
        · exact h8 hs g hj
    · have h2:=out hb hx
      rcases S.blk b x h2 hd hm with ⟨h3,h4⟩ | ⟨k,o,cs,ty,fr,h3,h4,h5,h6,h7,h8,h9⟩
      · exact .inl ⟨by simp [hb,h3],h4⟩
      · have hk:=Asj h4
        have hnm:x.sealed=false→¬ ∃ b x o,b ∈ ids∧Am h b=some x∧x.dead=false∧x.sealed=false∧β b=some (k,o):=by
          rintro hs ⟨b',x',o',hb',hx',hd',hs',hβ'⟩
          have:=S.sep b b' x x' k o o' h2 hx' hd hd' hs h3 hβ'
          subst this
          exact hb (hids b hb')
        have same:w'.heap[k]?=w.heap[k]?:=by
          cases hs:x.sealed with
          | false=>exact frame k hk (hnm hs)
          | true=>exact keepJ _ k (h9 hs)
        refine .inr ⟨k,o,cs,ty,fr,by simp [hb,h3],by rw [same];exact h4,h5,h6,h7.ext E,fun hs g hj=>?_,fun hs=>.inl (h9 hs)⟩
        rcases hj with hj | hj
        · exact h8 hs g hj
        · rcases jup g k hj with hj | hj | hj
          · exact h8 hs g hj
          · exact hnm hs hj
          · omega
  · intro b b' x x' k o o' hx hx' hd hd' hs hβ hβ'
    by_cases hb:b ∈ D<;>by_cases hb':b' ∈ D
    · simp [hb] at hβ;simp [hb'] at hβ'
      exact S1.sep b b' x x' k o o' (hD b x hb hx hd) (hD b' x' hb' hx' hd') hd hd' hs hβ hβ'
    · exfalso
      simp [hb] at hβ;simp [hb'] at hβ'
      have h2:=out hb' hx'
      have hk:=Vt S h2 hd' hβ'
      obtain ⟨b2,x2,o2,hb2,hx2,hd2,hs2,hβ2⟩:=wr k ⟨b,x,o,hD b x hb hx hd,hd,hs,hβ⟩ hk
      have:=S.sep b2 b' x2 x' k o2 o' hx2 h2 hd2 hd' hs2 hβ2 hβ'
      subst this
      exact hb' (hids _ hb2)
    · exfalso
      simp [hb] at hβ;simp [hb'] at hβ'
      have h2:=out hb hx
      have h3:=hD b' x' hb' hx' hd'
      have hk:=Vt S h2 hd hβ
      have hnm:¬ ∃ b x o,b ∈ ids∧Am h b=some x∧x.dead=false∧x.sealed=false∧β b=some (k,o):=by
        rintro ⟨b2,x2,o2,hb2,hx2,hd2,hs2,hβ2⟩
        have:=S.sep b b2 x x2 k o o2 h2 hx2 hd hd2 hs hβ hβ2
        subst this
        exact hb (hids _ hb2)
      cases hs':x'.sealed with
      | false=>exact hnm (wr k ⟨b',x',o',h3,hd',hs',hβ'⟩ hk)
      | true =>
        rcases jup _ k (S1.seJ h3 hd' hs' hβ') with hj | hj | hj
        · exact S.unJ h2 hd hs hβ _ hj
        · exact hnm hj
        · omega
    · simp [hb] at hβ;simp [hb'] at hβ'
      exact S.sep b b' x x' k o o' (out hb hx) (out hb' hx') hd hd' hs hβ hβ'
  · intro k hk hm
    exact frame k hk (fun ⟨b,x,o,_,hx,hd,hs,hβ⟩=>hm ⟨b,x,o,hx,hd,hs,hβ⟩)
  · rintro k ⟨b,x,o,hx,hd,hs,hβ⟩ hk
    by_cases hb:b ∈ D
    · simp [hb] at hβ
      obtain ⟨b2,x2,o2,_,hx2,hd2,hs2,hβ2⟩:=wr k ⟨b,x,o,hD b x hb hx hd,hd,hs,hβ⟩ hk
      exact ⟨b2,x2,o2,hx2,hd2,hs2,hβ2⟩
    · simp [hb] at hβ
      exact ⟨b,x,o,out hb hx,hd,hs,hβ⟩
  · rintro o k (hj | hj)
    · exact .inl hj
    · rcases jup o k hj with hj | ⟨b,x,o2,_,hx,hd,hs,hβ⟩ | hj
      · exact .inl hj
      · exact .inr (.inl ⟨b,x,o2,hx,hd,hs,hβ⟩)
      · exact .inr (.inr hj)
end Gx

namespace Gx
open Go
theorem Bph {l:List Nat}:Bkl l=true↔l=[]:=by cases l<;>simp [Bkl]
theorem Ah4 {α β:Type} {f:α→β}:∀ {l:List α},(l.map f).Nodup→l.Nodup
  | [],_=>List.nodup_nil
  | a::r,h=>by
    rw [List.map_cons,List.nodup_cons] at h
    exact List.nodup_cons.2 ⟨fun hm=>h.1 (List.mem_map.2 ⟨a,hm,rfl⟩),Ah4 h.2⟩
theorem Ah5 {α:Type} {p:α→Bool}:∀ {l:List α},l.Nodup→(l.filter p).Nodup
  | [],_=>List.nodup_nil
  | a::r,h=>by
    rw [List.nodup_cons] at h
    rw [List.filter_cons]
    split
    · exact List.nodup_cons.2 ⟨fun hm=>h.1 (List.mem_filter.1 hm).1,Ah5 h.2⟩
    · exact Ah5 h.2
theorem A0i {base:Nat} {l:List Nat} {p:Nat×Nat} (hp:p ∈ Av base l):p.1 ∈ l:=by
  have:p.1 ∈ (Av base l).map (·.1):=List.mem_map.2 ⟨p,hp,rfl⟩
  rw [Ib] at this;exact this
theorem Bq8 {σ:Nat→Nat}:∀ {l:List Nat} {a b:Nat},(l.map σ).Nodup→a ∈ l→b ∈ l→σ a=σ b→a=b
  | [],a,b,_,ha,_,_=>by simp at ha
  | i::r,a,b,hn,ha,hb,he=>by
    rw [List.map_cons,List.nodup_cons] at hn
    rcases List.mem_cons.1 ha with h1 | h1<;>rcases List.mem_cons.1 hb with h2 | h2
    · rw [h1,h2]
    · subst h1;exact absurd (List.mem_map.2 ⟨b,h2,he.symm⟩) hn.1
    · subst h2;exact absurd (List.mem_map.2 ⟨a,h1,he⟩) hn.1
    · exact Bq8 hn.2 h1 h2 he
theorem Bte {E:Env} (hT:Bq6 E.P E.tbl):Awl E:=by
  intro R r k J β h w g d f args vs S hl hh hv
  unfold Bie at hh
  obtain ⟨⟨args',im,fz⟩,hp,h1⟩:=ub hh
  simp only at h1
  obtain ⟨hc,h2⟩:=uc h1
  simp only [Bool.and_eq_true] at hc
  obtain ⟨hal,him,hin,hdj,hnd,_⟩:=hc
  generalize hids:Zc g im=ids at *
  generalize hρ:Gp 0 (Av 100000 ids)=ρ at *
  have hal:=An2 hal
  have him:=Mq him
  have hdj:=Bq7 hdj
  have hnd:=Ri hnd
  have hg:∀ b ∈ ids,g b=Am h b:=fun b hb=>by obtain ⟨x,hx,_⟩:=hal b hb;rw [hx,hl b x hx]
  rw [Abw (g:=Am h) hg] at hin
  have hin:=Mq hin
  rw [Bip (g':=Am h) hg] at h2
  obtain ⟨hA,hB⟩:=Zm (fz:=fz) S hl hp (fun _ h=>h) hv
  have aliveH:∀ b ∈ ids,∃ x,Am h b=some x∧x.dead=false:=fun b hb=>by obtain ⟨x,hx,hd⟩:=hal b hb;exact ⟨x,hl b x hx,hd⟩
  have SJ:SimH (JS J β h fz) (Amn ρ ids β) (sub (Am h) ρ ids) w:=by
    refine (S.ren hnd hin).grow (fun o k hj=>.inl hj) ?_ ?_ ?_
    · rintro o k (hj | ⟨_,b,x,o',_,hx,hd,_,hβ⟩)
      · exact S.jlt o k hj
      · exact Vt S hx hd hβ
    · rintro k (hj | ⟨h0,_⟩)
      · exact .inl (S.jft k hj)
      · cases h0
    · intro c y k o hy hd hs hβ q hj
      obtain ⟨b,x,hb,rfl,hx,rfl⟩:=Lf hnd c y hy
      rw [Fg hnd hb] at hβ
      rcases hj with hj | ⟨_,b',x',o',hb',hx',hd',hs',hβ'⟩
      · exact S.unJ hx hd hs hβ _ hj
      · have:=S.sep b b' x x' k o o' hx hx' hd hd' hs hβ hβ'
        subst this
        exact hdj b hb' hb
  have RJ:Reps (JS J β h fz) (Amn ρ ids β) (sub (Am h) ρ ids) w (Wf ρ args') vs:=Reps.ren hnd (fun b hb=>him b (hB b hb)) hA
  obtain ⟨rv,rh,hF,h3⟩:=Bne hT h2
  have hcall:=hF _ _ w vs SJ RJ
  obtain ⟨horg,h4⟩:=uc' h3
  obtain ⟨hc2,h5⟩:=uc h4
  simp only [Bool.and_eq_true] at hc2
  obtain ⟨hnal,hn16,hrv,houts,hrin,hσn⟩:=hc2
  generalize hall:Zc (Am rh) (Fd rv++(Av 100000 ids).map (·.2))=all at *
  generalize hnew:all.filter (fun b=>!Hc ((Av 100000 ids).map (·.2)) b)=new at *
  generalize hσ:Gp 0 ((Av 100000 ids).map (fun p=>(p.2,p.1))++Av (nid d) new)=σ at *
  have hnal:=An2 hnal
  have hrv:=Mq hrv
  have houts:=Mq houts
  have hrin:=Mq hrin
  have hσn:=Ri hσn
  have hn16:new.length≤16:=by simpa using hn16
  refine ⟨_,_,h5,fun hfree=>Calls.mono hcall ?_⟩
  rintro e w' ⟨vc,J',β',rfl,F,hR⟩
  refine ⟨vc,rfl,?_⟩
  have back:∀ b ∈ ids,σ (ρ b)=b:=by
    intro b hb
    rw [← hσ,Wz,if_pos,← hρ]
    · exact Bb7 hb
    · rw [List.map_map]
      have:=Agf (d:=0) (l:=Av 100000 ids) (b:=b) (by rw [Ib];exact hb)
      rw [hρ] at this
      exact this
  have ρall:∀ b ∈ ids,ρ b ∈ all:=by
    intro b hb
    refine houts _ ?_
    have:=Agf (d:=0) (l:=Av 100000 ids) (b:=b) (by rw [Ib];exact hb)
    rw [hρ] at this
    exact this
  have σout:∀ c ∈ all,c ∈ (Av 100000 ids).map (·.2)→σ c ∈ ids:=by
    intro c _ hc
    rw [← hσ,Wz,if_pos (by rw [List.map_map];exact hc)]
    have:=Agf (d:=0) (l:=(Av 100000 ids).map (fun p=>(p.2,p.1))) (b:=c) (by rw [List.map_map];exact hc)
    rw [List.map_map] at this
    have e:(Av 100000 ids).map ((fun x=>x.2)∘fun p=>(p.2,p.1))=ids:=Ib
    rw [e] at this
    exact this
  have newmem:∀ c ∈ new,c ∈ all∧c ∉ (Av 100000 ids).map (·.2):=by
    intro c hc
    rw [← hnew] at hc
    obtain ⟨h6,h7⟩:=List.mem_filter.1 hc
    refine ⟨h6,fun hm=>?_⟩
    rw [Iz.2 hm] at h7;simp at h7
  have σnew:∀ c ∈ new,σ c=Gp 0 (Av (nid d) new) c:=by
    intro c hc
    rw [← hσ,Wz,if_neg]
    rw [List.map_map];exact (newmem c hc).2
  have allcases:∀ c ∈ all,c ∈ (Av 100000 ids).map (·.2)∨c ∈ new:=by
    intro c hc
    by_cases hm:c ∈ (Av 100000 ids).map (·.2)
    · exact .inl hm
    · refine .inr ?_
      rw [← hnew]
      refine List.mem_filter.2 ⟨hc,?_⟩
      cases hq:Hc ((Av 100000 ids).map (·.2)) c with
      | false=>rfl
      | true=>exact absurd (Iz.1 hq) hm
  generalize hups:((Av 100000 ids).map fun p=>(p.1,(Am rh p.2).map (Aej σ)))++(Av (nid d) new).map (fun p=>(p.2,(Am rh p.1).map (Aej σ)))=ups at *
  have keys:ups.map (·.1)=ids++(Av (nid d) new).map (·.2):=by
    rw [← hups,List.map_append,List.map_map,List.map_map]
    congr 1
    exact Ib
  have newFree:∀ c ∈ (Av (nid d) new).map (·.2),Am h c=none:=by
    intro c hc
    refine hfree c (A35.2 (by rw [keys];exact List.mem_append.2 (.inr hc))) ?_
    have:=Rk hc
    unfold Amh
    simp;omega
  have keysN:(ups.map (·.1)).Nodup:=by
    rw [keys,List.nodup_append]
    refine ⟨Ah4 hnd,Zn,fun a ha b hb e=>?_⟩
    subst e
    obtain ⟨x,hx,_⟩:=aliveH a ha
    rw [newFree a hb] at hx;cases hx
  have upsOld:∀ b ∈ ids,(b,(Am rh (ρ b)).map (Aej σ)) ∈ ups:=by
    intro b hb
    rw [← hups]
    refine List.mem_append.2 (.inl (List.mem_map.2 ⟨(b,ρ b),?_,rfl⟩))
    rw [← hρ];exact An3 hb
  have upsNew:∀ c ∈ new,(σ c,(Am rh c).map (Aej σ)) ∈ ups:=by
    intro c hc
    rw [← hups]
    refine List.mem_append.2 (.inr (List.mem_map.2 ⟨(c,σ c),?_,rfl⟩))
    rw [σnew c hc];exact An3 hc
  have J0:∃ J0:Bool→Nat→Prop,SimH J0 β' rh w'∧Rep J0 β' rh w' rv vc∧∀ o k,J0 o k→J o k∨Mut (Amn ρ ids β) (sub (Am h) ρ ids) k∨w.heap.size≤k:=by
    cases he:Bkl fz with
    | true =>
      have:=Bph.1 he
      subst this
      refine ⟨J',F.sim,hR,fun o k hj=>?_⟩
      rcases F.jup o k hj with (hj | ⟨_,b,x,o',hb,_⟩) | hj
      · exact .inl hj
      · simp at hb
      · exact .inr hj
    | false =>
      rw [he] at horg
      simp at horg
      refine ⟨fun _=>J' false,F.sim.noOrg horg.2,Rep.noOrg horg.1 hR,fun o k hj=>?_⟩
      rcases F.jup false k hj with (h6 | ⟨h0,_⟩) | h6
      · left
        cases o
        · exact h6
        · exact S.jft k h6
      · cases h0
      · exact .inr h6
  obtain ⟨J0,S0,R0,jup0⟩:=J0
  have S1:=S0.ren hσn hrin
  have R1:=Rep.ren hσn hrv R0
  have M:=Step.merge (J:=J) (J0:=J0) (J1:=J0) (H:=Ai ups h) (D:=ids++(Av (nid d) new).map (·.2)) (ids:=ids) S S1
    (fun b hb=>Cb _ _ _ (by
      cases hi:A1 ups b with
      | false=>rfl
      | true=>exact absurd (by rw [← keys];exact A35.1 hi) hb))
    (fun b x hb hx hd=>by
      rcases List.mem_append.1 hb with hb | hb
      · rw [Ke keysN (upsOld b hb)] at hx
        cases hq:Am rh (ρ b) with
        | none =>
          rw [hq] at hx;simp at hx
          obtain ⟨y,_,rfl⟩:=hx
          simp [Bpg] at hd
        | some y =>
          rw [hq] at hx;simp at hx;subst hx
          have:=Abx (g:=Am rh) hσn (ρ b) y (ρall b hb) hq
          rw [back b hb] at this
          exact this
      · obtain ⟨c, hc, rfl⟩ : ∃ c ∈ new, σ c = b := by
          obtain ⟨p,hp,rfl⟩:=List.mem_map.1 hb
          have hp1:p.1 ∈ new:=A0i hp
          refine ⟨p.1,hp1,?_⟩
          rw [σnew _ hp1]
          have:∀ {base:Nat} {l:List Nat} {p:Nat×Nat},l.Nodup→p ∈ Av base l→Gp 0 (Av base l) p.1=p.2:=by
            intro base l
            induction l generalizing base with
            | nil=>intro p _ hp;simp [Av] at hp
            | cons i r ih =>
              intro p hn hp
              rw [List.nodup_cons] at hn
              rw [Av] at hp ⊢
              rw [Gp]
              rcases List.mem_cons.1 hp with rfl | hp
              · simp
              · have:p.1 ∈ r:=A0i hp
                rw [At6 (fun e=>hn.1 (by rw [e];exact this))]
                exact ih hn.2 hp
          refine this ?_ hp
          rw [← hnew]
          exact Ah5 (Ah4 hσn)
        rw [Ke keysN (upsNew c hc)] at hx
        obtain ⟨y,hy,_⟩:=hnal c hc
        rw [hy] at hx;simp at hx;subst hx
        exact Abx (g:=Am rh) hσn c y (newmem c hc).1 hy)
    (fun b x hb=>by
      obtain ⟨c,y,hc,rfl,hy,rfl⟩:=Lf hσn b x hb
      rcases allcases c hc with hm | hm
      · have h6:=σout c hc hm
        have h7:ρ (σ c)=c:=by
          have:(all.map σ).Nodup:=hσn
          have e1:=back (σ c) h6
          have e2:=ρall (σ c) h6
          exact Bq8 this e2 hc e1
        refine ⟨List.mem_append.2 (.inl h6),?_⟩
        rw [Ke keysN (upsOld (σ c) h6),h7,hy];rfl
      · refine ⟨List.mem_append.2 (.inr ?_),?_⟩
        · rw [σnew c hm]
          exact Agf (by rw [Ib];exact hm)
        · rw [Ke keysN (upsNew c hm),hy];rfl)
    (fun b x hb hni hx=>by
      rcases List.mem_append.1 hb with hb | hb
      · exact hni hb
      · rw [newFree b hb] at hx;cases hx)
    (fun b x hb hx=>by
      rw [Ke keysN (upsOld b hb)]
      cases hq:Am rh (ρ b) with
      | none=>exact ⟨Bpg x,⟨by simp [hx],rfl⟩,.inl rfl⟩
      | some y =>
        cases hd:y.dead with
        | true=>have:=F.live _ _ hq;rw [hd] at this;cases this
        | false =>
          have e0:=Abx (g:=Am h) hnd b x hb hx
          obtain ⟨⟨e1,em⟩,e2,e3,e4⟩:=F.outs (ρ b) _ y e0 hq hd
          refine ⟨Aej σ y,⟨by simp,em⟩,.inr ?_⟩
          refine ⟨e4,?_,e2,fun hmx=>?_⟩
          · have:=Fg (β:=β') hσn (ρall b hb)
            rw [back b hb] at this
            rw [this,e1]
            exact Fg hnd hb
          · rw [Kd,e3 hmx,Kd])
    (fun b hb=>List.mem_append.2 (.inl hb))
    F.os F.tape F.output F.size
    (fun k hk hm=>F.frame k hk (fun hm'=>hm (Bb8 hnd hm')))
    (fun k hm hk=>Bb8 hnd (F.wr k (Bk3 hσn hm) hk))
    (fun o k hj=>by
      rcases jup0 o k hj with hj | hj | hj
      · exact .inl hj
      · exact .inr (.inl (Bb8 hnd hj))
      · exact .inr (.inr hj))
    F.sizes
  exact ⟨_,_,M.1,Rep.ext M.2 R1⟩
theorem Aa {P:Program} {muts:Nat→List Bool} {T:List (Nat×Tw)} {hs:Hints} {N f:Nat} {args:List AV} {h:Ak} {res:AV} {h':Ak} (hT:Bq6 P T) (hm:P.follows .mixedOrders=true)
    (hh:Ac P muts T hs N f args h (fun v h'=>some (v,h'))=some (res,h')):FOk P f args h res h':=by
  unfold Ac at hh
  split at hh
  · simp at hh
  · rename_i fn hfn
    split at hh
    · simp at hh
    · rename_i c hc
      simp only at hh
      obtain ⟨hc1,h1⟩:=uc hh
      simp only [Bool.and_eq_true] at hc1
      obtain ⟨hlen,hroot⟩:=hc1
      have hlen:args.length≤fn.ntmps:=by simpa using hlen
      intro J β w vs S hv
      have hvl:vs.length=args.length:=((B8).1 hv).1
      refine calls_of_wp hfn hc ?_
      have roots:∀ {h:Ak} {b:Nat} {x:Blk},Bar h=true→Am h b=some x→Bbe b=true:=by
        intro h
        induction h with
        | nil=>intro b x _ hb;simp [Am] at hb
        | cons p r ih =>
          intro b x hr hb
          obtain ⟨i,y⟩:=p
          rw [Bar] at hr
          simp at hr
          rw [Am] at hb
          cases hi:Nat.beq i b with
          | true=>have:=Nat.eq_of_beq_eq_true hi;subst this;exact hr.1
          | false=>rw [hi] at hb;exact ih hr.2 (by simpa using hb)
      have sgetI:∀ {args:List AV} {j i:Nat},Ee (Big j args) i=if j≤i then (args[i - j]?).getD .undef else .undef:=by
        intro args
        induction args with
        | nil=>intro j i;simp [Big,Ee]
        | cons v r ih =>
          intro j i
          rw [Big,Ee]
          cases hi:Nat.beq j i with
          | true=>have:=Nat.eq_of_beq_eq_true hi;subst this;simp
          | false =>
            have:=Wg hi
            simp only [cond_false]
            rw [ih]
            by_cases hji:j+1≤i
            · rw [if_pos hji,if_pos (by omega),show i - j=(i - (j+1))+1 by omega];simp
            · rw [if_neg hji]
              by_cases h2:j≤i
              · omega
              · rw [if_neg h2]
      have I:Inv ⟨J,β,h,w⟩ fn.ntmps J β { s:=Big 0 args,h:=h } { tmps:=vs.toArray++Array.replicate (fn.ntmps - vs.toArray.size) undef,defers:=[] } w:=by
        refine ⟨S,⟨fun i v hi=>?_,fun i hi=>?_⟩,?_,rfl,rfl,rfl,rfl,Nat.le_refl _,fun _ _ _=>rfl,fun _ hm _=>hm,fun _ _ hj=>hj,fun _ _ hj=>.inl hj,fun _=>Nat.le_refl _,?_,?_,?_⟩
        · rw [sgetI,if_pos (Nat.zero_le _)]
          by_cases hlt:i<args.length
          · have h2:args[i - 0]?=some args[i]:=by simp [hlt]
            rw [h2]
            have h3:vs[i]?=some v:=by
              rw [Array.getElem?_append_left (by simp;omega)] at hi
              simpa using hi
            exact ((B8).1 hv).2 i _ _ (by simp [hlt]) h3
          · have h2:args[i - 0]?=none:=by simp;omega
            rw [h2];simp [Rep]
        · simp at hi
          rw [sgetI,if_pos (Nat.zero_le _)]
          have h2:args[i - 0]?=none:=by simp;omega
          rw [h2];rfl
        · simp;omega
        · intro b x0 hb;exact (Bb3.1 (roots hroot hb)).2
        · intro b x0 hb;exact (Bb3.1 (roots hroot hb)).1
        · intro b x0 x hb hx hd
          change Am h b=some x0 at hb
          change Am h b=some x at hx
          rw [hb] at hx;simp at hx;subst hx
          exact ⟨⟨rfl,rfl⟩,rfl,fun _=>rfl,hd⟩
      have fin : ∀ st' a' w' J' β', Inv ⟨J, β, h, w⟩ fn.ntmps J' β' st' a' w' → As { P := P, nt := fn.ntmps, muts := muts, nils := hs.nils, free := hs.free, cob := hs.cob, tbl := T } fn hs.modes (h.map (·.1)) (fun v h' => some (v, h')) st' = some (res, h') →
          a'.defers=[]∧∃ v,(results fn a'.tmps).run P w'=.ok v w'∧∃ vc J' β',Ending.returned v=.returned vc∧FDone ⟨J,β,h,w⟩ J' β' h' w'∧Rep J' β' h' w' res vc:=by
        intro st' a' w' J' β' I' h2
        obtain ⟨res2,h2',vc,J2,β2,h3,h4,h5,h6⟩:=Bg5 I' h2
        simp at h3
        obtain ⟨rfl,rfl⟩:=h3
        exact ⟨I'.defers,vc,h4,vc,J2,β2,rfl,h5,h6⟩
      exact Bnd (E:={ P:=P,nt:=fn.ntmps,muts:=muts,nils:=hs.nils,free:=hs.free,cob:=hs.cob,tbl:=T }) (Bte hT) hm c I h1 fin (fun _ _ _ _ _ _ _ h2=>by simp at h2) fin
end Gx

namespace Gx
open Go
section
variable {R R':Type}
theorem Bpi (E:Env) (ops:Array Oper) (o:Oper) (st:St) (k:St→Foot→Option R) (g:R→Option R'):(Bmo E ops o st k).bind g=Bmo E ops o st fun st f=>(k st f).bind g:=by
  rw [Asn,Asn,Option.bind_assoc]
theorem Bk5 (ops:Array Oper) (o:Oper) (st:St) (k:St→Option R) (g:R→Option R'):(A3v ops o st k).bind g=A3v ops o st fun st=>(k st).bind g:=by
  unfold A3v
  split
  · rfl
  · split
    · rfl
    · split
      · rw [Ao]
      · rfl
theorem Bb9 (E:Env) (ops:Array Oper) (g:R→Option R'):∀ (l:List Oper) (st:St) (tr:List Foot) (k:St→List Foot→Option R),(Bbb E ops l st tr k).bind g=Bbb E ops l st tr fun st tr=>(k st tr).bind g
  | [],st,tr,k=>rfl
  | o::r,st,tr,k=>by
    rw [Bbb,Bbb,Bk5]
    congr 1;funext st
    rw [Bpi]
    congr 1;funext st f
    exact Bb9 E ops g r st (f::tr) k
theorem Bg8 (E:Env) (K roots:List Nat) (ops:Array Oper) (draw:Bool) (st:St) (k:St→Option R) (g:R→Option R'):(Asf E K roots ops draw st k).bind g=Asf E K roots ops draw st fun st=>(k st).bind g:=by
  unfold Asf
  rw [Bb9]
  congr 1;funext st tr
  rw [Ao,Option.bind_assoc];rfl
theorem A7o (cn:St→Option St) (b1:(St→Option R)→St→Option R) (b2:(St→Option R')→St→Option R') (g:R→Option R') (hb:∀ k st,(b1 k st).bind g=b2 (fun st=>(k st).bind g) st):∀ n st,(Ans cn b1 n st).bind g=Ans cn b2 n st
  | 0,st=>rfl
  | n+1,st=>by
    rw [Ans,Ans,hb]
    congr 1;funext st
    rw [Option.bind_assoc]
    congr 1;funext st
    exact A7o cn b1 b2 g hb n st
theorem Bni (E:Env) (roots:List Nat) (N:Nat) (g:R→Option R'):∀ (c:Code) (H:Hint) (k:St→Option R) (x:Nat→St→Option R) (r:St→Option R) (st:St),
    (Eg E roots N c H k x r st).bind g=Eg E roots N c H (fun st=>(k st).bind g) (fun j st=>(x j st).bind g) (fun st=>(r st).bind g) st:=by
  intro c
  induction c with
  | skip=>intro H k x r st;rfl
  | region id ops draw=>intro H k x r st;exact Bg8 ..
  | seq a b iha ihb =>
    intro H k x r st
    rw [Eg,Eg,Abt,Abt,iha]
    congr 1;funext st
    exact ihb ..
  | cond c a b iha ihb =>
    intro H k x r st
    rw [Eg,Eg]
    split
    · rw [Ao,iha,ihb]
      simp only [Option.bind_assoc]
    · rfl
  | block id c ih =>
    intro H k x r st
    rw [Eg,Eg,ih]
    simp only [Option.bind_assoc,Ao]
  | loop c ih =>
    intro H k x r st
    rw [Eg,Eg,Option.bind_assoc,Abt,Abt]
    congr 1;funext st
    exact A7o _ _ _ g (fun k st=>ih ..) N st
  | exit id=>intro H k x r st;rfl
  | ret=>intro H k x r st;rfl
  | rangeFunc=>intro H k x r st;rfl
  | scope=>intro H k x r st;rfl
  | label=>intro H k x r st;rfl
  | goto=>intro H k x r st;rfl
  | refuse=>intro H k x r st;rfl
theorem Aer (E:Env) (st:St) (g:R→Option R'):∀ (l:List ResultVar) (acc:List AV) (k:List AV→Option R),(Lb E st l acc k).bind g=Lb E st l acc fun l=>(k l).bind g
  | [],acc,k=>rfl
  | .tmp t::r,acc,k=>by rw [Lb,Lb];exact Aer E st g r _ k
  | .cell a t::r,acc,k=>by
    rw [Lb,Lb,Ah2,Ah2 (R:=R'),Option.bind_assoc]
    congr 1;funext v
    exact Aer E st g r _ k
theorem Bg9 (E:Env) (fn:Func) (modes:List (Nat×Nat)) (outs:List Nat) (k:AV→Ak→Option R) (g:R→Option R') (st:St):(As E fn modes outs k st).bind g=As E fn modes outs (fun v h=>(k v h).bind g) st:=by
  unfold As
  rw [Aer]
  congr 1;funext l
  rw [Option.bind_assoc]
  congr 1;funext q
  rw [Ao];rfl
theorem Bpj (P:Program) (muts:Nat→List Bool) (T:List (Nat×Tw)) (hs:Hints) (N f:Nat) (args:List AV) (h:Ak) (k:AV→Ak→Option R) :
    Ac P muts T hs N f args h k=(Ac P muts T hs N f args h fun v h=>some (v,h)).bind fun p=>k p.1 p.2:=by
  unfold Ac
  split
  · rfl
  · split
    · rfl
    · simp only
      rw [Ao,Bni]
      simp only [Bg9]
      rfl
structure Cut (R:Type) where
  c:Code
  H:Hint
  k:St→Option R
  x:Nat→St→Option R
  r:St→Option R
noncomputable def atC (E:Env) (roots:List Nat) (N:Nat):List Nat→Code→Hint→(St→Option R)→(Nat→St→Option R)→(St→Option R)→List (St→Option R)→Cut R
  | [],c,H,k,x,r,_=>⟨c,H,k,x,r⟩
  | d::p,.seq a b,H,k,x,r,ks=>cond (Nat.beq d 0) (atC E roots N p a H.a (Brv H.isJoin fun st=>Eg E roots N b H.b k x r st) x r ks) (atC E roots N p b H.b k x r ks)
  | d::p,.cond _ a b,H,k,x,r,ks=>cond (Nat.beq d 0) (atC E roots N p a H.a (fun st=>(Q9 E H.live roots st).bind k) x r ks) (atC E roots N p b H.b (fun st=>(Q9 E H.live roots st).bind k) x r ks)
  | _::p,.block id c,H,k,x,r,ks=>atC E roots N p c H.a (fun st=>(Q9 E H.live roots st).bind k) (fun j st=>cond (Nat.beq j id) ((Q9 E H.live roots st).bind k) (x j st)) r ks
  | _::p,.loop c,H,_,x,r,q::ks=>atC E roots N p c H.a (fun st=>(Q9 E H.live roots st).bind q) x r ks
  | _::_,c,H,k,x,r,_=>⟨c,H,k,x,r⟩
def Bnj:Code→Code
  | .loop c=>c
  | c=>c
noncomputable def Bl (E:Env) (roots:List Nat) (N:Nat) (q:Cut R) (st:St):Option R:=Eg E roots N q.c q.H q.k q.x q.r st
noncomputable def Bh (E:Env) (roots:List Nat) (N:Nat) (q:Cut R) (st:St):Option R:=Brv true (fun st=>Eg E roots N q.c q.H q.k q.x q.r st) st
theorem Aq (E:Env) (roots:List Nat) (N:Nat) (q:Cut R) (st:St):Bh E roots N q st=Bl E roots N q st:=by unfold Bh;rw [Abt];rfl
noncomputable def A9 (E:Env) (roots:List Nat) (N:Nat) (q:Cut R) (n:Nat) (st:St):Option R:=Ans (Q9 E q.H.live roots) (fun k st=>Eg E roots N (Bnj q.c) q.H.a k q.x q.r st) n st
noncomputable def Bx (E:Env) (roots:List Nat) (N:Nat) (q:Cut R) (n:Nat) (st:St):Option R:=Brv true (Ans (Q9 E q.H.live roots) (fun k st=>Eg E roots N (Bnj q.c) q.H.a k q.x q.r st) n) st
theorem Au (E:Env) (roots:List Nat) (N:Nat) (q:Cut R) (n:Nat) (st:St):Bx E roots N q n st=A9 E roots N q n st:=by unfold Bx;rw [Abt];rfl
def Bvv (fn:Func):Code:=match fn.body with | some c=>c | none=>.skip
def Bve:List (Nat×List Bool)→Nat→List Bool
  | [],_=>[]
  | (i,l)::r,f=>cond (Nat.beq i f) l (Bve r f)
end
end Gx

namespace Gx
open Go
abbrev LA:=List AV
abbrev hL:Hint:=.leaf
abbrev hR (l:List Nat):Hint:=.node l .leaf .leaf
abbrev hS (a b:Hint):Hint:=.node [] a b
abbrev hN (l:List Nat) (a b:Hint):Hint:=.node l a b
abbrev hJ (a b:Hint):Hint:=.join a b
def Bwt (P:Program) (muts:Nat→List Bool) (nt:Nat) (hs:Hints) (T:List (Nat×Tw)):Env:={ P,nt,muts,nils:=hs.nils,free:=hs.free,cob:=hs.cob,tbl:=T }
noncomputable def atF {R:Type} (E:Env) (roots:List Nat) (N:Nat) (fn:Func) (hs:Hints) (fin:St→Option R) (p:List Nat) (ks:List (St→Option R)):Cut R:=atC E roots N p (Bvv fn) hs.H fin (fun _ _=>none) fin ks
def rdI {R:Type} (kd:IntKind) (c:List AV) (k:Int→Option R):Option R:=(c.head?).bind fun x=>(A62 kd x).bind k
def rdB {R:Type} (c:List AV) (k:Bool→Option R):Option R:=(c.head?).bind fun x=>(asBool x).bind k
def rdL {R:Type} (sz:Nat) (c:List AV) (k:List AV→Nat→Option R):Option R:=(c.head?).bind fun x=>(Bsy sz x).bind fun p=>k p.1 p.2
def Bpk (k:IntKind) (a b:Int):Int:=k.wrap ((BitVec.ofInt k.bits a &&& BitVec.ofInt k.bits b).toNat:Int)
def Of (k:IntKind) (a b:Int):Int:=k.wrap ((BitVec.ofInt k.bits a ||| BitVec.ofInt k.bits b).toNat:Int)
theorem twE {R:Type} {P:Program} {muts:Nat→List Bool} {T:List (Nat×Tw)} {hs:Hints} {N f:Nat} {args:List AV} {h:Ak} {k:AV→Ak→Option R} {a:Option R} {b:Option (AV×Ak)} (h1:Ac P muts T hs N f args h k=a) (h2:Ac P muts T hs N f args h (fun v e=>some (v,e))=b):a=b.bind fun p=>k p.1 p.2:=by
  rw [← h1,← h2];exact Bpj ..
abbrev KF (R:Type):=AV→Ak→Option R
end Gx

namespace Gx
open Go Go.Proofs
set_option maxRecDepth 100000
noncomputable section
variable {R:Type}
def muts:Nat→List Bool:=Bve [(13,[true,false,false]),(14,[true,false]),(44,[true]),(66,[false,true,false]),(106,[true,false]),(107,[true,false,false]),(109,[true,false,false,false,false]),(110,[true,false,false,false]),(111,[true,false,false,false]),(119,[false,true]),(120,[false,true,true,true,true,true,true,true,true]),(137,[false,true,true,true,true,true,true,true,true]),(138,[false,true]),(148,[false,true]),(151,[true,false]),(152,[true,false]),(153,[true,false,false,false]),(154,[true,false,false,false,false,false,false,false]),(155,[true,false,false,false,false,false]),(157,[true,false,false]),(158,[true,false,false]),(159,[true,false,false]),(160,[true,false,false]),(161,[true,false,false]),(171,[true]),(185,[true,false,false,false,false,false]),(187,[true,false,false,false,false,false]),(188,[true,false,false]),(203,[true,false]),(206,[false,true,true,true,true,true,true,true,true])]
abbrev mkE:=Bwt Tryz.prog muts
theorem follows:Tryz.prog.follows .mixedOrders=true:=by kernel_rfl
end
end Gx
