/- A part of the proof: what it holds is said by each theorem. -/
import Derived.Test.YtlkhmflligkbkaaGreatProg
import Derived.Test.YtlkhmflligkbkaaGreatP0
set_option linter.unusedVariables false
namespace Gx
open Go
theorem Jf:∀ {l:List Nat} {b:Nat},Hn l b=true↔b ∈ l
  | [],b=>by simp [Hn]
  | i::r,b=>by
    rw [Hn]
    cases hi:Nat.beq i b with
    | true=>have:=Nat.eq_of_beq_eq_true hi;subst this;simp
    | false => have := Xk hi; simp only [cond_false, List.mem_cons]; rw [Jf]; constructor
               · exact fun h=>.inr h
               · rintro (h | h)
                 · exact absurd h.symm this
                 · exact h
theorem Sf:∀ {l:List Nat},Apf l=true→l.Nodup
  | [],_=>List.nodup_nil
  | i::r,h=>by
    rw [Apf] at h;simp at h
    refine List.nodup_cons.2 ⟨fun hm=>?_,Sf h.2⟩
    rw [Jf.2 hm] at h;simp at h
theorem A6d {g:Bl} {ids:List Nat}:∀ {l:List Nat},Bdz g ids l=true→∀ b ∈ l,∀ x,Hk g b=some x→b ∈ ids
  | [],_,b,hb,_,_=>by simp at hb
  | i::r,h,b,hb,x,hx=>by
    rw [Bdz] at h;simp at h
    rcases List.mem_cons.1 hb with e | hb
    · subst e
      rcases h.1 with h1 | h1
      · exact Jf.1 h1
      · rw [hx] at h1;simp at h1
    · exact A6d h.2 b hb x hx
theorem Bp0:∀ {l:List Nat},Bty l=true→∀ b ∈ l,F3≤b→Je b<100000
  | [],_,b,hb,_=>by simp at hb
  | i::r,h,b,hb,hn=>by
    rw [Bty] at h;simp at h
    rcases List.mem_cons.1 hb with e | hb
    · subst e
      have:Nat.ble F3 b=true:=by simpa using hn
      rw [this] at h;simpa using h.1
    · exact Bp0 h.2 b hb hn
theorem Aal (g:Bl):∀ c:List AV,(Ir g c).length=c.length
  | []=>rfl
  | x::r=>by rw [Ir,List.length_cons,List.length_cons,Aal g r]
section
variable {R:Type} {r:R} {Z:Start} {nt:Nat} {J J':Bool→Nat→Prop} {β β':Cb} {st:St} {h h':Aj} {a:Act} {w w':World} {ids:List Nat}
def Nb (g:Bl) (x:Blk):Blk:={ x with cells:=cond x.pure x.cells (Ir g x.cells) }
theorem Ayn {g:Bl}:∀ {ids:List Nat},(ids.map Je).Nodup→∀ c y,Al (Aah g ids) c=some y→∃ b x,b ∈ ids∧Je b=c∧Hk g b=some x∧y=Nb g x
  | [],_,c,y,hc=>by simp [Aah,Al] at hc
  | b::r,hn,c,y,hc=>by
    rw [List.map_cons,List.nodup_cons] at hn
    rw [Aah] at hc
    split at hc
    · rename_i x hx
      rw [Ae] at hc
      by_cases e:c=Je b
      · rw [if_pos e] at hc;simp at hc
        exact ⟨b,x,by simp,e.symm,hx,hc.symm⟩
      · rw [if_neg e] at hc
        obtain ⟨b',x',h1,h2,h3,h4⟩:=Ayn hn.2 c y hc
        exact ⟨b',x',by simp [h1],h2,h3,h4⟩
    · obtain ⟨b',x',h1,h2,h3,h4⟩:=Ayn hn.2 c y hc
      exact ⟨b',x',by simp [h1],h2,h3,h4⟩
theorem Aam {g:Bl}:∀ {ids:List Nat},(ids.map Je).Nodup→∀ b x,b ∈ ids→Hk g b=some x→Al (Aah g ids) (Je b)=some (Nb g x)
  | [],_,b,x,hb,_=>by simp at hb
  | b'::r,hn,b,x,hb,hx=>by
    rw [List.map_cons,List.nodup_cons] at hn
    rw [Aah]
    by_cases e:b=b'
    · subst e
      rw [hx]
      simp only
      rw [Ae,if_pos rfl];rfl
    · have hm:b ∈ r:=by simpa [e] using hb
      have ne:Je b≠Je b':=fun h=>hn.1 (by rw [← h];exact List.mem_map.2 ⟨b,hm,rfl⟩)
      split
      · rw [Ae,if_neg ne];exact Aam hn.2 b x hm hx
      · exact Aam hn.2 b x hm hx
def Bed (ids:List Nat) (c:Nat):Option Nat:=ids.find? fun b=>Nat.beq (Je b) c
theorem Jr (hn:(ids.map Je).Nodup) {b:Nat} (hb:b ∈ ids):Bed ids (Je b)=some b:=by
  induction ids with
  | nil=>simp at hb
  | cons i r ih =>
    rw [List.map_cons,List.nodup_cons] at hn
    unfold Bed at ih ⊢
    rw [List.find?_cons]
    by_cases e:b=i
    · subst e;simp
    · have hm:b ∈ r:=by simpa [e] using hb
      have ne:Je i≠Je b:=fun h=>hn.1 (by rw [h];exact List.mem_map.2 ⟨b,hm,rfl⟩)
      rw [Av4 ne];exact ih hn.2 hm
def Byo (g:Bl) (ids:List Nat) (l:List Nat):Prop:=∀ b ∈ l,∀ x,Hk g b=some x→b ∈ ids
theorem Bu1 {b:Nat}:Hk (Al h) b=(Al h b).bind fun x=>cond x.dead none (some x):=rfl
theorem Ayo {b:Nat} {x y:Blk} (hx:Al h b=some x) (hv:Hk (Al h) b=some y):y=x∧x.dead=false:=by
  rw [Bu1,hx] at hv
  cases hd:x.dead with
  | true=>simp [hd] at hv
  | false=>simp [hd] at hv;exact ⟨hv.symm,rfl⟩
mutual
theorem Rep.clean (hn:(ids.map Je).Nodup):∀ {x:AV} {v:Value},Byo (Al h) ids (Fm x)→Rep J β h w x v →
    Rep J (fun c=>(Bed ids c).bind β) (Aah (Al h) ids) w (Aag (Al h) x) v
  | .own b off n,v,hm,hr=>by
    rw [Rep] at hr
    obtain ⟨x,A,cap,⟨hx,hmp⟩,h1,h2,h3⟩:=hr
    rw [Aag]
    cases hv:Hk (Al h) b with
    | none=>simp only;rw [Rep];trivial
    | some y =>
      obtain ⟨rfl,hd⟩:=Ayo hx hv
      have hb:=hm b (by simp [Fm]) _ hv
      simp only
      rw [Rep]
      refine ⟨Nb (Al h) y,A,cap,⟨Aam hn b y hb hv,hmp⟩,h1,h2,?_⟩
      rcases h3 with h3 | ⟨k,o,h4,h5⟩
      · exact .inl h3
      · refine .inr ⟨k,o,h4,?_⟩
        rcases h5 with h5 | ⟨h5,h6,h7⟩
        · simp [hd] at h5
        · refine .inr ⟨by rw [Jr hn hb];exact h5,h6,?_⟩
          have:(Nb (Al h) y).cells.length=y.cells.length:=by
            unfold Nb;cases y.pure
            · simp;exact Aal _ _
            · rfl
          rw [this];exact h7
  | .optr b off,v,hm,hr=>by
    rw [Rep] at hr
    obtain ⟨x,k,o,⟨hx,hmp⟩,h1,h2⟩:=hr
    rw [Aag]
    cases hv:Hk (Al h) b with
    | none=>simp only;rw [Rep];trivial
    | some y =>
      obtain ⟨rfl,hd⟩:=Ayo hx hv
      have hb:=hm b (by simp [Fm]) _ hv
      simp only
      rw [Rep]
      refine ⟨Nb (Al h) y,k,o,⟨Aam hn b y hb hv,hmp⟩,h1,?_⟩
      rcases h2 with h2 | h2
      · simp [hd] at h2
      · exact .inr (by rw [Jr hn hb];exact h2)
  | .omap b,v,hm,hr=>by
    rw [Rep] at hr
    obtain ⟨x,k,⟨hx,hmp⟩,h1,h2⟩:=hr
    rw [Aag]
    cases hv:Hk (Al h) b with
    | none=>simp only;rw [Rep];trivial
    | some y =>
      obtain ⟨rfl,hd⟩:=Ayo hx hv
      have hb:=hm b (by simp [Fm]) _ hv
      simp only
      rw [Rep]
      refine ⟨Nb (Al h) y,k,⟨Aam hn b y hb hv,hmp⟩,h1,?_⟩
      rcases h2 with h2 | h2
      · simp [hd] at h2
      · exact .inr (by rw [Jr hn hb];exact h2)
  | .agg c,v,hm,hr=>by
    rw [Rep] at hr
    obtain ⟨cs,h1,h2⟩:=hr
    rw [Aag,Rep]
    exact ⟨cs,h1,Reps.clean hn (by simpa [Fm] using hm) h2⟩
  | .tup c,v,hm,hr=>by
    rw [Rep] at hr
    obtain ⟨cs,h1,h2⟩:=hr
    rw [Aag,Rep]
    exact ⟨cs,h1,Reps.clean hn (by simpa [Fm] using hm) h2⟩
  | .fn f c,v,hm,hr=>by
    rw [Rep] at hr
    obtain ⟨cs,h1,h2⟩:=hr
    rw [Aag,Rep]
    exact ⟨cs,h1,Reps.clean hn (by simpa [Fm] using hm) h2⟩
  | .pagg c o,v,hm,hr=>by show Rep J _ _ w (.pagg c o) v;rw [Rep] at hr ⊢;exact hr
  | .undef,v,hm,hr=>by show Rep J _ _ w (.undef) v;rw [Rep] at hr ⊢;exact hr
  | .imm c n sz t o,v,hm,hr=>by show Rep J _ _ w (.imm c n sz t o) v;rw [Rep] at hr ⊢;exact hr
  | .iptr c o,v,hm,hr=>by show Rep J _ _ w (.iptr c o) v;rw [Rep] at hr ⊢;exact hr
  | .int k n,v,hm,hr=>by show Rep J _ _ w (.int k n) v;rw [Rep] at hr ⊢;exact hr
  | .bool b,v,hm,hr=>by show Rep J _ _ w (.bool b) v;rw [Rep] at hr ⊢;exact hr
  | .str s,v,hm,hr=>by show Rep J _ _ w (.str s) v;rw [Rep] at hr ⊢;exact hr
  | .nsl,v,hm,hr=>by show Rep J _ _ w (.nsl) v;rw [Rep] at hr ⊢;exact hr
  | .nilptr,v,hm,hr=>by show Rep J _ _ w (.nilptr) v;rw [Rep] at hr ⊢;exact hr
  | .nilfn,v,hm,hr=>by show Rep J _ _ w (.nilfn) v;rw [Rep] at hr ⊢;exact hr
theorem Reps.clean (hn:(ids.map Je).Nodup):∀ {c:List AV} {cs:List Value},Byo (Al h) ids (Hm c)→Reps J β h w c cs →
    Reps J (fun c=>(Bed ids c).bind β) (Aah (Al h) ids) w (Ir (Al h) c) cs
  | [],cs,hm,hr=>by rw [Reps] at hr;rw [Ir,Reps];exact hr
  | x::r,cs,hm,hr=>by
    rw [Reps] at hr
    obtain ⟨u,us,h1,h2,h3⟩:=hr
    rw [Ir,Reps]
    exact ⟨u,us,h1,Rep.clean hn (fun b hb=>hm b (by simp [Hm,hb])) h2,Reps.clean hn (fun b hb=>hm b (by simp [Hm,hb])) h3⟩
end
theorem Ac6 {g:Bl} {K:List Nat}:∀ {s:Fl} {i:Nat},Ep (A58 g K s) i=if Hn K i=true then Aag g (Ep s i) else .undef
  | [],i=>by
    simp only [A58,Ep]
    show AV.undef=if Hn K i=true then AV.undef else AV.undef
    split<;>rfl
  | (t,v)::r,i=>by
    rw [A58,Ep]
    cases hk:Hn K t with
    | true =>
      simp only [cond_true,Ep]
      cases hi:Nat.beq t i with
      | true =>
        have:=Nat.eq_of_beq_eq_true hi;subst this
        simp [hk]
      | false=>simp only [cond_false];exact Ac6
    | false =>
      simp only [cond_false]
      rw [Ac6]
      cases hi:Nat.beq t i with
      | true =>
        have:=Nat.eq_of_beq_eq_true hi;subst this
        simp [hk]
      | false=>rfl
theorem Bee {K:List Nat}:∀ {s:Fl} {i:Nat},Hn K i=true→∀ b ∈ Fm (Ep s i),b ∈ Bdy K s
  | [],i,_,b,hb=>by simp [Ep,Fm] at hb
  | (t,v)::r,i,hk,b,hb=>by
    rw [Ep] at hb
    rw [Bdy]
    cases hi:Nat.beq t i with
    | true =>
      have:=Nat.eq_of_beq_eq_true hi;subst this
      rw [hi] at hb
      rw [hk];simp at hb ⊢;exact .inl hb
    | false =>
      rw [hi] at hb
      have:=Bee hk b hb
      cases Hn K t
      · exact this
      · simp;exact .inr this
theorem A6e {g:Bl}:∀ {ids:List Nat} {b:Nat} {x:Blk},b ∈ ids→g b=some x→x.pure=false→∀ c ∈ Hm x.cells,c ∈ Jd g ids
  | [],b,x,hb,_,_,_,_=>by simp at hb
  | i::r,b,x,hb,hx,hp,c,hc=>by
    rw [Jd]
    by_cases e:b=i
    · subst e;rw [hx];simp only [hp,cond_false];exact List.mem_append.2 (.inl hc)
    · exact List.mem_append.2 (.inr (A6e (by simpa [e] using hb) hx hp c hc))
theorem A6f:∀ {c:List AV} {j:Nat} {x:AV},c[j]?=some x→∀ b ∈ Fm x,b ∈ Hm c
  | [],j,x,hj,_,_=>by simp at hj
  | y::r,j,x,hj,b,hb=>by
    rw [Hm]
    cases j with
    | zero=>simp at hj;subst hj;exact List.mem_append.2 (.inl hb)
    | succ j=>exact List.mem_append.2 (.inr (A6f (by simpa using hj) b hb))
theorem A9u {g:Bl}:∀ {c:List AV} {j:Nat} {y:AV},(Ir g c)[j]?=some y→∃ x,c[j]?=some x∧y=Aag g x
  | [],j,y,hj=>by simp [Ir] at hj
  | x::r,j,y,hj=>by
    rw [Ir] at hj
    cases j with
    | zero=>simp at hj;exact ⟨x,by simp,hj.symm⟩
    | succ j=>obtain ⟨x',h1,h2⟩:=A9u (c:=r) (j:=j) (by simpa using hj);exact ⟨x',by simpa using h1,h2⟩
theorem Bu2 {b:Nat} (hb:b<F3):Je b=b:=by
  unfold Je
  have:Nat.ble F3 b=false:=by
    cases h:Nat.ble F3 b with
    | false=>rfl
    | true=>have:=Nat.le_of_ble_eq_true h;omega
  rw [this];rfl
theorem Bp1 {K roots:List Nat} {st':St} (I:Inv Z nt J β st a w) (hh:clean K roots st=some st'):∃ β',Inv Z nt J β' st' a w:=by
  unfold clean at hh
  obtain ⟨hc,h1⟩:_∧_:=uc hh
  simp only [Bool.and_eq_true] at hc
  obtain ⟨c1,c2,c3,c4⟩:=hc
  generalize hids:Ac3 (Al st.h) (Aae (Al st.h) (Bdy K st.s++roots))=ids at *
  simp at h1
  have hn:=Sf c1
  have blk:∀ c y,Al (Aah (Al st.h) ids) c=some y→∃ b x,b ∈ ids∧Je b=c∧Al st.h b=some x∧x.dead=false∧y=Nb (Al st.h) x:=by
    intro c y hy
    obtain ⟨b,x,g1,g2,g3,g4⟩:=Ayn hn c y hy
    have hx:Al st.h b=some x∧x.dead=false:=Jq (fun _ _ h=>h) g3
    exact ⟨b,x,g1,g2,hx.1,hx.2,g4⟩
  have hlen:∀ x:Blk,(Nb (Al st.h) x).cells.length=x.cells.length:=fun x=>by
    unfold Nb;cases x.pure
    · simp;exact Aal _ _
    · rfl
  refine ⟨fun c=>(Bed ids c).bind β,?_⟩
  subst h1
  refine ⟨⟨I.sim.jlt, I.sim.jft, fun c y hy hd hm => ?_, fun c y hy hd hm => by
      obtain ⟨b,x,hb,rfl,hx,hxd,rfl⟩:=blk c y hy
      obtain ⟨g1,g2,k,es,clk,g3,g4,g5,g6⟩:=I.sim.mblk b x hx hxd hm
      have:(Nb (Al st.h) x).cells=x.cells:=by unfold Nb;rw [g1];rfl
      exact ⟨g1,g2,k,es,clk,by simp only [Jr hn hb,Option.bind_some];exact g3,g4,by rw [this];exact g5,g6⟩,?_⟩,⟨fun i v hv=>?_,fun i hi=>?_⟩,I.tmps,I.defers,I.os,I.tape,I.output,I.size,I.frame,?_,I.jsub,I.jup,I.sizes,I.zlt,I.zge,?_⟩
  · obtain ⟨b,x,hb,rfl,hx,hxd,rfl⟩:=blk c y hy
    rcases I.sim.blk b x hx hxd hm with ⟨g1,g2⟩ | ⟨k,o,cs,ty,fr,g1,g2,g3,g4,g5,g6,g7⟩
    · refine .inl ⟨by simp only [Jr hn hb,Option.bind_some];exact g1,?_⟩
      have:=hlen x;rw [g2] at this;simpa using this
    · refine .inr ⟨k,o,cs,ty,fr,by simp only [Jr hn hb,Option.bind_some];exact g1,g2,g3,by rw [hlen];exact g4,⟨fun hp=>?_,fun hp j q hj=>?_⟩,g6,g7⟩
      · have hp':x.pure=true:=hp
        have:(Nb (Al st.h) x).cells=x.cells:=by unfold Nb;rw [hp'];rfl
        rw [this];exact g5.1 hp'
      · have hp':x.pure=false:=hp
        have:(Nb (Al st.h) x).cells=Ir (Al st.h) x.cells:=by unfold Nb;rw [hp'];rfl
        rw [this] at hj
        obtain ⟨q',hq,rfl⟩:=A9u hj
        obtain ⟨u,hu,hr,ho⟩:=g5.2 hp' j q' hq
        exact ⟨u,hu,Rep.clean hn (fun b' hb' x' hx'=>A6d c3 b' (A6e hb hx hp' b' (A6f hq b' hb')) x' hx') hr,ho⟩
  · intro c c' y y' k o o' hy hy' hd hd' hs hβ hβ'
    obtain ⟨b,x,hb,rfl,hx,hxd,rfl⟩:=blk c y hy
    obtain ⟨b',x',hb',rfl,hx',hxd',rfl⟩:=blk c' y' hy'
    simp only [Jr hn hb,Option.bind_some] at hβ
    simp only [Jr hn hb',Option.bind_some] at hβ'
    rw [I.sim.sep b b' x x' k o o' hx hx' hxd hxd' hs hβ hβ']
  · rw [Ac6]
    split
    · rename_i hk
      exact Rep.clean hn (fun b hb x hx=>A6d c2 b (Bee hk b hb) x hx) (I.ss.slot i v hv)
    · rw [Rep];trivial
  · rw [Ac6,I.ss.out i hi]
    split
    · rfl
    · rfl
  · rintro k ⟨c,y,o,hy,hd,hs,hβ⟩ hk
    obtain ⟨b,x,hb,rfl,hx,hxd,rfl⟩:=blk c y hy
    simp only [Jr hn hb,Option.bind_some] at hβ
    exact I.wr k ⟨b,x,o,hx,hxd,hs,hβ⟩ hk
  · intro c x0 y h0 hy hd
    obtain ⟨b,x,hb,rfl,hx,hxd,rfl⟩:=blk c y hy
    have hlt:=I.zlt _ _ h0
    have hge:=I.zge _ _ h0
    have hbo:Je b=b:=by
      by_cases hnb:F3≤b
      · have:=Bp0 c4 b hb hnb;omega
      · exact Bu2 (by omega)
    rw [hbo] at h0
    obtain ⟨⟨e1,em⟩,e2,e3,e4⟩:=I.outs b x0 x h0 hx hxd
    refine ⟨⟨?_,em⟩,e2,by rw [hlen];exact e3,e4⟩
    simp only [Jr hn hb,Option.bind_some];rw [hbo];exact e1
end
end Gx

namespace Gx
open Go
section
variable {R:Type}
theorem Ao {α β:Type} (b:Bool) (x y:Option α) (f:α→Option β):(cond b x y).bind f=cond b (x.bind f) (y.bind f):=by cases b<;>rfl
theorem Ajd {R':Type} (P:Program) (t:TypeId) (c:List AV) (o:Bool) (k:Bool→Option R') (f:R'→Option R):(Xu P t c o k).bind f=Xu P t c o fun o=>(k o).bind f:=by
  unfold Xu;simp only [Ao,Option.bind_none]
theorem Sg (P:Program) (t:TypeId) (c:List AV) (org:Bool) (k:AV→Option R):Apb P t c org k=(Apb P t c org some).bind k:=by
  unfold Apb
  split<;>simp [Option.bind_assoc,Ao,Ajd]<;>rfl
theorem Br7 (P:Program) (t:TypeId) (c:List AV) (k:AV→Option R):A9l P t c k=(A9l P t c some).bind k:=by
  unfold A9l
  split<;>simp [Option.bind_assoc,Ao]
theorem A9v (n:Nat) (k:AV→Option R):∀ (c:List AV) (i:Nat),Ai2 n k c i=(Ai2 n some c i).bind k
  | [],_=>rfl
  | v::r,i=>by rw [Ai2,Ai2,Ao,A9v n k r (i+1)];rfl
theorem A9w (P:Program) (t:TypeId) (c:List AV) (off:Nat) (k:AV→Option R):Apc P t c off k=(Apc P t c off some).bind k:=by
  unfold Apc
  split
  · simp [Option.bind_assoc,Ao]
  · simp [Option.bind_assoc,Ao]
  · exact A9v ..
  · rfl
theorem Aje (P:Program) (g:Bl) (t:TypeId) (p:AV) (k:AV→Option R):Bds P g t p k=(Bds P g t p some).bind k:=by
  unfold Bds
  split
  · exact Sg ..
  · rw [Option.bind_assoc]
    congr 1;funext x
    rw [Ao,← Sg,← A9w]
  · rfl
theorem An2 (P:Program) (t:TypeId) (x i:AV) (k:AV→Option R):R9 P t x i k=(R9 P t x i some).bind k:=by
  unfold R9
  split<;>simp [Option.bind_assoc,Ao]
theorem An3 (P:Program) (t:TypeId) (x:AV) (f:Nat) (k:AV→Option R):Sa P t x f k=(Sa P t x f some).bind k:=by
  unfold Sa
  simp only [Option.bind_assoc,Ao]
  congr 1;funext p;congr 1;funext n;congr 1
  split<;>rfl
theorem A9x (P:Program) (t:TypeId) (x:AV) (f:Nat) (k:AV→Option R):A50 P t x f k=(A50 P t x f some).bind k:=by
  unfold A50
  rw [Option.bind_assoc]
  congr 1;funext p
  split
  · exact Sg ..
  · exact Br7 ..
  · rfl
theorem A9y (P:Program) (t:TypeId) (x i:AV) (k:AV→Option R):A51 P t x i k=(A51 P t x i some).bind k:=by
  unfold A51
  split
  · simp [Ao]
  · simp only [Option.bind_assoc,Ao,← Sg];rfl
  · simp only [Option.bind_assoc,Ao,← A9w];rfl
  · rfl
theorem Xx {α:Type} (lo hi mx:Option AV) (n:Nat) (f:Nat→Nat→α) (k:α→Option R):(Xv lo hi mx n fun l h=>k (f l h))=(Xv lo hi mx n fun l h=>some (f l h)).bind k:=by
  unfold Xv
  simp [Option.bind_assoc,Ao]
theorem A9z (P:Program) (g:Bl) (t:TypeId) (x:AV) (lo hi mx:Option AV) (k:AV→Option R):A52 P g t x lo hi mx k=(A52 P g t x lo hi mx some).bind k:=by
  unfold A52
  split
  · rw [Ao,← Xx];rfl
  · rw [Option.bind_assoc];congr 1;funext _;exact Xx lo hi mx 0 (fun _ _=>AV.nsl) k
  · rw [Option.bind_assoc];congr 1;funext _;rw [Ao,← Xx];rfl
  · rw [Option.bind_assoc];congr 1;funext _;rw [Option.bind_assoc];congr 1;funext _;rw [Ao,← Xx];rfl
  · rfl
theorem Bu3 (P:Program) (t:TypeId) (op:BinOp) (x y:AV) (k:AV→Option R):Bus P t op x y k=(Bus P t op x y some).bind k:=by
  unfold Bus
  split
  · split<;>simp [Ao]
  · split<;>simp [Ao]
  · split<;>simp [Ao]
  · rfl
def pr (v:AV) (u:Ups):Option (AV×Ups):=some (v,u)
theorem Bp2 (P:Program) (g:Bl) (t:TypeId) (p v:AV) (k:AV→Ups→Option R):A53 P g t p v k=(A53 P g t p v pr).bind fun q=>k q.1 q.2:=by
  unfold A53
  split
  · simp only [Option.bind_assoc,Ao]
    congr 1;funext x;congr 1;funext n;congr 1;congr 1
    split<;>simp [Ao,pr]
  · rfl
theorem Ayp (P:Program) (c:List AV) (org:Bool):∀ (L:List (Nat×TypeId)) (acc:List AV) (k:List AV→Option R),A2f P c org L acc k=(A2f P c org L acc some).bind k
  | [],acc,k=>rfl
  | (off,t)::L,acc,k=>by
    rw [A2f,A2f,Ao]
    congr 1
    rw [Sg,Sg (k:=fun v=>A2f P c org L (acc++[v]) some),Option.bind_assoc]
    congr 1;funext v
    exact Ayp P c org L _ k
theorem A90 (P:Program) (co:Bool) (t:TypeId) (v:AV) (k:AV→Option R):A55 P co t v k=(A55 P co t v some).bind k:=by
  unfold A55
  split
  · rename_i c org
    rw [Ayp,Ayp (k:=fun l=>cond (Nat.beq c.length l.length) (some (AV.agg l)) none),Option.bind_assoc]
    congr 1;funext l
    rw [Ao];rfl
  · rfl
theorem Bk9 (P:Program) (g:Bl) (d:Nat) (t:TypeId) (v:AV) (k:AV→Ups→Option R):Bpj P g d t v k=(Bpj P g d t v pr).bind fun q=>k q.1 q.2:=by
  unfold Bpj
  split<;>simp [Option.bind_assoc,Ao,pr]
theorem A6g (P:Program) (g:Bl) (d:Nat) (t:TypeId) (len:Nat) (ps:List (Nat×AV)) (k:AV→Ups→Option R):O9 P g d t len ps k=(O9 P g d t len ps pr).bind fun q=>k q.1 q.2:=by
  unfold O9
  split<;>simp [Option.bind_assoc,Ao,pr,Ahq]
theorem Bcp (P:Program) (g:Bl) (d:Nat) (t:TypeId) (len:Nat) (ps:List (Nat×AV)) (k:AV→Ups→Option R):Sb P g d t len ps k=(Sb P g d t len ps pr).bind fun q=>k q.1 q.2:=by
  unfold Sb
  split<;>simp [Option.bind_assoc,Ao,pr]
theorem Bu4 (P:Program) (t:TypeId) (co:Bool) (d:Nat) (v:AV) (k:AV→Ups→Option R):But P t co d v k=(But P t co d v pr).bind fun q=>k q.1 q.2:=by
  unfold But
  split<;>simp [Ao,pr]
theorem Br8 (P:Program) (d:Nat) (t:TypeId) (l c:AV) (k:AV→Ups→Option R):Bky P d t l c k=(Bky P d t l c pr).bind fun q=>k q.1 q.2:=by
  unfold Bky
  split<;>simp [Option.bind_assoc,Ao,pr]
theorem Bnw (P:Program) (g:Bl) (d:Nat) (t tx:TypeId) (s x:AV) (k:AV→Ups→Option R):At7 P g d t tx s x k=(At7 P g d t tx s x pr).bind fun q=>k q.1 q.2:=by
  unfold At7 Aye
  split<;>simp [Option.bind_assoc,Ao,pr,Ajd]
theorem Br9 (P:Program) (g:Bl) (t:TypeId) (s x:AV) (k:AV→Ups→Option R):Bkz P g t s x k=(Bkz P g t s x pr).bind fun q=>k q.1 q.2:=by
  unfold Bkz Aye
  split<;>simp [Option.bind_assoc,Ao,pr,Ajd]
theorem Bsa (P:Program) (g:Bl) (d:Nat) (src dst:TypeId) (x:AV) (k:AV→Ups→Option R):Bk0 P g d src dst x k=(Bk0 P g d src dst x pr).bind fun q=>k q.1 q.2:=by
  unfold Bk0
  split
  · split<;>simp [Ao,pr]
  · split
    · split<;>simp [pr]
    · split
      · split<;>simp [Option.bind_assoc,pr]
      · rfl
    · rfl
  · split
    · rw [Ao,Option.bind_assoc];simp only [Ao];rfl
    · rfl
    · rfl
  · rfl
theorem Ayq {R':Type} {f:R'→Option R} {s1:TypeId→List AV→List AV→(Bool→Option R')→Option R'} {s2:TypeId→List AV→List AV→(Bool→Option R)→Option R} (hs:∀ t x y k,(s1 t x y k).bind f=s2 t x y fun b=>(k b).bind f) {x y:List AV} :
    ∀ (l:List (Nat×TypeId)) (k:Bool→Option R'),(Ahi s1 x y l k).bind f=Ahi s2 x y l fun b=>(k b).bind f
  | [],k=>rfl
  | (o,t)::r,k=>by
    rw [Ahi,Ahi,hs]
    congr 1;funext b
    exact Ayq hs r _
theorem Auh {R':Type} {f:R'→Option R} (P:Program):∀ (d:Nat) (t:TypeId) (x y:List AV) (k:Bool→Option R'),(Bcn P d t x y k).bind f=Bcn P d t x y fun b=>(k b).bind f
  | 0,t,x,y,k=>rfl
  | d+1,t,x,y,k=>by
    rw [Bcn,Bcn]
    split<;>simp only [Option.bind_assoc,Ao,Option.bind_none]
    · congr 1;funext sz;rw [Ayq (Auh P d)]
    · congr 1;funext s;congr 1;funext sz;rw [Ayq (Auh P d)]
theorem Bef (P:Program) (t:TypeId) (op:BinOp) (x y:AV) (k:AV→Option R):Bkv P t op x y k=(Bkv P t op x y some).bind k:=by
  unfold Bkv
  split
  · rw [Option.bind_assoc]
    congr 1;funext s
    rw [Ao]
    congr 1
    split
    · rw [Auh];rfl
    · rw [Auh];rfl
    · rfl
  · exact Bu3 ..
theorem Beg (c x y:AV) (k:AV→Option R):Bk3 c x y k=(Bk3 c x y some).bind k:=by
  unfold Bk3
  split<;>first | rfl | (rw [Ao];rfl)
theorem Bp3 (P:Program) (g:Bl) (co:Bool) (d:Nat) (t:TypeId) (k:AV→Ups→Option R):A54 P g co d t k=(A54 P g co d t pr).bind fun q=>k q.1 q.2:=by
  unfold A54
  split
  · rw [Option.bind_assoc];rfl
  · exact Bk9 ..
  · rfl
theorem Beh:∀ (T:List (Nat×Tw)) (f:Nat) (args:List AV) (h:Aj) (k:AV→Aj→Option R),A2g T f args h k=(A2g T f args h fun v h'=>some (v,h')).bind fun p=>k p.1 p.2
  | [],f,args,h,k=>rfl
  | (g,t)::r,f,args,h,k=>by
    rw [A2g,A2g]
    cases Nat.beq g f
    · exact Beh r f args h k
    · exact t.eq args h k
theorem Bsb (E:Env) (g:Bl) (d f:Nat) (args:List AV) (k:AV→Ups→Option R):Bk2 E g d f args k=(Bk2 E g d f args pr).bind fun q=>k q.1 q.2:=by
  unfold Bk2
  rw [Option.bind_assoc]
  congr 1;funext q
  simp only [Ao,Option.bind_none]
  congr 1
  rw [Beh,Beh (R:=AV×Ups),Option.bind_assoc]
  congr 1;funext p
  simp only [Ao,Option.bind_none,pr,Option.bind_some]
theorem Bjt (d:Nat) (o:Option AV) (k:AV→Ups→Option R):Aad d o k=(Aad d o pr).bind fun q=>k q.1 q.2:=by
  unfold Aad
  split<;>rfl
theorem Bp4 (P:Program) (g:Bl) (t:TypeId) (m x y:AV) (k:AV→Ups→Option R):A56 P g t m x y k=(A56 P g t m x y pr).bind fun q=>k q.1 q.2:=by
  unfold A56
  split<;>simp [Ao,Option.bind_assoc,pr]
theorem Bei (P:Program) (g:Bl) (t:TypeId) (m x:AV) (c:Bool) (k:AV→Option R):Bk1 P g t m x c k=(Bk1 P g t m x c some).bind k:=by
  unfold Bk1
  split<;>simp [Ao,Option.bind_assoc]
theorem Bu5 (E:Env) (g:Bl) (d:Nat) (v:Operand→AV) (o:Op) (k:AV→Ups→Option R):Bjp E g d v o k=(Bjp E g d v o pr).bind fun q=>k q.1 q.2:=by
  unfold Bjp
  split
  · rfl
  · rfl
  · rw [Beg,Beg (k:=fun r=>pr r []),Option.bind_assoc];rfl
  · exact Bp3 ..
  · rw [A90,A90 (k:=fun u=>Bpj E.P g d _ u pr),Option.bind_assoc];congr 1;funext u;exact Bk9 ..
  · rw [Ayk,Ayk,Option.bind_assoc];congr 1;funext x;exact Bu4 ..
  · rw [Ao,← Bcp,← A6g]
  · rw [Aje,Aje (k:=fun r=>pr r []),Option.bind_assoc];rfl
  · exact Bp2 ..
  · split<;>rfl
  · rw [Bef,Bef (k:=fun r=>pr r []),Option.bind_assoc];rfl
  · rw [Option.bind_assoc];rfl
  · exact Bsa ..
  · rw [Ao];rfl
  · exact Br8 ..
  · rw [A9z,A9z (k:=fun r=>pr r []),Option.bind_assoc];rfl
  · rw [An3,An3 (k:=fun r=>pr r []),Option.bind_assoc];rfl
  · rw [A9x,A9x (k:=fun r=>pr r []),Option.bind_assoc];rfl
  · rw [An2,An2 (k:=fun r=>pr r []),Option.bind_assoc];rfl
  · rw [A9y,A9y (k:=fun r=>pr r []),Option.bind_assoc];rfl
  · exact Bjt ..
  · exact Bp4 ..
  · rw [Bei,Bei (k:=fun r=>pr r []),Option.bind_assoc];rfl
  · split
    · rw [Option.bind_assoc];rfl
    · rfl
  · split
    · split
      · rw [Option.bind_assoc];rfl
      · rfl
    · split
      · exact Bnw ..
      · rfl
    · split
      · exact Br9 ..
      · rfl
    · split
      · rw [Option.bind_assoc];rfl
      · simp only [Option.bind_assoc];rfl
      · rfl
    · split
      · rw [Option.bind_assoc];rfl
      · simp only [Option.bind_assoc];rfl
      · rfl
    · split
      · rw [Ao,← Bsb];rfl
      · rfl
    · rfl
  · rfl
end
end Gx

namespace Gx
open Go
theorem Ahs:∀ {l acc:List Nat} {b:Nat},b ∈ Bdw l acc↔b ∈ l∨b ∈ acc
  | [],acc,b=>by simp [Bdw]
  | i::r,acc,b=>by
    rw [Bdw]
    cases hm:Hn acc i with
    | true =>
      simp only [cond_true]
      rw [Ahs]
      have:=Jf.1 hm
      constructor
      · rintro (h | h)
        · exact .inl (by simp [h])
        · exact .inr h
      · rintro (h | h)
        · rcases List.mem_cons.1 h with e | h
          · subst e;exact .inr this
          · exact .inl h
        · exact .inr h
    | false =>
      simp only [cond_false]
      rw [Ahs]
      simp only [List.mem_cons]
      constructor
      · rintro (h | h | h)
        · exact .inl (.inr h)
        · exact .inl (.inl h)
        · exact .inr h
      · rintro ((h | h) | h)
        · exact .inr (.inl h)
        · exact .inl h
        · exact .inr (.inr h)
theorem Ac7 {g g':Bl}:∀ {l:List Nat},(∀ b ∈ l,g' b=g b)→Jd g' l=Jd g l
  | [],_=>rfl
  | i::r,h=>by
    rw [Jd,Jd,h i (by simp),Ac7 (fun b hb=>h b (by simp [hb]))]
theorem A2r {g:Bl}:∀ {a b:List Nat},Jd g (a++b)=Jd g a++Jd g b
  | [],b=>rfl
  | i::r,b=>by rw [List.cons_append,Jd,Jd,A2r,List.append_assoc]
theorem Bp5 {g g':Bl} {ids:List Nat} (h:∀ b ∈ Aae g ids,g' b=g b):Aae g' ids=Aae g ids:=by
  have h1:∀ b ∈ ids,g' b=g b:=fun b hb=>h b (Ahs.2 (.inl (List.mem_append.2 (.inl hb))))
  have e1:Jd g' ids=Jd g ids:=Ac7 h1
  have h2:∀ b ∈ Jd g ids,g' b=g b:=fun b hb=>h b (Ahs.2 (.inl (List.mem_append.2 (.inr (by rw [A2r];exact List.mem_append.2 (.inl hb))))))
  unfold Aae
  rw [e1,Ac7 (l:=ids++Jd g ids) (fun b hb=>by
    rcases List.mem_append.1 hb with hb | hb
    · exact h1 b hb
    · exact h2 b hb)]
section
variable {R:Type} {E:Env} {ops:Array Oper} {o p:Oper} {st st1 st2:St}
theorem A91 {v v':Operand→AV} {parts:Array (Nat×Operand)} (h:∀ q ∈ parts.toList,v' q.2=v q.2):(parts.toList.map fun q=>(q.1,v' q.2))=(parts.toList.map fun q=>(q.1,v q.2)) :=
  List.map_congr_left (fun q hq=>by rw [h q hq])
theorem Bsc {g:Bl} {d:Nat} {v v':Operand→AV} {op:Op} {k:AV→Ups→Option R} (h:∀ x ∈ op.operands.toList,v' x=v x):Bjp E g d v' op k=Bjp E g d v op k:=by
  unfold Bjp
  cases op
  case build t parts =>
    simp only
    rw [A91 (v:=v) (v':=v') (fun q hq=>h q.2 (by simp [Op.operands];exact ⟨q.1,by simpa using hq⟩))]
  case buildSlice t n parts =>
    simp only
    rw [A91 (v:=v) (v':=v') (fun q hq=>h q.2 (by simp [Op.operands];exact ⟨q.1,by simpa using hq⟩))]
  case slice t x lo hi mx =>
    simp only
    have h1:v' x=v x:=h x (by simp [Op.operands])
    have h2:lo.map v'=lo.map v:=by
      cases lo with
      | none=>rfl
      | some y=>simp;exact h y (by simp [Op.operands])
    have h3:hi.map v'=hi.map v:=by
      cases hi with
      | none=>rfl
      | some y=>simp;exact h y (by simp [Op.operands])
    have h4:mx.map v'=mx.map v:=by
      cases mx with
      | none=>rfl
      | some y=>simp;exact h y (by simp [Op.operands])
    rw [h1,h2,h3,h4]
  case makeMap t rr =>
    simp only
    have h1:rr.map v'=rr.map v:=by
      cases rr with
      | none=>rfl
      | some y=>simp;exact h y (by simp [Op.operands])
    rw [h1]
  case makeFunc f first caps =>
    cases f<;>try rfl
    simp only
    have:(first.toList++caps.toList).map v'=(first.toList++caps.toList).map v:=List.map_congr_left (fun x hx=>h x (by simp [Op.operands];simpa using hx))
    rw [this]
  case call c =>
    have ha:∀ x ∈ c.args.toList,v' x=v x:=fun x hx=>h x (by
      simp only [Op.operands,Call.operands,Array.toList_append]
      exact List.mem_append.2 (.inr hx))
    have hm:c.args.toList.map v'=c.args.toList.map v:=List.map_congr_left ha
    simp only
    cases hc:c.callee with
    | value f =>
      have hf:v' f=v f:=h f (by simp [Op.operands,Call.operands,hc])
      simp only [hf,hm]
    | invoke a b=>rfl
    | builtin b =>
      cases b<;>try rfl
      all_goals
        simp only
        split
        · first
            | (rename_i h1 h2
               simp only [h1,List.mem_cons,List.not_mem_nil,or_false,forall_eq_or_imp,forall_eq] at ha
               simp only [ha])
            | (rename_i h1
               simp only [h1,List.mem_cons,List.not_mem_nil,or_false,forall_eq_or_imp,forall_eq] at ha
               simp only [ha])
        all_goals first
          | rfl
          | (rename_i h1
             simp only [h1,List.mem_cons,List.not_mem_nil,or_false,forall_eq_or_imp,forall_eq] at ha
             simp only [ha])
  all_goals first
    | rfl
    | (simp [Op.operands] at h;simp [h])
end
end Gx

namespace Gx
open Go
section
variable {R:Type} {E:Env} {ops:Array Oper} {o p:Oper} {st st1 st2 st3:St}
def Bt4 (ops:Array Oper) (o:Oper):List Nat:=match At8 ops o with | some p=>[p.1] | none=>[]
def Afw (o:Oper) (s:Fl):List AV:=o.op.operands.toList.map (ev s)
def Bnx (h:Aj) (F:List Nat):Bl:=fun b=>cond (Hn F b) (Al h b) none
def dOf (o:Oper):Nat:=o.dst.getD 50000
def R7 (E:Env) (ops:Array Oper) (o:Oper) (st:St):Option (AV×Ups×Foot) :=
  (Ai5 ops st.s o).bind fun wanted=>cond wanted
    ((Bjp E (Bnx st.h (Wq st.h o.op (Afw o st.s))) (dOf o) (ev st.s) o.op pr).bind fun q =>
      cond (Awc (dOf o) (Wq st.h o.op (Afw o st.s)) st.h q.2) (some (q.1,q.2,{ r:=Bt4 ops o++Ayg o.op.operands.toList,w:=o.dst,f:=Wq st.h o.op (Afw o st.s),u:=q.2.map (·.1) })) none)
    (some (.tup [],[],{ r:=Bt4 ops o,w:=o.dst,f:=[],u:=[] }))
def after (E:Env) (o:Oper) (st:St) (q:AV×Ups×Foot):St:={ s:=Brx E.nt st.s o.dst q.1,h:=Ak q.2.1 st.h }
theorem Aui (k:St→Foot→Option R):Bpm E ops o st k=(R7 E ops o st).bind fun q=>k (after E o st q) q.2.2:=by
  unfold Bpm R7
  rw [Option.bind_assoc]
  congr 1;funext t
  rw [Ao]
  congr 1
  rw [Bu5,Option.bind_assoc]
  congr 1;funext q
  rw [Ao]
  rfl
theorem Bej:∀ {l:List Operand} {t:Nat},Operand.tmp t ∈ l→t ∈ Ayg l
  | [],t,h=>by simp at h
  | x::r,t,h=>by
    rcases List.mem_cons.1 h with e | h'
    · subst e;simp [Ayg]
    · have ih:=Bej h'
      cases x<;>simp [Ayg]<;>first | exact .inr ih | exact ih
theorem A92 {d:Nat} {F:List Nat} {h h2:Aj}:∀ {ups:Ups},(∀ b ∈ ups.map (·.1),Al h2 b=Al h b)→Awc d F h2 ups=Awc d F h ups
  | [],_=>rfl
  | (b,_)::r,hh=>by rw [Awc,Awc,hh b (by simp),A92 (fun c hc=>hh c (by simp at hc ⊢;exact .inr hc))]
theorem Awj {s s2:Fl} (h:∀ t ∈ Bt4 ops o,Ep s2 t=Ep s t):Ai5 ops s2 o=Ai5 ops s o:=by
  unfold Ai5
  cases hg:o.guard with
  | none=>rfl
  | some q =>
    obtain ⟨j,want⟩:=q
    simp only
    cases ht:(ops[j]?).bind (·.dst) with
    | none=>rfl
    | some t =>
      have:Ep s2 t=Ep s t:=h t (by simp [Bt4,At8,hg,ht])
      simp only [this]
theorem App {q:AV×Ups×Foot} (hc:R7 E ops o st=some q) (hr:∀ t ∈ q.2.2.r,Ep st2.s t=Ep st.s t) (hf:∀ b,b ∈ q.2.2.f∨b ∈ q.2.2.u→Al st2.h b=Al st.h b):R7 E ops o st2=some q:=by
  have hc0:=hc
  unfold R7 at hc
  obtain ⟨t,ht,h1⟩:=ub hc
  cases t with
  | false =>
    simp at h1;subst h1
    unfold R7
    rw [Awj (s:=st.s) hr,ht];rfl
  | true =>
    rw [cond_true] at h1
    obtain ⟨x,hx,h2⟩:=ub h1
    obtain ⟨hu,h3⟩:=uc h2
    simp at h3;subst h3
    simp only at hr hf
    have hv:∀ y ∈ o.op.operands.toList,ev st2.s y=ev st.s y:=fun y hy=>by
      cases y with
      | tmp t=>exact hr t (List.mem_append.2 (.inr (Bej hy)))
      | const _=>rfl
      | global _=>rfl
      | func _=>rfl
    have hvals:Afw o st2.s=Afw o st.s:=List.map_congr_left hv
    have hF:Wq st2.h o.op (Afw o st.s)=Wq st.h o.op (Afw o st.s):=by
      unfold Wq at hf ⊢
      cases hlk:Btx o.op with
      | true=>rw [hlk] at hf;exact Bp5 (fun b hb=>hf b (.inl hb))
      | false=>rfl
    have hm:Bnx st2.h (Wq st.h o.op (Afw o st.s))=Bnx st.h (Wq st.h o.op (Afw o st.s)):=by
      funext b
      unfold Bnx
      cases hb:Hn (Wq st.h o.op (Afw o st.s)) b with
      | false=>rfl
      | true=>simp only [cond_true];exact hf b (.inl (Jf.1 hb))
    unfold R7
    rw [Awj (s:=st.s) (fun t ht=>hr t (List.mem_append.2 (.inl ht))),ht]
    simp only [Option.bind_some,cond_true]
    rw [hvals,hF,hm,Bsc hv,hx]
    simp only [Option.bind_some]
    rw [A92 (h:=st.h) (fun b hb=>hf b (.inr hb)),hu]
    rfl
theorem Auj:∀ {ups:Ups} {b:Nat},A5 ups b=true↔b ∈ ups.map (·.1)
  | [],b=>by simp [A5]
  | (i,_)::r,b=>by
    rw [A5]
    cases hi:Nat.beq i b with
    | true=>have:=Nat.eq_of_beq_eq_true hi;subst this;simp
    | false =>
      have ne:=Xk hi
      simp only [cond_false]
      rw [Auj]
      simp only [List.map_cons,List.mem_cons]
      constructor
      · exact fun h=>.inr h
      · rintro (h | h)
        · exact absurd h.symm ne
        · exact h
theorem Bt5 {q:AV×Ups×Foot} (hc:R7 E ops o st=some q):q.2.2.w=o.dst∧q.2.2.u=q.2.1.map (·.1):=by
  unfold R7 at hc
  obtain ⟨t,ht,h1⟩:=ub hc
  cases t with
  | false=>simp at h1;subst h1;simp
  | true =>
    rw [cond_true] at h1
    obtain ⟨x,hx,h2⟩:=ub h1
    obtain ⟨hu,h3⟩:=uc h2
    simp at h3;subst h3;simp
theorem Fo:∀ (ups:Ups) {h h2:Aj},(∀ b,Al h2 b=Al h b)→∀ b,Al (Ak ups h2) b=Al (Ak ups h) b
  | [],_,_,hh,b=>hh b
  | (i,some x)::r,h,h2,hh,b=>Fo r (fun c=>by rw [Ae,Ae,hh c]) b
  | (i,none)::r,h,h2,hh,b=>by
    rw [Ak,Ak]
    refine Fo r (fun c=>?_) b
    rw [hh i]
    split
    · rw [Ae,Ae,hh c]
    · exact hh c
theorem Bp6 {q:AV×Ups×Foot} (h:Eqv st st2):Eqv (after E o st q) (after E o st2 q):=by
  refine ⟨fun t=>?_,fun b=>?_⟩
  · unfold after;simp only;rw [Lt,Lt,h.1 t]
  · exact (Fo q.2.1 (fun b=>(h.2 b).symm) b).symm
theorem Pv {i:Nat} {y:Blk}:∀ (ups:Ups) {h:Aj},A5 ups i=false→∀ b,Al (Ak ups (Et h i y)) b=if b=i then some y else Al (Ak ups h) b
  | [],h,_,b=>Ae h i y b
  | (j,some x)::r,h,hi,b=>by
    rw [A5] at hi
    cases hj:Nat.beq j i with
    | true=>rw [hj] at hi;simp at hi
    | false =>
      rw [hj] at hi
      have ne:=Xk hj
      rw [Ak,Ak,Fo r (h:=Et (Et h j x) i y) (fun c=>by
        rw [Ae,Ae,Ae,Ae]
        by_cases e1:c=j
        · subst e1;simp [ne]
        · simp [e1]) b]
      exact Pv r hi b
  | (j,none)::r,h,hi,b=>by
    rw [A5] at hi
    cases hj:Nat.beq j i with
    | true=>rw [hj] at hi;simp at hi
    | false =>
      rw [hj] at hi
      have ne:=Xk hj
      rw [Ak,Ak,Ae,if_neg ne]
      split
      · rename_i x hx
        rw [Fo r (h:=Et (Et h j { x with dead:=true,pure:=true,cells:=[] }) i y) (fun c=>by
          rw [Ae,Ae,Ae,Ae]
          by_cases e1:c=j
          · subst e1;simp [ne]
          · simp [e1]) b]
        exact Pv r hi b
      · exact Pv r hi b
theorem Uf:∀ (u1 u2:Ups) (h:Aj),(∀ b,A5 u1 b=true→A5 u2 b=false)→∀ b,Al (Ak u2 (Ak u1 h)) b=Al (Ak u1 (Ak u2 h)) b
  | [],u2,h,_,b=>rfl
  | (i,some x)::r,u2,h,hd,b=>by
    rw [Ak,Ak]
    have hi:A5 u2 i=false:=hd i (by simp [A5])
    rw [Uf r u2 (Et h i x) (fun c hc=>hd c (by rw [A5,hc];cases Nat.beq i c<;>rfl)) b]
    refine Fo r (fun c=>?_) b
    rw [Pv u2 hi,Ae]
  | (i,none)::r,u2,h,hd,b=>by
    rw [Ak,Ak]
    have hi:A5 u2 i=false:=hd i (by simp [A5])
    rw [Ce u2 h i hi]
    split
    · rename_i x hx
      rw [Uf r u2 _ (fun c hc=>hd c (by rw [A5,hc];cases Nat.beq i c<;>rfl)) b]
      refine Fo r (fun c=>?_) b
      rw [Pv u2 hi,Ae]
    · exact Uf r u2 h (fun c hc=>hd c (by rw [A5,hc];cases Nat.beq i c<;>rfl)) b
theorem Bek:∀ {a l:List Nat},Bpl a l=true→∀ b ∈ a,b ∉ l
  | [],l,_,b,hb=>by simp at hb
  | i::r,l,h,b,hb=>by
    rw [Bpl] at h;simp at h
    rcases List.mem_cons.1 hb with e | hb
    · subst e;intro hm;rw [Jf.2 hm] at h;simp at h
    · exact Bek h.2 b hb
theorem Bel {q:AV×Ups×Foot} {t:Nat} (h:o.dst≠some t):Ep (after E o st q).s t=Ep st.s t:=by
  unfold after;simp only;rw [Lt,if_neg (fun hh=>h hh.1)]
theorem Bem {q:AV×Ups×Foot} {b:Nat} (h:b ∉ q.2.1.map (·.1)):Al (after E o st q).h b=Al st.h b:=by
  unfold after;simp only
  rw [Ce]
  cases hi:A5 q.2.1 b with
  | false=>rfl
  | true=>exact absurd (Auj.1 hi) h
theorem Bla {w:Option Nat} {l:List Nat} (h:wIn w l=false):∀ t ∈ l,w≠some t:=by
  intro t ht e
  subst e
  rw [wIn,Jf.2 ht] at h;cases h
theorem Bzz {q1 q2:AV×Ups×Foot} (h1:R7 E ops p st=some q1) (h2:R7 E ops o (after E p st q1)=some q2) (hi:A9n q1.2.2 q2.2.2=true) :
    R7 E ops o st=some q2∧R7 E ops p (after E o st q2)=some q1∧Eqv (after E p (after E o st q2) q1) (after E o (after E p st q1) q2):=by
  unfold A9n at hi
  simp only [Bool.and_eq_true,Bool.not_eq_true'] at hi
  obtain ⟨⟨⟨⟨i1,i2⟩,i3⟩,i4⟩,i5⟩:=hi
  obtain ⟨w1,u1⟩:=Bt5 h1
  obtain ⟨w2,u2⟩:=Bt5 h2
  have d1:=Bek i4
  have d2:=Bek i5
  have a1:R7 E ops o st=some q2:=App h2 (fun t ht=>(Bel (by rw [← w1];exact Bla i1 t ht)).symm) (fun b hb=>(Bem (fun hm=>by
    rw [← u1] at hm
    exact d1 b hm (by rcases hb with hb | hb<;>simp [hb]))).symm)
  have a2:R7 E ops p (after E o st q2)=some q1:=App h1 (fun t ht=>Bel (by rw [← w2];exact Bla i2 t ht)) (fun b hb=>Bem (fun hm=>by
    rw [← u2] at hm
    rcases hb with hb | hb
    · exact d2 b hm hb
    · exact d1 b hb (by simp [hm])))
  refine ⟨a1,a2,fun t=>?_,fun b=>?_⟩
  · unfold after;simp only
    rw [Lt,Lt,Lt,Lt]
    by_cases e1:p.dst=some t∧t<E.nt
    · by_cases e2:o.dst=some t∧t<E.nt
      · exfalso
        rw [w1,w2,e1.1,e2.1] at i3
        simp at i3
      · rw [if_pos e1,if_neg e2,if_pos e1]
    · by_cases e2:o.dst=some t∧t<E.nt
      · rw [if_neg e1,if_pos e2,if_pos e2]
      · rw [if_neg e1,if_neg e2,if_neg e2,if_neg e1]
  · unfold after;simp only
    refine (Uf q1.2.1 q2.2.1 st.h (fun c hc=>?_) b).symm
    cases hx:A5 q2.2.1 c with
    | false=>rfl
    | true =>
      have m1:c ∈ q1.2.2.u:=by rw [u1];exact Auj.1 hc
      have m2:c ∈ q2.2.2.u:=by rw [u2];exact Auj.1 hx
      exact absurd (by simp [m2]) (d1 c m1)
def RunF (E:Env) (ops:Array Oper) (fp:Nat→Foot):List (Nat×Oper)→St→St→Prop
  | [],st,e=>Eqv st e
  | (i,o)::r,st,e=>∃ q,R7 E ops o st=some q∧q.2.2=fp i∧RunF E ops fp r (after E o st q) e
theorem RunF.congr {fp:Nat→Foot}:∀ {l:List (Nat×Oper)} {st st2 e:St},RunF E ops fp l st e→Eqv st st2→RunF E ops fp l st2 e
  | [],st,st2,e,h,he=>he.symm.trans h
  | (i,o)::r,st,st2,e,h,he=>by
    rw [RunF] at h ⊢
    obtain ⟨q,h1,h2,h3⟩:=h
    exact ⟨q,App h1 (fun t _=>(he.1 t).symm) (fun b _=>(he.2 b).symm),h2,RunF.congr h3 (Bp6 he)⟩
theorem RunF.pull {fp:Nat→Foot} {i:Nat} {o:Oper} {B:List (Nat×Oper)}:∀ {A:List (Nat×Oper)} {st e:St},RunF E ops fp (A++(i,o)::B) st e→(∀ jp ∈ A,A9n (fp jp.1) (fp i)=true) →
    ∃ q,R7 E ops o st=some q∧q.2.2=fp i∧RunF E ops fp (A++B) (after E o st q) e
  | [],st,e,h,_=>h
  | (j,p)::A,st,e,h,hA=>by
    rw [List.cons_append,RunF] at h
    obtain ⟨q1,h1,h2,h3⟩:=h
    obtain ⟨q2,g1,g2,g3⟩:=RunF.pull h3 (fun jp hm=>hA jp (by simp [hm]))
    have hi:A9n q1.2.2 q2.2.2=true:=by rw [h2,g2];exact hA (j,p) (by simp)
    obtain ⟨a1,a2,a3⟩:=Bzz h1 g1 hi
    refine ⟨q2,a1,g2,?_⟩
    rw [List.cons_append,RunF]
    exact ⟨q1,a2,h2,RunF.congr g3 a3.symm⟩
end
end Gx

namespace Gx
open Go
def idx:Nat→List Oper→List (Nat×Oper)
  | _,[]=>[]
  | n,o::r=>(n,o)::idx (n+1) r
theorem Bde:∀ {l:List Oper} {n:Nat} {p:Nat×Oper},p ∈ idx n l↔n≤p.1∧l[p.1 - n]?=some p.2
  | [],n,p=>by simp [idx]
  | o::r,n,p=>by
    rw [idx,List.mem_cons,Bde]
    constructor
    · rintro (rfl | ⟨h1,h2⟩)
      · simp
      · refine ⟨by omega,?_⟩
        rw [show p.1 - n=(p.1 - (n+1))+1 by omega];simpa using h2
    · rintro ⟨h1,h2⟩
      by_cases e:p.1=n
      · left
        rw [e] at h2;simp at h2
        obtain ⟨a,b⟩:=p
        simp at e h2;subst e h2;rfl
      · right
        refine ⟨by omega,?_⟩
        rw [show p.1 - n=(p.1 - (n+1))+1 by omega] at h2;simpa using h2
theorem Ben:∀ (l:List Oper) (n:Nat),(idx n l).Pairwise (fun a b=>a.1<b.1)
  | [],n=>List.Pairwise.nil
  | o::r,n=>by
    rw [idx]
    refine List.pairwise_cons.2 ⟨fun p hp=>?_,Ben r (n+1)⟩
    have:=(Bde.1 hp).1
    show n<p.1;omega
section
variable {R:Type} {r:R} {Z:Start} {E:Env} {ops:Array Oper}
def RunL (E:Env) (ops:Array Oper):List Oper→List Foot→St→St→Prop
  | [],[],st,e=>st=e
  | o::l,f::fs,st,e=>∃ st' q,Eqv st st'∧R7 E ops o st'=some q∧q.2.2=f∧RunL E ops l fs (after E o st' q) e
  | _,_,_,_=>False
theorem Bp7:∀ {l:List Oper} {st:St} {tr:List Foot} {k:St→List Foot→Option R},Bdx E ops l st tr k=some r→∃ fs e,k e (fs.reverse++tr)=some r∧RunL E ops l fs st e
  | [],st,tr,k,h=>⟨[],st,by simpa [Bdx] using h,rfl⟩
  | o::l,st,tr,k,h=>by
    rw [Bdx] at h
    obtain ⟨st',he,h⟩:=Beb h
    rw [Aui] at h
    obtain ⟨q,h1,h2⟩:=ub h
    obtain ⟨fs,e,h3,h4⟩:=Bp7 h2
    exact ⟨q.2.2::fs,e,by simpa using h3,st',q,he,h1,rfl,h4⟩
theorem RunL.length:∀ {l:List Oper} {fs:List Foot} {st e:St},RunL E ops l fs st e→fs.length=l.length
  | [],[],_,_,_=>rfl
  | [],_::_,_,_,h=>h.elim
  | _::_,[],_,_,h=>h.elim
  | o::l,f::fs,st,e,⟨_,q,_,_,_,h⟩=>by simp [RunL.length h]
theorem RunL.runF {fp:Nat→Foot}:∀ {l:List Oper} {fs:List Foot} {n:Nat} {st e:St},RunL E ops l fs st e→(∀ (j:Nat) (f:Foot),fs[j]?=some f→fp (n+j)=f)→RunF E ops fp (idx n l) st e
  | [],[],n,st,e,h,_=>by subst h;exact Eqv.refl _
  | [],_::_,_,_,_,h,_=>h.elim
  | _::_,[],_,_,_,h,_=>h.elim
  | o::l,f::fs,n,st,e,⟨st',q,he,h1,h2,h3⟩,hf=>by
    rw [idx]
    refine RunF.congr ?_ he.symm
    rw [RunF]
    refine ⟨q,h1,by rw [h2];exact (hf 0 f (by simp)).symm,RunL.runF h3 (fun j g hj=>?_)⟩
    have:=hf (j+1) g (by simpa using hj)
    rwa [show n+(j+1)=n+1+j by omega] at this
theorem A93 {f:Foot} {anc:List Nat}:∀ {seen:List Foot} {i:Nat},A2i f anc i seen=true→∀ (j:Nat) (g:Foot),seen[j]?=some g→(i+j) ∈ anc∨A9n g f=true
  | [],i,_,j,g,hj=>by simp at hj
  | x::r,i,h,j,g,hj=>by
    rw [A2i] at h;simp only [Bool.and_eq_true,Bool.or_eq_true] at h
    cases j with
    | zero =>
      simp at hj;subst hj
      rcases h.1 with h1 | h1
      · exact .inl (Jf.1 h1)
      · exact .inr h1
    | succ j =>
      have:=A93 h.2 j g (by simpa using hj)
      rwa [show i+1+j=i+(j+1) by omega] at this
theorem Beo:∀ {fs:List Foot} {az9:List (List Nat)} {seen:List Foot},At9 fs az9 seen=true→∀ (i:Nat) (f:Foot),fs[i]?=some f →
    ∃ a,az9[i]?=some a∧∀ (j:Nat) (g:Foot),(seen++fs)[j]?=some g→j<seen.length+i→j ∈ a∨A9n g f=true
  | [],az9,seen,_,i,f,hf=>by simp at hf
  | x::r,[],seen,h,i,f,hf=>by simp [At9] at h
  | x::r,a::az9,seen,h,i,f,hf=>by
    rw [At9] at h;simp only [Bool.and_eq_true] at h
    cases i with
    | zero =>
      simp at hf;subst hf
      refine ⟨a,by simp,fun j g hj hlt=>?_⟩
      rw [List.getElem?_append,if_pos (by omega)] at hj
      simpa using A93 h.1 j g hj
    | succ i =>
      obtain ⟨a',h1,h2⟩:=Beo h.2 i f (by simpa using hf)
      refine ⟨a',by simpa using h1,fun j g hj hlt=>h2 j g ?_ (by simp;omega)⟩
      simpa using hj
theorem Afx:∀ {l:List Oper} {acc:List (List Nat)} {i:Nat},i<acc.length→(Fb l acc)[i]?=acc[i]?
  | [],acc,i,_=>rfl
  | o::r,acc,i,hi=>by
    rw [Fb,Ahn,Afx (by simp;omega),List.getElem?_append,if_pos hi]
theorem Ajf:∀ {l:List Oper} {acc:List (List Nat)} {i:Nat} {a:List Nat},(Fb l acc)[i]?=some a→acc.length≤i→∃ o,l[i - acc.length]?=some o ∧
    ∀ k ∈ a,k ∈ Ai6 o∨∃ j a',j ∈ Ai6 o∧j<i∧(Fb l acc)[j]?=some a'∧k ∈ a'
  | [],acc,i,a,h,hi=>by
    rw [Fb,List.getElem?_eq_none hi] at h;cases h
  | o::r,acc,i,a,h,hi=>by
    by_cases e:i=acc.length
    · subst e
      rw [Fb,Ahn,Afx (by simp)] at h
      simp only [List.getElem?_concat_length,Option.some.injEq] at h
      refine ⟨o,by simp,fun k hk=>?_⟩
      rw [← h,Ahs] at hk
      replace hk:=hk.resolve_right (by simp)
      rcases List.mem_append.1 hk with hk | hk
      · exact .inl hk
      · right
        obtain ⟨j,hj,hk⟩:=List.mem_flatMap.1 hk
        cases ha:acc[j]? with
        | none=>rw [ha] at hk;simp at hk
        | some a' =>
          rw [ha] at hk;simp at hk
          have hlt:j<acc.length:=(List.getElem?_eq_some_iff.1 ha).1
          exact ⟨j,a',hj,hlt,by rw [Afx hlt];exact ha,hk⟩
    · rw [Fb,Ahn] at h
      obtain ⟨o',h1,h2⟩:=Ajf h (by simp;omega)
      refine ⟨o',?_,fun k hk=>?_⟩
      · simp at h1
        rw [show i - acc.length=(i - (acc.length+1))+1 by omega];simpa using h1
      · rw [Fb,Ahn];exact h2 k hk
theorem A2s:∀ {l:List Oper} {n i:Nat} {o:Oper},Zl n l=true→l[i]?=some o→∀ e ∈ o.after,Aph e=true→e.on<n+i
  | [],n,i,o,_,hi,_,_,_=>by simp at hi
  | x::r,n,i,o,h,hi,e,he,hb=>by
    rw [Zl] at h;simp only [Bool.and_eq_true] at h
    cases i with
    | zero =>
      simp at hi;subst hi
      have:=List.all_eq_true.1 h.1 e (by simpa using he)
      rw [hb] at this;simpa using this
    | succ i =>
      have:=A2s h.2 (by simpa using hi) e he hb
      omega
theorem Blb (e:Edge):Region.binds .any e=Aph e:=by
  unfold Region.binds Aph
  cases e.ground<;>rfl
theorem Bsd {listed:Array Bool} (hclosed:∀ (j:Nat) (o:Oper),ops[j]?=some o→listed.getD j true=true→∀ k ∈ Ai6 o,listed.getD k false=true) :
    ∀ (i:Nat) (a:List Nat) (o:Oper),(Fb ops.toList [])[i]?=some a→ops[i]?=some o→(∀ k ∈ Ai6 o,listed.getD k false=true)→∀ k ∈ a,listed.getD k false=true:=by
  intro i
  induction i using Nat.strongRecOn with
  | _ i ih =>
    intro a o ha ho hd k hk
    obtain ⟨o',h1,h2⟩:=Ajf ha (by simp)
    simp at h1
    rw [ho] at h1;simp at h1;subst h1
    rcases h2 k hk with h3 | ⟨j,a',h3,h4,h5,h6⟩
    · exact hd k h3
    · have hjl:=hd j h3
      obtain ⟨oj,hoj,_⟩:=Ajf h5 (by simp)
      simp at hoj
      have hjt:listed.getD j true=true:=by
        rw [Array.getD_eq_getD_getElem?] at hjl ⊢
        cases hx:listed[j]? with
        | none=>rw [hx] at hjl;simp at hjl
        | some b=>rw [hx] at hjl;simpa using hjl
      exact ih j h4 a' oj h5 hoj (hclosed j oj hoj hjt) k h6
def Lu (ops:Array Oper) (listed:Array Bool):List (Nat×Oper):=(idx 0 ops.toList).filter fun p=>!listed.getD p.1 true
theorem Apq (listed:Array Bool):(Lu ops listed).Pairwise (fun a b=>a.1<b.1):=(Ben _ _).filter _
theorem Aht {listed:Array Bool} {p:Nat×Oper}:p ∈ Lu ops listed↔ops[p.1]?=some p.2∧listed.getD p.1 true=false:=by
  unfold Lu
  rw [List.mem_filter,Bde]
  simp
theorem Bp8 {listed:Array Bool} {i:Nat} {o:Oper} {A B:List (Nat×Oper)} (h:Lu ops listed=A++(i,o)::B):Lu ops (listed.setIfInBounds i true)=A++B:=by
  have hi:(i,o) ∈ Lu ops listed:=by rw [h];simp
  have hil:=(Aht.1 hi).2
  have hlt:i<listed.size:=by
    rw [Array.getD_eq_getD_getElem?] at hil
    rcases Nat.lt_or_ge i listed.size with hl | hl
    · exact hl
    · rw [Array.getElem?_eq_none hl] at hil;simp at hil
  have h1:Lu ops (listed.setIfInBounds i true)=(Lu ops listed).filter fun p=>!Nat.beq p.1 i:=by
    unfold Lu
    rw [List.filter_filter]
    congr 1;funext p
    by_cases e:p.1=i
    · rw [e];simp [hlt]
    · rw [getD_set_ne true (fun e'=>e e'.symm),Av4 e];simp
  rw [h1,h,List.filter_append,List.filter_cons]
  have hs:=Apq (ops:=ops) listed
  rw [h] at hs
  have hs':=List.pairwise_append.1 hs
  have hB:=List.pairwise_cons.1 hs'.2.1
  have e1:A.filter (fun p=>!Nat.beq p.1 i)=A:=List.filter_eq_self.2 (fun p hp=>by
    have:p.1<i:=hs'.2.2 p hp (i,o) (by simp)
    rw [Av4 (by omega)];rfl)
  have e2:B.filter (fun p=>!Nat.beq p.1 i)=B:=List.filter_eq_self.2 (fun p hp=>by
    have:i<p.1:=hB.1 p hp
    rw [Av4 (by omega)];rfl)
  rw [e1,e2];simp
theorem Bu6 (hC:Aym E) {Q:Exit→Act→World→Prop} {fp:Nat→Foot} {e:St} (hfw:Zl 0 ops.toList=true)
    (hord:∀ (i j:Nat) (o:Oper),ops[i]?=some o→j<i→∃ a,(Fb ops.toList [])[i]?=some a∧(j ∈ a∨A9n (fp j) (fp i)=true))
    (hQ:∀ a' w' J' β',Inv Z E.nt J' β' e a' w'→Q .normal a' w') :
    ∀ (fuel:Nat) (listed:Array Bool) {st:St} {a:Act} {w:World} {J:Bool→Nat→Prop} {β:Cb},listed.size=ops.size→(Lu ops listed).length=fuel →
      (∀ (j:Nat) (o:Oper),ops[j]?=some o→listed.getD j true=true→∀ k ∈ Ai6 o,listed.getD k false=true) →
      RunF E ops fp (Lu ops listed) st e→Inv Z E.nt J β st a w→wpAny E.P .any ops Q fuel listed a w:=by
  intro fuel
  have fin:∀ (listed:Array Bool) {st:St} {a:Act} {w:World} {J:Bool→Nat→Prop} {β:Cb},Lu ops listed=[]→RunF E ops fp (Lu ops listed) st e→Inv Z E.nt J β st a w→Region.ready .any ops listed=[]∧Q .normal a w:=by
    intro listed st a w J β hr hrun I
    refine ⟨List.eq_nil_iff_forall_not_mem.2 (fun i hi=>?_),?_⟩
    · obtain ⟨h1,o,h2,_⟩:=mem_ready.1 hi
      have:(i,o) ∈ Lu ops listed:=Aht.2 ⟨h2,h1⟩
      rw [hr] at this;simp at this
    · rw [hr,RunF] at hrun
      exact hQ _ _ J β (I.eqv hrun)
  induction fuel with
  | zero =>
    intro listed st a w J β _ hlen _ hrun I
    exact fin listed (List.length_eq_zero_iff.1 hlen) hrun I
  | succ fuel ih =>
    intro listed st a w J β hsz hlen hclosed hrun I
    refine ⟨fun hnil=>?_,fun i hi=>?_⟩
    · 
      cases hrest:Lu ops listed with
      | nil=>rw [hrest] at hlen;simp at hlen
      | cons p r =>
        exfalso
        have hp:p ∈ Lu ops listed:=by rw [hrest];simp
        obtain ⟨ho,hl⟩:=Aht.1 hp
        have hs:=Apq (ops:=ops) listed
        rw [hrest] at hs
        have hmin:=(List.pairwise_cons.1 hs).1
        have:p.1 ∈ Region.ready .any ops listed:=mem_ready.2 ⟨hl,p.2,ho,fun ed hed hb=>by
          rw [Blb] at hb
          have hlt:=A2s hfw (i:=p.1) (o:=p.2) (by simpa using ho) ed hed hb
          simp at hlt
          have hops:ed.on<ops.size:=by have:=(Array.getElem?_eq_some_iff.1 ho).1;omega
          cases hx:listed.getD ed.on true with
          | true =>
            rw [Array.getD_eq_getD_getElem?] at hx ⊢
            rw [Array.getElem?_eq_getElem (by omega)] at hx ⊢
            simpa using hx
          | false =>
            have hm:(ed.on,ops[ed.on]) ∈ Lu ops listed:=Aht.2 ⟨by simp [hops],hx⟩
            rw [hrest] at hm
            rcases List.mem_cons.1 hm with e1 | e1
            · have:ed.on=p.1:=by rw [← e1]
              omega
            · have:=hmin _ e1
              simp at this;omega⟩
        rw [hnil] at this;simp at this
    · obtain ⟨hl,o,ho,hall⟩:=mem_ready.1 hi
      have hmem:(i,o) ∈ Lu ops listed:=Aht.2 ⟨ho,hl⟩
      obtain ⟨A,B,hAB⟩:=List.append_of_mem hmem
      have hdir:∀ k ∈ Ai6 o,listed.getD k false=true:=by
        intro k hk
        unfold Ai6 at hk
        obtain ⟨ed,hed,rfl⟩:=List.mem_map.1 hk
        obtain ⟨h1,h2⟩:=List.mem_filter.1 hed
        exact hall ed (by simpa using h1) (by rw [Blb];exact h2)
      have hs:=Apq (ops:=ops) listed
      rw [hAB] at hs
      have hs':=List.pairwise_append.1 hs
      rw [hAB] at hrun
      obtain ⟨q,g1,g2,g3⟩:=hrun.pull (fun jp hjp=>by
        have hlt:jp.1<i:=hs'.2.2 jp hjp (i,o) (by simp)
        obtain ⟨an,h1,h2⟩:=hord i jp.1 o ho hlt
        rcases h2 with h2 | h2
        · exfalso
          have:=Bsd hclosed i an o h1 ho hdir jp.1 h2
          have hjm:jp ∈ Lu ops listed:=by rw [hAB];simp [hjp]
          have h3:=(Aht.1 hjm).2
          rw [Array.getD_eq_getD_getElem?] at this h3
          cases hx:listed[jp.1]? with
          | none=>rw [hx] at this;simp at this
          | some b=>rw [hx] at this h3;simp at this h3;rw [this] at h3;cases h3
        · exact h2)
      have hone:Bpm E ops o st (fun s f=>some (s,f))=some (after E o st q,q.2.2):=by rw [Aui,g1];rfl
      obtain ⟨st',f,h4,h5⟩:=Bea (K:=wpAny E.P .any ops Q fuel (listed.setIfInBounds i true)) (Q:=Q) hC I hone
      simp only [Option.some.injEq,Prod.mk.injEq] at h4
      obtain ⟨rfl,rfl⟩:=h4
      have hlt:i<listed.size:=by rw [hsz];exact (Array.getElem?_eq_some_iff.1 ho).1
      have := h5 (fun a' w' J' β' I' => ih (listed.setIfInBounds i true) (by simp [hsz]) (by
          rw [Bp8 hAB];rw [hAB] at hlen;simp at hlen ⊢;omega) (fun j oj hoj hj k hk=>?_) (by rw [Bp8 hAB];exact g3) I')
      · unfold wpOp
        rw [ho]
        simp only
        split
        · rename_i hw;rw [if_pos hw] at this;exact .inl this
        · rename_i hw;rw [if_neg hw] at this;exact this
      · by_cases e1:j=i
        · subst e1
          rw [ho] at hoj;simp at hoj;subst hoj
          exact getD_set_true (hdir k hk)
        · rw [getD_set_ne true (fun e'=>e1 e'.symm)] at hj
          exact getD_set_true (hclosed j oj hoj hj k hk)
end
end Gx

namespace Gx
open Go
section
variable {R:Type} {r:R} {Z:Start} {E:Env}
theorem Bju (hC:Aym E) (hm:E.P.follows .mixedOrders=true) {K roots:List Nat} {id:Nat} {ops:Array Oper} {draw:Bool} {st:St} {k:St→Option R} {a:Act} {w:World} {J:Bool→Nat→Prop} {β:Cb} {Q:Exit→Act→World→Prop}
    (I:Inv Z E.nt J β st a w) (hh:Aua E K roots ops draw st k=some r) (hQ:∀ st' a' w' J' β',Inv Z E.nt J' β' st' a' w'→k st'=some r→Q .normal a' w'):(Code.region id ops draw).wp E.P Q a w:=by
  unfold Aua at hh
  have done : ∀ {st' : St} {tr : List Foot} {a' : Act} {w' : World} {J' : Bool → Nat → Prop} {β' : Cb}, Inv Z E.nt J' β' st' a' w' →
      cond (!draw||(Zl 0 ops.toList&&At9 tr.reverse (Fb ops.toList []) [])) ((clean K roots st').bind k) none=some r→Q .normal a' w':=by
    intro st' tr a' w' J' β' I' h'
    obtain ⟨_,h1⟩:=uc h'
    obtain ⟨st2,h2,h3⟩:=ub h1
    obtain ⟨β2,I2⟩:=Bp1 I' h2
    exact hQ _ _ _ _ _ I2 h3
  cases draw with
  | false=>exact wp_region_list (Bec hC _ I hh (fun st' tr' a' w' J' β' I' h'=>done I' h'))
  | true =>
    obtain ⟨fs,e,h1,h2⟩:=Bp7 hh
    obtain ⟨hc,h3⟩:=uc h1
    simp at hc
    obtain ⟨hfw,hord⟩:=hc
    have hlen:=h2.length
    refine wp_region_any hm ?_
    have I':Inv Z E.nt J β st a w.drew:=I.step (Step.drew I.sim) (fun b x hx hn=>by rw [hx] at hn;cases hn)
    have hrest:Lu ops (Array.replicate ops.size false)=idx 0 ops.toList:=by
      unfold Lu
      refine List.filter_eq_self.2 (fun p hp=>?_)
      have:=(Bde.1 hp).2
      have hlt:p.1<ops.size:=by
        simp at this
        exact (Array.getElem?_eq_some_iff.1 this).1
      simp [hlt]
    have hidx:(idx 0 ops.toList).length=ops.size:=by
      have:∀ (l:List Oper) (n:Nat),(idx n l).length=l.length:=by
        intro l
        induction l with
        | nil=>intro n;rfl
        | cons o r ih=>intro n;simp [idx,ih]
      rw [this];simp
    have hrun:RunF E ops (fun i=>fs.getD i { r:=[],w:=none,f:=[],u:=[] }) (idx 0 ops.toList) st e:=h2.runF (fun j f hj=>by simp [hj])
    refine Bu6 hC (fp:=fun i=>fs.getD i { r:=[],w:=none,f:=[],u:=[] }) (e:=e) hfw (fun i j o ho hji=>?_) (fun a' w' J' β' Ie=>done (tr:=fs.reverse++[]) Ie h1) ops.size _ (by simp) (by rw [hrest,hidx]) (fun j o ho hj=>?_) (by rw [hrest];exact hrun) I'
    · have hi:i<fs.length:=by rw [hlen];simpa using (Array.getElem?_eq_some_iff.1 ho).1
      obtain ⟨an,g1,g2⟩:=Beo hord i fs[i] (List.getElem?_eq_getElem hi)
      refine ⟨an,g1,?_⟩
      have hj:j<fs.length:=by omega
      have:=g2 j fs[j] (by simp [hj]) (by simpa using hji)
      simpa [hi,hj] using this
    · exfalso
      have hlt:j<ops.size:=(Array.getElem?_eq_some_iff.1 ho).1
      simp [hlt] at hj
end
end Gx

namespace Gx
open Go
theorem A2t (ρ:Nat→Nat):∀ c:List AV,(Xj ρ c).length=c.length
  | []=>rfl
  | x::r=>by rw [Xj,List.length_cons,List.length_cons,A2t ρ r]
theorem Kr (ρ:Nat→Nat) (x:Blk):(Afr ρ x).cells.length=x.cells.length:=by
  unfold Afr;cases x.pure
  · simp;exact A2t _ _
  · rfl
theorem Blc {ρ:Nat→Nat}:∀ {c:List AV} {j:Nat} {y:AV},(Xj ρ c)[j]?=some y→∃ x,c[j]?=some x∧y=Av3 ρ x
  | [],j,y,hj=>by simp [Xj] at hj
  | x::r,j,y,hj=>by
    rw [Xj] at hj
    cases j with
    | zero=>simp at hj;exact ⟨x,by simp,hj.symm⟩
    | succ j=>obtain ⟨x',h1,h2⟩:=Blc (c:=r) (j:=j) (by simpa using hj);exact ⟨x',by simpa using h1,h2⟩
section
variable {R:Type} {r:R} {J J':Bool→Nat→Prop} {β β':Cb} {h h':Aj} {w w':World} {ids:List Nat} {ρ:Nat→Nat}
theorem Lv {g:Bl}:∀ {ids:List Nat},(ids.map ρ).Nodup→∀ c y,Al (sub g ρ ids) c=some y→∃ b x,b ∈ ids∧ρ b=c∧g b=some x∧y=Afr ρ x
  | [],_,c,y,hc=>by simp [sub,Al] at hc
  | b::r,hn,c,y,hc=>by
    rw [List.map_cons,List.nodup_cons] at hn
    rw [sub] at hc
    split at hc
    · rename_i x hx
      rw [Ae] at hc
      by_cases e:c=ρ b
      · rw [if_pos e] at hc;simp at hc
        exact ⟨b,x,by simp,e.symm,hx,hc.symm⟩
      · rw [if_neg e] at hc
        obtain ⟨b',x',h1,h2,h3,h4⟩:=Lv hn.2 c y hc
        exact ⟨b',x',by simp [h1],h2,h3,h4⟩
    · obtain ⟨b',x',h1,h2,h3,h4⟩:=Lv hn.2 c y hc
      exact ⟨b',x',by simp [h1],h2,h3,h4⟩
theorem Ac8 {g:Bl}:∀ {ids:List Nat},(ids.map ρ).Nodup→∀ b x,b ∈ ids→g b=some x→Al (sub g ρ ids) (ρ b)=some (Afr ρ x)
  | [],_,b,x,hb,_=>by simp at hb
  | b'::r,hn,b,x,hb,hx=>by
    rw [List.map_cons,List.nodup_cons] at hn
    rw [sub]
    by_cases e:b=b'
    · subst e
      rw [hx]
      simp only
      rw [Ae,if_pos rfl]
    · have hm:b ∈ r:=by simpa [e] using hb
      have ne:ρ b≠ρ b':=fun h=>hn.1 (by rw [← h];exact List.mem_map.2 ⟨b,hm,rfl⟩)
      split
      · rw [Ae,if_neg ne];exact Ac8 hn.2 b x hm hx
      · exact Ac8 hn.2 b x hm hx
def Bwd (ρ:Nat→Nat) (ids:List Nat) (c:Nat):Option Nat:=ids.find? fun b=>Nat.beq (ρ b) c
theorem Bwe (hn:(ids.map ρ).Nodup) {b:Nat} (hb:b ∈ ids):Bwd ρ ids (ρ b)=some b:=by
  induction ids with
  | nil=>simp at hb
  | cons i r ih =>
    rw [List.map_cons,List.nodup_cons] at hn
    unfold Bwd at ih ⊢
    rw [List.find?_cons]
    by_cases e:b=i
    · subst e;simp
    · have hm:b ∈ r:=by simpa [e] using hb
      have ne:ρ i≠ρ b:=fun h=>hn.1 (by rw [h];exact List.mem_map.2 ⟨b,hm,rfl⟩)
      rw [Av4 ne];exact ih hn.2 hm
def An4 (ρ:Nat→Nat) (ids:List Nat) (β:Cb):Cb:=fun c=>(Bwd ρ ids c).bind β
theorem Fp (hn:(ids.map ρ).Nodup) {b:Nat} (hb:b ∈ ids):An4 ρ ids β (ρ b)=β b:=by
  unfold An4;rw [Bwe hn hb];rfl
mutual
theorem Rep.ren (hn:(ids.map ρ).Nodup):∀ {x:AV} {v:Value},(∀ b ∈ Fm x,b ∈ ids)→Rep J β h w x v→Rep J (An4 ρ ids β) (sub (Al h) ρ ids) w (Av3 ρ x) v
  | .own b off n,v,hm,hr=>by
    rw [Rep] at hr
    obtain ⟨x,A,cap,⟨hx,hmp⟩,h1,h2,h3⟩:=hr
    have hb:=hm b (by simp [Fm])
    rw [Av3,Rep]
    refine ⟨Afr ρ x,A,cap,⟨Ac8 hn b x hb hx,hmp⟩,h1,h2,?_⟩
    rw [Kr,Fp hn hb]
    exact h3
  | .optr b off,v,hm,hr=>by
    rw [Rep] at hr
    obtain ⟨x,k,o,⟨hx,hmp⟩,h1,h2⟩:=hr
    have hb:=hm b (by simp [Fm])
    rw [Av3,Rep]
    refine ⟨Afr ρ x,k,o,⟨Ac8 hn b x hb hx,hmp⟩,h1,?_⟩
    rw [Fp hn hb]
    exact h2
  | .omap b,v,hm,hr=>by
    rw [Rep] at hr
    obtain ⟨x,k,⟨hx,hmp⟩,h1,h2⟩:=hr
    have hb:=hm b (by simp [Fm])
    rw [Av3,Rep]
    refine ⟨Afr ρ x,k,⟨Ac8 hn b x hb hx,hmp⟩,h1,?_⟩
    rw [Fp hn hb]
    exact h2
  | .agg c,v,hm,hr=>by
    rw [Rep] at hr
    obtain ⟨cs,h1,h2⟩:=hr
    rw [Av3,Rep]
    exact ⟨cs,h1,Reps.ren hn (by simpa [Fm] using hm) h2⟩
  | .tup c,v,hm,hr=>by
    rw [Rep] at hr
    obtain ⟨cs,h1,h2⟩:=hr
    rw [Av3,Rep]
    exact ⟨cs,h1,Reps.ren hn (by simpa [Fm] using hm) h2⟩
  | .fn f c,v,hm,hr=>by
    rw [Rep] at hr
    obtain ⟨cs,h1,h2⟩:=hr
    rw [Av3,Rep]
    exact ⟨cs,h1,Reps.ren hn (by simpa [Fm] using hm) h2⟩
  | .pagg c o,v,hm,hr=>by show Rep J _ _ w (.pagg c o) v;rw [Rep] at hr ⊢;exact hr
  | .undef,v,hm,hr=>by show Rep J _ _ w (.undef) v;rw [Rep] at hr ⊢;exact hr
  | .imm c n sz t o,v,hm,hr=>by show Rep J _ _ w (.imm c n sz t o) v;rw [Rep] at hr ⊢;exact hr
  | .iptr c o,v,hm,hr=>by show Rep J _ _ w (.iptr c o) v;rw [Rep] at hr ⊢;exact hr
  | .int k n,v,hm,hr=>by show Rep J _ _ w (.int k n) v;rw [Rep] at hr ⊢;exact hr
  | .bool b,v,hm,hr=>by show Rep J _ _ w (.bool b) v;rw [Rep] at hr ⊢;exact hr
  | .str s,v,hm,hr=>by show Rep J _ _ w (.str s) v;rw [Rep] at hr ⊢;exact hr
  | .nsl,v,hm,hr=>by show Rep J _ _ w (.nsl) v;rw [Rep] at hr ⊢;exact hr
  | .nilptr,v,hm,hr=>by show Rep J _ _ w (.nilptr) v;rw [Rep] at hr ⊢;exact hr
  | .nilfn,v,hm,hr=>by show Rep J _ _ w (.nilfn) v;rw [Rep] at hr ⊢;exact hr
theorem Reps.ren (hn:(ids.map ρ).Nodup):∀ {c:List AV} {cs:List Value},(∀ b ∈ Hm c,b ∈ ids)→Reps J β h w c cs→Reps J (An4 ρ ids β) (sub (Al h) ρ ids) w (Xj ρ c) cs
  | [],cs,hm,hr=>by rw [Reps] at hr;rw [Xj,Reps];exact hr
  | x::r,cs,hm,hr=>by
    rw [Reps] at hr
    obtain ⟨u,us,h1,h2,h3⟩:=hr
    rw [Xj,Reps]
    exact ⟨u,us,h1,Rep.ren hn (fun b hb=>hm b (by simp [Hm,hb])) h2,Reps.ren hn (fun b hb=>hm b (by simp [Hm,hb])) h3⟩
end
theorem SimH.ren (S:SimH J β h w) (hn:(ids.map ρ).Nodup) (hin:∀ b ∈ Jd (Al h) ids,b ∈ ids):SimH J (An4 ρ ids β) (sub (Al h) ρ ids) w:=by
  refine ⟨S.jlt, S.jft, fun c y hy hd hm => ?_, fun c y hy hd hm => by
      obtain ⟨b,x,hb,rfl,hx,rfl⟩:=Lv hn c y hy
      obtain ⟨g1,g2,k,es,clk,g3,g4,g5,g6⟩:=S.mblk b x hx hd hm
      have:(Afr ρ x).cells=x.cells:=by unfold Afr;rw [g1];rfl
      exact ⟨g1,g2,k,es,clk,by rw [Fp hn hb];exact g3,g4,by rw [this];exact g5,g6⟩,?_⟩
  · obtain ⟨b,x,hb,rfl,hx,rfl⟩:=Lv hn c y hy
    rcases S.blk b x hx hd hm with ⟨g1,g2⟩ | ⟨k,o,cs,ty,fr,g1,g2,g3,g4,g5,g6,g7⟩
    · refine .inl ⟨by rw [Fp hn hb];exact g1,?_⟩
      have:=Kr ρ x;rw [g2] at this;simpa using this
    · refine .inr ⟨k,o,cs,ty,fr,by rw [Fp hn hb];exact g1,g2,g3,by rw [Kr];exact g4,⟨fun hp=>?_,fun hp j q hj=>?_⟩,g6,g7⟩
      · have hp':x.pure=true:=hp
        have:(Afr ρ x).cells=x.cells:=by unfold Afr;rw [hp'];rfl
        rw [this];exact g5.1 hp'
      · have hp':x.pure=false:=hp
        have:(Afr ρ x).cells=Xj ρ x.cells:=by unfold Afr;rw [hp'];rfl
        rw [this] at hj
        obtain ⟨q',hq,rfl⟩:=Blc hj
        obtain ⟨u,hu,hr,ho⟩:=g5.2 hp' j q' hq
        exact ⟨u,hu,Rep.ren hn (fun b' hb'=>hin b' (A6e hb hx hp' b' (A6f hq b' hb'))) hr,ho⟩
  · intro c c' y y' k o o' hy hy' hd hd' hs hβ hβ'
    obtain ⟨b,x,hb,rfl,hx,rfl⟩:=Lv hn c y hy
    obtain ⟨b',x',hb',rfl,hx',rfl⟩:=Lv hn c' y' hy'
    rw [Fp hn hb] at hβ
    rw [Fp hn hb'] at hβ'
    rw [S.sep b b' x x' k o o' hx hx' hd hd' hs hβ hβ']
theorem Bny (hn:(ids.map ρ).Nodup) {k:Nat} (hm:Mut (An4 ρ ids β) (sub (Al h) ρ ids) k):Mut β h k:=by
  obtain ⟨c,y,o,hy,hd,hs,hβ⟩:=hm
  obtain ⟨b,x,hb,rfl,hx,rfl⟩:=Lv hn c y hy
  rw [Fp hn hb] at hβ
  exact ⟨b,x,o,hx,hd,hs,hβ⟩
end
end Gx

namespace Gx
open Go
theorem Ng {ids:List Nat}:∀ {l:List Nat},Anx ids l=true→∀ b ∈ l,b ∈ ids
  | [],_,b,hb=>by simp at hb
  | i::r,h,b,hb=>by
    rw [Anx] at h
    simp at h
    rcases List.mem_cons.1 hb with rfl | hb
    · exact Jf.1 h.1
    · exact Ng h.2 b hb
theorem Aan {d:Nat}:∀ {l:List Nat} {base b:Nat},b ∈ l→base≤G5 d (Av base l) b∧G5 d (Av base l) b<base+l.length
  | [],base,b,hb=>by simp at hb
  | i::r,base,b,hb=>by
    rw [Av,G5]
    cases hi:Nat.beq i b with
    | true=>simp
    | false =>
      have hne:=Xk hi
      have hm:b ∈ r:=by
        rcases List.mem_cons.1 hb with h | h
        · exact absurd h.symm hne
        · exact h
      have:=Aan (d:=d) (base:=base+1) hm
      simp only [cond_false,List.length_cons]
      omega
theorem Bp9 {free ids:List Nat} {b:Nat} (h:Aho free b=true):Aai free ids b=b:=by unfold Aai;rw [h];rfl
theorem Bnz {free ids:List Nat} {b:Nat} (h:Aho free b=false) (hb:b ∈ ids):300000≤Aai free ids b:=by
  unfold Aai Bv6;rw [h]
  exact (Aan (List.mem_filter.2 ⟨hb,by simp [h]⟩)).1
theorem Bep {b:Nat}:Bd0 b=true↔100000≤b∧b<200000:=by unfold Bd0;simp
theorem A94 {free ids:List Nat} {b c:Nat} (hb:b ∈ ids) (hc:100000≤c∧c<200000) (he:Aai free ids b=c):b=c:=by
  cases hr:Aho free b with
  | true=>rw [Bp9 hr] at he;exact he
  | false=>have:=Bnz hr hb;omega
theorem Ahu {ρ:Nat→Nat} {K:List Nat}:∀ {s:Fl} {i:Nat},Ep (Bv7 ρ K s) i=if Hn K i=true then Av3 ρ (Ep s i) else .undef
  | [],i=>by
    show AV.undef=if Hn K i=true then Av3 ρ .undef else AV.undef
    simp [Av3]
  | (t,v)::r,i=>by
    rw [Bv7]
    by_cases e:t=i
    · subst e
      cases hk:Hn K t with
      | true=>simp [Ep]
      | false=>simp only [cond_false];rw [Ahu];simp [hk]
    · have hb:Nat.beq t i=false:=Av4 e
      cases hk:Hn K t with
      | true=>simp only [cond_true,Ep,hb,cond_false];exact Ahu
      | false=>simp only [cond_false,Ep,hb];exact Ahu
theorem Bqa {g:Bl} {l:List Nat} {b:Nat} (h:b ∈ Ac3 g l):∃ x,g b=some x∧x.dead=false:=by
  unfold Ac3 at h
  obtain ⟨_,h2⟩:=List.mem_filter.1 h
  unfold Hk at h2
  cases hx:g b with
  | none=>simp [hx] at h2
  | some x =>
    cases hd:x.dead with
    | false=>exact ⟨x,rfl,hd⟩
    | true=>simp [hx,hd] at h2
section
variable {Z:Start} {nt:Nat} {J:Bool→Nat→Prop} {β:Cb} {st st':St} {a:Act} {w:World}
def AV.isz:AV→Nat
  | .imm _ _ s _ _=>s
  | _=>0
theorem Lw {live:List Nat}:∀ (nils:List (Nat×Nat)) {st:St} {J:Bool→Nat→Prop} {β:Cb},Inv Z nt J β st a w→Ai7 live nils st=some st'→∃ J' β',Inv Z nt J' β' st' a w
  | [],st,J,β,I,hh=>by simp [Ai7] at hh;subst hh;exact ⟨J,β,I⟩
  | (t,sz)::r,st,J,β,I,hh=>by
    rw [Ai7] at hh
    cases hsz:Nat.ble 1000000 sz with
    | true =>
      rw [hsz,cond_true] at hh
      split at hh
      · rename_i hm hs
        refine Lw r (J:=J) (β:=β) (st:={ s:=Ayd st.s t (.imm [] 0 (sz - 1000000) false false),h:=st.h }) ?_ hh
        refine { I with ss:=⟨fun i v hv=>?_,fun i hi=>?_⟩ }
        · rw [Lr]
          by_cases e:i=t
          · subst e
            have:=I.ss.slot i v hv
            rw [hs,Rep] at this
            subst this
            rw [if_pos rfl,Rep,RepC]
            exact ⟨by simp,none,0,rfl,Nat.le_refl _,fun _=>rfl,.inl rfl⟩
          · rw [if_neg e];exact I.ss.slot i v hv
        · rw [Lr]
          by_cases e:i=t
          · subst e
            have:=I.ss.out i hi
            rw [hs] at this;cases this
          · rw [if_neg e];exact I.ss.out i hi
      · rename_i b off n hm hs
        obtain ⟨⟨v',ups,org⟩,hp,h1⟩:=ub hh
        by_cases hti:∃ v,a.tmps[t]?=some v
        · obtain ⟨v0,hv0⟩:=hti
          have hr:=I.ss.slot t v0 hv0
          rw [hs] at hr
          obtain ⟨J1,A,hrep,_⟩:=Apl I.sim (fun b x hb=>⟨x,hb,rfl⟩) hp hr
          have I1:=I.step A (fun c x hx hn=>by
            exfalso
            unfold Awb at hp
            obtain ⟨y,hy,h2⟩:=ub hp
            obtain ⟨_,h2⟩:=uc h2
            simp at h2
            obtain ⟨_,h2,_⟩:=h2
            subst h2
            simp only [Ak,Ae] at hx
            unfold Hk at hy
            obtain ⟨y0,hy0,_⟩:=ub hy
            by_cases e:c=b
            · subst e;rw [hn] at hy0;cases hy0
            · rw [if_neg e,hn] at hx;cases hx)
          refine Lw r (J:=J1) (β:=β) (st:={ s:=Ayd st.s t v',h:=Ak ups st.h }) ?_ h1
          have him:∃ c,v'=.imm c n (v'.isz) false org:=by
            unfold Awb at hp
            obtain ⟨y,hy,h2⟩:=ub hp
            obtain ⟨_,h2⟩:=uc h2
            simp at h2
            obtain ⟨h2,_,h3⟩:=h2
            subst h2 h3
            exact ⟨_,rfl⟩
          refine { I1 with ss:=⟨fun i v hv=>?_,fun i hi=>?_⟩ }
          · rw [Lr]
            by_cases e:i=t
            · subst e
              rw [if_pos rfl]
              rw [hv0] at hv;simp at hv;subst hv
              obtain ⟨c,hc⟩:=him
              rw [hc] at hrep ⊢
              rw [Rep];exact hrep
            · rw [if_neg e];exact I1.ss.slot i v hv
          · rw [Lr]
            by_cases e:i=t
            · subst e
              have:=I.ss.out i hi
              rw [hs] at this;cases this
            · rw [if_neg e];exact I1.ss.out i hi
        · exfalso
          have:=I.ss.out t (by
            cases h:a.tmps[t]? with
            | none=>simp at h;omega
            | some v=>exact absurd ⟨v,h⟩ hti)
          rw [hs] at this;cases this
      · exact Lw r I hh
    | false =>
      rw [hsz,cond_false] at hh
      split at hh
      · rename_i hm hs
        cases hf:Al st.h (nid t+15) with
        | some x=>simp [hf] at hh
        | none =>
          simp [hf] at hh
          have A:=Step.newNone I.sim (d:=nid t+15) (x:=Eq sz) hf rfl
          have I1:=I.step A (fun b x hx hn=>by
            rw [Ae] at hx
            by_cases e:b=nid t+15
            · subst e;unfold nid F3;omega
            · rw [if_neg e,hn] at hx;cases hx)
          refine Lw r (J:=J) (β:=fun b=>if b=nid t+15 then none else β b) (st:={ s:=Ayd st.s t (.own (nid t+15) 0 0),h:=Et st.h (nid t+15) (Eq sz) }) ?_ hh
          refine { I1 with ss:=⟨fun i v hv=>?_,fun i hi=>?_⟩ }
          · rw [Lr]
            by_cases e:i=t
            · subst e
              rw [if_pos rfl,Rep]
              have:=I.ss.slot i v hv
              rw [hs,Rep] at this
              subst this
              exact ⟨Eq sz,none,0,⟨by rw [Ae,if_pos rfl],rfl⟩,rfl,Nat.le_refl _,.inl rfl⟩
            · rw [if_neg e];exact I1.ss.slot i v hv
          · rw [Lr]
            by_cases e:i=t
            · subst e
              have:=I.ss.out i hi
              rw [hs] at this;cases this
            · rw [if_neg e];exact I1.ss.out i hi
      · exact Lw r I hh
theorem Ac9 {E:Env} {live roots:List Nat} (I:Inv Z nt J β st a w) (hh:R6 E live roots st=some st'):∃ J' β',Inv Z nt J' β' st' a w:=by
  unfold R6 at hh
  obtain ⟨s1,h1,h2⟩:=ub hh
  obtain ⟨J1,β1,I1⟩:=Lw _ I h1
  obtain ⟨hc,h3⟩:=uc h2
  simp at hc h3
  subst h3
  obtain ⟨hn,hs,hi,_⟩:=hc
  have hn:=Sf hn
  have hin:∀ b ∈ Jd (Al s1.h) (Ac3 (Al s1.h) (Aae (Al s1.h) (Bdy live s1.s++roots))),b ∈ Ac3 (Al s1.h) (Aae (Al s1.h) (Bdy live s1.s++roots)):=Ng hi
  refine ⟨J1,An4 _ _ β1,{ I1 with sim:=I1.sim.ren hn hin,ss:=⟨fun i v hv=>?_,fun i hi=>?_⟩,wr:=fun k hm=>I1.wr k (Bny hn hm),outs:=fun b x0 x h0 hx hd=>?_ }⟩
  · rw [Ahu]
    cases hk:Hn live i with
    | false=>simp [Rep]
    | true =>
      simp only [if_true]
      exact Rep.ren hn (fun b hb=>Ng hs b (Bee hk b hb)) (I1.ss.slot i v hv)
  · rw [Ahu,I1.ss.out i hi];simp [Av3]
  · obtain ⟨b',x',hb',he,hg,rfl⟩:=Lv hn b x hx
    have:=A94 hb' ⟨I1.zge b x0 h0,I1.zlt b x0 h0⟩ he
    subst this
    obtain ⟨⟨e1,em⟩,e2,e3,e4⟩:=I1.outs b' x0 x' h0 hg hd
    refine ⟨⟨?_,em⟩,e2,by rw [Kr];exact e3,e4⟩
    have:=Fp (β:=β1) hn hb'
    rw [he] at this
    rw [this];exact e1
end
end Gx

namespace Gx
open Go
section
variable {R:Type} {r:R} {Z:Start} {E:Env}
theorem Bqb (hC:Aym E) (hm:E.P.follows .mixedOrders=true) {roots:List Nat} {N:Nat}:∀ (c:Code) {H:Hint} {kn:St→Option R} {kx:Nat→St→Option R} {kr:St→Option R} {st:St} {a:Act} {w:World} {J:Bool→Nat→Prop} {β:Cb} {Q:Exit→Act→World→Prop},
    Inv Z E.nt J β st a w→Er E roots N c H kn kx kr st=some r →
    (∀ st' a' w' J' β',Inv Z E.nt J' β' st' a' w'→kn st'=some r→Q .normal a' w') →
    (∀ id st' a' w' J' β',Inv Z E.nt J' β' st' a' w'→kx id st'=some r→Q (.exit id) a' w') →
    (∀ st' a' w' J' β',Inv Z E.nt J' β' st' a' w'→kr st'=some r→Q .ret a' w')→c.wp E.P Q a w:=by
  intro c
  induction c with
  | skip=>intro H kn kx kr st a w J β Q I hh hn hx hr;exact wp_skip (hn _ _ _ _ _ I hh)
  | region id ops draw=>intro H kn kx kr st a w J β Q I hh hn hx hr;exact Bju hC hm I hh hn
  | seq x y ihx ihy =>
    intro H kn kx kr st a w J β Q I hh hn hx hr
    rw [Er,Ac4] at hh
    refine wp_seq (ihx I hh (fun st' a' w' J' β' I' h'=>?_) (fun id st' a' w' J' β' I' h'=>hx id st' a' w' J' β' I' h') (fun st' a' w' J' β' I' h'=>hr st' a' w' J' β' I' h'))
    exact ihy I' h' hn hx hr
  | cond c x y ihx ihy =>
    intro H kn kx kr st a w J β Q I hh hn hx hr
    rw [Er] at hh
    split at hh
    · rename_i t ht
      have h1:=Bd I.ss c
      rw [ht,Rep] at h1
      refine wp_cond h1 ?_
      have hn':∀ st' a' w' J' β',Inv Z E.nt J' β' st' a' w'→(R6 E H.live roots st').bind kn=some r→Q .normal a' w':=by
        intro st' a' w' J' β' I' h'
        obtain ⟨s2,h2,h3⟩:=ub h'
        obtain ⟨J2,β2,I2⟩:=Ac9 I' h2
        exact hn _ _ _ _ _ I2 h3
      cases t with
      | true=>exact ihx I hh hn' hx hr
      | false=>exact ihy I hh hn' hx hr
    · simp at hh
  | block id c ih =>
    intro H kn kx kr st a w J β Q I hh hn hx hr
    rw [Er] at hh
    have hn':∀ st' a' w' J' β',Inv Z E.nt J' β' st' a' w'→(R6 E H.live roots st').bind kn=some r→Q .normal a' w':=by
      intro st' a' w' J' β' I' h'
      obtain ⟨s2,h2,h3⟩:=ub h'
      obtain ⟨J2,β2,I2⟩:=Ac9 I' h2
      exact hn _ _ _ _ _ I2 h3
    refine wp_block (ih I hh (fun st' a' w' J' β' I' h'=>hn' _ _ _ _ _ I' h') (fun j st' a' w' J' β' I' h'=>?_) (fun st' a' w' J' β' I' h'=>hr _ _ _ _ _ I' h'))
    cases hj:Nat.beq j id with
    | true =>
      rw [hj] at h'
      have:=Nat.eq_of_beq_eq_true hj
      subst this
      simp only [Exit.inBlock,if_true]
      exact hn' _ _ _ _ _ I' h'
    | false =>
      rw [hj] at h'
      simp only [Exit.inBlock]
      rw [if_neg (Xk hj)]
      exact hx _ _ _ _ _ _ I' h'
  | loop c ih =>
    intro H kn kx kr st a w J β Q I hh hn hx hr
    rw [Er,Ac4] at hh
    refine wp_loop_rounds N ?_
    have key:∀ (n:Nat) {st:St} {a:Act} {w:World} {J:Bool→Nat→Prop} {β:Cb},Inv Z E.nt J β st a w→Api (R6 E H.live roots) (fun k st=>Er E roots N c H.a k kx kr st) n st=some r→Code.rounds E.P c Q n a w:=by
      intro n
      induction n with
      | zero=>intro st a w J β I h';simp [Api] at h'
      | succ n ihn =>
        intro st a w J β I h'
        rw [Api] at h'
        rw [rounds_succ]
        refine ih I h' (fun st' a' w' J' β' I' h''=>?_) (fun id st' a' w' J' β' I' h''=>hx _ _ _ _ _ _ I' h'') (fun st' a' w' J' β' I' h''=>hr _ _ _ _ _ I' h'')
        obtain ⟨s2,h2,h3⟩:=ub h''
        obtain ⟨J2,β2,I2⟩:=Ac9 I' h2
        exact ihn I2 h3
    obtain ⟨s2,h2,h3⟩:=ub hh
    obtain ⟨J2,β2,I2⟩:=Ac9 I h2
    exact key N I2 h3
  | exit id=>intro H kn kx kr st a w J β Q I hh hn hx hr;exact wp_exit (hx _ _ _ _ _ _ I hh)
  | ret=>intro H kn kx kr st a w J β Q I hh hn hx hr;exact wp_ret (hr _ _ _ _ _ I hh)
  | rangeFunc=>intro H kn kx kr st a w J β Q I hh;simp [Er] at hh
  | scope=>intro H kn kx kr st a w J β Q I hh;simp [Er] at hh
  | label=>intro H kn kx kr st a w J β Q I hh;simp [Er] at hh
  | goto=>intro H kn kx kr st a w J β Q I hh;simp [Er] at hh
  | refuse=>intro H kn kx kr st a w J β Q I hh;simp [Er] at hh
end
end Gx

namespace Gx
open Go
structure FDone (Z:Start) (J:Bool→Nat→Prop) (β:Cb) (h:Aj) (w:World):Prop where
  sim:SimH J β h w
  os:w.os=Z.w.os
  tape:w.tape=Z.w.tape
  output:w.output=Z.w.output
  size:Z.w.heap.size≤w.heap.size
  frame:∀ k,k<Z.w.heap.size→¬ Mut Z.β Z.h k→w.heap[k]?=Z.w.heap[k]?
  wr:∀ k,Mut β h k→k<Z.w.heap.size→Mut Z.β Z.h k
  jsub:∀ o k,Z.J o k→J o k
  jup:∀ o k,J o k→Z.J o k∨Mut Z.β Z.h k∨Z.w.heap.size≤k
  sizes:∀ k,Bg Z.w k≤Bg w k
  outs:∀ b x0 x,Al Z.h b=some x0→Al h b=some x→x.dead=false→(β b=Z.β b∧x.mp=x0.mp)∧x.sz=x0.sz∧(x0.mp=false→x.cells.length=x0.cells.length)∧x0.dead=false
  live:∀ b x,Al h b=some x→x.dead=false
def FOk (P:Program) (f:Nat) (args:List AV) (h:Aj) (res:AV) (h':Aj):Prop :=
  ∀ (J:Bool→Nat→Prop) (β:Cb) (w:World) (vs:List Value),SimH J β h w→Reps J β h w args vs →
    Calls P f vs.toArray w fun e w'=>∃ vc J' β',e=.returned vc∧FDone ⟨J,β,h,w⟩ J' β' h' w'∧Rep J' β' h' w' res vc
def A1 (P:Program) (f:Nat) (t:Tw):Prop:=∀ args h res h',(t.runK args h fun v h'=>some (v,h'))=some (res,h')→FOk P f args h res h'
def Bt6 (P:Program):List (Nat×Tw)→Prop
  | []=>True
  | p::r=>A1 P p.1 p.2∧Bt6 P r
theorem Bqc {P:Program} {R:Type} {r:R}:∀ {T:List (Nat×Tw)},Bt6 P T→∀ {f:Nat} {args:List AV} {h:Aj} {k:AV→Aj→Option R},A2g T f args h k=some r →
    ∃ res h',FOk P f args h res h'∧k res h'=some r
  | [],_,f,args,h,k,hh=>by simp [A2g] at hh
  | (g,t)::T,hT,f,args,h,k,hh=>by
    rw [A2g] at hh
    cases hb:Nat.beq g f with
    | false=>rw [hb] at hh;exact Bqc hT.2 hh
    | true =>
      rw [hb] at hh
      have:=Nat.eq_of_beq_eq_true hb
      subst this
      simp only [cond_true] at hh
      rw [t.eq] at hh
      obtain ⟨⟨res,h'⟩,h1,h2⟩:=ub hh
      exact ⟨res,h',hT.1 args h res h' h1,h2⟩
section
variable {R:Type} {r:R} {Z:Start} {nt:Nat} {J:Bool→Nat→Prop} {β:Cb} {st:St} {a:Act} {w:World}
def A2u (tmps:Array Value):ResultVar→Sem Value
  | .tmp t=>pure (tmps.getD t undef)
  | .cell a t=>do loadVar t (← Go.asAddr (tmps.getD a undef))
theorem Bwf {α β:Type} (f:α→Sem β) (xs:Array α):xs.mapM f=(List.toArray <$> xs.toList.mapM f):=by
  rw [← List.mapM_toArray]
theorem Bse (fn:Func) (tmps:Array Value):results fn tmps=(do let vs ← fn.results.mapM (A2u tmps);pure (if h:vs.size=1 then vs[0] else .tuple vs)):=by
  unfold results
  congr 1
def Bqd (l:List Value):Value:=match l with | [v]=>v | l=>.tuple l.toArray
theorem Bqe {P:Program} (fn:Func) (tmps:Array Value) {vs:List Value} (h:(fn.results.toList.mapM (A2u tmps)).run P w=.ok vs w):(results fn tmps).run P w=.ok (Bqd vs) w:=by
  rw [Bse,Bwf]
  simp only [map_eq_pure_bind,Sem.run_bind,h,Result.andThen_ok,Sem.run_pure]
  congr 1
  match vs with
  | []=>rfl
  | [v]=>rfl
  | v::u::r=>simp [Bqd]
theorem Bqf {P:Program} {t:TypeId} {v vc:Value} (h:(Instr.loadAt t v).run P w=.ok vc w):(do loadVar t (← Go.asAddr v):Sem Value).run P w=.ok vc w:=by
  unfold Instr.loadAt at h
  cases v with
  | pointer a =>
    cases a with
    | some a=>exact h
    | none=>simp [Instr.sureAddr] at h
  | _=>simp [Instr.sureAddr] at h
theorem Afy {E:Env} (S:SimH J β st.h w) (SS:SimS J β st.h w st.s a.tmps):∀ (l:List ResultVar) {acc:List AV} {k:List AV→Option R},Lq E st l acc k=some r →
    ∃ vals vs,k (acc.reverse++vals)=some r∧(l.mapM (A2u a.tmps)).run E.P w=.ok vs w∧Reps J β st.h w vals vs
  | [],acc,k,hh=>⟨[],[],by simpa [Lq] using hh,by simp,by rw [Reps]⟩
  | .tmp t::l,acc,k,hh=>by
    rw [Lq] at hh
    obtain ⟨vals,vs,h1,h2,h3⟩:=Afy S SS l hh
    refine ⟨Ep st.s t::vals,a.tmps.getD t undef::vs,by simpa using h1,?_,by rw [Reps];exact ⟨_,_,rfl,Bd SS (.tmp t),h3⟩⟩
    simp only [List.mapM_cons,A2u,Sem.run_bind,Sem.run_pure,Result.andThen_ok,h2]
  | .cell ad t::l,acc,k,hh=>by
    rw [Lq] at hh
    obtain ⟨v,vc,h0,h1,h2⟩:=A9q S (fun _ _ h=>h) hh (Bd SS (.tmp ad))
    obtain ⟨vals,vs,h3,h4,h5⟩:=Afy S SS l h0
    refine ⟨v::vals,vc::vs,by simpa using h3,?_,by rw [Reps];exact ⟨_,_,rfl,h2,h5⟩⟩
    have:(A2u a.tmps (.cell ad t)).run E.P w=.ok vc w:=Bqf h1
    simp only [List.mapM_cons,Sem.run_bind,this,Sem.run_pure,Result.andThen_ok,h4]
theorem Bsf {i:Nat} {m:Nat×Nat} {v v':AV} {ups:Ups} {vc:Value} {h:Aj} (S:SimH J β h w) (hh:By0 (Al h) i m v=some (v',ups)) (hv:Rep J β h w v vc) :
    ∃ J' β',Step J β h w J' β' (Ak ups h) w∧Rep J' β' (Ak ups h) w v' vc∧(∀ b x,Al (Ak ups h) b=some x→Al h b=none→F3≤b):=by
  have old:∀ {ups:Ups},(∀ b,A5 ups b=true→∃ x,Al h b=some x)→∀ b x,Al (Ak ups h) b=some x→Al h b=none→F3≤b:=by
    intro ups hu b x hx hn
    cases hi:A5 ups b with
    | true=>obtain ⟨y,hy⟩:=hu b hi;rw [hy] at hn;cases hn
    | false=>rw [Ce _ _ _ hi,hn] at hx;cases hx
  unfold By0 at hh
  cases h0:Nat.beq m.1 0 with
  | true =>
    rw [h0] at hh;simp at hh
    obtain ⟨rfl,rfl⟩:=hh
    exact ⟨J,β,Step.refl S,hv,old (by simp [A5])⟩
  | false =>
    rw [h0,cond_false] at hh
    cases h1:Nat.beq m.1 1 with
    | true =>
      rw [h1,cond_true] at hh
      split at hh
      · simp at hh;obtain ⟨rfl,rfl⟩:=hh
        rw [Rep] at hv;subst hv
        refine ⟨J,β,Step.refl S,?_,old (by simp [A5])⟩
        rw [Rep,RepC]
        exact ⟨by simp,none,0,rfl,Nat.le_refl _,by simp,.inl rfl⟩
      · simp at hh;obtain ⟨rfl,rfl⟩:=hh
        refine ⟨J,β,Step.refl S,?_,old (by simp [A5])⟩
        rw [Rep,RepC] at hv ⊢
        obtain ⟨e1,A,cap,e2,e3,e4,e5⟩:=hv
        exact ⟨e1,A,cap,e2,e3,by simp,e5⟩
      · obtain ⟨⟨q1,q2,q3⟩,hq,h2⟩:=ub hh
        simp at h2;obtain ⟨rfl,rfl⟩:=h2
        obtain ⟨J',A,hA,_⟩:=Apl S (Looks.s fun _ _ h=>h) hq hv
        refine ⟨J',β,A,?_,old (Bk7 hq)⟩
        unfold Awb at hq
        obtain ⟨x,hx,h3⟩:=ub hq
        obtain ⟨_,h4⟩:=uc h3
        simp at h4
        obtain ⟨rfl,rfl,rfl⟩:=h4
        rw [Rep];exact hA
      · simp at hh
    | false =>
      rw [h1,cond_false] at hh
      cases h2:Nat.beq m.1 2 with
      | true =>
        rw [h2,cond_true] at hh
        split at hh
        · obtain ⟨hn,h3⟩:=uc' hh
          simp at h3;obtain ⟨rfl,rfl⟩:=h3
          have hn':Al h (nid 90000+i)=none:=by cases hx:Al h (nid 90000+i)<;>simp_all
          have A:=Step.newNone S (x:=Eq m.2) hn' rfl
          refine ⟨J,fun b=>if b=nid 90000+i then none else β b,A,?_,fun b x hx hb=>?_⟩
          · rw [Rep] at hv;subst hv;rw [Rep]
            exact ⟨Eq m.2,none,0,⟨by simp only [Ak];rw [Ae,if_pos rfl],rfl⟩,rfl,Nat.le_refl _,.inl rfl⟩
          · simp only [Ak] at hx
            rw [Ae] at hx
            by_cases e:b=nid 90000+i
            · subst e;unfold nid F3;omega
            · rw [if_neg e,hb] at hx;cases hx
        · simp at hh;obtain ⟨rfl,rfl⟩:=hh
          exact ⟨J,β,Step.refl S,hv,old (by simp [A5])⟩
      | false =>
        rw [h2,cond_false] at hh
        split at hh
        · rename_i c
          obtain ⟨⟨q1,q2,q3⟩,hq,h3⟩:=ub hh
          simp at h3;obtain ⟨rfl,rfl⟩:=h3
          rw [Rep] at hv
          obtain ⟨cs,rfl,hc⟩:=hv
          obtain ⟨J',A,hA,hlen,_⟩:=Pt S (Looks.s fun _ _ h=>h) hq hc
          refine ⟨J',β,A,?_,old (Aaj hq)⟩
          rw [Rep]
          exact ⟨cs,rfl,hlen.symm,hA⟩
        · simp at hh;obtain ⟨rfl,rfl⟩:=hh
          exact ⟨J,β,Step.refl S,hv,old (by simp [A5])⟩
        · simp at hh
theorem A95 {s:Fl}:∀ (vals:List AV) {i:Nat} {ms:List (Nat×Nat)} {h h':Aj} {vals':List AV} {vs:List Value} {J:Bool→Nat→Prop} {β:Cb},
    Inv Z nt J β { s:=s,h:=h } a w→Bpn h i ms vals=some (vals',h')→Reps J β h w vals vs →
    ∃ J' β',Inv Z nt J' β' { s:=s,h:=h' } a w∧Reps J' β' h' w vals' vs∧∀ x v,Rep J β h w x v→Rep J' β' h' w x v
  | [],i,ms,h,h',vals',vs,J,β,I,hh,hv=>by
    simp [Bpn] at hh;obtain ⟨rfl,rfl⟩:=hh
    exact ⟨J,β,I,hv,fun _ _ h=>h⟩
  | v::r,i,ms,h,h',vals',vs,J,β,I,hh,hv=>by
    rw [Bpn] at hh
    obtain ⟨⟨v1,u1⟩,h1,h2⟩:=ub hh
    obtain ⟨⟨r2,hr⟩,h3,h4⟩:=ub h2
    simp at h4;obtain ⟨rfl,rfl⟩:=h4
    rw [Reps] at hv
    obtain ⟨u,us,rfl,hv1,hv2⟩:=hv
    obtain ⟨J1,β1,A,hA,hnew⟩:=Bsf I.sim h1 hv1
    have I1:=I.step A hnew
    obtain ⟨J2,β2,I2,hB,hm⟩:=A95 r I1 h3 (Reps.ext A.ext hv2)
    refine ⟨J2,β2,I2,?_,fun x v h=>hm x v (Rep.ext A.ext h)⟩
    rw [Reps]
    exact ⟨u,us,rfl,hm _ _ hA,hB⟩
theorem Bjv {E:Env} {fn:Func} {modes:List (Nat×Nat)} {outs:List Nat} {k:AV→Aj→Option R} (I:Inv Z nt J β st a w) (hh:Aq E fn modes outs k st=some r) :
    ∃ res h' vc J' β',k res h'=some r∧(results fn a.tmps).run E.P w=.ok vc w∧FDone Z J' β' h' w∧Rep J' β' h' w res vc:=by
  unfold Aq at hh
  obtain ⟨vals,vs,h1,h2,h3⟩:=Afy I.sim I.ss _ hh
  simp only [List.reverse_nil,List.nil_append] at h1
  obtain ⟨⟨vals',h'⟩,h4,h5⟩:=ub h1
  obtain ⟨J1,β1,I1,hR,_⟩:=A95 (s:=st.s) vals I h4 h3
  obtain ⟨hc,h6⟩:=uc h5
  simp at hc
  obtain ⟨hn,hs,hi,_⟩:=hc
  have hn:=Sf hn
  have hin:=Ng hi
  have hs:=Ng hs
  refine ⟨_,_,Bqd vs,J1,An4 _ _ β1,h6,Bqe fn a.tmps h2,?_,Rep.ren hn hs ?_⟩
  · exact ⟨I1.sim.ren hn hin, I1.os, I1.tape, I1.output, I1.size, I1.frame, fun k hm => I1.wr k (Bny hn hm), I1.jsub, I1.jup, I1.sizes, fun b x0 x h0 hx hd => by
      obtain ⟨b',x',hb',he,hg,rfl⟩:=Lv hn b x hx
      have:=A94 hb' ⟨I1.zge b x0 h0,I1.zlt b x0 h0⟩ he
      subst this
      obtain ⟨⟨e1,em⟩,e2,e3,e4⟩:=I1.outs b' x0 x' h0 hg hd
      refine ⟨⟨?_,em⟩,e2,by rw [Kr];exact e3,e4⟩
      have:=Fp (β:=β1) hn hb'
      rw [he] at this
      rw [this];exact e1,fun b x hx=>by
      obtain ⟨b',x',hb',he,hg,rfl⟩:=Lv hn b x hx
      obtain ⟨x2,h7,h8⟩:=Bqa hb'
      rw [hg] at h7;simp at h7;subst h7;exact h8⟩
  · match vals',vs,hR with
    | [],vs,hR=>rw [Reps] at hR;subst hR;simp only [Bqd,By1];rw [Rep];exact ⟨[],rfl,by rw [Reps]⟩
    | [v],vs,hR =>
      rw [Reps] at hR
      obtain ⟨u,us,rfl,hu,hus⟩:=hR
      rw [Reps] at hus;subst hus
      exact hu
    | v::v2::l,vs,hR =>
      have hR':=hR
      rw [Reps] at hR
      obtain ⟨u,us,rfl,hu,hus⟩:=hR
      rw [Reps] at hus
      obtain ⟨u2,us2,rfl,_,_⟩:=hus
      simp only [Bqd,By1]
      rw [Rep]
      exact ⟨_,rfl,hR'⟩
end
end Gx

namespace Gx
open Go
section
variable {J J':Bool→Nat→Prop} {β:Cb} {h:Aj} {w:World}
mutual
theorem Rep.noOrg:∀ {x:AV} {v:Value},Afs x=false→Rep J β h w x v→Rep (fun _=>J false) β h w x v
  | .own ..,v,_,hr=>by rw [Rep] at hr ⊢;exact hr
  | .optr ..,v,_,hr=>by rw [Rep] at hr ⊢;exact hr
  | .omap ..,v,_,hr=>by rw [Rep] at hr ⊢;exact hr
  | .pagg c o,v,ho,hr=>by
    rw [Afs] at ho;subst ho
    rw [Rep] at hr ⊢;exact hr
  | .agg c,v,ho,hr=>by
    rw [Afs] at ho
    rw [Rep] at hr ⊢
    obtain ⟨cs,h1,h2⟩:=hr
    exact ⟨cs,h1,Reps.noOrg ho h2⟩
  | .tup c,v,ho,hr=>by
    rw [Afs] at ho
    rw [Rep] at hr ⊢
    obtain ⟨cs,h1,h2⟩:=hr
    exact ⟨cs,h1,Reps.noOrg ho h2⟩
  | .fn f c,v,ho,hr=>by
    rw [Afs] at ho
    rw [Rep] at hr ⊢
    obtain ⟨cs,h1,h2⟩:=hr
    exact ⟨cs,h1,Reps.noOrg ho h2⟩
  | .undef,_,_,_=>by rw [Rep];trivial
  | .imm c n sz t o,v,ho,hr=>by
    rw [Afs] at ho;subst ho
    rw [Rep] at hr ⊢;exact hr
  | .iptr c o,v,ho,hr=>by
    rw [Afs] at ho;subst ho
    rw [Rep] at hr ⊢;exact hr
  | .int ..,v,_,hr=>by rw [Rep] at hr ⊢;exact hr
  | .bool _,v,_,hr=>by rw [Rep] at hr ⊢;exact hr
  | .str _,v,_,hr=>by rw [Rep] at hr ⊢;exact hr
  | .nsl,v,_,hr=>by rw [Rep] at hr ⊢;exact hr
  | .nilptr,v,_,hr=>by rw [Rep] at hr ⊢;exact hr
  | .nilfn,v,_,hr=>by rw [Rep] at hr ⊢;exact hr
theorem Reps.noOrg:∀ {c:List AV} {cs:List Value},Ub c=false→Reps J β h w c cs→Reps (fun _=>J false) β h w c cs
  | [],_,_,hr=>by rw [Reps] at hr ⊢;exact hr
  | x::r,cs,ho,hr=>by
    rw [Ub] at ho
    simp at ho
    rw [Reps] at hr ⊢
    obtain ⟨u,us,h1,h2,h3⟩:=hr
    exact ⟨u,us,h1,Rep.noOrg ho.1 h2,Reps.noOrg ho.2 h3⟩
end
theorem Beq:∀ {c:List AV} {j:Nat} {x:AV},Ub c=false→c[j]?=some x→Afs x=false
  | [],j,x,_,hj=>by simp at hj
  | y::r,j,x,ho,hj=>by
    rw [Ub] at ho
    simp at ho
    cases j with
    | zero=>simp at hj;subst hj;exact ho.1
    | succ j=>exact Beq ho.2 (by simpa using hj)
theorem Ber:∀ {h:Aj} {b:Nat} {x:Blk},A2h h=false→Al h b=some x→x.taint=false∧(x.pure=false→Ub x.cells=false)
  | [],b,x,_,hb=>by simp [Al] at hb
  | (i,y)::r,b,x,ho,hb=>by
    rw [A2h] at ho
    simp at ho
    rw [Al] at hb
    cases hi:Nat.beq i b with
    | true =>
      rw [hi] at hb;simp at hb;subst hb
      refine ⟨ho.1.1,fun hp=>?_⟩
      have:=ho.1.2
      rw [hp] at this;simpa using this
    | false=>rw [hi] at hb;exact Ber ho.2 (by simpa using hb)
theorem SimH.noOrg (S:SimH J β h w) (ho:A2h h=false):SimH (fun _=>J false) β h w:=by
  refine ⟨fun _ k hj => S.jlt _ k hj, fun k hj => hj, fun b x hx hd hm => ?_, fun b x hx hd hm => by
      obtain ⟨g1,g2,k,es,clk,g3,g4,g5,g6⟩:=S.mblk b x hx hd hm
      exact ⟨g1,g2,k,es,clk,g3,g4,g5,fun _ hg=>g6 false hg⟩,S.sep⟩
  obtain ⟨ht,hc⟩:=Ber ho hx
  rcases S.blk b x hx hd hm with h1 | ⟨k,o,cs,ty,fr,h1,h2,h3,h4,h5,h6,h7⟩
  · exact .inl h1
  · refine .inr ⟨k,o,cs,ty,fr,h1,h2,h3,h4,⟨fun hp=>?_,fun hp j c hj=>?_⟩,fun hs _=>h6 hs _,fun hs=>?_⟩
    · have:=h5.1 hp;rw [ht] at this;exact this
    · obtain ⟨u,g1,g2,g3⟩:=h5.2 hp j c hj
      exact ⟨u,g1,Rep.noOrg (Beq (hc hp) hj) g2,g3⟩
    · have:=h7 hs;rw [ht] at this;exact this
theorem Ext.grow (hJ:∀ o k,J o k→J' o k):Ext J β h w J' β h w:=⟨hJ,fun _ _ _=>rfl,fun b x hb=>⟨x,⟨hb,rfl⟩,by cases hd:x.dead<;>simp⟩,fun _ _ _ _=>Nat.le_refl _⟩
theorem SimH.grow (S:SimH J β h w) (hJ:∀ o k,J o k→J' o k) (hlt:∀ o k,J' o k→k<w.heap.size) (hft:∀ k,J' false k→J' true k)
    (hun:∀ b x k o,Al h b=some x→x.dead=false→x.sealed=false→β b=some (k,o)→∀ g,¬ J' g k):SimH J' β h w:=by
  refine ⟨hlt, hft, fun b x hx hd hm => ?_, fun b x hx hd hm => by
      obtain ⟨g1,g2,k,es,clk,g3,g4,g5,g6⟩:=S.mblk b x hx hd hm
      exact ⟨g1,g2,k,es,clk,g3,g4,g5,hun b x k 0 hx hd g2 g3⟩,S.sep⟩
  rcases S.blk b x hx hd hm with h1 | ⟨k,o,cs,ty,fr,h1,h2,h3,h4,h5,h6,h7⟩
  · exact .inl h1
  · exact .inr ⟨k,o,cs,ty,fr,h1,h2,h3,h4,h5.ext (Ext.grow hJ),fun hs=>hun b x k o hx hd hs h1,fun hs=>hJ _ _ (h7 hs)⟩
def Bzn (β:Cb) (h:Aj) (fz:List Nat) (k:Nat):Prop:=∃ b x o,b ∈ fz∧Al h b=some x∧x.dead=false∧x.sealed=false∧β b=some (k,o)
def JS (J:Bool→Nat→Prop) (β:Cb) (h:Aj) (fz:List Nat):Bool→Nat→Prop:=fun o k=>J o k∨(o=true∧Bzn β h fz k)
theorem Bes {g:Bl} {b off n:Nat} {x:Blk} {vc:Value} {fz:List Nat} (S:SimH J β h w) (hl:Looks g h) (hx:Hk g b=some x) (hp:x.pure=true) (hf:x.sealed=false→b ∈ fz) (hv:Rep J β h w (.own b off n) vc) :
    Rep (JS J β h fz) β h w (.imm ((x.cells.drop off).take (n*x.sz)) n x.sz false (!x.sealed||x.taint)) vc:=by
  unfold Hk at hx
  obtain ⟨x0,hx0,hx⟩:=ub hx
  obtain ⟨hd,hx⟩:=uc' hx
  simp at hx;subst hx
  have hy:=hl b _ hx0
  rw [Rep]
  have key:=(Bt0 (J':=fun o k=>o≠x0.taint∨JS J β h fz (!x0.sealed||x0.taint) k) S hy hd hp hv (fun k o hβ=>.inr ?_) (fun o k hj=>?_) false (!x0.sealed||x0.taint)).2 (by simp)
  · exact RepC.keep (fun k hk=>by rcases hk with hk | hk;exact absurd rfl hk;exact hk) (fun _ _=>rfl) key
  · cases hs:x0.sealed with
    | false =>
      simp only [Bool.not_false,Bool.true_or]
      exact .inr ⟨rfl,b,x0,o,hf hs,hy,hd,hs,hβ⟩
    | true =>
      simp only [Bool.not_true,Bool.false_or]
      rcases S.blk b x0 hy hd (Bv8 hy hv) with ⟨h1,_⟩ | ⟨k',o',cs,ty,fr,h1,h2,h3,h4,h5,h6,h7⟩
      · rw [hβ] at h1;cases h1
      · rw [hβ] at h1;simp at h1;obtain ⟨rfl,rfl⟩:=h1
        exact .inl (h7 hs)
  · by_cases e:o=x0.taint
    · subst e
      right
      cases hs:x0.sealed with
      | false =>
        simp only [Bool.not_false,Bool.true_or]
        left
        cases ht:x0.taint with
        | false=>rw [ht] at hj;exact S.jft k hj
        | true=>rw [ht] at hj;exact hj
      | true=>simp only [Bool.not_true,Bool.false_or];exact .inl hj
    · exact .inl e
theorem JS.mono (S:SimH J β h w) {fz:List Nat} {a b:Bool} (k:Nat) (hk:JS J β h fz a k):JS J β h fz (a||b) k:=by
  cases a
  · cases b
    · exact hk
    · rcases hk with hk | ⟨h1,_⟩
      · exact .inl (S.jft k hk)
      · cases h1
  · exact hk
theorem Bjw {g:Bl} {v v':AV} {o:Bool} {vc:Value} {fz:List Nat} (S:SimH J β h w) (hl:Looks g h) (hh:Ai4 g v=some (v',o)) (hf:∀ b off n x,v=.own b off n→g b=some x→x.sealed=false→b ∈ fz) (hv:Rep J β h w v vc) :
    RepC (JS J β h fz o) w v' vc:=by
  cases v
  case own b off n =>
    rw [Ai4] at hh
    obtain ⟨x,hx,h1⟩:=ub hh
    obtain ⟨hp,h2⟩:=uc h1
    simp at h2
    obtain ⟨rfl,rfl⟩:=h2
    have:=Bes S hl hx hp (fun hs=>by
      unfold Hk at hx
      obtain ⟨x0,hx0,hx⟩:=ub hx
      obtain ⟨hd,hx⟩:=uc' hx
      simp at hx;subst hx
      exact hf b off n x0 rfl hx0 hs) hv
    rw [Rep] at this;exact this
  case imm c n sz t org =>
    simp [Ai4] at hh;obtain ⟨rfl,rfl⟩:=hh
    rw [Rep,RepC] at hv
    rw [RepC]
    obtain ⟨e1,A,cap,e2,e3,e4,e5⟩:=hv
    refine ⟨e1,A,cap,e2,e3,by simp,?_⟩
    rcases e5 with e5 | ⟨a,e6,e7,e8⟩
    · exact .inl e5
    · exact .inr ⟨a,e6,.inl e7,RepCs.keep (fun k hk=>.inl hk) (fun _ _=>rfl) (fun _=>rfl) e8⟩
  case iptr c org =>
    simp [Ai4] at hh;obtain ⟨rfl,rfl⟩:=hh
    rw [Rep] at hv
    exact RepC.keep (fun k hk=>.inl hk) (fun _ _=>rfl) hv
  all_goals first
    | (simp [Ai4] at hh;done)
    | (simp [Ai4] at hh;obtain ⟨rfl,rfl⟩:=hh;rw [Rep] at hv;rw [RepC];exact hv)
theorem Apr {g:Bl} {fz:List Nat} (S:SimH J β h w) (hl:Looks g h):∀ {c c':List AV} {o:Bool} {cs:List Value},Ape g c=some (c',o)→(∀ b ∈ Iq g c,b ∈ fz)→Reps J β h w c cs →
    cs.length=c'.length∧∀ (j:Nat) (x:AV),c'[j]?=some x→∃ u,cs[j]?=some u∧RepC (JS J β h fz o) w x u
  | [],c',o,cs,hh,hf,hv=>by
    simp [Ape] at hh;obtain ⟨rfl,rfl⟩:=hh
    rw [Reps] at hv;subst hv
    exact ⟨rfl,fun j x hj=>by simp at hj⟩
  | v::r,c',o,cs,hh,hf,hv=>by
    rw [Ape] at hh
    obtain ⟨⟨v1,o1⟩,h1,hh⟩:=ub hh
    obtain ⟨⟨r1,o2⟩,h2,hh⟩:=ub hh
    simp at hh;obtain ⟨rfl,rfl⟩:=hh
    rw [Reps] at hv
    obtain ⟨u,us,rfl,g1,g2⟩:=hv
    have hf2:∀ b ∈ Iq g r,b ∈ fz:=fun b hb=>hf b (by
      cases v<;>simp only [Iq]<;>try exact hb
      split
      · rename_i x _;cases x.sealed<;>simp [hb]
      · exact hb)
    have a1:=Bjw (fz:=fz) S hl h1 (fun b off n x e hx hs=>hf b (by subst e;simp [Iq,hx,hs])) g1
    obtain ⟨b1,b2⟩:=Apr S hl h2 hf2 g2
    refine ⟨by simp [b1],fun j x hj=>?_⟩
    cases j with
    | zero=>simp at hj;subst hj;exact ⟨u,by simp,RepC.keep (fun k hk=>JS.mono S k hk) (fun _ _=>rfl) a1⟩
    | succ j =>
      obtain ⟨u',e1,e2⟩:=b2 j x (by simpa using hj)
      exact ⟨u',by simpa using e1,RepC.keep (fun k hk=>by rw [Bool.or_comm];exact JS.mono S k hk) (fun _ _=>rfl) e2⟩
theorem Bjx {g:Bl} {v v':AV} {q:Bool} {vc:Value} {fz:List Nat} (S:SimH J β h w) (hl:Looks g h) (hh:Bnf g v=some (v',q)) (hf:∀ b ∈ Ahl g v,b ∈ fz) (hv:Rep J β h w v vc) :
    Rep (JS J β h fz) β h w v' vc∧Fm v'=[]:=by
  unfold Bnf at hh
  split at hh
  · rename_i b off n
    obtain ⟨x,hx,h1⟩:=ub hh
    obtain ⟨hp,h2⟩:=uc h1
    simp at h2
    obtain ⟨rfl,_⟩:=h2
    exact ⟨Bes S hl hx hp (fun hs=>by
      unfold Hk at hx
      obtain ⟨x0,hx0,hx⟩:=ub hx
      obtain ⟨hd,hx⟩:=uc' hx
      simp at hx;subst hx
      exact hf b (by simp [Ahl,hx0,hs])) hv,by simp [Fm]⟩
  · simp at hh;obtain ⟨rfl,_⟩:=hh
    refine ⟨?_,by simp [Fm]⟩
    rw [Rep,RepC] at hv ⊢
    obtain ⟨e1,A,cap,e2,e3,e4,e5⟩:=hv
    refine ⟨e1,A,cap,e2,e3,by simp,?_⟩
    rcases e5 with e5 | ⟨a,e6,e7,e8⟩
    · exact .inl e5
    · exact .inr ⟨a,e6,.inl e7,RepCs.keep (fun k hk=>.inl hk) (fun _ _=>rfl) (fun _=>rfl) e8⟩
  · rename_i b off
    obtain ⟨x,hx,h1⟩:=ub hh
    obtain ⟨hp,h2⟩:=uc h1
    simp at h2
    obtain ⟨rfl,_⟩:=h2
    unfold Hk at hx
    obtain ⟨x0,hx0,hx⟩:=ub hx
    obtain ⟨hd,hx⟩:=uc' hx
    simp at hx;subst hx
    have hy:=hl b _ hx0
    refine ⟨?_,by simp [Fm]⟩
    rw [Rep] at hv
    obtain ⟨x1,k,o,⟨g1,gm⟩,g2,g3⟩:=hv
    rw [hy] at g1;simp at g1;subst g1
    rcases g3 with g3 | g3
    · simp [hd] at g3
    · rcases S.blk b x0 hy hd gm with ⟨h1,_⟩ | ⟨k',o',cs,ty,fr,h1,h2,h3,h4,h5,h6,h7⟩
      · rw [g3] at h1;cases h1
      · rw [g3] at h1;simp at h1;obtain ⟨rfl,rfl⟩:=h1
        have hin:∀ k2,J x0.taint k2→JS J β h fz (!x0.sealed||x0.taint) k2:=by
          intro k2 hj
          left
          cases hs:x0.sealed with
          | false =>
            simp only [Bool.not_false,Bool.true_or]
            cases ht:x0.taint with
            | false=>rw [ht] at hj;exact S.jft k2 hj
            | true=>rw [ht] at hj;exact hj
          | true=>simp only [Bool.not_true,Bool.false_or];exact hj
        rw [Rep,RepC]
        refine ⟨_,g2,?_,?_⟩
        · cases hs:x0.sealed with
          | false =>
            simp only [Bool.not_false,Bool.true_or]
            exact .inr ⟨rfl,b,x0,o,hf b (by simp [Ahl,hx0,hs]),hy,hd,hs,g3⟩
          | true =>
            simp only [Bool.not_true,Bool.false_or]
            exact .inl (h7 hs)
        · refine RepCs.keep hin (fun _ _=>rfl) (fun j=>?_) ((h5.1 hp).drop off)
          rw [Addr.add_mid,V4 h2,Nat.add_assoc]
  · rename_i c
    obtain ⟨⟨c1,o1⟩,h1,h2⟩:=ub hh
    simp at h2;obtain ⟨rfl,_⟩:=h2
    rw [Rep] at hv
    obtain ⟨cs,rfl,hv⟩:=hv
    obtain ⟨b1,b2⟩:=Apr (fz:=fz) S hl h1 (by simpa [Ahl] using hf) hv
    refine ⟨?_,by simp [Fm]⟩
    rw [Rep]
    refine ⟨cs,rfl,b1,?_⟩
    rw [B6]
    intro j x hj
    obtain ⟨u,e1,e2⟩:=b2 j x hj
    exact ⟨u,by simpa using e1,e2⟩
  · simp at hh;obtain ⟨rfl,_⟩:=hh
    exact ⟨Rep.ext (Ext.grow fun _ _ hj=>.inl hj) hv,by simp [Fm,Hm]⟩
  · simp at hh
  · simp at hh
  · simp at hh
  · simp at hh
  · simp at hh;obtain ⟨rfl,_⟩:=hh
    refine ⟨Rep.ext (Ext.grow fun _ _ hj=>.inl hj) hv,?_⟩
    cases v<;>first | rfl | simp_all
theorem Aao {g:Bl} {fz:List Nat} (S:SimH J β h w) (hl:Looks g h):∀ {args:List AV} {ms:List Bool} {args':List AV} {im fz':List Nat} {vs:List Value},
    Ahm g ms args=some (args',im,fz')→(∀ b ∈ fz',b ∈ fz)→Reps J β h w args vs→Reps (JS J β h fz) β h w args' vs∧∀ b ∈ Hm args',b ∈ im
  | [],ms,args',im,fz',vs,hh,hf,hv=>by
    simp [Ahm] at hh;obtain ⟨rfl,rfl,rfl⟩:=hh
    rw [Reps] at hv;subst hv
    exact ⟨by rw [Reps],by simp [Hm]⟩
  | v::r,ms,args',im,fz',vs,hh,hf,hv=>by
    rw [Ahm] at hh
    rw [Reps] at hv
    obtain ⟨u,us,rfl,hv1,hv2⟩:=hv
    cases hm:ms.headD false with
    | true =>
      rw [hm,cond_true] at hh
      obtain ⟨⟨a2,i2,f2⟩,h1,h2⟩:=ub hh
      simp at h2;obtain ⟨rfl,rfl,rfl⟩:=h2
      obtain ⟨g1,g2⟩:=Aao S hl h1 hf hv2
      refine ⟨by rw [Reps];exact ⟨u,us,rfl,Rep.ext (Ext.grow fun _ _ hj=>.inl hj) hv1,g1⟩,fun b hb=>?_⟩
      rw [Hm] at hb
      rcases List.mem_append.1 hb with hb | hb
      · exact List.mem_append.2 (.inl hb)
      · exact List.mem_append.2 (.inr (g2 b hb))
    | false =>
      rw [hm,cond_false] at hh
      obtain ⟨⟨v1,b1⟩,h0,hh⟩:=ub hh
      obtain ⟨⟨a2,i2,f2⟩,h1,h2⟩:=ub hh
      simp at h2;obtain ⟨rfl,rfl,rfl⟩:=h2
      obtain ⟨e1,e2⟩:=Bjx S hl h0 (fun b hb=>hf b (List.mem_append.2 (.inl hb))) hv1
      obtain ⟨g1,g2⟩:=Aao S hl h1 (fun b hb=>hf b (List.mem_append.2 (.inr hb))) hv2
      refine ⟨by rw [Reps];exact ⟨u,us,rfl,e1,g1⟩,fun b hb=>?_⟩
      rw [Hm,e2] at hb
      exact g2 b (by simpa using hb)
end
end Gx

namespace Gx
open Go
theorem Bld {g g':Bl} {ρ:Nat→Nat}:∀ {ids:List Nat},(∀ b ∈ ids,g b=g' b)→sub g ρ ids=sub g' ρ ids
  | [],_=>rfl
  | b::r,h=>by
    rw [sub,sub,h b (by simp),Bld (fun c hc=>h c (by simp [hc]))]
theorem Aps {g:Bl}:∀ {l:List Nat},Apg g l=true→∀ b ∈ l,∃ x,g b=some x∧x.dead=false
  | [],_,b,hb=>by simp at hb
  | i::r,h,b,hb=>by
    rw [Apg] at h
    simp at h
    rcases List.mem_cons.1 hb with rfl | hb
    · cases hx:g b with
      | none=>rw [hx] at h;simp at h
      | some x=>rw [hx] at h;exact ⟨x,rfl,by simpa using h.1⟩
    · exact Aps h.2 b hb
theorem Bt7:∀ {l m:List Nat},Bpl l m=true→∀ b ∈ l,b ∉ m
  | [],m,_,b,hb=>by simp at hb
  | i::r,m,h,b,hb=>by
    rw [Bpl] at h
    simp at h
    rcases List.mem_cons.1 hb with rfl | hb
    · intro hm;have:=Jf.2 hm;rw [this] at h;simp at h
    · exact Bt7 h.2 b hb
theorem Ahv {d:Nat}:∀ {l:List (Nat×Nat)} {b:Nat},b ∈ l.map (·.1)→G5 d l b ∈ l.map (·.2)
  | [],b,hb=>by simp at hb
  | (i,x)::r,b,hb=>by
    rw [G5]
    cases hi:Nat.beq i b with
    | true=>simp
    | false =>
      have hm:b ∈ r.map (·.1):=by
        rw [List.map_cons] at hb
        rcases List.mem_cons.1 hb with h | h
        · exact absurd h.symm (Xk hi)
        · exact h
      simp only [cond_false,List.map_cons]
      exact List.mem_cons_of_mem _ (Ahv hm)
theorem Xy {d:Nat}:∀ {l m:List (Nat×Nat)} {b:Nat},G5 d (l++m) b=if b ∈ l.map (·.1) then G5 d l b else G5 d m b
  | [],m,b=>by simp
  | (i,x)::r,m,b=>by
    rw [List.cons_append,G5,G5,Xy]
    cases hi:Nat.beq i b with
    | true=>have:=Nat.eq_of_beq_eq_true hi;subst this;simp
    | false =>
      have:=Xk hi
      simp only [cond_false,List.map_cons,List.mem_cons]
      by_cases hb:b ∈ r.map (·.1)
      · rw [if_pos hb,if_pos (.inr hb)]
      · rw [if_neg hb,if_neg (by rintro (h | h);exact this h.symm;exact hb h)]
theorem Is:∀ {base:Nat} {l:List Nat},(Av base l).map (·.1)=l
  | _,[]=>rfl
  | base,i::r=>by rw [Av,List.map_cons,Is]
theorem Bet {d d':Nat}:∀ {l:List Nat} {base b:Nat},b ∈ l→G5 d' ((Av base l).map fun p=>(p.2,p.1)) (G5 d (Av base l) b)=b
  | [],base,b,hb=>by simp at hb
  | i::r,base,b,hb=>by
    rw [Av,G5,List.map_cons,G5]
    cases hi:Nat.beq i b with
    | true=>have:=Nat.eq_of_beq_eq_true hi;subst this;simp
    | false =>
      have hm:b ∈ r:=by
        rcases List.mem_cons.1 hb with h | h
        · exact absurd h.symm (Xk hi)
        · exact h
      simp only [cond_false]
      have h1:=Aan (d:=d) (base:=base+1) hm
      rw [Av4 (show base≠G5 d (Av (base+1) r) b by omega)]
      exact Bet hm
theorem Sh:∀ {base:Nat} {l:List Nat} {c:Nat},c ∈ (Av base l).map (·.2)→base≤c∧c<base+l.length
  | _,[],c,hc=>by simp [Av] at hc
  | base,i::r,c,hc=>by
    rw [Av,List.map_cons] at hc
    rcases List.mem_cons.1 hc with h | h
    · simp at h;subst h;simp
    · have:=Sh h;simp only [List.length_cons];omega
theorem Aap:∀ {base:Nat} {l:List Nat},((Av base l).map (·.2)).Nodup
  | _,[]=>by simp [Av]
  | base,i::r=>by
    rw [Av,List.map_cons,List.nodup_cons]
    exact ⟨fun h=>by have:=Sh h;simp at this;omega,Aap⟩
theorem Apt:∀ {base:Nat} {l:List Nat} {b:Nat},b ∈ l→(b,G5 0 (Av base l) b) ∈ Av base l
  | _,[],b,hb=>by simp at hb
  | base,i::r,b,hb=>by
    rw [Av,G5]
    cases hi:Nat.beq i b with
    | true=>have:=Nat.eq_of_beq_eq_true hi;subst this;simp
    | false =>
      have hm:b ∈ r:=by
        rcases List.mem_cons.1 hb with h | h
        · exact absurd h.symm (Xk hi)
        · exact h
      simp only [cond_false]
      exact List.mem_cons_of_mem _ (Apt hm)
def Bsg (x:Blk):Blk:={ x with dead:=true,pure:=true,cells:=[] }
theorem Ks:∀ {ups:Ups} {h:Aj} {b:Nat} {o:Option Blk},(ups.map (·.1)).Nodup→(b,o) ∈ ups→Al (Ak ups h) b=match o with | some x=>some x | none=>(Al h b).map Bsg
  | [],h,b,o,_,hm=>by simp at hm
  | (i,y)::r,h,b,o,hn,hm=>by
    rw [List.map_cons,List.nodup_cons] at hn
    rcases List.mem_cons.1 hm with he | hm'
    · simp at he
      obtain ⟨rfl,rfl⟩:=he
      have hno:A5 r b=false:=by
        have:∀ {r:Ups},b ∉ r.map (·.1)→A5 r b=false:=by
          intro r
          induction r with
          | nil=>intro _;rfl
          | cons p r ih =>
            intro h
            simp only [List.map_cons,List.mem_cons,not_or] at h
            rw [A5,Av4 (fun e=>h.1 e.symm)]
            exact ih h.2
        exact this hn.1
      cases o with
      | some x=>rw [Ak,Ce _ _ _ hno,Ae,if_pos rfl]
      | none =>
        rw [Ak,Ce _ _ _ hno]
        cases hx:Al h b with
        | none=>simp [hx]
        | some x=>simp only [Option.map_some];rw [Ae,if_pos rfl];rfl
    · have hne:b≠i:=fun e=>by subst e;exact hn.1 (List.mem_map.2 ⟨_,hm',rfl⟩)
      cases y with
      | some x =>
        rw [Ak,Ks hn.2 hm']
        cases o with
        | some _=>rfl
        | none=>simp only;rw [Ae,if_neg hne]
      | none =>
        rw [Ak,Ks hn.2 hm']
        cases o with
        | some _=>rfl
        | none =>
          simp only
          split
          · rw [Ae,if_neg hne]
          · rfl
theorem A6h:∀ {ups:Ups} {b:Nat},A5 ups b=true↔b ∈ ups.map (·.1)
  | [],b=>by simp [A5]
  | (i,y)::r,b=>by
    rw [A5,List.map_cons,List.mem_cons,← A6h]
    cases hi:Nat.beq i b with
    | true=>have:=Nat.eq_of_beq_eq_true hi;subst this;simp
    | false=>have:=Xk hi;simp;intro e;exact absurd e.symm this
theorem Beu {β:Cb} {h:Aj} {ρ:Nat→Nat} {ids:List Nat} (hn:(ids.map ρ).Nodup) {k:Nat} (hm:Mut (An4 ρ ids β) (sub (Al h) ρ ids) k) :
    ∃ b x o,b ∈ ids∧Al h b=some x∧x.dead=false∧x.sealed=false∧β b=some (k,o):=by
  obtain ⟨c,y,o,hy,hd,hs,hβ⟩:=hm
  obtain ⟨b,x,hb,rfl,hx,rfl⟩:=Lv hn c y hy
  rw [Fp hn hb] at hβ
  exact ⟨b,x,o,hb,hx,hd,hs,hβ⟩
theorem SimH.unJ {J:Bool→Nat→Prop} {β:Cb} {h:Aj} {w:World} (S:SimH J β h w) {b:Nat} {x:Blk} {k o:Nat} (hb:Al h b=some x) (hd:x.dead=false) (hs:x.sealed=false) (hβ:β b=some (k,o)):∀ g,¬ J g k:=by
  cases hm:x.mp with
  | false =>
    rcases S.blk b x hb hd hm with ⟨h2,_⟩ | ⟨k',o2,cs,ty,fr,h2,h3,h4,h5,h6,h7,h8⟩
    · rw [hβ] at h2;cases h2
    · rw [hβ] at h2;simp at h2;obtain ⟨rfl,rfl⟩:=h2
      exact h7 hs
  | true =>
    obtain ⟨_,_,k',es,clk,h2,_,_,h3⟩:=S.mblk b x hb hd hm
    rw [hβ] at h2;simp at h2;obtain ⟨rfl,_⟩:=h2
    exact h3
theorem SimH.seJ {J:Bool→Nat→Prop} {β:Cb} {h:Aj} {w:World} (S:SimH J β h w) {b:Nat} {x:Blk} {k o:Nat} (hb:Al h b=some x) (hd:x.dead=false) (hs:x.sealed=true) (hβ:β b=some (k,o)):J x.taint k:=by
  cases hm:x.mp with
  | false =>
    rcases S.blk b x hb hd hm with ⟨h2,_⟩ | ⟨k',o2,cs,ty,fr,h2,h3,h4,h5,h6,h7,h8⟩
    · rw [hβ] at h2;cases h2
    · rw [hβ] at h2;simp at h2;obtain ⟨rfl,rfl⟩:=h2
      exact h8 hs
  | true =>
    have:=(S.mblk b x hb hd hm).2.1
    rw [hs] at this;cases this
theorem Step.merge {J J0 J1:Bool→Nat→Prop} {β β1:Cb} {h h1 H:Aj} {w w':World} {D ids:List Nat} (S:SimH J β h w) (S1:SimH J0 β1 h1 w')
    (hH:∀ b,b ∉ D→Al H b=Al h b)
    (hD:∀ b x,b ∈ D→Al H b=some x→x.dead=false→Al h1 b=some x)
    (hD1:∀ b x,Al h1 b=some x→b ∈ D∧Al H b=some x)
    (hnew:∀ b x,b ∈ D→b ∉ ids→Al h b≠some x)
    (hold:∀ b x,b ∈ ids→Al h b=some x→∃ x',(Al H b=some x'∧x'.mp=x.mp)∧(x'.dead=true∨(x.dead=false∧β1 b=β b∧x'.sz=x.sz∧(x.mp=false→x'.cells.length=x.cells.length))))
    (hids:∀ b ∈ ids,b ∈ D)
    (os:w'.os=w.os) (tape:w'.tape=w.tape) (output:w'.output=w.output) (size:w.heap.size≤w'.heap.size)
    (frame:∀ k,k<w.heap.size→(¬ ∃ b x o,b ∈ ids∧Al h b=some x∧x.dead=false∧x.sealed=false∧β b=some (k,o))→w'.heap[k]?=w.heap[k]?)
    (wr:∀ k,Mut β1 h1 k→k<w.heap.size→∃ b x o,b ∈ ids∧Al h b=some x∧x.dead=false∧x.sealed=false∧β b=some (k,o))
    (jup:∀ o k,J0 o k→J o k∨(∃ b x o,b ∈ ids∧Al h b=some x∧x.dead=false∧x.sealed=false∧β b=some (k,o))∨w.heap.size≤k)
    (sizes:∀ k,Bg w k≤Bg w' k) :
    Step J β h w (fun o k=>J o k∨J0 o k) (fun b=>if b ∈ D then β1 b else β b) H w'∧Ext J0 β1 h1 w' (fun o k=>J o k∨J0 o k) (fun b=>if b ∈ D then β1 b else β b) H w':=by
  have E0:Ext J0 β1 h1 w' (fun o k=>J o k∨J0 o k) (fun b=>if b ∈ D then β1 b else β b) H w':=by
    refine ⟨fun _ _ hj=>.inr hj,fun _ _ _=>rfl,fun b x hb=>?_,fun _ _ _ _=>Nat.le_refl _⟩
    obtain ⟨h2,h3⟩:=hD1 b x hb
    refine ⟨x,⟨h3,rfl⟩,?_⟩
    cases hd:x.dead
    · exact .inr ⟨rfl,by simp [h2],rfl,fun _=>rfl⟩
    · exact .inl rfl
  have keepJ:∀ o k,J o k→w'.heap[k]?=w.heap[k]?:=by
    intro o k hj
    refine frame k (S.jlt o k hj) ?_
    rintro ⟨b,x,o',_,hb,hd,hs,hβ⟩
    exact S.unJ hb hd hs hβ o hj
  have E:Ext J β h w (fun o k=>J o k∨J0 o k) (fun b=>if b ∈ D then β1 b else β b) H w':=by
    refine ⟨fun _ _ hj=>.inl hj,keepJ,fun b x hb=>?_,fun b k o _=>sizes k⟩
    by_cases hi:b ∈ ids
    · obtain ⟨x',h2,h3⟩:=hold b x hi hb
      refine ⟨x',h2,?_⟩
      simp only [hids b hi,if_true]
      exact h3
    · have hnd:b ∉ D:=fun hd=>hnew b x hd hi hb
      refine ⟨x,⟨by rw [hH b hnd];exact hb,rfl⟩,?_⟩
      cases hd:x.dead
      · exact .inr ⟨rfl,by simp [hnd],rfl,fun _=>rfl⟩
      · exact .inl rfl
  have out:∀ {b x},b ∉ D→Al H b=some x→Al h b=some x:=fun hb hx=>by rw [← hH _ hb];exact hx
  refine ⟨⟨E, ⟨?_, ?_, fun b x hx hd hm => ?_, fun b x hx hd hm => by
      by_cases hb:b ∈ D
      · have h2:=hD b x hb hx hd
        have M:=S1.mblk b x h2 hd hm
        refine M.keep (by simp [hb]) (fun _ _ _=>rfl) (fun g k o hβ hj=>?_)
        rcases hj with hj | hj
        · exfalso
          by_cases hk:k<w.heap.size
          · obtain ⟨b',x',o',hb',hx',hd',hs',hβ'⟩:=wr k ⟨b,x,o,h2,hd,M.2.1,hβ⟩ hk
            exact S.unJ hx' hd' hs' hβ' g hj
          · exact hk (S.jlt g k hj)
        · exact hj
      · have h2:=out hb hx
        have M:=S.mblk b x h2 hd hm
        have hnm:∀ k o,β b=some (k,o)→¬ ∃ b x o,b ∈ ids∧Al h b=some x∧x.dead=false∧x.sealed=false∧β b=some (k,o):=by
          rintro k o h3 ⟨b',x',o',hb',hx',hd',hs',hβ'⟩
          have:=S.sep b b' x x' k o o' h2 hx' hd hd' M.2.1 h3 hβ'
          subst this
          exact hb (hids b hb')
        refine M.keep (by simp [hb]) (fun k o hβ=>frame k (Wr S h2 hd hβ) (hnm k o hβ)) (fun g k o hβ hj=>?_)
        rcases hj with hj | hj
        · exact hj
        · rcases jup g k hj with hj | hj | hj
          · exact hj
          · exact absurd hj (hnm k o hβ)
          · have:=Wr S h2 hd hβ;omega,?_⟩,os,tape,output,size,?_,?_,?_⟩,E0⟩
  · rintro o k (hj | hj)
    · exact Nat.lt_of_lt_of_le (S.jlt o k hj) size
    · exact S1.jlt o k hj
  · rintro k (hj | hj)
    · exact .inl (S.jft k hj)
    · exact .inr (S1.jft k hj)
  · by_cases hb:b ∈ D
    · have h2:=hD b x hb hx hd
      rcases S1.blk b x h2 hd hm with ⟨h3,h4⟩ | ⟨k,o,cs,ty,fr,h3,h4,h5,h6,h7,h8,h9⟩
      · exact .inl ⟨by simp [hb,h3],h4⟩
      · refine .inr ⟨k,o,cs,ty,fr,by simp [hb,h3],h4,h5,h6,h7.ext E0,fun hs g hj=>?_,fun hs=>.inr (h9 hs)⟩
        rcases hj with hj | hj
        · by_cases hk:k<w.heap.size
          · obtain ⟨b',x',o',hb',hx',hd',hs',hβ'⟩:=wr k ⟨b,x,o,h2,hd,hs,h3⟩ hk
            exact S.unJ hx' hd' hs' hβ' g hj
          · exact hk (S.jlt g k hj)
        · exact h8 hs g hj
    · have h2:=out hb hx
      rcases S.blk b x h2 hd hm with ⟨h3,h4⟩ | ⟨k,o,cs,ty,fr,h3,h4,h5,h6,h7,h8,h9⟩
      · exact .inl ⟨by simp [hb,h3],h4⟩
      · have hk:=Aue h4
        have hnm:x.sealed=false→¬ ∃ b x o,b ∈ ids∧Al h b=some x∧x.dead=false∧x.sealed=false∧β b=some (k,o):=by
          rintro hs ⟨b',x',o',hb',hx',hd',hs',hβ'⟩
          have:=S.sep b b' x x' k o o' h2 hx' hd hd' hs h3 hβ'
          subst this
          exact hb (hids b hb')
        have same:w'.heap[k]?=w.heap[k]?:=by
          cases hs:x.sealed with
          | false=>exact frame k hk (hnm hs)
          | true=>exact keepJ _ k (h9 hs)
        refine .inr ⟨k,o,cs,ty,fr,by simp [hb,h3],by rw [same];exact h4,h5,h6,h7.ext E,fun hs g hj=>?_,fun hs=>.inl (h9 hs)⟩
        rcases hj with hj | hj
        · exact h8 hs g hj
        · rcases jup g k hj with hj | hj | hj
          · exact h8 hs g hj
          · exact hnm hs hj
          · omega
  · intro b b' x x' k o o' hx hx' hd hd' hs hβ hβ'
    by_cases hb:b ∈ D<;>by_cases hb':b' ∈ D
    · simp [hb] at hβ;simp [hb'] at hβ'
      exact S1.sep b b' x x' k o o' (hD b x hb hx hd) (hD b' x' hb' hx' hd') hd hd' hs hβ hβ'
    · exfalso
      simp [hb] at hβ;simp [hb'] at hβ'
      have h2:=out hb' hx'
      have hk:=Wr S h2 hd' hβ'
      obtain ⟨b2,x2,o2,hb2,hx2,hd2,hs2,hβ2⟩:=wr k ⟨b,x,o,hD b x hb hx hd,hd,hs,hβ⟩ hk
      have:=S.sep b2 b' x2 x' k o2 o' hx2 h2 hd2 hd' hs2 hβ2 hβ'
      subst this
      exact hb' (hids _ hb2)
    · exfalso
      simp [hb] at hβ;simp [hb'] at hβ'
      have h2:=out hb hx
      have h3:=hD b' x' hb' hx' hd'
      have hk:=Wr S h2 hd hβ
      have hnm:¬ ∃ b x o,b ∈ ids∧Al h b=some x∧x.dead=false∧x.sealed=false∧β b=some (k,o):=by
        rintro ⟨b2,x2,o2,hb2,hx2,hd2,hs2,hβ2⟩
        have:=S.sep b b2 x x2 k o o2 h2 hx2 hd hd2 hs hβ hβ2
        subst this
        exact hb (hids _ hb2)
      cases hs':x'.sealed with
      | false=>exact hnm (wr k ⟨b',x',o',h3,hd',hs',hβ'⟩ hk)
      | true =>
        rcases jup _ k (S1.seJ h3 hd' hs' hβ') with hj | hj | hj
        · exact S.unJ h2 hd hs hβ _ hj
        · exact hnm hj
        · omega
    · simp [hb] at hβ;simp [hb'] at hβ'
      exact S.sep b b' x x' k o o' (out hb hx) (out hb' hx') hd hd' hs hβ hβ'
  · intro k hk hm
    exact frame k hk (fun ⟨b,x,o,_,hx,hd,hs,hβ⟩=>hm ⟨b,x,o,hx,hd,hs,hβ⟩)
  · rintro k ⟨b,x,o,hx,hd,hs,hβ⟩ hk
    by_cases hb:b ∈ D
    · simp [hb] at hβ
      obtain ⟨b2,x2,o2,_,hx2,hd2,hs2,hβ2⟩:=wr k ⟨b,x,o,hD b x hb hx hd,hd,hs,hβ⟩ hk
      exact ⟨b2,x2,o2,hx2,hd2,hs2,hβ2⟩
    · simp [hb] at hβ
      exact ⟨b,x,o,out hb hx,hd,hs,hβ⟩
  · rintro o k (hj | hj)
    · exact .inl hj
    · rcases jup o k hj with hj | ⟨b,x,o2,_,hx,hd,hs,hβ⟩ | hj
      · exact .inl hj
      · exact .inr (.inl ⟨b,x,o2,hx,hd,hs,hβ⟩)
      · exact .inr (.inr hj)
end Gx

namespace Gx
open Go
theorem Bsh {l:List Nat}:Bng l=true↔l=[]:=by cases l<;>simp [Bng]
theorem Ajg {α β:Type} {f:α→β}:∀ {l:List α},(l.map f).Nodup→l.Nodup
  | [],_=>List.nodup_nil
  | a::r,h=>by
    rw [List.map_cons,List.nodup_cons] at h
    exact List.nodup_cons.2 ⟨fun hm=>h.1 (List.mem_map.2 ⟨a,hm,rfl⟩),Ajg h.2⟩
theorem Ajh {α:Type} {p:α→Bool}:∀ {l:List α},l.Nodup→(l.filter p).Nodup
  | [],_=>List.nodup_nil
  | a::r,h=>by
    rw [List.nodup_cons] at h
    rw [List.filter_cons]
    split
    · exact List.nodup_cons.2 ⟨fun hm=>h.1 (List.mem_filter.1 hm).1,Ajh h.2⟩
    · exact Ajh h.2
theorem A2v {base:Nat} {l:List Nat} {p:Nat×Nat} (hp:p ∈ Av base l):p.1 ∈ l:=by
  have:p.1 ∈ (Av base l).map (·.1):=List.mem_map.2 ⟨p,hp,rfl⟩
  rw [Is] at this;exact this
theorem Bt8 {σ:Nat→Nat}:∀ {l:List Nat} {a b:Nat},(l.map σ).Nodup→a ∈ l→b ∈ l→σ a=σ b→a=b
  | [],a,b,_,ha,_,_=>by simp at ha
  | i::r,a,b,hn,ha,hb,he=>by
    rw [List.map_cons,List.nodup_cons] at hn
    rcases List.mem_cons.1 ha with h1 | h1<;>rcases List.mem_cons.1 hb with h2 | h2
    · rw [h1,h2]
    · subst h1;exact absurd (List.mem_map.2 ⟨b,h2,he.symm⟩) hn.1
    · subst h2;exact absurd (List.mem_map.2 ⟨a,h1,he⟩) hn.1
    · exact Bt8 hn.2 h1 h2 he
theorem Bwg {E:Env} (hT:Bt6 E.P E.tbl):Aym E:=by
  intro R r k J β h w g d f args vs S hl hh hv
  unfold Bk2 at hh
  obtain ⟨⟨args',im,fz⟩,hp,h1⟩:=ub hh
  simp only at h1
  obtain ⟨hc,h2⟩:=uc h1
  simp only [Bool.and_eq_true] at hc
  obtain ⟨hal,him,hin,hdj,hnd,_⟩:=hc
  generalize hids:Aae g im=ids at *
  generalize hρ:G5 0 (Av 100000 ids)=ρ at *
  have hal:=Aps hal
  have him:=Ng him
  have hdj:=Bt7 hdj
  have hnd:=Sf hnd
  have hg:∀ b ∈ ids,g b=Al h b:=fun b hb=>by obtain ⟨x,hx,_⟩:=hal b hb;rw [hx,hl b x hx]
  rw [Ac7 (g:=Al h) hg] at hin
  have hin:=Ng hin
  rw [Bld (g':=Al h) hg] at h2
  obtain ⟨hA,hB⟩:=Aao (fz:=fz) S hl hp (fun _ h=>h) hv
  have aliveH:∀ b ∈ ids,∃ x,Al h b=some x∧x.dead=false:=fun b hb=>by obtain ⟨x,hx,hd⟩:=hal b hb;exact ⟨x,hl b x hx,hd⟩
  have SJ:SimH (JS J β h fz) (An4 ρ ids β) (sub (Al h) ρ ids) w:=by
    refine (S.ren hnd hin).grow (fun o k hj=>.inl hj) ?_ ?_ ?_
    · rintro o k (hj | ⟨_,b,x,o',_,hx,hd,_,hβ⟩)
      · exact S.jlt o k hj
      · exact Wr S hx hd hβ
    · rintro k (hj | ⟨h0,_⟩)
      · exact .inl (S.jft k hj)
      · cases h0
    · intro c y k o hy hd hs hβ q hj
      obtain ⟨b,x,hb,rfl,hx,rfl⟩:=Lv hnd c y hy
      rw [Fp hnd hb] at hβ
      rcases hj with hj | ⟨_,b',x',o',hb',hx',hd',hs',hβ'⟩
      · exact S.unJ hx hd hs hβ _ hj
      · have:=S.sep b b' x x' k o o' hx hx' hd hd' hs hβ hβ'
        subst this
        exact hdj b hb' hb
  have RJ:Reps (JS J β h fz) (An4 ρ ids β) (sub (Al h) ρ ids) w (Xj ρ args') vs:=Reps.ren hnd (fun b hb=>him b (hB b hb)) hA
  obtain ⟨rv,rh,hF,h3⟩:=Bqc hT h2
  have hcall:=hF _ _ w vs SJ RJ
  obtain ⟨horg,h4⟩:=uc' h3
  obtain ⟨hc2,h5⟩:=uc h4
  simp only [Bool.and_eq_true] at hc2
  obtain ⟨hnal,hn16,hrv,houts,hrin,hσn⟩:=hc2
  generalize hall:Aae (Al rh) (Fm rv++(Av 100000 ids).map (·.2))=all at *
  generalize hnew:all.filter (fun b=>!Hn ((Av 100000 ids).map (·.2)) b)=new at *
  generalize hσ:G5 0 ((Av 100000 ids).map (fun p=>(p.2,p.1))++Av (nid d) new)=σ at *
  have hnal:=Aps hnal
  have hrv:=Ng hrv
  have houts:=Ng houts
  have hrin:=Ng hrin
  have hσn:=Sf hσn
  have hn16:new.length≤16:=by simpa using hn16
  refine ⟨_,_,h5,fun hfree=>Calls.mono hcall ?_⟩
  rintro e w' ⟨vc,J',β',rfl,F,hR⟩
  refine ⟨vc,rfl,?_⟩
  have back:∀ b ∈ ids,σ (ρ b)=b:=by
    intro b hb
    rw [← hσ,Xy,if_pos,← hρ]
    · exact Bet hb
    · rw [List.map_map]
      have:=Ahv (d:=0) (l:=Av 100000 ids) (b:=b) (by rw [Is];exact hb)
      rw [hρ] at this
      exact this
  have ρall:∀ b ∈ ids,ρ b ∈ all:=by
    intro b hb
    refine houts _ ?_
    have:=Ahv (d:=0) (l:=Av 100000 ids) (b:=b) (by rw [Is];exact hb)
    rw [hρ] at this
    exact this
  have σout:∀ c ∈ all,c ∈ (Av 100000 ids).map (·.2)→σ c ∈ ids:=by
    intro c _ hc
    rw [← hσ,Xy,if_pos (by rw [List.map_map];exact hc)]
    have:=Ahv (d:=0) (l:=(Av 100000 ids).map (fun p=>(p.2,p.1))) (b:=c) (by rw [List.map_map];exact hc)
    rw [List.map_map] at this
    have e:(Av 100000 ids).map ((fun x=>x.2)∘fun p=>(p.2,p.1))=ids:=Is
    rw [e] at this
    exact this
  have newmem:∀ c ∈ new,c ∈ all∧c ∉ (Av 100000 ids).map (·.2):=by
    intro c hc
    rw [← hnew] at hc
    obtain ⟨h6,h7⟩:=List.mem_filter.1 hc
    refine ⟨h6,fun hm=>?_⟩
    rw [Jf.2 hm] at h7;simp at h7
  have σnew:∀ c ∈ new,σ c=G5 0 (Av (nid d) new) c:=by
    intro c hc
    rw [← hσ,Xy,if_neg]
    rw [List.map_map];exact (newmem c hc).2
  have allcases:∀ c ∈ all,c ∈ (Av 100000 ids).map (·.2)∨c ∈ new:=by
    intro c hc
    by_cases hm:c ∈ (Av 100000 ids).map (·.2)
    · exact .inl hm
    · refine .inr ?_
      rw [← hnew]
      refine List.mem_filter.2 ⟨hc,?_⟩
      cases hq:Hn ((Av 100000 ids).map (·.2)) c with
      | false=>rfl
      | true=>exact absurd (Jf.1 hq) hm
  generalize hups:((Av 100000 ids).map fun p=>(p.1,(Al rh p.2).map (Afr σ)))++(Av (nid d) new).map (fun p=>(p.2,(Al rh p.1).map (Afr σ)))=ups at *
  have keys:ups.map (·.1)=ids++(Av (nid d) new).map (·.2):=by
    rw [← hups,List.map_append,List.map_map,List.map_map]
    congr 1
    exact Is
  have newFree:∀ c ∈ (Av (nid d) new).map (·.2),Al h c=none:=by
    intro c hc
    refine hfree c (A6h.2 (by rw [keys];exact List.mem_append.2 (.inr hc))) ?_
    have:=Sh hc
    unfold Any
    simp;omega
  have keysN:(ups.map (·.1)).Nodup:=by
    rw [keys,List.nodup_append]
    refine ⟨Ajg hnd,Aap,fun a ha b hb e=>?_⟩
    subst e
    obtain ⟨x,hx,_⟩:=aliveH a ha
    rw [newFree a hb] at hx;cases hx
  have upsOld:∀ b ∈ ids,(b,(Al rh (ρ b)).map (Afr σ)) ∈ ups:=by
    intro b hb
    rw [← hups]
    refine List.mem_append.2 (.inl (List.mem_map.2 ⟨(b,ρ b),?_,rfl⟩))
    rw [← hρ];exact Apt hb
  have upsNew:∀ c ∈ new,(σ c,(Al rh c).map (Afr σ)) ∈ ups:=by
    intro c hc
    rw [← hups]
    refine List.mem_append.2 (.inr (List.mem_map.2 ⟨(c,σ c),?_,rfl⟩))
    rw [σnew c hc];exact Apt hc
  have J0:∃ J0:Bool→Nat→Prop,SimH J0 β' rh w'∧Rep J0 β' rh w' rv vc∧∀ o k,J0 o k→J o k∨Mut (An4 ρ ids β) (sub (Al h) ρ ids) k∨w.heap.size≤k:=by
    cases he:Bng fz with
    | true =>
      have:=Bsh.1 he
      subst this
      refine ⟨J',F.sim,hR,fun o k hj=>?_⟩
      rcases F.jup o k hj with (hj | ⟨_,b,x,o',hb,_⟩) | hj
      · exact .inl hj
      · simp at hb
      · exact .inr hj
    | false =>
      rw [he] at horg
      simp at horg
      refine ⟨fun _=>J' false,F.sim.noOrg horg.2,Rep.noOrg horg.1 hR,fun o k hj=>?_⟩
      rcases F.jup false k hj with (h6 | ⟨h0,_⟩) | h6
      · left
        cases o
        · exact h6
        · exact S.jft k h6
      · cases h0
      · exact .inr h6
  obtain ⟨J0,S0,R0,jup0⟩:=J0
  have S1:=S0.ren hσn hrin
  have R1:=Rep.ren hσn hrv R0
  have M:=Step.merge (J:=J) (J0:=J0) (J1:=J0) (H:=Ak ups h) (D:=ids++(Av (nid d) new).map (·.2)) (ids:=ids) S S1
    (fun b hb=>Ce _ _ _ (by
      cases hi:A5 ups b with
      | false=>rfl
      | true=>exact absurd (by rw [← keys];exact A6h.1 hi) hb))
    (fun b x hb hx hd=>by
      rcases List.mem_append.1 hb with hb | hb
      · rw [Ks keysN (upsOld b hb)] at hx
        cases hq:Al rh (ρ b) with
        | none =>
          rw [hq] at hx;simp at hx
          obtain ⟨y,_,rfl⟩:=hx
          simp [Bsg] at hd
        | some y =>
          rw [hq] at hx;simp at hx;subst hx
          have:=Ac8 (g:=Al rh) hσn (ρ b) y (ρall b hb) hq
          rw [back b hb] at this
          exact this
      · obtain ⟨c, hc, rfl⟩ : ∃ c ∈ new, σ c = b := by
          obtain ⟨p,hp,rfl⟩:=List.mem_map.1 hb
          have hp1:p.1 ∈ new:=A2v hp
          refine ⟨p.1,hp1,?_⟩
          rw [σnew _ hp1]
          have:∀ {base:Nat} {l:List Nat} {p:Nat×Nat},l.Nodup→p ∈ Av base l→G5 0 (Av base l) p.1=p.2:=by
            intro base l
            induction l generalizing base with
            | nil=>intro p _ hp;simp [Av] at hp
            | cons i r ih =>
              intro p hn hp
              rw [List.nodup_cons] at hn
              rw [Av] at hp ⊢
              rw [G5]
              rcases List.mem_cons.1 hp with rfl | hp
              · simp
              · have:p.1 ∈ r:=A2v hp
                rw [Av4 (fun e=>hn.1 (by rw [e];exact this))]
                exact ih hn.2 hp
          refine this ?_ hp
          rw [← hnew]
          exact Ajh (Ajg hσn)
        rw [Ks keysN (upsNew c hc)] at hx
        obtain ⟨y,hy,_⟩:=hnal c hc
        rw [hy] at hx;simp at hx;subst hx
        exact Ac8 (g:=Al rh) hσn c y (newmem c hc).1 hy)
    (fun b x hb=>by
      obtain ⟨c,y,hc,rfl,hy,rfl⟩:=Lv hσn b x hb
      rcases allcases c hc with hm | hm
      · have h6:=σout c hc hm
        have h7:ρ (σ c)=c:=by
          have:(all.map σ).Nodup:=hσn
          have e1:=back (σ c) h6
          have e2:=ρall (σ c) h6
          exact Bt8 this e2 hc e1
        refine ⟨List.mem_append.2 (.inl h6),?_⟩
        rw [Ks keysN (upsOld (σ c) h6),h7,hy];rfl
      · refine ⟨List.mem_append.2 (.inr ?_),?_⟩
        · rw [σnew c hm]
          exact Ahv (by rw [Is];exact hm)
        · rw [Ks keysN (upsNew c hm),hy];rfl)
    (fun b x hb hni hx=>by
      rcases List.mem_append.1 hb with hb | hb
      · exact hni hb
      · rw [newFree b hb] at hx;cases hx)
    (fun b x hb hx=>by
      rw [Ks keysN (upsOld b hb)]
      cases hq:Al rh (ρ b) with
      | none=>exact ⟨Bsg x,⟨by simp [hx],rfl⟩,.inl rfl⟩
      | some y =>
        cases hd:y.dead with
        | true=>have:=F.live _ _ hq;rw [hd] at this;cases this
        | false =>
          have e0:=Ac8 (g:=Al h) hnd b x hb hx
          obtain ⟨⟨e1,em⟩,e2,e3,e4⟩:=F.outs (ρ b) _ y e0 hq hd
          refine ⟨Afr σ y,⟨by simp,em⟩,.inr ?_⟩
          refine ⟨e4,?_,e2,fun hmx=>?_⟩
          · have:=Fp (β:=β') hσn (ρall b hb)
            rw [back b hb] at this
            rw [this,e1]
            exact Fp hnd hb
          · rw [Kr,e3 hmx,Kr])
    (fun b hb=>List.mem_append.2 (.inl hb))
    F.os F.tape F.output F.size
    (fun k hk hm=>F.frame k hk (fun hm'=>hm (Beu hnd hm')))
    (fun k hm hk=>Beu hnd (F.wr k (Bny hσn hm) hk))
    (fun o k hj=>by
      rcases jup0 o k hj with hj | hj | hj
      · exact .inl hj
      · exact .inr (.inl (Beu hnd hj))
      · exact .inr (.inr hj))
    F.sizes
  exact ⟨_,_,M.1,Rep.ext M.2 R1⟩
theorem Aa {P:Program} {muts:Nat→List Bool} {T:List (Nat×Tw)} {hs:Hints} {N f:Nat} {args:List AV} {h:Aj} {res:AV} {h':Aj} (hT:Bt6 P T) (hm:P.follows .mixedOrders=true)
    (hh:Ac P muts T hs N f args h (fun v h'=>some (v,h'))=some (res,h')):FOk P f args h res h':=by
  unfold Ac at hh
  split at hh
  · simp at hh
  · rename_i fn hfn
    split at hh
    · simp at hh
    · rename_i c hc
      simp only at hh
      obtain ⟨hc1,h1⟩:=uc hh
      simp only [Bool.and_eq_true] at hc1
      obtain ⟨hlen,hroot⟩:=hc1
      have hlen:args.length≤fn.ntmps:=by simpa using hlen
      intro J β w vs S hv
      have hvl:vs.length=args.length:=((Cc).1 hv).1
      refine calls_of_wp hfn hc ?_
      have roots:∀ {h:Aj} {b:Nat} {x:Blk},Bdd h=true→Al h b=some x→Bd0 b=true:=by
        intro h
        induction h with
        | nil=>intro b x _ hb;simp [Al] at hb
        | cons p r ih =>
          intro b x hr hb
          obtain ⟨i,y⟩:=p
          rw [Bdd] at hr
          simp at hr
          rw [Al] at hb
          cases hi:Nat.beq i b with
          | true=>have:=Nat.eq_of_beq_eq_true hi;subst this;exact hr.1
          | false=>rw [hi] at hb;exact ih hr.2 (by simpa using hb)
      have sgetI:∀ {args:List AV} {j i:Nat},Ep (Bk4 j args) i=if j≤i then (args[i - j]?).getD .undef else .undef:=by
        intro args
        induction args with
        | nil=>intro j i;simp [Bk4,Ep]
        | cons v r ih =>
          intro j i
          rw [Bk4,Ep]
          cases hi:Nat.beq j i with
          | true=>have:=Nat.eq_of_beq_eq_true hi;subst this;simp
          | false =>
            have:=Xk hi
            simp only [cond_false]
            rw [ih]
            by_cases hji:j+1≤i
            · rw [if_pos hji,if_pos (by omega),show i - j=(i - (j+1))+1 by omega];simp
            · rw [if_neg hji]
              by_cases h2:j≤i
              · omega
              · rw [if_neg h2]
      have I:Inv ⟨J,β,h,w⟩ fn.ntmps J β { s:=Bk4 0 args,h:=h } { tmps:=vs.toArray++Array.replicate (fn.ntmps - vs.toArray.size) undef,defers:=[] } w:=by
        refine ⟨S,⟨fun i v hi=>?_,fun i hi=>?_⟩,?_,rfl,rfl,rfl,rfl,Nat.le_refl _,fun _ _ _=>rfl,fun _ hm _=>hm,fun _ _ hj=>hj,fun _ _ hj=>.inl hj,fun _=>Nat.le_refl _,?_,?_,?_⟩
        · rw [sgetI,if_pos (Nat.zero_le _)]
          by_cases hlt:i<args.length
          · have h2:args[i - 0]?=some args[i]:=by simp [hlt]
            rw [h2]
            have h3:vs[i]?=some v:=by
              rw [Array.getElem?_append_left (by simp;omega)] at hi
              simpa using hi
            exact ((Cc).1 hv).2 i _ _ (by simp [hlt]) h3
          · have h2:args[i - 0]?=none:=by simp;omega
            rw [h2];simp [Rep]
        · simp at hi
          rw [sgetI,if_pos (Nat.zero_le _)]
          have h2:args[i - 0]?=none:=by simp;omega
          rw [h2];rfl
        · simp;omega
        · intro b x0 hb;exact (Bep.1 (roots hroot hb)).2
        · intro b x0 hb;exact (Bep.1 (roots hroot hb)).1
        · intro b x0 x hb hx hd
          change Al h b=some x0 at hb
          change Al h b=some x at hx
          rw [hb] at hx;simp at hx;subst hx
          exact ⟨⟨rfl,rfl⟩,rfl,fun _=>rfl,hd⟩
      have fin : ∀ st' a' w' J' β', Inv ⟨J, β, h, w⟩ fn.ntmps J' β' st' a' w' → Aq { P := P, nt := fn.ntmps, muts := muts, nils := hs.nils, free := hs.free, cob := hs.cob, tbl := T } fn hs.modes (h.map (·.1)) (fun v h' => some (v, h')) st' = some (res, h') →
          a'.defers=[]∧∃ v,(results fn a'.tmps).run P w'=.ok v w'∧∃ vc J' β',Ending.returned v=.returned vc∧FDone ⟨J,β,h,w⟩ J' β' h' w'∧Rep J' β' h' w' res vc:=by
        intro st' a' w' J' β' I' h2
        obtain ⟨res2,h2',vc,J2,β2,h3,h4,h5,h6⟩:=Bjv I' h2
        simp at h3
        obtain ⟨rfl,rfl⟩:=h3
        exact ⟨I'.defers,vc,h4,vc,J2,β2,rfl,h5,h6⟩
      exact Bqb (E:={ P:=P,nt:=fn.ntmps,muts:=muts,nils:=hs.nils,free:=hs.free,cob:=hs.cob,tbl:=T }) (Bwg hT) hm c I h1 fin (fun _ _ _ _ _ _ _ h2=>by simp at h2) fin
end Gx

namespace Gx
open Go
section
variable {R R':Type}
theorem Bsi (E:Env) (ops:Array Oper) (o:Oper) (st:St) (k:St→Foot→Option R) (g:R→Option R'):(Bpm E ops o st k).bind g=Bpm E ops o st fun st f=>(k st f).bind g:=by
  rw [Aui,Aui,Option.bind_assoc]
theorem Bn0 (ops:Array Oper) (o:Oper) (st:St) (k:St→Option R) (g:R→Option R'):(A57 ops o st k).bind g=A57 ops o st fun st=>(k st).bind g:=by
  unfold A57
  split
  · rfl
  · split
    · rfl
    · split
      · rw [Ao]
      · rfl
theorem Bev (E:Env) (ops:Array Oper) (g:R→Option R'):∀ (l:List Oper) (st:St) (tr:List Foot) (k:St→List Foot→Option R),(Bdx E ops l st tr k).bind g=Bdx E ops l st tr fun st tr=>(k st tr).bind g
  | [],st,tr,k=>rfl
  | o::r,st,tr,k=>by
    rw [Bdx,Bdx,Bn0]
    congr 1;funext st
    rw [Bsi]
    congr 1;funext st f
    exact Bev E ops g r st (f::tr) k
theorem Bjy (E:Env) (K roots:List Nat) (ops:Array Oper) (draw:Bool) (st:St) (k:St→Option R) (g:R→Option R'):(Aua E K roots ops draw st k).bind g=Aua E K roots ops draw st fun st=>(k st).bind g:=by
  unfold Aua
  rw [Bev]
  congr 1;funext st tr
  rw [Ao,Option.bind_assoc];rfl
theorem A96 (cn:St→Option St) (b1:(St→Option R)→St→Option R) (b2:(St→Option R')→St→Option R') (g:R→Option R') (hb:∀ k st,(b1 k st).bind g=b2 (fun st=>(k st).bind g) st):∀ n st,(Api cn b1 n st).bind g=Api cn b2 n st
  | 0,st=>rfl
  | n+1,st=>by
    rw [Api,Api,hb]
    congr 1;funext st
    rw [Option.bind_assoc]
    congr 1;funext st
    exact A96 cn b1 b2 g hb n st
theorem Bqg (E:Env) (roots:List Nat) (N:Nat) (g:R→Option R'):∀ (c:Code) (H:Hint) (k:St→Option R) (x:Nat→St→Option R) (r:St→Option R) (st:St),
    (Er E roots N c H k x r st).bind g=Er E roots N c H (fun st=>(k st).bind g) (fun j st=>(x j st).bind g) (fun st=>(r st).bind g) st:=by
  intro c
  induction c with
  | skip=>intro H k x r st;rfl
  | region id ops draw=>intro H k x r st;exact Bjy ..
  | seq a b iha ihb =>
    intro H k x r st
    rw [Er,Er,Ac4,Ac4,iha]
    congr 1;funext st
    exact ihb ..
  | cond c a b iha ihb =>
    intro H k x r st
    rw [Er,Er]
    split
    · rw [Ao,iha,ihb]
      simp only [Option.bind_assoc]
    · rfl
  | block id c ih =>
    intro H k x r st
    rw [Er,Er,ih]
    simp only [Option.bind_assoc,Ao]
  | loop c ih =>
    intro H k x r st
    rw [Er,Er,Option.bind_assoc,Ac4,Ac4]
    congr 1;funext st
    exact A96 _ _ _ g (fun k st=>ih ..) N st
  | exit id=>intro H k x r st;rfl
  | ret=>intro H k x r st;rfl
  | rangeFunc=>intro H k x r st;rfl
  | scope=>intro H k x r st;rfl
  | label=>intro H k x r st;rfl
  | goto=>intro H k x r st;rfl
  | refuse=>intro H k x r st;rfl
theorem Afz (E:Env) (st:St) (g:R→Option R'):∀ (l:List ResultVar) (acc:List AV) (k:List AV→Option R),(Lq E st l acc k).bind g=Lq E st l acc fun l=>(k l).bind g
  | [],acc,k=>rfl
  | .tmp t::r,acc,k=>by rw [Lq,Lq];exact Afz E st g r _ k
  | .cell a t::r,acc,k=>by
    rw [Lq,Lq,Aje,Aje (R:=R'),Option.bind_assoc]
    congr 1;funext v
    exact Afz E st g r _ k
theorem Bjz (E:Env) (fn:Func) (modes:List (Nat×Nat)) (outs:List Nat) (k:AV→Aj→Option R) (g:R→Option R') (st:St):(Aq E fn modes outs k st).bind g=Aq E fn modes outs (fun v h=>(k v h).bind g) st:=by
  unfold Aq
  rw [Afz]
  congr 1;funext l
  rw [Option.bind_assoc]
  congr 1;funext q
  rw [Ao];rfl
theorem Bsj (P:Program) (muts:Nat→List Bool) (T:List (Nat×Tw)) (hs:Hints) (N f:Nat) (args:List AV) (h:Aj) (k:AV→Aj→Option R) :
    Ac P muts T hs N f args h k=(Ac P muts T hs N f args h fun v h=>some (v,h)).bind fun p=>k p.1 p.2:=by
  unfold Ac
  split
  · rfl
  · split
    · rfl
    · simp only
      rw [Ao,Bqg]
      simp only [Bjz]
      rfl
structure Cut (R:Type) where
  c:Code
  H:Hint
  k:St→Option R
  x:Nat→St→Option R
  r:St→Option R
noncomputable def atC (E:Env) (roots:List Nat) (N:Nat):List Nat→Code→Hint→(St→Option R)→(Nat→St→Option R)→(St→Option R)→List (St→Option R)→Cut R
  | [],c,H,k,x,r,_=>⟨c,H,k,x,r⟩
  | d::p,.seq a b,H,k,x,r,ks=>cond (Nat.beq d 0) (atC E roots N p a H.a (Bux H.isJoin fun st=>Er E roots N b H.b k x r st) x r ks) (atC E roots N p b H.b k x r ks)
  | d::p,.cond _ a b,H,k,x,r,ks=>cond (Nat.beq d 0) (atC E roots N p a H.a (fun st=>(R6 E H.live roots st).bind k) x r ks) (atC E roots N p b H.b (fun st=>(R6 E H.live roots st).bind k) x r ks)
  | _::p,.block id c,H,k,x,r,ks=>atC E roots N p c H.a (fun st=>(R6 E H.live roots st).bind k) (fun j st=>cond (Nat.beq j id) ((R6 E H.live roots st).bind k) (x j st)) r ks
  | _::p,.loop c,H,_,x,r,q::ks=>atC E roots N p c H.a (fun st=>(R6 E H.live roots st).bind q) x r ks
  | _::_,c,H,k,x,r,_=>⟨c,H,k,x,r⟩
def Bqh:Code→Code
  | .loop c=>c
  | c=>c
noncomputable def Bq (E:Env) (roots:List Nat) (N:Nat) (q:Cut R) (st:St):Option R:=Er E roots N q.c q.H q.k q.x q.r st
noncomputable def Bm (E:Env) (roots:List Nat) (N:Nat) (q:Cut R) (st:St):Option R:=Bux true (fun st=>Er E roots N q.c q.H q.k q.x q.r st) st
theorem As (E:Env) (roots:List Nat) (N:Nat) (q:Cut R) (st:St):Bm E roots N q st=Bq E roots N q st:=by unfold Bm;rw [Ac4];rfl
noncomputable def Ba (E:Env) (roots:List Nat) (N:Nat) (q:Cut R) (n:Nat) (st:St):Option R:=Api (R6 E q.H.live roots) (fun k st=>Er E roots N (Bqh q.c) q.H.a k q.x q.r st) n st
noncomputable def Bx (E:Env) (roots:List Nat) (N:Nat) (q:Cut R) (n:Nat) (st:St):Option R:=Bux true (Api (R6 E q.H.live roots) (fun k st=>Er E roots N (Bqh q.c) q.H.a k q.x q.r st) n) st
theorem Ar (E:Env) (roots:List Nat) (N:Nat) (q:Cut R) (n:Nat) (st:St):Bx E roots N q n st=Ba E roots N q n st:=by unfold Bx;rw [Ac4];rfl
def By3 (fn:Func):Code:=match fn.body with | some c=>c | none=>.skip
def Byp:List (Nat×List Bool)→Nat→List Bool
  | [],_=>[]
  | (i,l)::r,f=>cond (Nat.beq i f) l (Byp r f)
end
end Gx

namespace Gx
open Go
abbrev LA:=List AV
abbrev hL:Hint:=.leaf
abbrev hR (l:List Nat):Hint:=.node l .leaf .leaf
abbrev hS (a b:Hint):Hint:=.node [] a b
abbrev hN (l:List Nat) (a b:Hint):Hint:=.node l a b
abbrev hJ (a b:Hint):Hint:=.join a b
def Bz0 (P:Program) (muts:Nat→List Bool) (nt:Nat) (hs:Hints) (T:List (Nat×Tw)):Env:={ P,nt,muts,nils:=hs.nils,free:=hs.free,cob:=hs.cob,tbl:=T }
noncomputable def atF {R:Type} (E:Env) (roots:List Nat) (N:Nat) (fn:Func) (hs:Hints) (fin:St→Option R) (p:List Nat) (ks:List (St→Option R)):Cut R:=atC E roots N p (By3 fn) hs.H fin (fun _ _=>none) fin ks
def rdI {R:Type} (kd:IntKind) (c:List AV) (k:Int→Option R):Option R:=(c.head?).bind fun x=>(A9k kd x).bind k
def rdB {R:Type} (c:List AV) (k:Bool→Option R):Option R:=(c.head?).bind fun x=>(asBool x).bind k
def rdL {R:Type} (sz:Nat) (c:List AV) (k:List AV→Nat→Option R):Option R:=(c.head?).bind fun x=>(Bv0 sz x).bind fun p=>k p.1 p.2
def Bsk (k:IntKind) (a b:Int):Int:=k.wrap ((BitVec.ofInt k.bits a &&& BitVec.ofInt k.bits b).toNat:Int)
def Pa (k:IntKind) (a b:Int):Int:=k.wrap ((BitVec.ofInt k.bits a ||| BitVec.ofInt k.bits b).toNat:Int)
theorem twE {R:Type} {P:Program} {muts:Nat→List Bool} {T:List (Nat×Tw)} {hs:Hints} {N f:Nat} {args:List AV} {h:Aj} {k:AV→Aj→Option R} {a:Option R} {b:Option (AV×Aj)} (h1:Ac P muts T hs N f args h k=a) (h2:Ac P muts T hs N f args h (fun v e=>some (v,e))=b):a=b.bind fun p=>k p.1 p.2:=by
  rw [← h1,← h2];exact Bsj ..
abbrev KF (R:Type):=AV→Aj→Option R
end Gx

namespace Gx
open Go Go.Proofs
set_option maxRecDepth 100000
noncomputable section
variable {R:Type}
def muts:Nat→List Bool:=Byp [(13,[true,false,false]),(14,[true,false]),(44,[true]),(66,[false,true,false]),(106,[true,false]),(107,[true,false,false]),(109,[true,false,false,false,false]),(110,[true,false,false,false]),(111,[true,false,false,false]),(119,[false,true]),(120,[false,true,true,true,true,true,true,true,true]),(137,[false,true,true,true,true,true,true,true,true]),(138,[false,true]),(148,[false,true]),(151,[true,false]),(152,[true,false]),(153,[true,false,false,false]),(154,[true,false,false,false,false,false,false,false]),(155,[true,false,false,false,false,false]),(157,[true,false,false]),(158,[true,false,false]),(159,[true,false,false]),(160,[true,false,false]),(161,[true,false,false]),(171,[true]),(185,[true,false,false,false,false,false]),(187,[true,false,false,false,false,false]),(188,[true,false,false]),(203,[true,false]),(206,[false,true,true,true,true,true,true,true,true])]
abbrev mkE:=Bz0 Tryz.prog muts
theorem follows:Tryz.prog.follows .mixedOrders=true:=by kernel_rfl
end
end Gx
