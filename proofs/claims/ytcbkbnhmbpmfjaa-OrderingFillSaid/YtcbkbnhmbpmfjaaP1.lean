/- A part of the proof: what it holds is said by each theorem. -/
import Derived.Laws.Tables
import Derived.Laws.StructEq
import Derived.ChangeKeysEq
import Derived.ProofKit
import Derived.OpenShut
import Derived.ChangeOld
import Derived.Below
import Derived.Lib.LaidTab
import Derived.Test.YtcbkbnhmbpmfjaaProg
import Derived.Test.YtcbkbnhmbpmfjaaP0
set_option linter.unusedVariables false
set_option linter.defProp false
set_option linter.unusedSimpArgs false
namespace Gx
open Go
def Rl (CR:AV→Value→Prop) (c:LA) (cs:List Value):Prop:=c.length=cs.length∧∀ (j:Nat) (x:AV) (u:Value),c[j]?=some x→cs[j]?=some u→CR x u
def PartsRel (CR:AV→Value→Prop):List (Nat×LA)→List (Nat×Value)→Prop
 | [],vs=>vs=[]
 | (i,c)::r,vs=>∃ v vs',vs=(i,v)::vs'∧Rl CR c v.cells.toList∧PartsRel CR r vs'
theorem S_:∀ (vs:List Value) (n off:Nat) (cells:Array Value) (j:Nat),
  ((vs.zipIdx n).foldl (fun (cs:Array Value) (p:Value×Nat)=>cs.setIfInBounds (off+p.2) p.1) cells)[j]?=if off+n≤j∧j<off+n+vs.length∧j<cells.size then vs[j - (off+n)]? else cells[j]?
 | [],n,off,cells,j=>by simp;omega
 | v::r,n,off,cells,j=>by
  rw[List.zipIdx_cons,List.foldl_cons,S_ r (n+1) off]
  simp only[Array.size_setIfInBounds,List.length_cons]
  by_cases h1:j=off+n
  ·subst h1
   rw[if_neg (by omega)]
   by_cases h2:off+n<cells.size
   ·rw[if_pos (by omega)];simp[h2]
   ·rw[if_neg (by omega)];simp[h2]
  ·by_cases h2:off+(n+1)≤j∧j<off+(n+1)+r.length∧j<cells.size
   ·rw[if_pos h2,if_pos (by omega),show j - (off+n)=(j - (off+(n+1)))+1 by omega];simp
   ·rw[if_neg h2,if_neg (by omega),Array.getElem?_setIfInBounds_ne (by omega)]
theorem Yy:∀ (vs:List Value) (n off:Nat) (cells:Array Value),((vs.zipIdx n).foldl (fun (cs:Array Value) (p:Value×Nat)=>cs.setIfInBounds (off+p.2) p.1) cells).size=cells.size
 | [],_,_,_=>rfl
 | v::r,n,off,cells=>by rw[List.zipIdx_cons,List.foldl_cons,Yy r];simp
theorem Pi {CR:AV→Value→Prop} {place:Nat→Option (Nat×Nat)}:∀ {parts:List (Nat×LA)} {vparts:List (Nat×Value)} {c c':LA} {cs:Array Value},PartsRel CR parts vparts→Rl CR c cs.toList →
  G8 place parts c=some c'→∃ cs',Instr.fill place cs vparts=some cs'∧Rl CR c' cs'.toList
 | [],vparts,c,c',cs,hp,hc,hf=>by
  rw[PartsRel] at hp;subst hp
  simp[G8] at hf;subst hf
  exact⟨cs,rfl,hc⟩
 | (i,vs)::r,vparts,c,c',cs,hp,hc,hf=>by
  rw[PartsRel] at hp
  obtain⟨v,vs',rfl,hv,hr⟩:=hp
  rw[G8] at hf
  obtain⟨p,hpl,h1⟩:=ub hf
  obtain⟨hb,h2⟩:=uc h1
  simp at hb
  obtain⟨b1,b2⟩:=hb
  have e1:vs.length=v.cells.size:=by have:=hv.1;simpa using this
  have e2:c.length=cs.size:=by have:=hc.1;simpa using this
  have hle:p.1+vs.length≤c.length:=by omega
  have key:Rl CR (setCells c p.1 vs) (v.cells.zipIdx.foldl (fun (cs:Array Value) (q:Value×Nat)=>cs.setIfInBounds (p.1+q.2) q.1) cs).toList:=by
   have hfold:v.cells.zipIdx.foldl (fun (cs:Array Value) (q:Value×Nat)=>cs.setIfInBounds (p.1+q.2) q.1) cs=(v.cells.toList.zipIdx 0).foldl (fun (cs:Array Value) (q:Value×Nat)=>cs.setIfInBounds (p.1+q.2) q.1) cs:=by
    rw[←Array.foldl_toList];simp
   rw[hfold]
   refine⟨by rw[Hu hle,e2];exact(Yy _ 0 _ _).symm,fun j x u hx hu=>?_⟩
   rw[Ri hle] at hx
   rw[Array.getElem?_toList,S_] at hu
   simp only[Nat.add_zero,Array.length_toList] at hu
   split at hx
   ·rename_i hj
    rw[if_pos (by omega)] at hu
    exact hv.2 _ x u hx hu
   ·rename_i hj
    rw[if_neg (by omega)] at hu
    exact hc.2 j x u hx (by simpa using hu)
  obtain⟨cs',g1,g2⟩:=Pi hr key h2
  refine⟨cs',?_,g2⟩
  rw[Instr.fill,hpl]
  have:¬ (v.cells.size≠p.2||p.1+v.cells.size>cs.size)=true:=by simp;omega
  simp only[this]
  exact g1
section
variable {R:Type} {r:R} {P:Program} {J J':Bool→Nat→Prop} {β:Au} {h:Ai} {w w':World} {g:Aq}
def RepParts (J:Bool→Nat→Prop) (β:Au) (h:Ai) (w:World):List (Nat×AV)→List (Nat×Value)→Prop
 | [],vs=>vs=[]
 | (i,x)::r,vs=>∃ v vs',vs=(i,v)::vs'∧Rep J β h w x v∧RepParts J β h w r vs'
theorem RepParts.ext {β':Au} {h':Ai} (E:Ext J β h w J' β' h' w'):∀ {ps:List (Nat×AV)} {vs:List (Nat×Value)},RepParts J β h w ps vs→RepParts J' β' h' w' ps vs
 | [],_,hr=>hr
 | (i,x)::r,vs,hr=>by
  rw[RepParts] at hr ⊢
  obtain⟨v,vs',e,h1,h2⟩:=hr
  exact⟨v,vs',e,Rep.ext E h1,RepParts.ext E h2⟩
theorem PartsRel.mono {CR CR':AV→Value→Prop} (hm:∀ x u,CR x u→CR' x u):∀ {ps:List (Nat×LA)} {vs:List (Nat×Value)},PartsRel CR ps vs→PartsRel CR' ps vs
 | [],_,hr=>hr
 | (i,c)::r,vs,hr=>by
  rw[PartsRel] at hr ⊢
  obtain⟨v,vs',e,h1,h2⟩:=hr
  exact⟨v,vs',e,⟨h1.1,fun j x u hx hu=>hm _ _ (h1.2 j x u hx hu)⟩,PartsRel.mono hm h2⟩
theorem Kl {J:Nat→Prop} {c:LA} {us:List Value} (hc:RepCs J w c (fun j=>us[j]?) 0) (hl:c.length=us.length):Rl (RepC J w) c us :=
 ⟨hl,fun j x u hx hu=>by
  obtain⟨u',hu',hr⟩:=hc.at hx
  rw[hu] at hu';simp at hu';subst hu';exact hr⟩
theorem Xc {J:Nat→Prop} {c:LA} {us:List Value} (hc:Rl (RepC J w) c us):RepCs J w c (fun j=>us[j]?) 0:=by
 rw[Ay]
 intro j x hx
 have:j<us.length:=by rw[←hc.1];exact(List.getElem?_eq_some_iff.1 hx).1
 exact⟨us[j],by simp[this],hc.2 j x _ hx (List.getElem?_eq_getElem this)⟩
theorem Sm:∀ {ps:List (Nat×AV)} {vs:List (Nat×Value)} {q:List (Nat×LA)} {ups:By} {org:Bool} {J:Bool→Nat→Prop} {h:Ai},SimH J β h w→LooksS g h→O9 g ps=some (q,ups,org)→RepParts J β h w ps vs →
  ∃ J',Step J β h w J' β (Ac ups h) w∧PartsRel (RepC (J' org) w) q vs∧LooksS g (Ac ups h)∧∀ b,Al ups b=true→∃ x,g b=some x
 | [],vs,q,ups,org,J,h,S,hl,hh,hv=>by
  simp[O9] at hh;obtain⟨rfl,rfl,rfl⟩:=hh
  rw[RepParts] at hv
  exact⟨J,Step.refl S,by rw[PartsRel];exact hv,hl,fun b hb=>by simp[Al] at hb⟩
 | (i,x)::r,vs,q,ups,org,J,h,S,hl,hh,hv=>by
  rw[O9] at hh
  obtain⟨⟨c1,u1,o1⟩,hp,h1⟩:=ub hh
  obtain⟨⟨q2,u2,o2⟩,hq,h2⟩:=ub h1
  simp at h2
  obtain⟨rfl,rfl,rfl⟩:=h2
  rw[RepParts] at hv
  obtain⟨v,vs',rfl,hv1,hv2⟩:=hv
  obtain⟨J1,A,hA,hlen,hl1⟩:=Sl S hl hp hv1
  obtain⟨J2,B,hB,hl2,hu2⟩:=Sm A.sim hl1 hq (RepParts.ext A.ext hv2)
  refine⟨J2,by rw[Bg];exact A.trans B (fun _ _ _ _=>Nat.le_refl _),?_,by rw[Bg];exact hl2,fun b hb=>?_⟩
  ·rw[PartsRel]
   refine⟨v,vs',rfl,Kl (RepCs.keep (J:=J1 o1) (w:=w) (fun k hk=>Wk B.sim.jft _ _ k (B.ext.jsub _ k hk)) (fun _ _=>rfl) (fun _=>rfl) hA) hlen,?_⟩
   exact PartsRel.mono (fun x u hx=>RepC.keep (J:=J2 o2) (w:=w) (fun k hk=>FE B.sim.jft _ _ k hk) (fun _ _=>rfl) hx) hB
  ·rw[Ec] at hb
   cases h3:Al u1 b with
   | true=>exact IS hp b h3
   | false=>rw[h3] at hb;exact hu2 b (by simpa using hb)
theorem Pj {place:Nat→Option (Nat×Nat)} {k:LA→O R}:∀ (ps:List (Nat×LA)) (c:LA),ET place ps c k=(G8 place ps c).bind k
 | [],c=>rfl
 | (i,vs)::r,c=>by
  rw[ET,G8,Option.bind_assoc]
  congr 1;funext p
  rw[Pj r]
  cases (Nat.beq vs.length p.2&&Nat.ble (p.1+p.2) c.length)<;>rfl
theorem Yz {d len:Nat} {t:TypeId} {ps:List (Nat×AV)} {vs:List (Nat×Value)} {k:AV→By→O R} (S:SimH J β h w) (hl:Looks g h) (hh:H6 P g d t len ps k=some r) (hv:RepParts J β h w ps vs) :
  ∃ val ups,k val ups=some r∧(UpsFree d h ups→∃ u w',(Instr.buildSlice t len vs.toArray).run P w=.ok u w'∧OpDone J β h w ups val u w'):=by
 unfold H6 at hh
 split at hh
 ·rename_i el hu
  obtain⟨sz,hsz,h1⟩:=ub hh
  obtain⟨zz,hz,h2⟩:=ub h1
  obtain⟨⟨q,u1,o1⟩,hq,h3⟩:=ub h2
  obtain⟨hb,h4⟩:=uc h3
  rw[Pj] at h4
  obtain⟨cells,hc,h5⟩:=ub h4
  simp at hb
  obtain⟨i,z,hi,hiz,rfl,hp,e1,e2⟩:=Hy hz
  have hs':i.size=sz:=by simp[Av,hi] at hsz;exact hsz
  refine⟨_,_,h5,fun hn=>?_⟩
  replace hn:=hn.nid (by simp[Ec,Io,Al])
  obtain⟨J1,A,hA,_,hups⟩:=Sm S hl.s hq hv
  have hz0:=Mq (w:=w) (J:=J1 o1) hp len (len*sz) (by rw[e1,hs'];exact Nat.le_refl _)
  have hz1:Rl (RepC (J1 o1) w) (B6 len (Fj z.cells.toList)) (madeCells z.cells (len*sz)).toList:=by
   refine Kl (RepCs.keep (J:=J1 o1) (w:=w) (fun _ hk=>hk) (fun _ _=>rfl) (fun j=>by simp) hz0) ?_
   rw[Cj,e2,hs',Array.length_toList,size_madeCells]
  obtain⟨cs',f1,f2⟩:=Pi hA hz1 hc
  have hlen:cells.length=len*sz:=by
   have:∀ {ps:List (Nat×LA)} {c c':LA},G8 (fun i=>some (i*sz,sz)) ps c=some c'→c'.length=c.length:=by
    intro ps
    induction ps with
    | nil=>intro c c' hf;simp[G8] at hf;rw[hf]
    | cons p r ih =>
     intro c c' hf
     obtain⟨i,vs⟩:=p
     rw[G8] at hf
     obtain⟨p,hpl,g1⟩:=ub hf
     obtain⟨gb,g2⟩:=uc g1
     simp at gb
     rw[ih g2,Hu (by omega)]
   rw[this hc,Cj,e2,hs']
  have hcs:cs'.size=len*sz:=by have:=f2.1;simp at this;omega
  refine⟨.slice (some ⟨w.heap.size,0,none⟩) len len,w.alloc (.cells cs' el),?_,?_⟩
  ·have f1':Instr.fill (fun i=>some (i*sz,sz)) ((Array.range (len*sz)).map (z.cells[·%z.cells.size]!)) vs=some cs':=f1
   have hnb:¬ (16777216<len*sz):=by omega
   by_cases h0:len*sz=0
   ·have hme:∀ (a:Array Value),(Array.range (len*sz)).map (a[·%a.size]!)=#[]:=fun a=>by rw[h0];simp[Array.range_zero']
    rw[hme] at f1'
    simp[Instr.buildSlice,run_underlying hu,Bz hsz,h0,Array.range_zero',f1',newRow]
   ·simp[Instr.buildSlice,run_underlying hu,Bz hsz,hnb,h0,zeroValue,typeInfo,hi,hiz,f1',newRow]
  ·refine OpDone.after A (Wj (sz:=sz) (fr:=(0,0)) A.sim (SZ hl hups hn) rfl rfl rfl FrTy.un0 hlen (by omega) (Nat.le_refl _) ⟨fun _=>?_,fun hp=>by simp at hp⟩) (Hx _ _)
   have:=Xc f2
   exact RepCs.keep (J:=J1 o1) (w:=w) (fun _ hk=>hk) (fun _ _=>rfl) (fun j=>by simp) this
 ·simp at hh
theorem X1 {t:TypeId} {ps:List (Nat×AV)} {k:AV→O R}:LD P t ps k=(LC P t ps).bind k:=by
 unfold LD LC
 rw[Option.bind_assoc]
 congr 1;funext place
 cases (ps.all fun p=>Q8 p.2) with
 | false=>rfl
 | true =>
  simp only[cond_true]
  cases (ps.any fun p=>Q7 p.2) with
  | true =>
   simp only[cond_true]
   cases (ps.any fun p=>EU p.2) with
   | true =>
    simp only[cond_true]
    rw[Option.bind_assoc]
    congr 1;funext z
    rw[Pj]
    cases G8 place (E6 ps) z<;>rfl
   | false =>
    simp only[cond_false]
    rw[Option.bind_assoc]
    congr 1;funext z
    rw[Pj]
    cases G8 place (Cw ps) z<;>rfl
  | false =>
   simp only[cond_false]
   rw[Option.bind_assoc]
   congr 1;funext z
   rw[Pj]
   cases G8 place (Cw ps) z<;>rfl
theorem V_ {x:AV} {u:Value} (hr:RepC (fun _=>False) w x u):Rep J β h w x u:=by
 have hm:∀ o:Bool,RepC (J o) w x u:=fun o=>RepC.keep (J:=fun _=>False) (w:=w) (fun _ hk=>hk.elim) (fun _ _=>rfl) hr
 cases x
 case imm c n sz t org=>rw[Rep];exact hm org
 case iptr c org=>rw[Rep];exact hm org
 case fn f c =>
  cases c with
  | nil=>rw[RepC] at hr;subst hr;rw[Rep];exact⟨[],by simp,by rw[Reps]⟩
  | cons a l=>simp[RepC] at hr
 all_goals first | (rw[RepC] at hr;rw[Rep];exact hr) | simp[RepC] at hr
theorem AG {d len:Nat} {t:TypeId} {ps:List (Nat×AV)} {vs:List (Nat×Value)} {k:AV→By→O R} (S:SimH J β h w) (hh:Jo P g d t len ps k=some r) (hv:RepParts J β h w ps vs) :
  ∃ val ups,k val ups=some r∧(UpsFree d h ups→∃ u w',(Instr.buildSlice t len vs.toArray).run P w=.ok u w'∧OpDone J β h w ups val u w'):=by
 unfold Jo at hh
 split at hh
 ·rename_i el hu
  obtain⟨sz,hsz,h1⟩:=ub hh
  obtain⟨zz,hz,h2⟩:=ub h1
  obtain⟨hb,h4⟩:=uc h2
  obtain⟨cells,hc,h5⟩:=ub h4
  simp at hb
  obtain⟨rfl,hb,hst⟩:=hb
  obtain⟨i,z,hi,hiz,rfl,hp,e1,e2⟩:=Hy hz
  have hs':i.size=1:=by simp[Av,hi] at hsz;exact hsz
  refine⟨_,_,h5,fun hn=>?_⟩
  replace hn:=hn.nid (by simp[Io,Al])
  have hz0:=Mq (w:=w) (J:=fun _=>False) hp len (len*1) (by rw[e1,hs'];exact Nat.le_refl _)
  have hz1:Rl (fun x u=>Rep J β h w x u∧u.oneCell'=true) (B6 len (Fj z.cells.toList)) (madeCells z.cells (len*1)).toList:=by
   have hl:Rl (RepC (fun _=>False) w) (B6 len (Fj z.cells.toList)) (madeCells z.cells (len*1)).toList:=by
    refine Kl (RepCs.keep (J:=fun _=>False) (w:=w) (fun _ hk=>hk) (fun _ _=>rfl) (fun j=>by simp) hz0) ?_
    rw[Cj,e2,hs',Array.length_toList,size_madeCells]
   exact⟨hl.1,fun j x u hx hu=>⟨V_ (hl.2 j x u hx hu),Yx (hl.2 j x u hx hu)⟩⟩
  have hparts:∀ {ps:List (Nat×AV)} {vs:List (Nat×Value)},Gp g (ps.map (·.2))=true→RepParts J β h w ps vs→PartsRel (fun x u=>Rep J β h w x u∧u.oneCell'=true) (ps.map fun p=>(p.1,[p.2])) vs:=by
   intro ps
   induction ps with
   | nil=>intro vs _ hv;rw[RepParts] at hv;rw[List.map_nil,PartsRel];exact hv
   | cons p r ih =>
    obtain⟨i,x⟩:=p
    intro vs hs hv
    rw[RepParts] at hv
    obtain⟨v,vs',rfl,h1,h2⟩:=hv
    simp[Gp] at hs
    rw[List.map_cons,PartsRel]
    refine⟨v,vs',rfl,?_,ih (by simpa using hs.2) h2⟩
    have ho:=Gt hs.1 h1
    have hcells:v.cells=#[v]:=by cases v<;>simp_all[Value.cells,Value.oneCell']
    rw[hcells]
    refine⟨rfl,fun j y u hy hu=>?_⟩
    cases j with
    | zero=>simp at hy hu;subst hy hu;exact⟨h1,ho⟩
    | succ j=>simp at hy
  obtain⟨cs',f1,f2⟩:=Pi (hparts hst hv) hz1 hc
  have hlen:cells.length=len*1:=by
   have:∀ {ps:List (Nat×LA)} {c c':LA},G8 (fun i=>some (i*1,1)) ps c=some c'→c'.length=c.length:=by
    intro ps
    induction ps with
    | nil=>intro c c' hf;simp[G8] at hf;rw[hf]
    | cons p r ih =>
     intro c c' hf
     obtain⟨i,vs⟩:=p
     rw[G8] at hf
     obtain⟨p,hpl,g1⟩:=ub hf
     obtain⟨gb,g2⟩:=uc g1
     simp at gb
     rw[ih g2,Hu (by omega)]
   rw[this hc,Cj,e2,hs']
  have hcs:cs'.size=len*1:=by have:=f2.1;simp at this;omega
  refine⟨.slice (some ⟨w.heap.size,0,none⟩) len len,w.alloc (.cells cs' el),?_,?_⟩
  ·have f1':Instr.fill (fun i=>some (i*1,1)) ((Array.range (len*1)).map (z.cells[·%z.cells.size]!)) vs=some cs':=f1
   have hnb:¬ (16777216<len*1):=by omega
   by_cases h0:len*1=0
   ·have hme:∀ (a:Array Value),(Array.range (len*1)).map (a[·%a.size]!)=#[]:=fun a=>by rw[h0];simp[Array.range_zero']
    rw[hme] at f1'
    simp only[Nat.mul_one] at h0
    simp[Instr.buildSlice,run_underlying hu,Bz hsz,h0,Array.range_zero',newRow]
    simp at f1'
    simp[f1']
   ·simp only[Nat.mul_one] at f1' h0 hnb
    simp[Instr.buildSlice,run_underlying hu,Bz hsz,hnb,h0,zeroValue,typeInfo,hi,hiz,f1',newRow]
  ·refine Wj (sz:=1) (fr:=(0,0)) S hn rfl rfl rfl FrTy.un0 hlen (by omega) (Nat.le_refl _) ⟨fun hp=>by simp at hp,fun _ j y hj=>?_⟩
   have hlt:j<cs'.size:=by have:=(List.getElem?_eq_some_iff.1 hj).1;simp at this;omega
   have:=f2.2 j y cs'[j] hj (by simp[hlt])
   exact⟨cs'[j],by simp[hlt],this.1,this.2⟩
 ·simp at hh
theorem Km {d:Nat}:∀ {l:List (Nat×Nat)} {j:Nat} {c:LA} {cs:List Value} {β:Au} {h:Ai},SimH J β h w→1≤j→j+l.length≤16→(∀ i,j≤i→i<16→Al (Dc d l j c).2 (nid d+i)=true→Ad h (nid d+i)=none)→Reps J β h w c cs →
  ∃ β',Step J β h w J β' (Ac (Dc d l j c).2 h) w∧Reps J β' (Ac (Dc d l j c).2 h) w (Dc d l j c).1 cs
 | [],j,c,cs,β,h,S,_,_,_,hr=>⟨β,Step.refl S,hr⟩
 | (o,sz)::l,j,c,cs,β,h,S,hj,hl,hf,hr=>by
  rw[Dc] at hf ⊢
  split
  ·rename_i ho
   simp only[ho] at hf
   simp at hl
   have h1:Ad h (nid d+j)=none:=hf j (Nat.le_refl _) (by omega) (by simp[Al])
   have A:=Step.newNone S (d:=nid d+j) (x:=C5 sz) h1 rfl
   have hr1:=Reps.ext A.ext hr
   rw[Bb] at hr1
   have hr2:Reps J (fun b=>if b=nid d+j then none else β b) (Cf h (nid d+j) (C5 sz)) w (c.set o (.own (nid d+j) 0 0)) cs:=by
    rw[Bb]
    refine⟨by rw[hr1.1];simp,fun i y u hy hu=>?_⟩
    by_cases hi:i=o
    ·subst hi
     have hlt:i<c.length:=(List.getElem?_eq_some_iff.1 ho).1
     rw[List.getElem?_set_self hlt] at hy;simp at hy;subst hy
     have h3:=hr1.2 i _ u ho hu
     rw[Rep] at h3;subst h3
     rw[Rep]
     exact⟨C5 sz,none,0,⟨by simp[Aa],rfl⟩,rfl,Nat.le_refl _,.inl rfl⟩
    ·rw[List.getElem?_set_ne (by omega)] at hy
     exact hr1.2 i y u hy hu
   obtain⟨β',B,hB⟩:=Km (d:=d) (l:=l) (j:=j+1) A.sim (by omega) (by omega) (fun i hi hi2 hin=>by
    have:=hf i (by omega) hi2 (by
     rw[Al]
     have:Nat.beq (nid d+j) (nid d+i)=false:=Ph (by omega)
     rw[this];exact hin)
    rw[Aa,if_neg (by omega)];exact this) hr2
   exact⟨β',by simp only[Ac];exact A.trans B (fun _ _ _ _=>Nat.le_refl _),by simp only[Ac];exact hB⟩
  ·rename_i ho
   have e:Dc d ((o,sz)::l) j c=Dc d l (j+1) c:=by
    rw[Dc]
    split
    ·rename_i h2;exact absurd h2 (ho ·)
    ·rfl
   simp at hl
   split at hf
   ·rename_i h2;exact absurd h2 (ho ·)
   ·exact Km S (by omega) (by omega) (fun i hi hi2 hin=>hf i (by omega) hi2 hin) hr
theorem QS {t:TypeId} {co:Bool} {d:Nat} {v:AV} {vc:Value} {k:AV→By→O R} (S:SimH J β h w) (hh:TW P t co d v k=some r) (hv:Rep J β h w v vc) :
  ∃ val ups,k val ups=some r∧(UpsFree d h ups→OpDone J β h w ups val vc w):=by
 unfold TW at hh
 split at hh
 ·rename_i c
  obtain⟨hb,h1⟩:=uc hh
  refine⟨_,_,h1,fun hf=>?_⟩
  rw[Rep] at hv
  obtain⟨cs,rfl,hr⟩:=hv
  obtain⟨β',A,hA⟩:=Km (d:=d) (l:=Ip P t) (j:=1) S (Nat.le_refl _) (by simp at hb;omega) (fun i hi hi2 hin=>hf _ hin (by unfold N0;simp;omega)) hr
  exact⟨J,β',A,by rw[Rep];exact⟨cs,rfl,hA⟩⟩
 ·exact⟨_,_,hh,fun _=>⟨J,β,Step.refl S,hv⟩⟩
theorem BS {x:AV} {v:Value} (hv:Rep J β h w x v) (hp:Q7 x=false) (ho:Q8 x=true):Rl (Rep J β h w) (cellsOf x) v.cells.toList:=by
 have one:v.cells=#[v]→cellsOf x=[x]→Rl (Rep J β h w) (cellsOf x) v.cells.toList:=fun h1 h2=>by
  rw[h1,h2]
  refine⟨rfl,fun j y u hy hu=>?_⟩
  cases j with
  | zero=>simp at hy hu;subst hy hu;exact hv
  | succ j=>simp at hy
 cases x
 case pagg=>simp[Q7] at hp
 case agg c =>
  rw[Rep] at hv
  obtain⟨cs,rfl,h2⟩:=hv
  rw[Bb] at h2
  exact⟨h2.1.symm,h2.2⟩
 case tup c=>simp[Q8] at ho
 case undef=>simp[Q8] at ho
 case omap=>simp[Q8] at ho
 case nd=>simp[Q8] at ho
 case own=>rw[Rep] at hv;obtain⟨_,A,cap,_,rfl,_⟩:=hv;exact one rfl rfl
 case optr=>rw[Rep] at hv;obtain⟨_,kk,o,_,rfl,_⟩:=hv;exact one rfl rfl
 case fn=>rw[Rep] at hv;obtain⟨cs,rfl,_⟩:=hv;exact one rfl rfl
 case imm=>rw[Rep,RepC] at hv;obtain⟨_,A,cap,rfl,_⟩:=hv;exact one rfl rfl
 case iptr=>rw[Rep,RepC] at hv;obtain⟨a,rfl,_⟩:=hv;exact one rfl rfl
 all_goals (rw[Rep] at hv;subst hv;exact one rfl rfl)
theorem KD {x:AV} {v:Value} (hj:∀ k,J false k→J true k) (hv:Rep J β h w x v) (hr:Xx x=false) {o:Bool} (ho:LB x=true→o=true):RepC (J o) w x v:=by
 cases x<;>simp[Xx] at hr
 case imm c n sz t org =>
  rw[Rep] at hv
  refine RepC.keep (J:=J org) (w:=w) (fun k hk=>?_) (fun _ _=>rfl) hv
  cases org
  ·cases o
   ·exact hk
   ·exact hj k hk
  ·rw[ho rfl];exact hk
 case iptr c org =>
  rw[Rep] at hv
  refine RepC.keep (J:=J org) (w:=w) (fun k hk=>?_) (fun _ _=>rfl) hv
  cases org
  ·cases o
   ·exact hk
   ·exact hj k hk
  ·rw[ho rfl];exact hk
 all_goals (rw[Rep] at hv;rw[RepC];exact hv)
theorem LY {x:AV} {v:Value} (hj:∀ k,J false k→J true k) (hv:Rep J β h w x v) (hr:EU x=false) {o:Bool} (ho:BJ x=true→o=true):Rl (RepC (J o) w) (cellsOf x) v.cells.toList:=by
 have one:Xx x=false→cellsOf x=[x]→BJ x=LB x→Rl (RepC (J o) w) (cellsOf x) v.cells.toList:=fun h0 h2 h3=>by
  have hc:=KD (o:=o) hj hv h0 (by rw[←h3];exact ho)
  have h1:v.cells=#[v]:=by have:=Yx hc;cases v<;>simp_all[Value.cells,Value.oneCell']
  rw[h1,h2]
  refine⟨rfl,fun j y u hy hu=>?_⟩
  cases j with
  | zero=>simp at hy hu;subst hy hu;exact hc
  | succ j=>simp at hy
 cases x
 case pagg c org =>
  rw[Rep] at hv
  obtain⟨cs,rfl,h1,h2⟩:=hv
  refine Kl (RepCs.keep (J:=J org) (w:=w) (fun k hk=>?_) (fun _ _=>rfl) (fun j=>by simp[Value.cells]) h2) (by simp[Value.cells,cellsOf,h1])
  cases org
  ·cases o
   ·exact hk
   ·exact hj k hk
  ·rw[ho rfl];exact hk
 case agg c =>
  rw[Rep] at hv
  obtain⟨cs,rfl,h2⟩:=hv
  rw[Bb] at h2
  refine⟨h2.1.symm,fun j y u hy hu=>?_⟩
  simp only[EU,List.any_eq_false] at hr
  have hm:y ∈ c:=List.mem_of_getElem? hy
  have hry:Xx y=false:=by simpa using hr y hm
  refine KD hj (h2.2 j y u hy hu) hry (fun h3=>ho ?_)
  rw[BJ,List.any_eq_true];exact⟨y,hm,h3⟩
 all_goals first | exact one hr rfl rfl | simp[EU,Xx] at hr
theorem UE {o:Bool} {x:AV} {v:Value} (hr:RepC (J o) w x v):Rep J β h w (NM o x) v:=by
 cases x
 case imm=>rw[NM,Rep];rw[RepC] at hr ⊢;exact hr
 case iptr=>rw[NM,Rep];rw[RepC] at hr ⊢;exact hr
 case fn f c =>
  cases c with
  | nil=>rw[RepC] at hr;subst hr;show Rep J β h w (.fn f []) _;rw[Rep];exact⟨[],by simp,by rw[Reps]⟩
  | cons a b=>simp[RepC] at hr
 all_goals first | (rw[RepC] at hr;unfold NM;rw[Rep];exact hr) | (simp[RepC] at hr)
theorem QT {x:AV} {v:Value} (hv:Rep J β h w x v) (ho:Q8 x=true):Rl (Rep J β h w) (EV x) v.cells.toList:=by
 cases hp:Q7 x with
 | false =>
  have:=BS hv hp ho
  cases x<;>first | exact this | simp[Q7] at hp
 | true =>
  cases x<;>simp[Q7] at hp
  rename_i c o
  rw[Rep] at hv
  obtain⟨cs,rfl,h1,h2⟩:=hv
  refine⟨by simp[EV,Value.cells,h1],fun j y u hy hu=>?_⟩
  simp only[EV,List.getElem?_map] at hy
  cases hx:c[j]? with
  | none=>rw[hx] at hy;simp at hy
  | some x0 =>
   rw[hx] at hy;simp at hy;subst hy
   obtain⟨u',hu',hr⟩:=h2.at hx
   simp[Value.cells] at hu
   rw[hu] at hu';simp at hu';subst hu'
   exact UE hr
theorem U4 {CR:AV→Value→Prop}:∀ {ps:List (Nat×AV)} {vs:List (Nat×Value)},RepParts J β h w ps vs→(∀ p ∈ ps,∀ v,Rep J β h w p.2 v→Rl CR (EV p.2) v.cells.toList)→PartsRel CR (E6 ps) vs
 | [],vs,hr,_=>by rw[RepParts] at hr;rw[E6,PartsRel];exact hr
 | (i,x)::r,vs,hr,hp=>by
  rw[RepParts] at hr
  obtain⟨v,vs',rfl,h1,h2⟩:=hr
  rw[E6,PartsRel]
  exact⟨v,vs',rfl,hp (i,x) (by simp) v h1,U4 h2 (fun p hm=>hp p (by simp[hm]))⟩
theorem Ol {CR:AV→Value→Prop}:∀ {ps:List (Nat×AV)} {vs:List (Nat×Value)},RepParts J β h w ps vs→(∀ p ∈ ps,∀ v,Rep J β h w p.2 v→Rl CR (cellsOf p.2) v.cells.toList)→PartsRel CR (Cw ps) vs
 | [],vs,hr,_=>by rw[RepParts] at hr;rw[Cw,PartsRel];exact hr
 | (i,x)::r,vs,hr,hp=>by
  rw[RepParts] at hr
  obtain⟨v,vs',rfl,h1,h2⟩:=hr
  rw[Cw,PartsRel]
  exact⟨v,vs',rfl,hp (i,x) (by simp) v h1,Ol h2 (fun p hm=>hp p (by simp[hm]))⟩
theorem FJ {t:TypeId} {place:Nat→Option (Nat×Nat)} {i:TypeInfo} {z:Value} {vs:List (Nat×Value)} {cs:Array Value} (hp:Ym P t=some place) (hi:P.info? t=some i) (hz:i.zero=some z)
  (hf:Instr.fill place z.cells vs=some cs):P.built t vs=some cs:=by
 unfold Ym at hp
 unfold Program.built
 split at hp
 ·rename_i n e hu
  cases he:P.info? e with
  | none=>simp[he] at hp
  | some ie=>simp[he] at hp;subst hp;simp only[hi,hu,hz,he];exact hf
 ·rename_i fs hu
  cases he:fs.toList.mapM fun f=>(P.info? f.type).map fun i=>(f.offset,i.size) with
  | none=>rw[he] at hp;simp at hp
  | some pl =>
   rw[he] at hp;simp at hp;subst hp
   simp only[hi,hu,hz,he]
   simpa using hf
 ·simp at hp
theorem LZ {t:TypeId} {ps:List (Nat×AV)} {vs:List (Nat×Value)} {v:AV} (S:SimH J β h w) (hh:LC P t ps=some v) (hv:RepParts J β h w ps vs) :
  ∃ u,(Instr.build t vs.toArray).run P w=.ok u w∧Rep J β h w v u:=by
 unfold LC at hh
 obtain⟨place,hpl,h1⟩:=ub hh
 obtain⟨hok,h2⟩:=uc h1
 cases hpg:ps.any (fun p=>Q7 p.2) with
 | true =>
  rw[hpg] at h2
  cases hnr:ps.any (fun p=>EU p.2) with
  | true =>
   rw[hnr] at h2
   obtain⟨zz,hz,h4⟩:=ub h2
   unfold JO at hz
   obtain⟨i,hi,hz⟩:=ub hz
   cases hiz:i.zero with
   | none=>rw[hiz] at hz;simp at hz
   | some z =>
    rw[hiz] at hz;simp at hz;subst hz
    cases hf:G8 place (E6 ps) (Fj z.cells.toList) with
    | none=>rw[hf] at h4;simp at h4
    | some c =>
     rw[hf] at h4;simp at h4;subst h4
     have hparts:PartsRel (Rep J β h w) (E6 ps) vs:=U4 hv (fun p hm u hu=>QT hu (List.all_eq_true.1 hok p hm))
     have hzc:Rl (Rep J β h w) (Fj z.cells.toList) z.cells.toList:=by
      have:=Wg (J:=J) (β:=β) (h:=h) (w:=w) z.cells.toList
      rw[Bb] at this
      exact⟨this.1.symm,this.2⟩
     obtain⟨cs,f1,f2⟩:=Pi hparts hzc hf
     refine⟨.agg cs,run_build w t vs.toArray cs (FJ hpl hi hiz (by simpa using f1)),?_⟩
     rw[Rep]
     exact⟨cs.toList,rfl,Bb.2 ⟨f2.1.symm,f2.2⟩⟩
  | false =>
  rw[hnr] at h2
  have h3:=h2
  obtain⟨zz,hz,h4⟩:=ub h3
  obtain⟨i,z,hi,hiz,rfl,hp,e1,e2⟩:=Hy hz
  cases hf:G8 place (Cw ps) (Fj z.cells.toList) with
  | none=>rw[hf] at h4;simp at h4
  | some c =>
   rw[hf] at h4;simp at h4;subst h4
   have hparts:PartsRel (RepC (J (ps.any fun p=>BJ p.2)) w) (Cw ps) vs:=Ol hv (fun p hm u hu=>LY S.jft hu (by
     have:=List.any_eq_false.1 hnr p hm;simpa using this) (fun ho=>by rw[List.any_eq_true];exact⟨p,hm,ho⟩))
   have hzc:Rl (RepC (J (ps.any fun p=>BJ p.2)) w) (Fj z.cells.toList) z.cells.toList:=by
    refine⟨N3 _,fun j x u hx hu=>?_⟩
    obtain⟨y,g1,g2⟩:=X0 (w:=w) (J:=J (ps.any fun p=>BJ p.2)) hp j u hu
    rw[hx] at g1;simp at g1;subst g1;exact g2
   obtain⟨cs,f1,f2⟩:=Pi hparts hzc hf
   refine⟨.agg cs,run_build w t vs.toArray cs (FJ hpl hi hiz (by simpa using f1)),?_⟩
   rw[Rep]
   exact⟨cs.toList,rfl,f2.1.symm,Xc f2⟩
 | false =>
  rw[hpg] at h2
  obtain⟨zz,hz,h4⟩:=ub h2
  unfold JO at hz
  obtain⟨i,hi,hz⟩:=ub hz
  cases hiz:i.zero with
  | none=>rw[hiz] at hz;simp at hz
  | some z =>
   rw[hiz] at hz;simp at hz;subst hz
   cases hf:G8 place (Cw ps) (Fj z.cells.toList) with
   | none=>rw[hf] at h4;simp at h4
   | some c =>
    rw[hf] at h4;simp at h4;subst h4
    have hparts:PartsRel (Rep J β h w) (Cw ps) vs:=Ol hv (fun p hm u hu=>BS hu (by
      have:=List.any_eq_false.1 hpg p hm;simpa using this) (List.all_eq_true.1 hok p hm))
    have hzc:Rl (Rep J β h w) (Fj z.cells.toList) z.cells.toList:=by
     have:=Wg (J:=J) (β:=β) (h:=h) (w:=w) z.cells.toList
     rw[Bb] at this
     exact⟨this.1.symm,this.2⟩
    obtain⟨cs,f1,f2⟩:=Pi hparts hzc hf
    refine⟨.agg cs,run_build w t vs.toArray cs (FJ hpl hi hiz (by simpa using f1)),?_⟩
    rw[Rep]
    exact⟨cs.toList,rfl,Bb.2 ⟨f2.1.symm,f2.2⟩⟩
end
end Gx

namespace Gx
open Go
section
variable {R:Type} {r:R} {P:Program} {J:Bool→Nat→Prop} {β:Au} {h:Ai} {w:World}
def PRd (n:Nat) (x:LA) (rd:Nat→Option Value):Prop:=∀ j q,j<n→x[j]?=some q →
 (∀ k m,q=.int k m→rd j=some (.int k m))∧(∀ b,q=.bool b→rd j=some (.bool b))∧(∀ s,q=.str s→rd j=some (.string ⟨⟨s⟩⟩))
theorem PRd.drop {n m o:Nat} {x:LA} {xs:Array Value} {ox sz:Nat} (hp:PRd sz x (fun j=>xs[ox+j]?)) (ho:o+m≤sz) (hn:n=m):PRd n (x.drop o) (fun j=>(xs.extract ox (ox+sz))[o+j]?):=by
 subst hn
 intro j q hj hq
 rw[List.getElem?_drop] at hq
 have h1:=hp (o+j) q (by omega) hq
 have e:∀ v,xs[ox+(o+j)]?=some v→(xs.extract ox (ox+sz))[o+j]?=some v:=by
  intro v hv
  have hlt:=(Array.getElem?_eq_some_iff.1 hv).1
  rw[Array.getElem?_extract,if_pos (by omega)];exact hv
 exact⟨fun k m hk=>e _ (h1.1 k m hk),fun b hb=>e _ (h1.2.1 b hb),fun s hs=>e _ (h1.2.2 s hs)⟩
theorem Mg {t:TypeId} {d:TypeDesc} {xs:Array Value} {ox:Nat} {v:Value} (hu:P.underlying t=some d) (hd:d.isRow=false) (hv:xs[ox]?=some v):(part t xs ox).run P w=.ok v w:=by
 unfold part isAgg
 simp only[Sem.run_bind,run_underlying hu,Result.andThen_ok]
 cases d<;>simp_all[TypeDesc.isRow]
theorem Pk {t:TypeId} {d:TypeDesc} {xs:Array Value} {ox s:Nat} (hu:P.underlying t=some d) (hd:d.isRow=true) (hs:Av P t=some s):(part t xs ox).run P w=.ok (.agg (xs.extract ox (ox+s))) w:=by
 unfold part isAgg
 have:=Bz hs w
 simp only[Sem.run_bind,run_underlying hu,Result.andThen_ok]
 cases d<;>simp_all[TypeDesc.isRow]
def QU (P:Program) (w:World) (D:Nat) (step:TypeId→LA→LA→(Bool→O R)→O R):Prop :=
 ∀ (r:R) (t:TypeId) (s:Nat) (x y:LA) (k:Bool→O R) (xs ys:Array Value) (ox oy:Nat),Av P t=some s→0<s→step t x y k=some r→PRd s x (fun j=>xs[ox+j]?)→PRd s y (fun j=>ys[oy+j]?) →
  ∃ b a a',k b=some r∧(part t xs ox).run P w=.ok a w∧(part t ys oy).run P w=.ok a' w∧(Op.equalIn D t a a').run P w=.ok b w
theorem Sn {D:Nat} {step:TypeId→LA→LA→(Bool→O R)→O R} (hs:QU P w D step) {x y:LA} {xs ys:Array Value} {ox oy sz:Nat} (hx:PRd sz x (fun j=>xs[ox+j]?)) (hy:PRd sz y (fun j=>ys[oy+j]?)) :
  ∀ (fs:List Field) {k:Bool→O R},fs.all (KZ P sz)=true→O7 step x y (fs.map fun f=>(f.offset,f.type)) k=some r →
  ∃ b,k b=some r∧(Op.eqFields D (xs.extract ox (ox+sz)) (ys.extract oy (oy+sz)) fs).run P w=.ok b w
 | [],k,_,hh=>⟨true,by simpa[O7] using hh,by simp[Op.eqFields]⟩
 | f::fs,k,ho,hh=>by
  rw[List.all_cons,Bool.and_eq_true] at ho
  obtain⟨hf,ho⟩:=ho
  unfold KZ at hf
  cases hsz:Av P f.type with
  | none=>rw[hsz] at hf;simp at hf
  | some s =>
   rw[hsz] at hf
   simp only[Bool.and_eq_true,Nat.ble_eq] at hf
   obtain⟨h1,h2,h3⟩:=hf
   have hname : f.name ≠ "_" := by simpa using h3
   rw[List.map_cons,O7] at hh
   obtain⟨b,a,a',g1,g2,g3,g4⟩:=hs r f.type s _ _ _ (xs.extract ox (ox+sz)) (ys.extract oy (oy+sz)) f.offset f.offset hsz (by omega) hh (hx.drop h2 rfl) (hy.drop h2 rfl)
   obtain⟨c,e1,e2⟩:=Sn hs hx hy fs ho g1
   refine⟨b&&c,e1,?_⟩
   rw[Op.eqFields,if_pos hname]
   simp only[Sem.run_bind,g2,g3,g4,Result.andThen_ok]
   cases b with
   | false=>simp
   | true=>simpa using e2
theorem U5 {D:Nat} {step:TypeId→LA→LA→(Bool→O R)→O R} (hs:QU P w D step) {x y:LA} {xs ys:Array Value} {ox oy sz:Nat} {e:TypeId} {s:Nat} (hse:Av P e=some s) (hs0:0<s) (hx:PRd sz x (fun j=>xs[ox+j]?)) (hy:PRd sz y (fun j=>ys[oy+j]?)) :
  ∀ (is:List Nat) {k:Bool→O R},(∀ i ∈ is,i*s+s≤sz)→O7 step x y (is.map fun i=>(i*s,e)) k=some r →
  ∃ b,k b=some r∧(Op.eqItems D e s (xs.extract ox (ox+sz)) (ys.extract oy (oy+sz)) is).run P w=.ok b w
 | [],k,_,hh=>⟨true,by simpa[O7] using hh,by simp[Op.eqItems]⟩
 | i::is,k,ho,hh=>by
  have h2:=ho i (by simp)
  rw[List.map_cons,O7] at hh
  obtain⟨b,a,a',g1,g2,g3,g4⟩:=hs r e s _ _ _ (xs.extract ox (ox+sz)) (ys.extract oy (oy+sz)) (i*s) (i*s) hse hs0 hh (hx.drop h2 rfl) (hy.drop h2 rfl)
  obtain⟨c,e1,e2⟩:=U5 hs hse hs0 hx hy is (fun j hj=>ho j (by simp[hj])) g1
  refine⟨b&&c,e1,?_⟩
  rw[Op.eqItems]
  simp only[Sem.run_bind,g2,g3,g4,Result.andThen_ok]
  cases b with
  | false=>simp
  | true=>simpa using e2
theorem X2:∀ (d D:Nat),d≤D→QU P w D (CV (R:=R) P d)
 | 0,D,_=>fun r t s x y k xs ys ox oy hs hs0 hh=>by simp[CV] at hh
 | d+1,D,hD=>fun r t s x y k xs ys ox oy hs hs0 hh hx hy=>by
  obtain⟨D,rfl⟩:∃ D',D=D'+1:=⟨D - 1,by omega⟩
  rw[CV] at hh
  split at hh
  ·rename_i kd hu
   obtain⟨u,hu1,hh⟩:=ub hh
   obtain⟨a,ha,hh⟩:=ub hh
   obtain⟨v,hv1,hh⟩:=ub hh
   obtain⟨b,hb,hh⟩:=ub hh
   have ea:u=.int kd a:=by
    unfold asInt at ha;split at ha
    ·obtain⟨hk,ha'⟩:=uc ha;simp[In] at hk ha';subst hk ha';rfl
    ·simp at ha
   have eb:v=.int kd b:=by
    unfold asInt at hb;split at hb
    ·obtain⟨hk,hb'⟩:=uc hb;simp[In] at hk hb';subst hk hb';rfl
    ·simp at hb
   have px:=(hx 0 u hs0 (by rw[←List.head?_eq_getElem?];exact hu1)).1 kd a ea
   have py:=(hy 0 v hs0 (by rw[←List.head?_eq_getElem?];exact hv1)).1 kd b eb
   exact⟨_,_,_,hh,Mg hu rfl (by simpa using px),Mg hu rfl (by simpa using py),run_equalIn_int w D t kd kd a b hu⟩
  ·rename_i hu
   obtain⟨u,hu1,hh⟩:=ub hh
   obtain⟨a,ha,hh⟩:=ub hh
   obtain⟨v,hv1,hh⟩:=ub hh
   obtain⟨b,hb,hh⟩:=ub hh
   have ea:u=.bool a:=by unfold asBool at ha;split at ha<;>simp_all
   have eb:v=.bool b:=by unfold asBool at hb;split at hb<;>simp_all
   have px:=(hx 0 u hs0 (by rw[←List.head?_eq_getElem?];exact hu1)).2.1 a ea
   have py:=(hy 0 v hs0 (by rw[←List.head?_eq_getElem?];exact hv1)).2.1 b eb
   exact⟨_,_,_,hh,Mg hu rfl (by simpa using px),Mg hu rfl (by simpa using py),run_equalIn_bool' w D t a b hu⟩
  ·rename_i hu
   obtain⟨u,hu1,hh⟩:=ub hh
   obtain⟨a,ha,hh⟩:=ub hh
   obtain⟨v,hv1,hh⟩:=ub hh
   obtain⟨b,hb,hh⟩:=ub hh
   have ea:u=.str a:=by unfold JL at ha;split at ha<;>simp_all
   have eb:v=.str b:=by unfold JL at hb;split at hb<;>simp_all
   have px:=(hx 0 u hs0 (by rw[←List.head?_eq_getElem?];exact hu1)).2.2 a ea
   have py:=(hy 0 v hs0 (by rw[←List.head?_eq_getElem?];exact hv1)).2.2 b eb
   refine⟨_,_,_,hh,Mg hu rfl (by simpa using px),Mg hu rfl (by simpa using py),?_⟩
   have:=run_equalIn_string w D t ⟨⟨a⟩⟩ ⟨⟨b⟩⟩ hu
   rw[this]
   simp[ByteArray.toList_eq]
  ·rename_i fs hu
   obtain⟨sz,hsz,hh⟩:=ub hh
   obtain⟨hc,hh2⟩:=QM hh
   simp only[Bool.or_eq_false_iff,Bool.not_eq_false'] at hc
   rw[hs] at hsz;simp at hsz;subst hsz
   obtain⟨b,h1,h2⟩:=Sn (X2 d D (by omega)) hx hy fs.toList hc.2 hh2
   refine⟨b,_,_,h1,Pk hu rfl hs,Pk hu rfl hs,?_⟩
   have hfo:P.fieldsOf t=fs:=by simp[Program.fieldsOf,hu]
   rw[run_equalIn_struct w D t _ _ (by rw[hfo];exact hu) hc.1,hfo]
   exact h2
  ·rename_i n e hu
   obtain⟨s',hse,hh⟩:=ub hh
   obtain⟨sz,hsz,hh⟩:=ub hh
   obtain⟨hc,hh2⟩:=uc hh
   simp only[Bool.and_eq_true,Nat.ble_eq] at hc
   rw[hs] at hsz;simp at hsz;subst hsz
   obtain⟨b,h1,h2⟩:=U5 (X2 d D (by omega)) hse (by omega) hx hy (List.range n) (fun i hi=>by
    have:=List.mem_range.1 hi
    have h3:(i+1)*s'≤n*s':=Nat.mul_le_mul_right _ this
    rw[Nat.succ_mul] at h3;omega) hh2
   refine⟨b,_,_,h1,Pk hu rfl hs,Pk hu rfl hs,?_⟩
   cases hi:P.info? e with
   | none=>simp[Av,hi] at hse
   | some i =>
    have hcell:P.cellsOf e=s':=by simp[Av,hi] at hse;simp[Program.cellsOf,hi,hse]
    rw[run_equalIn_array w D _ _ hu hi,hcell]
    exact h2
  ·simp at hh
theorem NZ {c:LA} {org:Bool} {v:Value} {a:LA} {x:AV} (hx:K_ x=some a) (hr:Rep J β h w x v):∃ cs:List Value,v=.agg ⟨cs⟩∧cs.length=a.length∧∀ n,PRd n a (fun j=>(⟨cs⟩:Array Value)[0+j]?):=by
 unfold K_ at hx
 split at hx
 ·simp at hx;subst hx
  rw[Rep] at hr
  obtain⟨cs,h1,h2,h3⟩:=hr
  refine⟨cs,h1,h2,fun n j q _ hq=>?_⟩
  rw[Ay] at h3
  obtain⟨u,h4,h5⟩:=h3 j q hq
  simp only[Nat.zero_add] at h4 ⊢
  refine⟨fun k m hk=>?_,fun b hb=>?_,fun s hs=>?_⟩
  ·subst hk;rw[RepC] at h5;subst h5;simpa using h4
  ·subst hb;rw[RepC] at h5;subst h5;simpa using h4
  ·subst hs;rw[RepC] at h5;subst h5;simpa using h4
 ·simp at hx;subst hx
  rw[Rep] at hr
  obtain⟨cs,h1,h2⟩:=hr
  rw[Bb] at h2
  refine⟨cs,h1,h2.1,fun n j q _ hq=>?_⟩
  have hlt:j<cs.length:=by rw[h2.1];exact(List.getElem?_eq_some_iff.1 hq).1
  have h5:=h2.2 j q cs[j] hq (List.getElem?_eq_getElem hlt)
  simp only[Nat.zero_add]
  refine⟨fun k m hk=>?_,fun b hb=>?_,fun s hs=>?_⟩
  ·subst hk;rw[Rep] at h5;simp[hlt,h5]
  ·subst hb;rw[Rep] at h5;simp[hlt,h5]
  ·subst hs;rw[Rep] at h5;simp[hlt,h5]
 ·simp at hx
theorem N_ {op:BinOp} {t:TypeId} {x y:AV} {k:AV→O R} {vx vy:Value} (hh:JM P t op x y k=some r) (hx:Rep J β h w x vx) (hy:Rep J β h w y vy) (ox oy:Operand) :
  ∃ v vc,k v=some r∧(do eqGuard op t ox oy vx vy;binOp op t vx vy:Sem Value).run P w=.ok vc w∧Rep J β h w v vc:=by
 unfold JM at hh
 split at hh
 ·rename_i a b ha hb
  obtain⟨s,hs,hh⟩:=ub hh
  obtain⟨hc,hh⟩:=uc hh
  simp only[Bool.and_eq_true,Nat.ble_eq,Bool.not_eq_true'] at hc
  obtain⟨h1,h2,h3,hrt,h4⟩:=hc
  have h2:=Nat.eq_of_beq_eq_true h2
  have h3:=Nat.eq_of_beq_eq_true h3
  obtain⟨cs,rfl,hl,px⟩:=NZ (c:=[]) (org:=false) ha hx
  obtain⟨cs',rfl,hl',py⟩:=NZ (c:=[]) (org:=false) hb hy
  have hg:=run_eqGuard_agg w op t ox oy ⟨cs⟩ ⟨cs'⟩ h4
  have whole:∀ (l:List Value),l.length=s→(⟨l⟩:Array Value).extract 0 (0+s)=⟨l⟩:=by
   intro l hl;subst hl;simp
  have key:∀ {kk:Bool→O R},CV P 8 t a b kk=some r→∃ c,kk c=some r∧(Op.equal t (.agg ⟨cs⟩) (.agg ⟨cs'⟩)).run P w=.ok c w:=by
   intro kk hk
   obtain⟨c,u,u',e1,e2,e3,e4⟩:=X2 8 10000 (by omega) r t s a b kk ⟨cs⟩ ⟨cs'⟩ 0 0 hs (by omega) hk (px s) (py s)
   refine⟨c,e1,?_⟩
   have hrow:∃ d,P.underlying t=some d∧d.isRow=true:=by
    unfold VI at hrt
    split at hrt
    ·rename_i fs hu;exact⟨_,hu,rfl⟩
    ·rename_i n e hu;exact⟨_,hu,rfl⟩
    ·simp at hrt
   obtain⟨d,hu,hd⟩:=hrow
   rw[Pk hu hd hs,whole cs (by omega)] at e2
   rw[Pk hu hd hs,whole cs' (by omega)] at e3
   simp only[Result.ok.injEq,and_true] at e2 e3
   subst e2 e3
   exact e4
  split at hh
  ·obtain⟨c,e1,e2⟩:=key hh
   refine⟨_,.bool c,e1,?_,by rw[Rep]⟩
   simp only[Sem.run_bind,hg,Result.andThen_ok,binOp,e2,Sem.run_pure]
  ·obtain⟨c,e1,e2⟩:=key hh
   refine⟨_,.bool (!c),e1,?_,by rw[Rep]⟩
   simp only[Sem.run_bind,hg,Result.andThen_ok,binOp,e2,Sem.run_pure]
  ·simp at hh
 ·exact QL hh hx hy ox oy
theorem N' {t:TypeId} {x y:AV} {b:Bool} {vx vy:Value} {g:Aq} (S:SimH J β h w) (hl:Looks g h) (he:VQ g x y=some b) (ht:QG P t=true) (hx:Rep J β h w x vx) (hy:Rep J β h w y vy) :
  ∃ p q,vx=.pointer p∧vy=.pointer q∧(Op.equal t (.pointer p) (.pointer q)).run P w=.ok b w:=by
 unfold QG at ht
 split at ht
 ·rename_i e hu
  split at ht
  ·rename_i n hn
   have hn0:n≠0:=fun e=>by subst e;simp at ht
   have hu:=run_underlying (w:=w) hu
   have hs:(Go.sizeOf e).run P w=.ok n w:=Bz hn w
   have nn:∀ q:Option Addr,(Op.equal t (.pointer none) (.pointer q)).run P w=.ok q.isNone w:=fun q=>by
    unfold Op.equal Op.maxDepth Op.equalIn;simp[hu]
   have nn':∀ a:Addr,(Op.equal t (.pointer (some a)) (.pointer none)).run P w=.ok false w:=fun q=>by
    unfold Op.equal Op.maxDepth Op.equalIn;simp[hu]
   unfold VQ at he
   split at he
   ·simp only[Rep] at hx hy;subst hx hy;simp at he;subst he;exact⟨_,_,rfl,rfl,nn none⟩
   ·simp only[Rep] at hx hy;obtain⟨_,k,o,_,rfl,_⟩:=hy;subst hx;simp at he;subst he;exact⟨_,_,rfl,rfl,nn (some _)⟩
   ·simp only[Rep] at hx hy;obtain⟨_,k,o,_,rfl,_⟩:=hx;subst hy;simp at he;subst he;exact⟨_,_,rfl,rfl,nn' _⟩
   ·simp only[Rep] at hx hy;rw[RepC] at hy;obtain⟨a,rfl,_⟩:=hy;subst hx;simp at he;subst he;exact⟨_,_,rfl,rfl,nn (some _)⟩
   ·simp only[Rep] at hx hy;rw[RepC] at hx;obtain⟨a,rfl,_⟩:=hx;subst hy;simp at he;subst he;exact⟨_,_,rfl,rfl,nn' _⟩
   ·rename_i b1 o1 b2 o2
    obtain⟨z,hz,he⟩:=ub he
    obtain⟨hb,he⟩:=uc he
    have hb:=Nat.eq_of_beq_eq_true hb
    subst hb
    obtain⟨hz1,hz2⟩:=A4 hl hz
    rw[Rep] at hx hy
    obtain⟨x1,k1,p1,⟨g1,_⟩,rfl,h1⟩:=hx
    obtain⟨x2,k2,p2,⟨g2,_⟩,rfl,h2⟩:=hy
    rw[hz1] at g1 g2;simp at g1 g2;subst g1 g2
    rcases h1 with h1 | h1
    ·rw[h1] at hz2;cases hz2
    ·rcases h2 with h2 | h2
     ·rw[h2] at hz2;cases hz2
     ·rw[h1] at h2;simp at h2;obtain⟨rfl,rfl⟩:=h2
      refine⟨_,_,rfl,rfl,?_⟩
      simp at he
      unfold Op.equal Op.maxDepth Op.equalIn
      simp[hu,hs,hn0,sameAddr]
      by_cases e:o1=o2
      ·subst e;simp at he;simp[he]
      ·rw[Ph e] at he;subst he;simp;exact e
   ·cases he
  ·cases ht
 ·cases ht
theorem OA {g:Aq} {op:BinOp} {t:TypeId} {x y:AV} {k:AV→O R} {vx vy:Value} (S:SimH J β h w) (hl:Looks g h) (hh:JX P g t op x y k=some r) (hx:Rep J β h w x vx) (hy:Rep J β h w y vy) (ox oy:Operand) :
  ∃ v vc,k v=some r∧(do eqGuard op t ox oy vx vy;binOp op t vx vy:Sem Value).run P w=.ok vc w∧Rep J β h w v vc:=by
 unfold JX at hh
 split at hh
 ·rename_i b he
  obtain⟨ht,hh⟩:=uc hh
  obtain⟨p,q,rfl,rfl,h1⟩:=N' S hl he ht hx hy
  split at hh
  ·refine⟨_,.bool b,hh,?_,by rw[Rep]⟩
   simp[eqGuard,binOp,h1]
  ·refine⟨_,.bool (!b),hh,?_,by rw[Rep]⟩
   simp[eqGuard,binOp,h1]
  ·cases hh
 ·exact N_ hh hx hy ox oy
end
end Gx

namespace Gx
open Go Go.MapKept
section
variable {R:Type} {r:R} {P:Program} {J:Bool→Nat→Prop} {β:Au} {h:Ai} {w:World} {g:Aq}
theorem Jt:∀ (l:List Int) (n:Int),Ww (l.map fun m=>.int .i64 m) n=true↔n ∈ l
 | [],n=>by simp[Ww]
 | m::r,n=>by
  rw[List.map_cons,Ww]
  by_cases e:n=m
  ·simp[e]
  ·simp[e,Jt r n]
theorem Pl {c:LA} {es:Array MapEntry} {l:List Int} (hl:es.toList.map (fun e=>(e.key,e.val))=l.map (fun n=>((.int .i64 n:Value),(.bool true:Value)))) {x:MapEntry} (hx:x ∈ es.toList):∃ n,n ∈ l∧x.key=.int .i64 n∧x.val=.bool true:=by
 have:=List.mem_map_of_mem (f:=fun e:MapEntry=>(e.key,e.val)) hx
 rw[hl] at this
 obtain⟨n,hn,he⟩:=List.mem_map.1 this
 simp at he
 exact⟨n,hn,he.1.symm,he.2.symm⟩
theorem OB {es:Array MapEntry} {l:List Int} (hl:es.toList.map (fun e=>(e.key,e.val))=l.map (fun n=>((.int .i64 n:Value),(.bool true:Value)))) {n:Int} (hn:n ∈ l):∃ x ∈ es.toList,x.key=.int .i64 n:=by
 have:=List.mem_map_of_mem (f:=fun n:Int=>((.int .i64 n:Value),(.bool true:Value))) hn
 rw[←hl] at this
 obtain⟨x,hx,he⟩:=List.mem_map.1 this
 simp at he
 exact⟨x,hx,he.1⟩
theorem Y0 {c:LA} {es:Array MapEntry} {clk:Nat} (hm:Xz c es clk) (n:Int) :
  (Ww c n=false∧Instr.findNow (.int .i64) (.int .i64 n) es.toList 0=some none) ∨
  (Ww c n=true∧∃ j e,Instr.findNow (.int .i64) (.int .i64 n) es.toList 0=some (some (j,.bool true))∧es[j]?=some e∧e.key=.int .i64 n∧e.val=.bool true):=by
 obtain⟨⟨l,rfl,hl⟩,_⟩:=hm
 have hks:∀ x ∈ es.toList,IsKey (.int .i64) x.key:=fun x hx=>by
  obtain⟨m,_,h1,_⟩:=Pl (c:=[]) hl hx
  rw[h1];simp[IsKey]
 rcases findNow_spec (d:=.int .i64) (k:=.int .i64 n) (by simp[IsKey]) es.toList 0 hks with⟨h1,h2⟩ | ⟨j,e,h1,h2,h3⟩
 ·left
  refine⟨?_,h1⟩
  cases hb:Ww (l.map fun m=>.int .i64 m) n with
  | false=>rfl
  | true =>
   obtain⟨x,hx,hk⟩:=OB hl ((Jt l n).1 hb)
   exact absurd hk (h2 x hx)
 ·right
  have hmem:e ∈ es.toList:=List.mem_of_getElem? h2
  obtain⟨m,hm1,hm2,hm3⟩:=Pl (c:=[]) hl hmem
  rw[h3] at hm2;simp at hm2;subst hm2
  refine⟨(Jt l n).2 hm1,j,e,?_,by simpa using h2,h3,hm3⟩
  rw[h1,hm3,Nat.zero_add]
theorem Rm {t:TypeId} (hs:Jr P t=true):∃ kt et,P.underlying t=some (.map kt et)∧P.underlying kt=some (.int .i64)∧∀ w,(zeroValue et).run P w=.ok (.bool false) w:=by
 unfold Jr at hs
 split at hs
 ·rename_i kt et hu
  simp only[Bool.and_eq_true] at hs
  obtain⟨h1,h2⟩:=hs
  refine⟨kt,et,hu,?_,fun w=>?_⟩
  ·split at h1
   ·assumption
   ·cases h1
  ·split at h2
   ·rename_i hz
    unfold ER at hz
    cases hi:P.info? et with
    | none=>rw[hi] at hz;simp at hz
    | some i =>
     rw[hi] at hz
     cases hzz:i.zero with
     | none=>simp[hzz] at hz
     | some z =>
      simp[hzz] at hz
      have:z=.bool false:=by
       have h0:=Re (J:=fun _ _=>False) (β:=fun _=>none) (h:=[]) (w:=w) z
       rw[hz,Rep] at h0;exact h0
      subst this
      simp[zeroValue,typeInfo,hi,hzz]
   ·cases h2
 ·cases hs
theorem V' {b:Nat} {x:Blk} {v:Value} (S:SimH J β h w) (hb:Ad h b=some x) (hd:x.dead=false) (hr:Rep J β h w (.omap b) v) :
  ∃ k ob,x.mp=true∧β b=some (k,0)∧v=NQ x.sz k∧w.heap[k]?=some ob∧ObjIs x ob∧x.sealed=false∧x.pure=true:=by
 rw[Rep] at hr
 obtain⟨y,k,⟨hy,hm⟩,hr⟩:=hr
 rw[hb] at hy;simp at hy;subst hy
 rcases hr with hr | ⟨hn,hβ,hv⟩
 ·simp[hd] at hr
 ·obtain⟨h1,h2,_,h3⟩:=S.mblk b x hb hd hm
  rcases h3 with⟨k',ob,_,h3,h4,h5⟩ | ⟨_,_,h3,_⟩
  ·rw[hβ] at h3;simp at h3;subst h3
   exact⟨k,ob,hm,hβ,hv,h4,h5,h2,h1⟩
  ·rw[hn] at h3;cases h3
theorem TA {b:Nat} {x:Blk} {v:Value} (S:SimH J β h w) (hb:Ad h b=some x) (hd:x.dead=false) (hz:x.sz=0) (hr:Rep J β h w (.omap b) v) :
  ∃ k es clk,x.mp=true∧β b=some (k,0)∧v=.map (some k)∧w.heap[k]?=some (.map es clk)∧Xz x.cells es clk∧x.sealed=false∧x.pure=true:=by
 obtain⟨k,ob,h1,h2,h3,h4,h5,h6,h7⟩:=V' S hb hd hr
 rw[hz] at h3
 rcases h5 with⟨_,es,clk,rfl,h5⟩ | ⟨h5,_⟩
 ·exact⟨k,es,clk,h1,h2,h3,h4,h5,h6,h7⟩
 ·omega
theorem XV {b:Nat} {x:Blk} {v:Value} (S:SimH J β h w) (hb:Ad h b=some x) (hd:x.dead=false) (hz:x.sz=1) (hr:Rep J β h w (.omap b) v) :
  ∃ k s pos,x.mp=true∧β b=some (k,0)∧v=.pointer (some ⟨k,0,none⟩)∧w.heap[k]?=some (.stringIter ⟨⟨s⟩⟩ pos)∧x.cells=[.str s,.int .i64 ((pos:Nat):Int)]∧x.sealed=false∧x.pure=true:=by
 obtain⟨k,ob,h1,h2,h3,h4,h5,h6,h7⟩:=V' S hb hd hr
 rw[hz] at h3
 rcases h5 with⟨h5,_⟩ | ⟨_,s,pos,rfl,h5⟩
 ·omega
 ·exact⟨k,s,pos,h1,h2,h3,h4,h5,h6,h7⟩
theorem So {k pos:Nat} {s:ByteArray} (hk:w.heap[k]?=some (.stringIter s pos)):(getObj k).run P w=.ok (.stringIter s pos) w:=by
 simp[getObj,Sem.run,hk]
theorem CW {k pos:Nat} {s:ByteArray} (ob:Obj) (hk:w.heap[k]?=some (.stringIter s pos)):(setObj k ob).run P w=.ok () { w with heap:=w.heap.setIfInBounds k ob }:=by
 simp[setObj,Sem.run,hk]
theorem L_ {d:Nat} {t:TypeId} {x:AV} {vx:Value} {k:AV→By→O R} (S:SimH J β h w) (hh:Z7 P d t x k=some r) (hx:Rep J β h w x vx) :
  ∃ val ups,k val ups=some r∧(UpsFree d h ups→∃ vc w',(Instr.range t vx).run P w=.ok vc w'∧OpDone J β h w ups val vc w'):=by
 unfold Z7 at hh
 split at hh
 ·rename_i s hu
  rw[Rep] at hx;subst hx
  refine⟨_,_,hh,fun hf=>⟨.pointer (some ⟨w.heap.size,0,none⟩),w.alloc (.stringIter ⟨⟨s⟩⟩ 0),?_,?_⟩⟩
  ·simp only[Instr.range,Sem.run_bind,run_underlying hu,Result.andThen_ok,Sem.run_pure];rfl
  have A:=Step.newObj (x:={ dead:=false,sealed:=false,pure:=true,taint:=false,sz:=1,cells:=[.str s,.int .i64 0],mp:=true }) (ob:=.stringIter ⟨⟨s⟩⟩ 0) S (hf.nid (by simp[Al])) rfl rfl rfl (.inr ⟨rfl,s,0,rfl,rfl⟩) rfl rfl
  refine⟨_,_,A,?_⟩
  rw[Rep]
  exact⟨{ dead:=false,sealed:=false,pure:=true,taint:=false,sz:=1,cells:=[.str s,.int .i64 0],mp:=true },w.heap.size,⟨by simp[Ac,Aa],rfl⟩,.inr ⟨rfl,by simp,rfl⟩⟩
 ·simp at hh
theorem OC {d:Nat} {t:TypeId} {it:AV} {b:Bool} {vi:Value} {k:AV→By→O R} (S:SimH J β h w) (hl:Looks g h) (hh:JW g it b k=some r) (hi:Rep J β h w it vi) :
  ∃ val ups,k val ups=some r∧(UpsFree d h ups→∃ vc w',(Instr.next vi b t).run P w=.ok vc w'∧OpDone J β h w ups val vc w'):=by
 unfold JW at hh
 split at hh
 ·rename_i b0
  obtain⟨x,hx,h1⟩:=ub hh
  obtain⟨hc,h2⟩:=uc h1
  simp only[Bool.and_eq_true] at hc
  obtain⟨hmp,hz⟩:=hc
  have hz:=Nat.eq_of_beq_eq_true hz
  obtain⟨hb,hd⟩:=A4 hl hx
  obtain⟨kk,s,pos,_,hβ,rfl,hk,hcl,hsl,hpu⟩:=XV S hb hd hz hi
  rw[hcl] at h2
  simp only at h2
  have hlt:=Lx hk
  cases hp:decide (((pos:Nat):Int)<(s.length:Int)) with
  | true =>
   rw[hp] at h2
   have hp:pos<s.length:=by have:=of_decide_eq_true hp;omega
   have hp':pos<(⟨⟨s⟩⟩:ByteArray).size:=hp
   refine⟨_,_,h2,fun _=>⟨.tuple #[.bool true,goInt pos,.int .i32 ((TX s pos).1:Nat)],{ w with heap:=w.heap.setIfInBounds kk (.stringIter ⟨⟨s⟩⟩ (pos+(TX s pos).2)) },?_,J,β,?_,?_⟩⟩
   ·simp[Instr.next,So hk,hp',CW _ hk,TX]
   ·show Step J β h w J β (Cf h b0 _) _
    refine Step.setObj (ob:=.stringIter ⟨⟨s⟩⟩ pos) S hb hd hmp hβ hk (by simp[hlt]) (fun j hj=>by simp[Array.getElem?_setIfInBounds,Ne.symm hj]) (by simp) rfl rfl rfl (.inr ⟨hz,s,pos+(TX s pos).2,rfl,by simp⟩) hd hsl hpu rfl hmp (by unfold Ak;rw[hz];cases x.mp<;>rfl)
   ·rw[Rep]
    refine⟨_,rfl,?_⟩
    simp[Reps,Rep,goInt]
  | false =>
   rw[hp] at h2
   have hp:¬ pos<s.length:=by have:=of_decide_eq_false hp;omega
   have hp':¬ pos<(⟨⟨s⟩⟩:ByteArray).size:=hp
   refine⟨_,_,h2,fun _=>⟨.tuple #[.bool false],w,?_,J,β,Step.refl S,?_⟩⟩
   ·simp[Instr.next,So hk,hp']
   ·rw[Rep]
    refine⟨_,rfl,?_⟩
    simp[Reps,Rep]
 ·simp at hh
theorem FK {d:Nat} {t:TypeId} {k:AV→By→O R} (S:SimH J β h w) (hh:Ml d none k=some r) :
  ∃ val ups,k val ups=some r∧(UpsFree d h ups→∃ vc w',(Instr.makeMap t none).run P w=.ok vc w'∧OpDone J β h w ups val vc w'):=by
 unfold Ml at hh
 refine⟨_,_,hh,fun hf=>⟨.map (some w.heap.size),w.alloc (.map #[] 0),rfl,?_⟩⟩
 have A:=Step.newObj (x:={ dead:=false,sealed:=false,pure:=true,taint:=false,sz:=0,cells:=[],mp:=true }) (ob:=.map #[] 0) S (hf.nid (by simp[Al])) rfl rfl rfl (.inl ⟨rfl,#[],0,rfl,⟨[],rfl,by simp⟩,stamped_empty 0⟩) rfl rfl
 refine⟨_,_,A,?_⟩
 rw[Rep]
 exact⟨{ dead:=false,sealed:=false,pure:=true,taint:=false,sz:=0,cells:=[],mp:=true },w.heap.size,⟨by simp[Ac,Aa],rfl⟩,.inr ⟨rfl,by simp,rfl⟩⟩
theorem OD {t:TypeId} {kk clk:Nat} {es:Array MapEntry} {c:LA} (hs:Jr P t=true) (hk:w.heap[kk]?=some (.map es clk)) (hr:Xz c es clk) (n:Int) :
  (Instr.lookup t (.map (some kk)) (.int .i64 n) false).run P w=.ok (.bool (Ww c n)) w:=by
 obtain⟨kt,et,u1,u2,u3⟩:=Rm hs
 have hik:IsKey (.int .i64) (.int .i64 n):=by simp[IsKey]
 rcases Y0 hr n with⟨g1,g2⟩ | ⟨g1,j,e,g2,_,_,_⟩
 ·rw[g1]
  simp[Instr.lookup,run_underlying u1,run_getObj_map hk,run_checkKey u2 hik,run_findKey u2 g2,u3,Result.andThen]
 ·rw[g1]
  simp[Instr.lookup,run_underlying u1,run_getObj_map hk,run_checkKey u2 hik,run_findKey u2 g2,Result.andThen]
theorem WA {t:TypeId} {kk clk:Nat} {es:Array MapEntry} {c:LA} (hs:Jr P t=true) (hk:w.heap[kk]?=some (.map es clk)) (hr:Xz c es clk) (n:Int) :
  ∃ es' clk',(Instr.mapUpdate t (.map (some kk)) (.int .i64 n) (.bool true)).run P w=.ok () { w with heap:=w.heap.setIfInBounds kk (.map es' clk') }∧Xz (Q9 c n) es' clk':=by
 obtain⟨kt,et,u1,u2,u3⟩:=Rm hs
 have hik:IsKey (.int .i64) (.int .i64 n):=by simp[IsKey]
 rcases Y0 hr n with⟨g1,g2⟩ | ⟨g1,j,e,g2,g3,g4,g5⟩
 ·refine⟨es.push { key:=.int .i64 n,val:=.bool true,born:=clk },clk+1,?_,?_⟩
  ·simp[Instr.mapUpdate,run_underlying u1,run_getObj_map hk,run_checkKey u2 hik,run_findKey u2 g2,run_setObj_map _ hk,Result.andThen]
  ·obtain⟨⟨l,hl1,hl2⟩,hst⟩:=hr
   refine⟨⟨l++[n],?_,?_⟩,stamped_push hst (fun x hx e=>?_)⟩
   ·unfold Q9;rw[g1,hl1];simp
   ·simp[hl2]
   ·obtain⟨m,hm,hm1,_⟩:=Pl (c:=[]) hl2 hx
    rw[hm1] at e;simp at e;subst e
    rw[hl1] at g1
    rw[(Jt l m).2 hm] at g1;cases g1
 ·refine⟨es.modify j fun e=>{ e with key:=.int .i64 n,val:=.bool true },clk,?_,?_⟩
  ·simp[Instr.mapUpdate,run_underlying u1,run_getObj_map hk,run_checkKey u2 hik,run_findKey u2 g2,g3,g4,run_keyThatStays hik,run_setObj_map _ hk,Result.andThen]
  ·have:es.modify j (fun e=>{ e with key:=.int .i64 n,val:=.bool true })=es:=by
    apply Array.ext_getElem?
    intro i
    rw[Array.getElem?_modify]
    split
    ·rename_i hij;subst hij
     rw[g3];simp;rw[←g4,←g5]
    ·rfl
   rw[this]
   obtain⟨⟨l,hl1,hl2⟩,hst⟩:=hr
   refine⟨⟨l,?_,hl2⟩,hst⟩
   unfold Q9;rw[g1,hl1];rfl
theorem Wl:∀ (l:List Int) (n:Int),EW (l.map fun m=>.int .i64 m) n=(l.erase n).map fun m=>.int .i64 m
 | [],n=>by simp[EW]
 | m::r,n=>by
  rw[List.map_cons,EW,List.erase_cons]
  by_cases e:n=m
  ·subst e;simp
  ·have e2:(n==m)=false:=by simpa using e
   have e3:(m==n)=false:=by simpa using Ne.symm e
   rw[e2,e3,cond_false,Wl r n];simp
theorem KE:∀ (l:List Int) (j:Nat) (n:Int),l.Nodup→l[j]?=some n→l.erase n=l.eraseIdx j
 | [],j,n,_,h=>by simp at h
 | m::r,0,n,_,h=>by simp at h;subst h;simp
 | m::r,j+1,n,hn,h=>by
  simp at h
  rw[List.nodup_cons] at hn
  have e:m≠n:=fun e=>by subst e;exact hn.1 (List.mem_of_getElem? h)
  have e3:(m==n)=false:=by simpa using e
  rw[List.erase_cons,e3,List.eraseIdx_cons_succ,KE r j n hn.2 h];simp
theorem Xd {α:Type}:∀ (l:List α) (j:Nat),l.length≤j→l.eraseIdx j=l
 | [],j,_=>by simp
 | a::r,0,h=>by simp at h
 | a::r,j+1,h=>by rw[List.eraseIdx_cons_succ,Xd r j (by simpa using h)]
theorem Om {α β:Type} (f:α→β):∀ (l:List α) (j:Nat),(l.eraseIdx j).map f=(l.map f).eraseIdx j
 | [],j=>by simp
 | a::r,0=>by simp
 | a::r,j+1=>by simp[Om f r j]
theorem IT {es:Array MapEntry} (j:Nat):(es.eraseIdxIfInBounds j).toList=es.toList.eraseIdx j:=by
 unfold Array.eraseIdxIfInBounds
 split
 ·simp only[Array.toList_eraseIdx]
 ·rename_i h;rw[Xd _ _ (by simpa using h)]
theorem XW {t kt' ty:TypeId} {kk clk:Nat} {es:Array MapEntry} {c:LA} (hs:Jr P t=true) (hk:w.heap[kk]?=some (.map es clk)) (hr:Xz c es clk) (n:Int) :
  ∃ es' clk',(Builtin.delete_ #[t,kt'] ty #[.map (some kk),.int .i64 n]).run P w=.ok (.tuple #[]) { w with heap:=w.heap.setIfInBounds kk (.map es' clk') }∧Xz (EW c n) es' clk':=by
 obtain⟨kt,et,u1,u2,u3⟩:=Rm hs
 have hik:IsKey (.int .i64) (.int .i64 n):=by simp[IsKey]
 have hr0:=hr
 obtain⟨⟨l,hl1,hl2⟩,hst⟩:=hr
 have hnd:l.Nodup:=by
  have h3:(es.toList.map (·.key)).Nodup:=hst.2.2
  have h4:es.toList.map (·.key)=l.map fun n=>(.int .i64 n:Value):=by
   have:=congrArg (List.map Prod.fst) hl2
   rw[List.map_map,List.map_map] at this
   exact this
  rw[h4] at h3
  exact List.Pairwise.of_map (fun n=>(.int .i64 n:Value)) (fun a b hab e=>hab (by rw[e])) h3
 rcases Y0 hr0 n with⟨g1,g2⟩ | ⟨g1,j,e,g2,g3,g4,g5⟩
 ·refine⟨es,clk,by simp[Builtin.delete_,run_underlying u1,run_getObj_map hk,run_checkKey u2 hik,run_findKey u2 g2,run_setObj_map _ hk,Result.andThen],⟨l,?_,hl2⟩,hst⟩
  rw[hl1,Wl,List.erase_of_not_mem]
  intro hm
  rw[hl1,(Jt l n).2 hm] at g1;cases g1
 ·refine⟨es.eraseIdxIfInBounds j,clk,by simp[Builtin.delete_,run_underlying u1,run_getObj_map hk,run_checkKey u2 hik,run_findKey u2 g2,run_setObj_map _ hk,Result.andThen],⟨l.eraseIdx j,?_,?_⟩,stamped_erase hst j⟩
  ·have hj:l[j]?=some n:=by
    have h5:=congrArg (fun m=>m[j]?) hl2
    simp only[List.getElem?_map,Array.getElem?_toList,g3,Option.map_some] at h5
    cases hq:l[j]? with
    | none=>rw[hq] at h5;simp at h5
    | some m=>rw[hq] at h5;simp at h5;rw[g4] at h5;simp at h5;rw[h5.1]
   rw[hl1,Wl,KE l j n hnd hj]
  ·rw[IT,Om,hl2,←Om]
theorem FL {k:Nat} {es:Array MapEntry} {clk:Nat} (hk:w.heap[k]?=some (.map es clk)):Aj w k=0:=by simp[Aj,hk]
theorem Mr {b i gn n s:Nat} {v:Value} {k:Blk→LA→O R} (S:SimH J β h w) (hl:Looks g h) (hh:IQ g b i gn k=some r) (hr:Rep J β h w (.nd b (.ref i gn n s)) v) :
  ∃ x l kk es clk,k x l=some r∧v=.map (some kk)∧w.heap[kk]?=some (.map es clk)∧Xz l es clk∧s=0∧(Ad h b=some x∧x.gen=gn∧Ak x=true∧x.mp=true) ∧
   (∀ (es':Array MapEntry) (clk':Nat) (l':LA),Xz l' es' clk'→∃ J' β',Step J β h w J' β' (Ac [(b,some { x with cells:=x.cells.set i (Bo l' 0 0) })] h) { w with heap:=w.heap.setIfInBounds kk (.map es' clk') }) ∧
   ∀ (es':Array MapEntry) (clk' t:Nat) (l':LA),ZZ l' t es' clk'→∃ J' β',Step J β h w J' β' (Ac [(b,some { x with cells:=x.cells.set i (Bo l' 1 0),pend:=x.pend+1 })] h) { w with heap:=w.heap.setIfInBounds kk (.map es' clk') } ∧
    ∃ kr o n c,β' b=some (kr,o)∧(dec o)[i]?=some (some (true,kk,t+1,n,c)):=by
 unfold IQ at hh
 obtain⟨x,hx,h1⟩:=ub hh
 obtain⟨hc,h2⟩:=uc h1
 simp only[Bool.and_eq_true] at hc
 obtain⟨hn,hz,hg⟩:=hc
 have hz:=Nat.eq_of_beq_eq_true hz
 have hg:=Nat.eq_of_beq_eq_true hg
 obtain⟨y,hy,h3⟩:=ub h2
 obtain⟨l,hl',h4⟩:=ub h3
 rw[List.head?_drop] at hy
 obtain⟨hb,hd⟩:=A4 hl hx
 obtain⟨kr,o,hβ,hN,_,_,hm,_⟩:=Ir S hb hd hn
 obtain⟨ht,cs,ty,fr,hk,hfr,hcs,hdl,hall,huq⟩:=hN
 obtain⟨hsh,_,_,hs2,hnr⟩:=BO hb hd hr
 obtain⟨k',o',e,h5,he,rfl,_⟩:=hnr hg
 rw[hβ] at h5;simp at h5;obtain⟨rfl,rfl⟩:=h5
 have hs0:s=0:=by omega
 subst hs0
 obtain⟨cell,hc1,hv,hI⟩:=hall i e he
 rw[hy] at hc1;simp at hc1;subst hc1
 have hz2:x.sz - 2=0:=by omega
 match e,he,hI with
 | none,he,hI=>rcases hI with rfl | rfl<;>simp[Pa] at hl'
 | some (false,_,_,_,_),he,hI=>simp[InnerIs] at hI;subst hI;simp[Pa] at hl'
 | some (true,kk,a,n',cap),he,hI =>
  rw[hz2] at hI
  obtain⟨l1,es,clk,h6,hI⟩:=hI
  rcases hI with⟨rfl,rfl,h7⟩ | ⟨t,rfl,rfl,_⟩
  ·simp[Pa,Bo] at hl';subst hl'
   refine⟨x,l1,kk,es,clk,h4,rfl,h6,h7,rfl,⟨hb,hg,hn,hm⟩,fun es' clk' l' hr'=>?_,fun es' clk' t l' hr'=>?_⟩
   ·have hs:=heap_set (o':=.map es' clk') h6
    have hI':InnerIs (J false) { w with heap:=w.heap.setIfInBounds kk (.map es' clk') } (x.sz - 2) (some (true,kk,0,n',cap)) (Bo l' 0 0):=by
     rw[hz2];exact⟨l',es',clk',hs.1,.inl ⟨rfl,rfl,hr'⟩⟩
    obtain⟨J',β',A⟩:=Step.inner (w':={ w with heap:=w.heap.setIfInBounds kk (.map es' clk') }) S hb hd hn hβ he (fun j hj=>hs.2 j hj) (by simp) rfl rfl rfl (by rw[FL h6];exact Nat.zero_le _) hI'
    exact⟨J',β',A⟩
   ·have hs:=heap_set (o':=.map es' clk') h6
    have hI':InnerIs (J false) { w with heap:=w.heap.setIfInBounds kk (.map es' clk') } (x.sz - 2) (some (true,kk,t+1,n',cap)) (Bo l' 1 0):=by
     rw[hz2];exact⟨l',es',clk',hs.1,.inr ⟨t,rfl,rfl,hr'⟩⟩
    obtain⟨J',β',A,hβ'⟩:=Step.innerP (w':={ w with heap:=w.heap.setIfInBounds kk (.map es' clk') }) S hb hd hn hz hβ he (fun j hj=>hs.2 j hj) (by simp) rfl rfl rfl (by rw[FL h6];exact Nat.zero_le _) hI'
    exact⟨J',β',A,kr,_,n',cap,hβ',by rw[Hs,List.getElem?_set_self (List.getElem?_eq_some_iff.1 he).1]⟩
  ·simp[Pa,Bo,Nat.beq] at hl'
theorem UF {t:TypeId} {kk clk:Nat} {es:Array MapEntry} {c:LA} (hs:Jr P t=true) (hk:w.heap[kk]?=some (.map es clk)) (hr:Xz c es clk) (n:Int) :
  ∃ es' clk' u t',(Instr.mapEntry t (.map (some kk)) (.int .i64 n)).run P w=.ok (.tuple #[u,.int .i64 (t':Nat)]) { w with heap:=w.heap.setIfInBounds kk (.map es' clk') }∧ZZ (Q9 c n) t' es' clk':=by
 obtain⟨kt,et,u1,u2,u3⟩:=Rm hs
 have hik:IsKey (.int .i64) (.int .i64 n):=by simp[IsKey]
 have hr0:=hr
 obtain⟨⟨l,hl1,hl2⟩,hst⟩:=hr
 have hkeys:es.toList.map (·.key)=l.map fun n=>(.int .i64 n:Value):=by
  have:=congrArg (List.map Prod.fst) hl2
  rw[List.map_map,List.map_map] at this
  exact this
 have hvals:∀ e ∈ es.toList,e.val=.bool true:=fun e he=>by
  obtain⟨m,_,_,h3⟩:=Pl (c:=[]) hl2 he;exact h3
 rcases Y0 hr0 n with⟨g1,g2⟩ | ⟨g1,j,e,g2,g3,g4,g5⟩
 ·refine⟨es.push { key:=.int .i64 n,val:=.bool false,born:=clk },clk+1,.bool false,clk,?_,⟨l++[n],?_,?_⟩,?_,?_,?_⟩
  ·simp[Instr.mapEntry,run_underlying u1,run_getObj_map hk,run_checkKey u2 hik,run_findKey u2 g2,run_setObj_map _ hk,u3,Result.andThen,goInt]
  ·unfold Q9;rw[g1,hl1];simp
  ·simp[hkeys]
  ·exact⟨{ key:=.int .i64 n,val:=.bool false,born:=clk },by simp,rfl⟩
  ·intro e he hb
   simp only[Array.toList_push,List.mem_append,List.mem_singleton] at he
   rcases he with he | rfl
   ·exact hvals e he
   ·exact absurd rfl hb
  ·refine stamped_push hst (fun x hx e=>?_)
   obtain⟨m,hm,hm1,_⟩:=Pl (c:=[]) hl2 hx
   rw[hm1] at e;simp at e;subst e
   rw[hl1] at g1
   rw[(Jt l m).2 hm] at g1;cases g1
 ·refine⟨es,clk,.bool true,e.born,?_,⟨l,?_,hkeys⟩,⟨e,List.mem_of_getElem? (by rw[Array.getElem?_toList];exact g3),rfl⟩,fun e' he' _=>hvals e' he',hst⟩
  ·have:es.modify j (fun e=>{ e with key:=.int .i64 n })=es:=by
    apply Array.ext_getElem?
    intro i
    rw[Array.getElem?_modify]
    split
    ·rename_i hij;subst hij
     rw[g3];simp;rw[←g4]
    ·rfl
   simp[Instr.mapEntry,run_underlying u1,run_getObj_map hk,run_checkKey u2 hik,run_findKey u2 g2,g3,g4,run_keyThatStays hik,run_setObj_map _ hk,Result.andThen,goInt,this]
  ·unfold Q9;rw[g1,hl1];rfl
theorem CX {t:TypeId} {m key:AV} {vm vk:Value} {k:AV→By→O R} (S:SimH J β h w) (hl:Looks g h) (hh:Md P g t m key k=some r) (hm:Rep J β h w m vm) (hk:Rep J β h w key vk) :
  ∃ val ups,k val ups=some r∧∃ u w',(Instr.mapEntry t vm vk).run P w=.ok u w'∧OpDone J β h w ups val u w':=by
 unfold Md at hh
 split at hh
 ·rename_i b i gn _ _ n
  obtain⟨hs,h1⟩:=uc hh
  simp only[Rep] at hk;subst hk
  obtain⟨x,l,kk,es,clk,h2,rfl,h3,h4,_,⟨hb,hg,hn,hmx⟩,_,h5⟩:=Mr S hl h1 hm
  obtain⟨es',clk',u,t',g1,g2⟩:=UF hs h3 h4 n
  obtain⟨J',β',A,kr,o,n',c,g3,g4⟩:=h5 es' clk' t' _ g2
  refine⟨_,_,h2,_,_,g1,J',β',A,?_⟩
  rw[Rep]
  refine⟨_,rfl,?_⟩
  rw[Reps]
  refine⟨_,_,rfl,by rw[Rep];trivial,?_⟩
  rw[Reps]
  refine⟨_,_,rfl,?_,by rw[Reps]⟩
  rw[Rep]
  refine⟨trivial,{ x with cells:=x.cells.set i (Bo (Q9 l n) 1 0),pend:=x.pend+1 },⟨by simp only[Ac];rw[Aa,if_pos rfl],hmx⟩,.inr ⟨?_,hn,fun _=>⟨Nat.le_refl _,fun _=>⟨kr,o,kk,t',n',c,g3,g4,rfl⟩⟩⟩⟩
  show gn≤x.gen
  omega
 ·simp at hh
theorem Y1 {t:TypeId} {m s val:AV} {vm vs vv:Value} {k:AV→By→O R} (S:SimH J β h w) (hl:Looks g h) (hh:H7 g m s val k=some r) (hm:Rep J β h w m vm) (hs:Rep J β h w s vs) (hv:Rep J β h w val vv) :
  ∃ ups,k .undef ups=some r∧∃ J' β' w',(Instr.entryStore t vm vs vv).run P w=.ok () w'∧Step J β h w J' β' (Ac ups h) w':=by
 unfold H7 at hh
 split at hh
 ·rename_i b i gn n0 s0 b' i' g' p
  obtain⟨c1,h1⟩:=uc hh
  obtain⟨c2,h2⟩:=uc h1
  obtain⟨x,hx,h3⟩:=ub h2
  obtain⟨c3,h4⟩:=uc h3
  simp only[Bool.and_eq_true] at c1 c3
  have e1:=Nat.eq_of_beq_eq_true c1.1
  have e2:=Nat.eq_of_beq_eq_true c1.2
  have e3:=Nat.eq_of_beq_eq_true c2
  subst e1 e2 e3
  obtain⟨hn,hz,hg,hp⟩:=c3
  have hz:=Nat.eq_of_beq_eq_true hz
  have hg:=Nat.eq_of_beq_eq_true hg
  have hp:=Nat.eq_of_beq_eq_true hp
  obtain⟨y,hy,h5⟩:=ub h4
  obtain⟨l,hl',h6⟩:=ub h5
  rw[List.head?_drop] at hy
  obtain⟨hb,hd⟩:=A4 hl hx
  obtain⟨kr,o,hβ,hN,_,_,hmx,_⟩:=Ir S hb hd hn
  obtain⟨ht,cs,ty,fr,hk,hfr,hcs,hdl,hall,huq⟩:=hN
  obtain⟨_,_,_,hs2,hnr⟩:=BO hb hd hm
  obtain⟨k',o',e,f1,he,rfl,_⟩:=hnr hg
  rw[hβ] at f1;simp at f1;obtain⟨rfl,rfl⟩:=f1
  obtain⟨_,_,_,hst⟩:=BO hb hd hs
  obtain⟨k2,o2,kk,t0,n2,c2,f2,f3,rfl⟩:=(hst hg).2 hp
  rw[hβ] at f2;simp at f2;obtain⟨rfl,rfl⟩:=f2
  rw[he] at f3;simp at f3;subst f3
  rw[Rep] at hv;subst hv
  have hs0:s0=0:=by omega
  subst hs0
  obtain⟨cell,hc1,_,hI⟩:=hall i _ he
  rw[hy] at hc1;simp at hc1;subst hc1
  have hz2:x.sz - 2=0:=by omega
  rw[hz2] at hI
  obtain⟨l1,es,clk,q1,hI⟩:=hI
  rcases hI with⟨q2,_⟩ | ⟨t,q2,rfl,hP⟩
  ·omega
  ·have:t=t0:=by omega
   subst this
   simp[LG,Bo] at hl';subst hl'
   obtain⟨⟨li,hli,hkeys⟩,⟨e0,he0,hb0⟩,hvals,hstm⟩:=hP
   obtain⟨j,hj⟩:=List.getElem?_of_mem he0
   rw[Array.getElem?_toList] at hj
   have huniq:∀ (i1 i2:Nat) a b,es[i1]?=some a→es[i2]?=some b→a.born=b.born→i1=i2:=by
    intro i1 i2 a b h1 h2 h3
    have h4:=hstm.2.1
    have g1:(es.toList.map (·.born))[i1]?=some a.born:=by rw[List.getElem?_map,Array.getElem?_toList,h1];rfl
    have g2:(es.toList.map (·.born))[i2]?=some a.born:=by rw[List.getElem?_map,Array.getElem?_toList,h2,h3];rfl
    obtain⟨w1,w2⟩:=List.getElem?_eq_some_iff.1 g1
    obtain⟨w3,w4⟩:=List.getElem?_eq_some_iff.1 g2
    exact(List.getElem_inj h4).1 (w2.trans w4.symm)
   obtain⟨j',hj'⟩:∃ j',es.findIdx? (fun e=>(e.born:Int)==(t:Nat))=some j':=by
    cases hf:es.findIdx? (fun e=>(e.born:Int)==(t:Nat)) with
    | some j'=>exact⟨j',rfl⟩
    | none =>
     rw[Array.findIdx?_eq_none_iff] at hf
     have:=hf e0 (Array.mem_toList_iff.1 he0)
     simp at this;omega
   obtain⟨e1,hje,hbe⟩:∃ e1,es[j']?=some e1∧e1.born=t:=by
    rw[Array.findIdx?_eq_some_iff_getElem] at hj'
    obtain⟨w1,w2,_⟩:=hj'
    exact⟨es[j'],by simp[w1],by simp at w2;omega⟩
   have hmr:Xz l1 (es.modify j' fun e=>{ e with val:=.bool true }) clk:=by
    refine⟨⟨li,hli,?_⟩,stamped_modify hstm _ _ (fun _ _=>rfl) (fun _ _ _=>rfl)⟩
    have hk2:=modify_keys (es:=es) j' (fun e=>{ e with val:=.bool true }) (fun _ _=>rfl)
    rw[hkeys] at hk2
    have hv2:∀ e ∈ (es.modify j' fun e=>{ e with val:=.bool true }).toList,e.val=.bool true:=by
     intro e hem
     obtain⟨q,hq⟩:=List.getElem?_of_mem hem
     rw[Array.getElem?_toList,Array.getElem?_modify] at hq
     split at hq
     ·obtain⟨e',_,rfl⟩:=Option.map_eq_some_iff.1 hq;rfl
     ·rename_i hne
      refine hvals e (List.mem_of_getElem? (by rw[Array.getElem?_toList];exact hq)) (fun hbn=>hne ?_)
      exact huniq j' q e1 e hje hq (by rw[hbe,hbn])
    generalize (es.modify j' fun e=>{ e with val:=.bool true }).toList=L at hk2 hv2
    clear hkeys hli huniq
    induction li generalizing L with
    | nil=>cases L with
     | nil=>rfl
     | cons a r=>simp at hk2
    | cons m r ih=>cases L with
     | nil=>simp at hk2
     | cons a q =>
      simp at hk2
      rw[List.map_cons,List.map_cons,ih q hk2.2 (fun e he=>hv2 e (by simp[he])),hk2.1,hv2 a (by simp)]
   have hset:=heap_set (o':=.map (es.modify j' fun e=>{ e with val:=.bool true }) clk) q1
   have hI':InnerIs (J false) { w with heap:=w.heap.setIfInBounds kk (.map (es.modify j' fun e=>{ e with val:=.bool true }) clk) } (x.sz - 2) (some (true,kk,0,n2,c2)) (Bo l1 0 0):=by
    rw[hz2];exact⟨l1,_,_,hset.1,.inl ⟨rfl,rfl,hmr⟩⟩
   obtain⟨J',β',A,_⟩:=Step.innerP (w':={ w with heap:=w.heap.setIfInBounds kk (.map (es.modify j' fun e=>{ e with val:=.bool true }) clk) }) S hb hd hn hz hβ he (fun j hj=>hset.2 j hj) (by simp) rfl rfl rfl (by rw[FL q1];exact Nat.zero_le _) hI'
   refine⟨_,h6,J',β',_,?_,A⟩
   simp[Sk,Instr.entryStore,run_getObj_map q1,Go.asInt,Go.asIntOf,hj',run_setObj_map _ q1,Result.andThen]
 ·simp at hh
theorem OE {t:TypeId} {m key:AV} {c:Bool} {vm vk:Value} {k:AV→O R} (S:SimH J β h w) (hl:Looks g h) (hh:JT P g t m key c k=some r) (hm:Rep J β h w m vm) (hk:Rep J β h w key vk) :
  ∃ v vc,k v=some r∧(Instr.lookup t vm vk c).run P w=.ok vc w∧Rep J β h w v vc:=by
 unfold JT at hh
 split at hh
 ·rename_i b n
  obtain⟨hs,h1⟩:=uc hh
  obtain⟨x,hx,h2⟩:=ub h1
  obtain⟨hmp,h3⟩:=uc h2
  simp only[Bool.and_eq_true] at hmp
  obtain⟨hmp,hz⟩:=hmp
  have hz:=Nat.eq_of_beq_eq_true hz
  obtain⟨hb,hd⟩:=A4 hl hx
  rw[Rep] at hk;subst hk
  obtain⟨kk,es,clk,_,hβ,rfl,hk,hr,_,_⟩:=TA S hb hd hz hm
  exact⟨_,.bool (Ww x.cells n),h3,OD hs hk hr n,by rw[Rep]⟩
 ·obtain⟨hs,h1⟩:=uc hh
  obtain⟨x,l,kk,es,clk,h2,rfl,h3,h4,_⟩:=Mr S hl h1 hm
  rw[Rep] at hk;subst hk
  exact⟨_,_,h2,OD hs h3 h4 _,by rw[Rep]⟩
 ·simp at hh
theorem L' {t:TypeId} {m key val:AV} {vm vk vv:Value} {k:AV→By→O R} (S:SimH J β h w) (hl:Looks g h) (hh:Z6 P g t m key val k=some r) (hm:Rep J β h w m vm) (hk:Rep J β h w key vk) (hv:Rep J β h w val vv) :
  ∃ ups,k .undef ups=some r∧∃ J' β' w',(Instr.mapUpdate t vm vk vv).run P w=.ok () w'∧Step J β h w J' β' (Ac ups h) w':=by
 unfold Z6 at hh
 split at hh
 ·rename_i b n
  obtain⟨hs,h1⟩:=uc hh
  obtain⟨x,hx,h2⟩:=ub h1
  obtain⟨hmp,h3⟩:=uc h2
  simp only[Bool.and_eq_true] at hmp
  obtain⟨hmp,hz⟩:=hmp
  have hz:=Nat.eq_of_beq_eq_true hz
  obtain⟨hb,hd⟩:=A4 hl hx
  simp only[Rep] at hk hv;subst hk hv
  obtain⟨kk,es,clk,_,hβ,rfl,hk,hr,hsl,hpu⟩:=TA S hb hd hz hm
  obtain⟨es',clk',g1,g2⟩:=WA hs hk hr n
  refine⟨_,h3,J,β,_,g1,?_⟩
  exact Step.setObj S hb hd hmp hβ hk (heap_set hk).1 (fun j hj=>(heap_set hk).2 j hj) (by simp) rfl rfl rfl (.inl ⟨hz,_,_,rfl,g2⟩) hd hsl hpu rfl hmp (by unfold Ak;rw[hz];cases x.mp<;>rfl)
 ·obtain⟨hs,h1⟩:=uc hh
  simp only[Rep] at hk hv;subst hk hv
  obtain⟨x,l,kk,es,clk,h2,rfl,h3,h4,_,_,h5,_⟩:=Mr S hl h1 hm
  obtain⟨es',clk',g1,g2⟩:=WA hs h3 h4 _
  obtain⟨J',β',A⟩:=h5 es' clk' _ g2
  exact⟨_,h2,J',β',_,g1,A⟩
 ·simp at hh
theorem IU {t tk ty:TypeId} {m key:AV} {vm vk:Value} {k:AV→By→O R} (S:SimH J β h w) (hl:Looks g h) (hh:Wc P g t m key k=some r) (hm:Rep J β h w m vm) (hk:Rep J β h w key vk) :
  ∃ val ups,k val ups=some r∧∃ u w',(Builtin.delete_ #[t,tk] ty #[vm,vk]).run P w=.ok u w'∧OpDone J β h w ups val u w':=by
 unfold Wc at hh
 split at hh
 ·obtain⟨hs,h1⟩:=uc hh
  simp only[Rep] at hk;subst hk
  obtain⟨x,l,kk,es,clk,h2,rfl,h3,h4,_,_,h5,_⟩:=Mr S hl h1 hm
  obtain⟨es',clk',g1,g2⟩:=XW (kt':=tk) (ty:=ty) hs h3 h4 _
  obtain⟨J',β',A⟩:=h5 es' clk' _ g2
  exact⟨_,_,h2,_,_,g1,J',β',A,by rw[Rep];exact⟨[],rfl,by rw[Reps]⟩⟩
 ·simp at hh
theorem WB {c:LA} {es:Array MapEntry} {clk:Nat} (hr:Xz c es clk):es.size=c.length:=by
 obtain⟨⟨l,h1,h2⟩,_⟩:=hr
 have:=congrArg List.length h2
 simp at this
 rw[h1];simp[this]
theorem OF {t ty:TypeId} {x:AV} {vx:Value} {k:AV→O R} (S:SimH J β h w) (hl:Looks g h) (hh:JU P g t x k=some r) (hx:Rep J β h w x vx) :
  ∃ v vc,k v=some r∧(Builtin.len_ #[t] ty #[vx]).run P w=.ok vc w∧Rep J β h w v vc:=by
 unfold JU at hh
 split at hh
 ·rename_i b i gn n s
  cases hs:Nat.beq s 0 with
  | true =>
   rw[hs,cond_true] at hh
   obtain⟨hT,h1⟩:=uc hh
   obtain⟨y,l,kk,es,clk,h2,rfl,h3,h4,_⟩:=Mr S hl h1 hx
   refine⟨_,.int .i64 l.length,h2,?_,by rw[Rep]⟩
   unfold VO at hT
   split at hT
   ·rename_i hu
    simp[Builtin.len_,run_underlying hu,run_getObj_map h3,goInt,WB h4,Result.andThen]
   ·cases hT
  | false =>
   rw[hs,cond_false] at hh
   obtain⟨hT,h1⟩:=uc hh
   have hx0:=hx
   rw[Rep] at hx
   obtain⟨hsh,_⟩:=hx
   have hs':s≠0:=G9 hs
   obtain⟨A,c,rfl,_⟩:=hsh.2 (by omega)
   refine⟨_,.int .i64 n,h1,?_,by rw[Rep]⟩
   unfold Yo at hT
   split at hT
   ·rename_i hu
    simp[Builtin.len_,run_underlying hu,goInt]
   ·cases hT
 ·rename_i b n
  obtain⟨hT,h1⟩:=uc hh
  rw[Rep] at hx
  obtain⟨⟨k0,rfl⟩,_⟩:=hx
  refine⟨_,.int .i64 n,h1,?_,by rw[Rep]⟩
  unfold Yo at hT
  split at hT
  ·rename_i hu
   simp[Builtin.len_,run_underlying hu,goInt]
  ·cases hT
 ·obtain⟨v,h1,h2⟩:=ub hh
  obtain⟨vc,h3,h4⟩:=QN (ty:=ty) h1 hx
  exact⟨v,vc,h2,h3,h4⟩
end
end Gx

namespace Gx
open Go
section
variable {R:Type} {r:R} {P:Program} {J J':Bool→Nat→Prop} {β β':Au} {h h':Ai} {w w':World} {g:Aq}
def BT:KA→KA
 | none=>none
 | some (_,q)=>some (false,q)
def aU:KA→Option (Nat×Nat)
 | some (true,kk,a,_,_)=>some (kk,a)
 | _=>none
theorem WC {e:KA} {j a:Nat} (h:aU e=some (j,a)):∃ n c,e=some (true,j,a,n,c):=by
 match e,h with
 | none,h=>simp[aU] at h
 | some (false,q),h=>simp[aU] at h
 | some (true,kk,a',n,c),h=>simp[aU] at h;obtain⟨rfl,rfl⟩:=h;exact⟨n,c,rfl⟩
theorem WD {s:Nat} {e:KA}:Sk s (BT e)=Sk s e:=by
 match e with
 | none=>rfl
 | some (_,k,a,n,c)=>cases s<;>rfl
theorem Pm {b d c:Nat} {x y z:Blk} (h:Ad [(b,x),(d,y)] c=some z):(c=b∧z=x)∨(c≠b∧c=d∧z=y):=by
 rw[Ad] at h
 cases hb:Nat.beq b c with
 | true=>rw[hb] at h;simp at h;exact .inl ⟨(Nat.eq_of_beq_eq_true hb).symm,h.symm⟩
 | false=>rw[hb] at h;exact .inr ⟨fun e=>G9 hb e.symm,B7 h⟩
theorem Step.take (S:SimH J β h w) {b i d k o:Nat} {x:Blk} {e:KA} {cell:AV} {p:LA×Nat} (hb:Ad h b=some x) (hd:x.dead=false) (hn:Ak x=true) (hβ:β b=some (k,o)) (h3:1≤x.sz - 2)
  (he:(dec o)[i]?=some e) (hc:x.cells[i]?=some cell) (hp:Qz (x.sz - 2) cell=some p) (hdn:Ad h d=none) :
  ∃ J' β',Step J β h w J' β' (Ac [(b,some { x with cells:=x.cells.set i .undef,gen:=x.gen+1 }),(d,some { dead:=false,sealed:=false,pure:=true,taint:=false,sz:=x.sz - 2,cells:=p.1 })] h) w ∧
   Rep J' β' (Ac [(b,some { x with cells:=x.cells.set i .undef,gen:=x.gen+1 }),(d,some { dead:=false,sealed:=false,pure:=true,taint:=false,sz:=x.sz - 2,cells:=p.1 })] h) w (.own d 0 p.2) (Sk (x.sz - 2) e):=by
 obtain⟨k0,o0,h1,hN,hpu,hs,hm,hJ⟩:=Ir S hb hd hn
 rw[hβ] at h1;simp at h1;obtain⟨rfl,rfl⟩:=h1
 have hN':=hN
 obtain⟨_,cs,ty,fr,hk,_,hcl,hdl,hall,huq⟩:=hN'
 have hdb:d≠b:=fun e=>by subst e;rw[hdn] at hb;cases hb
 have hi:i<x.cells.length:=(List.getElem?_eq_some_iff.1 hc).1
 obtain⟨c1,hc1,hv,hI⟩:=hall i e he
 rw[hc] at hc1;simp at hc1;subst hc1
 generalize hx':({ x with cells:=x.cells.set i .undef,gen:=x.gen+1 }:Blk)=x'
 generalize hy:({ dead:=false,sealed:=false,pure:=true,taint:=false,sz:=x.sz - 2,cells:=p.1 }:Blk)=y
 have x1:x'.dead=false:=by rw[←hx'];exact hd
 have x2:x'.sealed=false:=by rw[←hx'];exact hs
 have x3:x'.pure=true:=by rw[←hx'];exact hpu
 have x4:x'.mp=true:=by rw[←hx'];exact hm
 have x5:x'.sz=x.sz:=by rw[←hx']
 have x6:x'.cells=x.cells.set i .undef:=by rw[←hx']
 have x7:x'.taint=x.taint:=by rw[←hx']
 have x8:x'.gen=x.gen+1:=by rw[←hx']
 have x9:Ak x'=true:=by rw[Ew (by rw[x4,hm]) x5];exact hn
 have y1:y.dead=false:=by rw[←hy]
 have y2:y.sealed=false:=by rw[←hy]
 have y3:y.pure=true:=by rw[←hy]
 have y4:y.mp=false:=by rw[←hy]
 have y5:y.sz=x.sz - 2:=by rw[←hy]
 have y6:y.cells=p.1:=by rw[←hy]
 have y7:y.taint=false:=by rw[←hy]
 have y8:y.ty=none:=by rw[←hy]
 obtain⟨pl,hpl⟩:∃ pl,pl=aU e:=⟨_,rfl⟩
 have hplT:∀ j a,pl=some (j,a)→∃ n c,e=some (true,j,a,n,c):=fun j a hj=>WC (by rw[←hpl];exact hj)
 generalize hβ1:(fun c=>if c=b then some (k,enc ((dec o).set i (BT e))) else if c=d then pl else β c:Au)=β1
 have b1:β1 b=some (k,enc ((dec o).set i (BT e))):=by rw[←hβ1];simp
 have b2:β1 d=pl:=by rw[←hβ1];simp[hdb]
 have hT:∀ j,Terr β1 b x' j→Terr β b x j∧∀ a,pl≠some (j,a):=by
  rintro j ⟨k1,o1,e1,e2⟩
  rw[b1] at e1;simp at e1;obtain⟨rfl,rfl⟩:=e1
  rcases e2 with rfl | ⟨_,i',a',n',c2,e2⟩
  ·refine⟨Terr.at hβ,fun a hj=>?_⟩
   obtain⟨n,c,h5⟩:=hplT _ _ hj
   rw[h5] at he
   exact(huq i _ a n c he).1 rfl
  ·rw[Hs] at e2
   by_cases ei:i'=i
   ·subst ei
    rw[List.getElem?_set_self (by omega)] at e2
    match e,e2 with
    | none,e2=>simp[BT] at e2
    | some (w0,q),e2=>simp[BT] at e2
   ·rw[List.getElem?_set_ne (Ne.symm ei)] at e2
    refine⟨⟨_,o,hβ,.inr ⟨hn,i',a',n',c2,e2⟩⟩,fun a hj=>?_⟩
    obtain⟨n,c,h5⟩:=hplT _ _ hj
    rw[h5] at he
    exact ei ((huq i _ a n c he).2 i' a' n' c2 e2)
 have hT2:∀ j,Terr β1 d y j→Terr β b x j∧∃ a,pl=some (j,a):=by
  intro j ht
  obtain⟨a,ht⟩:=ht.ord y4
  rw[b2] at ht
  obtain⟨n,c,h5⟩:=hplT _ _ ht
  exact⟨⟨k,o,hβ,.inr ⟨hn,i,a,n,c,by rw[he,h5]⟩⟩,a,ht⟩
 have hN2:NestIs (J false) w k (enc ((dec o).set i (BT e))) x':=by
  refine hN.upd (fun _ _=>rfl) hi x6 x5 x7 (Hs _) (fun cs1 ty1 fr1 h2=>⟨cs1,h2,rfl,fun _ _=>rfl,fun h4=>by rw[he] at h4;rw[WD];exact h4⟩) (fun _ _ _ _ _ _ _=>rfl) ?_ (fun j a n c e2=>?_)
  ·match e with
   | none=>exact .inr rfl
   | some (w0,kk,a,n,c)=>exact rfl
  ·match e,e2 with
   | none,e2=>simp[BT] at e2
   | some (w0,q),e2=>simp[BT] at e2
 have M:MapRep J β1 w b x':=⟨x3,x2,fun j ht=>hJ j (hT j ht).1,.inr ⟨k,_,x9,b1,hN2⟩⟩
 have hcases:=Pg h3 hI hp
 have B:QK J β1 [(b,x'),(d,y)] w d y:=by
  rcases hcases with⟨e1,_,e3⟩ | ⟨kk,a,cap,cs2,ty2,fr2,e1,_,g1,g2,g3,g4,g5,g6⟩
  ·left
   rw[b2,hpl,e1,y6,e3];exact⟨rfl,rfl⟩
  ·right
   refine⟨kk,a,cs2,ty2,fr2,by rw[b2,hpl,e1];rfl,g3,⟨g4,by rw[y8];exact TyOk.none⟩,?_,⟨fun _=>?_,fun hh=>by rw[y3] at hh;cases hh⟩,fun _ g hj=>?_,fun hh=>by rw[y2] at hh;cases hh⟩
   ·rw[y6,g1];have:=Nat.mul_le_mul_right (x.sz - 2) g2;omega
   ·rw[y7,y6];exact g6
   ·exact hJ kk ⟨k,o,hβ,.inr ⟨hn,i,a,p.2,cap,by rw[he,e1]⟩⟩ g hj
 have S1:SimH J β1 [(b,x'),(d,y)] w:=by
  refine⟨S.jlt,S.jft,S.gl,fun c z hz hdz hmz=>?_,fun c z hz hdz hmz=>?_,fun c c' z z' j hz hz' _ _ _ ht ht'=>?_⟩
  ·rcases Pm hz with⟨rfl,rfl⟩ | ⟨_,rfl,rfl⟩
   ·rw[x4] at hmz;cases hmz
   ·exact B
  ·rcases Pm hz with⟨rfl,rfl⟩ | ⟨_,rfl,rfl⟩
   ·exact M
   ·rw[y4] at hmz;cases hmz
  ·rcases Pm hz with⟨rfl,rfl⟩ | ⟨_,rfl,rfl⟩<;>rcases Pm hz' with⟨rfl,rfl⟩ | ⟨_,rfl,rfl⟩
   ·rfl
   ·obtain⟨_,a,h5⟩:=hT2 j ht'
    exact absurd h5 ((hT j ht).2 a)
   ·obtain⟨_,a,h5⟩:=hT2 j ht
    exact absurd h5 ((hT j ht').2 a)
   ·rfl
 have hH:∀ c,Ad (Ac [(b,some x'),(d,some y)] h) c=if c=d then some y else if c=b then some x' else Ad h c:=by
  intro c;simp only[Ac];rw[Aa,Aa]
 have h1b:Ad [(b,x'),(d,y)] b=some x':=by simp[Ad]
 have h1d:Ad [(b,x'),(d,y)] d=some y:=by simp[Ad,Ph (Ne.symm hdb)]
 have A:=Step.merge (J1:=J) (H:=Ac [(b,some x'),(d,some y)] h) (D:=[b,d]) (ids:=[b]) S S1
  (fun c hc=>by rw[hH,if_neg (fun e=>hc (by simp[e])),if_neg (fun e=>hc (by simp[e]))])
  (fun c z hc hz hdz=>by
   rw[hH] at hz
   by_cases e1:c=d
   ·rw[if_pos e1] at hz;simp at hz;subst hz;subst e1;exact⟨_,h1d,Bumped.rfl⟩
   ·rw[if_neg e1] at hz
    have:c=b:=by simpa[e1] using hc
    rw[if_pos this] at hz;simp at hz;subst hz;subst this;exact⟨_,h1b,Bumped.rfl⟩)
  (fun c z hz=>by
   rcases Pm hz with⟨rfl,rfl⟩ | ⟨h5,rfl,rfl⟩
   ·exact⟨by simp,_,by rw[hH,if_neg (Ne.symm hdb),if_pos rfl],Bumped.rfl⟩
   ·exact⟨by simp,_,by rw[hH,if_pos rfl],Bumped.rfl⟩)
  (fun c z hc hni=>by
   have:c=d:=by
    rcases List.mem_cons.1 hc with rfl | hc
    ·exact absurd (by simp) hni
    ·simpa using hc
   subst this;rw[hdn];simp)
  (fun c z hc hz=>by
   simp at hc;subst hc
   rw[hb] at hz;simp at hz;subst hz
   exact⟨x',⟨by rw[hH,if_neg (Ne.symm hdb),if_pos rfl],by rw[x4,hm]⟩,.inr ⟨hd,⟨fun hh=>(by rw[hn] at hh;cases hh),fun _=>⟨by rw[b1,hβ];rfl,by omega,fun e=>absurd e (by omega),by rw[x6,List.length_set]⟩⟩,x5,fun hh=>by rw[hm] at hh;cases hh⟩⟩)
  (fun c hc=>by simp at hc;simp[hc]) rfl rfl rfl (Nat.le_refl _) (fun _ _ _=>rfl)
  (fun j hm' _=>by
   obtain⟨c,z,hz,_,_,ht⟩:=hm'
   rcases Pm hz with⟨rfl,rfl⟩ | ⟨_,rfl,rfl⟩
   ·exact⟨_,x,by simp,hb,hd,hs,(hT j ht).1⟩
   ·exact⟨_,x,by simp,hb,hd,hs,(hT2 j ht).1⟩)
  (fun _ _ hj=>.inl hj) (fun _=>Nat.le_refl _)
 refine⟨_,_,A.1,Rep.ext A.2 ?_⟩
 rw[Rep]
 rcases hcases with⟨e1,_,e3⟩ | ⟨kk,a,cap,cs2,ty2,fr2,e1,_,g1,g2,g3,g4,g5,g6⟩
 ·obtain⟨m,hm1⟩:∃ m,x.sz - 2=m+1:=⟨x.sz - 3,by omega⟩
  rw[e1,e3,hm1]
  exact⟨y,none,0,⟨h1d,y4⟩,rfl,Nat.le_refl _,.inl rfl⟩
 ·obtain⟨m,hm1⟩:∃ m,x.sz - 2=m+1:=⟨x.sz - 3,by omega⟩
  rw[e1]
  refine⟨y,some ⟨kk,a+0,none⟩,cap,⟨h1d,y4⟩,by rw[hm1];rfl,g2,.inr ⟨kk,a,rfl,.inr ⟨by rw[b2,hpl,e1];rfl,?_,?_⟩⟩⟩
  ·rw[Ax g3,y5];omega
  ·rw[y5,y6,g1];omega
theorem OG {d:Nat} {s:AV} {vs:Value} {k:Aq→AV→By→O R} (S:SimH J β h w) (hl:Looks g h) (hh:JV g d s k=some r) (hs:Rep J β h w s vs) :
  ∃ g' s' u,k g' s' u=some r∧(Al u (nid d)=true→∃ y,Ad h (nid d)=some y)∧(∀ us,UpsFree d h (u++us)→∃ J' β',Step J β h w J' β' (Ac u h) w∧Looks g' (Ac u h)∧Rep J' β' (Ac u h) w s' vs):=by
 unfold JV at hh
 split at hh
 ·rename_i b i gn n s
  obtain⟨x,hx,h1⟩:=ub hh
  obtain⟨hc,h2⟩:=uc h1
  simp only[Bool.and_eq_true] at hc
  obtain⟨hn,hg,hs1,hz⟩:=hc
  have hz:=Nat.eq_of_beq_eq_true hz
  have hg:=Nat.eq_of_beq_eq_true hg
  have hs1:1≤s:=Nat.le_of_ble_eq_true hs1
  obtain⟨cell,p,hc,hp,h3⟩:=Rf h2
  obtain⟨hb,hd⟩:=A4 hl hx
  obtain⟨kr,o,hβ,hN,_,_,_,_⟩:=Ir S hb hd hn
  obtain⟨hsh,_,_,hs2,hnr⟩:=BO hb hd hs
  obtain⟨k',o',e,h5,he,rfl,hen⟩:=hnr hg
  rw[hβ] at h5;simp at h5;obtain⟨rfl,rfl⟩:=h5
  have e2:x.sz - 2=s:=by omega
  have hpn:p.2=n:=by
   obtain⟨ht,cs,ty,fr,hk,hfr,hcs,hdl,hall,huq⟩:=hN
   obtain⟨c1,hc1,hv,hI⟩:=hall i e he
   rw[hc] at hc1;simp at hc1;subst hc1
   rw[e2] at hI
   rcases Pg hs1 hI hp with⟨rfl,_,rfl⟩ | ⟨kk,a,cap,cs2,ty2,fr2,rfl,_⟩
   ·obtain⟨A,c,h6,_⟩:=hsh.2 hs1
    obtain⟨m,rfl⟩:∃ m,s=m+1:=⟨s - 1,by omega⟩
    simp[Sk] at h6;exact h6.2.1
   ·exact hen hs1 _ rfl
  refine⟨_,_,_,h3,fun hi=>?_,fun us hf=>?_⟩
  ·simp only[Al] at hi
   cases h6:Nat.beq b (nid d) with
   | true=>exact⟨x,by rw[←Nat.eq_of_beq_eq_true h6];exact hb⟩
   | false=>rw[h6,cond_false,Ph (by omega)] at hi;cases hi
  have hdn:Ad h (nid d+14)=none:=hf _ (by simp[Al]) (by unfold N0;simp)
  obtain⟨J',β',A,B⟩:=Step.take (d:=nid d+14) S hb hd hn hβ (by omega) he hc (by rw[e2];exact hp) hdn
  rw[e2] at A B
  rw[hpn] at B
  refine⟨J',β',A,fun j y hj=>?_,B⟩
  simp only[Ac]
  rw[Aa,Aa]
  simp only at hj
  cases h6:Nat.beq j (nid d+14) with
  | true=>rw[h6] at hj;simp at hj;subst hj;rw[if_pos (Nat.eq_of_beq_eq_true h6)]
  | false =>
   rw[h6,cond_false] at hj
   rw[if_neg (G9 h6)]
   cases h7:Nat.beq j b with
   | true=>rw[h7] at hj;simp at hj;subst hj;rw[if_pos (Nat.eq_of_beq_eq_true h7)]
   | false=>rw[h7,cond_false] at hj;rw[if_neg (G9 h7)];exact hl j y hj
 ·exact⟨g,s,[],hh,fun hi=>by simp[Al] at hi,fun us _=>⟨J,β,Step.refl S,hl,hs⟩⟩
theorem OH {el:TypeId} {sz:Nat} {x:AV} {k:LA×Nat×Bool→O R} (hh:Q6 P el g sz x k=some r):∃ q,k q=some r:=by
 unfold Q6 at hh
 obtain⟨q,_,h1⟩:=ub hh
 unfold Ke at h1
 cases hp:NK P el with
 | true=>rw[hp] at h1;exact⟨_,h1⟩
 | false=>rw[hp,cond_false] at h1;exact⟨_,(uc h1).2⟩
theorem MA {d:Nat} {t tx:TypeId} {s x:AV} {k:AV→By→O R} (hh:Nz P g d t tx s x k=some r):∃ val ups,k val ups=some r:=by
 unfold Nz at hh
 split at hh
 ·obtain⟨_,h1⟩:=uc hh
  obtain⟨_,_,h2⟩:=ub h1
  obtain⟨_,_,h3⟩:=ub h2
  obtain⟨_,_,h4⟩:=ub h3
  obtain⟨_,_,h5⟩:=ub h4
  obtain⟨_,h6⟩:=OH h5
  obtain⟨_,h7⟩:=uc h6
  exact⟨_,_,h7⟩
 ·simp at hh
theorem AH {u us:By} {b:Nat}:Al (u++us) b=(Al u b||Al us b):=by
 induction u with
 | nil=>simp[Al]
 | cons p r ih=>rw[List.cons_append,Al,Al,ih];cases Nat.beq p.1 b<;>rfl
theorem FM {d:Nat} {t tx ty:TypeId} {s x:AV} {vs vx:Value} {k:AV→By→O R} (S:SimH J β h w) (hl:Looks g h) (hh:Pb P g d t tx s x k=some r) (hs:Rep J β h w s vs) (hx:Rep J β h w x vx) :
  ∃ val ups,k val ups=some r∧(UpsFree d h ups→∃ u w',(Builtin.append_ #[t,tx] ty #[vs,vx]).run P w=.ok u w'∧OpDone J β h w ups val u w'):=by
 unfold Pb at hh
 obtain⟨g',s',u,h1,h0,h2⟩:=OG S hl hh hs
 by_cases hf:UpsFree d h u
 ·obtain⟨J1,β1,A,hl1,hs1⟩:=h2 [] (fun b hb=>hf b (by rw[AH] at hb;simpa[Al] using hb))
  obtain⟨val,ups,h3,h4,h5⟩:=FF (ty:=ty) A.sim hl1 h1 hs1 (Rep.ext A.ext hx)
  refine⟨val,u++ups,h3,fun hf2=>?_⟩
  by_cases hu:Al u (nid d)=true
  ·have hn:=hf.nid hu
   obtain⟨y,hy⟩:=h0 hu
   rw[hn] at hy;cases hy
  ·obtain⟨v,w',h6,h7⟩:=h5 (by rw[A9 _ _ _ (by simpa using hu)];exact hf2.nid (by rw[AH,h4,Bool.or_true]))
   obtain⟨J2,β2,B,hv⟩:=h7
   exact⟨v,w',h6,OpDone.after A ⟨J2,β2,B,hv⟩ (fun k=>B.ext.size 0 k 0 trivial)⟩
 ·obtain⟨val,ups,h3⟩:=MA h1
  exact⟨_,_,h3,fun hf2=>absurd (fun b hb hb2=>hf2 b (by rw[AH,hb];rfl) hb2) hf⟩
theorem CY {d:Nat} {t:TypeId} {l c:AV} {vl vc:Value} {k:AV→By→O R} (S:SimH J β h w) (hh:Me P d t l c k=some r) (hl:Rep J β h w l vl) (hc:Rep J β h w c vc) :
  ∃ val ups,k val ups=some r∧(UpsFree d h ups→∃ u w',(Instr.makeSlice t vl vc).run P w=.ok u w'∧OpDone J β h w ups val u w'):=by
 unfold Me at hh
 split at hh
 ·rename_i el l c hu
  obtain⟨sz,hs,h1⟩:=ub hh
  obtain⟨by_,hb,h2⟩:=ub h1
  obtain⟨s,hz,h3⟩:=ub h2
  obtain⟨hq,h4⟩:=uc h3
  simp only[Bool.and_eq_true,decide_eq_true_eq] at hq
  obtain⟨q0,q1,q2,q3,q4⟩:=hq
  have q0:=Nat.eq_of_beq_eq_true q0
  subst q0;subst q2
  simp only[Rep] at hl hc;subst hl hc
  obtain⟨i,hi,hz'⟩:∃ i,P.info? el=some i∧i.zero=some (Sk s none):=by
   unfold VP at hz
   cases hi:P.info? el with
   | none=>simp[hi] at hz
   | some i =>
    refine⟨i,rfl,?_⟩
    rw[hi] at hz
    simp only[Option.bind_some] at hz
    split at hz
    ·rename_i e hu2 hz2
     obtain⟨s',_,h5⟩:=ub hz
     obtain⟨h6,h7⟩:=uc h5
     simp at h7;subst h7
     have h6:=Nat.le_of_ble_eq_true h6
     obtain⟨m,rfl⟩:∃ m,s'=m+1:=⟨s' - 1,by omega⟩
     exact hz2
    ·rename_i hz2
     obtain⟨_,h7⟩:=uc hz
     simp at h7;subst h7
     exact hz2
    ·cases hz
  have hs':i.size=1:=by simp[Av,hi] at hs;exact hs
  have hb':i.bytes=by_:=by simp[Up,hi] at hb;exact hb
  have hcl:(Sk s none).cells=#[Sk s none]:=by cases s<;>rfl
  refine⟨_,_,h4,fun hn=>⟨_,_,run_make w t el i _ hu hi hz' _ _ l l q1 (Int.le_refl _) (by rw[hb',Int.mul_comm];omega) (by omega),?_⟩⟩
  have hdn:Ad h (nid d)=none:=hn.nid (by simp[Al])
  rw[hs',hcl]
  obtain⟨β',A,hβ'⟩:=Step.newRow (s:=s) (n:=l.toNat) (cs:=madeCells #[Sk s none] (l.toNat*1)) (ty:=el) S hdn (by rw[size_madeCells];omega) (fun j hj=>by
   simp[madeCells,hj,Nat.mod_one])
  refine⟨_,β',A,?_⟩
  rw[Rep]
  refine⟨⟨_,rfl⟩,{ dead:=false,sealed:=false,pure:=true,taint:=false,sz:=s+2,cells:=List.replicate l.toNat .nsl,mp:=true },⟨by simp[Ac,Aa],rfl⟩,.inr ⟨_,_,hβ',by simp[Ak],by simp,rfl⟩⟩
 ·simp at hh
theorem MB {b n:Nat} {x:Blk} {v:Value} (S:SimH J β h w) (hb:Ad h b=some x) (hd:x.dead=false) (hn:Ak x=true) (h3:3≤x.sz) (hc:x.cells.all E'=true) (hv:Rep J β h w (.nd b (.whole n)) v) :
  ∃ J' β',Step J β h w J' β' (Ac [(b,none)] h) w∧Rep J' β' (Ac [(b,none)] h) w (.imm x.cells n 1 false false) v:=by
 obtain⟨k,o,hβ,hN,_,hs,hm,_⟩:=Ir S hb hd hn
 obtain⟨_,k',o',h1,_,hl,rfl⟩:=BO hb hd hv
 rw[hβ] at h1;simp at h1;obtain⟨rfl,rfl⟩:=h1
 obtain⟨ht,cs,ty,fr,hk,hfr,hcs,hdl,hall,huq⟩:=hN
 have hH:∀ c,Ad (Ac [(b,none)] h) c=if c=b then some { x with dead:=true,pure:=true,cells:=[] } else Ad h c:=by
  intro c;simp only[Ac,hb];rw[Aa]
 obtain⟨β',A⟩:=Step.freeze (H:=Ac [(b,none)] h) (x':={ x with dead:=true,pure:=true,cells:=[] }) S hb hd hs (fun c hc=>by rw[hH,if_neg hc]) (by rw[hH,if_pos rfl]) rfl rfl
 refine⟨_,β',A,?_⟩
 rw[Rep,RepC]
 refine⟨by omega,_,n,rfl,Nat.le_refl _,by simp,.inr ⟨_,rfl,.inr (.inr (Terr.at hβ)),?_⟩⟩
 rw[Ay]
 intro j c hj
 have hlt:j<x.cells.length:=(List.getElem?_eq_some_iff.1 hj).1
 obtain⟨e,he⟩:∃ e,(dec o)[j]?=some e:=⟨_,List.getElem?_eq_getElem (by omega)⟩
 obtain⟨c1,hc1,hv1,hI⟩:=hall j e he
 rw[hj] at hc1;simp at hc1;subst hc1
 refine⟨Sk (x.sz - 2) e,by rw[Addr.add_mid,Dq hk];simpa using hv1,?_⟩
 have hh:E' c=true:=(List.all_eq_true.1 hc) c (List.mem_of_getElem? hj)
 obtain⟨m,hm1⟩:∃ m,x.sz - 2=m+1:=⟨x.sz - 3,by omega⟩
 rw[hm1] at hI ⊢
 match e,he,hI with
 | none,he,hI =>
  rcases hI with rfl | rfl
  ·rw[RepC];rfl
  ·simp[E'] at hh
 | some (false,_,_,_,_),he,hI=>simp[InnerIs] at hI;subst hI;simp[E'] at hh
 | some (true,kk,a,n',cap),he,hI =>
  obtain⟨l,cs2,ty2,fr2,rfl,g1,g2,g3,g4,g5,g6⟩:=hI
  rw[Bo,RepC]
  refine⟨g1,_,cap,rfl,g2,by simp,.inr ⟨_,rfl,.inr (.inr ⟨_,o,hβ,.inr ⟨hn,j,a,n',cap,he⟩⟩),?_⟩⟩
  refine RepCs.keep (fun k hk=>.inl hk) (fun _ _=>rfl) (fun j=>?_) g6
  rw[Addr.add_mid,Dq g3]
end
end Gx

namespace Gx
open Go
def X3 (E:Env):Prop:=∀ (R:Type) (r:R) (k:AV→By→O R) (J:Bool→Nat→Prop) (β:Au) (h:Ai) (w:World) (g:Aq) (d f:Nat) (args:LA) (vs:List Value),
 SimH J β h w→Looks g h→JY E g d f args k=some r→Reps J β h w args vs →
 ∃ val ups,k val ups=some r∧(UpsFree d h ups→Calls E.P f vs.toArray w fun e w'=>∃ vc,e=.returned vc∧OpDone J β h w ups val vc w')
section
variable {R:Type} {r:R} {P:Program} {J J':Bool→Nat→Prop} {β:Au} {h:Ai} {w w':World} {g:Aq} {o:Oper} {a:Act} {next:Act→World→Prop} {Q:Exit→Act→World→Prop}
theorem Cn {vc:Value} (hrun:(execOp a.eval o).run P w=.ok (.value vc) w') (hn:next (a.put o.dst vc) w'):o.wp P a w next Q:=by
 unfold Oper.wp;rw[hrun];exact hn
theorem FN (hrun:(execOp a.eval o).run P w=.ok .skip w') (hn:next (a.put o.dst undef) w'):o.wp P a w next Q:=by
 unfold Oper.wp;rw[hrun];exact hn
theorem OpDone.same (S:SimH J β h w) {v:AV} {vc:Value} (hv:Rep J β h w v vc):OpDone J β h w [] v vc w:=⟨J,β,Step.refl S,hv⟩
theorem FO {s:Do} (SS:SimS J β h w s a.tmps):∀ (xs:List Operand),Reps J β h w (xs.map (ev s)) (xs.map a.eval)
 | []=>by simp[Reps]
 | x::r=>by rw[List.map_cons,List.map_cons,Reps];exact⟨_,_,rfl,An SS x,FO SS r⟩
theorem Lz {s:Do} (SS:SimS J β h w s a.tmps):∀ (ps:List (Nat×Operand)),RepParts J β h w (ps.map fun p=>(p.1,ev s p.2)) (ps.map fun p=>(p.1,a.eval p.2))
 | []=>by simp[RepParts]
 | p::r=>by rw[List.map_cons,List.map_cons,RepParts];exact⟨_,_,rfl,An SS p.2,Lz SS r⟩
theorem FP {s:Do} (SS:SimS J β h w s a.tmps) (x:Option Operand):Ns J β h w (x.map (ev s)) (x.map a.eval):=by
 cases x with
 | none=>simp[Ns]
 | some x=>simp[Ns];exact An SS x
theorem Reps.append:∀ {c c':LA} {cs cs':List Value},Reps J β h w c cs→Reps J β h w c' cs'→Reps J β h w (c++c') (cs++cs')
 | [],c',cs,cs',h1,h2=>by rw[Reps] at h1;subst h1;exact h2
 | x::r,c',cs,cs',h1,h2=>by
  rw[Reps] at h1
  obtain⟨u,us,rfl,h3,h4⟩:=h1
  rw[List.cons_append,List.cons_append,Reps]
  exact⟨u,us++cs',rfl,h3,Reps.append h4 h2⟩
theorem OI {J:Nat→Prop}:∀ {c:LA} {cs:List Value},Cr c=true→Reps (fun _ _=>False) (fun _=>none) [] w c cs→RepCs J w c (fun j=>cs[j]?) 0∧cs.length=c.length:=by
 intro c cs hp hr
 rw[Bb] at hr
 refine⟨?_,hr.1⟩
 rw[Ay]
 intro j x hj
 have hlt:j<cs.length:=by rw[hr.1];exact(List.getElem?_eq_some_iff.1 hj).1
 refine⟨cs[j],by simp[hlt],?_⟩
 have h1:=hr.2 j x cs[j] hj (List.getElem?_eq_getElem hlt)
 have h2:Cr [x]=true:=by
  clear hr h1 hlt
  induction c generalizing j with
  | nil=>simp at hj
  | cons y r ih =>
   have hpr:Cr r=true:=by unfold Cr at hp;split at hp<;>simp_all
   cases j with
   | zero=>simp at hj;subst hj;cases y<;>simp_all[Cr]
   | succ j=>exact ih hpr j (by simpa using hj)
 cases x<;>simp[Cr] at h2<;>(rw[Rep] at h1;rw[RepC];exact h1)
theorem UG {co:Bool} {v:AV} {vv:Value} (h0:∀ (J:Bool→Nat→Prop) (β:Au) (h:Ai),Rep J β h w v vv):Rep J β h w (VL co v) vv:=by
 unfold VL
 split
 ·rename_i c
  cases hp:Cr c with
  | false=>exact h0 J β h
  | true =>
   have h1:=h0 (fun _ _=>False) (fun _=>none) []
   rw[Rep] at h1
   obtain⟨cs,rfl,h2⟩:=h1
   obtain⟨h3,h4⟩:=OI (J:=J false) hp h2
   rw[cond_true,Rep]
   exact⟨cs,rfl,h4,h3⟩
 ·exact h0 J β h
theorem X4 {d:Nat}:∀ {l:List (Nat×Nat)} {j:Nat} {c:LA},1≤j→Al (Dc d l j c).2 (nid d)=false
 | [],_,_,_=>by simp[Dc,Al]
 | (o,sz)::l,j,c,hj=>by
  rw[Dc]
  split
  ·simp only[Al]
   rw[Ph (by omega),cond_false]
   exact X4 (by omega)
  ·exact X4 (by omega)
theorem IV {d:Nat} {t:TypeId} {k:AV→By→O R} (S:SimH J β h w) (hh:Wb P g d t k=some r) :
  ∃ v val ups,(∃ i,P.info? t=some i∧i.zero=some v)∧k val ups=some r∧(UpsFree d h ups→∃ vc w',(Instr.box t v).run P w=.ok vc w'∧OpDone J β h w ups val vc w'):=by
 unfold Wb at hh
 split at hh
 ·rename_i c hz
  obtain⟨hc,h1⟩:=uc hh
  simp only[Bool.and_eq_true] at hc
  obtain⟨hb,hst⟩:=hc
  obtain⟨v,hv,he⟩:∃ v,(∃ i,P.info? t=some i∧i.zero=some v)∧Zu v=.agg c:=by
   unfold ER at hz
   cases hi:P.info? t with
   | none=>simp[hi] at hz
   | some i =>
    cases hiz:i.zero with
    | none=>simp[hi,hiz] at hz
    | some v=>simp[hi,hiz] at hz;exact⟨v,⟨i,rfl,hiz⟩,hz⟩
  have hr:=Re (J:=J) (β:=β) (h:=h) (w:=w) v
  rw[he,Rep] at hr
  obtain⟨cs,rfl,hr⟩:=hr
  refine⟨_,_,_,hv,h1,fun hf=>⟨_,_,Rj,?_⟩⟩
  have hn:=hf.nid (by simp[Ec,Io,Al])
  obtain⟨β',A,hA⟩:=Km (d:=d) (l:=Ip P t) (j:=1) S (Nat.le_refl _) (by simp at hb;omega) (fun i hi hi2 hin=>hf _ (by rw[Ec,hin];rfl) (by unfold N0;simp;omega)) hr
  have hn':Ad (Ac (Dc d (Ip P t) 1 c).2 h) (nid d)=none:=by rw[A9 _ _ _ (X4 (Nat.le_refl _))];exact hn
  have hone:∀ (j:Nat) u,cs[j]?=some u→u.oneCell'=true:=fun j u hu=>by
   rw[Bb] at hr
   have hlt:j<c.length:=by rw[←hr.1];exact(List.getElem?_eq_some_iff.1 hu).1
   exact Gt (Ly hst j c[j] (List.getElem?_eq_getElem hlt)) (hr.2 j c[j] u (List.getElem?_eq_getElem hlt) hu)
  rw[Bb] at hA
  refine OpDone.after A (Wi A.sim hn' rfl rfl (by simp[Value.cells,hA.1]) ⟨fun hp=>by simp at hp,fun _ j y hj=>?_⟩) (Hx _ _)
  have hlt:j<cs.length:=by rw[hA.1];exact(List.getElem?_eq_some_iff.1 hj).1
  exact⟨cs[j],by simp[Value.cells,hlt],hA.2 j y _ hj (List.getElem?_eq_getElem hlt),hone j _ (List.getElem?_eq_getElem hlt)⟩
 ·simp at hh
theorem MC {co:Bool} {d:Nat} {t:TypeId} {k:AV→By→O R} (S:SimH J β h w) (hl:Looks g h) (hh:Z1 P g co d t k=some r) :
  ∃ v val ups,(∃ i,P.info? t=some i∧i.zero=some v)∧k val ups=some r∧(UpsFree d h ups→∃ vc w',(Instr.box t v).run P w=.ok vc w'∧OpDone J β h w ups val vc w'):=by
 have zv:∀ {z:AV},ER P t=some z→∃ v,(∃ i,P.info? t=some i∧i.zero=some v)∧Zu v=z:=by
  intro z hz
  unfold ER at hz
  cases hi:P.info? t with
  | none=>simp[hi] at hz
  | some i =>
   cases hiz:i.zero with
   | none=>simp[hi,hiz] at hz
   | some v=>simp[hi,hiz] at hz;exact⟨v,⟨i,rfl,hiz⟩,hz⟩
 unfold Z1 at hh
 split at hh
 ·rename_i el hu hz
  obtain⟨v,hv,he⟩:=zv hz
  obtain⟨sz,hs,hh⟩:=ub hh
  refine⟨v,_,_,hv,hh,fun hf=>⟨_,_,Rj,?_⟩⟩
  have hr:=Re (J:=J) (β:=β) (h:=h) (w:=w) v
  rw[he,Rep] at hr;subst hr
  have hnw:∀ b,b=nid d+1→N0 d b=true:=fun b hb=>by subst hb;unfold N0 nid;simp
  have h1:Ad h (nid d+1)=none:=hf _ (by simp[Al]) (hnw _ rfl)
  have h2:Ad h (nid d)=none:=hf.nid (by simp[Al])
  have A:=Step.newNone S (d:=nid d+1) (x:=C5 sz) h1 rfl
  have e:([(nid d+1,some (C5 sz)),(nid d,some { dead:=false,sealed:=false,pure:=false,taint:=false,sz:=0,cells:=[.own (nid d+1) 0 0] })]:By)=[(nid d+1,some (C5 sz))]++[(nid d,some { dead:=false,sealed:=false,pure:=false,taint:=false,sz:=0,cells:=[.own (nid d+1) 0 0] })]:=rfl
  rw[e]
  refine OpDone.after A (Wi A.sim ?_ rfl rfl (by simp[Value.cells]) ⟨fun hp=>by simp at hp,fun _ j y hj=>?_⟩) (Hx _ _)
  ·simp only[Ac];rw[Aa,if_neg (by omega)];exact h2
  ·cases j with
   | zero =>
    simp at hj;subst hj
    refine⟨.slice none 0 0,by simp[Value.cells],?_,rfl⟩
    rw[Rep]
    exact⟨C5 sz,none,0,⟨by simp[Ac,Aa],rfl⟩,rfl,Nat.le_refl _,.inl rfl⟩
   | succ j=>simp at hj
 ·rename_i z hz _
  obtain⟨v,hv,he⟩:=zv hz
  obtain⟨val,ups,h1,h2⟩:=FC S hl hh (vv:=v) (UG fun J β h=>by rw[←he];exact Re v)
  exact⟨v,val,ups,hv,h1,h2⟩
 ·simp at hh
theorem OJ {c x y:AV} {vc vx vy:Value} {k:AV→O R} (hh:JZ c x y k=some r) (hc:Rep J β h w c vc) (hx:Rep J β h w x vx) (hy:Rep J β h w y vy) :
  ∃ v,k v=some r∧∃ t:Bool,vc=.bool t∧Rep J β h w v (if t then vx else vy):=by
 unfold JZ at hh
 split at hh
 ·rename_i t a b
  rw[Rep] at hc hx hy
  subst hc hx hy
  exact⟨_,hh,t,rfl,by cases t<;>simp[Rep]⟩
 ·rename_i t x _
  rw[Rep] at hc;subst hc
  obtain⟨ht,h1⟩:=uc hh
  subst ht
  exact⟨_,h1,true,rfl,hx⟩
 ·rename_i t _ _ _
  rw[Rep] at hc;subst hc
  obtain⟨ht,h1⟩:=QM hh
  subst ht
  exact⟨_,h1,false,rfl,hy⟩
 ·rename_i t _ _ _
  rw[Rep] at hc;subst hc
  cases t
  ·exact⟨_,hh,false,rfl,hy⟩
  ·exact⟨_,hh,true,rfl,hx⟩
 ·simp at hh
theorem QV {E:Env} (hC:X3 E) {d:Nat} {s:Do} {k:AV→By→O R} (S:SimH J β h w) (SS:SimS J β h w s a.tmps) (hl:Looks g h)
  (hh:IR E g d (ev s) o.op k=some r) :
  ∃ val ups,k val ups=some r∧(UpsFree d h ups→(∀ vc w',OpDone J β h w ups val vc w'→next (a.put o.dst vc) w')→o.wp E.P a w next Q):=by
 unfold IR at hh
 have same:∀ {v:AV} {vc:Value},k v []=some r→(execOp a.eval o).run E.P w=.ok (.value vc) w→Rep J β h w v vc →
   ∃ val ups,k val ups=some r∧(UpsFree d h ups→(∀ vc w',OpDone J β h w ups val vc w'→next (a.put o.dst vc) w')→o.wp E.P a w next Q) :=
  fun hk hrun hr=>⟨_,_,hk,fun _ hn=>Cn hrun (hn _ _ (OpDone.same S hr))⟩
 split at hh
 ·rename_i x ho
  exact same hh (by simp[execOp,ho]) (An SS x)
 ·rename_i x ho
  exact same hh (by simp[execOp,ho]) (An SS x)
 ·rename_i c x y ho
  obtain⟨v,h1,h2⟩:=OJ hh (An SS c) (An SS x) (An SS y)
  obtain⟨t,ht,hr⟩:=h2
  refine same h1 (vc:=if t then a.eval x else a.eval y) ?_ hr
  cases t<;>simp[execOp,ho,ht,Go.asBool]
 ·rename_i t ho
  obtain⟨v,val,ups,h0,h1,h2⟩:∃ v val ups,(∃ i,E.P.info? t=some i∧i.zero=some v)∧k val ups=some r∧(UpsFree d h ups→∃ vc w',(Instr.box t v).run E.P w=.ok vc w'∧OpDone J β h w ups val vc w'):=by
   cases hm:Dp E.cob (d+1000000) with
   | true=>rw[hm] at hh;exact IV S hh
   | false=>rw[hm] at hh;exact MC S hl hh
  refine⟨val,ups,h1,fun hf hn=>?_⟩
  obtain⟨vc,w',h3,h4⟩:=h2 hf
  refine Cn ?_ (hn vc w' h4)
  rw[Rj] at h3
  simp only[Result.ok.injEq] at h3
  obtain⟨rfl,rfl⟩:=h3
  obtain⟨i,hi,hiz⟩:=h0
  simp[execOp,ho,Instr.alloc,zeroValue,typeInfo,hi,hiz,newVar,newRow]
 ·rename_i t x ho
  obtain⟨v',h0,hv'⟩:=LS hh (An SS x)
  obtain⟨val,ups,h1,h2⟩:=FC S hl h0 hv'
  refine⟨val,ups,h1,fun hf hn=>?_⟩
  obtain⟨vc,w',h3,h4⟩:=h2 hf
  exact Cn (by simp[execOp,ho,h3]) (hn vc w' h4)
 ·rename_i t parts ho
  rw[X1] at hh
  obtain⟨v,hv,hh⟩:=ub hh
  obtain⟨u,h1,h2⟩:=LZ (P:=E.P) S hv (Lz SS parts.toList)
  obtain⟨val,ups,h3,h4⟩:=QS S hh h2
  refine⟨val,ups,h3,fun hf hn=>Cn ?_ (hn _ _ (h4 hf))⟩
  have:(parts.map fun p=>(p.1,a.eval p.2))=(parts.toList.map fun p=>(p.1,a.eval p.2)).toArray:=by apply Array.ext';simp
  simp[execOp,ho,this,h1]
 ·rename_i t len parts ho
  have:(parts.map fun p=>(p.1,a.eval p.2))=(parts.toList.map fun p=>(p.1,a.eval p.2)).toArray:=by apply Array.ext';simp
  cases hhard:(parts.toList.map fun p=>(p.1,ev s p.2)).any fun p=>VM p.2 with
  | true =>
   rw[hhard] at hh
   obtain⟨val,ups,h1,h2⟩:=AG S hh (Lz SS parts.toList)
   refine⟨val,ups,h1,fun hf hn=>?_⟩
   obtain⟨vc,w',h3,h4⟩:=h2 hf
   exact Cn (by simp[execOp,ho,this,h3]) (hn vc w' h4)
  | false =>
   rw[hhard] at hh
   obtain⟨val,ups,h1,h2⟩:=Yz S hl hh (Lz SS parts.toList)
   refine⟨val,ups,h1,fun hf hn=>?_⟩
   obtain⟨vc,w',h3,h4⟩:=h2 hf
   exact Cn (by simp[execOp,ho,this,h3]) (hn vc w' h4)
 ·rename_i t p ho
  obtain⟨v,vc,h1,h2,h3⟩:=BP S hl hh (An SS p)
  exact same h1 (by simp[execOp,ho,h2]) h3
 ·rename_i t p x ho
  obtain⟨val,ups,h1,J',β',w',h2,h3,rfl⟩:=LR S hl hh (An SS p) (An SS x)
  exact⟨.undef,ups,h1,fun _ hn=>FN (w':=w') (by simp[execOp,ho,h2]) (hn undef w' ⟨J',β',h3,by simp[Rep]⟩)⟩
 ·rename_i x ho
  have h1:=An SS x
  split at hh
  ·rename_i c oo hx
   rw[hx] at h1
   refine same hh (vc:=a.eval x) ?_ h1
   rw[Rep,RepC] at h1
   obtain⟨ad,h2,_⟩:=h1
   simp[execOp,ho,h2]
  ·rename_i b oo hx
   rw[hx] at h1
   refine same hh (vc:=a.eval x) ?_ h1
   rw[Rep] at h1
   obtain⟨_,kk,o',_,h2,_⟩:=h1
   simp[execOp,ho,h2]
  ·simp at hh
 ·rename_i op t x y t2 ho
  obtain⟨v,vc,h1,h2,h3⟩:=OA S hl hh (An SS x) (An SS y) x y
  refine same h1 ?_ h3
  simp only[execOp,ho]
  rw[Sem.run_bind,h2];simp
 ·rename_i op t x ho
  obtain⟨v,hv,hh⟩:=ub hh
  obtain⟨vc,h2,h3⟩:=UB (P:=E.P) hv (An SS x)
  exact same hh (by simp[execOp,ho,h2]) h3
 ·rename_i src dst x ho
  obtain⟨val,ups,h1,h2⟩:=LX S hl hh (An SS x)
  refine⟨val,ups,h1,fun hf hn=>?_⟩
  obtain⟨vc,w',h3,h4⟩:=h2 hf
  exact Cn (by simp[execOp,ho,h3]) (hn vc w' h4)
 ·rename_i f first caps ho
  obtain⟨hf,hh⟩:=uc hh
  have hf':f<1000000:=by simpa using hf
  have key:∀ (a n:Nat),a<1000000→(a+1000000*n)%1000000=a∧(a+1000000*n)/1000000=n:=by intro a n h;omega
  have e1:=(key f first.toList.length hf').1
  have e2:=(key f first.toList.length hf').2
  refine same (vc:=.func (.func f) ⟨first.toList.map a.eval⟩ ⟨caps.toList.map a.eval⟩) hh ?_ ?_
  ·simp only[execOp,ho,Instr.makeFunc]
   simp
   refine⟨?_,?_⟩<;>(apply Array.ext';simp)
  ·rw[Rep,e1,e2]
   refine⟨(first.toList++caps.toList).map a.eval,?_,FO SS _⟩
   simp
 ·rename_i t l c ho
  obtain⟨val,ups,h1,h2⟩:∃ val ups,k val ups=some r∧(UpsFree d h ups→∃ u w',(Instr.makeSlice t (a.eval l) (a.eval c)).run E.P w=.ok u w'∧OpDone J β h w ups val u w'):=by
   cases hm:Dp E.cob (d+2000000) with
   | true=>rw[hm] at hh;exact CY S hh (An SS l) (An SS c)
   | false =>
    rw[hm,cond_false] at hh
    cases hm2:Dp E.cob (d+3000000) with
    | true=>rw[hm2] at hh;exact LU S hh (An SS l) (An SS c)
    | false=>rw[hm2] at hh;exact NT S hh (An SS l) (An SS c)
  refine⟨val,ups,h1,fun hf hn=>?_⟩
  obtain⟨vc,w',h3,h4⟩:=h2 hf
  exact Cn (by simp[execOp,ho,h3]) (hn vc w' h4)
 ·rename_i t x lo hi mx ho
  obtain⟨v,vc,h1,h2,h3⟩:=LP hl hh (An SS x) (FP SS lo) (FP SS hi) (FP SS mx)
  exact same h1 (by simp[execOp,ho,h2]) h3
 ·rename_i t x f ho
  obtain⟨v,vc,h1,h2,h3⟩:=AD hh (An SS x)
  exact same h1 (by simp[execOp,ho,h2]) h3
 ·rename_i t x f ho
  obtain⟨v,vc,h1,h2,h3⟩:=LN hh (An SS x)
  exact same h1 (by simp[execOp,ho,h2]) h3
 ·rename_i t x i ho
  obtain⟨v,vc,h1,h2,h3⟩:=AC hh (An SS x) (An SS i)
  exact same h1 (by simp[execOp,ho,h2]) h3
 ·rename_i t x i ho
  obtain⟨v,vc,h1,h2,h3⟩:=LO hh (An SS x) (An SS i)
  exact same h1 (by simp[execOp,ho,h2]) h3
 ·rename_i t rr ho
  cases rr with
  | some x=>simp[Ml] at hh
  | none =>
   obtain⟨val,ups,h1,h2⟩:=FK (P:=E.P) (t:=t) S hh
   refine⟨val,ups,h1,fun hf hn=>?_⟩
   obtain⟨vc,w',h3,h4⟩:=h2 hf
   exact Cn (by simp[execOp,ho,h3]) (hn vc w' h4)
 ·rename_i t m x y ho
  obtain⟨ups,h1,J',β',w',h2,h3⟩:=L' S hl hh (An SS m) (An SS x) (An SS y)
  exact⟨.undef,ups,h1,fun _ hn=>FN (w':=w') (by simp[execOp,ho,h2]) (hn undef w' ⟨J',β',h3,by simp[Rep]⟩)⟩
 ·rename_i t m x ho
  obtain⟨val,ups,h1,vc,w',h2,h3⟩:=CX S hl hh (An SS m) (An SS x)
  exact⟨val,ups,h1,fun _ hn=>Cn (by simp[execOp,ho,h2]) (hn vc w' h3)⟩
 ·rename_i t m x y ho
  obtain⟨ups,h1,J',β',w',h2,h3⟩:=Y1 (P:=E.P) (t:=t) S hl hh (An SS m) (An SS x) (An SS y)
  exact⟨.undef,ups,h1,fun _ hn=>FN (w':=w') (by simp[execOp,ho,h2]) (hn undef w' ⟨J',β',h3,by simp[Rep]⟩)⟩
 ·rename_i t m x c ho
  obtain⟨v,vc,h1,h2,h3⟩:=OE S hl hh (An SS m) (An SS x)
  exact same h1 (by simp[execOp,ho,h2]) h3
 ·rename_i t x ho
  obtain⟨val,ups,h1,h2⟩:=L_ (P:=E.P) S hh (An SS x)
  refine⟨val,ups,h1,fun hf hn=>?_⟩
  obtain⟨vc,w',h3,h4⟩:=h2 hf
  exact Cn (by simp[execOp,ho,h3]) (hn vc w' h4)
 ·rename_i x b ho
  obtain⟨val,ups,h1,h2⟩:=OC (P:=E.P) (d:=d) (t:=o.type) S hl hh (An SS x)
  refine⟨val,ups,h1,fun hf hn=>?_⟩
  obtain⟨vc,w',h3,h4⟩:=h2 hf
  exact Cn (by simp[execOp,ho,h3]) (hn vc w' h4)
 ·rename_i t i ho
  split at hh
  ·rename_i vs ht
   obtain⟨v,hv,hh⟩:=ub hh
   have h1:=An SS t
   rw[ht,Rep] at h1
   obtain⟨cs,h2,h3⟩:=h1
   rw[Bb] at h3
   have hlt:i<cs.length:=by rw[h3.1];exact(List.getElem?_eq_some_iff.1 hv).1
   refine same hh (vc:=cs[i]) ?_ (h3.2 i v _ hv (List.getElem?_eq_getElem hlt))
   simp[execOp,ho,Instr.extract,h2,hlt]
  ·simp at hh
 ·rename_i c ho
  split at hh
  ·rename_i hc
   split at hh
   ·rename_i x t h1 h2
    have e1:c.args=#[x]:=by apply Array.ext';simpa using h1
    have e2:c.argTypes=#[t]:=by apply Array.ext';simpa using h2
    obtain⟨v,vc,hv,h3,h4⟩:=OF (P:=E.P) (ty:=o.type) S hl hh (An SS x)
    refine same hv ?_ h4
    simp[execOp,ho,resolve,hc,e1,e2,invoke,builtin,h3]
   ·simp at hh
  ·rename_i hc
   split at hh
   ·rename_i x y t tx h1 h2
    have e1:c.args=#[x,y]:=by apply Array.ext';simpa using h1
    have e2:c.argTypes=#[t,tx]:=by apply Array.ext';simpa using h2
    obtain⟨val,ups,h3,h4⟩:=FM (ty:=o.type) S hl hh (An SS x) (An SS y)
    refine⟨val,ups,h3,fun hf hn=>?_⟩
    obtain⟨vc,w',h5,h6⟩:=h4 hf
    refine Cn ?_ (hn vc w' h6)
    simp[execOp,ho,resolve,hc,e1,e2,invoke,builtin,h5]
   ·simp at hh
  ·rename_i hc
   split at hh
   ·rename_i x y t tx h1 h2
    have e1:c.args=#[x,y]:=by apply Array.ext';simpa using h1
    have e2:c.argTypes=#[t,tx]:=by apply Array.ext';simpa using h2
    obtain⟨val,ups,h3,vc,w',h5,h6⟩:=IU (P:=E.P) (tk:=tx) (ty:=o.type) S hl hh (An SS x) (An SS y)
    refine⟨val,ups,h3,fun hf hn=>?_⟩
    refine Cn ?_ (hn vc w' h6)
    simp[execOp,ho,resolve,hc,e1,e2,invoke,builtin,h5]
   ·simp at hh
  ·rename_i hc
   split at hh
   ·rename_i x y t tx h1 h2
    have e1:c.args=#[x,y]:=by apply Array.ext';simpa using h1
    have e2:c.argTypes=#[t,tx]:=by apply Array.ext';simpa using h2
    obtain⟨val,ups,h3,vc,w',h5,h6⟩:=NX (tx:=tx) (ty:=o.type) S hl hh (An SS x) (An SS y)
    refine⟨val,ups,h3,fun hf hn=>?_⟩
    refine Cn ?_ (hn vc w' h6)
    simp[execOp,ho,resolve,hc,e1,e2,invoke,builtin,h5]
   ·simp at hh
  ·rename_i hc
   split at hh
   ·rename_i x t h1 h2
    have e1:c.args=#[x]:=by apply Array.ext';simpa using h1
    have e2:c.argTypes=#[t]:=by apply Array.ext';simpa using h2
    obtain⟨val,ups,h3,vc,w',h5,h6⟩:=LW (ty:=o.type) S hl hh (An SS x)
    refine⟨val,ups,h3,fun hf hn=>?_⟩
    refine Cn ?_ (hn vc w' h6)
    simp[execOp,ho,resolve,hc,e1,e2,invoke,builtin,h5]
   ·simp at hh
  ·rename_i hc
   split at hh
   ·rename_i x y h1
    obtain⟨v,hv,hh⟩:=ub hh
    have e1:c.args=#[x,y]:=by apply Array.ext';simpa using h1
    have h2:=An SS x
    have h3:=An SS y
    unfold T_ at hv
    split at hv
    ·rename_i k1 a1 k2 a2 hx hy
     simp at hv;subst hv
     rw[hx,Rep] at h2;rw[hy,Rep] at h3
     refine same hh (vc:=.int k1 (TY a1 a2)) ?_ (by rw[Rep])
     simp[execOp,ho,resolve,hc,e1,invoke,builtin,h2,h3,Builtin.min_,Builtin.min2,TY,cond_eq_ite]
    ·simp at hv
   ·rename_i x y z h1
    obtain⟨q,hq,hh⟩:=ub hh
    obtain⟨v,hv,hh⟩:=ub hh
    have e1:c.args=#[x,y,z]:=by apply Array.ext';simpa using h1
    have h2:=An SS x
    have h3:=An SS y
    have h4:=An SS z
    unfold T_ at hq
    split at hq
    ·rename_i k1 a1 k2 a2 hx hy
     simp at hq;subst hq
     unfold T_ at hv
     split at hv
     ·rename_i k3 a3 k4 a4 hx2 hz
      simp at hx2;obtain⟨rfl,rfl⟩:=hx2
      simp at hv;subst hv
      rw[hx,Rep] at h2;rw[hy,Rep] at h3;rw[hz,Rep] at h4
      refine same hh (vc:=.int k1 (TY (TY a1 a2) a4)) ?_ (by rw[Rep])
      simp[execOp,ho,resolve,hc,e1,invoke,builtin,h2,h3,h4,Builtin.min_,Builtin.min2,TY,cond_eq_ite]
     ·simp at hv
    ·simp at hq
   ·simp at hh
  ·rename_i hc
   split at hh
   ·rename_i x y h1
    obtain⟨v,hv,hh⟩:=ub hh
    have e1:c.args=#[x,y]:=by apply Array.ext';simpa using h1
    have h2:=An SS x
    have h3:=An SS y
    unfold T' at hv
    split at hv
    ·rename_i k1 a1 k2 a2 hx hy
     simp at hv;subst hv
     rw[hx,Rep] at h2;rw[hy,Rep] at h3
     refine same hh (vc:=.int k1 (TZ a1 a2)) ?_ (by rw[Rep])
     simp[execOp,ho,resolve,hc,e1,invoke,builtin,h2,h3,Builtin.max_,Builtin.max2,TZ,cond_eq_ite]
    ·simp at hv
   ·rename_i x y z h1
    obtain⟨q,hq,hh⟩:=ub hh
    obtain⟨v,hv,hh⟩:=ub hh
    have e1:c.args=#[x,y,z]:=by apply Array.ext';simpa using h1
    have h2:=An SS x
    have h3:=An SS y
    have h4:=An SS z
    unfold T' at hq
    split at hq
    ·rename_i k1 a1 k2 a2 hx hy
     simp at hq;subst hq
     unfold T' at hv
     split at hv
     ·rename_i k3 a3 k4 a4 hx2 hz
      simp at hx2;obtain⟨rfl,rfl⟩:=hx2
      simp at hv;subst hv
      rw[hx,Rep] at h2;rw[hy,Rep] at h3;rw[hz,Rep] at h4
      refine same hh (vc:=.int k1 (TZ (TZ a1 a2) a4)) ?_ (by rw[Rep])
      simp[execOp,ho,resolve,hc,e1,invoke,builtin,h2,h3,h4,Builtin.max_,Builtin.max2,TZ,cond_eq_ite]
     ·simp at hv
    ·simp at hq
   ·simp at hh
  ·rename_i hc
   split at hh
   ·rename_i x h1
    have e1:c.args=#[x]:=by apply Array.ext';simpa using h1
    obtain⟨val,ups,h3,h4⟩:=AE (P:=E.P) (d:=d) (ts:=c.argTypes) (ty:=o.type) S hl hh (An SS x)
    refine⟨val,ups,h3,fun hf hn=>?_⟩
    obtain⟨vc,w',h5,h6⟩:=h4 hf
    refine Cn ?_ (hn vc w' h6)
    simp[execOp,ho,resolve,hc,e1,invoke,builtin,h5]
   ·simp at hh
  ·rename_i hc
   split at hh
   ·rename_i x y t tx h1 h2
    have e1:c.args=#[x,y]:=by apply Array.ext';simpa using h1
    have e2:c.argTypes=#[t,tx]:=by apply Array.ext';simpa using h2
    obtain⟨val,ups,h3,h4⟩:=AF (d:=d) (it:=tx) (ty:=o.type) S hl hh (An SS x) (An SS y)
    refine⟨val,ups,h3,fun hf hn=>?_⟩
    obtain⟨vc,w',h5,h6⟩:=h4 hf
    refine Cn ?_ (hn vc w' h6)
    simp[execOp,ho,resolve,hc,e1,e2,invoke,builtin,h5]
   ·simp at hh
  ·rename_i fo hc
   split at hh
   ·rename_i f0 caps hf
    have h1:=An SS fo
    rw[hf,Rep] at h1
    obtain⟨cs0,h2,h30⟩:=h1
    cases hbody:LJ E.P (f0%1000000) with
    | false =>
     rw[hbody,cond_false] at hh
     obtain⟨hne,hh⟩:=uc hh
     split at hh
     ·rename_i x hargs hold
      rw[Reps] at h30;subst h30
      obtain⟨y,hy,rfl⟩:∃ y,c.args=#[y]∧x=ev s y:=by
       cases hl:c.args.toList with
       | nil=>rw[hl] at hargs;cases hargs
       | cons y l =>
        rw[hl] at hargs;simp at hargs
        exact⟨y,by apply Array.ext';rw[hl,hargs.2],hargs.1.symm⟩
      refine same (vc:=a.eval y) hh ?_ (An SS y)
      simp only[execOp,ho,Sem.run_bind,resolve,hc,h2,Deferred.ofValue,Sem.run_pure,Result.andThen_ok,invoke,hy]
      simpa using UD hne (a.eval y) w
     ·simp at hh
    | true =>
    rw[hbody,cond_true] at hh
    have htk:Reps J β h w (caps.take (f0/1000000)) (cs0.take (f0/1000000))∧Reps J β h w (caps.drop (f0/1000000)) (cs0.drop (f0/1000000)):=by
     rw[Bb] at h30
     refine⟨Bb.2 ⟨by simp[h30.1],fun j x u hx hu=>?_⟩,Bb.2 ⟨by simp[h30.1],fun j x u hx hu=>?_⟩⟩
     ·rw[List.getElem?_take] at hx hu
      split at hx
      ·rename_i hj;rw[if_pos hj] at hu;exact h30.2 j x u hx hu
      ·simp at hx
     ·rw[List.getElem?_drop] at hx hu;exact h30.2 _ x u hx hu
    generalize f0%1000000=f at *
    generalize cs0.take (f0/1000000)=fs at *
    generalize cs0.drop (f0/1000000)=cs at *
    obtain⟨val,ups,h4,h5⟩:=hC R r k J β h w g d f _ _ S hl hh (htk.1.append ((FO SS c.args.toList).append htk.2))
    refine⟨val,ups,h4,fun hfr hn=>?_⟩
    have hcall:=h5 hfr
    unfold LJ at hbody
    cases hfn:E.P.funcs[f]? with
    | none=>rw[hfn] at hbody;simp at hbody
    | some fn =>
     rw[hfn] at hbody
     simp at hbody
     obtain⟨hb1,hb2⟩:=hbody
     have hb3:fn.body.isNone=false:=by cases hq:fn.body<;>simp_all
     have hargs:(⟨fs⟩:Array Value)++c.args.map a.eval++(⟨cs⟩:Array Value)=(fs++(c.args.toList.map a.eval++cs)).toArray:=by apply Array.ext';simp
     have hrun:(execOp a.eval o).run E.P w=.ok (.enter f (fs++(c.args.toList.map a.eval++cs)).toArray) w:=by
      simp only[execOp,ho,Sem.run_bind,resolve,hc,h2,Deferred.ofValue,Sem.run_pure,Result.andThen_ok,invoke,callFunc,run_program,hfn]
      simp only[hb3,hargs]
      simp[hb2]
     unfold Oper.wp
     rw[hrun]
     refine Calls.mono hcall ?_
     rintro e w' ⟨vc,rfl,hd⟩
     exact hn vc w' hd
   ·simp at hh
  ·simp at hh
 ·simp at hh
end
end Gx

namespace Gx
open Go
def SameO (β β':Au) (b:Nat) (x x':Blk):Prop:=(Ak x=false→β' b=β b)∧(Ak x=true→(β' b).map (·.1)=(β b).map (·.1)∧x'.cells.length=x.cells.length)
theorem SameB.o {β β':Au} {b:Nat} {x x':Blk} (h:SameB β β' b x x'):SameO β β' b x x':=⟨h.1,fun hn=>⟨(h.2 hn).1,(h.2 hn).2.2.2⟩⟩
theorem SameO.trans {β β' β'':Au} {b:Nat} {x x' x'':Blk} (h:SameO β β' b x x') (h':SameO β' β'' b x' x'') (he:Ak x'=Ak x):SameO β β'' b x x'' :=
 ⟨fun hn=>(h'.1 (he.trans hn)).trans (h.1 hn),fun hn=>⟨(h'.2 (he.trans hn)).1.trans (h.2 hn).1,(h'.2 (he.trans hn)).2.trans (h.2 hn).2⟩⟩
theorem SameO.to {β β' β2:Au} {b c:Nat} {x x' x2:Blk} (h:SameO β β' b x x') (hβ:β2 c=β' b) (hc:c=b) (hl:x2.cells.length=x'.cells.length):SameO β β2 c x x2:=by
 subst hc
 exact⟨fun hn=>hβ.trans (h.1 hn),fun hn=>⟨by rw[hβ];exact(h.2 hn).1,hl.trans (h.2 hn).2⟩⟩
structure Start where
 J:Bool→Nat→Prop
 β:Au
 h:Ai
 w:World
structure Inv (Z:Start) (nt:Nat) (J:Bool→Nat→Prop) (β:Au) (st:St) (a:Act) (w:World):Prop where
 sim:SimH J β st.h w
 ss:SimS J β st.h w st.s a.tmps
 tmps:a.tmps.size=nt
 defers:a.defers=[]
 os:w.os=Z.w.os
 tape:w.tape=Z.w.tape
 output:w.output=Z.w.output
 size:Z.w.heap.size≤w.heap.size
 frame:∀ k,k<Z.w.heap.size→¬ NH Z.β Z.h k→w.heap[k]?=Z.w.heap[k]?
 wr:∀ k,NH β st.h k→k<Z.w.heap.size→NH Z.β Z.h k
 jsub:∀ o k,Z.J o k→J o k
 jup:∀ o k,J o k→Z.J o k∨NH Z.β Z.h k∨Z.w.heap.size≤k
 sizes:∀ k,Aj Z.w k≤Aj w k
 zlt:∀ b x0,Ad Z.h b=some x0→b<200000
 zge:∀ b x0,Ad Z.h b=some x0→100000≤b
 outs:∀ b x0 x,Ad Z.h b=some x0→Ad st.h b=some x→x.dead=false→(SameO Z.β β b x0 x∧x.mp=x0.mp)∧x.sz=x0.sz∧(x0.mp=false→x.cells.length=x0.cells.length)∧x0.dead=false
section
variable {R:Type} {r:R} {Z:Start} {nt:Nat} {J J':Bool→Nat→Prop} {β β':Au} {st:St} {h':Ai} {a:Act} {w w':World} {ops:Array Oper} {o:Oper}
theorem Gu {s:Do} {d:Option Nat} {v:AV} {i:Nat}:C3 (QI nt s d v) i=if d=some i∧i<nt then v else C3 s i:=by
 unfold QI
 cases d with
 | none=>simp
 | some d =>
  simp only[Option.some.injEq]
  cases hb:Nat.blt d nt with
  | true =>
   have hlt:d<nt:=by simpa using hb
   simp only[cond_true]
   rw[Gs]
   by_cases e:i=d
   ·subst e;simp[hlt]
   ·rw[if_neg e,if_neg (fun hh=>e hh.1.symm)]
  | false =>
   have hlt:¬ d<nt:=by intro hl;rw[show Nat.blt d nt=true by simpa using hl] at hb;cases hb
   simp only[cond_false]
   rw[if_neg (fun hh=>by obtain⟨h1,h2⟩:=hh;subst h1;exact hlt h2)]
theorem SimS.put {h:Ai} {s:Do} {d:Option Nat} {v:AV} {vc:Value} (H:SimS J β h w s a.tmps) (hn:a.tmps.size=nt) (hv:Rep J β h w v vc):SimS J β h w (QI nt s d v) (a.put d vc).tmps:=by
 refine⟨fun i u hu=>?_,fun i hi=>?_⟩
 ·rw[Gu]
  cases d with
  | none=>simp;exact H.slot i u hu
  | some d =>
   simp only[Act.put] at hu
   rw[Array.getElem?_setIfInBounds] at hu
   by_cases e:d=i
   ·subst e
    simp only[if_true] at hu
    by_cases hlt:d<a.tmps.size
    ·simp[hlt] at hu;subst hu
     rw[if_pos ⟨rfl,by omega⟩];exact hv
    ·simp[hlt] at hu
   ·rw[if_neg e] at hu
    rw[if_neg (fun hh=>e (by simpa using hh.1))]
    exact H.slot i u hu
 ·have hs:(a.put d vc).tmps.size=a.tmps.size:=by cases d<;>simp[Act.put]
  rw[hs] at hi
  rw[Gu,if_neg (by omega)]
  exact H.out i hi
theorem SimS.ext {h:Ai} {s:Do} {t:Array Value} (E:Ext J β h w J' β' h' w') (H:SimS J β h w s t):SimS J' β' h' w' s t :=
 ⟨fun i v hv=>Rep.ext E (H.slot i v hv),H.out⟩
theorem Inv.step (I:Inv Z nt J β st a w) (A:Step J β st.h w J' β' h' w') (hnew:∀ b x,Ad h' b=some x→Ad st.h b=none→Dw≤b):Inv Z nt J' β' { s:=st.s,h:=h' } a w' where
 sim:=A.sim
 ss:=I.ss.ext A.ext
 tmps:=I.tmps
 defers:=I.defers
 os:=A.os.trans I.os
 tape:=A.tape.trans I.tape
 output:=A.output.trans I.output
 size:=Nat.le_trans I.size A.size
 frame k hk hm:=(A.frame k (Nat.lt_of_lt_of_le hk I.size) (fun hm'=>hm (I.wr k hm' hk))).trans (I.frame k hk hm)
 wr k hm hk:=I.wr k (A.wr k hm (Nat.lt_of_lt_of_le hk I.size)) hk
 jsub o k hj:=A.ext.jsub o k (I.jsub o k hj)
 jup o k hj:=by
  rcases A.jup o k hj with h1 | h1 | h1
  ·exact I.jup o k h1
  ·by_cases hk:k<Z.w.heap.size
   ·exact .inr (.inl (I.wr k h1 hk))
   ·exact .inr (.inr (by omega))
  ·exact .inr (.inr (Nat.le_trans I.size h1))
 sizes k:=Nat.le_trans (I.sizes k) (A.ext.size 0 k 0 trivial)
 outs b x0 x h0 hx hd:=by
  cases hb:Ad st.h b with
  | none=>have:=hnew b x hx hb;have:=I.zlt b x0 h0;unfold Dw at *;omega
  | some y =>
   obtain⟨x',⟨g1,gm⟩,g2⟩:=A.ext.blk b y hb
   change Ad h' b=some x at hx
   rw[hx] at g1;simp at g1;subst g1
   rcases g2 with g2 | ⟨g2,g3,g4,g5⟩
   ·simp[hd] at g2
   ·obtain⟨⟨e1,em⟩,e2,e3,e4⟩:=I.outs b x0 y h0 hb g2
    exact⟨⟨e1.trans g3.o (Ew em e2),gm.trans em⟩,g4.trans e2,fun h=>(g5 (em.trans h)).trans (e3 h),e4⟩
 zlt:=I.zlt
 zge:=I.zge
theorem Inv.put (I:Inv Z nt J β st a w) {d:Option Nat} {v:AV} {vc:Value} (hv:Rep J β st.h w v vc):Inv Z nt J β { s:=QI nt st.s d v,h:=st.h } (a.put d vc) w where
 sim:=I.sim
 ss:=I.ss.put I.tmps hv
 tmps:=by cases d<;>simp[Act.put,I.tmps]
 defers:=by cases d<;>simp[Act.put,I.defers]
 os:=I.os
 tape:=I.tape
 output:=I.output
 size:=I.size
 frame:=I.frame
 wr:=I.wr
 jsub:=I.jsub
 jup:=I.jup
 sizes:=I.sizes
 zlt:=I.zlt
 zge:=I.zge
 outs:=I.outs
theorem FQ {d:Nat} {F:List Nat} {h:Ai}:∀ {ups:By},W6 d F h ups=true→∀ b,Al ups b=true→(N0 d b=true∧Ad h b=none)∨(N0 d b=false∧Dp F b=true∧∃ x,Ad h b=some x)
 | [],_,b,hb=>by simp[Al] at hb
 | (i,_)::r,hu,b,hb=>by
  rw[W6] at hu
  simp at hu
  rw[Al] at hb
  cases hi:Nat.beq i b with
  | true =>
   have:i=b:=Nat.eq_of_beq_eq_true hi
   subst this
   cases hn:N0 d i with
   | true=>rw[hn] at hu;simp at hu;exact .inl ⟨rfl,hu.1⟩
   | false =>
    rw[hn] at hu;simp at hu
    obtain⟨⟨h1,h2⟩,_⟩:=hu
    exact .inr ⟨rfl,h1,Option.isSome_iff_exists.1 h2⟩
  | false=>rw[hi] at hb;exact FQ hu.2 b (by simpa using hb)
theorem WE {d b:Nat} (hn:N0 d b=true):Dw≤b:=by
 unfold N0 nid at hn
 simp at hn
 unfold Dw;omega
theorem MD {d:Nat} {F:List Nat} {h:Ai} {ups:By} (hu:W6 d F h ups=true) {b:Nat} {x:Blk} (hx:Ad (Ac ups h) b=some x) (hn:Ad h b=none):Dw≤b:=by
 cases hi:Al ups b with
 | false=>rw[A9 _ _ _ hi,hn] at hx;cases hx
 | true =>
  rcases FQ hu b hi with⟨h1,_⟩ | ⟨_,_,y,hy⟩
  ·exact WE h1
  ·rw[hn] at hy;cases hy
theorem QW {h:Ai} {F:List Nat}:Looks (fun b=>cond (Dp F b) (Ad h b) none) h:=fun b x hb=>by
 cases hm:Dp F b with
 | true=>simpa[hm] using hb
 | false=>simp[hm] at hb
theorem IW {h:Ai} {s:Do} (H:SimS J β h w s a.tmps) {t:Bool} (hw:Rb ops s o=some t):Region.wanted o (yielded ops a.tmps)=t:=by
 unfold Rb at hw
 unfold Region.wanted
 split at hw
 ·rename_i hg;rw[hg];simpa using hw
 ·rename_i j want hg
  rw[hg]
  simp only
  unfold yielded
  split at hw
  ·rename_i t' ht
   rw[ht]
   simp only[Option.bind_some]
   cases hv:a.tmps[t']? with
   | none =>
    have:=H.out t' (by simpa using hv)
    rw[this] at hw;simp at hw
   | some v =>
    have hr:=H.slot t' v hv
    split at hw
    ·rename_i b hb
     rw[hb,Rep] at hr;subst hr
     simp at hw;subst hw
     simp
    ·rename_i hb
     rw[hb,Rep] at hr
     obtain⟨cs,rfl,hc⟩:=hr
     rw[Reps] at hc;subst hc
     simp at hw;subst hw
     simp
    ·simp at hw
  ·rename_i ht
   rw[ht]
   simp at hw;subst hw
   simp
theorem FR {E:Env} (hC:X3 E) (I:Inv Z E.nt J β st a w) {k:St→Foot→O R} (hh:NO E ops o st k=some r) {K:Act→World→Prop} {Q:Exit→Act→World→Prop} :
  ∃ st' f,k st' f=some r∧((∀ a' w' J' β',Inv Z E.nt J' β' st' a' w'→K a' w')→if Region.wanted o (yielded ops a.tmps) then o.wp E.P a w K Q else K (a.put o.dst undef) w):=by
 unfold NO at hh
 obtain⟨t,ht,h1⟩:=ub hh
 rw[IW I.ss ht]
 cases t with
 | false =>
  refine⟨_,_,h1,fun hK=>?_⟩
  simp only[Bool.false_eq_true,if_false]
  exact hK _ _ J β (I.put (by rw[Rep];exact⟨[],rfl,by rw[Reps]⟩))
 | true =>
  rw[cond_true] at h1
  obtain⟨val,ups,h2,h3⟩:=QV (o:=o) (next:=K) (Q:=Q) hC I.sim I.ss QW h1
  obtain⟨hu,h4⟩:=uc h2
  refine⟨_,_,h4,fun hK=>?_⟩
  simp only[if_true]
  refine h3 (fun b hb hn=>?_) (fun vc w' hd=>?_)
  ·rcases FQ hu b hb with⟨_,g⟩ | ⟨g,_⟩
   ·exact g
   ·rw[hn] at g;cases g
  ·obtain⟨J',β',A,hv⟩:=hd
   exact hK _ _ J' β' ((I.step A (fun b x hx hn=>MD hu hx hn)).put hv)
def Eqv (a b:St):Prop:=(∀ t,C3 a.s t=C3 b.s t)∧(∀ b',Ad a.h b'=Ad b.h b')
theorem Eqv.refl (a:St):Eqv a a:=⟨fun _=>rfl,fun _=>rfl⟩
theorem Eqv.symm {a b:St} (h:Eqv a b):Eqv b a:=⟨fun t=>(h.1 t).symm,fun t=>(h.2 t).symm⟩
theorem Eqv.trans {a b c:St} (h:Eqv a b) (k:Eqv b c):Eqv a c:=⟨fun t=>(h.1 t).trans (k.1 t),fun t=>(h.2 t).trans (k.2 t)⟩
theorem Inv.eqv {nt:Nat} {J:Bool→Nat→Prop} {β:Au} {st st2:St} {a:Act} {w:World} (I:Inv Z nt J β st a w) (h:Eqv st st2):Inv Z nt J β st2 a w:=by
 have hr:∀ {x v},Rep J β st.h w x v→Rep J β st2.h w x v:=fun hx=>Rep.ext ⟨fun _ _ hj=>hj,fun _ _ _=>rfl,fun b x hb=>⟨x,⟨by rw[←h.2 b];exact hb,rfl⟩,U1⟩,fun _ _ _ _=>Nat.le_refl _⟩ hx
 refine⟨⟨I.sim.jlt,I.sim.jft,I.sim.gl,fun b x hb hd hm=>?_,fun b x hb hd hm=>I.sim.mblk b x (by rw[h.2];exact hb) hd hm,fun b b' x x' k hb hb'=>I.sim.sepT b b' x x' k (by rw[h.2];exact hb) (by rw[h.2];exact hb')⟩,⟨fun i v hv=>by rw[←h.1 i];exact hr (I.ss.slot i v hv),fun i hi=>by rw[←h.1 i];exact I.ss.out i hi⟩,I.tmps,I.defers,I.os,I.tape,I.output,I.size,I.frame,?_,I.jsub,I.jup,I.sizes,I.zlt,I.zge,fun b x0 x h0 hx=>I.outs b x0 x h0 (by rw[h.2];exact hx)⟩
 ·rcases I.sim.blk b x (by rw[h.2];exact hb) hd hm with h1 | ⟨k,o,cs,ty,fr,h1,h2,h3,h4,h5,h6⟩
  ·exact .inl h1
  ·exact .inr ⟨k,o,cs,ty,fr,h1,h2,h3,h4,⟨h5.1,fun hp j c hj=>by
    obtain⟨u,g1,g2,g3⟩:=h5.2 hp j c hj
    exact⟨u,g1,hr g2,g3⟩⟩,h6⟩
 ·rintro k ⟨b,x,hb,hd,hs,hβ⟩ hk
  exact I.wr k ⟨b,x,by rw[h.2];exact hb,hd,hs,hβ⟩ hk
theorem FS {st:St} {k:St→O R} (hh:Z8 ops o st k=some r):∃ st',Eqv st st'∧k st'=some r:=by
 unfold Z8 at hh
 split at hh
 ·exact⟨st,Eqv.refl _,hh⟩
 ·rename_i j want hg
  split at hh
  ·exact⟨st,Eqv.refl _,hh⟩
  ·rename_i t ht
   split at hh
   ·rename_i b hb
    have key:∀ c:Bool,b=c→Eqv st { s:=Xw st.s t (.bool c),h:=st.h }:=by
     intro c hc
     refine⟨fun i=>?_,fun _=>rfl⟩
     simp only
     rw[Gs]
     by_cases e:i=t
     ·subst e;rw[if_pos rfl,hb,hc]
     ·rw[if_neg e]
    cases hw:(b==want) with
    | true =>
     rw[hw] at hh
     exact⟨_,key want (by simpa using hw),hh⟩
    | false =>
     rw[hw] at hh
     exact⟨_,key (!want) (by cases b<;>cases want<;>simp_all),hh⟩
   ·exact⟨st,Eqv.refl _,hh⟩
theorem FT {E:Env} (hC:X3 E) {Q:Exit→Act→World→Prop}:∀ (l:List Oper) {st:St} {tr:List Foot} {k:St→List Foot→O R} {a:Act} {w:World} {J:Bool→Nat→Prop} {β:Au},
  Inv Z E.nt J β st a w→EX E ops l st tr k=some r→(∀ st' tr' a' w' J' β',Inv Z E.nt J' β' st' a' w'→k st' tr'=some r→Q .normal a' w')→wpList E.P ops Q l a w
 | [],st,tr,k,a,w,J,β,I,hh,hQ=>hQ st tr a w J β I hh
 | o::l,st,tr,k,a,w,J,β,I,hh,hQ=>by
  rw[EX] at hh
  obtain⟨st1,he,hh⟩:=FS hh
  obtain⟨st',f,h1,h2⟩:=FR (K:=wpList E.P ops Q l) (Q:=Q) hC (I.eqv he) hh
  have:=h2 (fun a' w' J' β' I'=>FT hC l I' h1 hQ)
  rw[wpList]
  split
  ·rename_i hw;rw[if_pos hw] at this;exact .inl this
  ·rename_i hw;rw[if_neg hw] at this;exact this
end
end Gx

namespace Gx
open Go
theorem Fk:∀ {l:List Nat} {b:Nat},Dp l b=true↔b ∈ l
  | [],b=>by simp[Dp]
  | i::r,b=>by
    rw[Dp]
    cases hi:Nat.beq i b with
    | true=>have:=Nat.eq_of_beq_eq_true hi;subst this;simp
    | false => have := G9 hi; simp only [cond_false, List.mem_cons]; rw [Fk]; constructor
               · exact fun h=>.inr h
               · rintro(h | h)
                 · exact absurd h.symm this
                 · exact h
theorem Ju:∀ {l:List Nat},Uv l=true→l.Nodup
 | [],_=>List.nodup_nil
 | i::r,h=>by
  rw[Uv] at h;simp at h
  refine List.nodup_cons.2 ⟨fun hm=>?_,Ju h.2⟩
  rw[Fk.2 hm] at h;simp at h
theorem AI {g:Aq} {ids:List Nat}:∀ {l:List Nat},EZ g ids l=true→∀ b ∈ l,∀ x,Ce g b=some x→b ∈ ids
 | [],_,b,hb,_,_=>by simp at hb
 | i::r,h,b,hb,x,hx=>by
  rw[EZ] at h;simp at h
  rcases List.mem_cons.1 hb with e | hb
  ·subst e
   rcases h.1 with h1 | h1
   ·exact Fk.1 h1
   ·rw[hx] at h1;simp at h1
  ·exact AI h.2 b hb x hx
theorem OK:∀ {l:List Nat},SW l=true→∀ b ∈ l,Dw≤b→Ev b<100000
 | [],_,b,hb,_=>by simp at hb
 | i::r,h,b,hb,hn=>by
  rw[SW] at h;simp at h
  rcases List.mem_cons.1 hb with e | hb
  ·subst e
   have:Nat.ble Dw b=true:=by simpa using hn
   rw[this] at h;simpa using h.1
  ·exact OK h.2 b hb hn
theorem It (g:Aq):∀ c:LA,(E8 g c).length=c.length
 | []=>rfl
 | x::r=>by rw[E8,List.length_cons,List.length_cons,It g r]
section
variable {R:Type} {r:R} {Z:Start} {nt:Nat} {J J':Bool→Nat→Prop} {β β':Au} {st:St} {h h':Ai} {a:Act} {w w':World} {ids:List Nat}
def Ex (g:Aq) (x:Blk):Blk:={ x with cells:=cond x.pure x.cells (E8 g x.cells),gen:=0,pend:=0 }
theorem X5 {g:Aq}:∀ {ids:List Nat},(ids.map Ev).Nodup→∀ c y,Ad (Mn g ids) c=some y→∃ b x,b ∈ ids∧Ev b=c∧Ce g b=some x∧y=Ex g x
 | [],_,c,y,hc=>by simp[Mn,Ad] at hc
 | b::r,hn,c,y,hc=>by
  rw[List.map_cons,List.nodup_cons] at hn
  rw[Mn] at hc
  split at hc
  ·rename_i x hx
   rw[Aa] at hc
   by_cases e:c=Ev b
   ·rw[if_pos e] at hc;simp at hc
    exact⟨b,x,by simp,e.symm,hx,hc.symm⟩
   ·rw[if_neg e] at hc
    obtain⟨b',x',h1,h2,h3,h4⟩:=X5 hn.2 c y hc
    exact⟨b',x',by simp[h1],h2,h3,h4⟩
  ·obtain⟨b',x',h1,h2,h3,h4⟩:=X5 hn.2 c y hc
   exact⟨b',x',by simp[h1],h2,h3,h4⟩
theorem Jv {g:Aq}:∀ {ids:List Nat},(ids.map Ev).Nodup→∀ b x,b ∈ ids→Ce g b=some x→Ad (Mn g ids) (Ev b)=some (Ex g x)
 | [],_,b,x,hb,_=>by simp at hb
 | b'::r,hn,b,x,hb,hx=>by
  rw[List.map_cons,List.nodup_cons] at hn
  rw[Mn]
  by_cases e:b=b'
  ·subst e
   rw[hx]
   simp only
   rw[Aa,if_pos rfl];rfl
  ·have hm:b ∈ r:=by simpa[e] using hb
   have ne:Ev b≠Ev b':=fun h=>hn.1 (by rw[←h];exact List.mem_map.2 ⟨b,hm,rfl⟩)
   split
   ·rw[Aa,if_neg ne];exact Jv hn.2 b x hm hx
   ·exact Jv hn.2 b x hm hx
def AJ (ids:List Nat) (c:Nat):Option Nat:=ids.find? fun b=>Nat.beq (Ev b) c
theorem Ey (hn:(ids.map Ev).Nodup) {b:Nat} (hb:b ∈ ids):AJ ids (Ev b)=some b:=by
 induction ids with
 | nil=>simp at hb
 | cons i r ih =>
  rw[List.map_cons,List.nodup_cons] at hn
  unfold AJ at ih ⊢
  rw[List.find?_cons]
  by_cases e:b=i
  ·subst e;simp
  ·have hm:b ∈ r:=by simpa[e] using hb
   have ne:Ev i≠Ev b:=fun h=>hn.1 (by rw[h];exact List.mem_map.2 ⟨b,hm,rfl⟩)
   rw[Ph ne];exact ih hn.2 hm
def YF (g:Aq) (ids:List Nat) (l:List Nat):Prop:=∀ b ∈ l,∀ x,Ce g b=some x→b ∈ ids
theorem UH {b:Nat}:Ce (Ad h) b=(Ad h b).bind fun x=>cond x.dead none (some x):=rfl
theorem Rn {b:Nat} {x y:Blk} (hx:Ad h b=some x) (hv:Ce (Ad h) b=some y):y=x∧x.dead=false:=by
 rw[UH,hx] at hv
 cases hd:x.dead with
 | true=>simp[hd] at hv
 | false=>simp[hd] at hv;exact⟨hv.symm,rfl⟩
mutual
theorem Rep.clean (hn:(ids.map Ev).Nodup):∀ {x:AV} {v:Value},YF (Ad h) ids (C6 x)→Rep J β h w x v →
  Rep J (fun c=>(AJ ids c).bind β) (Mn (Ad h) ids) w (Lc (Ad h) x) v
 | .own b off n,v,hm,hr=>by
  rw[Rep] at hr
  obtain⟨x,A,cap,⟨hx,hmp⟩,h1,h2,h3⟩:=hr
  rw[Lc]
  cases hv:Ce (Ad h) b with
  | none=>simp only;rw[Rep];trivial
  | some y =>
   obtain⟨rfl,hd⟩:=Rn hx hv
   have hb:=hm b (by simp[C6]) _ hv
   simp only
   rw[Rep]
   refine⟨Ex (Ad h) y,A,cap,⟨Jv hn b y hb hv,hmp⟩,h1,h2,?_⟩
   rcases h3 with h3 | ⟨k,o,h4,h5⟩
   ·exact .inl h3
   ·refine .inr ⟨k,o,h4,?_⟩
    rcases h5 with h5 | ⟨h5,h6,h7⟩
    ·simp[hd] at h5
    ·refine .inr ⟨by rw[Ey hn hb];exact h5,h6,?_⟩
     have:(Ex (Ad h) y).cells.length=y.cells.length:=by
      unfold Ex;cases y.pure
      ·simp;exact It _ _
      ·rfl
     rw[this];exact h7
 | .optr b off,v,hm,hr=>by
  rw[Rep] at hr
  obtain⟨x,k,o,⟨hx,hmp⟩,h1,h2⟩:=hr
  rw[Lc]
  cases hv:Ce (Ad h) b with
  | none=>simp only;rw[Rep];trivial
  | some y =>
   obtain⟨rfl,hd⟩:=Rn hx hv
   have hb:=hm b (by simp[C6]) _ hv
   simp only
   rw[Rep]
   refine⟨Ex (Ad h) y,k,o,⟨Jv hn b y hb hv,hmp⟩,h1,?_⟩
   rcases h2 with h2 | h2
   ·simp[hd] at h2
   ·exact .inr (by rw[Ey hn hb];exact h2)
 | .omap b,v,hm,hr=>by
  rw[Rep] at hr
  obtain⟨x,k,⟨hx,hmp⟩,h2⟩:=hr
  rw[Lc]
  cases hv:Ce (Ad h) b with
  | none=>simp only;rw[Rep];trivial
  | some y =>
   obtain⟨rfl,hd⟩:=Rn hx hv
   have hb:=hm b (by simp[C6]) _ hv
   simp only
   rw[Rep]
   refine⟨Ex (Ad h) y,k,⟨Jv hn b y hb hv,hmp⟩,?_⟩
   rcases h2 with h2 | h2
   ·simp[hd] at h2
   ·exact .inr (by rw[Ey hn hb];exact h2)
 | .nd b q,v,hm,hr=>by
  rw[Rep] at hr
  obtain⟨hsh,x,⟨hx,hmp⟩,h2⟩:=hr
  rw[Lc]
  cases hv:Ce (Ad h) b with
  | none=>simp only;rw[Rep];trivial
  | some y =>
   obtain⟨rfl,hd⟩:=Rn hx hv
   have hb:=hm b (by simp[C6]) _ hv
   simp only
   cases hq:q.stable with
   | false=>rw[cond_false,Rep];trivial
   | true =>
    rw[cond_true,Rep]
    refine⟨hsh,Ex (Ad h) y,⟨Jv hn b y hb hv,hmp⟩,?_⟩
    rcases h2 with h2 | h2
    ·simp[hd] at h2
    ·rw[Ey hn hb]
     have hln:(Ex (Ad h) y).cells.length=y.cells.length:=by
      unfold Ex;cases y.pure
      ·simp;exact It _ _
      ·rfl
     cases q with
     | whole n=>obtain⟨k,o,g1,g2,g3,g4⟩:=h2;exact .inr ⟨k,o,g1,g2,hln.trans g3,g4⟩
     | slot i=>obtain⟨k,o,g1,g2,g3,g4⟩:=h2;exact .inr ⟨k,o,g1,g2,by rw[hln];exact g3,g4⟩
     | ref i g n s=>simp[NV.stable] at hq
     | elt i g off s=>simp[NV.stable] at hq
     | stamp i g p=>simp[NV.stable] at hq
 | .agg c,v,hm,hr=>by
  rw[Rep] at hr
  obtain⟨cs,h1,h2⟩:=hr
  rw[Lc,Rep]
  exact⟨cs,h1,Reps.clean hn (by simpa[C6] using hm) h2⟩
 | .tup c,v,hm,hr=>by
  rw[Rep] at hr
  obtain⟨cs,h1,h2⟩:=hr
  rw[Lc,Rep]
  exact⟨cs,h1,Reps.clean hn (by simpa[C6] using hm) h2⟩
 | .fn f c,v,hm,hr=>by
  rw[Rep] at hr
  obtain⟨cs,h1,h2⟩:=hr
  rw[Lc,Rep]
  exact⟨cs,h1,Reps.clean hn (by simpa[C6] using hm) h2⟩
 | .pagg c o,v,hm,hr=>by show Rep J _ _ w (.pagg c o) v;rw[Rep] at hr ⊢;exact hr
 | .undef,v,hm,hr=>by show Rep J _ _ w (.undef) v;rw[Rep] at hr ⊢;exact hr
 | .imm c n sz t o,v,hm,hr=>by show Rep J _ _ w (.imm c n sz t o) v;rw[Rep] at hr ⊢;exact hr
 | .iptr c o,v,hm,hr=>by show Rep J _ _ w (.iptr c o) v;rw[Rep] at hr ⊢;exact hr
 | .int k n,v,hm,hr=>by show Rep J _ _ w (.int k n) v;rw[Rep] at hr ⊢;exact hr
 | .bool b,v,hm,hr=>by show Rep J _ _ w (.bool b) v;rw[Rep] at hr ⊢;exact hr
 | .str s,v,hm,hr=>by show Rep J _ _ w (.str s) v;rw[Rep] at hr ⊢;exact hr
 | .nsl,v,hm,hr=>by show Rep J _ _ w (.nsl) v;rw[Rep] at hr ⊢;exact hr
 | .nilptr,v,hm,hr=>by show Rep J _ _ w (.nilptr) v;rw[Rep] at hr ⊢;exact hr
 | .nilfn,v,hm,hr=>by show Rep J _ _ w (.nilfn) v;rw[Rep] at hr ⊢;exact hr
theorem Reps.clean (hn:(ids.map Ev).Nodup):∀ {c:List AV} {cs:List Value},YF (Ad h) ids (Ej c)→Reps J β h w c cs →
  Reps J (fun c=>(AJ ids c).bind β) (Mn (Ad h) ids) w (E8 (Ad h) c) cs
 | [],cs,hm,hr=>by rw[Reps] at hr;rw[E8,Reps];exact hr
 | x::r,cs,hm,hr=>by
  rw[Reps] at hr
  obtain⟨u,us,h1,h2,h3⟩:=hr
  rw[E8,Reps]
  exact⟨u,us,h1,Rep.clean hn (fun b hb=>hm b (by simp[Ej,hb])) h2,Reps.clean hn (fun b hb=>hm b (by simp[Ej,hb])) h3⟩
end
theorem N4 {g:Aq} {K:List Nat}:∀ {s:Do} {i:Nat},C3 (Z9 g K s) i=if Dp K i=true then Lc g (C3 s i) else .undef
 | [],i=>by
  simp only[Z9,C3]
  show AV.undef=if Dp K i=true then AV.undef else AV.undef
  split<;>rfl
 | (t,v)::r,i=>by
  rw[Z9,C3]
  cases hk:Dp K t with
  | true =>
   simp only[cond_true,C3]
   cases hi:Nat.beq t i with
   | true =>
    have:=Nat.eq_of_beq_eq_true hi;subst this
    simp[hk]
   | false=>simp only[cond_false];exact N4
  | false =>
   simp only[cond_false]
   rw[N4]
   cases hi:Nat.beq t i with
   | true =>
    have:=Nat.eq_of_beq_eq_true hi;subst this
    simp[hk]
   | false=>rfl
theorem FU {K:List Nat}:∀ {s:Do} {i:Nat},Dp K i=true→∀ b ∈ C6 (C3 s i),b ∈ EY K s
 | [],i,_,b,hb=>by simp[C3,C6] at hb
 | (t,v)::r,i,hk,b,hb=>by
  rw[C3] at hb
  rw[EY]
  cases hi:Nat.beq t i with
  | true =>
   have:=Nat.eq_of_beq_eq_true hi;subst this
   rw[hi] at hb
   rw[hk];simp at hb ⊢;exact .inl hb
  | false =>
   rw[hi] at hb
   have:=FU hk b hb
   cases Dp K t
   ·exact this
   ·simp;exact .inr this
theorem AK {g:Aq}:∀ {ids:List Nat} {b:Nat} {x:Blk},b ∈ ids→g b=some x→x.pure=false→∀ c ∈ Ej x.cells,c ∈ inner g ids
 | [],b,x,hb,_,_,_,_=>by simp at hb
 | i::r,b,x,hb,hx,hp,c,hc=>by
  rw[inner]
  by_cases e:b=i
  ·subst e;rw[hx];simp only[hp,cond_false];exact List.mem_append.2 (.inl hc)
  ·exact List.mem_append.2 (.inr (AK (by simpa[e] using hb) hx hp c hc))
theorem AL:∀ {c:LA} {j:Nat} {x:AV},c[j]?=some x→∀ b ∈ C6 x,b ∈ Ej c
 | [],j,x,hj,_,_=>by simp at hj
 | y::r,j,x,hj,b,hb=>by
  rw[Ej]
  cases j with
  | zero=>simp at hj;subst hj;exact List.mem_append.2 (.inl hb)
  | succ j=>exact List.mem_append.2 (.inr (AL (by simpa using hj) b hb))
theorem BU {g:Aq}:∀ {c:LA} {j:Nat} {y:AV},(E8 g c)[j]?=some y→∃ x,c[j]?=some x∧y=Lc g x
 | [],j,y,hj=>by simp[E8] at hj
 | x::r,j,y,hj=>by
  rw[E8] at hj
  cases j with
  | zero=>simp at hj;exact⟨x,by simp,hj.symm⟩
  | succ j=>obtain⟨x',h1,h2⟩:=BU (c:=r) (j:=j) (by simpa using hj);exact⟨x',by simpa using h1,h2⟩
theorem UI {b:Nat} (hb:b<Dw):Ev b=b:=by
 unfold Ev
 have:Nat.ble Dw b=false:=by
  cases h:Nat.ble Dw b with
  | false=>rfl
  | true=>have:=Nat.le_of_ble_eq_true h;omega
 rw[this];rfl
theorem OL {K roots:List Nat} {st':St} (I:Inv Z nt J β st a w) (hh:clean K roots st=some st'):∃ β',Inv Z nt J β' st' a w:=by
 unfold clean at hh
 obtain⟨hc,h1⟩:_∧_:=uc hh
 simp only[Bool.and_eq_true] at hc
 obtain⟨c1,c2,c3,c4⟩:=hc
 generalize hids:N1 (Ad st.h) (Mm (Ad st.h) (EY K st.s++roots))=ids at *
 simp at h1
 have hn:=Ju c1
 have blk:∀ c y,Ad (Mn (Ad st.h) ids) c=some y→∃ b x,b ∈ ids∧Ev b=c∧Ad st.h b=some x∧x.dead=false∧y=Ex (Ad st.h) x:=by
  intro c y hy
  obtain⟨b,x,g1,g2,g3,g4⟩:=X5 hn c y hy
  have hx:Ad st.h b=some x∧x.dead=false:=A4 (fun _ _ h=>h) g3
  exact⟨b,x,g1,g2,hx.1,hx.2,g4⟩
 have hlen:∀ x:Blk,(Ex (Ad st.h) x).cells.length=x.cells.length:=fun x=>by
  unfold Ex;cases x.pure
  ·simp;exact It _ _
  ·rfl
 refine⟨fun c=>(AJ ids c).bind β,?_⟩
 subst h1
 refine⟨⟨I.sim.jlt,I.sim.jft,I.sim.gl,fun c y hy hd hm=>?_,fun c y hy hd hm=>by
   obtain⟨b,x,hb,rfl,hx,hxd,rfl⟩:=blk c y hy
   have hback:(fun c=>(AJ ids c).bind β:Au) (Ev b)=β b:=by simp only[Ey hn hb,Option.bind_some]
   obtain⟨g1,g2,g3,g4⟩:=I.sim.mblk b x hx hxd hm
   have hcl:(Ex (Ad st.h) x).cells=x.cells:=by unfold Ex;rw[g1];rfl
   refine⟨g1,g2,fun j ht=>g3 j (ht.to (by rw[←hback]) rfl),?_⟩
   rcases g4 with⟨k,ob,g5,g6,g7,g8⟩ | ⟨k,o,g5,g6,g7⟩
   ·exact .inl ⟨k,ob,g5,by rw[hback];exact g6,g7,by rw[ObjIs,show(Ex (Ad st.h) x).sz=x.sz from rfl,hcl];exact g8⟩
   ·refine .inr ⟨k,o,g5,by rw[hback];exact g6,?_⟩
    unfold NestIs
    rw[hcl];exact g7,?_⟩,⟨fun i v hv=>?_,fun i hi=>?_⟩,I.tmps,I.defers,I.os,I.tape,I.output,I.size,I.frame,?_,I.jsub,I.jup,I.sizes,I.zlt,I.zge,?_⟩
 ·obtain⟨b,x,hb,rfl,hx,hxd,rfl⟩:=blk c y hy
  rcases I.sim.blk b x hx hxd hm with⟨g1,g2⟩ | ⟨k,o,cs,ty,fr,g1,g2,g3,g4,g5,g6,g7⟩
  ·refine .inl ⟨by simp only[Ey hn hb,Option.bind_some];exact g1,?_⟩
   have:=hlen x;rw[g2] at this;simpa using this
  ·refine .inr ⟨k,o,cs,ty,fr,by simp only[Ey hn hb,Option.bind_some];exact g1,g2,g3,by rw[hlen];exact g4,⟨fun hp=>?_,fun hp j q hj=>?_⟩,g6,g7⟩
   ·have hp':x.pure=true:=hp
    have:(Ex (Ad st.h) x).cells=x.cells:=by unfold Ex;rw[hp'];rfl
    rw[this];exact g5.1 hp'
   ·have hp':x.pure=false:=hp
    have:(Ex (Ad st.h) x).cells=E8 (Ad st.h) x.cells:=by unfold Ex;rw[hp'];rfl
    rw[this] at hj
    obtain⟨q',hq,rfl⟩:=BU hj
    obtain⟨u,hu,hr,ho⟩:=g5.2 hp' j q' hq
    exact⟨u,hu,Rep.clean hn (fun b' hb' x' hx'=>AI c3 b' (AK hb hx hp' b' (AL hq b' hb')) x' hx') hr,ho⟩
 ·intro c c' y y' k hy hy' hd hd' hs hβ hβ'
  obtain⟨b,x,hb,rfl,hx,hxd,rfl⟩:=blk c y hy
  obtain⟨b',x',hb',rfl,hx',hxd',rfl⟩:=blk c' y' hy'
  rw[I.sim.sepT b b' x x' k hx hx' hxd hxd' hs (hβ.to (by simp only[Ey hn hb,Option.bind_some]) rfl) (hβ'.to (by simp only[Ey hn hb',Option.bind_some]) rfl)]
 ·rw[N4]
  split
  ·rename_i hk
   exact Rep.clean hn (fun b hb x hx=>AI c2 b (FU hk b hb) x hx) (I.ss.slot i v hv)
  ·rw[Rep];trivial
 ·rw[N4,I.ss.out i hi]
  split
  ·rfl
  ·rfl
 ·rintro k ⟨c,y,hy,hd,hs,hβ⟩ hk
  obtain⟨b,x,hb,rfl,hx,hxd,rfl⟩:=blk c y hy
  exact I.wr k ⟨b,x,hx,hxd,hs,hβ.to (by simp only[Ey hn hb,Option.bind_some]) rfl⟩ hk
 ·intro c x0 y h0 hy hd
  obtain⟨b,x,hb,rfl,hx,hxd,rfl⟩:=blk c y hy
  have hlt:=I.zlt _ _ h0
  have hge:=I.zge _ _ h0
  have hbo:Ev b=b:=by
   by_cases hnb:Dw≤b
   ·have:=OK c4 b hb hnb;omega
   ·exact UI (by omega)
  rw[hbo] at h0
  obtain⟨⟨e1,em⟩,e2,e3,e4⟩:=I.outs b x0 x h0 hx hxd
  refine⟨⟨?_,em⟩,e2,by rw[hlen];exact e3,e4⟩
  exact e1.to (by simp only[Ey hn hb,Option.bind_some]) hbo (hlen x)
end
end Gx

namespace Gx
open Go
section
variable {R:Type}
theorem Ae {α β:Type} (b:Bool) (x y:Option α) (f:α→Option β):(cond b x y).bind f=cond b (x.bind f) (y.bind f):=by cases b<;>rfl
theorem Ro {R':Type} (P:Program) (t:TypeId) (c:LA) (o:Bool) (k:Bool→Option R') (f:R'→O R):(Ke P t c o k).bind f=Ke P t c o fun o=>(k o).bind f:=by
 unfold Ke;simp only[Ae,Option.bind_none]
theorem Hz (P:Program) (t:TypeId) (c:LA) (org:Bool) (k:AV→O R):Sh P t c org k=(Sh P t c org some).bind k:=by
 unfold Sh
 split<;>simp[Option.bind_assoc,Ae,Ro]<;>rfl
theorem QX (P:Program) (t:TypeId) (c:LA) (k:AV→O R):BI P t c k=(BI P t c some).bind k:=by
 unfold BI
 split<;>simp[Option.bind_assoc,Ae]
theorem BV (n:Nat) (k:AV→O R):∀ (c:LA) (i:Nat),Q3 n k c i=(Q3 n some c i).bind k
 | [],_=>rfl
 | v::r,i=>by rw[Q3,Q3,Ae,BV n k r (i+1)];rfl
theorem BW (P:Program) (t:TypeId) (c:LA) (off:Nat) (k:AV→O R):Uq P t c off k=(Uq P t c off some).bind k:=by
 unfold Uq
 split
 ·simp[Option.bind_assoc,Ae]
 ·simp[Option.bind_assoc,Ae]
 ·exact BV ..
 ·rfl
theorem Rp {R':Type} (s:Nat) (c:LA) (i:Nat) (k:LA→Nat→Option R') (f:R'→O R):(C4 s c i k).bind f=C4 s c i fun c n=>(k c n).bind f:=by
 unfold C4;simp only[Option.bind_assoc]
theorem QY (P:Program) (t:TypeId) (b:Nat) (x:Blk) (q:NV) (k:AV→O R):Ur P t b x q k=(Ur P t b x q some).bind k:=by
 cases q with
 | whole n=>rfl
 | ref i g n s=>rfl
 | stamp i g p=>rfl
 | slot i=>simp only[Ur,Ae,Rp,Option.bind_none,Option.bind_some]
 | elt i g off s =>
  simp only[Ur,Ae,Rp,Option.bind_none]
  congr 2;funext c n;exact Hz ..
theorem OM (b:Nat) (q:NV) (sz:Nat) (i:Int) (k:AV→O R):Q5 b q sz i k=(Q5 b q sz i some).bind k:=by
 cases q<;>simp[Q5,Ae]
theorem Rq (P:Program) (g:Aq) (t:TypeId) (p:AV) (k:AV→O R):ES P g t p k=(ES P g t p some).bind k:=by
 unfold ES
 split
 ·exact Hz ..
 ·rw[Option.bind_assoc]
  congr 1;funext x
  rw[Ae,←Hz,←BW]
 ·rw[Option.bind_assoc]
  congr 1;funext x
  rw[Ae,←QY];rfl
 ·rfl
theorem Sp (P:Program) (t:TypeId) (x i:AV) (k:AV→O R):Jm P t x i k=(Jm P t x i some).bind k:=by
 unfold Jm
 split<;>simp[Option.bind_assoc,Ae,←OM]
theorem Sq (P:Program) (t:TypeId) (x:AV) (f:Nat) (k:AV→O R):Jn P t x f k=(Jn P t x f some).bind k:=by
 unfold Jn
 simp only[Option.bind_assoc,Ae]
 congr 1;funext p;congr 1;funext n;congr 1
 split<;>rfl
theorem BX (P:Program) (t:TypeId) (x:AV) (f:Nat) (k:AV→O R):Zw P t x f k=(Zw P t x f some).bind k:=by
 unfold Zw
 rw[Option.bind_assoc]
 congr 1;funext p
 split
 ·exact Hz ..
 ·exact QX ..
 ·rfl
theorem BY (P:Program) (t:TypeId) (x i:AV) (k:AV→O R):Zx P t x i k=(Zx P t x i some).bind k:=by
 unfold Zx
 split
 ·simp[Ae]
 ·simp only[Option.bind_assoc,Ae,←Hz];rfl
 ·simp only[Option.bind_assoc,Ae,←BW];rfl
 ·rfl
theorem L0 {α:Type} (lo hi mx:Option AV) (n:Nat) (f:Nat→Nat→α) (k:α→O R):(Lv lo hi mx n fun l h=>k (f l h))=(Lv lo hi mx n fun l h=>some (f l h)).bind k:=by
 unfold Lv
 simp[Option.bind_assoc,Ae]
theorem BZ (P:Program) (g:Aq) (t:TypeId) (x:AV) (lo hi mx:Option AV) (k:AV→O R):Zy P g t x lo hi mx k=(Zy P g t x lo hi mx some).bind k:=by
 unfold Zy
 split
 ·rw[Ae,←L0];rfl
 ·rw[Option.bind_assoc];congr 1;funext _;exact L0 lo hi mx 0 (fun _ _=>AV.nsl) k
 ·rw[Option.bind_assoc];congr 1;funext _;rw[Ae,←L0];rfl
 ·rw[Option.bind_assoc];congr 1;funext _;rw[Option.bind_assoc];congr 1;funext _;rw[Ae,←L0];rfl
 ·rfl
theorem UJ (P:Program) (t:TypeId) (op:BinOp) (x y:AV) (k:AV→O R):TV P t op x y k=(TV P t op x y some).bind k:=by
 unfold TV
 split
 ·split<;>simp[Ae]
 ·split<;>simp[Ae]
 ·split<;>simp[Ae]
 ·rfl
def pr (v:AV) (u:By):Option (AV×By):=some (v,u)
theorem ON (P:Program) (g:Aq) (t:TypeId) (b:Nat) (x:Blk) (q:NV) (v:AV) (k:AV→By→O R):Zz P g t b x q v k=(Zz P g t b x q v pr).bind fun q=>k q.1 q.2:=by
 unfold Zz
 rw[Option.bind_assoc]
 congr 1;funext n
 rw[Ae]
 congr 1
 split
 ·split<;>simp[Option.bind_assoc,Ae,pr]
 ·simp only[Ae,Rp,Option.bind_none];rfl
 ·rfl
theorem OO (P:Program) (g:Aq) (t:TypeId) (p v:AV) (k:AV→By→O R):Z0 P g t p v k=(Z0 P g t p v pr).bind fun q=>k q.1 q.2:=by
 unfold Z0
 split
 ·simp only[Option.bind_assoc,Ae]
  congr 1;funext x;congr 1;funext n;congr 1;congr 1
  split<;>simp[Ae,pr]
 ·rw[Option.bind_assoc]
  congr 1;funext x
  rw[Ae,←ON];rfl
 ·rfl
theorem X6 (P:Program) (c:LA) (org:Bool):∀ (L:List (Nat×TypeId)) (acc:LA) (k:LA→O R),Yn P c org L acc k=(Yn P c org L acc some).bind k
 | [],acc,k=>rfl
 | (off,t)::L,acc,k=>by
  rw[Yn,Yn,Ae]
  congr 1
  rw[Hz,Hz (k:=fun v=>Yn P c org L (acc++[v]) some),Option.bind_assoc]
  congr 1;funext v
  exact X6 P c org L _ k
theorem B_ (P:Program) (co:Bool) (t:TypeId) (v:AV) (k:AV→O R):Z2 P co t v k=(Z2 P co t v some).bind k:=by
 unfold Z2
 split
 ·rename_i c org
  rw[X6,X6 (k:=fun l=>cond (Nat.beq c.length l.length) (some (AV.agg l)) none),Option.bind_assoc]
  congr 1;funext l
  rw[Ae];rfl
 ·rfl
theorem KG (P:Program) (g:Aq) (d:Nat) (t:TypeId) (v:AV) (k:AV→By→O R):NL P g d t v k=(NL P g d t v pr).bind fun q=>k q.1 q.2:=by
 unfold NL
 split<;>simp[Option.bind_assoc,Ae,pr]
theorem AM (P:Program) (g:Aq) (d:Nat) (t:TypeId) (len:Nat) (ps:List (Nat×AV)) (k:AV→By→O R):H6 P g d t len ps k=(H6 P g d t len ps pr).bind fun q=>k q.1 q.2:=by
 unfold H6
 split<;>simp[Option.bind_assoc,Ae,pr,Pj]
theorem CZ (P:Program) (g:Aq) (d:Nat) (t:TypeId) (len:Nat) (ps:List (Nat×AV)) (k:AV→By→O R):Jo P g d t len ps k=(Jo P g d t len ps pr).bind fun q=>k q.1 q.2:=by
 unfold Jo
 split<;>simp[Option.bind_assoc,Ae,pr]
theorem UK (P:Program) (t:TypeId) (co:Bool) (d:Nat) (v:AV) (k:AV→By→O R):TW P t co d v k=(TW P t co d v pr).bind fun q=>k q.1 q.2:=by
 unfold TW
 split<;>simp[Ae,pr]
theorem QZ (P:Program) (d:Nat) (t:TypeId) (l c:AV) (k:AV→By→O R):JP P d t l c k=(JP P d t l c pr).bind fun q=>k q.1 q.2:=by
 unfold JP
 split<;>simp[Option.bind_assoc,Ae,pr]
theorem OP (P:Program) (d:Nat) (t:TypeId) (l c:AV) (k:AV→By→O R):Z3 P d t l c k=(Z3 P d t l c pr).bind fun q=>k q.1 q.2:=by
 unfold Z3
 split<;>simp[Option.bind_assoc,Ae,pr]
theorem Y2 (P:Program) (g:Aq) (d:Nat) (t tx:TypeId) (s x:AV) (k:AV→By→O R):Nz P g d t tx s x k=(Nz P g d t tx s x pr).bind fun q=>k q.1 q.2:=by
 unfold Nz Q6
 split<;>simp[Option.bind_assoc,Ae,pr,Ro]
theorem Q_ (P:Program) (g:Aq) (t:TypeId) (s x:AV) (k:AV→By→O R):JQ P g t s x k=(JQ P g t s x pr).bind fun q=>k q.1 q.2:=by
 unfold JQ Q6
 split<;>simp[Option.bind_assoc,Ae,pr,Ro]
theorem ME (P:Program) (g:Aq) (d:Nat) (t:TypeId) (k:AV→By→O R):Wb P g d t k=(Wb P g d t pr).bind fun q=>k q.1 q.2:=by
 unfold Wb
 split<;>simp[Ae,pr]
theorem OQ (P:Program) (g:Aq) (t:TypeId) (s:AV) (k:AV→By→O R):Z4 P g t s k=(Z4 P g t s pr).bind fun q=>k q.1 q.2:=by
 unfold Z4
 split<;>simp[Option.bind_assoc,Ae,pr]
theorem RA (P:Program) (g:Aq) (d:Nat) (src dst:TypeId) (x:AV) (k:AV→By→O R):JR P g d src dst x k=(JR P g d src dst x pr).bind fun q=>k q.1 q.2:=by
 unfold JR
 split
 ·split<;>simp[Ae,pr]
 ·split
  ·split<;>simp[pr]
  ·split
   ·split<;>simp[Option.bind_assoc,pr]
   ·rfl
  ·rfl
 ·split
  ·rw[Ae,Option.bind_assoc];simp only[Ae];rfl
  ·rfl
  ·rfl
 ·rfl
theorem OR (P:Program) (g:Aq) (d:Nat) (src dst:TypeId) (x:AV) (k:AV→By→O R):Z5 P g d src dst x k=(Z5 P g d src dst x pr).bind fun q=>k q.1 q.2:=by
 unfold Z5
 split
 ·split
  ·simp only[Option.bind_assoc,Ae];rfl
  ·rfl
 ·split
  ·simp only[Option.bind_assoc,Ae];rfl
  ·rfl
 ·exact RA ..
theorem C_ (g:Aq) (x:AV) (k:AV→By→O R):Jp g x k=(Jp g x pr).bind fun q=>k q.1 q.2:=by
 unfold Jp
 split
 ·rfl
 ·simp only[Option.bind_assoc,Ae];rfl
 ·rfl
theorem C' (P:Program) (g:Aq) (t:TypeId) (x n:AV) (k:AV→By→O R):Jq P g t x n k=(Jq P g t x n pr).bind fun q=>k q.1 q.2:=by
 unfold Jq
 split
 ·rw[Ae];rfl
 ·simp only[Option.bind_assoc]
  congr 1;funext y;congr 1;funext q
  split
  ·simp only[Option.bind_assoc,Ae];rfl
  ·rfl
 ·rfl
theorem X7 {R':Type} {f:R'→O R} {s1:TypeId→LA→LA→(Bool→Option R')→Option R'} {s2:TypeId→LA→LA→(Bool→O R)→O R} (hs:∀ t x y k,(s1 t x y k).bind f=s2 t x y fun b=>(k b).bind f) {x y:LA} :
  ∀ (l:List (Nat×TypeId)) (k:Bool→Option R'),(O7 s1 x y l k).bind f=O7 s2 x y l fun b=>(k b).bind f
 | [],k=>rfl
 | (o,t)::r,k=>by
  rw[O7,O7,hs]
  congr 1;funext b
  exact X7 hs r _
theorem Wm {R':Type} {f:R'→O R} (P:Program):∀ (d:Nat) (t:TypeId) (x y:LA) (k:Bool→Option R'),(CV P d t x y k).bind f=CV P d t x y fun b=>(k b).bind f
 | 0,t,x,y,k=>rfl
 | d+1,t,x,y,k=>by
  rw[CV,CV]
  split<;>simp only[Option.bind_assoc,Ae,Option.bind_none]
  ·congr 1;funext sz;rw[X7 (Wm P d)]
  ·congr 1;funext s;congr 1;funext sz;rw[X7 (Wm P d)]
theorem RB (P:Program) (t:TypeId) (op:BinOp) (x y:AV) (k:AV→O R):JM P t op x y k=(JM P t op x y some).bind k:=by
 unfold JM
 split
 ·rw[Option.bind_assoc]
  congr 1;funext s
  rw[Ae]
  congr 1
  split
  ·rw[Wm];rfl
  ·rw[Wm];rfl
  ·rfl
 ·exact UJ ..
theorem FV (P:Program) (g:Aq) (t:TypeId) (op:BinOp) (x y:AV) (k:AV→O R):JX P g t op x y k=(JX P g t op x y some).bind k:=by
 unfold JX
 split
 ·rw[Ae];congr 1;split<;>rfl
 ·exact RB ..
theorem FW (c x y:AV) (k:AV→O R):JZ c x y k=(JZ c x y some).bind k:=by
 unfold JZ
 split<;>first | rfl | (rw[Ae];rfl)
theorem OS (P:Program) (g:Aq) (co:Bool) (d:Nat) (t:TypeId) (k:AV→By→O R):Z1 P g co d t k=(Z1 P g co d t pr).bind fun q=>k q.1 q.2:=by
 unfold Z1
 split
 ·rw[Option.bind_assoc];rfl
 ·exact KG ..
 ·rfl
theorem FX:∀ (T:List (Nat×Tw)) (f:Nat) (args:LA) (h:Ai) (k:AV→Ai→O R),Yp T f args h k=(Yp T f args h fun v h'=>some (v,h')).bind fun p=>k p.1 p.2
 | [],f,args,h,k=>rfl
 | (g,t)::r,f,args,h,k=>by
  rw[Yp,Yp]
  cases Nat.beq g f
  ·exact FX r f args h k
  ·exact t.eq args h k
theorem RC (E:Env) (g:Aq) (d f:Nat) (args:LA) (k:AV→By→O R):JY E g d f args k=(JY E g d f args pr).bind fun q=>k q.1 q.2:=by
 unfold JY
 rw[Option.bind_assoc]
 congr 1;funext q
 simp only[Ae,Option.bind_none]
 congr 1
 rw[FX,FX (R:=AV×By),Option.bind_assoc]
 congr 1;funext p
 simp only[Ae,Option.bind_none,pr,Option.bind_some]
theorem IX (d:Nat) (o:Option AV) (k:AV→By→O R):Ml d o k=(Ml d o pr).bind fun q=>k q.1 q.2:=by
 unfold Ml
 split<;>rfl
theorem Pn {R':Type} (g:Aq) (b i gn:Nat) (k:Blk→LA→Option R') (f:R'→O R):(IQ g b i gn k).bind f=IQ g b i gn fun x c=>(k x c).bind f:=by
 unfold IQ;simp only[Option.bind_assoc,Ae,Option.bind_none]
theorem MF (P:Program) (g:Aq) (t:TypeId) (m x:AV) (k:AV→By→O R):Wc P g t m x k=(Wc P g t m x pr).bind fun q=>k q.1 q.2:=by
 unfold Wc
 split
 ·rw[Ae,Pn];rfl
 ·rfl
theorem FY (P:Program) (g:Aq) (t:TypeId) (m x:AV) (k:AV→By→O R):Md P g t m x k=(Md P g t m x pr).bind fun q=>k q.1 q.2:=by
 unfold Md
 split
 ·rw[Ae,Pn];rfl
 ·rfl
theorem AN (g:Aq) (m s x:AV) (k:AV→By→O R):H7 g m s x k=(H7 g m s x pr).bind fun q=>k q.1 q.2:=by
 unfold H7
 split
 ·simp only[Ae,Option.bind_assoc,Option.bind_none];rfl
 ·rfl
theorem FZ (P:Program) (g:Aq) (t:TypeId) (x:AV) (k:AV→O R):JU P g t x k=(JU P g t x some).bind k:=by
 unfold JU
 split
 ·simp only[Ae,Pn];rfl
 ·rw[Ae];rfl
 ·rw[Option.bind_assoc];rfl
theorem F_ (P:Program) (d:Nat) (t:TypeId) (l c:AV) (k:AV→By→O R):Me P d t l c k=(Me P d t l c pr).bind fun q=>k q.1 q.2:=by
 unfold Me
 split<;>simp[Option.bind_assoc,Ae,pr]
theorem RD {R':Type} (g:Aq) (d:Nat) (s:AV) (k:Aq→AV→By→Option R') (f:R'→O R):(JV g d s k).bind f=JV g d s fun g s u=>(k g s u).bind f:=by
 unfold JV
 split
 ·simp only[Option.bind_assoc,Ae,Rp,Option.bind_none]
 ·rfl
theorem IY (P:Program) (g:Aq) (d:Nat) (t tx:TypeId) (s x:AV) (k:AV→By→O R):Pb P g d t tx s x k=(Pb P g d t tx s x pr).bind fun q=>k q.1 q.2:=by
 unfold Pb
 rw[RD]
 congr 1;funext g s u
 rw[Y2,Y2 (k:=fun v us=>pr v (u++us)),Option.bind_assoc];rfl
theorem OT (P:Program) (g:Aq) (t:TypeId) (m x y:AV) (k:AV→By→O R):Z6 P g t m x y k=(Z6 P g t m x y pr).bind fun q=>k q.1 q.2:=by
 unfold Z6
 split<;>simp[Ae,Option.bind_assoc,pr,Pn]
theorem OU (P:Program) (d:Nat) (t:TypeId) (x:AV) (k:AV→By→O R):Z7 P d t x k=(Z7 P d t x pr).bind fun q=>k q.1 q.2:=by
 unfold Z7
 split<;>rfl
theorem RE (g:Aq) (it:AV) (b:Bool) (k:AV→By→O R):JW g it b k=(JW g it b pr).bind fun q=>k q.1 q.2:=by
 unfold JW
 split
 ·rw[Option.bind_assoc];congr 1;funext x
  rw[Ae];congr 1
  split
  ·rename_i s p _
   cases decide (p<(s.length:Int))<;>rfl
  ·rfl
 ·rfl
theorem F' (P:Program) (g:Aq) (t:TypeId) (m x:AV) (c:Bool) (k:AV→O R):JT P g t m x c k=(JT P g t m x c some).bind k:=by
 unfold JT
 split<;>simp[Ae,Option.bind_assoc,Pn]
theorem UL (E:Env) (g:Aq) (d:Nat) (v:Operand→AV) (o:Op) (k:AV→By→O R):IR E g d v o k=(IR E g d v o pr).bind fun q=>k q.1 q.2:=by
 unfold IR
 split
 ·rfl
 ·rfl
 ·rw[FW,FW (k:=fun r=>pr r []),Option.bind_assoc];rfl
 ·rw[Ae,←ME,←OS]
 ·rw[B_,B_ (k:=fun u=>NL E.P g d _ u pr),Option.bind_assoc];congr 1;funext u;exact KG ..
 ·rw[X1,X1,Option.bind_assoc];congr 1;funext x;exact UK ..
 ·rw[Ae,←CZ,←AM]
 ·rw[Rq,Rq (k:=fun r=>pr r []),Option.bind_assoc];rfl
 ·exact OO ..
 ·split<;>rfl
 ·rw[FV,FV (k:=fun r=>pr r []),Option.bind_assoc];rfl
 ·rw[Option.bind_assoc];rfl
 ·exact OR ..
 ·rw[Ae];rfl
 ·rw[Ae,Ae,←F_,←OP,←QZ]
 ·rw[BZ,BZ (k:=fun r=>pr r []),Option.bind_assoc];rfl
 ·rw[Sq,Sq (k:=fun r=>pr r []),Option.bind_assoc];rfl
 ·rw[BX,BX (k:=fun r=>pr r []),Option.bind_assoc];rfl
 ·rw[Sp,Sp (k:=fun r=>pr r []),Option.bind_assoc];rfl
 ·rw[BY,BY (k:=fun r=>pr r []),Option.bind_assoc];rfl
 ·exact IX ..
 ·exact OT ..
 ·exact FY ..
 ·exact AN ..
 ·rw[F',F' (k:=fun r=>pr r []),Option.bind_assoc];rfl
 ·exact OU ..
 ·exact RE ..
 ·split
  ·rw[Option.bind_assoc];rfl
  ·rfl
 ·split
  ·split
   ·rw[FZ,FZ (k:=fun r=>pr r []),Option.bind_assoc];rfl
   ·rfl
  ·split
   ·exact IY ..
   ·rfl
  ·split
   ·exact MF ..
   ·rfl
  ·split
   ·exact Q_ ..
   ·rfl
  ·split
   ·exact OQ ..
   ·rfl
  ·split
   ·rw[Option.bind_assoc];rfl
   ·simp only[Option.bind_assoc];rfl
   ·rfl
  ·split
   ·rw[Option.bind_assoc];rfl
   ·simp only[Option.bind_assoc];rfl
   ·rfl
  ·split
   ·exact C_ ..
   ·rfl
  ·split
   ·exact C' ..
   ·rfl
  ·split
   ·rw[Ae,←RC,Ae];congr 1;congr 1
    split<;>rfl
   ·rfl
  ·rfl
 ·rfl
end
end Gx

namespace Gx
open Go
theorem Po:∀ {l acc:List Nat} {b:Nat},b ∈ BL l acc↔b ∈ l∨b ∈ acc
 | [],acc,b=>by simp[BL]
 | i::r,acc,b=>by
  rw[BL]
  cases hm:Dp acc i with
  | true =>
   simp only[cond_true]
   rw[Po]
   have:=Fk.1 hm
   constructor
   ·rintro(h | h)
    ·exact .inl (by simp[h])
    ·exact .inr h
   ·rintro(h | h)
    ·rcases List.mem_cons.1 h with e | h
     ·subst e;exact .inr this
     ·exact .inl h
    ·exact .inr h
  | false =>
   simp only[cond_false]
   rw[Po]
   simp only[List.mem_cons]
   constructor
   ·rintro(h | h | h)
    ·exact .inl (.inr h)
    ·exact .inl (.inl h)
    ·exact .inr h
   ·rintro((h | h) | h)
    ·exact .inr (.inl h)
    ·exact .inl h
    ·exact .inr (.inr h)
theorem N5 {g g':Aq}:∀ {l:List Nat},(∀ b ∈ l,g' b=g b)→inner g' l=inner g l
 | [],_=>rfl
 | i::r,h=>by
  rw[inner,inner,h i (by simp),N5 (fun b hb=>h b (by simp[hb]))]
theorem Y3 {g:Aq}:∀ {a b:List Nat},inner g (a++b)=inner g a++inner g b
 | [],b=>rfl
 | i::r,b=>by rw[List.cons_append,inner,inner,Y3,List.append_assoc]
theorem OV {g g':Aq} {ids:List Nat} (h:∀ b ∈ Mm g ids,g' b=g b):Mm g' ids=Mm g ids:=by
 have h1:∀ b ∈ ids,g' b=g b:=fun b hb=>h b (Po.2 (.inl (List.mem_append.2 (.inl hb))))
 have e1:inner g' ids=inner g ids:=N5 h1
 have h2:∀ b ∈ inner g ids,g' b=g b:=fun b hb=>h b (Po.2 (.inl (List.mem_append.2 (.inr (by rw[Y3];exact List.mem_append.2 (.inl hb))))))
 unfold Mm
 rw[e1,N5 (l:=ids++inner g ids) (fun b hb=>by
  rcases List.mem_append.1 hb with hb | hb
  ·exact h1 b hb
  ·exact h2 b hb)]
section
variable {R:Type} {E:Env} {ops:Array Oper} {o p:Oper} {st st1 st2:St}
theorem B' {v v':Operand→AV} {parts:Array (Nat×Operand)} (h:∀ q ∈ parts.toList,v' q.2=v q.2):(parts.toList.map fun q=>(q.1,v' q.2))=(parts.toList.map fun q=>(q.1,v q.2)) :=
 List.map_congr_left (fun q hq=>by rw[h q hq])
theorem RF {g:Aq} {d:Nat} {v v':Operand→AV} {op:Op} {k:AV→By→O R} (h:∀ x ∈ op.operands.toList,v' x=v x):IR E g d v' op k=IR E g d v op k:=by
  unfold IR
  cases op
  case build t parts =>
    simp only
    rw[B' (v:=v) (v':=v') (fun q hq=>h q.2 (by simp[Op.operands];exact⟨q.1,by simpa using hq⟩))]
  case buildSlice t n parts =>
    simp only
    rw[B' (v:=v) (v':=v') (fun q hq=>h q.2 (by simp[Op.operands];exact⟨q.1,by simpa using hq⟩))]
  case slice t x lo hi mx =>
    simp only
    have h1:v' x=v x:=h x (by simp[Op.operands])
    have h2:lo.map v'=lo.map v:=by
      cases lo with
      | none=>rfl
      | some y=>simp;exact h y (by simp[Op.operands])
    have h3:hi.map v'=hi.map v:=by
      cases hi with
      | none=>rfl
      | some y=>simp;exact h y (by simp[Op.operands])
    have h4:mx.map v'=mx.map v:=by
      cases mx with
      | none=>rfl
      | some y=>simp;exact h y (by simp[Op.operands])
    rw[h1,h2,h3,h4]
  case makeMap t rr =>
    simp only
    have h1:rr.map v'=rr.map v:=by
      cases rr with
      | none=>rfl
      | some y=>simp;exact h y (by simp[Op.operands])
    rw[h1]
  case makeFunc f first caps =>
    cases f<;>try rfl
    simp only
    have:(first.toList++caps.toList).map v'=(first.toList++caps.toList).map v:=List.map_congr_left (fun x hx=>h x (by simp[Op.operands];simpa using hx))
    rw[this]
  case call c =>
    have ha:∀ x ∈ c.args.toList,v' x=v x:=fun x hx=>h x (by
      simp only[Op.operands,Call.operands,Array.toList_append]
      exact List.mem_append.2 (.inr hx))
    have hm:c.args.toList.map v'=c.args.toList.map v:=List.map_congr_left ha
    simp only
    cases hc:c.callee with
    | value f =>
      have hf:v' f=v f:=h f (by simp[Op.operands,Call.operands,hc])
      simp only[hf,hm]
    | invoke a b=>rfl
    | builtin b =>
      cases b<;>try rfl
      all_goals
        simp only
        split
        · first
            | (rename_i h1 h2
               simp only[h1,List.mem_cons,List.not_mem_nil,or_false,forall_eq_or_imp,forall_eq] at ha
               simp only[ha])
            | (rename_i h1
               simp only[h1,List.mem_cons,List.not_mem_nil,or_false,forall_eq_or_imp,forall_eq] at ha
               simp only[ha])
        all_goals first
          | rfl
          | (rename_i h1
             simp only[h1,List.mem_cons,List.not_mem_nil,or_false,forall_eq_or_imp,forall_eq] at ha
             simp only[ha])
  all_goals first
    | rfl
    | (simp[Op.operands] at h;simp[h])
end
end Gx

namespace Gx
open Go
section
variable {R:Type} {E:Env} {ops:Array Oper} {o p:Oper} {st st1 st2 st3:St}
def TC (ops:Array Oper) (o:Oper):List Nat:=match Wd ops o with | some p=>[p.1] | none=>[]
def Ms (o:Oper) (s:Do):LA:=o.op.operands.toList.map (ev s)
def MG (h:Ai) (F:List Nat):Aq:=fun b=>cond (Dp F b) (Ad h b) none
def bU (o:Oper):Nat:=o.dst.getD 50000
def Jb (E:Env) (ops:Array Oper) (o:Oper) (st:St):Option (AV×By×Foot) :=
  (Rb ops st.s o).bind fun wanted=>cond wanted
    ((IR E (MG st.h (Lb st.h o.op (Ms o st.s))) (bU o) (ev st.s) o.op pr).bind fun q =>
      cond (W6 (bU o) (Lb st.h o.op (Ms o st.s)) st.h q.2) (some (q.1,q.2,{ r:=TC ops o++Xy o.op.operands.toList,w:=o.dst,f:=Lb st.h o.op (Ms o st.s),u:=q.2.map (·.1) })) none)
    (some (.tup [],[],{ r:=TC ops o,w:=o.dst,f:=[],u:=[] }))
def after (E:Env) (o:Oper) (st:St) (q:AV×By×Foot):St:={ s:=QI E.nt st.s o.dst q.1,h:=Ac q.2.1 st.h }
theorem Wn (k:St→Foot→O R):NO E ops o st k=(Jb E ops o st).bind fun q=>k (after E o st q) q.2.2:=by
 unfold NO Jb
 rw[Option.bind_assoc]
 congr 1;funext t
 rw[Ae]
 congr 1
 rw[UL,Option.bind_assoc]
 congr 1;funext q
 rw[Ae]
 rfl
theorem GA:∀ {l:List Operand} {t:Nat},Operand.tmp t ∈ l→t ∈ Xy l
 | [],t,h=>by simp at h
 | x::r,t,h=>by
  rcases List.mem_cons.1 h with e | h'
  ·subst e;simp[Xy]
  ·have ih:=GA h'
   cases x<;>simp[Xy]<;>first | exact .inr ih | exact ih
theorem CA {d:Nat} {F:List Nat} {h h2:Ai}:∀ {ups:By},(∀ b ∈ ups.map (·.1),Ad h2 b=Ad h b)→W6 d F h2 ups=W6 d F h ups
 | [],_=>rfl
 | (b,_)::r,hh=>by rw[W6,W6,hh b (by simp),CA (fun c hc=>hh c (by simp at hc ⊢;exact .inr hc))]
theorem Xe {s s2:Do} (h:∀ t ∈ TC ops o,C3 s2 t=C3 s t):Rb ops s2 o=Rb ops s o:=by
 unfold Rb
 cases hg:o.guard with
 | none=>rfl
 | some q =>
  obtain⟨j,want⟩:=q
  simp only
  cases ht:(ops[j]?).bind (·.dst) with
  | none=>rfl
  | some t =>
   have:C3 s2 t=C3 s t:=h t (by simp[TC,Wd,hg,ht])
   simp only[this]
theorem U6 {q:AV×By×Foot} (hc:Jb E ops o st=some q) (hr:∀ t ∈ q.2.2.r,C3 st2.s t=C3 st.s t) (hf:∀ b,b ∈ q.2.2.f∨b ∈ q.2.2.u→Ad st2.h b=Ad st.h b):Jb E ops o st2=some q:=by
 have hc0:=hc
 unfold Jb at hc
 obtain⟨t,ht,h1⟩:=ub hc
 cases t with
 | false =>
  simp at h1;subst h1
  unfold Jb
  rw[Xe (s:=st.s) hr,ht];rfl
 | true =>
  rw[cond_true] at h1
  obtain⟨x,hx,h2⟩:=ub h1
  obtain⟨hu,h3⟩:=uc h2
  simp at h3;subst h3
  simp only at hr hf
  have hv:∀ y ∈ o.op.operands.toList,ev st2.s y=ev st.s y:=fun y hy=>by
   cases y with
   | tmp t=>exact hr t (List.mem_append.2 (.inr (GA hy)))
   | const _=>rfl
   | global _=>rfl
   | func _=>rfl
  have hvals:Ms o st2.s=Ms o st.s:=List.map_congr_left hv
  have hF:Lb st2.h o.op (Ms o st.s)=Lb st.h o.op (Ms o st.s):=by
   unfold Lb at hf ⊢
   cases hlk:(ST o.op||(SV o.op&&(Ms o st.s).any VS)) with
   | true =>
    rw[hlk] at hf
    cases hin:SU o.op with
    | true=>rfl
    | false=>rw[hin] at hf;exact OV (fun b hb=>hf b (.inl hb))
   | false=>rfl
  have hm:MG st2.h (Lb st.h o.op (Ms o st.s))=MG st.h (Lb st.h o.op (Ms o st.s)):=by
   funext b
   unfold MG
   cases hb:Dp (Lb st.h o.op (Ms o st.s)) b with
   | false=>rfl
   | true=>simp only[cond_true];exact hf b (.inl (Fk.1 hb))
  unfold Jb
  rw[Xe (s:=st.s) (fun t ht=>hr t (List.mem_append.2 (.inl ht))),ht]
  simp only[Option.bind_some,cond_true]
  rw[hvals,hF,hm,RF hv,hx]
  simp only[Option.bind_some]
  rw[CA (h:=st.h) (fun b hb=>hf b (.inr hb)),hu]
  rfl
theorem Wo:∀ {ups:By} {b:Nat},Al ups b=true↔b ∈ ups.map (·.1)
 | [],b=>by simp[Al]
 | (i,_)::r,b=>by
  rw[Al]
  cases hi:Nat.beq i b with
  | true=>have:=Nat.eq_of_beq_eq_true hi;subst this;simp
  | false =>
   have ne:=G9 hi
   simp only[cond_false]
   rw[Wo]
   simp only[List.map_cons,List.mem_cons]
   constructor
   ·exact fun h=>.inr h
   ·rintro(h | h)
    ·exact absurd h.symm ne
    ·exact h
theorem TD {q:AV×By×Foot} (hc:Jb E ops o st=some q):q.2.2.w=o.dst∧q.2.2.u=q.2.1.map (·.1):=by
 unfold Jb at hc
 obtain⟨t,ht,h1⟩:=ub hc
 cases t with
 | false=>simp at h1;subst h1;simp
 | true =>
  rw[cond_true] at h1
  obtain⟨x,hx,h2⟩:=ub h1
  obtain⟨hu,h3⟩:=uc h2
  simp at h3;subst h3;simp
theorem Dr:∀ (ups:By) {h h2:Ai},(∀ b,Ad h2 b=Ad h b)→∀ b,Ad (Ac ups h2) b=Ad (Ac ups h) b
 | [],_,_,hh,b=>hh b
 | (i,some x)::r,h,h2,hh,b=>Dr r (fun c=>by rw[Aa,Aa,hh c]) b
 | (i,none)::r,h,h2,hh,b=>by
  rw[Ac,Ac]
  refine Dr r (fun c=>?_) b
  rw[hh i]
  split
  ·rw[Aa,Aa,hh c]
  ·exact hh c
theorem OW {q:AV×By×Foot} (h:Eqv st st2):Eqv (after E o st q) (after E o st2 q):=by
 refine⟨fun t=>?_,fun b=>?_⟩
 ·unfold after;simp only;rw[Gu,Gu,h.1 t]
 ·exact(Dr q.2.1 (fun b=>(h.2 b).symm) b).symm
theorem Iu {i:Nat} {y:Blk}:∀ (ups:By) {h:Ai},Al ups i=false→∀ b,Ad (Ac ups (Cf h i y)) b=if b=i then some y else Ad (Ac ups h) b
 | [],h,_,b=>Aa h i y b
 | (j,some x)::r,h,hi,b=>by
  rw[Al] at hi
  cases hj:Nat.beq j i with
  | true=>rw[hj] at hi;simp at hi
  | false =>
   rw[hj] at hi
   have ne:=G9 hj
   rw[Ac,Ac,Dr r (h:=Cf (Cf h j x) i y) (fun c=>by
    rw[Aa,Aa,Aa,Aa]
    by_cases e1:c=j
    ·subst e1;simp[ne]
    ·simp[e1]) b]
   exact Iu r hi b
 | (j,none)::r,h,hi,b=>by
  rw[Al] at hi
  cases hj:Nat.beq j i with
  | true=>rw[hj] at hi;simp at hi
  | false =>
   rw[hj] at hi
   have ne:=G9 hj
   rw[Ac,Ac,Aa,if_neg ne]
   split
   ·rename_i x hx
    rw[Dr r (h:=Cf (Cf h j { x with dead:=true,pure:=true,cells:=[] }) i y) (fun c=>by
     rw[Aa,Aa,Aa,Aa]
     by_cases e1:c=j
     ·subst e1;simp[ne]
     ·simp[e1]) b]
    exact Iu r hi b
   ·exact Iu r hi b
theorem Kn:∀ (u1 u2:By) (h:Ai),(∀ b,Al u1 b=true→Al u2 b=false)→∀ b,Ad (Ac u2 (Ac u1 h)) b=Ad (Ac u1 (Ac u2 h)) b
 | [],u2,h,_,b=>rfl
 | (i,some x)::r,u2,h,hd,b=>by
  rw[Ac,Ac]
  have hi:Al u2 i=false:=hd i (by simp[Al])
  rw[Kn r u2 (Cf h i x) (fun c hc=>hd c (by rw[Al,hc];cases Nat.beq i c<;>rfl)) b]
  refine Dr r (fun c=>?_) b
  rw[Iu u2 hi,Aa]
 | (i,none)::r,u2,h,hd,b=>by
  rw[Ac,Ac]
  have hi:Al u2 i=false:=hd i (by simp[Al])
  rw[A9 u2 h i hi]
  split
  ·rename_i x hx
   rw[Kn r u2 _ (fun c hc=>hd c (by rw[Al,hc];cases Nat.beq i c<;>rfl)) b]
   refine Dr r (fun c=>?_) b
   rw[Iu u2 hi,Aa]
  ·exact Kn r u2 h (fun c hc=>hd c (by rw[Al,hc];cases Nat.beq i c<;>rfl)) b
theorem GC:∀ {a l:List Nat},NN a l=true→∀ b ∈ a,b ∉ l
 | [],l,_,b,hb=>by simp at hb
 | i::r,l,h,b,hb=>by
  rw[NN] at h;simp at h
  rcases List.mem_cons.1 hb with e | hb
  ·subst e;intro hm;rw[Fk.2 hm] at h;simp at h
  ·exact GC h.2 b hb
theorem GD {q:AV×By×Foot} {t:Nat} (h:o.dst≠some t):C3 (after E o st q).s t=C3 st.s t:=by
 unfold after;simp only;rw[Gu,if_neg (fun hh=>h hh.1)]
theorem GE {q:AV×By×Foot} {b:Nat} (h:b ∉ q.2.1.map (·.1)):Ad (after E o st q).h b=Ad st.h b:=by
 unfold after;simp only
 rw[A9]
 cases hi:Al q.2.1 b with
 | false=>rfl
 | true=>exact absurd (Wo.1 hi) h
theorem KH {w:Option Nat} {l:List Nat} (h:bI w l=false):∀ t ∈ l,w≠some t:=by
 intro t ht e
 subst e
 rw[bI,Fk.2 ht] at h;cases h
theorem swap {q1 q2:AV×By×Foot} (h1:Jb E ops p st=some q1) (h2:Jb E ops o (after E p st q1)=some q2) (hi:BM q1.2.2 q2.2.2=true) :
  Jb E ops o st=some q2∧Jb E ops p (after E o st q2)=some q1∧Eqv (after E p (after E o st q2) q1) (after E o (after E p st q1) q2):=by
 unfold BM at hi
 simp only[Bool.and_eq_true,Bool.not_eq_true'] at hi
 obtain⟨⟨⟨⟨i1,i2⟩,i3⟩,i4⟩,i5⟩:=hi
 obtain⟨w1,u1⟩:=TD h1
 obtain⟨w2,u2⟩:=TD h2
 have d1:=GC i4
 have d2:=GC i5
 have a1:Jb E ops o st=some q2:=U6 h2 (fun t ht=>(GD (by rw[←w1];exact KH i1 t ht)).symm) (fun b hb=>(GE (fun hm=>by
  rw[←u1] at hm
  exact d1 b hm (by rcases hb with hb | hb<;>simp[hb]))).symm)
 have a2:Jb E ops p (after E o st q2)=some q1:=U6 h1 (fun t ht=>GD (by rw[←w2];exact KH i2 t ht)) (fun b hb=>GE (fun hm=>by
  rw[←u2] at hm
  rcases hb with hb | hb
  ·exact d2 b hm hb
  ·exact d1 b hb (by simp[hm])))
 refine⟨a1,a2,fun t=>?_,fun b=>?_⟩
 ·unfold after;simp only
  rw[Gu,Gu,Gu,Gu]
  by_cases e1:p.dst=some t∧t<E.nt
  ·by_cases e2:o.dst=some t∧t<E.nt
   ·exfalso
    rw[w1,w2,e1.1,e2.1] at i3
    simp at i3
   ·rw[if_pos e1,if_neg e2,if_pos e1]
  ·by_cases e2:o.dst=some t∧t<E.nt
   ·rw[if_neg e1,if_pos e2,if_pos e2]
   ·rw[if_neg e1,if_neg e2,if_neg e2,if_neg e1]
 ·unfold after;simp only
  refine(Kn q1.2.1 q2.2.1 st.h (fun c hc=>?_) b).symm
  cases hx:Al q2.2.1 c with
  | false=>rfl
  | true =>
   have m1:c ∈ q1.2.2.u:=by rw[u1];exact Wo.1 hc
   have m2:c ∈ q2.2.2.u:=by rw[u2];exact Wo.1 hx
   exact absurd (by simp[m2]) (d1 c m1)
def RunF (E:Env) (ops:Array Oper) (fp:Nat→Foot):List (Nat×Oper)→St→St→Prop
 | [],st,e=>Eqv st e
 | (i,o)::r,st,e=>∃ q,Jb E ops o st=some q∧q.2.2=fp i∧RunF E ops fp r (after E o st q) e
theorem RunF.congr {fp:Nat→Foot}:∀ {l:List (Nat×Oper)} {st st2 e:St},RunF E ops fp l st e→Eqv st st2→RunF E ops fp l st2 e
 | [],st,st2,e,h,he=>he.symm.trans h
 | (i,o)::r,st,st2,e,h,he=>by
  rw[RunF] at h ⊢
  obtain⟨q,h1,h2,h3⟩:=h
  exact⟨q,U6 h1 (fun t _=>(he.1 t).symm) (fun b _=>(he.2 b).symm),h2,RunF.congr h3 (OW he)⟩
theorem RunF.pull {fp:Nat→Foot} {i:Nat} {o:Oper} {B:List (Nat×Oper)}:∀ {A:List (Nat×Oper)} {st e:St},RunF E ops fp (A++(i,o)::B) st e→(∀ jp ∈ A,BM (fp jp.1) (fp i)=true) →
  ∃ q,Jb E ops o st=some q∧q.2.2=fp i∧RunF E ops fp (A++B) (after E o st q) e
 | [],st,e,h,_=>h
 | (j,p)::A,st,e,h,hA=>by
  rw[List.cons_append,RunF] at h
  obtain⟨q1,h1,h2,h3⟩:=h
  obtain⟨q2,g1,g2,g3⟩:=RunF.pull h3 (fun jp hm=>hA jp (by simp[hm]))
  have hi:BM q1.2.2 q2.2.2=true:=by rw[h2,g2];exact hA (j,p) (by simp)
  obtain⟨a1,a2,a3⟩:=swap h1 g1 hi
  refine⟨q2,a1,g2,?_⟩
  rw[List.cons_append,RunF]
  exact⟨q1,a2,h2,RunF.congr g3 a3.symm⟩
end
end Gx

namespace Gx
open Go
def idx:Nat→List Oper→List (Nat×Oper)
 | _,[]=>[]
 | n,o::r=>(n,o)::idx (n+1) r
theorem EK:∀ {l:List Oper} {n:Nat} {p:Nat×Oper},p ∈ idx n l↔n≤p.1∧l[p.1 - n]?=some p.2
 | [],n,p=>by simp[idx]
 | o::r,n,p=>by
  rw[idx,List.mem_cons,EK]
  constructor
  ·rintro(rfl | ⟨h1,h2⟩)
   ·simp
   ·refine⟨by omega,?_⟩
    rw[show p.1 - n=(p.1 - (n+1))+1 by omega];simpa using h2
  ·rintro⟨h1,h2⟩
   by_cases e:p.1=n
   ·left
    rw[e] at h2;simp at h2
    obtain⟨a,b⟩:=p
    simp at e h2;subst e h2;rfl
   ·right
    refine⟨by omega,?_⟩
    rw[show p.1 - n=(p.1 - (n+1))+1 by omega] at h2;simpa using h2
theorem GF:∀ (l:List Oper) (n:Nat),(idx n l).Pairwise (fun a b=>a.1<b.1)
 | [],n=>List.Pairwise.nil
 | o::r,n=>by
  rw[idx]
  refine List.pairwise_cons.2 ⟨fun p hp=>?_,GF r (n+1)⟩
  have:=(EK.1 hp).1
  show n<p.1;omega
section
variable {R:Type} {r:R} {Z:Start} {E:Env} {ops:Array Oper}
def RunL (E:Env) (ops:Array Oper):List Oper→List Foot→St→St→Prop
 | [],[],st,e=>st=e
 | o::l,f::fs,st,e=>∃ st' q,Eqv st st'∧Jb E ops o st'=some q∧q.2.2=f∧RunL E ops l fs (after E o st' q) e
 | _,_,_,_=>False
theorem OX:∀ {l:List Oper} {st:St} {tr:List Foot} {k:St→List Foot→O R},EX E ops l st tr k=some r→∃ fs e,k e (fs.reverse++tr)=some r∧RunL E ops l fs st e
 | [],st,tr,k,h=>⟨[],st,by simpa[EX] using h,rfl⟩
 | o::l,st,tr,k,h=>by
  rw[EX] at h
  obtain⟨st',he,h⟩:=FS h
  rw[Wn] at h
  obtain⟨q,h1,h2⟩:=ub h
  obtain⟨fs,e,h3,h4⟩:=OX h2
  exact⟨q.2.2::fs,e,by simpa using h3,st',q,he,h1,rfl,h4⟩
theorem RunL.length:∀ {l:List Oper} {fs:List Foot} {st e:St},RunL E ops l fs st e→fs.length=l.length
 | [],[],_,_,_=>rfl
 | [],_::_,_,_,h=>h.elim
 | _::_,[],_,_,h=>h.elim
 | o::l,f::fs,st,e,⟨_,q,_,_,_,h⟩=>by simp[RunL.length h]
theorem RunL.runF {fp:Nat→Foot}:∀ {l:List Oper} {fs:List Foot} {n:Nat} {st e:St},RunL E ops l fs st e→(∀ (j:Nat) (f:Foot),fs[j]?=some f→fp (n+j)=f)→RunF E ops fp (idx n l) st e
 | [],[],n,st,e,h,_=>by subst h;exact Eqv.refl _
 | [],_::_,_,_,_,h,_=>h.elim
 | _::_,[],_,_,_,h,_=>h.elim
 | o::l,f::fs,n,st,e,⟨st',q,he,h1,h2,h3⟩,hf=>by
  rw[idx]
  refine RunF.congr ?_ he.symm
  rw[RunF]
  refine⟨q,h1,by rw[h2];exact(hf 0 f (by simp)).symm,RunL.runF h3 (fun j g hj=>?_)⟩
  have:=hf (j+1) g (by simpa using hj)
  rwa [show n+(j+1)=n+1+j by omega] at this
theorem CB {f:Foot} {anc:List Nat}:∀ {seen:List Foot} {i:Nat},Yr f anc i seen=true→∀ (j:Nat) (g:Foot),seen[j]?=some g→(i+j) ∈ anc∨BM g f=true
 | [],i,_,j,g,hj=>by simp at hj
 | x::r,i,h,j,g,hj=>by
  rw[Yr] at h;simp only[Bool.and_eq_true,Bool.or_eq_true] at h
  cases j with
  | zero =>
   simp at hj;subst hj
   rcases h.1 with h1 | h1
   ·exact .inl (Fk.1 h1)
   ·exact .inr h1
  | succ j =>
   have:=CB h.2 j g (by simpa using hj)
   rwa [show i+1+j=i+(j+1) by omega] at this
theorem GG:∀ {fs:List Foot} {az9:List (List Nat)} {seen:List Foot},We fs az9 seen=true→∀ (i:Nat) (f:Foot),fs[i]?=some f →
  ∃ a,az9[i]?=some a∧∀ (j:Nat) (g:Foot),(seen++fs)[j]?=some g→j<seen.length+i→j ∈ a∨BM g f=true
 | [],az9,seen,_,i,f,hf=>by simp at hf
 | x::r,[],seen,h,i,f,hf=>by simp[We] at h
 | x::r,a::az9,seen,h,i,f,hf=>by
  rw[We] at h;simp only[Bool.and_eq_true] at h
  cases i with
  | zero =>
   simp at hf;subst hf
   refine⟨a,by simp,fun j g hj hlt=>?_⟩
   rw[List.getElem?_append,if_pos (by omega)] at hj
   simpa using CB h.1 j g hj
  | succ i =>
   obtain⟨a',h1,h2⟩:=GG h.2 i f (by simpa using hf)
   refine⟨a',by simpa using h1,fun j g hj hlt=>h2 j g ?_ (by simp;omega)⟩
   simpa using hj
theorem On:∀ {l:List Oper} {acc:List (List Nat)} {i:Nat},i<acc.length→(Dl l acc)[i]?=acc[i]?
 | [],acc,i,_=>rfl
 | o::r,acc,i,hi=>by
  rw[Dl,Pe,On (by simp;omega),List.getElem?_append,if_pos hi]
theorem Rr:∀ {l:List Oper} {acc:List (List Nat)} {i:Nat} {a:List Nat},(Dl l acc)[i]?=some a→acc.length≤i→∃ o,l[i - acc.length]?=some o ∧
  ∀ k ∈ a,k ∈ Rc o∨∃ j a',j ∈ Rc o∧j<i∧(Dl l acc)[j]?=some a'∧k ∈ a'
 | [],acc,i,a,h,hi=>by
  rw[Dl,List.getElem?_eq_none hi] at h;cases h
 | o::r,acc,i,a,h,hi=>by
  by_cases e:i=acc.length
  ·subst e
   rw[Dl,Pe,On (by simp)] at h
   simp only[List.getElem?_concat_length,Option.some.injEq] at h
   refine⟨o,by simp,fun k hk=>?_⟩
   rw[←h,Po] at hk
   replace hk:=hk.resolve_right (by simp)
   rcases List.mem_append.1 hk with hk | hk
   ·exact .inl hk
   ·right
    obtain⟨j,hj,hk⟩:=List.mem_flatMap.1 hk
    cases ha:acc[j]? with
    | none=>rw[ha] at hk;simp at hk
    | some a' =>
     rw[ha] at hk;simp at hk
     have hlt:j<acc.length:=(List.getElem?_eq_some_iff.1 ha).1
     exact⟨j,a',hj,hlt,by rw[On hlt];exact ha,hk⟩
  ·rw[Dl,Pe] at h
   obtain⟨o',h1,h2⟩:=Rr h (by simp;omega)
   refine⟨o',?_,fun k hk=>?_⟩
   ·simp at h1
    rw[show i - acc.length=(i - (acc.length+1))+1 by omega];simpa using h1
   ·rw[Dl,Pe];exact h2 k hk
theorem Y4:∀ {l:List Oper} {n i:Nat} {o:Oper},Mf n l=true→l[i]?=some o→∀ e ∈ o.after,Ux e=true→e.on<n+i
 | [],n,i,o,_,hi,_,_,_=>by simp at hi
 | x::r,n,i,o,h,hi,e,he,hb=>by
  rw[Mf] at h;simp only[Bool.and_eq_true] at h
  cases i with
  | zero =>
   simp at hi;subst hi
   have:=List.all_eq_true.1 h.1 e (by simpa using he)
   rw[hb] at this;simpa using this
  | succ i =>
   have:=Y4 h.2 (by simpa using hi) e he hb
   omega
theorem KI (e:Edge):Region.binds .any e=Ux e:=by
 unfold Region.binds Ux
 cases e.ground<;>rfl
theorem RG {listed:Array Bool} (hclosed:∀ (j:Nat) (o:Oper),ops[j]?=some o→listed.getD j true=true→∀ k ∈ Rc o,listed.getD k false=true) :
  ∀ (i:Nat) (a:List Nat) (o:Oper),(Dl ops.toList [])[i]?=some a→ops[i]?=some o→(∀ k ∈ Rc o,listed.getD k false=true)→∀ k ∈ a,listed.getD k false=true:=by
 intro i
 induction i using Nat.strongRecOn with
 | _ i ih =>
  intro a o ha ho hd k hk
  obtain⟨o',h1,h2⟩:=Rr ha (by simp)
  simp at h1
  rw[ho] at h1;simp at h1;subst h1
  rcases h2 k hk with h3 | ⟨j,a',h3,h4,h5,h6⟩
  ·exact hd k h3
  ·have hjl:=hd j h3
   obtain⟨oj,hoj,_⟩:=Rr h5 (by simp)
   simp at hoj
   have hjt:listed.getD j true=true:=by
    rw[Array.getD_eq_getD_getElem?] at hjl ⊢
    cases hx:listed[j]? with
    | none=>rw[hx] at hjl;simp at hjl
    | some b=>rw[hx] at hjl;simpa using hjl
   exact ih j h4 a' oj h5 hoj (hclosed j oj hoj hjt) k h6
def Gv (ops:Array Oper) (listed:Array Bool):List (Nat×Oper):=(idx 0 ops.toList).filter fun p=>!listed.getD p.1 true
theorem U7 (listed:Array Bool):(Gv ops listed).Pairwise (fun a b=>a.1<b.1):=(GF _ _).filter _
theorem Pp {listed:Array Bool} {p:Nat×Oper}:p ∈ Gv ops listed↔ops[p.1]?=some p.2∧listed.getD p.1 true=false:=by
 unfold Gv
 rw[List.mem_filter,EK]
 simp
theorem OY {listed:Array Bool} {i:Nat} {o:Oper} {A B:List (Nat×Oper)} (h:Gv ops listed=A++(i,o)::B):Gv ops (listed.setIfInBounds i true)=A++B:=by
 have hi:(i,o) ∈ Gv ops listed:=by rw[h];simp
 have hil:=(Pp.1 hi).2
 have hlt:i<listed.size:=by
  rw[Array.getD_eq_getD_getElem?] at hil
  rcases Nat.lt_or_ge i listed.size with hl | hl
  ·exact hl
  ·rw[Array.getElem?_eq_none hl] at hil;simp at hil
 have h1:Gv ops (listed.setIfInBounds i true)=(Gv ops listed).filter fun p=>!Nat.beq p.1 i:=by
  unfold Gv
  rw[List.filter_filter]
  congr 1;funext p
  by_cases e:p.1=i
  ·rw[e];simp[hlt]
  ·rw[getD_set_ne true (fun e'=>e e'.symm),Ph e];simp
 rw[h1,h,List.filter_append,List.filter_cons]
 have hs:=U7 (ops:=ops) listed
 rw[h] at hs
 have hs':=List.pairwise_append.1 hs
 have hB:=List.pairwise_cons.1 hs'.2.1
 have e1:A.filter (fun p=>!Nat.beq p.1 i)=A:=List.filter_eq_self.2 (fun p hp=>by
  have:p.1<i:=hs'.2.2 p hp (i,o) (by simp)
  rw[Ph (by omega)];rfl)
 have e2:B.filter (fun p=>!Nat.beq p.1 i)=B:=List.filter_eq_self.2 (fun p hp=>by
  have:i<p.1:=hB.1 p hp
  rw[Ph (by omega)];rfl)
 rw[e1,e2];simp
theorem UM (hC:X3 E) {Q:Exit→Act→World→Prop} {fp:Nat→Foot} {e:St} (hfw:Mf 0 ops.toList=true)
  (hord:∀ (i j:Nat) (o:Oper),ops[i]?=some o→j<i→∃ a,(Dl ops.toList [])[i]?=some a∧(j ∈ a∨BM (fp j) (fp i)=true))
  (hQ:∀ a' w' J' β',Inv Z E.nt J' β' e a' w'→Q .normal a' w') :
  ∀ (fuel:Nat) (listed:Array Bool) {st:St} {a:Act} {w:World} {J:Bool→Nat→Prop} {β:Au},listed.size=ops.size→(Gv ops listed).length=fuel →
   (∀ (j:Nat) (o:Oper),ops[j]?=some o→listed.getD j true=true→∀ k ∈ Rc o,listed.getD k false=true) →
   RunF E ops fp (Gv ops listed) st e→Inv Z E.nt J β st a w→wpAny E.P .any ops Q fuel listed a w:=by
 intro fuel
 have fin:∀ (listed:Array Bool) {st:St} {a:Act} {w:World} {J:Bool→Nat→Prop} {β:Au},Gv ops listed=[]→RunF E ops fp (Gv ops listed) st e→Inv Z E.nt J β st a w→Region.ready .any ops listed=[]∧Q .normal a w:=by
  intro listed st a w J β hr hrun I
  refine⟨List.eq_nil_iff_forall_not_mem.2 (fun i hi=>?_),?_⟩
  ·obtain⟨h1,o,h2,_⟩:=mem_ready.1 hi
   have:(i,o) ∈ Gv ops listed:=Pp.2 ⟨h2,h1⟩
   rw[hr] at this;simp at this
  ·rw[hr,RunF] at hrun
   exact hQ _ _ J β (I.eqv hrun)
 induction fuel with
 | zero =>
  intro listed st a w J β _ hlen _ hrun I
  exact fin listed (List.length_eq_zero_iff.1 hlen) hrun I
 | succ fuel ih =>
  intro listed st a w J β hsz hlen hclosed hrun I
  refine⟨fun hnil=>?_,fun i hi=>?_⟩
  ·
   cases hrest:Gv ops listed with
   | nil=>rw[hrest] at hlen;simp at hlen
   | cons p r =>
    exfalso
    have hp:p ∈ Gv ops listed:=by rw[hrest];simp
    obtain⟨ho,hl⟩:=Pp.1 hp
    have hs:=U7 (ops:=ops) listed
    rw[hrest] at hs
    have hmin:=(List.pairwise_cons.1 hs).1
    have:p.1 ∈ Region.ready .any ops listed:=mem_ready.2 ⟨hl,p.2,ho,fun ed hed hb=>by
     rw[KI] at hb
     have hlt:=Y4 hfw (i:=p.1) (o:=p.2) (by simpa using ho) ed hed hb
     simp at hlt
     have hops:ed.on<ops.size:=by have:=(Array.getElem?_eq_some_iff.1 ho).1;omega
     cases hx:listed.getD ed.on true with
     | true =>
      rw[Array.getD_eq_getD_getElem?] at hx ⊢
      rw[Array.getElem?_eq_getElem (by omega)] at hx ⊢
      simpa using hx
     | false =>
      have hm:(ed.on,ops[ed.on]) ∈ Gv ops listed:=Pp.2 ⟨by simp[hops],hx⟩
      rw[hrest] at hm
      rcases List.mem_cons.1 hm with e1 | e1
      ·have:ed.on=p.1:=by rw[←e1]
       omega
      ·have:=hmin _ e1
       simp at this;omega⟩
    rw[hnil] at this;simp at this
  ·obtain⟨hl,o,ho,hall⟩:=mem_ready.1 hi
   have hmem:(i,o) ∈ Gv ops listed:=Pp.2 ⟨ho,hl⟩
   obtain⟨A,B,hAB⟩:=List.append_of_mem hmem
   have hdir:∀ k ∈ Rc o,listed.getD k false=true:=by
    intro k hk
    unfold Rc at hk
    obtain⟨ed,hed,rfl⟩:=List.mem_map.1 hk
    obtain⟨h1,h2⟩:=List.mem_filter.1 hed
    exact hall ed (by simpa using h1) (by rw[KI];exact h2)
   have hs:=U7 (ops:=ops) listed
   rw[hAB] at hs
   have hs':=List.pairwise_append.1 hs
   rw[hAB] at hrun
   obtain⟨q,g1,g2,g3⟩:=hrun.pull (fun jp hjp=>by
    have hlt:jp.1<i:=hs'.2.2 jp hjp (i,o) (by simp)
    obtain⟨an,h1,h2⟩:=hord i jp.1 o ho hlt
    rcases h2 with h2 | h2
    ·exfalso
     have:=RG hclosed i an o h1 ho hdir jp.1 h2
     have hjm:jp ∈ Gv ops listed:=by rw[hAB];simp[hjp]
     have h3:=(Pp.1 hjm).2
     rw[Array.getD_eq_getD_getElem?] at this h3
     cases hx:listed[jp.1]? with
     | none=>rw[hx] at this;simp at this
     | some b=>rw[hx] at this h3;simp at this h3;rw[this] at h3;cases h3
    ·exact h2)
   have hone:NO E ops o st (fun s f=>some (s,f))=some (after E o st q,q.2.2):=by rw[Wn,g1];rfl
   obtain⟨st',f,h4,h5⟩:=FR (K:=wpAny E.P .any ops Q fuel (listed.setIfInBounds i true)) (Q:=Q) hC I hone
   simp only[Option.some.injEq,Prod.mk.injEq] at h4
   obtain⟨rfl,rfl⟩:=h4
   have hlt:i<listed.size:=by rw[hsz];exact(Array.getElem?_eq_some_iff.1 ho).1
   have:=h5 (fun a' w' J' β' I'=>ih (listed.setIfInBounds i true) (by simp[hsz]) (by
     rw[OY hAB];rw[hAB] at hlen;simp at hlen ⊢;omega) (fun j oj hoj hj k hk=>?_) (by rw[OY hAB];exact g3) I')
   ·unfold wpOp
    rw[ho]
    simp only
    split
    ·rename_i hw;rw[if_pos hw] at this;exact .inl this
    ·rename_i hw;rw[if_neg hw] at this;exact this
   ·by_cases e1:j=i
    ·subst e1
     rw[ho] at hoj;simp at hoj;subst hoj
     exact getD_set_true (hdir k hk)
    ·rw[getD_set_ne true (fun e'=>e1 e'.symm)] at hj
     exact getD_set_true (hclosed j oj hoj hj k hk)
end
end Gx

namespace Gx
open Go
section
variable {R:Type} {r:R} {Z:Start} {E:Env}
theorem IZ (hC:X3 E) (hm:E.P.follows .mixedOrders=true) {roots:List Nat} {id:Nat} {ops:Array Oper} {draw:Bool} {st:St} {k:St→O R} {a:Act} {w:World} {J:Bool→Nat→Prop} {β:Au} {Q:Exit→Act→World→Prop}
  (I:Inv Z E.nt J β st a w) (hh:Wf E roots ops draw st k=some r) (hQ:∀ st' a' w' J' β',Inv Z E.nt J' β' st' a' w'→k st'=some r→Q .normal a' w'):(Code.region id ops draw).wp E.P Q a w:=by
 unfold Wf at hh
 have done:∀ {st':St} {tr:List Foot} {a':Act} {w':World} {J':Bool→Nat→Prop} {β':Au},Inv Z E.nt J' β' st' a' w' →
   cond (!draw||(Mf 0 ops.toList&&We tr.reverse (Dl ops.toList []) [])) ((clean (st'.s.map (·.1)) roots st').bind k) none=some r→Q .normal a' w':=by
  intro st' tr a' w' J' β' I' h'
  obtain⟨_,h1⟩:=uc h'
  obtain⟨st2,h2,h3⟩:=ub h1
  obtain⟨β2,I2⟩:=OL I' h2
  exact hQ _ _ _ _ _ I2 h3
 cases draw with
 | false=>exact wp_region_list (FT hC _ I hh (fun st' tr' a' w' J' β' I' h'=>done I' h'))
 | true =>
  obtain⟨fs,e,h1,h2⟩:=OX hh
  obtain⟨hc,h3⟩:=uc h1
  simp at hc
  obtain⟨hfw,hord⟩:=hc
  have hlen:=h2.length
  refine wp_region_any hm ?_
  have I':Inv Z E.nt J β st a w.drew:=I.step (Step.drew I.sim) (fun b x hx hn=>by rw[hx] at hn;cases hn)
  have hrest:Gv ops (Array.replicate ops.size false)=idx 0 ops.toList:=by
   unfold Gv
   refine List.filter_eq_self.2 (fun p hp=>?_)
   have:=(EK.1 hp).2
   have hlt:p.1<ops.size:=by
    simp at this
    exact(Array.getElem?_eq_some_iff.1 this).1
   simp[hlt]
  have hidx:(idx 0 ops.toList).length=ops.size:=by
   have:∀ (l:List Oper) (n:Nat),(idx n l).length=l.length:=by
    intro l
    induction l with
    | nil=>intro n;rfl
    | cons o r ih=>intro n;simp[idx,ih]
   rw[this];simp
  have hrun:RunF E ops (fun i=>fs.getD i { r:=[],w:=none,f:=[],u:=[] }) (idx 0 ops.toList) st e:=h2.runF (fun j f hj=>by simp[hj])
  refine UM hC (fp:=fun i=>fs.getD i { r:=[],w:=none,f:=[],u:=[] }) (e:=e) hfw (fun i j o ho hji=>?_) (fun a' w' J' β' Ie=>done (tr:=fs.reverse++[]) Ie h1) ops.size _ (by simp) (by rw[hrest,hidx]) (fun j o ho hj=>?_) (by rw[hrest];exact hrun) I'
  ·have hi:i<fs.length:=by rw[hlen];simpa using(Array.getElem?_eq_some_iff.1 ho).1
   obtain⟨an,g1,g2⟩:=GG hord i fs[i] (List.getElem?_eq_getElem hi)
   refine⟨an,g1,?_⟩
   have hj:j<fs.length:=by omega
   have:=g2 j fs[j] (by simp[hj]) (by simpa using hji)
   simpa[hi,hj] using this
  ·exfalso
   have hlt:j<ops.size:=(Array.getElem?_eq_some_iff.1 ho).1
   simp[hlt] at hj
end
end Gx

namespace Gx
open Go
theorem Y5 (ρ:Nat→Nat):∀ c:LA,(Lj ρ c).length=c.length
 | []=>rfl
 | x::r=>by rw[Lj,List.length_cons,List.length_cons,Y5 ρ r]
theorem B8 (ρ:Nat→Nat) (x:Blk):(I9 ρ x).cells.length=x.cells.length:=by
 unfold I9;cases x.pure
 ·simp;exact Y5 _ _
 ·rfl
theorem KJ {ρ:Nat→Nat}:∀ {c:LA} {j:Nat} {y:AV},(Lj ρ c)[j]?=some y→∃ x,c[j]?=some x∧y=Ut ρ x
 | [],j,y,hj=>by simp[Lj] at hj
 | x::r,j,y,hj=>by
  rw[Lj] at hj
  cases j with
  | zero=>simp at hj;exact⟨x,by simp,hj.symm⟩
  | succ j=>obtain⟨x',h1,h2⟩:=KJ (c:=r) (j:=j) (by simpa using hj);exact⟨x',by simpa using h1,h2⟩
section
variable {R:Type} {r:R} {J J':Bool→Nat→Prop} {β β':Au} {h h':Ai} {w w':World} {ids:List Nat} {ρ:Nat→Nat}
theorem Gw {g:Aq}:∀ {ids:List Nat},(ids.map ρ).Nodup→∀ c y,Ad (sub g ρ ids) c=some y→∃ b x,b ∈ ids∧ρ b=c∧g b=some x∧y=I9 ρ x
 | [],_,c,y,hc=>by simp[sub,Ad] at hc
 | b::r,hn,c,y,hc=>by
  rw[List.map_cons,List.nodup_cons] at hn
  rw[sub] at hc
  split at hc
  ·rename_i x hx
   rw[Aa] at hc
   by_cases e:c=ρ b
   ·rw[if_pos e] at hc;simp at hc
    exact⟨b,x,by simp,e.symm,hx,hc.symm⟩
   ·rw[if_neg e] at hc
    obtain⟨b',x',h1,h2,h3,h4⟩:=Gw hn.2 c y hc
    exact⟨b',x',by simp[h1],h2,h3,h4⟩
  ·obtain⟨b',x',h1,h2,h3,h4⟩:=Gw hn.2 c y hc
   exact⟨b',x',by simp[h1],h2,h3,h4⟩
theorem L1 {g:Aq}:∀ {ids:List Nat},(ids.map ρ).Nodup→∀ b x,b ∈ ids→g b=some x→Ad (sub g ρ ids) (ρ b)=some (I9 ρ x)
 | [],_,b,x,hb,_=>by simp at hb
 | b'::r,hn,b,x,hb,hx=>by
  rw[List.map_cons,List.nodup_cons] at hn
  rw[sub]
  by_cases e:b=b'
  ·subst e
   rw[hx]
   simp only
   rw[Aa,if_pos rfl]
  ·have hm:b ∈ r:=by simpa[e] using hb
   have ne:ρ b≠ρ b':=fun h=>hn.1 (by rw[←h];exact List.mem_map.2 ⟨b,hm,rfl⟩)
   split
   ·rw[Aa,if_neg ne];exact L1 hn.2 b x hm hx
   ·exact L1 hn.2 b x hm hx
def WF (ρ:Nat→Nat) (ids:List Nat) (c:Nat):Option Nat:=ids.find? fun b=>Nat.beq (ρ b) c
theorem WG (hn:(ids.map ρ).Nodup) {b:Nat} (hb:b ∈ ids):WF ρ ids (ρ b)=some b:=by
 induction ids with
 | nil=>simp at hb
 | cons i r ih =>
  rw[List.map_cons,List.nodup_cons] at hn
  unfold WF at ih ⊢
  rw[List.find?_cons]
  by_cases e:b=i
  ·subst e;simp
  ·have hm:b ∈ r:=by simpa[e] using hb
   have ne:ρ i≠ρ b:=fun h=>hn.1 (by rw[h];exact List.mem_map.2 ⟨b,hm,rfl⟩)
   rw[Ph ne];exact ih hn.2 hm
def Sr (ρ:Nat→Nat) (ids:List Nat) (β:Au):Au:=fun c=>(WF ρ ids c).bind β
theorem Co (hn:(ids.map ρ).Nodup) {b:Nat} (hb:b ∈ ids):Sr ρ ids β (ρ b)=β b:=by
 unfold Sr;rw[WG hn hb];rfl
mutual
theorem Rep.ren (hn:(ids.map ρ).Nodup):∀ {x:AV} {v:Value},(∀ b ∈ C6 x,b ∈ ids)→Rep J β h w x v→Rep J (Sr ρ ids β) (sub (Ad h) ρ ids) w (Ut ρ x) v
 | .own b off n,v,hm,hr=>by
  rw[Rep] at hr
  obtain⟨x,A,cap,⟨hx,hmp⟩,h1,h2,h3⟩:=hr
  have hb:=hm b (by simp[C6])
  rw[Ut,Rep]
  refine⟨I9 ρ x,A,cap,⟨L1 hn b x hb hx,hmp⟩,h1,h2,?_⟩
  rw[B8,Co hn hb]
  exact h3
 | .optr b off,v,hm,hr=>by
  rw[Rep] at hr
  obtain⟨x,k,o,⟨hx,hmp⟩,h1,h2⟩:=hr
  have hb:=hm b (by simp[C6])
  rw[Ut,Rep]
  refine⟨I9 ρ x,k,o,⟨L1 hn b x hb hx,hmp⟩,h1,?_⟩
  rw[Co hn hb]
  exact h2
 | .omap b,v,hm,hr=>by
  rw[Rep] at hr
  obtain⟨x,k,⟨hx,hmp⟩,h2⟩:=hr
  have hb:=hm b (by simp[C6])
  rw[Ut,Rep]
  refine⟨I9 ρ x,k,⟨L1 hn b x hb hx,hmp⟩,?_⟩
  rw[Co hn hb]
  exact h2
 | .nd b q,v,hm,hr=>by
  rw[Rep] at hr
  obtain⟨hsh,x,⟨hx,hmp⟩,h2⟩:=hr
  have hb:=hm b (by simp[C6])
  rw[Ut]
  cases hq:q.stable with
  | false=>rw[cond_false,Rep];trivial
  | true =>
   rw[cond_true,Rep]
   refine⟨hsh,I9 ρ x,⟨L1 hn b x hb hx,hmp⟩,h2.imp id (fun h2=>?_)⟩
   rw[Co hn hb]
   cases q with
   | whole n=>obtain⟨k,o,g1,g2,g3,g4⟩:=h2;exact⟨k,o,g1,g2,(B8 ρ x).trans g3,g4⟩
   | slot i=>obtain⟨k,o,g1,g2,g3,g4⟩:=h2;exact⟨k,o,g1,g2,by rw[B8];exact g3,g4⟩
   | ref i g n s=>simp[NV.stable] at hq
   | elt i g off s=>simp[NV.stable] at hq
   | stamp i g p=>simp[NV.stable] at hq
 | .agg c,v,hm,hr=>by
  rw[Rep] at hr
  obtain⟨cs,h1,h2⟩:=hr
  rw[Ut,Rep]
  exact⟨cs,h1,Reps.ren hn (by simpa[C6] using hm) h2⟩
 | .tup c,v,hm,hr=>by
  rw[Rep] at hr
  obtain⟨cs,h1,h2⟩:=hr
  rw[Ut,Rep]
  exact⟨cs,h1,Reps.ren hn (by simpa[C6] using hm) h2⟩
 | .fn f c,v,hm,hr=>by
  rw[Rep] at hr
  obtain⟨cs,h1,h2⟩:=hr
  rw[Ut,Rep]
  exact⟨cs,h1,Reps.ren hn (by simpa[C6] using hm) h2⟩
 | .pagg c o,v,hm,hr=>by show Rep J _ _ w (.pagg c o) v;rw[Rep] at hr ⊢;exact hr
 | .undef,v,hm,hr=>by show Rep J _ _ w (.undef) v;rw[Rep] at hr ⊢;exact hr
 | .imm c n sz t o,v,hm,hr=>by show Rep J _ _ w (.imm c n sz t o) v;rw[Rep] at hr ⊢;exact hr
 | .iptr c o,v,hm,hr=>by show Rep J _ _ w (.iptr c o) v;rw[Rep] at hr ⊢;exact hr
 | .int k n,v,hm,hr=>by show Rep J _ _ w (.int k n) v;rw[Rep] at hr ⊢;exact hr
 | .bool b,v,hm,hr=>by show Rep J _ _ w (.bool b) v;rw[Rep] at hr ⊢;exact hr
 | .str s,v,hm,hr=>by show Rep J _ _ w (.str s) v;rw[Rep] at hr ⊢;exact hr
 | .nsl,v,hm,hr=>by show Rep J _ _ w (.nsl) v;rw[Rep] at hr ⊢;exact hr
 | .nilptr,v,hm,hr=>by show Rep J _ _ w (.nilptr) v;rw[Rep] at hr ⊢;exact hr
 | .nilfn,v,hm,hr=>by show Rep J _ _ w (.nilfn) v;rw[Rep] at hr ⊢;exact hr
theorem Reps.ren (hn:(ids.map ρ).Nodup):∀ {c:List AV} {cs:List Value},(∀ b ∈ Ej c,b ∈ ids)→Reps J β h w c cs→Reps J (Sr ρ ids β) (sub (Ad h) ρ ids) w (Lj ρ c) cs
 | [],cs,hm,hr=>by rw[Reps] at hr;rw[Lj,Reps];exact hr
 | x::r,cs,hm,hr=>by
  rw[Reps] at hr
  obtain⟨u,us,h1,h2,h3⟩:=hr
  rw[Lj,Reps]
  exact⟨u,us,h1,Rep.ren hn (fun b hb=>hm b (by simp[Ej,hb])) h2,Reps.ren hn (fun b hb=>hm b (by simp[Ej,hb])) h3⟩
end
theorem SimH.ren (S:SimH J β h w) (hn:(ids.map ρ).Nodup) (hin:∀ b ∈ inner (Ad h) ids,b ∈ ids):SimH J (Sr ρ ids β) (sub (Ad h) ρ ids) w:=by
 refine⟨S.jlt,S.jft,S.gl,fun c y hy hd hm=>?_,fun c y hy hd hm=>by
   obtain⟨b,x,hb,rfl,hx,rfl⟩:=Gw hn c y hy
   obtain⟨g1,g2,g3,g4⟩:=S.mblk b x hx hd hm
   have hcl:(I9 ρ x).cells=x.cells:=by unfold I9;rw[g1];rfl
   refine⟨g1,g2,fun j ht=>g3 j (ht.to (Co hn hb).symm rfl),?_⟩
   rcases g4 with⟨k,ob,g5,g6,g7,g8⟩ | ⟨k,o,g5,g6,g7⟩
   ·exact .inl ⟨k,ob,g5,by rw[Co hn hb];exact g6,g7,by rw[ObjIs,show(I9 ρ x).sz=x.sz from rfl,hcl];exact g8⟩
   ·refine .inr ⟨k,o,g5,by rw[Co hn hb];exact g6,?_⟩
    unfold NestIs
    rw[hcl];exact g7,?_⟩
 ·obtain⟨b,x,hb,rfl,hx,rfl⟩:=Gw hn c y hy
  rcases S.blk b x hx hd hm with⟨g1,g2⟩ | ⟨k,o,cs,ty,fr,g1,g2,g3,g4,g5,g6,g7⟩
  ·refine .inl ⟨by rw[Co hn hb];exact g1,?_⟩
   have:=B8 ρ x;rw[g2] at this;simpa using this
  ·refine .inr ⟨k,o,cs,ty,fr,by rw[Co hn hb];exact g1,g2,g3,by rw[B8];exact g4,⟨fun hp=>?_,fun hp j q hj=>?_⟩,g6,g7⟩
   ·have hp':x.pure=true:=hp
    have:(I9 ρ x).cells=x.cells:=by unfold I9;rw[hp'];rfl
    rw[this];exact g5.1 hp'
   ·have hp':x.pure=false:=hp
    have:(I9 ρ x).cells=Lj ρ x.cells:=by unfold I9;rw[hp'];rfl
    rw[this] at hj
    obtain⟨q',hq,rfl⟩:=KJ hj
    obtain⟨u,hu,hr,ho⟩:=g5.2 hp' j q' hq
    exact⟨u,hu,Rep.ren hn (fun b' hb'=>hin b' (AK hb hx hp' b' (AL hq b' hb'))) hr,ho⟩
 ·intro c c' y y' k hy hy' hd hd' hs hβ hβ'
  obtain⟨b,x,hb,rfl,hx,rfl⟩:=Gw hn c y hy
  obtain⟨b',x',hb',rfl,hx',rfl⟩:=Gw hn c' y' hy'
  rw[S.sepT b b' x x' k hx hx' hd hd' hs (hβ.to (Co hn hb).symm rfl) (hβ'.to (Co hn hb').symm rfl)]
theorem MH (hn:(ids.map ρ).Nodup) {k:Nat} (hm:NH (Sr ρ ids β) (sub (Ad h) ρ ids) k):NH β h k:=by
 obtain⟨c,y,hy,hd,hs,hβ⟩:=hm
 obtain⟨b,x,hb,rfl,hx,rfl⟩:=Gw hn c y hy
 exact⟨b,x,hx,hd,hs,hβ.to (Co hn hb).symm rfl⟩
end
end Gx

namespace Gx
open Go
theorem Hh {ids:List Nat}:∀ {l:List Nat},Si ids l=true→∀ b ∈ l,b ∈ ids
 | [],_,b,hb=>by simp at hb
 | i::r,h,b,hb=>by
  rw[Si] at h
  simp at h
  rcases List.mem_cons.1 hb with rfl | hb
  ·exact Fk.1 h.1
  ·exact Hh h.2 b hb
theorem Mt {d:Nat}:∀ {l:List Nat} {base b:Nat},b ∈ l→base≤Es d (Am base l) b∧Es d (Am base l) b<base+l.length
 | [],base,b,hb=>by simp at hb
 | i::r,base,b,hb=>by
  rw[Am,Es]
  cases hi:Nat.beq i b with
  | true=>simp
  | false =>
   have hne:=G9 hi
   have hm:b ∈ r:=by
    rcases List.mem_cons.1 hb with h | h
    ·exact absurd h.symm hne
    ·exact h
   have:=Mt (d:=d) (base:=base+1) hm
   simp only[cond_false,List.length_cons]
   omega
theorem OZ {free ids:List Nat} {b:Nat} (h:Pf free b=true):Mo free ids b=b:=by unfold Mo;rw[h];rfl
theorem MI {free ids:List Nat} {b:Nat} (h:Pf free b=false) (hb:b ∈ ids):300000≤Mo free ids b:=by
 unfold Mo VT;rw[h]
 exact(Mt (List.mem_filter.2 ⟨hb,by simp[h]⟩)).1
theorem GH {b:Nat}:E_ b=true↔100000≤b∧b<200000:=by unfold E_;simp
theorem CC {free ids:List Nat} {b c:Nat} (hb:b ∈ ids) (hc:100000≤c∧c<200000) (he:Mo free ids b=c):b=c:=by
 cases hr:Pf free b with
 | true=>rw[OZ hr] at he;exact he
 | false=>have:=MI hr hb;omega
theorem Pq {ρ:Nat→Nat} {K:List Nat}:∀ {s:Do} {i:Nat},C3 (VU ρ K s) i=if Dp K i=true then Ut ρ (C3 s i) else .undef
 | [],i=>by
  show AV.undef=if Dp K i=true then Ut ρ .undef else AV.undef
  simp[Ut]
 | (t,v)::r,i=>by
  rw[VU]
  by_cases e:t=i
  ·subst e
   cases hk:Dp K t with
   | true=>simp[C3]
   | false=>simp only[cond_false];rw[Pq];simp[hk]
  ·have hb:Nat.beq t i=false:=Ph e
   cases hk:Dp K t with
   | true=>simp only[cond_true,C3,hb,cond_false];exact Pq
   | false=>simp only[cond_false,C3,hb];exact Pq
theorem O_ {g:Aq} {l:List Nat} {b:Nat} (h:b ∈ N1 g l):∃ x,g b=some x∧x.dead=false:=by
 unfold N1 at h
 obtain⟨_,h2⟩:=List.mem_filter.1 h
 unfold Ce at h2
 cases hx:g b with
 | none=>simp[hx] at h2
 | some x =>
  cases hd:x.dead with
  | false=>exact⟨x,rfl,hd⟩
  | true=>simp[hx,hd] at h2
section
variable {Z:Start} {nt:Nat} {J:Bool→Nat→Prop} {β:Au} {st st':St} {a:Act} {w:World}
def AV.isz:AV→Nat
 | .imm _ _ s _ _=>s
 | _=>0
theorem Gy {live:List Nat}:∀ (nils:List (Nat×Nat)) {st:St} {J:Bool→Nat→Prop} {β:Au},Inv Z nt J β st a w→Rd live nils st=some st'→∃ J' β',Inv Z nt J' β' st' a w
 | [],st,J,β,I,hh=>by simp[Rd] at hh;subst hh;exact⟨J,β,I⟩
 | (t,sz)::r,st,J,β,I,hh=>by
  rw[Rd] at hh
  cases hsz:Nat.ble 1000000 sz with
  | true =>
   rw[hsz,cond_true] at hh
   split at hh
   ·rename_i hm hs
    refine Gy r (J:=J) (β:=β) (st:={ s:=Xw st.s t (.imm [] 0 (sz - 1000000) false false),h:=st.h }) ?_ hh
    refine { I with ss:=⟨fun i v hv=>?_,fun i hi=>?_⟩ }
    ·rw[Gs]
     by_cases e:i=t
     ·subst e
      have:=I.ss.slot i v hv
      rw[hs,Rep] at this
      subst this
      rw[if_pos rfl,Rep,RepC]
      exact⟨by simp,none,0,rfl,Nat.le_refl _,fun _=>rfl,.inl rfl⟩
     ·rw[if_neg e];exact I.ss.slot i v hv
    ·rw[Gs]
     by_cases e:i=t
     ·subst e
      have:=I.ss.out i hi
      rw[hs] at this;cases this
     ·rw[if_neg e];exact I.ss.out i hi
   ·rename_i b off n hm hs
    obtain⟨⟨v',ups,org⟩,hp,h1⟩:=ub hh
    by_cases hti:∃ v,a.tmps[t]?=some v
    ·obtain⟨v0,hv0⟩:=hti
     have hr:=I.ss.slot t v0 hv0
     rw[hs] at hr
     obtain⟨J1,A,hrep,_⟩:=U2 I.sim (fun b x hb=>⟨x,hb,rfl⟩) hp hr
     have I1:=I.step A (fun c x hx hn=>by
      exfalso
      unfold W5 at hp
      obtain⟨y,hy,h2⟩:=ub hp
      obtain⟨_,h2⟩:=uc h2
      simp at h2
      obtain⟨_,h2,_⟩:=h2
      subst h2
      simp only[Ac,Aa] at hx
      unfold Ce at hy
      obtain⟨y0,hy0,_⟩:=ub hy
      by_cases e:c=b
      ·subst e;rw[hn] at hy0;cases hy0
      ·rw[if_neg e,hn] at hx;cases hx)
     refine Gy r (J:=J1) (β:=β) (st:={ s:=Xw st.s t v',h:=Ac ups st.h }) ?_ h1
     have him:∃ c,v'=.imm c n (v'.isz) false org:=by
      unfold W5 at hp
      obtain⟨y,hy,h2⟩:=ub hp
      obtain⟨_,h2⟩:=uc h2
      simp at h2
      obtain⟨h2,_,h3⟩:=h2
      subst h2 h3
      exact⟨_,rfl⟩
     refine { I1 with ss:=⟨fun i v hv=>?_,fun i hi=>?_⟩ }
     ·rw[Gs]
      by_cases e:i=t
      ·subst e
       rw[if_pos rfl]
       rw[hv0] at hv;simp at hv;subst hv
       obtain⟨c,hc⟩:=him
       rw[hc] at hrep ⊢
       rw[Rep];exact hrep
      ·rw[if_neg e];exact I1.ss.slot i v hv
     ·rw[Gs]
      by_cases e:i=t
      ·subst e
       have:=I.ss.out i hi
       rw[hs] at this;cases this
      ·rw[if_neg e];exact I1.ss.out i hi
    ·exfalso
     have:=I.ss.out t (by
      cases h:a.tmps[t]? with
      | none=>simp at h;omega
      | some v=>exact absurd ⟨v,h⟩ hti)
     rw[hs] at this;cases this
   ·exact Gy r I hh
  | false =>
   rw[hsz,cond_false] at hh
   split at hh
   ·rename_i hm hs
    cases hf:Ad st.h (nid t+15) with
    | some x=>simp[hf] at hh
    | none =>
     simp[hf] at hh
     have A:=Step.newNone I.sim (d:=nid t+15) (x:=C5 sz) hf rfl
     have I1:=I.step A (fun b x hx hn=>by
      rw[Aa] at hx
      by_cases e:b=nid t+15
      ·subst e;unfold nid Dw;omega
      ·rw[if_neg e,hn] at hx;cases hx)
     refine Gy r (J:=J) (β:=fun b=>if b=nid t+15 then none else β b) (st:={ s:=Xw st.s t (.own (nid t+15) 0 0),h:=Cf st.h (nid t+15) (C5 sz) }) ?_ hh
     refine { I1 with ss:=⟨fun i v hv=>?_,fun i hi=>?_⟩ }
     ·rw[Gs]
      by_cases e:i=t
      ·subst e
       rw[if_pos rfl,Rep]
       have:=I.ss.slot i v hv
       rw[hs,Rep] at this
       subst this
       exact⟨C5 sz,none,0,⟨by rw[Aa,if_pos rfl],rfl⟩,rfl,Nat.le_refl _,.inl rfl⟩
      ·rw[if_neg e];exact I1.ss.slot i v hv
     ·rw[Gs]
      by_cases e:i=t
      ·subst e
       have:=I.ss.out i hi
       rw[hs] at this;cases this
      ·rw[if_neg e];exact I1.ss.out i hi
   ·exact Gy r I hh
theorem U8 {E:Env} {live roots:List Nat} (I:Inv Z nt J β st a w) (hh:Ys E live roots st=some st'):∃ J' β',Inv Z nt J' β' st' a w:=by
 unfold Ys at hh
 obtain⟨s1,h1,h2⟩:=ub hh
 obtain⟨J1,β1,I1⟩:=Gy _ I h1
 obtain⟨hc,h3⟩:=uc h2
 simp at hc h3
 subst h3
 obtain⟨hn,hs,hi,_⟩:=hc
 have hn:=Ju hn
 have hin:∀ b ∈ inner (Ad s1.h) (N1 (Ad s1.h) (Mm (Ad s1.h) (EY live s1.s++roots))),b ∈ N1 (Ad s1.h) (Mm (Ad s1.h) (EY live s1.s++roots)):=Hh hi
 refine⟨J1,Sr _ _ β1,{ I1 with sim:=I1.sim.ren hn hin,ss:=⟨fun i v hv=>?_,fun i hi=>?_⟩,wr:=fun k hm=>I1.wr k (MH hn hm),outs:=fun b x0 x h0 hx hd=>?_ }⟩
 ·rw[Pq]
  cases hk:Dp live i with
  | false=>simp[Rep]
  | true =>
   simp only[if_true]
   exact Rep.ren hn (fun b hb=>Hh hs b (FU hk b hb)) (I1.ss.slot i v hv)
 ·rw[Pq,I1.ss.out i hi];simp[Ut]
 ·obtain⟨b',x',hb',he,hg,rfl⟩:=Gw hn b x hx
  have:=CC hb' ⟨I1.zge b x0 h0,I1.zlt b x0 h0⟩ he
  subst this
  obtain⟨⟨e1,em⟩,e2,e3,e4⟩:=I1.outs b' x0 x' h0 hg hd
  refine⟨⟨?_,em⟩,e2,by rw[B8];exact e3,e4⟩
  have:=Co (β:=β1) hn hb'
  rw[he] at this
  exact e1.to this rfl (B8 _ _)
end
end Gx

namespace Gx
open Go
section
variable {R:Type} {r:R} {Z:Start} {E:Env}
theorem O' (hC:X3 E) (hm:E.P.follows .mixedOrders=true) {roots:List Nat} {N:Nat}:∀ (c:Code) {H:Hint} {kn:St→O R} {kx:Nat→St→O R} {kr:St→O R} {st:St} {a:Act} {w:World} {J:Bool→Nat→Prop} {β:Au} {Q:Exit→Act→World→Prop},
  Inv Z E.nt J β st a w→C7 E roots N c H kn kx kr st=some r →
  (∀ st' a' w' J' β',Inv Z E.nt J' β' st' a' w'→kn st'=some r→Q .normal a' w') →
  (∀ id st' a' w' J' β',Inv Z E.nt J' β' st' a' w'→kx id st'=some r→Q (.exit id) a' w') →
  (∀ st' a' w' J' β',Inv Z E.nt J' β' st' a' w'→kr st'=some r→Q .ret a' w')→c.wp E.P Q a w:=by
 intro c
 induction c with
 | skip=>intro H kn kx kr st a w J β Q I hh hn hx hr;exact wp_skip (hn _ _ _ _ _ I hh)
 | region id ops draw=>intro H kn kx kr st a w J β Q I hh hn hx hr;exact IZ hC hm I hh hn
 | seq x y ihx ihy =>
  intro H kn kx kr st a w J β Q I hh hn hx hr
  rw[C7] at hh
  refine wp_seq (ihx I hh (fun st' a' w' J' β' I' h'=>?_) (fun id st' a' w' J' β' I' h'=>hx id st' a' w' J' β' I' h') (fun st' a' w' J' β' I' h'=>hr st' a' w' J' β' I' h'))
  unfold UA at h'
  cases hj:H.isJoin with
  | true =>
   rw[hj,cond_true,N2] at h'
   obtain⟨s2,h2,h3⟩:=ub h'
   obtain⟨J2,β2,I2⟩:=U8 I' h2
   exact ihy I2 h3 hn hx hr
  | false=>rw[hj] at h';exact ihy I' h' hn hx hr
 | cond c x y ihx ihy =>
  intro H kn kx kr st a w J β Q I hh hn hx hr
  rw[C7] at hh
  split at hh
  ·rename_i t ht
   have h1:=An I.ss c
   rw[ht,Rep] at h1
   refine wp_cond h1 ?_
   cases t with
   | true=>exact ihx I hh hn hx hr
   | false=>exact ihy I hh hn hx hr
  ·simp at hh
 | block id c ih =>
  intro H kn kx kr st a w J β Q I hh hn hx hr
  rw[C7] at hh
  refine wp_block (ih I hh (fun st' a' w' J' β' I' h'=>hn _ _ _ _ _ I' h') (fun j st' a' w' J' β' I' h'=>?_) (fun st' a' w' J' β' I' h'=>hr _ _ _ _ _ I' h'))
  cases hj:Nat.beq j id with
  | true =>
   rw[hj] at h'
   have:=Nat.eq_of_beq_eq_true hj
   subst this
   simp only[Exit.inBlock,if_true]
   exact hn _ _ _ _ _ I' h'
  | false =>
   rw[hj] at h'
   simp only[Exit.inBlock]
   rw[if_neg (G9 hj)]
   exact hx _ _ _ _ _ _ I' h'
 | loop c ih =>
  intro H kn kx kr st a w J β Q I hh hn hx hr
  rw[C7,N2] at hh
  refine wp_loop_rounds N ?_
  have key:∀ (n:Nat) {st:St} {a:Act} {w:World} {J:Bool→Nat→Prop} {β:Au},Inv Z E.nt J β st a w→Uy (Ys E H.live roots) (fun k st=>C7 E roots N c H.a k kx kr st) n st=some r→Code.rounds E.P c Q n a w:=by
   intro n
   induction n with
   | zero=>intro st a w J β I h';simp[Uy] at h'
   | succ n ihn =>
    intro st a w J β I h'
    rw[Uy] at h'
    rw[rounds_succ]
    refine ih I h' (fun st' a' w' J' β' I' h''=>?_) (fun id st' a' w' J' β' I' h''=>hx _ _ _ _ _ _ I' h'') (fun st' a' w' J' β' I' h''=>hr _ _ _ _ _ I' h'')
    obtain⟨s2,h2,h3⟩:=ub h''
    obtain⟨J2,β2,I2⟩:=U8 I' h2
    exact ihn I2 h3
  obtain⟨s2,h2,h3⟩:=ub hh
  obtain⟨J2,β2,I2⟩:=U8 I h2
  exact key N I2 h3
 | exit id=>intro H kn kx kr st a w J β Q I hh hn hx hr;exact wp_exit (hx _ _ _ _ _ _ I hh)
 | ret=>intro H kn kx kr st a w J β Q I hh hn hx hr;exact wp_ret (hr _ _ _ _ _ I hh)
 | rangeFunc=>intro H kn kx kr st a w J β Q I hh;simp[C7] at hh
 | scope=>intro H kn kx kr st a w J β Q I hh;simp[C7] at hh
 | label=>intro H kn kx kr st a w J β Q I hh;simp[C7] at hh
 | goto=>intro H kn kx kr st a w J β Q I hh;simp[C7] at hh
 | refuse=>intro H kn kx kr st a w J β Q I hh;simp[C7] at hh
end
end Gx

namespace Gx
open Go
structure FDone (Z:Start) (J:Bool→Nat→Prop) (β:Au) (h:Ai) (w:World):Prop where
 sim:SimH J β h w
 os:w.os=Z.w.os
 tape:w.tape=Z.w.tape
 output:w.output=Z.w.output
 size:Z.w.heap.size≤w.heap.size
 frame:∀ k,k<Z.w.heap.size→¬ NH Z.β Z.h k→w.heap[k]?=Z.w.heap[k]?
 wr:∀ k,NH β h k→k<Z.w.heap.size→NH Z.β Z.h k
 jsub:∀ o k,Z.J o k→J o k
 jup:∀ o k,J o k→Z.J o k∨NH Z.β Z.h k∨Z.w.heap.size≤k
 sizes:∀ k,Aj Z.w k≤Aj w k
 outs:∀ b x0 x,Ad Z.h b=some x0→Ad h b=some x→x.dead=false→(SameO Z.β β b x0 x∧x.mp=x0.mp)∧x.sz=x0.sz∧(x0.mp=false→x.cells.length=x0.cells.length)∧x0.dead=false
 live:∀ b x,Ad h b=some x→x.dead=false
def bM (P:Program) (f:Nat) (args:LA) (h:Ai) (res:AV) (h':Ai):Prop :=
 ∀ (J:Bool→Nat→Prop) (β:Au) (w:World) (vs:List Value),SimH J β h w→Reps J β h w args vs →
  Calls P f vs.toArray w fun e w'=>∃ vc J' β',e=.returned vc∧FDone ⟨J,β,h,w⟩ J' β' h' w'∧Rep J' β' h' w' res vc
def UN (P:Program) (f:Nat) (t:Tw):Prop:=∀ args h res h',(t.runK args h fun v h'=>some (v,h'))=some (res,h')→bM P f args h res h'
def GI (P:Program):List (Nat×Tw)→Prop
 | []=>True
 | p::r=>UN P p.1 p.2∧GI P r
theorem PA {P:Program} {R:Type} {r:R}:∀ {T:List (Nat×Tw)},GI P T→∀ {f:Nat} {args:LA} {h:Ai} {k:AV→Ai→O R},Yp T f args h k=some r →
  ∃ res h',bM P f args h res h'∧k res h'=some r
 | [],_,f,args,h,k,hh=>by simp[Yp] at hh
 | (g,t)::T,hT,f,args,h,k,hh=>by
  rw[Yp] at hh
  cases hb:Nat.beq g f with
  | false=>rw[hb] at hh;exact PA hT.2 hh
  | true =>
   rw[hb] at hh
   have:=Nat.eq_of_beq_eq_true hb
   subst this
   simp only[cond_true] at hh
   rw[t.eq] at hh
   obtain⟨⟨res,h'⟩,h1,h2⟩:=ub hh
   exact⟨res,h',hT.1 args h res h' h1,h2⟩
section
variable {R:Type} {r:R} {Z:Start} {nt:Nat} {J:Bool→Nat→Prop} {β:Au} {st:St} {a:Act} {w:World}
def Y6 (tmps:Array Value):ResultVar→Sem Value
 | .tmp t=>pure (tmps.getD t undef)
 | .cell a t=>do loadVar t (←Go.asAddr (tmps.getD a undef))
theorem WH {α β:Type} (f:α→Sem β) (xs:Array α):xs.mapM f=(List.toArray <$> xs.toList.mapM f):=by
 rw[←List.mapM_toArray]
theorem RH (fn:Func) (tmps:Array Value):results fn tmps=(do let vs ←fn.results.mapM (Y6 tmps);pure (if h:vs.size=1 then vs[0] else .tuple vs)):=by
 unfold results
 congr 1
def PB (l:List Value):Value:=match l with | [v]=>v | l=>.tuple l.toArray
theorem PC {P:Program} (fn:Func) (tmps:Array Value) {vs:List Value} (h:(fn.results.toList.mapM (Y6 tmps)).run P w=.ok vs w):(results fn tmps).run P w=.ok (PB vs) w:=by
 rw[RH,WH]
 simp only[map_eq_pure_bind,Sem.run_bind,h,Result.andThen_ok,Sem.run_pure]
 congr 1
 match vs with
 | []=>rfl
 | [v]=>rfl
 | v::u::r=>simp[PB]
theorem PD {P:Program} {t:TypeId} {v vc:Value} (h:(Instr.loadAt t v).run P w=.ok vc w):(do loadVar t (←Go.asAddr v):Sem Value).run P w=.ok vc w:=by
 unfold Instr.loadAt at h
 cases v with
 | pointer a =>
  cases a with
  | some a=>exact h
  | none=>simp[Instr.sureAddr] at h
 | _=>simp[Instr.sureAddr] at h
theorem Oo {E:Env} (S:SimH J β st.h w) (SS:SimS J β st.h w st.s a.tmps):∀ (l:List ResultVar) {acc:LA} {k:LA→O R},Gq E st l acc k=some r →
  ∃ vals vs,k (acc.reverse++vals)=some r∧(l.mapM (Y6 a.tmps)).run E.P w=.ok vs w∧Reps J β st.h w vals vs
 | [],acc,k,hh=>⟨[],[],by simpa[Gq] using hh,by simp,by rw[Reps]⟩
 | .tmp t::l,acc,k,hh=>by
  rw[Gq] at hh
  obtain⟨vals,vs,h1,h2,h3⟩:=Oo S SS l hh
  refine⟨C3 st.s t::vals,a.tmps.getD t undef::vs,by simpa using h1,?_,by rw[Reps];exact⟨_,_,rfl,An SS (.tmp t),h3⟩⟩
  simp only[List.mapM_cons,Y6,Sem.run_bind,Sem.run_pure,Result.andThen_ok,h2]
 | .cell ad t::l,acc,k,hh=>by
  rw[Gq] at hh
  obtain⟨v,vc,h0,h1,h2⟩:=BP S (fun _ _ h=>h) hh (An SS (.tmp ad))
  obtain⟨vals,vs,h3,h4,h5⟩:=Oo S SS l h0
  refine⟨v::vals,vc::vs,by simpa using h3,?_,by rw[Reps];exact⟨_,_,rfl,h2,h5⟩⟩
  have:(Y6 a.tmps (.cell ad t)).run E.P w=.ok vc w:=PD h1
  simp only[List.mapM_cons,Sem.run_bind,this,Sem.run_pure,Result.andThen_ok,h4]
theorem RI {i:Nat} {m:Nat×Nat} {v v':AV} {ups:By} {vc:Value} {h:Ai} (S:SimH J β h w) (hh:ZV (Ad h) i m v=some (v',ups)) (hB:ZW (Ad h) m v=true) (hv:Rep J β h w v vc) :
  ∃ J' β',Step J β h w J' β' (Ac ups h) w∧Rep J' β' (Ac ups h) w v' vc∧(∀ b x,Ad (Ac ups h) b=some x→Ad h b=none→Dw≤b):=by
 have old:∀ {ups:By},(∀ b,Al ups b=true→∃ x,Ad h b=some x)→∀ b x,Ad (Ac ups h) b=some x→Ad h b=none→Dw≤b:=by
  intro ups hu b x hx hn
  cases hi:Al ups b with
  | true=>obtain⟨y,hy⟩:=hu b hi;rw[hy] at hn;cases hn
  | false=>rw[A9 _ _ _ hi,hn] at hx;cases hx
 unfold ZV at hh
 cases h0:Nat.beq m.1 0 with
 | true =>
  rw[h0] at hh;simp at hh
  obtain⟨rfl,rfl⟩:=hh
  exact⟨J,β,Step.refl S,hv,old (by simp[Al])⟩
 | false =>
  rw[h0,cond_false] at hh
  cases h1:Nat.beq m.1 1 with
  | true =>
   rw[h1,cond_true] at hh
   split at hh
   ·simp at hh;obtain⟨rfl,rfl⟩:=hh
    rw[Rep] at hv;subst hv
    refine⟨J,β,Step.refl S,?_,old (by simp[Al])⟩
    rw[Rep,RepC]
    exact⟨by simp,none,0,rfl,Nat.le_refl _,by simp,.inl rfl⟩
   ·simp at hh;obtain⟨rfl,rfl⟩:=hh
    refine⟨J,β,Step.refl S,?_,old (by simp[Al])⟩
    rw[Rep,RepC] at hv ⊢
    obtain⟨e1,A,cap,e2,e3,e4,e5⟩:=hv
    exact⟨e1,A,cap,e2,e3,by simp,e5⟩
   ·obtain⟨⟨q1,q2,q3⟩,hq,h2⟩:=ub hh
    simp at h2;obtain⟨rfl,rfl⟩:=h2
    obtain⟨J',A,hA,_⟩:=U2 S (Looks.s fun _ _ h=>h) hq hv
    refine⟨J',β,A,?_,old (KC hq)⟩
    unfold W5 at hq
    obtain⟨x,hx,h3⟩:=ub hq
    obtain⟨_,h4⟩:=uc h3
    simp at h4
    obtain⟨rfl,rfl,rfl⟩:=h4
    rw[Rep];exact hA
   ·rename_i b n
    obtain⟨x,hx,h2⟩:=ub hh
    obtain⟨hc,h3⟩:=uc h2
    simp only[Bool.and_eq_true] at hc
    obtain⟨c1,c2⟩:=hc
    unfold ZW at hB
    rw[h1,cond_true] at hB
    simp only[hx] at hB
    simp at h3;obtain⟨rfl,rfl⟩:=h3
    obtain⟨hb,hd⟩:=A4 (g:=Ad h) (fun _ _ h=>h) hx
    obtain⟨J',β',A,hA⟩:=MB S hb hd c1 (Nat.le_of_ble_eq_true c2) hB hv
    refine⟨J',β',A,hA,old (fun b' hb'=>?_)⟩
    simp only[Al] at hb'
    cases h6:Nat.beq b b' with
    | true=>exact⟨x,by rw[←Nat.eq_of_beq_eq_true h6];exact hb⟩
    | false=>rw[h6] at hb';cases hb'
   ·simp at hh
  | false =>
   rw[h1,cond_false] at hh
   cases h2:Nat.beq m.1 2 with
   | true =>
    rw[h2,cond_true] at hh
    split at hh
    ·obtain⟨hn,h3⟩:=QM hh
     simp at h3;obtain⟨rfl,rfl⟩:=h3
     have hn':Ad h (nid 90000+i)=none:=by cases hx:Ad h (nid 90000+i)<;>simp_all
     have A:=Step.newNone S (x:=C5 m.2) hn' rfl
     refine⟨J,fun b=>if b=nid 90000+i then none else β b,A,?_,fun b x hx hb=>?_⟩
     ·rw[Rep] at hv;subst hv;rw[Rep]
      exact⟨C5 m.2,none,0,⟨by simp only[Ac];rw[Aa,if_pos rfl],rfl⟩,rfl,Nat.le_refl _,.inl rfl⟩
     ·simp only[Ac] at hx
      rw[Aa] at hx
      by_cases e:b=nid 90000+i
      ·subst e;unfold nid Dw;omega
      ·rw[if_neg e,hb] at hx;cases hx
    ·simp at hh;obtain⟨rfl,rfl⟩:=hh
     exact⟨J,β,Step.refl S,hv,old (by simp[Al])⟩
   | false =>
    rw[h2,cond_false] at hh
    split at hh
    ·rename_i c
     obtain⟨⟨q1,q2,q3⟩,hq,h3⟩:=ub hh
     simp at h3;obtain⟨rfl,rfl⟩:=h3
     rw[Rep] at hv
     obtain⟨cs,rfl,hc⟩:=hv
     obtain⟨J',A,hA,hlen,_⟩:=Is S (Looks.s fun _ _ h=>h) hq hc
     refine⟨J',β,A,?_,old (Mp hq)⟩
     rw[Rep]
     exact⟨cs,rfl,hlen.symm,hA⟩
    ·simp at hh;obtain⟨rfl,rfl⟩:=hh
     exact⟨J,β,Step.refl S,hv,old (by simp[Al])⟩
    ·simp at hh
theorem CD {s:Do}:∀ (vals:LA) {i:Nat} {ms:List (Nat×Nat)} {h h':Ai} {vals':LA} {vs:List Value} {J:Bool→Nat→Prop} {β:Au},
  Inv Z nt J β { s:=s,h:=h } a w→NP h i ms vals=some (vals',h',true)→Reps J β h w vals vs →
  ∃ J' β',Inv Z nt J' β' { s:=s,h:=h' } a w∧Reps J' β' h' w vals' vs∧∀ x v,Rep J β h w x v→Rep J' β' h' w x v
 | [],i,ms,h,h',vals',vs,J,β,I,hh,hv=>by
  simp[NP] at hh;obtain⟨rfl,rfl⟩:=hh
  exact⟨J,β,I,hv,fun _ _ h=>h⟩
 | v::r,i,ms,h,h',vals',vs,J,β,I,hh,hv=>by
  rw[NP] at hh
  obtain⟨⟨v1,u1⟩,h1,h2⟩:=ub hh
  obtain⟨⟨r2,hr,bb⟩,h3,h4⟩:=ub h2
  simp at h4;obtain⟨rfl,rfl,hB,rfl⟩:=h4
  rw[Reps] at hv
  obtain⟨u,us,rfl,hv1,hv2⟩:=hv
  obtain⟨J1,β1,A,hA,hnew⟩:=RI I.sim h1 (by rw[List.headD_eq_head?_getD];exact hB) hv1
  have I1:=I.step A hnew
  obtain⟨J2,β2,I2,hB,hm⟩:=CD r I1 h3 (Reps.ext A.ext hv2)
  refine⟨J2,β2,I2,?_,fun x v h=>hm x v (Rep.ext A.ext h)⟩
  rw[Reps]
  exact⟨u,us,rfl,hm _ _ hA,hB⟩
theorem I_ {E:Env} {fn:Func} {modes:List (Nat×Nat)} {outs:List Nat} {k:AV→Ai→O R} (I:Inv Z nt J β st a w) (hh:Lw E fn modes outs k st=some r) :
  ∃ res h' vc J' β',k res h'=some r∧(results fn a.tmps).run E.P w=.ok vc w∧FDone Z J' β' h' w∧Rep J' β' h' w res vc:=by
 unfold Lw at hh
 obtain⟨vals,vs,h1,h2,h3⟩:=Oo I.sim I.ss _ hh
 simp only[List.reverse_nil,List.nil_append] at h1
 obtain⟨⟨vals',h',bb⟩,h4,h5⟩:=ub h1
 obtain⟨hbb,h5⟩:=uc h5
 simp only at hbb;subst hbb
 obtain⟨J1,β1,I1,hR,_⟩:=CD (s:=st.s) vals I h4 h3
 obtain⟨hc,h6⟩:=uc h5
 simp at hc
 obtain⟨hn,hs,hi,_⟩:=hc
 have hn:=Ju hn
 have hin:=Hh hi
 have hs:=Hh hs
 refine⟨_,_,PB vs,J1,Sr _ _ β1,h6,PC fn a.tmps h2,?_,Rep.ren hn hs ?_⟩
 ·exact⟨I1.sim.ren hn hin,I1.os,I1.tape,I1.output,I1.size,I1.frame,fun k hm=>I1.wr k (MH hn hm),I1.jsub,I1.jup,I1.sizes,fun b x0 x h0 hx hd=>by
   obtain⟨b',x',hb',he,hg,rfl⟩:=Gw hn b x hx
   have:=CC hb' ⟨I1.zge b x0 h0,I1.zlt b x0 h0⟩ he
   subst this
   obtain⟨⟨e1,em⟩,e2,e3,e4⟩:=I1.outs b' x0 x' h0 hg hd
   refine⟨⟨?_,em⟩,e2,by rw[B8];exact e3,e4⟩
   have:=Co (β:=β1) hn hb'
   rw[he] at this
   exact e1.to this rfl (B8 _ _),fun b x hx=>by
   obtain⟨b',x',hb',he,hg,rfl⟩:=Gw hn b x hx
   obtain⟨x2,h7,h8⟩:=O_ hb'
   rw[hg] at h7;simp at h7;subst h7;exact h8⟩
 ·match vals',vs,hR with
  | [],vs,hR=>rw[Reps] at hR;subst hR;simp only[PB,ZX];rw[Rep];exact⟨[],rfl,by rw[Reps]⟩
  | [v],vs,hR =>
   rw[Reps] at hR
   obtain⟨u,us,rfl,hu,hus⟩:=hR
   rw[Reps] at hus;subst hus
   exact hu
  | v::v2::l,vs,hR =>
   have hR':=hR
   rw[Reps] at hR
   obtain⟨u,us,rfl,hu,hus⟩:=hR
   rw[Reps] at hus
   obtain⟨u2,us2,rfl,_,_⟩:=hus
   simp only[PB,ZX]
   rw[Rep]
   exact⟨_,rfl,hR'⟩
end
end Gx

namespace Gx
open Go
section
variable {J J':Bool→Nat→Prop} {β:Au} {h:Ai} {w:World}
mutual
theorem Rep.noOrg:∀ {x:AV} {v:Value},Ok x=false→Rep J β h w x v→Rep (fun _=>J false) β h w x v
 | .own ..,v,_,hr=>by rw[Rep] at hr ⊢;exact hr
 | .optr ..,v,_,hr=>by rw[Rep] at hr ⊢;exact hr
 | .omap ..,v,_,hr=>by rw[Rep] at hr ⊢;exact hr
 | .nd ..,v,_,hr=>by rw[Rep] at hr ⊢;exact hr
 | .pagg c o,v,ho,hr=>by
  rw[Ok] at ho;subst ho
  rw[Rep] at hr ⊢;exact hr
 | .agg c,v,ho,hr=>by
  rw[Ok] at ho
  rw[Rep] at hr ⊢
  obtain⟨cs,h1,h2⟩:=hr
  exact⟨cs,h1,Reps.noOrg ho h2⟩
 | .tup c,v,ho,hr=>by
  rw[Ok] at ho
  rw[Rep] at hr ⊢
  obtain⟨cs,h1,h2⟩:=hr
  exact⟨cs,h1,Reps.noOrg ho h2⟩
 | .fn f c,v,ho,hr=>by
  rw[Ok] at ho
  rw[Rep] at hr ⊢
  obtain⟨cs,h1,h2⟩:=hr
  exact⟨cs,h1,Reps.noOrg ho h2⟩
 | .undef,_,_,_=>by rw[Rep];trivial
 | .imm c n sz t o,v,ho,hr=>by
  rw[Ok] at ho;subst ho
  rw[Rep] at hr ⊢;exact hr
 | .iptr c o,v,ho,hr=>by
  rw[Ok] at ho;subst ho
  rw[Rep] at hr ⊢;exact hr
 | .int ..,v,_,hr=>by rw[Rep] at hr ⊢;exact hr
 | .bool _,v,_,hr=>by rw[Rep] at hr ⊢;exact hr
 | .str _,v,_,hr=>by rw[Rep] at hr ⊢;exact hr
 | .nsl,v,_,hr=>by rw[Rep] at hr ⊢;exact hr
 | .nilptr,v,_,hr=>by rw[Rep] at hr ⊢;exact hr
 | .nilfn,v,_,hr=>by rw[Rep] at hr ⊢;exact hr
theorem Reps.noOrg:∀ {c:List AV} {cs:List Value},Kf c=false→Reps J β h w c cs→Reps (fun _=>J false) β h w c cs
 | [],_,_,hr=>by rw[Reps] at hr ⊢;exact hr
 | x::r,cs,ho,hr=>by
  rw[Kf] at ho
  simp at ho
  rw[Reps] at hr ⊢
  obtain⟨u,us,h1,h2,h3⟩:=hr
  exact⟨u,us,h1,Rep.noOrg ho.1 h2,Reps.noOrg ho.2 h3⟩
end
theorem GJ:∀ {c:LA} {j:Nat} {x:AV},Kf c=false→c[j]?=some x→Ok x=false
 | [],j,x,_,hj=>by simp at hj
 | y::r,j,x,ho,hj=>by
  rw[Kf] at ho
  simp at ho
  cases j with
  | zero=>simp at hj;subst hj;exact ho.1
  | succ j=>exact GJ ho.2 (by simpa using hj)
theorem GK:∀ {h:Ai} {b:Nat} {x:Blk},Yq h=false→Ad h b=some x→x.taint=false∧(x.pure=false→Kf x.cells=false)
 | [],b,x,_,hb=>by simp[Ad] at hb
 | (i,y)::r,b,x,ho,hb=>by
  rw[Yq] at ho
  simp at ho
  rw[Ad] at hb
  cases hi:Nat.beq i b with
  | true =>
   rw[hi] at hb;simp at hb;subst hb
   refine⟨ho.1.1,fun hp=>?_⟩
   have:=ho.1.2
   rw[hp] at this;simpa using this
  | false=>rw[hi] at hb;exact GK ho.2 (by simpa using hb)
theorem SimH.noOrg (S:SimH J β h w) (ho:Yq h=false):SimH (fun _=>J false) β h w:=by
 refine⟨fun _ k hj=>S.jlt _ k hj,fun k hj=>hj,S.gl.to (fun _ h=>h) (fun _ _=>rfl),fun b x hx hd hm=>?_,fun b x hx hd hm=>by
   obtain⟨g1,g2,g3,g4⟩:=S.mblk b x hx hd hm
   exact⟨g1,g2,fun j ht _=>g3 j ht false,g4⟩,S.sepT⟩
 obtain⟨ht,hc⟩:=GK ho hx
 rcases S.blk b x hx hd hm with h1 | ⟨k,o,cs,ty,fr,h1,h2,h3,h4,h5,h6,h7⟩
 ·exact .inl h1
 ·refine .inr ⟨k,o,cs,ty,fr,h1,h2,h3,h4,⟨fun hp=>?_,fun hp j c hj=>?_⟩,fun hs _=>h6 hs _,fun hs=>?_⟩
  ·have:=h5.1 hp;rw[ht] at this;exact this
  ·obtain⟨u,g1,g2,g3⟩:=h5.2 hp j c hj
   exact⟨u,g1,Rep.noOrg (GJ (hc hp) hj) g2,g3⟩
  ·have:=h7 hs;rw[ht] at this;exact this
theorem Ext.grow (hJ:∀ o k,J o k→J' o k):Ext J β h w J' β h w:=⟨hJ,fun _ _ _=>rfl,fun b x hb=>⟨x,⟨hb,rfl⟩,U1⟩,fun _ _ _ _=>Nat.le_refl _⟩
theorem SimH.grow (S:SimH J β h w) (hJ:∀ o k,J o k→J' o k) (hlt:∀ o k,J' o k→k<w.heap.size) (hft:∀ k,J' false k→J' true k)
  (hun:∀ b x k,Ad h b=some x→x.dead=false→x.sealed=false→Terr β b x k→∀ g,¬ J' g k):SimH J' β h w:=by
 refine⟨hlt,hft,S.gl.to (hJ false) (fun _ _=>rfl),fun b x hx hd hm=>?_,fun b x hx hd hm=>by
   obtain⟨g1,g2,g3,g4⟩:=S.mblk b x hx hd hm
   refine⟨g1,g2,fun j ht=>hun b x j hx hd g2 ht,g4.imp id ?_⟩
   rintro⟨k,o,g5,g6,g7⟩
   exact⟨k,o,g5,g6,g7.keep (hJ false) (fun _ _=>rfl) rfl (fun _ _ _ _ _ _=>rfl)⟩,S.sepT⟩
 rcases S.blk b x hx hd hm with h1 | ⟨k,o,cs,ty,fr,h1,h2,h3,h4,h5,h6,h7⟩
 ·exact .inl h1
 ·exact .inr ⟨k,o,cs,ty,fr,h1,h2,h3,h4,h5.ext (Ext.grow hJ),fun hs=>hun b x k hx hd hs (Terr.at h1),fun hs=>hJ _ _ (h7 hs)⟩
def aV (β:Au) (h:Ai) (fz:List Nat) (k:Nat):Prop:=∃ b x o,b ∈ fz∧Ad h b=some x∧x.dead=false∧x.sealed=false∧β b=some (k,o)
def JS (J:Bool→Nat→Prop) (β:Au) (h:Ai) (fz:List Nat):Bool→Nat→Prop:=fun o k=>J o k∨(o=true∧aV β h fz k)
theorem GL {g:Aq} {b off n:Nat} {x:Blk} {vc:Value} {fz:List Nat} (S:SimH J β h w) (hl:Looks g h) (hx:Ce g b=some x) (hp:x.pure=true) (hf:x.sealed=false→b ∈ fz) (hv:Rep J β h w (.own b off n) vc) :
  Rep (JS J β h fz) β h w (.imm ((x.cells.drop off).take (n*x.sz)) n x.sz false (!x.sealed||x.taint)) vc:=by
 unfold Ce at hx
 obtain⟨x0,hx0,hx⟩:=ub hx
 obtain⟨hd,hx⟩:=QM hx
 simp at hx;subst hx
 have hy:=hl b _ hx0
 rw[Rep]
 have key:=(SY (J':=fun o k=>o≠x0.taint∨JS J β h fz (!x0.sealed||x0.taint) k) S hy hd hp hv (fun k o hβ=>.inr ?_) (fun o k hj=>?_) false (!x0.sealed||x0.taint)).2 (by simp)
 ·exact RepC.keep (fun k hk=>by rcases hk with hk | hk;exact absurd rfl hk;exact hk) (fun _ _=>rfl) key
 ·cases hs:x0.sealed with
  | false =>
   simp only[Bool.not_false,Bool.true_or]
   exact .inr ⟨rfl,b,x0,o,hf hs,hy,hd,hs,hβ⟩
  | true =>
   simp only[Bool.not_true,Bool.false_or]
   rcases S.blk b x0 hy hd (QO hy hv) with⟨h1,_⟩ | ⟨k',o',cs,ty,fr,h1,h2,h3,h4,h5,h6,h7⟩
   ·rw[hβ] at h1;cases h1
   ·rw[hβ] at h1;simp at h1;obtain⟨rfl,rfl⟩:=h1
    exact .inl (h7 hs)
 ·by_cases e:o=x0.taint
  ·subst e
   right
   cases hs:x0.sealed with
   | false =>
    simp only[Bool.not_false,Bool.true_or]
    left
    cases ht:x0.taint with
    | false=>rw[ht] at hj;exact S.jft k hj
    | true=>rw[ht] at hj;exact hj
   | true=>simp only[Bool.not_true,Bool.false_or];exact .inl hj
  ·exact .inl e
theorem JS.mono (S:SimH J β h w) {fz:List Nat} {a b:Bool} (k:Nat) (hk:JS J β h fz a k):JS J β h fz (a||b) k:=by
 cases a
 ·cases b
  ·exact hk
  ·rcases hk with hk | ⟨h1,_⟩
   ·exact .inl (S.jft k hk)
   ·cases h1
 ·exact hk
theorem JA {g:Aq} {v v':AV} {o:Bool} {vc:Value} {fz:List Nat} (S:SimH J β h w) (hl:Looks g h) (hh:Ra g v=some (v',o)) (hf:∀ b off n x,v=.own b off n→g b=some x→x.sealed=false→b ∈ fz) (hv:Rep J β h w v vc) :
  RepC (JS J β h fz o) w v' vc:=by
 cases v
 case own b off n =>
  rw[Ra] at hh
  obtain⟨x,hx,h1⟩:=ub hh
  obtain⟨hp,h2⟩:=uc h1
  simp at h2
  obtain⟨rfl,rfl⟩:=h2
  have:=GL S hl hx hp (fun hs=>by
   unfold Ce at hx
   obtain⟨x0,hx0,hx⟩:=ub hx
   obtain⟨hd,hx⟩:=QM hx
   simp at hx;subst hx
   exact hf b off n x0 rfl hx0 hs) hv
  rw[Rep] at this;exact this
 case imm c n sz t org =>
  simp[Ra] at hh;obtain⟨rfl,rfl⟩:=hh
  rw[Rep,RepC] at hv
  rw[RepC]
  obtain⟨e1,A,cap,e2,e3,e4,e5⟩:=hv
  refine⟨e1,A,cap,e2,e3,by simp,?_⟩
  rcases e5 with e5 | ⟨a,e6,e7,e8⟩
  ·exact .inl e5
  ·exact .inr ⟨a,e6,.inl e7,RepCs.keep (fun k hk=>.inl hk) (fun _ _=>rfl) (fun _=>rfl) e8⟩
 case iptr c org =>
  simp[Ra] at hh;obtain⟨rfl,rfl⟩:=hh
  rw[Rep] at hv
  exact RepC.keep (fun k hk=>.inl hk) (fun _ _=>rfl) hv
 all_goals first
  | (simp[Ra] at hh;done)
  | (simp[Ra] at hh;obtain⟨rfl,rfl⟩:=hh;rw[Rep] at hv;rw[RepC];exact hv)
theorem U9 {g:Aq} {fz:List Nat} (S:SimH J β h w) (hl:Looks g h):∀ {c c':LA} {o:Bool} {cs:List Value},Uu g c=some (c',o)→(∀ b ∈ E7 g c,b ∈ fz)→Reps J β h w c cs →
  cs.length=c'.length∧∀ (j:Nat) (x:AV),c'[j]?=some x→∃ u,cs[j]?=some u∧RepC (JS J β h fz o) w x u
 | [],c',o,cs,hh,hf,hv=>by
  simp[Uu] at hh;obtain⟨rfl,rfl⟩:=hh
  rw[Reps] at hv;subst hv
  exact⟨rfl,fun j x hj=>by simp at hj⟩
 | v::r,c',o,cs,hh,hf,hv=>by
  rw[Uu] at hh
  obtain⟨⟨v1,o1⟩,h1,hh⟩:=ub hh
  obtain⟨⟨r1,o2⟩,h2,hh⟩:=ub hh
  simp at hh;obtain⟨rfl,rfl⟩:=hh
  rw[Reps] at hv
  obtain⟨u,us,rfl,g1,g2⟩:=hv
  have hf2:∀ b ∈ E7 g r,b ∈ fz:=fun b hb=>hf b (by
   cases v<;>simp only[E7]<;>try exact hb
   split
   ·rename_i x _;cases x.sealed<;>simp[hb]
   ·exact hb)
  have a1:=JA (fz:=fz) S hl h1 (fun b off n x e hx hs=>hf b (by subst e;simp[E7,hx,hs])) g1
  obtain⟨b1,b2⟩:=U9 S hl h2 hf2 g2
  refine⟨by simp[b1],fun j x hj=>?_⟩
  cases j with
  | zero=>simp at hj;subst hj;exact⟨u,by simp,RepC.keep (fun k hk=>JS.mono S k hk) (fun _ _=>rfl) a1⟩
  | succ j =>
   obtain⟨u',e1,e2⟩:=b2 j x (by simpa using hj)
   exact⟨u',by simpa using e1,RepC.keep (fun k hk=>by rw[Bool.or_comm];exact JS.mono S k hk) (fun _ _=>rfl) e2⟩
theorem JB {g:Aq} {v v':AV} {q:Bool} {vc:Value} {fz:List Nat} (S:SimH J β h w) (hl:Looks g h) (hh:LH g v=some (v',q)) (hf:∀ b ∈ Pc g v,b ∈ fz) (hv:Rep J β h w v vc) :
  Rep (JS J β h fz) β h w v' vc∧C6 v'=[]:=by
 unfold LH at hh
 split at hh
 ·rename_i b off n
  obtain⟨x,hx,h1⟩:=ub hh
  obtain⟨hp,h2⟩:=uc h1
  simp at h2
  obtain⟨rfl,_⟩:=h2
  exact⟨GL S hl hx hp (fun hs=>by
   unfold Ce at hx
   obtain⟨x0,hx0,hx⟩:=ub hx
   obtain⟨hd,hx⟩:=QM hx
   simp at hx;subst hx
   exact hf b (by simp[Pc,hx0,hs])) hv,by simp[C6]⟩
 ·simp at hh;obtain⟨rfl,_⟩:=hh
  refine⟨?_,by simp[C6]⟩
  rw[Rep,RepC] at hv ⊢
  obtain⟨e1,A,cap,e2,e3,e4,e5⟩:=hv
  refine⟨e1,A,cap,e2,e3,by simp,?_⟩
  rcases e5 with e5 | ⟨a,e6,e7,e8⟩
  ·exact .inl e5
  ·exact .inr ⟨a,e6,.inl e7,RepCs.keep (fun k hk=>.inl hk) (fun _ _=>rfl) (fun _=>rfl) e8⟩
 ·rename_i b off
  obtain⟨x,hx,h1⟩:=ub hh
  obtain⟨hp,h2⟩:=uc h1
  simp at h2
  obtain⟨rfl,_⟩:=h2
  unfold Ce at hx
  obtain⟨x0,hx0,hx⟩:=ub hx
  obtain⟨hd,hx⟩:=QM hx
  simp at hx;subst hx
  have hy:=hl b _ hx0
  refine⟨?_,by simp[C6]⟩
  rw[Rep] at hv
  obtain⟨x1,k,o,⟨g1,gm⟩,g2,g3⟩:=hv
  rw[hy] at g1;simp at g1;subst g1
  rcases g3 with g3 | g3
  ·simp[hd] at g3
  ·rcases S.blk b x0 hy hd gm with⟨h1,_⟩ | ⟨k',o',cs,ty,fr,h1,h2,h3,h4,h5,h6,h7⟩
   ·rw[g3] at h1;cases h1
   ·rw[g3] at h1;simp at h1;obtain⟨rfl,rfl⟩:=h1
    have hin:∀ k2,J x0.taint k2→JS J β h fz (!x0.sealed||x0.taint) k2:=by
     intro k2 hj
     left
     cases hs:x0.sealed with
     | false =>
      simp only[Bool.not_false,Bool.true_or]
      cases ht:x0.taint with
      | false=>rw[ht] at hj;exact S.jft k2 hj
      | true=>rw[ht] at hj;exact hj
     | true=>simp only[Bool.not_true,Bool.false_or];exact hj
    rw[Rep,RepC]
    refine⟨_,g2,?_,?_⟩
    ·cases hs:x0.sealed with
     | false =>
      simp only[Bool.not_false,Bool.true_or]
      exact .inr ⟨rfl,b,x0,o,hf b (by simp[Pc,hx0,hs]),hy,hd,hs,g3⟩
     | true =>
      simp only[Bool.not_true,Bool.false_or]
      exact .inl (h7 hs)
    ·refine RepCs.keep hin (fun _ _=>rfl) (fun j=>?_) ((h5.1 hp).drop off)
     rw[Addr.add_mid,Dq h2,Nat.add_assoc]
 ·rename_i c
  obtain⟨⟨c1,o1⟩,h1,h2⟩:=ub hh
  simp at h2;obtain⟨rfl,_⟩:=h2
  rw[Rep] at hv
  obtain⟨cs,rfl,hv⟩:=hv
  obtain⟨b1,b2⟩:=U9 (fz:=fz) S hl h1 (by simpa[Pc] using hf) hv
  refine⟨?_,by simp[C6]⟩
  rw[Rep]
  refine⟨cs,rfl,b1,?_⟩
  rw[Ay]
  intro j x hj
  obtain⟨u,e1,e2⟩:=b2 j x hj
  exact⟨u,by simpa using e1,e2⟩
 ·simp at hh;obtain⟨rfl,_⟩:=hh
  exact⟨Rep.ext (Ext.grow fun _ _ hj=>.inl hj) hv,by simp[C6,Ej]⟩
 ·simp at hh
 ·simp at hh
 ·simp at hh
 ·simp at hh
 ·simp at hh
 ·simp at hh;obtain⟨rfl,_⟩:=hh
  refine⟨Rep.ext (Ext.grow fun _ _ hj=>.inl hj) hv,?_⟩
  cases v<;>first | rfl | simp_all
theorem Mu {g:Aq} {fz:List Nat} (S:SimH J β h w) (hl:Looks g h):∀ {args:LA} {ms:List Bool} {args':LA} {im fz':List Nat} {vs:List Value},
  Pd g ms args=some (args',im,fz')→(∀ b ∈ fz',b ∈ fz)→Reps J β h w args vs→Reps (JS J β h fz) β h w args' vs∧∀ b ∈ Ej args',b ∈ im
 | [],ms,args',im,fz',vs,hh,hf,hv=>by
  simp[Pd] at hh;obtain⟨rfl,rfl,rfl⟩:=hh
  rw[Reps] at hv;subst hv
  exact⟨by rw[Reps],by simp[Ej]⟩
 | v::r,ms,args',im,fz',vs,hh,hf,hv=>by
  rw[Pd] at hh
  rw[Reps] at hv
  obtain⟨u,us,rfl,hv1,hv2⟩:=hv
  cases hm:ms.headD false with
  | true =>
   rw[hm,cond_true] at hh
   obtain⟨⟨a2,i2,f2⟩,h1,h2⟩:=ub hh
   simp at h2;obtain⟨rfl,rfl,rfl⟩:=h2
   obtain⟨g1,g2⟩:=Mu S hl h1 hf hv2
   refine⟨by rw[Reps];exact⟨u,us,rfl,Rep.ext (Ext.grow fun _ _ hj=>.inl hj) hv1,g1⟩,fun b hb=>?_⟩
   rw[Ej] at hb
   rcases List.mem_append.1 hb with hb | hb
   ·exact List.mem_append.2 (.inl hb)
   ·exact List.mem_append.2 (.inr (g2 b hb))
  | false =>
   rw[hm,cond_false] at hh
   obtain⟨⟨v1,b1⟩,h0,hh⟩:=ub hh
   obtain⟨⟨a2,i2,f2⟩,h1,h2⟩:=ub hh
   simp at h2;obtain⟨rfl,rfl,rfl⟩:=h2
   obtain⟨e1,e2⟩:=JB S hl h0 (fun b hb=>hf b (List.mem_append.2 (.inl hb))) hv1
   obtain⟨g1,g2⟩:=Mu S hl h1 (fun b hb=>hf b (List.mem_append.2 (.inr hb))) hv2
   refine⟨by rw[Reps];exact⟨u,us,rfl,e1,g1⟩,fun b hb=>?_⟩
   rw[Ej,e2] at hb
   exact g2 b (by simpa using hb)
end
end Gx

namespace Gx
open Go
theorem KK {g g':Aq} {ρ:Nat→Nat}:∀ {ids:List Nat},(∀ b ∈ ids,g b=g' b)→sub g ρ ids=sub g' ρ ids
 | [],_=>rfl
 | b::r,h=>by
  rw[sub,sub,h b (by simp),KK (fun c hc=>h c (by simp[hc]))]
theorem Va {g:Aq}:∀ {l:List Nat},Uw g l=true→∀ b ∈ l,∃ x,g b=some x∧x.dead=false
 | [],_,b,hb=>by simp at hb
 | i::r,h,b,hb=>by
  rw[Uw] at h
  simp at h
  rcases List.mem_cons.1 hb with rfl | hb
  ·cases hx:g b with
   | none=>rw[hx] at h;simp at h
   | some x=>rw[hx] at h;exact⟨x,rfl,by simpa using h.1⟩
  ·exact Va h.2 b hb
theorem TE:∀ {l m:List Nat},NN l m=true→∀ b ∈ l,b ∉ m
 | [],m,_,b,hb=>by simp at hb
 | i::r,m,h,b,hb=>by
  rw[NN] at h
  simp at h
  rcases List.mem_cons.1 hb with rfl | hb
  ·intro hm;have:=Fk.2 hm;rw[this] at h;simp at h
  ·exact TE h.2 b hb
theorem Pr {d:Nat}:∀ {l:List (Nat×Nat)} {b:Nat},b ∈ l.map (·.1)→Es d l b ∈ l.map (·.2)
 | [],b,hb=>by simp at hb
 | (i,x)::r,b,hb=>by
  rw[Es]
  cases hi:Nat.beq i b with
  | true=>simp
  | false =>
   have hm:b ∈ r.map (·.1):=by
    rw[List.map_cons] at hb
    rcases List.mem_cons.1 hb with h | h
    ·exact absurd h.symm (G9 hi)
    ·exact h
   simp only[cond_false,List.map_cons]
   exact List.mem_cons_of_mem _ (Pr hm)
theorem L2 {d:Nat}:∀ {l m:List (Nat×Nat)} {b:Nat},Es d (l++m) b=if b ∈ l.map (·.1) then Es d l b else Es d m b
 | [],m,b=>by simp
 | (i,x)::r,m,b=>by
  rw[List.cons_append,Es,Es,L2]
  cases hi:Nat.beq i b with
  | true=>have:=Nat.eq_of_beq_eq_true hi;subst this;simp
  | false =>
   have:=G9 hi
   simp only[cond_false,List.map_cons,List.mem_cons]
   by_cases hb:b ∈ r.map (·.1)
   ·rw[if_pos hb,if_pos (.inr hb)]
   ·rw[if_neg hb,if_neg (by rintro(h | h);exact this h.symm;exact hb h)]
theorem E9:∀ {base:Nat} {l:List Nat},(Am base l).map (·.1)=l
 | _,[]=>rfl
 | base,i::r=>by rw[Am,List.map_cons,E9]
theorem GM {d d':Nat}:∀ {l:List Nat} {base b:Nat},b ∈ l→Es d' ((Am base l).map fun p=>(p.2,p.1)) (Es d (Am base l) b)=b
 | [],base,b,hb=>by simp at hb
 | i::r,base,b,hb=>by
  rw[Am,Es,List.map_cons,Es]
  cases hi:Nat.beq i b with
  | true=>have:=Nat.eq_of_beq_eq_true hi;subst this;simp
  | false =>
   have hm:b ∈ r:=by
    rcases List.mem_cons.1 hb with h | h
    ·exact absurd h.symm (G9 hi)
    ·exact h
   simp only[cond_false]
   have h1:=Mt (d:=d) (base:=base+1) hm
   rw[Ph (show base≠Es d (Am (base+1) r) b by omega)]
   exact GM hm
theorem Jw:∀ {base:Nat} {l:List Nat} {c:Nat},c ∈ (Am base l).map (·.2)→base≤c∧c<base+l.length
 | _,[],c,hc=>by simp[Am] at hc
 | base,i::r,c,hc=>by
  rw[Am,List.map_cons] at hc
  rcases List.mem_cons.1 hc with h | h
  ·simp at h;subst h;simp
  ·have:=Jw h;simp only[List.length_cons];omega
theorem Mv:∀ {base:Nat} {l:List Nat},((Am base l).map (·.2)).Nodup
 | _,[]=>by simp[Am]
 | base,i::r=>by
  rw[Am,List.map_cons,List.nodup_cons]
  exact⟨fun h=>by have:=Jw h;simp at this;omega,Mv⟩
theorem Vb:∀ {base:Nat} {l:List Nat} {b:Nat},b ∈ l→(b,Es 0 (Am base l) b) ∈ Am base l
 | _,[],b,hb=>by simp at hb
 | base,i::r,b,hb=>by
  rw[Am,Es]
  cases hi:Nat.beq i b with
  | true=>have:=Nat.eq_of_beq_eq_true hi;subst this;simp
  | false =>
   have hm:b ∈ r:=by
    rcases List.mem_cons.1 hb with h | h
    ·exact absurd h.symm (G9 hi)
    ·exact h
   simp only[cond_false]
   exact List.mem_cons_of_mem _ (Vb hm)
def RK (x:Blk):Blk:={ x with dead:=true,pure:=true,cells:=[] }
theorem F6:∀ {ups:By} {h:Ai} {b:Nat} {o:Option Blk},(ups.map (·.1)).Nodup→(b,o) ∈ ups→Ad (Ac ups h) b=match o with | some x=>some x | none=>(Ad h b).map RK
 | [],h,b,o,_,hm=>by simp at hm
 | (i,y)::r,h,b,o,hn,hm=>by
  rw[List.map_cons,List.nodup_cons] at hn
  rcases List.mem_cons.1 hm with he | hm'
  ·simp at he
   obtain⟨rfl,rfl⟩:=he
   have hno:Al r b=false:=by
    have:∀ {r:By},b ∉ r.map (·.1)→Al r b=false:=by
     intro r
     induction r with
     | nil=>intro _;rfl
     | cons p r ih =>
      intro h
      simp only[List.map_cons,List.mem_cons,not_or] at h
      rw[Al,Ph (fun e=>h.1 e.symm)]
      exact ih h.2
    exact this hn.1
   cases o with
   | some x=>rw[Ac,A9 _ _ _ hno,Aa,if_pos rfl]
   | none =>
    rw[Ac,A9 _ _ _ hno]
    cases hx:Ad h b with
    | none=>simp[hx]
    | some x=>simp only[Option.map_some];rw[Aa,if_pos rfl];rfl
  ·have hne:b≠i:=fun e=>by subst e;exact hn.1 (List.mem_map.2 ⟨_,hm',rfl⟩)
   cases y with
   | some x =>
    rw[Ac,F6 hn.2 hm']
    cases o with
    | some _=>rfl
    | none=>simp only;rw[Aa,if_neg hne]
   | none =>
    rw[Ac,F6 hn.2 hm']
    cases o with
    | some _=>rfl
    | none =>
     simp only
     split
     ·rw[Aa,if_neg hne]
     ·rfl
theorem AO:∀ {ups:By} {b:Nat},Al ups b=true↔b ∈ ups.map (·.1)
 | [],b=>by simp[Al]
 | (i,y)::r,b=>by
  rw[Al,List.map_cons,List.mem_cons,←AO]
  cases hi:Nat.beq i b with
  | true=>have:=Nat.eq_of_beq_eq_true hi;subst this;simp
  | false=>have:=G9 hi;simp;intro e;exact absurd e.symm this
theorem GN {β:Au} {h:Ai} {ρ:Nat→Nat} {ids:List Nat} (hn:(ids.map ρ).Nodup) {k:Nat} (hm:NH (Sr ρ ids β) (sub (Ad h) ρ ids) k) :
  Xa β h ids k:=by
 obtain⟨c,y,hy,hd,hs,hβ⟩:=hm
 obtain⟨b,x,hb,rfl,hx,rfl⟩:=Gw hn c y hy
 exact⟨b,x,hb,hx,hd,hs,hβ.to (Co hn hb).symm rfl⟩
end Gx

namespace Gx
open Go
theorem RL {l:List Nat}:LI l=true↔l=[]:=by cases l<;>simp[LI]
theorem Rs {α β:Type} {f:α→β}:∀ {l:List α},(l.map f).Nodup→l.Nodup
 | [],_=>List.nodup_nil
 | a::r,h=>by
  rw[List.map_cons,List.nodup_cons] at h
  exact List.nodup_cons.2 ⟨fun hm=>h.1 (List.mem_map.2 ⟨a,hm,rfl⟩),Rs h.2⟩
theorem Rt {α:Type} {p:α→Bool}:∀ {l:List α},l.Nodup→(l.filter p).Nodup
 | [],_=>List.nodup_nil
 | a::r,h=>by
  rw[List.nodup_cons] at h
  rw[List.filter_cons]
  split
  ·exact List.nodup_cons.2 ⟨fun hm=>h.1 (List.mem_filter.1 hm).1,Rt h.2⟩
  ·exact Rt h.2
theorem Y7 {base:Nat} {l:List Nat} {p:Nat×Nat} (hp:p ∈ Am base l):p.1 ∈ l:=by
 have:p.1 ∈ (Am base l).map (·.1):=List.mem_map.2 ⟨p,hp,rfl⟩
 rw[E9] at this;exact this
theorem TF {σ:Nat→Nat}:∀ {l:List Nat} {a b:Nat},(l.map σ).Nodup→a ∈ l→b ∈ l→σ a=σ b→a=b
 | [],a,b,_,ha,_,_=>by simp at ha
 | i::r,a,b,hn,ha,hb,he=>by
  rw[List.map_cons,List.nodup_cons] at hn
  rcases List.mem_cons.1 ha with h1 | h1<;>rcases List.mem_cons.1 hb with h2 | h2
  ·rw[h1,h2]
  ·subst h1;exact absurd (List.mem_map.2 ⟨b,h2,he.symm⟩) hn.1
  ·subst h2;exact absurd (List.mem_map.2 ⟨a,h1,he⟩) hn.1
  ·exact TF hn.2 h1 h2 he
theorem WI {E:Env} (hT:GI E.P E.tbl):X3 E:=by
 intro R r k J β h w g d f args vs S hl hh hv
 unfold JY at hh
 obtain⟨⟨args',im,fz⟩,hp,h1⟩:=ub hh
 simp only at h1
 obtain⟨hc,h2⟩:=uc h1
 simp only[Bool.and_eq_true] at hc
 obtain⟨hal,him,hin,hdj,hnd,_⟩:=hc
 generalize hids:Mm g im=ids at *
 generalize hρ:Es 0 (Am 100000 ids)=ρ at *
 have hal:=Va hal
 have him:=Hh him
 have hdj:=TE hdj
 have hnd:=Ju hnd
 have hg:∀ b ∈ ids,g b=Ad h b:=fun b hb=>by obtain⟨x,hx,_⟩:=hal b hb;rw[hx,hl b x hx]
 rw[N5 (g:=Ad h) hg] at hin
 have hin:=Hh hin
 rw[KK (g':=Ad h) hg] at h2
 obtain⟨hA,hB⟩:=Mu (fz:=fz) S hl hp (fun _ h=>h) hv
 have aliveH:∀ b ∈ ids,∃ x,Ad h b=some x∧x.dead=false:=fun b hb=>by obtain⟨x,hx,hd⟩:=hal b hb;exact⟨x,hl b x hx,hd⟩
 have SJ:SimH (JS J β h fz) (Sr ρ ids β) (sub (Ad h) ρ ids) w:=by
  refine(S.ren hnd hin).grow (fun o k hj=>.inl hj) ?_ ?_ ?_
  ·rintro o k (hj | ⟨_,b,x,o',_,hx,hd,_,hβ⟩)
   ·exact S.jlt o k hj
   ·exact VX S hx hd hβ
  ·rintro k (hj | ⟨h0,_⟩)
   ·exact .inl (S.jft k hj)
   ·cases h0
  ·intro c y k hy hd hs hβ q hj
   obtain⟨b,x,hb,rfl,hx,rfl⟩:=Gw hnd c y hy
   replace hβ:=hβ.to (β':=β) (b':=b) (x':=x) (Co hnd hb).symm rfl
   rcases hj with hj | ⟨_,b',x',o',hb',hx',hd',hs',hβ'⟩
   ·exact S.unT hx hd hs hβ _ hj
   ·have:=S.sepT b b' x x' k hx hx' hd hd' hs hβ (Terr.at hβ')
    subst this
    exact hdj b hb' hb
 have RJ:Reps (JS J β h fz) (Sr ρ ids β) (sub (Ad h) ρ ids) w (Lj ρ args') vs:=Reps.ren hnd (fun b hb=>him b (hB b hb)) hA
 obtain⟨rv,rh,hF,h3⟩:=PA hT h2
 have hcall:=hF _ _ w vs SJ RJ
 obtain⟨horg,h4⟩:=QM h3
 obtain⟨hc2,h5⟩:=uc h4
 simp only[Bool.and_eq_true] at hc2
 obtain⟨hnal,hn16,hrv,houts,hrin,hσn⟩:=hc2
 generalize hall:Mm (Ad rh) (C6 rv++(Am 100000 ids).map (·.2))=all at *
 generalize hnew:all.filter (fun b=>!Dp ((Am 100000 ids).map (·.2)) b)=new at *
 generalize hσ:Es 0 ((Am 100000 ids).map (fun p=>(p.2,p.1))++Am (nid d) new)=σ at *
 have hnal:=Va hnal
 have hrv:=Hh hrv
 have houts:=Hh houts
 have hrin:=Hh hrin
 have hσn:=Ju hσn
 have hn16:new.length≤16:=by simpa using hn16
 refine⟨_,_,h5,fun hfree=>Calls.mono hcall ?_⟩
 rintro e w' ⟨vc,J',β',rfl,F,hR⟩
 refine⟨vc,rfl,?_⟩
 have back:∀ b ∈ ids,σ (ρ b)=b:=by
  intro b hb
  rw[←hσ,L2,if_pos,←hρ]
  ·exact GM hb
  ·rw[List.map_map]
   have:=Pr (d:=0) (l:=Am 100000 ids) (b:=b) (by rw[E9];exact hb)
   rw[hρ] at this
   exact this
 have ρall:∀ b ∈ ids,ρ b ∈ all:=by
  intro b hb
  refine houts _ ?_
  have:=Pr (d:=0) (l:=Am 100000 ids) (b:=b) (by rw[E9];exact hb)
  rw[hρ] at this
  exact this
 have σout:∀ c ∈ all,c ∈ (Am 100000 ids).map (·.2)→σ c ∈ ids:=by
  intro c _ hc
  rw[←hσ,L2,if_pos (by rw[List.map_map];exact hc)]
  have:=Pr (d:=0) (l:=(Am 100000 ids).map (fun p=>(p.2,p.1))) (b:=c) (by rw[List.map_map];exact hc)
  rw[List.map_map] at this
  have e:(Am 100000 ids).map ((fun x=>x.2)∘fun p=>(p.2,p.1))=ids:=E9
  rw[e] at this
  exact this
 have newmem:∀ c ∈ new,c ∈ all∧c ∉ (Am 100000 ids).map (·.2):=by
  intro c hc
  rw[←hnew] at hc
  obtain⟨h6,h7⟩:=List.mem_filter.1 hc
  refine⟨h6,fun hm=>?_⟩
  rw[Fk.2 hm] at h7;simp at h7
 have σnew:∀ c ∈ new,σ c=Es 0 (Am (nid d) new) c:=by
  intro c hc
  rw[←hσ,L2,if_neg]
  rw[List.map_map];exact(newmem c hc).2
 have allcases:∀ c ∈ all,c ∈ (Am 100000 ids).map (·.2)∨c ∈ new:=by
  intro c hc
  by_cases hm:c ∈ (Am 100000 ids).map (·.2)
  ·exact .inl hm
  ·refine .inr ?_
   rw[←hnew]
   refine List.mem_filter.2 ⟨hc,?_⟩
   cases hq:Dp ((Am 100000 ids).map (·.2)) c with
   | false=>rfl
   | true=>exact absurd (Fk.1 hq) hm
 generalize hups:((Am 100000 ids).map fun p=>(p.1,(Ad rh p.2).map fun y=>QH (g p.1) (I9 σ y)))++(Am (nid d) new).map (fun p=>(p.2,(Ad rh p.1).map (I9 σ)))=ups at *
 have keys:ups.map (·.1)=ids++(Am (nid d) new).map (·.2):=by
  rw[←hups,List.map_append,List.map_map,List.map_map]
  congr 1
  exact E9
 have newFree:∀ c ∈ (Am (nid d) new).map (·.2),Ad h c=none:=by
  intro c hc
  refine hfree c (AO.2 (by rw[keys];exact List.mem_append.2 (.inr hc))) ?_
  have:=Jw hc
  unfold N0
  simp;omega
 have keysN:(ups.map (·.1)).Nodup:=by
  rw[keys,List.nodup_append]
  refine⟨Rs hnd,Mv,fun a ha b hb e=>?_⟩
  subst e
  obtain⟨x,hx,_⟩:=aliveH a ha
  rw[newFree a hb] at hx;cases hx
 have upsOld:∀ b ∈ ids,(b,(Ad rh (ρ b)).map fun y=>QH (g b) (I9 σ y)) ∈ ups:=by
  intro b hb
  rw[←hups]
  refine List.mem_append.2 (.inl (List.mem_map.2 ⟨(b,ρ b),?_,rfl⟩))
  rw[←hρ];exact Vb hb
 have upsNew:∀ c ∈ new,(σ c,(Ad rh c).map (I9 σ)) ∈ ups:=by
  intro c hc
  rw[←hups]
  refine List.mem_append.2 (.inr (List.mem_map.2 ⟨(c,σ c),?_,rfl⟩))
  rw[σnew c hc];exact Vb hc
 have J0:∃ J0:Bool→Nat→Prop,SimH J0 β' rh w'∧Rep J0 β' rh w' rv vc∧∀ o k,J0 o k→J o k∨NH (Sr ρ ids β) (sub (Ad h) ρ ids) k∨w.heap.size≤k:=by
  cases he:LI fz with
  | true =>
   have:=RL.1 he
   subst this
   refine⟨J',F.sim,hR,fun o k hj=>?_⟩
   rcases F.jup o k hj with(hj | ⟨_,b,x,o',hb,_⟩) | hj
   ·exact .inl hj
   ·simp at hb
   ·exact .inr hj
  | false =>
   rw[he] at horg
   simp at horg
   refine⟨fun _=>J' false,F.sim.noOrg horg.2,Rep.noOrg horg.1 hR,fun o k hj=>?_⟩
   rcases F.jup false k hj with(h6 | ⟨h0,_⟩) | h6
   ·left
    cases o
    ·exact h6
    ·exact S.jft k h6
   ·cases h0
   ·exact .inr h6
 obtain⟨J0,S0,R0,jup0⟩:=J0
 have S1:=S0.ren hσn hrin
 have R1:=Rep.ren hσn hrv R0
 have M:=Step.merge (J:=J) (J0:=J0) (J1:=J0) (H:=Ac ups h) (D:=ids++(Am (nid d) new).map (·.2)) (ids:=ids) S S1
  (fun b hb=>A9 _ _ _ (by
   cases hi:Al ups b with
   | false=>rfl
   | true=>exact absurd (by rw[←keys];exact AO.1 hi) hb))
  (fun b x hb hx hd=>by
   rcases List.mem_append.1 hb with hb | hb
   ·rw[F6 keysN (upsOld b hb)] at hx
    cases hq:Ad rh (ρ b) with
    | none =>
     rw[hq] at hx;simp at hx
     obtain⟨y,_,rfl⟩:=hx
     simp[RK] at hd
    | some y =>
     rw[hq] at hx;simp at hx;subst hx
     have:=L1 (g:=Ad rh) hσn (ρ b) y (ρall b hb) hq
     rw[back b hb] at this
     exact⟨_,this,_,Nat.zero_le _,rfl⟩
   ·obtain⟨c,hc,rfl⟩:∃ c ∈ new,σ c=b:=by
     obtain⟨p,hp,rfl⟩:=List.mem_map.1 hb
     have hp1:p.1 ∈ new:=Y7 hp
     refine⟨p.1,hp1,?_⟩
     rw[σnew _ hp1]
     have:∀ {base:Nat} {l:List Nat} {p:Nat×Nat},l.Nodup→p ∈ Am base l→Es 0 (Am base l) p.1=p.2:=by
      intro base l
      induction l generalizing base with
      | nil=>intro p _ hp;simp[Am] at hp
      | cons i r ih =>
       intro p hn hp
       rw[List.nodup_cons] at hn
       rw[Am] at hp ⊢
       rw[Es]
       rcases List.mem_cons.1 hp with rfl | hp
       ·simp
       ·have:p.1 ∈ r:=Y7 hp
        rw[Ph (fun e=>hn.1 (by rw[e];exact this))]
        exact ih hn.2 hp
     refine this ?_ hp
     rw[←hnew]
     exact Rt (Rs hσn)
    rw[F6 keysN (upsNew c hc)] at hx
    obtain⟨y,hy,_⟩:=hnal c hc
    rw[hy] at hx;simp at hx;subst hx
    exact⟨_,L1 (g:=Ad rh) hσn c y (newmem c hc).1 hy,Bumped.rfl⟩)
  (fun b x hb=>by
   obtain⟨c,y,hc,rfl,hy,rfl⟩:=Gw hσn b x hb
   rcases allcases c hc with hm | hm
   ·have h6:=σout c hc hm
    have h7:ρ (σ c)=c:=by
     have:(all.map σ).Nodup:=hσn
     have e1:=back (σ c) h6
     have e2:=ρall (σ c) h6
     exact TF this e2 hc e1
    refine⟨List.mem_append.2 (.inl h6),QH (g (σ c)) (I9 σ y),?_,_,Nat.zero_le _,rfl⟩
    rw[F6 keysN (upsOld (σ c) h6),h7,hy];rfl
   ·refine⟨List.mem_append.2 (.inr ?_),I9 σ y,?_,Bumped.rfl⟩
    ·rw[σnew c hm]
     exact Pr (by rw[E9];exact hm)
    ·rw[F6 keysN (upsNew c hm),hy];rfl)
  (fun b x hb hni hx=>by
   rcases List.mem_append.1 hb with hb | hb
   ·exact hni hb
   ·rw[newFree b hb] at hx;cases hx)
  (fun b x hb hx=>by
   rw[F6 keysN (upsOld b hb)]
   cases hq:Ad rh (ρ b) with
   | none=>exact⟨RK x,⟨by simp[hx],rfl⟩,.inl rfl⟩
   | some y =>
    cases hd:y.dead with
    | true=>have:=F.live _ _ hq;rw[hd] at this;cases this
    | false =>
     have e0:=L1 (g:=Ad h) hnd b x hb hx
     obtain⟨⟨e1,em⟩,e2,e3,e4⟩:=F.outs (ρ b) _ y e0 hq hd
     refine⟨QH (g b) (I9 σ y),⟨by simp,em⟩,.inr ?_⟩
     refine⟨e4,?_,e2,fun hmx=>?_⟩
     ·have h8:=Co (β:=β') hσn (ρall b hb)
      rw[back b hb] at h8
      have h9:=Co (β:=β) hnd hb
      have hlen:(QH (g b) (I9 σ y)).cells.length=y.cells.length:=B8 σ y
      have hmp:y.mp=x.mp:=em
      refine⟨fun hn=>by rw[h8,e1.1 hn];exact h9,fun hn=>?_⟩
      obtain⟨f1,f2⟩:=e1.2 hn
      have hxm:x.mp=true:=by unfold Ak at hn;simp at hn;exact hn.1
      have hgen:(QH (g b) (I9 σ y)).gen=x.gen+1:=by
       show cond y.mp (match g b with | some y=>y.gen+1 | none=>0) 0=_
       rw[hmp,hxm,hg b hb,hx];rfl
      refine⟨by rw[h8,f1];exact congrArg _ h9,by omega,fun e=>absurd e (by omega),by rw[hlen,f2,B8]⟩
     ·show(I9 σ y).cells.length=_
      rw[B8,e3 hmx,B8])
  (fun b hb=>List.mem_append.2 (.inl hb))
  F.os F.tape F.output F.size
  (fun k hk hm=>F.frame k hk (fun hm'=>hm (GN hnd hm')))
  (fun k hm hk=>GN hnd (F.wr k (MH hσn hm) hk))
  (fun o k hj=>by
   rcases jup0 o k hj with hj | hj | hj
   ·exact .inl hj
   ·exact .inr (.inl (GN hnd hj))
   ·exact .inr (.inr hj))
  F.sizes
 exact⟨_,_,M.1,Rep.ext M.2 R1⟩
theorem PE {P:Program} {muts:Nat→List Bool} {T:List (Nat×Tw)} {hs:Hints} {N f:Nat} {args:LA} {h:Ai} {res:AV} {h':Ai} (hT:GI P T) (hm:P.follows .mixedOrders=true)
  (hh:Sj P muts T hs N f args h (fun v h'=>some (v,h'))=some (res,h')):bM P f args h res h':=by
 unfold Sj at hh
 split at hh
 ·simp at hh
 ·rename_i fn hfn
  split at hh
  ·simp at hh
  ·rename_i c hc
   simp only at hh
   obtain⟨hc1,h1⟩:=uc hh
   simp only[Bool.and_eq_true] at hc1
   obtain⟨hlen,hroot⟩:=hc1
   have hlen:args.length≤fn.ntmps:=by simpa using hlen
   intro J β w vs S hv
   have hvl:vs.length=args.length:=((Bb).1 hv).1
   refine calls_of_wp hfn hc ?_
   have roots:∀ {h:Ai} {b:Nat} {x:Blk},EJ h=true→Ad h b=some x→E_ b=true:=by
    intro h
    induction h with
    | nil=>intro b x _ hb;simp[Ad] at hb
    | cons p r ih =>
     intro b x hr hb
     obtain⟨i,y⟩:=p
     rw[EJ] at hr
     simp at hr
     rw[Ad] at hb
     cases hi:Nat.beq i b with
     | true=>have:=Nat.eq_of_beq_eq_true hi;subst this;exact hr.1
     | false=>rw[hi] at hb;exact ih hr.2 (by simpa using hb)
   have sgetI:∀ {args:LA} {j i:Nat},C3 (J_ j args) i=if j≤i then (args[i - j]?).getD .undef else .undef:=by
    intro args
    induction args with
    | nil=>intro j i;simp[J_,C3]
    | cons v r ih =>
     intro j i
     rw[J_,C3]
     cases hi:Nat.beq j i with
     | true=>have:=Nat.eq_of_beq_eq_true hi;subst this;simp
     | false =>
      have:=G9 hi
      simp only[cond_false]
      rw[ih]
      by_cases hji:j+1≤i
      ·rw[if_pos hji,if_pos (by omega),show i - j=(i - (j+1))+1 by omega];simp
      ·rw[if_neg hji]
       by_cases h2:j≤i
       ·omega
       ·rw[if_neg h2]
   have I:Inv ⟨J,β,h,w⟩ fn.ntmps J β { s:=J_ 0 args,h:=h } { tmps:=vs.toArray++Array.replicate (fn.ntmps - vs.toArray.size) undef,defers:=[] } w:=by
    refine⟨S,⟨fun i v hi=>?_,fun i hi=>?_⟩,?_,rfl,rfl,rfl,rfl,Nat.le_refl _,fun _ _ _=>rfl,fun _ hm _=>hm,fun _ _ hj=>hj,fun _ _ hj=>.inl hj,fun _=>Nat.le_refl _,?_,?_,?_⟩
    ·rw[sgetI,if_pos (Nat.zero_le _)]
     by_cases hlt:i<args.length
     ·have h2:args[i - 0]?=some args[i]:=by simp[hlt]
      rw[h2]
      have h3:vs[i]?=some v:=by
       rw[Array.getElem?_append_left (by simp;omega)] at hi
       simpa using hi
      exact((Bb).1 hv).2 i _ _ (by simp[hlt]) h3
     ·have h2:args[i - 0]?=none:=by simp;omega
      rw[h2];simp[Rep]
    ·simp at hi
     rw[sgetI,if_pos (Nat.zero_le _)]
     have h2:args[i - 0]?=none:=by simp;omega
     rw[h2];rfl
    ·simp;omega
    ·intro b x0 hb;exact(GH.1 (roots hroot hb)).2
    ·intro b x0 hb;exact(GH.1 (roots hroot hb)).1
    ·intro b x0 x hb hx hd
     change Ad h b=some x0 at hb
     change Ad h b=some x at hx
     rw[hb] at hx;simp at hx;subst hx
     exact⟨⟨⟨fun _=>rfl,fun _=>⟨rfl,rfl⟩⟩,rfl⟩,rfl,fun _=>rfl,hd⟩
   have fin:∀ st' a' w' J' β',Inv ⟨J,β,h,w⟩ fn.ntmps J' β' st' a' w'→Lw { P:=P,nt:=fn.ntmps,muts:=muts,nils:=hs.nils,free:=hs.free,cob:=hs.cob,tbl:=T } fn hs.modes (h.map (·.1)) (fun v h'=>some (v,h')) st'=some (res,h') →
     a'.defers=[]∧∃ v,(results fn a'.tmps).run P w'=.ok v w'∧∃ vc J' β',Ending.returned v=.returned vc∧FDone ⟨J,β,h,w⟩ J' β' h' w'∧Rep J' β' h' w' res vc:=by
    intro st' a' w' J' β' I' h2
    obtain⟨res2,h2',vc,J2,β2,h3,h4,h5,h6⟩:=I_ I' h2
    simp at h3
    obtain⟨rfl,rfl⟩:=h3
    exact⟨I'.defers,vc,h4,vc,J2,β2,rfl,h5,h6⟩
   exact O' (E:={ P:=P,nt:=fn.ntmps,muts:=muts,nils:=hs.nils,free:=hs.free,cob:=hs.cob,tbl:=T }) (WI hT) hm c I h1 fin (fun _ _ _ _ _ _ _ h2=>by simp at h2) fin
end Gx

namespace Gx
open Go
section
variable {R R':Type}
theorem RM (E:Env) (ops:Array Oper) (o:Oper) (st:St) (k:St→Foot→O R) (g:R→Option R'):(NO E ops o st k).bind g=NO E ops o st fun st f=>(k st f).bind g:=by
 rw[Wn,Wn,Option.bind_assoc]
theorem MJ (ops:Array Oper) (o:Oper) (st:St) (k:St→O R) (g:R→Option R'):(Z8 ops o st k).bind g=Z8 ops o st fun st=>(k st).bind g:=by
 unfold Z8
 split
 ·rfl
 ·split
  ·rfl
  ·split
   ·rw[Ae]
   ·rfl
theorem GO (E:Env) (ops:Array Oper) (g:R→Option R'):∀ (l:List Oper) (st:St) (tr:List Foot) (k:St→List Foot→O R),(EX E ops l st tr k).bind g=EX E ops l st tr fun st tr=>(k st tr).bind g
 | [],st,tr,k=>rfl
 | o::r,st,tr,k=>by
  rw[EX,EX,MJ]
  congr 1;funext st
  rw[RM]
  congr 1;funext st f
  exact GO E ops g r st (f::tr) k
theorem JC (E:Env) (roots:List Nat) (ops:Array Oper) (draw:Bool) (st:St) (k:St→O R) (g:R→Option R'):(Wf E roots ops draw st k).bind g=Wf E roots ops draw st fun st=>(k st).bind g:=by
 unfold Wf
 rw[GO]
 congr 1;funext st tr
 rw[Ae,Option.bind_assoc];rfl
theorem RN (E:Env) (roots:List Nat) (H:Hint) (f:St→O R) (g:R→Option R') (st:St):(UA E roots H f st).bind g=UA E roots H (fun st=>(f st).bind g) st:=by
 unfold UA
 rw[Ae,Option.bind_assoc,N2,N2]
theorem CE (cn:St→Option St) (b1:(St→O R)→St→O R) (b2:(St→Option R')→St→Option R') (g:R→Option R') (hb:∀ k st,(b1 k st).bind g=b2 (fun st=>(k st).bind g) st):∀ n st,(Uy cn b1 n st).bind g=Uy cn b2 n st
 | 0,st=>rfl
 | n+1,st=>by
  rw[Uy,Uy,hb]
  congr 1;funext st
  rw[Option.bind_assoc]
  congr 1;funext st
  exact CE cn b1 b2 g hb n st
theorem PF (E:Env) (roots:List Nat) (N:Nat) (g:R→Option R'):∀ (c:Code) (H:Hint) (k:St→O R) (x:Nat→St→O R) (r:St→O R) (st:St),
  (C7 E roots N c H k x r st).bind g=C7 E roots N c H (fun st=>(k st).bind g) (fun j st=>(x j st).bind g) (fun st=>(r st).bind g) st:=by
 intro c
 induction c with
 | skip=>intro H k x r st;rfl
 | region id ops draw=>intro H k x r st;exact JC ..
 | seq a b iha ihb =>
  intro H k x r st
  rw[C7,C7,iha]
  congr 1;funext st
  rw[RN]
  congr 1;funext st
  exact ihb ..
 | cond c a b iha ihb =>
  intro H k x r st
  rw[C7,C7]
  split
  ·rw[Ae,iha,ihb]
  ·rfl
 | block id c ih =>
  intro H k x r st
  rw[C7,C7,ih]
  simp only[Ae]
 | loop c ih =>
  intro H k x r st
  rw[C7,C7,Option.bind_assoc,N2,N2]
  congr 1;funext st
  exact CE _ _ _ g (fun k st=>ih ..) N st
 | exit id=>intro H k x r st;rfl
 | ret=>intro H k x r st;rfl
 | rangeFunc=>intro H k x r st;rfl
 | scope=>intro H k x r st;rfl
 | label=>intro H k x r st;rfl
 | goto=>intro H k x r st;rfl
 | refuse=>intro H k x r st;rfl
theorem Oq (E:Env) (st:St) (g:R→Option R'):∀ (l:List ResultVar) (acc:LA) (k:LA→O R),(Gq E st l acc k).bind g=Gq E st l acc fun l=>(k l).bind g
 | [],acc,k=>rfl
 | .tmp t::r,acc,k=>by rw[Gq,Gq];exact Oq E st g r _ k
 | .cell a t::r,acc,k=>by
  rw[Gq,Gq,Rq,Rq (R:=R'),Option.bind_assoc]
  congr 1;funext v
  exact Oq E st g r _ k
theorem JD (E:Env) (fn:Func) (modes:List (Nat×Nat)) (outs:List Nat) (k:AV→Ai→O R) (g:R→Option R') (st:St):(Lw E fn modes outs k st).bind g=Lw E fn modes outs (fun v h=>(k v h).bind g) st:=by
 unfold Lw
 rw[Oq]
 congr 1;funext l
 rw[Option.bind_assoc]
 congr 1;funext q
 rw[Ae]
 congr 1
 rw[Ae];rfl
theorem RO (P:Program) (muts:Nat→List Bool) (T:List (Nat×Tw)) (hs:Hints) (N f:Nat) (args:LA) (h:Ai) (k:AV→Ai→O R) :
  Sj P muts T hs N f args h k=(Sj P muts T hs N f args h fun v h=>some (v,h)).bind fun p=>k p.1 p.2:=by
 unfold Sj
 split
 ·rfl
 ·split
  ·rfl
  ·simp only
   rw[Ae,PF]
   simp only[JD]
   rfl
structure Cut (R:Type) where
 c:Code
 H:Hint
 k:St→O R
 x:Nat→St→O R
 r:St→O R
noncomputable def Z_ (E:Env) (roots:List Nat) (N:Nat):List Nat→Code→Hint→(St→O R)→(Nat→St→O R)→(St→O R)→List (St→O R)→Cut R
 | [],c,H,k,x,r,_=>⟨c,H,k,x,r⟩
 | d::p,.seq a b,H,k,x,r,ks=>cond (Nat.beq d 0) (Z_ E roots N p a H.a (UA E roots H fun st=>C7 E roots N b H.b k x r st) x r ks) (Z_ E roots N p b H.b k x r ks)
 | d::p,.cond _ a b,H,k,x,r,ks=>cond (Nat.beq d 0) (Z_ E roots N p a H.a k x r ks) (Z_ E roots N p b H.b k x r ks)
 | _::p,.block id c,H,k,x,r,ks=>Z_ E roots N p c H.a k (fun j st=>cond (Nat.beq j id) (k st) (x j st)) r ks
 | _::p,.loop c,H,_,x,r,q::ks=>Z_ E roots N p c H.a (fun st=>(Ys E H.live roots st).bind q) x r ks
 | _::_,c,H,k,x,r,_=>⟨c,H,k,x,r⟩
def PG:Code→Code
 | .loop c=>c
 | c=>c
structure CutB (R:Type) where
 E:Env
 roots:List Nat
 N:Nat
 c:Cut R
noncomputable def X8 (q:CutB R) (st:St):O R:=C7 q.E q.roots q.N q.c.c q.c.H q.c.k q.c.x q.c.r st
noncomputable def WJ (q:CutB R) (st:St):O R:=VV true (fun st=>C7 q.E q.roots q.N q.c.c q.c.H q.c.k q.c.x q.c.r st) st
theorem Mh (q:CutB R) (st:St):WJ q st=X8 q st:=by unfold WJ;rw[N2];rfl
noncomputable def Ar (q:CutB R) (n:Nat) (st:St):O R:=Uy (Ys q.E q.c.H.live q.roots) (fun k st=>C7 q.E q.roots q.N (PG q.c.c) q.c.H.a k q.c.x q.c.r st) n st
noncomputable def YG (q:CutB R) (st:St):O R:=VV true (Uy (Ys q.E q.c.H.live q.roots) (fun k st=>C7 q.E q.roots q.N (PG q.c.c) q.c.H.a k q.c.x q.c.r st) q.N) st
theorem Ao (q:CutB R) (st:St):YG q st=Ar q q.N st:=by unfold YG;rw[N2];rfl
def Z' (fn:Func):Code:=match fn.body with | some c=>c | none=>.skip
def YH:List (Nat×List Bool)→Nat→List Bool
 | [],_=>[]
 | (i,l)::r,f=>cond (Nat.beq i f) l (YH r f)
end
end Gx

namespace Gx
open Go
abbrev KF (R:Type):=AV→Ai→Option R
abbrev MK:=List (Nat×Tw)
abbrev hL:Hint:=.leaf
abbrev hS (a b:Hint):Hint:=.node [] a b
abbrev hP (l:List Nat) (a:Hint):Hint:=.node l a .leaf
abbrev hJ (l:List Nat) (a b:Hint):Hint:=.join l a b
def XX (P:Program) (muts:Nat→List Bool) (nt:Nat) (hs:Hints) (T:List (Nat×Tw)):Env:={ P,nt,muts,nils:=hs.nils,free:=hs.free,cob:=hs.cob,tbl:=T }
noncomputable def bW {R:Type} (P:Program) (muts:Nat→List Bool) (fn:Func) (hs:Hints) (T:List (Nat×Tw)) (roots:List Nat) (N:Nat) (F:KF R) (p:List Nat) (ks:List (St→O R)):CutB R :=
 ⟨XX P muts fn.ntmps hs T,roots,N,Z_ (XX P muts fn.ntmps hs T) roots N p (Z' fn) hs.H (Lw (XX P muts fn.ntmps hs T) fn hs.modes roots F) (fun _ _=>none) (Lw (XX P muts fn.ntmps hs T) fn hs.modes roots F) ks⟩
def iv (n:Int):AV:=.int .i64 n
def op (k:Nat):AV:=.optr (300000+k) 0
def bV:Nat→List Blk→Ai
 | _,[]=>[]
 | i,b::r=>(i,b)::bV (i+1) r
def hq (l:List Blk):Ai:=bV 300000 l
def bQ (sz:Nat) (c:LA):Blk:=⟨false,false,true,false,sz,c,false,none,0,0⟩
def bN (sz:Nat) (c:LA):Blk:=⟨false,false,false,false,sz,c,false,none,0,0⟩
def bP (t:Bool) (sz:Nat) (c:LA):Blk:=⟨false,false,true,t,sz,c,false,none,0,0⟩
def Ko {R:Type} (kd:IntKind) (c:LA) (k:Int→O R):O R:=(c.head?).bind fun x=>(asInt kd x).bind k
def aR {R:Type} (c:LA) (k:Bool→O R):O R:=(c.head?).bind fun x=>(asBool x).bind k
def DA {R:Type} (sz:Nat) (c:LA) (k:LA→Nat→O R):O R:=(c.head?).bind fun x=>(Qz sz x).bind fun p=>k p.1 p.2
def RP {R:Type} (c:LA) (k:LA→O R):O R:=(c.head?).bind fun y=>(Pa y).bind fun c=>k c
def bJ {R:Type} (c:LA) (k:LA→O R):O R:=(c.head?).bind fun y=>(LG y).bind fun c=>k c
def aA (P:Program) (muts:Nat→List Bool) (N f:Nat) (run:(R:Type)→Nat→LA→Ai→KF R→O R):Prop:=∀ {R Q:Type} (args:LA) (h:Ai) (k:KF R) (j:KF Q),
 (∃ T hs,GI P T∧run R N args h k=Sj P muts T hs N f args h k∧run Q N args h j=Sj P muts T hs N f args h j)∨(run R N args h k=none∧run Q N args h j=none)
theorem Hi {P:Program} {muts:Nat→List Bool} {T:List (Nat×Tw)} {hs:Hints} {N f:Nat} {args:LA} {h:Ai} {R Q:Type} {k:KF R} {j:KF Q} {a:O R} {b:Option Q} {p:Prop}
  (h1:Sj P muts T hs N f args h k=a) (h2:Sj P muts T hs N f args h j=b) (hT:GI P T):(∃ T hs,GI P T∧a=Sj P muts T hs N f args h k∧b=Sj P muts T hs N f args h j)∨p:=.inl ⟨T,hs,hT,h1.symm,h2.symm⟩
theorem Hj {R Q:Type} {p:Prop}:p∨((none:O R)=none∧(none:Option Q)=none):=.inr ⟨rfl,rfl⟩
def Gz {P:Program} {muts:Nat→List Bool} {N f:Nat} {run:(R:Type)→Nat→LA→Ai→KF R→O R} (H:aA P muts N f run):Tw:=⟨fun {R} args h k=>run R N args h k,fun args h k=>by
 rcases H args h k (fun v h=>some (v,h)) with⟨T,hs,_,e1,e2⟩ | ⟨e1,e2⟩
 ·rw[e1,e2];exact RO ..
 ·rw[e1,e2];rfl⟩
theorem bO {P:Program} {muts:Nat→List Bool} {N f:Nat} {run:(R:Type)→Nat→LA→Ai→KF R→O R} (H:aA P muts N f run) (hm:P.follows .mixedOrders=true):UN P f (Gz H):=by
 intro args h res h' hh
 change run _ N args h _=_ at hh
 rcases H args h (fun v h=>some (v,h)) (fun v h=>some (v,h)) with⟨T,hs,hT,e1,_⟩ | ⟨e1,_⟩
 ·rw[e1] at hh;exact PE hT hm hh
 ·rw[e1] at hh;cases hh
theorem He {α δ:Type} (f:α→δ) {a a':α} (h1:a=a'):f a=f a':=by rw[h1]
theorem PH {α β δ:Type} (f:α→β→δ) {a a':α} {b b':β} (h1:a=a') (h2:b=b'):f a b=f a' b':=by rw[h1,h2]
theorem bK {α β γ δ:Type} (f:α→β→γ→δ) {a a':α} {b b':β} {c c':γ} (h1:a=a') (h2:b=b') (h3:c=c'):f a b c=f a' b' c':=by rw[h1,h2,h3]
end Gx

namespace Gx
open Go Go.RowKit
theorem AP {P:Program} {f:Nat} {t:Tw} (hok:UN P f t) {W:World} {avs:LA} {vs:List Value} (hr:Reps (fun _ k=>k<W.heap.size) (fun _=>none) [] W avs vs)
  (hrun:(t.runK avs [] fun v h=>some (v,h))=some (.bool true,[])) (hgl:GlobOk (fun _ k=>k<W.heap.size) W):Calls P f vs.toArray W fun e w'=>e=.returned (.bool true)∧Below W.heap.size W w':=by
 have S:SimH (fun _ k=>k<W.heap.size) (fun _=>none) [] W:=⟨fun _ _ h=>h,fun _ h=>h,hgl,fun b x hb=>by simp[Ad] at hb,fun b x hb=>by simp[Ad] at hb,fun b b' x x' k hb=>by simp[Ad] at hb⟩
 refine Calls.mono (hok avs [] _ _ hrun _ _ W vs S hr) ?_
 rintro e w' ⟨vc,J',β',rfl,F,hv⟩
 rw[Rep] at hv;subst hv
 refine⟨rfl,F.os,F.tape,F.output,F.size,fun k hk=>F.frame k hk ?_⟩
 rintro⟨b,x,hb,_⟩
 change Ad [] b=some x at hb
 simp[Ad] at hb
structure Opens (P:Program) (t:TypeId) {α:Type} (e:α→List AV) (n:Nat):Prop where
 size:P.cellsOf t=n
 pos:0<n
 len:∀ a,(e a).length=n
 read:∀ {H:Type} (enc:TypeId×Value→H) (W:World) (fuel:Nat) (cs:List Value) (d:DataW H) (ps:List MemPlace),DataW.trod enc P W 0 (fun _=>true) true fuel t cs=some (d,ps) →
  cs.length=n∧∃ a,RepCs (fun k=>k<W.heap.size) W (e a) (fun j=>cs[j]?) 0
theorem UO {P:Program} {t:TypeId} {k:IntKind} (hu:P.underlying t=some (.int k)) (hc:P.cellsOf t=1):Opens P t (α:={ n:Int // (Lit.int k n).wf=true }) (fun n=>[.int k n.1]) 1:=by
 refine⟨hc,by omega,fun _=>rfl,fun enc W fuel cs d ps h=>?_⟩
 obtain⟨n,rfl,_,hw⟩:=DataW.trod_int hu h
 exact⟨rfl,⟨n,hw⟩,by simp[RepCs,RepC]⟩
theorem CF {α β:Type} {e:α→List β} {n:Nat} (hn:0<n) (he:∀ a,(e a).length=n):∀ (l:List α) (j:Nat),(l.flatMap e)[j]?=(l[j/n]?).bind fun a=>(e a)[j%n]?
 | [],j=>by simp
 | a::r,j=>by
  rw[List.flatMap_cons]
  by_cases hj:j<n
  ·rw[List.getElem?_append_left (by rw[he];exact hj),Nat.div_eq_of_lt hj,Nat.mod_eq_of_lt hj];simp
  ·rw[List.getElem?_append_right (by rw[he];omega),he,CF hn he r (j - n)]
   have h1:j/n=(j - n)/n+1:=by
    have:=Nat.add_div_right (j - n) hn
    rw[show j - n+n=j by omega] at this;exact this
   have h2:j%n=(j - n)%n:=by
    have:=Nat.add_mod_right (j - n) n
    rw[show j - n+n=j by omega] at this;exact this
   rw[h1,h2];simp
theorem CG {α β:Type} {e:α→List β} {n:Nat} (he:∀ a,(e a).length=n):∀ (l:List α),(l.flatMap e).length=l.length*n
 | []=>by simp
 | a::r=>by rw[List.flatMap_cons,List.length_append,he,CG he r,List.length_cons,Nat.succ_mul];omega
theorem PI {α β:Type} {f:α→Option β}:∀ {l:List α} {r:List β},l.mapM f=some r→r.length=l.length∧∀ (i:Nat) (a:α),l[i]?=some a→f a=r[i]?
 | [],r,h=>by simp at h;subst h;simp
 | x::l,r,h=>by
  rw[List.mapM_cons] at h
  cases hx:f x with
  | none=>simp[hx] at h
  | some y =>
   cases hl:l.mapM f with
   | none=>simp[hx,hl] at h
   | some ys =>
    simp[hx,hl] at h
    subst h
    obtain⟨h1,h2⟩:=PI hl
    refine⟨by simp[h1],fun i a hi=>?_⟩
    cases i with
    | zero=>simp at hi;subst hi;simpa using hx
    | succ i=>simpa using h2 i a (by simpa using hi)
theorem PJ {P:Program} {t el:TypeId} {α:Type} {e:α→LA} {n:Nat} (hu:P.underlying t=some (.slice el)) (hc:P.cellsOf t=1) (he:Opens P el e n) :
  Opens P t (α:={ l:List α // l.length≤maxLen }) (fun l=>[.imm (l.1.flatMap e) l.1.length n false false]) 1:=by
 refine⟨hc,by omega,fun _=>rfl,fun enc W fuel cs d ps h=>?_⟩
 cases fuel with
 | zero=>simp[DataW.trod] at h
 | succ fuel =>
  unfold DataW.trod at h
  simp only[hu] at h
  split at h
  all_goals first | (rename_i hx;simp at hx;done) | (rename_i hx _;simp at hx;done) | (rename_i hx _ _;simp at hx;done) | skip
  ·refine⟨rfl,⟨[],by simp⟩,?_⟩
   simp[RepCs,RepC]
  ·rename_i e' a len cap hx
   simp at hx;subst hx
   split at h
   ·rename_i hcond
    obtain⟨hb,hlc,hcm⟩:=hcond
    refine⟨rfl,?_⟩
    cases hm:(List.range len).mapM (fun i=>(W.cells? 0 (a.add (i*P.cellsOf el)) (P.cellsOf el)).bind (DataW.trod enc P W 0 (fun _=>true) true fuel el)) with
    | none=>rw[hm] at h;simp at h
    | some JN =>
     obtain⟨h1,h2⟩:=PI hm
     rw[he.size] at h2
     have each:∀ i:Nat,i<len→∃ x:α,∃ cs,W.cells? 0 (a.add (i*n)) n=some cs∧RepCs (fun k=>k<W.heap.size) W (e x) (fun j=>cs[j]?) 0:=by
      intro i hi
      have h3:=h2 i i (by simp[hi])
      rw[List.getElem?_eq_getElem (by rw[h1];simpa using hi)] at h3
      cases hcs:W.cells? 0 (a.add (i*n)) n with
      | none=>rw[hcs] at h3;simp at h3
      | some cs =>
       rw[hcs] at h3
       obtain⟨_,x,hx⟩:=he.read enc W fuel cs _ _ h3
       exact⟨x,cs,rfl,hx⟩
     have build:∀ m,m≤len→∃ l:List α,l.length=m∧∀ i x,l[i]?=some x→∃ cs,W.cells? 0 (a.add (i*n)) n=some cs∧RepCs (fun k=>k<W.heap.size) W (e x) (fun j=>cs[j]?) 0:=by
      intro m
      induction m with
      | zero=>intro _;exact⟨[],rfl,by simp⟩
      | succ m ih =>
       intro hm
       obtain⟨l,hl,hl2⟩:=ih (by omega)
       obtain⟨x,cs,hx1,hx2⟩:=each m (by omega)
       refine⟨l++[x],by simp[hl],fun i y hy=>?_⟩
       rw[List.getElem?_append] at hy
       split at hy
       ·exact hl2 i y hy
       ·have:i=m:=by
         have:=(List.getElem?_eq_some_iff.1 hy).1
         simp at this;omega
        subst this
        simp[hl] at hy;subst hy
        exact⟨cs,hx1,hx2⟩
     obtain⟨l,hl,hl2⟩:=build len (Nat.le_refl _)
     refine⟨⟨l,by omega⟩,?_⟩
     simp only[RepCs,RepC,and_true]
     refine⟨_,rfl,?_,some a,cap,by rw[hl],by omega,by simp,?_⟩
     ·exact CG he.len l
     ·by_cases h0:l.length=0
      ·exact .inl h0
      ·right
       refine⟨a,rfl,?_,?_⟩
       ·obtain⟨x,cs,hx,_⟩:=each 0 (by omega)
        have:=World.cells?_block hx he.pos
        rwa [Js] at this
       ·rw[Ay]
        intro j x hj
        rw[CF he.pos he.len] at hj
        cases hq:l[j/n]? with
        | none=>rw[hq] at hj;simp at hj
        | some y =>
         rw[hq] at hj
         simp at hj
         obtain⟨cs,hcs,hrep⟩:=hl2 (j/n) y hq
         rw[Ay] at hrep
         obtain⟨u,hu1,hu2⟩:=hrep (j%n) x hj
         refine⟨u,?_,hu2⟩
         obtain⟨_,hlen,hcell⟩:=World.cells?_some hcs
         have hlt:j%n<n:=Nat.mod_lt _ he.pos
         have:=hcell (j%n) hlt
         rw[Addr.add_add,show j/n*n+j%n=j by rw[Nat.mul_comm];exact Nat.div_add_mod j n] at this
         simp only[Nat.zero_add] at hu1 ⊢
         rw[this];exact hu1
   ·simp at h
  ·simp at h
end Gx

namespace Gx
open Go Go.RowKit
theorem WK {J:Bool→Nat→Prop} {β:Au} {h:Ai} {w:World} {x:AV} {vs:List Value} (H:Reps J β h w [x] vs):∃ u,vs=[u]∧Rep J β h w x u:=by
 rw[Reps] at H
 obtain⟨u,us,rfl,h1,h2⟩:=H
 rw[Reps] at h2;subst h2
 exact⟨u,rfl,h1⟩
theorem PK {J:Bool→Nat→Prop} {β:Au} {h:Ai} {w:World} {x y:AV} {vs:List Value} (H:Reps J β h w [x,y] vs):∃ u v,vs=[u,v]∧Rep J β h w x u∧Rep J β h w y v:=by
 rw[Reps] at H
 obtain⟨u,us,rfl,h1,h2⟩:=H
 obtain⟨v,rfl,h3⟩:=WK h2
 exact⟨u,v,rfl,h1,h3⟩
end Gx

namespace Gx
open Go Go.Proofs
open IntKind (wrap)
set_option maxRecDepth 100000
noncomputable section
variable {R:Type} (N:Nat)
def muts:Nat→List Bool:=YH [(10,[true,false]),(23,[true,false,false]),(24,[true,false]),(33,[true,false]),(40,[true]),(41,[true,false,false]),(43,[true]),(49,[true]),(52,[true,false]),(54,[true,false]),(56,[true,false]),(112,[true]),(113,[false,false,true]),(114,[false,false,false,false,true]),(120,[false,false,false,true])]
def GP {R:Type}:=@bW R Try.prog muts
abbrev Xf {R:Type}:=@Sj R Try.prog muts
abbrev C8:=@aA Try.prog muts
theorem follows:Try.prog.follows .mixedOrders=true:=by kernel_rfl
theorem Xg {N f:Nat} {run:(R:Type)→Nat→LA→Ai→KF R→O R} (H:C8 N f run):UN Try.prog f (Gz H):=bO H follows
def GQ:Hints:={ H:=hL }
def YI:Hints:={ H:=(hS hL (hS hL (hS (hS hL (hS (hP [0,1,5] hL) hL)) hL))) }
end
end Gx

namespace Gx
open Go Go.Proofs
open IntKind (wrap)
set_option maxRecDepth 100000
noncomputable section
variable {R:Type} (N:Nat)
def Mw (N:Nat) (b:Int) (r0:Bool→O R):O R :=
 (r0 (b != b))
def Hk:=(Bx (@Mw R)).1
theorem N6:@Hk R=@Mw R:=(Bx _).2
def Ps (F:KF R):Bool→O R:=(fun c=>F (.bool c) [])
theorem Pt (b:Int) (F:KF R):Xf [] GQ N 77 [(iv b)] [] F=(Hk N b (Ps F)):=by
 rw[N6]
 kernel_rfl
def N7 (a:LA) (h:Ai) (k:KF R):O R :=
 match a,h with
 | [(.int .i64 b)],[]=>(Hk N b (Ps k))
 | _,_=>none
theorem Pu:C8 N 77 @N7:=by
 intro R Q a h k j;unfold N7;split;exact Hi (Pt ..) (Pt ..) trivial;exact Hj
def AQ:=Gz (Pu N)
def AR:=Xg (Pu N)
def Ot (b c:Int) (r0:Bool→O R):O R :=
 (Hk N b (fun d=>(cond (d==true) (Hk N c (fun e=>(cond ((cond true (!e) false)==false) (r0 (cond false true (decide (b<c)))) (r0 true)))) (r0 (cond false true (decide (b<c)))))))
def Iv:=(Bx (@Ot R)).1
theorem Pv:@Iv R=@Ot R:=(Bx _).2
def GS:MK:=[(77,AQ N)]
def Ss (F:KF R):Bool→O R:=(fun f=>F (.bool f) [])
theorem Su (b c:Int) (F:KF R):Xf (GS N) GQ N 66 [(iv b),(iv c)] [] F=(Iv N b c (Ss F)):=by
 rw[Pv]
 kernel_rfl
def Pw (a:LA) (h:Ai) (k:KF R):O R :=
 match a,h with
 | [(.int .i64 b),(.int .i64 c)],[]=>(Iv N b c (Ss k))
 | _,_=>none
theorem Sv:C8 N 66 @Pw:=by
 intro R Q a h k j;unfold Pw;split;exact Hi (Su ..) (Su ..) ⟨AR N,trivial⟩;exact Hj
def DB:=Gz (Sv N)
def DC:=Xg (Sv N)
end
end Gx

namespace Gx
open Go Go.Proofs
open IntKind (wrap)
set_option maxRecDepth 100000
noncomputable section
variable {R:Type} (N:Nat)
def TG (N:Nat) (b:LA) (c:Nat) (d e:Bool) (r0:O R):O R :=
 r0
def Ru:=(Bx (@TG R)).1
theorem GT:@Ru R=@TG R:=(Bx _).2
def KL (b:LA) (c:Nat) (d e:Bool) (F:KF R):O R:=F (op 0) (hq [(bN 0 [(.imm b c 1 d e),(iv 0)])])
theorem KM (b:LA) (c:Nat) (d e:Bool) (F:KF R):Xf [] GQ N 9 [(.imm b c 1 d e)] [] F=(Ru N b c d e (KL b c d e F)):=by
 rw[GT]
 kernel_rfl
def GU (a:LA) (h:Ai) (k:KF R):O R :=
 match a,h with
 | [(.imm b c 1 d e)],[]=>(Ru N b c d e (KL b c d e k))
 | _,_=>none
theorem KN:C8 N 9 @GU:=by
 intro R Q a h k j;unfold GU;split;exact Hi (KM ..) (KM ..) trivial;exact Hj
def Wp:=Gz (KN N)
def Wq:=Xg (KN N)
def ML (N:Nat) (c b:Int) (r0:Int→O R):O R :=
 (cond ((wrap .u64 b)==0) none (r0 (wrap .i64 (Int.tmod (wrap .u64 c) (wrap .u64 b)))))
def MM:=(Bx (@ML R)).1
theorem GV:@MM R=@ML R:=(Bx _).2
def KO (F:KF R):Int→O R:=(fun d=>F (iv d) [])
theorem KP (c b:Int) (F:KF R):Xf [] GQ N 18 [(iv c),(iv b)] [] F=(MM N c b (KO F)):=by
 rw[GV]
 kernel_rfl
def GW (a:LA) (h:Ai) (k:KF R):O R :=
 match a,h with
 | [(.int .i64 c),(.int .i64 b)],[]=>(MM N c b (KO k))
 | _,_=>none
theorem KQ:C8 N 18 @GW:=by
 intro R Q a h k j;unfold GW;split;exact Hi (KP ..) (KP ..) trivial;exact Hj
def UP:=Gz (KQ N)
def UQ:=Xg (KQ N)
def Kp (g:Int) (c:LA) (b:Nat) (e f:Bool) (d:Int) (r0:Int→Int→O R):O R :=
 (cond (decide (d≥((b:Nat):Int))) (r0 0 d) (cond (Af (wrap .i64 ((wrap .i64 (d+1)) - 1)) b) (Ko .i64 (c.drop (((wrap .i64 ((wrap .i64 (d+1)) - 1)).toNat)*1)) fun i=>(MM N i g (fun l=>(r0 l (wrap .i64 (d+1)))))) none))
def Dd:=(Bx (@Kp R)).1
theorem Jx:@Dd R=@Kp R:=(Bx _).2
def GX:MK:=[(18,UP N)]
def Sw (c:LA) (b:Nat) (e f:Bool) (F:KF R):Int→Int→O R:=(fun m n=>F (iv m) [(100000,(bN 0 [(.imm c b 1 e f),(iv n)]))])
theorem Sx (g:Int) (c:LA) (b:Nat) (e f:Bool) (d:Int) (F:KF R):Xf (GX N) GQ N 24 [(.optr 100000 0),(iv g)] [(100000,(bN 0 [(.imm c b 1 e f),(iv d)]))] F=(Dd N g c b e f d (Sw c b e f F)):=by
 rw[Jx]
 kernel_rfl
def Px (a:LA) (h:Ai) (k:KF R):O R :=
 match a,h with
 | [(.optr 100000 0),(.int .i64 g)],[(100000,⟨false,false,false,false,0,[(.imm c b 1 e f),(.int .i64 d)],false,none,0,0⟩)]=>(Dd N g c b e f d (Sw c b e f k))
 | _,_=>none
theorem Sy:C8 N 24 @Px:=by
 intro R Q a h k j;unfold Px;split;exact Hi (Sx ..) (Sx ..) ⟨UQ N,trivial⟩;exact Hj
def Sz:=Gz (Sy N)
def S3:=Xg (Sy N)
def Hv (N:Nat) (r0:LA→Nat→Bool→O R) (d:LA) (c:Nat) (g e:Bool) (f b:Int):O R :=
 (cond ((decide ((0:Int)≤(0:Int)))&&((decide (0≤b))&&((decide (b≤((c:Nat):Int)))&&(decide (((c:Nat):Int)≤((c:Nat):Int)))))) (cond ((!e)||(Cr (d.take ((b.toNat)*1)))) (cond ((Nat.ble (0+(b.toNat)) 140737488355328)&&(Nat.ble ((0+(b.toNat))*8) 140737488355328)) (cond ((Nat.ble ((0+(b.toNat))+1) 140737488355328)&&(Nat.ble (((0+(b.toNat))+1)*8) 140737488355328)) (cond ((decide (0≤b))&&((decide (b≤((c:Nat):Int)))&&((decide (((c:Nat):Int)≤((c:Nat):Int)))&&(decide (((c:Nat):Int)≤((c:Nat):Int)))))) (cond ((!e)||(Cr ((d.drop ((b.toNat)*1)).take ((c - (b.toNat))*1)))) (cond ((Nat.ble (((0+(b.toNat))+1)+(c - (b.toNat))) 140737488355328)&&(Nat.ble ((((0+(b.toNat))+1)+(c - (b.toNat)))*8) 140737488355328)) (r0 (List.take ((((0+(b.toNat))+1)+(c - (b.toNat)))*1) ((List.take (((0+(b.toNat))+1)*1) (((d.take ((b.toNat)*1)).take ((0+(b.toNat))*1))++[(.int .i64 f)]))++((d.drop ((b.toNat)*1)).take ((c - (b.toNat))*1)))) (((0+(b.toNat))+1)+(c - (b.toNat))) false) none) none) none) none) none) none) none)
def Jy (N:Nat) (r0:LA→Nat→Bool→O R) (d:LA) (c:Nat) (g e:Bool) (f:Int) (k0:Int→O R) (q1:O R) (b:Int):O R :=
 (cond ((decide (b<((c:Nat):Int)))==true) (cond (Af b c) (Ko .i64 (d.drop ((b.toNat)*1)) fun i=>(cond (cond true (decide (i<f)) false) (k0 (wrap .i64 (b+1))) (cond ((decide (b<((c:Nat):Int)))==true) (cond (Af b c) (Ko .i64 (d.drop ((b.toNat)*1)) fun l=>(cond (cond true (l==f) false) (r0 d c e) q1)) none) q1))) none) (cond ((decide (b<((c:Nat):Int)))==true) (cond (Af b c) (Ko .i64 (d.drop ((b.toNat)*1)) fun m=>(cond (cond true (m==f) false) (r0 d c e) q1)) none) q1))
def D3 (r0:LA→Nat→Bool→O R) (d:LA) (c:Nat) (g e:Bool) (f:Int):Nat→Int→O R
 | 0,_=>none
 | n+1,b=>(Jy N r0 d c g e f (D3 r0 d c g e f n) (Hv N r0 d c g e f b) b)
def Kq (N:Nat) (r0:LA→Nat→Bool→O R) (q0:Int→O R) (d:LA) (c:Nat) (g e:Bool) (f:Int):O R :=
 (q0 0)
def Ed:=(Bx (fun (N:Nat) (d:LA) (c:Nat) (g e:Bool) (f:Int) (r0:LA→Nat→Bool→O R)=>(Kq N r0 (fun b=>(D3 N r0 d c g e f N b)) d c g e f))).1
theorem Py (d c g e f r0):(@Ed R N d c g e f r0)=(Kq N r0 (fun b=>(D3 N r0 d c g e f N b)) d c g e f):=by rw[Ed,(Bx _).2]
def S4:Hints:={ H:=(hS hL (hS hL (hS (hS (hP [0,1,5] hL) hL) (hJ [0,1,5] hL hL)))),nils:=[(4,1)],modes:=[(1,1)] }
def S5 (F:KF R):=GP Try.f13 S4 [] [] N F
def D4 (F:KF R):LA→Nat→Bool→O R:=(fun o p q=>F (.imm o p 1 false q) [])
def DD (d:LA) (c:Nat) (g e:Bool) (f b:Int):St:=⟨[(0,(.imm d c 1 g e)),(1,(iv f)),(5,(iv b))],[]⟩
def DE (F:KF R):=S5 N F [1,1,1,1] []
def DF (d:LA) (c:Nat) (g e:Bool) (f b:Int):St:=⟨[(0,(.imm d c 1 g e)),(1,(iv f)),(5,(iv b))],[]⟩
def DG (F:KF R):=S5 N F [1,1,0,0] []
theorem X9 (F:KF R) (d:LA) (c:Nat) (g e:Bool) (f b:Int):X8 (DE N F) (DD d c g e f b)=(Hv N (D4 F) d c g e f b):=by
 kernel_rfl
theorem Mx (F:KF R) (d:LA) (c:Nat) (g e:Bool) (f:Int):∀ (n:Nat) (b:Int),Ar (DG N F) n (DF d c g e f b)=(D3 N (D4 F) d c g e f n b)
 | 0,_=>by kernel_rfl
 | n+1,b=>Eq.trans (by kernel_rfl) (PH (Jy N (D4 F) d c g e f · · b) (funext fun b=>(Mx F d c g e f n b)) ((Mh ..).trans (X9 N F d c g e f b)):_)
theorem S6 (d:LA) (c:Nat) (g e:Bool) (f:Int) (F:KF R):Xf [] S4 N 13 [(.imm d c 1 g e),(iv f)] [] F=(Ed N d c g e f (D4 F)):=by
 rw[Py]
 exact Eq.trans (by kernel_rfl) (He (Kq N (D4 F) · d c g e f) (funext fun b=>(Ao ..).trans (Mx N F d c g e f N b)):_)
def Pz (a:LA) (h:Ai) (k:KF R):O R :=
 match a,h with
 | [(.imm d c 1 g e),(.int .i64 f)],[]=>(Ed N d c g e f (D4 k))
 | _,_=>none
theorem S7:C8 N 13 @Pz:=by
 intro R Q a h k j;unfold Pz;split;exact Hi (S6 ..) (S6 ..) trivial;exact Hj
def S8:=Gz (S7 N)
def S9:=Xg (S7 N)
def Iw (k0:Nat→Int→Int→Bool→LA→O R) (r0:LA→Nat→Bool→O R) (b:Int) (f:Nat) (l:Int) (c:LA) (d:Nat) (e:Bool) (m:Int) (i:Bool) (g:LA):O R :=
 (Dd N b c d false e m (fun o v=>(Dd N (wrap .i64 (b - 1)) c d false e v (fun q w=>(cond (b==0) none (cond (Af o f) (DA 1 (g.drop (0+((o.toNat)*1))) fun x y=>(Ed N x y false i (Int.tmod (wrap .i64 ((wrap .i64 (o+1))+q)) b) (fun s t r=>(cond (Af (Int.tmod (wrap .i64 ((wrap .i64 (o+1))+q)) b) f) (DA 1 (g.drop (0+(((Int.tmod (wrap .i64 ((wrap .i64 (o+1))+q)) b).toNat)*1))) fun z aa=>(Ed N z aa false i o (fun ab ac u=>(cond (Af o f) (cond ((Nat.beq 1 1)&&((Nat.ble ((0+((o.toNat)*1))+1) (g.length))&&(!false))) (cond (Af (Int.tmod (wrap .i64 ((wrap .i64 (o+1))+q)) b) f) (cond ((Nat.beq 1 1)&&((Nat.ble ((0+(((Int.tmod (wrap .i64 ((wrap .i64 (o+1))+q)) b).toNat)*1))+1) ((g.set (0+((o.toNat)*1)) (.imm s t 1 false r)).length))&&(!false))) (k0 f (wrap .i64 (l - 1)) w ((i||(r||false))||(u||false)) ((g.set (0+((o.toNat)*1)) (.imm s t 1 false r)).set (0+(((Int.tmod (wrap .i64 ((wrap .i64 (o+1))+q)) b).toNat)*1)) (.imm ab ac 1 false u))) none) none) none) none)))) none)))) none))))))
def Fl (N:Nat) (r0:LA→Nat→Bool→O R) (b:Int) (c:LA) (d:Nat) (e:Bool) (k0:Nat→Int→Int→Bool→LA→O R) (q1:O R) (f:Nat) (l m:Int) (i:Bool) (g:LA):O R :=
 (cond ((decide (l>0))==true) (cond (cond true (decide (b>1)) false) q1 (r0 (g.take (f*1)) f i)) (r0 (g.take (f*1)) f i))
def Cg (r0:LA→Nat→Bool→O R) (b:Int) (c:LA) (d:Nat) (e:Bool):Nat→Nat→Int→Int→Bool→LA→O R
 | 0,_,_,_,_,_=>none
 | n+1,f,l,m,i,g=>(Fl N r0 b c d e (Cg r0 b c d e n) (Iw N (Cg r0 b c d e n) r0 b f l c d e m i g) f l m i g)
def L3 (r0:LA→Nat→Bool→O R) (q0:Int→Nat→Int→Int→Bool→LA→O R) (c:LA) (d:Nat) (p e:Bool):O R :=
 (Ru N c d false e (Dd N 10 c d false e 0 (fun b ad=>(cond ((decide (0≤b))&&((decide (b≤b))&&((decide (b≤140737488355328))&&(decide ((b*((24:Nat):Int))≤140737488355328))))) (Dd N 20 c d false e ad (fun ae af=>(q0 b (b.toNat) ae af false (List.replicate (b.toNat) .nsl)))) none))))
def E5:=(Bx (fun (N:Nat) (c:LA) (d:Nat) (p e:Bool) (r0:LA→Nat→Bool→O R)=>(L3 N r0 (fun b f l m i g=>(Cg N r0 b c d e N f l m i g)) c d p e))).1
theorem Ta (c d p e r0):(@E5 R N c d p e r0)=(L3 N r0 (fun b f l m i g=>(Cg N r0 b c d e N f l m i g)) c d p e):=by rw[E5,(Bx _).2]
def Vc:Hints:={ H:=(hS hL (hS hL (hS hL (hS hL (hS (hS hL (hS (hP [3,4,5,6] (hJ [3,4,5,6] hL hL)) hL)) hL))))),nils:=[(2,1)],modes:=[(1,1)] }
def Xh:MK:=[(9,Wp N),(24,Sz N),(13,S8 N)]
def Vd (F:KF R):=GP Try.f8 Vc (Xh N) [] N F
def Ds (F:KF R):LA→Nat→Bool→O R:=(fun ag ah ai=>F (.imm ag ah 1 false ai) [])
def GY (b:Int) (f:Nat) (l:Int) (c:LA) (d:Nat) (e:Bool) (m:Int) (i:Bool) (g:LA):St:=⟨[(3,(op 0)),(4,(iv b)),(5,(.own 300001 0 f)),(6,(iv l))],(hq [(bN 0 [(.imm c d 1 false e),(iv m)]),(bP i 1 g)])⟩
def GZ (F:KF R) (Q0:St→O R):=Vd N F [1,1,1,1,0,1,0,0,1] [Q0]
def Ve (b:Int) (c:LA) (d:Nat) (e:Bool) (f:Nat) (l m:Int) (i:Bool) (g:LA):St:=⟨[(3,(op 0)),(4,(iv b)),(5,(.own 300001 0 f)),(6,(iv l))],(hq [(bN 0 [(.imm c d 1 false e),(iv m)]),(bP i 1 g)])⟩
def Vf (F:KF R):=Vd N F [1,1,1,1,0,1,0] []
theorem Y8 (Q0:St→O R) (F:KF R) (b:Int) (f:Nat) (l:Int) (c:LA) (d:Nat) (e:Bool) (m:Int) (i:Bool) (g:LA):X8 (GZ N F Q0) (GY b f l c d e m i g)=(Iw N (fun f l m i g=>Q0 (Ve b c d e f l m i g)) (Ds F) b f l c d e m i g):=by
 kernel_rfl
theorem N8 (F:KF R) (b:Int) (c:LA) (d:Nat) (e:Bool):∀ (n f:Nat) (l m:Int) (i:Bool) (g:LA),Ar (Vf N F) n (Ve b c d e f l m i g)=(Cg N (Ds F) b c d e n f l m i g)
 | 0,_,_,_,_,_=>by kernel_rfl
 | n+1,f,l,m,i,g=>have e0:=(funext fun f=>funext fun l=>funext fun m=>funext fun i=>funext fun g=>(N8 F b c d e n f l m i g))
  Eq.trans (by kernel_rfl) (PH (Fl N (Ds F) b c d e · · f l m i g) e0 ((Mh ..).trans ((Y8 N (Ar (Vf N F) n) F b f l c d e m i g).trans (He (Iw N · (Ds F) b f l c d e m i g) e0))):_)
theorem Vg (c:LA) (d:Nat) (p e:Bool) (F:KF R):Xf (Xh N) Vc N 8 [(.imm c d 1 p e)] [] F=(E5 N c d p e (Ds F)):=by
 rw[Ta]
 exact Eq.trans (by kernel_rfl) (He (L3 N (Ds F) · c d p e) (funext fun b=>funext fun f=>funext fun l=>funext fun m=>funext fun i=>funext fun g=>(Ao ..).trans (N8 N F b c d e N f l m i g)):_)
def Tb (a:LA) (h:Ai) (k:KF R):O R :=
 match a,h with
 | [(.imm c d 1 p e)],[]=>(E5 N c d p e (Ds k))
 | _,_=>none
theorem Vh:C8 N 8 @Tb:=by
 intro R Q a h k j;unfold Tb;split;exact Hi (Vg ..) (Vg ..) ⟨Wq N,S3 N,S9 N,trivial⟩;exact Hj
def My:=Gz (Vh N)
def Mz:=Xg (Vh N)
def Ou (N:Nat) (b:Int) (r0:Bool→O R):O R :=
 (r0 (b != b))
def Ix:=(Bx (@Ou R)).1
theorem P0:@Ix R=@Ou R:=(Bx _).2
def Tc (F:KF R):Bool→O R:=(fun c=>F (.bool c) [])
theorem Td (b:Int) (F:KF R):Xf [] GQ N 67 [(iv b)] [] F=(Ix N b (Tc F)):=by
 rw[P0]
 kernel_rfl
def P1 (a:LA) (h:Ai) (k:KF R):O R :=
 match a,h with
 | [(.int .i64 b)],[]=>(Ix N b (Tc k))
 | _,_=>none
theorem Te:C8 N 67 @P1:=by
 intro R Q a h k j;unfold P1;split;exact Hi (Td ..) (Td ..) trivial;exact Hj
def DH:=Gz (Te N)
def DI:=Xg (Te N)
def Cy (r0:Int→Bool→O R) (d:LA) (c:Nat) (f g:Bool) (e:Int) (k0:Int→Int→Int→O R) (l b i:Int):O R :=
 (cond (decide (b<i)) (cond (Af (wrap .i64 (Int.fdiv (wrap .u64 (wrap .i64 (b+i))) (2 ^ 1))) c) (Ko .i64 (d.drop (((wrap .i64 (Int.fdiv (wrap .u64 (wrap .i64 (b+i))) (2 ^ 1))).toNat)*1)) fun m=>(Iv N m e (fun o=>(cond o (k0 l (wrap .i64 ((wrap .i64 (Int.fdiv (wrap .u64 (wrap .i64 (b+i))) (2 ^ 1)))+1)) i) (k0 l b (wrap .i64 (Int.fdiv (wrap .u64 (wrap .i64 (b+i))) (2 ^ 1)))))))) none) (cond ((decide (b<l))==true) (cond (Af b c) (Ko .i64 (d.drop ((b.toNat)*1)) fun p=>(cond ((p==e)==false) (cond (Af b c) (Ko .i64 (d.drop ((b.toNat)*1)) fun q=>(Ix N q (fun r=>(cond (r==true) (Ix N e (fun s=>(r0 b (cond true (cond false true (cond true s false)) false)))) (r0 b false))))) none) (r0 b true))) none) (r0 b false)))
def A5 (r0:Int→Bool→O R) (d:LA) (c:Nat) (f g:Bool) (e:Int):Nat→Int→Int→Int→O R
 | 0,_,_,_=>none
 | n+1,l,b,i=>(Cy N r0 d c f g e (A5 r0 d c f g e n) l b i)
def Cm (N:Nat) (r0:Int→Bool→O R) (q0:Int→Int→Int→O R) (d:LA) (c:Nat) (f g:Bool) (e:Int):O R :=
 (q0 ((c:Nat):Int) 0 ((c:Nat):Int))
def Bh:=(Bx (fun (N:Nat) (d:LA) (c:Nat) (f g:Bool) (e:Int) (r0:Int→Bool→O R)=>(Cm N r0 (fun l b i=>(A5 N r0 d c f g e N l b i)) d c f g e))).1
theorem Fm (d c f g e r0):(@Bh R N d c f g e r0)=(Cm N r0 (fun l b i=>(A5 N r0 d c f g e N l b i)) d c f g e):=by rw[Bh,(Bx _).2]
def F1:Hints:={ H:=(hS hL (hS hL (hS hL (hS (hS (hP [0,1,6,7,8] hL) hL) hL)))) }
def F7:MK:=[(66,DB N),(67,DH N)]
def L4 (F:KF R):=GP Try.f51 F1 (F7 N) [] N F
def Bl (F:KF R):Int→Bool→O R:=(fun t u=>F (.tup [(iv t),(.bool u)]) [])
def L5 (d:LA) (c:Nat) (f g:Bool) (e l b i:Int):St:=⟨[(0,(.imm d c 1 f g)),(1,(iv e)),(6,(iv l)),(7,(iv b)),(8,(iv i))],[]⟩
def L6 (F:KF R):=L4 N F [1,1,1,0,0] []
theorem Ez (F:KF R) (d:LA) (c:Nat) (f g:Bool) (e:Int):∀ (n:Nat) (l b i:Int),Ar (L6 N F) n (L5 d c f g e l b i)=(A5 N (Bl F) d c f g e n l b i)
 | 0,_,_,_=>by kernel_rfl
 | n+1,l,b,i=>Eq.trans (by kernel_rfl) (He (Cy N (Bl F) d c f g e · l b i) (funext fun l=>funext fun b=>funext fun i=>(Ez F d c f g e n l b i)):_)
theorem F2 (d:LA) (c:Nat) (f g:Bool) (e:Int) (F:KF R):Xf (F7 N) F1 N 51 [(.imm d c 1 f g),(iv e)] [] F=(Bh N d c f g e (Bl F)):=by
 rw[Fm]
 exact Eq.trans (by kernel_rfl) (He (Cm N (Bl F) · d c f g e) (funext fun l=>funext fun b=>funext fun i=>(Ao ..).trans (Ez N F d c f g e N l b i)):_)
def Fn (a:LA) (h:Ai) (k:KF R):O R :=
 match a,h with
 | [(.imm d c 1 f g),(.int .i64 e)],[]=>(Bh N d c f g e (Bl k))
 | _,_=>none
theorem F3:C8 N 51 @Fn:=by
 intro R Q a h k j;unfold Fn;split;exact Hi (F2 ..) (F2 ..) ⟨DC N,DI N,trivial⟩;exact Hj
def L7:=Gz (F3 N)
def L8:=Xg (F3 N)
def Rv (N:Nat) (k0:Int→Int→O R) (r0:Bool→O R) (d:LA) (b:Nat) (e c:Bool) (p:LA) (o:Nat) (f:Int) (k1:Int→Int→Int→Int→O R) (r s t l:Int):O R :=
 (cond (decide (l<t)) (cond (Af l o) (Ko .i64 (p.drop ((l.toNat)*1)) fun z=>(cond ((decide (z<0))==false) (cond ((cond false true (decide (z≥((b:Nat):Int))))==false) (cond ((cond false true (z==r))==false) (cond ((decide (l>0))==true) (cond (Af (wrap .i64 (l - 1)) o) (Ko .i64 (p.drop (((wrap .i64 (l - 1)).toNat)*1)) fun ab=>(cond (cond false true (cond true (decide (ab≥z)) false)) (r0 false) (k1 r s t (wrap .i64 (l+1))))) none) (k1 r s t (wrap .i64 (l+1)))) (r0 false)) (r0 false)) (r0 false))) none) (k0 f (wrap .i64 (s+1))))
def Ia (k0:Int→Int→O R) (r0:Bool→O R) (d:LA) (b:Nat) (e c:Bool) (p:LA) (o:Nat) (f:Int):Nat→Int→Int→Int→Int→O R
 | 0,_,_,_,_=>none
 | n+1,r,s,t,l=>(Rv N k0 r0 d b e c p o f (Ia k0 r0 d b e c p o f n) r s t l)
def Rw (k2:Int→Int→O R) (r0:Bool→O R) (d:LA) (b:Nat) (e c:Bool) (g:Int) (v:LA) (u:Nat) (k3:Int→Int→Int→Int→O R) (w x y q:Int):O R :=
 (cond (decide (q<y)) (cond (Af q u) (Ko .i64 (v.drop ((q.toNat)*1)) fun aa=>(cond (Af aa b) (DA 1 (d.drop ((aa.toNat)*1)) fun ac ad=>(Bh N ac ad false c w (fun ag ae=>(cond (!ae) (r0 false) (k3 w x y (wrap .i64 (q+1))))))) none)) none) (k2 g (wrap .i64 (x+1))))
def Ib (k2:Int→Int→O R) (r0:Bool→O R) (d:LA) (b:Nat) (e c:Bool) (g:Int) (v:LA) (u:Nat):Nat→Int→Int→Int→Int→O R
 | 0,_,_,_,_=>none
 | n+1,w,x,y,q=>(Rw N k2 r0 d b e c g v u (Ib k2 r0 d b e c g v u n) w x y q)
def Rx (N:Nat) (r0:Bool→O R) (d:LA) (b:Nat) (e c:Bool) (k2:Int→Int→O R) (q3:LA→Nat→Int→Int→Int→Int→O R) (g m:Int):O R :=
 (cond (decide (m<g)) (cond (Af m b) (DA 1 (d.drop ((m.toNat)*1)) fun v u=>(q3 v u m m ((u:Nat):Int) 0)) none) (r0 true))
def F8 (r0:Bool→O R) (d:LA) (b:Nat) (e c:Bool):Nat→Int→Int→O R
 | 0,_,_=>none
 | n+1,g,m=>(Rx N r0 d b e c (F8 r0 d b e c n) (fun v u w x y q=>(Ib N (F8 r0 d b e c n) r0 d b e c g v u N w x y q)) g m)
def Ry (N:Nat) (r0:Bool→O R) (d:LA) (b:Nat) (e c:Bool) (k0:Int→Int→O R) (q1:LA→Nat→Int→Int→Int→Int→O R) (q2:Int→Int→O R) (f i:Int):O R :=
 (cond (decide (i<f)) (cond (Af i b) (DA 1 (d.drop ((i.toNat)*1)) fun p o=>(q1 p o i i ((o:Nat):Int) 0)) none) (q2 ((b:Nat):Int) 0))
def F9 (r0:Bool→O R) (d:LA) (b:Nat) (e c:Bool):Nat→Int→Int→O R
 | 0,_,_=>none
 | n+1,f,i=>(Ry N r0 d b e c (F9 r0 d b e c n) (fun p o r s t l=>(Ia N (F9 r0 d b e c n) r0 d b e c p o f N r s t l)) (fun g m=>(F8 N r0 d b e c N g m)) f i)
def Wr (N:Nat) (r0:Bool→O R) (q0:Int→Int→O R) (d:LA) (b:Nat) (e c:Bool):O R :=
 (cond (decide (((b:Nat):Int)>16384)) (r0 false) (q0 ((b:Nat):Int) 0))
def Iy:=(Bx (fun (N:Nat) (d:LA) (b:Nat) (e c:Bool) (r0:Bool→O R)=>(Wr N r0 (fun f i=>(F9 N r0 d b e c N f i)) d b e c))).1
theorem Y9 (d b e c r0):(@Iy R N d b e c r0)=(Wr N r0 (fun f i=>(F9 N r0 d b e c N f i)) d b e c):=by rw[Iy,(Bx _).2]
def CH:Hints:={ H:=(hS hL (hS hL (hS (hS hL (hS (hP [0,16,17,18] (hS hL (hS hL (hS (hS (hS hL (hS hL (hS (hP [0,3,4,16,17,18,23,24,25] hL) hL))) hL) hL)))) hL)) (hS (hS hL (hS (hP [0,58,59,60] (hS hL (hS hL (hS (hS (hS hL (hS hL (hS (hP [0,7,58,59,60,65,66,67] hL) hL))) hL) hL)))) hL)) hL)))) }
def G_:MK:=[(51,L7 N)]
def N9 (F:KF R):=GP Try.f30 CH (G_ N) [] N F
def B9 (F:KF R):Bool→O R:=(fun af=>F (.bool af) [])
def PL (d:LA) (b:Nat) (e c:Bool) (p:LA) (o:Nat) (f r s t l:Int):St:=⟨[(0,(.imm d b 1 e c)),(3,(iv r)),(4,(.imm p o 1 false c)),(16,(.imm d b 1 e c)),(17,(iv f)),(18,(iv s)),(23,(.imm p o 1 false c)),(24,(iv t)),(25,(iv l))],[]⟩
def PM (F:KF R) (Q0:St→O R):=N9 N F [1,1,0,1,0,0,1,1,0,0,1,1,0] [Q0]
def PN (d:LA) (b:Nat) (e c:Bool) (g:Int) (v:LA) (u:Nat) (w x y q:Int):St:=⟨[(0,(.imm d b 1 e c)),(7,(iv w)),(58,(.imm d b 1 e c)),(59,(iv g)),(60,(iv x)),(65,(.imm v u 1 false c)),(66,(iv y)),(67,(iv q))],[]⟩
def PO (F:KF R) (Q2:St→O R):=N9 N F [1,1,1,0,1,0,0,1,1,0,0,1,1,0] [Q2]
def Vi (d:LA) (b:Nat) (e c:Bool) (g m:Int):St:=⟨[(0,(.imm d b 1 e c)),(58,(.imm d b 1 e c)),(59,(iv g)),(60,(iv m))],[]⟩
def CI (F:KF R):=N9 N F [1,1,1,0,1,0] []
def Vj (d:LA) (b:Nat) (e c:Bool) (f i:Int):St:=⟨[(0,(.imm d b 1 e c)),(16,(.imm d b 1 e c)),(17,(iv f)),(18,(iv i))],[]⟩
def CJ (F:KF R):=N9 N F [1,1,0,1,0] []
theorem Vk (Q0:St→O R) (F:KF R) (d:LA) (b:Nat) (e c:Bool) (p:LA) (o:Nat) (f:Int):∀ (n:Nat) (r s t l:Int),Ar (PM N F Q0) n (PL d b e c p o f r s t l)=(Ia N (fun f i=>Q0 (Vj d b e c f i)) (B9 F) d b e c p o f n r s t l)
 | 0,_,_,_,_=>by kernel_rfl
 | n+1,r,s,t,l=>Eq.trans (by kernel_rfl) (He (Rv N (fun f i=>Q0 (Vj d b e c f i)) (B9 F) d b e c p o f · r s t l) (funext fun r=>funext fun s=>funext fun t=>funext fun l=>(Vk Q0 F d b e c p o f n r s t l)):_)
theorem Vl (Q2:St→O R) (F:KF R) (d:LA) (b:Nat) (e c:Bool) (g:Int) (v:LA) (u:Nat):∀ (n:Nat) (w x y q:Int),Ar (PO N F Q2) n (PN d b e c g v u w x y q)=(Ib N (fun g m=>Q2 (Vi d b e c g m)) (B9 F) d b e c g v u n w x y q)
 | 0,_,_,_,_=>by kernel_rfl
 | n+1,w,x,y,q=>Eq.trans (by kernel_rfl) (He (Rw N (fun g m=>Q2 (Vi d b e c g m)) (B9 F) d b e c g v u · w x y q) (funext fun w=>funext fun x=>funext fun y=>funext fun q=>(Vl Q2 F d b e c g v u n w x y q)):_)
theorem Vm (F:KF R) (d:LA) (b:Nat) (e c:Bool):∀ (n:Nat) (g m:Int),Ar (CI N F) n (Vi d b e c g m)=(F8 N (B9 F) d b e c n g m)
 | 0,_,_=>by kernel_rfl
 | n+1,g,m=>have e0:=(funext fun g=>funext fun m=>(Vm F d b e c n g m))
  Eq.trans (by kernel_rfl) (PH (Rx N (B9 F) d b e c · · g m) e0 (funext fun v=>funext fun u=>funext fun w=>funext fun x=>funext fun y=>funext fun q=>(Ao ..).trans ((Vl N (Ar (CI N F) n) F d b e c g v u N w x y q).trans (He (Ib N · (B9 F) d b e c g v u N w x y q) e0))):_)
theorem Vn (F:KF R) (d:LA) (b:Nat) (e c:Bool):∀ (n:Nat) (f i:Int),Ar (CJ N F) n (Vj d b e c f i)=(F9 N (B9 F) d b e c n f i)
 | 0,_,_=>by kernel_rfl
 | n+1,f,i=>have e0:=(funext fun f=>funext fun i=>(Vn F d b e c n f i))
  Eq.trans (by kernel_rfl) (bK (Ry N (B9 F) d b e c · · · f i) e0 (funext fun p=>funext fun o=>funext fun r=>funext fun s=>funext fun t=>funext fun l=>(Ao ..).trans ((Vk N (Ar (CJ N F) n) F d b e c p o f N r s t l).trans (He (Ia N · (B9 F) d b e c p o f N r s t l) e0))) (funext fun g=>funext fun m=>(Ao ..).trans (Vm N F d b e c N g m)):_)
theorem CK (d:LA) (b:Nat) (e c:Bool) (F:KF R):Xf (G_ N) CH N 30 [(.imm d b 1 e c)] [] F=(Iy N d b e c (B9 F)):=by
 rw[Y9]
 exact Eq.trans (by kernel_rfl) (He (Wr N (B9 F) · d b e c) (funext fun f=>funext fun i=>(Ao ..).trans (Vn N F d b e c N f i)):_)
def Za (a:LA) (h:Ai) (k:KF R):O R :=
 match a,h with
 | [(.imm d b 1 e c)],[]=>(Iy N d b e c (B9 k))
 | _,_=>none
theorem CL:C8 N 30 @Za:=by
 intro R Q a h k j;unfold Za;split;exact Hi (CK ..) (CK ..) ⟨L8 N,trivial⟩;exact Hj
def Oa:=Gz (CL N)
def Ob:=Xg (CL N)
def M0 (N:Nat) (k0:Int→Int→LA→O R) (r0:LA→O R) (b:Nat) (c:LA) (e d:Bool) (f:Int) (q:LA) (o:Nat) (k1:Int→Int→Int→Int→LA→O R) (l r s m:Int) (p:LA):O R :=
 (cond (decide (m<s)) (cond (Af m o) (Ko .i64 (q.drop ((m.toNat)*1)) fun t=>(cond (Af l b) (RP (p.drop (l.toNat)) fun u=>(k1 l r s (wrap .i64 (m+1)) (p.set (l.toNat) (Bo (Q9 u t) 0 0)))) none)) none) (k0 f (wrap .i64 (r+1)) p))
def Fx (k0:Int→Int→LA→O R) (r0:LA→O R) (b:Nat) (c:LA) (e d:Bool) (f:Int) (q:LA) (o:Nat):Nat→Int→Int→Int→Int→LA→O R
 | 0,_,_,_,_,_=>none
 | n+1,l,r,s,m,p=>(M0 N k0 r0 b c e d f q o (Fx k0 r0 b c e d f q o n) l r s m p)
def M1 (N:Nat) (r0:LA→O R) (b:Nat) (c:LA) (e d:Bool) (k0:Int→Int→LA→O R) (q1:LA→Nat→Int→Int→Int→Int→LA→O R) (f g:Int) (i:LA):O R :=
 (cond (decide (g<f)) (cond (Af g b) (DA 1 (c.drop ((g.toNat)*1)) fun q o=>(cond (Af g b) (q1 q o g g ((o:Nat):Int) 0 (i.set (g.toNat) (Bo [] 0 0))) none)) none) (r0 i))
def Di (r0:LA→O R) (b:Nat) (c:LA) (e d:Bool):Nat→Int→Int→LA→O R
 | 0,_,_,_=>none
 | n+1,f,g,i=>(M1 N r0 b c e d (Di r0 b c e d n) (fun q o l r s m p=>(Fx N (Di r0 b c e d n) r0 b c e d f q o N l r s m p)) f g i)
def Oc (N:Nat) (r0:LA→O R) (q0:Int→Int→LA→O R) (c:LA) (b:Nat) (e d:Bool):O R :=
 (cond ((decide (0≤((b:Nat):Int)))&&((decide (((b:Nat):Int)=((b:Nat):Int)))&&((decide (((b:Nat):Int)≤140737488355328))&&(decide ((((b:Nat):Int)*((8:Nat):Int))≤140737488355328))))) (q0 ((b:Nat):Int) 0 (List.replicate b .nsl)) none)
def Fa:=(Bx (fun (N:Nat) (c:LA) (b:Nat) (e d:Bool) (r0:LA→O R)=>(Oc N r0 (fun f g i=>(Di N r0 b c e d N f g i)) c b e d))).1
theorem Vo (c b e d r0):(@Fa R N c b e d r0)=(Oc N r0 (fun f g i=>(Di N r0 b c e d N f g i)) c b e d):=by rw[Fa,(Bx _).2]
def Xi:Hints:={ H:=(hS hL (hS hL (hS (hS hL (hS (hP [3,11,12,13] (hS hL (hS hL (hS (hS (hS hL (hS hL (hS hL (hS (hP [3,4,11,12,13,22,23,24] hL) hL)))) hL) hL)))) hL)) hL))),nils:=[(2,1)],modes:=[(2,1)],cob:=[2000010] }
def Xj (F:KF R):=GP Try.f32 Xi [] [] N F
def Dj (b:Nat) (F:KF R):LA→O R:=(fun v=>F (.nd 300000 (.whole b)) (hq [⟨false,false,true,false,2,v,true,none,0,0⟩]))
def JE (b:Nat) (c:LA) (e d:Bool) (f:Int) (q:LA) (o:Nat) (l r s m:Int) (p:LA):St:=⟨[(3,(.nd 300000 (.whole b))),(4,(iv l)),(11,(.imm c b 1 e d)),(12,(iv f)),(13,(iv r)),(22,(.imm q o 1 false d)),(23,(iv s)),(24,(iv m))],(hq [⟨false,false,true,false,2,p,true,none,0,0⟩])⟩
def JF (F:KF R) (Q0:St→O R):=Xj N F [1,1,0,1,0,0,1,1,0,0,1,1,1,0] [Q0]
def Ov (b:Nat) (c:LA) (e d:Bool) (f g:Int) (i:LA):St:=⟨[(3,(.nd 300000 (.whole b))),(11,(.imm c b 1 e d)),(12,(iv f)),(13,(iv g))],(hq [⟨false,false,true,false,2,i,true,none,0,0⟩])⟩
def Xk (F:KF R):=Xj N F [1,1,0,1,0] []
theorem P2 (Q0:St→O R) (F:KF R) (b:Nat) (c:LA) (e d:Bool) (f:Int) (q:LA) (o:Nat):∀ (n:Nat) (l r s m:Int) (p:LA),Ar (JF N F Q0) n (JE b c e d f q o l r s m p)=(Fx N (fun f g i=>Q0 (Ov b c e d f g i)) (Dj b F) b c e d f q o n l r s m p)
 | 0,_,_,_,_,_=>by kernel_rfl
 | n+1,l,r,s,m,p=>Eq.trans (by kernel_rfl) (He (M0 N (fun f g i=>Q0 (Ov b c e d f g i)) (Dj b F) b c e d f q o · l r s m p) (funext fun l=>funext fun r=>funext fun s=>funext fun m=>funext fun p=>(P2 Q0 F b c e d f q o n l r s m p)):_)
theorem P3 (F:KF R) (b:Nat) (c:LA) (e d:Bool):∀ (n:Nat) (f g:Int) (i:LA),Ar (Xk N F) n (Ov b c e d f g i)=(Di N (Dj b F) b c e d n f g i)
 | 0,_,_,_=>by kernel_rfl
 | n+1,f,g,i=>have e0:=(funext fun f=>funext fun g=>funext fun i=>(P3 F b c e d n f g i))
  Eq.trans (by kernel_rfl) (PH (M1 N (Dj b F) b c e d · · f g i) e0 (funext fun q=>funext fun o=>funext fun l=>funext fun r=>funext fun s=>funext fun m=>funext fun p=>(Ao ..).trans ((P2 N (Ar (Xk N F) n) F b c e d f q o N l r s m p).trans (He (Fx N · (Dj b F) b c e d f q o N l r s m p) e0))):_)
theorem Xl (c:LA) (b:Nat) (e d:Bool) (F:KF R):Xf [] Xi N 32 [(.imm c b 1 e d)] [] F=(Fa N c b e d (Dj b F)):=by
 rw[Vo]
 exact Eq.trans (by kernel_rfl) (He (Oc N (Dj b F) · c b e d) (funext fun f=>funext fun g=>funext fun i=>(Ao ..).trans (P3 N F b c e d N f g i)):_)
def Vp (a:LA) (h:Ai) (k:KF R):O R :=
 match a,h with
 | [(.imm c b 1 e d)],[]=>(Fa N c b e d (Dj b k))
 | _,_=>none
theorem Xm:C8 N 32 @Vp:=by
 intro R Q a h k j;unfold Vp;split;exact Hi (Xl ..) (Xl ..) trivial;exact Hj
def Kr:=Gz (Xm N)
def Ks:=Xg (Xm N)
end
end Gx
