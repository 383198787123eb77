/- A part of the proof: what it holds is said by each theorem. -/
import Derived.Laws.Tables
import Derived.Laws.StructEq
import Derived.ChangeKeysEq
import Derived.ProofKit
import Derived.OpenShut
import Derived.ChangeOld
import Derived.Below
import Derived.IntWalk
import Derived.Lib.LaidTab
import Derived.Test.YtcbkbnhmbpmfjaaProg
import Derived.Test.YtcbkbnhmbpmfjaaP0
set_option linter.unusedVariables false
set_option linter.defProp false
set_option linter.unusedSimpArgs false
namespace Gx
open Go
def Uy (CR:AV→Value→Prop) (c:LA) (cs:List Value):Prop:=c.length=cs.length∧∀ (j:Nat) (x:AV) (u:Value),c[j]?=some x→cs[j]?=some u→CR x u
def PartsRel (CR:AV→Value→Prop):List (Nat×LA)→List (Nat×Value)→Prop
 | [],vs=>vs=[]
 | (i,c)::r,vs=>∃ v vs',vs=(i,v)::vs'∧Uy CR c v.cells.toList∧PartsRel CR r vs'
theorem kc:∀ (vs:List Value) (n off:Nat) (cells:Array Value) (j:Nat),
  ((vs.zipIdx n).foldl (fun (cs:Array Value) (p:Value×Nat)=>cs.setIfInBounds (off+p.2) p.1) cells)[j]?=if off+n≤j∧j<off+n+vs.length∧j<cells.size then vs[j - (off+n)]? else cells[j]?
 | [],n,off,cells,j=>by simp;omega
 | v::r,n,off,cells,j=>by
  rw[List.zipIdx_cons,List.foldl_cons,kc r (n+1) off]
  simp only[Array.size_setIfInBounds,List.length_cons]
  by_cases h1:j=off+n
  ·subst h1
   rw[if_neg (by omega)]
   by_cases h2:off+n<cells.size
   ·rw[if_pos (by omega)];simp[h2]
   ·rw[if_neg (by omega)];simp[h2]
  ·by_cases h2:off+(n+1)≤j∧j<off+(n+1)+r.length∧j<cells.size
   ·rw[if_pos h2,if_pos (by omega),show j - (off+n)=(j - (off+(n+1)))+1 by omega];simp
   ·rw[if_neg h2,if_neg (by omega),Array.getElem?_setIfInBounds_ne (by omega)]
theorem GN:∀ (vs:List Value) (n off:Nat) (cells:Array Value),((vs.zipIdx n).foldl (fun (cs:Array Value) (p:Value×Nat)=>cs.setIfInBounds (off+p.2) p.1) cells).size=cells.size
 | [],_,_,_=>rfl
 | v::r,n,off,cells=>by rw[List.zipIdx_cons,List.foldl_cons,GN r];simp
theorem Sr {CR:AV→Value→Prop} {place:Nat→Option (Nat×Nat)}:∀ {parts:List (Nat×LA)} {vparts:List (Nat×Value)} {c c':LA} {cs:Array Value},PartsRel CR parts vparts→Uy CR c cs.toList →
  Hk place parts c=some c'→∃ cs',Instr.fill place cs vparts=some cs'∧Uy CR c' cs'.toList
 | [],vparts,c,c',cs,hp,hc,hf=>by
  rw[PartsRel] at hp;subst hp
  simp[Hk] at hf;subst hf
  exact⟨cs,rfl,hc⟩
 | (i,vs)::r,vparts,c,c',cs,hp,hc,hf=>by
  rw[PartsRel] at hp
  obtain⟨v,vs',rfl,hv,hr⟩:=hp
  rw[Hk] at hf
  obtain⟨p,hpl,h1⟩:=ub hf
  obtain⟨hb,h2⟩:=uc h1
  simp at hb
  obtain⟨b1,b2⟩:=hb
  have e1:vs.length=v.cells.size:=by have:=hv.1;simpa using this
  have e2:c.length=cs.size:=by have:=hc.1;simpa using this
  have hle:p.1+vs.length≤c.length:=by omega
  have key:Uy CR (setCells c p.1 vs) (v.cells.zipIdx.foldl (fun (cs:Array Value) (q:Value×Nat)=>cs.setIfInBounds (p.1+q.2) q.1) cs).toList:=by
   have hfold:v.cells.zipIdx.foldl (fun (cs:Array Value) (q:Value×Nat)=>cs.setIfInBounds (p.1+q.2) q.1) cs=(v.cells.toList.zipIdx 0).foldl (fun (cs:Array Value) (q:Value×Nat)=>cs.setIfInBounds (p.1+q.2) q.1) cs:=by
    rw[←Array.foldl_toList];simp
   rw[hfold]
   refine⟨by rw[H7 hle,e2];exact(GN _ 0 _ _).symm,fun j x u hx hu=>?_⟩
   rw[Uv hle] at hx
   rw[Array.getElem?_toList,kc] at hu
   simp only[Nat.add_zero,Array.length_toList] at hu
   split at hx
   ·rename_i hj
    rw[if_pos (by omega)] at hu
    exact hv.2 _ x u hx hu
   ·rename_i hj
    rw[if_neg (by omega)] at hu
    exact hc.2 j x u hx (by simpa using hu)
  obtain⟨cs',g1,g2⟩:=Sr hr key h2
  refine⟨cs',?_,g2⟩
  rw[Instr.fill,hpl]
  have:¬ (v.cells.size≠p.2||p.1+v.cells.size>cs.size)=true:=by simp;omega
  simp only[this]
  exact g1
section
variable {R:Type} {r:R} {P:Program} {J J':Bool→Nat→Prop} {β:Aw} {h:Ag} {w w':World} {g:Ar}
def RepParts (J:Bool→Nat→Prop) (β:Aw) (h:Ag) (w:World):List (Nat×AV)→List (Nat×Value)→Prop
 | [],vs=>vs=[]
 | (i,x)::r,vs=>∃ v vs',vs=(i,v)::vs'∧Rep J β h w x v∧RepParts J β h w r vs'
theorem RepParts.ext {β':Aw} {h':Ag} (E:Ext J β h w J' β' h' w'):∀ {ps:List (Nat×AV)} {vs:List (Nat×Value)},RepParts J β h w ps vs→RepParts J' β' h' w' ps vs
 | [],_,hr=>hr
 | (i,x)::r,vs,hr=>by
  rw[RepParts] at hr ⊢
  obtain⟨v,vs',e,h1,h2⟩:=hr
  exact⟨v,vs',e,Rep.ext E h1,RepParts.ext E h2⟩
theorem PartsRel.mono {CR CR':AV→Value→Prop} (hm:∀ x u,CR x u→CR' x u):∀ {ps:List (Nat×LA)} {vs:List (Nat×Value)},PartsRel CR ps vs→PartsRel CR' ps vs
 | [],_,hr=>hr
 | (i,c)::r,vs,hr=>by
  rw[PartsRel] at hr ⊢
  obtain⟨v,vs',e,h1,h2⟩:=hr
  exact⟨v,vs',e,⟨h1.1,fun j x u hx hu=>hm _ _ (h1.2 j x u hx hu)⟩,PartsRel.mono hm h2⟩
theorem Li {J:Nat→Prop} {c:LA} {us:List Value} (hc:RepCs J w c (fun j=>us[j]?) 0) (hl:c.length=us.length):Uy (RepC J w) c us :=
 ⟨hl,fun j x u hx hu=>by
  obtain⟨u',hu',hr⟩:=hc.at hx
  rw[hu] at hu';simp at hu';subst hu';exact hr⟩
theorem CQ {J:Nat→Prop} {c:LA} {us:List Value} (hc:Uy (RepC J w) c us):RepCs J w c (fun j=>us[j]?) 0:=by
 rw[Ay]
 intro j x hx
 have:j<us.length:=by rw[←hc.1];exact(List.getElem?_eq_some_iff.1 hx).1
 exact⟨us[j],by simp[this],hc.2 j x _ hx (List.getElem?_eq_getElem this)⟩
theorem V9:∀ {ps:List (Nat×AV)} {vs:List (Nat×Value)} {q:List (Nat×LA)} {ups:Bo} {org:Bool} {J:Bool→Nat→Prop} {h:Ag},SimH J β h w→LooksS g h→Si g ps=some (q,ups,org)→RepParts J β h w ps vs →
  ∃ J',Step J β h w J' β (Ab ups h) w∧PartsRel (RepC (J' org) w) q vs∧LooksS g (Ab ups h)∧∀ b,Ao ups b=true→∃ x,g b=some x
 | [],vs,q,ups,org,J,h,S,hl,hh,hv=>by
  simp[Si] at hh;obtain⟨rfl,rfl,rfl⟩:=hh
  rw[RepParts] at hv
  exact⟨J,Step.refl S,by rw[PartsRel];exact hv,hl,fun b hb=>by simp[Ao] at hb⟩
 | (i,x)::r,vs,q,ups,org,J,h,S,hl,hh,hv=>by
  rw[Si] at hh
  obtain⟨⟨c1,u1,o1⟩,hp,h1⟩:=ub hh
  obtain⟨⟨q2,u2,o2⟩,hq,h2⟩:=ub h1
  simp at h2
  obtain⟨rfl,rfl,rfl⟩:=h2
  rw[RepParts] at hv
  obtain⟨v,vs',rfl,hv1,hv2⟩:=hv
  obtain⟨J1,A,hA,hlen,hl1⟩:=V8 S hl hp hv1
  obtain⟨J2,B,hB,hl2,hu2⟩:=V9 A.sim hl1 hq (RepParts.ext A.ext hv2)
  refine⟨J2,by rw[Bc];exact A.trans B (fun _ _ _ _=>Nat.le_refl _),?_,by rw[Bc];exact hl2,fun b hb=>?_⟩
  ·rw[PartsRel]
   refine⟨v,vs',rfl,Li (RepCs.keep (J:=J1 o1) (w:=w) (fun k hk=>BB B.sim.jft _ _ k (B.ext.jsub _ k hk)) (fun _ _=>rfl) (fun _=>rfl) hA) hlen,?_⟩
   exact PartsRel.mono (fun x u hx=>RepC.keep (J:=J2 o2) (w:=w) (fun k hk=>TI B.sim.jft _ _ k hk) (fun _ _=>rfl) hx) hB
  ·rw[Em] at hb
   cases h3:Ao u1 b with
   | true=>exact aA hp b h3
   | false=>rw[h3] at hb;exact hu2 b (by simpa using hb)
theorem Ss {place:Nat→Option (Nat×Nat)} {k:LA→O R}:∀ (ps:List (Nat×LA)) (c:LA),SV place ps c k=(Hk place ps c).bind k
 | [],c=>rfl
 | (i,vs)::r,c=>by
  rw[SV,Hk,Option.bind_assoc]
  congr 1;funext p
  rw[Ss r]
  cases (Nat.beq vs.length p.2&&Nat.ble (p.1+p.2) c.length)<;>rfl
theorem GO {d len:Nat} {t:TypeId} {ps:List (Nat×AV)} {vs:List (Nat×Value)} {k:AV→Bo→O R} (S:SimH J β h w) (hl:Looks g h) (hh:Is P g d t len ps k=some r) (hv:RepParts J β h w ps vs) :
  ∃ val ups,k val ups=some r∧(UpsFree d h ups→∃ u w',(Instr.buildSlice t len vs.toArray).run P w=.ok u w'∧OpDone J β h w ups val u w'):=by
 unfold Is at hh
 split at hh
 ·rename_i el hu
  obtain⟨sz,hsz,h1⟩:=ub hh
  obtain⟨zz,hz,h2⟩:=ub h1
  obtain⟨⟨q,u1,o1⟩,hq,h3⟩:=ub h2
  obtain⟨hb,h4⟩:=uc h3
  rw[Ss] at h4
  obtain⟨cells,hc,h5⟩:=ub h4
  simp at hb
  obtain⟨i,z,hi,hiz,rfl,hp,e1,e2⟩:=If hz
  have hs':i.size=sz:=by simp[Az,hi] at hsz;exact hsz
  refine⟨_,_,h5,fun hn=>?_⟩
  replace hn:=hn.nid (by simp[Em,Jf,Ao])
  obtain⟨J1,A,hA,_,hups⟩:=V9 S hl.s hq hv
  have hz0:=Oi (w:=w) (J:=J1 o1) hp len (len*sz) (by rw[e1,hs'];exact Nat.le_refl _)
  have hz1:Uy (RepC (J1 o1) w) (B4 len (Fr z.cells.toList)) (madeCells z.cells (len*sz)).toList:=by
   refine Li (RepCs.keep (J:=J1 o1) (w:=w) (fun _ hk=>hk) (fun _ _=>rfl) (fun j=>by simp) hz0) ?_
   rw[Cj,e2,hs',Array.length_toList,size_madeCells]
  obtain⟨cs',f1,f2⟩:=Sr hA hz1 hc
  have hlen:cells.length=len*sz:=by
   have:∀ {ps:List (Nat×LA)} {c c':LA},Hk (fun i=>some (i*sz,sz)) ps c=some c'→c'.length=c.length:=by
    intro ps
    induction ps with
    | nil=>intro c c' hf;simp[Hk] at hf;rw[hf]
    | cons p r ih =>
     intro c c' hf
     obtain⟨i,vs⟩:=p
     rw[Hk] at hf
     obtain⟨p,hpl,g1⟩:=ub hf
     obtain⟨gb,g2⟩:=uc g1
     simp at gb
     rw[ih g2,H7 (by omega)]
   rw[this hc,Cj,e2,hs']
  have hcs:cs'.size=len*sz:=by have:=f2.1;simp at this;omega
  refine⟨.slice (some ⟨w.heap.size,0,none⟩) len len,w.alloc (.cells cs' el),?_,?_⟩
  ·have f1':Instr.fill (fun i=>some (i*sz,sz)) ((Array.range (len*sz)).map (z.cells[·%z.cells.size]!)) vs=some cs':=f1
   have hnb:¬ (16777216<len*sz):=by omega
   by_cases h0:len*sz=0
   ·have hme:∀ (a:Array Value),(Array.range (len*sz)).map (a[·%a.size]!)=#[]:=fun a=>by rw[h0];simp[Array.range_zero']
    rw[hme] at f1'
    simp[Instr.buildSlice,run_underlying hu,Bp hsz,h0,Array.range_zero',f1',newRow]
   ·simp[Instr.buildSlice,run_underlying hu,Bp hsz,hnb,h0,zeroValue,typeInfo,hi,hiz,f1',newRow]
  ·refine OpDone.after A (BA (sz:=sz) (fr:=(0,0)) A.sim (k_ hl hups hn) rfl rfl rfl FrTy.un0 hlen (by omega) (Nat.le_refl _) ⟨fun _=>?_,fun hp=>by simp at hp⟩) (Ic _ _)
   have:=CQ f2
   exact RepCs.keep (J:=J1 o1) (w:=w) (fun _ hk=>hk) (fun _ _=>rfl) (fun j=>by simp) this
 ·simp at hh
theorem E_ {t:TypeId} {ps:List (Nat×AV)} {k:AV→O R}:cy P t ps k=(cx P t ps).bind k:=by
 unfold cy cx
 rw[Option.bind_assoc]
 congr 1;funext place
 cases (ps.all fun p=>Um p.2) with
 | false=>rfl
 | true =>
  simp only[cond_true]
  cases (ps.any fun p=>Ul p.2) with
  | true =>
   simp only[cond_true]
   cases (ps.any fun p=>SW p.2) with
   | true =>
    simp only[cond_true]
    rw[Option.bind_assoc]
    congr 1;funext z
    rw[Ss]
    cases Hk place (Fd ps) z<;>rfl
   | false =>
    simp only[cond_false]
    rw[Option.bind_assoc]
    congr 1;funext z
    rw[Ss]
    cases Hk place (C6 ps) z<;>rfl
  | false =>
   simp only[cond_false]
   rw[Option.bind_assoc]
   congr 1;funext z
   rw[Ss]
   cases Hk place (C6 ps) z<;>rfl
theorem mv {x:AV} {u:Value} (hr:RepC (fun _=>False) w x u):Rep J β h w x u:=by
 have hm:∀ o:Bool,RepC (J o) w x u:=fun o=>RepC.keep (J:=fun _=>False) (w:=w) (fun _ hk=>hk.elim) (fun _ _=>rfl) hr
 cases x
 case imm c n sz t org=>rw[Rep];exact hm org
 case iptr c org=>rw[Rep];exact hm org
 case fn f c =>
  cases c with
  | nil=>rw[RepC] at hr;subst hr;rw[Rep];exact⟨[],by simp,by rw[Reps]⟩
  | cons a l=>simp[RepC] at hr
 all_goals first | (rw[RepC] at hr;rw[Rep];exact hr) | simp[RepC] at hr
theorem KR {d len:Nat} {t:TypeId} {ps:List (Nat×AV)} {vs:List (Nat×Value)} {k:AV→Bo→O R} (S:SimH J β h w) (hh:Kn P g d t len ps k=some r) (hv:RepParts J β h w ps vs) :
  ∃ val ups,k val ups=some r∧(UpsFree d h ups→∃ u w',(Instr.buildSlice t len vs.toArray).run P w=.ok u w'∧OpDone J β h w ups val u w'):=by
 unfold Kn at hh
 split at hh
 ·rename_i el hu
  obtain⟨sz,hsz,h1⟩:=ub hh
  obtain⟨zz,hz,h2⟩:=ub h1
  obtain⟨hb,h4⟩:=uc h2
  obtain⟨cells,hc,h5⟩:=ub h4
  simp at hb
  obtain⟨rfl,hb,hst⟩:=hb
  obtain⟨i,z,hi,hiz,rfl,hp,e1,e2⟩:=If hz
  have hs':i.size=1:=by simp[Az,hi] at hsz;exact hsz
  refine⟨_,_,h5,fun hn=>?_⟩
  replace hn:=hn.nid (by simp[Jf,Ao])
  have hz0:=Oi (w:=w) (J:=fun _=>False) hp len (len*1) (by rw[e1,hs'];exact Nat.le_refl _)
  have hz1:Uy (fun x u=>Rep J β h w x u∧u.oneCell'=true) (B4 len (Fr z.cells.toList)) (madeCells z.cells (len*1)).toList:=by
   have hl:Uy (RepC (fun _=>False) w) (B4 len (Fr z.cells.toList)) (madeCells z.cells (len*1)).toList:=by
    refine Li (RepCs.keep (J:=fun _=>False) (w:=w) (fun _ hk=>hk) (fun _ _=>rfl) (fun j=>by simp) hz0) ?_
    rw[Cj,e2,hs',Array.length_toList,size_madeCells]
   exact⟨hl.1,fun j x u hx hu=>⟨mv (hl.2 j x u hx hu),GL (hl.2 j x u hx hu)⟩⟩
  have hparts:∀ {ps:List (Nat×AV)} {vs:List (Nat×Value)},G8 g (ps.map (·.2))=true→RepParts J β h w ps vs→PartsRel (fun x u=>Rep J β h w x u∧u.oneCell'=true) (ps.map fun p=>(p.1,[p.2])) vs:=by
   intro ps
   induction ps with
   | nil=>intro vs _ hv;rw[RepParts] at hv;rw[List.map_nil,PartsRel];exact hv
   | cons p r ih =>
    obtain⟨i,x⟩:=p
    intro vs hs hv
    rw[RepParts] at hv
    obtain⟨v,vs',rfl,h1,h2⟩:=hv
    simp[G8] at hs
    rw[List.map_cons,PartsRel]
    refine⟨v,vs',rfl,?_,ih (by simpa using hs.2) h2⟩
    have ho:=Hb hs.1 h1
    have hcells:v.cells=#[v]:=by cases v<;>simp_all[Value.cells,Value.oneCell']
    rw[hcells]
    refine⟨rfl,fun j y u hy hu=>?_⟩
    cases j with
    | zero=>simp at hy hu;subst hy hu;exact⟨h1,ho⟩
    | succ j=>simp at hy
  obtain⟨cs',f1,f2⟩:=Sr (hparts hst hv) hz1 hc
  have hlen:cells.length=len*1:=by
   have:∀ {ps:List (Nat×LA)} {c c':LA},Hk (fun i=>some (i*1,1)) ps c=some c'→c'.length=c.length:=by
    intro ps
    induction ps with
    | nil=>intro c c' hf;simp[Hk] at hf;rw[hf]
    | cons p r ih =>
     intro c c' hf
     obtain⟨i,vs⟩:=p
     rw[Hk] at hf
     obtain⟨p,hpl,g1⟩:=ub hf
     obtain⟨gb,g2⟩:=uc g1
     simp at gb
     rw[ih g2,H7 (by omega)]
   rw[this hc,Cj,e2,hs']
  have hcs:cs'.size=len*1:=by have:=f2.1;simp at this;omega
  refine⟨.slice (some ⟨w.heap.size,0,none⟩) len len,w.alloc (.cells cs' el),?_,?_⟩
  ·have f1':Instr.fill (fun i=>some (i*1,1)) ((Array.range (len*1)).map (z.cells[·%z.cells.size]!)) vs=some cs':=f1
   have hnb:¬ (16777216<len*1):=by omega
   by_cases h0:len*1=0
   ·have hme:∀ (a:Array Value),(Array.range (len*1)).map (a[·%a.size]!)=#[]:=fun a=>by rw[h0];simp[Array.range_zero']
    rw[hme] at f1'
    simp only[Nat.mul_one] at h0
    simp[Instr.buildSlice,run_underlying hu,Bp hsz,h0,Array.range_zero',newRow]
    simp at f1'
    simp[f1']
   ·simp only[Nat.mul_one] at f1' h0 hnb
    simp[Instr.buildSlice,run_underlying hu,Bp hsz,hnb,h0,zeroValue,typeInfo,hi,hiz,f1',newRow]
  ·refine BA (sz:=1) (fr:=(0,0)) S hn rfl rfl rfl FrTy.un0 hlen (by omega) (Nat.le_refl _) ⟨fun hp=>by simp at hp,fun _ j y hj=>?_⟩
   have hlt:j<cs'.size:=by have:=(List.getElem?_eq_some_iff.1 hj).1;simp at this;omega
   have:=f2.2 j y cs'[j] hj (by simp[hlt])
   exact⟨cs'[j],by simp[hlt],this.1,this.2⟩
 ·simp at hh
theorem Lj {d:Nat}:∀ {l:List (Nat×Nat)} {j:Nat} {c:LA} {cs:List Value} {β:Aw} {h:Ag},SimH J β h w→1≤j→j+l.length≤16→(∀ i,j≤i→i<16→Ao (Dl d l j c).2 (nid d+i)=true→Ac h (nid d+i)=none)→Reps J β h w c cs →
  ∃ β',Step J β h w J β' (Ab (Dl d l j c).2 h) w∧Reps J β' (Ab (Dl d l j c).2 h) w (Dl d l j c).1 cs
 | [],j,c,cs,β,h,S,_,_,_,hr=>⟨β,Step.refl S,hr⟩
 | (o,sz)::l,j,c,cs,β,h,S,hj,hl,hf,hr=>by
  rw[Dl] at hf ⊢
  split
  ·rename_i ho
   simp only[ho] at hf
   simp at hl
   have h1:Ac h (nid d+j)=none:=hf j (Nat.le_refl _) (by omega) (by simp[Ao])
   have A:=Step.newNone S (d:=nid d+j) (x:=De sz) h1 rfl
   have hr1:=Reps.ext A.ext hr
   rw[A7] at hr1
   have hr2:Reps J (fun b=>if b=nid d+j then none else β b) (Cb h (nid d+j) (De sz)) w (c.set o (.own (nid d+j) 0 0)) cs:=by
    rw[A7]
    refine⟨by rw[hr1.1];simp,fun i y u hy hu=>?_⟩
    by_cases hi:i=o
    ·subst hi
     have hlt:i<c.length:=(List.getElem?_eq_some_iff.1 ho).1
     rw[List.getElem?_set_self hlt] at hy;simp at hy;subst hy
     have h3:=hr1.2 i _ u ho hu
     rw[Rep] at h3;subst h3
     rw[Rep]
     exact⟨De sz,none,0,⟨by simp[Aa],rfl⟩,rfl,Nat.le_refl _,.inl rfl⟩
    ·rw[List.getElem?_set_ne (by omega)] at hy
     exact hr1.2 i y u hy hu
   obtain⟨β',B,hB⟩:=Lj (d:=d) (l:=l) (j:=j+1) A.sim (by omega) (by omega) (fun i hi hi2 hin=>by
    have:=hf i (by omega) hi2 (by
     rw[Ao]
     have:Nat.beq (nid d+j) (nid d+i)=false:=Sq (by omega)
     rw[this];exact hin)
    rw[Aa,if_neg (by omega)];exact this) hr2
   exact⟨β',by simp only[Ab];exact A.trans B (fun _ _ _ _=>Nat.le_refl _),by simp only[Ab];exact hB⟩
  ·rename_i ho
   have e:Dl d ((o,sz)::l) j c=Dl d l (j+1) c:=by
    rw[Dl]
    split
    ·rename_i h2;exact absurd h2 (ho ·)
    ·rfl
   simp at hl
   split at hf
   ·rename_i h2;exact absurd h2 (ho ·)
   ·exact Lj S (by omega) (by omega) (fun i hi hi2 hin=>hf i (by omega) hi2 hin) hr
theorem iU {t:TypeId} {co:Bool} {d:Nat} {v:AV} {vc:Value} {k:AV→Bo→O R} (S:SimH J β h w) (hh:lT P t co d v k=some r) (hv:Rep J β h w v vc) :
  ∃ val ups,k val ups=some r∧(UpsFree d h ups→OpDone J β h w ups val vc w):=by
 unfold lT at hh
 split at hh
 ·rename_i c
  obtain⟨hb,h1⟩:=uc hh
  refine⟨_,_,h1,fun hf=>?_⟩
  rw[Rep] at hv
  obtain⟨cs,rfl,hr⟩:=hv
  obtain⟨β',A,hA⟩:=Lj (d:=d) (l:=Jg P t) (j:=1) S (Nat.le_refl _) (by simp at hb;omega) (fun i hi hi2 hin=>hf _ hin (by unfold P0;simp;omega)) hr
  exact⟨J,β',A,by rw[Rep];exact⟨cs,rfl,hA⟩⟩
 ·exact⟨_,_,hh,fun _=>⟨J,β,Step.refl S,hv⟩⟩
theorem MN {x:AV} {v:Value} (hv:Rep J β h w x v) (hp:Ul x=false) (ho:Um x=true):Uy (Rep J β h w) (cellsOf x) v.cells.toList:=by
 have one:v.cells=#[v]→cellsOf x=[x]→Uy (Rep J β h w) (cellsOf x) v.cells.toList:=fun h1 h2=>by
  rw[h1,h2]
  refine⟨rfl,fun j y u hy hu=>?_⟩
  cases j with
  | zero=>simp at hy hu;subst hy hu;exact hv
  | succ j=>simp at hy
 cases x
 case pagg=>simp[Ul] at hp
 case agg c =>
  rw[Rep] at hv
  obtain⟨cs,rfl,h2⟩:=hv
  rw[A7] at h2
  exact⟨h2.1.symm,h2.2⟩
 case tup c=>simp[Um] at ho
 case undef=>simp[Um] at ho
 case omap=>simp[Um] at ho
 case nd=>simp[Um] at ho
 case own=>rw[Rep] at hv;obtain⟨_,A,cap,_,rfl,_⟩:=hv;exact one rfl rfl
 case optr=>rw[Rep] at hv;obtain⟨_,kk,o,_,rfl,_⟩:=hv;exact one rfl rfl
 case fn=>rw[Rep] at hv;obtain⟨cs,rfl,_⟩:=hv;exact one rfl rfl
 case imm=>rw[Rep,RepC] at hv;obtain⟨_,A,cap,rfl,_⟩:=hv;exact one rfl rfl
 case iptr=>rw[Rep,RepC] at hv;obtain⟨a,rfl,_⟩:=hv;exact one rfl rfl
 all_goals (rw[Rep] at hv;subst hv;exact one rfl rfl)
theorem bq {x:AV} {v:Value} (hj:∀ k,J false k→J true k) (hv:Rep J β h w x v) (hr:EV x=false) {o:Bool} (ho:cw x=true→o=true):RepC (J o) w x v:=by
 cases x<;>simp[EV] at hr
 case imm c n sz t org =>
  rw[Rep] at hv
  refine RepC.keep (J:=J org) (w:=w) (fun k hk=>?_) (fun _ _=>rfl) hv
  cases org
  ·cases o
   ·exact hk
   ·exact hj k hk
  ·rw[ho rfl];exact hk
 case iptr c org =>
  rw[Rep] at hv
  refine RepC.keep (J:=J org) (w:=w) (fun k hk=>?_) (fun _ _=>rfl) hv
  cases org
  ·cases o
   ·exact hk
   ·exact hj k hk
  ·rw[ho rfl];exact hk
 all_goals (rw[Rep] at hv;rw[RepC];exact hv)
theorem dT {x:AV} {v:Value} (hj:∀ k,J false k→J true k) (hv:Rep J β h w x v) (hr:SW x=false) {o:Bool} (ho:ME x=true→o=true):Uy (RepC (J o) w) (cellsOf x) v.cells.toList:=by
 have one:EV x=false→cellsOf x=[x]→ME x=cw x→Uy (RepC (J o) w) (cellsOf x) v.cells.toList:=fun h0 h2 h3=>by
  have hc:=bq (o:=o) hj hv h0 (by rw[←h3];exact ho)
  have h1:v.cells=#[v]:=by have:=GL hc;cases v<;>simp_all[Value.cells,Value.oneCell']
  rw[h1,h2]
  refine⟨rfl,fun j y u hy hu=>?_⟩
  cases j with
  | zero=>simp at hy hu;subst hy hu;exact hc
  | succ j=>simp at hy
 cases x
 case pagg c org =>
  rw[Rep] at hv
  obtain⟨cs,rfl,h1,h2⟩:=hv
  refine Li (RepCs.keep (J:=J org) (w:=w) (fun k hk=>?_) (fun _ _=>rfl) (fun j=>by simp[Value.cells]) h2) (by simp[Value.cells,cellsOf,h1])
  cases org
  ·cases o
   ·exact hk
   ·exact hj k hk
  ·rw[ho rfl];exact hk
 case agg c =>
  rw[Rep] at hv
  obtain⟨cs,rfl,h2⟩:=hv
  rw[A7] at h2
  refine⟨h2.1.symm,fun j y u hy hu=>?_⟩
  simp only[SW,List.any_eq_false] at hr
  have hm:y ∈ c:=List.mem_of_getElem? hy
  have hry:EV y=false:=by simpa using hr y hm
  refine bq hj (h2.2 j y u hy hu) hry (fun h3=>ho ?_)
  rw[ME,List.any_eq_true];exact⟨y,hm,h3⟩
 all_goals first | exact one hr rfl rfl | simp[SW,EV] at hr
theorem l5 {o:Bool} {x:AV} {v:Value} (hr:RepC (J o) w x v):Rep J β h w (eY o x) v:=by
 cases x
 case imm=>rw[eY,Rep];rw[RepC] at hr ⊢;exact hr
 case iptr=>rw[eY,Rep];rw[RepC] at hr ⊢;exact hr
 case fn f c =>
  cases c with
  | nil=>rw[RepC] at hr;subst hr;show Rep J β h w (.fn f []) _;rw[Rep];exact⟨[],by simp,by rw[Reps]⟩
  | cons a b=>simp[RepC] at hr
 all_goals first | (rw[RepC] at hr;unfold eY;rw[Rep];exact hr) | (simp[RepC] at hr)
theorem iV {x:AV} {v:Value} (hv:Rep J β h w x v) (ho:Um x=true):Uy (Rep J β h w) (SX x) v.cells.toList:=by
 cases hp:Ul x with
 | false =>
  have:=MN hv hp ho
  cases x<;>first | exact this | simp[Ul] at hp
 | true =>
  cases x<;>simp[Ul] at hp
  rename_i c o
  rw[Rep] at hv
  obtain⟨cs,rfl,h1,h2⟩:=hv
  refine⟨by simp[SX,Value.cells,h1],fun j y u hy hu=>?_⟩
  simp only[SX,List.getElem?_map] at hy
  cases hx:c[j]? with
  | none=>rw[hx] at hy;simp at hy
  | some x0 =>
   rw[hx] at hy;simp at hy;subst hy
   obtain⟨u',hu',hr⟩:=h2.at hx
   simp[Value.cells] at hu
   rw[hu] at hu';simp at hu';subst hu'
   exact l5 hr
theorem X9 {CR:AV→Value→Prop}:∀ {ps:List (Nat×AV)} {vs:List (Nat×Value)},RepParts J β h w ps vs→(∀ p ∈ ps,∀ v,Rep J β h w p.2 v→Uy CR (SX p.2) v.cells.toList)→PartsRel CR (Fd ps) vs
 | [],vs,hr,_=>by rw[RepParts] at hr;rw[Fd,PartsRel];exact hr
 | (i,x)::r,vs,hr,hp=>by
  rw[RepParts] at hr
  obtain⟨v,vs',rfl,h1,h2⟩:=hr
  rw[Fd,PartsRel]
  exact⟨v,vs',rfl,hp (i,x) (by simp) v h1,X9 h2 (fun p hm=>hp p (by simp[hm]))⟩
theorem Rn {CR:AV→Value→Prop}:∀ {ps:List (Nat×AV)} {vs:List (Nat×Value)},RepParts J β h w ps vs→(∀ p ∈ ps,∀ v,Rep J β h w p.2 v→Uy CR (cellsOf p.2) v.cells.toList)→PartsRel CR (C6 ps) vs
 | [],vs,hr,_=>by rw[RepParts] at hr;rw[C6,PartsRel];exact hr
 | (i,x)::r,vs,hr,hp=>by
  rw[RepParts] at hr
  obtain⟨v,vs',rfl,h1,h2⟩:=hr
  rw[C6,PartsRel]
  exact⟨v,vs',rfl,hp (i,x) (by simp) v h1,Rn h2 (fun p hm=>hp p (by simp[hm]))⟩
theorem TN {t:TypeId} {place:Nat→Option (Nat×Nat)} {i:TypeInfo} {z:Value} {vs:List (Nat×Value)} {cs:Array Value} (hp:F_ P t=some place) (hi:P.info? t=some i) (hz:i.zero=some z)
  (hf:Instr.fill place z.cells vs=some cs):P.built t vs=some cs:=by
 unfold F_ at hp
 unfold Program.built
 split at hp
 ·rename_i n e hu
  cases he:P.info? e with
  | none=>simp[he] at hp
  | some ie=>simp[he] at hp;subst hp;simp only[hi,hu,hz,he];exact hf
 ·rename_i fs hu
  cases he:fs.toList.mapM fun f=>(P.info? f.type).map fun i=>(f.offset,i.size) with
  | none=>rw[he] at hp;simp at hp
  | some pl =>
   rw[he] at hp;simp at hp;subst hp
   simp only[hi,hu,hz,he]
   simpa using hf
 ·simp at hp
theorem dU {t:TypeId} {ps:List (Nat×AV)} {vs:List (Nat×Value)} {v:AV} (S:SimH J β h w) (hh:cx P t ps=some v) (hv:RepParts J β h w ps vs) :
  ∃ u,(Instr.build t vs.toArray).run P w=.ok u w∧Rep J β h w v u:=by
 unfold cx at hh
 obtain⟨place,hpl,h1⟩:=ub hh
 obtain⟨hok,h2⟩:=uc h1
 cases hpg:ps.any (fun p=>Ul p.2) with
 | true =>
  rw[hpg] at h2
  cases hnr:ps.any (fun p=>SW p.2) with
  | true =>
   rw[hnr] at h2
   obtain⟨zz,hz,h4⟩:=ub h2
   unfold b6 at hz
   obtain⟨i,hi,hz⟩:=ub hz
   cases hiz:i.zero with
   | none=>rw[hiz] at hz;simp at hz
   | some z =>
    rw[hiz] at hz;simp at hz;subst hz
    cases hf:Hk place (Fd ps) (Fr z.cells.toList) with
    | none=>rw[hf] at h4;simp at h4
    | some c =>
     rw[hf] at h4;simp at h4;subst h4
     have hparts:PartsRel (Rep J β h w) (Fd ps) vs:=X9 hv (fun p hm u hu=>iV hu (List.all_eq_true.1 hok p hm))
     have hzc:Uy (Rep J β h w) (Fr z.cells.toList) z.cells.toList:=by
      have:=AY (J:=J) (β:=β) (h:=h) (w:=w) z.cells.toList
      rw[A7] at this
      exact⟨this.1.symm,this.2⟩
     obtain⟨cs,f1,f2⟩:=Sr hparts hzc hf
     refine⟨.agg cs,run_build w t vs.toArray cs (TN hpl hi hiz (by simpa using f1)),?_⟩
     rw[Rep]
     exact⟨cs.toList,rfl,A7.2 ⟨f2.1.symm,f2.2⟩⟩
  | false =>
  rw[hnr] at h2
  have h3:=h2
  obtain⟨zz,hz,h4⟩:=ub h3
  obtain⟨i,z,hi,hiz,rfl,hp,e1,e2⟩:=If hz
  cases hf:Hk place (C6 ps) (Fr z.cells.toList) with
  | none=>rw[hf] at h4;simp at h4
  | some c =>
   rw[hf] at h4;simp at h4;subst h4
   have hparts:PartsRel (RepC (J (ps.any fun p=>ME p.2)) w) (C6 ps) vs:=Rn hv (fun p hm u hu=>dT S.jft hu (by
     have:=List.any_eq_false.1 hnr p hm;simpa using this) (fun ho=>by rw[List.any_eq_true];exact⟨p,hm,ho⟩))
   have hzc:Uy (RepC (J (ps.any fun p=>ME p.2)) w) (Fr z.cells.toList) z.cells.toList:=by
    refine⟨P4 _,fun j x u hx hu=>?_⟩
    obtain⟨y,g1,g2⟩:=EZ (w:=w) (J:=J (ps.any fun p=>ME p.2)) hp j u hu
    rw[hx] at g1;simp at g1;subst g1;exact g2
   obtain⟨cs,f1,f2⟩:=Sr hparts hzc hf
   refine⟨.agg cs,run_build w t vs.toArray cs (TN hpl hi hiz (by simpa using f1)),?_⟩
   rw[Rep]
   exact⟨cs.toList,rfl,f2.1.symm,CQ f2⟩
 | false =>
  rw[hpg] at h2
  obtain⟨zz,hz,h4⟩:=ub h2
  unfold b6 at hz
  obtain⟨i,hi,hz⟩:=ub hz
  cases hiz:i.zero with
  | none=>rw[hiz] at hz;simp at hz
  | some z =>
   rw[hiz] at hz;simp at hz;subst hz
   cases hf:Hk place (C6 ps) (Fr z.cells.toList) with
   | none=>rw[hf] at h4;simp at h4
   | some c =>
    rw[hf] at h4;simp at h4;subst h4
    have hparts:PartsRel (Rep J β h w) (C6 ps) vs:=Rn hv (fun p hm u hu=>MN hu (by
      have:=List.any_eq_false.1 hpg p hm;simpa using this) (List.all_eq_true.1 hok p hm))
    have hzc:Uy (Rep J β h w) (Fr z.cells.toList) z.cells.toList:=by
     have:=AY (J:=J) (β:=β) (h:=h) (w:=w) z.cells.toList
     rw[A7] at this
     exact⟨this.1.symm,this.2⟩
    obtain⟨cs,f1,f2⟩:=Sr hparts hzc hf
    refine⟨.agg cs,run_build w t vs.toArray cs (TN hpl hi hiz (by simpa using f1)),?_⟩
    rw[Rep]
    exact⟨cs.toList,rfl,A7.2 ⟨f2.1.symm,f2.2⟩⟩
end
end Gx

namespace Gx
open Go
section
variable {R:Type} {r:R} {P:Program} {J:Bool→Nat→Prop} {β:Aw} {h:Ag} {w:World}
def PRd (n:Nat) (x:LA) (rd:Nat→Option Value):Prop:=∀ j q,j<n→x[j]?=some q →
 (∀ k m,q=.int k m→rd j=some (.int k m))∧(∀ b,q=.bool b→rd j=some (.bool b))∧(∀ s,q=.str s→rd j=some (.string ⟨⟨s⟩⟩))
theorem PRd.drop {n m o:Nat} {x:LA} {xs:Array Value} {ox sz:Nat} (hp:PRd sz x (fun j=>xs[ox+j]?)) (ho:o+m≤sz) (hn:n=m):PRd n (x.drop o) (fun j=>(xs.extract ox (ox+sz))[o+j]?):=by
 subst hn
 intro j q hj hq
 rw[List.getElem?_drop] at hq
 have h1:=hp (o+j) q (by omega) hq
 have e:∀ v,xs[ox+(o+j)]?=some v→(xs.extract ox (ox+sz))[o+j]?=some v:=by
  intro v hv
  have hlt:=(Array.getElem?_eq_some_iff.1 hv).1
  rw[Array.getElem?_extract,if_pos (by omega)];exact hv
 exact⟨fun k m hk=>e _ (h1.1 k m hk),fun b hb=>e _ (h1.2.1 b hb),fun s hs=>e _ (h1.2.2 s hs)⟩
theorem N6 {t:TypeId} {d:TypeDesc} {xs:Array Value} {ox:Nat} {v:Value} (hu:P.underlying t=some d) (hd:d.isRow=false) (hv:xs[ox]?=some v):(part t xs ox).run P w=.ok v w:=by
 unfold part isAgg
 simp only[Sem.run_bind,run_underlying hu,Result.andThen_ok]
 cases d<;>simp_all[TypeDesc.isRow]
theorem Su {t:TypeId} {d:TypeDesc} {xs:Array Value} {ox s:Nat} (hu:P.underlying t=some d) (hd:d.isRow=true) (hs:Az P t=some s):(part t xs ox).run P w=.ok (.agg (xs.extract ox (ox+s))) w:=by
 unfold part isAgg
 have:=Bp hs w
 simp only[Sem.run_bind,run_underlying hu,Result.andThen_ok]
 cases d<;>simp_all[TypeDesc.isRow]
def iW (P:Program) (w:World) (D:Nat) (step:TypeId→LA→LA→(Bool→O R)→O R):Prop :=
 ∀ (r:R) (t:TypeId) (s:Nat) (x y:LA) (k:Bool→O R) (xs ys:Array Value) (ox oy:Nat),Az P t=some s→0<s→step t x y k=some r→PRd s x (fun j=>xs[ox+j]?)→PRd s y (fun j=>ys[oy+j]?) →
  ∃ b a a',k b=some r∧(part t xs ox).run P w=.ok a w∧(part t ys oy).run P w=.ok a' w∧(Op.equalIn D t a a').run P w=.ok b w
theorem Wa {D:Nat} {step:TypeId→LA→LA→(Bool→O R)→O R} (hs:iW P w D step) {x y:LA} {xs ys:Array Value} {ox oy sz:Nat} (hx:PRd sz x (fun j=>xs[ox+j]?)) (hy:PRd sz y (fun j=>ys[oy+j]?)) :
  ∀ (fs:List Field) {k:Bool→O R},fs.all (cp P sz)=true→Sg step x y (fs.map fun f=>(f.offset,f.type)) k=some r →
  ∃ b,k b=some r∧(Op.eqFields D (xs.extract ox (ox+sz)) (ys.extract oy (oy+sz)) fs).run P w=.ok b w
 | [],k,_,hh=>⟨true,by simpa[Sg] using hh,by simp[Op.eqFields]⟩
 | f::fs,k,ho,hh=>by
  rw[List.all_cons,Bool.and_eq_true] at ho
  obtain⟨hf,ho⟩:=ho
  unfold cp at hf
  cases hsz:Az P f.type with
  | none=>rw[hsz] at hf;simp at hf
  | some s =>
   rw[hsz] at hf
   simp only[Bool.and_eq_true,Nat.ble_eq] at hf
   obtain⟨h1,h2,h3⟩:=hf
   have hname : f.name ≠ "_" := by simpa using h3
   rw[List.map_cons,Sg] at hh
   obtain⟨b,a,a',g1,g2,g3,g4⟩:=hs r f.type s _ _ _ (xs.extract ox (ox+sz)) (ys.extract oy (oy+sz)) f.offset f.offset hsz (by omega) hh (hx.drop h2 rfl) (hy.drop h2 rfl)
   obtain⟨c,e1,e2⟩:=Wa hs hx hy fs ho g1
   refine⟨b&&c,e1,?_⟩
   rw[Op.eqFields,if_pos hname]
   simp only[Sem.run_bind,g2,g3,g4,Result.andThen_ok]
   cases b with
   | false=>simp
   | true=>simpa using e2
theorem Ya {D:Nat} {step:TypeId→LA→LA→(Bool→O R)→O R} (hs:iW P w D step) {x y:LA} {xs ys:Array Value} {ox oy sz:Nat} {e:TypeId} {s:Nat} (hse:Az P e=some s) (hs0:0<s) (hx:PRd sz x (fun j=>xs[ox+j]?)) (hy:PRd sz y (fun j=>ys[oy+j]?)) :
  ∀ (is:List Nat) {k:Bool→O R},(∀ i ∈ is,i*s+s≤sz)→Sg step x y (is.map fun i=>(i*s,e)) k=some r →
  ∃ b,k b=some r∧(Op.eqItems D e s (xs.extract ox (ox+sz)) (ys.extract oy (oy+sz)) is).run P w=.ok b w
 | [],k,_,hh=>⟨true,by simpa[Sg] using hh,by simp[Op.eqItems]⟩
 | i::is,k,ho,hh=>by
  have h2:=ho i (by simp)
  rw[List.map_cons,Sg] at hh
  obtain⟨b,a,a',g1,g2,g3,g4⟩:=hs r e s _ _ _ (xs.extract ox (ox+sz)) (ys.extract oy (oy+sz)) (i*s) (i*s) hse hs0 hh (hx.drop h2 rfl) (hy.drop h2 rfl)
  obtain⟨c,e1,e2⟩:=Ya hs hse hs0 hx hy is (fun j hj=>ho j (by simp[hj])) g1
  refine⟨b&&c,e1,?_⟩
  rw[Op.eqItems]
  simp only[Sem.run_bind,g2,g3,g4,Result.andThen_ok]
  cases b with
  | false=>simp
  | true=>simpa using e2
theorem E':∀ (d D:Nat),d≤D→iW P w D (QT (R:=R) P d)
 | 0,D,_=>fun r t s x y k xs ys ox oy hs hs0 hh=>by simp[QT] at hh
 | d+1,D,hD=>fun r t s x y k xs ys ox oy hs hs0 hh hx hy=>by
  obtain⟨D,rfl⟩:∃ D',D=D'+1:=⟨D - 1,by omega⟩
  rw[QT] at hh
  split at hh
  ·rename_i kd hu
   obtain⟨u,hu1,hh⟩:=ub hh
   obtain⟨a,ha,hh⟩:=ub hh
   obtain⟨v,hv1,hh⟩:=ub hh
   obtain⟨b,hb,hh⟩:=ub hh
   have ea:u=.int kd a:=by
    unfold asInt at ha;split at ha
    ·obtain⟨hk,ha'⟩:=uc ha;simp[Ho] at hk ha';subst hk ha';rfl
    ·simp at ha
   have eb:v=.int kd b:=by
    unfold asInt at hb;split at hb
    ·obtain⟨hk,hb'⟩:=uc hb;simp[Ho] at hk hb';subst hk hb';rfl
    ·simp at hb
   have px:=(hx 0 u hs0 (by rw[←List.head?_eq_getElem?];exact hu1)).1 kd a ea
   have py:=(hy 0 v hs0 (by rw[←List.head?_eq_getElem?];exact hv1)).1 kd b eb
   exact⟨_,_,_,hh,N6 hu rfl (by simpa using px),N6 hu rfl (by simpa using py),run_equalIn_int w D t kd kd a b hu⟩
  ·rename_i hu
   obtain⟨u,hu1,hh⟩:=ub hh
   obtain⟨a,ha,hh⟩:=ub hh
   obtain⟨v,hv1,hh⟩:=ub hh
   obtain⟨b,hb,hh⟩:=ub hh
   have ea:u=.bool a:=by unfold asBool at ha;split at ha<;>simp_all
   have eb:v=.bool b:=by unfold asBool at hb;split at hb<;>simp_all
   have px:=(hx 0 u hs0 (by rw[←List.head?_eq_getElem?];exact hu1)).2.1 a ea
   have py:=(hy 0 v hs0 (by rw[←List.head?_eq_getElem?];exact hv1)).2.1 b eb
   exact⟨_,_,_,hh,N6 hu rfl (by simpa using px),N6 hu rfl (by simpa using py),run_equalIn_bool' w D t a b hu⟩
  ·rename_i hu
   obtain⟨u,hu1,hh⟩:=ub hh
   obtain⟨a,ha,hh⟩:=ub hh
   obtain⟨v,hv1,hh⟩:=ub hh
   obtain⟨b,hb,hh⟩:=ub hh
   have ea:u=.str a:=by unfold bY at ha;split at ha<;>simp_all
   have eb:v=.str b:=by unfold bY at hb;split at hb<;>simp_all
   have px:=(hx 0 u hs0 (by rw[←List.head?_eq_getElem?];exact hu1)).2.2 a ea
   have py:=(hy 0 v hs0 (by rw[←List.head?_eq_getElem?];exact hv1)).2.2 b eb
   refine⟨_,_,_,hh,N6 hu rfl (by simpa using px),N6 hu rfl (by simpa using py),?_⟩
   have:=run_equalIn_string w D t ⟨⟨a⟩⟩ ⟨⟨b⟩⟩ hu
   rw[this]
   simp[ByteArray.toList_eq]
  ·rename_i fs hu
   obtain⟨sz,hsz,hh⟩:=ub hh
   obtain⟨hc,hh2⟩:=iO hh
   simp only[Bool.or_eq_false_iff,Bool.not_eq_false'] at hc
   rw[hs] at hsz;simp at hsz;subst hsz
   obtain⟨b,h1,h2⟩:=Wa (E' d D (by omega)) hx hy fs.toList hc.2 hh2
   refine⟨b,_,_,h1,Su hu rfl hs,Su hu rfl hs,?_⟩
   have hfo:P.fieldsOf t=fs:=by simp[Program.fieldsOf,hu]
   rw[run_equalIn_struct w D t _ _ (by rw[hfo];exact hu) hc.1,hfo]
   exact h2
  ·rename_i n e hu
   obtain⟨s',hse,hh⟩:=ub hh
   obtain⟨sz,hsz,hh⟩:=ub hh
   obtain⟨hc,hh2⟩:=uc hh
   simp only[Bool.and_eq_true,Nat.ble_eq] at hc
   rw[hs] at hsz;simp at hsz;subst hsz
   obtain⟨b,h1,h2⟩:=Ya (E' d D (by omega)) hse (by omega) hx hy (List.range n) (fun i hi=>by
    have:=List.mem_range.1 hi
    have h3:(i+1)*s'≤n*s':=Nat.mul_le_mul_right _ this
    rw[Nat.succ_mul] at h3;omega) hh2
   refine⟨b,_,_,h1,Su hu rfl hs,Su hu rfl hs,?_⟩
   cases hi:P.info? e with
   | none=>simp[Az,hi] at hse
   | some i =>
    have hcell:P.cellsOf e=s':=by simp[Az,hi] at hse;simp[Program.cellsOf,hi,hse]
    rw[run_equalIn_array w D _ _ hu hi,hcell]
    exact h2
  ·simp at hh
theorem eu {c:LA} {org:Bool} {v:Value} {a:LA} {x:AV} (hx:cr x=some a) (hr:Rep J β h w x v):∃ cs:List Value,v=.agg ⟨cs⟩∧cs.length=a.length∧∀ n,PRd n a (fun j=>(⟨cs⟩:Array Value)[0+j]?):=by
 unfold cr at hx
 split at hx
 ·simp at hx;subst hx
  rw[Rep] at hr
  obtain⟨cs,h1,h2,h3⟩:=hr
  refine⟨cs,h1,h2,fun n j q _ hq=>?_⟩
  rw[Ay] at h3
  obtain⟨u,h4,h5⟩:=h3 j q hq
  simp only[Nat.zero_add] at h4 ⊢
  refine⟨fun k m hk=>?_,fun b hb=>?_,fun s hs=>?_⟩
  ·subst hk;rw[RepC] at h5;subst h5;simpa using h4
  ·subst hb;rw[RepC] at h5;subst h5;simpa using h4
  ·subst hs;rw[RepC] at h5;subst h5;simpa using h4
 ·simp at hx;subst hx
  rw[Rep] at hr
  obtain⟨cs,h1,h2⟩:=hr
  rw[A7] at h2
  refine⟨cs,h1,h2.1,fun n j q _ hq=>?_⟩
  have hlt:j<cs.length:=by rw[h2.1];exact(List.getElem?_eq_some_iff.1 hq).1
  have h5:=h2.2 j q cs[j] hq (List.getElem?_eq_getElem hlt)
  simp only[Nat.zero_add]
  refine⟨fun k m hk=>?_,fun b hb=>?_,fun s hs=>?_⟩
  ·subst hk;rw[Rep] at h5;simp[hlt,h5]
  ·subst hb;rw[Rep] at h5;simp[hlt,h5]
  ·subst hs;rw[Rep] at h5;simp[hlt,h5]
 ·simp at hx
theorem ew {op:BinOp} {t:TypeId} {x y:AV} {k:AV→O R} {vx vy:Value} (hh:bZ P t op x y k=some r) (hx:Rep J β h w x vx) (hy:Rep J β h w y vy) (ox oy:Operand) :
  ∃ v vc,k v=some r∧(do eqGuard op t ox oy vx vy;binOp op t vx vy:Sem Value).run P w=.ok vc w∧Rep J β h w v vc:=by
 unfold bZ at hh
 split at hh
 ·rename_i a b ha hb
  obtain⟨s,hs,hh⟩:=ub hh
  obtain⟨hc,hh⟩:=uc hh
  simp only[Bool.and_eq_true,Nat.ble_eq,Bool.not_eq_true'] at hc
  obtain⟨h1,h2,h3,hrt,h4⟩:=hc
  have h2:=Nat.eq_of_beq_eq_true h2
  have h3:=Nat.eq_of_beq_eq_true h3
  obtain⟨cs,rfl,hl,px⟩:=eu (c:=[]) (org:=false) ha hx
  obtain⟨cs',rfl,hl',py⟩:=eu (c:=[]) (org:=false) hb hy
  have hg:=run_eqGuard_agg w op t ox oy ⟨cs⟩ ⟨cs'⟩ h4
  have whole:∀ (l:List Value),l.length=s→(⟨l⟩:Array Value).extract 0 (0+s)=⟨l⟩:=by
   intro l hl;subst hl;simp
  have key:∀ {kk:Bool→O R},QT P 8 t a b kk=some r→∃ c,kk c=some r∧(Op.equal t (.agg ⟨cs⟩) (.agg ⟨cs'⟩)).run P w=.ok c w:=by
   intro kk hk
   obtain⟨c,u,u',e1,e2,e3,e4⟩:=E' 8 10000 (by omega) r t s a b kk ⟨cs⟩ ⟨cs'⟩ 0 0 hs (by omega) hk (px s) (py s)
   refine⟨c,e1,?_⟩
   have hrow:∃ d,P.underlying t=some d∧d.isRow=true:=by
    unfold m_ at hrt
    split at hrt
    ·rename_i fs hu;exact⟨_,hu,rfl⟩
    ·rename_i n e hu;exact⟨_,hu,rfl⟩
    ·simp at hrt
   obtain⟨d,hu,hd⟩:=hrow
   rw[Su hu hd hs,whole cs (by omega)] at e2
   rw[Su hu hd hs,whole cs' (by omega)] at e3
   simp only[Result.ok.injEq,and_true] at e2 e3
   subst e2 e3
   exact e4
  split at hh
  ·obtain⟨c,e1,e2⟩:=key hh
   refine⟨_,.bool c,e1,?_,by rw[Rep]⟩
   simp only[Sem.run_bind,hg,Result.andThen_ok,binOp,e2,Sem.run_pure]
  ·obtain⟨c,e1,e2⟩:=key hh
   refine⟨_,.bool (!c),e1,?_,by rw[Rep]⟩
   simp only[Sem.run_bind,hg,Result.andThen_ok,binOp,e2,Sem.run_pure]
  ·simp at hh
 ·exact iN hh hx hy ox oy
theorem ey {t:TypeId} {x y:AV} {b:Bool} {vx vy:Value} {g:Ar} (S:SimH J β h w) (hl:Looks g h) (he:mi g x y=some b) (ht:iI P t=true) (hx:Rep J β h w x vx) (hy:Rep J β h w y vy) :
  ∃ p q,vx=.pointer p∧vy=.pointer q∧(Op.equal t (.pointer p) (.pointer q)).run P w=.ok b w:=by
 unfold iI at ht
 split at ht
 ·rename_i e hu
  split at ht
  ·rename_i n hn
   have hn0:n≠0:=fun e=>by subst e;simp at ht
   have hu:=run_underlying (w:=w) hu
   have hs:(Go.sizeOf e).run P w=.ok n w:=Bp hn w
   have nn:∀ q:Option Addr,(Op.equal t (.pointer none) (.pointer q)).run P w=.ok q.isNone w:=fun q=>by
    unfold Op.equal Op.maxDepth Op.equalIn;simp[hu]
   have nn':∀ a:Addr,(Op.equal t (.pointer (some a)) (.pointer none)).run P w=.ok false w:=fun q=>by
    unfold Op.equal Op.maxDepth Op.equalIn;simp[hu]
   unfold mi at he
   split at he
   ·simp only[Rep] at hx hy;subst hx hy;simp at he;subst he;exact⟨_,_,rfl,rfl,nn none⟩
   ·simp only[Rep] at hx hy;obtain⟨_,k,o,_,rfl,_⟩:=hy;subst hx;simp at he;subst he;exact⟨_,_,rfl,rfl,nn (some _)⟩
   ·simp only[Rep] at hx hy;obtain⟨_,k,o,_,rfl,_⟩:=hx;subst hy;simp at he;subst he;exact⟨_,_,rfl,rfl,nn' _⟩
   ·simp only[Rep] at hx hy;rw[RepC] at hy;obtain⟨a,rfl,_⟩:=hy;subst hx;simp at he;subst he;exact⟨_,_,rfl,rfl,nn (some _)⟩
   ·simp only[Rep] at hx hy;rw[RepC] at hx;obtain⟨a,rfl,_⟩:=hx;subst hy;simp at he;subst he;exact⟨_,_,rfl,rfl,nn' _⟩
   ·rename_i b1 o1 b2 o2
    obtain⟨z,hz,he⟩:=ub he
    obtain⟨hb,he⟩:=uc he
    have hb:=Nat.eq_of_beq_eq_true hb
    subst hb
    obtain⟨hz1,hz2⟩:=A1 hl hz
    rw[Rep] at hx hy
    obtain⟨x1,k1,p1,⟨g1,_⟩,rfl,h1⟩:=hx
    obtain⟨x2,k2,p2,⟨g2,_⟩,rfl,h2⟩:=hy
    rw[hz1] at g1 g2;simp at g1 g2;subst g1 g2
    rcases h1 with h1 | h1
    ·rw[h1] at hz2;cases hz2
    ·rcases h2 with h2 | h2
     ·rw[h2] at hz2;cases hz2
     ·rw[h1] at h2;simp at h2;obtain⟨rfl,rfl⟩:=h2
      refine⟨_,_,rfl,rfl,?_⟩
      simp at he
      unfold Op.equal Op.maxDepth Op.equalIn
      simp[hu,hs,hn0,sameAddr]
      by_cases e:o1=o2
      ·subst e;simp at he;simp[he]
      ·rw[Sq e] at he;subst he;simp;exact e
   ·cases he
  ·cases ht
 ·cases ht
theorem ez {g:Ar} {op:BinOp} {t:TypeId} {x y:AV} {k:AV→O R} {vx vy:Value} (S:SimH J β h w) (hl:Looks g h) (hh:bg P g t op x y k=some r) (hx:Rep J β h w x vx) (hy:Rep J β h w y vy) (ox oy:Operand) :
  ∃ v vc,k v=some r∧(do eqGuard op t ox oy vx vy;binOp op t vx vy:Sem Value).run P w=.ok vc w∧Rep J β h w v vc:=by
 unfold bg at hh
 split at hh
 ·rename_i b he
  obtain⟨ht,hh⟩:=uc hh
  obtain⟨p,q,rfl,rfl,h1⟩:=ey S hl he ht hx hy
  split at hh
  ·refine⟨_,.bool b,hh,?_,by rw[Rep]⟩
   simp[eqGuard,binOp,h1]
  ·refine⟨_,.bool (!b),hh,?_,by rw[Rep]⟩
   simp[eqGuard,binOp,h1]
  ·cases hh
 ·exact ew hh hx hy ox oy
end
end Gx

namespace Gx
open Go Go.MapKept
section
variable {R:Type} {r:R} {P:Program} {J:Bool→Nat→Prop} {β:Aw} {h:Ag} {w:World} {g:Ar}
theorem Kr:∀ (l:List Int) (n:Int),CB (l.map fun m=>.int .i64 m) n=true↔n ∈ l
 | [],n=>by simp[CB]
 | m::r,n=>by
  rw[List.map_cons,CB]
  by_cases e:n=m
  ·simp[e]
  ·simp[e,Kr r n]
theorem Sv {c:LA} {es:Array MapEntry} {l:List Int} (hl:es.toList.map (fun e=>(e.key,e.val))=l.map (fun n=>((.int .i64 n:Value),(.bool true:Value)))) {x:MapEntry} (hx:x ∈ es.toList):∃ n,n ∈ l∧x.key=.int .i64 n∧x.val=.bool true:=by
 have:=List.mem_map_of_mem (f:=fun e:MapEntry=>(e.key,e.val)) hx
 rw[hl] at this
 obtain⟨n,hn,he⟩:=List.mem_map.1 this
 simp at he
 exact⟨n,hn,he.1.symm,he.2.symm⟩
theorem fA {es:Array MapEntry} {l:List Int} (hl:es.toList.map (fun e=>(e.key,e.val))=l.map (fun n=>((.int .i64 n:Value),(.bool true:Value)))) {n:Int} (hn:n ∈ l):∃ x ∈ es.toList,x.key=.int .i64 n:=by
 have:=List.mem_map_of_mem (f:=fun n:Int=>((.int .i64 n:Value),(.bool true:Value))) hn
 rw[←hl] at this
 obtain⟨x,hx,he⟩:=List.mem_map.1 this
 simp at he
 exact⟨x,hx,he.1⟩
theorem GP {c:LA} {es:Array MapEntry} {clk:Nat} (hm:EY c es clk) (n:Int) :
  (CB c n=false∧Instr.findNow (.int .i64) (.int .i64 n) es.toList 0=some none) ∨
  (CB c n=true∧∃ j e,Instr.findNow (.int .i64) (.int .i64 n) es.toList 0=some (some (j,.bool true))∧es[j]?=some e∧e.key=.int .i64 n∧e.val=.bool true):=by
 obtain⟨⟨l,rfl,hl⟩,_⟩:=hm
 have hks:∀ x ∈ es.toList,IsKey (.int .i64) x.key:=fun x hx=>by
  obtain⟨m,_,h1,_⟩:=Sv (c:=[]) hl hx
  rw[h1];simp[IsKey]
 rcases findNow_spec (d:=.int .i64) (k:=.int .i64 n) (by simp[IsKey]) es.toList 0 hks with⟨h1,h2⟩ | ⟨j,e,h1,h2,h3⟩
 ·left
  refine⟨?_,h1⟩
  cases hb:CB (l.map fun m=>.int .i64 m) n with
  | false=>rfl
  | true =>
   obtain⟨x,hx,hk⟩:=fA hl ((Kr l n).1 hb)
   exact absurd hk (h2 x hx)
 ·right
  have hmem:e ∈ es.toList:=List.mem_of_getElem? h2
  obtain⟨m,hm1,hm2,hm3⟩:=Sv (c:=[]) hl hmem
  rw[h3] at hm2;simp at hm2;subst hm2
  refine⟨(Kr l n).2 hm1,j,e,?_,by simpa using h2,h3,hm3⟩
  rw[h1,hm3,Nat.zero_add]
theorem Uz {t:TypeId} (hs:Kq P t=true):∃ kt et,P.underlying t=some (.map kt et)∧P.underlying kt=some (.int .i64)∧∀ w,(zeroValue et).run P w=.ok (.bool false) w:=by
 unfold Kq at hs
 split at hs
 ·rename_i kt et hu
  simp only[Bool.and_eq_true] at hs
  obtain⟨h1,h2⟩:=hs
  refine⟨kt,et,hu,?_,fun w=>?_⟩
  ·split at h1
   ·assumption
   ·cases h1
  ·split at h2
   ·rename_i hz
    unfold ST at hz
    cases hi:P.info? et with
    | none=>rw[hi] at hz;simp at hz
    | some i =>
     rw[hi] at hz
     cases hzz:i.zero with
     | none=>simp[hzz] at hz
     | some z =>
      simp[hzz] at hz
      have:z=.bool false:=by
       have h0:=Ur (J:=fun _ _=>False) (β:=fun _=>none) (h:=[]) (w:=w) z
       rw[hz,Rep] at h0;exact h0
      subst this
      simp[zeroValue,typeInfo,hi,hzz]
   ·cases h2
 ·cases hs
theorem mw {b:Nat} {x:Blk} {v:Value} (S:SimH J β h w) (hb:Ac h b=some x) (hd:x.dead=false) (hr:Rep J β h w (.omap b) v) :
  ∃ k ob,x.mp=true∧β b=some (k,0)∧v=ee x.sz k∧w.heap[k]?=some ob∧ObjIs x ob∧x.sealed=false∧x.pure=true:=by
 rw[Rep] at hr
 obtain⟨y,k,⟨hy,hm⟩,hr⟩:=hr
 rw[hb] at hy;simp at hy;subst hy
 rcases hr with hr | ⟨hn,hβ,hv⟩
 ·simp[hd] at hr
 ·obtain⟨h1,h2,_,h3⟩:=S.mblk b x hb hd hm
  rcases h3 with⟨k',ob,_,h3,h4,h5⟩ | ⟨_,_,h3,_⟩
  ·rw[hβ] at h3;simp at h3;subst h3
   exact⟨k,ob,hm,hβ,hv,h4,h5,h2,h1⟩
  ·rw[hn] at h3;cases h3
theorem ke {b:Nat} {x:Blk} {v:Value} (S:SimH J β h w) (hb:Ac h b=some x) (hd:x.dead=false) (hz:x.sz=0) (hr:Rep J β h w (.omap b) v) :
  ∃ k es clk,x.mp=true∧β b=some (k,0)∧v=.map (some k)∧w.heap[k]?=some (.map es clk)∧EY x.cells es clk∧x.sealed=false∧x.pure=true:=by
 obtain⟨k,ob,h1,h2,h3,h4,h5,h6,h7⟩:=mw S hb hd hr
 rw[hz] at h3
 rcases h5 with⟨_,es,clk,rfl,h5⟩ | ⟨h5,_⟩
 ·exact⟨k,es,clk,h1,h2,h3,h4,h5,h6,h7⟩
 ·omega
theorem pC {b:Nat} {x:Blk} {v:Value} (S:SimH J β h w) (hb:Ac h b=some x) (hd:x.dead=false) (hz:x.sz=1) (hr:Rep J β h w (.omap b) v) :
  ∃ k s pos,x.mp=true∧β b=some (k,0)∧v=.pointer (some ⟨k,0,none⟩)∧w.heap[k]?=some (.stringIter ⟨⟨s⟩⟩ pos)∧x.cells=[.str s,.int .i64 ((pos:Nat):Int)]∧x.sealed=false∧x.pure=true:=by
 obtain⟨k,ob,h1,h2,h3,h4,h5,h6,h7⟩:=mw S hb hd hr
 rw[hz] at h3
 rcases h5 with⟨h5,_⟩ | ⟨_,s,pos,rfl,h5⟩
 ·omega
 ·exact⟨k,s,pos,h1,h2,h3,h4,h5,h6,h7⟩
theorem Wb {k pos:Nat} {s:ByteArray} (hk:w.heap[k]?=some (.stringIter s pos)):(getObj k).run P w=.ok (.stringIter s pos) w:=by
 simp[getObj,Sem.run,hk]
theorem QU {k pos:Nat} {s:ByteArray} (ob:Obj) (hk:w.heap[k]?=some (.stringIter s pos)):(setObj k ob).run P w=.ok () { w with heap:=w.heap.setIfInBounds k ob }:=by
 simp[setObj,Sem.run,hk]
theorem dV {d:Nat} {t:TypeId} {x:AV} {vx:Value} {k:AV→Bo→O R} (S:SimH J β h w) (hh:KI P d t x k=some r) (hx:Rep J β h w x vx) :
  ∃ val ups,k val ups=some r∧(UpsFree d h ups→∃ vc w',(Instr.range t vx).run P w=.ok vc w'∧OpDone J β h w ups val vc w'):=by
 unfold KI at hh
 split at hh
 ·rename_i s hu
  rw[Rep] at hx;subst hx
  refine⟨_,_,hh,fun hf=>⟨.pointer (some ⟨w.heap.size,0,none⟩),w.alloc (.stringIter ⟨⟨s⟩⟩ 0),?_,?_⟩⟩
  ·simp only[Instr.range,Sem.run_bind,run_underlying hu,Result.andThen_ok,Sem.run_pure];rfl
  have A:=Step.newObj (x:={ dead:=false,sealed:=false,pure:=true,taint:=false,sz:=1,cells:=[.str s,.int .i64 0],mp:=true }) (ob:=.stringIter ⟨⟨s⟩⟩ 0) S (hf.nid (by simp[Ao])) rfl rfl rfl (.inr ⟨rfl,s,0,rfl,rfl⟩) rfl rfl
  refine⟨_,_,A,?_⟩
  rw[Rep]
  exact⟨{ dead:=false,sealed:=false,pure:=true,taint:=false,sz:=1,cells:=[.str s,.int .i64 0],mp:=true },w.heap.size,⟨by simp[Ab,Aa],rfl⟩,.inr ⟨rfl,by simp,rfl⟩⟩
 ·simp at hh
theorem fB {d:Nat} {t:TypeId} {it:AV} {b:Bool} {vi:Value} {k:AV→Bo→O R} (S:SimH J β h w) (hl:Looks g h) (hh:bf g it b k=some r) (hi:Rep J β h w it vi) :
  ∃ val ups,k val ups=some r∧(UpsFree d h ups→∃ vc w',(Instr.next vi b t).run P w=.ok vc w'∧OpDone J β h w ups val vc w'):=by
 unfold bf at hh
 split at hh
 ·rename_i b0
  obtain⟨x,hx,h1⟩:=ub hh
  obtain⟨hc,h2⟩:=uc h1
  simp only[Bool.and_eq_true] at hc
  obtain⟨hmp,hz⟩:=hc
  have hz:=Nat.eq_of_beq_eq_true hz
  obtain⟨hb,hd⟩:=A1 hl hx
  obtain⟨kk,s,pos,_,hβ,rfl,hk,hcl,hsl,hpu⟩:=pC S hb hd hz hi
  rw[hcl] at h2
  simp only at h2
  have hlt:=Nj hk
  cases hp:decide (((pos:Nat):Int)<(s.length:Int)) with
  | true =>
   rw[hp] at h2
   have hp:pos<s.length:=by have:=of_decide_eq_true hp;omega
   have hp':pos<(⟨⟨s⟩⟩:ByteArray).size:=hp
   refine⟨_,_,h2,fun _=>⟨.tuple #[.bool true,goInt pos,.int .i32 ((lU s pos).1:Nat)],{ w with heap:=w.heap.setIfInBounds kk (.stringIter ⟨⟨s⟩⟩ (pos+(lU s pos).2)) },?_,J,β,?_,?_⟩⟩
   ·simp[Instr.next,Wb hk,hp',QU _ hk,lU]
   ·show Step J β h w J β (Cb h b0 _) _
    refine Step.setObj (ob:=.stringIter ⟨⟨s⟩⟩ pos) S hb hd hmp hβ hk (by simp[hlt]) (fun j hj=>by simp[Array.getElem?_setIfInBounds,Ne.symm hj]) (by simp) rfl rfl rfl (.inr ⟨hz,s,pos+(lU s pos).2,rfl,by simp⟩) hd hsl hpu rfl hmp (by unfold An;rw[hz];cases x.mp<;>rfl)
   ·rw[Rep]
    refine⟨_,rfl,?_⟩
    simp[Reps,Rep,goInt]
  | false =>
   rw[hp] at h2
   have hp:¬ pos<s.length:=by have:=of_decide_eq_false hp;omega
   have hp':¬ pos<(⟨⟨s⟩⟩:ByteArray).size:=hp
   refine⟨_,_,h2,fun _=>⟨.tuple #[.bool false],w,?_,J,β,Step.refl S,?_⟩⟩
   ·simp[Instr.next,Wb hk,hp']
   ·rw[Rep]
    refine⟨_,rfl,?_⟩
    simp[Reps,Rep]
 ·simp at hh
theorem TO {d:Nat} {t:TypeId} {k:AV→Bo→O R} (S:SimH J β h w) (hh:Od d none k=some r) :
  ∃ val ups,k val ups=some r∧(UpsFree d h ups→∃ vc w',(Instr.makeMap t none).run P w=.ok vc w'∧OpDone J β h w ups val vc w'):=by
 unfold Od at hh
 refine⟨_,_,hh,fun hf=>⟨.map (some w.heap.size),w.alloc (.map #[] 0),rfl,?_⟩⟩
 have A:=Step.newObj (x:={ dead:=false,sealed:=false,pure:=true,taint:=false,sz:=0,cells:=[],mp:=true }) (ob:=.map #[] 0) S (hf.nid (by simp[Ao])) rfl rfl rfl (.inl ⟨rfl,#[],0,rfl,⟨[],rfl,by simp⟩,stamped_empty 0⟩) rfl rfl
 refine⟨_,_,A,?_⟩
 rw[Rep]
 exact⟨{ dead:=false,sealed:=false,pure:=true,taint:=false,sz:=0,cells:=[],mp:=true },w.heap.size,⟨by simp[Ab,Aa],rfl⟩,.inr ⟨rfl,by simp,rfl⟩⟩
theorem fC {t:TypeId} {kk clk:Nat} {es:Array MapEntry} {c:LA} (hs:Kq P t=true) (hk:w.heap[kk]?=some (.map es clk)) (hr:EY c es clk) (n:Int) :
  (Instr.lookup t (.map (some kk)) (.int .i64 n) false).run P w=.ok (.bool (CB c n)) w:=by
 obtain⟨kt,et,u1,u2,u3⟩:=Uz hs
 have hik:IsKey (.int .i64) (.int .i64 n):=by simp[IsKey]
 rcases GP hr n with⟨g1,g2⟩ | ⟨g1,j,e,g2,_,_,_⟩
 ·rw[g1]
  simp[Instr.lookup,run_underlying u1,run_getObj_map hk,run_checkKey u2 hik,run_findKey u2 g2,u3,Result.andThen]
 ·rw[g1]
  simp[Instr.lookup,run_underlying u1,run_getObj_map hk,run_checkKey u2 hik,run_findKey u2 g2,Result.andThen]
theorem mz {t:TypeId} {kk clk:Nat} {es:Array MapEntry} {c:LA} (hs:Kq P t=true) (hk:w.heap[kk]?=some (.map es clk)) (hr:EY c es clk) (n:Int) :
  ∃ es' clk',(Instr.mapUpdate t (.map (some kk)) (.int .i64 n) (.bool true)).run P w=.ok () { w with heap:=w.heap.setIfInBounds kk (.map es' clk') }∧EY (Mm c n) es' clk':=by
 obtain⟨kt,et,u1,u2,u3⟩:=Uz hs
 have hik:IsKey (.int .i64) (.int .i64 n):=by simp[IsKey]
 rcases GP hr n with⟨g1,g2⟩ | ⟨g1,j,e,g2,g3,g4,g5⟩
 ·refine⟨es.push { key:=.int .i64 n,val:=.bool true,born:=clk },clk+1,?_,?_⟩
  ·simp[Instr.mapUpdate,run_underlying u1,run_getObj_map hk,run_checkKey u2 hik,run_findKey u2 g2,run_setObj_map _ hk,Result.andThen]
  ·obtain⟨⟨l,hl1,hl2⟩,hst⟩:=hr
   refine⟨⟨l++[n],?_,?_⟩,stamped_push hst (fun x hx e=>?_)⟩
   ·unfold Mm;rw[g1,hl1];simp
   ·simp[hl2]
   ·obtain⟨m,hm,hm1,_⟩:=Sv (c:=[]) hl2 hx
    rw[hm1] at e;simp at e;subst e
    rw[hl1] at g1
    rw[(Kr l m).2 hm] at g1;cases g1
 ·refine⟨es.modify j fun e=>{ e with key:=.int .i64 n,val:=.bool true },clk,?_,?_⟩
  ·simp[Instr.mapUpdate,run_underlying u1,run_getObj_map hk,run_checkKey u2 hik,run_findKey u2 g2,g3,g4,run_keyThatStays hik,run_setObj_map _ hk,Result.andThen]
  ·have:es.modify j (fun e=>{ e with key:=.int .i64 n,val:=.bool true })=es:=by
    apply Array.ext_getElem?
    intro i
    rw[Array.getElem?_modify]
    split
    ·rename_i hij;subst hij
     rw[g3];simp;rw[←g4,←g5]
    ·rfl
   rw[this]
   obtain⟨⟨l,hl1,hl2⟩,hst⟩:=hr
   refine⟨⟨l,?_,hl2⟩,hst⟩
   unfold Mm;rw[g1,hl1];rfl
theorem BC:∀ (l:List Int) (n:Int),SY (l.map fun m=>.int .i64 m) n=(l.erase n).map fun m=>.int .i64 m
 | [],n=>by simp[SY]
 | m::r,n=>by
  rw[List.map_cons,SY,List.erase_cons]
  by_cases e:n=m
  ·subst e;simp
  ·have e2:(n==m)=false:=by simpa using e
   have e3:(m==n)=false:=by simpa using Ne.symm e
   rw[e2,e3,cond_false,BC r n];simp
theorem br:∀ (l:List Int) (j:Nat) (n:Int),l.Nodup→l[j]?=some n→l.erase n=l.eraseIdx j
 | [],j,n,_,h=>by simp at h
 | m::r,0,n,_,h=>by simp at h;subst h;simp
 | m::r,j+1,n,hn,h=>by
  simp at h
  rw[List.nodup_cons] at hn
  have e:m≠n:=fun e=>by subst e;exact hn.1 (List.mem_of_getElem? h)
  have e3:(m==n)=false:=by simpa using e
  rw[List.erase_cons,e3,List.eraseIdx_cons_succ,br r j n hn.2 h];simp
theorem CS {α:Type}:∀ (l:List α) (j:Nat),l.length≤j→l.eraseIdx j=l
 | [],j,_=>by simp
 | a::r,0,h=>by simp at h
 | a::r,j+1,h=>by rw[List.eraseIdx_cons_succ,CS r j (by simpa using h)]
theorem Ro {α β:Type} (f:α→β):∀ (l:List α) (j:Nat),(l.eraseIdx j).map f=(l.map f).eraseIdx j
 | [],j=>by simp
 | a::r,0=>by simp
 | a::r,j+1=>by simp[Ro f r j]
theorem aB {es:Array MapEntry} (j:Nat):(es.eraseIdxIfInBounds j).toList=es.toList.eraseIdx j:=by
 unfold Array.eraseIdxIfInBounds
 split
 ·simp only[Array.toList_eraseIdx]
 ·rename_i h;rw[CS _ _ (by simpa using h)]
theorem pD {t kt' ty:TypeId} {kk clk:Nat} {es:Array MapEntry} {c:LA} (hs:Kq P t=true) (hk:w.heap[kk]?=some (.map es clk)) (hr:EY c es clk) (n:Int) :
  ∃ es' clk',(Builtin.delete_ #[t,kt'] ty #[.map (some kk),.int .i64 n]).run P w=.ok (.tuple #[]) { w with heap:=w.heap.setIfInBounds kk (.map es' clk') }∧EY (SY c n) es' clk':=by
 obtain⟨kt,et,u1,u2,u3⟩:=Uz hs
 have hik:IsKey (.int .i64) (.int .i64 n):=by simp[IsKey]
 have hr0:=hr
 obtain⟨⟨l,hl1,hl2⟩,hst⟩:=hr
 have hnd:l.Nodup:=by
  have h3:(es.toList.map (·.key)).Nodup:=hst.2.2
  have h4:es.toList.map (·.key)=l.map fun n=>(.int .i64 n:Value):=by
   have:=congrArg (List.map Prod.fst) hl2
   rw[List.map_map,List.map_map] at this
   exact this
  rw[h4] at h3
  exact List.Pairwise.of_map (fun n=>(.int .i64 n:Value)) (fun a b hab e=>hab (by rw[e])) h3
 rcases GP hr0 n with⟨g1,g2⟩ | ⟨g1,j,e,g2,g3,g4,g5⟩
 ·refine⟨es,clk,by simp[Builtin.delete_,run_underlying u1,run_getObj_map hk,run_checkKey u2 hik,run_findKey u2 g2,run_setObj_map _ hk,Result.andThen],⟨l,?_,hl2⟩,hst⟩
  rw[hl1,BC,List.erase_of_not_mem]
  intro hm
  rw[hl1,(Kr l n).2 hm] at g1;cases g1
 ·refine⟨es.eraseIdxIfInBounds j,clk,by simp[Builtin.delete_,run_underlying u1,run_getObj_map hk,run_checkKey u2 hik,run_findKey u2 g2,run_setObj_map _ hk,Result.andThen],⟨l.eraseIdx j,?_,?_⟩,stamped_erase hst j⟩
  ·have hj:l[j]?=some n:=by
    have h5:=congrArg (fun m=>m[j]?) hl2
    simp only[List.getElem?_map,Array.getElem?_toList,g3,Option.map_some] at h5
    cases hq:l[j]? with
    | none=>rw[hq] at h5;simp at h5
    | some m=>rw[hq] at h5;simp at h5;rw[g4] at h5;simp at h5;rw[h5.1]
   rw[hl1,BC,br l j n hnd hj]
  ·rw[aB,Ro,hl2,←Ro]
theorem TP {k:Nat} {es:Array MapEntry} {clk:Nat} (hk:w.heap[k]?=some (.map es clk)):Am w k=0:=by simp[Am,hk]
theorem Oj {b i gn n s:Nat} {v:Value} {k:Blk→LA→O R} (S:SimH J β h w) (hl:Looks g h) (hh:Z_ g b i gn k=some r) (hr:Rep J β h w (.nd b (.ref i gn n s)) v) :
  ∃ x l kk es clk,k x l=some r∧v=.map (some kk)∧w.heap[kk]?=some (.map es clk)∧EY l es clk∧s=0∧(Ac h b=some x∧x.gen=gn∧An x=true∧x.mp=true) ∧
   (∀ (es':Array MapEntry) (clk':Nat) (l':LA),EY l' es' clk'→∃ J' β',Step J β h w J' β' (Ab [(b,some { x with cells:=x.cells.set i (A6 l' 0 0) })] h) { w with heap:=w.heap.setIfInBounds kk (.map es' clk') }) ∧
   ∀ (es':Array MapEntry) (clk' t:Nat) (l':LA),qT l' t es' clk'→∃ J' β',Step J β h w J' β' (Ab [(b,some { x with cells:=x.cells.set i (A6 l' 1 0),pend:=x.pend+1 })] h) { w with heap:=w.heap.setIfInBounds kk (.map es' clk') } ∧
    ∃ kr o n c,β' b=some (kr,o)∧(dec o)[i]?=some (some (true,kk,t+1,n,c)):=by
 unfold Z_ at hh
 obtain⟨x,hx,h1⟩:=ub hh
 obtain⟨hc,h2⟩:=uc h1
 simp only[Bool.and_eq_true] at hc
 obtain⟨hn,hz,hg⟩:=hc
 have hz:=Nat.eq_of_beq_eq_true hz
 have hg:=Nat.eq_of_beq_eq_true hg
 obtain⟨y,hy,h3⟩:=ub h2
 obtain⟨l,hl',h4⟩:=ub h3
 rw[List.head?_drop] at hy
 obtain⟨hb,hd⟩:=A1 hl hx
 obtain⟨kr,o,hβ,hN,_,_,hm,_⟩:=Ji S hb hd hn
 obtain⟨ht,cs,ty,fr,hk,hfr,hcs,hdl,hall,huq⟩:=hN
 obtain⟨hsh,_,_,hs2,hnr⟩:=MJ hb hd hr
 obtain⟨k',o',e,h5,he,rfl,_⟩:=hnr hg
 rw[hβ] at h5;simp at h5;obtain⟨rfl,rfl⟩:=h5
 have hs0:s=0:=by omega
 subst hs0
 obtain⟨cell,hc1,hv,hI⟩:=hall i e he
 rw[hy] at hc1;simp at hc1;subst hc1
 have hz2:x.sz - 2=0:=by omega
 match e,he,hI with
 | none,he,hI=>rcases hI with rfl | rfl<;>simp[Sj] at hl'
 | some (false,_,_,_,_),he,hI=>simp[InnerIs] at hI;subst hI;simp[Sj] at hl'
 | some (true,kk,a,n',cap),he,hI =>
  rw[hz2] at hI
  obtain⟨l1,es,clk,h6,hI⟩:=hI
  rcases hI with⟨rfl,rfl,h7⟩ | ⟨t,rfl,rfl,_⟩
  ·simp[Sj,A6] at hl';subst hl'
   refine⟨x,l1,kk,es,clk,h4,rfl,h6,h7,rfl,⟨hb,hg,hn,hm⟩,fun es' clk' l' hr'=>?_,fun es' clk' t l' hr'=>?_⟩
   ·have hs:=heap_set (o':=.map es' clk') h6
    have hI':InnerIs (J false) { w with heap:=w.heap.setIfInBounds kk (.map es' clk') } (x.sz - 2) (some (true,kk,0,n',cap)) (A6 l' 0 0):=by
     rw[hz2];exact⟨l',es',clk',hs.1,.inl ⟨rfl,rfl,hr'⟩⟩
    obtain⟨J',β',A⟩:=Step.inner (w':={ w with heap:=w.heap.setIfInBounds kk (.map es' clk') }) S hb hd hn hβ he (fun j hj=>hs.2 j hj) (by simp) rfl rfl rfl (by rw[TP h6];exact Nat.zero_le _) hI'
    exact⟨J',β',A⟩
   ·have hs:=heap_set (o':=.map es' clk') h6
    have hI':InnerIs (J false) { w with heap:=w.heap.setIfInBounds kk (.map es' clk') } (x.sz - 2) (some (true,kk,t+1,n',cap)) (A6 l' 1 0):=by
     rw[hz2];exact⟨l',es',clk',hs.1,.inr ⟨t,rfl,rfl,hr'⟩⟩
    obtain⟨J',β',A,hβ'⟩:=Step.innerP (w':={ w with heap:=w.heap.setIfInBounds kk (.map es' clk') }) S hb hd hn hz hβ he (fun j hj=>hs.2 j hj) (by simp) rfl rfl rfl (by rw[TP h6];exact Nat.zero_le _) hI'
    exact⟨J',β',A,kr,_,n',cap,hβ',by rw[H5,List.getElem?_set_self (List.getElem?_eq_some_iff.1 he).1]⟩
  ·simp[Sj,A6,Nat.beq] at hl'
theorem l6 {t:TypeId} {kk clk:Nat} {es:Array MapEntry} {c:LA} (hs:Kq P t=true) (hk:w.heap[kk]?=some (.map es clk)) (hr:EY c es clk) (n:Int) :
  ∃ es' clk' u t',(Instr.mapEntry t (.map (some kk)) (.int .i64 n)).run P w=.ok (.tuple #[u,.int .i64 (t':Nat)]) { w with heap:=w.heap.setIfInBounds kk (.map es' clk') }∧qT (Mm c n) t' es' clk':=by
 obtain⟨kt,et,u1,u2,u3⟩:=Uz hs
 have hik:IsKey (.int .i64) (.int .i64 n):=by simp[IsKey]
 have hr0:=hr
 obtain⟨⟨l,hl1,hl2⟩,hst⟩:=hr
 have hkeys:es.toList.map (·.key)=l.map fun n=>(.int .i64 n:Value):=by
  have:=congrArg (List.map Prod.fst) hl2
  rw[List.map_map,List.map_map] at this
  exact this
 have hvals:∀ e ∈ es.toList,e.val=.bool true:=fun e he=>by
  obtain⟨m,_,_,h3⟩:=Sv (c:=[]) hl2 he;exact h3
 rcases GP hr0 n with⟨g1,g2⟩ | ⟨g1,j,e,g2,g3,g4,g5⟩
 ·refine⟨es.push { key:=.int .i64 n,val:=.bool false,born:=clk },clk+1,.bool false,clk,?_,⟨l++[n],?_,?_⟩,?_,?_,?_⟩
  ·simp[Instr.mapEntry,run_underlying u1,run_getObj_map hk,run_checkKey u2 hik,run_findKey u2 g2,run_setObj_map _ hk,u3,Result.andThen,goInt]
  ·unfold Mm;rw[g1,hl1];simp
  ·simp[hkeys]
  ·exact⟨{ key:=.int .i64 n,val:=.bool false,born:=clk },by simp,rfl⟩
  ·intro e he hb
   simp only[Array.toList_push,List.mem_append,List.mem_singleton] at he
   rcases he with he | rfl
   ·exact hvals e he
   ·exact absurd rfl hb
  ·refine stamped_push hst (fun x hx e=>?_)
   obtain⟨m,hm,hm1,_⟩:=Sv (c:=[]) hl2 hx
   rw[hm1] at e;simp at e;subst e
   rw[hl1] at g1
   rw[(Kr l m).2 hm] at g1;cases g1
 ·refine⟨es,clk,.bool true,e.born,?_,⟨l,?_,hkeys⟩,⟨e,List.mem_of_getElem? (by rw[Array.getElem?_toList];exact g3),rfl⟩,fun e' he' _=>hvals e' he',hst⟩
  ·have:es.modify j (fun e=>{ e with key:=.int .i64 n })=es:=by
    apply Array.ext_getElem?
    intro i
    rw[Array.getElem?_modify]
    split
    ·rename_i hij;subst hij
     rw[g3];simp;rw[←g4]
    ·rfl
   simp[Instr.mapEntry,run_underlying u1,run_getObj_map hk,run_checkKey u2 hik,run_findKey u2 g2,g3,g4,run_keyThatStays hik,run_setObj_map _ hk,Result.andThen,goInt,this]
  ·unfold Mm;rw[g1,hl1];rfl
theorem QV {t:TypeId} {m key:AV} {vm vk:Value} {k:AV→Bo→O R} (S:SimH J β h w) (hl:Looks g h) (hh:N3 P g t m key k=some r) (hm:Rep J β h w m vm) (hk:Rep J β h w key vk) :
  ∃ val ups,k val ups=some r∧∃ u w',(Instr.mapEntry t vm vk).run P w=.ok u w'∧OpDone J β h w ups val u w':=by
 unfold N3 at hh
 split at hh
 ·rename_i b i gn _ _ n
  obtain⟨hs,h1⟩:=uc hh
  simp only[Rep] at hk;subst hk
  obtain⟨x,l,kk,es,clk,h2,rfl,h3,h4,_,⟨hb,hg,hn,hmx⟩,_,h5⟩:=Oj S hl h1 hm
  obtain⟨es',clk',u,t',g1,g2⟩:=l6 hs h3 h4 n
  obtain⟨J',β',A,kr,o,n',c,g3,g4⟩:=h5 es' clk' t' _ g2
  refine⟨_,_,h2,_,_,g1,J',β',A,?_⟩
  rw[Rep]
  refine⟨_,rfl,?_⟩
  rw[Reps]
  refine⟨_,_,rfl,by rw[Rep];trivial,?_⟩
  rw[Reps]
  refine⟨_,_,rfl,?_,by rw[Reps]⟩
  rw[Rep]
  refine⟨trivial,{ x with cells:=x.cells.set i (A6 (Mm l n) 1 0),pend:=x.pend+1 },⟨by simp only[Ab];rw[Aa,if_pos rfl],hmx⟩,.inr ⟨?_,hn,fun _=>⟨Nat.le_refl _,fun _=>⟨kr,o,kk,t',n',c,g3,g4,rfl⟩⟩⟩⟩
  show gn≤x.gen
  omega
 ·simp at hh
theorem GS {t:TypeId} {m s val:AV} {vm vs vv:Value} {k:AV→Bo→O R} (S:SimH J β h w) (hl:Looks g h) (hh:It g m s val k=some r) (hm:Rep J β h w m vm) (hs:Rep J β h w s vs) (hv:Rep J β h w val vv) :
  ∃ ups,k .undef ups=some r∧∃ J' β' w',(Instr.entryStore t vm vs vv).run P w=.ok () w'∧Step J β h w J' β' (Ab ups h) w':=by
 unfold It at hh
 split at hh
 ·rename_i b i gn n0 s0 b' i' g' p
  obtain⟨c1,h1⟩:=uc hh
  obtain⟨c2,h2⟩:=uc h1
  obtain⟨x,hx,h3⟩:=ub h2
  obtain⟨c3,h4⟩:=uc h3
  simp only[Bool.and_eq_true] at c1 c3
  have e1:=Nat.eq_of_beq_eq_true c1.1
  have e2:=Nat.eq_of_beq_eq_true c1.2
  have e3:=Nat.eq_of_beq_eq_true c2
  subst e1 e2 e3
  obtain⟨hn,hz,hg,hp⟩:=c3
  have hz:=Nat.eq_of_beq_eq_true hz
  have hg:=Nat.eq_of_beq_eq_true hg
  have hp:=Nat.eq_of_beq_eq_true hp
  obtain⟨y,hy,h5⟩:=ub h4
  obtain⟨l,hl',h6⟩:=ub h5
  rw[List.head?_drop] at hy
  obtain⟨hb,hd⟩:=A1 hl hx
  obtain⟨kr,o,hβ,hN,_,_,hmx,_⟩:=Ji S hb hd hn
  obtain⟨ht,cs,ty,fr,hk,hfr,hcs,hdl,hall,huq⟩:=hN
  obtain⟨_,_,_,hs2,hnr⟩:=MJ hb hd hm
  obtain⟨k',o',e,f1,he,rfl,_⟩:=hnr hg
  rw[hβ] at f1;simp at f1;obtain⟨rfl,rfl⟩:=f1
  obtain⟨_,_,_,hst⟩:=MJ hb hd hs
  obtain⟨k2,o2,kk,t0,n2,c2,f2,f3,rfl⟩:=(hst hg).2 hp
  rw[hβ] at f2;simp at f2;obtain⟨rfl,rfl⟩:=f2
  rw[he] at f3;simp at f3;subst f3
  rw[Rep] at hv;subst hv
  have hs0:s0=0:=by omega
  subst hs0
  obtain⟨cell,hc1,_,hI⟩:=hall i _ he
  rw[hy] at hc1;simp at hc1;subst hc1
  have hz2:x.sz - 2=0:=by omega
  rw[hz2] at hI
  obtain⟨l1,es,clk,q1,hI⟩:=hI
  rcases hI with⟨q2,_⟩ | ⟨t,q2,rfl,hP⟩
  ·omega
  ·have:t=t0:=by omega
   subst this
   simp[dB,A6] at hl';subst hl'
   obtain⟨⟨li,hli,hkeys⟩,⟨e0,he0,hb0⟩,hvals,hstm⟩:=hP
   obtain⟨j,hj⟩:=List.getElem?_of_mem he0
   rw[Array.getElem?_toList] at hj
   have huniq:∀ (i1 i2:Nat) a b,es[i1]?=some a→es[i2]?=some b→a.born=b.born→i1=i2:=by
    intro i1 i2 a b h1 h2 h3
    have h4:=hstm.2.1
    have g1:(es.toList.map (·.born))[i1]?=some a.born:=by rw[List.getElem?_map,Array.getElem?_toList,h1];rfl
    have g2:(es.toList.map (·.born))[i2]?=some a.born:=by rw[List.getElem?_map,Array.getElem?_toList,h2,h3];rfl
    obtain⟨w1,w2⟩:=List.getElem?_eq_some_iff.1 g1
    obtain⟨w3,w4⟩:=List.getElem?_eq_some_iff.1 g2
    exact(List.getElem_inj h4).1 (w2.trans w4.symm)
   obtain⟨j',hj'⟩:∃ j',es.findIdx? (fun e=>(e.born:Int)==(t:Nat))=some j':=by
    cases hf:es.findIdx? (fun e=>(e.born:Int)==(t:Nat)) with
    | some j'=>exact⟨j',rfl⟩
    | none =>
     rw[Array.findIdx?_eq_none_iff] at hf
     have:=hf e0 (Array.mem_toList_iff.1 he0)
     simp at this;omega
   obtain⟨e1,hje,hbe⟩:∃ e1,es[j']?=some e1∧e1.born=t:=by
    rw[Array.findIdx?_eq_some_iff_getElem] at hj'
    obtain⟨w1,w2,_⟩:=hj'
    exact⟨es[j'],by simp[w1],by simp at w2;omega⟩
   have hmr:EY l1 (es.modify j' fun e=>{ e with val:=.bool true }) clk:=by
    refine⟨⟨li,hli,?_⟩,stamped_modify hstm _ _ (fun _ _=>rfl) (fun _ _ _=>rfl)⟩
    have hk2:=modify_keys (es:=es) j' (fun e=>{ e with val:=.bool true }) (fun _ _=>rfl)
    rw[hkeys] at hk2
    have hv2:∀ e ∈ (es.modify j' fun e=>{ e with val:=.bool true }).toList,e.val=.bool true:=by
     intro e hem
     obtain⟨q,hq⟩:=List.getElem?_of_mem hem
     rw[Array.getElem?_toList,Array.getElem?_modify] at hq
     split at hq
     ·obtain⟨e',_,rfl⟩:=Option.map_eq_some_iff.1 hq;rfl
     ·rename_i hne
      refine hvals e (List.mem_of_getElem? (by rw[Array.getElem?_toList];exact hq)) (fun hbn=>hne ?_)
      exact huniq j' q e1 e hje hq (by rw[hbe,hbn])
    generalize (es.modify j' fun e=>{ e with val:=.bool true }).toList=L at hk2 hv2
    clear hkeys hli huniq
    induction li generalizing L with
    | nil=>cases L with
     | nil=>rfl
     | cons a r=>simp at hk2
    | cons m r ih=>cases L with
     | nil=>simp at hk2
     | cons a q =>
      simp at hk2
      rw[List.map_cons,List.map_cons,ih q hk2.2 (fun e he=>hv2 e (by simp[he])),hk2.1,hv2 a (by simp)]
   have hset:=heap_set (o':=.map (es.modify j' fun e=>{ e with val:=.bool true }) clk) q1
   have hI':InnerIs (J false) { w with heap:=w.heap.setIfInBounds kk (.map (es.modify j' fun e=>{ e with val:=.bool true }) clk) } (x.sz - 2) (some (true,kk,0,n2,c2)) (A6 l1 0 0):=by
    rw[hz2];exact⟨l1,_,_,hset.1,.inl ⟨rfl,rfl,hmr⟩⟩
   obtain⟨J',β',A,_⟩:=Step.innerP (w':={ w with heap:=w.heap.setIfInBounds kk (.map (es.modify j' fun e=>{ e with val:=.bool true }) clk) }) S hb hd hn hz hβ he (fun j hj=>hset.2 j hj) (by simp) rfl rfl rfl (by rw[TP q1];exact Nat.zero_le _) hI'
   refine⟨_,h6,J',β',_,?_,A⟩
   simp[P3,Instr.entryStore,run_getObj_map q1,Go.asInt,Go.asIntOf,hj',run_setObj_map _ q1,Result.andThen]
 ·simp at hh
theorem fD {t:TypeId} {m key:AV} {c:Bool} {vm vk:Value} {k:AV→O R} (S:SimH J β h w) (hl:Looks g h) (hh:b_ P g t m key c k=some r) (hm:Rep J β h w m vm) (hk:Rep J β h w key vk) :
  ∃ v vc,k v=some r∧(Instr.lookup t vm vk c).run P w=.ok vc w∧Rep J β h w v vc:=by
 unfold b_ at hh
 split at hh
 ·rename_i b n
  obtain⟨hs,h1⟩:=uc hh
  obtain⟨x,hx,h2⟩:=ub h1
  obtain⟨hmp,h3⟩:=uc h2
  simp only[Bool.and_eq_true] at hmp
  obtain⟨hmp,hz⟩:=hmp
  have hz:=Nat.eq_of_beq_eq_true hz
  obtain⟨hb,hd⟩:=A1 hl hx
  rw[Rep] at hk;subst hk
  obtain⟨kk,es,clk,_,hβ,rfl,hk,hr,_,_⟩:=ke S hb hd hz hm
  exact⟨_,.bool (CB x.cells n),h3,fC hs hk hr n,by rw[Rep]⟩
 ·obtain⟨hs,h1⟩:=uc hh
  obtain⟨x,l,kk,es,clk,h2,rfl,h3,h4,_⟩:=Oj S hl h1 hm
  rw[Rep] at hk;subst hk
  exact⟨_,_,h2,fC hs h3 h4 _,by rw[Rep]⟩
 ·simp at hh
theorem dW {t:TypeId} {m key val:AV} {vm vk vv:Value} {k:AV→Bo→O R} (S:SimH J β h w) (hl:Looks g h) (hh:KH P g t m key val k=some r) (hm:Rep J β h w m vm) (hk:Rep J β h w key vk) (hv:Rep J β h w val vv) :
  ∃ ups,k .undef ups=some r∧∃ J' β' w',(Instr.mapUpdate t vm vk vv).run P w=.ok () w'∧Step J β h w J' β' (Ab ups h) w':=by
 unfold KH at hh
 split at hh
 ·rename_i b n
  obtain⟨hs,h1⟩:=uc hh
  obtain⟨x,hx,h2⟩:=ub h1
  obtain⟨hmp,h3⟩:=uc h2
  simp only[Bool.and_eq_true] at hmp
  obtain⟨hmp,hz⟩:=hmp
  have hz:=Nat.eq_of_beq_eq_true hz
  obtain⟨hb,hd⟩:=A1 hl hx
  simp only[Rep] at hk hv;subst hk hv
  obtain⟨kk,es,clk,_,hβ,rfl,hk,hr,hsl,hpu⟩:=ke S hb hd hz hm
  obtain⟨es',clk',g1,g2⟩:=mz hs hk hr n
  refine⟨_,h3,J,β,_,g1,?_⟩
  exact Step.setObj S hb hd hmp hβ hk (heap_set hk).1 (fun j hj=>(heap_set hk).2 j hj) (by simp) rfl rfl rfl (.inl ⟨hz,_,_,rfl,g2⟩) hd hsl hpu rfl hmp (by unfold An;rw[hz];cases x.mp<;>rfl)
 ·obtain⟨hs,h1⟩:=uc hh
  simp only[Rep] at hk hv;subst hk hv
  obtain⟨x,l,kk,es,clk,h2,rfl,h3,h4,_,_,h5,_⟩:=Oj S hl h1 hm
  obtain⟨es',clk',g1,g2⟩:=mz hs h3 h4 _
  obtain⟨J',β',A⟩:=h5 es' clk' _ g2
  exact⟨_,h2,J',β',_,g1,A⟩
 ·simp at hh
theorem aC {t tk ty:TypeId} {m key:AV} {vm vk:Value} {k:AV→Bo→O R} (S:SimH J β h w) (hl:Looks g h) (hh:AT P g t m key k=some r) (hm:Rep J β h w m vm) (hk:Rep J β h w key vk) :
  ∃ val ups,k val ups=some r∧∃ u w',(Builtin.delete_ #[t,tk] ty #[vm,vk]).run P w=.ok u w'∧OpDone J β h w ups val u w':=by
 unfold AT at hh
 split at hh
 ·obtain⟨hs,h1⟩:=uc hh
  simp only[Rep] at hk;subst hk
  obtain⟨x,l,kk,es,clk,h2,rfl,h3,h4,_,_,h5,_⟩:=Oj S hl h1 hm
  obtain⟨es',clk',g1,g2⟩:=pD (kt':=tk) (ty:=ty) hs h3 h4 _
  obtain⟨J',β',A⟩:=h5 es' clk' _ g2
  exact⟨_,_,h2,_,_,g1,J',β',A,by rw[Rep];exact⟨[],rfl,by rw[Reps]⟩⟩
 ·simp at hh
theorem nA {c:LA} {es:Array MapEntry} {clk:Nat} (hr:EY c es clk):es.size=c.length:=by
 obtain⟨⟨l,h1,h2⟩,_⟩:=hr
 have:=congrArg List.length h2
 simp at this
 rw[h1];simp[this]
theorem fE {t ty:TypeId} {x:AV} {vx:Value} {k:AV→O R} (S:SimH J β h w) (hl:Looks g h) (hh:bc P g t x k=some r) (hx:Rep J β h w x vx) :
  ∃ v vc,k v=some r∧(Builtin.len_ #[t] ty #[vx]).run P w=.ok vc w∧Rep J β h w v vc:=by
 unfold bc at hh
 split at hh
 ·rename_i b i gn n s
  cases hs:Nat.beq s 0 with
  | true =>
   rw[hs,cond_true] at hh
   obtain⟨hT,h1⟩:=uc hh
   obtain⟨y,l,kk,es,clk,h2,rfl,h3,h4,_⟩:=Oj S hl h1 hx
   refine⟨_,.int .i64 l.length,h2,?_,by rw[Rep]⟩
   unfold mg at hT
   split at hT
   ·rename_i hu
    simp[Builtin.len_,run_underlying hu,run_getObj_map h3,goInt,nA h4,Result.andThen]
   ·cases hT
  | false =>
   rw[hs,cond_false] at hh
   obtain⟨hT,h1⟩:=uc hh
   have hx0:=hx
   rw[Rep] at hx
   obtain⟨hsh,_⟩:=hx
   have hs':s≠0:=Hl hs
   obtain⟨A,c,rfl,_⟩:=hsh.2 (by omega)
   refine⟨_,.int .i64 n,h1,?_,by rw[Rep]⟩
   unfold GC at hT
   split at hT
   ·rename_i hu
    simp[Builtin.len_,run_underlying hu,goInt]
   ·cases hT
 ·rename_i b n
  obtain⟨hT,h1⟩:=uc hh
  rw[Rep] at hx
  obtain⟨⟨k0,rfl⟩,_⟩:=hx
  refine⟨_,.int .i64 n,h1,?_,by rw[Rep]⟩
  unfold GC at hT
  split at hT
  ·rename_i hu
   simp[Builtin.len_,run_underlying hu,goInt]
  ·cases hT
 ·obtain⟨v,h1,h2⟩:=ub hh
  obtain⟨vc,h3,h4⟩:=iP (ty:=ty) h1 hx
  exact⟨v,vc,h2,h3,h4⟩
end
end Gx

namespace Gx
open Go
section
variable {R:Type} {r:R} {P:Program} {J J':Bool→Nat→Prop} {β β':Aw} {h h':Ag} {w w':World} {g:Ar}
def MO:bn→bn
 | none=>none
 | some (_,q)=>some (false,q)
def rE:bn→Option (Nat×Nat)
 | some (true,kk,a,_,_)=>some (kk,a)
 | _=>none
theorem nB {e:bn} {j a:Nat} (h:rE e=some (j,a)):∃ n c,e=some (true,j,a,n,c):=by
 match e,h with
 | none,h=>simp[rE] at h
 | some (false,q),h=>simp[rE] at h
 | some (true,kk,a',n,c),h=>simp[rE] at h;obtain⟨rfl,rfl⟩:=h;exact⟨n,c,rfl⟩
theorem nC {s:Nat} {e:bn}:P3 s (MO e)=P3 s e:=by
 match e with
 | none=>rfl
 | some (_,k,a,n,c)=>cases s<;>rfl
theorem Sw {b d c:Nat} {x y z:Blk} (h:Ac [(b,x),(d,y)] c=some z):(c=b∧z=x)∨(c≠b∧c=d∧z=y):=by
 rw[Ac] at h
 cases hb:Nat.beq b c with
 | true=>rw[hb] at h;simp at h;exact .inl ⟨(Nat.eq_of_beq_eq_true hb).symm,h.symm⟩
 | false=>rw[hb] at h;exact .inr ⟨fun e=>Hl hb e.symm,B5 h⟩
theorem Step.take (S:SimH J β h w) {b i d k o:Nat} {x:Blk} {e:bn} {cell:AV} {p:LA×Nat} (hb:Ac h b=some x) (hd:x.dead=false) (hn:An x=true) (hβ:β b=some (k,o)) (h3:1≤x.sz - 2)
  (he:(dec o)[i]?=some e) (hc:x.cells[i]?=some cell) (hp:Je (x.sz - 2) cell=some p) (hdn:Ac h d=none) :
  ∃ J' β',Step J β h w J' β' (Ab [(b,some { x with cells:=x.cells.set i .undef,gen:=x.gen+1 }),(d,some { dead:=false,sealed:=false,pure:=true,taint:=false,sz:=x.sz - 2,cells:=p.1 })] h) w ∧
   Rep J' β' (Ab [(b,some { x with cells:=x.cells.set i .undef,gen:=x.gen+1 }),(d,some { dead:=false,sealed:=false,pure:=true,taint:=false,sz:=x.sz - 2,cells:=p.1 })] h) w (.own d 0 p.2) (P3 (x.sz - 2) e):=by
 obtain⟨k0,o0,h1,hN,hpu,hs,hm,hJ⟩:=Ji S hb hd hn
 rw[hβ] at h1;simp at h1;obtain⟨rfl,rfl⟩:=h1
 have hN':=hN
 obtain⟨_,cs,ty,fr,hk,_,hcl,hdl,hall,huq⟩:=hN'
 have hdb:d≠b:=fun e=>by subst e;rw[hdn] at hb;cases hb
 have hi:i<x.cells.length:=(List.getElem?_eq_some_iff.1 hc).1
 obtain⟨c1,hc1,hv,hI⟩:=hall i e he
 rw[hc] at hc1;simp at hc1;subst hc1
 generalize hx':({ x with cells:=x.cells.set i .undef,gen:=x.gen+1 }:Blk)=x'
 generalize hy:({ dead:=false,sealed:=false,pure:=true,taint:=false,sz:=x.sz - 2,cells:=p.1 }:Blk)=y
 have x1:x'.dead=false:=by rw[←hx'];exact hd
 have x2:x'.sealed=false:=by rw[←hx'];exact hs
 have x3:x'.pure=true:=by rw[←hx'];exact hpu
 have x4:x'.mp=true:=by rw[←hx'];exact hm
 have x5:x'.sz=x.sz:=by rw[←hx']
 have x6:x'.cells=x.cells.set i .undef:=by rw[←hx']
 have x7:x'.taint=x.taint:=by rw[←hx']
 have x8:x'.gen=x.gen+1:=by rw[←hx']
 have x9:An x'=true:=by rw[Ey (by rw[x4,hm]) x5];exact hn
 have y1:y.dead=false:=by rw[←hy]
 have y2:y.sealed=false:=by rw[←hy]
 have y3:y.pure=true:=by rw[←hy]
 have y4:y.mp=false:=by rw[←hy]
 have y5:y.sz=x.sz - 2:=by rw[←hy]
 have y6:y.cells=p.1:=by rw[←hy]
 have y7:y.taint=false:=by rw[←hy]
 have y8:y.ty=none:=by rw[←hy]
 obtain⟨pl,hpl⟩:∃ pl,pl=rE e:=⟨_,rfl⟩
 have hplT:∀ j a,pl=some (j,a)→∃ n c,e=some (true,j,a,n,c):=fun j a hj=>nB (by rw[←hpl];exact hj)
 generalize hβ1:(fun c=>if c=b then some (k,enc ((dec o).set i (MO e))) else if c=d then pl else β c:Aw)=β1
 have b1:β1 b=some (k,enc ((dec o).set i (MO e))):=by rw[←hβ1];simp
 have b2:β1 d=pl:=by rw[←hβ1];simp[hdb]
 have hT:∀ j,Terr β1 b x' j→Terr β b x j∧∀ a,pl≠some (j,a):=by
  rintro j ⟨k1,o1,e1,e2⟩
  rw[b1] at e1;simp at e1;obtain⟨rfl,rfl⟩:=e1
  rcases e2 with rfl | ⟨_,i',a',n',c2,e2⟩
  ·refine⟨Terr.at hβ,fun a hj=>?_⟩
   obtain⟨n,c,h5⟩:=hplT _ _ hj
   rw[h5] at he
   exact(huq i _ a n c he).1 rfl
  ·rw[H5] at e2
   by_cases ei:i'=i
   ·subst ei
    rw[List.getElem?_set_self (by omega)] at e2
    match e,e2 with
    | none,e2=>simp[MO] at e2
    | some (w0,q),e2=>simp[MO] at e2
   ·rw[List.getElem?_set_ne (Ne.symm ei)] at e2
    refine⟨⟨_,o,hβ,.inr ⟨hn,i',a',n',c2,e2⟩⟩,fun a hj=>?_⟩
    obtain⟨n,c,h5⟩:=hplT _ _ hj
    rw[h5] at he
    exact ei ((huq i _ a n c he).2 i' a' n' c2 e2)
 have hT2:∀ j,Terr β1 d y j→Terr β b x j∧∃ a,pl=some (j,a):=by
  intro j ht
  obtain⟨a,ht⟩:=ht.ord y4
  rw[b2] at ht
  obtain⟨n,c,h5⟩:=hplT _ _ ht
  exact⟨⟨k,o,hβ,.inr ⟨hn,i,a,n,c,by rw[he,h5]⟩⟩,a,ht⟩
 have hN2:NestIs (J false) w k (enc ((dec o).set i (MO e))) x':=by
  refine hN.upd (fun _ _=>rfl) hi x6 x5 x7 (H5 _) (fun cs1 ty1 fr1 h2=>⟨cs1,h2,rfl,fun _ _=>rfl,fun h4=>by rw[he] at h4;rw[nC];exact h4⟩) (fun _ _ _ _ _ _ _=>rfl) ?_ (fun j a n c e2=>?_)
  ·match e with
   | none=>exact .inr rfl
   | some (w0,kk,a,n,c)=>exact rfl
  ·match e,e2 with
   | none,e2=>simp[MO] at e2
   | some (w0,q),e2=>simp[MO] at e2
 have M:MapRep J β1 w b x':=⟨x3,x2,fun j ht=>hJ j (hT j ht).1,.inr ⟨k,_,x9,b1,hN2⟩⟩
 have hcases:=Sp h3 hI hp
 have B:iM J β1 [(b,x'),(d,y)] w d y:=by
  rcases hcases with⟨e1,_,e3⟩ | ⟨kk,a,cap,cs2,ty2,fr2,e1,_,g1,g2,g3,g4,g5,g6⟩
  ·left
   rw[b2,hpl,e1,y6,e3];exact⟨rfl,rfl⟩
  ·right
   refine⟨kk,a,cs2,ty2,fr2,by rw[b2,hpl,e1];rfl,g3,⟨g4,by rw[y8];exact TyOk.none⟩,?_,⟨fun _=>?_,fun hh=>by rw[y3] at hh;cases hh⟩,fun _ g hj=>?_,fun hh=>by rw[y2] at hh;cases hh⟩
   ·rw[y6,g1];have:=Nat.mul_le_mul_right (x.sz - 2) g2;omega
   ·rw[y7,y6];exact g6
   ·exact hJ kk ⟨k,o,hβ,.inr ⟨hn,i,a,p.2,cap,by rw[he,e1]⟩⟩ g hj
 have S1:SimH J β1 [(b,x'),(d,y)] w:=by
  refine⟨S.jlt,S.jft,S.gl,fun c z hz hdz hmz=>?_,fun c z hz hdz hmz=>?_,fun c c' z z' j hz hz' _ _ _ ht ht'=>?_⟩
  ·rcases Sw hz with⟨rfl,rfl⟩ | ⟨_,rfl,rfl⟩
   ·rw[x4] at hmz;cases hmz
   ·exact B
  ·rcases Sw hz with⟨rfl,rfl⟩ | ⟨_,rfl,rfl⟩
   ·exact M
   ·rw[y4] at hmz;cases hmz
  ·rcases Sw hz with⟨rfl,rfl⟩ | ⟨_,rfl,rfl⟩<;>rcases Sw hz' with⟨rfl,rfl⟩ | ⟨_,rfl,rfl⟩
   ·rfl
   ·obtain⟨_,a,h5⟩:=hT2 j ht'
    exact absurd h5 ((hT j ht).2 a)
   ·obtain⟨_,a,h5⟩:=hT2 j ht
    exact absurd h5 ((hT j ht').2 a)
   ·rfl
 have hH:∀ c,Ac (Ab [(b,some x'),(d,some y)] h) c=if c=d then some y else if c=b then some x' else Ac h c:=by
  intro c;simp only[Ab];rw[Aa,Aa]
 have h1b:Ac [(b,x'),(d,y)] b=some x':=by simp[Ac]
 have h1d:Ac [(b,x'),(d,y)] d=some y:=by simp[Ac,Sq (Ne.symm hdb)]
 have A:=Step.merge (J1:=J) (H:=Ab [(b,some x'),(d,some y)] h) (D:=[b,d]) (ids:=[b]) S S1
  (fun c hc=>by rw[hH,if_neg (fun e=>hc (by simp[e])),if_neg (fun e=>hc (by simp[e]))])
  (fun c z hc hz hdz=>by
   rw[hH] at hz
   by_cases e1:c=d
   ·rw[if_pos e1] at hz;simp at hz;subst hz;subst e1;exact⟨_,h1d,Bumped.rfl⟩
   ·rw[if_neg e1] at hz
    have:c=b:=by simpa[e1] using hc
    rw[if_pos this] at hz;simp at hz;subst hz;subst this;exact⟨_,h1b,Bumped.rfl⟩)
  (fun c z hz=>by
   rcases Sw hz with⟨rfl,rfl⟩ | ⟨h5,rfl,rfl⟩
   ·exact⟨by simp,_,by rw[hH,if_neg (Ne.symm hdb),if_pos rfl],Bumped.rfl⟩
   ·exact⟨by simp,_,by rw[hH,if_pos rfl],Bumped.rfl⟩)
  (fun c z hc hni=>by
   have:c=d:=by
    rcases List.mem_cons.1 hc with rfl | hc
    ·exact absurd (by simp) hni
    ·simpa using hc
   subst this;rw[hdn];simp)
  (fun c z hc hz=>by
   simp at hc;subst hc
   rw[hb] at hz;simp at hz;subst hz
   exact⟨x',⟨by rw[hH,if_neg (Ne.symm hdb),if_pos rfl],by rw[x4,hm]⟩,.inr ⟨hd,⟨fun hh=>(by rw[hn] at hh;cases hh),fun _=>⟨by rw[b1,hβ];rfl,by omega,fun e=>absurd e (by omega),by rw[x6,List.length_set]⟩⟩,x5,fun hh=>by rw[hm] at hh;cases hh⟩⟩)
  (fun c hc=>by simp at hc;simp[hc]) rfl rfl rfl (Nat.le_refl _) (fun _ _ _=>rfl)
  (fun j hm' _=>by
   obtain⟨c,z,hz,_,_,ht⟩:=hm'
   rcases Sw hz with⟨rfl,rfl⟩ | ⟨_,rfl,rfl⟩
   ·exact⟨_,x,by simp,hb,hd,hs,(hT j ht).1⟩
   ·exact⟨_,x,by simp,hb,hd,hs,(hT2 j ht).1⟩)
  (fun _ _ hj=>.inl hj) (fun _=>Nat.le_refl _)
 refine⟨_,_,A.1,Rep.ext A.2 ?_⟩
 rw[Rep]
 rcases hcases with⟨e1,_,e3⟩ | ⟨kk,a,cap,cs2,ty2,fr2,e1,_,g1,g2,g3,g4,g5,g6⟩
 ·obtain⟨m,hm1⟩:∃ m,x.sz - 2=m+1:=⟨x.sz - 3,by omega⟩
  rw[e1,e3,hm1]
  exact⟨y,none,0,⟨h1d,y4⟩,rfl,Nat.le_refl _,.inl rfl⟩
 ·obtain⟨m,hm1⟩:∃ m,x.sz - 2=m+1:=⟨x.sz - 3,by omega⟩
  rw[e1]
  refine⟨y,some ⟨kk,a+0,none⟩,cap,⟨h1d,y4⟩,by rw[hm1];rfl,g2,.inr ⟨kk,a,rfl,.inr ⟨by rw[b2,hpl,e1];rfl,?_,?_⟩⟩⟩
  ·rw[A0 g3,y5];omega
  ·rw[y5,y6,g1];omega
theorem fF {d:Nat} {s:AV} {vs:Value} {k:Ar→AV→Bo→O R} (S:SimH J β h w) (hl:Looks g h) (hh:bd g d s k=some r) (hs:Rep J β h w s vs) :
  ∃ g' s' u,k g' s' u=some r∧(Ao u (nid d)=true→∃ y,Ac h (nid d)=some y)∧(∀ us,UpsFree d h (u++us)→∃ J' β',Step J β h w J' β' (Ab u h) w∧Looks g' (Ab u h)∧Rep J' β' (Ab u h) w s' vs):=by
 unfold bd at hh
 split at hh
 ·rename_i b i gn n s
  obtain⟨x,hx,h1⟩:=ub hh
  obtain⟨hc,h2⟩:=uc h1
  simp only[Bool.and_eq_true] at hc
  obtain⟨hn,hg,hs1,hz⟩:=hc
  have hz:=Nat.eq_of_beq_eq_true hz
  have hg:=Nat.eq_of_beq_eq_true hg
  have hs1:1≤s:=Nat.le_of_ble_eq_true hs1
  obtain⟨cell,p,hc,hp,h3⟩:=Us h2
  obtain⟨hb,hd⟩:=A1 hl hx
  obtain⟨kr,o,hβ,hN,_,_,_,_⟩:=Ji S hb hd hn
  obtain⟨hsh,_,_,hs2,hnr⟩:=MJ hb hd hs
  obtain⟨k',o',e,h5,he,rfl,hen⟩:=hnr hg
  rw[hβ] at h5;simp at h5;obtain⟨rfl,rfl⟩:=h5
  have e2:x.sz - 2=s:=by omega
  have hpn:p.2=n:=by
   obtain⟨ht,cs,ty,fr,hk,hfr,hcs,hdl,hall,huq⟩:=hN
   obtain⟨c1,hc1,hv,hI⟩:=hall i e he
   rw[hc] at hc1;simp at hc1;subst hc1
   rw[e2] at hI
   rcases Sp hs1 hI hp with⟨rfl,_,rfl⟩ | ⟨kk,a,cap,cs2,ty2,fr2,rfl,_⟩
   ·obtain⟨A,c,h6,_⟩:=hsh.2 hs1
    obtain⟨m,rfl⟩:∃ m,s=m+1:=⟨s - 1,by omega⟩
    simp[P3] at h6;exact h6.2.1
   ·exact hen hs1 _ rfl
  refine⟨_,_,_,h3,fun hi=>?_,fun us hf=>?_⟩
  ·simp only[Ao] at hi
   cases h6:Nat.beq b (nid d) with
   | true=>exact⟨x,by rw[←Nat.eq_of_beq_eq_true h6];exact hb⟩
   | false=>rw[h6,cond_false,Sq (by omega)] at hi;cases hi
  have hdn:Ac h (nid d+14)=none:=hf _ (by simp[Ao]) (by unfold P0;simp)
  obtain⟨J',β',A,B⟩:=Step.take (d:=nid d+14) S hb hd hn hβ (by omega) he hc (by rw[e2];exact hp) hdn
  rw[e2] at A B
  rw[hpn] at B
  refine⟨J',β',A,fun j y hj=>?_,B⟩
  simp only[Ab]
  rw[Aa,Aa]
  simp only at hj
  cases h6:Nat.beq j (nid d+14) with
  | true=>rw[h6] at hj;simp at hj;subst hj;rw[if_pos (Nat.eq_of_beq_eq_true h6)]
  | false =>
   rw[h6,cond_false] at hj
   rw[if_neg (Hl h6)]
   cases h7:Nat.beq j b with
   | true=>rw[h7] at hj;simp at hj;subst hj;rw[if_pos (Nat.eq_of_beq_eq_true h7)]
   | false=>rw[h7,cond_false] at hj;rw[if_neg (Hl h7)];exact hl j y hj
 ·exact⟨g,s,[],hh,fun hi=>by simp[Ao] at hi,fun us _=>⟨J,β,Step.refl S,hl,hs⟩⟩
theorem fG {el:TypeId} {sz:Nat} {x:AV} {k:LA×Nat×Bool→O R} (hh:Uk P el g sz x k=some r):∃ q,k q=some r:=by
 unfold Uk at hh
 obtain⟨q,_,h1⟩:=ub hh
 unfold Lb at h1
 cases hp:eW P el with
 | true=>rw[hp] at h1;exact⟨_,h1⟩
 | false=>rw[hp,cond_false] at h1;exact⟨_,(uc h1).2⟩
theorem dX {d:Nat} {t tx:TypeId} {s x:AV} {k:AV→Bo→O R} (hh:Pz P g d t tx s x k=some r):∃ val ups,k val ups=some r:=by
 unfold Pz at hh
 split at hh
 ·obtain⟨_,h1⟩:=uc hh
  obtain⟨_,_,h2⟩:=ub h1
  obtain⟨_,_,h3⟩:=ub h2
  obtain⟨_,_,h4⟩:=ub h3
  obtain⟨_,_,h5⟩:=ub h4
  obtain⟨_,h6⟩:=fG h5
  obtain⟨_,h7⟩:=uc h6
  exact⟨_,_,h7⟩
 ·simp at hh
theorem KS {u us:Bo} {b:Nat}:Ao (u++us) b=(Ao u b||Ao us b):=by
 induction u with
 | nil=>simp[Ao]
 | cons p r ih=>rw[List.cons_append,Ao,Ao,ih];cases Nat.beq p.1 b<;>rfl
theorem TQ {d:Nat} {t tx ty:TypeId} {s x:AV} {vs vx:Value} {k:AV→Bo→O R} (S:SimH J β h w) (hl:Looks g h) (hh:Sk P g d t tx s x k=some r) (hs:Rep J β h w s vs) (hx:Rep J β h w x vx) :
  ∃ val ups,k val ups=some r∧(UpsFree d h ups→∃ u w',(Builtin.append_ #[t,tx] ty #[vs,vx]).run P w=.ok u w'∧OpDone J β h w ups val u w'):=by
 unfold Sk at hh
 obtain⟨g',s',u,h1,h0,h2⟩:=fF S hl hh hs
 by_cases hf:UpsFree d h u
 ·obtain⟨J1,β1,A,hl1,hs1⟩:=h2 [] (fun b hb=>hf b (by rw[KS] at hb;simpa[Ao] using hb))
  obtain⟨val,ups,h3,h4,h5⟩:=TJ (ty:=ty) A.sim hl1 h1 hs1 (Rep.ext A.ext hx)
  refine⟨val,u++ups,h3,fun hf2=>?_⟩
  by_cases hu:Ao u (nid d)=true
  ·have hn:=hf.nid hu
   obtain⟨y,hy⟩:=h0 hu
   rw[hn] at hy;cases hy
  ·obtain⟨v,w',h6,h7⟩:=h5 (by rw[A3 _ _ _ (by simpa using hu)];exact hf2.nid (by rw[KS,h4,Bool.or_true]))
   obtain⟨J2,β2,B,hv⟩:=h7
   exact⟨v,w',h6,OpDone.after A ⟨J2,β2,B,hv⟩ (fun k=>B.ext.size 0 k 0 trivial)⟩
 ·obtain⟨val,ups,h3⟩:=dX h1
  exact⟨_,_,h3,fun hf2=>absurd (fun b hb hb2=>hf2 b (by rw[KS,hb];rfl) hb2) hf⟩
theorem QW {d:Nat} {t:TypeId} {l c:AV} {vl vc:Value} {k:AV→Bo→O R} (S:SimH J β h w) (hh:N4 P d t l c k=some r) (hl:Rep J β h w l vl) (hc:Rep J β h w c vc) :
  ∃ val ups,k val ups=some r∧(UpsFree d h ups→∃ u w',(Instr.makeSlice t vl vc).run P w=.ok u w'∧OpDone J β h w ups val u w'):=by
 unfold N4 at hh
 split at hh
 ·rename_i el l c hu
  obtain⟨sz,hs,h1⟩:=ub hh
  obtain⟨by_,hb,h2⟩:=ub h1
  obtain⟨s,hz,h3⟩:=ub h2
  obtain⟨hq,h4⟩:=uc h3
  simp only[Bool.and_eq_true,decide_eq_true_eq] at hq
  obtain⟨q0,q1,q2,q3,q4⟩:=hq
  have q0:=Nat.eq_of_beq_eq_true q0
  subst q0;subst q2
  simp only[Rep] at hl hc;subst hl hc
  obtain⟨i,hi,hz'⟩:∃ i,P.info? el=some i∧i.zero=some (P3 s none):=by
   unfold mh at hz
   cases hi:P.info? el with
   | none=>simp[hi] at hz
   | some i =>
    refine⟨i,rfl,?_⟩
    rw[hi] at hz
    simp only[Option.bind_some] at hz
    split at hz
    ·rename_i e hu2 hz2
     obtain⟨s',_,h5⟩:=ub hz
     obtain⟨h6,h7⟩:=uc h5
     simp at h7;subst h7
     have h6:=Nat.le_of_ble_eq_true h6
     obtain⟨m,rfl⟩:∃ m,s'=m+1:=⟨s' - 1,by omega⟩
     exact hz2
    ·rename_i hz2
     obtain⟨_,h7⟩:=uc hz
     simp at h7;subst h7
     exact hz2
    ·cases hz
  have hs':i.size=1:=by simp[Az,hi] at hs;exact hs
  have hb':i.bytes=by_:=by simp[Xu,hi] at hb;exact hb
  have hcl:(P3 s none).cells=#[P3 s none]:=by cases s<;>rfl
  refine⟨_,_,h4,fun hn=>⟨_,_,run_make w t el i _ hu hi hz' _ _ l l q1 (Int.le_refl _) (by rw[hb',Int.mul_comm];omega) (by omega),?_⟩⟩
  have hdn:Ac h (nid d)=none:=hn.nid (by simp[Ao])
  rw[hs',hcl]
  obtain⟨β',A,hβ'⟩:=Step.newRow (s:=s) (n:=l.toNat) (cs:=madeCells #[P3 s none] (l.toNat*1)) (ty:=el) S hdn (by rw[size_madeCells];omega) (fun j hj=>by
   simp[madeCells,hj,Nat.mod_one])
  refine⟨_,β',A,?_⟩
  rw[Rep]
  refine⟨⟨_,rfl⟩,{ dead:=false,sealed:=false,pure:=true,taint:=false,sz:=s+2,cells:=List.replicate l.toNat .nsl,mp:=true },⟨by simp[Ab,Aa],rfl⟩,.inr ⟨_,_,hβ',by simp[An],by simp,rfl⟩⟩
 ·simp at hh
theorem dY {b n:Nat} {x:Blk} {v:Value} (S:SimH J β h w) (hb:Ac h b=some x) (hd:x.dead=false) (hn:An x=true) (h3:3≤x.sz) (hc:x.cells.all TD=true) (hv:Rep J β h w (.nd b (.whole n)) v) :
  ∃ J' β',Step J β h w J' β' (Ab [(b,none)] h) w∧Rep J' β' (Ab [(b,none)] h) w (.imm x.cells n 1 false false) v:=by
 obtain⟨k,o,hβ,hN,_,hs,hm,_⟩:=Ji S hb hd hn
 obtain⟨_,k',o',h1,_,hl,rfl⟩:=MJ hb hd hv
 rw[hβ] at h1;simp at h1;obtain⟨rfl,rfl⟩:=h1
 obtain⟨ht,cs,ty,fr,hk,hfr,hcs,hdl,hall,huq⟩:=hN
 have hH:∀ c,Ac (Ab [(b,none)] h) c=if c=b then some { x with dead:=true,pure:=true,cells:=[] } else Ac h c:=by
  intro c;simp only[Ab,hb];rw[Aa]
 obtain⟨β',A⟩:=Step.freeze (H:=Ab [(b,none)] h) (x':={ x with dead:=true,pure:=true,cells:=[] }) S hb hd hs (fun c hc=>by rw[hH,if_neg hc]) (by rw[hH,if_pos rfl]) rfl rfl
 refine⟨_,β',A,?_⟩
 rw[Rep,RepC]
 refine⟨by omega,_,n,rfl,Nat.le_refl _,by simp,.inr ⟨_,rfl,.inr (.inr (Terr.at hβ)),?_⟩⟩
 rw[Ay]
 intro j c hj
 have hlt:j<x.cells.length:=(List.getElem?_eq_some_iff.1 hj).1
 obtain⟨e,he⟩:∃ e,(dec o)[j]?=some e:=⟨_,List.getElem?_eq_getElem (by omega)⟩
 obtain⟨c1,hc1,hv1,hI⟩:=hall j e he
 rw[hj] at hc1;simp at hc1;subst hc1
 refine⟨P3 (x.sz - 2) e,by rw[Addr.add_mid,D1 hk];simpa using hv1,?_⟩
 have hh:TD c=true:=(List.all_eq_true.1 hc) c (List.mem_of_getElem? hj)
 obtain⟨m,hm1⟩:∃ m,x.sz - 2=m+1:=⟨x.sz - 3,by omega⟩
 rw[hm1] at hI ⊢
 match e,he,hI with
 | none,he,hI =>
  rcases hI with rfl | rfl
  ·rw[RepC];rfl
  ·simp[TD] at hh
 | some (false,_,_,_,_),he,hI=>simp[InnerIs] at hI;subst hI;simp[TD] at hh
 | some (true,kk,a,n',cap),he,hI =>
  obtain⟨l,cs2,ty2,fr2,rfl,g1,g2,g3,g4,g5,g6⟩:=hI
  rw[A6,RepC]
  refine⟨g1,_,cap,rfl,g2,by simp,.inr ⟨_,rfl,.inr (.inr ⟨_,o,hβ,.inr ⟨hn,j,a,n',cap,he⟩⟩),?_⟩⟩
  refine RepCs.keep (fun k hk=>.inl hk) (fun _ _=>rfl) (fun j=>?_) g6
  rw[Addr.add_mid,D1 g3]
end
end Gx

namespace Gx
open Go
def FA (E:Env):Prop:=∀ (R:Type) (r:R) (k:AV→Bo→O R) (J:Bool→Nat→Prop) (β:Aw) (h:Ag) (w:World) (g:Ar) (d f:Nat) (args:LA) (vs:List Value),
 SimH J β h w→Looks g h→bi E g d f args k=some r→Reps J β h w args vs →
 ∃ val ups,k val ups=some r∧(UpsFree d h ups→Calls E.P f vs.toArray w fun e w'=>∃ vc,e=.returned vc∧OpDone J β h w ups val vc w')
section
variable {R:Type} {r:R} {P:Program} {J J':Bool→Nat→Prop} {β:Aw} {h:Ag} {w w':World} {g:Ar} {o:Oper} {a:Act} {next:Act→World→Prop} {Q:Exit→Act→World→Prop}
theorem Cm {vc:Value} (hrun:(execOp a.eval o).run P w=.ok (.value vc) w') (hn:next (a.put o.dst vc) w'):o.wp P a w next Q:=by
 unfold Oper.wp;rw[hrun];exact hn
theorem TR (hrun:(execOp a.eval o).run P w=.ok .skip w') (hn:next (a.put o.dst undef) w'):o.wp P a w next Q:=by
 unfold Oper.wp;rw[hrun];exact hn
theorem OpDone.same (S:SimH J β h w) {v:AV} {vc:Value} (hv:Rep J β h w v vc):OpDone J β h w [] v vc w:=⟨J,β,Step.refl S,hv⟩
theorem TS {s:Dy} (SS:SimS J β h w s a.tmps):∀ (xs:List Operand),Reps J β h w (xs.map (ev s)) (xs.map a.eval)
 | []=>by simp[Reps]
 | x::r=>by rw[List.map_cons,List.map_cons,Reps];exact⟨_,_,rfl,Aq SS x,TS SS r⟩
theorem Nl {s:Dy} (SS:SimS J β h w s a.tmps):∀ (ps:List (Nat×Operand)),RepParts J β h w (ps.map fun p=>(p.1,ev s p.2)) (ps.map fun p=>(p.1,a.eval p.2))
 | []=>by simp[RepParts]
 | p::r=>by rw[List.map_cons,List.map_cons,RepParts];exact⟨_,_,rfl,Aq SS p.2,Nl SS r⟩
theorem TT {s:Dy} (SS:SimS J β h w s a.tmps) (x:Option Operand):Py J β h w (x.map (ev s)) (x.map a.eval):=by
 cases x with
 | none=>simp[Py]
 | some x=>simp[Py];exact Aq SS x
theorem Reps.append:∀ {c c':LA} {cs cs':List Value},Reps J β h w c cs→Reps J β h w c' cs'→Reps J β h w (c++c') (cs++cs')
 | [],c',cs,cs',h1,h2=>by rw[Reps] at h1;subst h1;exact h2
 | x::r,c',cs,cs',h1,h2=>by
  rw[Reps] at h1
  obtain⟨u,us,rfl,h3,h4⟩:=h1
  rw[List.cons_append,List.cons_append,Reps]
  exact⟨u,us++cs',rfl,h3,Reps.append h4 h2⟩
theorem fH {J:Nat→Prop}:∀ {c:LA} {cs:List Value},Cf c=true→Reps (fun _ _=>False) (fun _=>none) [] w c cs→RepCs J w c (fun j=>cs[j]?) 0∧cs.length=c.length:=by
 intro c cs hp hr
 rw[A7] at hr
 refine⟨?_,hr.1⟩
 rw[Ay]
 intro j x hj
 have hlt:j<cs.length:=by rw[hr.1];exact(List.getElem?_eq_some_iff.1 hj).1
 refine⟨cs[j],by simp[hlt],?_⟩
 have h1:=hr.2 j x cs[j] hj (List.getElem?_eq_getElem hlt)
 have h2:Cf [x]=true:=by
  clear hr h1 hlt
  induction c generalizing j with
  | nil=>simp at hj
  | cons y r ih =>
   have hpr:Cf r=true:=by unfold Cf at hp;split at hp<;>simp_all
   cases j with
   | zero=>simp at hj;subst hj;cases y<;>simp_all[Cf]
   | succ j=>exact ih hpr j (by simpa using hj)
 cases x<;>simp[Cf] at h2<;>(rw[Rep] at h1;rw[RepC];exact h1)
theorem l7 {co:Bool} {v:AV} {vv:Value} (h0:∀ (J:Bool→Nat→Prop) (β:Aw) (h:Ag),Rep J β h w v vv):Rep J β h w (mc co v) vv:=by
 unfold mc
 split
 ·rename_i c
  cases hp:Cf c with
  | false=>exact h0 J β h
  | true =>
   have h1:=h0 (fun _ _=>False) (fun _=>none) []
   rw[Rep] at h1
   obtain⟨cs,rfl,h2⟩:=h1
   obtain⟨h3,h4⟩:=fH (J:=J false) hp h2
   rw[cond_true,Rep]
   exact⟨cs,rfl,h4,h3⟩
 ·exact h0 J β h
theorem FB {d:Nat}:∀ {l:List (Nat×Nat)} {j:Nat} {c:LA},1≤j→Ao (Dl d l j c).2 (nid d)=false
 | [],_,_,_=>by simp[Dl,Ao]
 | (o,sz)::l,j,c,hj=>by
  rw[Dl]
  split
  ·simp only[Ao]
   rw[Sq (by omega),cond_false]
   exact FB (by omega)
  ·exact FB (by omega)
theorem aD {d:Nat} {t:TypeId} {k:AV→Bo→O R} (S:SimH J β h w) (hh:AS P g d t k=some r) :
  ∃ v val ups,(∃ i,P.info? t=some i∧i.zero=some v)∧k val ups=some r∧(UpsFree d h ups→∃ vc w',(Instr.box t v).run P w=.ok vc w'∧OpDone J β h w ups val vc w'):=by
 unfold AS at hh
 split at hh
 ·rename_i c hz
  obtain⟨hc,h1⟩:=uc hh
  simp only[Bool.and_eq_true] at hc
  obtain⟨hb,hst⟩:=hc
  obtain⟨v,hv,he⟩:∃ v,(∃ i,P.info? t=some i∧i.zero=some v)∧JV v=.agg c:=by
   unfold ST at hz
   cases hi:P.info? t with
   | none=>simp[hi] at hz
   | some i =>
    cases hiz:i.zero with
    | none=>simp[hi,hiz] at hz
    | some v=>simp[hi,hiz] at hz;exact⟨v,⟨i,rfl,hiz⟩,hz⟩
  have hr:=Ur (J:=J) (β:=β) (h:=h) (w:=w) v
  rw[he,Rep] at hr
  obtain⟨cs,rfl,hr⟩:=hr
  refine⟨_,_,_,hv,h1,fun hf=>⟨_,_,Uw,?_⟩⟩
  have hn:=hf.nid (by simp[Em,Jf,Ao])
  obtain⟨β',A,hA⟩:=Lj (d:=d) (l:=Jg P t) (j:=1) S (Nat.le_refl _) (by simp at hb;omega) (fun i hi hi2 hin=>hf _ (by rw[Em,hin];rfl) (by unfold P0;simp;omega)) hr
  have hn':Ac (Ab (Dl d (Jg P t) 1 c).2 h) (nid d)=none:=by rw[A3 _ _ _ (FB (Nat.le_refl _))];exact hn
  have hone:∀ (j:Nat) u,cs[j]?=some u→u.oneCell'=true:=fun j u hu=>by
   rw[A7] at hr
   have hlt:j<c.length:=by rw[←hr.1];exact(List.getElem?_eq_some_iff.1 hu).1
   exact Hb (Nk hst j c[j] (List.getElem?_eq_getElem hlt)) (hr.2 j c[j] u (List.getElem?_eq_getElem hlt) hu)
  rw[A7] at hA
  refine OpDone.after A (A_ A.sim hn' rfl rfl (by simp[Value.cells,hA.1]) ⟨fun hp=>by simp at hp,fun _ j y hj=>?_⟩) (Ic _ _)
  have hlt:j<cs.length:=by rw[hA.1];exact(List.getElem?_eq_some_iff.1 hj).1
  exact⟨cs[j],by simp[Value.cells,hlt],hA.2 j y _ hj (List.getElem?_eq_getElem hlt),hone j _ (List.getElem?_eq_getElem hlt)⟩
 ·simp at hh
theorem dZ {co:Bool} {d:Nat} {t:TypeId} {k:AV→Bo→O R} (S:SimH J β h w) (hl:Looks g h) (hh:KB P g co d t k=some r) :
  ∃ v val ups,(∃ i,P.info? t=some i∧i.zero=some v)∧k val ups=some r∧(UpsFree d h ups→∃ vc w',(Instr.box t v).run P w=.ok vc w'∧OpDone J β h w ups val vc w'):=by
 have zv:∀ {z:AV},ST P t=some z→∃ v,(∃ i,P.info? t=some i∧i.zero=some v)∧JV v=z:=by
  intro z hz
  unfold ST at hz
  cases hi:P.info? t with
  | none=>simp[hi] at hz
  | some i =>
   cases hiz:i.zero with
   | none=>simp[hi,hiz] at hz
   | some v=>simp[hi,hiz] at hz;exact⟨v,⟨i,rfl,hiz⟩,hz⟩
 unfold KB at hh
 split at hh
 ·rename_i el hu hz
  obtain⟨v,hv,he⟩:=zv hz
  obtain⟨sz,hs,hh⟩:=ub hh
  refine⟨v,_,_,hv,hh,fun hf=>⟨_,_,Uw,?_⟩⟩
  have hr:=Ur (J:=J) (β:=β) (h:=h) (w:=w) v
  rw[he,Rep] at hr;subst hr
  have hnw:∀ b,b=nid d+1→P0 d b=true:=fun b hb=>by subst hb;unfold P0 nid;simp
  have h1:Ac h (nid d+1)=none:=hf _ (by simp[Ao]) (hnw _ rfl)
  have h2:Ac h (nid d)=none:=hf.nid (by simp[Ao])
  have A:=Step.newNone S (d:=nid d+1) (x:=De sz) h1 rfl
  have e:([(nid d+1,some (De sz)),(nid d,some { dead:=false,sealed:=false,pure:=false,taint:=false,sz:=0,cells:=[.own (nid d+1) 0 0] })]:Bo)=[(nid d+1,some (De sz))]++[(nid d,some { dead:=false,sealed:=false,pure:=false,taint:=false,sz:=0,cells:=[.own (nid d+1) 0 0] })]:=rfl
  rw[e]
  refine OpDone.after A (A_ A.sim ?_ rfl rfl (by simp[Value.cells]) ⟨fun hp=>by simp at hp,fun _ j y hj=>?_⟩) (Ic _ _)
  ·simp only[Ab];rw[Aa,if_neg (by omega)];exact h2
  ·cases j with
   | zero =>
    simp at hj;subst hj
    refine⟨.slice none 0 0,by simp[Value.cells],?_,rfl⟩
    rw[Rep]
    exact⟨De sz,none,0,⟨by simp[Ab,Aa],rfl⟩,rfl,Nat.le_refl _,.inl rfl⟩
   | succ j=>simp at hj
 ·rename_i z hz _
  obtain⟨v,hv,he⟩:=zv hz
  obtain⟨val,ups,h1,h2⟩:=TG S hl hh (vv:=v) (l7 fun J β h=>by rw[←he];exact Ur v)
  exact⟨v,val,ups,hv,h1,h2⟩
 ·simp at hh
theorem fI {c x y:AV} {vc vx vy:Value} {k:AV→O R} (hh:bj c x y k=some r) (hc:Rep J β h w c vc) (hx:Rep J β h w x vx) (hy:Rep J β h w y vy) :
  ∃ v,k v=some r∧∃ t:Bool,vc=.bool t∧Rep J β h w v (if t then vx else vy):=by
 unfold bj at hh
 split at hh
 ·rename_i t a b
  rw[Rep] at hc hx hy
  subst hc hx hy
  exact⟨_,hh,t,rfl,by cases t<;>simp[Rep]⟩
 ·rename_i t x _
  rw[Rep] at hc;subst hc
  obtain⟨ht,h1⟩:=uc hh
  subst ht
  exact⟨_,h1,true,rfl,hx⟩
 ·rename_i t _ _ _
  rw[Rep] at hc;subst hc
  obtain⟨ht,h1⟩:=iO hh
  subst ht
  exact⟨_,h1,false,rfl,hy⟩
 ·rename_i t _ _ _
  rw[Rep] at hc;subst hc
  cases t
  ·exact⟨_,hh,false,rfl,hy⟩
  ·exact⟨_,hh,true,rfl,hx⟩
 ·simp at hh
theorem iX {E:Env} (hC:FA E) {d:Nat} {s:Dy} {k:AV→Bo→O R} (S:SimH J β h w) (SS:SimS J β h w s a.tmps) (hl:Looks g h)
  (hh:Z' E g d (ev s) o.op k=some r) :
  ∃ val ups,k val ups=some r∧(UpsFree d h ups→(∀ vc w',OpDone J β h w ups val vc w'→next (a.put o.dst vc) w')→o.wp E.P a w next Q):=by
 unfold Z' at hh
 have same:∀ {v:AV} {vc:Value},k v []=some r→(execOp a.eval o).run E.P w=.ok (.value vc) w→Rep J β h w v vc →
   ∃ val ups,k val ups=some r∧(UpsFree d h ups→(∀ vc w',OpDone J β h w ups val vc w'→next (a.put o.dst vc) w')→o.wp E.P a w next Q) :=
  fun hk hrun hr=>⟨_,_,hk,fun _ hn=>Cm hrun (hn _ _ (OpDone.same S hr))⟩
 split at hh
 ·rename_i x ho
  exact same hh (by simp[execOp,ho]) (Aq SS x)
 ·rename_i x ho
  exact same hh (by simp[execOp,ho]) (Aq SS x)
 ·rename_i c x y ho
  obtain⟨v,h1,h2⟩:=fI hh (Aq SS c) (Aq SS x) (Aq SS y)
  obtain⟨t,ht,hr⟩:=h2
  refine same h1 (vc:=if t then a.eval x else a.eval y) ?_ hr
  cases t<;>simp[execOp,ho,ht,Go.asBool]
 ·rename_i t ho
  obtain⟨v,val,ups,h0,h1,h2⟩:∃ v val ups,(∃ i,E.P.info? t=some i∧i.zero=some v)∧k val ups=some r∧(UpsFree d h ups→∃ vc w',(Instr.box t v).run E.P w=.ok vc w'∧OpDone J β h w ups val vc w'):=by
   cases hm:Dz E.cob (d+1000000) with
   | true=>rw[hm] at hh;exact aD S hh
   | false=>rw[hm] at hh;exact dZ S hl hh
  refine⟨val,ups,h1,fun hf hn=>?_⟩
  obtain⟨vc,w',h3,h4⟩:=h2 hf
  refine Cm ?_ (hn vc w' h4)
  rw[Uw] at h3
  simp only[Result.ok.injEq] at h3
  obtain⟨rfl,rfl⟩:=h3
  obtain⟨i,hi,hiz⟩:=h0
  simp[execOp,ho,Instr.alloc,zeroValue,typeInfo,hi,hiz,newVar,newRow]
 ·rename_i t x ho
  obtain⟨v',h0,hv'⟩:=dN hh (Aq SS x)
  obtain⟨val,ups,h1,h2⟩:=TG S hl h0 hv'
  refine⟨val,ups,h1,fun hf hn=>?_⟩
  obtain⟨vc,w',h3,h4⟩:=h2 hf
  exact Cm (by simp[execOp,ho,h3]) (hn vc w' h4)
 ·rename_i t parts ho
  rw[E_] at hh
  obtain⟨v,hv,hh⟩:=ub hh
  obtain⟨u,h1,h2⟩:=dU (P:=E.P) S hv (Nl SS parts.toList)
  obtain⟨val,ups,h3,h4⟩:=iU S hh h2
  refine⟨val,ups,h3,fun hf hn=>Cm ?_ (hn _ _ (h4 hf))⟩
  have:(parts.map fun p=>(p.1,a.eval p.2))=(parts.toList.map fun p=>(p.1,a.eval p.2)).toArray:=by apply Array.ext';simp
  simp[execOp,ho,this,h1]
 ·rename_i t len parts ho
  have:(parts.map fun p=>(p.1,a.eval p.2))=(parts.toList.map fun p=>(p.1,a.eval p.2)).toArray:=by apply Array.ext';simp
  cases hhard:(parts.toList.map fun p=>(p.1,ev s p.2)).any fun p=>md p.2 with
  | true =>
   rw[hhard] at hh
   obtain⟨val,ups,h1,h2⟩:=KR S hh (Nl SS parts.toList)
   refine⟨val,ups,h1,fun hf hn=>?_⟩
   obtain⟨vc,w',h3,h4⟩:=h2 hf
   exact Cm (by simp[execOp,ho,this,h3]) (hn vc w' h4)
  | false =>
   rw[hhard] at hh
   obtain⟨val,ups,h1,h2⟩:=GO S hl hh (Nl SS parts.toList)
   refine⟨val,ups,h1,fun hf hn=>?_⟩
   obtain⟨vc,w',h3,h4⟩:=h2 hf
   exact Cm (by simp[execOp,ho,this,h3]) (hn vc w' h4)
 ·rename_i t p ho
  obtain⟨v,vc,h1,h2,h3⟩:=MK S hl hh (Aq SS p)
  exact same h1 (by simp[execOp,ho,h2]) h3
 ·rename_i t p x ho
  obtain⟨val,ups,h1,J',β',w',h2,h3,rfl⟩:=dM S hl hh (Aq SS p) (Aq SS x)
  exact⟨.undef,ups,h1,fun _ hn=>TR (w':=w') (by simp[execOp,ho,h2]) (hn undef w' ⟨J',β',h3,by simp[Rep]⟩)⟩
 ·rename_i x ho
  have h1:=Aq SS x
  split at hh
  ·rename_i c oo hx
   rw[hx] at h1
   refine same hh (vc:=a.eval x) ?_ h1
   rw[Rep,RepC] at h1
   obtain⟨ad,h2,_⟩:=h1
   simp[execOp,ho,h2]
  ·rename_i b oo hx
   rw[hx] at h1
   refine same hh (vc:=a.eval x) ?_ h1
   rw[Rep] at h1
   obtain⟨_,kk,o',_,h2,_⟩:=h1
   simp[execOp,ho,h2]
  ·simp at hh
 ·rename_i op t x y t2 ho
  obtain⟨v,vc,h1,h2,h3⟩:=ez S hl hh (Aq SS x) (Aq SS y) x y
  refine same h1 ?_ h3
  simp only[execOp,ho]
  rw[Sem.run_bind,h2];simp
 ·rename_i op t x ho
  obtain⟨v,hv,hh⟩:=ub hh
  obtain⟨vc,h2,h3⟩:=lZ (P:=E.P) hv (Aq SS x)
  exact same hh (by simp[execOp,ho,h2]) h3
 ·rename_i src dst x ho
  obtain⟨val,ups,h1,h2⟩:=dS S hl hh (Aq SS x)
  refine⟨val,ups,h1,fun hf hn=>?_⟩
  obtain⟨vc,w',h3,h4⟩:=h2 hf
  exact Cm (by simp[execOp,ho,h3]) (hn vc w' h4)
 ·rename_i f first caps ho
  obtain⟨hf,hh⟩:=uc hh
  have hf':f<1000000:=by simpa using hf
  have key:∀ (a n:Nat),a<1000000→(a+1000000*n)%1000000=a∧(a+1000000*n)/1000000=n:=by intro a n h;omega
  have e1:=(key f first.toList.length hf').1
  have e2:=(key f first.toList.length hf').2
  refine same (vc:=.func (.func f) ⟨first.toList.map a.eval⟩ ⟨caps.toList.map a.eval⟩) hh ?_ ?_
  ·simp only[execOp,ho,Instr.makeFunc]
   simp
   refine⟨?_,?_⟩<;>(apply Array.ext';simp)
  ·rw[Rep,e1,e2]
   refine⟨(first.toList++caps.toList).map a.eval,?_,TS SS _⟩
   simp
 ·rename_i t l c ho
  obtain⟨val,ups,h1,h2⟩:∃ val ups,k val ups=some r∧(UpsFree d h ups→∃ u w',(Instr.makeSlice t (a.eval l) (a.eval c)).run E.P w=.ok u w'∧OpDone J β h w ups val u w'):=by
   cases hm:Dz E.cob (d+2000000) with
   | true=>rw[hm] at hh;exact QW S hh (Aq SS l) (Aq SS c)
   | false =>
    rw[hm,cond_false] at hh
    cases hm2:Dz E.cob (d+3000000) with
    | true=>rw[hm2] at hh;exact dP S hh (Aq SS l) (Aq SS c)
    | false=>rw[hm2] at hh;exact eh S hh (Aq SS l) (Aq SS c)
  refine⟨val,ups,h1,fun hf hn=>?_⟩
  obtain⟨vc,w',h3,h4⟩:=h2 hf
  exact Cm (by simp[execOp,ho,h3]) (hn vc w' h4)
 ·rename_i t x lo hi mx ho
  obtain⟨v,vc,h1,h2,h3⟩:=dK hl hh (Aq SS x) (TT SS lo) (TT SS hi) (TT SS mx)
  exact same h1 (by simp[execOp,ho,h2]) h3
 ·rename_i t x f ho
  obtain⟨v,vc,h1,h2,h3⟩:=KO hh (Aq SS x)
  exact same h1 (by simp[execOp,ho,h2]) h3
 ·rename_i t x f ho
  obtain⟨v,vc,h1,h2,h3⟩:=dI hh (Aq SS x)
  exact same h1 (by simp[execOp,ho,h2]) h3
 ·rename_i t x i ho
  obtain⟨v,vc,h1,h2,h3⟩:=KN hh (Aq SS x) (Aq SS i)
  exact same h1 (by simp[execOp,ho,h2]) h3
 ·rename_i t x i ho
  obtain⟨v,vc,h1,h2,h3⟩:=dJ hh (Aq SS x) (Aq SS i)
  exact same h1 (by simp[execOp,ho,h2]) h3
 ·rename_i t rr ho
  cases rr with
  | some x=>simp[Od] at hh
  | none =>
   obtain⟨val,ups,h1,h2⟩:=TO (P:=E.P) (t:=t) S hh
   refine⟨val,ups,h1,fun hf hn=>?_⟩
   obtain⟨vc,w',h3,h4⟩:=h2 hf
   exact Cm (by simp[execOp,ho,h3]) (hn vc w' h4)
 ·rename_i t m x y ho
  obtain⟨ups,h1,J',β',w',h2,h3⟩:=dW S hl hh (Aq SS m) (Aq SS x) (Aq SS y)
  exact⟨.undef,ups,h1,fun _ hn=>TR (w':=w') (by simp[execOp,ho,h2]) (hn undef w' ⟨J',β',h3,by simp[Rep]⟩)⟩
 ·rename_i t m x ho
  obtain⟨val,ups,h1,vc,w',h2,h3⟩:=QV S hl hh (Aq SS m) (Aq SS x)
  exact⟨val,ups,h1,fun _ hn=>Cm (by simp[execOp,ho,h2]) (hn vc w' h3)⟩
 ·rename_i t m x y ho
  obtain⟨ups,h1,J',β',w',h2,h3⟩:=GS (P:=E.P) (t:=t) S hl hh (Aq SS m) (Aq SS x) (Aq SS y)
  exact⟨.undef,ups,h1,fun _ hn=>TR (w':=w') (by simp[execOp,ho,h2]) (hn undef w' ⟨J',β',h3,by simp[Rep]⟩)⟩
 ·rename_i t m x c ho
  obtain⟨v,vc,h1,h2,h3⟩:=fD S hl hh (Aq SS m) (Aq SS x)
  exact same h1 (by simp[execOp,ho,h2]) h3
 ·rename_i t x ho
  obtain⟨val,ups,h1,h2⟩:=dV (P:=E.P) S hh (Aq SS x)
  refine⟨val,ups,h1,fun hf hn=>?_⟩
  obtain⟨vc,w',h3,h4⟩:=h2 hf
  exact Cm (by simp[execOp,ho,h3]) (hn vc w' h4)
 ·rename_i x b ho
  obtain⟨val,ups,h1,h2⟩:=fB (P:=E.P) (d:=d) (t:=o.type) S hl hh (Aq SS x)
  refine⟨val,ups,h1,fun hf hn=>?_⟩
  obtain⟨vc,w',h3,h4⟩:=h2 hf
  exact Cm (by simp[execOp,ho,h3]) (hn vc w' h4)
 ·rename_i t i ho
  split at hh
  ·rename_i vs ht
   obtain⟨v,hv,hh⟩:=ub hh
   have h1:=Aq SS t
   rw[ht,Rep] at h1
   obtain⟨cs,h2,h3⟩:=h1
   rw[A7] at h3
   have hlt:i<cs.length:=by rw[h3.1];exact(List.getElem?_eq_some_iff.1 hv).1
   refine same hh (vc:=cs[i]) ?_ (h3.2 i v _ hv (List.getElem?_eq_getElem hlt))
   simp[execOp,ho,Instr.extract,h2,hlt]
  ·simp at hh
 ·rename_i c ho
  split at hh
  ·rename_i hc
   split at hh
   ·rename_i x t h1 h2
    have e1:c.args=#[x]:=by apply Array.ext';simpa using h1
    have e2:c.argTypes=#[t]:=by apply Array.ext';simpa using h2
    obtain⟨v,vc,hv,h3,h4⟩:=fE (P:=E.P) (ty:=o.type) S hl hh (Aq SS x)
    refine same hv ?_ h4
    simp[execOp,ho,resolve,hc,e1,e2,invoke,builtin,h3]
   ·simp at hh
  ·rename_i hc
   split at hh
   ·rename_i x y t tx h1 h2
    have e1:c.args=#[x,y]:=by apply Array.ext';simpa using h1
    have e2:c.argTypes=#[t,tx]:=by apply Array.ext';simpa using h2
    obtain⟨val,ups,h3,h4⟩:=TQ (ty:=o.type) S hl hh (Aq SS x) (Aq SS y)
    refine⟨val,ups,h3,fun hf hn=>?_⟩
    obtain⟨vc,w',h5,h6⟩:=h4 hf
    refine Cm ?_ (hn vc w' h6)
    simp[execOp,ho,resolve,hc,e1,e2,invoke,builtin,h5]
   ·simp at hh
  ·rename_i hc
   split at hh
   ·rename_i x y t tx h1 h2
    have e1:c.args=#[x,y]:=by apply Array.ext';simpa using h1
    have e2:c.argTypes=#[t,tx]:=by apply Array.ext';simpa using h2
    obtain⟨val,ups,h3,vc,w',h5,h6⟩:=aC (P:=E.P) (tk:=tx) (ty:=o.type) S hl hh (Aq SS x) (Aq SS y)
    refine⟨val,ups,h3,fun hf hn=>?_⟩
    refine Cm ?_ (hn vc w' h6)
    simp[execOp,ho,resolve,hc,e1,e2,invoke,builtin,h5]
   ·simp at hh
  ·rename_i hc
   split at hh
   ·rename_i x y t tx h1 h2
    have e1:c.args=#[x,y]:=by apply Array.ext';simpa using h1
    have e2:c.argTypes=#[t,tx]:=by apply Array.ext';simpa using h2
    obtain⟨val,ups,h3,vc,w',h5,h6⟩:=ep (tx:=tx) (ty:=o.type) S hl hh (Aq SS x) (Aq SS y)
    refine⟨val,ups,h3,fun hf hn=>?_⟩
    refine Cm ?_ (hn vc w' h6)
    simp[execOp,ho,resolve,hc,e1,e2,invoke,builtin,h5]
   ·simp at hh
  ·rename_i hc
   split at hh
   ·rename_i x t h1 h2
    have e1:c.args=#[x]:=by apply Array.ext';simpa using h1
    have e2:c.argTypes=#[t]:=by apply Array.ext';simpa using h2
    obtain⟨val,ups,h3,vc,w',h5,h6⟩:=dR (ty:=o.type) S hl hh (Aq SS x)
    refine⟨val,ups,h3,fun hf hn=>?_⟩
    refine Cm ?_ (hn vc w' h6)
    simp[execOp,ho,resolve,hc,e1,e2,invoke,builtin,h5]
   ·simp at hh
  ·rename_i hc
   split at hh
   ·rename_i x y h1
    obtain⟨v,hv,hh⟩:=ub hh
    have e1:c.args=#[x,y]:=by apply Array.ext';simpa using h1
    have h2:=Aq SS x
    have h3:=Aq SS y
    unfold lW at hv
    split at hv
    ·rename_i k1 a1 k2 a2 hx hy
     simp at hv;subst hv
     rw[hx,Rep] at h2;rw[hy,Rep] at h3
     refine same hh (vc:=.int k1 (lV a1 a2)) ?_ (by rw[Rep])
     simp[execOp,ho,resolve,hc,e1,invoke,builtin,h2,h3,Builtin.min_,Builtin.min2,lV,cond_eq_ite]
    ·simp at hv
   ·rename_i x y z h1
    obtain⟨q,hq,hh⟩:=ub hh
    obtain⟨v,hv,hh⟩:=ub hh
    have e1:c.args=#[x,y,z]:=by apply Array.ext';simpa using h1
    have h2:=Aq SS x
    have h3:=Aq SS y
    have h4:=Aq SS z
    unfold lW at hq
    split at hq
    ·rename_i k1 a1 k2 a2 hx hy
     simp at hq;subst hq
     unfold lW at hv
     split at hv
     ·rename_i k3 a3 k4 a4 hx2 hz
      simp at hx2;obtain⟨rfl,rfl⟩:=hx2
      simp at hv;subst hv
      rw[hx,Rep] at h2;rw[hy,Rep] at h3;rw[hz,Rep] at h4
      refine same hh (vc:=.int k1 (lV (lV a1 a2) a4)) ?_ (by rw[Rep])
      simp[execOp,ho,resolve,hc,e1,invoke,builtin,h2,h3,h4,Builtin.min_,Builtin.min2,lV,cond_eq_ite]
     ·simp at hv
    ·simp at hq
   ·simp at hh
  ·rename_i hc
   split at hh
   ·rename_i x y h1
    obtain⟨v,hv,hh⟩:=ub hh
    have e1:c.args=#[x,y]:=by apply Array.ext';simpa using h1
    have h2:=Aq SS x
    have h3:=Aq SS y
    unfold lX at hv
    split at hv
    ·rename_i k1 a1 k2 a2 hx hy
     simp at hv;subst hv
     rw[hx,Rep] at h2;rw[hy,Rep] at h3
     refine same hh (vc:=.int k1 (EW a1 a2)) ?_ (by rw[Rep])
     simp[execOp,ho,resolve,hc,e1,invoke,builtin,h2,h3,Builtin.max_,Builtin.max2,EW,cond_eq_ite]
    ·simp at hv
   ·rename_i x y z h1
    obtain⟨q,hq,hh⟩:=ub hh
    obtain⟨v,hv,hh⟩:=ub hh
    have e1:c.args=#[x,y,z]:=by apply Array.ext';simpa using h1
    have h2:=Aq SS x
    have h3:=Aq SS y
    have h4:=Aq SS z
    unfold lX at hq
    split at hq
    ·rename_i k1 a1 k2 a2 hx hy
     simp at hq;subst hq
     unfold lX at hv
     split at hv
     ·rename_i k3 a3 k4 a4 hx2 hz
      simp at hx2;obtain⟨rfl,rfl⟩:=hx2
      simp at hv;subst hv
      rw[hx,Rep] at h2;rw[hy,Rep] at h3;rw[hz,Rep] at h4
      refine same hh (vc:=.int k1 (EW (EW a1 a2) a4)) ?_ (by rw[Rep])
      simp[execOp,ho,resolve,hc,e1,invoke,builtin,h2,h3,h4,Builtin.max_,Builtin.max2,EW,cond_eq_ite]
     ·simp at hv
    ·simp at hq
   ·simp at hh
  ·rename_i hc
   split at hh
   ·rename_i x h1
    have e1:c.args=#[x]:=by apply Array.ext';simpa using h1
    obtain⟨val,ups,h3,h4⟩:=KP (P:=E.P) (d:=d) (ts:=c.argTypes) (ty:=o.type) S hl hh (Aq SS x)
    refine⟨val,ups,h3,fun hf hn=>?_⟩
    obtain⟨vc,w',h5,h6⟩:=h4 hf
    refine Cm ?_ (hn vc w' h6)
    simp[execOp,ho,resolve,hc,e1,invoke,builtin,h5]
   ·simp at hh
  ·rename_i hc
   split at hh
   ·rename_i x y t tx h1 h2
    have e1:c.args=#[x,y]:=by apply Array.ext';simpa using h1
    have e2:c.argTypes=#[t,tx]:=by apply Array.ext';simpa using h2
    obtain⟨val,ups,h3,h4⟩:=KQ (d:=d) (it:=tx) (ty:=o.type) S hl hh (Aq SS x) (Aq SS y)
    refine⟨val,ups,h3,fun hf hn=>?_⟩
    obtain⟨vc,w',h5,h6⟩:=h4 hf
    refine Cm ?_ (hn vc w' h6)
    simp[execOp,ho,resolve,hc,e1,e2,invoke,builtin,h5]
   ·simp at hh
  ·rename_i fo hc
   split at hh
   ·rename_i f0 caps hf
    have h1:=Aq SS fo
    rw[hf,Rep] at h1
    obtain⟨cs0,h2,h30⟩:=h1
    cases hbody:dE E.P (f0%1000000) with
    | false =>
     rw[hbody,cond_false] at hh
     obtain⟨hne,hh⟩:=uc hh
     split at hh
     ·rename_i x hargs hold
      rw[Reps] at h30;subst h30
      obtain⟨y,hy,rfl⟩:∃ y,c.args=#[y]∧x=ev s y:=by
       cases hl:c.args.toList with
       | nil=>rw[hl] at hargs;cases hargs
       | cons y l =>
        rw[hl] at hargs;simp at hargs
        exact⟨y,by apply Array.ext';rw[hl,hargs.2],hargs.1.symm⟩
      refine same (vc:=a.eval y) hh ?_ (Aq SS y)
      simp only[execOp,ho,Sem.run_bind,resolve,hc,h2,Deferred.ofValue,Sem.run_pure,Result.andThen_ok,invoke,hy]
      simpa using l4 hne (a.eval y) w
     ·simp at hh
    | true =>
    rw[hbody,cond_true] at hh
    have htk:Reps J β h w (caps.take (f0/1000000)) (cs0.take (f0/1000000))∧Reps J β h w (caps.drop (f0/1000000)) (cs0.drop (f0/1000000)):=by
     rw[A7] at h30
     refine⟨A7.2 ⟨by simp[h30.1],fun j x u hx hu=>?_⟩,A7.2 ⟨by simp[h30.1],fun j x u hx hu=>?_⟩⟩
     ·rw[List.getElem?_take] at hx hu
      split at hx
      ·rename_i hj;rw[if_pos hj] at hu;exact h30.2 j x u hx hu
      ·simp at hx
     ·rw[List.getElem?_drop] at hx hu;exact h30.2 _ x u hx hu
    generalize f0%1000000=f at *
    generalize cs0.take (f0/1000000)=fs at *
    generalize cs0.drop (f0/1000000)=cs at *
    obtain⟨val,ups,h4,h5⟩:=hC R r k J β h w g d f _ _ S hl hh (htk.1.append ((TS SS c.args.toList).append htk.2))
    refine⟨val,ups,h4,fun hfr hn=>?_⟩
    have hcall:=h5 hfr
    unfold dE at hbody
    cases hfn:E.P.funcs[f]? with
    | none=>rw[hfn] at hbody;simp at hbody
    | some fn =>
     rw[hfn] at hbody
     simp at hbody
     obtain⟨hb1,hb2⟩:=hbody
     have hb3:fn.body.isNone=false:=by cases hq:fn.body<;>simp_all
     have hargs:(⟨fs⟩:Array Value)++c.args.map a.eval++(⟨cs⟩:Array Value)=(fs++(c.args.toList.map a.eval++cs)).toArray:=by apply Array.ext';simp
     have hrun:(execOp a.eval o).run E.P w=.ok (.enter f (fs++(c.args.toList.map a.eval++cs)).toArray) w:=by
      simp only[execOp,ho,Sem.run_bind,resolve,hc,h2,Deferred.ofValue,Sem.run_pure,Result.andThen_ok,invoke,callFunc,run_program,hfn]
      simp only[hb3,hargs]
      simp[hb2]
     unfold Oper.wp
     rw[hrun]
     refine Calls.mono hcall ?_
     rintro e w' ⟨vc,rfl,hd⟩
     exact hn vc w' hd
   ·simp at hh
  ·simp at hh
 ·simp at hh
end
end Gx

namespace Gx
open Go
def SameO (β β':Aw) (b:Nat) (x x':Blk):Prop:=(An x=false→β' b=β b)∧(An x=true→(β' b).map (·.1)=(β b).map (·.1)∧x'.cells.length=x.cells.length)
theorem SameB.o {β β':Aw} {b:Nat} {x x':Blk} (h:SameB β β' b x x'):SameO β β' b x x':=⟨h.1,fun hn=>⟨(h.2 hn).1,(h.2 hn).2.2.2⟩⟩
theorem SameO.trans {β β' β'':Aw} {b:Nat} {x x' x'':Blk} (h:SameO β β' b x x') (h':SameO β' β'' b x' x'') (he:An x'=An x):SameO β β'' b x x'' :=
 ⟨fun hn=>(h'.1 (he.trans hn)).trans (h.1 hn),fun hn=>⟨(h'.2 (he.trans hn)).1.trans (h.2 hn).1,(h'.2 (he.trans hn)).2.trans (h.2 hn).2⟩⟩
theorem SameO.to {β β' β2:Aw} {b c:Nat} {x x' x2:Blk} (h:SameO β β' b x x') (hβ:β2 c=β' b) (hc:c=b) (hl:x2.cells.length=x'.cells.length):SameO β β2 c x x2:=by
 subst hc
 exact⟨fun hn=>hβ.trans (h.1 hn),fun hn=>⟨by rw[hβ];exact(h.2 hn).1,hl.trans (h.2 hn).2⟩⟩
structure Start where
 J:Bool→Nat→Prop
 β:Aw
 h:Ag
 w:World
structure Inv (Z:Start) (nt:Nat) (J:Bool→Nat→Prop) (β:Aw) (st:St) (a:Act) (w:World):Prop where
 sim:SimH J β st.h w
 ss:SimS J β st.h w st.s a.tmps
 tmps:a.tmps.size=nt
 defers:a.defers=[]
 os:w.os=Z.w.os
 tape:w.tape=Z.w.tape
 output:w.output=Z.w.output
 size:Z.w.heap.size≤w.heap.size
 frame:∀ k,k<Z.w.heap.size→¬ eV Z.β Z.h k→w.heap[k]?=Z.w.heap[k]?
 wr:∀ k,eV β st.h k→k<Z.w.heap.size→eV Z.β Z.h k
 jsub:∀ o k,Z.J o k→J o k
 jup:∀ o k,J o k→Z.J o k∨eV Z.β Z.h k∨Z.w.heap.size≤k
 sizes:∀ k,Am Z.w k≤Am w k
 zlt:∀ b x0,Ac Z.h b=some x0→b<200000
 zge:∀ b x0,Ac Z.h b=some x0→100000≤b
 outs:∀ b x0 x,Ac Z.h b=some x0→Ac st.h b=some x→x.dead=false→(SameO Z.β β b x0 x∧x.mp=x0.mp)∧x.sz=x0.sz∧(x0.mp=false→x.cells.length=x0.cells.length)∧x0.dead=false
section
variable {R:Type} {r:R} {Z:Start} {nt:Nat} {J J':Bool→Nat→Prop} {β β':Aw} {st:St} {h':Ag} {a:Act} {w w':World} {ops:Array Oper} {o:Oper}
theorem Hc {s:Dy} {d:Option Nat} {v:AV} {i:Nat}:Dd (iK nt s d v) i=if d=some i∧i<nt then v else Dd s i:=by
 unfold iK
 cases d with
 | none=>simp
 | some d =>
  simp only[Option.some.injEq]
  cases hb:Nat.blt d nt with
  | true =>
   have hlt:d<nt:=by simpa using hb
   simp only[cond_true]
   rw[Ha]
   by_cases e:i=d
   ·subst e;simp[hlt]
   ·rw[if_neg e,if_neg (fun hh=>e hh.1.symm)]
  | false =>
   have hlt:¬ d<nt:=by intro hl;rw[show Nat.blt d nt=true by simpa using hl] at hb;cases hb
   simp only[cond_false]
   rw[if_neg (fun hh=>by obtain⟨h1,h2⟩:=hh;subst h1;exact hlt h2)]
theorem SimS.put {h:Ag} {s:Dy} {d:Option Nat} {v:AV} {vc:Value} (H:SimS J β h w s a.tmps) (hn:a.tmps.size=nt) (hv:Rep J β h w v vc):SimS J β h w (iK nt s d v) (a.put d vc).tmps:=by
 refine⟨fun i u hu=>?_,fun i hi=>?_⟩
 ·rw[Hc]
  cases d with
  | none=>simp;exact H.slot i u hu
  | some d =>
   simp only[Act.put] at hu
   rw[Array.getElem?_setIfInBounds] at hu
   by_cases e:d=i
   ·subst e
    simp only[if_true] at hu
    by_cases hlt:d<a.tmps.size
    ·simp[hlt] at hu;subst hu
     rw[if_pos ⟨rfl,by omega⟩];exact hv
    ·simp[hlt] at hu
   ·rw[if_neg e] at hu
    rw[if_neg (fun hh=>e (by simpa using hh.1))]
    exact H.slot i u hu
 ·have hs:(a.put d vc).tmps.size=a.tmps.size:=by cases d<;>simp[Act.put]
  rw[hs] at hi
  rw[Hc,if_neg (by omega)]
  exact H.out i hi
theorem SimS.ext {h:Ag} {s:Dy} {t:Array Value} (E:Ext J β h w J' β' h' w') (H:SimS J β h w s t):SimS J' β' h' w' s t :=
 ⟨fun i v hv=>Rep.ext E (H.slot i v hv),H.out⟩
theorem Inv.step (I:Inv Z nt J β st a w) (A:Step J β st.h w J' β' h' w') (hnew:∀ b x,Ac h' b=some x→Ac st.h b=none→Ea≤b):Inv Z nt J' β' { s:=st.s,h:=h' } a w' where
 sim:=A.sim
 ss:=I.ss.ext A.ext
 tmps:=I.tmps
 defers:=I.defers
 os:=A.os.trans I.os
 tape:=A.tape.trans I.tape
 output:=A.output.trans I.output
 size:=Nat.le_trans I.size A.size
 frame k hk hm:=(A.frame k (Nat.lt_of_lt_of_le hk I.size) (fun hm'=>hm (I.wr k hm' hk))).trans (I.frame k hk hm)
 wr k hm hk:=I.wr k (A.wr k hm (Nat.lt_of_lt_of_le hk I.size)) hk
 jsub o k hj:=A.ext.jsub o k (I.jsub o k hj)
 jup o k hj:=by
  rcases A.jup o k hj with h1 | h1 | h1
  ·exact I.jup o k h1
  ·by_cases hk:k<Z.w.heap.size
   ·exact .inr (.inl (I.wr k h1 hk))
   ·exact .inr (.inr (by omega))
  ·exact .inr (.inr (Nat.le_trans I.size h1))
 sizes k:=Nat.le_trans (I.sizes k) (A.ext.size 0 k 0 trivial)
 outs b x0 x h0 hx hd:=by
  cases hb:Ac st.h b with
  | none=>have:=hnew b x hx hb;have:=I.zlt b x0 h0;unfold Ea at *;omega
  | some y =>
   obtain⟨x',⟨g1,gm⟩,g2⟩:=A.ext.blk b y hb
   change Ac h' b=some x at hx
   rw[hx] at g1;simp at g1;subst g1
   rcases g2 with g2 | ⟨g2,g3,g4,g5⟩
   ·simp[hd] at g2
   ·obtain⟨⟨e1,em⟩,e2,e3,e4⟩:=I.outs b x0 y h0 hb g2
    exact⟨⟨e1.trans g3.o (Ey em e2),gm.trans em⟩,g4.trans e2,fun h=>(g5 (em.trans h)).trans (e3 h),e4⟩
 zlt:=I.zlt
 zge:=I.zge
theorem Inv.put (I:Inv Z nt J β st a w) {d:Option Nat} {v:AV} {vc:Value} (hv:Rep J β st.h w v vc):Inv Z nt J β { s:=iK nt st.s d v,h:=st.h } (a.put d vc) w where
 sim:=I.sim
 ss:=I.ss.put I.tmps hv
 tmps:=by cases d<;>simp[Act.put,I.tmps]
 defers:=by cases d<;>simp[Act.put,I.defers]
 os:=I.os
 tape:=I.tape
 output:=I.output
 size:=I.size
 frame:=I.frame
 wr:=I.wr
 jsub:=I.jsub
 jup:=I.jup
 sizes:=I.sizes
 zlt:=I.zlt
 zge:=I.zge
 outs:=I.outs
theorem TU {d:Nat} {F:List Nat} {h:Ag}:∀ {ups:Bo},CK d F h ups=true→∀ b,Ao ups b=true→(P0 d b=true∧Ac h b=none)∨(P0 d b=false∧Dz F b=true∧∃ x,Ac h b=some x)
 | [],_,b,hb=>by simp[Ao] at hb
 | (i,_)::r,hu,b,hb=>by
  rw[CK] at hu
  simp at hu
  rw[Ao] at hb
  cases hi:Nat.beq i b with
  | true =>
   have:i=b:=Nat.eq_of_beq_eq_true hi
   subst this
   cases hn:P0 d i with
   | true=>rw[hn] at hu;simp at hu;exact .inl ⟨rfl,hu.1⟩
   | false =>
    rw[hn] at hu;simp at hu
    obtain⟨⟨h1,h2⟩,_⟩:=hu
    exact .inr ⟨rfl,h1,Option.isSome_iff_exists.1 h2⟩
  | false=>rw[hi] at hb;exact TU hu.2 b (by simpa using hb)
theorem nD {d b:Nat} (hn:P0 d b=true):Ea≤b:=by
 unfold P0 nid at hn
 simp at hn
 unfold Ea;omega
theorem d3 {d:Nat} {F:List Nat} {h:Ag} {ups:Bo} (hu:CK d F h ups=true) {b:Nat} {x:Blk} (hx:Ac (Ab ups h) b=some x) (hn:Ac h b=none):Ea≤b:=by
 cases hi:Ao ups b with
 | false=>rw[A3 _ _ _ hi,hn] at hx;cases hx
 | true =>
  rcases TU hu b hi with⟨h1,_⟩ | ⟨_,_,y,hy⟩
  ·exact nD h1
  ·rw[hn] at hy;cases hy
theorem iY {h:Ag} {F:List Nat}:Looks (fun b=>cond (Dz F b) (Ac h b) none) h:=fun b x hb=>by
 cases hm:Dz F b with
 | true=>simpa[hm] using hb
 | false=>simp[hm] at hb
theorem aE {h:Ag} {s:Dy} (H:SimS J β h w s a.tmps) {t:Bool} (hw:Uo ops s o=some t):Region.wanted o (yielded ops a.tmps)=t:=by
 unfold Uo at hw
 unfold Region.wanted
 split at hw
 ·rename_i hg;rw[hg];simpa using hw
 ·rename_i j want hg
  rw[hg]
  simp only
  unfold yielded
  split at hw
  ·rename_i t' ht
   rw[ht]
   simp only[Option.bind_some]
   cases hv:a.tmps[t']? with
   | none =>
    have:=H.out t' (by simpa using hv)
    rw[this] at hw;simp at hw
   | some v =>
    have hr:=H.slot t' v hv
    split at hw
    ·rename_i b hb
     rw[hb,Rep] at hr;subst hr
     simp at hw;subst hw
     simp
    ·rename_i hb
     rw[hb,Rep] at hr
     obtain⟨cs,rfl,hc⟩:=hr
     rw[Reps] at hc;subst hc
     simp at hw;subst hw
     simp
    ·simp at hw
  ·rename_i ht
   rw[ht]
   simp at hw;subst hw
   simp
theorem TV {E:Env} (hC:FA E) (I:Inv Z E.nt J β st a w) {k:St→Foot→O R} (hh:e9 E ops o st k=some r) {K:Act→World→Prop} {Q:Exit→Act→World→Prop} :
  ∃ st' f,k st' f=some r∧((∀ a' w' J' β',Inv Z E.nt J' β' st' a' w'→K a' w')→if Region.wanted o (yielded ops a.tmps) then o.wp E.P a w K Q else K (a.put o.dst undef) w):=by
 unfold e9 at hh
 obtain⟨t,ht,h1⟩:=ub hh
 rw[aE I.ss ht]
 cases t with
 | false =>
  refine⟨_,_,h1,fun hK=>?_⟩
  simp only[Bool.false_eq_true,if_false]
  exact hK _ _ J β (I.put (by rw[Rep];exact⟨[],rfl,by rw[Reps]⟩))
 | true =>
  rw[cond_true] at h1
  obtain⟨val,ups,h2,h3⟩:=iX (o:=o) (next:=K) (Q:=Q) hC I.sim I.ss iY h1
  obtain⟨hu,h4⟩:=uc h2
  refine⟨_,_,h4,fun hK=>?_⟩
  simp only[if_true]
  refine h3 (fun b hb hn=>?_) (fun vc w' hd=>?_)
  ·rcases TU hu b hb with⟨_,g⟩ | ⟨g,_⟩
   ·exact g
   ·rw[hn] at g;cases g
  ·obtain⟨J',β',A,hv⟩:=hd
   exact hK _ _ J' β' ((I.step A (fun b x hx hn=>d3 hu hx hn)).put hv)
def Eqv (a b:St):Prop:=(∀ t,Dd a.s t=Dd b.s t)∧(∀ b',Ac a.h b'=Ac b.h b')
theorem Eqv.refl (a:St):Eqv a a:=⟨fun _=>rfl,fun _=>rfl⟩
theorem Eqv.symm {a b:St} (h:Eqv a b):Eqv b a:=⟨fun t=>(h.1 t).symm,fun t=>(h.2 t).symm⟩
theorem Eqv.trans {a b c:St} (h:Eqv a b) (k:Eqv b c):Eqv a c:=⟨fun t=>(h.1 t).trans (k.1 t),fun t=>(h.2 t).trans (k.2 t)⟩
theorem Inv.eqv {nt:Nat} {J:Bool→Nat→Prop} {β:Aw} {st st2:St} {a:Act} {w:World} (I:Inv Z nt J β st a w) (h:Eqv st st2):Inv Z nt J β st2 a w:=by
 have hr:∀ {x v},Rep J β st.h w x v→Rep J β st2.h w x v:=fun hx=>Rep.ext ⟨fun _ _ hj=>hj,fun _ _ _=>rfl,fun b x hb=>⟨x,⟨by rw[←h.2 b];exact hb,rfl⟩,X6⟩,fun _ _ _ _=>Nat.le_refl _⟩ hx
 refine⟨⟨I.sim.jlt,I.sim.jft,I.sim.gl,fun b x hb hd hm=>?_,fun b x hb hd hm=>I.sim.mblk b x (by rw[h.2];exact hb) hd hm,fun b b' x x' k hb hb'=>I.sim.sepT b b' x x' k (by rw[h.2];exact hb) (by rw[h.2];exact hb')⟩,⟨fun i v hv=>by rw[←h.1 i];exact hr (I.ss.slot i v hv),fun i hi=>by rw[←h.1 i];exact I.ss.out i hi⟩,I.tmps,I.defers,I.os,I.tape,I.output,I.size,I.frame,?_,I.jsub,I.jup,I.sizes,I.zlt,I.zge,fun b x0 x h0 hx=>I.outs b x0 x h0 (by rw[h.2];exact hx)⟩
 ·rcases I.sim.blk b x (by rw[h.2];exact hb) hd hm with h1 | ⟨k,o,cs,ty,fr,h1,h2,h3,h4,h5,h6⟩
  ·exact .inl h1
  ·exact .inr ⟨k,o,cs,ty,fr,h1,h2,h3,h4,⟨h5.1,fun hp j c hj=>by
    obtain⟨u,g1,g2,g3⟩:=h5.2 hp j c hj
    exact⟨u,g1,hr g2,g3⟩⟩,h6⟩
 ·rintro k ⟨b,x,hb,hd,hs,hβ⟩ hk
  exact I.wr k ⟨b,x,by rw[h.2];exact hb,hd,hs,hβ⟩ hk
theorem TW {st:St} {k:St→O R} (hh:KJ ops o st k=some r):∃ st',Eqv st st'∧k st'=some r:=by
 unfold KJ at hh
 split at hh
 ·exact⟨st,Eqv.refl _,hh⟩
 ·rename_i j want hg
  split at hh
  ·exact⟨st,Eqv.refl _,hh⟩
  ·rename_i t ht
   split at hh
   ·rename_i b hb
    have key:∀ c:Bool,b=c→Eqv st { s:=EU st.s t (.bool c),h:=st.h }:=by
     intro c hc
     refine⟨fun i=>?_,fun _=>rfl⟩
     simp only
     rw[Ha]
     by_cases e:i=t
     ·subst e;rw[if_pos rfl,hb,hc]
     ·rw[if_neg e]
    cases hw:(b==want) with
    | true =>
     rw[hw] at hh
     exact⟨_,key want (by simpa using hw),hh⟩
    | false =>
     rw[hw] at hh
     exact⟨_,key (!want) (by cases b<;>cases want<;>simp_all),hh⟩
   ·exact⟨st,Eqv.refl _,hh⟩
theorem TX {E:Env} (hC:FA E) {Q:Exit→Act→World→Prop}:∀ (l:List Oper) {st:St} {tr:List Foot} {k:St→List Foot→O R} {a:Act} {w:World} {J:Bool→Nat→Prop} {β:Aw},
  Inv Z E.nt J β st a w→SZ E ops l st tr k=some r→(∀ st' tr' a' w' J' β',Inv Z E.nt J' β' st' a' w'→k st' tr'=some r→Q .normal a' w')→wpList E.P ops Q l a w
 | [],st,tr,k,a,w,J,β,I,hh,hQ=>hQ st tr a w J β I hh
 | o::l,st,tr,k,a,w,J,β,I,hh,hQ=>by
  rw[SZ] at hh
  obtain⟨ol,he,hh⟩:=TW hh
  obtain⟨st',f,h1,h2⟩:=TV (K:=wpList E.P ops Q l) (Q:=Q) hC (I.eqv he) hh
  have:=h2 (fun a' w' J' β' I'=>TX hC l I' h1 hQ)
  rw[wpList]
  split
  ·rename_i hw;rw[if_pos hw] at this;exact .inl this
  ·rename_i hw;rw[if_neg hw] at this;exact this
end
end Gx

namespace Gx
open Go
theorem Fs:∀ {l:List Nat} {b:Nat},Dz l b=true↔b ∈ l
  | [],b=>by simp[Dz]
  | i::r,b=>by
    rw[Dz]
    cases hi:Nat.beq i b with
    | true=>have:=Nat.eq_of_beq_eq_true hi;subst this;simp
    | false => have := Hl hi; simp only [cond_false, List.mem_cons]; rw [Fs]; constructor
               · exact fun h=>.inr h
               · rintro(h | h)
                 · exact absurd h.symm this
                 · exact h
theorem Ks:∀ {l:List Nat},X0 l=true→l.Nodup
 | [],_=>List.nodup_nil
 | i::r,h=>by
  rw[X0] at h;simp at h
  refine List.nodup_cons.2 ⟨fun hm=>?_,Ks h.2⟩
  rw[Fs.2 hm] at h;simp at h
theorem KT {g:Ar} {ids:List Nat}:∀ {l:List Nat},TA g ids l=true→∀ b ∈ l,∀ x,B9 g b=some x→b ∈ ids
 | [],_,b,hb,_,_=>by simp at hb
 | i::r,h,b,hb,x,hx=>by
  rw[TA] at h;simp at h
  rcases List.mem_cons.1 hb with e | hb
  ·subst e
   rcases h.1 with h1 | h1
   ·exact Fs.1 h1
   ·rw[hx] at h1;simp at h1
  ·exact KT h.2 b hb x hx
theorem fJ:∀ {l:List Nat},k7 l=true→∀ b ∈ l,Ea≤b→Ex b<100000
 | [],_,b,hb,_=>by simp at hb
 | i::r,h,b,hb,hn=>by
  rw[k7] at h;simp at h
  rcases List.mem_cons.1 hb with e | hb
  ·subst e
   have:Nat.ble Ea b=true:=by simpa using hn
   rw[this] at h;simpa using h.1
  ·exact fJ h.2 b hb hn
theorem Jk (g:Ar):∀ c:LA,(Ff g c).length=c.length
 | []=>rfl
 | x::r=>by rw[Ff,List.length_cons,List.length_cons,Jk g r]
section
variable {R:Type} {r:R} {Z:Start} {nt:Nat} {J J':Bool→Nat→Prop} {β β':Aw} {st:St} {h h':Ag} {a:Act} {w w':World} {ids:List Nat}
def Ez (g:Ar) (x:Blk):Blk:={ x with cells:=cond x.pure x.cells (Ff g x.cells),gen:=0,pend:=0 }
theorem FC {g:Ar}:∀ {ids:List Nat},(ids.map Ex).Nodup→∀ c y,Ac (Of g ids) c=some y→∃ b x,b ∈ ids∧Ex b=c∧B9 g b=some x∧y=Ez g x
 | [],_,c,y,hc=>by simp[Of,Ac] at hc
 | b::r,hn,c,y,hc=>by
  rw[List.map_cons,List.nodup_cons] at hn
  rw[Of] at hc
  split at hc
  ·rename_i x hx
   rw[Aa] at hc
   by_cases e:c=Ex b
   ·rw[if_pos e] at hc;simp at hc
    exact⟨b,x,by simp,e.symm,hx,hc.symm⟩
   ·rw[if_neg e] at hc
    obtain⟨b',x',h1,h2,h3,h4⟩:=FC hn.2 c y hc
    exact⟨b',x',by simp[h1],h2,h3,h4⟩
  ·obtain⟨b',x',h1,h2,h3,h4⟩:=FC hn.2 c y hc
   exact⟨b',x',by simp[h1],h2,h3,h4⟩
theorem Kt {g:Ar}:∀ {ids:List Nat},(ids.map Ex).Nodup→∀ b x,b ∈ ids→B9 g b=some x→Ac (Of g ids) (Ex b)=some (Ez g x)
 | [],_,b,x,hb,_=>by simp at hb
 | b'::r,hn,b,x,hb,hx=>by
  rw[List.map_cons,List.nodup_cons] at hn
  rw[Of]
  by_cases e:b=b'
  ·subst e
   rw[hx]
   simp only
   rw[Aa,if_pos rfl];rfl
  ·have hm:b ∈ r:=by simpa[e] using hb
   have ne:Ex b≠Ex b':=fun h=>hn.1 (by rw[←h];exact List.mem_map.2 ⟨b,hm,rfl⟩)
   split
   ·rw[Aa,if_neg ne];exact Kt hn.2 b x hm hx
   ·exact Kt hn.2 b x hm hx
def KU (ids:List Nat) (c:Nat):Option Nat:=ids.find? fun b=>Nat.beq (Ex b) c
theorem E1 (hn:(ids.map Ex).Nodup) {b:Nat} (hb:b ∈ ids):KU ids (Ex b)=some b:=by
 induction ids with
 | nil=>simp at hb
 | cons i r ih =>
  rw[List.map_cons,List.nodup_cons] at hn
  unfold KU at ih ⊢
  rw[List.find?_cons]
  by_cases e:b=i
  ·subst e;simp
  ·have hm:b ∈ r:=by simpa[e] using hb
   have ne:Ex i≠Ex b:=fun h=>hn.1 (by rw[h];exact List.mem_map.2 ⟨b,hm,rfl⟩)
   rw[Sq ne];exact ih hn.2 hm
def pX (g:Ar) (ids:List Nat) (l:List Nat):Prop:=∀ b ∈ l,∀ x,B9 g b=some x→b ∈ ids
theorem l8 {b:Nat}:B9 (Ac h) b=(Ac h b).bind fun x=>cond x.dead none (some x):=rfl
theorem U0 {b:Nat} {x y:Blk} (hx:Ac h b=some x) (hv:B9 (Ac h) b=some y):y=x∧x.dead=false:=by
 rw[l8,hx] at hv
 cases hd:x.dead with
 | true=>simp[hd] at hv
 | false=>simp[hd] at hv;exact⟨hv.symm,rfl⟩
mutual
theorem Rep.clean (hn:(ids.map Ex).Nodup):∀ {x:AV} {v:Value},pX (Ac h) ids (Df x)→Rep J β h w x v →
  Rep J (fun c=>(KU ids c).bind β) (Of (Ac h) ids) w (Mo (Ac h) x) v
 | .own b off n,v,hm,hr=>by
  rw[Rep] at hr
  obtain⟨x,A,cap,⟨hx,hmp⟩,h1,h2,h3⟩:=hr
  rw[Mo]
  cases hv:B9 (Ac h) b with
  | none=>simp only;rw[Rep];trivial
  | some y =>
   obtain⟨rfl,hd⟩:=U0 hx hv
   have hb:=hm b (by simp[Df]) _ hv
   simp only
   rw[Rep]
   refine⟨Ez (Ac h) y,A,cap,⟨Kt hn b y hb hv,hmp⟩,h1,h2,?_⟩
   rcases h3 with h3 | ⟨k,o,h4,h5⟩
   ·exact .inl h3
   ·refine .inr ⟨k,o,h4,?_⟩
    rcases h5 with h5 | ⟨h5,h6,h7⟩
    ·simp[hd] at h5
    ·refine .inr ⟨by rw[E1 hn hb];exact h5,h6,?_⟩
     have:(Ez (Ac h) y).cells.length=y.cells.length:=by
      unfold Ez;cases y.pure
      ·simp;exact Jk _ _
      ·rfl
     rw[this];exact h7
 | .optr b off,v,hm,hr=>by
  rw[Rep] at hr
  obtain⟨x,k,o,⟨hx,hmp⟩,h1,h2⟩:=hr
  rw[Mo]
  cases hv:B9 (Ac h) b with
  | none=>simp only;rw[Rep];trivial
  | some y =>
   obtain⟨rfl,hd⟩:=U0 hx hv
   have hb:=hm b (by simp[Df]) _ hv
   simp only
   rw[Rep]
   refine⟨Ez (Ac h) y,k,o,⟨Kt hn b y hb hv,hmp⟩,h1,?_⟩
   rcases h2 with h2 | h2
   ·simp[hd] at h2
   ·exact .inr (by rw[E1 hn hb];exact h2)
 | .omap b,v,hm,hr=>by
  rw[Rep] at hr
  obtain⟨x,k,⟨hx,hmp⟩,h2⟩:=hr
  rw[Mo]
  cases hv:B9 (Ac h) b with
  | none=>simp only;rw[Rep];trivial
  | some y =>
   obtain⟨rfl,hd⟩:=U0 hx hv
   have hb:=hm b (by simp[Df]) _ hv
   simp only
   rw[Rep]
   refine⟨Ez (Ac h) y,k,⟨Kt hn b y hb hv,hmp⟩,?_⟩
   rcases h2 with h2 | h2
   ·simp[hd] at h2
   ·exact .inr (by rw[E1 hn hb];exact h2)
 | .nd b q,v,hm,hr=>by
  rw[Rep] at hr
  obtain⟨hsh,x,⟨hx,hmp⟩,h2⟩:=hr
  rw[Mo]
  cases hv:B9 (Ac h) b with
  | none=>simp only;rw[Rep];trivial
  | some y =>
   obtain⟨rfl,hd⟩:=U0 hx hv
   have hb:=hm b (by simp[Df]) _ hv
   simp only
   cases hq:q.stable with
   | false=>rw[cond_false,Rep];trivial
   | true =>
    rw[cond_true,Rep]
    refine⟨hsh,Ez (Ac h) y,⟨Kt hn b y hb hv,hmp⟩,?_⟩
    rcases h2 with h2 | h2
    ·simp[hd] at h2
    ·rw[E1 hn hb]
     have hln:(Ez (Ac h) y).cells.length=y.cells.length:=by
      unfold Ez;cases y.pure
      ·simp;exact Jk _ _
      ·rfl
     cases q with
     | whole n=>obtain⟨k,o,g1,g2,g3,g4⟩:=h2;exact .inr ⟨k,o,g1,g2,hln.trans g3,g4⟩
     | slot i=>obtain⟨k,o,g1,g2,g3,g4⟩:=h2;exact .inr ⟨k,o,g1,g2,by rw[hln];exact g3,g4⟩
     | ref i g n s=>simp[NV.stable] at hq
     | elt i g off s=>simp[NV.stable] at hq
     | stamp i g p=>simp[NV.stable] at hq
 | .agg c,v,hm,hr=>by
  rw[Rep] at hr
  obtain⟨cs,h1,h2⟩:=hr
  rw[Mo,Rep]
  exact⟨cs,h1,Reps.clean hn (by simpa[Df] using hm) h2⟩
 | .tup c,v,hm,hr=>by
  rw[Rep] at hr
  obtain⟨cs,h1,h2⟩:=hr
  rw[Mo,Rep]
  exact⟨cs,h1,Reps.clean hn (by simpa[Df] using hm) h2⟩
 | .fn f c,v,hm,hr=>by
  rw[Rep] at hr
  obtain⟨cs,h1,h2⟩:=hr
  rw[Mo,Rep]
  exact⟨cs,h1,Reps.clean hn (by simpa[Df] using hm) h2⟩
 | .pagg c o,v,hm,hr=>by show Rep J _ _ w (.pagg c o) v;rw[Rep] at hr ⊢;exact hr
 | .undef,v,hm,hr=>by show Rep J _ _ w (.undef) v;rw[Rep] at hr ⊢;exact hr
 | .imm c n sz t o,v,hm,hr=>by show Rep J _ _ w (.imm c n sz t o) v;rw[Rep] at hr ⊢;exact hr
 | .iptr c o,v,hm,hr=>by show Rep J _ _ w (.iptr c o) v;rw[Rep] at hr ⊢;exact hr
 | .int k n,v,hm,hr=>by show Rep J _ _ w (.int k n) v;rw[Rep] at hr ⊢;exact hr
 | .bool b,v,hm,hr=>by show Rep J _ _ w (.bool b) v;rw[Rep] at hr ⊢;exact hr
 | .str s,v,hm,hr=>by show Rep J _ _ w (.str s) v;rw[Rep] at hr ⊢;exact hr
 | .nsl,v,hm,hr=>by show Rep J _ _ w (.nsl) v;rw[Rep] at hr ⊢;exact hr
 | .nilptr,v,hm,hr=>by show Rep J _ _ w (.nilptr) v;rw[Rep] at hr ⊢;exact hr
 | .nilfn,v,hm,hr=>by show Rep J _ _ w (.nilfn) v;rw[Rep] at hr ⊢;exact hr
theorem Reps.clean (hn:(ids.map Ex).Nodup):∀ {c:List AV} {cs:List Value},pX (Ac h) ids (Ep c)→Reps J β h w c cs →
  Reps J (fun c=>(KU ids c).bind β) (Of (Ac h) ids) w (Ff (Ac h) c) cs
 | [],cs,hm,hr=>by rw[Reps] at hr;rw[Ff,Reps];exact hr
 | x::r,cs,hm,hr=>by
  rw[Reps] at hr
  obtain⟨u,us,h1,h2,h3⟩:=hr
  rw[Ff,Reps]
  exact⟨u,us,h1,Rep.clean hn (fun b hb=>hm b (by simp[Ep,hb])) h2,Reps.clean hn (fun b hb=>hm b (by simp[Ep,hb])) h3⟩
end
theorem P5 {g:Ar} {K:List Nat}:∀ {s:Dy} {i:Nat},Dd (KK g K s) i=if Dz K i=true then Mo g (Dd s i) else .undef
 | [],i=>by
  simp only[KK,Dd]
  show AV.undef=if Dz K i=true then AV.undef else AV.undef
  split<;>rfl
 | (t,v)::r,i=>by
  rw[KK,Dd]
  cases hk:Dz K t with
  | true =>
   simp only[cond_true,Dd]
   cases hi:Nat.beq t i with
   | true =>
    have:=Nat.eq_of_beq_eq_true hi;subst this
    simp[hk]
   | false=>simp only[cond_false];exact P5
  | false =>
   simp only[cond_false]
   rw[P5]
   cases hi:Nat.beq t i with
   | true =>
    have:=Nat.eq_of_beq_eq_true hi;subst this
    simp[hk]
   | false=>rfl
theorem TY {K:List Nat}:∀ {s:Dy} {i:Nat},Dz K i=true→∀ b ∈ Df (Dd s i),b ∈ S_ K s
 | [],i,_,b,hb=>by simp[Dd,Df] at hb
 | (t,v)::r,i,hk,b,hb=>by
  rw[Dd] at hb
  rw[S_]
  cases hi:Nat.beq t i with
  | true =>
   have:=Nat.eq_of_beq_eq_true hi;subst this
   rw[hi] at hb
   rw[hk];simp at hb ⊢;exact .inl hb
  | false =>
   rw[hi] at hb
   have:=TY hk b hb
   cases Dz K t
   ·exact this
   ·simp;exact .inr this
theorem KV {g:Ar}:∀ {ids:List Nat} {b:Nat} {x:Blk},b ∈ ids→g b=some x→x.pure=false→∀ c ∈ Ep x.cells,c ∈ inner g ids
 | [],b,x,hb,_,_,_,_=>by simp at hb
 | i::r,b,x,hb,hx,hp,c,hc=>by
  rw[inner]
  by_cases e:b=i
  ·subst e;rw[hx];simp only[hp,cond_false];exact List.mem_append.2 (.inl hc)
  ·exact List.mem_append.2 (.inr (KV (by simpa[e] using hb) hx hp c hc))
theorem KW:∀ {c:LA} {j:Nat} {x:AV},c[j]?=some x→∀ b ∈ Df x,b ∈ Ep c
 | [],j,x,hj,_,_=>by simp at hj
 | y::r,j,x,hj,b,hb=>by
  rw[Ep]
  cases j with
  | zero=>simp at hj;subst hj;exact List.mem_append.2 (.inl hb)
  | succ j=>exact List.mem_append.2 (.inr (KW (by simpa using hj) b hb))
theorem MP {g:Ar}:∀ {c:LA} {j:Nat} {y:AV},(Ff g c)[j]?=some y→∃ x,c[j]?=some x∧y=Mo g x
 | [],j,y,hj=>by simp[Ff] at hj
 | x::r,j,y,hj=>by
  rw[Ff] at hj
  cases j with
  | zero=>simp at hj;exact⟨x,by simp,hj.symm⟩
  | succ j=>obtain⟨x',h1,h2⟩:=MP (c:=r) (j:=j) (by simpa using hj);exact⟨x',by simpa using h1,h2⟩
theorem l9 {b:Nat} (hb:b<Ea):Ex b=b:=by
 unfold Ex
 have:Nat.ble Ea b=false:=by
  cases h:Nat.ble Ea b with
  | false=>rfl
  | true=>have:=Nat.le_of_ble_eq_true h;omega
 rw[this];rfl
theorem fK {K roots:List Nat} {st':St} (I:Inv Z nt J β st a w) (hh:clean K roots st=some st'):∃ β',Inv Z nt J β' st' a w:=by
 unfold clean at hh
 obtain⟨hc,h1⟩:_∧_:=uc hh
 simp only[Bool.and_eq_true] at hc
 obtain⟨c1,c2,c3,c4⟩:=hc
 generalize hids:P1 (Ac st.h) (Oe (Ac st.h) (S_ K st.s++roots))=ids at *
 simp at h1
 have hn:=Ks c1
 have blk:∀ c y,Ac (Of (Ac st.h) ids) c=some y→∃ b x,b ∈ ids∧Ex b=c∧Ac st.h b=some x∧x.dead=false∧y=Ez (Ac st.h) x:=by
  intro c y hy
  obtain⟨b,x,g1,g2,g3,g4⟩:=FC hn c y hy
  have hx:Ac st.h b=some x∧x.dead=false:=A1 (fun _ _ h=>h) g3
  exact⟨b,x,g1,g2,hx.1,hx.2,g4⟩
 have hlen:∀ x:Blk,(Ez (Ac st.h) x).cells.length=x.cells.length:=fun x=>by
  unfold Ez;cases x.pure
  ·simp;exact Jk _ _
  ·rfl
 refine⟨fun c=>(KU ids c).bind β,?_⟩
 subst h1
 refine⟨⟨I.sim.jlt,I.sim.jft,I.sim.gl,fun c y hy hd hm=>?_,fun c y hy hd hm=>by
   obtain⟨b,x,hb,rfl,hx,hxd,rfl⟩:=blk c y hy
   have hback:(fun c=>(KU ids c).bind β:Aw) (Ex b)=β b:=by simp only[E1 hn hb,Option.bind_some]
   obtain⟨g1,g2,g3,g4⟩:=I.sim.mblk b x hx hxd hm
   have hcl:(Ez (Ac st.h) x).cells=x.cells:=by unfold Ez;rw[g1];rfl
   refine⟨g1,g2,fun j ht=>g3 j (ht.to (by rw[←hback]) rfl),?_⟩
   rcases g4 with⟨k,ob,g5,g6,g7,g8⟩ | ⟨k,o,g5,g6,g7⟩
   ·exact .inl ⟨k,ob,g5,by rw[hback];exact g6,g7,by rw[ObjIs,show(Ez (Ac st.h) x).sz=x.sz from rfl,hcl];exact g8⟩
   ·refine .inr ⟨k,o,g5,by rw[hback];exact g6,?_⟩
    unfold NestIs
    rw[hcl];exact g7,?_⟩,⟨fun i v hv=>?_,fun i hi=>?_⟩,I.tmps,I.defers,I.os,I.tape,I.output,I.size,I.frame,?_,I.jsub,I.jup,I.sizes,I.zlt,I.zge,?_⟩
 ·obtain⟨b,x,hb,rfl,hx,hxd,rfl⟩:=blk c y hy
  rcases I.sim.blk b x hx hxd hm with⟨g1,g2⟩ | ⟨k,o,cs,ty,fr,g1,g2,g3,g4,g5,g6,g7⟩
  ·refine .inl ⟨by simp only[E1 hn hb,Option.bind_some];exact g1,?_⟩
   have:=hlen x;rw[g2] at this;simpa using this
  ·refine .inr ⟨k,o,cs,ty,fr,by simp only[E1 hn hb,Option.bind_some];exact g1,g2,g3,by rw[hlen];exact g4,⟨fun hp=>?_,fun hp j q hj=>?_⟩,g6,g7⟩
   ·have hp':x.pure=true:=hp
    have:(Ez (Ac st.h) x).cells=x.cells:=by unfold Ez;rw[hp'];rfl
    rw[this];exact g5.1 hp'
   ·have hp':x.pure=false:=hp
    have:(Ez (Ac st.h) x).cells=Ff (Ac st.h) x.cells:=by unfold Ez;rw[hp'];rfl
    rw[this] at hj
    obtain⟨q',hq,rfl⟩:=MP hj
    obtain⟨u,hu,hr,ho⟩:=g5.2 hp' j q' hq
    exact⟨u,hu,Rep.clean hn (fun b' hb' x' hx'=>KT c3 b' (KV hb hx hp' b' (KW hq b' hb')) x' hx') hr,ho⟩
 ·intro c c' y y' k hy hy' hd hd' hs hβ hβ'
  obtain⟨b,x,hb,rfl,hx,hxd,rfl⟩:=blk c y hy
  obtain⟨b',x',hb',rfl,hx',hxd',rfl⟩:=blk c' y' hy'
  rw[I.sim.sepT b b' x x' k hx hx' hxd hxd' hs (hβ.to (by simp only[E1 hn hb,Option.bind_some]) rfl) (hβ'.to (by simp only[E1 hn hb',Option.bind_some]) rfl)]
 ·rw[P5]
  split
  ·rename_i hk
   exact Rep.clean hn (fun b hb x hx=>KT c2 b (TY hk b hb) x hx) (I.ss.slot i v hv)
  ·rw[Rep];trivial
 ·rw[P5,I.ss.out i hi]
  split
  ·rfl
  ·rfl
 ·rintro k ⟨c,y,hy,hd,hs,hβ⟩ hk
  obtain⟨b,x,hb,rfl,hx,hxd,rfl⟩:=blk c y hy
  exact I.wr k ⟨b,x,hx,hxd,hs,hβ.to (by simp only[E1 hn hb,Option.bind_some]) rfl⟩ hk
 ·intro c x0 y h0 hy hd
  obtain⟨b,x,hb,rfl,hx,hxd,rfl⟩:=blk c y hy
  have hlt:=I.zlt _ _ h0
  have hge:=I.zge _ _ h0
  have hbo:Ex b=b:=by
   by_cases hnb:Ea≤b
   ·have:=fJ c4 b hb hnb;omega
   ·exact l9 (by omega)
  rw[hbo] at h0
  obtain⟨⟨e1,em⟩,e2,e3,e4⟩:=I.outs b x0 x h0 hx hxd
  refine⟨⟨?_,em⟩,e2,by rw[hlen];exact e3,e4⟩
  exact e1.to (by simp only[E1 hn hb,Option.bind_some]) hbo (hlen x)
end
end Gx

namespace Gx
open Go
section
variable {R:Type}
theorem Ad {α β:Type} (b:Bool) (x y:Option α) (f:α→Option β):(cond b x y).bind f=cond b (x.bind f) (y.bind f):=by cases b<;>rfl
theorem U1 {R':Type} (P:Program) (t:TypeId) (c:LA) (o:Bool) (k:Bool→Option R') (f:R'→O R):(Lb P t c o k).bind f=Lb P t c o fun o=>(k o).bind f:=by
 unfold Lb;simp only[Ad,Option.bind_none]
theorem Ig (P:Program) (t:TypeId) (c:LA) (org:Bool) (k:AV→O R):V4 P t c org k=(V4 P t c org some).bind k:=by
 unfold V4
 split<;>simp[Option.bind_assoc,Ad,U1]<;>rfl
theorem iZ (P:Program) (t:TypeId) (c:LA) (k:AV→O R):MD P t c k=(MD P t c some).bind k:=by
 unfold MD
 split<;>simp[Option.bind_assoc,Ad]
theorem MQ (n:Nat) (k:AV→O R):∀ (c:LA) (i:Nat),Ui n k c i=(Ui n some c i).bind k
 | [],_=>rfl
 | v::r,i=>by rw[Ui,Ui,Ad,MQ n k r (i+1)];rfl
theorem MR (P:Program) (t:TypeId) (c:LA) (off:Nat) (k:AV→O R):Xv P t c off k=(Xv P t c off some).bind k:=by
 unfold Xv
 split
 ·simp[Option.bind_assoc,Ad]
 ·simp[Option.bind_assoc,Ad]
 ·exact MQ ..
 ·rfl
theorem U2 {R':Type} (s:Nat) (c:LA) (i:Nat) (k:LA→Nat→Option R') (f:R'→O R):(Ht s c i k).bind f=Ht s c i fun c n=>(k c n).bind f:=by
 unfold Ht;simp only[Option.bind_assoc]
theorem i6 (P:Program) (t:TypeId) (b:Nat) (x:Blk) (q:NV) (k:AV→O R):Xw P t b x q k=(Xw P t b x q some).bind k:=by
 cases q with
 | whole n=>rfl
 | ref i g n s=>rfl
 | stamp i g p=>rfl
 | slot i=>simp only[Xw,Ad,U2,Option.bind_none,Option.bind_some]
 | elt i g off s =>
  simp only[Xw,Ad,U2,Option.bind_none]
  congr 2;funext c n;exact Ig ..
theorem fL (b:Nat) (q:NV) (sz:Nat) (i:Int) (k:AV→O R):Uj b q sz i k=(Uj b q sz i some).bind k:=by
 cases q<;>simp[Uj,Ad]
theorem U3 (P:Program) (g:Ar) (t:TypeId) (p:AV) (k:AV→O R):SU P g t p k=(SU P g t p some).bind k:=by
 unfold SU
 split
 ·exact Ig ..
 ·rw[Option.bind_assoc]
  congr 1;funext x
  rw[Ad,←Ig,←MR]
 ·rw[Option.bind_assoc]
  congr 1;funext x
  rw[Ad,←i6];rfl
 ·rfl
theorem Wc (P:Program) (t:TypeId) (x i:AV) (k:AV→O R):Kl P t x i k=(Kl P t x i some).bind k:=by
 unfold Kl
 split<;>simp[Option.bind_assoc,Ad,←fL]
theorem Wd (P:Program) (t:TypeId) (x:AV) (f:Nat) (k:AV→O R):Km P t x f k=(Km P t x f some).bind k:=by
 unfold Km
 simp only[Option.bind_assoc,Ad]
 congr 1;funext p;congr 1;funext n;congr 1
 split<;>rfl
theorem MS (P:Program) (t:TypeId) (x:AV) (f:Nat) (k:AV→O R):JX P t x f k=(JX P t x f some).bind k:=by
 unfold JX
 rw[Option.bind_assoc]
 congr 1;funext p
 split
 ·exact Ig ..
 ·exact iZ ..
 ·rfl
theorem MT (P:Program) (t:TypeId) (x i:AV) (k:AV→O R):JY P t x i k=(JY P t x i some).bind k:=by
 unfold JY
 split
 ·simp[Ad]
 ·simp only[Option.bind_assoc,Ad,←Ig];rfl
 ·simp only[Option.bind_assoc,Ad,←MR];rfl
 ·rfl
theorem Nm {α:Type} (lo hi mx:Option AV) (n:Nat) (f:Nat→Nat→α) (k:α→O R):(Nh lo hi mx n fun l h=>k (f l h))=(Nh lo hi mx n fun l h=>some (f l h)).bind k:=by
 unfold Nh
 simp[Option.bind_assoc,Ad]
theorem MU (P:Program) (g:Ar) (t:TypeId) (x:AV) (lo hi mx:Option AV) (k:AV→O R):JZ P g t x lo hi mx k=(JZ P g t x lo hi mx some).bind k:=by
 unfold JZ
 split
 ·rw[Ad,←Nm];rfl
 ·rw[Option.bind_assoc];congr 1;funext _;exact Nm lo hi mx 0 (fun _ _=>AV.nsl) k
 ·rw[Option.bind_assoc];congr 1;funext _;rw[Ad,←Nm];rfl
 ·rw[Option.bind_assoc];congr 1;funext _;rw[Option.bind_assoc];congr 1;funext _;rw[Ad,←Nm];rfl
 ·rfl
theorem l_ (P:Program) (t:TypeId) (op:BinOp) (x y:AV) (k:AV→O R):lS P t op x y k=(lS P t op x y some).bind k:=by
 unfold lS
 split
 ·split<;>simp[Ad]
 ·split<;>simp[Ad]
 ·split<;>simp[Ad]
 ·rfl
def pr (v:AV) (u:Bo):Option (AV×Bo):=some (v,u)
theorem fM (P:Program) (g:Ar) (t:TypeId) (b:Nat) (x:Blk) (q:NV) (v:AV) (k:AV→Bo→O R):J_ P g t b x q v k=(J_ P g t b x q v pr).bind fun q=>k q.1 q.2:=by
 unfold J_
 rw[Option.bind_assoc]
 congr 1;funext n
 rw[Ad]
 congr 1
 split
 ·split<;>simp[Option.bind_assoc,Ad,pr]
 ·simp only[Ad,U2,Option.bind_none];rfl
 ·rfl
theorem fN (P:Program) (g:Ar) (t:TypeId) (p v:AV) (k:AV→Bo→O R):KA P g t p v k=(KA P g t p v pr).bind fun q=>k q.1 q.2:=by
 unfold KA
 split
 ·simp only[Option.bind_assoc,Ad]
  congr 1;funext x;congr 1;funext n;congr 1;congr 1
  split<;>simp[Ad,pr]
 ·rw[Option.bind_assoc]
  congr 1;funext x
  rw[Ad,←fM];rfl
 ·rfl
theorem FD (P:Program) (c:LA) (org:Bool):∀ (L:List (Nat×TypeId)) (acc:LA) (k:LA→O R),GA P c org L acc k=(GA P c org L acc some).bind k
 | [],acc,k=>rfl
 | (off,t)::L,acc,k=>by
  rw[GA,GA,Ad]
  congr 1
  rw[Ig,Ig (k:=fun v=>GA P c org L (acc++[v]) some),Option.bind_assoc]
  congr 1;funext v
  exact FD P c org L _ k
theorem MV (P:Program) (co:Bool) (t:TypeId) (v:AV) (k:AV→O R):KC P co t v k=(KC P co t v some).bind k:=by
 unfold KC
 split
 ·rename_i c org
  rw[FD,FD (k:=fun l=>cond (Nat.beq c.length l.length) (some (AV.agg l)) none),Option.bind_assoc]
  congr 1;funext l
  rw[Ad];rfl
 ·rfl
theorem bs (P:Program) (g:Ar) (d:Nat) (t:TypeId) (v:AV) (k:AV→Bo→O R):eX P g d t v k=(eX P g d t v pr).bind fun q=>k q.1 q.2:=by
 unfold eX
 split<;>simp[Option.bind_assoc,Ad,pr]
theorem KX (P:Program) (g:Ar) (d:Nat) (t:TypeId) (len:Nat) (ps:List (Nat×AV)) (k:AV→Bo→O R):Is P g d t len ps k=(Is P g d t len ps pr).bind fun q=>k q.1 q.2:=by
 unfold Is
 split<;>simp[Option.bind_assoc,Ad,pr,Ss]
theorem QX (P:Program) (g:Ar) (d:Nat) (t:TypeId) (len:Nat) (ps:List (Nat×AV)) (k:AV→Bo→O R):Kn P g d t len ps k=(Kn P g d t len ps pr).bind fun q=>k q.1 q.2:=by
 unfold Kn
 split<;>simp[Option.bind_assoc,Ad,pr]
theorem ld (P:Program) (t:TypeId) (co:Bool) (d:Nat) (v:AV) (k:AV→Bo→O R):lT P t co d v k=(lT P t co d v pr).bind fun q=>k q.1 q.2:=by
 unfold lT
 split<;>simp[Ad,pr]
theorem i7 (P:Program) (d:Nat) (t:TypeId) (l c:AV) (k:AV→Bo→O R):b7 P d t l c k=(b7 P d t l c pr).bind fun q=>k q.1 q.2:=by
 unfold b7
 split<;>simp[Option.bind_assoc,Ad,pr]
theorem fO (P:Program) (d:Nat) (t:TypeId) (l c:AV) (k:AV→Bo→O R):KD P d t l c k=(KD P d t l c pr).bind fun q=>k q.1 q.2:=by
 unfold KD
 split<;>simp[Option.bind_assoc,Ad,pr]
theorem GT (P:Program) (g:Ar) (d:Nat) (t tx:TypeId) (s x:AV) (k:AV→Bo→O R):Pz P g d t tx s x k=(Pz P g d t tx s x pr).bind fun q=>k q.1 q.2:=by
 unfold Pz Uk
 split<;>simp[Option.bind_assoc,Ad,pr,U1]
theorem i8 (P:Program) (g:Ar) (t:TypeId) (s x:AV) (k:AV→Bo→O R):b8 P g t s x k=(b8 P g t s x pr).bind fun q=>k q.1 q.2:=by
 unfold b8 Uk
 split<;>simp[Option.bind_assoc,Ad,pr,U1]
theorem d4 (P:Program) (g:Ar) (d:Nat) (t:TypeId) (k:AV→Bo→O R):AS P g d t k=(AS P g d t pr).bind fun q=>k q.1 q.2:=by
 unfold AS
 split<;>simp[Ad,pr]
theorem fP (P:Program) (g:Ar) (t:TypeId) (s:AV) (k:AV→Bo→O R):KE P g t s k=(KE P g t s pr).bind fun q=>k q.1 q.2:=by
 unfold KE
 split<;>simp[Option.bind_assoc,Ad,pr]
theorem i9 (P:Program) (g:Ar) (d:Nat) (src dst:TypeId) (x:AV) (k:AV→Bo→O R):b9 P g d src dst x k=(b9 P g d src dst x pr).bind fun q=>k q.1 q.2:=by
 unfold b9
 split
 ·split<;>simp[Ad,pr]
 ·split
  ·split<;>simp[pr]
  ·split
   ·split<;>simp[Option.bind_assoc,pr]
   ·rfl
  ·rfl
 ·split
  ·rw[Ad,Option.bind_assoc];simp only[Ad];rfl
  ·rfl
  ·rfl
 ·rfl
theorem fQ (P:Program) (g:Ar) (d:Nat) (src dst:TypeId) (x:AV) (k:AV→Bo→O R):KG P g d src dst x k=(KG P g d src dst x pr).bind fun q=>k q.1 q.2:=by
 unfold KG
 split
 ·split
  ·simp only[Option.bind_assoc,Ad];rfl
  ·rfl
 ·split
  ·simp only[Option.bind_assoc,Ad];rfl
  ·rfl
 ·exact i9 ..
theorem QY (g:Ar) (x:AV) (k:AV→Bo→O R):Ko g x k=(Ko g x pr).bind fun q=>k q.1 q.2:=by
 unfold Ko
 split
 ·rfl
 ·simp only[Option.bind_assoc,Ad];rfl
 ·rfl
theorem QZ (P:Program) (g:Ar) (t:TypeId) (x n:AV) (k:AV→Bo→O R):Kp P g t x n k=(Kp P g t x n pr).bind fun q=>k q.1 q.2:=by
 unfold Kp
 split
 ·rw[Ad];rfl
 ·simp only[Option.bind_assoc]
  congr 1;funext y;congr 1;funext q
  split
  ·simp only[Option.bind_assoc,Ad];rfl
  ·rfl
 ·rfl
theorem FE {R':Type} {f:R'→O R} {s1:TypeId→LA→LA→(Bool→Option R')→Option R'} {s2:TypeId→LA→LA→(Bool→O R)→O R} (hs:∀ t x y k,(s1 t x y k).bind f=s2 t x y fun b=>(k b).bind f) {x y:LA} :
  ∀ (l:List (Nat×TypeId)) (k:Bool→Option R'),(Sg s1 x y l k).bind f=Sg s2 x y l fun b=>(k b).bind f
 | [],k=>rfl
 | (o,t)::r,k=>by
  rw[Sg,Sg,hs]
  congr 1;funext b
  exact FE hs r _
theorem BD {R':Type} {f:R'→O R} (P:Program):∀ (d:Nat) (t:TypeId) (x y:LA) (k:Bool→Option R'),(QT P d t x y k).bind f=QT P d t x y fun b=>(k b).bind f
 | 0,t,x,y,k=>rfl
 | d+1,t,x,y,k=>by
  rw[QT,QT]
  split<;>simp only[Option.bind_assoc,Ad,Option.bind_none]
  ·congr 1;funext sz;rw[FE (BD P d)]
  ·congr 1;funext s;congr 1;funext sz;rw[FE (BD P d)]
theorem i_ (P:Program) (t:TypeId) (op:BinOp) (x y:AV) (k:AV→O R):bZ P t op x y k=(bZ P t op x y some).bind k:=by
 unfold bZ
 split
 ·rw[Option.bind_assoc]
  congr 1;funext s
  rw[Ad]
  congr 1
  split
  ·rw[BD];rfl
  ·rw[BD];rfl
  ·rfl
 ·exact l_ ..
theorem TZ (P:Program) (g:Ar) (t:TypeId) (op:BinOp) (x y:AV) (k:AV→O R):bg P g t op x y k=(bg P g t op x y some).bind k:=by
 unfold bg
 split
 ·rw[Ad];congr 1;split<;>rfl
 ·exact i_ ..
theorem T_ (c x y:AV) (k:AV→O R):bj c x y k=(bj c x y some).bind k:=by
 unfold bj
 split<;>first | rfl | (rw[Ad];rfl)
theorem fR (P:Program) (g:Ar) (co:Bool) (d:Nat) (t:TypeId) (k:AV→Bo→O R):KB P g co d t k=(KB P g co d t pr).bind fun q=>k q.1 q.2:=by
 unfold KB
 split
 ·rw[Option.bind_assoc];rfl
 ·exact bs ..
 ·rfl
theorem T':∀ (T:List (Nat×Tw)) (f:Nat) (args:LA) (h:Ag) (k:AV→Ag→O R),GD T f args h k=(GD T f args h fun v h'=>some (v,h')).bind fun p=>k p.1 p.2
 | [],f,args,h,k=>rfl
 | (g,t)::r,f,args,h,k=>by
  rw[GD,GD]
  cases Nat.beq g f
  ·exact T' r f args h k
  ·exact t.eq args h k
theorem ia (E:Env) (g:Ar) (d f:Nat) (args:LA) (k:AV→Bo→O R):bi E g d f args k=(bi E g d f args pr).bind fun q=>k q.1 q.2:=by
 unfold bi
 rw[Option.bind_assoc]
 congr 1;funext q
 simp only[Ad,Option.bind_none]
 congr 1
 rw[T',T' (R:=AV×Bo),Option.bind_assoc]
 congr 1;funext p
 simp only[Ad,Option.bind_none,pr,Option.bind_some]
theorem aF (d:Nat) (o:Option AV) (k:AV→Bo→O R):Od d o k=(Od d o pr).bind fun q=>k q.1 q.2:=by
 unfold Od
 split<;>rfl
theorem Sx {R':Type} (g:Ar) (b i gn:Nat) (k:Blk→LA→Option R') (f:R'→O R):(Z_ g b i gn k).bind f=Z_ g b i gn fun x c=>(k x c).bind f:=by
 unfold Z_;simp only[Option.bind_assoc,Ad,Option.bind_none]
theorem d5 (P:Program) (g:Ar) (t:TypeId) (m x:AV) (k:AV→Bo→O R):AT P g t m x k=(AT P g t m x pr).bind fun q=>k q.1 q.2:=by
 unfold AT
 split
 ·rw[Ad,Sx];rfl
 ·rfl
theorem UA (P:Program) (g:Ar) (t:TypeId) (m x:AV) (k:AV→Bo→O R):N3 P g t m x k=(N3 P g t m x pr).bind fun q=>k q.1 q.2:=by
 unfold N3
 split
 ·rw[Ad,Sx];rfl
 ·rfl
theorem KY (g:Ar) (m s x:AV) (k:AV→Bo→O R):It g m s x k=(It g m s x pr).bind fun q=>k q.1 q.2:=by
 unfold It
 split
 ·simp only[Ad,Option.bind_assoc,Option.bind_none];rfl
 ·rfl
theorem UB (P:Program) (g:Ar) (t:TypeId) (x:AV) (k:AV→O R):bc P g t x k=(bc P g t x some).bind k:=by
 unfold bc
 split
 ·simp only[Ad,Sx];rfl
 ·rw[Ad];rfl
 ·rw[Option.bind_assoc];rfl
theorem UC (P:Program) (d:Nat) (t:TypeId) (l c:AV) (k:AV→Bo→O R):N4 P d t l c k=(N4 P d t l c pr).bind fun q=>k q.1 q.2:=by
 unfold N4
 split<;>simp[Option.bind_assoc,Ad,pr]
theorem ib {R':Type} (g:Ar) (d:Nat) (s:AV) (k:Ar→AV→Bo→Option R') (f:R'→O R):(bd g d s k).bind f=bd g d s fun g s u=>(k g s u).bind f:=by
 unfold bd
 split
 ·simp only[Option.bind_assoc,Ad,U2,Option.bind_none]
 ·rfl
theorem aG (P:Program) (g:Ar) (d:Nat) (t tx:TypeId) (s x:AV) (k:AV→Bo→O R):Sk P g d t tx s x k=(Sk P g d t tx s x pr).bind fun q=>k q.1 q.2:=by
 unfold Sk
 rw[ib]
 congr 1;funext g s u
 rw[GT,GT (k:=fun v us=>pr v (u++us)),Option.bind_assoc];rfl
theorem fS (P:Program) (g:Ar) (t:TypeId) (m x y:AV) (k:AV→Bo→O R):KH P g t m x y k=(KH P g t m x y pr).bind fun q=>k q.1 q.2:=by
 unfold KH
 split<;>simp[Ad,Option.bind_assoc,pr,Sx]
theorem fT (P:Program) (d:Nat) (t:TypeId) (x:AV) (k:AV→Bo→O R):KI P d t x k=(KI P d t x pr).bind fun q=>k q.1 q.2:=by
 unfold KI
 split<;>rfl
theorem ic (g:Ar) (it:AV) (b:Bool) (k:AV→Bo→O R):bf g it b k=(bf g it b pr).bind fun q=>k q.1 q.2:=by
 unfold bf
 split
 ·rw[Option.bind_assoc];congr 1;funext x
  rw[Ad];congr 1
  split
  ·rename_i s p _
   cases decide (p<(s.length:Int))<;>rfl
  ·rfl
 ·rfl
theorem UD (P:Program) (g:Ar) (t:TypeId) (m x:AV) (c:Bool) (k:AV→O R):b_ P g t m x c k=(b_ P g t m x c some).bind k:=by
 unfold b_
 split<;>simp[Ad,Option.bind_assoc,Sx]
theorem lg (E:Env) (g:Ar) (d:Nat) (v:Operand→AV) (o:Op) (k:AV→Bo→O R):Z' E g d v o k=(Z' E g d v o pr).bind fun q=>k q.1 q.2:=by
 unfold Z'
 split
 ·rfl
 ·rfl
 ·rw[T_,T_ (k:=fun r=>pr r []),Option.bind_assoc];rfl
 ·rw[Ad,←d4,←fR]
 ·rw[MV,MV (k:=fun u=>eX E.P g d _ u pr),Option.bind_assoc];congr 1;funext u;exact bs ..
 ·rw[E_,E_,Option.bind_assoc];congr 1;funext x;exact ld ..
 ·rw[Ad,←QX,←KX]
 ·rw[U3,U3 (k:=fun r=>pr r []),Option.bind_assoc];rfl
 ·exact fN ..
 ·split<;>rfl
 ·rw[TZ,TZ (k:=fun r=>pr r []),Option.bind_assoc];rfl
 ·rw[Option.bind_assoc];rfl
 ·exact fQ ..
 ·rw[Ad];rfl
 ·rw[Ad,Ad,←UC,←fO,←i7]
 ·rw[MU,MU (k:=fun r=>pr r []),Option.bind_assoc];rfl
 ·rw[Wd,Wd (k:=fun r=>pr r []),Option.bind_assoc];rfl
 ·rw[MS,MS (k:=fun r=>pr r []),Option.bind_assoc];rfl
 ·rw[Wc,Wc (k:=fun r=>pr r []),Option.bind_assoc];rfl
 ·rw[MT,MT (k:=fun r=>pr r []),Option.bind_assoc];rfl
 ·exact aF ..
 ·exact fS ..
 ·exact UA ..
 ·exact KY ..
 ·rw[UD,UD (k:=fun r=>pr r []),Option.bind_assoc];rfl
 ·exact fT ..
 ·exact ic ..
 ·split
  ·rw[Option.bind_assoc];rfl
  ·rfl
 ·split
  ·split
   ·rw[UB,UB (k:=fun r=>pr r []),Option.bind_assoc];rfl
   ·rfl
  ·split
   ·exact aG ..
   ·rfl
  ·split
   ·exact d5 ..
   ·rfl
  ·split
   ·exact i8 ..
   ·rfl
  ·split
   ·exact fP ..
   ·rfl
  ·split
   ·rw[Option.bind_assoc];rfl
   ·simp only[Option.bind_assoc];rfl
   ·rfl
  ·split
   ·rw[Option.bind_assoc];rfl
   ·simp only[Option.bind_assoc];rfl
   ·rfl
  ·split
   ·exact QY ..
   ·rfl
  ·split
   ·exact QZ ..
   ·rfl
  ·split
   ·rw[Ad,←ia,Ad];congr 1;congr 1
    split<;>rfl
   ·rfl
  ·rfl
 ·rfl
end
end Gx

namespace Gx
open Go
theorem Sy:∀ {l acc:List Nat} {b:Nat},b ∈ MG l acc↔b ∈ l∨b ∈ acc
 | [],acc,b=>by simp[MG]
 | i::r,acc,b=>by
  rw[MG]
  cases hm:Dz acc i with
  | true =>
   simp only[cond_true]
   rw[Sy]
   have:=Fs.1 hm
   constructor
   ·rintro(h | h)
    ·exact .inl (by simp[h])
    ·exact .inr h
   ·rintro(h | h)
    ·rcases List.mem_cons.1 h with e | h
     ·subst e;exact .inr this
     ·exact .inl h
    ·exact .inr h
  | false =>
   simp only[cond_false]
   rw[Sy]
   simp only[List.mem_cons]
   constructor
   ·rintro(h | h | h)
    ·exact .inl (.inr h)
    ·exact .inl (.inl h)
    ·exact .inr h
   ·rintro((h | h) | h)
    ·exact .inr (.inl h)
    ·exact .inl h
    ·exact .inr (.inr h)
theorem P6 {g g':Ar}:∀ {l:List Nat},(∀ b ∈ l,g' b=g b)→inner g' l=inner g l
 | [],_=>rfl
 | i::r,h=>by
  rw[inner,inner,h i (by simp),P6 (fun b hb=>h b (by simp[hb]))]
theorem GU {g:Ar}:∀ {a b:List Nat},inner g (a++b)=inner g a++inner g b
 | [],b=>rfl
 | i::r,b=>by rw[List.cons_append,inner,inner,GU,List.append_assoc]
theorem fU {g g':Ar} {ids:List Nat} (h:∀ b ∈ Oe g ids,g' b=g b):Oe g' ids=Oe g ids:=by
 have h1:∀ b ∈ ids,g' b=g b:=fun b hb=>h b (Sy.2 (.inl (List.mem_append.2 (.inl hb))))
 have e1:inner g' ids=inner g ids:=P6 h1
 have h2:∀ b ∈ inner g ids,g' b=g b:=fun b hb=>h b (Sy.2 (.inl (List.mem_append.2 (.inr (by rw[GU];exact List.mem_append.2 (.inl hb))))))
 unfold Oe
 rw[e1,P6 (l:=ids++inner g ids) (fun b hb=>by
  rcases List.mem_append.1 hb with hb | hb
  ·exact h1 b hb
  ·exact h2 b hb)]
section
variable {R:Type} {E:Env} {ops:Array Oper} {o p:Oper} {st ol st2:St}
theorem MW {v v':Operand→AV} {parts:Array (Nat×Operand)} (h:∀ q ∈ parts.toList,v' q.2=v q.2):(parts.toList.map fun q=>(q.1,v' q.2))=(parts.toList.map fun q=>(q.1,v q.2)) :=
 List.map_congr_left (fun q hq=>by rw[h q hq])
theorem ig {g:Ar} {d:Nat} {v v':Operand→AV} {op:Op} {k:AV→Bo→O R} (h:∀ x ∈ op.operands.toList,v' x=v x):Z' E g d v' op k=Z' E g d v op k:=by
  unfold Z'
  cases op
  case build t parts =>
    simp only
    rw[MW (v:=v) (v':=v') (fun q hq=>h q.2 (by simp[Op.operands];exact⟨q.1,by simpa using hq⟩))]
  case buildSlice t n parts =>
    simp only
    rw[MW (v:=v) (v':=v') (fun q hq=>h q.2 (by simp[Op.operands];exact⟨q.1,by simpa using hq⟩))]
  case slice t x lo hi mx =>
    simp only
    have h1:v' x=v x:=h x (by simp[Op.operands])
    have h2:lo.map v'=lo.map v:=by
      cases lo with
      | none=>rfl
      | some y=>simp;exact h y (by simp[Op.operands])
    have h3:hi.map v'=hi.map v:=by
      cases hi with
      | none=>rfl
      | some y=>simp;exact h y (by simp[Op.operands])
    have h4:mx.map v'=mx.map v:=by
      cases mx with
      | none=>rfl
      | some y=>simp;exact h y (by simp[Op.operands])
    rw[h1,h2,h3,h4]
  case makeMap t rr =>
    simp only
    have h1:rr.map v'=rr.map v:=by
      cases rr with
      | none=>rfl
      | some y=>simp;exact h y (by simp[Op.operands])
    rw[h1]
  case makeFunc f first caps =>
    cases f<;>try rfl
    simp only
    have:(first.toList++caps.toList).map v'=(first.toList++caps.toList).map v:=List.map_congr_left (fun x hx=>h x (by simp[Op.operands];simpa using hx))
    rw[this]
  case call c =>
    have ha:∀ x ∈ c.args.toList,v' x=v x:=fun x hx=>h x (by
      simp only[Op.operands,Call.operands,Array.toList_append]
      exact List.mem_append.2 (.inr hx))
    have hm:c.args.toList.map v'=c.args.toList.map v:=List.map_congr_left ha
    simp only
    cases hc:c.callee with
    | value f =>
      have hf:v' f=v f:=h f (by simp[Op.operands,Call.operands,hc])
      simp only[hf,hm]
    | invoke a b=>rfl
    | builtin b =>
      cases b<;>try rfl
      all_goals
        simp only
        split
        · first
            | (rename_i h1 h2
               simp only[h1,List.mem_cons,List.not_mem_nil,or_false,forall_eq_or_imp,forall_eq] at ha
               simp only[ha])
            | (rename_i h1
               simp only[h1,List.mem_cons,List.not_mem_nil,or_false,forall_eq_or_imp,forall_eq] at ha
               simp only[ha])
        all_goals first
          | rfl
          | (rename_i h1
             simp only[h1,List.mem_cons,List.not_mem_nil,or_false,forall_eq_or_imp,forall_eq] at ha
             simp only[ha])
  all_goals first
    | rfl
    | (simp[Op.operands] at h;simp[h])
end
end Gx

namespace Gx
open Go
section
variable {R:Type} {E:Env} {ops:Array Oper} {o p:Oper} {st ol st2 st3:St}
def kf (ops:Array Oper) (o:Oper):List Nat:=match AU ops o with | some p=>[p.1] | none=>[]
def Ok (o:Oper) (s:Dy):LA:=o.op.operands.toList.map (ev s)
def d6 (h:Ag) (F:List Nat):Ar:=fun b=>cond (Dz F b) (Ac h b) none
def sJ (o:Oper):Nat:=o.dst.getD 50000
def Kd (E:Env) (ops:Array Oper) (o:Oper) (st:St):Option (AV×Bo×Foot) :=
  (Uo ops st.s o).bind fun wanted=>cond wanted
    ((Z' E (d6 st.h (Mn st.h o.op (Ok o st.s))) (sJ o) (ev st.s) o.op pr).bind fun q =>
      cond (CK (sJ o) (Mn st.h o.op (Ok o st.s)) st.h q.2) (some (q.1,q.2,{ r:=kf ops o++EX o.op.operands.toList,w:=o.dst,f:=Mn st.h o.op (Ok o st.s),u:=q.2.map (·.1) })) none)
    (some (.tup [],[],{ r:=kf ops o,w:=o.dst,f:=[],u:=[] }))
def after (E:Env) (o:Oper) (st:St) (q:AV×Bo×Foot):St:={ s:=iK E.nt st.s o.dst q.1,h:=Ab q.2.1 st.h }
theorem BE (k:St→Foot→O R):e9 E ops o st k=(Kd E ops o st).bind fun q=>k (after E o st q) q.2.2:=by
 unfold e9 Kd
 rw[Option.bind_assoc]
 congr 1;funext t
 rw[Ad]
 congr 1
 rw[lg,Option.bind_assoc]
 congr 1;funext q
 rw[Ad]
 rfl
theorem UE:∀ {l:List Operand} {t:Nat},Operand.tmp t ∈ l→t ∈ EX l
 | [],t,h=>by simp at h
 | x::r,t,h=>by
  rcases List.mem_cons.1 h with e | h'
  ·subst e;simp[EX]
  ·have ih:=UE h'
   cases x<;>simp[EX]<;>first | exact .inr ih | exact ih
theorem MX {d:Nat} {F:List Nat} {h h2:Ag}:∀ {ups:Bo},(∀ b ∈ ups.map (·.1),Ac h2 b=Ac h b)→CK d F h2 ups=CK d F h ups
 | [],_=>rfl
 | (b,_)::r,hh=>by rw[CK,CK,hh b (by simp),MX (fun c hc=>hh c (by simp at hc ⊢;exact .inr hc))]
theorem CT {s s2:Dy} (h:∀ t ∈ kf ops o,Dd s2 t=Dd s t):Uo ops s2 o=Uo ops s o:=by
 unfold Uo
 cases hg:o.guard with
 | none=>rfl
 | some q =>
  obtain⟨j,want⟩:=q
  simp only
  cases ht:(ops[j]?).bind (·.dst) with
  | none=>rfl
  | some t =>
   have:Dd s2 t=Dd s t:=h t (by simp[kf,AU,hg,ht])
   simp only[this]
theorem Yb {q:AV×Bo×Foot} (hc:Kd E ops o st=some q) (hr:∀ t ∈ q.2.2.r,Dd st2.s t=Dd st.s t) (hf:∀ b,b ∈ q.2.2.f∨b ∈ q.2.2.u→Ac st2.h b=Ac st.h b):Kd E ops o st2=some q:=by
 have hc0:=hc
 unfold Kd at hc
 obtain⟨t,ht,h1⟩:=ub hc
 cases t with
 | false =>
  simp at h1;subst h1
  unfold Kd
  rw[CT (s:=st.s) hr,ht];rfl
 | true =>
  rw[cond_true] at h1
  obtain⟨x,hx,h2⟩:=ub h1
  obtain⟨hu,h3⟩:=uc h2
  simp at h3;subst h3
  simp only at hr hf
  have hv:∀ y ∈ o.op.operands.toList,ev st2.s y=ev st.s y:=fun y hy=>by
   cases y with
   | tmp t=>exact hr t (List.mem_append.2 (.inr (UE hy)))
   | const _=>rfl
   | global _=>rfl
   | func _=>rfl
  have hvals:Ok o st2.s=Ok o st.s:=List.map_congr_left hv
  have hF:Mn st2.h o.op (Ok o st.s)=Mn st.h o.op (Ok o st.s):=by
   unfold Mn at hf ⊢
   cases hlk:(kX o.op||(kZ o.op&&(Ok o st.s).any ml)) with
   | true =>
    rw[hlk] at hf
    cases hin:kY o.op with
    | true=>rfl
    | false=>rw[hin] at hf;exact fU (fun b hb=>hf b (.inl hb))
   | false=>rfl
  have hm:d6 st2.h (Mn st.h o.op (Ok o st.s))=d6 st.h (Mn st.h o.op (Ok o st.s)):=by
   funext b
   unfold d6
   cases hb:Dz (Mn st.h o.op (Ok o st.s)) b with
   | false=>rfl
   | true=>simp only[cond_true];exact hf b (.inl (Fs.1 hb))
  unfold Kd
  rw[CT (s:=st.s) (fun t ht=>hr t (List.mem_append.2 (.inl ht))),ht]
  simp only[Option.bind_some,cond_true]
  rw[hvals,hF,hm,ig hv,hx]
  simp only[Option.bind_some]
  rw[MX (h:=st.h) (fun b hb=>hf b (.inr hb)),hu]
  rfl
theorem BF:∀ {ups:Bo} {b:Nat},Ao ups b=true↔b ∈ ups.map (·.1)
 | [],b=>by simp[Ao]
 | (i,_)::r,b=>by
  rw[Ao]
  cases hi:Nat.beq i b with
  | true=>have:=Nat.eq_of_beq_eq_true hi;subst this;simp
  | false =>
   have ne:=Hl hi
   simp only[cond_false]
   rw[BF]
   simp only[List.map_cons,List.mem_cons]
   constructor
   ·exact fun h=>.inr h
   ·rintro(h | h)
    ·exact absurd h.symm ne
    ·exact h
theorem kg {q:AV×Bo×Foot} (hc:Kd E ops o st=some q):q.2.2.w=o.dst∧q.2.2.u=q.2.1.map (·.1):=by
 unfold Kd at hc
 obtain⟨t,ht,h1⟩:=ub hc
 cases t with
 | false=>simp at h1;subst h1;simp
 | true =>
  rw[cond_true] at h1
  obtain⟨x,hx,h2⟩:=ub h1
  obtain⟨hu,h3⟩:=uc h2
  simp at h3;subst h3;simp
theorem D2:∀ (ups:Bo) {h h2:Ag},(∀ b,Ac h2 b=Ac h b)→∀ b,Ac (Ab ups h2) b=Ac (Ab ups h) b
 | [],_,_,hh,b=>hh b
 | (i,some x)::r,h,h2,hh,b=>D2 r (fun c=>by rw[Aa,Aa,hh c]) b
 | (i,none)::r,h,h2,hh,b=>by
  rw[Ab,Ab]
  refine D2 r (fun c=>?_) b
  rw[hh i]
  split
  ·rw[Aa,Aa,hh c]
  ·exact hh c
theorem fV {q:AV×Bo×Foot} (h:Eqv st st2):Eqv (after E o st q) (after E o st2 q):=by
 refine⟨fun t=>?_,fun b=>?_⟩
 ·unfold after;simp only;rw[Hc,Hc,h.1 t]
 ·exact(D2 q.2.1 (fun b=>(h.2 b).symm) b).symm
theorem Jl {i:Nat} {y:Blk}:∀ (ups:Bo) {h:Ag},Ao ups i=false→∀ b,Ac (Ab ups (Cb h i y)) b=if b=i then some y else Ac (Ab ups h) b
 | [],h,_,b=>Aa h i y b
 | (j,some x)::r,h,hi,b=>by
  rw[Ao] at hi
  cases hj:Nat.beq j i with
  | true=>rw[hj] at hi;simp at hi
  | false =>
   rw[hj] at hi
   have ne:=Hl hj
   rw[Ab,Ab,D2 r (h:=Cb (Cb h j x) i y) (fun c=>by
    rw[Aa,Aa,Aa,Aa]
    by_cases e1:c=j
    ·subst e1;simp[ne]
    ·simp[e1]) b]
   exact Jl r hi b
 | (j,none)::r,h,hi,b=>by
  rw[Ao] at hi
  cases hj:Nat.beq j i with
  | true=>rw[hj] at hi;simp at hi
  | false =>
   rw[hj] at hi
   have ne:=Hl hj
   rw[Ab,Ab,Aa,if_neg ne]
   split
   ·rename_i x hx
    rw[D2 r (h:=Cb (Cb h j { x with dead:=true,pure:=true,cells:=[] }) i y) (fun c=>by
     rw[Aa,Aa,Aa,Aa]
     by_cases e1:c=j
     ·subst e1;simp[ne]
     ·simp[e1]) b]
    exact Jl r hi b
   ·exact Jl r hi b
theorem Lk:∀ (u1 u2:Bo) (h:Ag),(∀ b,Ao u1 b=true→Ao u2 b=false)→∀ b,Ac (Ab u2 (Ab u1 h)) b=Ac (Ab u1 (Ab u2 h)) b
 | [],u2,h,_,b=>rfl
 | (i,some x)::r,u2,h,hd,b=>by
  rw[Ab,Ab]
  have hi:Ao u2 i=false:=hd i (by simp[Ao])
  rw[Lk r u2 (Cb h i x) (fun c hc=>hd c (by rw[Ao,hc];cases Nat.beq i c<;>rfl)) b]
  refine D2 r (fun c=>?_) b
  rw[Jl u2 hi,Aa]
 | (i,none)::r,u2,h,hd,b=>by
  rw[Ab,Ab]
  have hi:Ao u2 i=false:=hd i (by simp[Ao])
  rw[A3 u2 h i hi]
  split
  ·rename_i x hx
   rw[Lk r u2 _ (fun c hc=>hd c (by rw[Ao,hc];cases Nat.beq i c<;>rfl)) b]
   refine D2 r (fun c=>?_) b
   rw[Jl u2 hi,Aa]
  ·exact Lk r u2 h (fun c hc=>hd c (by rw[Ao,hc];cases Nat.beq i c<;>rfl)) b
theorem UF:∀ {a l:List Nat},eZ a l=true→∀ b ∈ a,b ∉ l
 | [],l,_,b,hb=>by simp at hb
 | i::r,l,h,b,hb=>by
  rw[eZ] at h;simp at h
  rcases List.mem_cons.1 hb with e | hb
  ·subst e;intro hm;rw[Fs.2 hm] at h;simp at h
  ·exact UF h.2 b hb
theorem UG {q:AV×Bo×Foot} {t:Nat} (h:o.dst≠some t):Dd (after E o st q).s t=Dd st.s t:=by
 unfold after;simp only;rw[Hc,if_neg (fun hh=>h hh.1)]
theorem UH {q:AV×Bo×Foot} {b:Nat} (h:b ∉ q.2.1.map (·.1)):Ac (after E o st q).h b=Ac st.h b:=by
 unfold after;simp only
 rw[A3]
 cases hi:Ao q.2.1 b with
 | false=>rfl
 | true=>exact absurd (BF.1 hi) h
theorem bu {w:Option Nat} {l:List Nat} (h:rk w l=false):∀ t ∈ l,w≠some t:=by
 intro t ht e
 subst e
 rw[rk,Fs.2 ht] at h;cases h
theorem swap {q1 q2:AV×Bo×Foot} (h1:Kd E ops p st=some q1) (h2:Kd E ops o (after E p st q1)=some q2) (hi:MH q1.2.2 q2.2.2=true) :
  Kd E ops o st=some q2∧Kd E ops p (after E o st q2)=some q1∧Eqv (after E p (after E o st q2) q1) (after E o (after E p st q1) q2):=by
 unfold MH at hi
 simp only[Bool.and_eq_true,Bool.not_eq_true'] at hi
 obtain⟨⟨⟨⟨i1,i2⟩,i3⟩,i4⟩,i5⟩:=hi
 obtain⟨w1,u1⟩:=kg h1
 obtain⟨w2,u2⟩:=kg h2
 have d1:=UF i4
 have d2:=UF i5
 have a1:Kd E ops o st=some q2:=Yb h2 (fun t ht=>(UG (by rw[←w1];exact bu i1 t ht)).symm) (fun b hb=>(UH (fun hm=>by
  rw[←u1] at hm
  exact d1 b hm (by rcases hb with hb | hb<;>simp[hb]))).symm)
 have a2:Kd E ops p (after E o st q2)=some q1:=Yb h1 (fun t ht=>UG (by rw[←w2];exact bu i2 t ht)) (fun b hb=>UH (fun hm=>by
  rw[←u2] at hm
  rcases hb with hb | hb
  ·exact d2 b hm hb
  ·exact d1 b hb (by simp[hm])))
 refine⟨a1,a2,fun t=>?_,fun b=>?_⟩
 ·unfold after;simp only
  rw[Hc,Hc,Hc,Hc]
  by_cases e1:p.dst=some t∧t<E.nt
  ·by_cases e2:o.dst=some t∧t<E.nt
   ·exfalso
    rw[w1,w2,e1.1,e2.1] at i3
    simp at i3
   ·rw[if_pos e1,if_neg e2,if_pos e1]
  ·by_cases e2:o.dst=some t∧t<E.nt
   ·rw[if_neg e1,if_pos e2,if_pos e2]
   ·rw[if_neg e1,if_neg e2,if_neg e2,if_neg e1]
 ·unfold after;simp only
  refine(Lk q1.2.1 q2.2.1 st.h (fun c hc=>?_) b).symm
  cases hx:Ao q2.2.1 c with
  | false=>rfl
  | true =>
   have m1:c ∈ q1.2.2.u:=by rw[u1];exact BF.1 hc
   have m2:c ∈ q2.2.2.u:=by rw[u2];exact BF.1 hx
   exact absurd (by simp[m2]) (d1 c m1)
def RunF (E:Env) (ops:Array Oper) (fp:Nat→Foot):List (Nat×Oper)→St→St→Prop
 | [],st,e=>Eqv st e
 | (i,o)::r,st,e=>∃ q,Kd E ops o st=some q∧q.2.2=fp i∧RunF E ops fp r (after E o st q) e
theorem RunF.congr {fp:Nat→Foot}:∀ {l:List (Nat×Oper)} {st st2 e:St},RunF E ops fp l st e→Eqv st st2→RunF E ops fp l st2 e
 | [],st,st2,e,h,he=>he.symm.trans h
 | (i,o)::r,st,st2,e,h,he=>by
  rw[RunF] at h ⊢
  obtain⟨q,h1,h2,h3⟩:=h
  exact⟨q,Yb h1 (fun t _=>(he.1 t).symm) (fun b _=>(he.2 b).symm),h2,RunF.congr h3 (fV he)⟩
theorem RunF.pull {fp:Nat→Foot} {i:Nat} {o:Oper} {B:List (Nat×Oper)}:∀ {A:List (Nat×Oper)} {st e:St},RunF E ops fp (A++(i,o)::B) st e→(∀ jp ∈ A,MH (fp jp.1) (fp i)=true) →
  ∃ q,Kd E ops o st=some q∧q.2.2=fp i∧RunF E ops fp (A++B) (after E o st q) e
 | [],st,e,h,_=>h
 | (j,p)::A,st,e,h,hA=>by
  rw[List.cons_append,RunF] at h
  obtain⟨q1,h1,h2,h3⟩:=h
  obtain⟨q2,g1,g2,g3⟩:=RunF.pull h3 (fun jp hm=>hA jp (by simp[hm]))
  have hi:MH q1.2.2 q2.2.2=true:=by rw[h2,g2];exact hA (j,p) (by simp)
  obtain⟨a1,a2,a3⟩:=swap h1 g1 hi
  refine⟨q2,a1,g2,?_⟩
  rw[List.cons_append,RunF]
  exact⟨q1,a2,h2,RunF.congr g3 a3.symm⟩
end
end Gx

namespace Gx
open Go
def idx:Nat→List Oper→List (Nat×Oper)
 | _,[]=>[]
 | n,o::r=>(n,o)::idx (n+1) r
theorem SL:∀ {l:List Oper} {n:Nat} {p:Nat×Oper},p ∈ idx n l↔n≤p.1∧l[p.1 - n]?=some p.2
 | [],n,p=>by simp[idx]
 | o::r,n,p=>by
  rw[idx,List.mem_cons,SL]
  constructor
  ·rintro(rfl | ⟨h1,h2⟩)
   ·simp
   ·refine⟨by omega,?_⟩
    rw[show p.1 - n=(p.1 - (n+1))+1 by omega];simpa using h2
  ·rintro⟨h1,h2⟩
   by_cases e:p.1=n
   ·left
    rw[e] at h2;simp at h2
    obtain⟨a,b⟩:=p
    simp at e h2;subst e h2;rfl
   ·right
    refine⟨by omega,?_⟩
    rw[show p.1 - n=(p.1 - (n+1))+1 by omega] at h2;simpa using h2
theorem UI:∀ (l:List Oper) (n:Nat),(idx n l).Pairwise (fun a b=>a.1<b.1)
 | [],n=>List.Pairwise.nil
 | o::r,n=>by
  rw[idx]
  refine List.pairwise_cons.2 ⟨fun p hp=>?_,UI r (n+1)⟩
  have:=(SL.1 hp).1
  show n<p.1;omega
section
variable {R:Type} {r:R} {Z:Start} {E:Env} {ops:Array Oper}
def RunL (E:Env) (ops:Array Oper):List Oper→List Foot→St→St→Prop
 | [],[],st,e=>st=e
 | o::l,f::fs,st,e=>∃ st' q,Eqv st st'∧Kd E ops o st'=some q∧q.2.2=f∧RunL E ops l fs (after E o st' q) e
 | _,_,_,_=>False
theorem fW:∀ {l:List Oper} {st:St} {tr:List Foot} {k:St→List Foot→O R},SZ E ops l st tr k=some r→∃ fs e,k e (fs.reverse++tr)=some r∧RunL E ops l fs st e
 | [],st,tr,k,h=>⟨[],st,by simpa[SZ] using h,rfl⟩
 | o::l,st,tr,k,h=>by
  rw[SZ] at h
  obtain⟨st',he,h⟩:=TW h
  rw[BE] at h
  obtain⟨q,h1,h2⟩:=ub h
  obtain⟨fs,e,h3,h4⟩:=fW h2
  exact⟨q.2.2::fs,e,by simpa using h3,st',q,he,h1,rfl,h4⟩
theorem RunL.length:∀ {l:List Oper} {fs:List Foot} {st e:St},RunL E ops l fs st e→fs.length=l.length
 | [],[],_,_,_=>rfl
 | [],_::_,_,_,h=>h.elim
 | _::_,[],_,_,h=>h.elim
 | o::l,f::fs,st,e,⟨_,q,_,_,_,h⟩=>by simp[RunL.length h]
theorem RunL.runF {fp:Nat→Foot}:∀ {l:List Oper} {fs:List Foot} {n:Nat} {st e:St},RunL E ops l fs st e→(∀ (j:Nat) (f:Foot),fs[j]?=some f→fp (n+j)=f)→RunF E ops fp (idx n l) st e
 | [],[],n,st,e,h,_=>by subst h;exact Eqv.refl _
 | [],_::_,_,_,_,h,_=>h.elim
 | _::_,[],_,_,_,h,_=>h.elim
 | o::l,f::fs,n,st,e,⟨st',q,he,h1,h2,h3⟩,hf=>by
  rw[idx]
  refine RunF.congr ?_ he.symm
  rw[RunF]
  refine⟨q,h1,by rw[h2];exact(hf 0 f (by simp)).symm,RunL.runF h3 (fun j g hj=>?_)⟩
  have:=hf (j+1) g (by simpa using hj)
  rwa [show n+(j+1)=n+1+j by omega] at this
theorem MY {f:Foot} {anc:List Nat}:∀ {seen:List Foot} {i:Nat},GF f anc i seen=true→∀ (j:Nat) (g:Foot),seen[j]?=some g→(i+j) ∈ anc∨MH g f=true
 | [],i,_,j,g,hj=>by simp at hj
 | x::r,i,h,j,g,hj=>by
  rw[GF] at h;simp only[Bool.and_eq_true,Bool.or_eq_true] at h
  cases j with
  | zero =>
   simp at hj;subst hj
   rcases h.1 with h1 | h1
   ·exact .inl (Fs.1 h1)
   ·exact .inr h1
  | succ j =>
   have:=MY h.2 j g (by simpa using hj)
   rwa [show i+1+j=i+(j+1) by omega] at this
theorem UJ:∀ {fs:List Foot} {az9:List (List Nat)} {seen:List Foot},AW fs az9 seen=true→∀ (i:Nat) (f:Foot),fs[i]?=some f →
  ∃ a,az9[i]?=some a∧∀ (j:Nat) (g:Foot),(seen++fs)[j]?=some g→j<seen.length+i→j ∈ a∨MH g f=true
 | [],az9,seen,_,i,f,hf=>by simp at hf
 | x::r,[],seen,h,i,f,hf=>by simp[AW] at h
 | x::r,a::az9,seen,h,i,f,hf=>by
  rw[AW] at h;simp only[Bool.and_eq_true] at h
  cases i with
  | zero =>
   simp at hf;subst hf
   refine⟨a,by simp,fun j g hj hlt=>?_⟩
   rw[List.getElem?_append,if_pos (by omega)] at hj
   simpa using MY h.1 j g hj
  | succ i =>
   obtain⟨a',h1,h2⟩:=UJ h.2 i f (by simpa using hf)
   refine⟨a',by simpa using h1,fun j g hj hlt=>h2 j g ?_ (by simp;omega)⟩
   simpa using hj
theorem Rp:∀ {l:List Oper} {acc:List (List Nat)} {i:Nat},i<acc.length→(Dv l acc)[i]?=acc[i]?
 | [],acc,i,_=>rfl
 | o::r,acc,i,hi=>by
  rw[Dv,Sn,Rp (by simp;omega),List.getElem?_append,if_pos hi]
theorem U4:∀ {l:List Oper} {acc:List (List Nat)} {i:Nat} {a:List Nat},(Dv l acc)[i]?=some a→acc.length≤i→∃ o,l[i - acc.length]?=some o ∧
  ∀ k ∈ a,k ∈ Up o∨∃ j a',j ∈ Up o∧j<i∧(Dv l acc)[j]?=some a'∧k ∈ a'
 | [],acc,i,a,h,hi=>by
  rw[Dv,List.getElem?_eq_none hi] at h;cases h
 | o::r,acc,i,a,h,hi=>by
  by_cases e:i=acc.length
  ·subst e
   rw[Dv,Sn,Rp (by simp)] at h
   simp only[List.getElem?_concat_length,Option.some.injEq] at h
   refine⟨o,by simp,fun k hk=>?_⟩
   rw[←h,Sy] at hk
   replace hk:=hk.resolve_right (by simp)
   rcases List.mem_append.1 hk with hk | hk
   ·exact .inl hk
   ·right
    obtain⟨j,hj,hk⟩:=List.mem_flatMap.1 hk
    cases ha:acc[j]? with
    | none=>rw[ha] at hk;simp at hk
    | some a' =>
     rw[ha] at hk;simp at hk
     have hlt:j<acc.length:=(List.getElem?_eq_some_iff.1 ha).1
     exact⟨j,a',hj,hlt,by rw[Rp hlt];exact ha,hk⟩
  ·rw[Dv,Sn] at h
   obtain⟨o',h1,h2⟩:=U4 h (by simp;omega)
   refine⟨o',?_,fun k hk=>?_⟩
   ·simp at h1
    rw[show i - acc.length=(i - (acc.length+1))+1 by omega];simpa using h1
   ·rw[Dv,Sn];exact h2 k hk
theorem GV:∀ {l:List Oper} {n i:Nat} {o:Oper},N5 n l=true→l[i]?=some o→∀ e ∈ o.after,X2 e=true→e.on<n+i
 | [],n,i,o,_,hi,_,_,_=>by simp at hi
 | x::r,n,i,o,h,hi,e,he,hb=>by
  rw[N5] at h;simp only[Bool.and_eq_true] at h
  cases i with
  | zero =>
   simp at hi;subst hi
   have:=List.all_eq_true.1 h.1 e (by simpa using he)
   rw[hb] at this;simpa using this
  | succ i =>
   have:=GV h.2 (by simpa using hi) e he hb
   omega
theorem bv (e:Edge):Region.binds .any e=X2 e:=by
 unfold Region.binds X2
 cases e.ground<;>rfl
theorem ii {listed:Array Bool} (hclosed:∀ (j:Nat) (o:Oper),ops[j]?=some o→listed.getD j true=true→∀ k ∈ Up o,listed.getD k false=true) :
  ∀ (i:Nat) (a:List Nat) (o:Oper),(Dv ops.toList [])[i]?=some a→ops[i]?=some o→(∀ k ∈ Up o,listed.getD k false=true)→∀ k ∈ a,listed.getD k false=true:=by
 intro i
 induction i using Nat.strongRecOn with
 | _ i ih =>
  intro a o ha ho hd k hk
  obtain⟨o',h1,h2⟩:=U4 ha (by simp)
  simp at h1
  rw[ho] at h1;simp at h1;subst h1
  rcases h2 k hk with h3 | ⟨j,a',h3,h4,h5,h6⟩
  ·exact hd k h3
  ·have hjl:=hd j h3
   obtain⟨oj,hoj,_⟩:=U4 h5 (by simp)
   simp at hoj
   have hjt:listed.getD j true=true:=by
    rw[Array.getD_eq_getD_getElem?] at hjl ⊢
    cases hx:listed[j]? with
    | none=>rw[hx] at hjl;simp at hjl
    | some b=>rw[hx] at hjl;simpa using hjl
   exact ih j h4 a' oj h5 hoj (hclosed j oj hoj hjt) k h6
def Ku (ops:Array Oper) (listed:Array Bool):List (Nat×Oper):=(idx 0 ops.toList).filter fun p=>!listed.getD p.1 true
theorem Yc (listed:Array Bool):(Ku ops listed).Pairwise (fun a b=>a.1<b.1):=(UI _ _).filter _
theorem Sz {listed:Array Bool} {p:Nat×Oper}:p ∈ Ku ops listed↔ops[p.1]?=some p.2∧listed.getD p.1 true=false:=by
 unfold Ku
 rw[List.mem_filter,SL]
 simp
theorem fX {listed:Array Bool} {i:Nat} {o:Oper} {A B:List (Nat×Oper)} (h:Ku ops listed=A++(i,o)::B):Ku ops (listed.setIfInBounds i true)=A++B:=by
 have hi:(i,o) ∈ Ku ops listed:=by rw[h];simp
 have hil:=(Sz.1 hi).2
 have hlt:i<listed.size:=by
  rw[Array.getD_eq_getD_getElem?] at hil
  rcases Nat.lt_or_ge i listed.size with hl | hl
  ·exact hl
  ·rw[Array.getElem?_eq_none hl] at hil;simp at hil
 have h1:Ku ops (listed.setIfInBounds i true)=(Ku ops listed).filter fun p=>!Nat.beq p.1 i:=by
  unfold Ku
  rw[List.filter_filter]
  congr 1;funext p
  by_cases e:p.1=i
  ·rw[e];simp[hlt]
  ·rw[getD_set_ne true (fun e'=>e e'.symm),Sq e];simp
 rw[h1,h,List.filter_append,List.filter_cons]
 have hs:=Yc (ops:=ops) listed
 rw[h] at hs
 have hs':=List.pairwise_append.1 hs
 have hB:=List.pairwise_cons.1 hs'.2.1
 have e1:A.filter (fun p=>!Nat.beq p.1 i)=A:=List.filter_eq_self.2 (fun p hp=>by
  have:p.1<i:=hs'.2.2 p hp (i,o) (by simp)
  rw[Sq (by omega)];rfl)
 have e2:B.filter (fun p=>!Nat.beq p.1 i)=B:=List.filter_eq_self.2 (fun p hp=>by
  have:i<p.1:=hB.1 p hp
  rw[Sq (by omega)];rfl)
 rw[e1,e2];simp
theorem lh (hC:FA E) {Q:Exit→Act→World→Prop} {fp:Nat→Foot} {e:St} (hfw:N5 0 ops.toList=true)
  (hord:∀ (i j:Nat) (o:Oper),ops[i]?=some o→j<i→∃ a,(Dv ops.toList [])[i]?=some a∧(j ∈ a∨MH (fp j) (fp i)=true))
  (hQ:∀ a' w' J' β',Inv Z E.nt J' β' e a' w'→Q .normal a' w') :
  ∀ (fuel:Nat) (listed:Array Bool) {st:St} {a:Act} {w:World} {J:Bool→Nat→Prop} {β:Aw},listed.size=ops.size→(Ku ops listed).length=fuel →
   (∀ (j:Nat) (o:Oper),ops[j]?=some o→listed.getD j true=true→∀ k ∈ Up o,listed.getD k false=true) →
   RunF E ops fp (Ku ops listed) st e→Inv Z E.nt J β st a w→wpAny E.P .any ops Q fuel listed a w:=by
 intro fuel
 have fin:∀ (listed:Array Bool) {st:St} {a:Act} {w:World} {J:Bool→Nat→Prop} {β:Aw},Ku ops listed=[]→RunF E ops fp (Ku ops listed) st e→Inv Z E.nt J β st a w→Region.ready .any ops listed=[]∧Q .normal a w:=by
  intro listed st a w J β hr hrun I
  refine⟨List.eq_nil_iff_forall_not_mem.2 (fun i hi=>?_),?_⟩
  ·obtain⟨h1,o,h2,_⟩:=mem_ready.1 hi
   have:(i,o) ∈ Ku ops listed:=Sz.2 ⟨h2,h1⟩
   rw[hr] at this;simp at this
  ·rw[hr,RunF] at hrun
   exact hQ _ _ J β (I.eqv hrun)
 induction fuel with
 | zero =>
  intro listed st a w J β _ hlen _ hrun I
  exact fin listed (List.length_eq_zero_iff.1 hlen) hrun I
 | succ fuel ih =>
  intro listed st a w J β hsz hlen hclosed hrun I
  refine⟨fun hnil=>?_,fun i hi=>?_⟩
  ·
   cases hrest:Ku ops listed with
   | nil=>rw[hrest] at hlen;simp at hlen
   | cons p r =>
    exfalso
    have hp:p ∈ Ku ops listed:=by rw[hrest];simp
    obtain⟨ho,hl⟩:=Sz.1 hp
    have hs:=Yc (ops:=ops) listed
    rw[hrest] at hs
    have hmin:=(List.pairwise_cons.1 hs).1
    have:p.1 ∈ Region.ready .any ops listed:=mem_ready.2 ⟨hl,p.2,ho,fun ed hed hb=>by
     rw[bv] at hb
     have hlt:=GV hfw (i:=p.1) (o:=p.2) (by simpa using ho) ed hed hb
     simp at hlt
     have hops:ed.on<ops.size:=by have:=(Array.getElem?_eq_some_iff.1 ho).1;omega
     cases hx:listed.getD ed.on true with
     | true =>
      rw[Array.getD_eq_getD_getElem?] at hx ⊢
      rw[Array.getElem?_eq_getElem (by omega)] at hx ⊢
      simpa using hx
     | false =>
      have hm:(ed.on,ops[ed.on]) ∈ Ku ops listed:=Sz.2 ⟨by simp[hops],hx⟩
      rw[hrest] at hm
      rcases List.mem_cons.1 hm with e1 | e1
      ·have:ed.on=p.1:=by rw[←e1]
       omega
      ·have:=hmin _ e1
       simp at this;omega⟩
    rw[hnil] at this;simp at this
  ·obtain⟨hl,o,ho,hall⟩:=mem_ready.1 hi
   have hmem:(i,o) ∈ Ku ops listed:=Sz.2 ⟨ho,hl⟩
   obtain⟨A,B,hAB⟩:=List.append_of_mem hmem
   have hdir:∀ k ∈ Up o,listed.getD k false=true:=by
    intro k hk
    unfold Up at hk
    obtain⟨ed,hed,rfl⟩:=List.mem_map.1 hk
    obtain⟨h1,h2⟩:=List.mem_filter.1 hed
    exact hall ed (by simpa using h1) (by rw[bv];exact h2)
   have hs:=Yc (ops:=ops) listed
   rw[hAB] at hs
   have hs':=List.pairwise_append.1 hs
   rw[hAB] at hrun
   obtain⟨q,g1,g2,g3⟩:=hrun.pull (fun jp hjp=>by
    have hlt:jp.1<i:=hs'.2.2 jp hjp (i,o) (by simp)
    obtain⟨an,h1,h2⟩:=hord i jp.1 o ho hlt
    rcases h2 with h2 | h2
    ·exfalso
     have:=ii hclosed i an o h1 ho hdir jp.1 h2
     have hjm:jp ∈ Ku ops listed:=by rw[hAB];simp[hjp]
     have h3:=(Sz.1 hjm).2
     rw[Array.getD_eq_getD_getElem?] at this h3
     cases hx:listed[jp.1]? with
     | none=>rw[hx] at this;simp at this
     | some b=>rw[hx] at this h3;simp at this h3;rw[this] at h3;cases h3
    ·exact h2)
   have hone:e9 E ops o st (fun s f=>some (s,f))=some (after E o st q,q.2.2):=by rw[BE,g1];rfl
   obtain⟨st',f,h4,h5⟩:=TV (K:=wpAny E.P .any ops Q fuel (listed.setIfInBounds i true)) (Q:=Q) hC I hone
   simp only[Option.some.injEq,Prod.mk.injEq] at h4
   obtain⟨rfl,rfl⟩:=h4
   have hlt:i<listed.size:=by rw[hsz];exact(Array.getElem?_eq_some_iff.1 ho).1
   have:=h5 (fun a' w' J' β' I'=>ih (listed.setIfInBounds i true) (by simp[hsz]) (by
     rw[fX hAB];rw[hAB] at hlen;simp at hlen ⊢;omega) (fun j oj hoj hj k hk=>?_) (by rw[fX hAB];exact g3) I')
   ·unfold wpOp
    rw[ho]
    simp only
    split
    ·rename_i hw;rw[if_pos hw] at this;exact .inl this
    ·rename_i hw;rw[if_neg hw] at this;exact this
   ·by_cases e1:j=i
    ·subst e1
     rw[ho] at hoj;simp at hoj;subst hoj
     exact getD_set_true (hdir k hk)
    ·rw[getD_set_ne true (fun e'=>e1 e'.symm)] at hj
     exact getD_set_true (hclosed j oj hoj hj k hk)
end
end Gx

namespace Gx
open Go
section
variable {R:Type} {r:R} {Z:Start} {E:Env}
theorem aH (hC:FA E) (hm:E.P.follows .mixedOrders=true) {roots:List Nat} {id:Nat} {ops:Array Oper} {draw:Bool} {st:St} {k:St→O R} {a:Act} {w:World} {J:Bool→Nat→Prop} {β:Aw} {Q:Exit→Act→World→Prop}
  (I:Inv Z E.nt J β st a w) (hh:AX E roots ops draw st k=some r) (hQ:∀ st' a' w' J' β',Inv Z E.nt J' β' st' a' w'→k st'=some r→Q .normal a' w'):(Code.region id ops draw).wp E.P Q a w:=by
 unfold AX at hh
 have done:∀ {st':St} {tr:List Foot} {a':Act} {w':World} {J':Bool→Nat→Prop} {β':Aw},Inv Z E.nt J' β' st' a' w' →
   cond (!draw||(N5 0 ops.toList&&AW tr.reverse (Dv ops.toList []) [])) ((clean (st'.s.map (·.1)) roots st').bind k) none=some r→Q .normal a' w':=by
  intro st' tr a' w' J' β' I' h'
  obtain⟨_,h1⟩:=uc h'
  obtain⟨st2,h2,h3⟩:=ub h1
  obtain⟨β2,I2⟩:=fK I' h2
  exact hQ _ _ _ _ _ I2 h3
 cases draw with
 | false=>exact wp_region_list (TX hC _ I hh (fun st' tr' a' w' J' β' I' h'=>done I' h'))
 | true =>
  obtain⟨fs,e,h1,h2⟩:=fW hh
  obtain⟨hc,h3⟩:=uc h1
  simp at hc
  obtain⟨hfw,hord⟩:=hc
  have hlen:=h2.length
  refine wp_region_any hm ?_
  have I':Inv Z E.nt J β st a w.drew:=I.step (Step.drew I.sim) (fun b x hx hn=>by rw[hx] at hn;cases hn)
  have hrest:Ku ops (Array.replicate ops.size false)=idx 0 ops.toList:=by
   unfold Ku
   refine List.filter_eq_self.2 (fun p hp=>?_)
   have:=(SL.1 hp).2
   have hlt:p.1<ops.size:=by
    simp at this
    exact(Array.getElem?_eq_some_iff.1 this).1
   simp[hlt]
  have hidx:(idx 0 ops.toList).length=ops.size:=by
   have:∀ (l:List Oper) (n:Nat),(idx n l).length=l.length:=by
    intro l
    induction l with
    | nil=>intro n;rfl
    | cons o r ih=>intro n;simp[idx,ih]
   rw[this];simp
  have hrun:RunF E ops (fun i=>fs.getD i { r:=[],w:=none,f:=[],u:=[] }) (idx 0 ops.toList) st e:=h2.runF (fun j f hj=>by simp[hj])
  refine lh hC (fp:=fun i=>fs.getD i { r:=[],w:=none,f:=[],u:=[] }) (e:=e) hfw (fun i j o ho hji=>?_) (fun a' w' J' β' Ie=>done (tr:=fs.reverse++[]) Ie h1) ops.size _ (by simp) (by rw[hrest,hidx]) (fun j o ho hj=>?_) (by rw[hrest];exact hrun) I'
  ·have hi:i<fs.length:=by rw[hlen];simpa using(Array.getElem?_eq_some_iff.1 ho).1
   obtain⟨an,g1,g2⟩:=UJ hord i fs[i] (List.getElem?_eq_getElem hi)
   refine⟨an,g1,?_⟩
   have hj:j<fs.length:=by omega
   have:=g2 j fs[j] (by simp[hj]) (by simpa using hji)
   simpa[hi,hj] using this
  ·exfalso
   have hlt:j<ops.size:=(Array.getElem?_eq_some_iff.1 ho).1
   simp[hlt] at hj
end
end Gx

namespace Gx
open Go
theorem GW (ρ:Nat→Nat):∀ c:LA,(Mz ρ c).length=c.length
 | []=>rfl
 | x::r=>by rw[Mz,List.length_cons,List.length_cons,GW ρ r]
theorem B6 (ρ:Nat→Nat) (x:Blk):(Kc ρ x).cells.length=x.cells.length:=by
 unfold Kc;cases x.pure
 ·simp;exact GW _ _
 ·rfl
theorem bw {ρ:Nat→Nat}:∀ {c:LA} {j:Nat} {y:AV},(Mz ρ c)[j]?=some y→∃ x,c[j]?=some x∧y=Xy ρ x
 | [],j,y,hj=>by simp[Mz] at hj
 | x::r,j,y,hj=>by
  rw[Mz] at hj
  cases j with
  | zero=>simp at hj;exact⟨x,by simp,hj.symm⟩
  | succ j=>obtain⟨x',h1,h2⟩:=bw (c:=r) (j:=j) (by simpa using hj);exact⟨x',by simpa using h1,h2⟩
section
variable {R:Type} {r:R} {J J':Bool→Nat→Prop} {β β':Aw} {h h':Ag} {w w':World} {ids:List Nat} {ρ:Nat→Nat}
theorem Hd {g:Ar}:∀ {ids:List Nat},(ids.map ρ).Nodup→∀ c y,Ac (sub g ρ ids) c=some y→∃ b x,b ∈ ids∧ρ b=c∧g b=some x∧y=Kc ρ x
 | [],_,c,y,hc=>by simp[sub,Ac] at hc
 | b::r,hn,c,y,hc=>by
  rw[List.map_cons,List.nodup_cons] at hn
  rw[sub] at hc
  split at hc
  ·rename_i x hx
   rw[Aa] at hc
   by_cases e:c=ρ b
   ·rw[if_pos e] at hc;simp at hc
    exact⟨b,x,by simp,e.symm,hx,hc.symm⟩
   ·rw[if_neg e] at hc
    obtain⟨b',x',h1,h2,h3,h4⟩:=Hd hn.2 c y hc
    exact⟨b',x',by simp[h1],h2,h3,h4⟩
  ·obtain⟨b',x',h1,h2,h3,h4⟩:=Hd hn.2 c y hc
   exact⟨b',x',by simp[h1],h2,h3,h4⟩
theorem Nn {g:Ar}:∀ {ids:List Nat},(ids.map ρ).Nodup→∀ b x,b ∈ ids→g b=some x→Ac (sub g ρ ids) (ρ b)=some (Kc ρ x)
 | [],_,b,x,hb,_=>by simp at hb
 | b'::r,hn,b,x,hb,hx=>by
  rw[List.map_cons,List.nodup_cons] at hn
  rw[sub]
  by_cases e:b=b'
  ·subst e
   rw[hx]
   simp only
   rw[Aa,if_pos rfl]
  ·have hm:b ∈ r:=by simpa[e] using hb
   have ne:ρ b≠ρ b':=fun h=>hn.1 (by rw[←h];exact List.mem_map.2 ⟨b,hm,rfl⟩)
   split
   ·rw[Aa,if_neg ne];exact Nn hn.2 b x hm hx
   ·exact Nn hn.2 b x hm hx
def nE (ρ:Nat→Nat) (ids:List Nat) (c:Nat):Option Nat:=ids.find? fun b=>Nat.beq (ρ b) c
theorem nF (hn:(ids.map ρ).Nodup) {b:Nat} (hb:b ∈ ids):nE ρ ids (ρ b)=some b:=by
 induction ids with
 | nil=>simp at hb
 | cons i r ih =>
  rw[List.map_cons,List.nodup_cons] at hn
  unfold nE at ih ⊢
  rw[List.find?_cons]
  by_cases e:b=i
  ·subst e;simp
  ·have hm:b ∈ r:=by simpa[e] using hb
   have ne:ρ i≠ρ b:=fun h=>hn.1 (by rw[h];exact List.mem_map.2 ⟨b,hm,rfl⟩)
   rw[Sq ne];exact ih hn.2 hm
def We (ρ:Nat→Nat) (ids:List Nat) (β:Aw):Aw:=fun c=>(nE ρ ids c).bind β
theorem Cn (hn:(ids.map ρ).Nodup) {b:Nat} (hb:b ∈ ids):We ρ ids β (ρ b)=β b:=by
 unfold We;rw[nF hn hb];rfl
mutual
theorem Rep.ren (hn:(ids.map ρ).Nodup):∀ {x:AV} {v:Value},(∀ b ∈ Df x,b ∈ ids)→Rep J β h w x v→Rep J (We ρ ids β) (sub (Ac h) ρ ids) w (Xy ρ x) v
 | .own b off n,v,hm,hr=>by
  rw[Rep] at hr
  obtain⟨x,A,cap,⟨hx,hmp⟩,h1,h2,h3⟩:=hr
  have hb:=hm b (by simp[Df])
  rw[Xy,Rep]
  refine⟨Kc ρ x,A,cap,⟨Nn hn b x hb hx,hmp⟩,h1,h2,?_⟩
  rw[B6,Cn hn hb]
  exact h3
 | .optr b off,v,hm,hr=>by
  rw[Rep] at hr
  obtain⟨x,k,o,⟨hx,hmp⟩,h1,h2⟩:=hr
  have hb:=hm b (by simp[Df])
  rw[Xy,Rep]
  refine⟨Kc ρ x,k,o,⟨Nn hn b x hb hx,hmp⟩,h1,?_⟩
  rw[Cn hn hb]
  exact h2
 | .omap b,v,hm,hr=>by
  rw[Rep] at hr
  obtain⟨x,k,⟨hx,hmp⟩,h2⟩:=hr
  have hb:=hm b (by simp[Df])
  rw[Xy,Rep]
  refine⟨Kc ρ x,k,⟨Nn hn b x hb hx,hmp⟩,?_⟩
  rw[Cn hn hb]
  exact h2
 | .nd b q,v,hm,hr=>by
  rw[Rep] at hr
  obtain⟨hsh,x,⟨hx,hmp⟩,h2⟩:=hr
  have hb:=hm b (by simp[Df])
  rw[Xy]
  cases hq:q.stable with
  | false=>rw[cond_false,Rep];trivial
  | true =>
   rw[cond_true,Rep]
   refine⟨hsh,Kc ρ x,⟨Nn hn b x hb hx,hmp⟩,h2.imp id (fun h2=>?_)⟩
   rw[Cn hn hb]
   cases q with
   | whole n=>obtain⟨k,o,g1,g2,g3,g4⟩:=h2;exact⟨k,o,g1,g2,(B6 ρ x).trans g3,g4⟩
   | slot i=>obtain⟨k,o,g1,g2,g3,g4⟩:=h2;exact⟨k,o,g1,g2,by rw[B6];exact g3,g4⟩
   | ref i g n s=>simp[NV.stable] at hq
   | elt i g off s=>simp[NV.stable] at hq
   | stamp i g p=>simp[NV.stable] at hq
 | .agg c,v,hm,hr=>by
  rw[Rep] at hr
  obtain⟨cs,h1,h2⟩:=hr
  rw[Xy,Rep]
  exact⟨cs,h1,Reps.ren hn (by simpa[Df] using hm) h2⟩
 | .tup c,v,hm,hr=>by
  rw[Rep] at hr
  obtain⟨cs,h1,h2⟩:=hr
  rw[Xy,Rep]
  exact⟨cs,h1,Reps.ren hn (by simpa[Df] using hm) h2⟩
 | .fn f c,v,hm,hr=>by
  rw[Rep] at hr
  obtain⟨cs,h1,h2⟩:=hr
  rw[Xy,Rep]
  exact⟨cs,h1,Reps.ren hn (by simpa[Df] using hm) h2⟩
 | .pagg c o,v,hm,hr=>by show Rep J _ _ w (.pagg c o) v;rw[Rep] at hr ⊢;exact hr
 | .undef,v,hm,hr=>by show Rep J _ _ w (.undef) v;rw[Rep] at hr ⊢;exact hr
 | .imm c n sz t o,v,hm,hr=>by show Rep J _ _ w (.imm c n sz t o) v;rw[Rep] at hr ⊢;exact hr
 | .iptr c o,v,hm,hr=>by show Rep J _ _ w (.iptr c o) v;rw[Rep] at hr ⊢;exact hr
 | .int k n,v,hm,hr=>by show Rep J _ _ w (.int k n) v;rw[Rep] at hr ⊢;exact hr
 | .bool b,v,hm,hr=>by show Rep J _ _ w (.bool b) v;rw[Rep] at hr ⊢;exact hr
 | .str s,v,hm,hr=>by show Rep J _ _ w (.str s) v;rw[Rep] at hr ⊢;exact hr
 | .nsl,v,hm,hr=>by show Rep J _ _ w (.nsl) v;rw[Rep] at hr ⊢;exact hr
 | .nilptr,v,hm,hr=>by show Rep J _ _ w (.nilptr) v;rw[Rep] at hr ⊢;exact hr
 | .nilfn,v,hm,hr=>by show Rep J _ _ w (.nilfn) v;rw[Rep] at hr ⊢;exact hr
theorem Reps.ren (hn:(ids.map ρ).Nodup):∀ {c:List AV} {cs:List Value},(∀ b ∈ Ep c,b ∈ ids)→Reps J β h w c cs→Reps J (We ρ ids β) (sub (Ac h) ρ ids) w (Mz ρ c) cs
 | [],cs,hm,hr=>by rw[Reps] at hr;rw[Mz,Reps];exact hr
 | x::r,cs,hm,hr=>by
  rw[Reps] at hr
  obtain⟨u,us,h1,h2,h3⟩:=hr
  rw[Mz,Reps]
  exact⟨u,us,h1,Rep.ren hn (fun b hb=>hm b (by simp[Ep,hb])) h2,Reps.ren hn (fun b hb=>hm b (by simp[Ep,hb])) h3⟩
end
theorem SimH.ren (S:SimH J β h w) (hn:(ids.map ρ).Nodup) (hin:∀ b ∈ inner (Ac h) ids,b ∈ ids):SimH J (We ρ ids β) (sub (Ac h) ρ ids) w:=by
 refine⟨S.jlt,S.jft,S.gl,fun c y hy hd hm=>?_,fun c y hy hd hm=>by
   obtain⟨b,x,hb,rfl,hx,rfl⟩:=Hd hn c y hy
   obtain⟨g1,g2,g3,g4⟩:=S.mblk b x hx hd hm
   have hcl:(Kc ρ x).cells=x.cells:=by unfold Kc;rw[g1];rfl
   refine⟨g1,g2,fun j ht=>g3 j (ht.to (Cn hn hb).symm rfl),?_⟩
   rcases g4 with⟨k,ob,g5,g6,g7,g8⟩ | ⟨k,o,g5,g6,g7⟩
   ·exact .inl ⟨k,ob,g5,by rw[Cn hn hb];exact g6,g7,by rw[ObjIs,show(Kc ρ x).sz=x.sz from rfl,hcl];exact g8⟩
   ·refine .inr ⟨k,o,g5,by rw[Cn hn hb];exact g6,?_⟩
    unfold NestIs
    rw[hcl];exact g7,?_⟩
 ·obtain⟨b,x,hb,rfl,hx,rfl⟩:=Hd hn c y hy
  rcases S.blk b x hx hd hm with⟨g1,g2⟩ | ⟨k,o,cs,ty,fr,g1,g2,g3,g4,g5,g6,g7⟩
  ·refine .inl ⟨by rw[Cn hn hb];exact g1,?_⟩
   have:=B6 ρ x;rw[g2] at this;simpa using this
  ·refine .inr ⟨k,o,cs,ty,fr,by rw[Cn hn hb];exact g1,g2,g3,by rw[B6];exact g4,⟨fun hp=>?_,fun hp j q hj=>?_⟩,g6,g7⟩
   ·have hp':x.pure=true:=hp
    have:(Kc ρ x).cells=x.cells:=by unfold Kc;rw[hp'];rfl
    rw[this];exact g5.1 hp'
   ·have hp':x.pure=false:=hp
    have:(Kc ρ x).cells=Mz ρ x.cells:=by unfold Kc;rw[hp'];rfl
    rw[this] at hj
    obtain⟨q',hq,rfl⟩:=bw hj
    obtain⟨u,hu,hr,ho⟩:=g5.2 hp' j q' hq
    exact⟨u,hu,Rep.ren hn (fun b' hb'=>hin b' (KV hb hx hp' b' (KW hq b' hb'))) hr,ho⟩
 ·intro c c' y y' k hy hy' hd hd' hs hβ hβ'
  obtain⟨b,x,hb,rfl,hx,rfl⟩:=Hd hn c y hy
  obtain⟨b',x',hb',rfl,hx',rfl⟩:=Hd hn c' y' hy'
  rw[S.sepT b b' x x' k hx hx' hd hd' hs (hβ.to (Cn hn hb).symm rfl) (hβ'.to (Cn hn hb').symm rfl)]
theorem d7 (hn:(ids.map ρ).Nodup) {k:Nat} (hm:eV (We ρ ids β) (sub (Ac h) ρ ids) k):eV β h k:=by
 obtain⟨c,y,hy,hd,hs,hβ⟩:=hm
 obtain⟨b,x,hb,rfl,hx,rfl⟩:=Hd hn c y hy
 exact⟨b,x,hx,hd,hs,hβ.to (Cn hn hb).symm rfl⟩
end
end Gx

namespace Gx
open Go
theorem Hu {ids:List Nat}:∀ {l:List Nat},V6 ids l=true→∀ b ∈ l,b ∈ ids
 | [],_,b,hb=>by simp at hb
 | i::r,h,b,hb=>by
  rw[V6] at h
  simp at h
  rcases List.mem_cons.1 hb with rfl | hb
  ·exact Fs.1 h.1
  ·exact Hu h.2 b hb
theorem Ol {d:Nat}:∀ {l:List Nat} {base b:Nat},b ∈ l→base≤Ev d (Ap base l) b∧Ev d (Ap base l) b<base+l.length
 | [],base,b,hb=>by simp at hb
 | i::r,base,b,hb=>by
  rw[Ap,Ev]
  cases hi:Nat.beq i b with
  | true=>simp
  | false =>
   have hne:=Hl hi
   have hm:b ∈ r:=by
    rcases List.mem_cons.1 hb with h | h
    ·exact absurd h.symm hne
    ·exact h
   have:=Ol (d:=d) (base:=base+1) hm
   simp only[cond_false,List.length_cons]
   omega
theorem fY {free ids:List Nat} {b:Nat} (h:So free b=true):Og free ids b=b:=by unfold Og;rw[h];rfl
theorem d8 {free ids:List Nat} {b:Nat} (h:So free b=false) (hb:b ∈ ids):300000≤Og free ids b:=by
 unfold Og mm;rw[h]
 exact(Ol (List.mem_filter.2 ⟨hb,by simp[h]⟩)).1
theorem UK {b:Nat}:TC b=true↔100000≤b∧b<200000:=by unfold TC;simp
theorem MZ {free ids:List Nat} {b c:Nat} (hb:b ∈ ids) (hc:100000≤c∧c<200000) (he:Og free ids b=c):b=c:=by
 cases hr:So free b with
 | true=>rw[fY hr] at he;exact he
 | false=>have:=d8 hr hb;omega
theorem S3 {ρ:Nat→Nat} {K:List Nat}:∀ {s:Dy} {i:Nat},Dd (mn ρ K s) i=if Dz K i=true then Xy ρ (Dd s i) else .undef
 | [],i=>by
  show AV.undef=if Dz K i=true then Xy ρ .undef else AV.undef
  simp[Xy]
 | (t,v)::r,i=>by
  rw[mn]
  by_cases e:t=i
  ·subst e
   cases hk:Dz K t with
   | true=>simp[Dd]
   | false=>simp only[cond_false];rw[S3];simp[hk]
  ·have hb:Nat.beq t i=false:=Sq e
   cases hk:Dz K t with
   | true=>simp only[cond_true,Dd,hb,cond_false];exact S3
   | false=>simp only[cond_false,Dd,hb];exact S3
theorem fZ {g:Ar} {l:List Nat} {b:Nat} (h:b ∈ P1 g l):∃ x,g b=some x∧x.dead=false:=by
 unfold P1 at h
 obtain⟨_,h2⟩:=List.mem_filter.1 h
 unfold B9 at h2
 cases hx:g b with
 | none=>simp[hx] at h2
 | some x =>
  cases hd:x.dead with
  | false=>exact⟨x,rfl,hd⟩
  | true=>simp[hx,hd] at h2
section
variable {Z:Start} {nt:Nat} {J:Bool→Nat→Prop} {β:Aw} {st st':St} {a:Act} {w:World}
def AV.isz:AV→Nat
 | .imm _ _ s _ _=>s
 | _=>0
theorem He {live:List Nat}:∀ (nils:List (Nat×Nat)) {st:St} {J:Bool→Nat→Prop} {β:Aw},Inv Z nt J β st a w→Uq live nils st=some st'→∃ J' β',Inv Z nt J' β' st' a w
 | [],st,J,β,I,hh=>by simp[Uq] at hh;subst hh;exact⟨J,β,I⟩
 | (t,sz)::r,st,J,β,I,hh=>by
  rw[Uq] at hh
  cases hsz:Nat.ble 1000000 sz with
  | true =>
   rw[hsz,cond_true] at hh
   split at hh
   ·rename_i hm hs
    refine He r (J:=J) (β:=β) (st:={ s:=EU st.s t (.imm [] 0 (sz - 1000000) false false),h:=st.h }) ?_ hh
    refine { I with ss:=⟨fun i v hv=>?_,fun i hi=>?_⟩ }
    ·rw[Ha]
     by_cases e:i=t
     ·subst e
      have:=I.ss.slot i v hv
      rw[hs,Rep] at this
      subst this
      rw[if_pos rfl,Rep,RepC]
      exact⟨by simp,none,0,rfl,Nat.le_refl _,fun _=>rfl,.inl rfl⟩
     ·rw[if_neg e];exact I.ss.slot i v hv
    ·rw[Ha]
     by_cases e:i=t
     ·subst e
      have:=I.ss.out i hi
      rw[hs] at this;cases this
     ·rw[if_neg e];exact I.ss.out i hi
   ·rename_i b off n hm hs
    obtain⟨⟨v',ups,org⟩,hp,h1⟩:=ub hh
    by_cases hti:∃ v,a.tmps[t]?=some v
    ·obtain⟨v0,hv0⟩:=hti
     have hr:=I.ss.slot t v0 hv0
     rw[hs] at hr
     obtain⟨J1,A,hrep,_⟩:=X7 I.sim (fun b x hb=>⟨x,hb,rfl⟩) hp hr
     have I1:=I.step A (fun c x hx hn=>by
      exfalso
      unfold CJ at hp
      obtain⟨y,hy,h2⟩:=ub hp
      obtain⟨_,h2⟩:=uc h2
      simp at h2
      obtain⟨_,h2,_⟩:=h2
      subst h2
      simp only[Ab,Aa] at hx
      unfold B9 at hy
      obtain⟨y0,hy0,_⟩:=ub hy
      by_cases e:c=b
      ·subst e;rw[hn] at hy0;cases hy0
      ·rw[if_neg e,hn] at hx;cases hx)
     refine He r (J:=J1) (β:=β) (st:={ s:=EU st.s t v',h:=Ab ups st.h }) ?_ h1
     have him:∃ c,v'=.imm c n (v'.isz) false org:=by
      unfold CJ at hp
      obtain⟨y,hy,h2⟩:=ub hp
      obtain⟨_,h2⟩:=uc h2
      simp at h2
      obtain⟨h2,_,h3⟩:=h2
      subst h2 h3
      exact⟨_,rfl⟩
     refine { I1 with ss:=⟨fun i v hv=>?_,fun i hi=>?_⟩ }
     ·rw[Ha]
      by_cases e:i=t
      ·subst e
       rw[if_pos rfl]
       rw[hv0] at hv;simp at hv;subst hv
       obtain⟨c,hc⟩:=him
       rw[hc] at hrep ⊢
       rw[Rep];exact hrep
      ·rw[if_neg e];exact I1.ss.slot i v hv
     ·rw[Ha]
      by_cases e:i=t
      ·subst e
       have:=I.ss.out i hi
       rw[hs] at this;cases this
      ·rw[if_neg e];exact I1.ss.out i hi
    ·exfalso
     have:=I.ss.out t (by
      cases h:a.tmps[t]? with
      | none=>simp at h;omega
      | some v=>exact absurd ⟨v,h⟩ hti)
     rw[hs] at this;cases this
   ·exact He r I hh
  | false =>
   rw[hsz,cond_false] at hh
   split at hh
   ·rename_i hm hs
    cases hf:Ac st.h (nid t+15) with
    | some x=>simp[hf] at hh
    | none =>
     simp[hf] at hh
     have A:=Step.newNone I.sim (d:=nid t+15) (x:=De sz) hf rfl
     have I1:=I.step A (fun b x hx hn=>by
      rw[Aa] at hx
      by_cases e:b=nid t+15
      ·subst e;unfold nid Ea;omega
      ·rw[if_neg e,hn] at hx;cases hx)
     refine He r (J:=J) (β:=fun b=>if b=nid t+15 then none else β b) (st:={ s:=EU st.s t (.own (nid t+15) 0 0),h:=Cb st.h (nid t+15) (De sz) }) ?_ hh
     refine { I1 with ss:=⟨fun i v hv=>?_,fun i hi=>?_⟩ }
     ·rw[Ha]
      by_cases e:i=t
      ·subst e
       rw[if_pos rfl,Rep]
       have:=I.ss.slot i v hv
       rw[hs,Rep] at this
       subst this
       exact⟨De sz,none,0,⟨by rw[Aa,if_pos rfl],rfl⟩,rfl,Nat.le_refl _,.inl rfl⟩
      ·rw[if_neg e];exact I1.ss.slot i v hv
     ·rw[Ha]
      by_cases e:i=t
      ·subst e
       have:=I.ss.out i hi
       rw[hs] at this;cases this
      ·rw[if_neg e];exact I1.ss.out i hi
   ·exact He r I hh
theorem Yd {E:Env} {live roots:List Nat} (I:Inv Z nt J β st a w) (hh:GG E live roots st=some st'):∃ J' β',Inv Z nt J' β' st' a w:=by
 unfold GG at hh
 obtain⟨s1,h1,h2⟩:=ub hh
 obtain⟨J1,β1,I1⟩:=He _ I h1
 obtain⟨hc,h3⟩:=uc h2
 simp at hc h3
 subst h3
 obtain⟨hn,hs,hi,_⟩:=hc
 have hn:=Ks hn
 have hin:∀ b ∈ inner (Ac s1.h) (P1 (Ac s1.h) (Oe (Ac s1.h) (S_ live s1.s++roots))),b ∈ P1 (Ac s1.h) (Oe (Ac s1.h) (S_ live s1.s++roots)):=Hu hi
 refine⟨J1,We _ _ β1,{ I1 with sim:=I1.sim.ren hn hin,ss:=⟨fun i v hv=>?_,fun i hi=>?_⟩,wr:=fun k hm=>I1.wr k (d7 hn hm),outs:=fun b x0 x h0 hx hd=>?_ }⟩
 ·rw[S3]
  cases hk:Dz live i with
  | false=>simp[Rep]
  | true =>
   simp only[if_true]
   exact Rep.ren hn (fun b hb=>Hu hs b (TY hk b hb)) (I1.ss.slot i v hv)
 ·rw[S3,I1.ss.out i hi];simp[Xy]
 ·obtain⟨b',x',hb',he,hg,rfl⟩:=Hd hn b x hx
  have:=MZ hb' ⟨I1.zge b x0 h0,I1.zlt b x0 h0⟩ he
  subst this
  obtain⟨⟨e1,em⟩,e2,e3,e4⟩:=I1.outs b' x0 x' h0 hg hd
  refine⟨⟨?_,em⟩,e2,by rw[B6];exact e3,e4⟩
  have:=Cn (β:=β1) hn hb'
  rw[he] at this
  exact e1.to this rfl (B6 _ _)
end
end Gx

namespace Gx
open Go
section
variable {R:Type} {r:R} {Z:Start} {E:Env}
theorem f4 (hC:FA E) (hm:E.P.follows .mixedOrders=true) {roots:List Nat} {N:Nat}:∀ (c:Code) {H:Hint} {kn:St→O R} {kx:Nat→St→O R} {kr:St→O R} {st:St} {a:Act} {w:World} {J:Bool→Nat→Prop} {β:Aw} {Q:Exit→Act→World→Prop},
  Inv Z E.nt J β st a w→Dg E roots N c H kn kx kr st=some r →
  (∀ st' a' w' J' β',Inv Z E.nt J' β' st' a' w'→kn st'=some r→Q .normal a' w') →
  (∀ id st' a' w' J' β',Inv Z E.nt J' β' st' a' w'→kx id st'=some r→Q (.exit id) a' w') →
  (∀ st' a' w' J' β',Inv Z E.nt J' β' st' a' w'→kr st'=some r→Q .ret a' w')→c.wp E.P Q a w:=by
 intro c
 induction c with
 | skip=>intro H kn kx kr st a w J β Q I hh hn hx hr;exact wp_skip (hn _ _ _ _ _ I hh)
 | region id ops draw=>intro H kn kx kr st a w J β Q I hh hn hx hr;exact aH hC hm I hh hn
 | seq x y ihx ihy =>
  intro H kn kx kr st a w J β Q I hh hn hx hr
  rw[Dg] at hh
  refine wp_seq (ihx I hh (fun st' a' w' J' β' I' h'=>?_) (fun id st' a' w' J' β' I' h'=>hx id st' a' w' J' β' I' h') (fun st' a' w' J' β' I' h'=>hr st' a' w' J' β' I' h'))
  unfold lY at h'
  cases hj:H.isJoin with
  | true =>
   rw[hj,cond_true,P2] at h'
   obtain⟨s2,h2,h3⟩:=ub h'
   obtain⟨J2,β2,I2⟩:=Yd I' h2
   exact ihy I2 h3 hn hx hr
  | false=>rw[hj] at h';exact ihy I' h' hn hx hr
 | cond c x y ihx ihy =>
  intro H kn kx kr st a w J β Q I hh hn hx hr
  rw[Dg] at hh
  split at hh
  ·rename_i t ht
   have h1:=Aq I.ss c
   rw[ht,Rep] at h1
   refine wp_cond h1 ?_
   cases t with
   | true=>exact ihx I hh hn hx hr
   | false=>exact ihy I hh hn hx hr
  ·simp at hh
 | block id c ih =>
  intro H kn kx kr st a w J β Q I hh hn hx hr
  rw[Dg] at hh
  refine wp_block (ih I hh (fun st' a' w' J' β' I' h'=>hn _ _ _ _ _ I' h') (fun j st' a' w' J' β' I' h'=>?_) (fun st' a' w' J' β' I' h'=>hr _ _ _ _ _ I' h'))
  cases hj:Nat.beq j id with
  | true =>
   rw[hj] at h'
   have:=Nat.eq_of_beq_eq_true hj
   subst this
   simp only[Exit.inBlock,if_true]
   exact hn _ _ _ _ _ I' h'
  | false =>
   rw[hj] at h'
   simp only[Exit.inBlock]
   rw[if_neg (Hl hj)]
   exact hx _ _ _ _ _ _ I' h'
 | loop c ih =>
  intro H kn kx kr st a w J β Q I hh hn hx hr
  rw[Dg,P2] at hh
  refine wp_loop_rounds N ?_
  have key:∀ (n:Nat) {st:St} {a:Act} {w:World} {J:Bool→Nat→Prop} {β:Aw},Inv Z E.nt J β st a w→X3 (GG E H.live roots) (fun k st=>Dg E roots N c H.a k kx kr st) n st=some r→Code.rounds E.P c Q n a w:=by
   intro n
   induction n with
   | zero=>intro st a w J β I h';simp[X3] at h'
   | succ n ihn =>
    intro st a w J β I h'
    rw[X3] at h'
    rw[rounds_succ]
    refine ih I h' (fun st' a' w' J' β' I' h''=>?_) (fun id st' a' w' J' β' I' h''=>hx _ _ _ _ _ _ I' h'') (fun st' a' w' J' β' I' h''=>hr _ _ _ _ _ I' h'')
    obtain⟨s2,h2,h3⟩:=ub h''
    obtain⟨J2,β2,I2⟩:=Yd I' h2
    exact ihn I2 h3
  obtain⟨s2,h2,h3⟩:=ub hh
  obtain⟨J2,β2,I2⟩:=Yd I h2
  exact key N I2 h3
 | exit id=>intro H kn kx kr st a w J β Q I hh hn hx hr;exact wp_exit (hx _ _ _ _ _ _ I hh)
 | ret=>intro H kn kx kr st a w J β Q I hh hn hx hr;exact wp_ret (hr _ _ _ _ _ I hh)
 | rangeFunc=>intro H kn kx kr st a w J β Q I hh;simp[Dg] at hh
 | scope=>intro H kn kx kr st a w J β Q I hh;simp[Dg] at hh
 | label=>intro H kn kx kr st a w J β Q I hh;simp[Dg] at hh
 | goto=>intro H kn kx kr st a w J β Q I hh;simp[Dg] at hh
 | refuse=>intro H kn kx kr st a w J β Q I hh;simp[Dg] at hh
end
end Gx

namespace Gx
open Go
structure FDone (Z:Start) (J:Bool→Nat→Prop) (β:Aw) (h:Ag) (w:World):Prop where
 sim:SimH J β h w
 os:w.os=Z.w.os
 tape:w.tape=Z.w.tape
 output:w.output=Z.w.output
 size:Z.w.heap.size≤w.heap.size
 frame:∀ k,k<Z.w.heap.size→¬ eV Z.β Z.h k→w.heap[k]?=Z.w.heap[k]?
 wr:∀ k,eV β h k→k<Z.w.heap.size→eV Z.β Z.h k
 jsub:∀ o k,Z.J o k→J o k
 jup:∀ o k,J o k→Z.J o k∨eV Z.β Z.h k∨Z.w.heap.size≤k
 sizes:∀ k,Am Z.w k≤Am w k
 outs:∀ b x0 x,Ac Z.h b=some x0→Ac h b=some x→x.dead=false→(SameO Z.β β b x0 x∧x.mp=x0.mp)∧x.sz=x0.sz∧(x0.mp=false→x.cells.length=x0.cells.length)∧x0.dead=false
 live:∀ b x,Ac h b=some x→x.dead=false
def ru (P:Program) (f:Nat) (args:LA) (h:Ag) (res:AV) (h':Ag):Prop :=
 ∀ (J:Bool→Nat→Prop) (β:Aw) (w:World) (vs:List Value),SimH J β h w→Reps J β h w args vs →
  Calls P f vs.toArray w fun e w'=>∃ vc J' β',e=.returned vc∧FDone ⟨J,β,h,w⟩ J' β' h' w'∧Rep J' β' h' w' res vc
def lk (P:Program) (f:Nat) (t:Tw):Prop:=∀ args h res h',(t.runK args h fun v h'=>some (v,h'))=some (res,h')→ru P f args h res h'
def UL (P:Program):List (Nat×Tw)→Prop
 | []=>True
 | p::r=>lk P p.1 p.2∧UL P r
theorem f5 {P:Program} {R:Type} {r:R}:∀ {T:List (Nat×Tw)},UL P T→∀ {f:Nat} {args:LA} {h:Ag} {k:AV→Ag→O R},GD T f args h k=some r →
  ∃ res h',ru P f args h res h'∧k res h'=some r
 | [],_,f,args,h,k,hh=>by simp[GD] at hh
 | (g,t)::T,hT,f,args,h,k,hh=>by
  rw[GD] at hh
  cases hb:Nat.beq g f with
  | false=>rw[hb] at hh;exact f5 hT.2 hh
  | true =>
   rw[hb] at hh
   have:=Nat.eq_of_beq_eq_true hb
   subst this
   simp only[cond_true] at hh
   rw[t.eq] at hh
   obtain⟨⟨res,h'⟩,h1,h2⟩:=ub hh
   exact⟨res,h',hT.1 args h res h' h1,h2⟩
section
variable {R:Type} {r:R} {Z:Start} {nt:Nat} {J:Bool→Nat→Prop} {β:Aw} {st:St} {a:Act} {w:World}
def GX (tmps:Array Value):ResultVar→Sem Value
 | .tmp t=>pure (tmps.getD t undef)
 | .cell a t=>do loadVar t (←Go.asAddr (tmps.getD a undef))
theorem nG {α β:Type} (f:α→Sem β) (xs:Array α):xs.mapM f=(List.toArray <$> xs.toList.mapM f):=by
 rw[←List.mapM_toArray]
theorem ij (fn:Func) (tmps:Array Value):results fn tmps=(do let vs ←fn.results.mapM (GX tmps);pure (if h:vs.size=1 then vs[0] else .tuple vs)):=by
 unfold results
 congr 1
def f6 (l:List Value):Value:=match l with | [v]=>v | l=>.tuple l.toArray
theorem f8 {P:Program} (fn:Func) (tmps:Array Value) {vs:List Value} (h:(fn.results.toList.mapM (GX tmps)).run P w=.ok vs w):(results fn tmps).run P w=.ok (f6 vs) w:=by
 rw[ij,nG]
 simp only[map_eq_pure_bind,Sem.run_bind,h,Result.andThen_ok,Sem.run_pure]
 congr 1
 match vs with
 | []=>rfl
 | [v]=>rfl
 | v::u::r=>simp[f6]
theorem f9 {P:Program} {t:TypeId} {v vc:Value} (h:(Instr.loadAt t v).run P w=.ok vc w):(do loadVar t (←Go.asAddr v):Sem Value).run P w=.ok vc w:=by
 unfold Instr.loadAt at h
 cases v with
 | pointer a =>
  cases a with
  | some a=>exact h
  | none=>simp[Instr.sureAddr] at h
 | _=>simp[Instr.sureAddr] at h
theorem Rq {E:Env} (S:SimH J β st.h w) (SS:SimS J β st.h w st.s a.tmps):∀ (l:List ResultVar) {acc:LA} {k:LA→O R},G9 E st l acc k=some r →
  ∃ vals vs,k (acc.reverse++vals)=some r∧(l.mapM (GX a.tmps)).run E.P w=.ok vs w∧Reps J β st.h w vals vs
 | [],acc,k,hh=>⟨[],[],by simpa[G9] using hh,by simp,by rw[Reps]⟩
 | .tmp t::l,acc,k,hh=>by
  rw[G9] at hh
  obtain⟨vals,vs,h1,h2,h3⟩:=Rq S SS l hh
  refine⟨Dd st.s t::vals,a.tmps.getD t undef::vs,by simpa using h1,?_,by rw[Reps];exact⟨_,_,rfl,Aq SS (.tmp t),h3⟩⟩
  simp only[List.mapM_cons,GX,Sem.run_bind,Sem.run_pure,Result.andThen_ok,h2]
 | .cell ad t::l,acc,k,hh=>by
  rw[G9] at hh
  obtain⟨v,vc,h0,h1,h2⟩:=MK S (fun _ _ h=>h) hh (Aq SS (.tmp ad))
  obtain⟨vals,vs,h3,h4,h5⟩:=Rq S SS l h0
  refine⟨v::vals,vc::vs,by simpa using h3,?_,by rw[Reps];exact⟨_,_,rfl,h2,h5⟩⟩
  have:(GX a.tmps (.cell ad t)).run E.P w=.ok vc w:=f9 h1
  simp only[List.mapM_cons,Sem.run_bind,this,Sem.run_pure,Result.andThen_ok,h4]
theorem ik {i:Nat} {m:Nat×Nat} {v v':AV} {ups:Bo} {vc:Value} {h:Ag} (S:SimH J β h w) (hh:qP (Ac h) i m v=some (v',ups)) (hB:qQ (Ac h) m v=true) (hv:Rep J β h w v vc) :
  ∃ J' β',Step J β h w J' β' (Ab ups h) w∧Rep J' β' (Ab ups h) w v' vc∧(∀ b x,Ac (Ab ups h) b=some x→Ac h b=none→Ea≤b):=by
 have old:∀ {ups:Bo},(∀ b,Ao ups b=true→∃ x,Ac h b=some x)→∀ b x,Ac (Ab ups h) b=some x→Ac h b=none→Ea≤b:=by
  intro ups hu b x hx hn
  cases hi:Ao ups b with
  | true=>obtain⟨y,hy⟩:=hu b hi;rw[hy] at hn;cases hn
  | false=>rw[A3 _ _ _ hi,hn] at hx;cases hx
 unfold qP at hh
 cases h0:Nat.beq m.1 0 with
 | true =>
  rw[h0] at hh;simp at hh
  obtain⟨rfl,rfl⟩:=hh
  exact⟨J,β,Step.refl S,hv,old (by simp[Ao])⟩
 | false =>
  rw[h0,cond_false] at hh
  cases h1:Nat.beq m.1 1 with
  | true =>
   rw[h1,cond_true] at hh
   split at hh
   ·simp at hh;obtain⟨rfl,rfl⟩:=hh
    rw[Rep] at hv;subst hv
    refine⟨J,β,Step.refl S,?_,old (by simp[Ao])⟩
    rw[Rep,RepC]
    exact⟨by simp,none,0,rfl,Nat.le_refl _,by simp,.inl rfl⟩
   ·simp at hh;obtain⟨rfl,rfl⟩:=hh
    refine⟨J,β,Step.refl S,?_,old (by simp[Ao])⟩
    rw[Rep,RepC] at hv ⊢
    obtain⟨e1,A,cap,e2,e3,e4,e5⟩:=hv
    exact⟨e1,A,cap,e2,e3,by simp,e5⟩
   ·obtain⟨⟨q1,q2,q3⟩,hq,h2⟩:=ub hh
    simp at h2;obtain⟨rfl,rfl⟩:=h2
    obtain⟨J',A,hA,_⟩:=X7 S (Looks.s fun _ _ h=>h) hq hv
    refine⟨J',β,A,?_,old (bp hq)⟩
    unfold CJ at hq
    obtain⟨x,hx,h3⟩:=ub hq
    obtain⟨_,h4⟩:=uc h3
    simp at h4
    obtain⟨rfl,rfl,rfl⟩:=h4
    rw[Rep];exact hA
   ·rename_i b n
    obtain⟨x,hx,h2⟩:=ub hh
    obtain⟨hc,h3⟩:=uc h2
    simp only[Bool.and_eq_true] at hc
    obtain⟨c1,c2⟩:=hc
    unfold qQ at hB
    rw[h1,cond_true] at hB
    simp only[hx] at hB
    simp at h3;obtain⟨rfl,rfl⟩:=h3
    obtain⟨hb,hd⟩:=A1 (g:=Ac h) (fun _ _ h=>h) hx
    obtain⟨J',β',A,hA⟩:=dY S hb hd c1 (Nat.le_of_ble_eq_true c2) hB hv
    refine⟨J',β',A,hA,old (fun b' hb'=>?_)⟩
    simp only[Ao] at hb'
    cases h6:Nat.beq b b' with
    | true=>exact⟨x,by rw[←Nat.eq_of_beq_eq_true h6];exact hb⟩
    | false=>rw[h6] at hb';cases hb'
   ·simp at hh
  | false =>
   rw[h1,cond_false] at hh
   cases h2:Nat.beq m.1 2 with
   | true =>
    rw[h2,cond_true] at hh
    split at hh
    ·obtain⟨hn,h3⟩:=iO hh
     simp at h3;obtain⟨rfl,rfl⟩:=h3
     have hn':Ac h (nid 90000+i)=none:=by cases hx:Ac h (nid 90000+i)<;>simp_all
     have A:=Step.newNone S (x:=De m.2) hn' rfl
     refine⟨J,fun b=>if b=nid 90000+i then none else β b,A,?_,fun b x hx hb=>?_⟩
     ·rw[Rep] at hv;subst hv;rw[Rep]
      exact⟨De m.2,none,0,⟨by simp only[Ab];rw[Aa,if_pos rfl],rfl⟩,rfl,Nat.le_refl _,.inl rfl⟩
     ·simp only[Ab] at hx
      rw[Aa] at hx
      by_cases e:b=nid 90000+i
      ·subst e;unfold nid Ea;omega
      ·rw[if_neg e,hb] at hx;cases hx
    ·simp at hh;obtain⟨rfl,rfl⟩:=hh
     exact⟨J,β,Step.refl S,hv,old (by simp[Ao])⟩
   | false =>
    rw[h2,cond_false] at hh
    split at hh
    ·rename_i c
     obtain⟨⟨q1,q2,q3⟩,hq,h3⟩:=ub hh
     simp at h3;obtain⟨rfl,rfl⟩:=h3
     rw[Rep] at hv
     obtain⟨cs,rfl,hc⟩:=hv
     obtain⟨J',A,hA,hlen,_⟩:=Jj S (Looks.s fun _ _ h=>h) hq hc
     refine⟨J',β,A,?_,old (Oh hq)⟩
     rw[Rep]
     exact⟨cs,rfl,hlen.symm,hA⟩
    ·simp at hh;obtain⟨rfl,rfl⟩:=hh
     exact⟨J,β,Step.refl S,hv,old (by simp[Ao])⟩
    ·simp at hh
theorem M_ {s:Dy}:∀ (vals:LA) {i:Nat} {ms:List (Nat×Nat)} {h h':Ag} {vals':LA} {vs:List Value} {J:Bool→Nat→Prop} {β:Aw},
  Inv Z nt J β { s:=s,h:=h } a w→e_ h i ms vals=some (vals',h',true)→Reps J β h w vals vs →
  ∃ J' β',Inv Z nt J' β' { s:=s,h:=h' } a w∧Reps J' β' h' w vals' vs∧∀ x v,Rep J β h w x v→Rep J' β' h' w x v
 | [],i,ms,h,h',vals',vs,J,β,I,hh,hv=>by
  simp[e_] at hh;obtain⟨rfl,rfl⟩:=hh
  exact⟨J,β,I,hv,fun _ _ h=>h⟩
 | v::r,i,ms,h,h',vals',vs,J,β,I,hh,hv=>by
  rw[e_] at hh
  obtain⟨⟨v1,u1⟩,h1,h2⟩:=ub hh
  obtain⟨⟨r2,hr,bb⟩,h3,h4⟩:=ub h2
  simp at h4;obtain⟨rfl,rfl,hB,rfl⟩:=h4
  rw[Reps] at hv
  obtain⟨u,us,rfl,hv1,hv2⟩:=hv
  obtain⟨J1,β1,A,hA,hnew⟩:=ik I.sim h1 (by rw[List.headD_eq_head?_getD];exact hB) hv1
  have I1:=I.step A hnew
  obtain⟨J2,β2,I2,hB,hm⟩:=M_ r I1 h3 (Reps.ext A.ext hv2)
  refine⟨J2,β2,I2,?_,fun x v h=>hm x v (Rep.ext A.ext h)⟩
  rw[Reps]
  exact⟨u,us,rfl,hm _ _ hA,hB⟩
theorem aI {E:Env} {fn:Func} {modes:List (Nat×Nat)} {outs:List Nat} {k:AV→Ag→O R} (I:Inv Z nt J β st a w) (hh:Ni E fn modes outs k st=some r) :
  ∃ res h' vc J' β',k res h'=some r∧(results fn a.tmps).run E.P w=.ok vc w∧FDone Z J' β' h' w∧Rep J' β' h' w res vc:=by
 unfold Ni at hh
 obtain⟨vals,vs,h1,h2,h3⟩:=Rq I.sim I.ss _ hh
 simp only[List.reverse_nil,List.nil_append] at h1
 obtain⟨⟨vals',h',bb⟩,h4,h5⟩:=ub h1
 obtain⟨hbb,h5⟩:=uc h5
 simp only at hbb;subst hbb
 obtain⟨J1,β1,I1,hR,_⟩:=M_ (s:=st.s) vals I h4 h3
 obtain⟨hc,h6⟩:=uc h5
 simp at hc
 obtain⟨hn,hs,hi,_⟩:=hc
 have hn:=Ks hn
 have hin:=Hu hi
 have hs:=Hu hs
 refine⟨_,_,f6 vs,J1,We _ _ β1,h6,f8 fn a.tmps h2,?_,Rep.ren hn hs ?_⟩
 ·exact⟨I1.sim.ren hn hin,I1.os,I1.tape,I1.output,I1.size,I1.frame,fun k hm=>I1.wr k (d7 hn hm),I1.jsub,I1.jup,I1.sizes,fun b x0 x h0 hx hd=>by
   obtain⟨b',x',hb',he,hg,rfl⟩:=Hd hn b x hx
   have:=MZ hb' ⟨I1.zge b x0 h0,I1.zlt b x0 h0⟩ he
   subst this
   obtain⟨⟨e1,em⟩,e2,e3,e4⟩:=I1.outs b' x0 x' h0 hg hd
   refine⟨⟨?_,em⟩,e2,by rw[B6];exact e3,e4⟩
   have:=Cn (β:=β1) hn hb'
   rw[he] at this
   exact e1.to this rfl (B6 _ _),fun b x hx=>by
   obtain⟨b',x',hb',he,hg,rfl⟩:=Hd hn b x hx
   obtain⟨x2,h7,h8⟩:=fZ hb'
   rw[hg] at h7;simp at h7;subst h7;exact h8⟩
 ·match vals',vs,hR with
  | [],vs,hR=>rw[Reps] at hR;subst hR;simp only[f6,qR];rw[Rep];exact⟨[],rfl,by rw[Reps]⟩
  | [v],vs,hR =>
   rw[Reps] at hR
   obtain⟨u,us,rfl,hu,hus⟩:=hR
   rw[Reps] at hus;subst hus
   exact hu
  | v::v2::l,vs,hR =>
   have hR':=hR
   rw[Reps] at hR
   obtain⟨u,us,rfl,hu,hus⟩:=hR
   rw[Reps] at hus
   obtain⟨u2,us2,rfl,_,_⟩:=hus
   simp only[f6,qR]
   rw[Rep]
   exact⟨_,rfl,hR'⟩
end
end Gx

namespace Gx
open Go
section
variable {J J':Bool→Nat→Prop} {β:Aw} {h:Ag} {w:World}
mutual
theorem Rep.noOrg:∀ {x:AV} {v:Value},Rm x=false→Rep J β h w x v→Rep (fun _=>J false) β h w x v
 | .own ..,v,_,hr=>by rw[Rep] at hr ⊢;exact hr
 | .optr ..,v,_,hr=>by rw[Rep] at hr ⊢;exact hr
 | .omap ..,v,_,hr=>by rw[Rep] at hr ⊢;exact hr
 | .nd ..,v,_,hr=>by rw[Rep] at hr ⊢;exact hr
 | .pagg c o,v,ho,hr=>by
  rw[Rm] at ho;subst ho
  rw[Rep] at hr ⊢;exact hr
 | .agg c,v,ho,hr=>by
  rw[Rm] at ho
  rw[Rep] at hr ⊢
  obtain⟨cs,h1,h2⟩:=hr
  exact⟨cs,h1,Reps.noOrg ho h2⟩
 | .tup c,v,ho,hr=>by
  rw[Rm] at ho
  rw[Rep] at hr ⊢
  obtain⟨cs,h1,h2⟩:=hr
  exact⟨cs,h1,Reps.noOrg ho h2⟩
 | .fn f c,v,ho,hr=>by
  rw[Rm] at ho
  rw[Rep] at hr ⊢
  obtain⟨cs,h1,h2⟩:=hr
  exact⟨cs,h1,Reps.noOrg ho h2⟩
 | .undef,_,_,_=>by rw[Rep];trivial
 | .imm c n sz t o,v,ho,hr=>by
  rw[Rm] at ho;subst ho
  rw[Rep] at hr ⊢;exact hr
 | .iptr c o,v,ho,hr=>by
  rw[Rm] at ho;subst ho
  rw[Rep] at hr ⊢;exact hr
 | .int ..,v,_,hr=>by rw[Rep] at hr ⊢;exact hr
 | .bool _,v,_,hr=>by rw[Rep] at hr ⊢;exact hr
 | .str _,v,_,hr=>by rw[Rep] at hr ⊢;exact hr
 | .nsl,v,_,hr=>by rw[Rep] at hr ⊢;exact hr
 | .nilptr,v,_,hr=>by rw[Rep] at hr ⊢;exact hr
 | .nilfn,v,_,hr=>by rw[Rep] at hr ⊢;exact hr
theorem Reps.noOrg:∀ {c:List AV} {cs:List Value},Lc c=false→Reps J β h w c cs→Reps (fun _=>J false) β h w c cs
 | [],_,_,hr=>by rw[Reps] at hr ⊢;exact hr
 | x::r,cs,ho,hr=>by
  rw[Lc] at ho
  simp at ho
  rw[Reps] at hr ⊢
  obtain⟨u,us,h1,h2,h3⟩:=hr
  exact⟨u,us,h1,Rep.noOrg ho.1 h2,Reps.noOrg ho.2 h3⟩
end
theorem UM:∀ {c:LA} {j:Nat} {x:AV},Lc c=false→c[j]?=some x→Rm x=false
 | [],j,x,_,hj=>by simp at hj
 | y::r,j,x,ho,hj=>by
  rw[Lc] at ho
  simp at ho
  cases j with
  | zero=>simp at hj;subst hj;exact ho.1
  | succ j=>exact UM ho.2 (by simpa using hj)
theorem UN:∀ {h:Ag} {b:Nat} {x:Blk},GE h=false→Ac h b=some x→x.taint=false∧(x.pure=false→Lc x.cells=false)
 | [],b,x,_,hb=>by simp[Ac] at hb
 | (i,y)::r,b,x,ho,hb=>by
  rw[GE] at ho
  simp at ho
  rw[Ac] at hb
  cases hi:Nat.beq i b with
  | true =>
   rw[hi] at hb;simp at hb;subst hb
   refine⟨ho.1.1,fun hp=>?_⟩
   have:=ho.1.2
   rw[hp] at this;simpa using this
  | false=>rw[hi] at hb;exact UN ho.2 (by simpa using hb)
theorem SimH.noOrg (S:SimH J β h w) (ho:GE h=false):SimH (fun _=>J false) β h w:=by
 refine⟨fun _ k hj=>S.jlt _ k hj,fun k hj=>hj,S.gl.to (fun _ h=>h) (fun _ _=>rfl),fun b x hx hd hm=>?_,fun b x hx hd hm=>by
   obtain⟨g1,g2,g3,g4⟩:=S.mblk b x hx hd hm
   exact⟨g1,g2,fun j ht _=>g3 j ht false,g4⟩,S.sepT⟩
 obtain⟨ht,hc⟩:=UN ho hx
 rcases S.blk b x hx hd hm with h1 | ⟨k,o,cs,ty,fr,h1,h2,h3,h4,h5,h6,h7⟩
 ·exact .inl h1
 ·refine .inr ⟨k,o,cs,ty,fr,h1,h2,h3,h4,⟨fun hp=>?_,fun hp j c hj=>?_⟩,fun hs _=>h6 hs _,fun hs=>?_⟩
  ·have:=h5.1 hp;rw[ht] at this;exact this
  ·obtain⟨u,g1,g2,g3⟩:=h5.2 hp j c hj
   exact⟨u,g1,Rep.noOrg (UM (hc hp) hj) g2,g3⟩
  ·have:=h7 hs;rw[ht] at this;exact this
theorem Ext.grow (hJ:∀ o k,J o k→J' o k):Ext J β h w J' β h w:=⟨hJ,fun _ _ _=>rfl,fun b x hb=>⟨x,⟨hb,rfl⟩,X6⟩,fun _ _ _ _=>Nat.le_refl _⟩
theorem SimH.grow (S:SimH J β h w) (hJ:∀ o k,J o k→J' o k) (hlt:∀ o k,J' o k→k<w.heap.size) (hft:∀ k,J' false k→J' true k)
  (hun:∀ b x k,Ac h b=some x→x.dead=false→x.sealed=false→Terr β b x k→∀ g,¬ J' g k):SimH J' β h w:=by
 refine⟨hlt,hft,S.gl.to (hJ false) (fun _ _=>rfl),fun b x hx hd hm=>?_,fun b x hx hd hm=>by
   obtain⟨g1,g2,g3,g4⟩:=S.mblk b x hx hd hm
   refine⟨g1,g2,fun j ht=>hun b x j hx hd g2 ht,g4.imp id ?_⟩
   rintro⟨k,o,g5,g6,g7⟩
   exact⟨k,o,g5,g6,g7.keep (hJ false) (fun _ _=>rfl) rfl (fun _ _ _ _ _ _=>rfl)⟩,S.sepT⟩
 rcases S.blk b x hx hd hm with h1 | ⟨k,o,cs,ty,fr,h1,h2,h3,h4,h5,h6,h7⟩
 ·exact .inl h1
 ·exact .inr ⟨k,o,cs,ty,fr,h1,h2,h3,h4,h5.ext (Ext.grow hJ),fun hs=>hun b x k hx hd hs (Terr.at h1),fun hs=>hJ _ _ (h7 hs)⟩
def rF (β:Aw) (h:Ag) (fz:List Nat) (k:Nat):Prop:=∃ b x o,b ∈ fz∧Ac h b=some x∧x.dead=false∧x.sealed=false∧β b=some (k,o)
def JS (J:Bool→Nat→Prop) (β:Aw) (h:Ag) (fz:List Nat):Bool→Nat→Prop:=fun o k=>J o k∨(o=true∧rF β h fz k)
theorem UO {g:Ar} {b off n:Nat} {x:Blk} {vc:Value} {fz:List Nat} (S:SimH J β h w) (hl:Looks g h) (hx:B9 g b=some x) (hp:x.pure=true) (hf:x.sealed=false→b ∈ fz) (hv:Rep J β h w (.own b off n) vc) :
  Rep (JS J β h fz) β h w (.imm ((x.cells.drop off).take (n*x.sz)) n x.sz false (!x.sealed||x.taint)) vc:=by
 unfold B9 at hx
 obtain⟨x0,hx0,hx⟩:=ub hx
 obtain⟨hd,hx⟩:=iO hx
 simp at hx;subst hx
 have hy:=hl b _ hx0
 rw[Rep]
 have key:=(k9 (J':=fun o k=>o≠x0.taint∨JS J β h fz (!x0.sealed||x0.taint) k) S hy hd hp hv (fun k o hβ=>.inr ?_) (fun o k hj=>?_) false (!x0.sealed||x0.taint)).2 (by simp)
 ·exact RepC.keep (fun k hk=>by rcases hk with hk | hk;exact absurd rfl hk;exact hk) (fun _ _=>rfl) key
 ·cases hs:x0.sealed with
  | false =>
   simp only[Bool.not_false,Bool.true_or]
   exact .inr ⟨rfl,b,x0,o,hf hs,hy,hd,hs,hβ⟩
  | true =>
   simp only[Bool.not_true,Bool.false_or]
   rcases S.blk b x0 hy hd (iQ hy hv) with⟨h1,_⟩ | ⟨k',o',cs,ty,fr,h1,h2,h3,h4,h5,h6,h7⟩
   ·rw[hβ] at h1;cases h1
   ·rw[hβ] at h1;simp at h1;obtain⟨rfl,rfl⟩:=h1
    exact .inl (h7 hs)
 ·by_cases e:o=x0.taint
  ·subst e
   right
   cases hs:x0.sealed with
   | false =>
    simp only[Bool.not_false,Bool.true_or]
    left
    cases ht:x0.taint with
    | false=>rw[ht] at hj;exact S.jft k hj
    | true=>rw[ht] at hj;exact hj
   | true=>simp only[Bool.not_true,Bool.false_or];exact .inl hj
  ·exact .inl e
theorem JS.mono (S:SimH J β h w) {fz:List Nat} {a b:Bool} (k:Nat) (hk:JS J β h fz a k):JS J β h fz (a||b) k:=by
 cases a
 ·cases b
  ·exact hk
  ·rcases hk with hk | ⟨h1,_⟩
   ·exact .inl (S.jft k hk)
   ·cases h1
 ·exact hk
theorem aJ {g:Ar} {v v':AV} {o:Bool} {vc:Value} {fz:List Nat} (S:SimH J β h w) (hl:Looks g h) (hh:Un g v=some (v',o)) (hf:∀ b off n x,v=.own b off n→g b=some x→x.sealed=false→b ∈ fz) (hv:Rep J β h w v vc) :
  RepC (JS J β h fz o) w v' vc:=by
 cases v
 case own b off n =>
  rw[Un] at hh
  obtain⟨x,hx,h1⟩:=ub hh
  obtain⟨hp,h2⟩:=uc h1
  simp at h2
  obtain⟨rfl,rfl⟩:=h2
  have:=UO S hl hx hp (fun hs=>by
   unfold B9 at hx
   obtain⟨x0,hx0,hx⟩:=ub hx
   obtain⟨hd,hx⟩:=iO hx
   simp at hx;subst hx
   exact hf b off n x0 rfl hx0 hs) hv
  rw[Rep] at this;exact this
 case imm c n sz t org =>
  simp[Un] at hh;obtain⟨rfl,rfl⟩:=hh
  rw[Rep,RepC] at hv
  rw[RepC]
  obtain⟨e1,A,cap,e2,e3,e4,e5⟩:=hv
  refine⟨e1,A,cap,e2,e3,by simp,?_⟩
  rcases e5 with e5 | ⟨a,e6,e7,e8⟩
  ·exact .inl e5
  ·exact .inr ⟨a,e6,.inl e7,RepCs.keep (fun k hk=>.inl hk) (fun _ _=>rfl) (fun _=>rfl) e8⟩
 case iptr c org =>
  simp[Un] at hh;obtain⟨rfl,rfl⟩:=hh
  rw[Rep] at hv
  exact RepC.keep (fun k hk=>.inl hk) (fun _ _=>rfl) hv
 all_goals first
  | (simp[Un] at hh;done)
  | (simp[Un] at hh;obtain⟨rfl,rfl⟩:=hh;rw[Rep] at hv;rw[RepC];exact hv)
theorem Ye {g:Ar} {fz:List Nat} (S:SimH J β h w) (hl:Looks g h):∀ {c c':LA} {o:Bool} {cs:List Value},Xz g c=some (c',o)→(∀ b ∈ Fe g c,b ∈ fz)→Reps J β h w c cs →
  cs.length=c'.length∧∀ (j:Nat) (x:AV),c'[j]?=some x→∃ u,cs[j]?=some u∧RepC (JS J β h fz o) w x u
 | [],c',o,cs,hh,hf,hv=>by
  simp[Xz] at hh;obtain⟨rfl,rfl⟩:=hh
  rw[Reps] at hv;subst hv
  exact⟨rfl,fun j x hj=>by simp at hj⟩
 | v::r,c',o,cs,hh,hf,hv=>by
  rw[Xz] at hh
  obtain⟨⟨v1,o1⟩,h1,hh⟩:=ub hh
  obtain⟨⟨r1,o2⟩,h2,hh⟩:=ub hh
  simp at hh;obtain⟨rfl,rfl⟩:=hh
  rw[Reps] at hv
  obtain⟨u,us,rfl,g1,g2⟩:=hv
  have hf2:∀ b ∈ Fe g r,b ∈ fz:=fun b hb=>hf b (by
   cases v<;>simp only[Fe]<;>try exact hb
   split
   ·rename_i x _;cases x.sealed<;>simp[hb]
   ·exact hb)
  have a1:=aJ (fz:=fz) S hl h1 (fun b off n x e hx hs=>hf b (by subst e;simp[Fe,hx,hs])) g1
  obtain⟨b1,b2⟩:=Ye S hl h2 hf2 g2
  refine⟨by simp[b1],fun j x hj=>?_⟩
  cases j with
  | zero=>simp at hj;subst hj;exact⟨u,by simp,RepC.keep (fun k hk=>JS.mono S k hk) (fun _ _=>rfl) a1⟩
  | succ j =>
   obtain⟨u',e1,e2⟩:=b2 j x (by simpa using hj)
   exact⟨u',by simpa using e1,RepC.keep (fun k hk=>by rw[Bool.or_comm];exact JS.mono S k hk) (fun _ _=>rfl) e2⟩
theorem aK {g:Ar} {v v':AV} {q:Bool} {vc:Value} {fz:List Nat} (S:SimH J β h w) (hl:Looks g h) (hh:dC g v=some (v',q)) (hf:∀ b ∈ Sl g v,b ∈ fz) (hv:Rep J β h w v vc) :
  Rep (JS J β h fz) β h w v' vc∧Df v'=[]:=by
 unfold dC at hh
 split at hh
 ·rename_i b off n
  obtain⟨x,hx,h1⟩:=ub hh
  obtain⟨hp,h2⟩:=uc h1
  simp at h2
  obtain⟨rfl,_⟩:=h2
  exact⟨UO S hl hx hp (fun hs=>by
   unfold B9 at hx
   obtain⟨x0,hx0,hx⟩:=ub hx
   obtain⟨hd,hx⟩:=iO hx
   simp at hx;subst hx
   exact hf b (by simp[Sl,hx0,hs])) hv,by simp[Df]⟩
 ·simp at hh;obtain⟨rfl,_⟩:=hh
  refine⟨?_,by simp[Df]⟩
  rw[Rep,RepC] at hv ⊢
  obtain⟨e1,A,cap,e2,e3,e4,e5⟩:=hv
  refine⟨e1,A,cap,e2,e3,by simp,?_⟩
  rcases e5 with e5 | ⟨a,e6,e7,e8⟩
  ·exact .inl e5
  ·exact .inr ⟨a,e6,.inl e7,RepCs.keep (fun k hk=>.inl hk) (fun _ _=>rfl) (fun _=>rfl) e8⟩
 ·rename_i b off
  obtain⟨x,hx,h1⟩:=ub hh
  obtain⟨hp,h2⟩:=uc h1
  simp at h2
  obtain⟨rfl,_⟩:=h2
  unfold B9 at hx
  obtain⟨x0,hx0,hx⟩:=ub hx
  obtain⟨hd,hx⟩:=iO hx
  simp at hx;subst hx
  have hy:=hl b _ hx0
  refine⟨?_,by simp[Df]⟩
  rw[Rep] at hv
  obtain⟨x1,k,o,⟨g1,gm⟩,g2,g3⟩:=hv
  rw[hy] at g1;simp at g1;subst g1
  rcases g3 with g3 | g3
  ·simp[hd] at g3
  ·rcases S.blk b x0 hy hd gm with⟨h1,_⟩ | ⟨k',o',cs,ty,fr,h1,h2,h3,h4,h5,h6,h7⟩
   ·rw[g3] at h1;cases h1
   ·rw[g3] at h1;simp at h1;obtain⟨rfl,rfl⟩:=h1
    have hin:∀ k2,J x0.taint k2→JS J β h fz (!x0.sealed||x0.taint) k2:=by
     intro k2 hj
     left
     cases hs:x0.sealed with
     | false =>
      simp only[Bool.not_false,Bool.true_or]
      cases ht:x0.taint with
      | false=>rw[ht] at hj;exact S.jft k2 hj
      | true=>rw[ht] at hj;exact hj
     | true=>simp only[Bool.not_true,Bool.false_or];exact hj
    rw[Rep,RepC]
    refine⟨_,g2,?_,?_⟩
    ·cases hs:x0.sealed with
     | false =>
      simp only[Bool.not_false,Bool.true_or]
      exact .inr ⟨rfl,b,x0,o,hf b (by simp[Sl,hx0,hs]),hy,hd,hs,g3⟩
     | true =>
      simp only[Bool.not_true,Bool.false_or]
      exact .inl (h7 hs)
    ·refine RepCs.keep hin (fun _ _=>rfl) (fun j=>?_) ((h5.1 hp).drop off)
     rw[Addr.add_mid,D1 h2,Nat.add_assoc]
 ·rename_i c
  obtain⟨⟨c1,o1⟩,h1,h2⟩:=ub hh
  simp at h2;obtain⟨rfl,_⟩:=h2
  rw[Rep] at hv
  obtain⟨cs,rfl,hv⟩:=hv
  obtain⟨b1,b2⟩:=Ye (fz:=fz) S hl h1 (by simpa[Sl] using hf) hv
  refine⟨?_,by simp[Df]⟩
  rw[Rep]
  refine⟨cs,rfl,b1,?_⟩
  rw[Ay]
  intro j x hj
  obtain⟨u,e1,e2⟩:=b2 j x hj
  exact⟨u,by simpa using e1,e2⟩
 ·simp at hh;obtain⟨rfl,_⟩:=hh
  exact⟨Rep.ext (Ext.grow fun _ _ hj=>.inl hj) hv,by simp[Df,Ep]⟩
 ·simp at hh
 ·simp at hh
 ·simp at hh
 ·simp at hh
 ·simp at hh
 ·simp at hh;obtain⟨rfl,_⟩:=hh
  refine⟨Rep.ext (Ext.grow fun _ _ hj=>.inl hj) hv,?_⟩
  cases v<;>first | rfl | simp_all
theorem Om {g:Ar} {fz:List Nat} (S:SimH J β h w) (hl:Looks g h):∀ {args:LA} {ms:List Bool} {args':LA} {im fz':List Nat} {vs:List Value},
  Sm g ms args=some (args',im,fz')→(∀ b ∈ fz',b ∈ fz)→Reps J β h w args vs→Reps (JS J β h fz) β h w args' vs∧∀ b ∈ Ep args',b ∈ im
 | [],ms,args',im,fz',vs,hh,hf,hv=>by
  simp[Sm] at hh;obtain⟨rfl,rfl,rfl⟩:=hh
  rw[Reps] at hv;subst hv
  exact⟨by rw[Reps],by simp[Ep]⟩
 | v::r,ms,args',im,fz',vs,hh,hf,hv=>by
  rw[Sm] at hh
  rw[Reps] at hv
  obtain⟨u,us,rfl,hv1,hv2⟩:=hv
  cases hm:ms.headD false with
  | true =>
   rw[hm,cond_true] at hh
   obtain⟨⟨a2,i2,f2⟩,h1,h2⟩:=ub hh
   simp at h2;obtain⟨rfl,rfl,rfl⟩:=h2
   obtain⟨g1,g2⟩:=Om S hl h1 hf hv2
   refine⟨by rw[Reps];exact⟨u,us,rfl,Rep.ext (Ext.grow fun _ _ hj=>.inl hj) hv1,g1⟩,fun b hb=>?_⟩
   rw[Ep] at hb
   rcases List.mem_append.1 hb with hb | hb
   ·exact List.mem_append.2 (.inl hb)
   ·exact List.mem_append.2 (.inr (g2 b hb))
  | false =>
   rw[hm,cond_false] at hh
   obtain⟨⟨v1,b1⟩,h0,hh⟩:=ub hh
   obtain⟨⟨a2,i2,f2⟩,h1,h2⟩:=ub hh
   simp at h2;obtain⟨rfl,rfl,rfl⟩:=h2
   obtain⟨e1,e2⟩:=aK S hl h0 (fun b hb=>hf b (List.mem_append.2 (.inl hb))) hv1
   obtain⟨g1,g2⟩:=Om S hl h1 (fun b hb=>hf b (List.mem_append.2 (.inr hb))) hv2
   refine⟨by rw[Reps];exact⟨u,us,rfl,e1,g1⟩,fun b hb=>?_⟩
   rw[Ep,e2] at hb
   exact g2 b (by simpa using hb)
end
end Gx

namespace Gx
open Go
theorem bx {g g':Ar} {ρ:Nat→Nat}:∀ {ids:List Nat},(∀ b ∈ ids,g b=g' b)→sub g ρ ids=sub g' ρ ids
 | [],_=>rfl
 | b::r,h=>by
  rw[sub,sub,h b (by simp),bx (fun c hc=>h c (by simp[hc]))]
theorem Yf {g:Ar}:∀ {l:List Nat},X1 g l=true→∀ b ∈ l,∃ x,g b=some x∧x.dead=false
 | [],_,b,hb=>by simp at hb
 | i::r,h,b,hb=>by
  rw[X1] at h
  simp at h
  rcases List.mem_cons.1 hb with rfl | hb
  ·cases hx:g b with
   | none=>rw[hx] at h;simp at h
   | some x=>rw[hx] at h;exact⟨x,rfl,by simpa using h.1⟩
  ·exact Yf h.2 b hb
theorem ki:∀ {l m:List Nat},eZ l m=true→∀ b ∈ l,b ∉ m
 | [],m,_,b,hb=>by simp at hb
 | i::r,m,h,b,hb=>by
  rw[eZ] at h
  simp at h
  rcases List.mem_cons.1 hb with rfl | hb
  ·intro hm;have:=Fs.2 hm;rw[this] at h;simp at h
  ·exact ki h.2 b hb
theorem S4 {d:Nat}:∀ {l:List (Nat×Nat)} {b:Nat},b ∈ l.map (·.1)→Ev d l b ∈ l.map (·.2)
 | [],b,hb=>by simp at hb
 | (i,x)::r,b,hb=>by
  rw[Ev]
  cases hi:Nat.beq i b with
  | true=>simp
  | false =>
   have hm:b ∈ r.map (·.1):=by
    rw[List.map_cons] at hb
    rcases List.mem_cons.1 hb with h | h
    ·exact absurd h.symm (Hl hi)
    ·exact h
   simp only[cond_false,List.map_cons]
   exact List.mem_cons_of_mem _ (S4 hm)
theorem No {d:Nat}:∀ {l m:List (Nat×Nat)} {b:Nat},Ev d (l++m) b=if b ∈ l.map (·.1) then Ev d l b else Ev d m b
 | [],m,b=>by simp
 | (i,x)::r,m,b=>by
  rw[List.cons_append,Ev,Ev,No]
  cases hi:Nat.beq i b with
  | true=>have:=Nat.eq_of_beq_eq_true hi;subst this;simp
  | false =>
   have:=Hl hi
   simp only[cond_false,List.map_cons,List.mem_cons]
   by_cases hb:b ∈ r.map (·.1)
   ·rw[if_pos hb,if_pos (.inr hb)]
   ·rw[if_neg hb,if_neg (by rintro(h | h);exact this h.symm;exact hb h)]
theorem Fg:∀ {base:Nat} {l:List Nat},(Ap base l).map (·.1)=l
 | _,[]=>rfl
 | base,i::r=>by rw[Ap,List.map_cons,Fg]
theorem UP {d d':Nat}:∀ {l:List Nat} {base b:Nat},b ∈ l→Ev d' ((Ap base l).map fun p=>(p.2,p.1)) (Ev d (Ap base l) b)=b
 | [],base,b,hb=>by simp at hb
 | i::r,base,b,hb=>by
  rw[Ap,Ev,List.map_cons,Ev]
  cases hi:Nat.beq i b with
  | true=>have:=Nat.eq_of_beq_eq_true hi;subst this;simp
  | false =>
   have hm:b ∈ r:=by
    rcases List.mem_cons.1 hb with h | h
    ·exact absurd h.symm (Hl hi)
    ·exact h
   simp only[cond_false]
   have h1:=Ol (d:=d) (base:=base+1) hm
   rw[Sq (show base≠Ev d (Ap (base+1) r) b by omega)]
   exact UP hm
theorem Kv:∀ {base:Nat} {l:List Nat} {c:Nat},c ∈ (Ap base l).map (·.2)→base≤c∧c<base+l.length
 | _,[],c,hc=>by simp[Ap] at hc
 | base,i::r,c,hc=>by
  rw[Ap,List.map_cons] at hc
  rcases List.mem_cons.1 hc with h | h
  ·simp at h;subst h;simp
  ·have:=Kv h;simp only[List.length_cons];omega
theorem On:∀ {base:Nat} {l:List Nat},((Ap base l).map (·.2)).Nodup
 | _,[]=>by simp[Ap]
 | base,i::r=>by
  rw[Ap,List.map_cons,List.nodup_cons]
  exact⟨fun h=>by have:=Kv h;simp at this;omega,On⟩
theorem Yg:∀ {base:Nat} {l:List Nat} {b:Nat},b ∈ l→(b,Ev 0 (Ap base l) b) ∈ Ap base l
 | _,[],b,hb=>by simp at hb
 | base,i::r,b,hb=>by
  rw[Ap,Ev]
  cases hi:Nat.beq i b with
  | true=>have:=Nat.eq_of_beq_eq_true hi;subst this;simp
  | false =>
   have hm:b ∈ r:=by
    rcases List.mem_cons.1 hb with h | h
    ·exact absurd h.symm (Hl hi)
    ·exact h
   simp only[cond_false]
   exact List.mem_cons_of_mem _ (Yg hm)
def il (x:Blk):Blk:={ x with dead:=true,pure:=true,cells:=[] }
theorem Gj:∀ {ups:Bo} {h:Ag} {b:Nat} {o:Option Blk},(ups.map (·.1)).Nodup→(b,o) ∈ ups→Ac (Ab ups h) b=match o with | some x=>some x | none=>(Ac h b).map il
 | [],h,b,o,_,hm=>by simp at hm
 | (i,y)::r,h,b,o,hn,hm=>by
  rw[List.map_cons,List.nodup_cons] at hn
  rcases List.mem_cons.1 hm with he | hm'
  ·simp at he
   obtain⟨rfl,rfl⟩:=he
   have hno:Ao r b=false:=by
    have:∀ {r:Bo},b ∉ r.map (·.1)→Ao r b=false:=by
     intro r
     induction r with
     | nil=>intro _;rfl
     | cons p r ih =>
      intro h
      simp only[List.map_cons,List.mem_cons,not_or] at h
      rw[Ao,Sq (fun e=>h.1 e.symm)]
      exact ih h.2
    exact this hn.1
   cases o with
   | some x=>rw[Ab,A3 _ _ _ hno,Aa,if_pos rfl]
   | none =>
    rw[Ab,A3 _ _ _ hno]
    cases hx:Ac h b with
    | none=>simp[hx]
    | some x=>simp only[Option.map_some];rw[Aa,if_pos rfl];rfl
  ·have hne:b≠i:=fun e=>by subst e;exact hn.1 (List.mem_map.2 ⟨_,hm',rfl⟩)
   cases y with
   | some x =>
    rw[Ab,Gj hn.2 hm']
    cases o with
    | some _=>rfl
    | none=>simp only;rw[Aa,if_neg hne]
   | none =>
    rw[Ab,Gj hn.2 hm']
    cases o with
    | some _=>rfl
    | none =>
     simp only
     split
     ·rw[Aa,if_neg hne]
     ·rfl
theorem KZ:∀ {ups:Bo} {b:Nat},Ao ups b=true↔b ∈ ups.map (·.1)
 | [],b=>by simp[Ao]
 | (i,y)::r,b=>by
  rw[Ao,List.map_cons,List.mem_cons,←KZ]
  cases hi:Nat.beq i b with
  | true=>have:=Nat.eq_of_beq_eq_true hi;subst this;simp
  | false=>have:=Hl hi;simp;intro e;exact absurd e.symm this
theorem UQ {β:Aw} {h:Ag} {ρ:Nat→Nat} {ids:List Nat} (hn:(ids.map ρ).Nodup) {k:Nat} (hm:eV (We ρ ids β) (sub (Ac h) ρ ids) k) :
  CO β h ids k:=by
 obtain⟨c,y,hy,hd,hs,hβ⟩:=hm
 obtain⟨b,x,hb,rfl,hx,rfl⟩:=Hd hn c y hy
 exact⟨b,x,hb,hx,hd,hs,hβ.to (Cn hn hb).symm rfl⟩
end Gx

namespace Gx
open Go
theorem io {l:List Nat}:dD l=true↔l=[]:=by cases l<;>simp[dD]
theorem U5 {α β:Type} {f:α→β}:∀ {l:List α},(l.map f).Nodup→l.Nodup
 | [],_=>List.nodup_nil
 | a::r,h=>by
  rw[List.map_cons,List.nodup_cons] at h
  exact List.nodup_cons.2 ⟨fun hm=>h.1 (List.mem_map.2 ⟨a,hm,rfl⟩),U5 h.2⟩
theorem U6 {α:Type} {p:α→Bool}:∀ {l:List α},l.Nodup→(l.filter p).Nodup
 | [],_=>List.nodup_nil
 | a::r,h=>by
  rw[List.nodup_cons] at h
  rw[List.filter_cons]
  split
  ·exact List.nodup_cons.2 ⟨fun hm=>h.1 (List.mem_filter.1 hm).1,U6 h.2⟩
  ·exact U6 h.2
theorem GY {base:Nat} {l:List Nat} {p:Nat×Nat} (hp:p ∈ Ap base l):p.1 ∈ l:=by
 have:p.1 ∈ (Ap base l).map (·.1):=List.mem_map.2 ⟨p,hp,rfl⟩
 rw[Fg] at this;exact this
theorem kj {σ:Nat→Nat}:∀ {l:List Nat} {a b:Nat},(l.map σ).Nodup→a ∈ l→b ∈ l→σ a=σ b→a=b
 | [],a,b,_,ha,_,_=>by simp at ha
 | i::r,a,b,hn,ha,hb,he=>by
  rw[List.map_cons,List.nodup_cons] at hn
  rcases List.mem_cons.1 ha with h1 | h1<;>rcases List.mem_cons.1 hb with h2 | h2
  ·rw[h1,h2]
  ·subst h1;exact absurd (List.mem_map.2 ⟨b,h2,he.symm⟩) hn.1
  ·subst h2;exact absurd (List.mem_map.2 ⟨a,h1,he⟩) hn.1
  ·exact kj hn.2 h1 h2 he
theorem nH {E:Env} (hT:UL E.P E.tbl):FA E:=by
 intro R r k J β h w g d f args vs S hl hh hv
 unfold bi at hh
 obtain⟨⟨args',im,fz⟩,hp,h1⟩:=ub hh
 simp only at h1
 obtain⟨hc,h2⟩:=uc h1
 simp only[Bool.and_eq_true] at hc
 obtain⟨hal,him,hin,hdj,hnd,_⟩:=hc
 generalize hids:Oe g im=ids at *
 generalize hρ:Ev 0 (Ap 100000 ids)=ρ at *
 have hal:=Yf hal
 have him:=Hu him
 have hdj:=ki hdj
 have hnd:=Ks hnd
 have hg:∀ b ∈ ids,g b=Ac h b:=fun b hb=>by obtain⟨x,hx,_⟩:=hal b hb;rw[hx,hl b x hx]
 rw[P6 (g:=Ac h) hg] at hin
 have hin:=Hu hin
 rw[bx (g':=Ac h) hg] at h2
 obtain⟨hA,hB⟩:=Om (fz:=fz) S hl hp (fun _ h=>h) hv
 have aliveH:∀ b ∈ ids,∃ x,Ac h b=some x∧x.dead=false:=fun b hb=>by obtain⟨x,hx,hd⟩:=hal b hb;exact⟨x,hl b x hx,hd⟩
 have SJ:SimH (JS J β h fz) (We ρ ids β) (sub (Ac h) ρ ids) w:=by
  refine(S.ren hnd hin).grow (fun o k hj=>.inl hj) ?_ ?_ ?_
  ·rintro o k (hj | ⟨_,b,x,o',_,hx,hd,_,hβ⟩)
   ·exact S.jlt o k hj
   ·exact mr S hx hd hβ
  ·rintro k (hj | ⟨h0,_⟩)
   ·exact .inl (S.jft k hj)
   ·cases h0
  ·intro c y k hy hd hs hβ q hj
   obtain⟨b,x,hb,rfl,hx,rfl⟩:=Hd hnd c y hy
   replace hβ:=hβ.to (β':=β) (b':=b) (x':=x) (Cn hnd hb).symm rfl
   rcases hj with hj | ⟨_,b',x',o',hb',hx',hd',hs',hβ'⟩
   ·exact S.unT hx hd hs hβ _ hj
   ·have:=S.sepT b b' x x' k hx hx' hd hd' hs hβ (Terr.at hβ')
    subst this
    exact hdj b hb' hb
 have RJ:Reps (JS J β h fz) (We ρ ids β) (sub (Ac h) ρ ids) w (Mz ρ args') vs:=Reps.ren hnd (fun b hb=>him b (hB b hb)) hA
 obtain⟨rv,rh,hF,h3⟩:=f5 hT h2
 have hcall:=hF _ _ w vs SJ RJ
 obtain⟨horg,h4⟩:=iO h3
 obtain⟨hc2,h5⟩:=uc h4
 simp only[Bool.and_eq_true] at hc2
 obtain⟨hnal,hn16,hrv,houts,hrin,hσn⟩:=hc2
 generalize hall:Oe (Ac rh) (Df rv++(Ap 100000 ids).map (·.2))=all at *
 generalize hnew:all.filter (fun b=>!Dz ((Ap 100000 ids).map (·.2)) b)=new at *
 generalize hσ:Ev 0 ((Ap 100000 ids).map (fun p=>(p.2,p.1))++Ap (nid d) new)=σ at *
 have hnal:=Yf hnal
 have hrv:=Hu hrv
 have houts:=Hu houts
 have hrin:=Hu hrin
 have hσn:=Ks hσn
 have hn16:new.length≤16:=by simpa using hn16
 refine⟨_,_,h5,fun hfree=>Calls.mono hcall ?_⟩
 rintro e w' ⟨vc,J',β',rfl,F,hR⟩
 refine⟨vc,rfl,?_⟩
 have back:∀ b ∈ ids,σ (ρ b)=b:=by
  intro b hb
  rw[←hσ,No,if_pos,←hρ]
  ·exact UP hb
  ·rw[List.map_map]
   have:=S4 (d:=0) (l:=Ap 100000 ids) (b:=b) (by rw[Fg];exact hb)
   rw[hρ] at this
   exact this
 have ρall:∀ b ∈ ids,ρ b ∈ all:=by
  intro b hb
  refine houts _ ?_
  have:=S4 (d:=0) (l:=Ap 100000 ids) (b:=b) (by rw[Fg];exact hb)
  rw[hρ] at this
  exact this
 have σout:∀ c ∈ all,c ∈ (Ap 100000 ids).map (·.2)→σ c ∈ ids:=by
  intro c _ hc
  rw[←hσ,No,if_pos (by rw[List.map_map];exact hc)]
  have:=S4 (d:=0) (l:=(Ap 100000 ids).map (fun p=>(p.2,p.1))) (b:=c) (by rw[List.map_map];exact hc)
  rw[List.map_map] at this
  have e:(Ap 100000 ids).map ((fun x=>x.2)∘fun p=>(p.2,p.1))=ids:=Fg
  rw[e] at this
  exact this
 have newmem:∀ c ∈ new,c ∈ all∧c ∉ (Ap 100000 ids).map (·.2):=by
  intro c hc
  rw[←hnew] at hc
  obtain⟨h6,h7⟩:=List.mem_filter.1 hc
  refine⟨h6,fun hm=>?_⟩
  rw[Fs.2 hm] at h7;simp at h7
 have σnew:∀ c ∈ new,σ c=Ev 0 (Ap (nid d) new) c:=by
  intro c hc
  rw[←hσ,No,if_neg]
  rw[List.map_map];exact(newmem c hc).2
 have allcases:∀ c ∈ all,c ∈ (Ap 100000 ids).map (·.2)∨c ∈ new:=by
  intro c hc
  by_cases hm:c ∈ (Ap 100000 ids).map (·.2)
  ·exact .inl hm
  ·refine .inr ?_
   rw[←hnew]
   refine List.mem_filter.2 ⟨hc,?_⟩
   cases hq:Dz ((Ap 100000 ids).map (·.2)) c with
   | false=>rfl
   | true=>exact absurd (Fs.1 hq) hm
 generalize hups:((Ap 100000 ids).map fun p=>(p.1,(Ac rh p.2).map fun y=>iJ (g p.1) (Kc σ y)))++(Ap (nid d) new).map (fun p=>(p.2,(Ac rh p.1).map (Kc σ)))=ups at *
 have keys:ups.map (·.1)=ids++(Ap (nid d) new).map (·.2):=by
  rw[←hups,List.map_append,List.map_map,List.map_map]
  congr 1
  exact Fg
 have newFree:∀ c ∈ (Ap (nid d) new).map (·.2),Ac h c=none:=by
  intro c hc
  refine hfree c (KZ.2 (by rw[keys];exact List.mem_append.2 (.inr hc))) ?_
  have:=Kv hc
  unfold P0
  simp;omega
 have keysN:(ups.map (·.1)).Nodup:=by
  rw[keys,List.nodup_append]
  refine⟨U5 hnd,On,fun a ha b hb e=>?_⟩
  subst e
  obtain⟨x,hx,_⟩:=aliveH a ha
  rw[newFree a hb] at hx;cases hx
 have upsOld:∀ b ∈ ids,(b,(Ac rh (ρ b)).map fun y=>iJ (g b) (Kc σ y)) ∈ ups:=by
  intro b hb
  rw[←hups]
  refine List.mem_append.2 (.inl (List.mem_map.2 ⟨(b,ρ b),?_,rfl⟩))
  rw[←hρ];exact Yg hb
 have upsNew:∀ c ∈ new,(σ c,(Ac rh c).map (Kc σ)) ∈ ups:=by
  intro c hc
  rw[←hups]
  refine List.mem_append.2 (.inr (List.mem_map.2 ⟨(c,σ c),?_,rfl⟩))
  rw[σnew c hc];exact Yg hc
 have J0:∃ J0:Bool→Nat→Prop,SimH J0 β' rh w'∧Rep J0 β' rh w' rv vc∧∀ o k,J0 o k→J o k∨eV (We ρ ids β) (sub (Ac h) ρ ids) k∨w.heap.size≤k:=by
  cases he:dD fz with
  | true =>
   have:=io.1 he
   subst this
   refine⟨J',F.sim,hR,fun o k hj=>?_⟩
   rcases F.jup o k hj with(hj | ⟨_,b,x,o',hb,_⟩) | hj
   ·exact .inl hj
   ·simp at hb
   ·exact .inr hj
  | false =>
   rw[he] at horg
   simp at horg
   refine⟨fun _=>J' false,F.sim.noOrg horg.2,Rep.noOrg horg.1 hR,fun o k hj=>?_⟩
   rcases F.jup false k hj with(h6 | ⟨h0,_⟩) | h6
   ·left
    cases o
    ·exact h6
    ·exact S.jft k h6
   ·cases h0
   ·exact .inr h6
 obtain⟨J0,S0,R0,jup0⟩:=J0
 have S1:=S0.ren hσn hrin
 have R1:=Rep.ren hσn hrv R0
 have M:=Step.merge (J:=J) (J0:=J0) (J1:=J0) (H:=Ab ups h) (D:=ids++(Ap (nid d) new).map (·.2)) (ids:=ids) S S1
  (fun b hb=>A3 _ _ _ (by
   cases hi:Ao ups b with
   | false=>rfl
   | true=>exact absurd (by rw[←keys];exact KZ.1 hi) hb))
  (fun b x hb hx hd=>by
   rcases List.mem_append.1 hb with hb | hb
   ·rw[Gj keysN (upsOld b hb)] at hx
    cases hq:Ac rh (ρ b) with
    | none =>
     rw[hq] at hx;simp at hx
     obtain⟨y,_,rfl⟩:=hx
     simp[il] at hd
    | some y =>
     rw[hq] at hx;simp at hx;subst hx
     have:=Nn (g:=Ac rh) hσn (ρ b) y (ρall b hb) hq
     rw[back b hb] at this
     exact⟨_,this,_,Nat.zero_le _,rfl⟩
   ·obtain⟨c,hc,rfl⟩:∃ c ∈ new,σ c=b:=by
     obtain⟨p,hp,rfl⟩:=List.mem_map.1 hb
     have hp1:p.1 ∈ new:=GY hp
     refine⟨p.1,hp1,?_⟩
     rw[σnew _ hp1]
     have:∀ {base:Nat} {l:List Nat} {p:Nat×Nat},l.Nodup→p ∈ Ap base l→Ev 0 (Ap base l) p.1=p.2:=by
      intro base l
      induction l generalizing base with
      | nil=>intro p _ hp;simp[Ap] at hp
      | cons i r ih =>
       intro p hn hp
       rw[List.nodup_cons] at hn
       rw[Ap] at hp ⊢
       rw[Ev]
       rcases List.mem_cons.1 hp with rfl | hp
       ·simp
       ·have:p.1 ∈ r:=GY hp
        rw[Sq (fun e=>hn.1 (by rw[e];exact this))]
        exact ih hn.2 hp
     refine this ?_ hp
     rw[←hnew]
     exact U6 (U5 hσn)
    rw[Gj keysN (upsNew c hc)] at hx
    obtain⟨y,hy,_⟩:=hnal c hc
    rw[hy] at hx;simp at hx;subst hx
    exact⟨_,Nn (g:=Ac rh) hσn c y (newmem c hc).1 hy,Bumped.rfl⟩)
  (fun b x hb=>by
   obtain⟨c,y,hc,rfl,hy,rfl⟩:=Hd hσn b x hb
   rcases allcases c hc with hm | hm
   ·have h6:=σout c hc hm
    have h7:ρ (σ c)=c:=by
     have:(all.map σ).Nodup:=hσn
     have e1:=back (σ c) h6
     have e2:=ρall (σ c) h6
     exact kj this e2 hc e1
    refine⟨List.mem_append.2 (.inl h6),iJ (g (σ c)) (Kc σ y),?_,_,Nat.zero_le _,rfl⟩
    rw[Gj keysN (upsOld (σ c) h6),h7,hy];rfl
   ·refine⟨List.mem_append.2 (.inr ?_),Kc σ y,?_,Bumped.rfl⟩
    ·rw[σnew c hm]
     exact S4 (by rw[Fg];exact hm)
    ·rw[Gj keysN (upsNew c hm),hy];rfl)
  (fun b x hb hni hx=>by
   rcases List.mem_append.1 hb with hb | hb
   ·exact hni hb
   ·rw[newFree b hb] at hx;cases hx)
  (fun b x hb hx=>by
   rw[Gj keysN (upsOld b hb)]
   cases hq:Ac rh (ρ b) with
   | none=>exact⟨il x,⟨by simp[hx],rfl⟩,.inl rfl⟩
   | some y =>
    cases hd:y.dead with
    | true=>have:=F.live _ _ hq;rw[hd] at this;cases this
    | false =>
     have e0:=Nn (g:=Ac h) hnd b x hb hx
     obtain⟨⟨e1,em⟩,e2,e3,e4⟩:=F.outs (ρ b) _ y e0 hq hd
     refine⟨iJ (g b) (Kc σ y),⟨by simp,em⟩,.inr ?_⟩
     refine⟨e4,?_,e2,fun hmx=>?_⟩
     ·have h8:=Cn (β:=β') hσn (ρall b hb)
      rw[back b hb] at h8
      have h9:=Cn (β:=β) hnd hb
      have hlen:(iJ (g b) (Kc σ y)).cells.length=y.cells.length:=B6 σ y
      have hmp:y.mp=x.mp:=em
      refine⟨fun hn=>by rw[h8,e1.1 hn];exact h9,fun hn=>?_⟩
      obtain⟨f1,f2⟩:=e1.2 hn
      have hxm:x.mp=true:=by unfold An at hn;simp at hn;exact hn.1
      have hgen:(iJ (g b) (Kc σ y)).gen=x.gen+1:=by
       show cond y.mp (match g b with | some y=>y.gen+1 | none=>0) 0=_
       rw[hmp,hxm,hg b hb,hx];rfl
      refine⟨by rw[h8,f1];exact congrArg _ h9,by omega,fun e=>absurd e (by omega),by rw[hlen,f2,B6]⟩
     ·show(Kc σ y).cells.length=_
      rw[B6,e3 hmx,B6])
  (fun b hb=>List.mem_append.2 (.inl hb))
  F.os F.tape F.output F.size
  (fun k hk hm=>F.frame k hk (fun hm'=>hm (UQ hnd hm')))
  (fun k hm hk=>UQ hnd (F.wr k (d7 hσn hm) hk))
  (fun o k hj=>by
   rcases jup0 o k hj with hj | hj | hj
   ·exact .inl hj
   ·exact .inr (.inl (UQ hnd hj))
   ·exact .inr (.inr hj))
  F.sizes
 exact⟨_,_,M.1,Rep.ext M.2 R1⟩
theorem f_ {P:Program} {muts:Nat→List Bool} {T:List (Nat×Tw)} {hs:Hints} {N f:Nat} {args:LA} {h:Ag} {res:AV} {h':Ag} (hT:UL P T) (hm:P.follows .mixedOrders=true)
  (hh:V7 P muts T hs N f args h (fun v h'=>some (v,h'))=some (res,h')):ru P f args h res h':=by
 unfold V7 at hh
 split at hh
 ·simp at hh
 ·rename_i fn hfn
  split at hh
  ·simp at hh
  ·rename_i c hc
   simp only at hh
   obtain⟨hc1,h1⟩:=uc hh
   simp only[Bool.and_eq_true] at hc1
   obtain⟨hlen,hroot⟩:=hc1
   have hlen:args.length≤fn.ntmps:=by simpa using hlen
   intro J β w vs S hv
   have hvl:vs.length=args.length:=((A7).1 hv).1
   refine calls_of_wp hfn hc ?_
   have roots:∀ {h:Ag} {b:Nat} {x:Blk},SK h=true→Ac h b=some x→TC b=true:=by
    intro h
    induction h with
    | nil=>intro b x _ hb;simp[Ac] at hb
    | cons p r ih =>
     intro b x hr hb
     obtain⟨i,y⟩:=p
     rw[SK] at hr
     simp at hr
     rw[Ac] at hb
     cases hi:Nat.beq i b with
     | true=>have:=Nat.eq_of_beq_eq_true hi;subst this;exact hr.1
     | false=>rw[hi] at hb;exact ih hr.2 (by simpa using hb)
   have sgetI:∀ {args:LA} {j i:Nat},Dd (bk j args) i=if j≤i then (args[i - j]?).getD .undef else .undef:=by
    intro args
    induction args with
    | nil=>intro j i;simp[bk,Dd]
    | cons v r ih =>
     intro j i
     rw[bk,Dd]
     cases hi:Nat.beq j i with
     | true=>have:=Nat.eq_of_beq_eq_true hi;subst this;simp
     | false =>
      have:=Hl hi
      simp only[cond_false]
      rw[ih]
      by_cases hji:j+1≤i
      ·rw[if_pos hji,if_pos (by omega),show i - j=(i - (j+1))+1 by omega];simp
      ·rw[if_neg hji]
       by_cases h2:j≤i
       ·omega
       ·rw[if_neg h2]
   have I:Inv ⟨J,β,h,w⟩ fn.ntmps J β { s:=bk 0 args,h:=h } { tmps:=vs.toArray++Array.replicate (fn.ntmps - vs.toArray.size) undef,defers:=[] } w:=by
    refine⟨S,⟨fun i v hi=>?_,fun i hi=>?_⟩,?_,rfl,rfl,rfl,rfl,Nat.le_refl _,fun _ _ _=>rfl,fun _ hm _=>hm,fun _ _ hj=>hj,fun _ _ hj=>.inl hj,fun _=>Nat.le_refl _,?_,?_,?_⟩
    ·rw[sgetI,if_pos (Nat.zero_le _)]
     by_cases hlt:i<args.length
     ·have h2:args[i - 0]?=some args[i]:=by simp[hlt]
      rw[h2]
      have h3:vs[i]?=some v:=by
       rw[Array.getElem?_append_left (by simp;omega)] at hi
       simpa using hi
      exact((A7).1 hv).2 i _ _ (by simp[hlt]) h3
     ·have h2:args[i - 0]?=none:=by simp;omega
      rw[h2];simp[Rep]
    ·simp at hi
     rw[sgetI,if_pos (Nat.zero_le _)]
     have h2:args[i - 0]?=none:=by simp;omega
     rw[h2];rfl
    ·simp;omega
    ·intro b x0 hb;exact(UK.1 (roots hroot hb)).2
    ·intro b x0 hb;exact(UK.1 (roots hroot hb)).1
    ·intro b x0 x hb hx hd
     change Ac h b=some x0 at hb
     change Ac h b=some x at hx
     rw[hb] at hx;simp at hx;subst hx
     exact⟨⟨⟨fun _=>rfl,fun _=>⟨rfl,rfl⟩⟩,rfl⟩,rfl,fun _=>rfl,hd⟩
   have fin:∀ st' a' w' J' β',Inv ⟨J,β,h,w⟩ fn.ntmps J' β' st' a' w'→Ni { P:=P,nt:=fn.ntmps,muts:=muts,nils:=hs.nils,free:=hs.free,cob:=hs.cob,tbl:=T } fn hs.modes (h.map (·.1)) (fun v h'=>some (v,h')) st'=some (res,h') →
     a'.defers=[]∧∃ v,(results fn a'.tmps).run P w'=.ok v w'∧∃ vc J' β',Ending.returned v=.returned vc∧FDone ⟨J,β,h,w⟩ J' β' h' w'∧Rep J' β' h' w' res vc:=by
    intro st' a' w' J' β' I' h2
    obtain⟨res2,h2',vc,J2,β2,h3,h4,h5,h6⟩:=aI I' h2
    simp at h3
    obtain⟨rfl,rfl⟩:=h3
    exact⟨I'.defers,vc,h4,vc,J2,β2,rfl,h5,h6⟩
   exact f4 (E:={ P:=P,nt:=fn.ntmps,muts:=muts,nils:=hs.nils,free:=hs.free,cob:=hs.cob,tbl:=T }) (nH hT) hm c I h1 fin (fun _ _ _ _ _ _ _ h2=>by simp at h2) fin
end Gx

namespace Gx
open Go
section
variable {R R':Type}
theorem ip (E:Env) (ops:Array Oper) (o:Oper) (st:St) (k:St→Foot→O R) (g:R→Option R'):(e9 E ops o st k).bind g=e9 E ops o st fun st f=>(k st f).bind g:=by
 rw[BE,BE,Option.bind_assoc]
theorem d9 (ops:Array Oper) (o:Oper) (st:St) (k:St→O R) (g:R→Option R'):(KJ ops o st k).bind g=KJ ops o st fun st=>(k st).bind g:=by
 unfold KJ
 split
 ·rfl
 ·split
  ·rfl
  ·split
   ·rw[Ad]
   ·rfl
theorem UR (E:Env) (ops:Array Oper) (g:R→Option R'):∀ (l:List Oper) (st:St) (tr:List Foot) (k:St→List Foot→O R),(SZ E ops l st tr k).bind g=SZ E ops l st tr fun st tr=>(k st tr).bind g
 | [],st,tr,k=>rfl
 | o::r,st,tr,k=>by
  rw[SZ,SZ,d9]
  congr 1;funext st
  rw[ip]
  congr 1;funext st f
  exact UR E ops g r st (f::tr) k
theorem aL (E:Env) (roots:List Nat) (ops:Array Oper) (draw:Bool) (st:St) (k:St→O R) (g:R→Option R'):(AX E roots ops draw st k).bind g=AX E roots ops draw st fun st=>(k st).bind g:=by
 unfold AX
 rw[UR]
 congr 1;funext st tr
 rw[Ad,Option.bind_assoc];rfl
theorem iq (E:Env) (roots:List Nat) (H:Hint) (f:St→O R) (g:R→Option R') (st:St):(lY E roots H f st).bind g=lY E roots H (fun st=>(f st).bind g) st:=by
 unfold lY
 rw[Ad,Option.bind_assoc,P2,P2]
theorem NA (cn:St→Option St) (b1:(St→O R)→St→O R) (b2:(St→Option R')→St→Option R') (g:R→Option R') (hb:∀ k st,(b1 k st).bind g=b2 (fun st=>(k st).bind g) st):∀ n st,(X3 cn b1 n st).bind g=X3 cn b2 n st
 | 0,st=>rfl
 | n+1,st=>by
  rw[X3,X3,hb]
  congr 1;funext st
  rw[Option.bind_assoc]
  congr 1;funext st
  exact NA cn b1 b2 g hb n st
theorem fa (E:Env) (roots:List Nat) (N:Nat) (g:R→Option R'):∀ (c:Code) (H:Hint) (k:St→O R) (x:Nat→St→O R) (r:St→O R) (st:St),
  (Dg E roots N c H k x r st).bind g=Dg E roots N c H (fun st=>(k st).bind g) (fun j st=>(x j st).bind g) (fun st=>(r st).bind g) st:=by
 intro c
 induction c with
 | skip=>intro H k x r st;rfl
 | region id ops draw=>intro H k x r st;exact aL ..
 | seq a b iha ihb =>
  intro H k x r st
  rw[Dg,Dg,iha]
  congr 1;funext st
  rw[iq]
  congr 1;funext st
  exact ihb ..
 | cond c a b iha ihb =>
  intro H k x r st
  rw[Dg,Dg]
  split
  ·rw[Ad,iha,ihb]
  ·rfl
 | block id c ih =>
  intro H k x r st
  rw[Dg,Dg,ih]
  simp only[Ad]
 | loop c ih =>
  intro H k x r st
  rw[Dg,Dg,Option.bind_assoc,P2,P2]
  congr 1;funext st
  exact NA _ _ _ g (fun k st=>ih ..) N st
 | exit id=>intro H k x r st;rfl
 | ret=>intro H k x r st;rfl
 | rangeFunc=>intro H k x r st;rfl
 | scope=>intro H k x r st;rfl
 | label=>intro H k x r st;rfl
 | goto=>intro H k x r st;rfl
 | refuse=>intro H k x r st;rfl
theorem Rr (E:Env) (st:St) (g:R→Option R'):∀ (l:List ResultVar) (acc:LA) (k:LA→O R),(G9 E st l acc k).bind g=G9 E st l acc fun l=>(k l).bind g
 | [],acc,k=>rfl
 | .tmp t::r,acc,k=>by rw[G9,G9];exact Rr E st g r _ k
 | .cell a t::r,acc,k=>by
  rw[G9,G9,U3,U3 (R:=R'),Option.bind_assoc]
  congr 1;funext v
  exact Rr E st g r _ k
theorem aM (E:Env) (fn:Func) (modes:List (Nat×Nat)) (outs:List Nat) (k:AV→Ag→O R) (g:R→Option R') (st:St):(Ni E fn modes outs k st).bind g=Ni E fn modes outs (fun v h=>(k v h).bind g) st:=by
 unfold Ni
 rw[Rr]
 congr 1;funext l
 rw[Option.bind_assoc]
 congr 1;funext q
 rw[Ad]
 congr 1
 rw[Ad];rfl
theorem ir (P:Program) (muts:Nat→List Bool) (T:List (Nat×Tw)) (hs:Hints) (N f:Nat) (args:LA) (h:Ag) (k:AV→Ag→O R) :
  V7 P muts T hs N f args h k=(V7 P muts T hs N f args h fun v h=>some (v,h)).bind fun p=>k p.1 p.2:=by
 unfold V7
 split
 ·rfl
 ·split
  ·rfl
  ·simp only
   rw[Ad,fa]
   simp only[aM]
   rfl
structure Cut (R:Type) where
 c:Code
 H:Hint
 k:St→O R
 x:Nat→St→O R
 r:St→O R
noncomputable def qU (E:Env) (roots:List Nat) (N:Nat):List Nat→Code→Hint→(St→O R)→(Nat→St→O R)→(St→O R)→List (St→O R)→Cut R
 | [],c,H,k,x,r,_=>⟨c,H,k,x,r⟩
 | d::p,.seq a b,H,k,x,r,ks=>cond (Nat.beq d 0) (qU E roots N p a H.a (lY E roots H fun st=>Dg E roots N b H.b k x r st) x r ks) (qU E roots N p b H.b k x r ks)
 | d::p,.cond _ a b,H,k,x,r,ks=>cond (Nat.beq d 0) (qU E roots N p a H.a k x r ks) (qU E roots N p b H.b k x r ks)
 | _::p,.block id c,H,k,x,r,ks=>qU E roots N p c H.a k (fun j st=>cond (Nat.beq j id) (k st) (x j st)) r ks
 | _::p,.loop c,H,_,x,r,q::ks=>qU E roots N p c H.a (fun st=>(GG E H.live roots st).bind q) x r ks
 | _::_,c,H,k,x,r,_=>⟨c,H,k,x,r⟩
def fb:Code→Code
 | .loop c=>c
 | c=>c
structure CutB (R:Type) where
 E:Env
 roots:List Nat
 N:Nat
 c:Cut R
noncomputable def Rs (q:CutB R) (st:St):O R:=Dg q.E q.roots q.N q.c.c q.c.H q.c.k q.c.x q.c.r st
noncomputable def nI (q:CutB R) (st:St):O R:=mo true (fun st=>Dg q.E q.roots q.N q.c.c q.c.H q.c.k q.c.x q.c.r st) st
theorem Hf (q:CutB R) (st:St):nI q st=Rs q st:=by unfold nI;rw[P2];rfl
noncomputable def Aj (q:CutB R) (n:Nat) (st:St):O R:=X3 (GG q.E q.c.H.live q.roots) (fun k st=>Dg q.E q.roots q.N (fb q.c.c) q.c.H.a k q.c.x q.c.r st) n st
noncomputable def pY (q:CutB R) (st:St):O R:=mo true (X3 (GG q.E q.c.H.live q.roots) (fun k st=>Dg q.E q.roots q.N (fb q.c.c) q.c.H.a k q.c.x q.c.r st) q.N) st
theorem Ah (q:CutB R) (st:St):pY q st=Aj q q.N st:=by unfold pY;rw[P2];rfl
def qV (fn:Func):Code:=match fn.body with | some c=>c | none=>.skip
def pZ:List (Nat×List Bool)→Nat→List Bool
 | [],_=>[]
 | (i,l)::r,f=>cond (Nat.beq i f) l (pZ r f)
end
end Gx

namespace Gx
open Go
abbrev KF (R:Type):=AV→Ag→Option R
abbrev Ke:=List (Nat×Tw)
abbrev hL:Hint:=.leaf
abbrev hS (a b:Hint):Hint:=.node [] a b
abbrev hP (l:List Nat) (a:Hint):Hint:=.node l a .leaf
abbrev hJ (l:List Nat) (a b:Hint):Hint:=.join l a b
def pE (P:Program) (muts:Nat→List Bool) (nt:Nat) (hs:Hints) (T:List (Nat×Tw)):Env:={ P,nt,muts,nils:=hs.nils,free:=hs.free,cob:=hs.cob,tbl:=T }
noncomputable def sM {R:Type} (P:Program) (muts:Nat→List Bool) (fn:Func) (hs:Hints) (T:List (Nat×Tw)) (roots:List Nat) (N:Nat) (F:KF R) (p:List Nat) (ks:List (St→O R)):CutB R :=
 ⟨pE P muts fn.ntmps hs T,roots,N,qU (pE P muts fn.ntmps hs T) roots N p (qV fn) hs.H (Ni (pE P muts fn.ntmps hs T) fn hs.modes roots F) (fun _ _=>none) (Ni (pE P muts fn.ntmps hs T) fn hs.modes roots F) ks⟩
def iv (n:Int):AV:=.int .i64 n
def op (k:Nat):AV:=.optr (300000+k) 0
def sK:Nat→List Blk→Ag
 | _,[]=>[]
 | i,b::r=>(i,b)::sK (i+1) r
def hq (l:List Blk):Ag:=sK 300000 l
def bQ (sz:Nat) (c:LA):Blk:=⟨false,false,true,false,sz,c,false,none,0,0⟩
def bN (sz:Nat) (c:LA):Blk:=⟨false,false,false,false,sz,c,false,none,0,0⟩
def bP (t:Bool) (sz:Nat) (c:LA):Blk:=⟨false,false,true,t,sz,c,false,none,0,0⟩
def Ch {R:Type} (kd:IntKind) (c:LA) (k:Int→O R):O R:=(c.head?).bind fun x=>(asInt kd x).bind k
def NB {R:Type} (c:LA) (k:Bool→O R):O R:=(c.head?).bind fun x=>(asBool x).bind k
def Gk {R:Type} (sz:Nat) (c:LA) (k:LA→Nat→O R):O R:=(c.head?).bind fun x=>(Je sz x).bind fun p=>k p.1 p.2
def fe {R:Type} (c:LA) (k:LA→O R):O R:=(c.head?).bind fun y=>(Sj y).bind fun c=>k c
def rB {R:Type} (c:LA) (k:LA→O R):O R:=(c.head?).bind fun y=>(dB y).bind fun c=>k c
def iu (k:IntKind) (a b:Int):Int:=k.wrap ((BitVec.ofInt k.bits a &&& BitVec.ofInt k.bits b).toNat:Int)
def US (k:IntKind) (a b:Int):Int:=k.wrap ((BitVec.ofInt k.bits a ||| BitVec.ofInt k.bits b).toNat:Int)
def qW (P:Program) (muts:Nat→List Bool) (N f:Nat) (run:(R:Type)→Nat→LA→Ag→KF R→O R):Prop:=∀ {R Q:Type} (args:LA) (h:Ag) (k:KF R) (j:KF Q),
 (∃ T hs,UL P T∧run R N args h k=V7 P muts T hs N f args h k∧run Q N args h j=V7 P muts T hs N f args h j)∨(run R N args h k=none∧run Q N args h j=none)
theorem Bg {P:Program} {muts:Nat→List Bool} {T:List (Nat×Tw)} {hs:Hints} {N f:Nat} {args:LA} {h:Ag} {R Q:Type} {k:KF R} {j:KF Q} {a:O R} {b:Option Q} {p:Prop}
  (h1:V7 P muts T hs N f args h k=a) (h2:V7 P muts T hs N f args h j=b) (hT:UL P T):(∃ T hs,UL P T∧a=V7 P muts T hs N f args h k∧b=V7 P muts T hs N f args h j)∨p:=.inl ⟨T,hs,hT,h1.symm,h2.symm⟩
theorem Bi {R Q:Type} {p:Prop}:p∨((none:O R)=none∧(none:Option Q)=none):=.inr ⟨rfl,rfl⟩
def Bf {P:Program} {muts:Nat→List Bool} {N f:Nat} {run:(R:Type)→Nat→LA→Ag→KF R→O R} (H:qW P muts N f run):Tw:=⟨fun {R} args h k=>run R N args h k,fun args h k=>by
 rcases H args h k (fun v h=>some (v,h)) with⟨T,hs,_,e1,e2⟩ | ⟨e1,e2⟩
 ·rw[e1,e2];exact ir ..
 ·rw[e1,e2];rfl⟩
theorem rx {P:Program} {muts:Nat→List Bool} {N f:Nat} {run:(R:Type)→Nat→LA→Ag→KF R→O R} (H:qW P muts N f run) (hm:P.follows .mixedOrders=true):lk P f (Bf H):=by
 intro args h res h' hh
 change run _ N args h _=_ at hh
 rcases H args h (fun v h=>some (v,h)) (fun v h=>some (v,h)) with⟨T,hs,hT,e1,_⟩ | ⟨e1,_⟩
 ·rw[e1] at hh;exact f_ hT hm hh
 ·rw[e1] at hh;cases hh
theorem Dc {α δ:Type} (f:α→δ) {a a':α} (h1:a=a'):f a=f a':=by rw[h1]
theorem bz {α β δ:Type} (f:α→β→δ) {a a':α} {b b':β} (h1:a=a') (h2:b=b'):f a b=f a' b':=by rw[h1,h2]
theorem sN {α β γ δ:Type} (f:α→β→γ→δ) {a a':α} {b b':β} {c c':γ} (h1:a=a') (h2:b=b') (h3:c=c'):f a b c=f a' b' c':=by rw[h1,h2,h3]
end Gx

namespace Gx
open Go Go.RowKit
theorem ll {P:Program} {f:Nat} {t:Tw} (hok:lk P f t) {W:World} {avs:LA} {vs:List Value} (hr:Reps (fun _ k=>k<W.heap.size) (fun _=>none) [] W avs vs)
  (hrun:(t.runK avs [] fun v h=>some (v,h))=some (.bool true,[])) (hgl:GlobOk (fun _ k=>k<W.heap.size) W):Calls P f vs.toArray W fun e w'=>e=.returned (.bool true)∧Below W.heap.size W w':=by
 have S:SimH (fun _ k=>k<W.heap.size) (fun _=>none) [] W:=⟨fun _ _ h=>h,fun _ h=>h,hgl,fun b x hb=>by simp[Ac] at hb,fun b x hb=>by simp[Ac] at hb,fun b b' x x' k hb=>by simp[Ac] at hb⟩
 refine Calls.mono (hok avs [] _ _ hrun _ _ W vs S hr) ?_
 rintro e w' ⟨vc,J',β',rfl,F,hv⟩
 rw[Rep] at hv;subst hv
 refine⟨rfl,F.os,F.tape,F.output,F.size,fun k hk=>F.frame k hk ?_⟩
 rintro⟨b,x,hb,_⟩
 change Ac [] b=some x at hb
 simp[Ac] at hb
structure Opens (P:Program) (t:TypeId) {α:Type} (e:α→List AV) (n:Nat):Prop where
 size:P.cellsOf t=n
 pos:0<n
 len:∀ a,(e a).length=n
 read:∀ {H:Type} (enc:TypeId×Value→H) (W:World) (fuel:Nat) (cs:List Value) (d:DataW H) (ps:List MemPlace),DataW.trod enc P W 0 (fun _=>true) true fuel t cs=some (d,ps) →
  cs.length=n∧∃ a,RepCs (fun k=>k<W.heap.size) W (e a) (fun j=>cs[j]?) 0
theorem K_ {P:Program} {t:TypeId} {k:IntKind} (hu:P.underlying t=some (.int k)) (hc:P.cellsOf t=1):Opens P t (α:={ n:Int // (Lit.int k n).wf=true }) (fun n=>[.int k n.1]) 1:=by
 refine⟨hc,by omega,fun _=>rfl,fun enc W fuel cs d ps h=>?_⟩
 obtain⟨n,rfl,_,hw⟩:=DataW.trod_int hu h
 exact⟨rfl,⟨n,hw⟩,by simp[RepCs,RepC]⟩
theorem iw {P:Program} {t:TypeId} (hu:P.underlying t=some .bool) (hc:P.cellsOf t=1):Opens P t (α:=Bool) (fun b=>[.bool b]) 1:=by
 refine⟨hc,by omega,fun _=>rfl,fun enc W fuel cs d ps h=>?_⟩
 obtain⟨b,rfl,_⟩:=DataW.trod_bool hu h
 exact⟨rfl,b,by simp[RepCs,RepC]⟩
theorem Yh {α β:Type} {e:α→List β} {n:Nat} (hn:0<n) (he:∀ a,(e a).length=n):∀ (l:List α) (j:Nat),(l.flatMap e)[j]?=(l[j/n]?).bind fun a=>(e a)[j%n]?
 | [],j=>by simp
 | a::r,j=>by
  rw[List.flatMap_cons]
  by_cases hj:j<n
  ·rw[List.getElem?_append_left (by rw[he];exact hj),Nat.div_eq_of_lt hj,Nat.mod_eq_of_lt hj];simp
  ·rw[List.getElem?_append_right (by rw[he];omega),he,Yh hn he r (j - n)]
   have h1:j/n=(j - n)/n+1:=by
    have:=Nat.add_div_right (j - n) hn
    rw[show j - n+n=j by omega] at this;exact this
   have h2:j%n=(j - n)%n:=by
    have:=Nat.add_mod_right (j - n) n
    rw[show j - n+n=j by omega] at this;exact this
   rw[h1,h2];simp
theorem Yi {α β:Type} {e:α→List β} {n:Nat} (he:∀ a,(e a).length=n):∀ (l:List α),(l.flatMap e).length=l.length*n
 | []=>by simp
 | a::r=>by rw[List.flatMap_cons,List.length_append,he,Yi he r,List.length_cons,Nat.succ_mul];omega
theorem fg {α β:Type} {f:α→Option β}:∀ {l:List α} {r:List β},l.mapM f=some r→r.length=l.length∧∀ (i:Nat) (a:α),l[i]?=some a→f a=r[i]?
 | [],r,h=>by simp at h;subst h;simp
 | x::l,r,h=>by
  rw[List.mapM_cons] at h
  cases hx:f x with
  | none=>simp[hx] at h
  | some y =>
   cases hl:l.mapM f with
   | none=>simp[hx,hl] at h
   | some ys =>
    simp[hx,hl] at h
    subst h
    obtain⟨h1,h2⟩:=fg hl
    refine⟨by simp[h1],fun i a hi=>?_⟩
    cases i with
    | zero=>simp at hi;subst hi;simpa using hx
    | succ i=>simpa using h2 i a (by simpa using hi)
theorem fh {P:Program} {t el:TypeId} {α:Type} {e:α→LA} {n:Nat} (hu:P.underlying t=some (.slice el)) (hc:P.cellsOf t=1) (he:Opens P el e n) :
  Opens P t (α:={ l:List α // l.length≤maxLen }) (fun l=>[.imm (l.1.flatMap e) l.1.length n false false]) 1:=by
 refine⟨hc,by omega,fun _=>rfl,fun enc W fuel cs d ps h=>?_⟩
 cases fuel with
 | zero=>simp[DataW.trod] at h
 | succ fuel =>
  unfold DataW.trod at h
  simp only[hu] at h
  split at h
  all_goals first | (rename_i hx;simp at hx;done) | (rename_i hx _;simp at hx;done) | (rename_i hx _ _;simp at hx;done) | skip
  ·refine⟨rfl,⟨[],by simp⟩,?_⟩
   simp[RepCs,RepC]
  ·rename_i e' a len cap hx
   simp at hx;subst hx
   split at h
   ·rename_i hcond
    obtain⟨hb,hlc,hcm⟩:=hcond
    refine⟨rfl,?_⟩
    cases hm:(List.range len).mapM (fun i=>(W.cells? 0 (a.add (i*P.cellsOf el)) (P.cellsOf el)).bind (DataW.trod enc P W 0 (fun _=>true) true fuel el)) with
    | none=>rw[hm] at h;simp at h
    | some V5 =>
     obtain⟨h1,h2⟩:=fg hm
     rw[he.size] at h2
     have each:∀ i:Nat,i<len→∃ x:α,∃ cs,W.cells? 0 (a.add (i*n)) n=some cs∧RepCs (fun k=>k<W.heap.size) W (e x) (fun j=>cs[j]?) 0:=by
      intro i hi
      have h3:=h2 i i (by simp[hi])
      rw[List.getElem?_eq_getElem (by rw[h1];simpa using hi)] at h3
      cases hcs:W.cells? 0 (a.add (i*n)) n with
      | none=>rw[hcs] at h3;simp at h3
      | some cs =>
       rw[hcs] at h3
       obtain⟨_,x,hx⟩:=he.read enc W fuel cs _ _ h3
       exact⟨x,cs,rfl,hx⟩
     have build:∀ m,m≤len→∃ l:List α,l.length=m∧∀ i x,l[i]?=some x→∃ cs,W.cells? 0 (a.add (i*n)) n=some cs∧RepCs (fun k=>k<W.heap.size) W (e x) (fun j=>cs[j]?) 0:=by
      intro m
      induction m with
      | zero=>intro _;exact⟨[],rfl,by simp⟩
      | succ m ih =>
       intro hm
       obtain⟨l,hl,hl2⟩:=ih (by omega)
       obtain⟨x,cs,hx1,hx2⟩:=each m (by omega)
       refine⟨l++[x],by simp[hl],fun i y hy=>?_⟩
       rw[List.getElem?_append] at hy
       split at hy
       ·exact hl2 i y hy
       ·have:i=m:=by
         have:=(List.getElem?_eq_some_iff.1 hy).1
         simp at this;omega
        subst this
        simp[hl] at hy;subst hy
        exact⟨cs,hx1,hx2⟩
     obtain⟨l,hl,hl2⟩:=build len (Nat.le_refl _)
     refine⟨⟨l,by omega⟩,?_⟩
     simp only[RepCs,RepC,and_true]
     refine⟨_,rfl,?_,some a,cap,by rw[hl],by omega,by simp,?_⟩
     ·exact Yi he.len l
     ·by_cases h0:l.length=0
      ·exact .inl h0
      ·right
       refine⟨a,rfl,?_,?_⟩
       ·obtain⟨x,cs,hx,_⟩:=each 0 (by omega)
        have:=World.cells?_block hx he.pos
        rwa [Iu] at this
       ·rw[Ay]
        intro j x hj
        rw[Yh he.pos he.len] at hj
        cases hq:l[j/n]? with
        | none=>rw[hq] at hj;simp at hj
        | some y =>
         rw[hq] at hj
         simp at hj
         obtain⟨cs,hcs,hrep⟩:=hl2 (j/n) y hq
         rw[Ay] at hrep
         obtain⟨u,hu1,hu2⟩:=hrep (j%n) x hj
         refine⟨u,?_,hu2⟩
         obtain⟨_,hlen,hcell⟩:=World.cells?_some hcs
         have hlt:j%n<n:=Nat.mod_lt _ he.pos
         have:=hcell (j%n) hlt
         rw[Addr.add_add,show j/n*n+j%n=j by rw[Nat.mul_comm];exact Nat.div_add_mod j n] at this
         simp only[Nat.zero_add] at hu1 ⊢
         rw[this];exact hu1
   ·simp at h
  ·simp at h
end Gx

namespace Gx
open Go
theorem wrap_u32 (a:Nat) (h:a<4294967296):IntKind.wrap .u32 (a:Int)=(a:Int):=IntWalk.u32_in _ (by omega)
theorem lm (a:Nat):IntKind.wrap .u32 (a:Int)=((a%4294967296:Nat):Int):=by rw[IntKind.wrap_u32];omega
theorem wrap_i64 (a:Int) (h:-9223372036854775808≤a∧a≤9223372036854775807):IntKind.wrap .i64 a=a:=IntWalk.i64_in _ h
theorem wrap_u64 (a:Nat) (h:a<18446744073709551616):IntKind.wrap .u64 (a:Int)=(a:Int):=IntWalk.u64_in _ (by omega)
theorem BG (w a:Nat):BitVec.ofInt w (a:Int)=BitVec.ofNat w a:=by simp
theorem iy {k:IntKind} (hs:k.signed=false) {a b:Nat} (ha:a<2 ^ k.bits) (hb:b<2 ^ k.bits):iu k a b=((a &&& b:Nat):Int):=by
 unfold iu
 rw[BG,BG]
 have h1:(BitVec.ofNat k.bits a &&& BitVec.ofNat k.bits b).toNat=a &&& b:=by
  rw[BitVec.toNat_and,BitVec.toNat_ofNat,BitVec.toNat_ofNat,Nat.mod_eq_of_lt ha,Nat.mod_eq_of_lt hb]
 rw[h1]
 have h2:a &&& b<2 ^ k.bits:=Nat.and_lt_two_pow _ hb
 unfold IntKind.wrap
 simp only[hs,Bool.false_and,Bool.false_eq_true,if_false]
 have:(2 ^ k.bits:Int)=((2 ^ k.bits:Nat):Int):=by simp
 rw[this,←Int.natCast_emod,Nat.mod_eq_of_lt h2]
theorem cA {k:IntKind} (hs:k.signed=false) {a b:Nat} (ha:a<2 ^ k.bits) (hb:b<2 ^ k.bits):US k a b=((a ||| b:Nat):Int):=by
 unfold US
 rw[BG,BG]
 have h1:(BitVec.ofNat k.bits a ||| BitVec.ofNat k.bits b).toNat=a ||| b:=by
  rw[BitVec.toNat_or,BitVec.toNat_ofNat,BitVec.toNat_ofNat,Nat.mod_eq_of_lt ha,Nat.mod_eq_of_lt hb]
 rw[h1]
 have h2:a ||| b<2 ^ k.bits:=Nat.or_lt_two_pow ha hb
 unfold IntKind.wrap
 simp only[hs,Bool.false_and,Bool.false_eq_true,if_false]
 have:(2 ^ k.bits:Int)=((2 ^ k.bits:Nat):Int):=by simp
 rw[this,←Int.natCast_emod,Nat.mod_eq_of_lt h2]
theorem UT (a k:Nat):Int.fdiv (a:Int) (2 ^ k)=((a/2 ^ k:Nat):Int):=by
 have:(2 ^ k:Int)=((2 ^ k:Nat):Int):=by simp
 rw[this,Int.fdiv_eq_ediv_of_nonneg (a:Int) (Int.natCast_nonneg (2 ^ k))]
 rfl
theorem nK {R:Type} {k:IntKind} {n:Int} {r:LA} {f:Int→O R}:Ch k (.int k n::r) f=f n:=by simp[Ch,asInt,Ho]
theorem Ba {i n:Nat} (h:i<n):Af (i:Int) n=true:=by simp[Af];omega
end Gx

namespace Gx
open Go Go.RowKit
section
variable {P:Program} {W:World} {H:Type} {enc:TypeId×Value→H} {β:Aw} {h:Ag}
theorem pF {t el:TypeId} {α:Type} {e:α→LA} {n:Nat} {a:Option Addr} {len cap:Nat} {d:DataW H} {p:List MemPlace} (hu:P.underlying t=some (.slice el)) (hc:P.cellsOf t=1) (he:Opens P el e n)
  (hd:DataW.Trod enc P W 0 (fun _=>true) true t (.slice a len cap) d p):∃ l:List α,l.length≤maxLen∧Rep (fun _ k=>k<W.heap.size) β h W (.imm (l.flatMap e) l.length n false false) (.slice a len cap):=by
 obtain⟨fuel,hf⟩:=hd
 obtain⟨_,⟨l,hl⟩,hr⟩:=(fh hu hc he).read enc W fuel _ _ _ hf
 refine⟨l,hl,?_⟩
 simp only[RepCs,Value.cells,and_true] at hr
 obtain⟨u,hu,hr⟩:=hr
 simp at hu;subst hu
 rw[Rep];exact hr
theorem nL:Reps (fun _ k=>k<W.heap.size) β h W [] []:=by rw[Reps]
theorem cB {x:AV} {xs:LA} {v:Value} {vs:List Value} (h1:Rep (fun _ k=>k<W.heap.size) β h W x v) (h2:Reps (fun _ k=>k<W.heap.size) β h W xs vs):Reps (fun _ k=>k<W.heap.size) β h W (x::xs) (v::vs):=by
 rw[Reps];exact⟨v,vs,rfl,h1,h2⟩
end
end Gx

namespace Gx
open Go Go.RowKit
theorem Opens.map {P:Program} {t:TypeId} {α β:Type} {e:α→LA} {n:Nat} (h:Opens P t e n) (e':β→LA) (g:α→β) (hg:∀ a,e a=e' (g a)) (hl:∀ b,(e' b).length=n):Opens P t e' n:=by
 refine⟨h.size,h.pos,hl,fun enc W fuel cs d ps ht=>?_⟩
 obtain⟨h1,a,h2⟩:=h.read enc W fuel cs d ps ht
 exact⟨h1,g a,by rw[←hg];exact h2⟩
end Gx

namespace Gx
open Go Go.RowKit
section
variable {P:Program} {W:World} {H:Type} {enc:TypeId×Value→H} {β:Aw} {h:Ag}
theorem aN {t:TypeId} {fs:Array Field} {b0:Nat} {r:Reach} {v:Value} (hu:P.underlying t=some (.struct fs)) (h:Value.okWide P W r b0 t v):∃ cs,v=.agg cs:=by
 unfold Value.okWide at h
 rw[hu] at h
 obtain⟨cs,h,_⟩:=h
 exact⟨cs,h⟩
theorem nM {J:Nat→Prop}:∀ {x:AV} {u:Value},RepC J W x u→Rep (fun _=>J) β h W x u
 | .int ..,_,h=>by rw[Rep];rw[RepC] at h;exact h
 | .bool _,_,h=>by rw[Rep];rw[RepC] at h;exact h
 | .str _,_,h=>by rw[Rep];rw[RepC] at h;exact h
 | .nsl,_,h=>by rw[Rep];rw[RepC] at h;exact h
 | .imm ..,_,h=>by rw[Rep];exact h
 | .iptr ..,_,h=>by rw[Rep];exact h
 | .nilptr,_,h=>by rw[Rep];rw[RepC] at h;exact h
 | .nilfn,_,h=>by rw[Rep];rw[RepC] at h;exact h
 | .fn f [],_,h=>by
  rw[Rep];rw[RepC] at h
  exact⟨[],by simpa using h,by rw[Reps]⟩
 | .fn _ (_::_),_,h=>by simp[RepC] at h
 | .pagg ..,_,h=>by simp[RepC] at h
 | .agg _,_,h=>by simp[RepC] at h
 | .tup _,_,h=>by simp[RepC] at h
 | .own ..,_,h=>by simp[RepC] at h
 | .omap _,_,h=>by simp[RepC] at h
 | .nd ..,_,h=>by simp[RepC] at h
 | .optr ..,_,h=>by simp[RepC] at h
 | .undef,_,h=>by simp[RepC] at h
theorem ko {J:Nat→Prop}:∀ {c:LA} {cs:List Value} {rd:Nat→Option Value} {i:Nat},cs.length=c.length→(∀ j,cs[j]?=rd (i+j))→RepCs J W c rd i→Reps (fun _=>J) β h W c cs
 | [],cs,_,_,hl,_,_=>by rw[Reps];simpa using hl
 | x::r,[],_,_,hl,_,_=>by simp at hl
 | x::r,u::us,rd,i,hl,hr,hc=>by
  rw[RepCs] at hc
  obtain⟨⟨u',hu',hx⟩,hc⟩:=hc
  have h0:=hr 0
  simp only[List.getElem?_cons_zero,Nat.add_zero] at h0
  rw[←h0] at hu'
  cases hu'
  rw[Reps]
  refine⟨u,us,rfl,nM hx,ko (by simpa using hl) (fun j=>?_) hc⟩
  have:=hr (j+1)
  rw[List.getElem?_cons_succ] at this
  rw[this];congr 1;omega
theorem pH {c:LA} {v:Value} (hr:Rep (fun _ k=>k<W.heap.size) β h W (.pagg c false) v):Rep (fun _ k=>k<W.heap.size) β h W (.agg c) v:=by
 rw[Rep] at hr
 obtain⟨cs,hv,hl,hc⟩:=hr
 rw[Rep]
 exact⟨cs,hv,ko hl (fun j=>by rw[Nat.zero_add]) hc⟩
end
end Gx

namespace Gx
open Go Go.RowKit
theorem nN {J:Bool→Nat→Prop} {β:Aw} {h:Ag} {w:World} {x:AV} {vs:List Value} (H:Reps J β h w [x] vs):∃ u,vs=[u]∧Rep J β h w x u:=by
 rw[Reps] at H
 obtain⟨u,us,rfl,h1,h2⟩:=H
 rw[Reps] at h2;subst h2
 exact⟨u,rfl,h1⟩
theorem fi {J:Bool→Nat→Prop} {β:Aw} {h:Ag} {w:World} {x y:AV} {vs:List Value} (H:Reps J β h w [x,y] vs):∃ u v,vs=[u,v]∧Rep J β h w x u∧Rep J β h w y v:=by
 rw[Reps] at H
 obtain⟨u,us,rfl,h1,h2⟩:=H
 obtain⟨v,rfl,h3⟩:=nN h2
 exact⟨u,v,rfl,h1,h3⟩
end Gx

namespace Gx
open Go Go.Proofs
open IntKind (wrap)
set_option maxRecDepth 100000
noncomputable section
variable {R:Type} (N:Nat)
def muts:Nat→List Bool:=pZ [(10,[true,false]),(23,[true,false,false]),(24,[true,false]),(33,[true,false]),(40,[true]),(41,[true,false,false]),(43,[true]),(49,[true]),(52,[true,false]),(54,[true,false]),(56,[true,false]),(112,[true]),(113,[false,false,true]),(114,[false,false,false,false,true]),(119,[true]),(120,[false,false,false,true])]
def Rt {R:Type}:=@sM R Try.prog muts
abbrev Ga {R:Type}:=@V7 R Try.prog muts
abbrev At:=@qW Try.prog muts
theorem follows:Try.prog.follows .mixedOrders=true:=by kernel_rfl
theorem Gi {N f:Nat} {run:(R:Type)→Nat→LA→Ag→KF R→O R} (H:At N f run):lk Try.prog f (Bf H):=rx H follows
def S5:Hints:={ H:=hL }
def Oo:Hints:={ H:=hL,modes:=[(3,0)] }
def NC:Hints:={ H:=(hS hL (hS hL (hS (hS hL (hS (hP [0,1,5] hL) hL)) hL))) }
def cC:Hints:={ H:=(hS hL (hS hL (hS (hS (hP [0,3] hL) hL) hL))),nils:=[(2,1)],modes:=[(2,1)] }
end
end Gx
