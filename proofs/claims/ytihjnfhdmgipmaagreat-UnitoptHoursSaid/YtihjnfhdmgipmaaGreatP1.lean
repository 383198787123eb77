/- A part of the proof; each theorem says what it holds. -/
import Derived.Scope
import Derived.IntWalk
import Derived.ProofKit
import Derived.OpenShut
import Derived.ChangeOld
import Derived.Below
import Derived.Lib.LaidTab
import Derived.Test.YtihjnfhdmgipmaaGreatProg
import Derived.Test.YtihjnfhdmgipmaaGreatP0
set_option linter.unusedVariables false
set_option linter.defProp false
set_option linter.unusedSimpArgs false
open Nat (ble beq)
open List (take drop replicate)
open Go.IntKind (wrap)
namespace Gx
open Go
def PU(E:Env):Prop:=∀(R:Type)(r:R)(k:AV->Dc->O R)(J:Bool->Nat->Prop)(β:Bx)(h:Aw)(w:World)(g:A2)(d f:Nat)(args:LA)(vs:List Value),
 SimH J β h w->Looks g h->lO E g d f args k=some r->Reps J β h w args vs ->
 ∃ val ups,k val ups=some r/\(UpsFree d h ups->Calls E.P f vs.toArray w fun e w'=>∃ vc,e=.returned vc/\OpDone J β h w ups val vc w')
section
variable{R:Type}{r:R}{P:Program}{J J':Bool->Nat->Prop}{β:Bx}{h:Aw}{w w':World}{g:A2}{o:Oper}{a:Act}{next:Act->World->Prop}{Q:Exit->Act->World->Prop}
def Ep{vc:Value}(k:(execOp a.eval o).run P w=.ok (.value vc) w')(hn:next (a.put o.dst vc) w'):o.wp P a w next Q:=by unfold Oper.wp;rw[k];exact hn
def qR(k:(execOp a.eval o).run P w=.ok .skip w')(hn:next (a.put o.dst undef) w'):o.wp P a w next Q:=by unfold Oper.wp;rw[k];exact hn
def OpDone.same(S:SimH J β h w){v:AV}{vc:Value}(k:Rep J β h w v vc):OpDone J β h w [] v vc w:=⟨J,β,Step.refl S,k⟩
def fS{s:Fq}(SS:SimS J β h w s a.tmps):∀(xs:List Operand),Reps J β h w (xs.map (ev s)) (xs.map a.eval)
|[]=>by simp[Reps]
|x::r=>by rw[Ah9,Ah9,Reps];exact⟨_,_,rfl,A3 SS x,fS SS r⟩
def O3{s:Fq}(SS:SimS J β h w s a.tmps):∀(ps:List (Nat×Operand)),RepParts J β h w (ps.map fun p=>(p.1,ev s p.2)) (ps.map fun p=>(p.1,a.eval p.2))
|[]=>by simp[RepParts]
|p::r=>by rw[Ah9,Ah9,RepParts];exact⟨_,_,rfl,A3 SS p.2,O3 SS r⟩
def fT{s:Fq}(SS:SimS J β h w s a.tmps)(x:Option Operand):Tz J β h w (x.map (ev s)) (x.map a.eval):=by
 cases x with
|none=>simp[Tz]
|some x=>simp[Tz];exact A3 SS x
def Reps.append:∀{c c':LA}{cs k:List Value},Reps J β h w c cs->Reps J β h w c' k->Reps J β h w (c++c') (cs++k)
|[],c',cs,k,v,A=>by rw[Reps]at v;subst v;exact A
|x::r,c',cs,k,v,A=>by
  rw[Reps]at v
  obtain⟨u,us,rfl,B,C⟩:=v
  rw[Ail,Ail,Reps]
  exact⟨u,us++k,rfl,B,Reps.append C A⟩
def qS{J:Nat->Prop}:∀{c:LA}{cs:List Value},A4 c=true->Reps (fun _ _=>False) (fun _=>none) [] w c cs->RepCs J w c (fun j=>cs[j]?) 0/\cs.length=c.length:=by
 intro c cs C hr
 rw[Bu]at hr
 refine⟨?_,hr.1⟩
 rw[Bn]
 intro j x v
 have k:j<cs.length:=by rw[hr.1];exact(Ahx.1 v).1
 refine⟨cs[j],by simp[k],?_⟩
 have A:=hr.2 j x cs[j] v (Ahk k)
 have D:A4 [x]=true:=by
  clear hr A k
  induction c generalizing j with
  |nil=>simp at v
  |cons y r G =>
   have B:A4 r=true:=by unfold A4 at C;split at C<;>simp_all
   cases j with
   |zero=>simp at v;subst v;cases y<;>simp_all[A4]
   |succ j=>exact G B j (by simpa using v)
 cases x<;>simp[A4]at D<;>(rw[Rep]at A;rw[RepC];exact A)
def wW{co:Bool}{v:AV}{vv:Value}(k:∀(J:Bool->Nat->Prop)(β:Bx)(h:Aw),Rep J β h w v vv):Rep J β h w (yO co v) vv:=by
 unfold yO
 split
 ·rename_i c
  cases B:A4 c with
  |false=>exact k J β h
  |true =>
   have A:=k (fun _ _=>False) (fun _=>none) []
   rw[Rep]at A
   obtain⟨cs,rfl,C⟩:=A
   obtain⟨D,G⟩:=qS (J:=J false) B C
   rw[cond_true,Rep]
   exact⟨cs,rfl,G,D⟩
 ·exact k J β h
def PV{d:Nat}:∀{l:List (Nat×Nat)}{j:Nat}{c:LA},1<=j->A0 (E9 d l j c).2 (nid d)=false
|[],_,_,_=>by simp[E9,A0]
| (o,sz)::l,j,c,k=>by
  rw[E9]
  split
  ·simp only[A0]
   rw[HC (by omega),cond_false]
   exact PV (by omega)
  ·exact PV (by omega)
def jk{d:Nat}{t:TypeId}{k:AV->Dc->O R}(S:SimH J β h w)(I:LR P g d t k=some r):
  ∃ v val ups,(∃ i,P.info? t=some i/\i.zero=some v)/\k val ups=some r/\(UpsFree d h ups->∃ vc w',(Instr.box t v).run P w=.ok vc w'/\OpDone J β h w ups val vc w'):=by
 unfold LR at I
 split at I
 ·rename_i c D
  obtain⟨Y,h1⟩:=uc I
  simp only[Aho]at Y
  obtain⟨hb,L⟩:=Y
  obtain⟨v,hv,he⟩:∃ v,(∃ i,P.info? t=some i/\i.zero=some v)/\WA v=.agg c:=by
   unfold fA at D
   cases hi:P.info? t with
   |none=>simp[hi]at D
   |some i =>
    cases C:i.zero with
    |none=>simp[hi,C]at D
    |some v=>simp[hi,C]at D;exact⟨v,⟨i,rfl,C⟩,D⟩
  have hr:=CT (J:=J) (β:=β) (h:=h) (w:=w) v
  rw[he,Rep]at hr
  obtain⟨cs,rfl,hr⟩:=hr
  refine⟨_,_,_,hv,h1,fun hf=>⟨_,_,CW,?_⟩⟩
  have hn:=hf.nid (by simp[Gt,Oz,A0])
  obtain⟨β',A,hA⟩:=Ry (d:=d) (l:=O0 P t) (j:=1) S (Ahl _) (by simp at hb;omega) (fun i hi hi2 T=>hf _ (by rw[Gt,T];rfl) (by unfold AF;simp;omega)) hr
  have V:Al (Am (E9 d (O0 P t) 1 c).2 h) (nid d)=none:=by rw[Bk _ _ _ (PV (Ahl _))];exact hn
  have G:∀(j:Nat) u,cs[j]?=some u->u.oneCell'=true:=fun j u hu=>by
   rw[Bu]at hr
   have B:j<c.length:=by rw[<-hr.1];exact(Ahx.1 hu).1
   exact Im (O2 L j c[j] (Ahk B)) (hr.2 j c[j] u (Ahk B) hu)
  rw[Bu]at hA
  refine OpDone.after A (LZ A.sim V rfl rfl (by simp[Value.cells,hA.1]) ⟨fun hp=>by simp at hp,fun _ j y hj=>?_⟩) (Ny _ _)
  have B:j<cs.length:=by rw[hA.1];exact(Ahx.1 hj).1
  exact⟨cs[j],by simp[Value.cells,B],hA.2 j y _ hj (Ahk B),G j _ (Ahk B)⟩
 ·simp at I
def np{co:Bool}{d:Nat}{t:TypeId}{k:AV->Dc->O R}(S:SimH J β h w)(hl:Looks g h)(C:WG P g co d t k=some r):
  ∃ v val ups,(∃ i,P.info? t=some i/\i.zero=some v)/\k val ups=some r/\(UpsFree d h ups->∃ vc w',(Instr.box t v).run P w=.ok vc w'/\OpDone J β h w ups val vc w'):=by
 have zv:∀{z:AV},fA P t=some z->∃ v,(∃ i,P.info? t=some i/\i.zero=some v)/\WA v=z:=by
  intro z B
  unfold fA at B
  cases hi:P.info? t with
  |none=>simp[hi]at B
  |some i =>
   cases D:i.zero with
   |none=>simp[hi,D]at B
   |some v=>simp[hi,D]at B;exact⟨v,⟨i,rfl,D⟩,B⟩
 unfold WG at C
 split at C
 ·rename_i el hu B
  obtain⟨v,G,I⟩:=zv B
  obtain⟨sz,hs,C⟩:=ub C
  refine⟨v,_,_,G,C,fun hf=>⟨_,_,CW,?_⟩⟩
  have hr:=CT (J:=J) (β:=β) (h:=h) (w:=w) v
  rw[I,Rep]at hr;subst hr
  have L:∀ b,b=nid d+1->AF d b=true:=fun b hb=>by subst hb;unfold AF nid;simp
  have T:Al h (nid d+1)=none:=hf _ (by simp[A0]) (L _ rfl)
  have V:Al h (nid d)=none:=hf.nid (by simp[A0])
  have A:=Step.newNone S (d:=nid d+1) (x:=E8 sz) T rfl
  have e:([(nid d+1,some (E8 sz)),(nid d,some {dead:=false,sealed:=false,pure:=false,taint:=false,sz:=0,cells:=[.own (nid d+1) 0 0]})]:Dc)=[(nid d+1,some (E8 sz))]++[(nid d,some {dead:=false,sealed:=false,pure:=false,taint:=false,sz:=0,cells:=[.own (nid d+1) 0 0]})]:=rfl
  rw[e]
  refine OpDone.after A (LZ A.sim ?_ rfl rfl (by simp[Value.cells]) ⟨fun hp=>by simp at hp,fun _ j y Y=>?_⟩) (Ny _ _)
  ·simp only[Am];rw[Ag,if_neg (by omega)];exact V
  ·cases j with
   |zero =>
    simp at Y;subst Y
    refine⟨.slice none 0 0,by simp[Value.cells],?_,rfl⟩
    rw[Rep]
    exact⟨E8 sz,none,0,⟨by simp[Am,Ag],rfl⟩,rfl,Ahl _,.inl rfl⟩
   |succ j=>simp at Y
 ·rename_i z B _
  obtain⟨v,G,I⟩:=zv B
  obtain⟨val,ups,T,V⟩:=fK S hl C (vv:=v) (wW fun J β h=>by rw[<-I];exact CT v)
  exact⟨v,val,ups,G,T,V⟩
 ·simp at C
def qT{c x y:AV}{vc vx vy:Value}{k:AV->O R}(A:lP c x y k=some r)(B:Rep J β h w c vc)(C:Rep J β h w x vx)(D:Rep J β h w y vy):
  ∃ v,k v=some r/\∃ t:Bool,vc=.bool t/\Rep J β h w v (if t then vx else vy):=by
 unfold lP at A
 split at A
 ·rename_i t a b
  rw[Rep]at B C D
  subst B C D
  exact⟨_,A,t,rfl,by cases t<;>simp[Rep]⟩
 ·rename_i t x _
  rw[Rep]at B;subst B
  obtain⟨G,I⟩:=uc A
  subst G
  exact⟨_,I,true,rfl,C⟩
 ·rename_i t _ _ _
  rw[Rep]at B;subst B
  obtain⟨G,I⟩:=sn A
  subst G
  exact⟨_,I,false,rfl,D⟩
 ·rename_i t _ _ _
  rw[Rep]at B;subst B
  cases t
  ·exact⟨_,A,false,rfl,D⟩
  ·exact⟨_,A,true,rfl,C⟩
 ·simp at A
def tH {E:Env} (hC:PU E) {d:Nat} {s:Fq} {k:AV->Dc->O R} (S:SimH J β h w) (SS:SimS J β h w s a.tmps) (hl:Looks g h)
  (A:jg E g d (ev s) o.op k=some r) :
  ∃ val ups,k val ups=some r/\(UpsFree d h ups->(∀ vc w',OpDone J β h w ups val vc w'->next (a.put o.dst vc) w')->o.wp E.P a w next Q):=by
 unfold jg at A
 have same:∀{v:AV}{vc:Value},k v []=some r->(execOp a.eval o).run E.P w=.ok (.value vc) w->Rep J β h w v vc ->
   ∃ val ups,k val ups=some r/\(UpsFree d h ups->(∀ vc w',OpDone J β h w ups val vc w'->next (a.put o.dst vc) w')->o.wp E.P a w next Q) :=
  fun hk hrun hr=>⟨_,_,hk,fun _ hn=>Ep hrun (hn _ _ (OpDone.same S hr))⟩
 split at A
 ·rename_i x G
  exact same A (by simp[execOp,G]) (A3 SS x)
 ·rename_i x G
  exact same A (by simp[execOp,G]) (A3 SS x)
 ·rename_i c x y G
  obtain⟨v,B,C⟩:=qT A (A3 SS c) (A3 SS x) (A3 SS y)
  obtain⟨t,ht,hr⟩:=C
  refine same B (vc:=if t then a.eval x else a.eval y) ?_ hr
  cases t<;>simp[execOp,G,ht,Go.asBool]
 ·rename_i t G
  obtain⟨v,val,ups,h0,B,C⟩:∃ v val ups,(∃ i,E.P.info? t=some i/\i.zero=some v)/\k val ups=some r/\(UpsFree d h ups->∃ vc w',(Instr.box t v).run E.P w=.ok vc w'/\OpDone J β h w ups val vc w'):=by
   cases hm:Eo E.cob (d+1000000)with
   |true=>rw[hm]at A;exact jk S A
   |false=>rw[hm]at A;exact np S hl A
  refine⟨val,ups,B,fun Y hn=>?_⟩
  obtain⟨vc,w',D,I⟩:=C Y
  refine Ep ?_ (hn vc w' I)
  rw[CW]at D
  simp only[Result.ok.injEq]at D
  obtain⟨rfl,rfl⟩:=D
  obtain⟨i,hi,hiz⟩:=h0
  simp[execOp,G,Instr.alloc,zeroValue,typeInfo,hi,hiz,newVar,newRow]
 ·rename_i t x G
  obtain⟨v',h0,hv'⟩:=n9 A (A3 SS x)
  obtain⟨val,ups,B,C⟩:=fK S hl h0 hv'
  refine⟨val,ups,B,fun Y hn=>?_⟩
  obtain⟨vc,w',D,I⟩:=C Y
  exact Ep (by simp[execOp,G,D]) (hn vc w' I)
 ·rename_i t parts G
  have:(parts.map fun p=>(p.1,a.eval p.2))=(parts.toList.map fun p=>(p.1,a.eval p.2)).toArray:=by apply Ai9;simp
  cases hco:Eo E.cob (d+4000000)with
  |true =>
   rw[hco]at A
   obtain⟨val,ups,u,B,C,D⟩:=jj S hl A (O3 SS parts.toList)
   exact⟨val,ups,B,fun _ hn=>Ep (by simp[execOp,G,this,C]) (hn _ _ D)⟩
  |false =>
  rw[hco,cond_false,PS]at A
  obtain⟨v,V,A⟩:=ub A
  obtain⟨u,B,C⟩:=ni (P:=E.P) S V (O3 SS parts.toList)
  obtain⟨val,ups,D,I⟩:=tE S A C
  refine⟨val,ups,D,fun Y hn=>Ep ?_ (hn _ _ (I Y))⟩
  simp[execOp,G,this,B]
 ·rename_i t len parts G
  have:(parts.map fun p=>(p.1,a.eval p.2))=(parts.toList.map fun p=>(p.1,a.eval p.2)).toArray:=by apply Ai9;simp
  cases hhard:(parts.toList.map fun p=>(p.1,ev s p.2)).any fun p=>yP p.2 with
  |true =>
   rw[hhard]at A
   obtain⟨val,ups,B,C⟩:=WU S A (O3 SS parts.toList)
   refine⟨val,ups,B,fun Y hn=>?_⟩
   obtain⟨vc,w',D,I⟩:=C Y
   exact Ep (by simp[execOp,G,this,D]) (hn vc w' I)
  |false =>
   rw[hhard]at A
   obtain⟨val,ups,B,C⟩:=SH S hl A (O3 SS parts.toList)
   refine⟨val,ups,B,fun Y hn=>?_⟩
   obtain⟨vc,w',D,I⟩:=C Y
   exact Ep (by simp[execOp,G,this,D]) (hn vc w' I)
 ·rename_i t p G
  obtain⟨v,vc,B,C,D⟩:=aD S hl A (A3 SS p)
  exact same B (by simp[execOp,G,C]) D
 ·rename_i t p x G
  obtain⟨val,ups,B,J',β',w',C,D,rfl⟩:=n8 S hl A (A3 SS p) (A3 SS x)
  exact⟨.undef,ups,B,fun _ hn=>qR (w':=w') (by simp[execOp,G,C]) (hn undef w' ⟨J',β',D,by simp[Rep]⟩)⟩
 ·rename_i x G
  have B:=A3 SS x
  split at A
  ·rename_i c oo hx
   rw[hx]at B
   refine same A (vc:=a.eval x) ?_ B
   rw[Rep,RepC]at B
   obtain⟨ad,C,_⟩:=B
   simp[execOp,G,C]
  ·rename_i b oo hx
   rw[hx]at B
   refine same A (vc:=a.eval x) ?_ B
   rw[Rep]at B
   obtain⟨_,kk,o',_,C,_⟩:=B
   simp[execOp,G,C]
  ·simp at A
 ·rename_i op t x y t2 G
  obtain⟨v,vc,B,C,D⟩:=qM S hl A (A3 SS x) (A3 SS y) x y
  refine same B ?_ D
  simp only[execOp,G]
  rw[Sem.run_bind,C];simp
 ·rename_i op t x G
  obtain⟨v,V,A⟩:=ub A
  obtain⟨vc,C,D⟩:=wR (P:=E.P) V (A3 SS x)
  exact same A (by simp[execOp,G,C]) D
 ·rename_i src dst x G
  obtain⟨val,ups,B,C⟩:=ng S hl A (A3 SS x)
  refine⟨val,ups,B,fun Y hn=>?_⟩
  obtain⟨vc,w',D,I⟩:=C Y
  exact Ep (by simp[execOp,G,D]) (hn vc w' I)
 ·rename_i f first caps G
  obtain⟨Y,A⟩:=uc A
  have hf':f<1000000:=by simpa using Y
  have key:∀(a n:Nat),a<1000000->(a+1000000*n)%1000000=a/\(a+1000000*n)/1000000=n:=by intro a n h;omega
  have e1:=(key f first.toList.length hf').1
  have e2:=(key f first.toList.length hf').2
  refine same (vc:=.func (.func f) ⟨first.toList.map a.eval⟩ ⟨caps.toList.map a.eval⟩) A ?_ ?_
  ·simp only[execOp,G,Instr.makeFunc]
   simp
   refine⟨?_,?_⟩<;>(apply Ai9;simp)
  ·rw[Rep,e1,e2]
   refine⟨(first.toList++caps.toList).map a.eval,?_,fS SS _⟩
   simp
 ·rename_i t l c G
  obtain⟨val,ups,B,C⟩:=qE S A (A3 SS l) (A3 SS c)
  refine⟨val,ups,B,fun Y hn=>?_⟩
  obtain⟨vc,w',D,I⟩:=C Y
  exact Ep (by simp[execOp,G,D]) (hn vc w' I)
 ·rename_i t x lo hi mx G
  obtain⟨v,vc,B,C,D⟩:=n7 S hl A (A3 SS x) (fT SS lo) (fT SS hi) (fT SS mx)
  exact same B (by simp[execOp,G,C]) D
 ·rename_i t x f G
  obtain⟨v,vc,B,C,D⟩:=WR A (A3 SS x)
  exact same B (by simp[execOp,G,C]) D
 ·rename_i t x f G
  obtain⟨v,vc,B,C,D⟩:=n0 A (A3 SS x)
  exact same B (by simp[execOp,G,C]) D
 ·rename_i t x i G
  have A:Ii E.P t (ev s x) (ev s i) (fun r=>k r [])=some r:=by
   cases hc:Eo E.cob (d+6000000)with
   |true=>rw[hc]at A;exact dL A
   |false=>rw[hc]at A;exact A
  obtain⟨v,vc,B,C,D⟩:=WQ A (A3 SS x) (A3 SS i)
  exact same B (by simp[execOp,G,C]) D
 ·rename_i t x i G
  obtain⟨v,vc,B,C,D⟩:=n6 A (A3 SS x) (A3 SS i)
  exact same B (by simp[execOp,G,C]) D
 ·rename_i t rr G
  cases rr with
  |some x=>simp[We]at A
  |none =>
   obtain⟨val,ups,B,C⟩:=fR (P:=E.P) (t:=t) S A
   refine⟨val,ups,B,fun Y hn=>?_⟩
   obtain⟨vc,w',D,I⟩:=C Y
   exact Ep (by simp[execOp,G,D]) (hn vc w' I)
 ·rename_i t m x y G
  obtain⟨ups,B,J',β',w',C,D⟩:=nm S hl A (A3 SS m) (A3 SS x) (A3 SS y)
  exact⟨.undef,ups,B,fun _ hn=>qR (w':=w') (by simp[execOp,G,C]) (hn undef w' ⟨J',β',D,by simp[Rep]⟩)⟩
 ·rename_i t m x c G
  obtain⟨v,vc,B,C,D⟩:=qQ S hl A (A3 SS m) (A3 SS x)
  exact same B (by simp[execOp,G,C]) D
 ·rename_i t x G
  obtain⟨val,ups,B,C⟩:=nk (P:=E.P) S A (A3 SS x)
  refine⟨val,ups,B,fun Y hn=>?_⟩
  obtain⟨vc,w',D,I⟩:=C Y
  exact Ep (by simp[execOp,G,D]) (hn vc w' I)
 ·rename_i x b G
  obtain⟨val,ups,B,C⟩:=qP (P:=E.P) (d:=d) (t:=o.type) S hl A (A3 SS x)
  refine⟨val,ups,B,fun Y hn=>?_⟩
  obtain⟨vc,w',D,I⟩:=C Y
  exact Ep (by simp[execOp,G,D]) (hn vc w' I)
 ·rename_i t i G
  split at A
  ·rename_i vs ht
   obtain⟨v,V,A⟩:=ub A
   have B:=A3 SS t
   rw[ht,Rep]at B
   obtain⟨cs,C,D⟩:=B
   rw[Bu]at D
   have hlt:i<cs.length:=by rw[D.1];exact(Ahx.1 V).1
   refine same A (vc:=cs[i]) ?_ (D.2 i v _ V (Ahk hlt))
   simp[execOp,G,Instr.extract,C,hlt]
  ·simp at A
 ·rename_i c G
  split at A
  ·rename_i hc
   split at A
   ·rename_i x t B C
    obtain⟨v,V,A⟩:=ub A
    have e1:c.args=#[x]:=by apply Ai9;simpa using B
    have e2:c.argTypes=#[t]:=by apply Ai9;simpa using C
    obtain⟨vc,D,I⟩:=tA (P:=E.P) (ty:=o.type) V (A3 SS x)
    refine same A ?_ I
    simp[execOp,G,resolve,hc,e1,e2,invoke,builtin,D]
   ·simp at A
  ·rename_i hc
   split at A
   ·rename_i x y t tx B C
    have e1:c.args=#[x,y]:=by apply Ai9;simpa using B
    have e2:c.argTypes=#[t,tx]:=by apply Ai9;simpa using C
    obtain⟨val,ups,D,I⟩:=ji (ty:=o.type) S hl A (A3 SS x) (A3 SS y)
    refine⟨val,ups,D,fun Y hn=>?_⟩
    obtain⟨vc,w',h5,h6⟩:=I Y
    refine Ep ?_ (hn vc w' h6)
    simp[execOp,G,resolve,hc,e1,e2,invoke,builtin,h5]
   ·simp at A
  ·rename_i hc
   split at A
   ·rename_i x y t tx B C
    have e1:c.args=#[x,y]:=by apply Ai9;simpa using B
    have e2:c.argTypes=#[t,tx]:=by apply Ai9;simpa using C
    obtain⟨val,ups,D,vc,w',h5,h6⟩:=qH (tx:=tx) (ty:=o.type) S hl A (A3 SS x) (A3 SS y)
    refine⟨val,ups,D,fun Y hn=>?_⟩
    refine Ep ?_ (hn vc w' h6)
    simp[execOp,G,resolve,hc,e1,e2,invoke,builtin,h5]
   ·simp at A
  ·rename_i hc
   split at A
   ·rename_i x t B C
    have e1:c.args=#[x]:=by apply Ai9;simpa using B
    have e2:c.argTypes=#[t]:=by apply Ai9;simpa using C
    obtain⟨val,ups,D,vc,w',h5,h6⟩:=nf (ty:=o.type) S hl A (A3 SS x)
    refine⟨val,ups,D,fun Y hn=>?_⟩
    refine Ep ?_ (hn vc w' h6)
    simp[execOp,G,resolve,hc,e1,e2,invoke,builtin,h5]
   ·simp at A
  ·rename_i hc
   split at A
   ·rename_i x y B
    obtain⟨v,V,A⟩:=ub A
    have e1:c.args=#[x,y]:=by apply Ai9;simpa using B
    have C:=A3 SS x
    have D:=A3 SS y
    unfold wO at V
    split at V
    ·rename_i k1 a1 k2 a2 hx hy
     simp at V;subst V
     rw[hx,Rep]at C;rw[hy,Rep]at D
     refine same A (vc:=.int k1 (E2 a1 a2)) ?_ (by rw[Rep])
     simp[execOp,G,resolve,hc,e1,invoke,builtin,C,D,Builtin.min_,Builtin.min2,E2,cond_eq_ite]
    ·simp at V
   ·rename_i x y z B
    obtain⟨q,hq,A⟩:=ub A
    obtain⟨v,V,A⟩:=ub A
    have e1:c.args=#[x,y,z]:=by apply Ai9;simpa using B
    have C:=A3 SS x
    have D:=A3 SS y
    have I:=A3 SS z
    unfold wO at hq
    split at hq
    ·rename_i k1 a1 k2 a2 hx hy
     simp at hq;subst hq
     unfold wO at V
     split at V
     ·rename_i k3 a3 k4 a4 hx2 hz
      simp at hx2;obtain⟨rfl,rfl⟩:=hx2
      simp at V;subst V
      rw[hx,Rep]at C;rw[hy,Rep]at D;rw[hz,Rep]at I
      refine same A (vc:=.int k1 (E2 (E2 a1 a2) a4)) ?_ (by rw[Rep])
      simp[execOp,G,resolve,hc,e1,invoke,builtin,C,D,I,Builtin.min_,Builtin.min2,E2,cond_eq_ite]
     ·simp at V
    ·simp at hq
   ·simp at A
  ·rename_i hc
   split at A
   ·rename_i x y B
    obtain⟨v,V,A⟩:=ub A
    have e1:c.args=#[x,y]:=by apply Ai9;simpa using B
    have C:=A3 SS x
    have D:=A3 SS y
    unfold wQ at V
    split at V
    ·rename_i k1 a1 k2 a2 hx hy
     simp at V;subst V
     rw[hx,Rep]at C;rw[hy,Rep]at D
     refine same A (vc:=.int k1 (Qm a1 a2)) ?_ (by rw[Rep])
     simp[execOp,G,resolve,hc,e1,invoke,builtin,C,D,Builtin.max_,Builtin.max2,Qm,cond_eq_ite]
    ·simp at V
   ·rename_i x y z B
    obtain⟨q,hq,A⟩:=ub A
    obtain⟨v,V,A⟩:=ub A
    have e1:c.args=#[x,y,z]:=by apply Ai9;simpa using B
    have C:=A3 SS x
    have D:=A3 SS y
    have I:=A3 SS z
    unfold wQ at hq
    split at hq
    ·rename_i k1 a1 k2 a2 hx hy
     simp at hq;subst hq
     unfold wQ at V
     split at V
     ·rename_i k3 a3 k4 a4 hx2 hz
      simp at hx2;obtain⟨rfl,rfl⟩:=hx2
      simp at V;subst V
      rw[hx,Rep]at C;rw[hy,Rep]at D;rw[hz,Rep]at I
      refine same A (vc:=.int k1 (Qm (Qm a1 a2) a4)) ?_ (by rw[Rep])
      simp[execOp,G,resolve,hc,e1,invoke,builtin,C,D,I,Builtin.max_,Builtin.max2,Qm,cond_eq_ite]
     ·simp at V
    ·simp at hq
   ·simp at A
  ·rename_i hc
   split at A
   ·rename_i x B
    have e1:c.args=#[x]:=by apply Ai9;simpa using B
    obtain⟨val,ups,D,I⟩:=WS (P:=E.P) (d:=d) (ts:=c.argTypes) (ty:=o.type) S hl A (A3 SS x)
    refine⟨val,ups,D,fun Y hn=>?_⟩
    obtain⟨vc,w',h5,h6⟩:=I Y
    refine Ep ?_ (hn vc w' h6)
    simp[execOp,G,resolve,hc,e1,invoke,builtin,h5]
   ·simp at A
  ·rename_i hc
   split at A
   ·rename_i x y t tx B C
    have e1:c.args=#[x,y]:=by apply Ai9;simpa using B
    have e2:c.argTypes=#[t,tx]:=by apply Ai9;simpa using C
    obtain⟨val,ups,D,I⟩:=WT (d:=d) (it:=tx) (ty:=o.type) S hl A (A3 SS x) (A3 SS y)
    refine⟨val,ups,D,fun Y hn=>?_⟩
    obtain⟨vc,w',h5,h6⟩:=I Y
    refine Ep ?_ (hn vc w' h6)
    simp[execOp,G,resolve,hc,e1,e2,invoke,builtin,h5]
   ·simp at A
  ·rename_i fo hc
   split at A
   ·rename_i f0 caps Y
    have B:=A3 SS fo
    rw[Y,Rep]at B
    obtain⟨cs0,C,h30⟩:=B
    cases L:nW E.P (f0%1000000)with
    | false =>
     rw[L,cond_false]at A
     obtain⟨hne,A⟩:=uc A
     split at A
     ·rename_i x T hold
      rw[Reps]at h30;subst h30
      obtain⟨y,hy,rfl⟩:∃ y,c.args=#[y]/\x=ev s y:=by
       cases hl:c.args.toList with
       |nil=>rw[hl]at T;cases T
       |cons y l =>
        rw[hl]at T;simp at T
        exact⟨y,by apply Ai9;rw[hl,T.2],T.1.symm⟩
      refine same (vc:=a.eval y) A ?_ (A3 SS y)
      simp only[execOp,G,Sem.run_bind,resolve,hc,C,Deferred.ofValue,Sem.run_pure,Result.andThen_ok,invoke,hy]
      simpa using wU hne (a.eval y) w
     ·simp at A
    |true =>
    rw[L,cond_true]at A
    have htk:Reps J β h w (caps.take (f0/1000000)) (cs0.take (f0/1000000))/\Reps J β h w (caps.drop (f0/1000000)) (cs0.drop (f0/1000000)):=by
     rw[Bu]at h30
     refine⟨Bu.2 ⟨by simp[h30.1],fun j x u hx hu=>?_⟩,Bu.2 ⟨by simp[h30.1],fun j x u hx hu=>?_⟩⟩
     ·rw[Ajd]at hx hu
      split at hx
      ·rename_i hj;rw[if_pos hj]at hu;exact h30.2 j x u hx hu
      ·simp at hx
     ·rw[Ain]at hx hu;exact h30.2 _ x u hx hu
    generalize f0%1000000=f at *
    generalize cs0.take (f0/1000000)=fs at *
    generalize cs0.drop (f0/1000000)=cs at *
    obtain⟨val,ups,I,h5⟩:=hC R r k J β h w g d f _ _ S hl A (htk.1.append ((fS SS c.args.toList).append htk.2))
    refine⟨val,ups,I,fun hfr hn=>?_⟩
    have hcall:=h5 hfr
    unfold nW at L
    cases hfn:E.P.funcs[f]? with
    |none=>rw[hfn]at L;simp at L
    | some fn =>
     rw[hfn]at L
     simp at L
     obtain⟨hb1,hb2⟩:=L
     have hb3:fn.body.isNone=false:=by cases hq:fn.body<;>simp_all
     have T:(⟨fs⟩:Array Value)++c.args.map a.eval++(⟨cs⟩:Array Value)=(fs++(c.args.toList.map a.eval++cs)).toArray:=by apply Ai9;simp
     have hrun:(execOp a.eval o).run E.P w=.ok (.enter f (fs++(c.args.toList.map a.eval++cs)).toArray) w:=by
      simp only[execOp,G,Sem.run_bind,resolve,hc,C,Deferred.ofValue,Sem.run_pure,Result.andThen_ok,invoke,callFunc,run_program,hfn]
      simp only[hb3,T]
      simp[hb2]
     unfold Oper.wp
     rw[hrun]
     refine Calls.mono hcall ?_
     rintro e w' ⟨vc,rfl,hd⟩
     exact hn vc w' hd
   ·simp at A
  ·simp at A
 ·simp at A
end
end Gx
namespace Gx
open Go
structure Start where
 J:Bool->Nat->Prop
 β:Bx
 h:Aw
 w:World
structure Inv(Z:Start)(nt:Nat)(J:Bool->Nat->Prop)(β:Bx)(st:St)(a:Act)(w:World):Prop where
 sim:SimH J β st.h w
 ss:SimS J β st.h w st.s a.tmps
 tmps:a.tmps.size=nt
 defers:a.defers=[]
 os:w.os=Z.w.os
 tape:w.tape=Z.w.tape
 output:w.output=Z.w.output
 size:Z.w.heap.size<=w.heap.size
 frame:∀ k,k<Z.w.heap.size->¬ qD Z.β Z.h k->w.heap[k]?=Z.w.heap[k]?
 wr:∀ k,qD β st.h k->k<Z.w.heap.size->qD Z.β Z.h k
 jsub:∀ o k,Z.J o k->J o k
 jup:∀ o k,J o k->Z.J o k\/qD Z.β Z.h k\/Z.w.heap.size<=k
 sizes:∀ k,Ay Z.w k<=Ay w k
 zlt:∀ b x0,Al Z.h b=some x0->b<200000
 zge:∀ b x0,Al Z.h b=some x0->100000<=b
 outs:∀ b x0 x,Al Z.h b=some x0->Al st.h b=some x->x.dead=false->(β b=Z.β b/\x.mp=x0.mp)/\x.sz=x0.sz/\(x0.mp=false->x.cells.length=x0.cells.length)/\x0.dead=false
section
variable{R:Type}{r:R}{Z:Start}{nt:Nat}{J J':Bool->Nat->Prop}{β β':Bx}{st:St}{h':Aw}{a:Act}{w w':World}{ops:Array Oper}{o:Oper}
def Mb{s:Fq}{d:Option Nat}{v:AV}{i:Nat}:E7 (sx nt s d v) i=if d=some i/\i<nt then v else E7 s i:=by
 unfold sx
 cases d with
|none=>simp
| some d =>
  simp only[Ajm]
  cases A:Nat.blt d nt with
  |true =>
   have k:d<nt:=by simpa using A
   simp only[cond_true]
   rw[Ma]
   by_cases e:i=d
   ·subst e;simp[k]
   ·rw[if_neg e,if_neg (fun B=>e B.1.symm)]
  |false =>
   have k:¬ d<nt:=by intro C;rw[show Nat.blt d nt=true by simpa using C]at A;cases A
   simp only[cond_false]
   rw[if_neg (fun B=>by obtain⟨D,G⟩:=B;subst D;exact k G)]
def SimS.put{h:Aw}{s:Fq}{d:Option Nat}{v:AV}{vc:Value}(H:SimS J β h w s a.tmps)(hn:a.tmps.size=nt)(B:Rep J β h w v vc):SimS J β h w (sx nt s d v) (a.put d vc).tmps:=by
 refine⟨fun i u k=>?_,fun i hi=>?_⟩
 ·rw[Mb]
  cases d with
  |none=>simp;exact H.slot i u k
  | some d =>
   simp only[Act.put]at k
   rw[Al8]at k
   by_cases e:d=i
   ·subst e
    simp only[if_true]at k
    by_cases A:d<a.tmps.size
    ·simp[A]at k;subst k
     rw[if_pos ⟨rfl,by omega⟩];exact B
    ·simp[A]at k
   ·rw[if_neg e]at k
    rw[if_neg (fun C=>e (by simpa using C.1))]
    exact H.slot i u k
 ·have hs:(a.put d vc).tmps.size=a.tmps.size:=by cases d<;>simp[Act.put]
  rw[hs]at hi
  rw[Mb,if_neg (by omega)]
  exact H.out i hi
def SimS.ext{h:Aw}{s:Fq}{t:Array Value}(E:Ext J β h w J' β' h' w')(H:SimS J β h w s t):SimS J' β' h' w' s t:=⟨fun i v k=>Rep.ext E (H.slot i v k),H.out⟩
def Inv.step(I:Inv Z nt J β st a w)(A:Step J β st.h w J' β' h' w')(D:∀ b x,Al h' b=some x->Al st.h b=none->Ga<=b):Inv Z nt J' β' {s:=st.s,h:=h'} a w' where
 sim:=A.sim
 ss:=I.ss.ext A.ext
 tmps:=I.tmps
 defers:=I.defers
 os:=A.os.trans I.os
 tape:=A.tape.trans I.tape
 output:=A.output.trans I.output
 size:=Aje I.size A.size
 frame k v B:=(A.frame k (Ah6 v I.size) (fun T=>B (I.wr k T v))).trans (I.frame k v B)
 wr k B v:=I.wr k (A.wr k B (Ah6 v I.size)) v
 jsub o k V:=A.ext.jsub o k (I.jsub o k V)
 jup o k V:=by
  rcases A.jup o k V with G|G|G
  ·exact I.jup o k G
  ·by_cases v:k<Z.w.heap.size
   ·exact .inr (.inl (I.wr k G v))
   ·exact .inr (.inr (by omega))
  ·exact .inr (.inr (Aje I.size G))
 sizes k:=by
  refine Aje (I.sizes k) ?_
  by_cases B:∃ b o,β b=some (k,o)
  ·obtain⟨b,o,C⟩:=B;exact A.ext.size b k o C
  ·by_cases v:k<w.heap.size
   ·have:=A.frame k v (fun ⟨b,x,o,_,_,_,C⟩=>B ⟨b,o,C⟩)
    simp[Ay,this]
   ·simp[Ay,Ajc (Aju v)]
 outs b x0 x h0 Y hd:=by
  cases C:Al st.h b with
  |none=>have:=D b x Y C;have:=I.zlt b x0 h0;unfold Ga at *;omega
  | some y =>
   obtain⟨x',⟨g1,gm⟩,L⟩:=A.ext.blk b y C
   change Al h' b=some x at Y
   rw[Y]at g1;simp at g1;subst g1
   rcases L with L|⟨L,g3,g4,g5⟩
   ·simp[hd]at L
   ·obtain⟨⟨e1,em⟩,e2,e3,e4⟩:=I.outs b x0 y h0 C L
    exact⟨⟨g3.trans e1,gm.trans em⟩,g4.trans e2,fun h=>(g5 (em.trans h)).trans (e3 h),e4⟩
 zlt:=I.zlt
 zge:=I.zge
def Inv.put(I:Inv Z nt J β st a w){d:Option Nat}{v:AV}{vc:Value}(k:Rep J β st.h w v vc):Inv Z nt J β {s:=sx nt st.s d v,h:=st.h} (a.put d vc) w where
 sim:=I.sim
 ss:=I.ss.put I.tmps k
 tmps:=by cases d<;>simp[Act.put,I.tmps]
 defers:=by cases d<;>simp[Act.put,I.defers]
 os:=I.os
 tape:=I.tape
 output:=I.output
 size:=I.size
 frame:=I.frame
 wr:=I.wr
 jsub:=I.jsub
 jup:=I.jup
 sizes:=I.sizes
 zlt:=I.zlt
 zge:=I.zge
 outs:=I.outs
def fU{d:Nat}{F:List Nat}{h:Aw}:∀{ups:Dc},N_ d F h ups=true->∀ b,A0 ups b=true->(AF d b=true/\Al h b=none)\/(AF d b=false/\Eo F b=true/\∃ x,Al h b=some x)
|[],_,b,v=>by simp[A0]at v
| (i,_)::r,k,b,v=>by
  rw[N_]at k
  simp at k
  rw[A0]at v
  cases hi:beq i b with
  | true =>
   have:i=b:=Aht hi
   subst this
   cases hn:AF d i with
   |true=>rw[hn]at k;simp at k;exact .inl ⟨rfl,k.1⟩
   |false =>
    rw[hn]at k;simp at k
    obtain⟨⟨A,B⟩,_⟩:=k
    exact .inr ⟨rfl,A,Am0.1 B⟩
  |false=>rw[hi]at v;exact fU k.2 b (by simpa using v)
def y_{d b:Nat}(hn:AF d b=true):Ga<=b:=by
 unfold AF nid at hn
 simp at hn
 unfold Ga;omega
def nq{d:Nat}{F:List Nat}{h:Aw}{ups:Dc}(A:N_ d F h ups=true){b:Nat}{x:Blk}(k:Al (Am ups h) b=some x)(hn:Al h b=none):Ga<=b:=by
 cases hi:A0 ups b with
|false=>rw[Bk _ _ _ hi,hn]at k;cases k
|true =>
  rcases fU A b hi with⟨B,_⟩|⟨_,_,y,v⟩
  ·exact y_ B
  ·rw[hn]at v;cases v
def tI{h:Aw}{F:List Nat}:Looks (fun b=>cond (Eo F b) (Al h b) none) h:=fun b x k=>by
 cases v:Eo F b with
|true=>simpa[v]using k
|false=>simp[v]at k
def jl{h:Aw}{s:Fq}(H:SimS J β h w s a.tmps){t:Bool}(k:CO ops s o=some t):Region.wanted o (yielded ops a.tmps)=t:=by
 unfold CO at k
 unfold Region.wanted
 split at k
 ·rename_i A;rw[A];simpa using k
 ·rename_i j want A
  rw[A]
  simp only
  unfold yielded
  split at k
  ·rename_i t' B
   rw[B]
   simp only[Ai3]
   cases D:a.tmps[t']? with
   |none =>
    have:=H.out t' (by simpa using D)
    rw[this]at k;simp at k
   | some v =>
    have hr:=H.slot t' v D
    split at k
    ·rename_i b C
     rw[C,Rep]at hr;subst hr
     simp at k;subst k
     simp
    ·rename_i C
     rw[C,Rep]at hr
     obtain⟨cs,rfl,G⟩:=hr
     rw[Reps]at G;subst G
     simp at k;subst k
     simp
    ·simp at k
  ·rename_i B
   rw[B]
   simp at k;subst k
   simp
def fV{E:Env}(hC:PU E)(I:Inv Z E.nt J β st a w){k:St->Foot->O R}(B:pw E ops o st k=some r){K:Act->World->Prop}{Q:Exit->Act->World->Prop}:
  ∃ st' f,k st' f=some r/\((∀ a' w' J' β',Inv Z E.nt J' β' st' a' w'->K a' w')->if Region.wanted o (yielded ops a.tmps)then o.wp E.P a w K Q else K (a.put o.dst undef) w):=by
 unfold pw at B
 obtain⟨t,D,v⟩:=ub B
 rw[jl I.ss D]
 cases t with
|false =>
  refine⟨_,_,v,fun hK=>?_⟩
  simp only[Ajr,if_false]
  exact hK _ _ J β (I.put (by rw[Rep];exact⟨[],rfl,by rw[Reps]⟩))
| true =>
  rw[cond_true]at v
  obtain⟨val,ups,G,L⟩:=tH (o:=o) (next:=K) (Q:=Q) hC I.sim I.ss tI v
  obtain⟨C,T⟩:=uc G
  refine⟨_,_,T,fun hK=>?_⟩
  simp only[if_true]
  refine L (fun b V hn=>?_) (fun vc w' Y=>?_)
  ·rcases fU C b V with⟨_,g⟩|⟨g,_⟩
   ·exact g
   ·rw[hn]at g;cases g
  ·obtain⟨J',β',A,hv⟩:=Y
   exact hK _ _ J' β' ((I.step A (fun b x hx hn=>nq C hx hn)).put hv)
def Eqv(a b:St):Prop:=(∀ t,E7 a.s t=E7 b.s t)/\(∀ b',Al a.h b'=Al b.h b')
def Eqv.refl(a:St):Eqv a a:=⟨fun _=>rfl,fun _=>rfl⟩
def Eqv.symm{a b:St}(h:Eqv a b):Eqv b a:=⟨fun t=>(h.1 t).symm,fun t=>(h.2 t).symm⟩
def Eqv.trans{a b c:St}(h:Eqv a b)(k:Eqv b c):Eqv a c:=⟨fun t=>(h.1 t).trans (k.1 t),fun t=>(h.2 t).trans (k.2 t)⟩
def Inv.eqv{nt:Nat}{J:Bool->Nat->Prop}{β:Bx}{st st2:St}{a:Act}{w:World}(I:Inv Z nt J β st a w)(h:Eqv st st2):Inv Z nt J β st2 a w:=by
 have hr:∀{x v},Rep J β st.h w x v->Rep J β st2.h w x v:=fun C=>Rep.ext ⟨fun _ _ D=>D,fun _ _ _=>rfl,fun b x A=>⟨x,⟨by rw[<-h.2 b];exact A,rfl⟩,by cases B:x.dead<;>simp⟩,fun _ _ _ _=>Ahl _⟩ C
 refine⟨⟨I.sim.jlt,I.sim.jft,I.sim.gl,fun b x A B G=>?_,fun b x A B G=>I.sim.mblk b x (by rw[h.2];exact A) B G,fun b Y x x' k o o' A L=>I.sim.sep b Y x x' k o o' (by rw[h.2];exact A) (by rw[h.2];exact L)⟩,⟨fun i v hv=>by rw[<-h.1 i];exact hr (I.ss.slot i v hv),fun i hi=>by rw[<-h.1 i];exact I.ss.out i hi⟩,I.tmps,I.defers,I.os,I.tape,I.output,I.size,I.frame,?_,I.jsub,I.jup,I.sizes,I.zlt,I.zge,fun b x0 x h0 C=>I.outs b x0 x h0 (by rw[h.2];exact C)⟩
 ·rcases I.sim.blk b x (by rw[h.2];exact A) B G with T|⟨k,o,cs,ty,fr,T,h2,h3,h4,V,h6⟩
  ·exact .inl T
  ·exact .inr ⟨k,o,cs,ty,fr,T,h2,h3,h4,⟨V.1,fun hp j c D=>by
    obtain⟨u,g1,g2,g3⟩:=V.2 hp j c D
    exact⟨u,g1,hr g2,g3⟩⟩,h6⟩
 ·rintro k ⟨b,x,o,A,B,hs,hβ⟩ hk
  exact I.wr k ⟨b,x,o,by rw[h.2];exact A,B,hs,hβ⟩ hk
def fW{st:St}{k:St->O R}(v:WN ops o st k=some r):∃ st',Eqv st st'/\k st'=some r:=by
 unfold WN at v
 split at v
 ·exact⟨st,Eqv.refl _,v⟩
 ·rename_i j want D
  split at v
  ·exact⟨st,Eqv.refl _,v⟩
  ·rename_i t G
   split at v
   ·rename_i b B
    have key:∀ c:Bool,b=c->Eqv st {s:=PN st.s t (.bool c),h:=st.h}:=by
     intro c C
     refine⟨fun i=>?_,fun _=>rfl⟩
     simp only
     rw[Ma]
     by_cases e:i=t
     ·subst e;rw[if_pos rfl,B,C]
     ·rw[if_neg e]
    cases A:(b==want)with
    |true =>
     rw[A]at v
     exact⟨_,key want (by simpa using A),v⟩
    |false =>
     rw[A]at v
     exact⟨_,key (!want) (by cases b<;>cases want<;>simp_all),v⟩
   ·exact⟨st,Eqv.refl _,v⟩
def fX{E:Env}(hC:PU E){Q:Exit->Act->World->Prop}:∀(l:List Oper){st:St}{tr:List Foot}{k:St->List Foot->O R}{a:Act}{w:World}{J:Bool->Nat->Prop}{β:Bx},
  Inv Z E.nt J β st a w->fF E ops l st tr k=some r->(∀ st' A a' w' J' β',Inv Z E.nt J' β' st' a' w'->k st' A=some r->Q .normal a' w')->wpList E.P ops Q l a w
|[],st,tr,k,a,w,J,β,I,v,hQ=>hQ st tr a w J β I v
|o::l,st,tr,k,a,w,J,β,I,v,hQ=>by
  rw[fF]at v
  obtain⟨lU,C,v⟩:=fW v
  obtain⟨st',f,D,G⟩:=fV (K:=wpList E.P ops Q l) (Q:=Q) hC (I.eqv C) v
  have:=G (fun a' w' J' β' I'=>fX hC l I' D hQ)
  rw[wpList]
  split
  ·rename_i B;rw[if_pos B]at this;exact .inl this
  ·rename_i B;rw[if_neg B]at this;exact this
end
end Gx
namespace Gx
open Go
def Jr:∀{l:List Nat}{b:Nat},Eo l b=true↔b∈l
  |[],b=>by simp[Eo]
  | i::r,b=>by
    rw[Eo]
    cases hi:beq i b with
    |true=>have:=Aht hi;subst this;simp
    | false => have := T8 hi; simp only [cond_false, Ah4]; rw [Jr]; constructor
               · exact fun h=>.inr h
               · rintro(h | h)
                 · exact absurd h.symm this
                 · exact h
def Qr:∀{l:List Nat},IA l=true->l.Nodup
|[],_=>Ann
|i::r,h=>by
  rw[IA]at h;simp at h
  refine Aiz.2 ⟨fun k=>?_,Qr h.2⟩
  rw[Jr.2 k]at h;simp at h
def WW{g:A2}{ids:List Nat}:∀{l:List Nat},fH g ids l=true->∀ b∈l,∀ x,E1 g b=some x->b∈ids
|[],_,b,k,_,_=>by simp at k
| i::r,h,b,k,x,A=>by
  rw[fH]at h;simp at h
  rcases Ah4.1 k with e|k
  ·subst e
   rcases h.1 with v|v
   ·exact Jr.1 v
   ·rw[A]at v;simp at v
  ·exact WW h.2 b k x A
def qU:∀{l:List Nat},vC l=true->∀ b∈l,Ga<=b->Jq b<100000
|[],_,b,k,_=>by simp at k
| i::r,h,b,k,hn=>by
  rw[vC]at h;simp at h
  rcases Ah4.1 k with e|k
  ·subst e
   have:ble Ga b=true:=by simpa using hn
   rw[this]at h;simpa using h.1
  ·exact qU h.2 b k hn
def Wl(g:A2):∀ c:LA,(Il g c).length=c.length
|[]=>rfl
|x::r=>by rw[Il,Ah8,Ah8,Wl g r]
section
variable{R:Type}{r:R}{Z:Start}{nt:Nat}{J J':Bool->Nat->Prop}{β β':Bx}{st:St}{h h':Aw}{a:Act}{w w':World}{ids:List Nat}
def K6(g:A2)(x:Blk):Blk:={x with cells:=cond x.pure x.cells (Il g x.cells)}
def PW{g:A2}:∀{ids:List Nat},(ids.map Jq).Nodup->∀ c y,Al (Wh g ids) c=some y->∃ b x,b∈ids/\Jq b=c/\E1 g b=some x/\y=K6 g x
|[],_,c,y,k=>by simp[Wh,Al]at k
| b::r,hn,c,y,k=>by
  rw[Ah9,Aiz]at hn
  rw[Wh]at k
  split at k
  ·rename_i x G
   rw[Ag]at k
   by_cases e:c=Jq b
   ·rw[if_pos e]at k;simp at k
    exact⟨b,x,by simp,e.symm,G,k.symm⟩
   ·rw[if_neg e]at k
    obtain⟨v,x',A,B,C,D⟩:=PW hn.2 c y k
    exact⟨v,x',by simp[A],B,C,D⟩
  ·obtain⟨v,x',A,B,C,D⟩:=PW hn.2 c y k
   exact⟨v,x',by simp[A],B,C,D⟩
def Wm{g:A2}:∀{ids:List Nat},(ids.map Jq).Nodup->∀ b x,b∈ids->E1 g b=some x->Al (Wh g ids) (Jq b)=some (K6 g x)
|[],_,b,x,k,_=>by simp at k
| B::r,hn,b,x,k,v=>by
  rw[Ah9,Aiz]at hn
  rw[Wh]
  by_cases e:b=B
  ·subst e
   rw[v]
   simp only
   rw[Ag,if_pos rfl];rfl
  ·have A:b∈r:=by simpa[e]using k
   have ne:Jq b≠Jq B:=fun h=>hn.1 (by rw[<-h];exact Aio.2 ⟨b,A,rfl⟩)
   split
   ·rw[Ag,if_neg ne];exact Wm hn.2 b x A v
   ·exact Wm hn.2 b x A v
def fY(ids:List Nat)(c:Nat):Option Nat:=ids.find? fun b=>beq (Jq b) c
def Ka(hn:(ids.map Jq).Nodup){b:Nat}(k:b∈ids):fY ids (Jq b)=some b:=by
 induction ids with
|nil=>simp at k
| cons i r v =>
  rw[Ah9,Aiz]at hn
  unfold fY at v ⊢
  rw[List.find?_cons]
  by_cases e:b=i
  ·subst e;simp
  ·have A:b∈r:=by simpa[e]using k
   have ne:Jq i≠Jq b:=fun h=>hn.1 (by rw[h];exact Aio.2 ⟨b,A,rfl⟩)
   rw[HC ne];exact v hn.2 A
def Ab9(g:A2)(ids:List Nat)(l:List Nat):Prop:=∀ b∈l,∀ x,E1 g b=some x->b∈ids
def wX{b:Nat}:E1 (Al h) b=(Al h b).bind fun x=>cond x.dead none (some x):=rfl
def PX{b:Nat}{x y:Blk}(A:Al h b=some x)(k:E1 (Al h) b=some y):y=x/\x.dead=false:=by
 rw[wX,A]at k
 cases v:x.dead with
|true=>simp[v]at k
|false=>simp[v]at k;exact⟨k.symm,rfl⟩
mutual
def Rep.clean(hn:(ids.map Jq).Nodup):∀{x:AV}{v:Value},Ab9 (Al h) ids (Fr x)->Rep J β h w x v ->
  Rep J (fun c=>(fY ids c).bind β) (Wh (Al h) ids) w (Wg (Al h) x) v
| .own b off n,v,hm,hr=>by
  rw[Rep]at hr
  obtain⟨x,A,cap,⟨hx,hmp⟩,h1,h2,h3⟩:=hr
  rw[Wg]
  cases hv:E1 (Al h) b with
  |none=>simp only;rw[Rep];trivial
  | some y =>
   obtain⟨rfl,hd⟩:=PX hx hv
   have hb:=hm b (by simp[Fr]) _ hv
   simp only
   rw[Rep]
   refine⟨K6 (Al h) y,A,cap,⟨Wm hn b y hb hv,hmp⟩,h1,h2,?_⟩
   rcases h3 with h3|⟨k,o,h4,h5⟩
   ·exact .inl h3
   ·refine .inr ⟨k,o,h4,?_⟩
    rcases h5 with h5|⟨h5,h6,h7⟩
    ·simp[hd]at h5
    ·refine .inr ⟨by rw[Ka hn hb];exact h5,h6,?_⟩
     have:(K6 (Al h) y).cells.length=y.cells.length:=by
      unfold K6;cases y.pure
      ·simp;exact Wl _ _
      ·rfl
     rw[this];exact h7
| .optr b off,v,hm,hr=>by
  rw[Rep]at hr
  obtain⟨x,k,o,⟨hx,hmp⟩,h1,h2⟩:=hr
  rw[Wg]
  cases hv:E1 (Al h) b with
  |none=>simp only;rw[Rep];trivial
  |some y =>
   obtain⟨rfl,hd⟩:=PX hx hv
   have hb:=hm b (by simp[Fr]) _ hv
   simp only
   rw[Rep]
   refine⟨K6 (Al h) y,k,o,⟨Wm hn b y hb hv,hmp⟩,h1,?_⟩
   rcases h2 with h2|h2
   ·simp[hd]at h2
   ·exact .inr (by rw[Ka hn hb];exact h2)
| .omap b,v,hm,hr=>by
  rw[Rep]at hr
  obtain⟨x,k,⟨hx,hmp⟩,h2⟩:=hr
  rw[Wg]
  cases hv:E1 (Al h) b with
  |none=>simp only;rw[Rep];trivial
  |some y =>
   obtain⟨rfl,hd⟩:=PX hx hv
   have hb:=hm b (by simp[Fr]) _ hv
   simp only
   rw[Rep]
   refine⟨K6 (Al h) y,k,⟨Wm hn b y hb hv,hmp⟩,?_⟩
   rcases h2 with h2|h2
   ·simp[hd]at h2
   ·exact .inr (by rw[Ka hn hb];exact h2)
|.agg c,v,hm,hr=>by
  rw[Rep]at hr
  obtain⟨cs,h1,h2⟩:=hr
  rw[Wg,Rep]
  exact⟨cs,h1,Reps.clean hn (by simpa[Fr]using hm) h2⟩
|.tup c,v,hm,hr=>by
  rw[Rep]at hr
  obtain⟨cs,h1,h2⟩:=hr
  rw[Wg,Rep]
  exact⟨cs,h1,Reps.clean hn (by simpa[Fr]using hm) h2⟩
|.fn f c,v,hm,hr=>by
  rw[Rep]at hr
  obtain⟨cs,h1,h2⟩:=hr
  rw[Wg,Rep]
  exact⟨cs,h1,Reps.clean hn (by simpa[Fr]using hm) h2⟩
|.pagg c o,v,hm,hr=>by show Rep J _ _ w (.pagg c o) v;rw[Rep]at hr ⊢;exact hr
|.undef,v,hm,hr=>by show Rep J _ _ w .undef v;rw[Rep]at hr ⊢;exact hr
|.imm c n sz t o,v,hm,hr=>by show Rep J _ _ w (.imm c n sz t o) v;rw[Rep]at hr ⊢;exact hr
|.iptr c o,v,hm,hr=>by show Rep J _ _ w (.iptr c o) v;rw[Rep]at hr ⊢;exact hr
|.int k n,v,hm,hr=>by show Rep J _ _ w (.int k n) v;rw[Rep]at hr ⊢;exact hr
|.bool b,v,hm,hr=>by show Rep J _ _ w (.bool b) v;rw[Rep]at hr ⊢;exact hr
|.str s,v,hm,hr=>by show Rep J _ _ w (.str s) v;rw[Rep]at hr ⊢;exact hr
|.nsl,v,hm,hr=>by show Rep J _ _ w .nsl v;rw[Rep]at hr ⊢;exact hr
|.nilptr,v,hm,hr=>by show Rep J _ _ w .nilptr v;rw[Rep]at hr ⊢;exact hr
|.nilfn,v,hm,hr=>by show Rep J _ _ w .nilfn v;rw[Rep]at hr ⊢;exact hr
def Reps.clean(hn:(ids.map Jq).Nodup):∀{c:List AV}{cs:List Value},Ab9 (Al h) ids (Hc c)->Reps J β h w c cs ->
  Reps J (fun c=>(fY ids c).bind β) (Wh (Al h) ids) w (Il (Al h) c) cs
|[],cs,hm,hr=>by rw[Reps]at hr;rw[Il,Reps];exact hr
|x::r,cs,hm,hr=>by
  rw[Reps]at hr
  obtain⟨u,us,h1,h2,h3⟩:=hr
  rw[Il,Reps]
  exact⟨u,us,h1,Rep.clean hn (fun b hb=>hm b (by simp[Hc,hb])) h2,Reps.clean hn (fun b hb=>hm b (by simp[Hc,hb])) h3⟩
end
def Xz{g:A2}{K:List Nat}:∀{s:Fq}{i:Nat},E7 (WO g K s) i=if Eo K i=true then Wg g (E7 s i)else .undef
|[],i=>by
  simp only[WO,E7]
  show AV.undef=if Eo K i=true then AV.undef else AV.undef
  split<;>rfl
| (t,v)::r,i=>by
  rw[WO,E7]
  cases k:Eo K t with
  | true =>
   simp only[cond_true,E7]
   cases hi:beq t i with
   |true =>
    have:=Aht hi;subst this
    simp[k]
   |false=>simp only[cond_false];exact Xz
  | false =>
   simp only[cond_false]
   rw[Xz]
   cases hi:beq t i with
   |true =>
    have:=Aht hi;subst this
    simp[k]
   |false=>rfl
def fZ{K:List Nat}:∀{s:Fq}{i:Nat},Eo K i=true->∀ b∈Fr (E7 s i),b∈fG K s
|[],i,_,b,k=>by simp[E7,Fr]at k
| (t,v)::r,i,A,b,k=>by
  rw[E7]at k
  rw[fG]
  cases hi:beq t i with
  |true =>
   have:=Aht hi;subst this
   rw[hi]at k
   rw[A];simp at k ⊢;exact .inl k
  |false =>
   rw[hi]at k
   have:=fZ A b k
   cases Eo K t
   ·exact this
   ·simp;exact .inr this
def WX{g:A2}:∀{ids:List Nat}{b:Nat}{x:Blk},b∈ids->g b=some x->x.pure=false->∀ c∈Hc x.cells,c∈Jp g ids
|[],b,x,k,_,_,_,_=>by simp at k
|i::r,b,x,k,v,A,c,B=>by
  rw[Jp]
  by_cases e:b=i
  ·subst e;rw[v];simp only[A,cond_false];exact Ahz.2 (.inl B)
  ·exact Ahz.2 (.inr (WX (by simpa[e]using k) v A c B))
def WY:∀{c:LA}{j:Nat}{x:AV},c[j]?=some x->∀ b∈Fr x,b∈Hc c
|[],j,x,k,_,_=>by simp at k
|y::r,j,x,k,b,v=>by
  rw[Hc]
  cases j with
  |zero=>simp at k;subst k;exact Ahz.2 (.inl v)
  |succ j=>exact Ahz.2 (.inr (WY (by simpa using k) b v))
def aH{g:A2}:∀{c:LA}{j:Nat}{y:AV},(Il g c)[j]?=some y->∃ x,c[j]?=some x/\y=Wg g x
|[],j,y,k=>by simp[Il]at k
|x::r,j,y,k=>by
  rw[Il]at k
  cases j with
  |zero=>simp at k;exact⟨x,by simp,k.symm⟩
  |succ j=>obtain⟨x',v,A⟩:=aH (c:=r) (j:=j) (by simpa using k);exact⟨x',by simpa using v,A⟩
def wY{b:Nat}(k:b<Ga):Jq b=b:=by
 unfold Jq
 have:ble Ga b=false:=by
  cases h:ble Ga b with
  |false=>rfl
  |true=>have:=Al1 h;omega
 rw[this];rfl
def qV{K roots:List Nat}{st':St}(I:Inv Z nt J β st a w)(hh:clean K roots st=some st'):∃ β',Inv Z nt J β' st' a w:=by
 unfold clean at hh
 obtain⟨hc,h1⟩:_/\_:=uc hh
 simp only[Aho]at hc
 obtain⟨c1,c2,c3,c4⟩:=hc
 generalize hids:Xy (Al st.h) (Wf (Al st.h) (fG K st.s++roots))=ids at *
 simp at h1
 have hn:=Qr c1
 have blk:∀ c y,Al (Wh (Al st.h) ids) c=some y->∃ b x,b∈ids/\Jq b=c/\Al st.h b=some x/\x.dead=false/\y=K6 (Al st.h) x:=by
  intro c y G
  obtain⟨b,x,T,V,g3,g4⟩:=PW hn c y G
  have B:Al st.h b=some x/\x.dead=false:=Cw (fun _ _ h=>h) g3
  exact⟨b,x,T,V,B.1,B.2,g4⟩
 have L:∀ x:Blk,(K6 (Al st.h) x).cells.length=x.cells.length:=fun x=>by
  unfold K6;cases x.pure
  ·simp;exact Wl _ _
  ·rfl
 refine⟨fun c=>(fY ids c).bind β,?_⟩
 subst h1
 refine⟨⟨I.sim.jlt,I.sim.jft,I.sim.gl,fun c y G hd hm=>?_,fun c y G hd hm=>by
   obtain⟨b,x,C,rfl,B,A,rfl⟩:=blk c y G
   obtain⟨T,V,k,ob,g3,g4,g5,g6⟩:=I.sim.mblk b x B A hm
   have:(K6 (Al st.h) x).cells=x.cells:=by unfold K6;rw[T];rfl
   exact⟨T,V,k,ob,by simp only[Ka hn C,Ai3];exact g3,g4,by rw[ObjIs,show(K6 (Al st.h) x).sz=x.sz from rfl,this];exact g5,g6⟩,?_⟩,⟨fun i v hv=>?_,fun i hi=>?_⟩,I.tmps,I.defers,I.os,I.tape,I.output,I.size,I.frame,?_,I.jsub,I.jup,I.sizes,I.zlt,I.zge,?_⟩
 ·obtain⟨b,x,C,rfl,B,A,rfl⟩:=blk c y G
  rcases I.sim.blk b x B A hm with⟨T,V⟩|⟨k,o,cs,ty,fr,T,V,g3,g4,g5,g6,g7⟩
  ·refine .inl ⟨by simp only[Ka hn C,Ai3];exact T,?_⟩
   have:=L x;rw[V]at this;simpa using this
  ·refine .inr ⟨k,o,cs,ty,fr,by simp only[Ka hn C,Ai3];exact T,V,g3,by rw[L];exact g4,⟨fun hp=>?_,fun hp j q hj=>?_⟩,g6,g7⟩
   ·have D:x.pure=true:=hp
    have:(K6 (Al st.h) x).cells=x.cells:=by unfold K6;rw[D];rfl
    rw[this];exact g5.1 D
   ·have D:x.pure=false:=hp
    have:(K6 (Al st.h) x).cells=Il (Al st.h) x.cells:=by unfold K6;rw[D];rfl
    rw[this]at hj
    obtain⟨q',hq,rfl⟩:=aH hj
    obtain⟨u,hu,hr,ho⟩:=g5.2 D j q' hq
    exact⟨u,hu,Rep.clean hn (fun b' Y x' hx'=>WW c3 b' (WX C B D b' (WY hq b' Y)) x' hx') hr,ho⟩
 ·intro c c' y y' k o o' G hy' hd hd' hs hβ hβ'
  obtain⟨b,x,C,rfl,B,A,rfl⟩:=blk c y G
  obtain⟨b',x',Y,rfl,hx',hxd',rfl⟩:=blk c' y' hy'
  simp only[Ka hn C,Ai3]at hβ
  simp only[Ka hn Y,Ai3]at hβ'
  rw[I.sim.sep b b' x x' k o o' B hx' A hxd' hs hβ hβ']
 ·rw[Xz]
  split
  ·rename_i hk
   exact Rep.clean hn (fun b C x B=>WW c2 b (fZ hk b C) x B) (I.ss.slot i v hv)
  ·rw[Rep];trivial
 ·rw[Xz,I.ss.out i hi]
  split
  ·rfl
  ·rfl
 ·rintro k ⟨c,y,o,G,hd,hs,hβ⟩ hk
  obtain⟨b,x,C,rfl,B,A,rfl⟩:=blk c y G
  simp only[Ka hn C,Ai3]at hβ
  exact I.wr k ⟨b,x,o,B,A,hs,hβ⟩ hk
 ·intro c x0 y h0 G hd
  obtain⟨b,x,C,rfl,B,A,rfl⟩:=blk c y G
  have hlt:=I.zlt _ _ h0
  have hge:=I.zge _ _ h0
  have hbo:Jq b=b:=by
   by_cases hnb:Ga<=b
   ·have:=qU c4 b C hnb;omega
   ·exact wY (by omega)
  rw[hbo]at h0
  obtain⟨⟨e1,em⟩,e2,e3,e4⟩:=I.outs b x0 x h0 B A
  refine⟨⟨?_,em⟩,e2,by rw[L];exact e3,e4⟩
  simp only[Ka hn C,Ai3];rw[hbo];exact e1
end
end Gx
namespace Gx
open Go
section
variable{R:Type}
def Ao{α β:Type}(b:Bool)(x y:Option α)(f:α->Option β):(cond b x y).bind f=cond b (x.bind f) (y.bind f):=by cases b<;>rfl
def U0{R':Type}(P:Program)(t:TypeId)(c:LA)(o:Bool)(k:Bool->Option R')(f:R'->O R):(Ux P t c o k).bind f=Ux P t c o fun o=>(k o).bind f:=by unfold Ux;simp only[Ao,Al4]
def Qs(P:Program)(t:TypeId)(c:LA)(org:Bool)(k:AV->O R):HW P t c org k=(HW P t c org some).bind k:=by
 unfold HW
 split<;>simp[Ahj,Ao,U0]<;>rfl
def tJ(P:Program)(t:TypeId)(c:LA)(k:AV->O R):ZV P t c k=(ZV P t c some).bind k:=by
 unfold ZV
 split<;>simp[Ahj,Ao]
def aI(n:Nat)(k:AV->O R):∀(c:LA)(i:Nat),CL n k c i=(CL n some c i).bind k
|[],_=>rfl
|v::r,i=>by rw[CL,CL,Ao,aI n k r (i+1)];rfl
def aJ(P:Program)(t:TypeId)(c:LA)(off:Nat)(k:AV->O R):HX P t c off k=(HX P t c off some).bind k:=by
 unfold HX
 split
 ·simp[Ahj,Ao]
 ·simp[Ahj,Ao]
 ·exact aI ..
 ·rfl
def C_(P:Program)(g:A2)(t:TypeId)(p:AV)(k:AV->O R):fB P g t p k=(fB P g t p some).bind k:=by
 unfold fB
 split
 ·exact Qs ..
 ·rw[Ahj]
  congr 1;funext x
  rw[Ao,<-Qs,<-aJ]
 ·rfl
def F'(P:Program)(t:TypeId)(x i:AV)(k:AV->O R):Ii P t x i k=(Ii P t x i some).bind k:=by
 unfold Ii
 split<;>simp[Ahj,Ao]
def f3{R':Type}(i:Int)(k:Nat->O R)(v:R->Option R'):∀ m j,(ZW i k m j).bind v=ZW i (fun q=>(k q).bind v) m j
|0,_=>rfl
|m+1,j=>by rw[ZW,ZW,Ao,f3 i k v m (j+1)]
def AK(P:Program)(t:TypeId)(x i:AV)(k:AV->O R):Od P t x i k=(Od P t x i some).bind k:=by
 unfold Od
 split
 ·rw[Ahj];congr 1;funext sz
  rw[f3];congr 1;funext j;rw[Ao];rfl
 ·rfl
def GA(P:Program)(t:TypeId)(x:AV)(f:Nat)(k:AV->O R):Qi P t x f k=(Qi P t x f some).bind k:=by
 unfold Qi
 simp only[Ahj,Ao]
 congr 1;funext p;congr 1;funext n;congr 1
 split<;>rfl
def aK(P:Program)(t:TypeId)(x:AV)(f:Nat)(k:AV->O R):WC P t x f k=(WC P t x f some).bind k:=by
 unfold WC
 rw[Ahj]
 congr 1;funext p
 split
 ·exact Qs ..
 ·exact tJ ..
 ·rfl
def aL(P:Program)(t:TypeId)(x i:AV)(k:AV->O R):WD P t x i k=(WD P t x i some).bind k:=by
 unfold WD
 split
 ·simp[Ao]
 ·simp only[Ahj,Ao,<-Qs];rfl
 ·simp only[Ahj,Ao,<-aJ];rfl
 ·rfl
def U4{α:Type}(lo hi mx:Option AV)(n:Nat)(f:Nat->Nat->α)(k:α->O R):(Uy lo hi mx n fun l h=>k (f l h))=(Uy lo hi mx n fun l h=>some (f l h)).bind k:=by
 unfold Uy
 simp[Ahj,Ao]
def aM(P:Program)(g:A2)(t:TypeId)(x:AV)(lo hi mx:Option AV)(k:AV->O R):WE P g t x lo hi mx k=(WE P g t x lo hi mx some).bind k:=by
 unfold WE
 split
 ·rw[Ao,<-U4];rfl
 ·rw[Ahj];congr 1;funext _;exact U4 lo hi mx 0 (fun _ _=>AV.nsl) k
 ·rw[Ahj];congr 1;funext _;rw[Ao,<-U4];rfl
 ·rw[Ahj];congr 1;funext _;rw[Ahj];congr 1;funext _;rw[Ao,<-U4];rfl
 ·simp only[Ahj,Ao];rfl
 ·rfl
def wZ(P:Program)(t:TypeId)(op:BinOp)(x y:AV)(k:AV->O R):wI P t op x y k=(wI P t op x y some).bind k:=by
 unfold wI
 split
 ·split<;>simp[Ao]
 ·split<;>simp[Ao]
 ·split<;>simp[Ao]
 ·rfl
def pr(v:AV)(u:Dc):Option (AV×Dc):=some (v,u)
def Wn(P:Program)(c:LA)(org:Bool):∀(L:List (Nat×TypeId))(A:LA)(k:LA->O R),FT P c org L A k=(FT P c org L A some).bind k
|[],A,k=>rfl
|(off,t)::L,A,k=>by
  rw[FT,FT,Ao]
  congr 1
  rw[Qs,Qs (k:=fun v=>FT P c org L (A++[v]) some),Ahj]
  congr 1;funext v
  exact Wn P c org L _ k
def qW{R':Type}(P:Program)(c:LA)(org:Bool)(L:List (Nat×TypeId))(v:LA)(k:LA->O R)(f:R->Option R'):(FT P c org L v k).bind f=FT P c org L v fun l=>(k l).bind f:=by rw[Wn,Ahj,<-Wn]
def qX(P:Program)(g:A2)(t:TypeId)(p v:AV)(k:AV->Dc->O R):WF P g t p v k=(WF P g t p v pr).bind fun q=>k q.1 q.2:=by
 unfold WF
 split
 ·simp only[Ahj,Ao]
  congr 1;funext x;congr 1;funext n;congr 1;congr 1
  split<;>simp[Ao,qW,pr]
 ·rfl
def aN(P:Program)(co:Bool)(t:TypeId)(v:AV)(k:AV->O R):WH P co t v k=(WH P co t v some).bind k:=by
 unfold WH
 split
 ·rename_i c org
  rw[Wn,Wn (k:=fun l=>cond (beq c.length l.length) (some (AV.agg l)) none),Ahj]
  congr 1;funext l
  rw[Ao];rfl
 ·rfl
def lV(P:Program)(g:A2)(d:Nat)(t:TypeId)(v:AV)(k:AV->Dc->O R):pp P g d t v k=(pp P g d t v pr).bind fun q=>k q.1 q.2:=by
 unfold pp
 split<;>simp[Ahj,Ao,pr]
def WZ(P:Program)(g:A2)(d:Nat)(t:TypeId)(len:Nat)(ps:List (Nat×AV))(k:AV->Dc->O R):Oe P g d t len ps k=(Oe P g d t len ps pr).bind fun q=>k q.1 q.2:=by
 unfold Oe
 split<;>simp[Ahj,Ao,pr,Ta]
def dN(P:Program)(g:A2)(d:Nat)(t:TypeId)(len:Nat)(ps:List (Nat×AV))(k:AV->Dc->O R):Qj P g d t len ps k=(Qj P g d t len ps pr).bind fun q=>k q.1 q.2:=by
 unfold Qj
 split<;>simp[Ahj,Ao,pr]
def nr(P:Program)(g:A2)(t:TypeId)(ps:List (Nat×AV))(k:AV->Dc->O R):LQ P g t ps k=(LQ P g t ps pr).bind fun q=>k q.1 q.2:=by
 unfold LQ
 simp[Ahj,pr,Ta]
def w8(P:Program)(t:TypeId)(co:Bool)(d:Nat)(v:AV)(k:AV->Dc->O R):wL P t co d v k=(wL P t co d v pr).bind fun q=>k q.1 q.2:=by
 unfold wL
 split<;>simp[Ao,pr]
def tK(P:Program)(d:Nat)(t:TypeId)(l c:AV)(k:AV->Dc->O R):lI P d t l c k=(lI P d t l c pr).bind fun q=>k q.1 q.2:=by
 unfold lI
 split<;>simp[Ahj,Ao,pr]
def nv(P:Program)(g:A2)(d:Nat)(t tx:TypeId)(s x:AV)(k:AV->Dc->O R):LU P g d t tx s x k=(LU P g d t tx s x pr).bind fun q=>k q.1 q.2:=by
 unfold LU PO
 split<;>simp[Ahj,Ao,pr,U0]
def aO{α:Type}(A:IntKind):∀(n:Nat)(c:LA)(f:LA->Option α)(k:α->O R),PQ A n c (fun l=>(f l).bind k)=(PQ A n c f).bind k
|0,_,_,_=>rfl
|n+1,c,f,k=>by
  simp only[PQ,Ahj]
  congr 1;funext x;congr 1;funext v
  exact aO A n _ (fun l=>f (.int A v::l)) k
def qY(P:Program)(v sz b off n:Nat)(y:Blk)(new:LA×Nat×Bool)(k:AV->Dc->O R):WI P v sz b off n y new k=(WI P v sz b off n y new pr).bind fun q=>k q.1 q.2:=by
 unfold WI
 split
 ·rw[Ao,<-aO];rfl
 ·rfl
def tL(P:Program)(g:A2)(t:TypeId)(s x:AV)(k:AV->Dc->O R):lJ P g t s x k=(lJ P g t s x pr).bind fun q=>k q.1 q.2:=by
 unfold lJ PO
 split
 ·simp only[Ahj,Ao,U0,<-qY];rfl
 ·simp[Ahj,Ao,pr,U0]
 ·rfl
def ny(P:Program)(g:A2)(d:Nat)(t:TypeId)(k:AV->Dc->O R):LR P g d t k=(LR P g d t pr).bind fun q=>k q.1 q.2:=by
 unfold LR
 split<;>simp[Ao,pr]
def qZ(P:Program)(g:A2)(t:TypeId)(s:AV)(k:AV->Dc->O R):WJ P g t s k=(WJ P g t s pr).bind fun q=>k q.1 q.2:=by
 unfold WJ
 split<;>simp[Ahj,Ao,pr]
def tM(P:Program)(g:A2)(d:Nat)(src dst:TypeId)(x:AV)(k:AV->Dc->O R):lK P g d src dst x k=(lK P g d src dst x pr).bind fun q=>k q.1 q.2:=by
 unfold lK
 split
 ·split<;>simp[Ao,pr]
 ·split
  ·split<;>simp[pr]
  ·split
   ·split<;>simp[Ahj,pr]
   ·rfl
  ·rfl
 ·split
  ·rw[Ao,Ahj];simp only[Ao];rfl
  ·rfl
  ·rfl
 ·rfl
def q_(P:Program)(g:A2)(d:Nat)(src dst:TypeId)(x:AV)(k:AV->Dc->O R):WK P g d src dst x k=(WK P g d src dst x pr).bind fun q=>k q.1 q.2:=by
 unfold WK
 split
 ·split
  ·simp only[Ahj,Ao];rfl
  ·rfl
 ·split
  ·simp only[Ahj,Ao];rfl
  ·rfl
 ·exact tM ..
def dO(g:A2)(x:AV)(k:AV->Dc->O R):Qk g x k=(Qk g x pr).bind fun q=>k q.1 q.2:=by
 unfold Qk
 split
 ·rfl
 ·simp only[Ahj,Ao];rfl
 ·rfl
def dP(P:Program)(g:A2)(t:TypeId)(x n:AV)(k:AV->Dc->O R):Ql P g t x n k=(Ql P g t x n pr).bind fun q=>k q.1 q.2:=by
 unfold Ql
 split
 ·rw[Ao];rfl
 ·simp only[Ahj]
  congr 1;funext y;congr 1;funext q
  split
  ·simp only[Ahj,Ao];rfl
  ·rfl
 ·rfl
def PY{R':Type}{f:R'->O R}{s1:TypeId->LA->LA->(Bool->Option R')->Option R'}{s2:TypeId->LA->LA->(Bool->O R)->O R}(hs:∀ t x y k,(s1 t x y k).bind f=s2 t x y fun b=>(k b).bind f){x y:LA}:
  ∀(l:List (Nat×TypeId))(k:Bool->Option R'),(AB s1 x y l k).bind f=AB s2 x y l fun b=>(k b).bind f
|[],k=>rfl
|(o,t)::r,k=>by
  rw[AB,AB,hs]
  congr 1;funext b
  exact PY hs r _
def MA{R':Type}{f:R'->O R}(P:Program):∀(d:Nat)(t:TypeId)(x y:LA)(k:Bool->Option R'),(dK P d t x y k).bind f=dK P d t x y fun b=>(k b).bind f
|0,t,x,y,k=>rfl
|d+1,t,x,y,k=>by
  rw[dK,dK]
  split<;>simp only[Ahj,Ao,Al4]
  ·congr 1;funext sz;rw[PY (MA P d)]
  ·congr 1;funext s;congr 1;funext sz;rw[PY (MA P d)]
def tN(P:Program)(t:TypeId)(op:BinOp)(x y:AV)(k:AV->O R):lF P t op x y k=(lF P t op x y some).bind k:=by
 unfold lF
 split
 ·rw[Ahj]
  congr 1;funext s
  rw[Ao]
  congr 1
  split
  ·rw[MA];rfl
  ·rw[MA];rfl
  ·rfl
 ·exact wZ ..
def f4(P:Program)(g:A2)(t:TypeId)(op:BinOp)(x y:AV)(k:AV->O R):lN P g t op x y k=(lN P g t op x y some).bind k:=by
 unfold lN
 split
 ·rw[Ao];congr 1;split<;>rfl
 ·exact tN ..
def f6(c x y:AV)(k:AV->O R):lP c x y k=(lP c x y some).bind k:=by
 unfold lP
 split<;>first|rfl|(rw[Ao];rfl)
def qa(P:Program)(g:A2)(co:Bool)(d:Nat)(t:TypeId)(k:AV->Dc->O R):WG P g co d t k=(WG P g co d t pr).bind fun q=>k q.1 q.2:=by
 unfold WG
 split
 ·rw[Ahj];rfl
 ·exact lV ..
 ·rfl
def f7:∀(T:List (Nat×Tw))(f:Nat)(A:LA)(h:Aw)(k:AV->Aw->O R),RY T f A h k=(RY T f A h fun v h'=>some (v,h')).bind fun p=>k p.1 p.2
|[],f,A,h,k=>rfl
|(g,t)::r,f,A,h,k=>by
  rw[RY,RY]
  cases beq g f
  ·exact f7 r f A h k
  ·exact t.eq A h k
def tO(E:Env)(g:A2)(d f:Nat)(v:LA)(k:AV->Dc->O R):lO E g d f v k=(lO E g d f v pr).bind fun q=>k q.1 q.2:=by
 unfold lO
 rw[Ahj]
 congr 1;funext q
 simp only[Ao,Al4]
 congr 1
 rw[f7,f7 (R:=AV×Dc),Ahj]
 congr 1;funext p
 simp only[Ao,Al4,pr,Ai3]
def jm(d:Nat)(o:Option AV)(k:AV->Dc->O R):We d o k=(We d o pr).bind fun q=>k q.1 q.2:=by
 unfold We
 split<;>rfl
def qb(P:Program)(g:A2)(t:TypeId)(m x y:AV)(k:AV->Dc->O R):WL P g t m x y k=(WL P g t m x y pr).bind fun q=>k q.1 q.2:=by
 unfold WL
 split<;>simp[Ao,Ahj,pr]
def qc(P:Program)(d:Nat)(t:TypeId)(x:AV)(k:AV->Dc->O R):WM P d t x k=(WM P d t x pr).bind fun q=>k q.1 q.2:=by
 unfold WM
 split<;>rfl
def tP(g:A2)(it:AV)(b:Bool)(k:AV->Dc->O R):lM g it b k=(lM g it b pr).bind fun q=>k q.1 q.2:=by
 unfold lM
 split
 ·rw[Ahj];congr 1;funext x
  rw[Ao];congr 1
  split
  ·rename_i s p _
   cases decide (p<(s.length:Int))<;>rfl
  ·rfl
 ·rfl
def f8(P:Program)(g:A2)(t:TypeId)(m x:AV)(c:Bool)(k:AV->O R):lL P g t m x c k=(lL P g t m x c some).bind k:=by
 unfold lL
 split<;>simp[Ao,Ahj]
def w9(E:Env)(g:A2)(d:Nat)(v:Operand->AV)(o:Op)(k:AV->Dc->O R):jg E g d v o k=(jg E g d v o pr).bind fun q=>k q.1 q.2:=by
 unfold jg
 split
 ·rfl
 ·rfl
 ·rw[f6,f6 (k:=fun r=>pr r []),Ahj];rfl
 ·rw[Ao,<-ny,<-qa]
 ·rw[aN,aN (k:=fun u=>pp E.P g d _ u pr),Ahj];congr 1;funext u;exact lV ..
 ·rw[Ao,<-nr];congr 1;rw[PS,PS,Ahj];congr 1;funext x;exact w8 ..
 ·rw[Ao,<-dN,<-WZ]
 ·rw[C_,C_ (k:=fun r=>pr r []),Ahj];rfl
 ·exact qX ..
 ·split<;>rfl
 ·rw[f4,f4 (k:=fun r=>pr r []),Ahj];rfl
 ·rw[Ahj];rfl
 ·exact q_ ..
 ·rw[Ao];rfl
 ·exact tK ..
 ·rw[aM,aM (k:=fun r=>pr r []),Ahj];rfl
 ·rw[GA,GA (k:=fun r=>pr r []),Ahj];rfl
 ·rw[aK,aK (k:=fun r=>pr r []),Ahj];rfl
 ·rw[AK,AK (k:=fun r=>pr r []),F',F' (k:=fun r=>pr r []),Ao,Ahj,Ahj];rfl
 ·rw[aL,aL (k:=fun r=>pr r []),Ahj];rfl
 ·exact jm ..
 ·exact qb ..
 ·rw[f8,f8 (k:=fun r=>pr r []),Ahj];rfl
 ·exact qc ..
 ·exact tP ..
 ·split
  ·rw[Ahj];rfl
  ·rfl
 ·split
  ·split
   ·rw[Ahj];rfl
   ·rfl
  ·split
   ·exact nv ..
   ·rfl
  ·split
   ·exact tL ..
   ·rfl
  ·split
   ·exact qZ ..
   ·rfl
  ·split
   ·rw[Ahj];rfl
   ·simp only[Ahj];rfl
   ·rfl
  ·split
   ·rw[Ahj];rfl
   ·simp only[Ahj];rfl
   ·rfl
  ·split
   ·exact dO ..
   ·rfl
  ·split
   ·exact dP ..
   ·rfl
  ·split
   ·rw[Ao,<-tO,Ao];congr 1;congr 1
    split<;>rfl
   ·rfl
  ·rfl
 ·rfl
end
end Gx
namespace Gx
open Go
def AL:∀{l k:List Nat}{b:Nat},b∈Z_ l k↔b∈l\/b∈k
|[],k,b=>by simp[Z_]
| i::r,k,b=>by
  rw[Z_]
  cases v:Eo k i with
  | true =>
   simp only[cond_true]
   rw[AL]
   have:=Jr.1 v
   constructor
   ·rintro(h|h)
    ·exact .inl (by simp[h])
    ·exact .inr h
   ·rintro(h|h)
    ·rcases Ah4.1 h with e|h
     ·subst e;exact .inr this
     ·exact .inl h
    ·exact .inr h
  | false =>
   simp only[cond_false]
   rw[AL]
   simp only[Ah4]
   constructor
   ·rintro(h|h|h)
    ·exact .inl (.inr h)
    ·exact .inl (.inl h)
    ·exact .inr h
   ·rintro((h|h)|h)
    ·exact .inr (.inl h)
    ·exact .inl h
    ·exact .inr (.inr h)
def X0{g g':A2}:∀{l:List Nat},(∀ b∈l,g' b=g b)->Jp g' l=Jp g l
|[],_=>rfl
|i::r,h=>by rw[Jp,Jp,h i (by simp),X0 (fun b k=>h b (by simp[k]))]
def SK{g:A2}:∀{a b:List Nat},Jp g (a++b)=Jp g a++Jp g b
|[],b=>rfl
|i::r,b=>by rw[Ail,Jp,Jp,SK,Akc]
def qd{g g':A2}{ids:List Nat}(h:∀ b∈Wf g ids,g' b=g b):Wf g' ids=Wf g ids:=by
 have v:∀ b∈ids,g' b=g b:=fun b k=>h b (AL.2 (.inl (Ahz.2 (.inl k))))
 have e1:Jp g' ids=Jp g ids:=X0 v
 have A:∀ b∈Jp g ids,g' b=g b:=fun b k=>h b (AL.2 (.inl (Ahz.2 (.inr (by rw[SK];exact Ahz.2 (.inl k))))))
 unfold Wf
 rw[e1,X0 (l:=ids++Jp g ids) (fun b k=>by
  rcases Ahz.1 k with k|k
  ·exact v b k
  ·exact A b k)]
section
variable{R:Type}{E:Env}{ops:Array Oper}{o p:Oper}{st lU st2:St}
def aP{v v':Operand->AV}{parts:Array (Nat×Operand)}(h:∀ q∈parts.toList,v' q.2=v q.2):(parts.toList.map fun q=>(q.1,v' q.2))=(parts.toList.map fun q=>(q.1,v q.2)):=Alb (fun q hq=>by rw[h q hq])
def tQ {g:A2} {d:Nat} {v v':Operand->AV} {op:Op} {k:AV->Dc->O R} (h:∀ x ∈ op.operands.toList,v' x=v x):jg E g d v' op k=jg E g d v op k:=by
  unfold jg
  cases op
  case build t parts =>
    simp only
    rw[aP (v:=v) (v':=v') (fun q hq=>h q.2 (by simp[Op.operands];exact⟨q.1,by simpa using hq⟩))]
  case buildSlice t n parts =>
    simp only
    rw[aP (v:=v) (v':=v') (fun q hq=>h q.2 (by simp[Op.operands];exact⟨q.1,by simpa using hq⟩))]
  case slice t x lo hi mx =>
    simp only
    have A:v' x=v x:=h x (by simp[Op.operands])
    have D:lo.map v'=lo.map v:=by
      cases lo with
      |none=>rfl
      |some y=>simp;exact h y (by simp[Op.operands])
    have G:hi.map v'=hi.map v:=by
      cases hi with
      |none=>rfl
      |some y=>simp;exact h y (by simp[Op.operands])
    have I:mx.map v'=mx.map v:=by
      cases mx with
      |none=>rfl
      |some y=>simp;exact h y (by simp[Op.operands])
    rw[A,D,G,I]
  case makeMap t rr =>
    simp only
    have A:rr.map v'=rr.map v:=by
      cases rr with
      |none=>rfl
      |some y=>simp;exact h y (by simp[Op.operands])
    rw[A]
  case makeFunc f first caps =>
    cases f<;>try rfl
    simp only
    have:(first.toList++caps.toList).map v'=(first.toList++caps.toList).map v:=Alb (fun x C=>h x (by simp[Op.operands];simpa using C))
    rw[this]
  case call c =>
    have B:∀ x ∈ c.args.toList,v' x=v x:=fun x C=>h x (by
      simp only[Op.operands,Call.operands,Array.toList_append]
      exact Ahz.2 (.inr C))
    have L:c.args.toList.map v'=c.args.toList.map v:=Alb B
    simp only
    cases T:c.callee with
    | value f =>
      have V:v' f=v f:=h f (by simp[Op.operands,Call.operands,T])
      simp only[V,L]
    |invoke a b=>rfl
    | builtin b =>
      cases b<;>try rfl
      all_goals
        simp only
        split
        · first
            | (rename_i A D
               simp only[A,Ah4,Am4,or_false,forall_eq_or_imp,forall_eq]at B
               simp only[B])
            | (rename_i A
               simp only[A,Ah4,Am4,or_false,forall_eq_or_imp,forall_eq]at B
               simp only[B])
        all_goals first
          |rfl
          | (rename_i A
             simp only[A,Ah4,Am4,or_false,forall_eq_or_imp,forall_eq]at B
             simp only[B])
  all_goals first
    |rfl
    |(simp[Op.operands]at h;simp[h])
end
end Gx
namespace Gx
open Go
section
variable{R:Type}{E:Env}{ops:Array Oper}{o p:Oper}{st lU st2 st3:St}
def vH(ops:Array Oper)(o:Oper):List Nat:=match LV ops o with|some p=>[p.1]|none=>[]
def Zn(o:Oper)(s:Fq):LA:=o.op.operands.toList.map (ev s)
def nz(h:Aw)(F:List Nat):A2:=fun b=>cond (Eo F b) (Al h b) none
def Af5(o:Oper):Nat:=o.dst.getD 50000
def P7 (E:Env) (ops:Array Oper) (o:Oper) (st:St):Option (AV×Dc×Foot) :=
  (CO ops st.s o).bind fun wanted=>cond wanted
    ((jg E (nz st.h (Ty st.h o.op (Zn o st.s))) (Af5 o) (ev st.s) o.op pr).bind fun q =>
      cond (N_ (Af5 o) (Ty st.h o.op (Zn o st.s)) st.h q.2) (some (q.1,q.2,{ r:=vH ops o++PR o.op.operands.toList,w:=o.dst,f:=Ty st.h o.op (Zn o st.s),u:=q.2.map (·.1) })) none)
    (some (.tup [],[],{r:=vH ops o,w:=o.dst,f:=[],u:=[]}))
def after(E:Env)(o:Oper)(st:St)(q:AV×Dc×Foot):St:={s:=sx E.nt st.s o.dst q.1,h:=Am q.2.1 st.h}
def MB(k:St->Foot->O R):pw E ops o st k=(P7 E ops o st).bind fun q=>k (after E o st q) q.2.2:=by
 unfold pw P7
 rw[Ahj]
 congr 1;funext t
 rw[Ao]
 congr 1
 rw[w9,Ahj]
 congr 1;funext q
 rw[Ao]
 rfl
def f9:∀{l:List Operand}{t:Nat},Operand.tmp t∈l->t∈PR l
|[],t,h=>by simp at h
| x::r,t,h=>by
  rcases Ah4.1 h with e|h'
  ·subst e;simp[PR]
  ·have k:=f9 h'
   cases x<;>simp[PR]<;>first|exact .inr k|exact k
def aQ{d:Nat}{F:List Nat}{h k:Aw}:∀{ups:Dc},(∀ b∈ups.map (·.1),Al k b=Al h b)->N_ d F k ups=N_ d F h ups
|[],_=>rfl
|(b,_)::r,v=>by rw[N_,N_,v b (by simp),aQ (fun c A=>v c (by simp at A ⊢;exact .inr A))]
def OE{s s2:Fq}(h:∀ t∈vH ops o,E7 s2 t=E7 s t):CO ops s2 o=CO ops s o:=by
 unfold CO
 cases k:o.guard with
|none=>rfl
| some q =>
  obtain⟨j,want⟩:=q
  simp only
  cases v:(ops[j]?).bind (·.dst)with
  |none=>rfl
  |some t =>
   have:E7 s2 t=E7 s t:=h t (by simp[vH,LV,k,v])
   simp only[this]
def IL{q:AV×Dc×Foot}(D:P7 E ops o st=some q)(hr:∀ t∈q.2.2.r,E7 st2.s t=E7 st.s t)(k:∀ b,b∈q.2.2.f\/b∈q.2.2.u->Al st2.h b=Al st.h b):P7 E ops o st2=some q:=by
 have V:=D
 unfold P7 at D
 obtain⟨t,B,C⟩:=ub D
 cases t with
|false =>
  simp at C;subst C
  unfold P7
  rw[OE (s:=st.s) hr,B];rfl
| true =>
  rw[cond_true]at C
  obtain⟨x,Y,h2⟩:=ub C
  obtain⟨hu,L⟩:=uc h2
  simp at L;subst L
  simp only at hr k
  have T:∀ y∈o.op.operands.toList,ev st2.s y=ev st.s y:=fun y hy=>by
   cases y with
   |tmp t=>exact hr t (Ahz.2 (.inr (f9 hy)))
   |const _=>rfl
   |global _=>rfl
   |func _=>rfl
  have v:Zn o st2.s=Zn o st.s:=Alb T
  have hF:Ty st2.h o.op (Zn o st.s)=Ty st.h o.op (Zn o st.s):=by
   unfold Ty at k ⊢
   cases G:vA o.op with
   |true =>
    rw[G]at k
    cases I:vB o.op with
    |true=>rfl
    |false=>rw[I]at k;exact qd (fun b A=>k b (.inl A))
   |false=>rfl
  have hm:nz st2.h (Ty st.h o.op (Zn o st.s))=nz st.h (Ty st.h o.op (Zn o st.s)):=by
   funext b
   unfold nz
   cases A:Eo (Ty st.h o.op (Zn o st.s)) b with
   |false=>rfl
   |true=>simp only[cond_true];exact k b (.inl (Jr.1 A))
  unfold P7
  rw[OE (s:=st.s) (fun t B=>hr t (Ahz.2 (.inl B))),B]
  simp only[Ai3,cond_true]
  rw[v,hF,hm,tQ T,Y]
  simp only[Ai3]
  rw[aQ (h:=st.h) (fun b A=>k b (.inr A)),hu]
  rfl
def MC:∀{ups:Dc}{b:Nat},A0 ups b=true↔b∈ups.map (·.1)
|[],b=>by simp[A0]
| (i,_)::r,b=>by
  rw[A0]
  cases hi:beq i b with
  |true=>have:=Aht hi;subst this;simp
  | false =>
   have ne:=T8 hi
   simp only[cond_false]
   rw[MC]
   simp only[Ah9,Ah4]
   constructor
   ·exact fun h=>.inr h
   ·rintro(h|h)
    ·exact absurd h.symm ne
    ·exact h
def vI{q:AV×Dc×Foot}(v:P7 E ops o st=some q):q.2.2.w=o.dst/\q.2.2.u=q.2.1.map (·.1):=by
 unfold P7 at v
 obtain⟨t,C,k⟩:=ub v
 cases t with
|false=>simp at k;subst k;simp
|true =>
  rw[cond_true]at k
  obtain⟨x,D,B⟩:=ub k
  obtain⟨G,A⟩:=uc B
  simp at A;subst A;simp
def Fs:∀(ups:Dc){h v:Aw},(∀ b,Al v b=Al h b)->∀ b,Al (Am ups v) b=Al (Am ups h) b
|[],_,_,k,b=>k b
|(i,some x)::r,h,v,k,b=>Fs r (fun c=>by rw[Ag,Ag,k c]) b
|(i,none)::r,h,v,k,b=>by
  rw[Am,Am]
  refine Fs r (fun c=>?_) b
  rw[k i]
  split
  ·rw[Ag,Ag,k c]
  ·exact k c
def qf{q:AV×Dc×Foot}(h:Eqv st st2):Eqv (after E o st q) (after E o st2 q):=by
 refine⟨fun t=>?_,fun b=>?_⟩
 ·unfold after;simp only;rw[Mb,Mb,h.1 t]
 ·exact(Fs q.2.1 (fun b=>(h.2 b).symm) b).symm
def O4{i:Nat}{y:Blk}:∀(ups:Dc){h:Aw},A0 ups i=false->∀ b,Al (Am ups (Ei h i y)) b=if b=i then some y else Al (Am ups h) b
|[],h,_,b=>Ag h i y b
| (j,some x)::r,h,hi,b=>by
  rw[A0]at hi
  cases k:beq j i with
  |true=>rw[k]at hi;simp at hi
  | false =>
   rw[k]at hi
   have ne:=T8 k
   rw[Am,Am,Fs r (h:=Ei (Ei h j x) i y) (fun c=>by
    rw[Ag,Ag,Ag,Ag]
    by_cases e1:c=j
    ·subst e1;simp[ne]
    ·simp[e1]) b]
   exact O4 r hi b
| (j,none)::r,h,hi,b=>by
  rw[A0]at hi
  cases k:beq j i with
  |true=>rw[k]at hi;simp at hi
  | false =>
   rw[k]at hi
   have ne:=T8 k
   rw[Am,Am,Ag,if_neg ne]
   split
   ·rename_i x v
    rw[Fs r (h:=Ei (Ei h j { x with dead:=true,pure:=true,cells:=[] }) i y) (fun c=>by
     rw[Ag,Ag,Ag,Ag]
     by_cases e1:c=j
     ·subst e1;simp[ne]
     ·simp[e1]) b]
    exact O4 r hi b
   ·exact O4 r hi b
def Rz:∀(u1 u2:Dc)(h:Aw),(∀ b,A0 u1 b=true->A0 u2 b=false)->∀ b,Al (Am u2 (Am u1 h)) b=Al (Am u1 (Am u2 h)) b
|[],u2,h,_,b=>rfl
|(i,some x)::r,u2,h,k,b=>by
  rw[Am,Am]
  have hi:A0 u2 i=false:=k i (by simp[A0])
  rw[Rz r u2 (Ei h i x) (fun c v=>k c (by rw[A0,v];cases beq i c<;>rfl)) b]
  refine Fs r (fun c=>?_) b
  rw[O4 u2 hi,Ag]
| (i,none)::r,u2,h,k,b=>by
  rw[Am,Am]
  have hi:A0 u2 i=false:=k i (by simp[A0])
  rw[Bk u2 h i hi]
  split
  ·rename_i x A
   rw[Rz r u2 _ (fun c v=>k c (by rw[A0,v];cases beq i c<;>rfl)) b]
   refine Fs r (fun c=>?_) b
   rw[O4 u2 hi,Ag]
  ·exact Rz r u2 h (fun c v=>k c (by rw[A0,v];cases beq i c<;>rfl)) b
def f_:∀{a l:List Nat},pu a l=true->∀ b∈a,b∉l
|[],l,_,b,k=>by simp at k
|i::r,l,h,b,k=>by
  rw[pu]at h;simp at h
  rcases Ah4.1 k with e|k
  ·subst e;intro v;rw[Jr.2 v]at h;simp at h
  ·exact f_ h.2 b k
def fa{q:AV×Dc×Foot}{t:Nat}(h:o.dst≠some t):E7 (after E o st q).s t=E7 st.s t:=by unfold after;simp only;rw[Mb,if_neg (fun k=>h k.1)]
def fb{q:AV×Dc×Foot}{b:Nat}(h:b∉q.2.1.map (·.1)):Al (after E o st q).h b=Al st.h b:=by
 unfold after;simp only
 rw[Bk]
 cases hi:A0 q.2.1 b with
|false=>rfl
|true=>exact absurd (MC.1 hi) h
def lX{w:Option Nat}{l:List Nat}(h:Ae3 w l=false):∀ t∈l,w≠some t:=by
 intro t k e
 subst e
 rw[Ae3,Jr.2 k]at h;cases h
def Afc{A k:AV×Dc×Foot}(I:P7 E ops p st=some A)(L:P7 E ops o (after E p st A)=some k)(hi:Z' A.2.2 k.2.2=true):
  P7 E ops o st=some k/\P7 E ops p (after E o st k)=some A/\Eqv (after E p (after E o st k) A) (after E o (after E p st A) k):=by
 unfold Z' at hi
 simp only[Aho,Amt]at hi
 obtain⟨⟨⟨⟨i1,i2⟩,i3⟩,i4⟩,i5⟩:=hi
 obtain⟨T,u1⟩:=vI I
 obtain⟨V,u2⟩:=vI L
 have D:=f_ i4
 have Y:=f_ i5
 have a1:P7 E ops o st=some k:=IL L (fun t G=>(fa (by rw[<-T];exact lX i1 t G)).symm) (fun b v=>(fb (fun C=>by
  rw[<-u1]at C
  exact D b C (by rcases v with v | v<;>simp[v]))).symm)
 have a2:P7 E ops p (after E o st k)=some A:=IL I (fun t G=>fa (by rw[<-V];exact lX i2 t G)) (fun b v=>fb (fun C=>by
  rw[<-u2]at C
  rcases v with v|v
  ·exact Y b C v
  ·exact D b v (by simp[C])))
 refine⟨a1,a2,fun t=>?_,fun b=>?_⟩
 ·unfold after;simp only
  rw[Mb,Mb,Mb,Mb]
  by_cases e1:p.dst=some t/\t<E.nt
  ·by_cases B:o.dst=some t/\t<E.nt
   ·exfalso
    rw[T,V,e1.1,B.1]at i3
    simp at i3
   ·rw[if_pos e1,if_neg B,if_pos e1]
  ·by_cases B:o.dst=some t/\t<E.nt
   ·rw[if_neg e1,if_pos B,if_pos B]
   ·rw[if_neg e1,if_neg B,if_neg B,if_neg e1]
 ·unfold after;simp only
  refine(Rz A.2.1 k.2.1 st.h (fun c hc=>?_) b).symm
  cases hx:A0 k.2.1 c with
  |false=>rfl
  |true =>
   have m1:c∈A.2.2.u:=by rw[u1];exact MC.1 hc
   have m2:c∈k.2.2.u:=by rw[u2];exact MC.1 hx
   exact absurd (by simp[m2]) (D c m1)
def RunF(E:Env)(ops:Array Oper)(fp:Nat->Foot):List (Nat×Oper)->St->St->Prop
|[],st,e=>Eqv st e
|(i,o)::r,st,e=>∃ q,P7 E ops o st=some q/\q.2.2=fp i/\RunF E ops fp r (after E o st q) e
def RunF.congr{fp:Nat->Foot}:∀{l:List (Nat×Oper)}{st st2 e:St},RunF E ops fp l st e->Eqv st st2->RunF E ops fp l st2 e
|[],st,st2,e,h,k=>k.symm.trans h
|(i,o)::r,st,st2,e,h,k=>by
  rw[RunF]at h ⊢
  obtain⟨q,v,A,B⟩:=h
  exact⟨q,IL v (fun t _=>(k.1 t).symm) (fun b _=>(k.2 b).symm),A,RunF.congr B (qf k)⟩
def RunF.pull{fp:Nat->Foot}{i:Nat}{o:Oper}{B:List (Nat×Oper)}:∀{A:List (Nat×Oper)}{st e:St},RunF E ops fp (A++(i,o)::B) st e->(∀ jp∈A,Z' (fp jp.1) (fp i)=true) ->
  ∃ q,P7 E ops o st=some q/\q.2.2=fp i/\RunF E ops fp (A++B) (after E o st q) e
|[],st,e,h,_=>h
|(j,p)::A,st,e,h,hA=>by
  rw[Ail,RunF]at h
  obtain⟨k,G,v,I⟩:=h
  obtain⟨C,L,D,T⟩:=RunF.pull I (fun jp V=>hA jp (by simp[V]))
  have hi:Z' k.2.2 C.2.2=true:=by rw[v,D];exact hA (j,p) (by simp)
  obtain⟨a1,a2,a3⟩:=Afc G L hi
  refine⟨C,a1,D,?_⟩
  rw[Ail,RunF]
  exact⟨k,a2,v,RunF.congr T a3.symm⟩
end
end Gx
namespace Gx
open Go
def vJ:Nat->List Oper->List (Nat×Oper)
|_,[]=>[]
|n,o::r=>(n,o)::vJ (n+1) r
def eY:∀{l:List Oper}{n:Nat}{p:Nat×Oper},p∈vJ n l↔n<=p.1/\l[p.1 - n]?=some p.2
|[],n,p=>by simp[vJ]
| o::r,n,p=>by
  rw[vJ,Ah4,eY]
  constructor
  ·rintro(rfl|⟨v,k⟩)
   ·simp
   ·refine⟨by omega,?_⟩
    rw[show p.1 - n=(p.1 - (n+1))+1 by omega];simpa using k
  ·rintro⟨v,k⟩
   by_cases e:p.1=n
   ·left
    rw[e]at k;simp at k
    obtain⟨a,b⟩:=p
    simp at e k;subst e k;rfl
   ·right
    refine⟨by omega,?_⟩
    rw[show p.1 - n=(p.1 - (n+1))+1 by omega]at k;simpa using k
def fc:∀(l:List Oper)(n:Nat),(vJ n l).Pairwise (fun a b=>a.1<b.1)
|[],n=>List.Pairwise.nil
|o::r,n=>by
  rw[vJ]
  refine All.2 ⟨fun p k=>?_,fc r (n+1)⟩
  have:=(eY.1 k).1
  show n<p.1;omega
section
variable{R:Type}{r:R}{Z:Start}{E:Env}{ops:Array Oper}
def RunL(E:Env)(ops:Array Oper):List Oper->List Foot->St->St->Prop
|[],[],st,e=>st=e
|o::l,f::fs,st,e=>∃ st' q,Eqv st st'/\P7 E ops o st'=some q/\q.2.2=f/\RunL E ops l fs (after E o st' q) e
|_,_,_,_=>False
def qh:∀{l:List Oper}{st:St}{tr:List Foot}{k:St->List Foot->O R},fF E ops l st tr k=some r->∃ fs e,k e (fs.reverse++tr)=some r/\RunL E ops l fs st e
|[],st,tr,k,h=>⟨[],st,by simpa[fF]using h,rfl⟩
|o::l,st,tr,k,h=>by
  rw[fF]at h
  obtain⟨st',v,h⟩:=fW h
  rw[MB]at h
  obtain⟨q,A,B⟩:=ub h
  obtain⟨fs,e,C,D⟩:=qh B
  exact⟨q.2.2::fs,e,by simpa using C,st',q,v,A,rfl,D⟩
def RunL.length:∀{l:List Oper}{fs:List Foot}{st e:St},RunL E ops l fs st e->fs.length=l.length
|[],[],_,_,_=>rfl
|[],_::_,_,_,h=>h.elim
|_::_,[],_,_,h=>h.elim
|o::l,f::fs,st,e,⟨_,q,_,_,_,h⟩=>by simp[RunL.length h]
def RunL.runF{fp:Nat->Foot}:∀{l:List Oper}{fs:List Foot}{n:Nat}{st e:St},RunL E ops l fs st e->(∀(j:Nat)(f:Foot),fs[j]?=some f->fp (n+j)=f)->RunF E ops fp (vJ n l) st e
|[],[],n,st,e,h,_=>by subst h;exact Eqv.refl _
|[],_::_,_,_,_,h,_=>h.elim
|_::_,[],_,_,_,h,_=>h.elim
|o::l,f::fs,n,st,e,⟨st',q,v,A,B,C⟩,k=>by
  rw[vJ]
  refine RunF.congr ?_ v.symm
  rw[RunF]
  refine⟨q,A,by rw[B];exact(k 0 f (by simp)).symm,RunL.runF C (fun j g D=>?_)⟩
  have:=k (j+1) g (by simpa using D)
  rwa [show n+(j+1)=n+1+j by omega]at this
def aR{f:Foot}{anc:List Nat}:∀{seen:List Foot}{i:Nat},R_ f anc i seen=true->∀(j:Nat)(g:Foot),seen[j]?=some g->(i+j)∈anc\/Z' g f=true
|[],i,_,j,g,k=>by simp at k
| x::r,i,h,j,g,k=>by
  rw[R_]at h;simp only[Aho,Bool.or_eq_true]at h
  cases j with
  |zero =>
   simp at k;subst k
   rcases h.1 with v|v
   ·exact .inl (Jr.1 v)
   ·exact .inr v
  |succ j =>
   have:=aR h.2 j g (by simpa using k)
   rwa [show i+1+j=i+(j+1) by omega]at this
def fe:∀{fs:List Foot}{az9:List (List Nat)}{seen:List Foot},LW fs az9 seen=true->∀(i:Nat)(f:Foot),fs[i]?=some f ->
  ∃ a,az9[i]?=some a/\∀(j:Nat)(g:Foot),(seen++fs)[j]?=some g->j<seen.length+i->j∈a\/Z' g f=true
|[],az9,seen,_,i,f,k=>by simp at k
|x::r,[],seen,h,i,f,k=>by simp[LW]at h
| x::r,a::az9,seen,h,i,f,k=>by
  rw[LW]at h;simp only[Aho]at h
  cases i with
  |zero =>
   simp at k;subst k
   refine⟨a,by simp,fun j g v A=>?_⟩
   rw[Aiv,if_pos (by omega)]at v
   simpa using aR h.1 j g v
  |succ i =>
   obtain⟨a',B,C⟩:=fe h.2 i f (by simpa using k)
   refine⟨a',by simpa using B,fun j g v A=>C j g ?_ (by simp;omega)⟩
   simpa using v
def Zo:∀{l:List Oper}{k:List (List Nat)}{i:Nat},i<k.length->(Fh l k)[i]?=k[i]?
|[],k,i,_=>rfl
|o::r,k,i,hi=>by rw[Fh,AG,Zo (by simp;omega),Aiv,if_pos hi]
def DA:∀{l:List Oper}{v:List (List Nat)}{i:Nat}{a:List Nat},(Fh l v)[i]?=some a->v.length<=i->∃ o,l[i - v.length]?=some o /\
  ∀ k∈a,k∈CP o\/∃ j a',j∈CP o/\j<i/\(Fh l v)[j]?=some a'/\k∈a'
|[],v,i,a,h,hi=>by
  rw[Fh,Air hi]at h;cases h
| o::r,v,i,a,h,hi=>by
  by_cases e:i=v.length
  ·subst e
   rw[Fh,AG,Zo (by simp)]at h
   simp only[List.getElem?_concat_length,Ajm]at h
   refine⟨o,by simp,fun k A=>?_⟩
   rw[<-h,AL]at A
   replace A:=A.resolve_right (by simp)
   rcases Ahz.1 A with A|A
   ·exact .inl A
   ·right
    obtain⟨j,G,A⟩:=List.mem_flatMap.1 A
    cases C:v[j]? with
    |none=>rw[C]at A;simp at A
    |some a' =>
     rw[C]at A;simp at A
     have B:j<v.length:=(Ahx.1 C).1
     exact⟨j,a',G,B,by rw[Zo B];exact C,A⟩
  ·rw[Fh,AG]at h
   obtain⟨o',D,I⟩:=DA h (by simp;omega)
   refine⟨o',?_,fun k A=>?_⟩
   ·simp at D
    rw[show i - v.length=(i - (v.length+1))+1 by omega];simpa using D
   ·rw[Fh,AG];exact I k A
def SL:∀{l:List Oper}{n i:Nat}{o:Oper},V1 n l=true->l[i]?=some o->∀ e∈o.after,IC e=true->e.on<n+i
|[],n,i,o,_,hi,_,_,_=>by simp at hi
| x::r,n,i,o,h,hi,e,k,v=>by
  rw[V1]at h;simp only[Aho]at h
  cases i with
  |zero =>
   simp at hi;subst hi
   have:=Aku.1 h.1 e (by simpa using k)
   rw[v]at this;simpa using this
  |succ i =>
   have:=SL h.2 (by simpa using hi) e k v
   omega
def lY(e:Edge):Region.binds .any e=IC e:=by
 unfold Region.binds IC
 cases e.ground<;>rfl
def tR{listed:Array Bool}(hclosed:∀(j:Nat)(o:Oper),ops[j]?=some o->listed.getD j true=true->∀ k∈CP o,listed.getD k false=true):
  ∀(i:Nat)(a:List Nat)(o:Oper),(Fh ops.toList [])[i]?=some a->ops[i]?=some o->(∀ k∈CP o,listed.getD k false=true)->∀ k∈a,listed.getD k false=true:=by
 intro i
 induction i using Nat.strongRecOn with
| _ i T =>
  intro a o V Y G k hk
  obtain⟨o',B,h2⟩:=DA V (by simp)
  simp at B
  rw[Y]at B;simp at B;subst B
  rcases h2 k hk with C|⟨j,a',C,h4,I,h6⟩
  ·exact G k C
  ·have v:=G j C
   obtain⟨oj,A,_⟩:=DA I (by simp)
   simp at A
   have D:listed.getD j true=true:=by
    rw[Ajv]at v ⊢
    cases L:listed[j]? with
    |none=>rw[L]at v;simp at v
    |some b=>rw[L]at v;simpa using v
   exact T j h4 a' oj I A (hclosed j oj A D) k h6
def Fi(ops:Array Oper)(listed:Array Bool):List (Nat×Oper):=(vJ 0 ops.toList).filter fun p=>!listed.getD p.1 true
def IM(listed:Array Bool):(Fi ops listed).Pairwise (fun a b=>a.1<b.1):=(fc _ _).filter _
def AM{listed:Array Bool}{p:Nat×Oper}:p∈Fi ops listed↔ops[p.1]?=some p.2/\listed.getD p.1 true=false:=by
 unfold Fi
 rw[Ajp,eY]
 simp
def qk{listed:Array Bool}{i:Nat}{o:Oper}{A B:List (Nat×Oper)}(h:Fi ops listed=A++(i,o)::B):Fi ops (listed.setIfInBounds i true)=A++B:=by
 have hi:(i,o)∈Fi ops listed:=by rw[h];simp
 have k:=(AM.1 hi).2
 have C:i<listed.size:=by
  rw[Ajv]at k
  rcases Amh i listed.size with D|D
  ·exact D
  ·rw[Ajc D]at k;simp at k
 have I:Fi ops (listed.setIfInBounds i true)=(Fi ops listed).filter fun p=>!beq p.1 i:=by
  unfold Fi
  rw[List.filter_filter]
  congr 1;funext p
  by_cases e:p.1=i
  ·rw[e];simp[C]
  ·rw[getD_set_ne true (fun e'=>e e'.symm),HC e];simp
 rw[I,h,List.filter_append,Akh]
 have hs:=IM (ops:=ops) listed
 rw[h]at hs
 have v:=Ak5.1 hs
 have hB:=All.1 v.2.1
 have e1:A.filter (fun p=>!beq p.1 i)=A:=Amd.2 (fun p G=>by
  have:p.1<i:=v.2.2 p G (i,o) (by simp)
  rw[HC (by omega)];rfl)
 have L:B.filter (fun p=>!beq p.1 i)=B:=Amd.2 (fun p G=>by
  have:i<p.1:=hB.1 p G
  rw[HC (by omega)];rfl)
 rw[e1,L];simp
def w_(hC:PU E){Q:Exit->Act->World->Prop}{fp:Nat->Foot}{e:St}(hfw:V1 0 ops.toList=true)
  (hord:∀(i j:Nat)(o:Oper),ops[i]?=some o->j<i->∃ a,(Fh ops.toList [])[i]?=some a/\(j∈a\/Z' (fp j) (fp i)=true))
  (hQ:∀ a' w' J' β',Inv Z E.nt J' β' e a' w'->Q .normal a' w') :
  ∀(fuel:Nat)(listed:Array Bool){st:St}{a:Act}{w:World}{J:Bool->Nat->Prop}{β:Bx},listed.size=ops.size->(Fi ops listed).length=fuel ->
   (∀(j:Nat)(o:Oper),ops[j]?=some o->listed.getD j true=true->∀ k∈CP o,listed.getD k false=true) ->
   RunF E ops fp (Fi ops listed) st e->Inv Z E.nt J β st a w->wpAny E.P .any ops Q fuel listed a w:=by
 intro fuel
 have fin:∀(listed:Array Bool){st:St}{a:Act}{w:World}{J:Bool->Nat->Prop}{β:Bx},Fi ops listed=[]->RunF E ops fp (Fi ops listed) st e->Inv Z E.nt J β st a w->Region.ready .any ops listed=[]/\Q .normal a w:=by
  intro listed st a w J β hr v I
  refine⟨List.eq_nil_iff_forall_not_mem.2 (fun i hi=>?_),?_⟩
  ·obtain⟨h1,o,L,_⟩:=mem_ready.1 hi
   have:(i,o)∈Fi ops listed:=AM.2 ⟨L,h1⟩
   rw[hr]at this;simp at this
  ·rw[hr,RunF]at v
   exact hQ _ _ J β (I.eqv v)
 induction fuel with
|zero =>
  intro listed st a w J β _ C _ v I
  exact fin listed (Am3.1 C) v I
| succ fuel ih =>
  intro listed st a w J β hsz C hclosed v I
  refine⟨fun hnil=>?_,fun i hi=>?_⟩
  ·
   cases D:Fi ops listed with
   |nil=>rw[D]at C;simp at C
   | cons p r =>
    exfalso
    have hp:p∈Fi ops listed:=by rw[D];simp
    obtain⟨G,hl⟩:=AM.1 hp
    have hs:=IM (ops:=ops) listed
    rw[D]at hs
    have hmin:=(All.1 hs).1
    have:p.1 ∈ Region.ready .any ops listed:=mem_ready.2 ⟨hl,p.2,G,fun Y hed hb=>by
     rw[lY]at hb
     have T:=SL hfw (i:=p.1) (o:=p.2) (by simpa using G) Y hed hb
     simp at T
     have hops:Y.on<ops.size:=by have:=(Aja.1 G).1;omega
     cases hx:listed.getD Y.on true with
     |true =>
      rw[Ajv]at hx ⊢
      rw[Array.getElem?_eq_getElem (by omega)]at hx ⊢
      simpa using hx
     | false =>
      have hm:(Y.on,ops[Y.on])∈Fi ops listed:=AM.2 ⟨by simp[hops],hx⟩
      rw[D]at hm
      rcases Ah4.1 hm with e1|e1
      ·have:Y.on=p.1:=by rw[<-e1]
       omega
      ·have:=hmin _ e1
       simp at this;omega⟩
    rw[hnil]at this;simp at this
  ·obtain⟨hl,o,G,hall⟩:=mem_ready.1 hi
   have hmem:(i,o)∈Fi ops listed:=AM.2 ⟨G,hl⟩
   obtain⟨A,B,hAB⟩:=List.append_of_mem hmem
   have hdir:∀ k∈CP o,listed.getD k false=true:=by
    intro k hk
    unfold CP at hk
    obtain⟨Y,hed,rfl⟩:=Aio.1 hk
    obtain⟨h1,L⟩:=Ajp.1 hed
    exact hall Y (by simpa using h1) (by rw[lY];exact L)
   have hs:=IM (ops:=ops) listed
   rw[hAB]at hs
   have hs':=Ak5.1 hs
   rw[hAB]at v
   obtain⟨q,g1,g2,g3⟩:=v.pull (fun jp hjp=>by
    have T:jp.1<i:=hs'.2.2 jp hjp (i,o) (by simp)
    obtain⟨an,h1,L⟩:=hord i jp.1 o G T
    rcases L with L|L
    ·exfalso
     have:=tR hclosed i an o h1 G hdir jp.1 L
     have hjm:jp∈Fi ops listed:=by rw[hAB];simp[hjp]
     have h3:=(AM.1 hjm).2
     rw[Ajv]at this h3
     cases hx:listed[jp.1]? with
     |none=>rw[hx]at this;simp at this
     |some b=>rw[hx]at this h3;simp at this h3;rw[this]at h3;cases h3
    ·exact L)
   have hone:pw E ops o st (fun s f=>some (s,f))=some (after E o st q,q.2.2):=by rw[MB,g1];rfl
   obtain⟨st',f,h4,h5⟩:=fV (K:=wpAny E.P .any ops Q fuel (listed.setIfInBounds i true)) (Q:=Q) hC I hone
   simp only[Ajm,Anw]at h4
   obtain⟨rfl,rfl⟩:=h4
   have T:i<listed.size:=by rw[hsz];exact(Aja.1 G).1
   have:=h5 (fun a' w' J' β' I'=>ih (listed.setIfInBounds i true) (by simp[hsz]) (by
     rw[qk hAB];rw[hAB] at C;simp at C ⊢;omega) (fun j oj V hj k hk=>?_) (by rw[qk hAB];exact g3) I')
   ·unfold wpOp
    rw[G]
    simp only
    split
    ·rename_i hw;rw[if_pos hw]at this;exact .inl this
    ·rename_i hw;rw[if_neg hw]at this;exact this
   ·by_cases e1:j=i
    ·subst e1
     rw[G]at V;simp at V;subst V
     exact getD_set_true (hdir k hk)
    ·rw[getD_set_ne true (fun e'=>e1 e'.symm)]at hj
     exact getD_set_true (hclosed j oj V hj k hk)
end
end Gx
namespace Gx
open Go
section
variable{R:Type}{r:R}{Z:Start}{E:Env}
def jn(hC:PU E)(hm:E.P.follows .mixedOrders=true){roots:List Nat}{id:Nat}{ops:Array Oper}{draw:Bool}{st:St}{k:St->O R}{a:Act}{w:World}{J:Bool->Nat->Prop}{β:Bx}{Q:Exit->Act->World->Prop}
  (I:Inv Z E.nt J β st a w) (Y:CQ E roots ops draw st k=some r) (hQ:∀ st' a' w' J' β',Inv Z E.nt J' β' st' a' w'->k st'=some r->Q .normal a' w'):(Code.region id ops draw).wp E.P Q a w:=by
 unfold CQ at Y
 have done:∀{st':St}{tr:List Foot}{a':Act}{w':World}{J':Bool->Nat->Prop}{β':Bx},Inv Z E.nt J' β' st' a' w' ->
   cond (!draw||(V1 0 ops.toList&&LW tr.reverse (Fh ops.toList []) [])) ((clean (st'.s.map (·.1)) roots st').bind k) none=some r->Q .normal a' w':=by
  intro st' tr a' w' J' β' I' h'
  obtain⟨_,T⟩:=uc h'
  obtain⟨st2,V,h3⟩:=ub T
  obtain⟨β2,I2⟩:=qV I' V
  exact hQ _ _ _ _ _ I2 h3
 cases draw with
|false=>exact wp_region_list (fX hC _ I Y (fun st' tr' a' w' J' β' I' h'=>done I' h'))
| true =>
  obtain⟨fs,e,T,V⟩:=qh Y
  obtain⟨hc,h3⟩:=uc T
  simp at hc
  obtain⟨hfw,C⟩:=hc
  have D:=V.length
  refine wp_region_any hm ?_
  have I':Inv Z E.nt J β st a w.drew:=I.step (Step.drew I.sim) (fun b x hx hn=>by rw[hx]at hn;cases hn)
  have v:Fi ops (Array.replicate ops.size false)=vJ 0 ops.toList:=by
   unfold Fi
   refine Amd.2 (fun p hp=>?_)
   have:=(eY.1 hp).2
   have A:p.1<ops.size:=by
    simp at this
    exact(Aja.1 this).1
   simp[A]
  have G:(vJ 0 ops.toList).length=ops.size:=by
   have:∀(l:List Oper)(n:Nat),(vJ n l).length=l.length:=by
    intro l
    induction l with
    |nil=>intro n;rfl
    |cons o r ih=>intro n;simp[vJ,ih]
   rw[this];simp
  have L:RunF E ops (fun i=>fs.getD i {r:=[],w:=none,f:=[],u:=[]}) (vJ 0 ops.toList) st e:=V.runF (fun j f B=>by simp[B])
  refine w_ hC (fp:=fun i=>fs.getD i {r:=[],w:=none,f:=[],u:=[]}) (e:=e) hfw (fun i j o ho hji=>?_) (fun a' w' J' β' Ie=>done (tr:=fs.reverse++[]) Ie T) ops.size _ (by simp) (by rw[v,G]) (fun j o ho B=>?_) (by rw[v];exact L) I'
  ·have hi:i<fs.length:=by rw[D];simpa using(Aja.1 ho).1
   obtain⟨an,g1,g2⟩:=fe C i fs[i] (Ahk hi)
   refine⟨an,g1,?_⟩
   have B:j<fs.length:=by omega
   have:=g2 j fs[j] (by simp[B]) (by simpa using hji)
   simpa[hi,B]using this
  ·exfalso
   have A:j<ops.size:=(Aja.1 ho).1
   simp[A]at B
end
end Gx
namespace Gx
open Go
def SM(ρ:Nat->Nat):∀ c:LA,(T7 ρ c).length=c.length
|[]=>rfl
|x::r=>by rw[T7,Ah8,Ah8,SM ρ r]
def K8(ρ:Nat->Nat)(x:Blk):(L8 ρ x).cells.length=x.cells.length:=by
 unfold L8;cases x.pure
 ·simp;exact SM _ _
 ·rfl
def lZ{ρ:Nat->Nat}:∀{c:LA}{j:Nat}{y:AV},(T7 ρ c)[j]?=some y->∃ x,c[j]?=some x/\y=NB ρ x
|[],j,y,k=>by simp[T7]at k
|x::r,j,y,k=>by
  rw[T7]at k
  cases j with
  |zero=>simp at k;exact⟨x,by simp,k.symm⟩
  |succ j=>obtain⟨x',v,A⟩:=lZ (c:=r) (j:=j) (by simpa using k);exact⟨x',by simpa using v,A⟩
section
variable{R:Type}{r:R}{J J':Bool->Nat->Prop}{β β':Bx}{h h':Aw}{w w':World}{ids:List Nat}{ρ:Nat->Nat}
def Mc{g:A2}:∀{ids:List Nat},(ids.map ρ).Nodup->∀ c y,Al (sub g ρ ids) c=some y->∃ b x,b∈ids/\ρ b=c/\g b=some x/\y=L8 ρ x
|[],_,c,y,k=>by simp[sub,Al]at k
| b::r,hn,c,y,k=>by
  rw[Ah9,Aiz]at hn
  rw[sub]at k
  split at k
  ·rename_i x G
   rw[Ag]at k
   by_cases e:c=ρ b
   ·rw[if_pos e]at k;simp at k
    exact⟨b,x,by simp,e.symm,G,k.symm⟩
   ·rw[if_neg e]at k
    obtain⟨v,x',A,B,C,D⟩:=Mc hn.2 c y k
    exact⟨v,x',by simp[A],B,C,D⟩
  ·obtain⟨v,x',A,B,C,D⟩:=Mc hn.2 c y k
   exact⟨v,x',by simp[A],B,C,D⟩
def X1{g:A2}:∀{ids:List Nat},(ids.map ρ).Nodup->∀ b x,b∈ids->g b=some x->Al (sub g ρ ids) (ρ b)=some (L8 ρ x)
|[],_,b,x,k,_=>by simp at k
| B::r,hn,b,x,k,v=>by
  rw[Ah9,Aiz]at hn
  rw[sub]
  by_cases e:b=B
  ·subst e
   rw[v]
   simp only
   rw[Ag,if_pos rfl]
  ·have A:b∈r:=by simpa[e]using k
   have ne:ρ b≠ρ B:=fun h=>hn.1 (by rw[<-h];exact Aio.2 ⟨b,A,rfl⟩)
   split
   ·rw[Ag,if_neg ne];exact X1 hn.2 b x A v
   ·exact X1 hn.2 b x A v
def ya(ρ:Nat->Nat)(ids:List Nat)(c:Nat):Option Nat:=ids.find? fun b=>beq (ρ b) c
def yb(hn:(ids.map ρ).Nodup){b:Nat}(k:b∈ids):ya ρ ids (ρ b)=some b:=by
 induction ids with
|nil=>simp at k
| cons i r v =>
  rw[Ah9,Aiz]at hn
  unfold ya at v ⊢
  rw[List.find?_cons]
  by_cases e:b=i
  ·subst e;simp
  ·have A:b∈r:=by simpa[e]using k
   have ne:ρ i≠ρ b:=fun h=>hn.1 (by rw[h];exact Aio.2 ⟨b,A,rfl⟩)
   rw[HC ne];exact v hn.2 A
def GB(ρ:Nat->Nat)(ids:List Nat)(β:Bx):Bx:=fun c=>(ya ρ ids c).bind β
def Ft(hn:(ids.map ρ).Nodup){b:Nat}(k:b∈ids):GB ρ ids β (ρ b)=β b:=by unfold GB;rw[yb hn k];rfl
mutual
def Rep.ren(hn:(ids.map ρ).Nodup):∀{x:AV}{v:Value},(∀ b∈Fr x,b∈ids)->Rep J β h w x v->Rep J (GB ρ ids β) (sub (Al h) ρ ids) w (NB ρ x) v
|.own b off n,v,hm,hr=>by
  rw[Rep]at hr
  obtain⟨x,A,cap,⟨hx,hmp⟩,h1,h2,h3⟩:=hr
  have hb:=hm b (by simp[Fr])
  rw[NB,Rep]
  refine⟨L8 ρ x,A,cap,⟨X1 hn b x hb hx,hmp⟩,h1,h2,?_⟩
  rw[K8,Ft hn hb]
  exact h3
|.optr b off,v,hm,hr=>by
  rw[Rep]at hr
  obtain⟨x,k,o,⟨hx,hmp⟩,h1,h2⟩:=hr
  have hb:=hm b (by simp[Fr])
  rw[NB,Rep]
  refine⟨L8 ρ x,k,o,⟨X1 hn b x hb hx,hmp⟩,h1,?_⟩
  rw[Ft hn hb]
  exact h2
|.omap b,v,hm,hr=>by
  rw[Rep]at hr
  obtain⟨x,k,⟨hx,hmp⟩,h2⟩:=hr
  have hb:=hm b (by simp[Fr])
  rw[NB,Rep]
  refine⟨L8 ρ x,k,⟨X1 hn b x hb hx,hmp⟩,?_⟩
  rw[Ft hn hb]
  exact h2
|.agg c,v,hm,hr=>by
  rw[Rep]at hr
  obtain⟨cs,h1,h2⟩:=hr
  rw[NB,Rep]
  exact⟨cs,h1,Reps.ren hn (by simpa[Fr]using hm) h2⟩
|.tup c,v,hm,hr=>by
  rw[Rep]at hr
  obtain⟨cs,h1,h2⟩:=hr
  rw[NB,Rep]
  exact⟨cs,h1,Reps.ren hn (by simpa[Fr]using hm) h2⟩
|.fn f c,v,hm,hr=>by
  rw[Rep]at hr
  obtain⟨cs,h1,h2⟩:=hr
  rw[NB,Rep]
  exact⟨cs,h1,Reps.ren hn (by simpa[Fr]using hm) h2⟩
|.pagg c o,v,hm,hr=>by show Rep J _ _ w (.pagg c o) v;rw[Rep]at hr ⊢;exact hr
|.undef,v,hm,hr=>by show Rep J _ _ w .undef v;rw[Rep]at hr ⊢;exact hr
|.imm c n sz t o,v,hm,hr=>by show Rep J _ _ w (.imm c n sz t o) v;rw[Rep]at hr ⊢;exact hr
|.iptr c o,v,hm,hr=>by show Rep J _ _ w (.iptr c o) v;rw[Rep]at hr ⊢;exact hr
|.int k n,v,hm,hr=>by show Rep J _ _ w (.int k n) v;rw[Rep]at hr ⊢;exact hr
|.bool b,v,hm,hr=>by show Rep J _ _ w (.bool b) v;rw[Rep]at hr ⊢;exact hr
|.str s,v,hm,hr=>by show Rep J _ _ w (.str s) v;rw[Rep]at hr ⊢;exact hr
|.nsl,v,hm,hr=>by show Rep J _ _ w .nsl v;rw[Rep]at hr ⊢;exact hr
|.nilptr,v,hm,hr=>by show Rep J _ _ w .nilptr v;rw[Rep]at hr ⊢;exact hr
|.nilfn,v,hm,hr=>by show Rep J _ _ w .nilfn v;rw[Rep]at hr ⊢;exact hr
def Reps.ren(hn:(ids.map ρ).Nodup):∀{c:List AV}{cs:List Value},(∀ b∈Hc c,b∈ids)->Reps J β h w c cs->Reps J (GB ρ ids β) (sub (Al h) ρ ids) w (T7 ρ c) cs
|[],cs,hm,hr=>by rw[Reps]at hr;rw[T7,Reps];exact hr
|x::r,cs,hm,hr=>by
  rw[Reps]at hr
  obtain⟨u,us,h1,h2,h3⟩:=hr
  rw[T7,Reps]
  exact⟨u,us,h1,Rep.ren hn (fun b hb=>hm b (by simp[Hc,hb])) h2,Reps.ren hn (fun b hb=>hm b (by simp[Hc,hb])) h3⟩
end
def SimH.ren(S:SimH J β h w)(hn:(ids.map ρ).Nodup)(hin:∀ b∈Jp (Al h) ids,b∈ids):SimH J (GB ρ ids β) (sub (Al h) ρ ids) w:=by
 refine⟨S.jlt,S.jft,S.gl,fun c y G I hm=>?_,fun c y G I hm=>by
   obtain⟨b,x,A,rfl,C,rfl⟩:=Mc hn c y G
   obtain⟨D,L,k,ob,g3,g4,Y,g6⟩:=S.mblk b x C I hm
   have:(L8 ρ x).cells=x.cells:=by unfold L8;rw[D];rfl
   exact⟨D,L,k,ob,by rw[Ft hn A];exact g3,g4,by rw[ObjIs,show(L8 ρ x).sz=x.sz from rfl,this];exact Y,g6⟩,?_⟩
 ·obtain⟨b,x,A,rfl,C,rfl⟩:=Mc hn c y G
  rcases S.blk b x C I hm with⟨D,L⟩|⟨k,o,cs,ty,fr,D,L,g3,g4,Y,g6,g7⟩
  ·refine .inl ⟨by rw[Ft hn A];exact D,?_⟩
   have:=K8 ρ x;rw[L]at this;simpa using this
  ·refine .inr ⟨k,o,cs,ty,fr,by rw[Ft hn A];exact D,L,g3,by rw[K8];exact g4,⟨fun hp=>?_,fun hp j q hj=>?_⟩,g6,g7⟩
   ·have v:x.pure=true:=hp
    have:(L8 ρ x).cells=x.cells:=by unfold L8;rw[v];rfl
    rw[this];exact Y.1 v
   ·have v:x.pure=false:=hp
    have:(L8 ρ x).cells=T7 ρ x.cells:=by unfold L8;rw[v];rfl
    rw[this]at hj
    obtain⟨q',hq,rfl⟩:=lZ hj
    obtain⟨u,hu,hr,ho⟩:=Y.2 v j q' hq
    exact⟨u,hu,Rep.ren hn (fun T B=>hin T (WX A C v T (WY hq T B))) hr,ho⟩
 ·intro c c' y y' k o o' G hy' I hd' hs hβ V
  obtain⟨b,x,A,rfl,C,rfl⟩:=Mc hn c y G
  obtain⟨T,x',B,rfl,hx',rfl⟩:=Mc hn c' y' hy'
  rw[Ft hn A]at hβ
  rw[Ft hn B]at V
  rw[S.sep b T x x' k o o' C hx' I hd' hs hβ V]
def oA(hn:(ids.map ρ).Nodup){k:Nat}(A:qD (GB ρ ids β) (sub (Al h) ρ ids) k):qD β h k:=by
 obtain⟨c,y,o,B,C,hs,v⟩:=A
 obtain⟨b,x,D,rfl,G,rfl⟩:=Mc hn c y B
 rw[Ft hn D]at v
 exact⟨b,x,o,G,C,hs,v⟩
end
end Gx
namespace Gx
open Go
def M8{ids:List Nat}:∀{l:List Nat},FU ids l=true->∀ b∈l,b∈ids
|[],_,b,k=>by simp at k
|i::r,h,b,k=>by
  rw[FU]at h
  simp at h
  rcases Ah4.1 k with rfl|k
  ·exact Jr.1 h.1
  ·exact M8 h.2 b k
def Wo{d:Nat}:∀{l:List Nat}{base b:Nat},b∈l->base<=Hn d (Ar base l) b/\Hn d (Ar base l) b<base+l.length
|[],base,b,k=>by simp at k
| i::r,base,b,k=>by
  rw[Ar,Hn]
  cases hi:beq i b with
  |true=>simp
  | false =>
   have v:=T8 hi
   have A:b∈r:=by
    rcases Ah4.1 k with h|h
    ·exact absurd h.symm v
    ·exact h
   have:=Wo (d:=d) (base:=base+1) A
   simp only[cond_false,Ah8]
   omega
def ql{free ids:List Nat}{b:Nat}(h:AH free b=true):Wi free ids b=b:=by unfold Wi;rw[h];rfl
def oB{free ids:List Nat}{b:Nat}(h:AH free b=false)(k:b∈ids):300000<=Wi free ids b:=by
 unfold Wi yU;rw[h]
 exact(Wo (Ajp.2 ⟨k,by simp[h]⟩)).1
def ff{b:Nat}:fI b=true↔100000<=b/\b<200000:=by unfold fI;simp
def aS{free ids:List Nat}{b c:Nat}(v:b∈ids)(A:100000<=c/\c<200000)(k:Wi free ids b=c):b=c:=by
 cases hr:AH free b with
|true=>rw[ql hr]at k;exact k
|false=>have:=oB hr v;omega
def AN{ρ:Nat->Nat}{K:List Nat}:∀{s:Fq}{i:Nat},E7 (yV ρ K s) i=if Eo K i=true then NB ρ (E7 s i)else .undef
|[],i=>by
  show AV.undef=if Eo K i=true then NB ρ .undef else AV.undef
  simp[NB]
| (t,v)::r,i=>by
  rw[yV]
  by_cases e:t=i
  ·subst e
   cases k:Eo K t with
   |true=>simp[E7]
   |false=>simp only[cond_false];rw[AN];simp[k]
  ·have A:beq t i=false:=HC e
   cases k:Eo K t with
   |true=>simp only[cond_true,E7,A,cond_false];exact AN
   |false=>simp only[cond_false,E7,A];exact AN
def qn{g:A2}{l:List Nat}{b:Nat}(h:b∈Xy g l):∃ x,g b=some x/\x.dead=false:=by
 unfold Xy at h
 obtain⟨_,k⟩:=Ajp.1 h
 unfold E1 at k
 cases v:g b with
|none=>simp[v]at k
|some x =>
  cases A:x.dead with
  |false=>exact⟨x,rfl,A⟩
  |true=>simp[v,A]at k
section
variable{Z:Start}{nt:Nat}{J:Bool->Nat->Prop}{β:Bx}{st st':St}{a:Act}{w:World}
def AV.isz:AV->Nat
|.imm _ _ s _ _=>s
|_=>0
def Md{live:List Nat}:∀(nils:List (Nat×Nat)){st:St}{J:Bool->Nat->Prop}{β:Bx},Inv Z nt J β st a w->CS live nils st=some st'->∃ J' β',Inv Z nt J' β' st' a w
|[],st,J,β,I,k=>by simp[CS]at k;subst k;exact⟨J,β,I⟩
| (t,sz)::r,st,J,β,I,k=>by
  rw[CS]at k
  cases L:ble 1000000 sz with
  | true =>
   rw[L,cond_true]at k
   split at k
   ·rename_i hm hs
    refine Md r (J:=J) (β:=β) (st:={s:=PN st.s t (.imm [] 0 (sz - 1000000) false false),h:=st.h}) ?_ k
    refine {I with ss:=⟨fun i v C=>?_,fun i hi=>?_⟩}
    ·rw[Ma]
     by_cases e:i=t
     ·subst e
      have:=I.ss.slot i v C
      rw[hs,Rep]at this
      subst this
      rw[if_pos rfl,Rep,RepC]
      exact⟨by simp,none,0,rfl,Ahl _,fun _=>rfl,.inl rfl⟩
     ·rw[if_neg e];exact I.ss.slot i v C
    ·rw[Ma]
     by_cases e:i=t
     ·subst e
      have:=I.ss.out i hi
      rw[hs]at this;cases this
     ·rw[if_neg e];exact I.ss.out i hi
   ·rename_i b off n hm hs
    obtain⟨⟨v',ups,org⟩,T,h1⟩:=ub k
    by_cases V:∃ v,a.tmps[t]?=some v
    ·obtain⟨v0,Y⟩:=V
     have hr:=I.ss.slot t v0 Y
     rw[hs]at hr
     obtain⟨J1,A,D,_⟩:=IF I.sim (fun b x hb=>⟨x,hb,rfl⟩) T hr
     have I1:=I.step A (fun c x G hn=>by
      exfalso
      unfold NZ at T
      obtain⟨y,hy,B⟩:=ub T
      obtain⟨_,B⟩:=uc B
      simp at B
      obtain⟨_,B,_⟩:=B
      subst B
      simp only[Am,Ag]at G
      unfold E1 at hy
      obtain⟨y0,hy0,_⟩:=ub hy
      by_cases e:c=b
      ·subst e;rw[hn]at hy0;cases hy0
      ·rw[if_neg e,hn] at G;cases G)
     refine Md r (J:=J1) (β:=β) (st:={s:=PN st.s t v',h:=Am ups st.h}) ?_ h1
     have him:∃ c,v'=.imm c n v'.isz false org:=by
      unfold NZ at T
      obtain⟨y,hy,B⟩:=ub T
      obtain⟨_,B⟩:=uc B
      simp at B
      obtain⟨B,_,h3⟩:=B
      subst B h3
      exact⟨_,rfl⟩
     refine {I1 with ss:=⟨fun i v C=>?_,fun i hi=>?_⟩}
     ·rw[Ma]
      by_cases e:i=t
      ·subst e
       rw[if_pos rfl]
       rw[Y]at C;simp at C;subst C
       obtain⟨c,hc⟩:=him
       rw[hc]at D ⊢
       rw[Rep];exact D
      ·rw[if_neg e];exact I1.ss.slot i v C
     ·rw[Ma]
      by_cases e:i=t
      ·subst e
       have:=I.ss.out i hi
       rw[hs]at this;cases this
      ·rw[if_neg e];exact I1.ss.out i hi
    ·exfalso
     have:=I.ss.out t (by
      cases h:a.tmps[t]? with
      |none=>simp at h;omega
      | some v=>exact absurd ⟨v,h⟩ V)
     rw[hs]at this;cases this
   ·exact Md r I k
  | false =>
   rw[L,cond_false]at k
   split at k
   ·rename_i hm hs
    cases hf:Al st.h (nid t+15)with
    |some x=>simp[hf]at k
    | none =>
     simp[hf]at k
     have A:=Step.newNone I.sim (d:=nid t+15) (x:=E8 sz) hf rfl
     have I1:=I.step A (fun b x G hn=>by
      rw[Ag]at G
      by_cases e:b=nid t+15
      ·subst e;unfold nid Ga;omega
      ·rw[if_neg e,hn] at G;cases G)
     refine Md r (J:=J) (β:=fun b=>if b=nid t+15 then none else β b) (st:={s:=PN st.s t (.own (nid t+15) 0 0),h:=Ei st.h (nid t+15) (E8 sz)}) ?_ k
     refine {I1 with ss:=⟨fun i v C=>?_,fun i hi=>?_⟩}
     ·rw[Ma]
      by_cases e:i=t
      ·subst e
       rw[if_pos rfl,Rep]
       have:=I.ss.slot i v C
       rw[hs,Rep]at this
       subst this
       exact⟨E8 sz,none,0,⟨by rw[Ag,if_pos rfl],rfl⟩,rfl,Ahl _,.inl rfl⟩
      ·rw[if_neg e];exact I1.ss.slot i v C
     ·rw[Ma]
      by_cases e:i=t
      ·subst e
       have:=I.ss.out i hi
       rw[hs]at this;cases this
      ·rw[if_neg e];exact I1.ss.out i hi
   ·exact Md r I k
def IN{E:Env}{live roots:List Nat}(I:Inv Z nt J β st a w)(D:FW E live roots st=some st'):∃ J' β',Inv Z nt J' β' st' a w:=by
 unfold FW at D
 obtain⟨s1,V,Y⟩:=ub D
 obtain⟨J1,β1,I1⟩:=Md _ I V
 obtain⟨G,L⟩:=uc Y
 simp at G L
 subst L
 obtain⟨hn,hs,hi,_⟩:=G
 have hn:=Qr hn
 have B:∀ b∈Jp (Al s1.h) (Xy (Al s1.h) (Wf (Al s1.h) (fG live s1.s++roots))),b∈Xy (Al s1.h) (Wf (Al s1.h) (fG live s1.s++roots)):=M8 hi
 refine⟨J1,GB _ _ β1,{I1 with sim:=I1.sim.ren hn B,ss:=⟨fun i v hv=>?_,fun i hi=>?_⟩,wr:=fun k hm=>I1.wr k (oA hn hm),outs:=fun b x0 x C hx hd=>?_}⟩
 ·rw[AN]
  cases hk:Eo live i with
  |false=>simp[Rep]
  |true =>
   simp only[if_true]
   exact Rep.ren hn (fun b hb=>M8 hs b (fZ hk b hb)) (I1.ss.slot i v hv)
 ·rw[AN,I1.ss.out i hi];simp[NB]
 ·obtain⟨b',x',A,T,hg,rfl⟩:=Mc hn b x hx
  have:=aS A ⟨I1.zge b x0 C,I1.zlt b x0 C⟩ T
  subst this
  obtain⟨⟨e1,em⟩,e2,e3,e4⟩:=I1.outs b' x0 x' C hg hd
  refine⟨⟨?_,em⟩,e2,by rw[K8];exact e3,e4⟩
  have:=Ft (β:=β1) hn A
  rw[T]at this
  rw[this];exact e1
end
end Gx
namespace Gx
open Go
section
variable{R:Type}{r:R}{Z:Start}{E:Env}
def qo(hC:PU E)(hm:E.P.follows .mixedOrders=true){roots:List Nat}{N:Nat}:∀(c:Code){H:Hint}{kn:St->O R}{kx:Nat->St->O R}{kr:St->O R}{st:St}{a:Act}{w:World}{J:Bool->Nat->Prop}{β:Bx}{Q:Exit->Act->World->Prop},
  Inv Z E.nt J β st a w->C1 E roots N c H kn kx kr st=some r ->
  (∀ st' a' w' J' β',Inv Z E.nt J' β' st' a' w'->kn st'=some r->Q .normal a' w') ->
  (∀ id st' a' w' J' β',Inv Z E.nt J' β' st' a' w'->kx id st'=some r->Q (.exit id) a' w') ->
  (∀ st' a' w' J' β',Inv Z E.nt J' β' st' a' w'->kr st'=some r->Q .ret a' w')->c.wp E.P Q a w:=by
 intro c
 induction c with
|skip=>intro H kn kx kr st a w J β Q I v hn A hr;exact wp_skip (hn _ _ _ _ _ I v)
|region id ops draw=>intro H kn kx kr st a w J β Q I v hn A hr;exact jn hC hm I v hn
| seq x y C B =>
  intro H kn kx kr st a w J β Q I v hn A hr
  rw[C1]at v
  refine wp_seq (C I v (fun st' a' w' J' β' I' h'=>?_) (fun id st' a' w' J' β' I' h'=>A id st' a' w' J' β' I' h') (fun st' a' w' J' β' I' h'=>hr st' a' w' J' β' I' h'))
  unfold qA at h'
  cases D:H.isJoin with
  |true =>
   rw[D,cond_true,Rt]at h'
   obtain⟨s2,G,L⟩:=ub h'
   obtain⟨J2,β2,I2⟩:=IN I' G
   exact B I2 L hn A hr
  |false=>rw[D]at h';exact B I' h' hn A hr
| cond c x y C B =>
  intro H kn kx kr st a w J β Q I v hn A hr
  rw[C1]at v
  split at v
  ·rename_i t ht
   have Y:=A3 I.ss c
   rw[ht,Rep]at Y
   refine wp_cond Y ?_
   cases t with
   |true=>exact C I v hn A hr
   |false=>exact B I v hn A hr
  ·simp at v
| block id c T =>
  intro H kn kx kr st a w J β Q I v hn A hr
  rw[C1]at v
  refine wp_block (T I v (fun st' a' w' J' β' I' h'=>hn _ _ _ _ _ I' h') (fun j st' a' w' J' β' I' h'=>?_) (fun st' a' w' J' β' I' h'=>hr _ _ _ _ _ I' h'))
  cases D:beq j id with
  |true =>
   rw[D]at h'
   have:=Aht D
   subst this
   simp only[Exit.inBlock,if_true]
   exact hn _ _ _ _ _ I' h'
  |false =>
   rw[D]at h'
   simp only[Exit.inBlock]
   rw[if_neg (T8 D)]
   exact A _ _ _ _ _ _ I' h'
| loop c T =>
  intro H kn kx kr st a w J β Q I v hn A hr
  rw[C1,Rt]at v
  refine wp_loop_rounds N ?_
  have key:∀(n:Nat){st:St}{a:Act}{w:World}{J:Bool->Nat->Prop}{β:Bx},Inv Z E.nt J β st a w->FX (FW E H.live roots) (fun k st=>C1 E roots N c H.a k kx kr st) n st=some r->Code.rounds E.P c Q n a w:=by
   intro n
   induction n with
   |zero=>intro st a w J β I h';simp[FX]at h'
   |succ n V =>
    intro st a w J β I h'
    rw[FX]at h'
    rw[rounds_succ]
    refine T I h' (fun st' a' w' J' β' I' h''=>?_) (fun id st' a' w' J' β' I' h''=>A _ _ _ _ _ _ I' h'') (fun st' a' w' J' β' I' h''=>hr _ _ _ _ _ I' h'')
    obtain⟨s2,G,L⟩:=ub h''
    obtain⟨J2,β2,I2⟩:=IN I' G
    exact V I2 L
  obtain⟨s2,G,L⟩:=ub v
  obtain⟨J2,β2,I2⟩:=IN I G
  exact key N I2 L
|exit id=>intro H kn kx kr st a w J β Q I v hn A hr;exact wp_exit (A _ _ _ _ _ _ I v)
|ret=>intro H kn kx kr st a w J β Q I v hn A hr;exact wp_ret (hr _ _ _ _ _ I v)
|rangeFunc=>intro H kn kx kr st a w J β Q I v;simp[C1]at v
|scope c T =>
  intro H kn kx kr st a w J β Q I v hn A hr
  rw[C1]at v
  exact wp_scope_straight (T I v (fun st' a' w' J' β' I' h'=>hn _ _ _ _ _ I' h') (fun id st' a' w' J' β' I' h'=>A _ _ _ _ _ _ I' h') (fun st' a' w' J' β' I' h'=>hr _ _ _ _ _ I' h'))
|label =>
  intro H kn kx kr st a w J β Q I v hn A hr
  rw[C1]at v
  exact wp_label (hn _ _ _ _ _ I v)
|goto=>intro H kn kx kr st a w J β Q I v;simp[C1]at v
|refuse=>intro H kn kx kr st a w J β Q I v;simp[C1]at v
end
end Gx
namespace Gx
open Go
structure FDone(Z:Start)(J:Bool->Nat->Prop)(β:Bx)(h:Aw)(w:World):Prop where
 sim:SimH J β h w
 os:w.os=Z.w.os
 tape:w.tape=Z.w.tape
 output:w.output=Z.w.output
 size:Z.w.heap.size<=w.heap.size
 frame:∀ k,k<Z.w.heap.size->¬ qD Z.β Z.h k->w.heap[k]?=Z.w.heap[k]?
 wr:∀ k,qD β h k->k<Z.w.heap.size->qD Z.β Z.h k
 jsub:∀ o k,Z.J o k->J o k
 jup:∀ o k,J o k->Z.J o k\/qD Z.β Z.h k\/Z.w.heap.size<=k
 sizes:∀ k,Ay Z.w k<=Ay w k
 outs:∀ b x0 x,Al Z.h b=some x0->Al h b=some x->x.dead=false->(β b=Z.β b/\x.mp=x0.mp)/\x.sz=x0.sz/\(x0.mp=false->x.cells.length=x0.cells.length)/\x0.dead=false
 live:∀ b x,Al h b=some x->x.dead=false
def Aar(P:Program)(f:Nat)(args:LA)(h:Aw)(res:AV)(h':Aw):Prop :=
 ∀(J:Bool->Nat->Prop)(β:Bx)(w:World)(vs:List Value),SimH J β h w->Reps J β h w args vs ->
  Calls P f vs.toArray w fun e w'=>∃ vc J' β',e=.returned vc/\FDone ⟨J,β,h,w⟩ J' β' h' w'/\Rep J' β' h' w' res vc
def oC(P:Program)(f:Nat)(t:Tw):Prop:=∀ args h res h',(t.runK args h fun v h'=>some (v,h'))=some (res,h')->Aar P f args h res h'
def fg(P:Program):List (Nat×Tw)->Prop
|[]=>True
|p::r=>oC P p.1 p.2/\fg P r
def qp{P:Program}{R:Type}{r:R}:∀{T:List (Nat×Tw)},fg P T->∀{f:Nat}{v:LA}{h:Aw}{k:AV->Aw->O R},RY T f v h k=some r ->
  ∃ res h',Aar P f v h res h'/\k res h'=some r
|[],_,f,v,h,k,A=>by simp[RY]at A
| (g,t)::T,hT,f,v,h,k,A=>by
  rw[RY]at A
  cases B:beq g f with
  |false=>rw[B]at A;exact qp hT.2 A
  |true =>
   rw[B]at A
   have:=Aht B
   subst this
   simp only[cond_true]at A
   rw[t.eq]at A
   obtain⟨⟨res,h'⟩,C,D⟩:=ub A
   exact⟨res,h',hT.1 v h res h' C,D⟩
section
variable{R:Type}{r:R}{Z:Start}{nt:Nat}{J:Bool->Nat->Prop}{β:Bx}{st:St}{a:Act}{w:World}
def SN(tmps:Array Value):ResultVar->Sem Value
|.tmp t=>pure (tmps.getD t undef)
|.cell a t=>do loadVar t (<-Go.asAddr (tmps.getD a undef))
def yc{α β:Type}(f:α->Sem β)(xs:Array α):xs.mapM f=(List.toArray <$> xs.toList.mapM f):=by rw[<-List.mapM_toArray]
def tS(fn:Func)(tmps:Array Value):results fn tmps=(do let vs <-fn.results.mapM (SN tmps);pure (if h:vs.size=1 then vs[0]else .tuple vs)):=by
 unfold results
 congr 1
def qq(l:List Value):Value:=match l with|[v]=>v|l=>.tuple l.toArray
def qr{P:Program}(fn:Func)(tmps:Array Value){vs:List Value}(h:(fn.results.toList.mapM (SN tmps)).run P w=.ok vs w):(results fn tmps).run P w=.ok (qq vs) w:=by
 rw[tS,yc]
 simp only[map_eq_pure_bind,Sem.run_bind,h,Result.andThen_ok,Sem.run_pure]
 congr 1
 match vs with
|[]=>rfl
|[v]=>rfl
|v::u::r=>simp[qq]
def qt{P:Program}{t:TypeId}{v vc:Value}(h:(Instr.loadAt t v).run P w=.ok vc w):(do loadVar t (<-Go.asAddr v):Sem Value).run P w=.ok vc w:=by
 unfold Instr.loadAt at h
 cases v with
|pointer a =>
  cases a with
  |some a=>exact h
  |none=>simp[Instr.sureAddr]at h
|_=>simp[Instr.sureAddr]at h
def Zp{E:Env}(S:SimH J β st.h w)(SS:SimS J β st.h w st.s a.tmps):∀(l:List ResultVar){A:LA}{k:LA->O R},L9 E st l A k=some r ->
  ∃ vals vs,k (A.reverse++vals)=some r/\(l.mapM (SN a.tmps)).run E.P w=.ok vs w/\Reps J β st.h w vals vs
|[],A,k,B=>⟨[],[],by simpa[L9]using B,by simp,by rw[Reps]⟩
|.tmp t::l,A,k,B=>by
  rw[L9]at B
  obtain⟨vals,vs,C,D,G⟩:=Zp S SS l B
  refine⟨E7 st.s t::vals,a.tmps.getD t undef::vs,by simpa using C,?_,by rw[Reps];exact⟨_,_,rfl,A3 SS (.tmp t),G⟩⟩
  simp only[Anl,SN,Sem.run_bind,Sem.run_pure,Result.andThen_ok,D]
|.cell ad t::l,A,k,B=>by
  rw[L9]at B
  obtain⟨v,vc,I,C,D⟩:=aD S (fun _ _ h=>h) B (A3 SS (.tmp ad))
  obtain⟨vals,vs,G,L,T⟩:=Zp S SS l I
  refine⟨v::vals,vc::vs,by simpa using G,?_,by rw[Reps];exact⟨_,_,rfl,D,T⟩⟩
  have:(SN a.tmps (.cell ad t)).run E.P w=.ok vc w:=qt C
  simp only[Anl,Sem.run_bind,this,Sem.run_pure,Result.andThen_ok,L]
def tT{i:Nat}{m:Nat×Nat}{v v':AV}{ups:Dc}{vc:Value}{h:Aw}(S:SimH J β h w)(k:Ac2 (Al h) i m v=some (v',ups))(B:Rep J β h w v vc):
  ∃ J' β',Step J β h w J' β' (Am ups h) w/\Rep J' β' (Am ups h) w v' vc/\(∀ b x,Al (Am ups h) b=some x->Al h b=none->Ga<=b):=by
 have old:∀{ups:Dc},(∀ b,A0 ups b=true->∃ x,Al h b=some x)->∀ b x,Al (Am ups h) b=some x->Al h b=none->Ga<=b:=by
  intro ups hu b x C hn
  cases hi:A0 ups b with
  |true=>obtain⟨y,hy⟩:=hu b hi;rw[hy]at hn;cases hn
  |false=>rw[Bk _ _ _ hi,hn]at C;cases C
 unfold Ac2 at k
 cases T:beq m.1 0 with
|true =>
  rw[T]at k;simp at k
  obtain⟨rfl,rfl⟩:=k
  exact⟨J,β,Step.refl S,B,old (by simp[A0])⟩
| false =>
  rw[T,cond_false]at k
  cases V:beq m.1 1 with
  | true =>
   rw[V,cond_true]at k
   split at k
   ·simp at k;obtain⟨rfl,rfl⟩:=k
    rw[Rep]at B;subst B
    refine⟨J,β,Step.refl S,?_,old (by simp[A0])⟩
    rw[Rep,RepC]
    exact⟨by simp,none,0,rfl,Ahl _,by simp,.inl rfl⟩
   ·simp at k;obtain⟨rfl,rfl⟩:=k
    refine⟨J,β,Step.refl S,?_,old (by simp[A0])⟩
    rw[Rep,RepC]at B ⊢
    obtain⟨e1,A,cap,e2,e3,e4,e5⟩:=B
    exact⟨e1,A,cap,e2,e3,by simp,e5⟩
   ·obtain⟨⟨q1,q2,q3⟩,hq,G⟩:=ub k
    simp at G;obtain⟨rfl,rfl⟩:=G
    obtain⟨J',A,hA,_⟩:=IF S (Looks.s fun _ _ h=>h) hq B
    refine⟨J',β,A,?_,old (lS hq)⟩
    unfold NZ at hq
    obtain⟨x,C,D⟩:=ub hq
    obtain⟨_,Y⟩:=uc D
    simp at Y
    obtain⟨rfl,rfl,rfl⟩:=Y
    rw[Rep];exact hA
   ·simp at k
  | false =>
   rw[V,cond_false]at k
   cases G:beq m.1 2 with
   | true =>
    rw[G,cond_true]at k
    split at k
    ·obtain⟨hn,D⟩:=sn k
     simp at D;obtain⟨rfl,rfl⟩:=D
     have L:Al h (nid 90000+i)=none:=by cases C:Al h (nid 90000+i)<;>simp_all
     have A:=Step.newNone S (x:=E8 m.2) L rfl
     refine⟨J,fun b=>if b=nid 90000+i then none else β b,A,?_,fun b x C hb=>?_⟩
     ·rw[Rep]at B;subst B;rw[Rep]
      exact⟨E8 m.2,none,0,⟨by simp only[Am];rw[Ag,if_pos rfl],rfl⟩,rfl,Ahl _,.inl rfl⟩
     ·simp only[Am]at C
      rw[Ag]at C
      by_cases e:b=nid 90000+i
      ·subst e;unfold nid Ga;omega
      ·rw[if_neg e,hb]at C;cases C
    ·simp at k;obtain⟨rfl,rfl⟩:=k
     exact⟨J,β,Step.refl S,B,old (by simp[A0])⟩
   | false =>
    rw[G,cond_false]at k
    split at k
    ·rename_i c
     obtain⟨⟨q1,q2,q3⟩,hq,D⟩:=ub k
     simp at D;obtain⟨rfl,rfl⟩:=D
     rw[Rep]at B
     obtain⟨cs,rfl,hc⟩:=B
     obtain⟨J',A,hA,I,_⟩:=O1 S (Looks.s fun _ _ h=>h) hq hc
     refine⟨J',β,A,?_,old (Wj hq)⟩
     rw[Rep]
     exact⟨cs,rfl,I.symm,hA⟩
    ·simp at k;obtain⟨rfl,rfl⟩:=k
     exact⟨J,β,Step.refl S,B,old (by simp[A0])⟩
    ·simp at k
def aT{s:Fq}:∀(vals:LA){i:Nat}{ms:List (Nat×Nat)}{h h':Aw}{vals':LA}{vs:List Value}{J:Bool->Nat->Prop}{β:Bx},
  Inv Z nt J β {s:=s,h:=h} a w->qB h i ms vals=some (vals',h')->Reps J β h w vals vs ->
  ∃ J' β',Inv Z nt J' β' {s:=s,h:=h'} a w/\Reps J' β' h' w vals' vs/\∀ x v,Rep J β h w x v->Rep J' β' h' w x v
|[],i,ms,h,h',vals',vs,J,β,I,k,C=>by
  simp[qB]at k;obtain⟨rfl,rfl⟩:=k
  exact⟨J,β,I,C,fun _ _ h=>h⟩
|v::r,i,ms,h,h',vals',vs,J,β,I,k,C=>by
  rw[qB]at k
  obtain⟨⟨v1,u1⟩,V,Y⟩:=ub k
  obtain⟨⟨r2,hr⟩,h3,L⟩:=ub Y
  simp at L;obtain⟨rfl,rfl⟩:=L
  rw[Reps]at C
  obtain⟨u,us,rfl,D,G⟩:=C
  obtain⟨J1,β1,A,hA,B⟩:=tT I.sim V D
  have I1:=I.step A B
  obtain⟨J2,β2,I2,hB,T⟩:=aT r I1 h3 (Reps.ext A.ext G)
  refine⟨J2,β2,I2,?_,fun x v h=>T x v (Rep.ext A.ext h)⟩
  rw[Reps]
  exact⟨u,us,rfl,T _ _ hA,hB⟩
def jo{E:Env}{fn:Func}{modes:List (Nat×Nat)}{outs:List Nat}{k:AV->Aw->O R}(I:Inv Z nt J β st a w)(Y:Ru E fn modes outs k st=some r):
  ∃ res h' vc J' β',k res h'=some r/\(results fn a.tmps).run E.P w=.ok vc w/\FDone Z J' β' h' w/\Rep J' β' h' w res vc:=by
 unfold Ru at Y
 obtain⟨vals,vs,h1,h2,h3⟩:=Zp I.sim I.ss _ Y
 simp only[List.reverse_nil,Ajy]at h1
 obtain⟨⟨vals',h'⟩,h4,h5⟩:=ub h1
 obtain⟨J1,β1,I1,hR,_⟩:=aT (s:=st.s) vals I h4 h3
 obtain⟨hc,h6⟩:=uc h5
 simp at hc
 obtain⟨hn,hs,hi,_⟩:=hc
 have hn:=Qr hn
 have C:=M8 hi
 have hs:=M8 hs
 refine⟨_,_,qq vs,J1,GB _ _ β1,h6,qr fn a.tmps h2,?_,Rep.ren hn hs ?_⟩
 ·exact⟨I1.sim.ren hn C,I1.os,I1.tape,I1.output,I1.size,I1.frame,fun k hm=>I1.wr k (oA hn hm),I1.jsub,I1.jup,I1.sizes,fun b x0 x D G hd=>by
   obtain⟨b',x',B,L,T,rfl⟩:=Mc hn b x G
   have:=aS B ⟨I1.zge b x0 D,I1.zlt b x0 D⟩ L
   subst this
   obtain⟨⟨e1,em⟩,e2,e3,e4⟩:=I1.outs b' x0 x' D T hd
   refine⟨⟨?_,em⟩,e2,by rw[K8];exact e3,e4⟩
   have:=Ft (β:=β1) hn B
   rw[L]at this
   rw[this];exact e1,fun b x G=>by
   obtain⟨b',x',B,L,T,rfl⟩:=Mc hn b x G
   obtain⟨x2,V,h8⟩:=qn B
   rw[T] at V;simp at V;subst V;exact h8⟩
 ·match vals',vs,hR with
  |[],vs,hR=>rw[Reps]at hR;subst hR;simp only[qq,Ac3];rw[Rep];exact⟨[],rfl,by rw[Reps]⟩
  |[v],vs,hR =>
   rw[Reps]at hR
   obtain⟨u,us,rfl,hu,A⟩:=hR
   rw[Reps]at A;subst A
   exact hu
  |v::v2::l,vs,hR =>
   have hR':=hR
   rw[Reps]at hR
   obtain⟨u,us,rfl,hu,A⟩:=hR
   rw[Reps]at A
   obtain⟨u2,us2,rfl,_,_⟩:=A
   simp only[qq,Ac3]
   rw[Rep]
   exact⟨_,rfl,hR'⟩
end
end Gx
namespace Gx
open Go
section
variable{J J':Bool->Nat->Prop}{β:Bx}{h:Aw}{w:World}
mutual
def Rep.noOrg:∀{x:AV}{v:Value},Zj x=false->Rep J β h w x v->Rep (fun _=>J false) β h w x v
|.own ..,v,_,hr=>by rw[Rep]at hr ⊢;exact hr
|.optr ..,v,_,hr=>by rw[Rep]at hr ⊢;exact hr
|.omap ..,v,_,hr=>by rw[Rep]at hr ⊢;exact hr
|.pagg c o,v,ho,hr=>by
  rw[Zj]at ho;subst ho
  rw[Rep]at hr ⊢;exact hr
|.agg c,v,ho,hr=>by
  rw[Zj]at ho
  rw[Rep]at hr ⊢
  obtain⟨cs,h1,h2⟩:=hr
  exact⟨cs,h1,Reps.noOrg ho h2⟩
|.tup c,v,ho,hr=>by
  rw[Zj]at ho
  rw[Rep]at hr ⊢
  obtain⟨cs,h1,h2⟩:=hr
  exact⟨cs,h1,Reps.noOrg ho h2⟩
|.fn f c,v,ho,hr=>by
  rw[Zj]at ho
  rw[Rep]at hr ⊢
  obtain⟨cs,h1,h2⟩:=hr
  exact⟨cs,h1,Reps.noOrg ho h2⟩
|.undef,_,_,_=>by rw[Rep];trivial
|.imm c n sz t o,v,ho,hr=>by
  rw[Zj]at ho;subst ho
  rw[Rep]at hr ⊢;exact hr
|.iptr c o,v,ho,hr=>by
  rw[Zj]at ho;subst ho
  rw[Rep]at hr ⊢;exact hr
|.int ..,v,_,hr=>by rw[Rep]at hr ⊢;exact hr
|.bool _,v,_,hr=>by rw[Rep]at hr ⊢;exact hr
|.str _,v,_,hr=>by rw[Rep]at hr ⊢;exact hr
|.nsl,v,_,hr=>by rw[Rep]at hr ⊢;exact hr
|.nilptr,v,_,hr=>by rw[Rep]at hr ⊢;exact hr
|.nilfn,v,_,hr=>by rw[Rep]at hr ⊢;exact hr
def Reps.noOrg:∀{c:List AV}{cs:List Value},Rs c=false->Reps J β h w c cs->Reps (fun _=>J false) β h w c cs
|[],_,_,hr=>by rw[Reps]at hr ⊢;exact hr
|x::r,cs,ho,hr=>by
  rw[Rs]at ho
  simp at ho
  rw[Reps]at hr ⊢
  obtain⟨u,us,h1,h2,h3⟩:=hr
  exact⟨u,us,h1,Rep.noOrg ho.1 h2,Reps.noOrg ho.2 h3⟩
end
def fh:∀{c:LA}{j:Nat}{x:AV},Rs c=false->c[j]?=some x->Zj x=false
|[],j,x,_,k=>by simp at k
|y::r,j,x,v,k=>by
  rw[Rs]at v
  simp at v
  cases j with
  |zero=>simp at k;subst k;exact v.1
  |succ j=>exact fh v.2 (by simpa using k)
def fj:∀{h:Aw}{b:Nat}{x:Blk},RZ h=false->Al h b=some x->x.taint=false/\(x.pure=false->Rs x.cells=false)
|[],b,x,_,k=>by simp[Al]at k
| (i,y)::r,b,x,v,k=>by
  rw[RZ]at v
  simp at v
  rw[Al]at k
  cases hi:beq i b with
  |true =>
   rw[hi]at k;simp at k;subst k
   refine⟨v.1.1,fun A=>?_⟩
   have:=v.1.2
   rw[A]at this;simpa using this
  |false=>rw[hi]at k;exact fj v.2 (by simpa using k)
def SimH.noOrg(S:SimH J β h w)(ho:RZ h=false):SimH (fun _=>J false) β h w:=by
 refine⟨fun _ k v=>S.jlt _ k v,fun k v=>v,S.gl.to (fun _ h=>h) (fun _ _=>rfl),fun b x A C D=>?_,fun b x A C D=>by
   obtain⟨G,I,k,ob,L,g4,g5,g6⟩:=S.mblk b x A C D
   exact⟨G,I,k,ob,L,g4,g5,fun _ hg=>g6 false hg⟩,S.sep⟩
 obtain⟨V,hc⟩:=fj ho A
 rcases S.blk b x A C D with T|⟨k,o,cs,ty,fr,T,h2,h3,h4,Y,h6,h7⟩
 ·exact .inl T
 ·refine .inr ⟨k,o,cs,ty,fr,T,h2,h3,h4,⟨fun B=>?_,fun B j c v=>?_⟩,fun hs _=>h6 hs _,fun hs=>?_⟩
  ·have:=Y.1 B;rw[V]at this;exact this
  ·obtain⟨u,G,I,L⟩:=Y.2 B j c v
   exact⟨u,G,Rep.noOrg (fh (hc B) v) I,L⟩
  ·have:=h7 hs;rw[V]at this;exact this
def Ext.grow(hJ:∀ o k,J o k->J' o k):Ext J β h w J' β h w:=⟨hJ,fun _ _ _=>rfl,fun b x v=>⟨x,⟨v,rfl⟩,by cases A:x.dead<;>simp⟩,fun _ _ _ _=>Ahl _⟩
def SimH.grow(S:SimH J β h w)(hJ:∀ o k,J o k->J' o k)(D:∀ o k,J' o k->k<w.heap.size)(G:∀ k,J' false k->J' true k)
  (v:∀ b x k o,Al h b=some x->x.dead=false->x.sealed=false->β b=some (k,o)->∀ g,¬ J' g k):SimH J' β h w:=by
 refine⟨D,G,S.gl.to (hJ false) (fun _ _=>rfl),fun b x A B I=>?_,fun b x A B I=>by
   obtain⟨V,L,k,ob,T,Y,g5,g6⟩:=S.mblk b x A B I
   exact⟨V,L,k,ob,T,Y,g5,v b x k 0 A B L T⟩,S.sep⟩
 rcases S.blk b x A B I with C|⟨k,o,cs,ty,fr,C,h2,h3,h4,h5,h6,h7⟩
 ·exact .inl C
 ·exact .inr ⟨k,o,cs,ty,fr,C,h2,h3,h4,h5.ext (Ext.grow hJ),fun hs=>v b x k o A B hs C,fun hs=>hJ _ _ (h7 hs)⟩
def Ad9(β:Bx)(h:Aw)(fz:List Nat)(k:Nat):Prop:=∃ b x o,b∈fz/\Al h b=some x/\x.dead=false/\x.sealed=false/\β b=some (k,o)
def JS(J:Bool->Nat->Prop)(β:Bx)(h:Aw)(fz:List Nat):Bool->Nat->Prop:=fun o k=>J o k\/(o=true/\Ad9 β h fz k)
def fk{g:A2}{b off n:Nat}{x:Blk}{vc:Value}{fz:List Nat}(S:SimH J β h w)(Y:Looks g h)(v:E1 g b=some x)(hp:x.pure=true)(hf:x.sealed=false->b∈fz)(T:Rep J β h w (.own b off n) vc):
  Rep (JS J β h fz) β h w (.imm ((x.cells.drop off).take (n*x.sz)) n x.sz false (!x.sealed||x.taint)) vc:=by
 unfold E1 at v
 obtain⟨x0,G,v⟩:=ub v
 obtain⟨I,v⟩:=sn v
 simp at v;subst v
 have D:=Y b _ G
 rw[Rep]
 have key:=(vD (J':=fun o k=>o≠x0.taint\/JS J β h fz (!x0.sealed||x0.taint) k) S D I hp T (fun k o L=>.inr ?_) (fun o k B=>?_) false (!x0.sealed||x0.taint)).2 (by simp)
 ·exact RepC.keep (fun k C=>by rcases C with C|C;exact absurd rfl C;exact C) (fun _ _=>rfl) key
 ·cases hs:x0.sealed with
  |false =>
   simp only[Ajn,Akm]
   exact .inr ⟨rfl,b,x0,o,hf hs,D,I,hs,L⟩
  | true =>
   simp only[Akq,Ald]
   rcases S.blk b x0 D I (yX D T)with⟨A,_⟩|⟨k',o',cs,ty,fr,A,h2,h3,h4,h5,h6,h7⟩
   ·rw[L]at A;cases A
   ·rw[L]at A;simp at A;obtain⟨rfl,rfl⟩:=A
    exact .inl (h7 hs)
 ·by_cases e:o=x0.taint
  ·subst e
   right
   cases hs:x0.sealed with
   |false =>
    simp only[Ajn,Akm]
    left
    cases V:x0.taint with
    |false=>rw[V]at B;exact S.jft k B
    |true=>rw[V]at B;exact B
   |true=>simp only[Akq,Ald];exact .inl B
  ·exact .inl e
def JS.mono(S:SimH J β h w){fz:List Nat}{a b:Bool}(k:Nat)(v:JS J β h fz a k):JS J β h fz (a||b) k:=by
 cases a
 ·cases b
  ·exact v
  ·rcases v with v|⟨A,_⟩
   ·exact .inl (S.jft k v)
   ·cases A
 ·exact v
def jq{g:A2}{v v':AV}{o:Bool}{vc:Value}{fz:List Nat}(S:SimH J β h w)(V:Looks g h)(B:CN g v=some (v',o))(Y:∀ b off n x,v=.own b off n->g b=some x->x.sealed=false->b∈fz)(D:Rep J β h w v vc):
  RepC (JS J β h fz o) w v' vc:=by
 cases v
 case own b off n =>
  rw[CN]at B
  obtain⟨x,C,h1⟩:=ub B
  obtain⟨hp,T⟩:=uc h1
  simp at T
  obtain⟨rfl,rfl⟩:=T
  have:=fk S V C hp (fun hs=>by
   unfold E1 at C
   obtain⟨x0,G,C⟩:=ub C
   obtain⟨hd,C⟩:=sn C
   simp at C;subst C
   exact Y b off n x0 rfl G hs) D
  rw[Rep]at this;exact this
 case imm c n sz t org =>
  simp[CN]at B;obtain⟨rfl,rfl⟩:=B
  rw[Rep,RepC]at D
  rw[RepC]
  obtain⟨e1,A,cap,e2,e3,e4,I⟩:=D
  refine⟨e1,A,cap,e2,e3,by simp,?_⟩
  rcases I with I|⟨a,e6,e7,e8⟩
  ·exact .inl I
  ·exact .inr ⟨a,e6,.inl e7,RepCs.keep (fun k L=>.inl L) (fun _ _=>rfl) (fun _=>rfl) e8⟩
 case iptr c org =>
  simp[CN]at B;obtain⟨rfl,rfl⟩:=B
  rw[Rep]at D
  exact RepC.keep (fun k L=>.inl L) (fun _ _=>rfl) D
 all_goals first
  |(simp[CN]at B;done)
  |(simp[CN]at B;obtain⟨rfl,rfl⟩:=B;rw[Rep]at D;rw[RepC];exact D)
def IP{g:A2}{fz:List Nat}(S:SimH J β h w)(T:Looks g h):∀{c c':LA}{o:Bool}{cs:List Value},H' g c=some (c',o)->(∀ b∈Ik g c,b∈fz)->Reps J β h w c cs ->
  cs.length=c'.length/\∀(j:Nat)(x:AV),c'[j]?=some x->∃ u,cs[j]?=some u/\RepC (JS J β h fz o) w x u
|[],c',o,cs,A,D,B=>by
  simp[H']at A;obtain⟨rfl,rfl⟩:=A
  rw[Reps]at B;subst B
  exact⟨rfl,fun j x C=>by simp at C⟩
| v::r,c',o,cs,A,D,B=>by
  rw[H']at A
  obtain⟨⟨v1,o1⟩,V,A⟩:=ub A
  obtain⟨⟨r1,o2⟩,Y,A⟩:=ub A
  simp at A;obtain⟨rfl,rfl⟩:=A
  rw[Reps]at B
  obtain⟨u,us,rfl,g1,g2⟩:=B
  have G:∀ b ∈ Ik g r,b ∈ fz:=fun b I=>D b (by
   cases v<;>simp only[Ik]<;>try exact I
   split
   ·rename_i x _;cases x.sealed<;>simp[I]
   ·exact I)
  have a1:=jq (fz:=fz) S T V (fun b off n x e hx hs=>D b (by subst e;simp[Ik,hx,hs])) g1
  obtain⟨b1,b2⟩:=IP S T Y G g2
  refine⟨by simp[b1],fun j x C=>?_⟩
  cases j with
  |zero=>simp at C;subst C;exact⟨u,by simp,RepC.keep (fun k L=>JS.mono S k L) (fun _ _=>rfl) a1⟩
  |succ j =>
   obtain⟨u',e1,e2⟩:=b2 j x (by simpa using C)
   exact⟨u',by simpa using e1,RepC.keep (fun k L=>by rw[Am6];exact JS.mono S k L) (fun _ _=>rfl) e2⟩
def jr{g:A2}{v v':AV}{q:Bool}{vc:Value}{fz:List Nat}(S:SimH J β h w)(hl:Looks g h)(C:nU g v=some (v',q))(hf:∀ b∈AD g v,b∈fz)(G:Rep J β h w v vc):
  Rep (JS J β h fz) β h w v' vc/\Fr v'=[]:=by
 unfold nU at C
 split at C
 ·rename_i b off n
  obtain⟨x,B,D⟩:=ub C
  obtain⟨hp,L⟩:=uc D
  simp at L
  obtain⟨rfl,_⟩:=L
  exact⟨fk S hl B hp (fun hs=>by
   unfold E1 at B
   obtain⟨x0,T,B⟩:=ub B
   obtain⟨Y,B⟩:=sn B
   simp at B;subst B
   exact hf b (by simp[AD,T,hs])) G,by simp[Fr]⟩
 ·simp at C;obtain⟨rfl,_⟩:=C
  refine⟨?_,by simp[Fr]⟩
  rw[Rep,RepC]at G ⊢
  obtain⟨e1,A,cap,e2,e3,e4,e5⟩:=G
  refine⟨e1,A,cap,e2,e3,by simp,?_⟩
  rcases e5 with e5|⟨a,e6,e7,e8⟩
  ·exact .inl e5
  ·exact .inr ⟨a,e6,.inl e7,RepCs.keep (fun k hk=>.inl hk) (fun _ _=>rfl) (fun _=>rfl) e8⟩
 ·rename_i b off
  obtain⟨x,B,D⟩:=ub C
  obtain⟨hp,L⟩:=uc D
  simp at L
  obtain⟨rfl,_⟩:=L
  unfold E1 at B
  obtain⟨x0,T,B⟩:=ub B
  obtain⟨Y,B⟩:=sn B
  simp at B;subst B
  have hy:=hl b _ T
  refine⟨?_,by simp[Fr]⟩
  rw[Rep]at G
  obtain⟨x1,k,o,⟨g1,gm⟩,g2,V⟩:=G
  rw[hy]at g1;simp at g1;subst g1
  rcases V with V|V
  ·simp[Y]at V
  ·rcases S.blk b x0 hy Y gm with⟨D,_⟩|⟨k',o',cs,ty,fr,D,L,h3,h4,h5,h6,h7⟩
   ·rw[V]at D;cases D
   ·rw[V]at D;simp at D;obtain⟨rfl,rfl⟩:=D
    have hin:∀ k2,J x0.taint k2->JS J β h fz (!x0.sealed||x0.taint) k2:=by
     intro k2 I
     left
     cases hs:x0.sealed with
     |false =>
      simp only[Ajn,Akm]
      cases ht:x0.taint with
      |false=>rw[ht]at I;exact S.jft k2 I
      |true=>rw[ht]at I;exact I
     |true=>simp only[Akq,Ald];exact I
    rw[Rep,RepC]
    refine⟨_,g2,?_,?_⟩
    ·cases hs:x0.sealed with
     |false =>
      simp only[Ajn,Akm]
      exact .inr ⟨rfl,b,x0,o,hf b (by simp[AD,T,hs]),hy,Y,hs,V⟩
     |true =>
      simp only[Akq,Ald]
      exact .inl (h7 hs)
    ·refine RepCs.keep hin (fun _ _=>rfl) (fun j=>?_) ((h5.1 hp).drop off)
     rw[Addr.add_mid,M7 L,Ai1]
 ·rename_i c
  obtain⟨⟨c1,o1⟩,D,L⟩:=ub C
  simp at L;obtain⟨rfl,_⟩:=L
  rw[Rep]at G
  obtain⟨cs,rfl,G⟩:=G
  obtain⟨b1,b2⟩:=IP (fz:=fz) S hl D (by simpa[AD]using hf) G
  refine⟨?_,by simp[Fr]⟩
  rw[Rep]
  refine⟨cs,rfl,b1,?_⟩
  rw[Bn]
  intro j x I
  obtain⟨u,e1,e2⟩:=b2 j x I
  exact⟨u,by simpa using e1,e2⟩
 ·simp at C;obtain⟨rfl,_⟩:=C
  exact⟨Rep.ext (Ext.grow fun _ _ I=>.inl I) G,by simp[Fr,Hc]⟩
 ·simp at C
 ·simp at C
 ·simp at C
 ·simp at C
 ·simp at C;obtain⟨rfl,_⟩:=C
  refine⟨Rep.ext (Ext.grow fun _ _ I=>.inl I) G,?_⟩
  cases v<;>first|rfl|simp_all
def Wp{g:A2}{fz:List Nat}(S:SimH J β h w)(V:Looks g h):∀{C:LA}{ms:List Bool}{args':LA}{im B:List Nat}{vs:List Value},
  AE g ms C=some (args',im,B)->(∀ b∈B,b∈fz)->Reps J β h w C vs->Reps (JS J β h fz) β h w args' vs/\∀ b∈Hc args',b∈im
|[],ms,args',im,B,vs,A,T,D=>by
  simp[AE]at A;obtain⟨rfl,rfl,rfl⟩:=A
  rw[Reps]at D;subst D
  exact⟨by rw[Reps],by simp[Hc]⟩
| v::r,ms,args',im,B,vs,A,T,D=>by
  rw[AE]at A
  rw[Reps]at D
  obtain⟨u,us,rfl,G,I⟩:=D
  cases hm:ms.headD false with
  |true =>
   rw[hm,cond_true]at A
   obtain⟨⟨a2,i2,f2⟩,Y,L⟩:=ub A
   simp at L;obtain⟨rfl,rfl,rfl⟩:=L
   obtain⟨g1,g2⟩:=Wp S V Y T I
   refine⟨by rw[Reps];exact⟨u,us,rfl,Rep.ext (Ext.grow fun _ _ hj=>.inl hj) G,g1⟩,fun b k=>?_⟩
   rw[Hc]at k
   rcases Ahz.1 k with k|k
   ·exact Ahz.2 (.inl k)
   ·exact Ahz.2 (.inr (g2 b k))
  |false =>
   rw[hm,cond_false]at A
   obtain⟨⟨v1,b1⟩,h0,A⟩:=ub A
   obtain⟨⟨a2,i2,f2⟩,Y,L⟩:=ub A
   simp at L;obtain⟨rfl,rfl,rfl⟩:=L
   obtain⟨e1,e2⟩:=jr S V h0 (fun b k=>T b (Ahz.2 (.inl k))) G
   obtain⟨g1,g2⟩:=Wp S V Y (fun b k=>T b (Ahz.2 (.inr k))) I
   refine⟨by rw[Reps];exact⟨u,us,rfl,e1,g1⟩,fun b k=>?_⟩
   rw[Hc,e2]at k
   exact g2 b (by simpa using k)
end
end Gx
namespace Gx
open Go
def l7{g g':A2}{ρ:Nat->Nat}:∀{ids:List Nat},(∀ b∈ids,g b=g' b)->sub g ρ ids=sub g' ρ ids
|[],_=>rfl
|b::r,h=>by rw[sub,sub,h b (by simp),l7 (fun c k=>h c (by simp[k]))]
def IQ{g:A2}:∀{l:List Nat},IB g l=true->∀ b∈l,∃ x,g b=some x/\x.dead=false
|[],_,b,k=>by simp at k
| i::r,h,b,k=>by
  rw[IB]at h
  simp at h
  rcases Ah4.1 k with rfl|k
  ·cases v:g b with
   |none=>rw[v]at h;simp at h
   |some x=>rw[v]at h;exact⟨x,rfl,by simpa using h.1⟩
  ·exact IQ h.2 b k
def vK:∀{l m:List Nat},pu l m=true->∀ b∈l,b∉m
|[],m,_,b,k=>by simp at k
|i::r,m,h,b,k=>by
  rw[pu]at h
  simp at h
  rcases Ah4.1 k with rfl|k
  ·intro v;have:=Jr.2 v;rw[this]at h;simp at h
  ·exact vK h.2 b k
def AO{d:Nat}:∀{l:List (Nat×Nat)}{b:Nat},b∈l.map (·.1)->Hn d l b∈l.map (·.2)
|[],b,k=>by simp at k
| (i,x)::r,b,k=>by
  rw[Hn]
  cases hi:beq i b with
  |true=>simp
  | false =>
   have v:b∈r.map (·.1):=by
    rw[Ah9]at k
    rcases Ah4.1 k with h|h
    ·exact absurd h.symm (T8 hi)
    ·exact h
   simp only[cond_false,Ah9]
   exact Ajt _ (AO v)
def U5{d:Nat}:∀{l m:List (Nat×Nat)}{b:Nat},Hn d (l++m) b=if b∈l.map (·.1)then Hn d l b else Hn d m b
|[],m,b=>by simp
| (i,x)::r,m,b=>by
  rw[Ail,Hn,Hn,U5]
  cases hi:beq i b with
  |true=>have:=Aht hi;subst this;simp
  |false =>
   have:=T8 hi
   simp only[cond_false,Ah9,Ah4]
   by_cases k:b∈r.map (·.1)
   ·rw[if_pos k,if_pos (.inr k)]
   ·rw[if_neg k,if_neg (by rintro(h|h);exact this h.symm;exact k h)]
def In:∀{base:Nat}{l:List Nat},(Ar base l).map (·.1)=l
|_,[]=>rfl
|base,i::r=>by rw[Ar,Ah9,In]
def fm{d d':Nat}:∀{l:List Nat}{base b:Nat},b∈l->Hn d' ((Ar base l).map fun p=>(p.2,p.1)) (Hn d (Ar base l) b)=b
|[],base,b,k=>by simp at k
| i::r,base,b,k=>by
  rw[Ar,Hn,Ah9,Hn]
  cases hi:beq i b with
  |true=>have:=Aht hi;subst this;simp
  | false =>
   have v:b∈r:=by
    rcases Ah4.1 k with h|h
    ·exact absurd h.symm (T8 hi)
    ·exact h
   simp only[cond_false]
   have A:=Wo (d:=d) (base:=base+1) v
   rw[HC (show base≠Hn d (Ar (base+1) r) b by omega)]
   exact fm v
def Qt:∀{base:Nat}{l:List Nat}{c:Nat},c∈(Ar base l).map (·.2)->base<=c/\c<base+l.length
|_,[],c,k=>by simp[Ar]at k
|base,i::r,c,k=>by
  rw[Ar,Ah9]at k
  rcases Ah4.1 k with h|h
  ·simp at h;subst h;simp
  ·have:=Qt h;simp only[Ah8];omega
def Wq:∀{base:Nat}{l:List Nat},((Ar base l).map (·.2)).Nodup
|_,[]=>by simp[Ar]
|base,i::r=>by
  rw[Ar,Ah9,Aiz]
  exact⟨fun h=>by have:=Qt h;simp at this;omega,Wq⟩
def IR:∀{base:Nat}{l:List Nat}{b:Nat},b∈l->(b,Hn 0 (Ar base l) b)∈Ar base l
|_,[],b,k=>by simp at k
| base,i::r,b,k=>by
  rw[Ar,Hn]
  cases hi:beq i b with
  |true=>have:=Aht hi;subst this;simp
  | false =>
   have v:b∈r:=by
    rcases Ah4.1 k with h|h
    ·exact absurd h.symm (T8 hi)
    ·exact h
   simp only[cond_false]
   exact Ajt _ (IR v)
def tU(x:Blk):Blk:={x with dead:=true,pure:=true,cells:=[]}
def Ff:∀{ups:Dc}{h:Aw}{b:Nat}{o:Option Blk},(ups.map (·.1)).Nodup->(b,o)∈ups->Al (Am ups h) b=match o with|some x=>some x|none=>(Al h b).map tU
|[],h,b,o,_,B=>by simp at B
| (i,y)::r,h,b,o,hn,B=>by
  rw[Ah9,Aiz]at hn
  rcases Ah4.1 B with C|k
  ·simp at C
   obtain⟨rfl,rfl⟩:=C
   have v:A0 r b=false:=by
    have:∀{r:Dc},b∉r.map (·.1)->A0 r b=false:=by
     intro r
     induction r with
     |nil=>intro _;rfl
     |cons p r D =>
      intro h
      simp only[Ah9,Ah4,not_or]at h
      rw[A0,HC (fun e=>h.1 e.symm)]
      exact D h.2
    exact this hn.1
   cases o with
   |some x=>rw[Am,Bk _ _ _ v,Ag,if_pos rfl]
   |none =>
    rw[Am,Bk _ _ _ v]
    cases G:Al h b with
    |none=>simp[G]
    |some x=>simp only[Option.map_some];rw[Ag,if_pos rfl];rfl
  ·have A:b≠i:=fun e=>by subst e;exact hn.1 (Aio.2 ⟨_,k,rfl⟩)
   cases y with
   |some x =>
    rw[Am,Ff hn.2 k]
    cases o with
    |some _=>rfl
    |none=>simp only;rw[Ag,if_neg A]
   | none =>
    rw[Am,Ff hn.2 k]
    cases o with
    |some _=>rfl
    |none =>
     simp only
     split
     ·rw[Ag,if_neg A]
     ·rfl
def V4:∀{ups:Dc}{b:Nat},A0 ups b=true↔b∈ups.map (·.1)
|[],b=>by simp[A0]
|(i,y)::r,b=>by
  rw[A0,Ah9,Ah4,<-V4]
  cases hi:beq i b with
  |true=>have:=Aht hi;subst this;simp
  |false=>have:=T8 hi;simp;intro e;exact absurd e.symm this
def fq{β:Bx}{h:Aw}{ρ:Nat->Nat}{ids:List Nat}(hn:(ids.map ρ).Nodup){k:Nat}(B:qD (GB ρ ids β) (sub (Al h) ρ ids) k):
  ∃ b x o,b∈ids/\Al h b=some x/\x.dead=false/\x.sealed=false/\β b=some (k,o):=by
 obtain⟨c,y,o,C,D,hs,v⟩:=B
 obtain⟨b,x,A,rfl,G,rfl⟩:=Mc hn c y C
 rw[Ft hn A]at v
 exact⟨b,x,o,A,G,D,hs,v⟩
def SimH.unJ{J:Bool->Nat->Prop}{β:Bx}{h:Aw}{w:World}(S:SimH J β h w){b:Nat}{x:Blk}{k o:Nat}(B:Al h b=some x)(C:x.dead=false)(hs:x.sealed=false)(A:β b=some (k,o)):∀ g,¬ J g k:=by
 cases D:x.mp with
| false =>
  rcases S.blk b x B C D with⟨v,_⟩|⟨I,o2,cs,ty,fr,v,G,T,V,Y,L,h8⟩
  ·rw[A]at v;cases v
  ·rw[A]at v;simp at v;obtain⟨rfl,rfl⟩:=v
   exact L hs
|true =>
  obtain⟨_,_,I,ob,v,_,_,G⟩:=S.mblk b x B C D
  rw[A]at v;simp at v;obtain⟨rfl,_⟩:=v
  exact G
def SimH.seJ{J:Bool->Nat->Prop}{β:Bx}{h:Aw}{w:World}(S:SimH J β h w){b:Nat}{x:Blk}{k o:Nat}(A:Al h b=some x)(B:x.dead=false)(hs:x.sealed=true)(C:β b=some (k,o)):J x.taint k:=by
 cases D:x.mp with
| false =>
  rcases S.blk b x A B D with⟨v,_⟩|⟨I,o2,cs,ty,fr,v,L,T,V,Y,h7,G⟩
  ·rw[C]at v;cases v
  ·rw[C]at v;simp at v;obtain⟨rfl,rfl⟩:=v
   exact G hs
|true =>
  have:=(S.mblk b x A B D).2.1
  rw[hs]at this;cases this
def Step.merge{J J0 J1:Bool->Nat->Prop}{β β1:Bx}{h h1 H:Aw}{w w':World}{D ids:List Nat}(S:SimH J β h w)(S1:SimH J0 β1 h1 w')
  (hH:∀ b,b∉D->Al H b=Al h b)
  (hD:∀ b x,b∈D->Al H b=some x->x.dead=false->Al h1 b=some x)
  (hD1:∀ b x,Al h1 b=some x->b∈D/\Al H b=some x)
  (hnew:∀ b x,b∈D->b∉ids->Al h b≠some x)
  (hold:∀ b x,b∈ids->Al h b=some x->∃ x',(Al H b=some x'/\x'.mp=x.mp)/\(x'.dead=true\/(x.dead=false/\β1 b=β b/\x'.sz=x.sz/\(x.mp=false->x'.cells.length=x.cells.length))))
  (hids:∀ b∈ids,b∈D)
  (os:w'.os=w.os) (tape:w'.tape=w.tape) (output:w'.output=w.output) (size:w.heap.size<=w'.heap.size)
  (frame:∀ k,k<w.heap.size->(¬ ∃ b x o,b∈ids/\Al h b=some x/\x.dead=false/\x.sealed=false/\β b=some (k,o))->w'.heap[k]?=w.heap[k]?)
  (wr:∀ k,qD β1 h1 k->k<w.heap.size->∃ b x o,b∈ids/\Al h b=some x/\x.dead=false/\x.sealed=false/\β b=some (k,o))
  (jup:∀ o k,J0 o k->J o k\/(∃ b x o,b∈ids/\Al h b=some x/\x.dead=false/\x.sealed=false/\β b=some (k,o))\/w.heap.size<=k)
  (sizes:∀ k,Ay w k<=Ay w' k) :
  Step J β h w (fun o k=>J o k\/J0 o k) (fun b=>if b∈D then β1 b else β b) H w'/\Ext J0 β1 h1 w' (fun o k=>J o k\/J0 o k) (fun b=>if b∈D then β1 b else β b) H w':=by
 have E0:Ext J0 β1 h1 w' (fun o k=>J o k\/J0 o k) (fun b=>if b∈D then β1 b else β b) H w':=by
  refine⟨fun _ _ v=>.inr v,fun _ _ _=>rfl,fun b x A=>?_,fun _ _ _ _=>Ahl _⟩
  obtain⟨V,h3⟩:=hD1 b x A
  refine⟨x,⟨h3,rfl⟩,?_⟩
  cases C:x.dead
  ·exact .inr ⟨rfl,by simp[V],rfl,fun _=>rfl⟩
  ·exact .inl rfl
 have keepJ:∀ o k,J o k->w'.heap[k]?=w.heap[k]?:=by
  intro o k v
  refine frame k (S.jlt o k v) ?_
  rintro⟨b,x,o',_,A,C,hs,L⟩
  exact S.unJ A C hs L o v
 have E:Ext J β h w (fun o k=>J o k\/J0 o k) (fun b=>if b∈D then β1 b else β b) H w':=by
  refine⟨fun _ _ v=>.inl v,keepJ,fun b x A=>?_,fun b k o _=>sizes k⟩
  by_cases hi:b∈ids
  ·obtain⟨x',V,h3⟩:=hold b x hi A
   refine⟨x',V,?_⟩
   simp only[hids b hi,if_true]
   exact h3
  ·have hnd:b∉D:=fun C=>hnew b x C hi A
   refine⟨x,⟨by rw[hH b hnd];exact A,rfl⟩,?_⟩
   cases C:x.dead
   ·exact .inr ⟨rfl,by simp[hnd],rfl,fun _=>rfl⟩
   ·exact .inl rfl
 have out:∀{b x},b∉D->Al H b=some x->Al h b=some x:=fun A Y=>by rw[<-hH _ A];exact Y
 refine⟨⟨E,⟨?_,?_,S.gl.ext E,fun b x Y C hm=>?_,fun b x Y C hm=>by
   by_cases A:b∈D
   ·have V:=hD b x A Y C
    have M:=S1.mblk b x V C hm
    refine M.keep (by simp[A]) (fun _ _ _=>rfl) (fun g k o L v=>?_)
    rcases v with v|v
    ·exfalso
     by_cases hk:k<w.heap.size
     ·obtain⟨b',x',o',I,T,G,hs',B⟩:=wr k ⟨b,x,o,V,C,M.2.1,L⟩ hk
      exact S.unJ T G hs' B g v
     ·exact hk (S.jlt g k v)
    ·exact v
   ·have V:=out A Y
    have M:=S.mblk b x V C hm
    have hnm:∀ k o,β b=some (k,o)->¬ ∃ b x o,b∈ids/\Al h b=some x/\x.dead=false/\x.sealed=false/\β b=some (k,o):=by
     rintro k o h3 ⟨b',x',o',I,T,G,hs',B⟩
     have:=S.sep b b' x x' k o o' V T C G M.2.1 h3 B
     subst this
     exact A (hids b I)
    refine M.keep (by simp[A]) (fun k o L=>frame k (Qp S V C L) (hnm k o L)) (fun g k o L v=>?_)
    rcases v with v|v
    ·exact v
    ·rcases jup g k v with v|v|v
     ·exact v
     ·exact absurd v (hnm k o L)
     ·have:=Qp S V C L;omega,?_⟩,os,tape,output,size,?_,?_,?_⟩,E0⟩
 ·rintro o k (v|v)
  ·exact Ah6 (S.jlt o k v) size
  ·exact S1.jlt o k v
 ·rintro k (v|v)
  ·exact .inl (S.jft k v)
  ·exact .inr (S1.jft k v)
 ·by_cases A:b∈D
  ·have V:=hD b x A Y C
   rcases S1.blk b x V C hm with⟨h3,h4⟩|⟨k,o,cs,ty,fr,h3,h4,h5,h6,h7,h8,h9⟩
   ·exact .inl ⟨by simp[A,h3],h4⟩
   ·refine .inr ⟨k,o,cs,ty,fr,by simp[A,h3],h4,h5,h6,h7.ext E0,fun hs g v=>?_,fun hs=>.inr (h9 hs)⟩
    rcases v with v|v
    ·by_cases hk:k<w.heap.size
     ·obtain⟨b',x',o',I,T,G,hs',B⟩:=wr k ⟨b,x,o,V,C,hs,h3⟩ hk
      exact S.unJ T G hs' B g v
     ·exact hk (S.jlt g k v)
    ·exact h8 hs g v
  ·have V:=out A Y
   rcases S.blk b x V C hm with⟨h3,h4⟩|⟨k,o,cs,ty,fr,h3,h4,h5,h6,h7,h8,h9⟩
   ·exact .inl ⟨by simp[A,h3],h4⟩
   ·have hk:=Uz h4
    have hnm:x.sealed=false->¬ ∃ b x o,b∈ids/\Al h b=some x/\x.dead=false/\x.sealed=false/\β b=some (k,o):=by
     rintro hs ⟨b',x',o',I,T,G,hs',B⟩
     have:=S.sep b b' x x' k o o' V T C G hs h3 B
     subst this
     exact A (hids b I)
    have same:w'.heap[k]?=w.heap[k]?:=by
     cases hs:x.sealed with
     |false=>exact frame k hk (hnm hs)
     |true=>exact keepJ _ k (h9 hs)
    refine .inr ⟨k,o,cs,ty,fr,by simp[A,h3],by rw[same];exact h4,h5,h6,h7.ext E,fun hs g v=>?_,fun hs=>.inl (h9 hs)⟩
    rcases v with v|v
    ·exact h8 hs g v
    ·rcases jup g k v with v|v|v
     ·exact h8 hs g v
     ·exact hnm hs v
     ·omega
 ·intro b b' x x' k o o' Y T C G hs L B
  by_cases A:b∈D<;>by_cases I:b'∈D
  ·simp[A]at L;simp[I]at B
   exact S1.sep b b' x x' k o o' (hD b x A Y C) (hD b' x' I T G) C G hs L B
  ·exfalso
   simp[A]at L;simp[I]at B
   have V:=out I T
   have hk:=Qp S V G B
   obtain⟨b2,x2,o2,hb2,hx2,hd2,hs2,hβ2⟩:=wr k ⟨b,x,o,hD b x A Y C,C,hs,L⟩ hk
   have:=S.sep b2 b' x2 x' k o2 o' hx2 V hd2 G hs2 hβ2 B
   subst this
   exact I (hids _ hb2)
  ·exfalso
   simp[A]at L;simp[I]at B
   have V:=out A Y
   have h3:=hD b' x' I T G
   have hk:=Qp S V C L
   have hnm:¬ ∃ b x o,b∈ids/\Al h b=some x/\x.dead=false/\x.sealed=false/\β b=some (k,o):=by
    rintro⟨b2,x2,o2,hb2,hx2,hd2,hs2,hβ2⟩
    have:=S.sep b b2 x x2 k o o2 V hx2 C hd2 hs L hβ2
    subst this
    exact A (hids _ hb2)
   cases hs':x'.sealed with
   |false=>exact hnm (wr k ⟨b',x',o',h3,G,hs',B⟩ hk)
   |true =>
    rcases jup _ k (S1.seJ h3 G hs' B)with v|v|v
    ·exact S.unJ V C hs L _ v
    ·exact hnm v
    ·omega
  ·simp[A]at L;simp[I]at B
   exact S.sep b b' x x' k o o' (out A Y) (out I T) C G hs L B
 ·intro k hk hm
  exact frame k hk (fun ⟨b,x,o,_,Y,C,hs,L⟩=>hm ⟨b,x,o,Y,C,hs,L⟩)
 ·rintro k ⟨b,x,o,Y,C,hs,L⟩ hk
  by_cases A:b∈D
  ·simp[A]at L
   obtain⟨b2,x2,o2,_,hx2,hd2,hs2,hβ2⟩:=wr k ⟨b,x,o,hD b x A Y C,C,hs,L⟩ hk
   exact⟨b2,x2,o2,hx2,hd2,hs2,hβ2⟩
  ·simp[A]at L
   exact⟨b,x,o,out A Y,C,hs,L⟩
 ·rintro o k (v|v)
  ·exact .inl v
  ·rcases jup o k v with v|⟨b,x,o2,_,Y,C,hs,L⟩|v
   ·exact .inl v
   ·exact .inr (.inl ⟨b,x,o2,Y,C,hs,L⟩)
   ·exact .inr (.inr v)
end Gx
namespace Gx
open Go
def tV{l:List Nat}:nV l=true↔l=[]:=by cases l<;>simp[nV]
def DB{α β:Type}{f:α->β}:∀{l:List α},(l.map f).Nodup->l.Nodup
|[],_=>Ann
|a::r,h=>by
  rw[Ah9,Aiz]at h
  exact Aiz.2 ⟨fun k=>h.1 (Aio.2 ⟨a,k,rfl⟩),DB h.2⟩
def DC{α:Type}{p:α->Bool}:∀{l:List α},l.Nodup->(l.filter p).Nodup
|[],_=>Ann
|a::r,h=>by
  rw[Aiz]at h
  rw[Akh]
  split
  ·exact Aiz.2 ⟨fun k=>h.1 (Ajp.1 k).1,DC h.2⟩
  ·exact DC h.2
def SO{base:Nat}{l:List Nat}{p:Nat×Nat}(k:p∈Ar base l):p.1∈l:=by
 have:p.1∈(Ar base l).map (·.1):=Aio.2 ⟨p,k,rfl⟩
 rw[In]at this;exact this
def vL{σ:Nat->Nat}:∀{l:List Nat}{a b:Nat},(l.map σ).Nodup->a∈l->b∈l->σ a=σ b->a=b
|[],a,b,_,A,_,_=>by simp at A
|i::r,a,b,hn,A,C,B=>by
  rw[Ah9,Aiz]at hn
  rcases Ah4.1 A with k|k<;>rcases Ah4.1 C with v|v
  ·rw[k,v]
  ·subst k;exact absurd (Aio.2 ⟨b,v,B.symm⟩) hn.1
  ·subst v;exact absurd (Aio.2 ⟨a,k,B⟩) hn.1
  ·exact vL hn.2 k v B
mutual
def yd:∀{a b:AV},P6 a b=true->a=b
|.int k n,b,h=>by cases b<;>simp[P6,Ih]at h;obtain⟨rfl,rfl⟩:=h;rfl
|.bool x,b,h=>by cases b<;>simp[P6]at h;subst h;rfl
|.str x,b,h=>by cases b<;>simp[P6]at h;subst h;rfl
|.nsl,b,h=>by cases b<;>simp[P6]at h;rfl
|.imm c n z t o,b,h=>by cases b<;>simp[P6]at h;obtain⟨h1,rfl,rfl,rfl,rfl⟩:=h;rw[V5 h1]
|.iptr c o,b,h=>by cases b<;>simp[P6]at h;obtain⟨h1,rfl⟩:=h;rw[V5 h1]
|.pagg c o,b,h=>by cases b<;>simp[P6]at h;obtain⟨h1,rfl⟩:=h;rw[V5 h1]
|.own x f n,b,h=>by cases b<;>simp[P6]at h;obtain⟨rfl,rfl,rfl⟩:=h;rfl
|.optr x f,b,h=>by cases b<;>simp[P6]at h;obtain⟨rfl,rfl⟩:=h;rfl
|.agg c,b,h=>by cases b<;>simp[P6]at h;rw[V5 h]
|.tup c,b,h=>by cases b<;>simp[P6]at h
|.fn f c,b,h=>by cases b<;>simp[P6]at h
|.nilptr,b,h=>by cases b<;>simp[P6]at h;rfl
|.nilfn,b,h=>by cases b<;>simp[P6]at h
|.undef,b,h=>by cases b<;>simp[P6]at h;rfl
|.omap x,b,h=>by cases b<;>simp[P6]at h
def V5:∀{a b:List AV},Zk a b=true->a=b
|[],b,h=>by cases b<;>simp[Zk]at h;rfl
|a::r,b,h=>by
  cases b with
  |nil=>simp[Zk]at h
  |cons x s=>rw[Zk,Aho]at h;rw[yd h.1,V5 h.2]
end
def ye{x y:Blk}(h:yS x y=true):x=y:=by
 cases x;cases y
 simp[yS]at h
 obtain⟨rfl,rfl,rfl,rfl,rfl,k,rfl,rfl⟩:=h
 rw[V5 k]
def MD(g:A2):∀ L:Dc,(FV g L).Sublist L
|[]=>.slnil
|(b,some x)::r=>by
  rw[FV]
  cases pv g b x
  ·exact(MD g r).cons_cons _
  ·exact(MD g r).cons _
|(b,none)::r=>(MD g r).cons_cons _
def W_(g:A2):∀(L:Dc)(p:Nat×Option Blk),p∈L->p∈FV g L\/∃ x,p.2=some x/\g p.1=some x
|[],p,k=>by simp at k
| (b,some x)::r,p,k=>by
  rw[FV]
  rcases Ah4.1 k with rfl|k
  ·cases hq:pv g b x with
   |false=>exact .inl (An2 ..)
   |true =>
    refine .inr ⟨x,rfl,?_⟩
    unfold pv at hq
    cases v:g b with
    |none=>rw[v]at hq;simp at hq
    |some y=>rw[v]at hq;rw[ye hq]
  ·rcases W_ g r p k with h|h
   ·left
    cases pv g b x
    ·exact Ajt _ h
    ·exact h
   ·exact .inr h
| (b,none)::r,p,k=>by
  show p∈(b,none)::FV g r\/_
  rcases Ah4.1 k with rfl|k
  ·exact .inl (An2 ..)
  ·rcases W_ g r p k with h|h
   ·exact .inl (Ajt _ h)
   ·exact .inr h
def js{T L M:Dc}{h:Aw}(hs:T.Sublist L)(V:∀ p∈L,p∈T\/∃ x,p.2=some x/\Al h p.1=some x)(hn:((L++M).map (·.1)).Nodup)(b:Nat):Al (Am (T++M) h) b=Al (Am (L++M) h) b:=by
 have k:(T++M).Sublist (L++M):=hs.append (List.Sublist.refl M)
 have C:((T++M).map (·.1)).Nodup:=(k.map _).nodup hn
 cases hi:A0 (T++M) b with
|true =>
  obtain⟨p,A,rfl⟩:=Aio.1 (V4.1 hi)
  obtain⟨i,o⟩:=p
  rw[Ff C A,Ff hn (k.subset A)]
| false =>
  rw[Bk _ _ _ hi]
  cases G:A0 (L++M) b with
  |false=>rw[Bk _ _ _ G]
  | true =>
   obtain⟨p,A,rfl⟩:=Aio.1 (V4.1 G)
   have v:p∉T++M:=fun h=>by
    have:=V4.2 (Aio.2 ⟨p,h,rfl⟩);rw[hi]at this;cases this
   obtain⟨i,o⟩:=p
   rcases Ahz.1 A with D|D
   ·rcases V _ D with B|⟨x,B,I⟩
    ·exact absurd (Ahz.2 (.inl B)) v
    ·simp only at B I
     subst B
     rw[Ff hn A,I]
   ·exact absurd (Ahz.2 (.inr D)) v
def yf {E:Env} (hT:fg E.P E.tbl):PU E:=by
 intro R r k J β h w g d f args vs S hl hh hv
 unfold lO at hh
 obtain⟨⟨args',im,fz⟩,L,h1⟩:=ub hh
 simp only at h1
 obtain⟨B,h2⟩:=uc h1
 simp only[Aho]at B
 obtain⟨hal,him,hin,hdj,C,_⟩:=B
 generalize hids:Wf g im=ids at *
 generalize hρ:Hn 0 (Ar 100000 ids)=ρ at *
 have hal:=IQ hal
 have him:=M8 him
 have hdj:=vK hdj
 have C:=Qr C
 have hg:∀ b∈ids,g b=Al h b:=fun b v=>by obtain⟨x,A,_⟩:=hal b v;rw[A,hl b x A]
 rw[X0 (g:=Al h) hg]at hin
 have hin:=M8 hin
 rw[l7 (g':=Al h) hg]at h2
 obtain⟨hA,hB⟩:=Wp (fz:=fz) S hl L (fun _ h=>h) hv
 have aliveH:∀ b∈ids,∃ x,Al h b=some x/\x.dead=false:=fun b v=>by obtain⟨x,A,hd⟩:=hal b v;exact⟨x,hl b x A,hd⟩
 have SJ:SimH (JS J β h fz) (GB ρ ids β) (sub (Al h) ρ ids) w:=by
  refine(S.ren C hin).grow (fun o k G=>.inl G) ?_ ?_ ?_
  ·rintro o k (G|⟨_,b,x,o',_,A,hd,_,hβ⟩)
   ·exact S.jlt o k G
   ·exact Qp S A hd hβ
  ·rintro k (G|⟨h0,_⟩)
   ·exact .inl (S.jft k G)
   ·cases h0
  ·intro c y k o hy hd hs hβ q G
   obtain⟨b,x,v,rfl,A,rfl⟩:=Mc C c y hy
   rw[Ft C v]at hβ
   rcases G with G|⟨_,b',x',o',hb',hx',hd',hs',hβ'⟩
   ·exact S.unJ A hd hs hβ _ G
   ·have:=S.sep b b' x x' k o o' A hx' hd hd' hs hβ hβ'
    subst this
    exact hdj b hb' v
 have RJ:Reps (JS J β h fz) (GB ρ ids β) (sub (Al h) ρ ids) w (T7 ρ args') vs:=Reps.ren C (fun b v=>him b (hB b v)) hA
 obtain⟨rv,rh,hF,h3⟩:=qp hT h2
 have hcall:=hF _ _ w vs SJ RJ
 obtain⟨horg,h4⟩:=sn h3
 obtain⟨hc2,h5⟩:=uc h4
 simp only[Aho]at hc2
 obtain⟨hnal,hn16,hrv,V,hrin,I⟩:=hc2
 generalize hall:Wf (Al rh) (Fr rv++(Ar 100000 ids).map (·.2))=all at *
 generalize hnew:all.filter (fun b=>!Eo ((Ar 100000 ids).map (·.2)) b)=new at *
 generalize hσ:Hn 0 ((Ar 100000 ids).map (fun p=>(p.2,p.1))++Ar (nid d) new)=σ at *
 have hnal:=IQ hnal
 have hrv:=M8 hrv
 have V:=M8 V
 have hrin:=M8 hrin
 have I:=Qr I
 have hn16:new.length<=16:=by simpa using hn16
 have hTs:(cond (Eo E.cob (d+7000000)) (FV g ((Ar 100000 ids).map fun p=>(p.1,(Al rh p.2).map (L8 σ)))) ((Ar 100000 ids).map fun p=>(p.1,(Al rh p.2).map (L8 σ)))).Sublist ((Ar 100000 ids).map fun p=>(p.1,(Al rh p.2).map (L8 σ))):=by
  cases Eo E.cob (d+7000000)
  ·exact List.Sublist.refl _
  ·exact MD g _
 have hTm:∀ p∈((Ar 100000 ids).map fun p=>(p.1,(Al rh p.2).map (L8 σ))),p∈(cond (Eo E.cob (d+7000000)) (FV g ((Ar 100000 ids).map fun p=>(p.1,(Al rh p.2).map (L8 σ)))) ((Ar 100000 ids).map fun p=>(p.1,(Al rh p.2).map (L8 σ))))\/∃ x,p.2=some x/\Al h p.1=some x:=by
  intro p L
  cases Eo E.cob (d+7000000)
  ·exact .inl L
  ·rcases W_ g _ p L with Y|⟨x,Y,h7⟩
   ·exact .inl Y
   ·exact .inr ⟨x,Y,hl _ _ h7⟩
 generalize cond (Eo E.cob (d+7000000)) (FV g ((Ar 100000 ids).map fun p=>(p.1,(Al rh p.2).map (L8 σ)))) ((Ar 100000 ids).map fun p=>(p.1,(Al rh p.2).map (L8 σ)))=T at h5 hTs hTm
 refine⟨_,_,h5,fun hfree=>Calls.mono hcall ?_⟩
 rintro e w' ⟨vc,J',β',rfl,F,hR⟩
 refine⟨vc,rfl,?_⟩
 have back:∀ b∈ids,σ (ρ b)=b:=by
  intro b v
  rw[<-hσ,U5,if_pos,<-hρ]
  ·exact fm v
  ·rw[Akn]
   have:=AO (d:=0) (l:=Ar 100000 ids) (b:=b) (by rw[In];exact v)
   rw[hρ]at this
   exact this
 have ρall:∀ b∈ids,ρ b∈all:=by
  intro b v
  refine V _ ?_
  have:=AO (d:=0) (l:=Ar 100000 ids) (b:=b) (by rw[In];exact v)
  rw[hρ]at this
  exact this
 have σout:∀ c∈all,c∈(Ar 100000 ids).map (·.2)->σ c∈ids:=by
  intro c _ B
  rw[<-hσ,U5,if_pos (by rw[Akn];exact B)]
  have:=AO (d:=0) (l:=(Ar 100000 ids).map (fun p=>(p.2,p.1))) (b:=c) (by rw[Akn];exact B)
  rw[Akn]at this
  have e:(Ar 100000 ids).map ((fun x=>x.2)∘fun p=>(p.2,p.1))=ids:=In
  rw[e]at this
  exact this
 have newmem:∀ c∈new,c∈all/\c∉(Ar 100000 ids).map (·.2):=by
  intro c B
  rw[<-hnew]at B
  obtain⟨Y,h7⟩:=Ajp.1 B
  refine⟨Y,fun hm=>?_⟩
  rw[Jr.2 hm]at h7;simp at h7
 have σnew:∀ c∈new,σ c=Hn 0 (Ar (nid d) new) c:=by
  intro c B
  rw[<-hσ,U5,if_neg]
  rw[Akn];exact(newmem c B).2
 have allcases:∀ c∈all,c∈(Ar 100000 ids).map (·.2)\/c∈new:=by
  intro c B
  by_cases hm:c∈(Ar 100000 ids).map (·.2)
  ·exact .inl hm
  ·refine .inr ?_
   rw[<-hnew]
   refine Ajp.2 ⟨B,?_⟩
   cases hq:Eo ((Ar 100000 ids).map (·.2)) c with
   |false=>rfl
   |true=>exact absurd (Jr.1 hq) hm
 have newFree0:∀ c∈(Ar (nid d) new).map (·.2),A0 (T++(Ar (nid d) new).map (fun p=>(p.2,(Al rh p.1).map (L8 σ)))) c=true:=by
  intro c B
  refine V4.2 ?_
  rw[Ajk,Akn]
  exact Ahz.2 (.inr B)
 have hH0:=fun b=>js (h:=h) (M:=(Ar (nid d) new).map (fun p=>(p.2,(Al rh p.1).map (L8 σ)))) hTs hTm (b:=b)
 generalize hups:((Ar 100000 ids).map fun p=>(p.1,(Al rh p.2).map (L8 σ)))++(Ar (nid d) new).map (fun p=>(p.2,(Al rh p.1).map (L8 σ)))=ups at *
 have keys:ups.map (·.1)=ids++(Ar (nid d) new).map (·.2):=by
  rw[<-hups,Ajk,Akn,Akn]
  congr 1
  exact In
 have newFree:∀ c∈(Ar (nid d) new).map (·.2),Al h c=none:=by
  intro c B
  refine hfree c (newFree0 c B) ?_
  have:=Qt B
  unfold AF
  simp;omega
 have keysN:(ups.map (·.1)).Nodup:=by
  rw[keys,List.nodup_append]
  refine⟨DB C,Wq,fun a ha b v e=>?_⟩
  subst e
  obtain⟨x,A,_⟩:=aliveH a ha
  rw[newFree a v]at A;cases A
 have upsOld:∀ b∈ids,(b,(Al rh (ρ b)).map (L8 σ))∈ups:=by
  intro b v
  rw[<-hups]
  refine Ahz.2 (.inl (Aio.2 ⟨(b,ρ b),?_,rfl⟩))
  rw[<-hρ];exact IR v
 have upsNew:∀ c∈new,(σ c,(Al rh c).map (L8 σ))∈ups:=by
  intro c B
  rw[<-hups]
  refine Ahz.2 (.inr (Aio.2 ⟨(c,σ c),?_,rfl⟩))
  rw[σnew c B];exact IR B
 have J0:∃ J0:Bool->Nat->Prop,SimH J0 β' rh w'/\Rep J0 β' rh w' rv vc/\∀ o k,J0 o k->J o k\/qD (GB ρ ids β) (sub (Al h) ρ ids) k\/w.heap.size<=k:=by
  cases he:nV fz with
  |true =>
   have:=tV.1 he
   subst this
   refine⟨J',F.sim,hR,fun o k G=>?_⟩
   rcases F.jup o k G with(G|⟨_,b,x,o',v,_⟩)|G
   ·exact .inl G
   ·simp at v
   ·exact .inr G
  | false =>
   rw[he]at horg
   simp at horg
   refine⟨fun _=>J' false,F.sim.noOrg horg.2,Rep.noOrg horg.1 hR,fun o k G=>?_⟩
   rcases F.jup false k G with(Y|⟨h0,_⟩)|Y
   ·left
    cases o
    ·exact Y
    ·exact S.jft k Y
   ·cases h0
   ·exact .inr Y
 obtain⟨J0,S0,R0,jup0⟩:=J0
 have S1:=S0.ren I hrin
 have R1:=Rep.ren I hrv R0
 have hH:=fun b=>hH0 b keysN
 have M:=Step.merge (J:=J) (J0:=J0) (J1:=J0) (H:=Am (T++(Ar (nid d) new).map (fun p=>(p.2,(Al rh p.1).map (L8 σ)))) h) (D:=ids++(Ar (nid d) new).map (·.2)) (ids:=ids) S S1
  (fun b v=>(hH b).trans (Bk _ _ _ (by
   cases hi:A0 ups b with
   |false=>rfl
   | true=>exact absurd (by rw[<-keys];exact V4.1 hi) v)))
  (fun b x v A hd=>by
   rcases Ahz.1 v with v|v
   ·rw[hH,Ff keysN (upsOld b v)]at A
    cases hq:Al rh (ρ b)with
    |none =>
     rw[hq]at A;simp at A
     obtain⟨y,_,rfl⟩:=A
     simp[tU]at hd
    |some y =>
     rw[hq]at A;simp at A;subst A
     have:=X1 (g:=Al rh) I (ρ b) y (ρall b v) hq
     rw[back b v]at this
     exact this
   ·obtain⟨c,B,rfl⟩:∃ c∈new,σ c=b:=by
     obtain⟨p,L,rfl⟩:=Aio.1 v
     have hp1:p.1∈new:=SO L
     refine⟨p.1,hp1,?_⟩
     rw[σnew _ hp1]
     have:∀{base:Nat}{l:List Nat}{p:Nat×Nat},l.Nodup->p∈Ar base l->Hn 0 (Ar base l) p.1=p.2:=by
      intro base l
      induction l generalizing base with
      |nil=>intro p _ L;simp[Ar]at L
      | cons i r ih =>
       intro p hn L
       rw[Aiz]at hn
       rw[Ar]at L ⊢
       rw[Hn]
       rcases Ah4.1 L with rfl|L
       ·simp
       ·have:p.1∈r:=SO L
        rw[HC (fun e=>hn.1 (by rw[e];exact this))]
        exact ih hn.2 L
     refine this ?_ L
     rw[<-hnew]
     exact DC (DB I)
    rw[hH,Ff keysN (upsNew c B)]at A
    obtain⟨y,hy,_⟩:=hnal c B
    rw[hy]at A;simp at A;subst A
    exact X1 (g:=Al rh) I c y (newmem c B).1 hy)
  (fun b x v=>by
   obtain⟨c,y,B,rfl,hy,rfl⟩:=Mc I b x v
   rcases allcases c B with hm|hm
   ·have Y:=σout c B hm
    have h7:ρ (σ c)=c:=by
     have:(all.map σ).Nodup:=I
     have e1:=back (σ c) Y
     have e2:=ρall (σ c) Y
     exact vL this e2 B e1
    refine⟨Ahz.2 (.inl Y),?_⟩
    rw[hH,Ff keysN (upsOld (σ c) Y),h7,hy];rfl
   ·refine⟨Ahz.2 (.inr ?_),?_⟩
    ·rw[σnew c hm]
     exact AO (by rw[In];exact hm)
    ·rw[hH,Ff keysN (upsNew c hm),hy];rfl)
  (fun b x v hni A=>by
   rcases Ahz.1 v with v|v
   ·exact hni v
   ·rw[newFree b v] at A;cases A)
  (fun b x v A=>by
   rw[hH,Ff keysN (upsOld b v)]
   cases hq:Al rh (ρ b)with
   |none=>exact⟨tU x,⟨by simp[A],rfl⟩,.inl rfl⟩
   | some y =>
    cases hd:y.dead with
    |true=>have:=F.live _ _ hq;rw[hd]at this;cases this
    | false =>
     have e0:=X1 (g:=Al h) C b x v A
     obtain⟨⟨e1,em⟩,e2,e3,e4⟩:=F.outs (ρ b) _ y e0 hq hd
     refine⟨L8 σ y,⟨by simp,em⟩,.inr ?_⟩
     refine⟨e4,?_,e2,fun hmx=>?_⟩
     ·have:=Ft (β:=β') I (ρall b v)
      rw[back b v]at this
      rw[this,e1]
      exact Ft C v
     ·rw[K8,e3 hmx,K8])
  (fun b v=>Ahz.2 (.inl v))
  F.os F.tape F.output F.size
  (fun k hk hm=>F.frame k hk (fun hm'=>hm (fq C hm')))
  (fun k hm hk=>fq C (F.wr k (oA I hm) hk))
  (fun o k G=>by
   rcases jup0 o k G with G|G|G
   ·exact .inl G
   ·exact .inr (.inl (fq C G))
   ·exact .inr (.inr G))
  F.sizes
 exact⟨_,_,M.1,Rep.ext M.2 R1⟩
def IS{P:Program}{muts:Nat->List Bool}{T:List (Nat×Tw)}{hs:Hints}{N f:Nat}{k:LA}{h:Aw}{res:AV}{h':Aw}(hT:fg P T)(hm:P.follows .mixedOrders=true)
  (G:aA P muts T hs N f k h (fun v h'=>some (v,h'))=some (res,h')):Aar P f k h res h':=by
 unfold aA at G
 split at G
 ·simp at G
 ·rename_i fn hfn
  split at G
  ·simp at G
  ·rename_i c hc
   simp only at G
   obtain⟨L,h1⟩:=uc G
   simp only[Aho]at L
   obtain⟨D,B⟩:=L
   have D:k.length<=fn.ntmps:=by simpa using D
   intro J β w vs S hv
   have hvl:vs.length=k.length:=((Bu).1 hv).1
   refine calls_of_wp hfn hc ?_
   have roots:∀{h:Aw}{b:Nat}{x:Blk},SA h=true->Al h b=some x->fI b=true:=by
    intro h
    induction h with
    |nil=>intro b x _ A;simp[Al]at A
    |cons p r ih =>
     intro b x hr A
     obtain⟨i,y⟩:=p
     rw[SA]at hr
     simp at hr
     rw[Al]at A
     cases hi:beq i b with
     |true=>have:=Aht hi;subst this;exact hr.1
     |false=>rw[hi]at A;exact ih hr.2 (by simpa using A)
   have sgetI:∀{k:LA}{j i:Nat},E7 (fJ j k) i=if j<=i then(k[i - j]?).getD .undef else .undef:=by
    intro k
    induction k with
    |nil=>intro j i;simp[fJ,E7]
    | cons v r ih =>
     intro j i
     rw[fJ,E7]
     cases hi:beq j i with
     |true=>have:=Aht hi;subst this;simp
     | false =>
      have:=T8 hi
      simp only[cond_false]
      rw[ih]
      by_cases V:j+1<=i
      ·rw[if_pos V,if_pos (by omega),show i - j=(i - (j+1))+1 by omega];simp
      ·rw[if_neg V]
       by_cases C:j<=i
       ·omega
       ·rw[if_neg C]
   have I:Inv ⟨J,β,h,w⟩ fn.ntmps J β {s:=fJ 0 k,h:=h} {tmps:=vs.toArray++Array.replicate (fn.ntmps - vs.toArray.size) undef,defers:=[]} w:=by
    refine⟨S,⟨fun i v hi=>?_,fun i hi=>?_⟩,?_,rfl,rfl,rfl,rfl,Ahl _,fun _ _ _=>rfl,fun _ hm _=>hm,fun _ _ hj=>hj,fun _ _ hj=>.inl hj,fun _=>Ahl _,?_,?_,?_⟩
    ·rw[sgetI,if_pos (Alr _)]
     by_cases Y:i<k.length
     ·have C:k[i - 0]?=some k[i]:=by simp[Y]
      rw[C]
      have h3:vs[i]?=some v:=by
       rw[Aki (by simp;omega)]at hi
       simpa using hi
      exact((Bu).1 hv).2 i _ _ (by simp[Y]) h3
     ·have C:k[i - 0]?=none:=by simp;omega
      rw[C];simp[Rep]
    ·simp at hi
     rw[sgetI,if_pos (Alr _)]
     have C:k[i - 0]?=none:=by simp;omega
     rw[C];rfl
    ·simp;omega
    ·intro b x0 A;exact(ff.1 (roots B A)).2
    ·intro b x0 A;exact(ff.1 (roots B A)).1
    ·intro b x0 x A hx hd
     change Al h b=some x0 at A
     change Al h b=some x at hx
     rw[A]at hx;simp at hx;subst hx
     exact⟨⟨rfl,rfl⟩,rfl,fun _=>rfl,hd⟩
   have fin:∀ st' a' w' J' β',Inv ⟨J,β,h,w⟩ fn.ntmps J' β' st' a' w'->Ru {P:=P,nt:=fn.ntmps,muts:=muts,nils:=hs.nils,free:=hs.free,cob:=hs.cob,tbl:=T} fn hs.modes (h.map (·.1)) (fun v h'=>some (v,h')) st'=some (res,h') ->
     a'.defers=[]/\∃ v,(results fn a'.tmps).run P w'=.ok v w'/\∃ vc J' β',Ending.returned v=.returned vc/\FDone ⟨J,β,h,w⟩ J' β' h' w'/\Rep J' β' h' w' res vc:=by
    intro st' a' w' J' β' I' C
    obtain⟨Cm,h2',vc,J2,β2,h3,h4,h5,h6⟩:=jo I' C
    simp at h3
    obtain⟨rfl,rfl⟩:=h3
    exact⟨I'.defers,vc,h4,vc,J2,β2,rfl,h5,h6⟩
   exact qo (E:={P:=P,nt:=fn.ntmps,muts:=muts,nils:=hs.nils,free:=hs.free,cob:=hs.cob,tbl:=T}) (yf hT) hm c I h1 fin (fun _ _ _ _ _ _ _ C=>by simp at C) fin
end Gx
namespace Gx
open Go
section
variable{R R':Type}
def tW(E:Env)(ops:Array Oper)(o:Oper)(st:St)(k:St->Foot->O R)(g:R->Option R'):(pw E ops o st k).bind g=pw E ops o st fun st f=>(k st f).bind g:=by rw[MB,MB,Ahj]
def oD(ops:Array Oper)(o:Oper)(st:St)(k:St->O R)(g:R->Option R'):(WN ops o st k).bind g=WN ops o st fun st=>(k st).bind g:=by
 unfold WN
 split
 ·rfl
 ·split
  ·rfl
  ·split
   ·rw[Ao]
   ·rfl
def ft(E:Env)(ops:Array Oper)(g:R->Option R'):∀(l:List Oper)(st:St)(tr:List Foot)(k:St->List Foot->O R),(fF E ops l st tr k).bind g=fF E ops l st tr fun st tr=>(k st tr).bind g
|[],st,tr,k=>rfl
|o::r,st,tr,k=>by
  rw[fF,fF,oD]
  congr 1;funext st
  rw[tW]
  congr 1;funext st f
  exact ft E ops g r st (f::tr) k
def jt(E:Env)(roots:List Nat)(ops:Array Oper)(draw:Bool)(st:St)(k:St->O R)(g:R->Option R'):(CQ E roots ops draw st k).bind g=CQ E roots ops draw st fun st=>(k st).bind g:=by
 unfold CQ
 rw[ft]
 congr 1;funext st tr
 rw[Ao,Ahj];rfl
def tX(E:Env)(roots:List Nat)(H:Hint)(f:St->O R)(g:R->Option R')(st:St):(qA E roots H f st).bind g=qA E roots H (fun st=>(f st).bind g) st:=by
 unfold qA
 rw[Ao,Ahj,Rt,Rt]
def aU(cn:St->Option St)(v:(St->O R)->St->O R)(A:(St->Option R')->St->Option R')(g:R->Option R')(B:∀ k st,(v k st).bind g=A (fun st=>(k st).bind g) st):∀ n st,(FX cn v n st).bind g=FX cn A n st
|0,st=>rfl
|n+1,st=>by
  rw[FX,FX,B]
  congr 1;funext st
  rw[Ahj]
  congr 1;funext st
  exact aU cn v A g B n st
def qu(E:Env)(roots:List Nat)(N:Nat)(g:R->Option R'):∀(c:Code)(H:Hint)(k:St->O R)(x:Nat->St->O R)(r:St->O R)(st:St),
  (C1 E roots N c H k x r st).bind g=C1 E roots N c H (fun st=>(k st).bind g) (fun j st=>(x j st).bind g) (fun st=>(r st).bind g) st:=by
 intro c
 induction c with
|skip=>intro H k x r st;rfl
|region id ops draw=>intro H k x r st;exact jt ..
|seq a b v A =>
  intro H k x r st
  rw[C1,C1,v]
  congr 1;funext st
  rw[tX]
  congr 1;funext st
  exact A ..
|cond c a b v A =>
  intro H k x r st
  rw[C1,C1]
  split
  ·rw[Ao,v,A]
  ·rfl
|block id c B =>
  intro H k x r st
  rw[C1,C1,B]
  simp only[Ao]
|loop c B =>
  intro H k x r st
  rw[C1,C1,Ahj,Rt,Rt]
  congr 1;funext st
  exact aU _ _ _ g (fun k st=>B ..) N st
|exit id=>intro H k x r st;rfl
|ret=>intro H k x r st;rfl
|rangeFunc=>intro H k x r st;rfl
|scope c B=>intro H k x r st;rw[C1,C1,B]
|label=>intro H k x r st;rfl
|goto=>intro H k x r st;rfl
|refuse=>intro H k x r st;rfl
def Zq(E:Env)(st:St)(g:R->Option R'):∀(l:List ResultVar)(A:LA)(k:LA->O R),(L9 E st l A k).bind g=L9 E st l A fun l=>(k l).bind g
|[],A,k=>rfl
|.tmp t::r,A,k=>by rw[L9,L9];exact Zq E st g r _ k
|.cell a t::r,A,k=>by
  rw[L9,L9,C_,C_ (R:=R'),Ahj]
  congr 1;funext v
  exact Zq E st g r _ k
def ju(E:Env)(fn:Func)(modes:List (Nat×Nat))(outs:List Nat)(k:AV->Aw->O R)(g:R->Option R')(st:St):(Ru E fn modes outs k st).bind g=Ru E fn modes outs (fun v h=>(k v h).bind g) st:=by
 unfold Ru
 rw[Zq]
 congr 1;funext l
 rw[Ahj]
 congr 1;funext q
 rw[Ao];rfl
def PZ(P:Program)(muts:Nat->List Bool)(T:List (Nat×Tw))(hs:Hints)(N f:Nat)(A:LA)(h:Aw)(k:AV->Aw->O R):
  aA P muts T hs N f A h k=(aA P muts T hs N f A h fun v h=>some (v,h)).bind fun p=>k p.1 p.2:=by
 unfold aA
 split
 ·rfl
 ·split
  ·rfl
  ·simp only
   rw[Ao,qu]
   simp only[ju]
   rfl
structure Cut(R:Type)where
 c:Code
 H:Hint
 k:St->O R
 x:Nat->St->O R
 r:St->O R
noncomputable def Ac7(E:Env)(roots:List Nat)(N:Nat):List Nat->Code->Hint->(St->O R)->(Nat->St->O R)->(St->O R)->List (St->O R)->Cut R
|[],c,H,k,x,r,_=>⟨c,H,k,x,r⟩
|d::p,.seq a b,H,k,x,r,ks=>cond (beq d 0) (Ac7 E roots N p a H.a (qA E roots H fun st=>C1 E roots N b H.b k x r st) x r ks) (Ac7 E roots N p b H.b k x r ks)
|d::p,.cond _ a b,H,k,x,r,ks=>cond (beq d 0) (Ac7 E roots N p a H.a k x r ks) (Ac7 E roots N p b H.b k x r ks)
|_::p,.block id c,H,k,x,r,ks=>Ac7 E roots N p c H.a k (fun j st=>cond (beq j id) (k st) (x j st)) r ks
|_::p,.loop c,H,_,x,r,q::ks=>Ac7 E roots N p c H.a (fun st=>(FW E H.live roots st).bind q) x r ks
|_::_,c,H,k,x,r,_=>⟨c,H,k,x,r⟩
def qz:Code->Code
|.loop c=>c
|c=>c
structure CutB(R:Type)where
 E:Env
 roots:List Nat
 N:Nat
 c:Cut R
noncomputable def Bc(q:CutB R)(st:St):O R:=C1 q.E q.roots q.N q.c.c q.c.H q.c.k q.c.x q.c.r st
noncomputable def tY(q:CutB R)(st:St):O R:=yW true (fun st=>C1 q.E q.roots q.N q.c.c q.c.H q.c.k q.c.x q.c.r st) st
def wc(q:CutB R)(st:St):tY q st=Bc q st:=by unfold tY;rw[Rt];rfl
noncomputable def As(q:CutB R)(n:Nat)(st:St):O R:=FX (FW q.E q.c.H.live q.roots) (fun k st=>C1 q.E q.roots q.N (qz q.c.c) q.c.H.a k q.c.x q.c.r st) n st
noncomputable def yg(q:CutB R)(st:St):O R:=yW true (FX (FW q.E q.c.H.live q.roots) (fun k st=>C1 q.E q.roots q.N (qz q.c.c) q.c.H.a k q.c.x q.c.r st) q.N) st
def yh(q:CutB R)(st:St):yg q st=As q q.N st:=by unfold yg;rw[Rt];rfl
def Ac8(fn:Func):Code:=match fn.body with|some c=>c|none=>.skip
def Aca:List (Nat×List Bool)->Nat->List Bool
|[],_=>[]
|(i,l)::r,f=>cond (beq i f) l (Aca r f)
end
end Gx
namespace Gx
open Go
abbrev KF(R:Type):=AV->Aw->Option R
abbrev hL:Hint:=.leaf
abbrev hS(a b:Hint):Hint:=.node [] a b
abbrev hP(l:List Nat)(a:Hint):Hint:=.node l a .leaf
abbrev hJ(l:List Nat)(a b:Hint):Hint:=.join l a b
def Aas(P:Program)(muts:Nat->List Bool)(nt:Nat)(hs:Hints)(T:List (Nat×Tw)):Env:={P,nt,muts,nils:=hs.nils,free:=hs.free,cob:=hs.cob,tbl:=T}
noncomputable def Agl{R:Type}(P:Program)(muts:Nat->List Bool)(fn:Func)(hs:Hints)(T:List (Nat×Tw))(roots:List Nat)(N:Nat)(F:KF R)(p:List Nat)(ks:List (St->O R)):CutB R:=⟨Aas P muts fn.ntmps hs T,roots,N,Ac7 (Aas P muts fn.ntmps hs T) roots N p (Ac8 fn) hs.H (Ru (Aas P muts fn.ntmps hs T) fn hs.modes roots F) (fun _ _=>none) (Ru (Aas P muts fn.ntmps hs T) fn hs.modes roots F) ks⟩
def iv(n:Int):AV:=.int .i64 n
def op(k:Nat):AV:=.optr (300000+k) 0
def Af6:Nat->List Blk->Aw
|_,[]=>[]
|i,b::r=>(i,b)::Af6 (i+1) r
def hq(l:List Blk):Aw:=Af6 300000 l
def bQ(sz:Nat)(c:LA):Blk:=⟨false,false,true,false,sz,c,false,none⟩
def bN(sz:Nat)(c:LA):Blk:=⟨false,false,false,false,sz,c,false,none⟩
def bP(t:Bool)(sz:Nat)(c:LA):Blk:=⟨false,false,true,t,sz,c,false,none⟩
def Au{R:Type}(kd:IntKind)(c:LA)(k:Int->O R):O R:=(c.head?).bind fun x=>(NY kd x).bind k
def X2{R:Type}(c:LA)(k:Bool->O R):O R:=(c.head?).bind fun x=>(asBool x).bind k
def pn{R:Type}(c:LA)(k:Lu->O R):O R:=(c.head?).bind fun x=>(ZU x).bind k
def Bv{R:Type}(sz:Nat)(c:LA)(k:LA->Nat->O R):O R:=(c.head?).bind fun x=>(wJ sz x).bind fun p=>k p.1 p.2
def tZ(k:IntKind)(a b:Int):Int:=k.wrap ((BitVec.ofInt k.bits a &&& BitVec.ofInt k.bits b).toNat:Int)
def Of(k:IntKind)(a b:Int):Int:=k.wrap ((BitVec.ofInt k.bits a ||| BitVec.ofInt k.bits b).toNat:Int)
def rA{α δ:Type}(f:α->δ){a a':α}(k:a=a'):f a=f a':=by rw[k]
def wrap_u8(a:Nat):wrap .u8 (a:Int)=((a%256:Nat):Int):=by rw[IntKind.wrap_u8];omega
def wrap_u32(a:Nat)(h:a<4294967296):wrap .u32 (a:Int)=(a:Int):=IntWalk.u32_in _ (by omega)
def wd(a:Nat):wrap .u32 (a:Int)=((a%4294967296:Nat):Int):=by rw[IntKind.wrap_u32];omega
def Bi(a:Int)(h:-9223372036854775808<=a/\a<=9223372036854775807):wrap .i64 a=a:=IntWalk.i64_in _ h
def wrap_u64(a:Nat)(h:a<18446744073709551616):wrap .u64 (a:Int)=(a:Int):=IntWalk.u64_in _ (by omega)
def ME(w a:Nat):BitVec.ofInt w (a:Int)=BitVec.ofNat w a:=by simp
def t6{k:IntKind}(hs:k.signed=false){a b:Nat}(A:a<2 ^ k.bits)(v:b<2 ^ k.bits):tZ k a b=((a &&& b:Nat):Int):=by
 unfold tZ
 rw[ME,ME]
 have B:(BitVec.ofNat k.bits a &&& BitVec.ofNat k.bits b).toNat=a &&& b:=by
  rw[BitVec.toNat_and,Alj,Alj,Aig A,Aig v]
 rw[B]
 have C:a &&& b<2 ^ k.bits:=Nat.and_lt_two_pow _ v
 unfold wrap
 simp only[hs,Amk,Ajr,if_false]
 have:(2 ^ k.bits:Int)=((2 ^ k.bits:Nat):Int):=by simp
 rw[this,<-Int.natCast_emod,Aig C]
def l8{k:IntKind}(hs:k.signed=false){a b:Nat}(v:a<2 ^ k.bits)(A:b<2 ^ k.bits):Of k a b=((a ||| b:Nat):Int):=by
 unfold Of
 rw[ME,ME]
 have B:(BitVec.ofNat k.bits a ||| BitVec.ofNat k.bits b).toNat=a ||| b:=by
  rw[BitVec.toNat_or,Alj,Alj,Aig v,Aig A]
 rw[B]
 have C:a ||| b<2 ^ k.bits:=Nat.or_lt_two_pow v A
 unfold wrap
 simp only[hs,Amk,Ajr,if_false]
 have:(2 ^ k.bits:Int)=((2 ^ k.bits:Nat):Int):=by simp
 rw[this,<-Int.natCast_emod,Aig C]
def O5(a k:Nat):Int.fdiv (a:Int) (2 ^ k)=((a/2 ^ k:Nat):Int):=by
 have:(2 ^ k:Int)=((2 ^ k:Nat):Int):=by simp
 rw[this,Aml (a:Int) (Int.natCast_nonneg (2 ^ k))]
 rfl
def Av{R:Type}{k:IntKind}{n:Int}{r:LA}{f:Int->O R}:Au k (.int k n::r) f=f n:=by simp[Au,NY,Ih]
def Ab{i n:Nat}(h:i<n):Ah (i:Int) n=true:=by simp[Ah];omega
structure Bd(P:Program)where
 f:Nat
 run:LA->Aw->Option ((R:Type)->KF R->O R)
 eq:∀ a h g,run a h=some g->∀(R:Type)(k:KF R),g R k=(g (AV×Aw) fun v h=>some (v,h)).bind fun p=>k p.1 p.2
 ok:∀ a h g res h',run a h=some g->(g (AV×Aw) fun v h=>some (v,h))=some (res,h')->Aar P f a h res h'
def Af7{R:Type}(k:KF R):Option ((R:Type)->KF R->O R)->O R
|some g=>g R k
|none=>none
def Bd.tw {P:Program} (b:Bd P):Tw:=⟨fun {R} a h k=>Af7 k (b.run a h),fun {R} a h k=>by
 cases e:b.run a h with
|none=>rfl
| some g=>exact b.eq a h g e R k⟩
def Bd.tok{P:Program}(b:Bd P):oC P b.f b.tw:=by
 intro a h res h' k
 have k:Af7 (fun v h'=>some (v,h')) (b.run a h)=some (res,h'):=k
 cases e:b.run a h with
|none=>rw[e]at k;cases k
|some g=>rw[e]at k;exact b.ok a h g res h' e k
def Aat{P:Program}:List (Bd P)->List (Nat×Tw)
|[]=>[]
|b::r=>(b.f,b.tw)::Aat r
def vM{P:Program}:∀ l:List (Bd P),fg P (Aat l)
|[]=>trivial
|b::r=>⟨b.tok,vM r⟩
def Afd {P:Program} {f:Nat} (t:Tw) (h:oC P f t):Bd P:=⟨f,fun a h=>some fun _ k=>t.runK a h k,fun a h g e R k=>by cases e;exact t.eq a h k,fun a h g res h' e hh=>by cases e;exact ‹oC P f t› a h res h' hh⟩
def Afe {P:Program} (x y:Bd P) (e:x.f=y.f):Bd P:=⟨x.f,fun a h=>match x.run a h with | some g=>some g | none=>y.run a h,fun a h g q=>by
 split at q
 ·cases q;exact x.eq a h _ ‹_›
 ·exact y.eq a h g q,fun a h g res h' q=>by
 split at q
 ·cases q;exact x.ok a h _ res h' ‹_›
 ·rw[e];exact y.ok a h g res h' q⟩
def Agm(P:Program)(muts:Nat->List Bool)(T:List (Nat×Tw))(hs:Hints)(N f:Nat)(a:LA)(h:Aw):Option ((R:Type)->KF R->O R)->Prop
|some g=>∀(R:Type)(F:KF R),aA P muts T hs N f a h F=g R F
|none=>True
def Agn{P:Program}{muts:Nat->List Bool}(hm:P.follows .mixedOrders=true)(N f:Nat)(l:List (Bd P))(hs:Hints)(run:LA->Aw->Option ((R:Type)->KF R->O R))(e:∀ a h,Agm P muts (Aat l) hs N f a h (run a h)):Bd P :=
 ⟨f,run,fun a h g q R k=>by
  have H:=e a h;rw[q]at H
  rw[<-H,<-H];exact PZ ..,fun a h g res h' q hh=>by
  have H:=e a h;rw[q]at H
  rw[<-H] at hh;exact IS (vM l) hm hh⟩
def lW{R τ:Type}(p:(St->O R)->τ)(q:CutB R):p (yg q)=p (As q q.N):=congrArg p (funext fun _=>yh q _)
def jW{R τ:Type}(p:(St->O R)->τ)(q:CutB R):p (tY q)=p (Bc q):=congrArg p (funext fun _=>wc q _)
def wg{α δ:Type}{f g:α->δ}(h:∀ a,f a=g a):f=g:=funext h
def oE{α β δ:Type}{f g:α->β->δ}(h:∀ a b,f a b=g a b):f=g:=funext fun _=>funext (h _)
def Aea{α β γ δ:Type}{f g:α->β->γ->δ}(h:∀ a b c,f a b c=g a b c):f=g:=funext fun _=>oE (h _)
def t7{α β γ ε δ:Type}{f g:α->β->γ->ε->δ}(h:∀ a b c d,f a b c d=g a b c d):f=g:=funext fun _=>Aea (h _)
def Ago{α β γ ε ζ δ:Type}{f g:α->β->γ->ε->ζ->δ}(h:∀ a b c d e,f a b c d e=g a b c d e):f=g:=funext fun _=>t7 (h _)
def Aff{α β γ ε ζ η δ:Type}{f g:α->β->γ->ε->ζ->η->δ}(h:∀ a b c d e x,f a b c d e x=g a b c d e x):f=g:=funext fun _=>Ago (h _)
def Af8:Nat->Nat->List Nat->List Nat
|0,_,l=>l
|f+1,n,l=>cond (ble n 1) l (Af8 f (n/4) (n%4::l))
def pz(n:Nat):List Nat:=Af8 100 n []
def hK:Nat->Hint->Hint
|0,h=>h
|n+1,h=>hS hL (hK n h)
def Gu{τ:Type}{f g:Nat->τ}(h:∀ n,f n=g n->f (n+1)=g (n+1))(k:f 0=g 0:=by kernel_rfl):∀ n,f n=g n
|0=>k
|n+1=>h n (Gu h k n)
def Cg{α δ:Type}{z:δ}(f:α->δ){a a':α}(v:a=a')(k:z=f a:=by kernel_rfl):z=f a':=by rw[k,v]
def OF{α β δ:Type}{z:δ}(f:α->β->δ){a a':α}{b v:β}(A:a=a')(B:b=v)(k:z=f a b:=by kernel_rfl):z=f a' v:=by rw[k,A,B]
def Afg{α β γ δ:Type}{z:δ}(f:α->β->γ->δ){a a':α}{b v:β}{c c':γ}(A:a=a')(B:b=v)(C:c=c')(k:z=f a b c:=by kernel_rfl):z=f a' v c':=by rw[k,A,B,C]
def Agp{α β γ ε ζ η δ:Type}{z:δ}(f:α->β->γ->ε->ζ->η->δ){a a':α}{b v:β}{c c':γ}{d d':ε}{e e':ζ}{g g':η}(A:a=a')(B:b=v)(C:c=c')(D:d=d')(G:e=e')(I:g=g')(k:z=f a b c d e g:=by kernel_rfl):z=f a' v c' d' e' g':=by rw[k,A,B,C,D,G,I]
def yi{R:Type}(E:Env)(roots:List Nat)(H:Hint)(f:St->O R)(st:St):O R:=cond H.isJoin ((FW E H.live roots st).bind f) (f st)
def yj{R:Type}(E:Env)(roots:List Nat)(H:Hint)(f:St->O R):yi E roots H f=qA E roots H f:=by funext st;unfold yi qA;rw[Rt]
def N0{R:Type}(E:Env)(roots:List Nat)(N:Nat):Code->Hint->(St->O R)->(Nat->St->O R)->(St->O R)->St->O R
|.skip,_,k,_,_,st=>k st
|.region _ ops draw,_,k,_,_,st=>CQ E roots ops draw st k
|.seq a b,H,k,x,r,st=>N0 E roots N a H.a (yi E roots H fun st=>N0 E roots N b H.b k x r st) x r st
|.cond c a b,H,k,x,r,st=>match ev st.s c with
  |.bool t=>cond t (N0 E roots N a H.a k x r st) (N0 E roots N b H.b k x r st)
  |_=>none
|.block id c,H,k,x,r,st=>N0 E roots N c H.a k (fun j st=>cond (beq j id) (k st) (x j st)) r st
|.loop c,H,_,x,r,st=>(FW E H.live roots st).bind (FX (FW E H.live roots) (fun k st=>N0 E roots N c H.a k x r st) N)
|.exit id,_,_,x,_,st=>x id st
|.ret,_,_,_,r,st=>r st
|.scope c,H,k,x,r,st=>N0 E roots N c H.a k x r st
|.label _,_,k,_,_,st=>k st
|_,_,_,_,_,_=>none
def wh{R:Type}(E:Env)(roots:List Nat)(N:Nat):∀(c:Code)(H:Hint)(k:St->O R)(x:Nat->St->O R)(r:St->O R)(st:St),N0 E roots N c H k x r st=C1 E roots N c H k x r st:=by
 intro c
 induction c with
|skip=>intro H k x r st;rfl
|region id ops draw=>intro H k x r st;rfl
|seq a b v A =>
  intro H k x r st
  rw[C1,N0,v,yj]
  congr 2;funext st
  exact A ..
|cond c a b v A =>
  intro H k x r st
  rw[C1,N0]
  simp only[v,A]
  rfl
|block id c B=>intro H k x r st;rw[C1,N0,B]
|loop c B =>
  intro H k x r st
  rw[C1,N0,Rt]
  have:(fun k st=>N0 E roots N c H.a k x r st)=fun k st=>C1 E roots N c H.a k x r st:=by funext k st;exact B ..
  rw[this]
|exit id=>intro H k x r st;rfl
|ret=>intro H k x r st;rfl
|rangeFunc=>intro H k x r st;rfl
|scope c B=>intro H k x r st;rw[C1,N0,B]
|label=>intro H k x r st;rfl
|goto=>intro H k x r st;rfl
|refuse=>intro H k x r st;rfl
def fu{R:Type}(P:Program)(muts:Nat->List Bool)(T:List (Nat×Tw))(hs:Hints)(N f:Nat)(args:LA)(h:Aw)(k:AV->Aw->O R):O R :=
 match P.funcs[f]? with
|none=>none
| some fn=>match fn.body with
  |none=>none
  |some c =>
   let E:Env:={P,nt:=fn.ntmps,muts,nils:=hs.nils,free:=hs.free,cob:=hs.cob,tbl:=T}
   let outs:=h.map (·.1)
   let fin:=Ru E fn hs.modes outs k
   cond (ble args.length fn.ntmps&&SA h) (N0 E outs N c hs.H fin (fun _ _=>none) fin {s:=fJ 0 args,h}) none
def AP{R:Type}(P:Program)(muts:Nat->List Bool)(T:List (Nat×Tw))(hs:Hints)(N f:Nat)(v:LA)(h:Aw)(k:AV->Aw->O R):fu P muts T hs N f v h k=aA P muts T hs N f v h k:=by
 unfold fu aA
 cases P.funcs[f]? with
|none=>rfl
|some fn =>
  simp only
  cases fn.body with
  |none=>rfl
  |some c=>simp only;rw[wh]
end Gx
namespace Gx
open Go Go.RowKit
def wi{P:Program}{f:Nat}{t:Tw}(C:oC P f t){W:World}{avs:LA}{vs:List Value}(hr:Reps (fun _ k=>k<W.heap.size) (fun _=>none) [] W avs vs)
  (B:(t.runK avs [] fun v h=>some (v,h))=some (.bool true,[])) (D:GlobOk (fun _ k=>k<W.heap.size) W):Calls P f vs.toArray W fun e w'=>e=.returned (.bool true)/\Below W.heap.size W w':=by
 have S:SimH (fun _ k=>k<W.heap.size) (fun _=>none) [] W:=⟨fun _ _ h=>h,fun _ h=>h,D,fun b x A=>by simp[Al]at A,fun b x A=>by simp[Al]at A,fun b L x x' k o o' A=>by simp[Al]at A⟩
 refine Calls.mono (C avs [] _ _ B _ _ W vs S hr) ?_
 rintro e w' ⟨vc,J',β',rfl,F,G⟩
 rw[Rep]at G;subst G
 refine⟨rfl,F.os,F.tape,F.output,F.size,fun k I=>F.frame k I ?_⟩
 rintro⟨b,x,o,A,_⟩
 change Al [] b=some x at A
 simp[Al]at A
structure Opens(P:Program)(t:TypeId){α:Type}(e:α->List AV)(n:Nat):Prop where
 size:P.cellsOf t=n
 pos:0<n
 len:∀ a,(e a).length=n
 read:∀{H:Type}(enc:TypeId×Value->H)(W:World)(fuel:Nat)(cs:List Value)(d:DataW H)(ps:List MemPlace),DataW.trod enc P W 0 (fun _=>true) true fuel t cs=some (d,ps) ->
  cs.length=n/\∃ a,RepCs (fun k=>k<W.heap.size) W (e a) (fun j=>cs[j]?) 0
def l_{P:Program}{t:TypeId}{k:IntKind}(v:P.underlying t=some (.int k))(A:P.cellsOf t=1):Opens P t (α:={n:Int // (Lit.int k n).wf=true}) (fun n=>[.int k n.1]) 1:=by
 refine⟨A,by omega,fun _=>rfl,fun enc W fuel cs d ps h=>?_⟩
 obtain⟨n,rfl,_,B⟩:=DataW.trod_int v h
 exact⟨rfl,⟨n,B⟩,by simp[RepCs,RepC]⟩
def t8{P:Program}{t:TypeId}(k:P.underlying t=some .bool)(v:P.cellsOf t=1):Opens P t (α:=Bool) (fun b=>[.bool b]) 1:=by
 refine⟨v,by omega,fun _=>rfl,fun enc W fuel cs d ps h=>?_⟩
 obtain⟨b,rfl,_⟩:=DataW.trod_bool k h
 exact⟨rfl,b,by simp[RepCs,RepC]⟩
def aV{α β:Type}{e:α->List β}{n:Nat}(hn:0<n)(k:∀ a,(e a).length=n):∀(l:List α)(j:Nat),(l.flatMap e)[j]?=(l[j/n]?).bind fun a=>(e a)[j%n]?
|[],j=>by simp
| a::r,j=>by
  rw[Aie]
  by_cases v:j<n
  ·rw[Ala (by rw[k];exact v),Aiw v,Aig v];simp
  ·rw[Ak3 (by rw[k];omega),k,aV hn k r (j - n)]
   have A:j/n=(j - n)/n+1:=by
    have:=Nat.add_div_right (j - n) hn
    rw[show j - n+n=j by omega]at this;exact this
   have B:j%n=(j - n)%n:=by
    have:=Nat.add_mod_right (j - n) n
    rw[show j - n+n=j by omega]at this;exact this
   rw[A,B];simp
def aW{α β:Type}{e:α->List β}{n:Nat}(k:∀ a,(e a).length=n):∀(l:List α),(l.flatMap e).length=l.length*n
|[]=>by simp
|a::r=>by rw[Aie,Ahy,k,aW k r,Ah8,Aob];omega
def rB{α β:Type}{f:α->Option β}:∀{l:List α}{r:List β},l.mapM f=some r->r.length=l.length/\∀(i:Nat)(a:α),l[i]?=some a->f a=r[i]?
|[],r,h=>by simp at h;subst h;simp
| x::l,r,h=>by
  rw[Anl]at h
  cases k:f x with
  |none=>simp[k]at h
  | some y =>
   cases v:l.mapM f with
   |none=>simp[k,v]at h
   |some ys =>
    simp[k,v]at h
    subst h
    obtain⟨A,B⟩:=rB v
    refine⟨by simp[A],fun i a hi=>?_⟩
    cases i with
    |zero=>simp at hi;subst hi;simpa using k
    |succ i=>simpa using B i a (by simpa using hi)
def aX {P:Program} {t V:TypeId} {α:Type} {e:α->LA} {n:Nat} (hu:P.underlying t=some (.slice V)) (hc:P.cellsOf t=1) (C:Opens P V e n) :
  Opens P t (α:={l:List α // l.length<=maxLen}) (fun l=>[.imm (l.1.flatMap e) l.1.length n false false]) 1:=by
 refine⟨hc,by omega,fun _=>rfl,fun enc W fuel cs d ps h=>?_⟩
 cases fuel with
|zero=>simp[DataW.trod]at h
| succ fuel =>
  unfold DataW.trod at h
  simp only[hu]at h
  split at h
  all_goals first|(rename_i v;simp at v;done)|(rename_i v _;simp at v;done)|(rename_i v _ _;simp at v;done)|skip
  ·refine⟨rfl,⟨[],by simp⟩,?_⟩
   simp[RepCs,RepC]
  ·rename_i e' a len cap v
   simp at v;subst v
   split at h
   ·rename_i D
    obtain⟨hb,hlc,hcm⟩:=D
    refine⟨rfl,?_⟩
    cases hm:(List.range len).mapM (fun i=>(W.cells? 0 (a.add (i*P.cellsOf V)) (P.cellsOf V)).bind (DataW.trod enc P W 0 (fun _=>true) true fuel V))with
    |none=>rw[hm]at h;simp at h
    | some lG =>
     obtain⟨h1,h2⟩:=rB hm
     rw[C.size]at h2
     have each:∀ i:Nat,i<len->∃ x:α,∃ cs,W.cells? 0 (a.add (i*n)) n=some cs/\RepCs (fun k=>k<W.heap.size) W (e x) (fun j=>cs[j]?) 0:=by
      intro i hi
      have Y:=h2 i i (by simp[hi])
      rw[Ahk (by rw[h1];simpa using hi)]at Y
      cases A:W.cells? 0 (a.add (i*n)) n with
      |none=>rw[A]at Y;simp at Y
      |some cs =>
       rw[A]at Y
       obtain⟨_,x,v⟩:=C.read enc W fuel cs _ _ Y
       exact⟨x,cs,rfl,v⟩
     have build:∀ m,m<=len->∃ l:List α,l.length=m/\∀ i x,l[i]?=some x->∃ cs,W.cells? 0 (a.add (i*n)) n=some cs/\RepCs (fun k=>k<W.heap.size) W (e x) (fun j=>cs[j]?) 0:=by
      intro m
      induction m with
      |zero=>intro _;exact⟨[],rfl,by simp⟩
      | succ m ih =>
       intro hm
       obtain⟨l,hl,G⟩:=ih (by omega)
       obtain⟨x,cs,hx1,hx2⟩:=each m (by omega)
       refine⟨l++[x],by simp[hl],fun i y L=>?_⟩
       rw[Aiv]at L
       split at L
       ·exact G i y L
       ·have:i=m:=by
         have:=(Ahx.1 L).1
         simp at this;omega
        subst this
        simp[hl]at L;subst L
        exact⟨cs,hx1,hx2⟩
     obtain⟨l,hl,G⟩:=build len (Ahl _)
     refine⟨⟨l,by omega⟩,?_⟩
     simp only[RepCs,RepC,and_true]
     refine⟨_,rfl,?_,some a,cap,by rw[hl],by omega,by simp,?_⟩
     ·exact aW C.len l
     ·by_cases h0:l.length=0
      ·exact .inl h0
      ·right
       refine⟨a,rfl,?_,?_⟩
       ·obtain⟨x,cs,v,_⟩:=each 0 (by omega)
        have:=World.cells?_block v C.pos
        rwa [Qn]at this
       ·rw[Bn]
        intro j x T
        rw[aV C.pos C.len]at T
        cases hq:l[j/n]? with
        |none=>rw[hq]at T;simp at T
        |some y =>
         rw[hq]at T
         simp at T
         obtain⟨cs,A,B⟩:=G (j/n) y hq
         rw[Bn]at B
         obtain⟨u,hu1,hu2⟩:=B (j%n) x T
         refine⟨u,?_,hu2⟩
         obtain⟨_,hlen,I⟩:=World.cells?_some A
         have hlt:j%n<n:=Ajf _ C.pos
         have:=I (j%n) hlt
         rw[Addr.add_add,show j/n*n+j%n=j by rw[Ahn];exact Aix j n]at this
         simp only[Ah0]at hu1 ⊢
         rw[this];exact hu1
   ·simp at h
  ·simp at h
def yk{J:Bool->Nat->Prop}{β:Bx}{h:Aw}{w:World}{x:AV}{vs:List Value}(H:Reps J β h w [x] vs):∃ u,vs=[u]/\Rep J β h w x u:=by
 rw[Reps]at H
 obtain⟨u,us,rfl,v,k⟩:=H
 rw[Reps]at k;subst k
 exact⟨u,rfl,v⟩
end Gx
namespace Gx
open Go Go.Proofs
set_option maxRecDepth 100000
noncomputable section
variable{R:Type}(N:Nat)
def muts:Nat->List Bool:=Aca [(54,[true,false,false,false]),(56,[true,true,false]),(68,[false,false,false,true,true]),(70,[false,false,true,true]),(71,[false,true,true,true,true,true,true,true,true]),(85,[true,false,false]),(87,[true,true,false,false]),(89,[true,false]),(90,[true,false,false]),(92,[true,false,false,false,false]),(93,[true,false,false,false]),(94,[true,false,false,false]),(111,[true,false,false]),(112,[true,false,false,false]),(113,[true,false,false,false]),(123,[true,false,false]),(125,[true]),(126,[true]),(144,[true,false,false]),(145,[true,false,false]),(146,[true,false,false]),(147,[true,false]),(148,[true]),(149,[true,false]),(151,[true,false]),(152,[true,false]),(153,[true,false,false,false]),(154,[true,false,false,false,false,false,false,false]),(155,[true,false,false,false,false,false]),(157,[true,false,false]),(158,[true,false,false]),(159,[true,false,false]),(160,[true,false,false]),(161,[true,false,false]),(169,[false,true]),(171,[false,true,true,true,true,true,true,true,true]),(172,[false,true]),(180,[true]),(195,[true,false,false]),(202,[true,false,false,false,false,false]),(204,[true,false,false,false,false,false]),(205,[true,false,false]),(212,[false,true]),(232,[true,false,false]),(233,[true,false]),(238,[true]),(239,[false,false,true]),(240,[false,false,false,false,true]),(244,[true,false]),(246,[false,true,true,true,true,true,true,true,true]),(247,[true,false,false]),(248,[false,true,true,true,true,true,true,true,true]),(249,[false,false,false,true]),(250,[false,true,true,true,true,true,true,true,true])]
def Agq{R:Type}:=@Agl R Tryz.prog muts
def follows:Tryz.prog.follows .mixedOrders=true:=by kernel_rfl
abbrev U6:=List (Bd Tryz.prog)
def L7{R:Type}(fn hs)(l:U6)(r N)(F:KF R):=@Agq R fn hs (Aat l) r N F
def Ce(N f:Nat):=@Agn Tryz.prog muts follows N f
def Eg:Hints:={H:=hL}
def Kl:Hints:={H:=hL,modes:=[(3,0)]}
def aY:Hints:={H:=hK 2 (hS (hS (hP [0,3] hL) hL) hL),nils:=[(2,1)],modes:=[(2,1)]}
def ym:Hints:={H:=hL,nils:=[(2,1)],modes:=[(2,1)]}
def lc:Hints:={H:=hK 3 (hS (hK 1 (hS (hP [0,1,5] hL) hL)) hL)}
def vN:Hints:={H:=hK 2 (hJ [0,1,5] hL hL)}
def Cq(F:KF R):LA->O R:=fun v0=>F (.pagg v0 false) []
def Gv(F:KF R):Int->O R:=fun v0=>F (iv v0) []
def Cm(F:KF R):Bool->O R:=fun v0=>F (.bool v0) []
def B9(F:KF R):Nat->LA->O R:=fun v0 v1=>F (Aqb 0 v0) (hq [bQ 1 v1])
def Gw(F:KF R):LA->O R:=fun v0=>F (.tup []) [(100000,bQ 0 v0)]
def Aau(F:KF R):Bool->Nat->LA->O R:=fun v0 v1 v2=>F (.agg [.bool v0,Aqb 0 v1]) (hq [bQ 1 v2])
def dQ(v0:LA)(v1:Nat)(v2 v3:Bool)(F:KF R):LA->Int->O R:=fun v4 v5=>F (.pagg v4 false) [(100000,bN 0 [.imm v0 v1 1 v2 v3,iv v5])]
def XA(F:KF R):Nat->Bool->LA->O R:=fun v0 v1 v2=>F (.tup [Aqb 0 v0,.bool v1]) (hq [bQ 1 v2])
def yn(v0:LA)(v1:Nat)(v2 v3:Bool)(F:KF R):Nat->Int->LA->O R:=fun v4 v5 v6=>F (Aqb 0 v4) [(100000,bN 0 [.imm v0 v1 1 v2 v3,iv v5]),(300000,bQ 1 v6)]
def U7(F:KF R):LA->Int->O R:=fun v0 v1=>F (.tup [.pagg v0 false,iv v1]) []
def rC(F:KF R):Int->O R:=fun v0=>F (.int .u64 v0) []
def rD(F:KF R):Int->Bool->O R:=fun v0 v1=>F (.tup [.int .u64 v0,.bool v1]) []
def aZ(F:KF R):Nat->Nat->LA->LA->O R:=fun v0 v1 v2 v3=>F (.tup [Aqb 0 v0,Aqb 1 v1]) (hq [bQ 1 v2,bQ 1 v3])
def a8(F:KF R):Nat->Nat->Bool->LA->LA->O R:=fun v0 v1 v2 v3 v4=>F (.tup [Aqb 0 v0,Aqb 1 v1,.bool v2]) (hq [bQ 1 v3,bQ 1 v4])
def yp(F:KF R):Nat->Nat->LA->Bool->LA->O R:=fun v0 v1 v2 v3 v4=>F (.tup []) [(100000,bN 0 [Aqb 0 v0,Aqb 1 v1]),(300000,bQ 1 v2),(300001,bP v3 3 v4)]
def rE(F:KF R):LA->Bool->O R:=fun v0 v1=>F (.pagg v0 v1) []
end
end Gx
namespace Gx
def val:List Nat->Nat
|[]=>0
|x::r=>x+4294967296*val r
def Ai(l:List Nat):Prop:=∀ x∈l,x<4294967296
def rF:Nat->Nat->List Nat
|0,_=>[]
|f+1,n=>if n=0 then []else n%4294967296::rF f (n/4294967296)
def An(n:Nat):List Nat:=rF n n
def vO:∀(f n:Nat),n<=f->∀ g,n<=g->rF f n=rF g n
|0,n,h,g,_=>by
  have:n=0:=by omega
  subst this;cases g<;>simp[rF]
| f+1,n,h,g,v=>by
  by_cases k:n=0
  ·subst k;cases g<;>simp[rF]
  ·cases g with
   |zero=>omega
   |succ g=>simp only[rF,k,if_false];rw[vO f _ (by omega) g (by omega)]
def Dd:An 0=[]:=rfl
def DD{n:Nat}(h:n≠0):An n=n%4294967296::An (n/4294967296):=by
 unfold An
 cases n with
|zero=>omega
|succ n=>simp only[rF,h,if_false];rw[vO n _ (by omega) ((n+1)/4294967296) (by omega)]
def Aj:∀ n,val (An n)=n:=by
 intro n
 induction n using Nat.strongRecOn with
|_ n k =>
  by_cases h:n=0
  ·subst h;rfl
  ·rw[DD h,val,k _ (by omega)];omega
def Ad:∀ n,Ai (An n):=by
 intro n
 induction n using Nat.strongRecOn with
| _ n v =>
  by_cases h:n=0
  ·subst h;intro x k;simp[Dd]at k
  ·rw[DD h];intro x k
   simp at k
   rcases k with rfl|k
   ·omega
   ·exact v _ (by omega) x k
def Qu:Ai []:=by intro x k;simp at k
def Cr{x:Nat}{r:List Nat}:Ai (x::r)↔x<4294967296/\Ai r:=by simp[Ai]
def SP{a b:List Nat}:Ai (a++b)↔Ai a/\Ai b:=by simp[Ai,or_imp,forall_and]
def Bw{a:List Nat}(h:Ai a)(n:Nat):Ai (a.take n):=fun x k=>h x (Ak4 k)
def DE{a:List Nat}(h:Ai a)(n:Nat):Ai (a.drop n):=fun x k=>h x (List.mem_of_mem_drop k)
def Az{a:List Nat}(h:Ai a){i:Nat}(hi:i<a.length):a[i]<4294967296:=h _ (Ahu hi)
def B4{a:List Nat}(h:Ai a){v:Nat}(B:v<4294967296)(i:Nat):Ai (a.set i v):=fun x A=>by
 rcases List.mem_or_eq_of_mem_set A with k|k
 ·exact h x k
 ·omega
def Bz(n:Nat):Ai (replicate n 0):=fun x k=>by simp at k;omega
def N1:∀(a b:List Nat),val (a++b)=val a+4294967296 ^ a.length*val b
|[],b=>by simp[val]
|x::r,b=>by
  simp only[Ail,val,Ah8,N1 r b,Ahw]
  rw[Ahs,<-Ai1,<-Ahq];congr 2;rw[Ahn]
def Dm:∀ n,val (replicate n 0)=0
|0=>rfl
|n+1=>by rw[Amf,val,Dm n]
def A6:∀{a:List Nat},Ai a->val a<4294967296 ^ a.length
|[],_=>by simp[val]
|x::r,h=>by
  have k:=Cr.1 h
  have v:=A6 k.2
  rw[val,Ah8,Ahw]
  omega
def t_(a:List Nat)(x:Nat):val (a++[x])=val a+4294967296 ^ a.length*x:=by rw[N1];simp[val]
def P_{n:Nat}(h:n≠0):An n≠[]:=by rw[DD h];simp
def fv{n:Nat}:An n=[]↔n=0:=by
 constructor
 ·intro h;by_cases k:n=0;exact k;exact absurd h (P_ k)
 ·intro h;rw[h];rfl
def Bb{n:Nat}:(An n).length=0↔n=0:=by rw[Am3,fv]
def A9:∀{l:List Nat},Ai l->l=An (val l)++replicate (l.length - (An (val l)).length) 0/\(An (val l)).length<=l.length
|[],_=>by simp[val,Dd]
| x::r,h=>by
  have A:=Cr.1 h
  obtain⟨k,B⟩:=A9 A.2
  rw[val]
  by_cases v:x+4294967296*val r=0
  ·have C:x=0:=by omega
   have hr:val r=0:=by omega
   rw[v,Dd]
   rw[hr,Dd]at k
   simp at k
   subst C
   refine⟨?_,by simp⟩
   rw[Ajy,Ajo,Nat.sub_zero,Ah8,Amf,<-k]
  ·rw[DD v,show(x+4294967296*val r)%4294967296=x by omega,show(x+4294967296*val r)/4294967296=val r by omega]
   refine⟨?_,by simp;exact B⟩
   rw[Ail,Ah8,Ah8,Nat.add_sub_add_right,<-k]
def fy:∀(n:Nat)(h:An n≠[]),(An n).getLast h≠0:=by
 intro n
 induction n using Nat.strongRecOn with
| _ n A =>
  intro h
  have B:n≠0:=fun e=>h (by rw[e];rfl)
  have e:=DD B
  by_cases v:n/4294967296=0
  ·rw[v,Dd]at e
   have:n<4294967296:=by omega
   simp[e];omega
  ·have k:=P_ v
   have:=A _ (by omega) k
   have C:(An n).getLast h=(An (n/4294967296)).getLast k:=by
    simp only[e];rw[List.getLast_cons k]
   rw[C];exact this
def Ac9:∀{l:List Nat},Ai l->(∀ h:l≠[],l.getLast h≠0)->An (val l)=l:=by
 intro l h D
 obtain⟨v,G⟩:=A9 h
 by_cases B:l.length - (An (val l)).length=0
 ·rw[B]at v;simpa using v.symm
 ·exfalso
  obtain⟨k,B⟩:=Nat.exists_eq_succ_of_ne_zero B
  rw[B,List.replicate_succ',<-Akc]at v
  have A:l≠[]:=by intro e;rw[e]at v;simp at v
  apply D A
  have C:l.getLast?=some 0:=by rw[v,List.getLast?_append];rfl
  rw[List.getLast?_eq_some_getLast A]at C
  simpa using C
def Ch {n k:Nat} (h:n<4294967296 ^ k):(An n).length<=k:=by
  induction k generalizing n with
  | zero => have : n = 0 := by simpa using h
            subst this;simp[Dd]
  | succ k A =>
    by_cases v:n=0
    · subst v;simp[Dd]
    · rw[DD v,Ah8]
      have:n/4294967296<4294967296 ^ k:=by
        rw[Ahw]at h
        exact Akp (by rw[Ahn];exact h)
      have:=A this
      omega
def Bh{a b:Nat}(h:a<=b):(An a).length<=(An b).length:=by
 apply Ch
 have:=A6 (Ad b)
 rw[Aj]at this
 omega
def ld{U V U3 V2 P d:Nat}(hV:V2*P<=V)(hU:U<(U3+1)*P)(h:U3<d*V2)(k:0<V):U/V<d:=by
 rw[Al0 k]
 have A:(U3+1)*P<=d*V2*P:=Ahp _ h
 have v:d*(V2*P)<=d*V:=Ah7 _ hV
 rw[<-Ahq]at v
 omega
def lf{U V U3 V2 P d:Nat}(hV:V<(V2+1)*P)(hU:U3*P<=U)(h:d*V2<=U3)(v:d<=V2+1)(k:0<V):d<=U/V+1:=by
 cases d with
|zero=>exact Alr _
| succ d =>
  have:d<=U/V:=by
   rw[Ak0 k]
   have A:(d+1)*V2*P<=U3*P:=Ahp _ h
   have B:d*V<=d*((V2+1)*P):=Ah7 _ (by omega)
   have C:d*((V2+1)*P)<=(d+1)*V2*P:=by
    rw[<-Ahq]
    apply Ahp
    rw[Ahs,Ahv];omega
   omega
  omega
def rG{a b u v s t x y:Nat}(B:x+v*b=u*a)(C:y+s*a=t*b)(k:u*t=v*s+1):Nat.gcd x y=Nat.gcd a b:=by
 have e1:t*x+v*y=a:=by
  have A:t*x+t*v*b=t*u*a:=by rw[<-Ahq t u a |>.symm,Ahq t v b,<-Ahs,B]
  have D:v*y+v*s*a=v*t*b:=by rw[Ahq,Ahq,<-Ahs,C]
  have G:t*u*a=v*s*a+a:=by rw[Ahn t u,k,Ahv,Amy]
  have I:t*v*b=v*t*b:=by rw[Ahn t v]
  omega
 have L:s*x+u*y=b:=by
  have A:s*x+s*v*b=s*u*a:=by rw[Ahq,Ahq,<-Ahs,B]
  have D:u*y+u*s*a=u*t*b:=by rw[Ahq,Ahq,<-Ahs,C]
  have G:u*t*b=v*s*b+b:=by rw[k,Ahv,Amy]
  have I:s*u*a=u*s*a:=by rw[Ahn s u]
  have T:s*v*b=v*s*b:=by rw[Ahn s v]
  omega
 apply Nat.dvd_antisymm
 ·apply Nat.dvd_gcd
  ·rw[<-e1];exact Nat.dvd_add (Ajb (Aj5 x y) t) (Ajb (Ak2 x y) v)
  ·rw[<-L];exact Nat.dvd_add (Ajb (Aj5 x y) s) (Ajb (Ak2 x y) u)
 ·apply Nat.dvd_gcd
  ·have A:Nat.gcd a b∣x+v*b:=by rw[B];exact Ajb (Aj5 a b) u
   exact(Al2 (Ajb (Ak2 a b) v)).1 A
  ·have A:Nat.gcd a b∣y+s*a:=by rw[C];exact Ajb (Ak2 a b) t
   exact(Al2 (Ajb (Aj5 a b) s)).1 A
def X3{a b x y P u v w:Nat}(k:x*P<=a)(B:b<(y+1)*P)(A:u*x=w+v*y)(C:v<=w):v*b<=u*a:=by
 have D:u*(x*P)<=u*a:=Ah7 _ k
 have G:v*b<=v*((y+1)*P):=Ah7 _ (by omega)
 have I:v*((y+1)*P)<=u*(x*P):=by
  rw[<-Ahq,<-Ahq]
  apply Ahp
  rw[A,Ahs];omega
 omega
end Gx
namespace Gx
open Go
section
variable{R:Type}
def Ac(l:List Nat):LA:=l.map fun n:Nat=>.int .u32 (n:Int)
def V6(x:Nat)(l:List Nat):Ac (x::l)=.int .u32 (x:Int)::Ac l:=rfl
def Bg(l:List Nat):(Ac l).length=l.length:=by simp[Ac]
def wk(l:List Nat)(n:Nat):(Ac l).drop n=Ac (l.drop n):=by simp[Ac,List.map_drop]
def Qv(l:List Nat)(n:Nat):(Ac l).take n=Ac (l.take n):=by simp[Ac,Anv]
def SQ(l:List Nat)(j:Nat)(v:Nat):List.set (Ac l) j (.int .u32 (v:Int))=Ac (l.set j v):=by simp[Ac,An9]
def Ci(n:Nat):replicate n (AV.int .u32 0)=Ac (replicate n 0):=by simp[Ac]
def rH{l:List Nat}{i:Nat}(h:i<l.length){f:Int->O R}:Au .u32 (drop i (Ac l)) f=f (l[i]:Nat):=by rw[wk,Aip h,V6,Av]
def X4:∀ l:List Nat,A4 (Ac l)=true
|[]=>rfl
|x::r=>by rw[V6,A4];exact X4 r
def AQ(a b:Nat):(a:Int)+(b:Int)=((a+b:Nat):Int):=by omega
def gA(a b:Nat):(a:Int)*(b:Int)=((a*b:Nat):Int):=by simp
def Hb{a:Nat}(h:a<18446744073709551616):wrap .u64 (a:Int)=(a:Int):=wrap_u64 a h
def vP{a:Nat}(h:a<4294967296):wrap .u32 (a:Int)=(a:Int):=wrap_u32 a h
def P'(a:Nat):wrap .u32 (a:Int)=((a%4294967296:Nat):Int):=wd a
def QA(a:Int):wrap .u64 a=a%18446744073709551616:=IntKind.wrap_u64 a
def XB{a b:Nat}(k:a<18446744073709551616)(v:b<=a):wrap .u64 ((a:Int) - (b:Int))=((a - b:Nat):Int):=by rw[QA];omega
def yq{a b:Nat}(h:a<b)(k:b<=18446744073709551616):wrap .u64 ((a:Int) - (b:Int))=((18446744073709551616+a - b:Nat):Int):=by rw[QA];omega
def XC(a:Nat):Int.fdiv (a:Int) (2 ^ 32)=((a/4294967296:Nat):Int):=O5 a 32
def Aeb(a:Nat):Int.fdiv (a:Int) (2 ^ 63)=((a/9223372036854775808:Nat):Int):=O5 a 63
def i64{a:Int}(h:-9223372036854775808<=a/\a<=9223372036854775807):wrap .i64 a=a:=Bi a h
def ta{a b:Nat}(k:a<18446744073709551616)(v:b<18446744073709551616):Of .u64 (a:Int) (b:Int)=((a ||| b:Nat):Int):=l8 rfl k v
def XD{a b k:Nat}(h:b<2 ^ k):a*2 ^ k ||| b=a*2 ^ k+b:=by rw[<-Nat.shiftLeft_eq,Nat.shiftLeft_add_eq_or_of_lt h]
end
end Gx
namespace Gx
open Go Go.Proofs
set_option maxRecDepth 100000
noncomputable section
variable{R:Type}(N:Nat)
def DF(N:Nat)(r0:Nat->O R)(a:Nat)(b:LA)(k0:Int->O R)(c:Int):O R:=(cond ((decide (c>0))==true) (cond (Ah (wrap .i64 (c - 1)) a) (Au .u32 (b.drop (0+(((wrap .i64 (c - 1)).toNat)*1))) fun d=>cond (cond true (d==0) false) (k0 (wrap .i64 (c - 1))) (cond ((decide ((0:Int)<=(0:Int)))&&((decide (0<=c))&&((decide (c<=(a:Int)))&&(decide ((a:Int)<=(a:Int)))))) (r0 c.toNat) none)) none) (cond ((decide ((0:Int)<=(0:Int)))&&((decide (0<=c))&&((decide (c<=(a:Int)))&&(decide ((a:Int)<=(a:Int)))))) (r0 c.toNat) none))
def Qw(r0:Nat->O R)(a:Nat)(b:LA):Nat->Int->O R
|0=>fun _=>none
|n+1=>DF N r0 a b (Qw r0 a b n)
def SR(N:Nat)(r0:Nat->O R)(q0:Int->O R)(a:Nat)(b:LA):O R:=(q0 (a:Int))
def Wr:=(Ak fun N a b r0=>SR (R:=R) N r0 (Qw N r0 a b N) a b).1
def QB(a b r0):(@Wr R N a b r0)=(SR N r0 (Qw N r0 a b N) a b):=by rw[Wr,(Ak _).2]
def wl(F:KF R):=L7 Tryz.f180 aY [] [100000] N F
def MF(b:LA)(F:KF R):Nat->O R:=fun f=>F (.own 100000 0 f) [(100000,bQ 1 b)]
def wm(a:Nat)(b:LA)(K:St->O R):=fun c=>K ⟨[(0,.own 100000 0 a),(3,iv c)],[(100000,bQ 1 b)]⟩
def oF(F:KF R)(a b):∀ n,wm a b (As (wl N F (pz 336) []) n)=(Qw N (MF b F) a b n):=Gu fun n e=>(Cg (DF N (MF b F) a b) e:_)
def ST:=Ce N 180 [] aY (fun
|[.own 100000 0 a],[(100000,⟨false,false,true,false,1,b,false,none⟩)]=>some fun _ k=>Wr N a b (MF b k)
| _,_=>none) fun _ _=>by split;rename_i a b;intro R F;exact(Cg (SR N (MF b F) · a b) ((lW ..).trans (oF ..)):_).trans (QB ..).symm;trivial
def Ws(a:Int)(r0:Nat->LA->O R):O R:=(Wr N 2 [.int .u32 (wrap .u32 a),.int .u32 (wrap .u32 (Int.fdiv a (2 ^ 32)))] fun b=>r0 b [.int .u32 (wrap .u32 a),.int .u32 (wrap .u32 (Int.fdiv a (2 ^ 32)))])
def Bm:=(Ak (@Ws R)).1
def X5:@Bm R=@Ws R:=(Ak _).2
def Gm:=Ce N 170 [ST N] ym (fun
|[.int .u64 a],[]=>some fun _ k=>Bm N a (B9 k)
| _,_=>none) fun _ _=>by split;intro R F;dsimp only;rw[X5];kernel_rfl;trivial
def QC(N:Nat)(c:Bool)(a:Nat)(b:LA)(r0:Bool->O R):O R:=(cond (c==true) (r0 (cond true (decide ((a:Int)>0)) false)) (r0 false))
def Kb:=(Ak (@QC R)).1
def OG:@Kb R=@QC R:=(Ak _).2
def oG(a:Nat)(b:LA)(F:KF R):Bool->O R:=fun d=>F (.agg [.bool d,.own 100000 0 a]) [(100000,bQ 1 b)]
def X6:=Ce N 169 [] Eg (fun
|[.bool c,.own 100000 0 a],[(100000,⟨false,false,true,false,1,b,false,none⟩)]=>some fun _ k=>Kb N c a b (oG a b k)
| _,_=>none) fun _ _=>by split;intro R F;dsimp only;rw[OG];kernel_rfl;trivial
def IT(a:Int)(r0:Bool->Nat->LA->O R):O R:=(cond (decide (a<0)) (Bm N (wrap .u64 ((0:Int) - (wrap .u64 a))) fun b c=>Kb N true b c fun f=>r0 f b c) (Bm N (wrap .u64 a) fun d e=>Kb N false d e fun g=>r0 g d e))
def DG:=(Ak (@IT R)).1
def IU:@DG R=@IT R:=(Ak _).2
def oH:=Ce N 108 [Gm N,X6 N] Eg (fun
|[.int .i64 a],[]=>some fun _ k=>DG N a (Aau k)
| _,_=>none) fun _ _=>by split;intro R F;dsimp only;rw[IU];kernel_rfl;trivial
def IV(a:Int)(r0:LA->O R):O R:=(DG N a fun c b d=>r0 [.bool c,.imm (d.take (b*1)) b 1 false false,.imm [.int .u32 1] 1 1 false false])
def Ca:=(Ak (@IV R)).1
def IW:@Ca R=@IV R:=(Ak _).2
def Me:=Ce N 51 [oH N] Kl (fun
|[.int .i64 a],[]=>some fun _ k=>Ca N a (Cq k)
| _,_=>none) fun _ _=>by split;intro R F;dsimp only;rw[IW];kernel_rfl;trivial
def R3(N:Nat)(r0:LA->Nat->O R)(c:LA)(a:Nat)(d b:Bool)(k0:Int->O R)(f:Int):O R:=(cond ((decide (f>0))==true) (cond (Ah (wrap .i64 (f - 1)) a) (Au .u32 (c.drop (((wrap .i64 (f - 1)).toNat)*1)) fun g=>cond (cond true (g==0) false) (k0 (wrap .i64 (f - 1))) (cond ((decide ((0:Int)<=(0:Int)))&&((decide (0<=f))&&((decide (f<=(a:Int)))&&(decide ((a:Int)<=(a:Int)))))) (r0 (c.take (f.toNat*1)) f.toNat) none)) none) (cond ((decide ((0:Int)<=(0:Int)))&&((decide (0<=f))&&((decide (f<=(a:Int)))&&(decide ((a:Int)<=(a:Int)))))) (r0 (c.take (f.toNat*1)) f.toNat) none))
def Io(r0:LA->Nat->O R)(c:LA)(a:Nat)(d b:Bool):Nat->Int->O R
|0=>fun _=>none
|n+1=>R3 N r0 c a d b (Io r0 c a d b n)
def DH(N:Nat)(r0:LA->Nat->O R)(q0:Int->O R)(c:LA)(a:Nat)(d b:Bool):O R:=(q0 (a:Int))
def Cb:=(Ak fun N c a d b r0=>DH (R:=R) N r0 (Io N r0 c a d b N) c a d b).1
def OH(c a d b r0):(@Cb R N c a d b r0)=(DH N r0 (Io N r0 c a d b N) c a d b):=by rw[Cb,(Ak _).2]
def oI(F:KF R):=L7 Tryz.f180 aY [] [] N F
def U8(b:Bool)(F:KF R):LA->Nat->O R:=fun h i=>F (.imm h i 1 false b) []
def oJ(c:LA)(a:Nat)(d b:Bool)(K:St->O R):=fun f=>K ⟨[(0,.imm c a 1 d b),(3,iv f)],[]⟩
def dR(F:KF R)(c a d b):∀ n,oJ c a d b (As (oI N F (pz 336) []) n)=(Io N (U8 b F) c a d b n):=Gu fun n e=>(Cg (R3 N (U8 b F) c a d b) e:_)
def La:=Ce N 180 [] aY (fun
|[.imm c a 1 d b],[]=>some fun _ k=>Cb N c a d b (U8 b k)
| _,_=>none) fun _ _=>by split;rename_i c a d b;intro R F;exact(Cg (DH N (U8 b F) · c a d b) ((lW ..).trans (dR ..)):_).trans (OH ..).symm;trivial
def Ia(N:Nat)(r0:Int->O R)(b:LA)(a:Nat)(c d:Bool)(k0:Int->Int->Int->O R)(g h f:Int):O R:=(cond (decide (f<h)) (cond (Ah f a) (Au .u32 (b.drop (f.toNat*1)) fun i=>cond (decide ((wrap .i64 (32*f))<0)) none (k0 (Of .u64 g (wrap .u64 ((wrap .u64 i)*2 ^ (min ((wrap .i64 (32*f)).toNat) 64)))) h (wrap .i64 (f+1)))) none) (r0 g))
def Hd(r0:Int->O R)(b:LA)(a:Nat)(c d:Bool):Nat->Int->Int->Int->O R
|0=>fun _ _ _=>none
|n+1=>Ia N r0 b a c d (Hd r0 b a c d n)
def SU(N:Nat)(r0:Int->O R)(q0:Int->Int->Int->O R)(b:LA)(a:Nat)(c d:Bool):O R:=(q0 0 (a:Int) 0)
def O6:=(Ak fun N b a c d r0=>SU (R:=R) N r0 (Hd N r0 b a c d N) b a c d).1
def a_(b a c d r0):(@O6 R N b a c d r0)=(SU N r0 (Hd N r0 b a c d N) b a c d):=by rw[O6,(Ak _).2]
def gB:Hints:={H:=hK 2 (hS (hK 1 (hS (hP [3,6,7,8] hL) hL)) hL)}
def tb(F:KF R):=L7 Tryz.f214 gB [] [] N F
def tc(b:LA)(a:Nat)(c d:Bool)(K:St->O R):=fun g h f=>K ⟨[(3,.int .u64 g),(6,.imm b a 1 c d),(7,iv h),(8,iv f)],[]⟩
def jv(F:KF R)(b a c d):∀ n,tc b a c d (As (tb N F (pz 1348) []) n)=(Hd N (rC F) b a c d n):=Gu fun n e=>(Cg (Ia N (rC F) b a c d) e:_)
def XE:=Ce N 214 [] gB (fun
|[.imm b a 1 c d],[]=>some fun _ k=>O6 N b a c d (rC k)
| _,_=>none) fun _ _=>by split;intro R F;exact(Cg (SU N (rC F) · _ _ _ _) ((lW ..).trans (jv ..)):_).trans (a_ ..).symm;trivial
def QD(b:LA)(c:Nat)(d a:Bool)(r0:Int->Bool->O R):O R:=(Cb N b c d a fun f e=>cond (decide ((e:Int)>2)) (r0 0 false) (O6 N f e false a fun g=>r0 g true))
def AR:=(Ak (@QD R)).1
def OI:@AR R=@QD R:=(Ak _).2
def rI:=Ce N 176 [La N,XE N] Eg (fun
|[.imm b c 1 d a],[]=>some fun _ k=>AR N b c d a (rD k)
| _,_=>none) fun _ _=>by split;intro R F;dsimp only;rw[OI];kernel_rfl;trivial
def Er(N:Nat)(r0:Int->Int->Bool->O R)(b a:Int)(d:Bool)(c:LA)(e:Bool):O R:=(cond e (r0 0 0 false) (cond (a==0) (r0 0 1 true) (X2 c fun f=>cond f (r0 (wrap .i64 ((0:Int) - (wrap .i64 b))) (wrap .i64 a) true) (r0 (wrap .i64 b) (wrap .i64 a) true))))
def V7(r0:Int->Int->Bool->O R)(q0:Int->Int->Bool->O R)(c:LA)(d:Bool):O R:=(Bv 1 (c.drop 1) fun g h=>AR N g h false d fun b i=>Bv 1 (c.drop 2) fun j l=>AR N j l false d fun a m=>cond ((!i)==false) (cond ((cond false true (!m))==false) (cond ((cond false true (decide (b>=2147483648)))==false) (q0 b a (cond false true (decide (a>=2147483648)))) (q0 b a true)) (q0 b a true)) (q0 b a true))
def Fu:=(Ak fun N c d r0=>V7 (R:=R) N r0 (fun b a=>Er N r0 b a d c) c d).1
def U9(c d r0):(@Fu R N c d r0)=(V7 N r0 (fun b a=>Er N r0 b a d c) c d):=by rw[Fu,(Ak _).2]
def bA:Hints:={H:=hK 3 (hS (hS (hJ [1,5,6,21] hL hL) hL) hL)}
def gC:U6:=[rI N]
def rJ(F:KF R):=L7 Tryz.f115 bA (gC N) [] N F
def IX(F:KF R):Int->Int->Bool->O R:=fun n o p=>F (.tup [iv n,iv o,.bool p]) []
def rK(b a:Int)(d:Bool)(c:LA)(K:St->O R):=fun e=>K ⟨[(1,op 0),(5,.int .u64 b),(6,.int .u64 a),(21,.bool e)],hq [bP d 0 c]⟩
def gD(F:KF R)(b a d c):rK b a d c (Bc (rJ N F (pz 5441) []))=(Er N (IX F) b a d c):=by kernel_rfl
def DI:=Ce N 115 (gC N) bA (fun
|[.pagg c d],[]=>some fun _ k=>Fu N c d (IX k)
| _,_=>none) fun _ _=>by split;intro R F;exact(Cg (V7 N (IX F) · _ _) (oE fun b a=>(jW ..).trans (gD ..)):_).trans (U9 ..).symm;trivial
def Js(r0:LA->O R)(a b c:Int)(k1:Int->Int->O R)(d f:Int):O R:=(cond (f != 0) (cond (f==0) none (k1 f (Int.tmod d f))) (cond (d==0) none (Bm N (wrap .u64 (Int.tdiv c d)) fun g i=>cond (d==0) none (Bm N (wrap .u64 (Int.tdiv (wrap .u64 b) d)) fun h j=>r0 [.bool (decide (a<0)),.imm (i.take (g*1)) g 1 false false,.imm (j.take (h*1)) h 1 false false]))))
def Cj(r0:LA->O R)(a b c:Int):Nat->Int->Int->O R
|0=>fun _ _=>none
|n+1=>Js N r0 a b c (Cj r0 a b c n)
def T1(N:Nat)(r0:LA->O R)(a b:Int)(q1:Int->Int->Int->O R)(c:Int):O R:=(q1 c (wrap .u64 b) c)
def O7(r0:LA->O R)(a b:Int)(c:Int):O R:=T1 N r0 a b (fun c=>Cj N r0 a b c N) c
def Va(N:Nat)(r0:LA->O R)(q0:Int->O R)(a b:Int):O R:=(cond (decide (a<0)) (q0 (wrap .u64 ((0:Int) - (wrap .u64 a)))) (q0 (wrap .u64 a)))
def Ib:=(Ak fun N a b r0=>Va (R:=R) N r0 (O7 N r0 a b) a b).1
def GC(a b r0):(@Ib R N a b r0)=(Va N r0 (O7 N r0 a b) a b):=by rw[Ib,(Ak _).2]
def IY:Hints:={H:=hK 2 (hJ [0,1,4,5] hL (hK 1 (hS (hS (hP [0,1,4,5,6,7] hL) hL) hL))),modes:=[(3,0)]}
def OJ:U6:=[Gm N]
def IZ(F:KF R):=L7 Tryz.f127 IY (OJ N) [] N F
def gE(a b c:Int)(K:St->O R):=fun d f=>K ⟨[(0,iv a),(1,iv b),(4,op 0),(5,.int .u64 c),(6,.int .u64 d),(7,.int .u64 f)],hq [bN 0 [.bool false,.nsl,.nsl]]⟩
def gF(a b:Int)(K:St->O R):=fun c=>K ⟨[(0,iv a),(1,iv b),(4,op 0),(5,.int .u64 c)],hq [bN 0 [.bool false,.nsl,.nsl]]⟩
def SV(F:KF R)(a b c):∀ n,gE a b c (As (IZ N F (pz 5456) []) n)=(Cj N (Cq F) a b c n):=Gu fun n e=>(Cg (Js N (Cq F) a b c) e:_)
def SW(F:KF R)(a b):gF a b (Bc (IZ N F (pz 85) []))=(O7 N (Cq F) a b):=(Cg (T1 N (Cq F) a b) (wg fun c=>(lW ..).trans (SV ..)):_)
def Zr:=Ce N 127 (OJ N) IY (fun
|[.int .i64 a,.int .i64 b],[]=>some fun _ k=>Ib N a b (Cq k)
| _,_=>none) fun _ _=>by split;intro R F;exact(Cg (Va N (Cq F) · _ _) ((jW ..).trans (SW ..)):_).trans (GC ..).symm;trivial
def OK(N:Nat)(r0:LA->O R)(k0:O R):O R:=(r0 [])
def O8(r0:LA->O R):Nat->O R
|0=>none
|n+1=>OK N r0 (O8 r0 n)
def DJ(N:Nat)(r0:LA->O R)(q0:O R):O R:=q0
def AS:=(Ak fun N r0=>DJ (R:=R) N r0 (O8 N r0 N)).1
def OL r0:(@AS R N r0)=(DJ N r0 (O8 N r0 N)):=by rw[AS,(Ak _).2]
def oK(F:KF R):=L7 Tryz.f180 aY [] [] N F
def Vb(F:KF R):LA->O R:=fun a=>F (Aqb 0 0) (hq [bQ 1 a])
def oL(K:St->O R):=K ⟨[(0,.nsl),(3,iv 0)],[]⟩
def dS(F:KF R):∀ n,oL (As (oK N F (pz 336) []) n)=(O8 N (Vb F) n):=Gu fun n e=>(Cg (OK N (Vb F)) e:_)
def rL:=Ce N 180 [] aY (fun
|[.nsl],[]=>some fun _ k=>AS N (Vb k)
| _,_=>none) fun _ _=>by split;intro R F;exact(Cg (DJ N (Vb F)) ((lW ..).trans (dS ..)):_).trans (OL ..).symm;trivial
def Wt(N:Nat)(r0:Int->O R)(c:LA)(a:Nat)(b:Bool)(d:LA)(k0:Int->O R)(f:Int):O R:=(cond (decide (f>=0)) (cond (Ah f a) (Au .u32 (c.drop (f.toNat*1)) fun j=>cond (Ah f 0) (Au .u32 (d.drop (0+(f.toNat*1))) fun l=>cond (decide (j<l)) (r0 (-1)) (cond (Ah f a) (Au .u32 (c.drop (f.toNat*1)) fun m=>cond (Ah f 0) (Au .u32 (d.drop (0+(f.toNat*1))) fun o=>cond (decide (m>o)) (r0 1) (k0 (wrap .i64 (f - 1)))) none) none)) none) none) (r0 0))
def M9(r0:Int->O R)(c:LA)(a:Nat)(b:Bool)(d:LA):Nat->Int->O R
|0=>fun _=>none
|n+1=>Wt N r0 c a b d (M9 r0 c a b d n)
def X7(r0:Int->O R)(q0:LA->Nat->LA->Int->O R)(g:LA)(h:Nat)(i b:Bool):O R:=(Cb N g h i b fun c a=>AS N fun d=>cond ((a:Int) != 0) (cond (decide ((a:Int)<0)) (r0 (-1)) (r0 1)) (q0 c a d (wrap .i64 ((a:Int) - 1))))
def Qx:=(Ak fun N g h i b r0=>X7 (R:=R) N r0 (fun c a d=>M9 N r0 c a b d N) g h i b).1
def I_(g h i b r0):(@Qx R N g h i b r0)=(X7 N r0 (fun c a d=>M9 N r0 c a b d N) g h i b):=by rw[Qx,(Ak _).2]
def Xs:=Afe (La N) (rL N) (Eq.refl 180)
def SX:U6:=[Xs N]
def jw(F:KF R):=L7 Tryz.f128 lc (SX N) [] N F
def jx(c:LA)(a:Nat)(b:Bool)(d:LA)(K:St->O R):=fun f=>K ⟨[(0,.imm c a 1 false b),(1,Aqb 0 0),(5,iv f)],hq [bQ 1 d]⟩
def XF(F:KF R)(c a b d):∀ n,jx c a b d (As (jw N F (pz 5444) []) n)=(M9 N (Gv F) c a b d n):=Gu fun n e=>(Cg (Wt N (Gv F) c a b d) e:_)
def SY:=Ce N 128 (SX N) lc (fun
|[.imm g h 1 i b,.nsl],[]=>some fun _ k=>Qx N g h i b (Gv k)
| _,_=>none) fun _ _=>by split;intro R F;exact(Cg (X7 N (Gv F) · _ _ _ _) (Aea fun c a d=>(lW ..).trans (XF ..)):_).trans (I_ ..).symm;trivial
def MG(a:LA)(b:Bool)(r0:LA->Bool->LA->Nat->Bool->O R):O R:=(Bv 1 (a.drop 2) fun c d=>Qx N c d false b fun e=>cond (e==0) (r0 [.bool false,.nsl] false [.int .u32 1] 1 false) (cond (ble 2 a.length) (Bv 1 (a.drop 2) fun f g=>cond ((beq 0 0)&&((beq ((a.take 2).length) 2)&&(beq 2 2))) (cond (ble 2 ((a.take 2).length)) (r0 ((a.take 2).take 2) b f g b) none) none) none))
def Lb:=(Ak (@MG R)).1
def DK:@Lb R=@MG R:=(Ak _).2
def rM(F:KF R):LA->Bool->LA->Nat->Bool->O R:=fun h i j l m=>F (.tup [.pagg h i,.imm j l 1 false m]) []
def Wu:=Ce N 117 [SY N] { H:=hL,nils:=[(3,1)],modes:=[(3,0),(1,1)] } (fun
|[.pagg a b],[]=>some fun _ k=>Lb N a b (rM k)
| _,_=>none) fun _ _=>by split;intro R F;dsimp only;rw[DK];kernel_rfl;trivial
def DL(N:Nat)(k1:Nat->Int->Int->LA->O R)(r0:Nat->LA->O R)(f:LA)(a:Nat)(c:Bool)(i:Nat)(h l:Int)(g:LA)(b:Nat)(d:Bool)(j:Int)(k2:Int->Int->Int->LA->O R)(w x m:Int)(u:LA):O R:=(cond (decide (m<x)) (cond (Ah m a) (Au .u32 (f.drop (m.toNat*1)) fun y=>cond (Ah (wrap .i64 (h+m)) i) (Au .u32 (u.drop (0+(((wrap .i64 (h+m)).toNat)*1))) fun z=>cond (Ah (wrap .i64 (h+m)) i) (cond ((beq 1 1)&&((ble ((0+(((wrap .i64 (h+m)).toNat)*1))+1) u.length)&&(!false))) (k2 (Int.fdiv (wrap .u64 (w+(wrap .u64 ((wrap .u64 ((wrap .u64 l)*(wrap .u64 y)))+(wrap .u64 z))))) (2 ^ 32)) x (wrap .i64 (m+1)) (u.set (0+(((wrap .i64 (h+m)).toNat)*1)) (.int .u32 (wrap .u32 (wrap .u64 (w+(wrap .u64 ((wrap .u64 ((wrap .u64 l)*(wrap .u64 y)))+(wrap .u64 z))))))))) none) none) none) none) (cond (Ah (wrap .i64 (h+(a:Int))) i) (cond ((beq 1 1)&&((ble ((0+(((wrap .i64 (h+(a:Int))).toNat)*1))+1) u.length)&&(!false))) (k1 i j (wrap .i64 (h+1)) (u.set (0+(((wrap .i64 (h+(a:Int))).toNat)*1)) (.int .u32 (wrap .u32 w)))) none) none))
def Qy(k1:Nat->Int->Int->LA->O R)(r0:Nat->LA->O R)(f:LA)(a:Nat)(c:Bool)(i:Nat)(h l:Int)(g:LA)(b:Nat)(d:Bool)(j:Int):Nat->Int->Int->Int->LA->O R
|0=>fun _ _ _ _=>none
|n+1=>DL N k1 r0 f a c i h l g b d j (Qy k1 r0 f a c i h l g b d j n)
def Wv(r0:Nat->LA->O R)(f:LA)(a:Nat)(c:Bool)(g:LA)(b:Nat)(d:Bool)(k1:Nat->Int->Int->LA->O R)(q2:Nat->Int->Int->Int->Int->Int->Int->LA->O R)(i:Nat)(j h:Int)(v:LA):O R:=(cond (decide (h<j)) (cond (Ah h b) (Au .u32 (g.drop (h.toNat*1)) fun l=>cond (l==0) (k1 i j (wrap .i64 (h+1)) v) (q2 i h l j 0 (a:Int) 0 v)) none) (Wr N i v fun aa=>r0 aa v))
def Mf(r0:Nat->LA->O R)(f:LA)(a:Nat)(c:Bool)(g:LA)(b:Nat)(d:Bool):Nat->Nat->Int->Int->LA->O R
|0=>fun _ _ _ _=>none
|n+1=>Wv N r0 f a c g b d (Mf r0 f a c g b d n) (fun i h l j=>Qy N (Mf r0 f a c g b d n) r0 f a c i h l g b d j N)
def QE(N:Nat)(r0:Nat->LA->O R)(g:LA)(b:Nat)(d:Bool)(f:LA)(a:Nat)(c:Bool)(q1:Nat->Int->Int->LA->O R):O R:=(cond ((decide (0<=(wrap .i64 ((b:Int)+(a:Int)))))&&((decide ((wrap .i64 ((b:Int)+(a:Int)))<=(wrap .i64 ((b:Int)+(a:Int)))))&&((decide ((wrap .i64 ((b:Int)+(a:Int)))<=140737488355328))&&(decide (((wrap .i64 ((b:Int)+(a:Int)))*((4:Nat):Int))<=140737488355328))))) (q1 ((wrap .i64 ((b:Int)+(a:Int))).toNat) (b:Int) 0 (replicate ((wrap .i64 ((b:Int)+(a:Int))).toNat) (.int .u32 0))) none)
def MH(r0:Nat->LA->O R)(g:LA)(b:Nat)(d:Bool)(f:LA)(a:Nat)(c:Bool):O R:=QE N r0 g b d f a c (Mf N r0 f a c g b d N)
def MI(r0:Nat->LA->O R)(q0:LA->Nat->LA->Nat->O R)(o:LA)(p:Nat)(q d:Bool)(r:LA)(s:Nat)(t c:Bool):O R:=(Cb N o p q d fun g b=>Cb N r s t c fun f a=>cond (((b:Int)==0)==false) (cond (cond false true ((a:Int)==0)) (r0 0 []) (q0 g b f a)) (r0 0 []))
def DM:=(Ak fun N o p q d r s t c r0=>MI (R:=R) N r0 (fun g b f a=>MH N r0 g b d f a c) o p q d r s t c).1
def DN(o p q d r s t c r0):(@DM R N o p q d r s t c r0)=(MI N r0 (fun g b f a=>MH N r0 g b d f a c) o p q d r s t c):=by rw[DM,(Ak _).2]
def li:Hints:={H:=hK 2 (hJ [0,1] hL (hK 1 (hS (hK 1 (hS (hP [1,5,29,30,31] (hK 2 (hS (hS (hK 3 (hS (hK 1 (hS (hP [1,5,6,7,8,29,30,31,38,39,40] hL) hL)) hL)) hL) hL))) hL)) hL))),nils:=[(4,1)],modes:=[(2,1)]}
def Fa:=Afe (La N) (ST N) (Eq.refl 180)
def rN:U6:=[Fa N]
def XG(F:KF R):=L7 Tryz.f131 li (rN N) [] N F
def wo(f:LA)(a:Nat)(c:Bool)(i:Nat)(h l:Int)(g:LA)(b:Nat)(d:Bool)(j:Int)(K:St->O R):=fun w x m u=>K ⟨[(1,.imm f a 1 false c),(5,Aqb 0 i),(6,iv h),(7,.int .u32 l),(8,.int .u64 w),(29,.imm g b 1 false d),(30,iv j),(31,iv h),(38,.imm f a 1 false c),(39,iv x),(40,iv m)],hq [bQ 1 u]⟩
def XH(f:LA)(a:Nat)(c:Bool)(g:LA)(b:Nat)(d:Bool)(K:St->O R):=fun i j h v=>K ⟨[(1,.imm f a 1 false c),(5,Aqb 0 i),(29,.imm g b 1 false d),(30,iv j),(31,iv h)],hq [bQ 1 v]⟩
def wq(g:LA)(b:Nat)(d:Bool)(f:LA)(a:Nat)(c:Bool)(K:St->O R):=K ⟨[(0,.imm g b 1 false d),(1,.imm f a 1 false c)],[]⟩
def oM Q1 (F:KF R) (f a c i h l g b d j):∀ n,wo f a c i h l g b d j (As (XG N F (pz 91553596740) [Q1]) n)=(Qy N (XH f a c g b d Q1) (B9 F) f a c i h l g b d j n):=Gu fun n e=>(Cg (DL N (XH f a c g b d Q1) (B9 F) f a c i h l g b d j) e:_)
def oN(F:KF R)(f a c g b d):∀ n,XH f a c g b d (As (XG N F (pz 21828) []) n)=(Mf N (B9 F) f a c g b d n):=Gu fun n e=>(OF (Wv N (B9 F) f a c g b d) e (t7 fun i h l j=>(lW ..).trans ((oM ..).trans (rA (Qy _ · _ _ _ _ _ _ _ _ _ _ _ _) e))):_)
def oO(F:KF R)(g b d f a c):wq g b d f a c (Bc (XG N F (pz 85) []))=(MH N (B9 F) g b d f a c):=(Cg (QE N (B9 F) g b d f a c) ((lW ..).trans (oN ..)):_)
def SZ:=Ce N 131 (rN N) li (fun
|[.imm o p 1 q d,.imm r s 1 t c],[]=>some fun _ k=>DM N o p q d r s t c (B9 k)
| _,_=>none) fun _ _=>by split;intro R F;exact(Cg (MI N (B9 F) · _ _ _ _ _ _ _ _) (t7 fun g b f a=>(jW ..).trans (oO ..)):_).trans (DN ..).symm;trivial
def oP(a:LA)(c:Bool)(b:LA)(d:Bool)(r0:Bool->Nat->LA->O R):O R:=(X2 a fun g=>X2 b fun h=>Bv 1 (a.drop 1) fun i j=>Bv 1 (b.drop 1) fun l m=>DM N i j false c l m false d fun e f=>Kb N (!(g==h)) e f fun n=>r0 n e f)
def JA:=(Ak (@oP R)).1
def gG:@JA R=@oP R:=(Ak _).2
def gH:=Ce N 119 [SZ N,X6 N] Eg (fun
|[.pagg a c,.pagg b d],[]=>some fun _ k=>JA N a c b d (Aau k)
| _,_=>none) fun _ _=>by split;intro R F;dsimp only;rw[gG];kernel_rfl;trivial
def gI(c:LA)(d:Nat)(e b:Bool)(r0:Nat->LA->O R):O R:=(Cb N c d e b fun f a=>cond ((decide (0<=(a:Int)))&&((decide ((a:Int)<=(a:Int)))&&((decide ((a:Int)<=140737488355328))&&(decide (((a:Int)*((4:Nat):Int))<=140737488355328))))) (cond ((!b)||(A4 f)) (r0 a (C8 (replicate a (.int .u32 0)) 0 (f.take ((min a a)*1)))) none) none)
def X8:=(Ak (@gI R)).1
def bB:@X8 R=@gI R:=(Ak _).2
def MJ:=Ce N 182 [La N] ym (fun
|[.imm c d 1 e b],[]=>some fun _ k=>X8 N c d e b (B9 k)
| _,_=>none) fun _ _=>by split;intro R F;dsimp only;rw[bB];kernel_rfl;trivial
def gJ(a:LA)(b:Bool)(r0:Bool->Nat->LA->O R):O R:=(X2 a fun e=>Bv 1 (a.drop 1) fun f g=>X8 N f g false b fun c d=>Kb N e c d fun h=>r0 h c d)
def eZ:=(Ak (@gJ R)).1
def bC:@eZ R=@gJ R:=(Ak _).2
def wt:=Ce N 181 [MJ N,X6 N] Eg (fun
|[.pagg a b],[]=>some fun _ k=>eZ N a b (Aau k)
| _,_=>none) fun _ _=>by split;intro R F;dsimp only;rw[bC];kernel_rfl;trivial
def Km(N:Nat)(r0:Int->O R)(f:LA)(a:Nat)(b:Bool)(g:LA)(c:Nat)(d:Bool)(k0:Int->O R)(h:Int):O R:=(cond (decide (h>=0)) (cond (Ah h a) (Au .u32 (f.drop (h.toNat*1)) fun q=>cond (Ah h c) (Au .u32 (g.drop (h.toNat*1)) fun r=>cond (decide (q<r)) (r0 (-1)) (cond (Ah h a) (Au .u32 (f.drop (h.toNat*1)) fun s=>cond (Ah h c) (Au .u32 (g.drop (h.toNat*1)) fun t=>cond (decide (s>t)) (r0 1) (k0 (wrap .i64 (h - 1)))) none) none)) none) none) (r0 0))
def D8(r0:Int->O R)(f:LA)(a:Nat)(b:Bool)(g:LA)(c:Nat)(d:Bool):Nat->Int->O R
|0=>fun _=>none
|n+1=>Km N r0 f a b g c d (D8 r0 f a b g c d n)
def O9(r0:Int->O R)(q0:LA->Nat->LA->Nat->Int->O R)(i:LA)(j:Nat)(l b:Bool)(m:LA)(o:Nat)(p d:Bool):O R:=(Cb N i j l b fun f a=>Cb N m o p d fun g c=>cond ((a:Int) != (c:Int)) (cond (decide ((a:Int)<(c:Int))) (r0 (-1)) (r0 1)) (q0 f a g c (wrap .i64 ((a:Int) - 1))))
def Dn:=(Ak fun N i j l b m o p d r0=>O9 (R:=R) N r0 (fun f a g c=>D8 N r0 f a b g c d N) i j l b m o p d).1
def X9(i j l b m o p d r0):(@Dn R N i j l b m o p d r0)=(O9 N r0 (fun f a g c=>D8 N r0 f a b g c d N) i j l b m o p d):=by rw[Dn,(Ak _).2]
def GD:U6:=[La N]
def XI(F:KF R):=L7 Tryz.f128 lc (GD N) [] N F
def XJ(f:LA)(a:Nat)(b:Bool)(g:LA)(c:Nat)(d:Bool)(K:St->O R):=fun h=>K ⟨[(0,.imm f a 1 false b),(1,.imm g c 1 false d),(5,iv h)],[]⟩
def NC(F:KF R)(f a b g c d):∀ n,XJ f a b g c d (As (XI N F (pz 5444) []) n)=(D8 N (Gv F) f a b g c d n):=Gu fun n e=>(Cg (Km N (Gv F) f a b g c d) e:_)
def Jt:=Ce N 128 (GD N) lc (fun
|[.imm i j 1 l b,.imm m o 1 p d],[]=>some fun _ k=>Dn N i j l b m o p d (Gv k)
| _,_=>none) fun _ _=>by split;intro R F;exact(Cg (O9 N (Gv F) · _ _ _ _ _ _ _ _) (t7 fun f a g c=>(lW ..).trans (NC ..)):_).trans (X9 ..).symm;trivial
def D9(N:Nat)(r0:Int->O R)(b c:Int):O R:=(cond (decide (b>=256)) (cond (Ah (wrap .u8 (Int.fdiv b (2 ^ 8))) 256) (r0 (wrap .i64 ((wrap .i64 (c+8))+(wrap .i64 ((UInt8.toNat (List.getD ([0,1,2,2,3,3,3,3,4,4,4,4,4,4,4,4,5,5,5,5,5,5,5,5,5,5,5,5,5,5,5,5,6,6,6,6,6,6,6,6,6,6,6,6,6,6,6,6,6,6,6,6,6,6,6,6,6,6,6,6,6,6,6,6,7,7,7,7,7,7,7,7,7,7,7,7,7,7,7,7,7,7,7,7,7,7,7,7,7,7,7,7,7,7,7,7,7,7,7,7,7,7,7,7,7,7,7,7,7,7,7,7,7,7,7,7,7,7,7,7,7,7,7,7,7,7,7,7,8,8,8,8,8,8,8,8,8,8,8,8,8,8,8,8,8,8,8,8,8,8,8,8,8,8,8,8,8,8,8,8,8,8,8,8,8,8,8,8,8,8,8,8,8,8,8,8,8,8,8,8,8,8,8,8,8,8,8,8,8,8,8,8,8,8,8,8,8,8,8,8,8,8,8,8,8,8,8,8,8,8,8,8,8,8,8,8,8,8,8,8,8,8,8,8,8,8,8,8,8,8,8,8,8,8,8,8,8,8,8,8,8,8,8,8,8,8,8,8,8,8,8,8,8,8,8,8]:Lu) ((wrap .u8 (Int.fdiv b (2 ^ 8))).toNat) 0):Nat):Int))))) none) (cond (Ah (wrap .u8 b) 256) (r0 (wrap .i64 (c+(wrap .i64 ((UInt8.toNat (List.getD ([0,1,2,2,3,3,3,3,4,4,4,4,4,4,4,4,5,5,5,5,5,5,5,5,5,5,5,5,5,5,5,5,6,6,6,6,6,6,6,6,6,6,6,6,6,6,6,6,6,6,6,6,6,6,6,6,6,6,6,6,6,6,6,6,7,7,7,7,7,7,7,7,7,7,7,7,7,7,7,7,7,7,7,7,7,7,7,7,7,7,7,7,7,7,7,7,7,7,7,7,7,7,7,7,7,7,7,7,7,7,7,7,7,7,7,7,7,7,7,7,7,7,7,7,7,7,7,7,8,8,8,8,8,8,8,8,8,8,8,8,8,8,8,8,8,8,8,8,8,8,8,8,8,8,8,8,8,8,8,8,8,8,8,8,8,8,8,8,8,8,8,8,8,8,8,8,8,8,8,8,8,8,8,8,8,8,8,8,8,8,8,8,8,8,8,8,8,8,8,8,8,8,8,8,8,8,8,8,8,8,8,8,8,8,8,8,8,8,8,8,8,8,8,8,8,8,8,8,8,8,8,8,8,8,8,8,8,8,8,8,8,8,8,8,8,8,8,8,8,8,8,8,8,8,8,8]:Lu) ((wrap .u8 b).toNat) 0):Nat):Int))))) none))
def Mg(N:Nat)(r0:Int->O R)(q0:Int->Int->O R)(a:Int):O R:=(cond (decide (a>=65536)) (q0 (Int.fdiv a (2 ^ 16)) 16) (q0 a 0))
def Ju:=(Ak fun N a r0=>Mg (R:=R) N r0 (D9 N r0) a).1
def T9(a r0):(@Ju R N a r0)=(Mg N r0 (D9 N r0) a):=by rw[Ju,(Ak _).2]
def Ww:Hints:={H:=hK 1 (hJ [0,2] hL hL)}
def QF(F:KF R):=L7 Tryz.f223 Ww [] [] N F
def QG(K:St->O R):=fun b c=>K ⟨[(0,.int .u32 b),(2,iv c)],[]⟩
def HD(F:KF R):QG (Bc (QF N F (pz 21) []))=(D9 N (Gv F)):=by kernel_rfl
def S_:=Ce N 223 [] Ww (fun
|[.int .u32 a],[]=>some fun _ k=>Ju N a (Gv k)
| _,_=>none) fun _ _=>by split;intro R F;exact(Cg (Mg N (Gv F) · _) ((jW ..).trans (HD ..)):_).trans (T9 ..).symm;trivial
def Gj(a:Int)(r0:Int->O R):O R:=(Ju N a fun b=>r0 (wrap .i64 (32 - b)))
def B5:=(Ak (@Gj R)).1
def Jv:@B5 R=@Gj R:=(Ak _).2
def Lc:=Ce N 241 [S_ N] Eg (fun
|[.int .u32 a],[]=>some fun _ k=>B5 N a (Gv k)
| _,_=>none) fun _ _=>by split;intro R F;dsimp only;rw[Jv];kernel_rfl;trivial
def Wx(N:Nat)(c:Int)(b:LA)(a:Nat)(d e:Bool)(r0:Int->O R):O R:=(cond (decide (c<(a:Int))) (cond (Ah c a) (Au .u32 (b.drop (c.toNat*1)) fun f=>r0 (wrap .u64 f)) none) (r0 0))
def Kc:=(Ak (@Wx R)).1
def Ya:@Kc R=@Wx R:=(Ak _).2
def XK(b:LA)(a:Nat)(d e:Bool)(F:KF R):Int->O R:=fun g=>F (.int .u64 g) [(100000,bN 0 [.imm b a 1 d e])]
def dT:=Ce N 250 [] Eg (fun
|[.int .i64 c,.optr 100000 0],[(100000,⟨false,false,false,false,0,[.imm b a 1 d e],false,none⟩)]=>some fun _ k=>Kc N c b a d e (XK b a d e k)
| _,_=>none) fun _ _=>by split;intro R F;dsimp only;rw[Ya];kernel_rfl;trivial
def QH(b:LA)(c:Nat)(d e:Bool)(f a:Int)(r0:Int->O R):O R:=(Kc N (wrap .i64 (f - 1)) b c d e fun g=>Kc N (wrap .i64 (f - 2)) b c d e fun h=>cond (decide (a<0)) none (Kc N (wrap .i64 (f - 3)) b c d e fun i=>cond (decide ((wrap .i64 (32 - a))<0)) none (r0 (Of .u64 (wrap .u64 ((Of .u64 (wrap .u64 (g*2 ^ 32)) h)*2 ^ (min a.toNat 64))) (Int.fdiv i (2 ^ (min ((wrap .i64 (32 - a)).toNat) 64)))))))
def AT:=(Ak (@QH R)).1
def OM:@AT R=@QH R:=(Ak _).2
def rO:=Ce N 242 [dT N] Eg (fun
|[.imm b c 1 d e,.int .i64 f,.int .i64 a],[]=>some fun _ k=>AT N b c d e f a (rC k)
| _,_=>none) fun _ _=>by split;intro R F;dsimp only;rw[OM];kernel_rfl;trivial
def R4(N:Nat)(k0:Int->Int->Int->Int->Int->Int->Int->Int->Bool->O R)(r0:LA->O R)(m c s t u v:Int)(z:Bool):O R:=(cond (c==0) none (cond (c==0) none (k0 c (Int.tmod m c) s t (wrap .u64 (s+(wrap .u64 ((wrap .u64 (Int.tdiv m c))*t)))) u v (wrap .u64 (u+(wrap .u64 ((wrap .u64 (Int.tdiv m c))*v)))) (!z))))
def Hx(N:Nat)(r0:LA->O R)(k0:Int->Int->Int->Int->Int->Int->Int->Int->Bool->O R)(q1:Int->Int->Int->Int->Int->Int->Bool->O R)(w o x p aa y l q:Int)(r:Bool):O R:=(cond ((decide (o>=q))==true) (cond (cond true (decide ((wrap .u64 (w - o))>=(wrap .u64 (l+q)))) false) (q1 w o p aa l q r) (r0 [.int .u64 x,.int .u64 p,.int .u64 y,.int .u64 l,.bool r])) (r0 [.int .u64 x,.int .u64 p,.int .u64 y,.int .u64 l,.bool r]))
def Do(r0:LA->O R):Nat->Int->Int->Int->Int->Int->Int->Int->Int->Bool->O R
|0=>fun _ _ _ _ _ _ _ _ _=>none
|n+1=>Hx N r0 (Do r0 n) (R4 N (Do r0 n) r0)
def Yb(r0:LA->O R)(q0:Int->Int->Int->Int->Int->Int->Int->Int->Bool->O R)(b:LA)(a:Nat)(i d:Bool)(f:LA)(g:Nat)(j h:Bool):O R:=(cond (Ah (wrap .i64 ((a:Int) - 1)) a) (Au .u32 (b.drop (((wrap .i64 ((a:Int) - 1)).toNat)*1)) fun ac=>B5 N ac fun ab=>AT N b a false d (a:Int) ab fun ad=>AT N f g false h (a:Int) ab fun ae=>q0 ad ae 0 1 0 0 0 1 false) none)
def Wy:=(Ak fun N b a i d f g j h r0=>Yb (R:=R) N r0 (Do N r0 N) b a i d f g j h).1
def JB(b a i d f g j h r0):(@Wy R N b a i d f g j h r0)=(Yb N r0 (Do N r0 N) b a i d f g j h):=by rw[Wy,(Ak _).2]
def ON:Hints:={H:=hK 7 (hS (hS (hP [4,7,8,9,10,11,12,13,14,15] (hJ [4,7,8,10,11,13,14,15] hL hL)) hL) hL),modes:=[(3,0)]}
def TA:U6:=[Lc N,rO N]
def OO(F:KF R):=L7 Tryz.f225 ON (TA N) [] N F
def jy(K:St->O R):=fun m c s t u v z=>K ⟨[(4,op 0),(7,.int .u64 m),(8,.int .u64 c),(10,.int .u64 s),(11,.int .u64 t),(13,.int .u64 u),(14,.int .u64 v),(15,.bool z)],hq [bQ 0 [.int .u64 0,.int .u64 0,.int .u64 0,.int .u64 0,.bool false]]⟩
def OP(K:St->O R):=fun w o x p aa y l q r=>K ⟨[(4,op 0),(7,.int .u64 w),(8,.int .u64 o),(9,.int .u64 x),(10,.int .u64 p),(11,.int .u64 aa),(12,.int .u64 y),(13,.int .u64 l),(14,.int .u64 q),(15,.bool r)],hq [bQ 0 [.int .u64 0,.int .u64 0,.int .u64 0,.int .u64 0,.bool false]]⟩
def XL Q0 (F:KF R):jy (Bc (OO N F (pz 5592321) [Q0]))=(R4 N (OP Q0) (Cq F)):=by kernel_rfl
def XM(F:KF R):∀ n,OP (As (OO N F (pz 349520) []) n)=(Do N (Cq F) n):=Gu fun n e=>(OF (Hx N (Cq F)) e ((jW ..).trans ((XL ..).trans (rA (R4 _ · _) e))):_)
def oQ:=Ce N 225 (TA N) ON (fun
|[.imm b a 1 i d,.imm f g 1 j h],[]=>some fun _ k=>Wy N b a i d f g j h (Cq k)
| _,_=>none) fun _ _=>by split;intro R F;exact(Cg (Yb N (Cq F) · _ _ _ _ _ _ _ _) ((lW ..).trans (XM ..)):_).trans (JB ..).symm;trivial
def Ho(r0:Nat->Nat->LA->LA->O R)(c:LA)(a:Nat)(d f:Bool)(b:Int)(k0:Int->Int->LA->O R)(i g:Int)(h:LA):O R:=(cond (decide (g>=0)) (cond (Ah g a) (Au .u32 (c.drop (g.toNat*1)) fun j=>cond ((wrap .u64 b)==0) none (cond (Ah g a) (cond ((beq 1 1)&&((ble ((0+(g.toNat*1))+1) h.length)&&(!false))) (cond ((wrap .u64 b)==0) none (k0 (Int.tmod (Of .u64 (wrap .u64 (i*2 ^ 32)) (wrap .u64 j)) (wrap .u64 b)) (wrap .i64 (g - 1)) (h.set (0+(g.toNat*1)) (.int .u32 (wrap .u32 (wrap .u64 (Int.tdiv (Of .u64 (wrap .u64 (i*2 ^ 32)) (wrap .u64 j)) (wrap .u64 b)))))))) none) none)) none) (Wr N a h fun l=>Bm N i fun m o=>r0 l m h o))
def Da(r0:Nat->Nat->LA->LA->O R)(c:LA)(a:Nat)(d f:Bool)(b:Int):Nat->Int->Int->LA->O R
|0=>fun _ _ _=>none
|n+1=>Ho N r0 c a d f b (Da r0 c a d f b n)
def Mh(N:Nat)(r0:Nat->Nat->LA->LA->O R)(q0:Int->Int->LA->O R)(c:LA)(a:Nat)(d f:Bool)(b:Int):O R:=(cond ((decide (0<=(a:Int)))&&((decide ((a:Int)<=(a:Int)))&&((decide ((a:Int)<=140737488355328))&&(decide (((a:Int)*((4:Nat):Int))<=140737488355328))))) (q0 0 (wrap .i64 ((a:Int) - 1)) (replicate a (.int .u32 0))) none)
def Gn:=(Ak fun N c a d f b r0=>Mh (R:=R) N r0 (Da N r0 c a d f b N) c a d f b).1
def Ua(c a d f b r0):(@Gn R N c a d f b r0)=(Mh N r0 (Da N r0 c a d f b N) c a d f b):=by rw[Gn,(Ak _).2]
def Wz:Hints:={H:=hK 3 (hS (hK 1 (hS (hP [0,1,4,6,7] hL) hL)) hL),nils:=[(4,1),(5,1)],modes:=[(2,1),(2,1)]}
def Yc:U6:=[ST N,Gm N]
def QI(F:KF R):=L7 Tryz.f227 Wz (Yc N) [] N F
def QJ(c:LA)(a:Nat)(d f:Bool)(b:Int)(K:St->O R):=fun i g h=>K ⟨[(0,.imm c a 1 d f),(1,.int .u32 b),(4,Aqb 0 a),(6,.int .u64 i),(7,iv g)],hq [bQ 1 h]⟩
def HE(F:KF R)(c a d f b):∀ n,QJ c a d f b (As (QI N F (pz 5444) []) n)=(Da N (aZ F) c a d f b n):=Gu fun n e=>(Cg (Ho N (aZ F) c a d f b) e:_)
def TB:=Ce N 227 (Yc N) Wz (fun
|[.imm c a 1 d f,.int .u32 b],[]=>some fun _ k=>Gn N c a d f b (aZ k)
| _,_=>none) fun _ _=>by split;intro R F;exact(Cg (Mh N (aZ F) · _ _ _ _ _) ((lW ..).trans (HE ..)):_).trans (Ua ..).symm;trivial
def Pa(N:Nat)(r0:Nat->LA->O R)(c:LA)(a:Nat)(d f:Bool)(b:Int)(k0:Nat->Int->Int->Int->LA->O R)(h:Nat)(j l g:Int)(i:LA):O R:=(cond (decide (g<l)) (cond (Ah g a) (Au .u32 (c.drop (g.toNat*1)) fun m=>cond (decide (b<0)) none (cond (Ah g h) (cond ((beq 1 1)&&((ble ((0+(g.toNat*1))+1) i.length)&&(!false))) (k0 h (Int.fdiv (Of .u64 j (wrap .u64 ((wrap .u64 m)*2 ^ (min b.toNat 64)))) (2 ^ 32)) l (wrap .i64 (g+1)) (i.set (0+(g.toNat*1)) (.int .u32 (wrap .u32 (Of .u64 j (wrap .u64 ((wrap .u64 m)*2 ^ (min b.toNat 64)))))))) none) none)) none) (cond (Ah (a:Int) h) (cond ((beq 1 1)&&((ble ((0+(a*1))+1) i.length)&&(!false))) (r0 h (i.set (0+(a*1)) (.int .u32 (wrap .u32 j)))) none) none))
def He(r0:Nat->LA->O R)(c:LA)(a:Nat)(d f:Bool)(b:Int):Nat->Nat->Int->Int->Int->LA->O R
|0=>fun _ _ _ _ _=>none
|n+1=>Pa N r0 c a d f b (He r0 c a d f b n)
def Yd(N:Nat)(r0:Nat->LA->O R)(q0:Nat->Int->Int->Int->LA->O R)(c:LA)(a:Nat)(d f:Bool)(b:Int):O R:=(cond ((decide (0<=(wrap .i64 ((a:Int)+1))))&&((decide ((wrap .i64 ((a:Int)+1))<=(wrap .i64 ((a:Int)+1))))&&((decide ((wrap .i64 ((a:Int)+1))<=140737488355328))&&(decide (((wrap .i64 ((a:Int)+1))*((4:Nat):Int))<=140737488355328))))) (q0 ((wrap .i64 ((a:Int)+1)).toNat) 0 (a:Int) 0 (replicate ((wrap .i64 ((a:Int)+1)).toNat) (.int .u32 0))) none)
def Qz:=(Ak fun N c a d f b r0=>Yd (R:=R) N r0 (He N r0 c a d f b N) c a d f b).1
def JC(c a d f b r0):(@Qz R N c a d f b r0)=(Yd N r0 (He N r0 c a d f b N) c a d f b):=by rw[Qz,(Ak _).2]
def OQ:Hints:={H:=hK 3 (hS (hK 1 (hS (hP [0,1,5,6,13,14,15] hL) hL)) hL),nils:=[(4,1)],modes:=[(2,1)]}
def jz(F:KF R):=L7 Tryz.f243 OQ [] [] N F
def kA(c:LA)(a:Nat)(d f:Bool)(b:Int)(K:St->O R):=fun h j l g i=>K ⟨[(0,.imm c a 1 d f),(1,iv b),(5,Aqb 0 h),(6,.int .u64 j),(13,.imm c a 1 d f),(14,iv l),(15,iv g)],hq [bQ 1 i]⟩
def XN(F:KF R)(c a d f b):∀ n,kA c a d f b (As (jz N F (pz 5444) []) n)=(He N (B9 F) c a d f b n):=Gu fun n e=>(Cg (Pa N (B9 F) c a d f b) e:_)
def oR:=Ce N 243 [] OQ (fun
|[.imm c a 1 d f,.int .i64 b],[]=>some fun _ k=>Qz N c a d f b (B9 k)
| _,_=>none) fun _ _=>by split;intro R F;exact(Cg (Yd N (B9 F) · _ _ _ _ _) ((lW ..).trans (XN ..)):_).trans (JC ..).symm;trivial
def Mi(N:Nat)(r0:Int->LA->O R)(b c:Nat)(f j:Int)(d:LA)(a:Nat)(g h:Bool)(k4:Int->Int->Int->LA->O R)(t u o:Int)(r:LA):O R:=(cond (decide (o<u)) (cond (Ah o a) (Au .u32 (d.drop (o.toNat*1)) fun y=>cond (Ah o c) (Au .u32 (r.drop (b+(o.toNat*1))) fun z=>cond (Ah o c) (cond ((beq 1 1)&&((ble ((b+(o.toNat*1))+1) r.length)&&(!false))) (k4 (Int.fdiv (wrap .u64 (t+(wrap .u64 ((wrap .u64 z)+(wrap .u64 y))))) (2 ^ 32)) u (wrap .i64 (o+1)) (r.set (b+(o.toNat*1)) (.int .u32 (wrap .u32 (wrap .u64 (t+(wrap .u64 ((wrap .u64 z)+(wrap .u64 y))))))))) none) none) none) none) (cond (Ah f c) (Au .u32 (r.drop (b+(f.toNat*1))) fun ag=>cond (Ah f c) (cond ((beq 1 1)&&((ble ((b+(f.toNat*1))+1) r.length)&&(!false))) (r0 (wrap .u32 (wrap .u64 (j - 1))) (r.set (b+(f.toNat*1)) (.int .u32 (wrap .u32 (ag+(wrap .u32 t)))))) none) none) none))
def Gp(r0:Int->LA->O R)(b c:Nat)(f j:Int)(d:LA)(a:Nat)(g h:Bool):Nat->Int->Int->Int->LA->O R
|0=>fun _ _ _ _=>none
|n+1=>Mi N r0 b c f j d a g h (Gp r0 b c f j d a g h n)
def Hy(N:Nat)(r0:Int->LA->O R)(b c:Nat)(d:LA)(a:Nat)(g h:Bool)(f j:Int)(k3:Int->Int->Int->LA->O R)(q4:Int->Int->Int->LA->O R)(s v p:Int)(q:LA):O R:=(cond (decide (p<v)) (cond (Ah p a) (Au .u32 (d.drop (p.toNat*1)) fun w=>cond (Ah p c) (Au .u32 (q.drop (b+(p.toNat*1))) fun aa=>cond (Ah p c) (cond ((beq 1 1)&&((ble ((b+(p.toNat*1))+1) q.length)&&(!false))) (k3 (wrap .u64 ((Int.fdiv (wrap .u64 ((wrap .u64 (j*(wrap .u64 w)))+s)) (2 ^ 32))+(Int.fdiv (wrap .u64 ((wrap .u64 aa) - (wrap .u64 (wrap .u32 (wrap .u64 ((wrap .u64 (j*(wrap .u64 w)))+s)))))) (2 ^ 63)))) v (wrap .i64 (p+1)) (q.set (b+(p.toNat*1)) (.int .u32 (wrap .u32 (wrap .u64 ((wrap .u64 aa) - (wrap .u64 (wrap .u32 (wrap .u64 ((wrap .u64 (j*(wrap .u64 w)))+s)))))))))) none) none) none) none) (cond (Ah f c) (Au .u32 (q.drop (b+(f.toNat*1))) fun x=>cond (Ah f c) (cond ((beq 1 1)&&((ble ((b+(f.toNat*1))+1) q.length)&&(!false))) (cond ((Int.fdiv (wrap .u64 ((wrap .u64 x) - s)) (2 ^ 63))==0) (r0 (wrap .u32 j) (q.set (b+(f.toNat*1)) (.int .u32 (wrap .u32 (wrap .u64 ((wrap .u64 x) - s)))))) (q4 0 (a:Int) 0 (q.set (b+(f.toNat*1)) (.int .u32 (wrap .u32 (wrap .u64 ((wrap .u64 x) - s))))))) none) none) none))
def E4(r0:Int->LA->O R)(b c:Nat)(d:LA)(a:Nat)(g h:Bool)(f j:Int):Nat->Int->Int->Int->LA->O R
|0=>fun _ _ _ _=>none
|n+1=>Hy N r0 b c d a g h f j (E4 r0 b c d a g h f j n) (Gp N r0 b c f j d a g h N)
def Q3(N:Nat)(r0:Int->LA->O R)(b c:Nat)(d:LA)(a:Nat)(g h:Bool)(f:Int)(i:LA)(q3:Int->Int->Int->Int->LA->O R)(j:Int):O R:=(q3 j 0 (a:Int) 0 i)
def Dy(r0:Int->LA->O R)(b c:Nat)(d:LA)(a:Nat)(g h:Bool)(f:Int)(i:LA)(j:Int):O R:=Q3 N r0 b c d a g h f i (fun j=>E4 N r0 b c d a g h f j N) j
def Q4(N:Nat)(k0:Int->Int->Int->O R)(r0:Int->LA->O R)(b c:Nat)(d:LA)(a:Nat)(g h:Bool)(f l m:Int)(i:LA)(q2:Int->O R):O R:=(cond (Ah (wrap .i64 (f - 1)) a) (Au .u32 (d.drop (((wrap .i64 (f - 1)).toNat)*1)) fun ab=>cond ((Int.fdiv (wrap .u64 (m+(wrap .u64 ab))) (2 ^ 32)) != 0) (q2 (wrap .u64 (l - 1))) (k0 f (wrap .u64 (l - 1)) (wrap .u64 (m+(wrap .u64 ab))))) none)
def Jw(k0:Int->Int->Int->O R)(r0:Int->LA->O R)(b c:Nat)(d:LA)(a:Nat)(g h:Bool)(f l m:Int)(i:LA):O R:=Q4 N k0 r0 b c d a g h f l m i (Dy N r0 b c d a g h f i)
def Q5(N:Nat)(r0:Int->LA->O R)(b c:Nat)(d:LA)(a:Nat)(g h:Bool)(i:LA)(k0:Int->Int->Int->O R)(q1:Int->Int->Int->O R)(q2:Int->Int->O R)(f l m:Int):O R:=(cond (((Int.fdiv l (2 ^ 32)) != 0)==false) (cond (Ah (wrap .i64 (f - 2)) a) (Au .u32 (d.drop (((wrap .i64 (f - 2)).toNat)*1)) fun ah=>cond (Ah (wrap .i64 (f - 2)) c) (Au .u32 (i.drop (b+(((wrap .i64 (f - 2)).toNat)*1))) fun ai=>cond (cond false true (decide ((wrap .u64 (l*(wrap .u64 ah)))>(Of .u64 (wrap .u64 (m*2 ^ 32)) (wrap .u64 ai))))) (q1 f l m) (q2 f l)) none) none) (q1 f l m))
def Dz(r0:Int->LA->O R)(b c:Nat)(d:LA)(a:Nat)(g h:Bool)(i:LA):Nat->Int->Int->Int->O R
|0=>fun _ _ _=>none
|n+1=>Q5 N r0 b c d a g h i (Dz r0 b c d a g h i n) (fun f l m=>Jw N (Dz r0 b c d a g h i n) r0 b c d a g h f l m i) (fun f=>Dy N r0 b c d a g h f i)
def R5(N:Nat)(r0:Int->LA->O R)(q0:Int->Int->Int->O R)(b c:Nat)(d:LA)(a:Nat)(g h:Bool)(i:LA):O R:=(cond (Ah (a:Int) c) (Au .u32 (i.drop (b+(a*1))) fun ac=>cond (Ah (wrap .i64 ((a:Int) - 1)) c) (Au .u32 (i.drop (b+(((wrap .i64 ((a:Int) - 1)).toNat)*1))) fun ad=>cond (Ah (wrap .i64 ((a:Int) - 1)) a) (Au .u32 (d.drop (((wrap .i64 ((a:Int) - 1)).toNat)*1)) fun ae=>cond ((wrap .u64 ae)==0) none (cond (Ah (wrap .i64 ((a:Int) - 1)) a) (Au .u32 (d.drop (((wrap .i64 ((a:Int) - 1)).toNat)*1)) fun af=>cond ((wrap .u64 af)==0) none (q0 (a:Int) (wrap .u64 (Int.tdiv (Of .u64 (wrap .u64 ((wrap .u64 ac)*2 ^ 32)) (wrap .u64 ad)) (wrap .u64 ae))) (Int.tmod (Of .u64 (wrap .u64 ((wrap .u64 ac)*2 ^ 32)) (wrap .u64 ad)) (wrap .u64 af)))) none)) none) none) none)
def Mj:=(Ak fun N b c d a g h i r0=>R5 (R:=R) N r0 (Dz N r0 b c d a g h i N) b c d a g h i).1
def AU(b c d a g h i r0):(@Mj R N b c d a g h i r0)=(R5 N r0 (Dz N r0 b c d a g h i N) b c d a g h i):=by rw[Mj,(Ak _).2]
def GF:Hints:={H:=hK 4 (hJ [0,1,5,7] (hS (hP [0,1,5,7,8] (hJ [0,1,5,7,8] hL hL)) hL) (hK 1 (hS (hK 1 (hS (hP [0,1,5,7,9,84,85,86] hL) hL)) (hK 4 (hS (hK 1 (hS (hP [0,5,7,9,134,135,136] hL) hL)) hL)))))}
def Jx(F:KF R):=L7 Tryz.f244 GF [] [100000] N F
def Br(F:KF R):Int->LA->O R:=fun aj ak=>F (.int .u32 aj) [(100000,bQ 1 ak)]
def dU(b c:Nat)(f j:Int)(d:LA)(a:Nat)(g h:Bool)(K:St->O R):=fun t u o r=>K ⟨[(0,.own 100000 b c),(5,iv f),(7,.int .u64 j),(9,.int .u64 t),(134,.imm d a 1 g h),(135,iv u),(136,iv o)],[(100000,bQ 1 r)]⟩
def dV(b c:Nat)(d:LA)(a:Nat)(g h:Bool)(f j:Int)(K:St->O R):=fun s v p q=>K ⟨[(0,.own 100000 b c),(1,.imm d a 1 g h),(5,iv f),(7,.int .u64 j),(9,.int .u64 s),(84,.imm d a 1 g h),(85,iv v),(86,iv p)],[(100000,bQ 1 q)]⟩
def dW(b c:Nat)(d:LA)(a:Nat)(g h:Bool)(f:Int)(i:LA)(K:St->O R):=fun j=>K ⟨[(0,.own 100000 b c),(1,.imm d a 1 g h),(5,iv f),(7,.int .u64 j)],[(100000,bQ 1 i)]⟩
def dX(b c:Nat)(d:LA)(a:Nat)(g h:Bool)(f l m:Int)(i:LA)(K:St->O R):=K ⟨[(0,.own 100000 b c),(1,.imm d a 1 g h),(5,iv f),(7,.int .u64 l),(8,.int .u64 m)],[(100000,bQ 1 i)]⟩
def T2(b c:Nat)(d:LA)(a:Nat)(g h:Bool)(i:LA)(K:St->O R):=fun f l m=>K ⟨[(0,.own 100000 b c),(1,.imm d a 1 g h),(5,iv f),(7,.int .u64 l),(8,.int .u64 m)],[(100000,bQ 1 i)]⟩
def QK(F:KF R)(b c f j d a g h):∀ n,dU b c f j d a g h (As (Jx N F (pz 357913924) []) n)=(Gp N (Br F) b c f j d a g h n):=Gu fun n e=>(Cg (Mi N (Br F) b c f j d a g h) e:_)
def QL(F:KF R)(b c d a g h f j):∀ n,dV b c d a g h f j (As (Jx N F (pz 349508) []) n)=(E4 N (Br F) b c d a g h f j n):=Gu fun n e=>(OF (Hy N (Br F) b c d a g h f j) e ((lW ..).trans (QK ..)):_)
def W0(F:KF R)(b c d a g h f i):dW b c d a g h f i (Bc (Jx N F (pz 1365) []))=(Dy N (Br F) b c d a g h f i):=(Cg (Q3 N (Br F) b c d a g h f i) (wg fun j=>(lW ..).trans (QL ..)):_)
def QM Q0 (F:KF R) (b c d a g h f l m i):dX b c d a g h f l m i (Bc (Jx N F (pz 87297) [Q0]))=(Jw N (T2 b c d a g h i Q0) (Br F) b c d a g h f l m i):=(Cg (Q4 N (T2 b c d a g h i Q0) (Br F) b c d a g h f l m i) ((jW ..).trans (W0 ..)):_)
def QN(F:KF R)(b c d a g h i):∀ n,T2 b c d a g h i (As (Jx N F (pz 5456) []) n)=(Dz N (Br F) b c d a g h i n):=Gu fun n e=>(Afg (Q5 N (Br F) b c d a g h i) e (Aea fun f l m=>(jW ..).trans ((QM ..).trans (rA (Jw _ · _ _ _ _ _ _ _ _ _ _ _) e))) (wg fun f=>(jW ..).trans (W0 ..)):_)
def gK:=Ce N 244 [] GF (fun
|[.own 100000 b c,.imm d a 1 g h],[(100000,⟨false,false,true,false,1,i,false,none⟩)]=>some fun _ k=>Mj N b c d a g h i (Br k)
| _,_=>none) fun _ _=>by split;intro R F;exact(Cg (R5 N (Br F) · _ _ _ _ _ _ _) ((lW ..).trans (QN ..)):_).trans (AU ..).symm;trivial
def Gy(r0:Nat->Bool->LA->O R)(b:Bool)(k0:LA->Nat->Int->Nat->LA->Nat->Int->Int->LA->O R)(o:LA)(m:Nat)(f:Int)(l:Nat)(p:LA)(q:Nat)(r d:Int)(g:LA):O R:=(cond (decide (d<r)) (cond (Ah d q) (Au .u32 (p.drop (d.toNat*1)) fun s=>cond (decide ((wrap .i64 (d+1))<(m:Int))) (cond (Ah (wrap .i64 (d+1)) m) (Au .u32 (o.drop (((wrap .i64 (d+1)).toNat)*1)) fun u=>cond (decide (f<0)) none (cond (Ah d l) (cond ((beq 1 1)&&((ble ((0+(d.toNat*1))+1) g.length)&&(!false))) (k0 o m f l p q r (wrap .i64 (d+1)) (g.set (0+(d.toNat*1)) (.int .u32 (wrap .u32 (Int.fdiv (Of .u64 (wrap .u64 s) (wrap .u64 ((wrap .u64 u)*2 ^ 32))) (2 ^ (min f.toNat 64))))))) none) none)) none) (cond (decide (f<0)) none (cond (Ah d l) (cond ((beq 1 1)&&((ble ((0+(d.toNat*1))+1) g.length)&&(!false))) (k0 o m f l p q r (wrap .i64 (d+1)) (g.set (0+(d.toNat*1)) (.int .u32 (wrap .u32 (Int.fdiv (wrap .u64 s) (2 ^ (min f.toNat 64))))))) none) none))) none) (Wr N l g fun v=>r0 v true g))
def Cn(r0:Nat->Bool->LA->O R)(b:Bool):Nat->LA->Nat->Int->Nat->LA->Nat->Int->Int->LA->O R
|0=>fun _ _ _ _ _ _ _ _ _=>none
|n+1=>Gy N r0 b (Cn r0 b n)
def Ld(r0:Nat->Bool->LA->O R)(q0:LA->Nat->Int->Nat->LA->Nat->Int->Int->LA->O R)(h:LA)(i:Nat)(j b:Bool)(a:Int):O R:=(cond (decide (a<0)) (r0 0 false []) (Cb N h i j b fun t c=>cond (decide ((wrap .i64 (Int.tdiv a 32))>=(c:Int))) (r0 0 true []) (cond ((decide (0<=(wrap .i64 (Int.tdiv a 32))))&&((decide ((wrap .i64 (Int.tdiv a 32))<=(c:Int)))&&((decide ((c:Int)<=(c:Int)))&&(decide ((c:Int)<=(c:Int)))))) (cond ((decide (0<=(((c - ((wrap .i64 (Int.tdiv a 32)).toNat)):Nat):Int)))&&((decide ((((c - ((wrap .i64 (Int.tdiv a 32)).toNat)):Nat):Int)<=(((c - ((wrap .i64 (Int.tdiv a 32)).toNat)):Nat):Int)))&&((decide ((((c - ((wrap .i64 (Int.tdiv a 32)).toNat)):Nat):Int)<=140737488355328))&&(decide (((((c - ((wrap .i64 (Int.tdiv a 32)).toNat)):Nat):Int)*((4:Nat):Int))<=140737488355328))))) (q0 ((t.drop (((wrap .i64 (Int.tdiv a 32)).toNat)*1)).take ((c - ((wrap .i64 (Int.tdiv a 32)).toNat))*1)) (c - ((wrap .i64 (Int.tdiv a 32)).toNat)) (Int.tmod a 32) (c - ((wrap .i64 (Int.tdiv a 32)).toNat)) ((t.drop (((wrap .i64 (Int.tdiv a 32)).toNat)*1)).take ((c - ((wrap .i64 (Int.tdiv a 32)).toNat))*1)) (c - ((wrap .i64 (Int.tdiv a 32)).toNat)) (((c - ((wrap .i64 (Int.tdiv a 32)).toNat)):Nat):Int) 0 (replicate (c - ((wrap .i64 (Int.tdiv a 32)).toNat)) (.int .u32 0))) none) none)))
def Na:=(Ak fun N h i j b a r0=>Ld (R:=R) N r0 (Cn N r0 b N) h i j b a).1
def Pb(h i j b a r0):(@Na R N h i j b a r0)=(Ld N r0 (Cn N r0 b N) h i j b a):=by rw[Na,(Ak _).2]
def AW:Hints:={H:=hK 7 (hS (hK 1 (hS (hP [0,6,7,29,30,31] hL) hL)) hL),nils:=[(4,1)],modes:=[(2,1),(0,0)]}
def GG:U6:=[Fa N]
def XO(F:KF R):=L7 Tryz.f245 AW (GG N) [] N F
def XP(b:Bool)(K:St->O R):=fun o m f l p q r d g=>K ⟨[(0,.imm o m 1 false b),(6,iv f),(7,Aqb 0 l),(29,.imm p q 1 false b),(30,iv r),(31,iv d)],hq [bQ 1 g]⟩
def ND(F:KF R)b:∀ n,XP b (As (XO N F (pz 1398084) []) n)=(Cn N (XA F) b n):=Gu fun n e=>(Cg (Gy N (XA F) b) e:_)
def dY:=Ce N 245 (GG N) AW (fun
|[.imm h i 1 j b,.int .i64 a],[]=>some fun _ k=>Na N h i j b a (XA k)
| _,_=>none) fun _ _=>by split;intro R F;exact(Cg (Ld N (XA F) · _ _ _ _ _) ((lW ..).trans (ND ..)):_).trans (Pb ..).symm;trivial
end
end Gx
namespace Gx
open Go Go.Proofs
section
variable{R:Type}
def fit(k N:Nat):Prop:=100*k+1000<=N/\k<=1000000000
def fit.le{j k N:Nat}(h:fit k N)(v:j<=k):fit j N:=⟨by have:=h.1;omega,by have:=h.2;omega⟩
def ct(x y:O R):cond true x y=x:=rfl
def cf(x y:O R):cond false x y=y:=rfl
def rP(x y:Bool):cond true x y=x:=rfl
def Afh(x y:Bool):cond false x y=y:=rfl
def yr(c:Nat):((decide (((c+1:Nat):Int)>(0:Int)))==true)=true:=by simp
def Jy{j n:Nat}(h:j<n):decide ((j:Int)<(n:Int))=true:=by simp;omega
def K4{j n:Nat}(h:n<=j):decide ((j:Int)<(n:Int))=false:=by simp;omega
def wS{j:Nat}(h:j<=1000000000000):wrap .i64 ((j:Int)+1)=((j+1:Nat):Int):=by rw[i64 (by omega)];omega
def wP{j:Nat}(h:j<=1000000000000):wrap .i64 (((j+1:Nat):Int) - 1)=(j:Int):=by rw[i64 (by omega)];omega
def wA{j k:Nat}(h:j+k<=1000000000000):wrap .i64 ((j:Int)+(k:Int))=((j+k:Nat):Int):=by rw[i64 (by omega)];omega
def HF{l:List Nat}{j:Nat}(h:j<l.length){f:Int->O R}:Au .u32 (drop ((Int.toNat (j:Int))*1) (Ac l)) f=f (l[j]:Nat):=by rw[Ahm,Ah1,rH h]
def TC{l:List Nat}{j:Nat}(h:j<l.length){f:Int->O R}:Au .u32 (drop (0+((Int.toNat (j:Int))*1)) (Ac l)) f=f (l[j]:Nat):=by rw[Ah0,HF h]
def Acb{c a:Nat}(h:c<=a):((decide ((0:Int)<=(0:Int)))&&((decide ((0:Int)<=(c:Int)))&&((decide ((c:Int)<=(a:Int)))&&(decide ((a:Int)<=(a:Int))))))=true:=by simp;omega
def yG{n:Nat}(h:n<=1000000000000):((decide ((0:Int)<=(n:Int)))&&((decide ((n:Int)<=(n:Int)))&&((decide ((n:Int)<=(140737488355328:Int)))&&(decide (((n:Int)*((4:Nat):Int))<=(140737488355328:Int))))))=true:=by simp;omega
def lU{x:Nat}{m:List Nat}(h:x<m.length):((beq 1 1)&&((ble ((0+((Int.toNat (x:Int))*1))+1) (List.length (Ac m)))&&(!false)))=true:=by rw[Bg,Ahm];simp;omega
def JD{x v:Nat}{m:List Nat}:List.set (Ac m) (0+((Int.toNat (x:Int))*1)) (.int .u32 (v:Int))=Ac (m.set x v):=by rw[Ahm,Ah1,Ah0,SQ]
def rQ{l:List Nat}(h:Ai l):l.take (An (val l)).length=An (val l):=by
 obtain⟨k,v⟩:=A9 h
 rw[congrArg (take (An (val l)).length) k,List.take_left]
def Kd{l:List Nat}(h:Ai l):take ((An (val l)).length*1) (Ac l)=Ac (An (val l)):=by rw[Ah1,Qv,rQ h]
def Ax{l:List Nat}{c:Nat}(h:c<l.length):val (l.take (c+1))=val (l.take c)+4294967296 ^ c*l[c]:=by rw[Ah2 h,t_,Ah3,Aia (by omega)]
def oS{l:List Nat}{c:Nat}(k:Ai l)(h:c<l.length)(v:l[c]≠0):An (val (l.take (c+1)))=l.take (c+1):=by
 apply Ac9 (Bw k _)
 intro A
 rw[Akv]
 simp only[Ah3,Aia (show c+1<=l.length by omega),An3,Ajj]
 exact v
def gL{N:Nat}{l:List Nat}{K:Nat->O R}(v:Ai l)(hs:l.length<=1000000000000):∀(c fuel:Nat),c<=l.length->c<fuel ->
  Qw N K l.length (Ac l) fuel (c:Int)=K (An (val (l.take c))).length
|0,fuel+1,A,_=>by
  rw[Qw];unfold DF
  rw[show decide (((0:Nat):Int)>0)=false by simp]
  rw[show((false:Bool)==true)=false by rfl,cf,Acb (by omega),ct,Ahm];rfl
| c+1,fuel+1,A,B=>by
  rw[Qw];unfold DF
  rw[yr,ct,wP (by omega),Ab (by omega),ct,TC (by omega),rP,Acb (by omega),ct,gL v hs c fuel (by omega) (by omega),Ahm]
  by_cases k:l[c]=0
  ·rw[Ax (by omega),k];simp
  ·rw[oS v (by omega) k,Ah3,Aia A]
   rw[show(((l[c]:Nat):Int)==0)=false by simp;exact k,cf]
def AX{N:Nat}{l:List Nat}{n:Nat}{K:Nat->O R}(hn:n=l.length)(v:Ai l)(k:fit l.length N):Wr N n (Ac l) K=K (An (val l)).length:=by
 subst hn
 have A:=k.1;have B:=k.2
 rw[QB];unfold SR
 rw[gL v (by omega) l.length N (Ahl _) (by omega),Aic]
def lj{N:Nat}{l:List Nat}{t o:Bool}{K:LA->Nat->O R}(v:Ai l)(hs:l.length<=1000000000000):∀(c fuel:Nat),c<=l.length->c<fuel ->
  Io N K (Ac l) l.length t o fuel (c:Int)=K (Ac (An (val (l.take c)))) (An (val (l.take c))).length
|0,fuel+1,A,_=>by
  rw[Io];unfold R3
  rw[show decide (((0:Nat):Int)>0)=false by simp]
  rw[show((false:Bool)==true)=false by rfl,cf,Acb (by omega),ct,Ahm];rfl
| c+1,fuel+1,A,B=>by
  rw[Io];unfold R3
  rw[yr,ct,wP (by omega),Ab (by omega),ct,HF (by omega),rP,Acb (by omega),ct,lj v hs c fuel (by omega) (by omega),Ahm,Ah1,Qv]
  by_cases k:l[c]=0
  ·rw[Ax (by omega),k];simp
  ·rw[oS v (by omega) k,Ah3,Aia A]
   rw[show(((l[c]:Nat):Int)==0)=false by simp;exact k,cf]
def Bj{N:Nat}{l:List Nat}{n:Nat}{t o:Bool}{K:LA->Nat->O R}(hn:n=l.length)(v:Ai l)(k:fit l.length N):Cb N (Ac l) n t o K=K (Ac (An (val l))) (An (val l)).length:=by
 subst hn
 have A:=k.1;have B:=k.2
 rw[OH];unfold DH
 rw[lj v (by omega) l.length N (Ahl _) (by omega),Aic]
def wu{N:Nat}{K:LA->O R}(hN:1<=N):AS N K=K []:=by
 rw[OL];unfold DJ
 cases N with
|zero=>omega
|succ N=>rw[O8];rfl
end
end Gx
namespace Gx
open Go Go.RowKit
section
variable{P:Program}{W:World}{H:Type}{enc:TypeId×Value->H}{β:Bx}{h:Aw}
def Aav{t A:TypeId}{α:Type}{e:α->LA}{n:Nat}{a:Option Addr}{len cap:Nat}{d:DataW H}{p:List MemPlace}(v:P.underlying t=some (.slice A))(B:P.cellsOf t=1)(C:Opens P A e n)
  (D:DataW.Trod enc P W 0 (fun _=>true) true t (.slice a len cap) d p):∃ l:List α,l.length<=maxLen/\Rep (fun _ k=>k<W.heap.size) β h W (.imm (l.flatMap e) l.length n false false) (.slice a len cap):=by
 obtain⟨fuel,G⟩:=D
 obtain⟨_,⟨l,I⟩,hr⟩:=(aX v B C).read enc W fuel _ _ _ G
 refine⟨l,I,?_⟩
 simp only[RepCs,Value.cells,and_true]at hr
 obtain⟨u,v,hr⟩:=hr
 simp at v;subst v
 rw[Rep];exact hr
def e9{k:IntKind}{n:Int}:Rep (fun _ k=>k<W.heap.size) β h W (.int k n) (.int k n):=by rw[Rep]
def yu{b:Bool}:Rep (fun _ k=>k<W.heap.size) β h W (.bool b) (.bool b):=by rw[Rep]
def yv:Reps (fun _ k=>k<W.heap.size) β h W [] []:=by rw[Reps]
def Og{x:AV}{xs:LA}{v:Value}{vs:List Value}(A:Rep (fun _ k=>k<W.heap.size) β h W x v)(B:Reps (fun _ k=>k<W.heap.size) β h W xs vs):Reps (fun _ k=>k<W.heap.size) β h W (x::xs) (v::vs):=by rw[Reps];exact⟨v,vs,rfl,A,B⟩
def yw{t:TypeId}{α:Type}{e:α->LA}{n:Nat}{cs:Array Value}{d:DataW H}{p:List MemPlace}(v:Opens P t e n)
  (A:DataW.Trod enc P W 0 (fun _=>true) true t (.agg cs) d p):∃ a:α,Rep (fun _ k=>k<W.heap.size) β h W (.pagg (e a) false) (.agg cs):=by
 obtain⟨fuel,B⟩:=A
 obtain⟨C,a,hr⟩:=v.read enc W fuel _ _ _ B
 refine⟨a,?_⟩
 rw[Rep]
 exact⟨cs.toList,rfl,by rw[v.len];exact C,hr⟩
end
end Gx
namespace Gx
open Go Go.Proofs
set_option maxRecDepth 100000
noncomputable section
variable{R:Type}(N:Nat)
def DO(N:Nat)(r0:Bool->O R)(b:LA)(a:Nat)(c d:Bool)(k0:Int->O R)(f:Int):O R:=(cond (decide (f<(a:Int))) (cond (Ah f a) (Bv 1 ((b.drop (f.toNat*3)).drop 1) fun i g=>cond ((decide ((g:Int)>4))==false) (cond (Ah f a) (Bv 1 ((b.drop (f.toNat*3)).drop 2) fun j h=>cond (cond false true (decide ((h:Int)>4))) (r0 false) (k0 (wrap .i64 (f+1)))) none) (r0 false)) none) (r0 true))
def Q6(r0:Bool->O R)(b:LA)(a:Nat)(c d:Bool):Nat->Int->O R
|0=>fun _=>none
|n+1=>DO N r0 b a c d (Q6 r0 b a c d n)
def e_(N:Nat)(r0:Bool->O R)(q0:Int->O R)(b:LA)(a:Nat)(c d:Bool):O R:=(cond (decide ((a:Int)>30)) (r0 false) (q0 0))
def gM:=(Ak fun N b a c d r0=>e_ (R:=R) N r0 (Q6 N r0 b a c d N) b a c d).1
def gN(b a c d r0):(@gM R N b a c d r0)=(e_ N r0 (Q6 N r0 b a c d N) b a c d):=by rw[gM,(Ak _).2]
def lk:Hints:={H:=hK 2 (hS (hK 1 (hS (hP [0,3] hL) hL)) hL)}
def wv(F:KF R):=L7 Tryz.f22 lk [] [] N F
def ww(b:LA)(a:Nat)(c d:Bool)(K:St->O R):=fun f=>K ⟨[(0,.imm b a 3 c d),(3,iv f)],[]⟩
def oT(F:KF R)(b a c d):∀ n,ww b a c d (As (wv N F (pz 1348) []) n)=(Q6 N (Cm F) b a c d n):=Gu fun n e=>(Cg (DO N (Cm F) b a c d) e:_)
def yx:=Ce N 22 [] lk (fun
|[.imm b a 3 c d],[]=>some fun _ k=>gM N b a c d (Cm k)
| _,_=>none) fun _ _=>by split;intro R F;exact(Cg (e_ N (Cm F) · _ _ _ _) ((lW ..).trans (oT ..)):_).trans (gN ..).symm;trivial
def oU(N:Nat)(a:LA)(b:Nat)(c d:Bool)(r0:O R):O R:=r0
def td:=(Ak (@oU R)).1
def gO:@td R=@oU R:=(Ak _).2
def wz(a:LA)(b:Nat)(c d:Bool)(F:KF R):O R:=F (op 0) (hq [bN 0 [.imm a b 1 c d,iv 0]])
def yy:=Ce N 88 [] Eg (fun
|[.imm a b 1 c d],[]=>some fun _ k=>td N a b c d (wz a b c d k)
| _,_=>none) fun _ _=>by split;intro R F;dsimp only;rw[gO];kernel_rfl;trivial
def oV(N:Nat)(b a:Int)(r0:Int->O R):O R:=(cond ((wrap .u64 a)==0) none (r0 (wrap .i64 (Int.tmod (wrap .u64 b) (wrap .u64 a)))))
def te:=(Ak (@oV R)).1
def gP:@te R=@oV R:=(Ak _).2
def yz:=Ce N 150 [] Eg (fun
|[.int .i64 b,.int .i64 a],[]=>some fun _ k=>te N b a (Gv k)
| _,_=>none) fun _ _=>by split;intro R F;dsimp only;rw[gP];kernel_rfl;trivial
def R6(f:Int)(c:LA)(a:Nat)(d e:Bool)(b:Int)(r0:Int->Int->O R):O R:=(cond (decide (b>=(a:Int))) (r0 0 b) (cond (Ah (wrap .i64 ((wrap .i64 (b+1)) - 1)) a) (Au .i64 (c.drop (((wrap .i64 ((wrap .i64 (b+1)) - 1)).toNat)*1)) fun g=>te N g f fun h=>r0 h (wrap .i64 (b+1))) none))
def Af:=(Ak (@R6 R)).1
def Q8:@Af R=@R6 R:=(Ak _).2
def dZ(c:LA)(a:Nat)(d e:Bool)(F:KF R):Int->Int->O R:=fun i j=>F (iv i) [(100000,bN 0 [.imm c a 1 d e,iv j])]
def Hz:=Ce N 89 [yz N] Eg (fun
|[.optr 100000 0,.int .i64 f],[(100000,⟨false,false,false,false,0,[.imm c a 1 d e,.int .i64 b],false,none⟩)]=>some fun _ k=>Af N f c a d e b (dZ c a d e k)
| _,_=>none) fun _ _=>by split;intro R F;dsimp only;rw[Q8];kernel_rfl;trivial
def Kn(r0:Nat->Int->LA->O R)(f g:Int)(a:LA)(b:Nat)(c d:Bool)(k0:Nat->Int->Int->LA->O R)(i:Nat)(j l:Int)(m:LA):O R:=(cond (decide (j<f)) (Af N g a b c d l fun o p=>cond ((ble (i+1) 140737488355328)&&(ble ((i+1)*8) 140737488355328)) (k0 (i+1) (wrap .i64 (j+1)) p ((m.take (i*1))++[.int .i64 o])) none) (r0 i l m))
def Ea(r0:Nat->Int->LA->O R)(f g:Int)(a:LA)(b:Nat)(c d:Bool):Nat->Nat->Int->Int->LA->O R
|0=>fun _ _ _ _=>none
|n+1=>Kn N r0 f g a b c d (Ea r0 f g a b c d n)
def Pc(N:Nat)(r0:Nat->Int->LA->O R)(q0:Nat->Int->Int->LA->O R)(f g:Int)(a:LA)(b:Nat)(c d:Bool)(h:Int):O R:=(q0 0 0 h [])
def Ej:=(Ak fun N f g a b c d h r0=>Pc (R:=R) N r0 (Ea N r0 f g a b c d N) f g a b c d h).1
def Ye(f g a b c d h r0):(@Ej R N f g a b c d h r0)=(Pc N r0 (Ea N r0 f g a b c d N) f g a b c d h):=by rw[Ej,(Ak _).2]
def AY:Hints:={H:=hK 2 (hS (hK 1 (hS (hP [0,1,2,7,8] hL) hL)) hL),nils:=[(6,1),(7,1)],modes:=[(2,1)]}
def GH:U6:=[Hz N]
def XQ(F:KF R):=L7 Tryz.f90 AY (GH N) [100000] N F
def XR(f g:Int)(a:LA)(b:Nat)(c d:Bool)(K:St->O R):=fun i j l m=>K ⟨[(0,.optr 100000 0),(1,iv f),(2,iv g),(7,Aqb 0 i),(8,iv j)],[(100000,bN 0 [.imm a b 1 c d,iv l]),(300000,bQ 1 m)]⟩
def NE(F:KF R)(f g a b c d):∀ n,XR f g a b c d (As (XQ N F (pz 1348) []) n)=(Ea N (yn a b c d F) f g a b c d n):=Gu fun n e=>(Cg (Kn N (yn a b c d F) f g a b c d) e:_)
def d8:=Ce N 90 (GH N) AY (fun
|[.optr 100000 0,.int .i64 f,.int .i64 g],[(100000,⟨false,false,false,false,0,[.imm a b 1 c d,.int .i64 h],false,none⟩)]=>some fun _ k=>Ej N f g a b c d h (yn a b c d k)
| _,_=>none) fun _ _=>by split;rename_i f g a b c d h;intro R F;exact(Cg (Pc N (yn a b c d F) · f g a b c d h) ((lW ..).trans (NE ..)):_).trans (Ye ..).symm;trivial
def gQ(N:Nat)(b:Lu)(a:Int)(r0:Lu->O R):O R:=(cond ((decide (0<=(Int.tmod a 16)))&&((decide ((Int.tmod a 16)<=(wrap .i64 ((Int.tmod a 16)+1))))&&((decide ((wrap .i64 ((Int.tmod a 16)+1))<=16))&&(decide ((16:Int)<=(16:Int)))))) (cond (ble (b.length+(List.length (take (((wrap .i64 ((Int.tmod a 16)+1)).toNat) - ((Int.tmod a 16).toNat)) (drop ((Int.tmod a 16).toNat) ([48,49,50,51,52,53,54,55,56,57,97,98,99,100,101,102]:Lu))))) 140737488355328) (r0 (b++(take (((wrap .i64 ((Int.tmod a 16)+1)).toNat) - ((Int.tmod a 16).toNat)) (drop ((Int.tmod a 16).toNat) ([48,49,50,51,52,53,54,55,56,57,97,98,99,100,101,102]:Lu))))) none) none)
def DP:=(Ak (@gQ R)).1
def bD:@DP R=@gQ R:=(Ak _).2
def th(F:KF R):Lu->O R:=fun c=>F (.str c) []
def MK:=Ce N 91 [] Eg (fun
|[.str b,.int .i64 a],[]=>some fun _ k=>DP N b a (th k)
| _,_=>none) fun _ _=>by split;intro R F;dsimp only;rw[bD];kernel_rfl;trivial
def R7(e:Int)(a:LA)(b:Nat)(c d:Bool)(f:Int)(r0:Nat->Int->LA->O R):O R:=(Af N 6 a b c d f fun h g=>cond (h==5) (Af N e a b c d g fun i j=>r0 1 j [.int .i64 i]) (r0 0 g []))
def Mk:=(Ak (@R7 R)).1
def Ra:@Mk R=@R7 R:=(Ak _).2
def JE:=Ce N 151 [Hz N] { H:=hL,nils:=[(4,1)],modes:=[(2,1)] } (fun
|[.optr 100000 0,.int .i64 e],[(100000,⟨false,false,false,false,0,[.imm a b 1 c d,.int .i64 f],false,none⟩)]=>some fun _ k=>Mk N e a b c d f (yn a b c d k)
| _,_=>none) fun _ _=>by split;intro R F;dsimp only;rw[Ra];kernel_rfl;trivial
def R8(i e f g:Int)(a:LA)(b:Nat)(c d:Bool)(j:Int)(r0:LA->Int->O R):O R:=(DP N ([108]:Lu) i fun l=>Af N 4 a b c d j fun m s=>Af N 2 a b c d s fun n t=>Af N 40 a b c d t fun h u=>Af N 20 a b c d u fun o v=>Af N 5 a b c d v fun w p=>cond (w==4) (Af N 4 a b c d p fun x y=>Af N 2 a b c d y fun z aa=>Af N 4 a b c d aa fun ab ac=>Mk N g a b c d ac fun q ad ae=>r0 [.str l,.int .i64 e,.int .i64 f,.int .i64 (wrap .i64 (1+m)),.int .i64 (wrap .i64 (1+n)),.int .i64 (wrap .i64 ((0:Int) - x)),.int .i64 (wrap .i64 (1+z)),.int .i64 ab,.int .i64 1,.int .i64 (wrap .i64 (4+h)),.int .i64 (wrap .i64 ((wrap .i64 (4+h))+o)),.imm (ae.take (q*1)) q 1 false false] ad) (Mk N g a b c d p fun r af ag=>r0 [.str l,.int .i64 e,.int .i64 f,.int .i64 (wrap .i64 (1+m)),.int .i64 (wrap .i64 (1+n)),Aqc,.int .i64 1,Aqc,.int .i64 1,.int .i64 (wrap .i64 (4+h)),.int .i64 (wrap .i64 ((wrap .i64 (4+h))+o)),.imm (ag.take (r*1)) r 1 false false] af))
def Pd:=(Ak (@R8 R)).1
def Rb:@Pd R=@R8 R:=(Ak _).2
def gR:=Ce N 92 [MK N,Hz N,JE N] { H:=hL,modes:=[(3,0)],cob:=[28] } (fun
|[.optr 100000 0,.int .i64 i,.int .i64 e,.int .i64 f,.int .i64 g],[(100000,⟨false,false,false,false,0,[.imm a b 1 c d,.int .i64 j],false,none⟩)]=>some fun _ k=>Pd N i e f g a b c d j (dQ a b c d k)
| _,_=>none) fun _ _=>by split;intro R F;dsimp only;rw[Rb];kernel_rfl;trivial
def Jz(r0:LA->Int->O R)(a:LA)(b:Nat)(c d:Bool)(t:Int)(g:Lu)(h f m:Int)(l:Nat)(i u v w x s p y z aa:Int)(q:Nat)(r:Int)(o ab:LA)(af ag ah ai:Int):O R:=(cond (r==2) (Af N (wrap .i64 ((wrap .i64 (m - f))+1)) a b c d t fun ar au=>r0 [.str g,.int .i64 h,.int .i64 f,.int .i64 m,.imm (o.take (l*2)) l 2 false false,.int .i64 i,.int .i64 u,.int .i64 v,.int .i64 af,.int .i64 ag,.int .i64 w,.int .i64 x,.int .i64 s,.int .i64 p,.int .i64 ah,.int .i64 y,.int .i64 z,.int .i64 aa,.imm (ab.take (q*1)) q 1 false false,.int .i64 r,.int .i64 ai,.int .i64 (wrap .i64 (f+ar))] au) (r0 [.str g,.int .i64 h,.int .i64 f,.int .i64 m,.imm (o.take (l*2)) l 2 false false,.int .i64 i,.int .i64 u,.int .i64 v,.int .i64 af,.int .i64 ag,.int .i64 w,.int .i64 x,.int .i64 s,.int .i64 p,.int .i64 ah,.int .i64 y,.int .i64 z,.int .i64 aa,.imm (ab.take (q*1)) q 1 false false,.int .i64 r,.int .i64 ai,Aqc] t))
def Ml(r0:LA->Int->O R)(j:Int)(a:LA)(b:Nat)(c d:Bool)(g:Lu)(h f i:Int)(k0:Int->Int->Int->Int->Nat->LA->O R)(q1:Int->Int->Nat->Int->Int->Int->Int->Int->Int->Int->Int->Int->Nat->Int->LA->LA->Int->Int->Int->Int->O R)(aj ak al m:Int)(l:Nat)(o:LA):O R:=(cond (decide (ak>0)) (Af N 15 a b c d al fun am av=>cond ((ble (l+1) 140737488355328)&&(ble ((l+1)*16) 140737488355328)) (Af N 10 a b c d av fun aw ax=>k0 (wrap .i64 (aj+aw)) (wrap .i64 (ak - 1)) ax (wrap .i64 (m+(wrap .i64 (1+am)))) (l+1) ((o.take (l*2))++[.int .i64 (wrap .i64 (1+am)),.int .i64 aj])) none) (Af N 20 a b c d al fun u ay=>Af N 20 a b c d ay fun v az=>Af N (wrap .i64 ((wrap .i64 (m - f))+1)) a b c d az fun an ba=>Af N (wrap .i64 ((wrap .i64 (m - f))+1)) a b c d ba fun ao bb=>Af N 3 a b c d bb fun w bc=>Af N 3 a b c d bc fun x bd=>Af N 2 a b c d bd fun s be=>Af N 30 a b c d be fun p bf=>Af N 30 a b c d bf fun ap bg=>Af N 4 a b c d bg fun y bh=>Af N 8 a b c d bh fun z bi=>Af N 4 a b c d bi fun aa bj=>Mk N j a b c d bj fun q bk ab=>Af N (wrap .i64 (2+s)) a b c d bk fun aq bl=>cond (Ah aq 3) (Au .i64 (drop (0+(aq.toNat*1)) [Aqc,.int .i64 2,.int .i64 1]) fun r=>Af N 4 a b c d bl fun bm t=>cond (r==1) (q1 t m l u v w x s p y z aa q r o ab (wrap .i64 (f+an)) (wrap .i64 (f+ao)) (wrap .i64 (p+ap)) 1) (q1 t m l u v w x s p y z aa q r o ab (wrap .i64 (f+an)) (wrap .i64 (f+ao)) (wrap .i64 (p+ap)) (wrap .i64 (1+bm)))) none))
def D0(r0:LA->Int->O R)(j:Int)(a:LA)(b:Nat)(c d:Bool)(g:Lu)(h f i:Int):Nat->Int->Int->Int->Int->Nat->LA->O R
|0=>fun _ _ _ _ _ _=>none
|n+1=>Ml N r0 j a b c d g h f i (D0 r0 j a b c d g h f i n) (fun t m l u v w x s p y z aa q r o ab=>Jz N r0 a b c d t g h f m l i u v w x s p y z aa q r o ab)
def R9(r0:LA->Int->O R)(q0:Lu->Int->Int->Int->Int->Int->Int->Int->Nat->LA->O R)(ac ad j:Int)(a:LA)(b:Nat)(c d:Bool)(ae:Int):O R:=(DP N ([117]:Lu) ac fun g=>Af N ad a b c d ae fun h bn=>Af N 8 a b c d bn fun f bo=>Af N 20 a b c d bo fun i bp=>Af N 20 a b c d bp fun bq br=>Af N 2 a b c d br fun bs bt=>q0 g h f i (wrap .i64 (bq - 2)) (wrap .i64 (1+bs)) bt f 0 [])
def Pe:=(Ak fun N ac ad j a b c d ae r0=>R9 (R:=R) N r0 (fun g h f i=>D0 N r0 j a b c d g h f i N) ac ad j a b c d ae).1
def AZ(ac ad j a b c d ae r0):(@Pe R N ac ad j a b c d ae r0)=(R9 N r0 (fun g h f i=>D0 N r0 j a b c d g h f i N) ac ad j a b c d ae):=by rw[Pe,(Ak _).2]
def GI:Hints:={H:=hK 4 (hS (hK 1 (hS (hP [0,3,8,9,10,11] hL) hL)) (hK 8 (hJ [0,8,9] hL hL))),modes:=[(3,0)],cob:=[22]}
def JF:U6:=[MK N,Hz N,JE N]
def GJ(F:KF R):=L7 Tryz.f93 GI (JF N) [100000] N F
def d9(a:LA)(b:Nat)(c d:Bool)(t:Int)(g:Lu)(h f m:Int)(l:Nat)(i u v w x s p y z aa:Int)(q:Nat)(r:Int)(o ab:LA)(K:St->O R):=fun af ag ah ai=>K ⟨[(0,.optr 100000 0),(8,op 0),(9,op 1)],[(100000,bN 0 [.imm a b 1 c d,iv t]),(300000,bN 0 [.str ([]:Lu),iv 0,iv 0,iv 0,.nsl,iv 0,iv 0,iv 0,iv 0,iv 0,iv 0,iv 0,iv 0,iv 0,iv 0,iv 0,iv 0,iv 0,.nsl,iv 0,iv 0,iv 0]),(300001,bN 0 [.str g,iv h,iv f,iv m,Aqb 2 l,iv i,iv u,iv v,iv af,iv ag,iv w,iv x,iv s,iv p,iv ah,iv y,iv z,iv aa,Aqb 3 q,iv r,iv ai,iv 0]),(300002,bQ 2 o),(300003,bQ 1 ab)]⟩
def d_(j:Int)(a:LA)(b:Nat)(c d:Bool)(g:Lu)(h f i:Int)(K:St->O R):=fun aj ak al m l o=>K ⟨[(0,.optr 100000 0),(3,iv j),(8,op 0),(9,op 1),(10,iv aj),(11,iv ak)],[(100000,bN 0 [.imm a b 1 c d,iv al]),(300000,bN 0 [.str ([]:Lu),iv 0,iv 0,iv 0,.nsl,iv 0,iv 0,iv 0,iv 0,iv 0,iv 0,iv 0,iv 0,iv 0,iv 0,iv 0,iv 0,iv 0,.nsl,iv 0,iv 0,iv 0]),(300001,bN 0 [.str g,iv h,iv f,iv m,Aqb 2 l,iv i,iv 0,iv 0,iv 0,iv 0,iv 0,iv 0,iv 0,iv 0,iv 0,iv 0,iv 0,iv 0,Aqb 3 0,iv 0,iv 0,iv 0]),(300002,bQ 2 o),(300003,bQ 1 [])]⟩
def QO(F:KF R)(a b c d t g h f m l i u v w x s p y z aa q r o ab):d9 a b c d t g h f m l i u v w x s p y z aa q r o ab (Bc (GJ N F (pz 357913941) []))=(Jz N (dQ a b c d F) a b c d t g h f m l i u v w x s p y z aa q r o ab):=by kernel_rfl
def QP(F:KF R)(j a b c d g h f i):∀ n,d_ j a b c d g h f i (As (GJ N F (pz 21828) []) n)=(D0 N (dQ a b c d F) j a b c d g h f i n):=Gu fun n e=>(OF (Ml N (dQ a b c d F) j a b c d g h f i) e (t7 fun t m l u=>Aff fun v w x s p y=>Aff fun z aa q r o ab=>(jW ..).trans (QO ..)):_)
def gS:=Ce N 93 (JF N) GI (fun
|[.optr 100000 0,.int .i64 ac,.int .i64 ad,.int .i64 j],[(100000,⟨false,false,false,false,0,[.imm a b 1 c d,.int .i64 ae],false,none⟩)]=>some fun _ k=>Pe N ac ad j a b c d ae (dQ a b c d k)
| _,_=>none) fun _ _=>by split;rename_i ac ad j a b c d ae;intro R F;exact(Cg (R9 N (dQ a b c d F) · ac ad j a b c d ae) (t7 fun g h f i=>(lW ..).trans (QP ..)):_).trans (AZ ..).symm;trivial
def Fv(r0:LA->Int->O R)(f:Int)(a:LA)(b:Nat)(c d:Bool)(g:Lu)(h:Nat)(i:LA)(k1:Int->Int->Nat->LA->O R)(p s:Int)(o:Nat)(q:LA):O R:=(cond (decide (p<f)) (Af N 2 a b c d s fun z u=>cond (z==1) (Af N 8 a b c d u fun aa ab=>Af N 8 a b c d ab fun ac ad=>cond ((ble (o+1) 140737488355328)&&(ble ((o+1)*24) 140737488355328)) (k1 (wrap .i64 (p+1)) ad (o+1) ((q.take (o*3))++[.int .i64 p,.int .i64 aa,.int .i64 ac])) none) (k1 (wrap .i64 (p+1)) u o q)) (r0 [.str g,.imm (i.take (h*1)) h 1 false false,.bool true,.imm (q.take (o*3)) o 3 false false] s))
def Dq(r0:LA->Int->O R)(f:Int)(a:LA)(b:Nat)(c d:Bool)(g:Lu)(h:Nat)(i:LA):Nat->Int->Int->Nat->LA->O R
|0=>fun _ _ _ _=>none
|n+1=>Fv N r0 f a b c d g h i (Dq r0 f a b c d g h i n)
def Ip(r0:LA->Int->O R)(f:Int)(a:LA)(b:Nat)(c d:Bool)(g:Lu)(q1:Nat->LA->Int->Int->Nat->LA->O R)(r:Int)(h:Nat)(i:LA):O R:=(Af N 2 a b c d r fun ae v=>cond (ae==1) (q1 h i 0 v 0 []) (r0 [.str g,.imm (i.take (h*1)) h 1 false false,.bool false,.imm [] 0 3 false false] v))
def Dr(r0:LA->Int->O R)(f:Int)(a:LA)(b:Nat)(c d:Bool)(g:Lu)(r:Int)(h:Nat)(i:LA):O R:=Ip N r0 f a b c d g (fun h i=>Dq N r0 f a b c d g h i N) r h i
def Gq(r0:LA->Int->O R)(q0:Lu->Int->Nat->LA->O R)(l j f:Int)(a:LA)(b:Nat)(c d:Bool)(m:Int):O R:=(DP N ([111]:Lu) l fun g=>Af N j a b c d m fun t af=>Af N j a b c d af fun w x=>cond ((decide (w>t))==true) (Af N 3 a b c d x fun ag y=>cond (cond true (ag==2) false) (q0 g y 2 [.int .i64 t,.int .i64 w]) (q0 g y 1 [.int .i64 t])) (q0 g x 1 [.int .i64 t]))
def Le:=(Ak fun N l j f a b c d m r0=>Gq (R:=R) N r0 (fun g=>Dr N r0 f a b c d g) l j f a b c d m).1
def Iq(l j f a b c d m r0):(@Le R N l j f a b c d m r0)=(Gq N r0 (fun g=>Dr N r0 f a b c d g) l j f a b c d m):=by rw[Le,(Ak _).2]
def Yf:Hints:={H:=hK 2 (hJ [0,3,8,9] hL (hS (hK 1 (hS (hK 2 (hS (hP [0,3,8,9,11] hL) hL)) hL)) hL)),modes:=[(3,0)],cob:=[18]}
def A_:U6:=[MK N,Hz N]
def Yg(F:KF R):=L7 Tryz.f94 Yf (A_ N) [100000] N F
def TD(f:Int)(a:LA)(b:Nat)(c d:Bool)(g:Lu)(h:Nat)(i:LA)(K:St->O R):=fun p s o q=>K ⟨[(0,.optr 100000 0),(3,iv f),(8,op 0),(9,op 1),(11,iv p)],[(100000,bN 0 [.imm a b 1 c d,iv s]),(300000,bN 0 [.str ([]:Lu),.nsl,.bool false,.nsl]),(300001,bN 0 [.str g,Aqb 2 h,.bool true,Aqb 3 o]),(300002,bQ 1 i),(300003,bQ 3 q)]⟩
def TE(f:Int)(a:LA)(b:Nat)(c d:Bool)(g:Lu)(K:St->O R):=fun r h i=>K ⟨[(0,.optr 100000 0),(3,iv f),(8,op 0),(9,op 1)],[(100000,bN 0 [.imm a b 1 c d,iv r]),(300000,bN 0 [.str ([]:Lu),.nsl,.bool false,.nsl]),(300001,bN 0 [.str g,Aqb 2 h,.bool false,Aqb 3 0]),(300002,bQ 1 i),(300003,bQ 3 [])]⟩
def JG(F:KF R)(f a b c d g h i):∀ n,TD f a b c d g h i (As (Yg N F (pz 348436) []) n)=(Dq N (dQ a b c d F) f a b c d g h i n):=Gu fun n e=>(Cg (Fv N (dQ a b c d F) f a b c d g h i) e:_)
def JH(F:KF R)(f a b c d g):TE f a b c d g (Bc (Yg N F (pz 85) []))=(Dr N (dQ a b c d F) f a b c d g):=(Cg (Ip N (dQ a b c d F) f a b c d g) (oE fun h i=>(lW ..).trans (JG ..)):_)
def XS:=Ce N 94 (A_ N) Yf (fun
|[.optr 100000 0,.int .i64 l,.int .i64 j,.int .i64 f],[(100000,⟨false,false,false,false,0,[.imm a b 1 c d,.int .i64 m],false,none⟩)]=>some fun _ k=>Le N l j f a b c d m (dQ a b c d k)
| _,_=>none) fun _ _=>by split;rename_i l j f a b c d m;intro R F;exact(Cg (Gq N (dQ a b c d F) · l j f a b c d m) (wg fun g=>(jW ..).trans (JH ..)):_).trans (Iq ..).symm;trivial
def No(N:Nat)(r0:Bool->O R)(c d:Int)(b:LA)(a:Nat)(f g:Bool)(k0:Int->O R)(h:Int):O R:=(cond (decide (h<(a:Int))) (cond (Ah h a) (Au .i64 (b.drop (h.toNat*1)) fun i=>cond ((decide (i<c))==false) (cond (Ah h a) (Au .i64 (b.drop (h.toNat*1)) fun j=>cond (cond false true (decide (j>d))) (r0 false) (k0 (wrap .i64 (h+1)))) none) (r0 false)) none) (r0 true))
def Fw(r0:Bool->O R)(c d:Int)(b:LA)(a:Nat)(f g:Bool):Nat->Int->O R
|0=>fun _=>none
|n+1=>No N r0 c d b a f g (Fw r0 c d b a f g n)
def Vc(N:Nat)(r0:Bool->O R)(q0:Int->O R)(c d:Int)(b:LA)(a:Nat)(f g:Bool):O R:=(q0 0)
def Aq:=(Ak fun N c d b a f g r0=>Vc (R:=R) N r0 (Fw N r0 c d b a f g N) c d b a f g).1
def GK(c d b a f g r0):(@Aq R N c d b a f g r0)=(Vc N r0 (Fw N r0 c d b a f g N) c d b a f g):=by rw[Aq,(Ak _).2]
def JI:Hints:={H:=hK 1 (hS (hK 1 (hS (hP [0,1,2,7] hL) hL)) hL)}
def gT(F:KF R):=L7 Tryz.f156 JI [] [] N F
def gU(c d:Int)(b:LA)(a:Nat)(f g:Bool)(K:St->O R):=fun h=>K ⟨[(0,iv c),(1,iv d),(2,.imm b a 1 f g),(7,iv h)],[]⟩
def TF(F:KF R)(c d b a f g):∀ n,gU c d b a f g (As (gT N F (pz 324) []) n)=(Fw N (Cm F) c d b a f g n):=Gu fun n e=>(Cg (No N (Cm F) c d b a f g) e:_)
def C3:=Ce N 156 [] JI (fun
|[.int .i64 c,.int .i64 d,.imm b a 1 f g],[]=>some fun _ k=>Aq N c d b a f g (Cm k)
| _,_=>none) fun _ _=>by split;intro R F;exact(Cg (Vc N (Cm F) · _ _ _ _ _ _) ((lW ..).trans (TF ..)):_).trans (GK ..).symm;trivial
def Hp(N:Nat)(r0:LA->O R)(b c d e:Int)(a:LA)(g:Bool):O R:=(cond g (cond ((beq 3 3)&&((ble 3 a.length)&&(!false))) (cond ((beq 1 1)&&((ble 4 ((C8 a 0 [.int .i64 b,.int .i64 c,.int .i64 d]).length))&&(!false))) (r0 ((C8 a 0 [.int .i64 b,.int .i64 c,.int .i64 d]).set 3 (.int .i64 e))) none) none) (r0 a))
def Ko(N:Nat)(r0:LA->O R)(q0:Bool->O R)(f:Bool)(b c d e:Int)(a:LA):O R:=(Au .i64 (a.drop 3) fun h=>cond ((h==0)==true) (q0 (cond true (!f) false)) (q0 false))
def Aa:=(Ak fun N f b c d e a r0=>Ko (R:=R) N r0 (Hp N r0 b c d e a) f b c d e a).1
def Tb(f b c d e a r0):(@Aa R N f b c d e a r0)=(Ko N r0 (Hp N r0 b c d e a) f b c d e a):=by rw[Aa,(Ak _).2]
def Ub:Hints:={H:=hJ [0,2,3,4,5,20] hL hL}
def NF(F:KF R):=L7 Tryz.f155 Ub [] [100000] N F
def NG(b c d e:Int)(a:LA)(K:St->O R):=fun g=>K ⟨[(0,.optr 100000 0),(2,iv b),(3,iv c),(4,iv d),(5,iv e),(20,.bool g)],[(100000,bQ 0 a)]⟩
def DQ(F:KF R)(b c d e a):NG b c d e a (Bc (NF N F (pz 5) []))=(Hp N (Gw F) b c d e a):=by kernel_rfl
def Be:=Ce N 155 [] Ub (fun
|[.optr 100000 0,.bool f,.int .i64 b,.int .i64 c,.int .i64 d,.int .i64 e],[(100000,⟨false,false,true,false,0,a,false,none⟩)]=>some fun _ k=>Aa N f b c d e a (Gw k)
| _,_=>none) fun _ _=>by split;intro R F;exact(Cg (Ko N (Gw F) · _ _ _ _ _ _) ((jW ..).trans (DQ ..)):_).trans (Tb ..).symm;trivial
def Mx(e:LA)(l:Bool)(f:LA)(a:Nat)(m g:Bool)(h i b c d:Int)(j:LA)(r0:LA->O R):O R:=(Au .i64 e fun n=>Aa N ((a:Int)==n) b c d 4 j fun o=>Aq N h i f a false g fun p=>Aa N p b c d 3 o fun q=>r0 q)
def Ck:=(Ak (@Mx R)).1
def Pf:@Ck R=@Mx R:=(Ak _).2
def Lf:=Ce N 154 [Be N,C3 N] Eg (fun
|[.optr 100000 0,.pagg e l,.imm f a 1 m g,.int .i64 h,.int .i64 i,.int .i64 b,.int .i64 c,.int .i64 d],[(100000,⟨false,false,true,false,0,j,false,none⟩)]=>some fun _ k=>Ck N e l f a m g h i b c d j (Gw k)
| _,_=>none) fun _ _=>by split;intro R F;dsimp only;rw[Pf];kernel_rfl;trivial
def Sa(N:Nat)(r0:Nat->LA->O R)(b:Bool)(a:LA)(k0:Nat->Int->LA->O R)(d:Nat)(l:Int)(s:LA):O R:=(Bv 3 (a.drop 2) fun ay y=>cond (decide (l<(y:Int))) (Bv 3 (a.drop 2) fun z aa=>cond (Ah l aa) (pn (z.drop (l.toNat*3)) fun ab=>cond ((ble (d+1) 140737488355328)&&(ble ((d+1)*16) 140737488355328)) (k0 (d+1) (wrap .i64 (l+1)) ((s.take (d*1))++[.str ab])) none) none) (r0 d s))
def Ir(r0:Nat->LA->O R)(b:Bool)(a:LA):Nat->Nat->Int->LA->O R
|0=>fun _ _ _=>none
|n+1=>Sa N r0 b a (Ir r0 b a n)
def Sb(N:Nat)(r0:Nat->LA->O R)(b:Bool)(a:LA)(k1:Nat->Int->LA->O R)(f:Nat)(m:Int)(t:LA):O R:=(Bv 12 (a.drop 3) fun az ac=>cond (decide (m<(ac:Int))) (Bv 12 (a.drop 3) fun ad ae=>cond (Ah m ae) (pn (ad.drop (m.toNat*12)) fun af=>cond ((ble (f+1) 140737488355328)&&(ble ((f+1)*16) 140737488355328)) (k1 (f+1) (wrap .i64 (m+1)) ((t.take (f*1))++[.str af])) none) none) (r0 f t))
def Is(r0:Nat->LA->O R)(b:Bool)(a:LA):Nat->Nat->Int->LA->O R
|0=>fun _ _ _=>none
|n+1=>Sb N r0 b a (Is r0 b a n)
def Sc(N:Nat)(r0:Nat->LA->O R)(b:Bool)(a:LA)(k2:Nat->Int->LA->O R)(g:Nat)(o:Int)(u:LA):O R:=(Bv 22 (a.drop 4) fun ba ag=>cond (decide (o<(ag:Int))) (Bv 22 (a.drop 4) fun ah ai=>cond (Ah o ai) (pn (ah.drop (o.toNat*22)) fun aj=>cond ((ble (g+1) 140737488355328)&&(ble ((g+1)*16) 140737488355328)) (k2 (g+1) (wrap .i64 (o+1)) ((u.take (g*1))++[.str aj])) none) none) (r0 g u))
def It(r0:Nat->LA->O R)(b:Bool)(a:LA):Nat->Nat->Int->LA->O R
|0=>fun _ _ _=>none
|n+1=>Sc N r0 b a (It r0 b a n)
def Sd(N:Nat)(r0:Nat->LA->O R)(b:Bool)(a:LA)(k3:Nat->Int->LA->O R)(h:Nat)(p:Int)(v:LA):O R:=(Bv 9 (a.drop 5) fun bb ak=>cond (decide (p<(ak:Int))) (Bv 9 (a.drop 5) fun al am=>cond (Ah p am) (pn (al.drop (p.toNat*9)) fun an=>cond ((ble (h+1) 140737488355328)&&(ble ((h+1)*16) 140737488355328)) (k3 (h+1) (wrap .i64 (p+1)) ((v.take (h*1))++[.str an])) none) none) (r0 h v))
def Iu(r0:Nat->LA->O R)(b:Bool)(a:LA):Nat->Nat->Int->LA->O R
|0=>fun _ _ _=>none
|n+1=>Sd N r0 b a (Iu r0 b a n)
def Se(N:Nat)(r0:Nat->LA->O R)(b:Bool)(a:LA)(k4:Nat->Int->LA->O R)(i:Nat)(q:Int)(w:LA):O R:=(Bv 5 (a.drop 6) fun bc ao=>cond (decide (q<(ao:Int))) (Bv 5 (a.drop 6) fun ap aq=>cond (Ah q aq) (pn (ap.drop (q.toNat*5)) fun ar=>cond ((ble (i+1) 140737488355328)&&(ble ((i+1)*16) 140737488355328)) (k4 (i+1) (wrap .i64 (q+1)) ((w.take (i*1))++[.str ar])) none) none) (r0 i w))
def Iv(r0:Nat->LA->O R)(b:Bool)(a:LA):Nat->Nat->Int->LA->O R
|0=>fun _ _ _=>none
|n+1=>Se N r0 b a (Iv r0 b a n)
def Sf(N:Nat)(r0:Nat->LA->O R)(b:Bool)(a:LA)(k5:Nat->Int->LA->O R)(j:Nat)(r:Int)(x:LA):O R:=(Bv 4 (a.drop 7) fun bd au=>cond (decide (r<(au:Int))) (Bv 4 (a.drop 7) fun av aw=>cond (Ah r aw) (pn (av.drop (r.toNat*4)) fun ax=>cond ((ble (j+1) 140737488355328)&&(ble ((j+1)*16) 140737488355328)) (k5 (j+1) (wrap .i64 (r+1)) ((x.take (j*1))++[.str ax])) none) none) (r0 j x))
def Iw(r0:Nat->LA->O R)(b:Bool)(a:LA):Nat->Nat->Int->LA->O R
|0=>fun _ _ _=>none
|n+1=>Sf N r0 b a (Iw r0 b a n)
def Ix(N:Nat)(r0:Nat->LA->O R)(q0:Nat->Int->LA->O R)(q1:Nat->Int->LA->O R)(q2:Nat->Int->LA->O R)(q3:Nat->Int->LA->O R)(q4:Nat->Int->LA->O R)(q5:Nat->Int->LA->O R)(a:LA)(b:Bool)(c:Int):O R:=(cond (c==1) (q0 0 0 []) (cond (c==2) (q1 0 0 []) (cond (c==3) (q2 0 0 []) (cond (c==4) (q3 0 0 []) (cond (c==5) (q4 0 0 []) (cond (c==6) (q5 0 0 []) (r0 0 [])))))))
def Gr:=(Ak fun N a b c r0=>Ix (R:=R) N r0 (Ir N r0 b a N) (Is N r0 b a N) (It N r0 b a N) (Iu N r0 b a N) (Iv N r0 b a N) (Iw N r0 b a N) a b c).1
def Hf(a b c r0):(@Gr R N a b c r0)=(Ix N r0 (Ir N r0 b a N) (Is N r0 b a N) (It N r0 b a N) (Iu N r0 b a N) (Iv N r0 b a N) (Iw N r0 b a N) a b c):=by rw[Gr,(Ak _).2]
def TG:Hints:={H:=hK 2 (hS (hK 1 (hS (hK 1 (hS (hK 1 (hS (hP [2,5,6] hL) hL)) (hK 1 (hS (hK 1 (hS (hP [2,5,7] hL) hL)) (hK 1 (hS (hK 1 (hS (hP [2,5,8] hL) hL)) (hK 1 (hS (hK 1 (hS (hP [2,5,9] hL) hL)) (hK 1 (hS (hK 1 (hS (hP [2,5,10] hL) hL)) (hK 1 (hS (hK 1 (hS (hP [2,5,11] hL) hL)) hL)))))))))))) hL)) hL),nils:=[(4,1),(5,1)],modes:=[(2,1)]}
def Mm(F:KF R):=L7 Tryz.f199 TG [] [] N F
def oW(b:Bool)(a:LA)(K:St->O R):=fun d l s=>K ⟨[(2,op 0),(5,Aqb 1 d),(6,iv l)],hq [bP b 0 a,bQ 1 s]⟩
def oX(b:Bool)(a:LA)(K:St->O R):=fun f m t=>K ⟨[(2,op 0),(5,Aqb 1 f),(7,iv m)],hq [bP b 0 a,bQ 1 t]⟩
def oY(b:Bool)(a:LA)(K:St->O R):=fun g o u=>K ⟨[(2,op 0),(5,Aqb 1 g),(8,iv o)],hq [bP b 0 a,bQ 1 u]⟩
def oZ(b:Bool)(a:LA)(K:St->O R):=fun h p v=>K ⟨[(2,op 0),(5,Aqb 1 h),(9,iv p)],hq [bP b 0 a,bQ 1 v]⟩
def o0(b:Bool)(a:LA)(K:St->O R):=fun i q w=>K ⟨[(2,op 0),(5,Aqb 1 i),(10,iv q)],hq [bP b 0 a,bQ 1 w]⟩
def o7(b:Bool)(a:LA)(K:St->O R):=fun j r x=>K ⟨[(2,op 0),(5,Aqb 1 j),(11,iv r)],hq [bP b 0 a,bQ 1 x]⟩
def dm(F:KF R)(b a):∀ n,oW b a (As (Mm N F (pz 345156) []) n)=(Ir N (B9 F) b a n):=Gu fun n e=>(Cg (Sa N (B9 F) b a) e:_)
def dn(F:KF R)(b a):∀ n,oX b a (As (Mm N F (pz 5522756) []) n)=(Is N (B9 F) b a n):=Gu fun n e=>(Cg (Sb N (B9 F) b a) e:_)
def dp(F:KF R)(b a):∀ n,oY b a (As (Mm N F (pz 88364356) []) n)=(It N (B9 F) b a n):=Gu fun n e=>(Cg (Sc N (B9 F) b a) e:_)
def dq(F:KF R)(b a):∀ n,oZ b a (As (Mm N F (pz 1413829956) []) n)=(Iu N (B9 F) b a n):=Gu fun n e=>(Cg (Sd N (B9 F) b a) e:_)
def dt(F:KF R)(b a):∀ n,o0 b a (As (Mm N F (pz 22621279556) []) n)=(Iv N (B9 F) b a n):=Gu fun n e=>(Cg (Se N (B9 F) b a) e:_)
def du(F:KF R)(b a):∀ n,o7 b a (As (Mm N F (pz 361940473156) []) n)=(Iw N (B9 F) b a n):=Gu fun n e=>(Cg (Sf N (B9 F) b a) e:_)
def bE:=Ce N 199 [] TG (fun
|[.pagg a b,.int .i64 c],[]=>some fun _ k=>Gr N a b c (B9 k)
| _,_=>none) fun _ _=>by split;intro R F;exact(Agp (Ix N (B9 F) · · · · · · _ _ _) ((lW ..).trans (dm ..)) ((lW ..).trans (dn ..)) ((lW ..).trans (dp ..)) ((lW ..).trans (dq ..)) ((lW ..).trans (dt ..)) ((lW ..).trans (du ..)):_).trans (Hf ..).symm;trivial
def XT(N:Nat)(a:Int)(r0:Int->O R):O R:=(cond (Ah a 7) (Au .i64 (drop (0+(a.toNat*1)) [Aqc,.int .i64 32,.int .i64 64,.int .i64 16,.int .i64 8,.int .i64 8,.int .i64 64]) fun b=>r0 b) none)
def Pg:=(Ak (@XT R)).1
def TH:@Pg R=@XT R:=(Ak _).2
def ti:=Ce N 200 [] Eg (fun
|[.int .i64 a],[]=>some fun _ k=>Pg N a (Gv k)
| _,_=>none) fun _ _=>by split;intro R F;dsimp only;rw[TH];kernel_rfl;trivial
def Bq(r0:LA->O R)(b:Bool)(a:LA)(k0:Int->LA->O R)(d:Int)(f:LA):O R:=(cond (decide (d<=6)) (cond (ble 8 a.length) (Gr N (a.take 8) b d fun g u=>Pg N d fun h=>Aa N (decide ((g:Int)<=h)) 0 0 (wrap .i64 (d+1)) 8 f fun i=>k0 (wrap .i64 (d+1)) i) none) (r0 f))
def A5(r0:LA->O R)(b:Bool)(a:LA):Nat->Int->LA->O R
|0=>fun _ _=>none
|n+1=>Bq N r0 b a (A5 r0 b a n)
def Iy(r0:LA->O R)(q0:Int->LA->O R)(a:LA)(b:Bool)(c:LA):O R:=(Au .i64 a fun j=>Aq N 1 24 [.int .i64 j] 1 false true fun l=>Aa N l 0 0 0 3 c fun m=>cond (ble 8 a.length) (Bv 1 (a.drop 1) fun o p=>Ck N (a.take 8) b o p false b 0 1048576 0 0 1 m fun q=>Bv 3 (a.drop 2) fun v r=>Aq N 1 32 [.int .i64 (r:Int)] 1 false true fun s=>Aa N s 0 0 2 8 q fun t=>q0 2 t) none)
def Gz:=(Ak fun N a b c r0=>Iy (R:=R) N r0 (A5 N r0 b a N) a b c).1
def P8(a b c r0):(@Gz R N a b c r0)=(Iy N r0 (A5 N r0 b a N) a b c):=by rw[Gz,(Ak _).2]
def Tc:Hints:={H:=hK 5 (hS (hP [0,3,4] hL) hL)}
def Uc:U6:=[C3 N,Be N,Lf N,bE N,ti N]
def JJ(F:KF R):=L7 Tryz.f152 Tc (Uc N) [100000] N F
def JK(b:Bool)(a:LA)(K:St->O R):=fun d f=>K ⟨[(0,.optr 100000 0),(3,op 0),(4,iv d)],[(100000,bQ 0 f),(300000,bP b 0 a)]⟩
def BA(F:KF R)(b a):∀ n,JK b a (As (JJ N F (pz 5460) []) n)=(A5 N (Gw F) b a n):=Gu fun n e=>(Cg (Bq N (Gw F) b a) e:_)
def NH:=Ce N 152 (Uc N) Tc (fun
|[.optr 100000 0,.pagg a b],[(100000,⟨false,false,true,false,0,c,false,none⟩)]=>some fun _ k=>Gz N a b c (Gw k)
| _,_=>none) fun _ _=>by split;intro R F;exact(Cg (Iy N (Gw F) · _ _ _) ((lW ..).trans (BA ..)):_).trans (P8 ..).symm;trivial
end
end Gx
