/- A part of the proof; each theorem says what it holds. -/
import Derived.Laws.StructEq
import Derived.ChangeKeysEq
import Derived.MapKept
import Derived.Scope
import Derived.IntWalk
import Derived.ProofKit
import Derived.OpenShut
import Derived.ChangeOld
import Derived.Below
import Derived.Lib.LaidTab
import Derived.Test.YtihjnfhdmgipmaaGreatProg
import Derived.Test.YtihjnfhdmgipmaaGreatP0
set_option linter.unusedVariables false
set_option linter.defProp false
set_option linter.unusedSimpArgs false
open Nat (ble beq)
open List (take drop replicate)
open Go.IntKind (wrap)
namespace Gx
open Go
section
variable{R:Type}{r:R}{P:Program}{J:Bool->Nat->Prop}{β:Bt}{h:Ap}{w:World}
def PRd(n:Nat)(x:LA)(rd:Nat->Option Value):Prop:=∀ j q,j<n->x[j]?=some q ->
 (∀ k m,q=.int k m->rd j=some (.int k m))/\(∀ b,q=.bool b->rd j=some (.bool b))/\(∀ s,q=.str s->rd j=some (.string ⟨⟨s⟩⟩))
def PRd.drop{n m o:Nat}{x:LA}{xs:Array Value}{ox sz:Nat}(G:PRd sz x (fun j=>xs[ox+j]?))(ho:o+m<=sz)(I:n=m):PRd n (x.drop o) (fun j=>(xs.extract ox (ox+sz))[o+j]?):=by
 subst I
 intro j q hj hq
 rw[zk]at hq
 have C:=G (o+j) q (by omega) hq
 have e:∀ v,xs[ox+(o+j)]?=some v->(xs.extract ox (ox+sz))[o+j]?=some v:=by
  intro v D
  have L:=(Aao.1 D).1
  rw[Array.getElem?_extract,if_pos (by omega)];exact D
 exact⟨fun k m T=>e _ (C.1 k m T),fun b Y=>e _ (C.2.1 b Y),fun s hs=>e _ (C.2.2 s hs)⟩
def Q6{t:TypeId}{d:TypeDesc}{xs:Array Value}{ox:Nat}{v:Value}(k:P.underlying t=some d)(C:d.isRow=false)(D:xs[ox]?=some v):(part t xs ox).run P w=.ok v w:=by
 unfold part isAgg
 simp only[Sem.run_bind,run_underlying k,Result.andThen_ok]
 cases d<;>simp_all[TypeDesc.isRow]
def V0{t:TypeId}{d:TypeDesc}{xs:Array Value}{ox s:Nat}(k:P.underlying t=some d)(C:d.isRow=true)(hs:A9 P t=some s):(part t xs ox).run P w=.ok (.agg (xs.extract ox (ox+s))) w:=by
 unfold part isAgg
 have:=Bw hs w
 simp only[Sem.run_bind,run_underlying k,Result.andThen_ok]
 cases d<;>simp_all[TypeDesc.isRow]
def ki(P:Program)(w:World)(D:Nat)(step:TypeId->LA->LA->(Bool->O R)->O R):Prop :=
 ∀(r:R)(t:TypeId)(s:Nat)(x y:LA)(k:Bool->O R)(xs ys:Array Value)(ox oy:Nat),A9 P t=some s->0<s->step t x y k=some r->PRd s x (fun j=>xs[ox+j]?)->PRd s y (fun j=>ys[oy+j]?) ->
  ∃ b a a',k b=some r/\(part t xs ox).run P w=.ok a w/\(part t ys oy).run P w=.ok a' w/\(Op.equalIn D t a a').run P w=.ok b w
def Zp{D:Nat}{step:TypeId->LA->LA->(Bool->O R)->O R}(hs:ki P w D step){x y:LA}{xs ys:Array Value}{ox oy sz:Nat}(T:PRd sz x (fun j=>xs[ox+j]?))(Y:PRd sz y (fun j=>ys[oy+j]?)):
  ∀(fs:List Field){k:Bool->O R},fs.all (d_ P sz)=true->Vs step x y (fs.map fun f=>(f.offset,f.type)) k=some r ->
  ∃ b,k b=some r/\(Op.eqFields D (xs.extract ox (ox+sz)) (ys.extract oy (oy+sz)) fs).run P w=.ok b w
|[],k,_,hh=>⟨true,by simpa[Vs]using hh,by simp[Op.eqFields]⟩
| f::fs,k,L,hh=>by
  rw[Ad5,zJ]at L
  obtain⟨I,L⟩:=L
  unfold d_ at I
  cases C:A9 P f.type with
  |none=>rw[C]at I;simp at I
  |some s =>
   rw[C]at I
   simp only[zJ,zo]at I
   obtain⟨h1,h2,h3⟩:=I
   have G : f.name≠"_" := by simpa using h3
   rw[z_,Vs]at hh
   obtain⟨b,a,a',g1,g2,g3,g4⟩:=hs r f.type s _ _ _ (xs.extract ox (ox+sz)) (ys.extract oy (oy+sz)) f.offset f.offset C (by omega) hh (T.drop h2 rfl) (Y.drop h2 rfl)
   obtain⟨c,e1,e2⟩:=Zp hs T Y fs L g1
   refine⟨b&&c,e1,?_⟩
   rw[Op.eqFields,if_pos G]
   simp only[Sem.run_bind,g2,g3,g4,Result.andThen_ok]
   cases b with
   |false=>simp
   |true=>simpa using e2
def BL{D:Nat}{step:TypeId->LA->LA->(Bool->O R)->O R}(hs:ki P w D step){x y:LA}{xs ys:Array Value}{ox oy sz:Nat}{e:TypeId}{s:Nat}(C:A9 P e=some s)(G:0<s)(I:PRd sz x (fun j=>xs[ox+j]?))(L:PRd sz y (fun j=>ys[oy+j]?)):
  ∀(is:List Nat){k:Bool->O R},(∀ i∈is,i*s+s<=sz)->Vs step x y (is.map fun i=>(i*s,e)) k=some r ->
  ∃ b,k b=some r/\(Op.eqItems D e s (xs.extract ox (ox+sz)) (ys.extract oy (oy+sz)) is).run P w=.ok b w
|[],k,_,hh=>⟨true,by simpa[Vs]using hh,by simp[Op.eqItems]⟩
|i::is,k,T,hh=>by
  have Y:=T i (by simp)
  rw[z_,Vs]at hh
  obtain⟨b,a,a',g1,g2,g3,g4⟩:=hs r e s _ _ _ (xs.extract ox (ox+sz)) (ys.extract oy (oy+sz)) (i*s) (i*s) C G hh (I.drop Y rfl) (L.drop Y rfl)
  obtain⟨c,e1,e2⟩:=BL hs C G I L is (fun j hj=>T j (by simp[hj])) g1
  refine⟨b&&c,e1,?_⟩
  rw[Op.eqItems]
  simp only[Sem.run_bind,g2,g3,g4,Result.andThen_ok]
  cases b with
  |false=>simp
  |true=>simpa using e2
def HF:∀(d D:Nat),d<=D->ki P w D (SN (R:=R) P d)
|0,D,_=>fun r t s x y k xs ys ox oy hs G hh=>by simp[SN]at hh
| d+1,D,hD=>fun r t s x y k xs ys ox oy hs G hh hx hy=>by
  obtain⟨D,rfl⟩:∃ D',D=D'+1:=⟨D - 1,by omega⟩
  rw[SN]at hh
  split at hh
  ·rename_i kd C
   obtain⟨u,L,hh⟩:=ub hh
   obtain⟨a,Y,hh⟩:=ub hh
   obtain⟨v,T,hh⟩:=ub hh
   obtain⟨b,hb,hh⟩:=ub hh
   have ea:u=.int kd a:=by
    unfold FH at Y;split at Y
    ·obtain⟨hk,ha'⟩:=uc Y;simp[G9]at hk ha';subst hk ha';rfl
    ·simp at Y
   have eb:v=.int kd b:=by
    unfold FH at hb;split at hb
    ·obtain⟨hk,hb'⟩:=uc hb;simp[G9]at hk hb';subst hk hb';rfl
    ·simp at hb
   have px:=(hx 0 u G (by rw[<-zj];exact L)).1 kd a ea
   have py:=(hy 0 v G (by rw[<-zj];exact T)).1 kd b eb
   exact⟨_,_,_,hh,Q6 C rfl (by simpa using px),Q6 C rfl (by simpa using py),run_equalIn_int w D t kd kd a b C⟩
  ·rename_i C
   obtain⟨u,L,hh⟩:=ub hh
   obtain⟨a,Y,hh⟩:=ub hh
   obtain⟨v,T,hh⟩:=ub hh
   obtain⟨b,hb,hh⟩:=ub hh
   have ea:u=.bool a:=by unfold asBool at Y;split at Y<;>simp_all
   have eb:v=.bool b:=by unfold asBool at hb;split at hb<;>simp_all
   have px:=(hx 0 u G (by rw[<-zj];exact L)).2.1 a ea
   have py:=(hy 0 v G (by rw[<-zj];exact T)).2.1 b eb
   exact⟨_,_,_,hh,Q6 C rfl (by simpa using px),Q6 C rfl (by simpa using py),run_equalIn_bool' w D t a b C⟩
  ·rename_i C
   obtain⟨u,L,hh⟩:=ub hh
   obtain⟨a,Y,hh⟩:=ub hh
   obtain⟨v,T,hh⟩:=ub hh
   obtain⟨b,hb,hh⟩:=ub hh
   have ea:u=.str a:=by unfold UM at Y;split at Y<;>simp_all
   have eb:v=.str b:=by unfold UM at hb;split at hb<;>simp_all
   have px:=(hx 0 u G (by rw[<-zj];exact L)).2.2 a ea
   have py:=(hy 0 v G (by rw[<-zj];exact T)).2.2 b eb
   refine⟨_,_,_,hh,Q6 C rfl (by simpa using px),Q6 C rfl (by simpa using py),?_⟩
   have:=run_equalIn_string w D t ⟨⟨a⟩⟩ ⟨⟨b⟩⟩ C
   rw[this]
   simp[ByteArray.toList_eq]
  ·rename_i fs C
   obtain⟨sz,I,hh⟩:=ub hh
   obtain⟨hc,hh2⟩:=kO hh
   simp only[Bool.or_eq_false_iff,Bool.not_eq_false']at hc
   rw[hs]at I;simp at I;subst I
   obtain⟨b,h1,h2⟩:=Zp (HF d D (by omega)) hx hy fs.toList hc.2 hh2
   refine⟨b,_,_,h1,V0 C rfl hs,V0 C rfl hs,?_⟩
   have hfo:P.fieldsOf t=fs:=by simp[Program.fieldsOf,C]
   rw[run_equalIn_struct w D t _ _ (by rw[hfo];exact C) hc.1,hfo]
   exact h2
  ·rename_i n e C
   obtain⟨s',hse,hh⟩:=ub hh
   obtain⟨sz,I,hh⟩:=ub hh
   obtain⟨hc,hh2⟩:=uc hh
   simp only[zJ,zo]at hc
   rw[hs]at I;simp at I;subst I
   obtain⟨b,h1,h2⟩:=BL (HF d D (by omega)) hse (by omega) hx hy (List.range n) (fun i hi=>by
    have:=List.mem_range.1 hi
    have h3:(i+1)*s'<=n*s':=zI _ this
    rw[Afd] at h3;omega) hh2
   refine⟨b,_,_,h1,V0 C rfl hs,V0 C rfl hs,?_⟩
   cases hi:P.info? e with
   |none=>simp[A9,hi]at hse
   |some i =>
    have hcell:P.cellsOf e=s':=by simp[A9,hi]at hse;simp[Program.cellsOf,hi,hse]
    rw[run_equalIn_array w D _ _ C hi,hcell]
    exact h2
  ·simp at hh
def iP{c:LA}{org:Bool}{v:Value}{a:LA}{x:AV}(G:eA x=some a)(L:Rep J β h w x v):∃ cs:List Value,v=.agg ⟨cs⟩/\cs.length=a.length/\∀ n,PRd n a (fun j=>(⟨cs⟩:Array Value)[0+j]?):=by
 unfold eA at G
 split at G
 ·simp at G;subst G
  rw[Rep]at L
  obtain⟨cs,Y,I,h3⟩:=L
  refine⟨cs,Y,I,fun n j q _ hq=>?_⟩
  rw[Bh]at h3
  obtain⟨u,T,C⟩:=h3 j q hq
  simp only[zU]at T ⊢
  refine⟨fun k m hk=>?_,fun b hb=>?_,fun s hs=>?_⟩
  ·subst hk;rw[RepC]at C;subst C;simpa using T
  ·subst hb;rw[RepC]at C;subst C;simpa using T
  ·subst hs;rw[RepC]at C;subst C;simpa using T
 ·simp at G;subst G
  rw[Rep]at L
  obtain⟨cs,Y,I⟩:=L
  rw[Bq]at I
  refine⟨cs,Y,I.1,fun n j q _ hq=>?_⟩
  have D:j<cs.length:=by rw[I.1];exact(zK.1 hq).1
  have C:=I.2 j q cs[j] hq (zD D)
  simp only[zU]
  refine⟨fun k m hk=>?_,fun b hb=>?_,fun s hs=>?_⟩
  ·subst hk;rw[Rep]at C;simp[D,C]
  ·subst hb;rw[Rep]at C;simp[D,C]
  ·subst hs;rw[Rep]at C;simp[D,C]
 ·simp at G
def iQ{op:BinOp}{t:TypeId}{x y:AV}{k:AV->O R}{vx vy:Value}(hh:bH P t op x y k=some r)(T:Rep J β h w x vx)(Y:Rep J β h w y vy)(ox oy:Operand):
  ∃ v vc,k v=some r/\(do eqGuard op t ox oy vx vy;binOp op t vx vy:Sem Value).run P w=.ok vc w/\Rep J β h w v vc:=by
 unfold bH at hh
 split at hh
 ·rename_i a b ha hb
  obtain⟨s,hs,hh⟩:=ub hh
  obtain⟨hc,hh⟩:=uc hh
  simp only[zJ,zo,Adx]at hc
  obtain⟨h1,h2,h3,D,h4⟩:=hc
  have h2:=zM h2
  have h3:=zM h3
  obtain⟨cs,rfl,hl,px⟩:=iP (c:=[]) (org:=false) ha T
  obtain⟨C,rfl,hl',py⟩:=iP (c:=[]) (org:=false) hb Y
  have hg:=run_eqGuard_agg w op t ox oy ⟨cs⟩ ⟨C⟩ h4
  have whole:∀(l:List Value),l.length=s->(⟨l⟩:Array Value).extract 0 (0+s)=⟨l⟩:=by
   intro l hl;subst hl;simp
  have key:∀{kk:Bool->O R},SN P 8 t a b kk=some r->∃ c,kk c=some r/\(Op.equal t (.agg ⟨cs⟩) (.agg ⟨C⟩)).run P w=.ok c w:=by
   intro kk hk
   obtain⟨c,u,u',e1,G,e3,e4⟩:=HF 8 10000 (by omega) r t s a b kk ⟨cs⟩ ⟨C⟩ 0 0 hs (by omega) hk (px s) (py s)
   refine⟨c,e1,?_⟩
   have L:∃ d,P.underlying t=some d/\d.isRow=true:=by
    unfold pT at D
    split at D
    ·rename_i fs I;exact⟨_,I,rfl⟩
    ·rename_i n e I;exact⟨_,I,rfl⟩
    ·simp at D
   obtain⟨d,I,hd⟩:=L
   rw[V0 I hd hs,whole cs (by omega)]at G
   rw[V0 I hd hs,whole C (by omega)]at e3
   simp only[Result.ok.injEq,and_true]at G e3
   subst G e3
   exact e4
  split at hh
  ·obtain⟨c,e1,G⟩:=key hh
   refine⟨_,.bool c,e1,?_,by rw[Rep]⟩
   simp only[Sem.run_bind,hg,Result.andThen_ok,binOp,G,Sem.run_pure]
  ·obtain⟨c,e1,G⟩:=key hh
   refine⟨_,.bool (!c),e1,?_,by rw[Rep]⟩
   simp only[Sem.run_bind,hg,Result.andThen_ok,binOp,G,Sem.run_pure]
  ·simp at hh
 ·exact kX hh T Y ox oy
def iR{t:TypeId}{x y:AV}{b:Bool}{vx vy:Value}{g:A1}(S:SimH J β h w)(hl:Looks g h)(C:pY g x y=some b)(T:kV P t=true)(D:Rep J β h w x vx)(G:Rep J β h w y vy):
  ∃ p q,vx=.pointer p/\vy=.pointer q/\(Op.equal t (.pointer p) (.pointer q)).run P w=.ok b w:=by
 unfold kV at T
 split at T
 ·rename_i e Y
  split at T
  ·rename_i n hn
   have hn0:n≠0:=fun e=>by subst e;simp at T
   have Y:=run_underlying (w:=w) Y
   have hs:(Go.sizeOf e).run P w=.ok n w:=Bw hn w
   have nn:∀ q:Option Addr,(Op.equal t (.pointer none) (.pointer q)).run P w=.ok q.isNone w:=fun q=>by
    unfold Op.equal Op.maxDepth Op.equalIn;simp[Y]
   have nn':∀ a:Addr,(Op.equal t (.pointer (some a)) (.pointer none)).run P w=.ok false w:=fun q=>by
    unfold Op.equal Op.maxDepth Op.equalIn;simp[Y]
   unfold pY at C
   split at C
   ·simp only[Rep]at D G;subst D G;simp at C;subst C;exact⟨_,_,rfl,rfl,nn none⟩
   ·simp only[Rep]at D G;obtain⟨_,k,o,_,rfl,_⟩:=G;subst D;simp at C;subst C;exact⟨_,_,rfl,rfl,nn (some _)⟩
   ·simp only[Rep]at D G;obtain⟨_,k,o,_,rfl,_⟩:=D;subst G;simp at C;subst C;exact⟨_,_,rfl,rfl,nn' _⟩
   ·simp only[Rep]at D G;rw[RepC]at G;obtain⟨a,rfl,_⟩:=G;subst D;simp at C;subst C;exact⟨_,_,rfl,rfl,nn (some _)⟩
   ·simp only[Rep]at D G;rw[RepC]at D;obtain⟨a,rfl,_⟩:=D;subst G;simp at C;subst C;exact⟨_,_,rfl,rfl,nn' _⟩
   ·rename_i b1 o1 b2 o2
    obtain⟨z,hz,C⟩:=ub C
    obtain⟨hb,C⟩:=uc C
    have hb:=zM hb
    subst hb
    obtain⟨hz1,I⟩:=Cu hl hz
    rw[Rep]at D G
    obtain⟨x1,k1,p1,⟨g1,_⟩,rfl,h1⟩:=D
    obtain⟨x2,k2,p2,⟨g2,_⟩,rfl,L⟩:=G
    rw[hz1]at g1 g2;simp at g1 g2;subst g1 g2
    rcases h1 with h1|h1
    ·rw[h1]at I;cases I
    ·rcases L with L|L
     ·rw[L]at I;cases I
     ·rw[h1]at L;simp at L;obtain⟨rfl,rfl⟩:=L
      refine⟨_,_,rfl,rfl,?_⟩
      simp at C
      unfold Op.equal Op.maxDepth Op.equalIn
      simp[Y,hs,hn0,sameAddr]
      by_cases e:o1=o2
      ·subst e;simp at C;simp[C]
      ·rw[AK e]at C;subst C;simp;exact e
   ·cases C
  ·cases T
 ·cases T
def iS{g:A1}{op:BinOp}{t:TypeId}{x y:AV}{k:AV->O R}{vx vy:Value}(S:SimH J β h w)(I:Looks g h)(hh:bS P g t op x y k=some r)(C:Rep J β h w x vx)(D:Rep J β h w y vy)(ox oy:Operand):
  ∃ v vc,k v=some r/\(do eqGuard op t ox oy vx vy;binOp op t vx vy:Sem Value).run P w=.ok vc w/\Rep J β h w v vc:=by
 unfold bS at hh
 split at hh
 ·rename_i b L
  obtain⟨T,hh⟩:=uc hh
  obtain⟨p,q,rfl,rfl,G⟩:=iR S I L T C D
  split at hh
  ·refine⟨_,.bool b,hh,?_,by rw[Rep]⟩
   simp[eqGuard,binOp,G]
  ·refine⟨_,.bool (!b),hh,?_,by rw[Rep]⟩
   simp[eqGuard,binOp,G]
  ·cases hh
 ·exact iQ hh C D ox oy
end
end Gx
namespace Gx
open Go Go.MapKept
section
variable{R:Type}{r:R}{P:Program}{J:Bool->Nat->Prop}{β:Bt}{h:Ap}{w:World}{g:A1}
def NU:∀(l:List Int)(n:Int),UQ (l.map fun m=>.int .i64 m) n=true↔n∈l
|[],n=>by simp[UQ]
|m::r,n=>by
  rw[z_,UQ]
  by_cases e:n=m
  ·simp[e]
  ·simp[e,NU r n]
def iT{c:LA}{es:Array MapEntry}{l:List Int}(C:es.toList.map (fun e=>(e.key,e.val))=l.map (fun n=>((.int .i64 n:Value),(.bool true:Value)))){x:MapEntry}(D:x∈es.toList):∃ n,n∈l/\x.key=.int .i64 n/\x.val=.bool true:=by
 have:=Aez (f:=fun e:MapEntry=>(e.key,e.val)) D
 rw[C]at this
 obtain⟨n,G,k⟩:=zr.1 this
 simp at k
 exact⟨n,G,k.1.symm,k.2.symm⟩
def pi{es:Array MapEntry}{l:List Int}(C:es.toList.map (fun e=>(e.key,e.val))=l.map (fun n=>((.int .i64 n:Value),(.bool true:Value)))){n:Int}(D:n∈l):∃ x∈es.toList,x.key=.int .i64 n:=by
 have:=Aez (f:=fun n:Int=>((.int .i64 n:Value),(.bool true:Value))) D
 rw[<-C]at this
 obtain⟨x,G,k⟩:=zr.1 this
 simp at k
 exact⟨x,G,k.1⟩
def iU{c:LA}{es:Array MapEntry}(hm:uB c es)(n:Int):
  (UQ c n=false/\Instr.findNow (.int .i64) (.int .i64 n) es.toList 0=some none) \/
  (UQ c n=true/\∃ j e,Instr.findNow (.int .i64) (.int .i64 n) es.toList 0=some (some (j,.bool true))/\es[j]?=some e/\e.key=.int .i64 n/\e.val=.bool true):=by
 obtain⟨l,rfl,T⟩:=hm
 have Y:∀ x∈es.toList,IsKey (.int .i64) x.key:=fun x hx=>by
  obtain⟨m,_,D,_⟩:=iT (c:=[]) T hx
  rw[D];simp[IsKey]
 rcases findNow_spec (d:=.int .i64) (k:=.int .i64 n) (by simp[IsKey]) es.toList 0 Y with⟨D,L⟩|⟨j,e,D,L,h3⟩
 ·left
  refine⟨?_,D⟩
  cases hb:UQ (l.map fun m=>.int .i64 m) n with
  |false=>rfl
  |true =>
   obtain⟨x,hx,hk⟩:=pi T ((NU l n).1 hb)
   exact absurd hk (L x hx)
 ·right
  have G:e∈es.toList:=Aet L
  obtain⟨m,hm1,C,I⟩:=iT (c:=[]) T G
  rw[h3]at C;simp at C;subst C
  refine⟨(NU l n).2 hm1,j,e,?_,by simpa using L,h3,I⟩
  rw[D,I,zU]
def VB{t:TypeId}(hs:eJ P t=true):∃ kt et,P.underlying t=some (.map kt et)/\P.underlying kt=some (.int .i64)/\∀ w,(zeroValue et).run P w=.ok (.bool false) w:=by
 unfold eJ at hs
 split at hs
 ·rename_i kt et L
  simp only[zJ]at hs
  obtain⟨D,G⟩:=hs
  refine⟨kt,et,L,?_,fun w=>?_⟩
  ·split at D
   ·assumption
   ·cases D
  ·split at G
   ·rename_i k
    unfold JH at k
    cases hi:P.info? et with
    |none=>rw[hi]at k;simp at k
    | some i =>
     rw[hi]at k
     cases C:i.zero with
     |none=>simp[C]at k
     | some z =>
      simp[C]at k
      have:z=.bool false:=by
       have I:=Xi (J:=fun _ _=>False) (β:=fun _=>none) (h:=[]) (w:=w) z
       rw[k,Rep]at I;exact I
      subst this
      simp[zeroValue,typeInfo,hi,C]
   ·cases G
 ·cases hs
def pj{b:Nat}{x:Blk}{v:Value}(S:SimH J β h w)(I:Ah h b=some x)(L:x.dead=false)(C:Rep J β h w (.omap b) v):
  ∃ k ob,x.mp=true/\β b=some (k,0)/\v=vY x.sz k/\w.heap[k]?=some ob/\ObjIs x ob/\x.sealed=false/\x.pure=true:=by
 rw[Rep]at C
 obtain⟨y,k,⟨D,T⟩,C⟩:=C
 rw[I]at D;simp at D;subst D
 rcases C with C|⟨Y,hv⟩
 ·simp[L]at C
 ·obtain⟨h1,h2,k',ob,G,h4,h5,_⟩:=S.mblk b x I L T
  rw[Y]at G;simp at G;subst G
  exact⟨k,ob,T,Y,hv,h4,h5,h2,h1⟩
def mW{b:Nat}{x:Blk}{v:Value}(S:SimH J β h w)(G:Ah h b=some x)(I:x.dead=false)(L:x.sz=0)(T:Rep J β h w (.omap b) v):
  ∃ k es clk,x.mp=true/\β b=some (k,0)/\v=.map (some k)/\w.heap[k]?=some (.map es clk)/\uB x.cells es/\x.sealed=false/\x.pure=true:=by
 obtain⟨k,ob,Y,h2,D,h4,C,h6,h7⟩:=pj S G I T
 rw[L]at D
 rcases C with⟨_,es,clk,rfl,C⟩|⟨C,_⟩
 ·exact⟨k,es,clk,Y,h2,D,h4,C,h6,h7⟩
 ·omega
def sF{b:Nat}{x:Blk}{v:Value}(S:SimH J β h w)(G:Ah h b=some x)(I:x.dead=false)(L:x.sz=1)(T:Rep J β h w (.omap b) v):
  ∃ k s pos,x.mp=true/\β b=some (k,0)/\v=.pointer (some ⟨k,0,none⟩)/\w.heap[k]?=some (.stringIter ⟨⟨s⟩⟩ pos)/\x.cells=[.str s,.int .i64 (pos:Int)]/\x.sealed=false/\x.pure=true:=by
 obtain⟨k,ob,Y,h2,D,h4,C,h6,h7⟩:=pj S G I T
 rw[L]at D
 rcases C with⟨C,_⟩|⟨_,s,pos,rfl,C⟩
 ·omega
 ·exact⟨k,s,pos,Y,h2,D,h4,C,h6,h7⟩
def Zq{k pos:Nat}{s:ByteArray}(C:w.heap[k]?=some (.stringIter s pos)):(getObj k).run P w=.ok (.stringIter s pos) w:=by simp[getObj,Sem.run,C]
def SO{k pos:Nat}{s:ByteArray}(ob:Obj)(C:w.heap[k]?=some (.stringIter s pos)):(setObj k ob).run P w=.ok () {w with heap:=w.heap.setIfInBounds k ob}:=by simp[setObj,Sem.run,C]
def fF{d:Nat}{t:TypeId}{x:AV}{vx:Value}{k:AV->C5->O R}(S:SimH J β h w)(hh:NL P d t x k=some r)(C:Rep J β h w x vx):
  ∃ val ups,k val ups=some r/\(UpsFree d h ups->∃ vc w',(Instr.range t vx).run P w=.ok vc w'/\OpDone J β h w ups val vc w'):=by
 unfold NL at hh
 split at hh
 ·rename_i s D
  rw[Rep]at C;subst C
  refine⟨_,_,hh,fun G=>⟨.pointer (some ⟨w.heap.size,0,none⟩),w.alloc (.stringIter ⟨⟨s⟩⟩ 0),?_,?_⟩⟩
  ·simp only[Instr.range,Sem.run_bind,run_underlying D,Result.andThen_ok,Sem.run_pure];rfl
  have A:=Step.newObj (x:={dead:=false,sealed:=false,pure:=true,taint:=false,sz:=1,cells:=[.str s,.int .i64 0],mp:=true}) (ob:=.stringIter ⟨⟨s⟩⟩ 0) S (G.nid (by simp[Ay])) rfl rfl rfl (.inr ⟨rfl,s,0,rfl,rfl⟩) rfl
  refine⟨_,_,A,?_⟩
  rw[Rep]
  exact⟨{dead:=false,sealed:=false,pure:=true,taint:=false,sz:=1,cells:=[.str s,.int .i64 0],mp:=true},w.heap.size,⟨by simp[Ai,Ae],rfl⟩,.inr ⟨by simp,rfl⟩⟩
 ·simp at hh
def iV{d:Nat}{t:TypeId}{it:AV}{b:Bool}{vi:Value}{k:AV->C5->O R}(S:SimH J β h w)(hl:Looks g h)(hh:bR g it b k=some r)(hi:Rep J β h w it vi):
  ∃ val ups,k val ups=some r/\(UpsFree d h ups->∃ vc w',(Instr.next vi b t).run P w=.ok vc w'/\OpDone J β h w ups val vc w'):=by
 unfold bR at hh
 split at hh
 ·rename_i b0
  obtain⟨x,hx,h1⟩:=ub hh
  obtain⟨hc,G⟩:=uc h1
  simp only[zJ]at hc
  obtain⟨I,T⟩:=hc
  have T:=zM T
  obtain⟨hb,Y⟩:=Cu hl hx
  obtain⟨kk,s,pos,_,hβ,rfl,L,hcl,hsl,hpu⟩:=sF S hb Y T hi
  rw[hcl]at G
  simp only at G
  have hlt:=P5 L
  cases C:decide ((pos:Int)<(s.length:Int))with
  | true =>
   rw[C]at G
   have C:pos<s.length:=by have:=of_decide_eq_true C;omega
   have D:pos<(⟨⟨s⟩⟩:ByteArray).size:=C
   refine⟨_,_,G,fun _=>⟨.tuple #[.bool true,goInt pos,.int .i32 ((nX s pos).1:Nat)],{w with heap:=w.heap.setIfInBounds kk (.stringIter ⟨⟨s⟩⟩ (pos+(nX s pos).2))},?_,J,β,?_,?_⟩⟩
   ·simp[Instr.next,Zq L,D,SO _ L,nX]
   ·show Step J β h w J β (D2 h b0 _) _
    refine Step.setObj (ob:=.stringIter ⟨⟨s⟩⟩ pos) S hb Y I hβ L (by simp[hlt]) (fun j hj=>by simp[Ac9,Ne.symm hj]) (by simp) rfl rfl rfl (.inr ⟨T,s,pos+(nX s pos).2,rfl,by simp⟩) Y hsl hpu rfl I
   ·rw[Rep]
    refine⟨_,rfl,?_⟩
    simp[Reps,Rep,goInt]
  | false =>
   rw[C]at G
   have C:¬ pos<s.length:=by have:=of_decide_eq_false C;omega
   have D:¬ pos<(⟨⟨s⟩⟩:ByteArray).size:=C
   refine⟨_,_,G,fun _=>⟨.tuple #[.bool false],w,?_,J,β,Step.refl S,?_⟩⟩
   ·simp[Instr.next,Zq L,D]
   ·rw[Rep]
    refine⟨_,rfl,?_⟩
    simp[Reps,Rep]
 ·simp at hh
def VC{d:Nat}{t:TypeId}{k:AV->C5->O R}(S:SimH J β h w)(hh:Rk d none k=some r):
  ∃ val ups,k val ups=some r/\(UpsFree d h ups->∃ vc w',(Instr.makeMap t none).run P w=.ok vc w'/\OpDone J β h w ups val vc w'):=by
 unfold Rk at hh
 refine⟨_,_,hh,fun C=>⟨.map (some w.heap.size),w.alloc (.map #[] 0),rfl,?_⟩⟩
 have A:=Step.newObj (x:={dead:=false,sealed:=false,pure:=true,taint:=false,sz:=0,cells:=[],mp:=true}) (ob:=.map #[] 0) S (C.nid (by simp[Ay])) rfl rfl rfl (.inl ⟨rfl,#[],0,rfl,[],rfl,by simp⟩) rfl
 refine⟨_,_,A,?_⟩
 rw[Rep]
 exact⟨{dead:=false,sealed:=false,pure:=true,taint:=false,sz:=0,cells:=[],mp:=true},w.heap.size,⟨by simp[Ai,Ae],rfl⟩,.inr ⟨by simp,rfl⟩⟩
def iW{t:TypeId}{m key:AV}{c:Bool}{vm vk:Value}{k:AV->O R}(S:SimH J β h w)(Y:Looks g h)(hh:bO P g t m key c k=some r)(hm:Rep J β h w m vm)(D:Rep J β h w key vk):
  ∃ v vc,k v=some r/\(Instr.lookup t vm vk c).run P w=.ok vc w/\Rep J β h w v vc:=by
 unfold bO at hh
 split at hh
 ·rename_i b n
  obtain⟨hs,h1⟩:=uc hh
  obtain⟨x,hx,h2⟩:=ub h1
  obtain⟨C,h3⟩:=uc h2
  simp only[zJ]at C
  obtain⟨C,I⟩:=C
  have I:=zM I
  obtain⟨hb,hd⟩:=Cu Y hx
  rw[Rep]at D;subst D
  obtain⟨kk,es,clk,_,hβ,rfl,D,hr,_,_⟩:=mW S hb hd I hm
  obtain⟨kt,et,u1,u2,u3⟩:=VB hs
  refine⟨_,.bool (UQ x.cells n),h3,?_,by rw[Rep]⟩
  have G:IsKey (.int .i64) (.int .i64 n):=by simp[IsKey]
  rcases iU hr n with⟨L,T⟩|⟨L,j,e,T,_,_,_⟩
  ·rw[L]
   simp[Instr.lookup,run_underlying u1,run_getObj_map D,run_checkKey u2 G,run_findKey u2 T,u3,Result.andThen]
  ·rw[L]
   simp[Instr.lookup,run_underlying u1,run_getObj_map D,run_checkKey u2 G,run_findKey u2 T,Result.andThen]
 ·simp at hh
def fG{t:TypeId}{m key val:AV}{vm vk vv:Value}{k:AV->C5->O R}(S:SimH J β h w)(hl:Looks g h)(hh:NK P g t m key val k=some r)(hm:Rep J β h w m vm)(D:Rep J β h w key vk)(hv:Rep J β h w val vv):
  ∃ ups,k .undef ups=some r/\∃ J' β' w',(Instr.mapUpdate t vm vk vv).run P w=.ok () w'/\Step J β h w J' β' (Ai ups h) w':=by
 unfold NK at hh
 split at hh
 ·rename_i b n
  obtain⟨hs,h1⟩:=uc hh
  obtain⟨x,hx,h2⟩:=ub h1
  obtain⟨C,h3⟩:=uc h2
  simp only[zJ]at C
  obtain⟨C,T⟩:=C
  have T:=zM T
  obtain⟨hb,Y⟩:=Cu hl hx
  simp only[Rep]at D hv;subst D hv
  obtain⟨kk,es,clk,_,hβ,rfl,D,hr,hsl,hpu⟩:=mW S hb Y T hm
  obtain⟨kt,et,u1,u2,u3⟩:=VB hs
  have G:IsKey (.int .i64) (.int .i64 n):=by simp[IsKey]
  have hlt:=P5 D
  refine⟨_,h3,J,β,?_⟩
  rcases iU hr n with⟨g1,g2⟩|⟨g1,j,e,g2,g3,g4,g5⟩
  ·refine⟨{w with heap:=w.heap.setIfInBounds kk (.map (es.push {key:=.int .i64 n,val:=.bool true,born:=clk}) (clk+1))},?_,?_⟩
   ·simp[Instr.mapUpdate,run_underlying u1,run_getObj_map D,run_checkKey u2 G,run_findKey u2 g2,run_setObj_map _ D,Result.andThen]
   ·refine Step.setObj S hb Y C hβ D (heap_set D).1 (fun j hj=>(heap_set D).2 j hj) (by simp) rfl rfl rfl (.inl ⟨T,_,_,rfl,?_⟩) Y hsl hpu rfl C
    obtain⟨l,I,L⟩:=hr
    refine⟨l++[n],?_,?_⟩
    ·show pX x.cells n=_
     unfold pX;rw[g1,I];simp
    ·simp[L]
  ·refine⟨{w with heap:=w.heap.setIfInBounds kk (.map (es.modify j fun e=>{e with key:=.int .i64 n,val:=.bool true}) clk)},?_,?_⟩
   ·simp[Instr.mapUpdate,run_underlying u1,run_getObj_map D,run_checkKey u2 G,run_findKey u2 g2,g3,g4,run_keyThatStays G,run_setObj_map _ D,Result.andThen]
   ·refine Step.setObj S hb Y C hβ D (heap_set D).1 (fun j hj=>(heap_set D).2 j hj) (by simp) rfl rfl rfl (.inl ⟨T,_,_,rfl,?_⟩) Y hsl hpu rfl C
    obtain⟨l,I,L⟩:=hr
    refine⟨l,?_,?_⟩
    ·show pX x.cells n=_
     unfold pX;rw[g1,I];rfl
    ·have:es.modify j (fun e=>{e with key:=.int .i64 n,val:=.bool true})=es:=by
      apply Array.ext_getElem?
      intro i
      rw[Aaj]
      split
      ·rename_i hij;subst hij
       rw[g3];simp;rw[<-g4,<-g5]
      ·rfl
     rw[this];exact L
 ·simp at hh
end
end Gx
namespace Gx
open Go
def HG(E:Env):Prop:=∀(R:Type)(r:R)(k:AV->C5->O R)(J:Bool->Nat->Prop)(β:Bt)(h:Ap)(w:World)(g:A1)(d f:Nat)(args:LA)(vs:List Value),
 SimH J β h w->Looks g h->bT E g d f args k=some r->Reps J β h w args vs ->
 ∃ val ups,k val ups=some r/\(UpsFree d h ups->Calls E.P f vs.toArray w fun e w'=>∃ vc,e=.returned vc/\OpDone J β h w ups val vc w')
section
variable{R:Type}{r:R}{P:Program}{J J':Bool->Nat->Prop}{β:Bt}{h:Ap}{w w':World}{g:A1}{o:Oper}{a:Act}{next:Act->World->Prop}{Q:Exit->Act->World->Prop}
def Ea{vc:Value}(k:(execOp a.eval o).run P w=.ok (.value vc) w')(C:next (a.put o.dst vc) w'):o.wp P a w next Q:=by unfold Oper.wp;rw[k];exact C
def iX(k:(execOp a.eval o).run P w=.ok .skip w')(C:next (a.put o.dst undef) w'):o.wp P a w next Q:=by unfold Oper.wp;rw[k];exact C
def OpDone.same(S:SimH J β h w){v:AV}{vc:Value}(k:Rep J β h w v vc):OpDone J β h w [] v vc w:=⟨J,β,Step.refl S,k⟩
def VD{s:Ff}(SS:SimS J β h w s a.tmps):∀(xs:List Operand),Reps J β h w (xs.map (ev s)) (xs.map a.eval)
|[]=>by simp[Reps]
|x::r=>by rw[z_,z_,Reps];exact⟨_,_,rfl,A2 SS x,VD SS r⟩
def Lm{s:Ff}(SS:SimS J β h w s a.tmps):∀(ps:List (Nat×Operand)),RepParts J β h w (ps.map fun p=>(p.1,ev s p.2)) (ps.map fun p=>(p.1,a.eval p.2))
|[]=>by simp[RepParts]
|p::r=>by rw[z_,z_,RepParts];exact⟨_,_,rfl,A2 SS p.2,Lm SS r⟩
def VE{s:Ff}(SS:SimS J β h w s a.tmps)(x:Option Operand):Oy J β h w (x.map (ev s)) (x.map a.eval):=by
 cases x with
|none=>simp[Oy]
|some x=>simp[Oy];exact A2 SS x
def Reps.append:∀{c c':LA}{cs k:List Value},Reps J β h w c cs->Reps J β h w c' k->Reps J β h w (c++c') (cs++k)
|[],c',cs,k,C,D=>by rw[Reps]at C;subst C;exact D
|x::r,c',cs,k,C,D=>by
  rw[Reps]at C
  obtain⟨u,us,rfl,G,I⟩:=C
  rw[Aax,Aax,Reps]
  exact⟨u,us++k,rfl,G,Reps.append I D⟩
def iY{J:Nat->Prop}:∀{c:LA}{cs:List Value},Bs c=true->Reps (fun _ _=>False) (fun _=>none) [] w c cs->RepCs J w c (fun j=>cs[j]?) 0/\cs.length=c.length:=by
 intro c cs L D
 rw[Bq]at D
 refine⟨?_,D.1⟩
 rw[Bh]
 intro j x C
 have k:j<cs.length:=by rw[D.1];exact(zK.1 C).1
 refine⟨cs[j],by simp[k],?_⟩
 have G:=D.2 j x cs[j] C (zD k)
 have T:Bs [x]=true:=by
  clear D G k
  induction c generalizing j with
  |nil=>simp at C
  |cons y r Y =>
   have I:Bs r=true:=by unfold Bs at L;split at L<;>simp_all
   cases j with
   |zero=>simp at C;subst C;cases y<;>simp_all[Bs]
   |succ j=>exact Y I j (by simpa using C)
 cases x<;>simp[Bs]at T<;>(rw[Rep]at G;rw[RepC];exact G)
def n_{co:Bool}{v:AV}{vv:Value}(k:∀(J:Bool->Nat->Prop)(β:Bt)(h:Ap),Rep J β h w v vv):Rep J β h w (pV co v) vv:=by
 unfold pV
 split
 ·rename_i c
  cases D:Bs c with
  |false=>exact k J β h
  |true =>
   have C:=k (fun _ _=>False) (fun _=>none) []
   rw[Rep]at C
   obtain⟨cs,rfl,G⟩:=C
   obtain⟨I,L⟩:=iY (J:=J false) D G
   rw[cond_true,Rep]
   exact⟨cs,rfl,L,I⟩
 ·exact k J β h
def HH{d:Nat}:∀{l:List (Nat×Nat)}{j:Nat}{c:LA},1<=j->Ay (E6 d l j c).2 (nid d)=false
|[],_,_,_=>by simp[E6,Ay]
| (o,sz)::l,j,c,k=>by
  rw[E6]
  split
  ·simp only[Ay]
   rw[AK (by omega),cond_false]
   exact HH (by omega)
  ·exact HH (by omega)
def ZM{d:Nat}{t:TypeId}{k:AV->C5->O R}(S:SimH J β h w)(hh:DN P g d t k=some r):
  ∃ v val ups,(∃ i,P.info? t=some i/\i.zero=some v)/\k val ups=some r/\(UpsFree d h ups->∃ vc w',(Instr.box t v).run P w=.ok vc w'/\OpDone J β h w ups val vc w'):=by
 unfold DN at hh
 split at hh
 ·rename_i c I
  obtain⟨hc,h1⟩:=uc hh
  simp only[zJ]at hc
  obtain⟨hb,T⟩:=hc
  obtain⟨v,hv,he⟩:∃ v,(∃ i,P.info? t=some i/\i.zero=some v)/\M' v=.agg c:=by
   unfold JH at I
   cases hi:P.info? t with
   |none=>simp[hi]at I
   |some i =>
    cases D:i.zero with
    |none=>simp[hi,D]at I
    |some v=>simp[hi,D]at I;exact⟨v,⟨i,rfl,D⟩,I⟩
  have G:=Xi (J:=J) (β:=β) (h:=h) (w:=w) v
  rw[he,Rep]at G
  obtain⟨cs,rfl,G⟩:=G
  refine⟨_,_,_,hv,h1,fun hf=>⟨_,_,Xl,?_⟩⟩
  have hn:=hf.nid (by simp[Fw,Li,Ay])
  obtain⟨β',A,hA⟩:=N3 (d:=d) (l:=Lj P t) (j:=1) S (zE _) (by simp at hb;omega) (fun i hi hi2 Y=>hf _ (by rw[Fw,Y];rfl) (by unfold Vw;simp;omega)) G
  have hn':Ah (Ai (E6 d (Lj P t) 1 c).2 h) (nid d)=none:=by rw[Bj _ _ _ (HH (zE _))];exact hn
  have L:∀(j:Nat) u,cs[j]?=some u->u.oneCell'=true:=fun j u hu=>by
   rw[Bq]at G
   have C:j<c.length:=by rw[<-G.1];exact(zK.1 hu).1
   exact Hc (Ll T j c[j] (zD C)) (G.2 j c[j] u (zD C) hu)
  rw[Bq]at hA
  refine OpDone.after A (DU A.sim hn' rfl rfl (by simp[Value.cells,hA.1]) ⟨fun hp=>by simp at hp,fun _ j y hj=>?_⟩) (Kv _ _)
  have C:j<cs.length:=by rw[hA.1];exact(zK.1 hj).1
  exact⟨cs[j],by simp[Value.cells,C],hA.2 j y _ hj (zD C),L j _ (zD C)⟩
 ·simp at hh
def fH{co:Bool}{d:Nat}{t:TypeId}{k:AV->C5->O R}(S:SimH J β h w)(hl:Looks g h)(hh:NF P g co d t k=some r):
  ∃ v val ups,(∃ i,P.info? t=some i/\i.zero=some v)/\k val ups=some r/\(UpsFree d h ups->∃ vc w',(Instr.box t v).run P w=.ok vc w'/\OpDone J β h w ups val vc w'):=by
 have zv:∀{z:AV},JH P t=some z->∃ v,(∃ i,P.info? t=some i/\i.zero=some v)/\M' v=z:=by
  intro z C
  unfold JH at C
  cases hi:P.info? t with
  |none=>simp[hi]at C
  |some i =>
   cases D:i.zero with
   |none=>simp[hi,D]at C
   |some v=>simp[hi,D]at C;exact⟨v,⟨i,rfl,D⟩,C⟩
 unfold NF at hh
 split at hh
 ·rename_i el hu C
  obtain⟨v,G,I⟩:=zv C
  obtain⟨sz,hs,hh⟩:=ub hh
  refine⟨v,_,_,G,hh,fun hf=>⟨_,_,Xl,?_⟩⟩
  have hr:=Xi (J:=J) (β:=β) (h:=h) (w:=w) v
  rw[I,Rep]at hr;subst hr
  have L:∀ b,b=nid d+1->Vw d b=true:=fun b hb=>by subst hb;unfold Vw nid;simp
  have T:Ah h (nid d+1)=none:=hf _ (by simp[Ay]) (L _ rfl)
  have Y:Ah h (nid d)=none:=hf.nid (by simp[Ay])
  have A:=Step.newNone S (d:=nid d+1) (x:=E4 sz) T rfl
  have e:([(nid d+1,some (E4 sz)),(nid d,some {dead:=false,sealed:=false,pure:=false,taint:=false,sz:=0,cells:=[.own (nid d+1) 0 0]})]:C5)=[(nid d+1,some (E4 sz))]++[(nid d,some {dead:=false,sealed:=false,pure:=false,taint:=false,sz:=0,cells:=[.own (nid d+1) 0 0]})]:=rfl
  rw[e]
  refine OpDone.after A (DU A.sim ?_ rfl rfl (by simp[Value.cells]) ⟨fun hp=>by simp at hp,fun _ j y hj=>?_⟩) (Kv _ _)
  ·simp only[Ai];rw[Ae,if_neg (by omega)];exact Y
  ·cases j with
   |zero =>
    simp at hj;subst hj
    refine⟨.slice none 0 0,by simp[Value.cells],?_,rfl⟩
    rw[Rep]
    exact⟨E4 sz,none,0,⟨by simp[Ai,Ae],rfl⟩,rfl,zE _,.inl rfl⟩
   |succ j=>simp at hj
 ·rename_i z C _
  obtain⟨v,G,I⟩:=zv C
  obtain⟨val,ups,T,Y⟩:=UW S hl hh (vv:=v) (n_ fun J β h=>by rw[<-I];exact Xi v)
  exact⟨v,val,ups,G,T,Y⟩
 ·simp at hh
def iZ{c x y:AV}{vc vx vy:Value}{k:AV->O R}(hh:bU c x y k=some r)(hc:Rep J β h w c vc)(C:Rep J β h w x vx)(D:Rep J β h w y vy):
  ∃ v,k v=some r/\∃ t:Bool,vc=.bool t/\Rep J β h w v (if t then vx else vy):=by
 unfold bU at hh
 split at hh
 ·rename_i t a b
  rw[Rep]at hc C D
  subst hc C D
  exact⟨_,hh,t,rfl,by cases t<;>simp[Rep]⟩
 ·rename_i t x _
  rw[Rep]at hc;subst hc
  obtain⟨G,I⟩:=uc hh
  subst G
  exact⟨_,I,true,rfl,C⟩
 ·rename_i t _ _ _
  rw[Rep]at hc;subst hc
  obtain⟨G,I⟩:=kO hh
  subst G
  exact⟨_,I,false,rfl,D⟩
 ·rename_i t _ _ _
  rw[Rep]at hc;subst hc
  cases t
  ·exact⟨_,hh,false,rfl,D⟩
  ·exact⟨_,hh,true,rfl,C⟩
 ·simp at hh
def kj {E:Env} (hC:HG E) {d:Nat} {s:Ff} {k:AV->C5->O R} (S:SimH J β h w) (SS:SimS J β h w s a.tmps) (hl:Looks g h)
  (hh:ZI E g d (ev s) o.op k=some r) :
  ∃ val ups,k val ups=some r/\(UpsFree d h ups->(∀ vc w',OpDone J β h w ups val vc w'->next (a.put o.dst vc) w')->o.wp E.P a w next Q):=by
 unfold ZI at hh
 have same:∀{v:AV}{vc:Value},k v []=some r->(execOp a.eval o).run E.P w=.ok (.value vc) w->Rep J β h w v vc ->
   ∃ val ups,k val ups=some r/\(UpsFree d h ups->(∀ vc w',OpDone J β h w ups val vc w'->next (a.put o.dst vc) w')->o.wp E.P a w next Q) :=
  fun hk hrun hr=>⟨_,_,hk,fun _ L=>Ea hrun (L _ _ (OpDone.same S hr))⟩
 split at hh
 ·rename_i x I
  exact same hh (by simp[execOp,I]) (A2 SS x)
 ·rename_i x I
  exact same hh (by simp[execOp,I]) (A2 SS x)
 ·rename_i c x y I
  obtain⟨v,C,D⟩:=iZ hh (A2 SS c) (A2 SS x) (A2 SS y)
  obtain⟨t,ht,hr⟩:=D
  refine same C (vc:=if t then a.eval x else a.eval y) ?_ hr
  cases t<;>simp[execOp,I,ht,Go.asBool]
 ·rename_i t I
  obtain⟨v,val,ups,h0,C,D⟩:∃ v val ups,(∃ i,E.P.info? t=some i/\i.zero=some v)/\k val ups=some r/\(UpsFree d h ups->∃ vc w',(Instr.box t v).run E.P w=.ok vc w'/\OpDone J β h w ups val vc w'):=by
   cases hm:D9 E.cob (d+1000000)with
   |true=>rw[hm]at hh;exact ZM S hh
   |false=>rw[hm]at hh;exact fH S hl hh
  refine⟨val,ups,C,fun hf L=>?_⟩
  obtain⟨vc,w',G,T⟩:=D hf
  refine Ea ?_ (L vc w' T)
  rw[Xl]at G
  simp only[Result.ok.injEq]at G
  obtain⟨rfl,rfl⟩:=G
  obtain⟨i,hi,hiz⟩:=h0
  simp[execOp,I,Instr.alloc,zeroValue,typeInfo,hi,hiz,newVar,newRow]
 ·rename_i t x I
  obtain⟨v',h0,hv'⟩:=eY hh (A2 SS x)
  obtain⟨val,ups,C,D⟩:=UW S hl h0 hv'
  refine⟨val,ups,C,fun hf L=>?_⟩
  obtain⟨vc,w',G,T⟩:=D hf
  exact Ea (by simp[execOp,I,G]) (L vc w' T)
 ·rename_i t parts I
  have:(parts.map fun p=>(p.1,a.eval p.2))=(parts.toList.map fun p=>(p.1,a.eval p.2)).toArray:=by apply Aan;simp
  cases hco:D9 E.cob (d+4000000)with
  |true =>
   rw[hco]at hh
   obtain⟨val,ups,u,C,D,G⟩:=ZL S hl hh (Lm SS parts.toList)
   exact⟨val,ups,C,fun _ L=>Ea (by simp[execOp,I,this,D]) (L _ _ G)⟩
  |false =>
  rw[hco,cond_false,HE]at hh
  obtain⟨v,hv,hh⟩:=ub hh
  obtain⟨u,C,D⟩:=fE (P:=E.P) S hv (Lm SS parts.toList)
  obtain⟨val,ups,G,T⟩:=k9 S hh D
  refine⟨val,ups,G,fun hf L=>Ea ?_ (L _ _ (T hf))⟩
  simp[execOp,I,this,C]
 ·rename_i t len parts I
  have:(parts.map fun p=>(p.1,a.eval p.2))=(parts.toList.map fun p=>(p.1,a.eval p.2)).toArray:=by apply Aan;simp
  cases hhard:(parts.toList.map fun p=>(p.1,ev s p.2)).any fun p=>pW p.2 with
  |true =>
   rw[hhard]at hh
   obtain⟨val,ups,C,D⟩:=NT S hh (Lm SS parts.toList)
   refine⟨val,ups,C,fun hf L=>?_⟩
   obtain⟨vc,w',G,T⟩:=D hf
   exact Ea (by simp[execOp,I,this,G]) (L vc w' T)
  |false =>
   rw[hhard]at hh
   obtain⟨val,ups,C,D⟩:=JV S hl hh (Lm SS parts.toList)
   refine⟨val,ups,C,fun hf L=>?_⟩
   obtain⟨vc,w',G,T⟩:=D hf
   exact Ea (by simp[execOp,I,this,G]) (L vc w' T)
 ·rename_i t p I
  obtain⟨v,vc,C,D,G⟩:=QJ S hl hh (A2 SS p)
  exact same C (by simp[execOp,I,D]) G
 ·rename_i t p x I
  obtain⟨val,ups,C,J',β',w',D,G,rfl⟩:=eX S hl hh (A2 SS p) (A2 SS x)
  exact⟨.undef,ups,C,fun _ L=>iX (w':=w') (by simp[execOp,I,D]) (L undef w' ⟨J',β',G,by simp[Rep]⟩)⟩
 ·rename_i x I
  have C:=A2 SS x
  split at hh
  ·rename_i c oo hx
   rw[hx]at C
   refine same hh (vc:=a.eval x) ?_ C
   rw[Rep,RepC]at C
   obtain⟨ad,D,_⟩:=C
   simp[execOp,I,D]
  ·rename_i b oo hx
   rw[hx]at C
   refine same hh (vc:=a.eval x) ?_ C
   rw[Rep]at C
   obtain⟨_,kk,o',_,D,_⟩:=C
   simp[execOp,I,D]
  ·simp at hh
 ·rename_i op t x y t2 I
  obtain⟨v,vc,C,D,G⟩:=iS S hl hh (A2 SS x) (A2 SS y) x y
  refine same C ?_ G
  simp only[execOp,I]
  rw[Sem.run_bind,D];simp
 ·rename_i op t x I
  obtain⟨v,hv,hh⟩:=ub hh
  obtain⟨vc,D,G⟩:=n6 (P:=E.P) hv (A2 SS x)
  exact same hh (by simp[execOp,I,D]) G
 ·rename_i src dst x I
  obtain⟨val,ups,C,D⟩:=fC S hl hh (A2 SS x)
  refine⟨val,ups,C,fun hf L=>?_⟩
  obtain⟨vc,w',G,T⟩:=D hf
  exact Ea (by simp[execOp,I,G]) (L vc w' T)
 ·rename_i f first caps I
  obtain⟨hf,hh⟩:=uc hh
  have hf':f<1000000:=by simpa using hf
  have key:∀(a n:Nat),a<1000000->(a+1000000*n)%1000000=a/\(a+1000000*n)/1000000=n:=by intro a n h;omega
  have e1:=(key f first.toList.length hf').1
  have e2:=(key f first.toList.length hf').2
  refine same (vc:=.func (.func f) ⟨first.toList.map a.eval⟩ ⟨caps.toList.map a.eval⟩) hh ?_ ?_
  ·simp only[execOp,I,Instr.makeFunc]
   simp
   refine⟨?_,?_⟩<;>(apply Aan;simp)
  ·rw[Rep,e1,e2]
   refine⟨(first.toList++caps.toList).map a.eval,?_,VD SS _⟩
   simp
 ·rename_i t l c I
  obtain⟨val,ups,C,D⟩:=iK S hh (A2 SS l) (A2 SS c)
  refine⟨val,ups,C,fun hf L=>?_⟩
  obtain⟨vc,w',G,T⟩:=D hf
  exact Ea (by simp[execOp,I,G]) (L vc w' T)
 ·rename_i t x lo hi mx I
  obtain⟨v,vc,C,D,G⟩:=eV S hl hh (A2 SS x) (VE SS lo) (VE SS hi) (VE SS mx)
  exact same C (by simp[execOp,I,D]) G
 ·rename_i t x f I
  obtain⟨v,vc,C,D,G⟩:=NQ hh (A2 SS x)
  exact same C (by simp[execOp,I,D]) G
 ·rename_i t x f I
  obtain⟨v,vc,C,D,G⟩:=eS hh (A2 SS x)
  exact same C (by simp[execOp,I,D]) G
 ·rename_i t x i I
  obtain⟨v,vc,C,D,G⟩:=NP hh (A2 SS x) (A2 SS i)
  exact same C (by simp[execOp,I,D]) G
 ·rename_i t x i I
  obtain⟨v,vc,C,D,G⟩:=eT hh (A2 SS x) (A2 SS i)
  exact same C (by simp[execOp,I,D]) G
 ·rename_i t rr I
  cases rr with
  |some x=>simp[Rk]at hh
  |none =>
   obtain⟨val,ups,C,D⟩:=VC (P:=E.P) (t:=t) S hh
   refine⟨val,ups,C,fun hf L=>?_⟩
   obtain⟨vc,w',G,T⟩:=D hf
   exact Ea (by simp[execOp,I,G]) (L vc w' T)
 ·rename_i t m x y I
  obtain⟨ups,C,J',β',w',D,G⟩:=fG S hl hh (A2 SS m) (A2 SS x) (A2 SS y)
  exact⟨.undef,ups,C,fun _ L=>iX (w':=w') (by simp[execOp,I,D]) (L undef w' ⟨J',β',G,by simp[Rep]⟩)⟩
 ·rename_i t m x c I
  obtain⟨v,vc,C,D,G⟩:=iW S hl hh (A2 SS m) (A2 SS x)
  exact same C (by simp[execOp,I,D]) G
 ·rename_i t x I
  obtain⟨val,ups,C,D⟩:=fF (P:=E.P) S hh (A2 SS x)
  refine⟨val,ups,C,fun hf L=>?_⟩
  obtain⟨vc,w',G,T⟩:=D hf
  exact Ea (by simp[execOp,I,G]) (L vc w' T)
 ·rename_i x b I
  obtain⟨val,ups,C,D⟩:=iV (P:=E.P) (d:=d) (t:=o.type) S hl hh (A2 SS x)
  refine⟨val,ups,C,fun hf L=>?_⟩
  obtain⟨vc,w',G,T⟩:=D hf
  exact Ea (by simp[execOp,I,G]) (L vc w' T)
 ·rename_i t i I
  split at hh
  ·rename_i vs ht
   obtain⟨v,hv,hh⟩:=ub hh
   have C:=A2 SS t
   rw[ht,Rep]at C
   obtain⟨cs,D,G⟩:=C
   rw[Bq]at G
   have hlt:i<cs.length:=by rw[G.1];exact(zK.1 hv).1
   refine same hh (vc:=cs[i]) ?_ (G.2 i v _ hv (zD hlt))
   simp[execOp,I,Instr.extract,D,hlt]
  ·simp at hh
 ·rename_i c I
  split at hh
  ·rename_i hc
   split at hh
   ·rename_i x t C D
    obtain⟨v,hv,hh⟩:=ub hh
    have e1:c.args=#[x]:=by apply Aan;simpa using C
    have e2:c.argTypes=#[t]:=by apply Aan;simpa using D
    obtain⟨vc,G,T⟩:=kY (P:=E.P) (ty:=o.type) hv (A2 SS x)
    refine same hh ?_ T
    simp[execOp,I,resolve,hc,e1,e2,invoke,builtin,G]
   ·simp at hh
  ·rename_i hc
   split at hh
   ·rename_i x y t tx C D
    have e1:c.args=#[x,y]:=by apply Aan;simpa using C
    have e2:c.argTypes=#[t,tx]:=by apply Aan;simpa using D
    obtain⟨val,ups,G,T⟩:=ZK (ty:=o.type) S hl hh (A2 SS x) (A2 SS y)
    refine⟨val,ups,G,fun hf L=>?_⟩
    obtain⟨vc,w',h5,h6⟩:=T hf
    refine Ea ?_ (L vc w' h6)
    simp[execOp,I,resolve,hc,e1,e2,invoke,builtin,h5]
   ·simp at hh
  ·rename_i hc
   split at hh
   ·rename_i x y t tx C D
    have e1:c.args=#[x,y]:=by apply Aan;simpa using C
    have e2:c.argTypes=#[t,tx]:=by apply Aan;simpa using D
    obtain⟨val,ups,G,vc,w',h5,h6⟩:=iN (tx:=tx) (ty:=o.type) S hl hh (A2 SS x) (A2 SS y)
    refine⟨val,ups,G,fun hf L=>?_⟩
    refine Ea ?_ (L vc w' h6)
    simp[execOp,I,resolve,hc,e1,e2,invoke,builtin,h5]
   ·simp at hh
  ·rename_i hc
   split at hh
   ·rename_i x t C D
    have e1:c.args=#[x]:=by apply Aan;simpa using C
    have e2:c.argTypes=#[t]:=by apply Aan;simpa using D
    obtain⟨val,ups,G,vc,w',h5,h6⟩:=fB (ty:=o.type) S hl hh (A2 SS x)
    refine⟨val,ups,G,fun hf L=>?_⟩
    refine Ea ?_ (L vc w' h6)
    simp[execOp,I,resolve,hc,e1,e2,invoke,builtin,h5]
   ·simp at hh
  ·rename_i hc
   split at hh
   ·rename_i x y C
    obtain⟨v,hv,hh⟩:=ub hh
    have e1:c.args=#[x,y]:=by apply Aan;simpa using C
    have D:=A2 SS x
    have G:=A2 SS y
    unfold nY at hv
    split at hv
    ·rename_i k1 a1 k2 a2 hx hy
     simp at hv;subst hv
     rw[hx,Rep]at D;rw[hy,Rep]at G
     refine same hh (vc:=.int k1 (Fg a1 a2)) ?_ (by rw[Rep])
     simp[execOp,I,resolve,hc,e1,invoke,builtin,D,G,Builtin.min_,Builtin.min2,Fg,cond_eq_ite]
    ·simp at hv
   ·rename_i x y z C
    obtain⟨q,hq,hh⟩:=ub hh
    obtain⟨v,hv,hh⟩:=ub hh
    have e1:c.args=#[x,y,z]:=by apply Aan;simpa using C
    have D:=A2 SS x
    have G:=A2 SS y
    have T:=A2 SS z
    unfold nY at hq
    split at hq
    ·rename_i k1 a1 k2 a2 hx hy
     simp at hq;subst hq
     unfold nY at hv
     split at hv
     ·rename_i k3 a3 k4 a4 hx2 hz
      simp at hx2;obtain⟨rfl,rfl⟩:=hx2
      simp at hv;subst hv
      rw[hx,Rep]at D;rw[hy,Rep]at G;rw[hz,Rep]at T
      refine same hh (vc:=.int k1 (Fg (Fg a1 a2) a4)) ?_ (by rw[Rep])
      simp[execOp,I,resolve,hc,e1,invoke,builtin,D,G,T,Builtin.min_,Builtin.min2,Fg,cond_eq_ite]
     ·simp at hv
    ·simp at hq
   ·simp at hh
  ·rename_i hc
   split at hh
   ·rename_i x y C
    obtain⟨v,hv,hh⟩:=ub hh
    have e1:c.args=#[x,y]:=by apply Aan;simpa using C
    have D:=A2 SS x
    have G:=A2 SS y
    unfold nZ at hv
    split at hv
    ·rename_i k1 a1 k2 a2 hx hy
     simp at hv;subst hv
     rw[hx,Rep]at D;rw[hy,Rep]at G
     refine same hh (vc:=.int k1 (Ij a1 a2)) ?_ (by rw[Rep])
     simp[execOp,I,resolve,hc,e1,invoke,builtin,D,G,Builtin.max_,Builtin.max2,Ij,cond_eq_ite]
    ·simp at hv
   ·rename_i x y z C
    obtain⟨q,hq,hh⟩:=ub hh
    obtain⟨v,hv,hh⟩:=ub hh
    have e1:c.args=#[x,y,z]:=by apply Aan;simpa using C
    have D:=A2 SS x
    have G:=A2 SS y
    have T:=A2 SS z
    unfold nZ at hq
    split at hq
    ·rename_i k1 a1 k2 a2 hx hy
     simp at hq;subst hq
     unfold nZ at hv
     split at hv
     ·rename_i k3 a3 k4 a4 hx2 hz
      simp at hx2;obtain⟨rfl,rfl⟩:=hx2
      simp at hv;subst hv
      rw[hx,Rep]at D;rw[hy,Rep]at G;rw[hz,Rep]at T
      refine same hh (vc:=.int k1 (Ij (Ij a1 a2) a4)) ?_ (by rw[Rep])
      simp[execOp,I,resolve,hc,e1,invoke,builtin,D,G,T,Builtin.max_,Builtin.max2,Ij,cond_eq_ite]
     ·simp at hv
    ·simp at hq
   ·simp at hh
  ·rename_i hc
   split at hh
   ·rename_i x C
    have e1:c.args=#[x]:=by apply Aan;simpa using C
    obtain⟨val,ups,G,T⟩:=NR (P:=E.P) (d:=d) (ts:=c.argTypes) (ty:=o.type) S hl hh (A2 SS x)
    refine⟨val,ups,G,fun hf L=>?_⟩
    obtain⟨vc,w',h5,h6⟩:=T hf
    refine Ea ?_ (L vc w' h6)
    simp[execOp,I,resolve,hc,e1,invoke,builtin,h5]
   ·simp at hh
  ·rename_i hc
   split at hh
   ·rename_i x y t tx C D
    have e1:c.args=#[x,y]:=by apply Aan;simpa using C
    have e2:c.argTypes=#[t,tx]:=by apply Aan;simpa using D
    obtain⟨val,ups,G,T⟩:=NS (d:=d) (it:=tx) (ty:=o.type) S hl hh (A2 SS x) (A2 SS y)
    refine⟨val,ups,G,fun hf L=>?_⟩
    obtain⟨vc,w',h5,h6⟩:=T hf
    refine Ea ?_ (L vc w' h6)
    simp[execOp,I,resolve,hc,e1,e2,invoke,builtin,h5]
   ·simp at hh
  ·rename_i fo hc
   split at hh
   ·rename_i f0 caps hf
    have C:=A2 SS fo
    rw[hf,Rep]at C
    obtain⟨cs0,D,h30⟩:=C
    cases Y:eM E.P (f0%1000000)with
    | false =>
     rw[Y,cond_false]at hh
     obtain⟨hne,hh⟩:=uc hh
     split at hh
     ·rename_i x hargs hold
      rw[Reps]at h30;subst h30
      obtain⟨y,hy,rfl⟩:∃ y,c.args=#[y]/\x=ev s y:=by
       cases hl:c.args.toList with
       |nil=>rw[hl]at hargs;cases hargs
       |cons y l =>
        rw[hl]at hargs;simp at hargs
        exact⟨y,by apply Aan;rw[hl,hargs.2],hargs.1.symm⟩
      refine same (vc:=a.eval y) hh ?_ (A2 SS y)
      simp only[execOp,I,Sem.run_bind,resolve,hc,D,Deferred.ofValue,Sem.run_pure,Result.andThen_ok,invoke,hy]
      simpa using n8 hne (a.eval y) w
     ·simp at hh
    |true =>
    rw[Y,cond_true]at hh
    have htk:Reps J β h w (caps.take (f0/1000000)) (cs0.take (f0/1000000))/\Reps J β h w (caps.drop (f0/1000000)) (cs0.drop (f0/1000000)):=by
     rw[Bq]at h30
     refine⟨Bq.2 ⟨by simp[h30.1],fun j x u hx hu=>?_⟩,Bq.2 ⟨by simp[h30.1],fun j x u hx hu=>?_⟩⟩
     ·rw[Aau]at hx hu
      split at hx
      ·rename_i hj;rw[if_pos hj]at hu;exact h30.2 j x u hx hu
      ·simp at hx
     ·rw[zk]at hx hu;exact h30.2 _ x u hx hu
    generalize f0%1000000=f at *
    generalize cs0.take (f0/1000000)=fs at *
    generalize cs0.drop (f0/1000000)=cs at *
    obtain⟨val,ups,T,h5⟩:=hC R r k J β h w g d f _ _ S hl hh (htk.1.append ((VD SS c.args.toList).append htk.2))
    refine⟨val,ups,T,fun hfr L=>?_⟩
    have hcall:=h5 hfr
    unfold eM at Y
    cases hfn:E.P.funcs[f]? with
    |none=>rw[hfn]at Y;simp at Y
    | some fn =>
     rw[hfn]at Y
     simp at Y
     obtain⟨hb1,hb2⟩:=Y
     have hb3:fn.body.isNone=false:=by cases hq:fn.body<;>simp_all
     have hargs:(⟨fs⟩:Array Value)++c.args.map a.eval++(⟨cs⟩:Array Value)=(fs++(c.args.toList.map a.eval++cs)).toArray:=by apply Aan;simp
     have hrun:(execOp a.eval o).run E.P w=.ok (.enter f (fs++(c.args.toList.map a.eval++cs)).toArray) w:=by
      simp only[execOp,I,Sem.run_bind,resolve,hc,D,Deferred.ofValue,Sem.run_pure,Result.andThen_ok,invoke,callFunc,run_program,hfn]
      simp only[hb3,hargs]
      simp[hb2]
     unfold Oper.wp
     rw[hrun]
     refine Calls.mono hcall ?_
     rintro e w' ⟨vc,rfl,hd⟩
     exact L vc w' hd
   ·simp at hh
  ·simp at hh
 ·simp at hh
end
end Gx
namespace Gx
open Go
structure Start where
 J:Bool->Nat->Prop
 β:Bt
 h:Ap
 w:World
structure Inv(Z:Start)(nt:Nat)(J:Bool->Nat->Prop)(β:Bt)(st:St)(a:Act)(w:World):Prop where
 sim:SimH J β st.h w
 ss:SimS J β st.h w st.s a.tmps
 tmps:a.tmps.size=nt
 defers:a.defers=[]
 os:w.os=Z.w.os
 tape:w.tape=Z.w.tape
 output:w.output=Z.w.output
 size:Z.w.heap.size<=w.heap.size
 frame:∀ k,k<Z.w.heap.size->¬ iJ Z.β Z.h k->w.heap[k]?=Z.w.heap[k]?
 wr:∀ k,iJ β st.h k->k<Z.w.heap.size->iJ Z.β Z.h k
 jsub:∀ o k,Z.J o k->J o k
 jup:∀ o k,J o k->Z.J o k\/iJ Z.β Z.h k\/Z.w.heap.size<=k
 sizes:∀ k,Aw Z.w k<=Aw w k
 zlt:∀ b x0,Ah Z.h b=some x0->b<200000
 zge:∀ b x0,Ah Z.h b=some x0->100000<=b
 outs:∀ b x0 x,Ah Z.h b=some x0->Ah st.h b=some x->x.dead=false->(β b=Z.β b/\x.mp=x0.mp)/\x.sz=x0.sz/\(x0.mp=false->x.cells.length=x0.cells.length)/\x0.dead=false
section
variable{R:Type}{r:R}{Z:Start}{nt:Nat}{J J':Bool->Nat->Prop}{β β':Bt}{st:St}{h':Ap}{a:Act}{w w':World}{ops:Array Oper}{o:Oper}
def Jo{s:Ff}{d:Option Nat}{v:AV}{i:Nat}:Es (kW nt s d v) i=if d=some i/\i<nt then v else Es s i:=by
 unfold kW
 cases d with
|none=>simp
| some d =>
  simp only[Aba]
  cases C:Nat.blt d nt with
  |true =>
   have k:d<nt:=by simpa using C
   simp only[cond_true]
   rw[H5]
   by_cases e:i=d
   ·subst e;simp[k]
   ·rw[if_neg e,if_neg (fun hh=>e hh.1.symm)]
  |false =>
   have k:¬ d<nt:=by intro D;rw[show Nat.blt d nt=true by simpa using D]at C;cases C
   simp only[cond_false]
   rw[if_neg (fun hh=>by obtain⟨G,I⟩:=hh;subst G;exact k I)]
def SimS.put{h:Ap}{s:Ff}{d:Option Nat}{v:AV}{vc:Value}(H:SimS J β h w s a.tmps)(G:a.tmps.size=nt)(D:Rep J β h w v vc):SimS J β h w (kW nt s d v) (a.put d vc).tmps:=by
 refine⟨fun i u k=>?_,fun i hi=>?_⟩
 ·rw[Jo]
  cases d with
  |none=>simp;exact H.slot i u k
  | some d =>
   simp only[Act.put]at k
   rw[Ac9]at k
   by_cases e:d=i
   ·subst e
    simp only[if_true]at k
    by_cases C:d<a.tmps.size
    ·simp[C]at k;subst k
     rw[if_pos ⟨rfl,by omega⟩];exact D
    ·simp[C]at k
   ·rw[if_neg e]at k
    rw[if_neg (fun hh=>e (by simpa using hh.1))]
    exact H.slot i u k
 ·have hs:(a.put d vc).tmps.size=a.tmps.size:=by cases d<;>simp[Act.put]
  rw[hs]at hi
  rw[Jo,if_neg (by omega)]
  exact H.out i hi
def SimS.ext{h:Ap}{s:Ff}{t:Array Value}(E:Ext J β h w J' β' h' w')(H:SimS J β h w s t):SimS J' β' h' w' s t:=⟨fun i v k=>Rep.ext E (H.slot i v k),H.out⟩
def Inv.step(I:Inv Z nt J β st a w)(A:Step J β st.h w J' β' h' w')(L:∀ b x,Ah h' b=some x->Ah st.h b=none->Fp<=b):Inv Z nt J' β' {s:=st.s,h:=h'} a w' where
 sim:=A.sim
 ss:=I.ss.ext A.ext
 tmps:=I.tmps
 defers:=I.defers
 os:=A.os.trans I.os
 tape:=A.tape.trans I.tape
 output:=A.output.trans I.output
 size:=Aal I.size A.size
 frame k C D:=(A.frame k (zV C I.size) (fun hm'=>D (I.wr k hm' C))).trans (I.frame k C D)
 wr k D C:=I.wr k (A.wr k D (zV C I.size)) C
 jsub o k hj:=A.ext.jsub o k (I.jsub o k hj)
 jup o k hj:=by
  rcases A.jup o k hj with T|T|T
  ·exact I.jup o k T
  ·by_cases C:k<Z.w.heap.size
   ·exact .inr (.inl (I.wr k T C))
   ·exact .inr (.inr (by omega))
  ·exact .inr (.inr (Aal I.size T))
 sizes k:=by
  refine Aal (I.sizes k) ?_
  by_cases D:∃ b o,β b=some (k,o)
  ·obtain⟨b,o,G⟩:=D;exact A.ext.size b k o G
  ·by_cases C:k<w.heap.size
   ·have:=A.frame k C (fun ⟨b,x,o,_,_,_,G⟩=>D ⟨b,o,G⟩)
    simp[Aw,this]
   ·simp[Aw,Aas (Aa7 C)]
 outs b x0 x h0 hx hd:=by
  cases G:Ah st.h b with
  |none=>have:=L b x hx G;have:=I.zlt b x0 h0;unfold Fp at *;omega
  | some y =>
   obtain⟨x',⟨g1,gm⟩,Y⟩:=A.ext.blk b y G
   change Ah h' b=some x at hx
   rw[hx]at g1;simp at g1;subst g1
   rcases Y with Y|⟨Y,g3,g4,g5⟩
   ·simp[hd]at Y
   ·obtain⟨⟨e1,em⟩,e2,e3,e4⟩:=I.outs b x0 y h0 G Y
    exact⟨⟨g3.trans e1,gm.trans em⟩,g4.trans e2,fun h=>(g5 (em.trans h)).trans (e3 h),e4⟩
 zlt:=I.zlt
 zge:=I.zge
def Inv.put(I:Inv Z nt J β st a w){d:Option Nat}{v:AV}{vc:Value}(k:Rep J β st.h w v vc):Inv Z nt J β {s:=kW nt st.s d v,h:=st.h} (a.put d vc) w where
 sim:=I.sim
 ss:=I.ss.put I.tmps k
 tmps:=by cases d<;>simp[Act.put,I.tmps]
 defers:=by cases d<;>simp[Act.put,I.defers]
 os:=I.os
 tape:=I.tape
 output:=I.output
 size:=I.size
 frame:=I.frame
 wr:=I.wr
 jsub:=I.jsub
 jup:=I.jup
 sizes:=I.sizes
 zlt:=I.zlt
 zge:=I.zge
 outs:=I.outs
def VF{d:Nat}{F:List Nat}{h:Ap}:∀{ups:C5},FJ d F h ups=true->∀ b,Ay ups b=true->(Vw d b=true/\Ah h b=none)\/(Vw d b=false/\D9 F b=true/\∃ x,Ah h b=some x)
|[],_,b,C=>by simp[Ay]at C
| (i,_)::r,k,b,C=>by
  rw[FJ]at k
  simp at k
  rw[Ay]at C
  cases hi:beq i b with
  | true =>
   have:i=b:=zM hi
   subst this
   cases D:Vw d i with
   |true=>rw[D]at k;simp at k;exact .inl ⟨rfl,k.1⟩
   |false =>
    rw[D]at k;simp at k
    obtain⟨⟨G,I⟩,_⟩:=k
    exact .inr ⟨rfl,G,Ad6.1 I⟩
  |false=>rw[hi]at C;exact VF k.2 b (by simpa using C)
def pm{d b:Nat}(k:Vw d b=true):Fp<=b:=by
 unfold Vw nid at k
 simp at k
 unfold Fp;omega
def fI{d:Nat}{F:List Nat}{h:Ap}{ups:C5}(G:FJ d F h ups=true){b:Nat}{x:Blk}(k:Ah (Ai ups h) b=some x)(C:Ah h b=none):Fp<=b:=by
 cases hi:Ay ups b with
|false=>rw[Bj _ _ _ hi,C]at k;cases k
|true =>
  rcases VF G b hi with⟨I,_⟩|⟨_,_,y,D⟩
  ·exact pm I
  ·rw[C]at D;cases D
def kp{h:Ap}{F:List Nat}:Looks (fun b=>cond (D9 F b) (Ah h b) none) h:=fun b x k=>by
 cases C:D9 F b with
|true=>simpa[C]using k
|false=>simp[C]at k
def ZN{h:Ap}{s:Ff}(H:SimS J β h w s a.tmps){t:Bool}(k:Xe ops s o=some t):Region.wanted o (yielded ops a.tmps)=t:=by
 unfold Xe at k
 unfold Region.wanted
 split at k
 ·rename_i D;rw[D];simpa using k
 ·rename_i j want D
  rw[D]
  simp only
  unfold yielded
  split at k
  ·rename_i t' G
   rw[G]
   simp only[Aaq]
   cases L:a.tmps[t']? with
   |none =>
    have:=H.out t' (by simpa using L)
    rw[this]at k;simp at k
   | some v =>
    have C:=H.slot t' v L
    split at k
    ·rename_i b I
     rw[I,Rep]at C;subst C
     simp at k;subst k
     simp
    ·rename_i I
     rw[I,Rep]at C
     obtain⟨cs,rfl,hc⟩:=C
     rw[Reps]at hc;subst hc
     simp at k;subst k
     simp
    ·simp at k
  ·rename_i G
   rw[G]
   simp at k;subst k
   simp
def VG{E:Env}(hC:HG E)(I:Inv Z E.nt J β st a w){k:St->Foot->O R}(hh:iF E ops o st k=some r){K:Act->World->Prop}{Q:Exit->Act->World->Prop}:
  ∃ st' f,k st' f=some r/\((∀ a' w' J' β',Inv Z E.nt J' β' st' a' w'->K a' w')->if Region.wanted o (yielded ops a.tmps)then o.wp E.P a w K Q else K (a.put o.dst undef) w):=by
 unfold iF at hh
 obtain⟨t,L,C⟩:=ub hh
 rw[ZN I.ss L]
 cases t with
|false =>
  refine⟨_,_,C,fun hK=>?_⟩
  simp only[Aa0,if_false]
  exact hK _ _ J β (I.put (by rw[Rep];exact⟨[],rfl,by rw[Reps]⟩))
| true =>
  rw[cond_true]at C
  obtain⟨val,ups,T,Y⟩:=kj (o:=o) (next:=K) (Q:=Q) hC I.sim I.ss kp C
  obtain⟨G,h4⟩:=uc T
  refine⟨_,_,h4,fun hK=>?_⟩
  simp only[if_true]
  refine Y (fun b hb D=>?_) (fun vc w' hd=>?_)
  ·rcases VF G b hb with⟨_,g⟩|⟨g,_⟩
   ·exact g
   ·rw[D]at g;cases g
  ·obtain⟨J',β',A,hv⟩:=hd
   exact hK _ _ J' β' ((I.step A (fun b x hx D=>fI G hx D)).put hv)
def Eqv(a b:St):Prop:=(∀ t,Es a.s t=Es b.s t)/\(∀ b',Ah a.h b'=Ah b.h b')
def Eqv.refl(a:St):Eqv a a:=⟨fun _=>rfl,fun _=>rfl⟩
def Eqv.symm{a b:St}(h:Eqv a b):Eqv b a:=⟨fun t=>(h.1 t).symm,fun t=>(h.2 t).symm⟩
def Eqv.trans{a b c:St}(h:Eqv a b)(k:Eqv b c):Eqv a c:=⟨fun t=>(h.1 t).trans (k.1 t),fun t=>(h.2 t).trans (k.2 t)⟩
def Inv.eqv{nt:Nat}{J:Bool->Nat->Prop}{β:Bt}{st st2:St}{a:Act}{w:World}(I:Inv Z nt J β st a w)(h:Eqv st st2):Inv Z nt J β st2 a w:=by
 have hr:∀{x v},Rep J β st.h w x v->Rep J β st2.h w x v:=fun G=>Rep.ext ⟨fun _ _ L=>L,fun _ _ _=>rfl,fun b x C=>⟨x,⟨by rw[<-h.2 b];exact C,rfl⟩,by cases D:x.dead<;>simp⟩,fun _ _ _ _=>zE _⟩ G
 refine⟨⟨I.sim.jlt,I.sim.jft,I.sim.gl,fun b x C D T=>?_,fun b x C D T=>I.sim.mblk b x (by rw[h.2];exact C) D T,fun b b' x x' k o o' C Y=>I.sim.sep b b' x x' k o o' (by rw[h.2];exact C) (by rw[h.2];exact Y)⟩,⟨fun i v hv=>by rw[<-h.1 i];exact hr (I.ss.slot i v hv),fun i hi=>by rw[<-h.1 i];exact I.ss.out i hi⟩,I.tmps,I.defers,I.os,I.tape,I.output,I.size,I.frame,?_,I.jsub,I.jup,I.sizes,I.zlt,I.zge,fun b x0 x h0 G=>I.outs b x0 x h0 (by rw[h.2];exact G)⟩
 ·rcases I.sim.blk b x (by rw[h.2];exact C) D T with h1|⟨k,o,cs,ty,fr,h1,h2,h3,h4,h5,h6⟩
  ·exact .inl h1
  ·exact .inr ⟨k,o,cs,ty,fr,h1,h2,h3,h4,⟨h5.1,fun hp j c L=>by
    obtain⟨u,g1,g2,g3⟩:=h5.2 hp j c L
    exact⟨u,g1,hr g2,g3⟩⟩,h6⟩
 ·rintro k ⟨b,x,o,C,D,hs,hβ⟩ hk
  exact I.wr k ⟨b,x,o,by rw[h.2];exact C,D,hs,hβ⟩ hk
def VH{st:St}{k:St->O R}(hh:NM ops o st k=some r):∃ st',Eqv st st'/\k st'=some r:=by
 unfold NM at hh
 split at hh
 ·exact⟨st,Eqv.refl _,hh⟩
 ·rename_i j want G
  split at hh
  ·exact⟨st,Eqv.refl _,hh⟩
  ·rename_i t I
   split at hh
   ·rename_i b D
    have key:∀ c:Bool,b=c->Eqv st {s:=AW st.s t (.bool c),h:=st.h}:=by
     intro c hc
     refine⟨fun i=>?_,fun _=>rfl⟩
     simp only
     rw[H5]
     by_cases e:i=t
     ·subst e;rw[if_pos rfl,D,hc]
     ·rw[if_neg e]
    cases C:(b==want)with
    |true =>
     rw[C]at hh
     exact⟨_,key want (by simpa using C),hh⟩
    |false =>
     rw[C]at hh
     exact⟨_,key (!want) (by cases b<;>cases want<;>simp_all),hh⟩
   ·exact⟨st,Eqv.refl _,hh⟩
def bY{i:Int}{k:Nat->O R}:∀{m j:Nat},QA i k m j=some r->∃ q:Nat,i=(q:Int)/\k q=some r
|0,_,h=>by cases h
|m+1,j,h=>by
  rw[QA]at h
  cases hc:i==(j:Int)with
  |true=>rw[hc]at h;exact⟨j,by simpa using hc,h⟩
  |false=>rw[hc]at h;exact bY h
def QN{E:Env}{o:Oper}{st:St}{k:St->O R}(hh:DQ E o st k=some r):∃ st',Eqv st st'/\k st'=some r:=by
 unfold DQ at hh
 split at hh
 ·rename_i i d G I
  cases hc:D9 E.cob (d+6000000)with
  |false=>rw[hc]at hh;exact⟨st,Eqv.refl _,hh⟩
  | true =>
   rw[hc,cond_true]at hh
   split at hh
   ·rename_i kd n C
    obtain⟨q,hq,D⟩:=bY hh
    subst hq
    refine⟨{s:=AW st.s i (.int kd (q:Int)),h:=st.h},⟨fun j=>?_,fun _=>rfl⟩,D⟩
    simp only
    rw[H5]
    by_cases e:j=i
    ·subst e;rw[if_pos rfl,C]
    ·rw[if_neg e]
   ·exact⟨st,Eqv.refl _,hh⟩
 ·exact⟨st,Eqv.refl _,hh⟩
def VI{E:Env}(hC:HG E){Q:Exit->Act->World->Prop}:∀(l:List Oper){st:St}{tr:List Foot}{k:St->List Foot->O R}{a:Act}{w:World}{J:Bool->Nat->Prop}{β:Bt},
  Inv Z E.nt J β st a w->UR E ops l st tr k=some r->(∀ st' C a' w' J' β',Inv Z E.nt J' β' st' a' w'->k st' C=some r->Q .normal a' w')->wpList E.P ops Q l a w
|[],st,tr,k,a,w,J,β,I,hh,hQ=>hQ st tr a w J β I hh
|o::l,st,tr,k,a,w,J,β,I,hh,hQ=>by
  rw[UR]at hh
  obtain⟨st0,D,hh⟩:=VH hh
  obtain⟨hI,G,hh⟩:=QN hh
  have T:=D.trans G
  obtain⟨st',f,Y,h2⟩:=VG (K:=wpList E.P ops Q l) (Q:=Q) hC (I.eqv T) hh
  have:=h2 (fun a' w' J' β' I'=>VI hC l I' Y hQ)
  rw[wpList]
  split
  ·rename_i L;rw[if_pos L]at this;exact .inl this
  ·rename_i L;rw[if_neg L]at this;exact this
end
end Gx
namespace Gx
open Go
def Hs:∀{l:List Nat}{b:Nat},D9 l b=true↔b∈l
  |[],b=>by simp[D9]
  | i::r,b=>by
    rw[D9]
    cases hi:beq i b with
    |true=>have:=zM hi;subst this;simp
    | false => have := Pf hi; simp only [cond_false, zX]; rw [Hs]; constructor
               · exact fun h=>.inr h
               · rintro(h | h)
                 · exact absurd h.symm this
                 · exact h
def M9:∀{l:List Nat},BB l=true->l.Nodup
|[],_=>Aeu
|i::r,h=>by
  rw[BB]at h;simp at h
  refine Aae.2 ⟨fun k=>?_,M9 h.2⟩
  rw[Hs.2 k]at h;simp at h
def NV{g:A1}{ids:List Nat}:∀{l:List Nat},UT g ids l=true->∀ b∈l,∀ x,Et g b=some x->b∈ids
|[],_,b,k,_,_=>by simp at k
| i::r,h,b,k,x,D=>by
  rw[UT]at h;simp at h
  rcases zX.1 k with e|k
  ·subst e
   rcases h.1 with C|C
   ·exact Hs.1 C
   ·rw[D]at C;simp at C
  ·exact NV h.2 b k x D
def i6:∀{l:List Nat},mS l=true->∀ b∈l,Fp<=b->Hr b<100000
|[],_,b,k,_=>by simp at k
| i::r,h,b,k,C=>by
  rw[mS]at h;simp at h
  rcases zX.1 k with e|k
  ·subst e
   have:ble Fp b=true:=by simpa using C
   rw[this]at h;simpa using h.1
  ·exact i6 h.2 b k C
def Rs(g:A1):∀ c:LA,(Hb g c).length=c.length
|[]=>rfl
|x::r=>by rw[Hb,z8,z8,Rs g r]
section
variable{R:Type}{r:R}{Z:Start}{nt:Nat}{J J':Bool->Nat->Prop}{β β':Bt}{st:St}{h h':Ap}{a:Act}{w w':World}{ids:List Nat}
def Iv(g:A1)(x:Blk):Blk:={x with cells:=cond x.pure x.cells (Hb g x.cells)}
def HI{g:A1}:∀{ids:List Nat},(ids.map Hr).Nodup->∀ c y,Ah (Ro g ids) c=some y->∃ b x,b∈ids/\Hr b=c/\Et g b=some x/\y=Iv g x
|[],_,c,y,hc=>by simp[Ro,Ah]at hc
| b::r,k,c,y,hc=>by
  rw[z_,Aae]at k
  rw[Ro]at hc
  split at hc
  ·rename_i x T
   rw[Ae]at hc
   by_cases e:c=Hr b
   ·rw[if_pos e]at hc;simp at hc
    exact⟨b,x,by simp,e.symm,T,hc.symm⟩
   ·rw[if_neg e]at hc
    obtain⟨C,x',D,G,I,L⟩:=HI k.2 c y hc
    exact⟨C,x',by simp[D],G,I,L⟩
  ·obtain⟨C,x',D,G,I,L⟩:=HI k.2 c y hc
   exact⟨C,x',by simp[D],G,I,L⟩
def Rt{g:A1}:∀{ids:List Nat},(ids.map Hr).Nodup->∀ b x,b∈ids->Et g b=some x->Ah (Ro g ids) (Hr b)=some (Iv g x)
|[],_,b,x,C,_=>by simp at C
| I::r,k,b,x,C,D=>by
  rw[z_,Aae]at k
  rw[Ro]
  by_cases e:b=I
  ·subst e
   rw[D]
   simp only
   rw[Ae,if_pos rfl];rfl
  ·have G:b∈r:=by simpa[e]using C
   have ne:Hr b≠Hr I:=fun h=>k.1 (by rw[<-h];exact zr.2 ⟨b,G,rfl⟩)
   split
   ·rw[Ae,if_neg ne];exact Rt k.2 b x G D
   ·exact Rt k.2 b x G D
def VJ(ids:List Nat)(c:Nat):Option Nat:=ids.find? fun b=>beq (Hr b) c
def H7(k:(ids.map Hr).Nodup){b:Nat}(C:b∈ids):VJ ids (Hr b)=some b:=by
 induction ids with
|nil=>simp at C
| cons i r D =>
  rw[z_,Aae]at k
  unfold VJ at D ⊢
  rw[List.find?_cons]
  by_cases e:b=i
  ·subst e;simp
  ·have G:b∈r:=by simpa[e]using C
   have ne:Hr i≠Hr b:=fun h=>k.1 (by rw[h];exact zr.2 ⟨b,G,rfl⟩)
   rw[AK ne];exact D k.2 G
def tC(g:A1)(ids:List Nat)(l:List Nat):Prop:=∀ b∈l,∀ x,Et g b=some x->b∈ids
def nh{b:Nat}:Et (Ah h) b=(Ah h b).bind fun x=>cond x.dead none (some x):=rfl
def HJ{b:Nat}{x y:Blk}(D:Ah h b=some x)(k:Et (Ah h) b=some y):y=x/\x.dead=false:=by
 rw[nh,D]at k
 cases C:x.dead with
|true=>simp[C]at k
|false=>simp[C]at k;exact⟨k.symm,rfl⟩
mutual
def Rep.clean(hn:(ids.map Hr).Nodup):∀{x:AV}{v:Value},tC (Ah h) ids (E9 x)->Rep J β h w x v ->
  Rep J (fun c=>(VJ ids c).bind β) (Ro (Ah h) ids) w (Rm (Ah h) x) v
| .own b off n,v,hm,hr=>by
  rw[Rep]at hr
  obtain⟨x,A,cap,⟨hx,hmp⟩,h1,h2,h3⟩:=hr
  rw[Rm]
  cases hv:Et (Ah h) b with
  |none=>simp only;rw[Rep];trivial
  | some y =>
   obtain⟨rfl,hd⟩:=HJ hx hv
   have hb:=hm b (by simp[E9]) _ hv
   simp only
   rw[Rep]
   refine⟨Iv (Ah h) y,A,cap,⟨Rt hn b y hb hv,hmp⟩,h1,h2,?_⟩
   rcases h3 with h3|⟨k,o,h4,h5⟩
   ·exact .inl h3
   ·refine .inr ⟨k,o,h4,?_⟩
    rcases h5 with h5|⟨h5,h6,h7⟩
    ·simp[hd]at h5
    ·refine .inr ⟨by rw[H7 hn hb];exact h5,h6,?_⟩
     have:(Iv (Ah h) y).cells.length=y.cells.length:=by
      unfold Iv;cases y.pure
      ·simp;exact Rs _ _
      ·rfl
     rw[this];exact h7
| .optr b off,v,hm,hr=>by
  rw[Rep]at hr
  obtain⟨x,k,o,⟨hx,hmp⟩,h1,h2⟩:=hr
  rw[Rm]
  cases hv:Et (Ah h) b with
  |none=>simp only;rw[Rep];trivial
  |some y =>
   obtain⟨rfl,hd⟩:=HJ hx hv
   have hb:=hm b (by simp[E9]) _ hv
   simp only
   rw[Rep]
   refine⟨Iv (Ah h) y,k,o,⟨Rt hn b y hb hv,hmp⟩,h1,?_⟩
   rcases h2 with h2|h2
   ·simp[hd]at h2
   ·exact .inr (by rw[H7 hn hb];exact h2)
| .omap b,v,hm,hr=>by
  rw[Rep]at hr
  obtain⟨x,k,⟨hx,hmp⟩,h2⟩:=hr
  rw[Rm]
  cases hv:Et (Ah h) b with
  |none=>simp only;rw[Rep];trivial
  |some y =>
   obtain⟨rfl,hd⟩:=HJ hx hv
   have hb:=hm b (by simp[E9]) _ hv
   simp only
   rw[Rep]
   refine⟨Iv (Ah h) y,k,⟨Rt hn b y hb hv,hmp⟩,?_⟩
   rcases h2 with h2|h2
   ·simp[hd]at h2
   ·exact .inr (by rw[H7 hn hb];exact h2)
|.agg c,v,hm,hr=>by
  rw[Rep]at hr
  obtain⟨cs,h1,h2⟩:=hr
  rw[Rm,Rep]
  exact⟨cs,h1,Reps.clean hn (by simpa[E9]using hm) h2⟩
|.tup c,v,hm,hr=>by
  rw[Rep]at hr
  obtain⟨cs,h1,h2⟩:=hr
  rw[Rm,Rep]
  exact⟨cs,h1,Reps.clean hn (by simpa[E9]using hm) h2⟩
|.fn f c,v,hm,hr=>by
  rw[Rep]at hr
  obtain⟨cs,h1,h2⟩:=hr
  rw[Rm,Rep]
  exact⟨cs,h1,Reps.clean hn (by simpa[E9]using hm) h2⟩
|.pagg c o,v,hm,hr=>by show Rep J _ _ w (.pagg c o) v;rw[Rep]at hr ⊢;exact hr
|.undef,v,hm,hr=>by show Rep J _ _ w .undef v;rw[Rep]at hr ⊢;exact hr
|.imm c n sz t o,v,hm,hr=>by show Rep J _ _ w (.imm c n sz t o) v;rw[Rep]at hr ⊢;exact hr
|.iptr c o,v,hm,hr=>by show Rep J _ _ w (.iptr c o) v;rw[Rep]at hr ⊢;exact hr
|.int k n,v,hm,hr=>by show Rep J _ _ w (.int k n) v;rw[Rep]at hr ⊢;exact hr
|.bool b,v,hm,hr=>by show Rep J _ _ w (.bool b) v;rw[Rep]at hr ⊢;exact hr
|.str s,v,hm,hr=>by show Rep J _ _ w (.str s) v;rw[Rep]at hr ⊢;exact hr
|.nsl,v,hm,hr=>by show Rep J _ _ w .nsl v;rw[Rep]at hr ⊢;exact hr
|.nilptr,v,hm,hr=>by show Rep J _ _ w .nilptr v;rw[Rep]at hr ⊢;exact hr
|.nilfn,v,hm,hr=>by show Rep J _ _ w .nilfn v;rw[Rep]at hr ⊢;exact hr
def Reps.clean(hn:(ids.map Hr).Nodup):∀{c:List AV}{cs:List Value},tC (Ah h) ids (F8 c)->Reps J β h w c cs ->
  Reps J (fun c=>(VJ ids c).bind β) (Ro (Ah h) ids) w (Hb (Ah h) c) cs
|[],cs,hm,hr=>by rw[Reps]at hr;rw[Hb,Reps];exact hr
|x::r,cs,hm,hr=>by
  rw[Reps]at hr
  obtain⟨u,us,h1,h2,h3⟩:=hr
  rw[Hb,Reps]
  exact⟨u,us,h1,Rep.clean hn (fun b hb=>hm b (by simp[F8,hb])) h2,Reps.clean hn (fun b hb=>hm b (by simp[F8,hb])) h3⟩
end
def Tq{g:A1}{K:List Nat}:∀{s:Ff}{i:Nat},Es (NN g K s) i=if D9 K i=true then Rm g (Es s i)else .undef
|[],i=>by
  simp only[NN,Es]
  show AV.undef=if D9 K i=true then AV.undef else AV.undef
  split<;>rfl
| (t,v)::r,i=>by
  rw[NN,Es]
  cases k:D9 K t with
  | true =>
   simp only[cond_true,Es]
   cases hi:beq t i with
   |true =>
    have:=zM hi;subst this
    simp[k]
   |false=>simp only[cond_false];exact Tq
  | false =>
   simp only[cond_false]
   rw[Tq]
   cases hi:beq t i with
   |true =>
    have:=zM hi;subst this
    simp[k]
   |false=>rfl
def VK{K:List Nat}:∀{s:Ff}{i:Nat},D9 K i=true->∀ b∈E9 (Es s i),b∈US K s
|[],i,_,b,k=>by simp[Es,E9]at k
| (t,v)::r,i,C,b,k=>by
  rw[Es]at k
  rw[US]
  cases hi:beq t i with
  |true =>
   have:=zM hi;subst this
   rw[hi]at k
   rw[C];simp at k ⊢;exact .inl k
  |false =>
   rw[hi]at k
   have:=VK C b k
   cases D9 K t
   ·exact this
   ·simp;exact .inr this
def NW{g:A1}:∀{ids:List Nat}{b:Nat}{x:Blk},b∈ids->g b=some x->x.pure=false->∀ c∈F8 x.cells,c∈Hq g ids
|[],b,x,k,_,_,_,_=>by simp at k
|i::r,b,x,k,C,D,c,hc=>by
  rw[Hq]
  by_cases e:b=i
  ·subst e;rw[C];simp only[D,cond_false];exact zP.2 (.inl hc)
  ·exact zP.2 (.inr (NW (by simpa[e]using k) C D c hc))
def NX:∀{c:LA}{j:Nat}{x:AV},c[j]?=some x->∀ b∈E9 x,b∈F8 c
|[],j,x,k,_,_=>by simp at k
|y::r,j,x,k,b,C=>by
  rw[F8]
  cases j with
  |zero=>simp at k;subst k;exact zP.2 (.inl C)
  |succ j=>exact zP.2 (.inr (NX (by simpa using k) b C))
def QO{g:A1}:∀{c:LA}{j:Nat}{y:AV},(Hb g c)[j]?=some y->∃ x,c[j]?=some x/\y=Rm g x
|[],j,y,k=>by simp[Hb]at k
|x::r,j,y,k=>by
  rw[Hb]at k
  cases j with
  |zero=>simp at k;exact⟨x,by simp,k.symm⟩
  |succ j=>obtain⟨x',C,D⟩:=QO (c:=r) (j:=j) (by simpa using k);exact⟨x',by simpa using C,D⟩
def ni{b:Nat}(k:b<Fp):Hr b=b:=by
 unfold Hr
 have:ble Fp b=false:=by
  cases h:ble Fp b with
  |false=>rfl
  |true=>have:=Ac0 h;omega
 rw[this];rfl
def i7{K roots:List Nat}{st':St}(I:Inv Z nt J β st a w)(hh:clean K roots st=some st'):∃ β',Inv Z nt J β' st' a w:=by
 unfold clean at hh
 obtain⟨hc,h1⟩:_/\_:=uc hh
 simp only[zJ]at hc
 obtain⟨c1,c2,c3,c4⟩:=hc
 generalize hids:Tp (Ah st.h) (Rl (Ah st.h) (US K st.s++roots))=ids at *
 simp at h1
 have hn:=M9 c1
 have blk:∀ c y,Ah (Ro (Ah st.h) ids) c=some y->∃ b x,b∈ids/\Hr b=c/\Ah st.h b=some x/\x.dead=false/\y=Iv (Ah st.h) x:=by
  intro c y T
  obtain⟨b,x,g1,g2,g3,g4⟩:=HI hn c y T
  have D:Ah st.h b=some x/\x.dead=false:=Cu (fun _ _ h=>h) g3
  exact⟨b,x,g1,g2,D.1,D.2,g4⟩
 have Y:∀ x:Blk,(Iv (Ah st.h) x).cells.length=x.cells.length:=fun x=>by
  unfold Iv;cases x.pure
  ·simp;exact Rs _ _
  ·rfl
 refine⟨fun c=>(VJ ids c).bind β,?_⟩
 subst h1
 refine⟨⟨I.sim.jlt,I.sim.jft,I.sim.gl,fun c y T hd hm=>?_,fun c y T hd hm=>by
   obtain⟨b,x,G,rfl,D,C,rfl⟩:=blk c y T
   obtain⟨g1,g2,k,ob,g3,g4,g5,g6⟩:=I.sim.mblk b x D C hm
   have:(Iv (Ah st.h) x).cells=x.cells:=by unfold Iv;rw[g1];rfl
   exact⟨g1,g2,k,ob,by simp only[H7 hn G,Aaq];exact g3,g4,by rw[ObjIs,show(Iv (Ah st.h) x).sz=x.sz from rfl,this];exact g5,g6⟩,?_⟩,⟨fun i v hv=>?_,fun i hi=>?_⟩,I.tmps,I.defers,I.os,I.tape,I.output,I.size,I.frame,?_,I.jsub,I.jup,I.sizes,I.zlt,I.zge,?_⟩
 ·obtain⟨b,x,G,rfl,D,C,rfl⟩:=blk c y T
  rcases I.sim.blk b x D C hm with⟨g1,g2⟩|⟨k,o,cs,ty,fr,g1,g2,g3,g4,g5,g6,g7⟩
  ·refine .inl ⟨by simp only[H7 hn G,Aaq];exact g1,?_⟩
   have:=Y x;rw[g2]at this;simpa using this
  ·refine .inr ⟨k,o,cs,ty,fr,by simp only[H7 hn G,Aaq];exact g1,g2,g3,by rw[Y];exact g4,⟨fun hp=>?_,fun hp j q hj=>?_⟩,g6,g7⟩
   ·have L:x.pure=true:=hp
    have:(Iv (Ah st.h) x).cells=x.cells:=by unfold Iv;rw[L];rfl
    rw[this];exact g5.1 L
   ·have L:x.pure=false:=hp
    have:(Iv (Ah st.h) x).cells=Hb (Ah st.h) x.cells:=by unfold Iv;rw[L];rfl
    rw[this]at hj
    obtain⟨q',hq,rfl⟩:=QO hj
    obtain⟨u,hu,hr,ho⟩:=g5.2 L j q' hq
    exact⟨u,hu,Rep.clean hn (fun b' hb' x' hx'=>NV c3 b' (NW G D L b' (NX hq b' hb')) x' hx') hr,ho⟩
 ·intro c c' y y' k o o' T hy' hd hd' hs hβ hβ'
  obtain⟨b,x,G,rfl,D,C,rfl⟩:=blk c y T
  obtain⟨b',x',hb',rfl,hx',hxd',rfl⟩:=blk c' y' hy'
  simp only[H7 hn G,Aaq]at hβ
  simp only[H7 hn hb',Aaq]at hβ'
  rw[I.sim.sep b b' x x' k o o' D hx' C hxd' hs hβ hβ']
 ·rw[Tq]
  split
  ·rename_i hk
   exact Rep.clean hn (fun b G x D=>NV c2 b (VK hk b G) x D) (I.ss.slot i v hv)
  ·rw[Rep];trivial
 ·rw[Tq,I.ss.out i hi]
  split
  ·rfl
  ·rfl
 ·rintro k ⟨c,y,o,T,hd,hs,hβ⟩ hk
  obtain⟨b,x,G,rfl,D,C,rfl⟩:=blk c y T
  simp only[H7 hn G,Aaq]at hβ
  exact I.wr k ⟨b,x,o,D,C,hs,hβ⟩ hk
 ·intro c x0 y h0 T hd
  obtain⟨b,x,G,rfl,D,C,rfl⟩:=blk c y T
  have hlt:=I.zlt _ _ h0
  have hge:=I.zge _ _ h0
  have hbo:Hr b=b:=by
   by_cases hnb:Fp<=b
   ·have:=i6 c4 b G hnb;omega
   ·exact ni (by omega)
  rw[hbo]at h0
  obtain⟨⟨e1,em⟩,e2,e3,e4⟩:=I.outs b x0 x h0 D C
  refine⟨⟨?_,em⟩,e2,by rw[Y];exact e3,e4⟩
  simp only[H7 hn G,Aaq];rw[hbo];exact e1
end
end Gx
namespace Gx
open Go
section
variable{R:Type}
def Aj{α β:Type}(b:Bool)(x y:Option α)(f:α->Option β):(cond b x y).bind f=cond b (x.bind f) (y.bind f):=by cases b<;>rfl
def P6{R':Type}(P:Program)(t:TypeId)(c:LA)(o:Bool)(k:Bool->Option R')(f:R'->O R):(P3 P t c o k).bind f=P3 P t c o fun o=>(k o).bind f:=by unfold P3;simp only[Aj,Ac5]
def Na(P:Program)(t:TypeId)(c:LA)(org:Bool)(k:AV->O R):AX P t c org k=(AX P t c org some).bind k:=by
 unfold AX
 split<;>simp[zC,Aj,P6]<;>rfl
def kq(P:Program)(t:TypeId)(c:LA)(k:AV->O R):P' P t c k=(P' P t c some).bind k:=by
 unfold P'
 split<;>simp[zC,Aj]
def QP(n:Nat)(k:AV->O R):∀(c:LA)(i:Nat),Xb n k c i=(Xb n some c i).bind k
|[],_=>rfl
|v::r,i=>by rw[Xb,Xb,Aj,QP n k r (i+1)];rfl
def QQ(P:Program)(t:TypeId)(c:LA)(off:Nat)(k:AV->O R):AY P t c off k=(AY P t c off some).bind k:=by
 unfold AY
 split
 ·simp[zC,Aj]
 ·simp[zC,Aj]
 ·exact QP ..
 ·rfl
def Xp(P:Program)(g:A1)(t:TypeId)(p:AV)(k:AV->O R):UN P g t p k=(UN P g t p some).bind k:=by
 unfold UN
 split
 ·exact Na ..
 ·rw[zC]
  congr 1;funext x
  rw[Aj,<-Na,<-QQ]
 ·rfl
def Zr(P:Program)(t:TypeId)(x i:AV)(k:AV->O R):M0 P t x i k=(M0 P t x i some).bind k:=by
 unfold M0
 split<;>simp[zC,Aj]
def VL{R':Type}(i:Int)(k:Nat->O R)(C:R->Option R'):∀ m j,(QA i k m j).bind C=QA i (fun q=>(k q).bind C) m j
|0,_=>rfl
|m+1,j=>by rw[QA,QA,Aj,VL i k C m (j+1)]
def Zs(P:Program)(t:TypeId)(x:AV)(f:Nat)(k:AV->O R):M1 P t x f k=(M1 P t x f some).bind k:=by
 unfold M1
 simp only[zC,Aj]
 congr 1;funext p;congr 1;funext n;congr 1
 split<;>rfl
def QR(P:Program)(t:TypeId)(x:AV)(f:Nat)(k:AV->O R):NB P t x f k=(NB P t x f some).bind k:=by
 unfold NB
 rw[zC]
 congr 1;funext p
 split
 ·exact Na ..
 ·exact kq ..
 ·rfl
def QS(P:Program)(t:TypeId)(x i:AV)(k:AV->O R):NC P t x i k=(NC P t x i some).bind k:=by
 unfold NC
 split
 ·simp[Aj]
 ·simp only[zC,Aj,<-Na];rfl
 ·simp only[zC,Aj,<-QQ];rfl
 ·rfl
def P7{α:Type}(lo hi mx:Option AV)(n:Nat)(f:Nat->Nat->α)(k:α->O R):(P4 lo hi mx n fun l h=>k (f l h))=(P4 lo hi mx n fun l h=>some (f l h)).bind k:=by
 unfold P4
 simp[zC,Aj]
def QT(P:Program)(g:A1)(t:TypeId)(x:AV)(lo hi mx:Option AV)(k:AV->O R):ND P g t x lo hi mx k=(ND P g t x lo hi mx some).bind k:=by
 unfold ND
 split
 ·rw[Aj,<-P7];rfl
 ·rw[zC];congr 1;funext _;exact P7 lo hi mx 0 (fun _ _=>AV.nsl) k
 ·rw[zC];congr 1;funext _;rw[Aj,<-P7];rfl
 ·rw[zC];congr 1;funext _;rw[zC];congr 1;funext _;rw[Aj,<-P7];rfl
 ·simp only[zC,Aj];rfl
 ·rfl
def nk(P:Program)(t:TypeId)(op:BinOp)(x y:AV)(k:AV->O R):nU P t op x y k=(nU P t op x y some).bind k:=by
 unfold nU
 split
 ·split<;>simp[Aj]
 ·split<;>simp[Aj]
 ·split<;>simp[Aj]
 ·rfl
def pr(v:AV)(u:C5):Option (AV×C5):=some (v,u)
def Ru(P:Program)(c:LA)(org:Bool):∀(L:List (Nat×TypeId))(C:LA)(k:LA->O R),Zj P c org L C k=(Zj P c org L C some).bind k
|[],C,k=>rfl
|(off,t)::L,C,k=>by
  rw[Zj,Zj,Aj]
  congr 1
  rw[Na,Na (k:=fun v=>Zj P c org L (C++[v]) some),zC]
  congr 1;funext v
  exact Ru P c org L _ k
def i8{R':Type}(P:Program)(c:LA)(org:Bool)(L:List (Nat×TypeId))(C:LA)(k:LA->O R)(f:R->Option R'):(Zj P c org L C k).bind f=Zj P c org L C fun l=>(k l).bind f:=by rw[Ru,zC,<-Ru]
def i9(P:Program)(g:A1)(t:TypeId)(p v:AV)(k:AV->C5->O R):NE P g t p v k=(NE P g t p v pr).bind fun q=>k q.1 q.2:=by
 unfold NE
 split
 ·simp only[zC,Aj]
  congr 1;funext x;congr 1;funext n;congr 1;congr 1
  split<;>simp[Aj,i8,pr]
 ·rfl
def QU(P:Program)(co:Bool)(t:TypeId)(v:AV)(k:AV->O R):NG P co t v k=(NG P co t v some).bind k:=by
 unfold NG
 split
 ·rename_i c org
  rw[Ru,Ru (k:=fun l=>cond (beq c.length l.length) (some (AV.agg l)) none),zC]
  congr 1;funext l
  rw[Aj];rfl
 ·rfl
def bZ(P:Program)(g:A1)(d:Nat)(t:TypeId)(v:AV)(k:AV->C5->O R):iB P g d t v k=(iB P g d t v pr).bind fun q=>k q.1 q.2:=by
 unfold iB
 split<;>simp[zC,Aj,pr]
def NY(P:Program)(g:A1)(d:Nat)(t:TypeId)(len:Nat)(ps:List (Nat×AV))(k:AV->C5->O R):K4 P g d t len ps k=(K4 P g d t len ps pr).bind fun q=>k q.1 q.2:=by
 unfold K4
 split<;>simp[zC,Aj,pr,Oe]
def SP(P:Program)(g:A1)(d:Nat)(t:TypeId)(len:Nat)(ps:List (Nat×AV))(k:AV->C5->O R):M2 P g d t len ps k=(M2 P g d t len ps pr).bind fun q=>k q.1 q.2:=by
 unfold M2
 split<;>simp[zC,Aj,pr]
def fJ(P:Program)(g:A1)(t:TypeId)(ps:List (Nat×AV))(k:AV->C5->O R):DM P g t ps k=(DM P g t ps pr).bind fun q=>k q.1 q.2:=by
 unfold DM
 simp[zC,pr,Oe]
def np(P:Program)(t:TypeId)(co:Bool)(d:Nat)(v:AV)(k:AV->C5->O R):nW P t co d v k=(nW P t co d v pr).bind fun q=>k q.1 q.2:=by
 unfold nW
 split<;>simp[Aj,pr]
def ku(P:Program)(d:Nat)(t:TypeId)(l c:AV)(k:AV->C5->O R):bK P d t l c k=(bK P d t l c pr).bind fun q=>k q.1 q.2:=by
 unfold bK
 split<;>simp[zC,Aj,pr]
def fK(P:Program)(g:A1)(d:Nat)(t tx:TypeId)(s x:AV)(k:AV->C5->O R):DO P g d t tx s x k=(DO P g d t tx s x pr).bind fun q=>k q.1 q.2:=by
 unfold DO G'
 split<;>simp[zC,Aj,pr,P6]
def QV{α:Type}(kd:IntKind):∀(n:Nat)(c:LA)(f:LA->Option α)(k:α->O R),HB kd n c (fun l=>(f l).bind k)=(HB kd n c f).bind k
|0,_,_,_=>rfl
|n+1,c,f,k=>by
  simp only[HB,zC]
  congr 1;funext x;congr 1;funext v
  exact QV kd n _ (fun l=>f (.int kd v::l)) k
def i_(P:Program)(C sz b off n:Nat)(y:Blk)(new:LA×Nat×Bool)(k:AV->C5->O R):NH P C sz b off n y new k=(NH P C sz b off n y new pr).bind fun q=>k q.1 q.2:=by
 unfold NH
 split
 ·rw[Aj,<-QV];rfl
 ·rfl
def kv(P:Program)(g:A1)(t:TypeId)(s x:AV)(k:AV->C5->O R):bL P g t s x k=(bL P g t s x pr).bind fun q=>k q.1 q.2:=by
 unfold bL G'
 split
 ·simp only[zC,Aj,P6,<-i_];rfl
 ·simp[zC,Aj,pr,P6]
 ·rfl
def fL(P:Program)(g:A1)(d:Nat)(t:TypeId)(k:AV->C5->O R):DN P g d t k=(DN P g d t pr).bind fun q=>k q.1 q.2:=by
 unfold DN
 split<;>simp[Aj,pr]
def ia(P:Program)(g:A1)(t:TypeId)(s:AV)(k:AV->C5->O R):NI P g t s k=(NI P g t s pr).bind fun q=>k q.1 q.2:=by
 unfold NI
 split<;>simp[zC,Aj,pr]
def kw(P:Program)(g:A1)(d:Nat)(src dst:TypeId)(x:AV)(k:AV->C5->O R):bM P g d src dst x k=(bM P g d src dst x pr).bind fun q=>k q.1 q.2:=by
 unfold bM
 split
 ·split<;>simp[Aj,pr]
 ·split
  ·split<;>simp[pr]
  ·split
   ·split<;>simp[zC,pr]
   ·rfl
  ·rfl
 ·split
  ·rw[Aj,zC];simp only[Aj];rfl
  ·rfl
  ·rfl
 ·rfl
def ig(P:Program)(g:A1)(d:Nat)(src dst:TypeId)(x:AV)(k:AV->C5->O R):NJ P g d src dst x k=(NJ P g d src dst x pr).bind fun q=>k q.1 q.2:=by
 unfold NJ
 split
 ·split
  ·simp only[zC,Aj];rfl
  ·rfl
 ·split
  ·simp only[zC,Aj];rfl
  ·rfl
 ·exact kw ..
def SQ(g:A1)(x:AV)(k:AV->C5->O R):M3 g x k=(M3 g x pr).bind fun q=>k q.1 q.2:=by
 unfold M3
 split
 ·rfl
 ·simp only[zC,Aj];rfl
 ·rfl
def SR(P:Program)(g:A1)(t:TypeId)(x n:AV)(k:AV->C5->O R):M4 P g t x n k=(M4 P g t x n pr).bind fun q=>k q.1 q.2:=by
 unfold M4
 split
 ·rw[Aj];rfl
 ·simp only[zC]
  congr 1;funext y;congr 1;funext q
  split
  ·simp only[zC,Aj];rfl
  ·rfl
 ·rfl
def HK{R':Type}{f:R'->O R}{s1:TypeId->LA->LA->(Bool->Option R')->Option R'}{s2:TypeId->LA->LA->(Bool->O R)->O R}(hs:∀ t x y k,(s1 t x y k).bind f=s2 t x y fun b=>(k b).bind f){x y:LA}:
  ∀(l:List (Nat×TypeId))(k:Bool->Option R'),(Vs s1 x y l k).bind f=Vs s2 x y l fun b=>(k b).bind f
|[],k=>rfl
|(o,t)::r,k=>by
  rw[Vs,Vs,hs]
  congr 1;funext b
  exact HK hs r _
def DW{R':Type}{f:R'->O R}(P:Program):∀(d:Nat)(t:TypeId)(x y:LA)(k:Bool->Option R'),(SN P d t x y k).bind f=SN P d t x y fun b=>(k b).bind f
|0,t,x,y,k=>rfl
|d+1,t,x,y,k=>by
  rw[SN,SN]
  split<;>simp only[zC,Aj,Ac5]
  ·congr 1;funext sz;rw[HK (DW P d)]
  ·congr 1;funext s;congr 1;funext sz;rw[HK (DW P d)]
def ky(P:Program)(t:TypeId)(op:BinOp)(x y:AV)(k:AV->O R):bH P t op x y k=(bH P t op x y some).bind k:=by
 unfold bH
 split
 ·rw[zC]
  congr 1;funext s
  rw[Aj]
  congr 1
  split
  ·rw[DW];rfl
  ·rw[DW];rfl
  ·rfl
 ·exact nk ..
def VM(P:Program)(g:A1)(t:TypeId)(op:BinOp)(x y:AV)(k:AV->O R):bS P g t op x y k=(bS P g t op x y some).bind k:=by
 unfold bS
 split
 ·rw[Aj];congr 1;split<;>rfl
 ·exact ky ..
def VN(c x y:AV)(k:AV->O R):bU c x y k=(bU c x y some).bind k:=by
 unfold bU
 split<;>first|rfl|(rw[Aj];rfl)
def ii(P:Program)(g:A1)(co:Bool)(d:Nat)(t:TypeId)(k:AV->C5->O R):NF P g co d t k=(NF P g co d t pr).bind fun q=>k q.1 q.2:=by
 unfold NF
 split
 ·rw[zC];rfl
 ·exact bZ ..
 ·rfl
def VO:∀(T:List (Nat×Tw))(f:Nat)(C:LA)(h:Ap)(k:AV->Ap->O R),JK T f C h k=(JK T f C h fun v h'=>some (v,h')).bind fun p=>k p.1 p.2
|[],f,C,h,k=>rfl
|(g,t)::r,f,C,h,k=>by
  rw[JK,JK]
  cases beq g f
  ·exact VO r f C h k
  ·exact t.eq C h k
def kz(E:Env)(g:A1)(d f:Nat)(C:LA)(k:AV->C5->O R):bT E g d f C k=(bT E g d f C pr).bind fun q=>k q.1 q.2:=by
 unfold bT
 rw[zC]
 congr 1;funext q
 simp only[Aj,Ac5]
 congr 1
 rw[VO,VO (R:=AV×C5),zC]
 congr 1;funext p
 simp only[Aj,Ac5,pr,Aaq]
def ZO(d:Nat)(o:Option AV)(k:AV->C5->O R):Rk d o k=(Rk d o pr).bind fun q=>k q.1 q.2:=by
 unfold Rk
 split<;>rfl
def ij(P:Program)(g:A1)(t:TypeId)(m x y:AV)(k:AV->C5->O R):NK P g t m x y k=(NK P g t m x y pr).bind fun q=>k q.1 q.2:=by
 unfold NK
 split<;>simp[Aj,zC,pr]
def ik(P:Program)(d:Nat)(t:TypeId)(x:AV)(k:AV->C5->O R):NL P d t x k=(NL P d t x pr).bind fun q=>k q.1 q.2:=by
 unfold NL
 split<;>rfl
def lA(g:A1)(it:AV)(b:Bool)(k:AV->C5->O R):bR g it b k=(bR g it b pr).bind fun q=>k q.1 q.2:=by
 unfold bR
 split
 ·rw[zC];congr 1;funext x
  rw[Aj];congr 1
  split
  ·rename_i s p _
   cases decide (p<(s.length:Int))<;>rfl
  ·rfl
 ·rfl
def VP(P:Program)(g:A1)(t:TypeId)(m x:AV)(c:Bool)(k:AV->O R):bO P g t m x c k=(bO P g t m x c some).bind k:=by
 unfold bO
 split<;>simp[Aj,zC]
def nq(E:Env)(g:A1)(d:Nat)(v:Operand->AV)(o:Op)(k:AV->C5->O R):ZI E g d v o k=(ZI E g d v o pr).bind fun q=>k q.1 q.2:=by
 unfold ZI
 split
 ·rfl
 ·rfl
 ·rw[VN,VN (k:=fun r=>pr r []),zC];rfl
 ·rw[Aj,<-fL,<-ii]
 ·rw[QU,QU (k:=fun u=>iB E.P g d _ u pr),zC];congr 1;funext u;exact bZ ..
 ·rw[Aj,<-fJ];congr 1;rw[HE,HE,zC];congr 1;funext x;exact np ..
 ·rw[Aj,<-SP,<-NY]
 ·rw[Xp,Xp (k:=fun r=>pr r []),zC];rfl
 ·exact i9 ..
 ·split<;>rfl
 ·rw[VM,VM (k:=fun r=>pr r []),zC];rfl
 ·rw[zC];rfl
 ·exact ig ..
 ·rw[Aj];rfl
 ·exact ku ..
 ·rw[QT,QT (k:=fun r=>pr r []),zC];rfl
 ·rw[Zs,Zs (k:=fun r=>pr r []),zC];rfl
 ·rw[QR,QR (k:=fun r=>pr r []),zC];rfl
 ·rw[Zr,Zr (k:=fun r=>pr r []),zC];rfl
 ·rw[QS,QS (k:=fun r=>pr r []),zC];rfl
 ·exact ZO ..
 ·exact ij ..
 ·rw[VP,VP (k:=fun r=>pr r []),zC];rfl
 ·exact ik ..
 ·exact lA ..
 ·split
  ·rw[zC];rfl
  ·rfl
 ·split
  ·split
   ·rw[zC];rfl
   ·rfl
  ·split
   ·exact fK ..
   ·rfl
  ·split
   ·exact kv ..
   ·rfl
  ·split
   ·exact ia ..
   ·rfl
  ·split
   ·rw[zC];rfl
   ·simp only[zC];rfl
   ·rfl
  ·split
   ·rw[zC];rfl
   ·simp only[zC];rfl
   ·rfl
  ·split
   ·exact SQ ..
   ·rfl
  ·split
   ·exact SR ..
   ·rfl
  ·split
   ·rw[Aj,<-kz,Aj];congr 1;congr 1
    split<;>rfl
   ·rfl
  ·rfl
 ·rfl
end
end Gx
namespace Gx
open Go
def V1:∀{l k:List Nat}{b:Nat},b∈QE l k↔b∈l\/b∈k
|[],k,b=>by simp[QE]
| i::r,k,b=>by
  rw[QE]
  cases C:D9 k i with
  | true =>
   simp only[cond_true]
   rw[V1]
   have:=Hs.1 C
   constructor
   ·rintro(h|h)
    ·exact .inl (by simp[h])
    ·exact .inr h
   ·rintro(h|h)
    ·rcases zX.1 h with e|h
     ·subst e;exact .inr this
     ·exact .inl h
    ·exact .inr h
  | false =>
   simp only[cond_false]
   rw[V1]
   simp only[zX]
   constructor
   ·rintro(h|h|h)
    ·exact .inl (.inr h)
    ·exact .inl (.inl h)
    ·exact .inr h
   ·rintro((h|h)|h)
    ·exact .inr (.inl h)
    ·exact .inl h
    ·exact .inr (.inr h)
def Tr{g g':A1}:∀{l:List Nat},(∀ b∈l,g' b=g b)->Hq g' l=Hq g l
|[],_=>rfl
|i::r,h=>by rw[Hq,Hq,h i (by simp),Tr (fun b k=>h b (by simp[k]))]
def JX{g:A1}:∀{a b:List Nat},Hq g (a++b)=Hq g a++Hq g b
|[],b=>rfl
|i::r,b=>by rw[Aax,Hq,Hq,JX,Aa9]
def il{g g':A1}{ids:List Nat}(h:∀ b∈Rl g ids,g' b=g b):Rl g' ids=Rl g ids:=by
 have C:∀ b∈ids,g' b=g b:=fun b k=>h b (V1.2 (.inl (zP.2 (.inl k))))
 have e1:Hq g' ids=Hq g ids:=Tr C
 have D:∀ b∈Hq g ids,g' b=g b:=fun b k=>h b (V1.2 (.inl (zP.2 (.inr (by rw[JX];exact zP.2 (.inl k))))))
 unfold Rl
 rw[e1,Tr (l:=ids++Hq g ids) (fun b k=>by
  rcases zP.1 k with k|k
  ·exact C b k
  ·exact D b k)]
section
variable{R:Type}{E:Env}{ops:Array Oper}{o p:Oper}{st hI st2:St}
def QW{v v':Operand->AV}{parts:Array (Nat×Operand)}(h:∀ q∈parts.toList,v' q.2=v q.2):(parts.toList.map fun q=>(q.1,v' q.2))=(parts.toList.map fun q=>(q.1,v q.2)):=Aci (fun q hq=>by rw[h q hq])
def lB {g:A1} {d:Nat} {v v':Operand->AV} {op:Op} {k:AV->C5->O R} (h:∀ x ∈ op.operands.toList,v' x=v x):ZI E g d v' op k=ZI E g d v op k:=by
  unfold ZI
  cases op
  case build t parts =>
    simp only
    rw[QW (v:=v) (v':=v') (fun q hq=>h q.2 (by simp[Op.operands];exact⟨q.1,by simpa using hq⟩))]
  case buildSlice t n parts =>
    simp only
    rw[QW (v:=v) (v':=v') (fun q hq=>h q.2 (by simp[Op.operands];exact⟨q.1,by simpa using hq⟩))]
  case slice t x lo hi mx =>
    simp only
    have C:v' x=v x:=h x (by simp[Op.operands])
    have I:lo.map v'=lo.map v:=by
      cases lo with
      |none=>rfl
      |some y=>simp;exact h y (by simp[Op.operands])
    have L:hi.map v'=hi.map v:=by
      cases hi with
      |none=>rfl
      |some y=>simp;exact h y (by simp[Op.operands])
    have T:mx.map v'=mx.map v:=by
      cases mx with
      |none=>rfl
      |some y=>simp;exact h y (by simp[Op.operands])
    rw[C,I,L,T]
  case makeMap t rr =>
    simp only
    have C:rr.map v'=rr.map v:=by
      cases rr with
      |none=>rfl
      |some y=>simp;exact h y (by simp[Op.operands])
    rw[C]
  case makeFunc f first caps =>
    cases f<;>try rfl
    simp only
    have:(first.toList++caps.toList).map v'=(first.toList++caps.toList).map v:=Aci (fun x G=>h x (by simp[Op.operands];simpa using G))
    rw[this]
  case call c =>
    have D:∀ x ∈ c.args.toList,v' x=v x:=fun x G=>h x (by
      simp only[Op.operands,Call.operands,Array.toList_append]
      exact zP.2 (.inr G))
    have Y:c.args.toList.map v'=c.args.toList.map v:=Aci D
    simp only
    cases hc:c.callee with
    | value f =>
      have hf:v' f=v f:=h f (by simp[Op.operands,Call.operands,hc])
      simp only[hf,Y]
    |invoke a b=>rfl
    | builtin b =>
      cases b<;>try rfl
      all_goals
        simp only
        split
        · first
            | (rename_i C I
               simp only[C,zX,Aea,or_false,forall_eq_or_imp,forall_eq]at D
               simp only[D])
            | (rename_i C
               simp only[C,zX,Aea,or_false,forall_eq_or_imp,forall_eq]at D
               simp only[D])
        all_goals first
          |rfl
          | (rename_i C
             simp only[C,zX,Aea,or_false,forall_eq_or_imp,forall_eq]at D
             simp only[D])
  all_goals first
    |rfl
    |(simp[Op.operands]at h;simp[h])
end
end Gx
namespace Gx
open Go
section
variable{R:Type}{E:Env}{ops:Array Oper}{o p:Oper}{st hI st2 st3:St}
def mX(ops:Array Oper)(o:Oper):List Nat:=match DP ops o with|some p=>[p.1]|none=>[]
def U8(o:Oper)(s:Ff):LA:=o.op.operands.toList.map (ev s)
def fM(h:Ap)(F:List Nat):A1:=fun b=>cond (D9 F b) (Ah h b) none
def yG(o:Oper):Nat:=o.dst.getD 50000
def Ms (E:Env) (ops:Array Oper) (o:Oper) (st:St):Option (AV×C5×Foot) :=
  (Xe ops st.s o).bind fun wanted=>cond wanted
    ((ZI E (fM st.h (Ox st.h o.op (U8 o st.s))) (yG o) (ev st.s) o.op pr).bind fun q =>
      cond (FJ (yG o) (Ox st.h o.op (U8 o st.s)) st.h q.2) (some (q.1,q.2,{ r:=mX ops o++HD o.op.operands.toList,w:=o.dst,f:=Ox st.h o.op (U8 o st.s),u:=q.2.map (·.1) })) none)
    (some (.tup [],[],{r:=mX ops o,w:=o.dst,f:=[],u:=[]}))
def after(E:Env)(o:Oper)(st:St)(q:AV×C5×Foot):St:={s:=kW E.nt st.s o.dst q.1,h:=Ai q.2.1 st.h}
def DX(k:St->Foot->O R):iF E ops o st k=(Ms E ops o st).bind fun q=>k (after E o st q) q.2.2:=by
 unfold iF Ms
 rw[zC]
 congr 1;funext t
 rw[Aj]
 congr 1
 rw[nq,zC]
 congr 1;funext q
 rw[Aj]
 rfl
def VQ:∀{l:List Operand}{t:Nat},Operand.tmp t∈l->t∈HD l
|[],t,h=>by simp at h
| x::r,t,h=>by
  rcases zX.1 h with e|h'
  ·subst e;simp[HD]
  ·have k:=VQ h'
   cases x<;>simp[HD]<;>first|exact .inr k|exact k
def QX{d:Nat}{F:List Nat}{h k:Ap}:∀{ups:C5},(∀ b∈ups.map (·.1),Ah k b=Ah h b)->FJ d F k ups=FJ d F h ups
|[],_=>rfl
|(b,_)::r,hh=>by rw[FJ,FJ,hh b (by simp),QX (fun c hc=>hh c (by simp at hc ⊢;exact .inr hc))]
def FP{s s2:Ff}(h:∀ t∈mX ops o,Es s2 t=Es s t):Xe ops s2 o=Xe ops s o:=by
 unfold Xe
 cases k:o.guard with
|none=>rfl
| some q =>
  obtain⟨j,want⟩:=q
  simp only
  cases C:(ops[j]?).bind (·.dst)with
  |none=>rfl
  |some t =>
   have:Es s2 t=Es s t:=h t (by simp[mX,DP,k,C])
   simp only[this]
def BM{q:AV×C5×Foot}(hc:Ms E ops o st=some q)(G:∀ t∈q.2.2.r,Es st2.s t=Es st.s t)(k:∀ b,b∈q.2.2.f\/b∈q.2.2.u->Ah st2.h b=Ah st.h b):Ms E ops o st2=some q:=by
 have hc0:=hc
 unfold Ms at hc
 obtain⟨t,I,L⟩:=ub hc
 cases t with
|false =>
  simp at L;subst L
  unfold Ms
  rw[FP (s:=st.s) G,I];rfl
| true =>
  rw[cond_true]at L
  obtain⟨x,hx,h2⟩:=ub L
  obtain⟨hu,h3⟩:=uc h2
  simp at h3;subst h3
  simp only at G k
  have hv:∀ y∈o.op.operands.toList,ev st2.s y=ev st.s y:=fun y hy=>by
   cases y with
   |tmp t=>exact G t (zP.2 (.inr (VQ hy)))
   |const _=>rfl
   |global _=>rfl
   |func _=>rfl
  have C:U8 o st2.s=U8 o st.s:=Aci hv
  have hF:Ox st2.h o.op (U8 o st.s)=Ox st.h o.op (U8 o st.s):=by
   unfold Ox at k ⊢
   cases T:mQ o.op with
   |true =>
    rw[T]at k
    cases Y:mR o.op with
    |true=>rfl
    |false=>rw[Y]at k;exact il (fun b D=>k b (.inl D))
   |false=>rfl
  have hm:fM st2.h (Ox st.h o.op (U8 o st.s))=fM st.h (Ox st.h o.op (U8 o st.s)):=by
   funext b
   unfold fM
   cases D:D9 (Ox st.h o.op (U8 o st.s)) b with
   |false=>rfl
   |true=>simp only[cond_true];exact k b (.inl (Hs.1 D))
  unfold Ms
  rw[FP (s:=st.s) (fun t I=>G t (zP.2 (.inl I))),I]
  simp only[Aaq,cond_true]
  rw[C,hF,hm,lB hv,hx]
  simp only[Aaq]
  rw[QX (h:=st.h) (fun b D=>k b (.inr D)),hu]
  rfl
def DY:∀{ups:C5}{b:Nat},Ay ups b=true↔b∈ups.map (·.1)
|[],b=>by simp[Ay]
| (i,_)::r,b=>by
  rw[Ay]
  cases hi:beq i b with
  |true=>have:=zM hi;subst this;simp
  | false =>
   have ne:=Pf hi
   simp only[cond_false]
   rw[DY]
   simp only[z_,zX]
   constructor
   ·exact fun h=>.inr h
   ·rintro(h|h)
    ·exact absurd h.symm ne
    ·exact h
def mY{q:AV×C5×Foot}(hc:Ms E ops o st=some q):q.2.2.w=o.dst/\q.2.2.u=q.2.1.map (·.1):=by
 unfold Ms at hc
 obtain⟨t,G,k⟩:=ub hc
 cases t with
|false=>simp at k;subst k;simp
|true =>
  rw[cond_true]at k
  obtain⟨x,I,D⟩:=ub k
  obtain⟨L,C⟩:=uc D
  simp at C;subst C;simp
def Fh:∀(ups:C5){h k:Ap},(∀ b,Ah k b=Ah h b)->∀ b,Ah (Ai ups k) b=Ah (Ai ups h) b
|[],_,_,hh,b=>hh b
|(i,some x)::r,h,k,hh,b=>Fh r (fun c=>by rw[Ae,Ae,hh c]) b
|(i,none)::r,h,k,hh,b=>by
  rw[Ai,Ai]
  refine Fh r (fun c=>?_) b
  rw[hh i]
  split
  ·rw[Ae,Ae,hh c]
  ·exact hh c
def io{q:AV×C5×Foot}(h:Eqv st st2):Eqv (after E o st q) (after E o st2 q):=by
 refine⟨fun t=>?_,fun b=>?_⟩
 ·unfold after;simp only;rw[Jo,Jo,h.1 t]
 ·exact(Fh q.2.1 (fun b=>(h.2 b).symm) b).symm
def Ln{i:Nat}{y:Blk}:∀(ups:C5){h:Ap},Ay ups i=false->∀ b,Ah (Ai ups (D2 h i y)) b=if b=i then some y else Ah (Ai ups h) b
|[],h,_,b=>Ae h i y b
| (j,some x)::r,h,hi,b=>by
  rw[Ay]at hi
  cases k:beq j i with
  |true=>rw[k]at hi;simp at hi
  | false =>
   rw[k]at hi
   have ne:=Pf k
   rw[Ai,Ai,Fh r (h:=D2 (D2 h j x) i y) (fun c=>by
    rw[Ae,Ae,Ae,Ae]
    by_cases e1:c=j
    ·subst e1;simp[ne]
    ·simp[e1]) b]
   exact Ln r hi b
| (j,none)::r,h,hi,b=>by
  rw[Ay]at hi
  cases k:beq j i with
  |true=>rw[k]at hi;simp at hi
  | false =>
   rw[k]at hi
   have ne:=Pf k
   rw[Ai,Ai,Ae,if_neg ne]
   split
   ·rename_i x C
    rw[Fh r (h:=D2 (D2 h j { x with dead:=true,pure:=true,cells:=[] }) i y) (fun c=>by
     rw[Ae,Ae,Ae,Ae]
     by_cases e1:c=j
     ·subst e1;simp[ne]
     ·simp[e1]) b]
    exact Ln r hi b
   ·exact Ln r hi b
def N4:∀(u1 u2:C5)(h:Ap),(∀ b,Ay u1 b=true->Ay u2 b=false)->∀ b,Ah (Ai u2 (Ai u1 h)) b=Ah (Ai u1 (Ai u2 h)) b
|[],u2,h,_,b=>rfl
|(i,some x)::r,u2,h,k,b=>by
  rw[Ai,Ai]
  have hi:Ay u2 i=false:=k i (by simp[Ay])
  rw[N4 r u2 (D2 h i x) (fun c hc=>k c (by rw[Ay,hc];cases beq i c<;>rfl)) b]
  refine Fh r (fun c=>?_) b
  rw[Ln u2 hi,Ae]
| (i,none)::r,u2,h,k,b=>by
  rw[Ai,Ai]
  have hi:Ay u2 i=false:=k i (by simp[Ay])
  rw[Bj u2 h i hi]
  split
  ·rename_i x C
   rw[N4 r u2 _ (fun c hc=>k c (by rw[Ay,hc];cases beq i c<;>rfl)) b]
   refine Fh r (fun c=>?_) b
   rw[Ln u2 hi,Ae]
  ·exact N4 r u2 h (fun c hc=>k c (by rw[Ay,hc];cases beq i c<;>rfl)) b
def VR:∀{a l:List Nat},iD a l=true->∀ b∈a,b∉l
|[],l,_,b,k=>by simp at k
|i::r,l,h,b,k=>by
  rw[iD]at h;simp at h
  rcases zX.1 k with e|k
  ·subst e;intro C;rw[Hs.2 C]at h;simp at h
  ·exact VR h.2 b k
def VS{q:AV×C5×Foot}{t:Nat}(h:o.dst≠some t):Es (after E o st q).s t=Es st.s t:=by unfold after;simp only;rw[Jo,if_neg (fun hh=>h hh.1)]
def VT{q:AV×C5×Foot}{b:Nat}(h:b∉q.2.1.map (·.1)):Ah (after E o st q).h b=Ah st.h b:=by
 unfold after;simp only
 rw[Bj]
 cases hi:Ay q.2.1 b with
|false=>rfl
|true=>exact absurd (DY.1 hi) h
def b6{w:Option Nat}{l:List Nat}(h:ww w l=false):∀ t∈l,w≠some t:=by
 intro t k e
 subst e
 rw[ww,Hs.2 k]at h;cases h
def xL{D k:AV×C5×Foot}(Y:Ms E ops p st=some D)(h2:Ms E ops o (after E p st D)=some k)(hi:QF D.2.2 k.2.2=true):
  Ms E ops o st=some k/\Ms E ops p (after E o st k)=some D/\Eqv (after E p (after E o st k) D) (after E o (after E p st D) k):=by
 unfold QF at hi
 simp only[zJ,Adx]at hi
 obtain⟨⟨⟨⟨i1,i2⟩,i3⟩,i4⟩,i5⟩:=hi
 obtain⟨w1,u1⟩:=mY Y
 obtain⟨w2,u2⟩:=mY h2
 have L:=VR i4
 have d2:=VR i5
 have a1:Ms E ops o st=some k:=BM h2 (fun t T=>(VS (by rw[<-w1];exact b6 i1 t T)).symm) (fun b C=>(VT (fun I=>by
  rw[<-u1]at I
  exact L b I (by rcases C with C | C<;>simp[C]))).symm)
 have a2:Ms E ops p (after E o st k)=some D:=BM Y (fun t T=>VS (by rw[<-w2];exact b6 i2 t T)) (fun b C=>VT (fun I=>by
  rw[<-u2]at I
  rcases C with C|C
  ·exact d2 b I C
  ·exact L b C (by simp[I])))
 refine⟨a1,a2,fun t=>?_,fun b=>?_⟩
 ·unfold after;simp only
  rw[Jo,Jo,Jo,Jo]
  by_cases e1:p.dst=some t/\t<E.nt
  ·by_cases G:o.dst=some t/\t<E.nt
   ·exfalso
    rw[w1,w2,e1.1,G.1]at i3
    simp at i3
   ·rw[if_pos e1,if_neg G,if_pos e1]
  ·by_cases G:o.dst=some t/\t<E.nt
   ·rw[if_neg e1,if_pos G,if_pos G]
   ·rw[if_neg e1,if_neg G,if_neg G,if_neg e1]
 ·unfold after;simp only
  refine(N4 D.2.1 k.2.1 st.h (fun c hc=>?_) b).symm
  cases hx:Ay k.2.1 c with
  |false=>rfl
  |true =>
   have m1:c∈D.2.2.u:=by rw[u1];exact DY.1 hc
   have m2:c∈k.2.2.u:=by rw[u2];exact DY.1 hx
   exact absurd (by simp[m2]) (L c m1)
def RunF(E:Env)(ops:Array Oper)(fp:Nat->Foot):List (Nat×Oper)->St->St->Prop
|[],st,e=>Eqv st e
|(i,o)::r,st,e=>∃ q,Ms E ops o st=some q/\q.2.2=fp i/\RunF E ops fp r (after E o st q) e
def RunF.congr{fp:Nat->Foot}:∀{l:List (Nat×Oper)}{st st2 e:St},RunF E ops fp l st e->Eqv st st2->RunF E ops fp l st2 e
|[],st,st2,e,h,k=>k.symm.trans h
|(i,o)::r,st,st2,e,h,k=>by
  rw[RunF]at h ⊢
  obtain⟨q,C,D,G⟩:=h
  exact⟨q,BM C (fun t _=>(k.1 t).symm) (fun b _=>(k.2 b).symm),D,RunF.congr G (io k)⟩
def RunF.pull{fp:Nat->Foot}{i:Nat}{o:Oper}{B:List (Nat×Oper)}:∀{A:List (Nat×Oper)}{st e:St},RunF E ops fp (A++(i,o)::B) st e->(∀ jp∈A,QF (fp jp.1) (fp i)=true) ->
  ∃ q,Ms E ops o st=some q/\q.2.2=fp i/\RunF E ops fp (A++B) (after E o st q) e
|[],st,e,h,_=>h
|(j,p)::A,st,e,h,hA=>by
  rw[Aax,RunF]at h
  obtain⟨k,I,C,L⟩:=h
  obtain⟨D,T,G,Y⟩:=RunF.pull L (fun jp hm=>hA jp (by simp[hm]))
  have hi:QF k.2.2 D.2.2=true:=by rw[C,G];exact hA (j,p) (by simp)
  obtain⟨a1,a2,a3⟩:=xL I T hi
  refine⟨D,a1,G,?_⟩
  rw[Aax,RunF]
  exact⟨k,a2,C,RunF.congr Y a3.symm⟩
end
end Gx
namespace Gx
open Go
def mZ:Nat->List Oper->List (Nat×Oper)
|_,[]=>[]
|n,o::r=>(n,o)::mZ (n+1) r
def UB:∀{l:List Oper}{n:Nat}{p:Nat×Oper},p∈mZ n l↔n<=p.1/\l[p.1 - n]?=some p.2
|[],n,p=>by simp[mZ]
| o::r,n,p=>by
  rw[mZ,zX,UB]
  constructor
  ·rintro(rfl|⟨C,k⟩)
   ·simp
   ·refine⟨by omega,?_⟩
    rw[show p.1 - n=(p.1 - (n+1))+1 by omega];simpa using k
  ·rintro⟨C,k⟩
   by_cases e:p.1=n
   ·left
    rw[e]at k;simp at k
    obtain⟨a,b⟩:=p
    simp at e k;subst e k;rfl
   ·right
    refine⟨by omega,?_⟩
    rw[show p.1 - n=(p.1 - (n+1))+1 by omega]at k;simpa using k
def VU:∀(l:List Oper)(n:Nat),(mZ n l).Pairwise (fun a b=>a.1<b.1)
|[],n=>List.Pairwise.nil
|o::r,n=>by
  rw[mZ]
  refine Acm.2 ⟨fun p k=>?_,VU r (n+1)⟩
  have:=(UB.1 k).1
  show n<p.1;omega
section
variable{R:Type}{r:R}{Z:Start}{E:Env}{ops:Array Oper}
def RunL(E:Env)(ops:Array Oper):List Oper->List Foot->St->St->Prop
|[],[],st,e=>st=e
|o::l,f::fs,st,e=>∃ st' q,Eqv st st'/\Ms E ops o st'=some q/\q.2.2=f/\RunL E ops l fs (after E o st' q) e
|_,_,_,_=>False
def iq:∀{l:List Oper}{st:St}{tr:List Foot}{k:St->List Foot->O R},UR E ops l st tr k=some r->∃ fs e,k e (fs.reverse++tr)=some r/\RunL E ops l fs st e
|[],st,tr,k,h=>⟨[],st,by simpa[UR]using h,rfl⟩
|o::l,st,tr,k,h=>by
  rw[UR]at h
  obtain⟨st0,C,h⟩:=VH h
  obtain⟨st',D,h⟩:=QN h
  have G:=C.trans D
  rw[DX]at h
  obtain⟨q,I,L⟩:=ub h
  obtain⟨fs,e,T,Y⟩:=iq L
  exact⟨q.2.2::fs,e,by simpa using T,st',q,G,I,rfl,Y⟩
def RunL.length:∀{l:List Oper}{fs:List Foot}{st e:St},RunL E ops l fs st e->fs.length=l.length
|[],[],_,_,_=>rfl
|[],_::_,_,_,h=>h.elim
|_::_,[],_,_,h=>h.elim
|o::l,f::fs,st,e,⟨_,q,_,_,_,h⟩=>by simp[RunL.length h]
def RunL.runF{fp:Nat->Foot}:∀{l:List Oper}{fs:List Foot}{n:Nat}{st e:St},RunL E ops l fs st e->(∀(j:Nat)(f:Foot),fs[j]?=some f->fp (n+j)=f)->RunF E ops fp (mZ n l) st e
|[],[],n,st,e,h,_=>by subst h;exact Eqv.refl _
|[],_::_,_,_,_,h,_=>h.elim
|_::_,[],_,_,_,h,_=>h.elim
|o::l,f::fs,n,st,e,⟨st',q,C,D,G,I⟩,k=>by
  rw[mZ]
  refine RunF.congr ?_ C.symm
  rw[RunF]
  refine⟨q,D,by rw[G];exact(k 0 f (by simp)).symm,RunL.runF I (fun j g L=>?_)⟩
  have:=k (j+1) g (by simpa using L)
  rwa [show n+(j+1)=n+1+j by omega]at this
def QY{f:Foot}{anc:List Nat}:∀{seen:List Foot}{i:Nat},JM f anc i seen=true->∀(j:Nat)(g:Foot),seen[j]?=some g->(i+j)∈anc\/QF g f=true
|[],i,_,j,g,k=>by simp at k
| x::r,i,h,j,g,k=>by
  rw[JM]at h;simp only[zJ,Bool.or_eq_true]at h
  cases j with
  |zero =>
   simp at k;subst k
   rcases h.1 with C|C
   ·exact .inl (Hs.1 C)
   ·exact .inr C
  |succ j =>
   have:=QY h.2 j g (by simpa using k)
   rwa [show i+1+j=i+(j+1) by omega]at this
def VV:∀{fs:List Foot}{az9:List (List Nat)}{seen:List Foot},DR fs az9 seen=true->∀(i:Nat)(f:Foot),fs[i]?=some f ->
  ∃ a,az9[i]?=some a/\∀(j:Nat)(g:Foot),(seen++fs)[j]?=some g->j<seen.length+i->j∈a\/QF g f=true
|[],az9,seen,_,i,f,k=>by simp at k
|x::r,[],seen,h,i,f,k=>by simp[DR]at h
| x::r,a::az9,seen,h,i,f,k=>by
  rw[DR]at h;simp only[zJ]at h
  cases i with
  |zero =>
   simp at k;subst k
   refine⟨a,by simp,fun j g C D=>?_⟩
   rw[zt,if_pos (by omega)]at C
   simpa using QY h.1 j g C
  |succ i =>
   obtain⟨a',G,I⟩:=VV h.2 i f (by simpa using k)
   refine⟨a',by simpa using G,fun j g C D=>I j g ?_ (by simp;omega)⟩
   simpa using C
def U9:∀{l:List Oper}{k:List (List Nat)}{i:Nat},i<k.length->(Fb l k)[i]?=k[i]?
|[],k,i,_=>rfl
|o::r,k,i,hi=>by rw[Fb,Vx,U9 (by simp;omega),zt,if_pos hi]
def Xq:∀{l:List Oper}{C:List (List Nat)}{i:Nat}{a:List Nat},(Fb l C)[i]?=some a->C.length<=i->∃ o,l[i - C.length]?=some o /\
  ∀ k∈a,k∈Xf o\/∃ j a',j∈Xf o/\j<i/\(Fb l C)[j]?=some a'/\k∈a'
|[],C,i,a,h,hi=>by
  rw[Fb,zp hi]at h;cases h
| o::r,C,i,a,h,hi=>by
  by_cases e:i=C.length
  ·subst e
   rw[Fb,Vx,U9 (by simp)]at h
   simp only[List.getElem?_concat_length,Aba]at h
   refine⟨o,by simp,fun k D=>?_⟩
   rw[<-h,V1]at D
   replace D:=D.resolve_right (by simp)
   rcases zP.1 D with D|D
   ·exact .inl D
   ·right
    obtain⟨j,T,D⟩:=Ac2.1 D
    cases I:C[j]? with
    |none=>rw[I]at D;simp at D
    |some a' =>
     rw[I]at D;simp at D
     have G:j<C.length:=(zK.1 I).1
     exact⟨j,a',T,G,by rw[U9 G];exact I,D⟩
  ·rw[Fb,Vx]at h
   obtain⟨o',L,Y⟩:=Xq h (by simp;omega)
   refine⟨o',?_,fun k D=>?_⟩
   ·simp at L
    rw[show i - C.length=(i - (C.length+1))+1 by omega];simpa using L
   ·rw[Fb,Vx];exact Y k D
def JY:∀{l:List Oper}{n i:Nat}{o:Oper},Q4 n l=true->l[i]?=some o->∀ e∈o.after,BD e=true->e.on<n+i
|[],n,i,o,_,hi,_,_,_=>by simp at hi
| x::r,n,i,o,h,hi,e,k,C=>by
  rw[Q4]at h;simp only[zJ]at h
  cases i with
  |zero =>
   simp at hi;subst hi
   have:=Acb.1 h.1 e (by simpa using k)
   rw[C]at this;simpa using this
  |succ i =>
   have:=JY h.2 (by simpa using hi) e k C
   omega
def b7(e:Edge):Region.binds .any e=BD e:=by
 unfold Region.binds BD
 cases e.ground<;>rfl
def lC{listed:Array Bool}(hclosed:∀(j:Nat)(o:Oper),ops[j]?=some o->listed.getD j true=true->∀ k∈Xf o,listed.getD k false=true):
  ∀(i:Nat)(a:List Nat)(o:Oper),(Fb ops.toList [])[i]?=some a->ops[i]?=some o->(∀ k∈Xf o,listed.getD k false=true)->∀ k∈a,listed.getD k false=true:=by
 intro i
 induction i using Nat.strongRecOn with
| _ i ih =>
  intro a o ha ho T k hk
  obtain⟨o',G,h2⟩:=Xq ha (by simp)
  simp at G
  rw[ho]at G;simp at G;subst G
  rcases h2 k hk with I|⟨j,a',I,h4,Y,h6⟩
  ·exact T k I
  ·have C:=T j I
   obtain⟨oj,D,_⟩:=Xq Y (by simp)
   simp at D
   have L:listed.getD j true=true:=by
    rw[Aa8]at C ⊢
    cases hx:listed[j]? with
    |none=>rw[hx]at C;simp at C
    |some b=>rw[hx]at C;simpa using C
   exact ih j h4 a' oj Y D (hclosed j oj D L) k h6
def Gl(ops:Array Oper)(listed:Array Bool):List (Nat×Oper):=(mZ 0 ops.toList).filter fun p=>!listed.getD p.1 true
def BN(listed:Array Bool):(Gl ops listed).Pairwise (fun a b=>a.1<b.1):=(VU _ _).filter _
def V3{listed:Array Bool}{p:Nat×Oper}:p∈Gl ops listed↔ops[p.1]?=some p.2/\listed.getD p.1 true=false:=by
 unfold Gl
 rw[Abb,UB]
 simp
def ir{listed:Array Bool}{i:Nat}{o:Oper}{A B:List (Nat×Oper)}(h:Gl ops listed=A++(i,o)::B):Gl ops (listed.setIfInBounds i true)=A++B:=by
 have hi:(i,o)∈Gl ops listed:=by rw[h];simp
 have k:=(V3.1 hi).2
 have D:i<listed.size:=by
  rw[Aa8]at k
  rcases Ado i listed.size with G|G
  ·exact G
  ·rw[Aas G]at k;simp at k
 have L:Gl ops (listed.setIfInBounds i true)=(Gl ops listed).filter fun p=>!beq p.1 i:=by
  unfold Gl
  rw[List.filter_filter]
  congr 1;funext p
  by_cases e:p.1=i
  ·rw[e];simp[D]
  ·rw[getD_set_ne true (fun e'=>e e'.symm),AK e];simp
 rw[L,h,List.filter_append,Ad7]
 have hs:=BN (ops:=ops) listed
 rw[h]at hs
 have C:=Ab8.1 hs
 have hB:=Acm.1 C.2.1
 have e1:A.filter (fun p=>!beq p.1 i)=A:=Adi.2 (fun p I=>by
  have:p.1<i:=C.2.2 p I (i,o) (by simp)
  rw[AK (by omega)];rfl)
 have T:B.filter (fun p=>!beq p.1 i)=B:=Adi.2 (fun p I=>by
  have:i<p.1:=hB.1 p I
  rw[AK (by omega)];rfl)
 rw[e1,T];simp
def nr(hC:HG E){Q:Exit->Act->World->Prop}{fp:Nat->Foot}{e:St}(hfw:Q4 0 ops.toList=true)
  (hord:∀(i j:Nat)(o:Oper),ops[i]?=some o->j<i->∃ a,(Fb ops.toList [])[i]?=some a/\(j∈a\/QF (fp j) (fp i)=true))
  (hQ:∀ a' w' J' β',Inv Z E.nt J' β' e a' w'->Q .normal a' w') :
  ∀(D:Nat)(listed:Array Bool){st:St}{a:Act}{w:World}{J:Bool->Nat->Prop}{β:Bt},listed.size=ops.size->(Gl ops listed).length=D ->
   (∀(j:Nat)(o:Oper),ops[j]?=some o->listed.getD j true=true->∀ k∈Xf o,listed.getD k false=true) ->
   RunF E ops fp (Gl ops listed) st e->Inv Z E.nt J β st a w->wpAny E.P .any ops Q D listed a w:=by
 intro D
 have fin:∀(listed:Array Bool){st:St}{a:Act}{w:World}{J:Bool->Nat->Prop}{β:Bt},Gl ops listed=[]->RunF E ops fp (Gl ops listed) st e->Inv Z E.nt J β st a w->Region.ready .any ops listed=[]/\Q .normal a w:=by
  intro listed st a w J β hr C I
  refine⟨List.eq_nil_iff_forall_not_mem.2 (fun i hi=>?_),?_⟩
  ·obtain⟨h1,o,Y,_⟩:=mem_ready.1 hi
   have:(i,o)∈Gl ops listed:=V3.2 ⟨Y,h1⟩
   rw[hr]at this;simp at this
  ·rw[hr,RunF]at C
   exact hQ _ _ J β (I.eqv C)
 induction D with
|zero =>
  intro listed st a w J β _ G _ C I
  exact fin listed (Ad9.1 G) C I
| succ D ih =>
  intro listed st a w J β hsz G hclosed C I
  refine⟨fun hnil=>?_,fun i hi=>?_⟩
  ·
   cases L:Gl ops listed with
   |nil=>rw[L]at G;simp at G
   | cons p r =>
    exfalso
    have hp:p∈Gl ops listed:=by rw[L];simp
    obtain⟨T,hl⟩:=V3.1 hp
    have hs:=BN (ops:=ops) listed
    rw[L]at hs
    have hmin:=(Acm.1 hs).1
    have:p.1 ∈ Region.ready .any ops listed:=mem_ready.2 ⟨hl,p.2,T,fun ed hed hb=>by
     rw[b7]at hb
     have hlt:=JY hfw (i:=p.1) (o:=p.2) (by simpa using T) ed hed hb
     simp at hlt
     have hops:ed.on<ops.size:=by have:=(Aao.1 T).1;omega
     cases hx:listed.getD ed.on true with
     |true =>
      rw[Aa8]at hx ⊢
      rw[Array.getElem?_eq_getElem (by omega)]at hx ⊢
      simpa using hx
     | false =>
      have hm:(ed.on,ops[ed.on])∈Gl ops listed:=V3.2 ⟨by simp[hops],hx⟩
      rw[L]at hm
      rcases zX.1 hm with e1|e1
      ·have:ed.on=p.1:=by rw[<-e1]
       omega
      ·have:=hmin _ e1
       simp at this;omega⟩
    rw[hnil]at this;simp at this
  ·obtain⟨hl,o,T,hall⟩:=mem_ready.1 hi
   have hmem:(i,o)∈Gl ops listed:=V3.2 ⟨T,hl⟩
   obtain⟨A,B,hAB⟩:=List.append_of_mem hmem
   have hdir:∀ k∈Xf o,listed.getD k false=true:=by
    intro k hk
    unfold Xf at hk
    obtain⟨ed,hed,rfl⟩:=zr.1 hk
    obtain⟨h1,Y⟩:=Abb.1 hed
    exact hall ed (by simpa using h1) (by rw[b7];exact Y)
   have hs:=BN (ops:=ops) listed
   rw[hAB]at hs
   have hs':=Ab8.1 hs
   rw[hAB]at C
   obtain⟨q,g1,g2,g3⟩:=C.pull (fun jp hjp=>by
    have hlt:jp.1<i:=hs'.2.2 jp hjp (i,o) (by simp)
    obtain⟨an,h1,Y⟩:=hord i jp.1 o T hlt
    rcases Y with Y|Y
    ·exfalso
     have:=lC hclosed i an o h1 T hdir jp.1 Y
     have hjm:jp∈Gl ops listed:=by rw[hAB];simp[hjp]
     have h3:=(V3.1 hjm).2
     rw[Aa8]at this h3
     cases hx:listed[jp.1]? with
     |none=>rw[hx]at this;simp at this
     |some b=>rw[hx]at this h3;simp at this h3;rw[this]at h3;cases h3
    ·exact Y)
   have hone:iF E ops o st (fun s f=>some (s,f))=some (after E o st q,q.2.2):=by rw[DX,g1];rfl
   obtain⟨st',f,h4,h5⟩:=VG (K:=wpAny E.P .any ops Q D (listed.setIfInBounds i true)) (Q:=Q) hC I hone
   simp only[Aba,Ae2]at h4
   obtain⟨rfl,rfl⟩:=h4
   have hlt:i<listed.size:=by rw[hsz];exact(Aao.1 T).1
   have:=h5 (fun a' w' J' β' I'=>ih (listed.setIfInBounds i true) (by simp[hsz]) (by
     rw[ir hAB];rw[hAB] at G;simp at G ⊢;omega) (fun j oj hoj hj k hk=>?_) (by rw[ir hAB];exact g3) I')
   ·unfold wpOp
    rw[T]
    simp only
    split
    ·rename_i hw;rw[if_pos hw]at this;exact .inl this
    ·rename_i hw;rw[if_neg hw]at this;exact this
   ·by_cases e1:j=i
    ·subst e1
     rw[T]at hoj;simp at hoj;subst hoj
     exact getD_set_true (hdir k hk)
    ·rw[getD_set_ne true (fun e'=>e1 e'.symm)]at hj
     exact getD_set_true (hclosed j oj hoj hj k hk)
end
end Gx
namespace Gx
open Go
section
variable{R:Type}{r:R}{Z:Start}{E:Env}
def ZP(hC:HG E)(hm:E.P.follows .mixedOrders=true){roots:List Nat}{id:Nat}{ops:Array Oper}{draw:Bool}{st:St}{k:St->O R}{a:Act}{w:World}{J:Bool->Nat->Prop}{β:Bt}{Q:Exit->Act->World->Prop}
  (I:Inv Z E.nt J β st a w) (hh:Xg E roots ops draw st k=some r) (hQ:∀ st' a' w' J' β',Inv Z E.nt J' β' st' a' w'->k st'=some r->Q .normal a' w'):(Code.region id ops draw).wp E.P Q a w:=by
 unfold Xg at hh
 have done:∀{st':St}{tr:List Foot}{a':Act}{w':World}{J':Bool->Nat->Prop}{β':Bt},Inv Z E.nt J' β' st' a' w' ->
   cond (!draw||(Q4 0 ops.toList&&DR tr.reverse (Fb ops.toList []) [])) ((clean (st'.s.map (·.1)) roots st').bind k) none=some r->Q .normal a' w':=by
  intro st' tr a' w' J' β' I' h'
  obtain⟨_,h1⟩:=uc h'
  obtain⟨st2,h2,h3⟩:=ub h1
  obtain⟨β2,I2⟩:=i7 I' h2
  exact hQ _ _ _ _ _ I2 h3
 cases draw with
|false=>exact wp_region_list (VI hC _ I hh (fun st' tr' a' w' J' β' I' h'=>done I' h'))
| true =>
  obtain⟨fs,e,h1,h2⟩:=iq hh
  obtain⟨hc,h3⟩:=uc h1
  simp at hc
  obtain⟨hfw,L⟩:=hc
  have T:=h2.length
  refine wp_region_any hm ?_
  have I':Inv Z E.nt J β st a w.drew:=I.step (Step.drew I.sim) (fun b x hx hn=>by rw[hx]at hn;cases hn)
  have C:Gl ops (Array.replicate ops.size false)=mZ 0 ops.toList:=by
   unfold Gl
   refine Adi.2 (fun p hp=>?_)
   have:=(UB.1 hp).2
   have D:p.1<ops.size:=by
    simp at this
    exact(Aao.1 this).1
   simp[D]
  have Y:(mZ 0 ops.toList).length=ops.size:=by
   have:∀(l:List Oper)(n:Nat),(mZ n l).length=l.length:=by
    intro l
    induction l with
    |nil=>intro n;rfl
    |cons o r ih=>intro n;simp[mZ,ih]
   rw[this];simp
  have hrun:RunF E ops (fun i=>fs.getD i {r:=[],w:=none,f:=[],u:=[]}) (mZ 0 ops.toList) st e:=h2.runF (fun j f G=>by simp[G])
  refine nr hC (fp:=fun i=>fs.getD i {r:=[],w:=none,f:=[],u:=[]}) (e:=e) hfw (fun i j o ho hji=>?_) (fun a' w' J' β' Ie=>done (tr:=fs.reverse++[]) Ie h1) ops.size _ (by simp) (by rw[C,Y]) (fun j o ho G=>?_) (by rw[C];exact hrun) I'
  ·have hi:i<fs.length:=by rw[T];simpa using(Aao.1 ho).1
   obtain⟨an,g1,g2⟩:=VV L i fs[i] (zD hi)
   refine⟨an,g1,?_⟩
   have G:j<fs.length:=by omega
   have:=g2 j fs[j] (by simp[G]) (by simpa using hji)
   simpa[hi,G]using this
  ·exfalso
   have D:j<ops.size:=(Aao.1 ho).1
   simp[D]at G
end
end Gx
namespace Gx
open Go
def JZ(ρ:Nat->Nat):∀ c:LA,(Pe ρ c).length=c.length
|[]=>rfl
|x::r=>by rw[Pe,z8,z8,JZ ρ r]
def Iw(ρ:Nat->Nat)(x:Blk):(Jm ρ x).cells.length=x.cells.length:=by
 unfold Jm;cases x.pure
 ·simp;exact JZ _ _
 ·rfl
def b8{ρ:Nat->Nat}:∀{c:LA}{j:Nat}{y:AV},(Pe ρ c)[j]?=some y->∃ x,c[j]?=some x/\y=ES ρ x
|[],j,y,k=>by simp[Pe]at k
|x::r,j,y,k=>by
  rw[Pe]at k
  cases j with
  |zero=>simp at k;exact⟨x,by simp,k.symm⟩
  |succ j=>obtain⟨x',C,D⟩:=b8 (c:=r) (j:=j) (by simpa using k);exact⟨x',by simpa using C,D⟩
section
variable{R:Type}{r:R}{J J':Bool->Nat->Prop}{β β':Bt}{h h':Ap}{w w':World}{ids:List Nat}{ρ:Nat->Nat}
def Jp{g:A1}:∀{ids:List Nat},(ids.map ρ).Nodup->∀ c y,Ah (sub g ρ ids) c=some y->∃ b x,b∈ids/\ρ b=c/\g b=some x/\y=Jm ρ x
|[],_,c,y,hc=>by simp[sub,Ah]at hc
| b::r,k,c,y,hc=>by
  rw[z_,Aae]at k
  rw[sub]at hc
  split at hc
  ·rename_i x T
   rw[Ae]at hc
   by_cases e:c=ρ b
   ·rw[if_pos e]at hc;simp at hc
    exact⟨b,x,by simp,e.symm,T,hc.symm⟩
   ·rw[if_neg e]at hc
    obtain⟨C,x',D,G,I,L⟩:=Jp k.2 c y hc
    exact⟨C,x',by simp[D],G,I,L⟩
  ·obtain⟨C,x',D,G,I,L⟩:=Jp k.2 c y hc
   exact⟨C,x',by simp[D],G,I,L⟩
def Ts{g:A1}:∀{ids:List Nat},(ids.map ρ).Nodup->∀ b x,b∈ids->g b=some x->Ah (sub g ρ ids) (ρ b)=some (Jm ρ x)
|[],_,b,x,C,_=>by simp at C
| I::r,k,b,x,C,D=>by
  rw[z_,Aae]at k
  rw[sub]
  by_cases e:b=I
  ·subst e
   rw[D]
   simp only
   rw[Ae,if_pos rfl]
  ·have G:b∈r:=by simpa[e]using C
   have ne:ρ b≠ρ I:=fun h=>k.1 (by rw[<-h];exact zr.2 ⟨b,G,rfl⟩)
   split
   ·rw[Ae,if_neg ne];exact Ts k.2 b x G D
   ·exact Ts k.2 b x G D
def pp(ρ:Nat->Nat)(ids:List Nat)(c:Nat):Option Nat:=ids.find? fun b=>beq (ρ b) c
def pu(k:(ids.map ρ).Nodup){b:Nat}(C:b∈ids):pp ρ ids (ρ b)=some b:=by
 induction ids with
|nil=>simp at C
| cons i r D =>
  rw[z_,Aae]at k
  unfold pp at D ⊢
  rw[List.find?_cons]
  by_cases e:b=i
  ·subst e;simp
  ·have G:b∈r:=by simpa[e]using C
   have ne:ρ i≠ρ b:=fun h=>k.1 (by rw[h];exact zr.2 ⟨b,G,rfl⟩)
   rw[AK ne];exact D k.2 G
def Zt(ρ:Nat->Nat)(ids:List Nat)(β:Bt):Bt:=fun c=>(pp ρ ids c).bind β
def Fi(k:(ids.map ρ).Nodup){b:Nat}(C:b∈ids):Zt ρ ids β (ρ b)=β b:=by unfold Zt;rw[pu k C];rfl
mutual
def Rep.ren(hn:(ids.map ρ).Nodup):∀{x:AV}{v:Value},(∀ b∈E9 x,b∈ids)->Rep J β h w x v->Rep J (Zt ρ ids β) (sub (Ah h) ρ ids) w (ES ρ x) v
|.own b off n,v,hm,hr=>by
  rw[Rep]at hr
  obtain⟨x,A,cap,⟨hx,hmp⟩,h1,h2,h3⟩:=hr
  have hb:=hm b (by simp[E9])
  rw[ES,Rep]
  refine⟨Jm ρ x,A,cap,⟨Ts hn b x hb hx,hmp⟩,h1,h2,?_⟩
  rw[Iw,Fi hn hb]
  exact h3
|.optr b off,v,hm,hr=>by
  rw[Rep]at hr
  obtain⟨x,k,o,⟨hx,hmp⟩,h1,h2⟩:=hr
  have hb:=hm b (by simp[E9])
  rw[ES,Rep]
  refine⟨Jm ρ x,k,o,⟨Ts hn b x hb hx,hmp⟩,h1,?_⟩
  rw[Fi hn hb]
  exact h2
|.omap b,v,hm,hr=>by
  rw[Rep]at hr
  obtain⟨x,k,⟨hx,hmp⟩,h2⟩:=hr
  have hb:=hm b (by simp[E9])
  rw[ES,Rep]
  refine⟨Jm ρ x,k,⟨Ts hn b x hb hx,hmp⟩,?_⟩
  rw[Fi hn hb]
  exact h2
|.agg c,v,hm,hr=>by
  rw[Rep]at hr
  obtain⟨cs,h1,h2⟩:=hr
  rw[ES,Rep]
  exact⟨cs,h1,Reps.ren hn (by simpa[E9]using hm) h2⟩
|.tup c,v,hm,hr=>by
  rw[Rep]at hr
  obtain⟨cs,h1,h2⟩:=hr
  rw[ES,Rep]
  exact⟨cs,h1,Reps.ren hn (by simpa[E9]using hm) h2⟩
|.fn f c,v,hm,hr=>by
  rw[Rep]at hr
  obtain⟨cs,h1,h2⟩:=hr
  rw[ES,Rep]
  exact⟨cs,h1,Reps.ren hn (by simpa[E9]using hm) h2⟩
|.pagg c o,v,hm,hr=>by show Rep J _ _ w (.pagg c o) v;rw[Rep]at hr ⊢;exact hr
|.undef,v,hm,hr=>by show Rep J _ _ w .undef v;rw[Rep]at hr ⊢;exact hr
|.imm c n sz t o,v,hm,hr=>by show Rep J _ _ w (.imm c n sz t o) v;rw[Rep]at hr ⊢;exact hr
|.iptr c o,v,hm,hr=>by show Rep J _ _ w (.iptr c o) v;rw[Rep]at hr ⊢;exact hr
|.int k n,v,hm,hr=>by show Rep J _ _ w (.int k n) v;rw[Rep]at hr ⊢;exact hr
|.bool b,v,hm,hr=>by show Rep J _ _ w (.bool b) v;rw[Rep]at hr ⊢;exact hr
|.str s,v,hm,hr=>by show Rep J _ _ w (.str s) v;rw[Rep]at hr ⊢;exact hr
|.nsl,v,hm,hr=>by show Rep J _ _ w .nsl v;rw[Rep]at hr ⊢;exact hr
|.nilptr,v,hm,hr=>by show Rep J _ _ w .nilptr v;rw[Rep]at hr ⊢;exact hr
|.nilfn,v,hm,hr=>by show Rep J _ _ w .nilfn v;rw[Rep]at hr ⊢;exact hr
def Reps.ren(hn:(ids.map ρ).Nodup):∀{c:List AV}{cs:List Value},(∀ b∈F8 c,b∈ids)->Reps J β h w c cs->Reps J (Zt ρ ids β) (sub (Ah h) ρ ids) w (Pe ρ c) cs
|[],cs,hm,hr=>by rw[Reps]at hr;rw[Pe,Reps];exact hr
|x::r,cs,hm,hr=>by
  rw[Reps]at hr
  obtain⟨u,us,h1,h2,h3⟩:=hr
  rw[Pe,Reps]
  exact⟨u,us,h1,Rep.ren hn (fun b hb=>hm b (by simp[F8,hb])) h2,Reps.ren hn (fun b hb=>hm b (by simp[F8,hb])) h3⟩
end
def SimH.ren(S:SimH J β h w)(D:(ids.map ρ).Nodup)(hin:∀ b∈Hq (Ah h) ids,b∈ids):SimH J (Zt ρ ids β) (sub (Ah h) ρ ids) w:=by
 refine⟨S.jlt,S.jft,S.gl,fun c y Y hd hm=>?_,fun c y Y hd hm=>by
   obtain⟨b,x,G,rfl,L,rfl⟩:=Jp D c y Y
   obtain⟨T,g2,k,ob,g3,g4,g5,g6⟩:=S.mblk b x L hd hm
   have:(Jm ρ x).cells=x.cells:=by unfold Jm;rw[T];rfl
   exact⟨T,g2,k,ob,by rw[Fi D G];exact g3,g4,by rw[ObjIs,show(Jm ρ x).sz=x.sz from rfl,this];exact g5,g6⟩,?_⟩
 ·obtain⟨b,x,G,rfl,L,rfl⟩:=Jp D c y Y
  rcases S.blk b x L hd hm with⟨T,g2⟩|⟨k,o,cs,ty,fr,T,g2,g3,g4,g5,g6,g7⟩
  ·refine .inl ⟨by rw[Fi D G];exact T,?_⟩
   have:=Iw ρ x;rw[g2]at this;simpa using this
  ·refine .inr ⟨k,o,cs,ty,fr,by rw[Fi D G];exact T,g2,g3,by rw[Iw];exact g4,⟨fun hp=>?_,fun hp j q hj=>?_⟩,g6,g7⟩
   ·have C:x.pure=true:=hp
    have:(Jm ρ x).cells=x.cells:=by unfold Jm;rw[C];rfl
    rw[this];exact g5.1 C
   ·have C:x.pure=false:=hp
    have:(Jm ρ x).cells=Pe ρ x.cells:=by unfold Jm;rw[C];rfl
    rw[this]at hj
    obtain⟨q',hq,rfl⟩:=b8 hj
    obtain⟨u,hu,hr,ho⟩:=g5.2 C j q' hq
    exact⟨u,hu,Rep.ren D (fun b' I=>hin b' (NW G L C b' (NX hq b' I))) hr,ho⟩
 ·intro c c' y y' k o o' Y hy' hd hd' hs hβ hβ'
  obtain⟨b,x,G,rfl,L,rfl⟩:=Jp D c y Y
  obtain⟨b',x',I,rfl,hx',rfl⟩:=Jp D c' y' hy'
  rw[Fi D G]at hβ
  rw[Fi D I]at hβ'
  rw[S.sep b b' x x' k o o' L hx' hd hd' hs hβ hβ']
def fN(C:(ids.map ρ).Nodup){k:Nat}(G:iJ (Zt ρ ids β) (sub (Ah h) ρ ids) k):iJ β h k:=by
 obtain⟨c,y,o,I,L,hs,D⟩:=G
 obtain⟨b,x,T,rfl,Y,rfl⟩:=Jp C c y I
 rw[Fi C T]at D
 exact⟨b,x,o,Y,L,hs,D⟩
end
end Gx
namespace Gx
open Go
def Kf{ids:List Nat}:∀{l:List Nat},Zk ids l=true->∀ b∈l,b∈ids
|[],_,b,k=>by simp at k
|i::r,h,b,k=>by
  rw[Zk]at h
  simp at h
  rcases zX.1 k with rfl|k
  ·exact Hs.1 h.1
  ·exact Kf h.2 b k
def Rv{d:Nat}:∀{l:List Nat}{base b:Nat},b∈l->base<=Gj d (An base l) b/\Gj d (An base l) b<base+l.length
|[],base,b,k=>by simp at k
| i::r,base,b,k=>by
  rw[An,Gj]
  cases hi:beq i b with
  |true=>simp
  | false =>
   have C:=Pf hi
   have D:b∈r:=by
    rcases zX.1 k with h|h
    ·exact absurd h.symm C
    ·exact h
   have:=Rv (d:=d) (base:=base+1) D
   simp only[cond_false,z8]
   omega
def iu{free ids:List Nat}{b:Nat}(h:Vy free b=true):Rp free ids b=b:=by unfold Rp;rw[h];rfl
def fO{free ids:List Nat}{b:Nat}(h:Vy free b=false)(k:b∈ids):300000<=Rp free ids b:=by
 unfold Rp p9;rw[h]
 exact(Rv (Abb.2 ⟨k,by simp[h]⟩)).1
def VW{b:Nat}:UU b=true↔100000<=b/\b<200000:=by unfold UU;simp
def QZ{free ids:List Nat}{b c:Nat}(D:b∈ids)(hc:100000<=c/\c<200000)(k:Rp free ids b=c):b=c:=by
 cases C:Vy free b with
|true=>rw[iu C]at k;exact k
|false=>have:=fO C D;omega
def V4{ρ:Nat->Nat}{K:List Nat}:∀{s:Ff}{i:Nat},Es (p_ ρ K s) i=if D9 K i=true then ES ρ (Es s i)else .undef
|[],i=>by
  show AV.undef=if D9 K i=true then ES ρ .undef else AV.undef
  simp[ES]
| (t,v)::r,i=>by
  rw[p_]
  by_cases e:t=i
  ·subst e
   cases k:D9 K t with
   |true=>simp[Es]
   |false=>simp only[cond_false];rw[V4];simp[k]
  ·have C:beq t i=false:=AK e
   cases k:D9 K t with
   |true=>simp only[cond_true,Es,C,cond_false];exact V4
   |false=>simp only[cond_false,Es,C];exact V4
def iy{g:A1}{l:List Nat}{b:Nat}(h:b∈Tp g l):∃ x,g b=some x/\x.dead=false:=by
 unfold Tp at h
 obtain⟨_,k⟩:=Abb.1 h
 unfold Et at k
 cases C:g b with
|none=>simp[C]at k
|some x =>
  cases D:x.dead with
  |false=>exact⟨x,rfl,D⟩
  |true=>simp[C,D]at k
section
variable{Z:Start}{nt:Nat}{J:Bool->Nat->Prop}{β:Bt}{st st':St}{a:Act}{w:World}
def AV.isz:AV->Nat
|.imm _ _ s _ _=>s
|_=>0
def Jq{live:List Nat}:∀(nils:List (Nat×Nat)){st:St}{J:Bool->Nat->Prop}{β:Bt},Inv Z nt J β st a w->Xh live nils st=some st'->∃ J' β',Inv Z nt J' β' st' a w
|[],st,J,β,I,hh=>by simp[Xh]at hh;subst hh;exact⟨J,β,I⟩
| (t,sz)::r,st,J,β,I,hh=>by
  rw[Xh]at hh
  cases L:ble 1000000 sz with
  | true =>
   rw[L,cond_true]at hh
   split at hh
   ·rename_i hm hs
    refine Jq r (J:=J) (β:=β) (st:={s:=AW st.s t (.imm [] 0 (sz - 1000000) false false),h:=st.h}) ?_ hh
    refine {I with ss:=⟨fun i v C=>?_,fun i hi=>?_⟩}
    ·rw[H5]
     by_cases e:i=t
     ·subst e
      have:=I.ss.slot i v C
      rw[hs,Rep]at this
      subst this
      rw[if_pos rfl,Rep,RepC]
      exact⟨by simp,none,0,rfl,zE _,fun _=>rfl,.inl rfl⟩
     ·rw[if_neg e];exact I.ss.slot i v C
    ·rw[H5]
     by_cases e:i=t
     ·subst e
      have:=I.ss.out i hi
      rw[hs]at this;cases this
     ·rw[if_neg e];exact I.ss.out i hi
   ·rename_i b off n hm hs
    obtain⟨⟨v',ups,org⟩,T,h1⟩:=ub hh
    by_cases Y:∃ v,a.tmps[t]?=some v
    ·obtain⟨v0,hv0⟩:=Y
     have hr:=I.ss.slot t v0 hv0
     rw[hs]at hr
     obtain⟨J1,A,D,_⟩:=BG I.sim (fun b x hb=>⟨x,hb,rfl⟩) T hr
     have I1:=I.step A (fun c x G hn=>by
      exfalso
      unfold FI at T
      obtain⟨y,hy,k⟩:=ub T
      obtain⟨_,k⟩:=uc k
      simp at k
      obtain⟨_,k,_⟩:=k
      subst k
      simp only[Ai,Ae]at G
      unfold Et at hy
      obtain⟨y0,hy0,_⟩:=ub hy
      by_cases e:c=b
      ·subst e;rw[hn]at hy0;cases hy0
      ·rw[if_neg e,hn] at G;cases G)
     refine Jq r (J:=J1) (β:=β) (st:={s:=AW st.s t v',h:=Ai ups st.h}) ?_ h1
     have him:∃ c,v'=.imm c n v'.isz false org:=by
      unfold FI at T
      obtain⟨y,hy,k⟩:=ub T
      obtain⟨_,k⟩:=uc k
      simp at k
      obtain⟨k,_,h3⟩:=k
      subst k h3
      exact⟨_,rfl⟩
     refine {I1 with ss:=⟨fun i v C=>?_,fun i hi=>?_⟩}
     ·rw[H5]
      by_cases e:i=t
      ·subst e
       rw[if_pos rfl]
       rw[hv0]at C;simp at C;subst C
       obtain⟨c,hc⟩:=him
       rw[hc]at D ⊢
       rw[Rep];exact D
      ·rw[if_neg e];exact I1.ss.slot i v C
     ·rw[H5]
      by_cases e:i=t
      ·subst e
       have:=I.ss.out i hi
       rw[hs]at this;cases this
      ·rw[if_neg e];exact I1.ss.out i hi
    ·exfalso
     have:=I.ss.out t (by
      cases h:a.tmps[t]? with
      |none=>simp at h;omega
      | some v=>exact absurd ⟨v,h⟩ Y)
     rw[hs]at this;cases this
   ·exact Jq r I hh
  | false =>
   rw[L,cond_false]at hh
   split at hh
   ·rename_i hm hs
    cases hf:Ah st.h (nid t+15)with
    |some x=>simp[hf]at hh
    | none =>
     simp[hf]at hh
     have A:=Step.newNone I.sim (d:=nid t+15) (x:=E4 sz) hf rfl
     have I1:=I.step A (fun b x G hn=>by
      rw[Ae]at G
      by_cases e:b=nid t+15
      ·subst e;unfold nid Fp;omega
      ·rw[if_neg e,hn] at G;cases G)
     refine Jq r (J:=J) (β:=fun b=>if b=nid t+15 then none else β b) (st:={s:=AW st.s t (.own (nid t+15) 0 0),h:=D2 st.h (nid t+15) (E4 sz)}) ?_ hh
     refine {I1 with ss:=⟨fun i v C=>?_,fun i hi=>?_⟩}
     ·rw[H5]
      by_cases e:i=t
      ·subst e
       rw[if_pos rfl,Rep]
       have:=I.ss.slot i v C
       rw[hs,Rep]at this
       subst this
       exact⟨E4 sz,none,0,⟨by rw[Ae,if_pos rfl],rfl⟩,rfl,zE _,.inl rfl⟩
      ·rw[if_neg e];exact I1.ss.slot i v C
     ·rw[H5]
      by_cases e:i=t
      ·subst e
       have:=I.ss.out i hi
       rw[hs]at this;cases this
      ·rw[if_neg e];exact I1.ss.out i hi
   ·exact Jq r I hh
def BO{E:Env}{live roots:List Nat}(I:Inv Z nt J β st a w)(hh:Zm E live roots st=some st'):∃ J' β',Inv Z nt J' β' st' a w:=by
 unfold Zm at hh
 obtain⟨s1,h1,h2⟩:=ub hh
 obtain⟨J1,β1,I1⟩:=Jq _ I h1
 obtain⟨hc,T⟩:=uc h2
 simp at hc T
 subst T
 obtain⟨C,hs,hi,_⟩:=hc
 have C:=M9 C
 have G:∀ b∈Hq (Ah s1.h) (Tp (Ah s1.h) (Rl (Ah s1.h) (US live s1.s++roots))),b∈Tp (Ah s1.h) (Rl (Ah s1.h) (US live s1.s++roots)):=Kf hi
 refine⟨J1,Zt _ _ β1,{I1 with sim:=I1.sim.ren C G,ss:=⟨fun i v hv=>?_,fun i hi=>?_⟩,wr:=fun k hm=>I1.wr k (fN C hm),outs:=fun b x0 x L hx hd=>?_}⟩
 ·rw[V4]
  cases hk:D9 live i with
  |false=>simp[Rep]
  |true =>
   simp only[if_true]
   exact Rep.ren C (fun b hb=>Kf hs b (VK hk b hb)) (I1.ss.slot i v hv)
 ·rw[V4,I1.ss.out i hi];simp[ES]
 ·obtain⟨b',x',D,Y,hg,rfl⟩:=Jp C b x hx
  have:=QZ D ⟨I1.zge b x0 L,I1.zlt b x0 L⟩ Y
  subst this
  obtain⟨⟨e1,em⟩,e2,e3,e4⟩:=I1.outs b' x0 x' L hg hd
  refine⟨⟨?_,em⟩,e2,by rw[Iw];exact e3,e4⟩
  have:=Fi (β:=β1) C D
  rw[Y]at this
  rw[this];exact e1
end
end Gx
namespace Gx
open Go
section
variable{R:Type}{r:R}{Z:Start}{E:Env}
def iz(hC:HG E)(hm:E.P.follows .mixedOrders=true){roots:List Nat}{N:Nat}:∀(c:Code){H:Hint}{kn:St->O R}{kx:Nat->St->O R}{kr:St->O R}{st:St}{a:Act}{w:World}{J:Bool->Nat->Prop}{β:Bt}{Q:Exit->Act->World->Prop},
  Inv Z E.nt J β st a w->Cw E roots N c H kn kx kr st=some r ->
  (∀ st' a' w' J' β',Inv Z E.nt J' β' st' a' w'->kn st'=some r->Q .normal a' w') ->
  (∀ id st' a' w' J' β',Inv Z E.nt J' β' st' a' w'->kx id st'=some r->Q (.exit id) a' w') ->
  (∀ st' a' w' J' β',Inv Z E.nt J' β' st' a' w'->kr st'=some r->Q .ret a' w')->c.wp E.P Q a w:=by
 intro c
 induction c with
|skip=>intro H kn kx kr st a w J β Q I hh C D G;exact wp_skip (C _ _ _ _ _ I hh)
|region id ops draw=>intro H kn kx kr st a w J β Q I hh C D G;exact ZP hC hm I hh C
| seq x y T L =>
  intro H kn kx kr st a w J β Q I hh C D G
  rw[Cw]at hh
  refine wp_seq (T I hh (fun st' a' w' J' β' I' h'=>?_) (fun id st' a' w' J' β' I' h'=>D id st' a' w' J' β' I' h') (fun st' a' w' J' β' I' h'=>G st' a' w' J' β' I' h'))
  unfold iG at h'
  cases Y:H.isJoin with
  |true =>
   rw[Y,cond_true,Ny]at h'
   obtain⟨s2,h2,h3⟩:=ub h'
   obtain⟨J2,β2,I2⟩:=BO I' h2
   exact L I2 h3 C D G
  |false=>rw[Y]at h';exact L I' h' C D G
| cond c x y T L =>
  intro H kn kx kr st a w J β Q I hh C D G
  rw[Cw]at hh
  split at hh
  ·rename_i t ht
   have h1:=A2 I.ss c
   rw[ht,Rep]at h1
   refine wp_cond h1 ?_
   cases t with
   |true=>exact T I hh C D G
   |false=>exact L I hh C D G
  ·simp at hh
| block id c ih =>
  intro H kn kx kr st a w J β Q I hh C D G
  rw[Cw]at hh
  refine wp_block (ih I hh (fun st' a' w' J' β' I' h'=>C _ _ _ _ _ I' h') (fun j st' a' w' J' β' I' h'=>?_) (fun st' a' w' J' β' I' h'=>G _ _ _ _ _ I' h'))
  cases Y:beq j id with
  |true =>
   rw[Y]at h'
   have:=zM Y
   subst this
   simp only[Exit.inBlock,if_true]
   exact C _ _ _ _ _ I' h'
  |false =>
   rw[Y]at h'
   simp only[Exit.inBlock]
   rw[if_neg (Pf Y)]
   exact D _ _ _ _ _ _ I' h'
| loop c ih =>
  intro H kn kx kr st a w J β Q I hh C D G
  rw[Cw,Ny]at hh
  refine wp_loop_rounds N ?_
  have key:∀(n:Nat){st:St}{a:Act}{w:World}{J:Bool->Nat->Prop}{β:Bt},Inv Z E.nt J β st a w->Zn (Zm E H.live roots) (fun k st=>Cw E roots N c H.a k kx kr st) n st=some r->Code.rounds E.P c Q n a w:=by
   intro n
   induction n with
   |zero=>intro st a w J β I h';simp[Zn]at h'
   |succ n ihn =>
    intro st a w J β I h'
    rw[Zn]at h'
    rw[rounds_succ]
    refine ih I h' (fun st' a' w' J' β' I' h''=>?_) (fun id st' a' w' J' β' I' h''=>D _ _ _ _ _ _ I' h'') (fun st' a' w' J' β' I' h''=>G _ _ _ _ _ I' h'')
    obtain⟨s2,h2,h3⟩:=ub h''
    obtain⟨J2,β2,I2⟩:=BO I' h2
    exact ihn I2 h3
  obtain⟨s2,h2,h3⟩:=ub hh
  obtain⟨J2,β2,I2⟩:=BO I h2
  exact key N I2 h3
|exit id=>intro H kn kx kr st a w J β Q I hh C D G;exact wp_exit (D _ _ _ _ _ _ I hh)
|ret=>intro H kn kx kr st a w J β Q I hh C D G;exact wp_ret (G _ _ _ _ _ I hh)
|rangeFunc=>intro H kn kx kr st a w J β Q I hh;simp[Cw]at hh
|scope c ih =>
  intro H kn kx kr st a w J β Q I hh C D G
  rw[Cw]at hh
  exact wp_scope_straight (ih I hh (fun st' a' w' J' β' I' h'=>C _ _ _ _ _ I' h') (fun id st' a' w' J' β' I' h'=>D _ _ _ _ _ _ I' h') (fun st' a' w' J' β' I' h'=>G _ _ _ _ _ I' h'))
|label =>
  intro H kn kx kr st a w J β Q I hh C D G
  rw[Cw]at hh
  exact wp_label (C _ _ _ _ _ I hh)
|goto=>intro H kn kx kr st a w J β Q I hh;simp[Cw]at hh
|refuse=>intro H kn kx kr st a w J β Q I hh;simp[Cw]at hh
end
end Gx
namespace Gx
open Go
structure FDone(Z:Start)(J:Bool->Nat->Prop)(β:Bt)(h:Ap)(w:World):Prop where
 sim:SimH J β h w
 os:w.os=Z.w.os
 tape:w.tape=Z.w.tape
 output:w.output=Z.w.output
 size:Z.w.heap.size<=w.heap.size
 frame:∀ k,k<Z.w.heap.size->¬ iJ Z.β Z.h k->w.heap[k]?=Z.w.heap[k]?
 wr:∀ k,iJ β h k->k<Z.w.heap.size->iJ Z.β Z.h k
 jsub:∀ o k,Z.J o k->J o k
 jup:∀ o k,J o k->Z.J o k\/iJ Z.β Z.h k\/Z.w.heap.size<=k
 sizes:∀ k,Aw Z.w k<=Aw w k
 outs:∀ b x0 x,Ah Z.h b=some x0->Ah h b=some x->x.dead=false->(β b=Z.β b/\x.mp=x0.mp)/\x.sz=x0.sz/\(x0.mp=false->x.cells.length=x0.cells.length)/\x0.dead=false
 live:∀ b x,Ah h b=some x->x.dead=false
def sG(P:Program)(f:Nat)(args:LA)(h:Ap)(res:AV)(h':Ap):Prop :=
 ∀(J:Bool->Nat->Prop)(β:Bt)(w:World)(vs:List Value),SimH J β h w->Reps J β h w args vs ->
  Calls P f vs.toArray w fun e w'=>∃ vc J' β',e=.returned vc/\FDone ⟨J,β,h,w⟩ J' β' h' w'/\Rep J' β' h' w' res vc
def fQ(P:Program)(f:Nat)(t:Tw):Prop:=∀ args h res h',(t.runK args h fun v h'=>some (v,h'))=some (res,h')->sG P f args h res h'
def VX(P:Program):List (Nat×Tw)->Prop
|[]=>True
|p::r=>fQ P p.1 p.2/\VX P r
def jA{P:Program}{R:Type}{r:R}:∀{T:List (Nat×Tw)},VX P T->∀{f:Nat}{C:LA}{h:Ap}{k:AV->Ap->O R},JK T f C h k=some r ->
  ∃ res h',sG P f C h res h'/\k res h'=some r
|[],_,f,C,h,k,hh=>by simp[JK]at hh
| (g,t)::T,hT,f,C,h,k,hh=>by
  rw[JK]at hh
  cases D:beq g f with
  |false=>rw[D]at hh;exact jA hT.2 hh
  |true =>
   rw[D]at hh
   have:=zM D
   subst this
   simp only[cond_true]at hh
   rw[t.eq]at hh
   obtain⟨⟨res,h'⟩,G,I⟩:=ub hh
   exact⟨res,h',hT.1 C h res h' G,I⟩
section
variable{R:Type}{r:R}{Z:Start}{nt:Nat}{J:Bool->Nat->Prop}{β:Bt}{st:St}{a:Act}{w:World}
def J_(tmps:Array Value):ResultVar->Sem Value
|.tmp t=>pure (tmps.getD t undef)
|.cell a t=>do loadVar t (<-Go.asAddr (tmps.getD a undef))
def pv{α β:Type}(f:α->Sem β)(xs:Array α):xs.mapM f=(List.toArray <$> xs.toList.mapM f):=by rw[<-List.mapM_toArray]
def lD(fn:Func)(tmps:Array Value):results fn tmps=(do let vs <-fn.results.mapM (J_ tmps);pure (if h:vs.size=1 then vs[0]else .tuple vs)):=by
 unfold results
 congr 1
def jB(l:List Value):Value:=match l with|[v]=>v|l=>.tuple l.toArray
def jC{P:Program}(fn:Func)(tmps:Array Value){vs:List Value}(h:(fn.results.toList.mapM (J_ tmps)).run P w=.ok vs w):(results fn tmps).run P w=.ok (jB vs) w:=by
 rw[lD,pv]
 simp only[map_eq_pure_bind,Sem.run_bind,h,Result.andThen_ok,Sem.run_pure]
 congr 1
 match vs with
|[]=>rfl
|[v]=>rfl
|v::u::r=>simp[jB]
def jD{P:Program}{t:TypeId}{v vc:Value}(h:(Instr.loadAt t v).run P w=.ok vc w):(do loadVar t (<-Go.asAddr v):Sem Value).run P w=.ok vc w:=by
 unfold Instr.loadAt at h
 cases v with
|pointer a =>
  cases a with
  |some a=>exact h
  |none=>simp[Instr.sureAddr]at h
|_=>simp[Instr.sureAddr]at h
def Va{E:Env}(S:SimH J β st.h w)(SS:SimS J β st.h w st.s a.tmps):∀(l:List ResultVar){C:LA}{k:LA->O R},Jn E st l C k=some r ->
  ∃ vals vs,k (C.reverse++vals)=some r/\(l.mapM (J_ a.tmps)).run E.P w=.ok vs w/\Reps J β st.h w vals vs
|[],C,k,hh=>⟨[],[],by simpa[Jn]using hh,by simp,by rw[Reps]⟩
|.tmp t::l,C,k,hh=>by
  rw[Jn]at hh
  obtain⟨vals,vs,D,G,I⟩:=Va S SS l hh
  refine⟨Es st.s t::vals,a.tmps.getD t undef::vs,by simpa using D,?_,by rw[Reps];exact⟨_,_,rfl,A2 SS (.tmp t),I⟩⟩
  simp only[Aes,J_,Sem.run_bind,Sem.run_pure,Result.andThen_ok,G]
|.cell ad t::l,C,k,hh=>by
  rw[Jn]at hh
  obtain⟨v,vc,L,D,G⟩:=QJ S (fun _ _ h=>h) hh (A2 SS (.tmp ad))
  obtain⟨vals,vs,I,T,Y⟩:=Va S SS l L
  refine⟨v::vals,vc::vs,by simpa using I,?_,by rw[Reps];exact⟨_,_,rfl,G,Y⟩⟩
  have:(J_ a.tmps (.cell ad t)).run E.P w=.ok vc w:=jD D
  simp only[Aes,Sem.run_bind,this,Sem.run_pure,Result.andThen_ok,T]
def lE{i:Nat}{m:Nat×Nat}{v v':AV}{ups:C5}{vc:Value}{h:Ap}(S:SimH J β h w)(hh:tq (Ah h) i m v=some (v',ups))(k:Rep J β h w v vc):
  ∃ J' β',Step J β h w J' β' (Ai ups h) w/\Rep J' β' (Ai ups h) w v' vc/\(∀ b x,Ah (Ai ups h) b=some x->Ah h b=none->Fp<=b):=by
 have old:∀{ups:C5},(∀ b,Ay ups b=true->∃ x,Ah h b=some x)->∀ b x,Ah (Ai ups h) b=some x->Ah h b=none->Fp<=b:=by
  intro ups hu b x C L
  cases hi:Ay ups b with
  |true=>obtain⟨y,hy⟩:=hu b hi;rw[hy]at L;cases L
  |false=>rw[Bj _ _ _ hi,L]at C;cases C
 unfold tq at hh
 cases Y:beq m.1 0 with
|true =>
  rw[Y]at hh;simp at hh
  obtain⟨rfl,rfl⟩:=hh
  exact⟨J,β,Step.refl S,k,old (by simp[Ay])⟩
| false =>
  rw[Y,cond_false]at hh
  cases h1:beq m.1 1 with
  | true =>
   rw[h1,cond_true]at hh
   split at hh
   ·simp at hh;obtain⟨rfl,rfl⟩:=hh
    rw[Rep]at k;subst k
    refine⟨J,β,Step.refl S,?_,old (by simp[Ay])⟩
    rw[Rep,RepC]
    exact⟨by simp,none,0,rfl,zE _,by simp,.inl rfl⟩
   ·simp at hh;obtain⟨rfl,rfl⟩:=hh
    refine⟨J,β,Step.refl S,?_,old (by simp[Ay])⟩
    rw[Rep,RepC]at k ⊢
    obtain⟨e1,A,cap,e2,e3,e4,e5⟩:=k
    exact⟨e1,A,cap,e2,e3,by simp,e5⟩
   ·obtain⟨⟨q1,q2,q3⟩,hq,G⟩:=ub hh
    simp at G;obtain⟨rfl,rfl⟩:=G
    obtain⟨J',A,hA,_⟩:=BG S (Looks.s fun _ _ h=>h) hq k
    refine⟨J',β,A,?_,old (bW hq)⟩
    unfold FI at hq
    obtain⟨x,C,D⟩:=ub hq
    obtain⟨_,h4⟩:=uc D
    simp at h4
    obtain⟨rfl,rfl,rfl⟩:=h4
    rw[Rep];exact hA
   ·simp at hh
  | false =>
   rw[h1,cond_false]at hh
   cases G:beq m.1 2 with
   | true =>
    rw[G,cond_true]at hh
    split at hh
    ·obtain⟨L,D⟩:=kO hh
     simp at D;obtain⟨rfl,rfl⟩:=D
     have T:Ah h (nid 90000+i)=none:=by cases C:Ah h (nid 90000+i)<;>simp_all
     have A:=Step.newNone S (x:=E4 m.2) T rfl
     refine⟨J,fun b=>if b=nid 90000+i then none else β b,A,?_,fun b x C hb=>?_⟩
     ·rw[Rep]at k;subst k;rw[Rep]
      exact⟨E4 m.2,none,0,⟨by simp only[Ai];rw[Ae,if_pos rfl],rfl⟩,rfl,zE _,.inl rfl⟩
     ·simp only[Ai]at C
      rw[Ae]at C
      by_cases e:b=nid 90000+i
      ·subst e;unfold nid Fp;omega
      ·rw[if_neg e,hb]at C;cases C
    ·simp at hh;obtain⟨rfl,rfl⟩:=hh
     exact⟨J,β,Step.refl S,k,old (by simp[Ay])⟩
   | false =>
    rw[G,cond_false]at hh
    split at hh
    ·rename_i c
     obtain⟨⟨q1,q2,q3⟩,hq,D⟩:=ub hh
     simp at D;obtain⟨rfl,rfl⟩:=D
     rw[Rep]at k
     obtain⟨cs,rfl,hc⟩:=k
     obtain⟨J',A,hA,I,_⟩:=Lk S (Looks.s fun _ _ h=>h) hq hc
     refine⟨J',β,A,?_,old (Rq hq)⟩
     rw[Rep]
     exact⟨cs,rfl,I.symm,hA⟩
    ·simp at hh;obtain⟨rfl,rfl⟩:=hh
     exact⟨J,β,Step.refl S,k,old (by simp[Ay])⟩
    ·simp at hh
def Q_{s:Ff}:∀(vals:LA){i:Nat}{ms:List (Nat×Nat)}{h h':Ap}{vals':LA}{vs:List Value}{J:Bool->Nat->Prop}{β:Bt},
  Inv Z nt J β {s:=s,h:=h} a w->iH h i ms vals=some (vals',h')->Reps J β h w vals vs ->
  ∃ J' β',Inv Z nt J' β' {s:=s,h:=h'} a w/\Reps J' β' h' w vals' vs/\∀ x v,Rep J β h w x v->Rep J' β' h' w x v
|[],i,ms,h,h',vals',vs,J,β,I,hh,C=>by
  simp[iH]at hh;obtain⟨rfl,rfl⟩:=hh
  exact⟨J,β,I,C,fun _ _ h=>h⟩
|v::r,i,ms,h,h',vals',vs,J,β,I,hh,C=>by
  rw[iH]at hh
  obtain⟨⟨v1,u1⟩,Y,h2⟩:=ub hh
  obtain⟨⟨r2,hr⟩,h3,L⟩:=ub h2
  simp at L;obtain⟨rfl,rfl⟩:=L
  rw[Reps]at C
  obtain⟨u,us,rfl,D,G⟩:=C
  obtain⟨J1,β1,A,hA,k⟩:=lE I.sim Y D
  have I1:=I.step A k
  obtain⟨J2,β2,I2,hB,T⟩:=Q_ r I1 h3 (Reps.ext A.ext G)
  refine⟨J2,β2,I2,?_,fun x v h=>T x v (Rep.ext A.ext h)⟩
  rw[Reps]
  exact⟨u,us,rfl,T _ _ hA,hB⟩
def ZQ{E:Env}{fn:Func}{modes:List (Nat×Nat)}{outs:List Nat}{k:AV->Ap->O R}(I:Inv Z nt J β st a w)(hh:Nz E fn modes outs k st=some r):
  ∃ res h' vc J' β',k res h'=some r/\(results fn a.tmps).run E.P w=.ok vc w/\FDone Z J' β' h' w/\Rep J' β' h' w res vc:=by
 unfold Nz at hh
 obtain⟨vals,vs,h1,h2,h3⟩:=Va I.sim I.ss _ hh
 simp only[List.reverse_nil,Adb]at h1
 obtain⟨⟨vals',h'⟩,h4,h5⟩:=ub h1
 obtain⟨J1,β1,I1,hR,_⟩:=Q_ (s:=st.s) vals I h4 h3
 obtain⟨hc,h6⟩:=uc h5
 simp at hc
 obtain⟨G,hs,hi,_⟩:=hc
 have G:=M9 G
 have L:=Kf hi
 have hs:=Kf hs
 refine⟨_,_,jB vs,J1,Zt _ _ β1,h6,jC fn a.tmps h2,?_,Rep.ren G hs ?_⟩
 ·exact⟨I1.sim.ren G L,I1.os,I1.tape,I1.output,I1.size,I1.frame,fun k hm=>I1.wr k (fN G hm),I1.jsub,I1.jup,I1.sizes,fun b x0 x T Y hd=>by
   obtain⟨b',x',D,he,hg,rfl⟩:=Jp G b x Y
   have:=QZ D ⟨I1.zge b x0 T,I1.zlt b x0 T⟩ he
   subst this
   obtain⟨⟨e1,em⟩,e2,e3,e4⟩:=I1.outs b' x0 x' T hg hd
   refine⟨⟨?_,em⟩,e2,by rw[Iw];exact e3,e4⟩
   have:=Fi (β:=β1) G D
   rw[he]at this
   rw[this];exact e1,fun b x Y=>by
   obtain⟨b',x',D,he,hg,rfl⟩:=Jp G b x Y
   obtain⟨x2,h7,h8⟩:=iy D
   rw[hg] at h7;simp at h7;subst h7;exact h8⟩
 ·match vals',vs,hR with
  |[],vs,hR=>rw[Reps]at hR;subst hR;simp only[jB,tt];rw[Rep];exact⟨[],rfl,by rw[Reps]⟩
  |[v],vs,hR =>
   rw[Reps]at hR
   obtain⟨u,us,rfl,hu,C⟩:=hR
   rw[Reps]at C;subst C
   exact hu
  |v::v2::l,vs,hR =>
   have hR':=hR
   rw[Reps]at hR
   obtain⟨u,us,rfl,hu,C⟩:=hR
   rw[Reps]at C
   obtain⟨u2,us2,rfl,_,_⟩:=C
   simp only[jB,tt]
   rw[Rep]
   exact⟨_,rfl,hR'⟩
end
end Gx
namespace Gx
open Go
section
variable{J J':Bool->Nat->Prop}{β:Bt}{h:Ap}{w:World}
mutual
def Rep.noOrg:∀{x:AV}{v:Value},Ow x=false->Rep J β h w x v->Rep (fun _=>J false) β h w x v
|.own ..,v,_,hr=>by rw[Rep]at hr ⊢;exact hr
|.optr ..,v,_,hr=>by rw[Rep]at hr ⊢;exact hr
|.omap ..,v,_,hr=>by rw[Rep]at hr ⊢;exact hr
|.pagg c o,v,ho,hr=>by
  rw[Ow]at ho;subst ho
  rw[Rep]at hr ⊢;exact hr
|.agg c,v,ho,hr=>by
  rw[Ow]at ho
  rw[Rep]at hr ⊢
  obtain⟨cs,h1,h2⟩:=hr
  exact⟨cs,h1,Reps.noOrg ho h2⟩
|.tup c,v,ho,hr=>by
  rw[Ow]at ho
  rw[Rep]at hr ⊢
  obtain⟨cs,h1,h2⟩:=hr
  exact⟨cs,h1,Reps.noOrg ho h2⟩
|.fn f c,v,ho,hr=>by
  rw[Ow]at ho
  rw[Rep]at hr ⊢
  obtain⟨cs,h1,h2⟩:=hr
  exact⟨cs,h1,Reps.noOrg ho h2⟩
|.undef,_,_,_=>by rw[Rep];trivial
|.imm c n sz t o,v,ho,hr=>by
  rw[Ow]at ho;subst ho
  rw[Rep]at hr ⊢;exact hr
|.iptr c o,v,ho,hr=>by
  rw[Ow]at ho;subst ho
  rw[Rep]at hr ⊢;exact hr
|.int ..,v,_,hr=>by rw[Rep]at hr ⊢;exact hr
|.bool _,v,_,hr=>by rw[Rep]at hr ⊢;exact hr
|.str _,v,_,hr=>by rw[Rep]at hr ⊢;exact hr
|.nsl,v,_,hr=>by rw[Rep]at hr ⊢;exact hr
|.nilptr,v,_,hr=>by rw[Rep]at hr ⊢;exact hr
|.nilfn,v,_,hr=>by rw[Rep]at hr ⊢;exact hr
def Reps.noOrg:∀{c:List AV}{cs:List Value},Nx c=false->Reps J β h w c cs->Reps (fun _=>J false) β h w c cs
|[],_,_,hr=>by rw[Reps]at hr ⊢;exact hr
|x::r,cs,ho,hr=>by
  rw[Nx]at ho
  simp at ho
  rw[Reps]at hr ⊢
  obtain⟨u,us,h1,h2,h3⟩:=hr
  exact⟨u,us,h1,Rep.noOrg ho.1 h2,Reps.noOrg ho.2 h3⟩
end
def VY:∀{c:LA}{j:Nat}{x:AV},Nx c=false->c[j]?=some x->Ow x=false
|[],j,x,_,k=>by simp at k
|y::r,j,x,C,k=>by
  rw[Nx]at C
  simp at C
  cases j with
  |zero=>simp at k;subst k;exact C.1
  |succ j=>exact VY C.2 (by simpa using k)
def VZ:∀{h:Ap}{b:Nat}{x:Blk},JL h=false->Ah h b=some x->x.taint=false/\(x.pure=false->Nx x.cells=false)
|[],b,x,_,k=>by simp[Ah]at k
| (i,y)::r,b,x,C,k=>by
  rw[JL]at C
  simp at C
  rw[Ah]at k
  cases hi:beq i b with
  |true =>
   rw[hi]at k;simp at k;subst k
   refine⟨C.1.1,fun D=>?_⟩
   have:=C.1.2
   rw[D]at this;simpa using this
  |false=>rw[hi]at k;exact VZ C.2 (by simpa using k)
def SimH.noOrg(S:SimH J β h w)(ho:JL h=false):SimH (fun _=>J false) β h w:=by
 refine⟨fun _ k C=>S.jlt _ k C,fun k C=>C,S.gl.to (fun _ h=>h) (fun _ _=>rfl),fun b x D I L=>?_,fun b x D I L=>by
   obtain⟨T,Y,k,ob,g3,g4,g5,g6⟩:=S.mblk b x D I L
   exact⟨T,Y,k,ob,g3,g4,g5,fun _ hg=>g6 false hg⟩,S.sep⟩
 obtain⟨ht,hc⟩:=VZ ho D
 rcases S.blk b x D I L with h1|⟨k,o,cs,ty,fr,h1,h2,h3,h4,h5,h6,h7⟩
 ·exact .inl h1
 ·refine .inr ⟨k,o,cs,ty,fr,h1,h2,h3,h4,⟨fun G=>?_,fun G j c C=>?_⟩,fun hs _=>h6 hs _,fun hs=>?_⟩
  ·have:=h5.1 G;rw[ht]at this;exact this
  ·obtain⟨u,T,Y,g3⟩:=h5.2 G j c C
   exact⟨u,T,Rep.noOrg (VY (hc G) C) Y,g3⟩
  ·have:=h7 hs;rw[ht]at this;exact this
def Ext.grow(hJ:∀ o k,J o k->J' o k):Ext J β h w J' β h w:=⟨hJ,fun _ _ _=>rfl,fun b x C=>⟨x,⟨C,rfl⟩,by cases D:x.dead<;>simp⟩,fun _ _ _ _=>zE _⟩
def SimH.grow(S:SimH J β h w)(hJ:∀ o k,J o k->J' o k)(L:∀ o k,J' o k->k<w.heap.size)(T:∀ k,J' false k->J' true k)
  (C:∀ b x k o,Ah h b=some x->x.dead=false->x.sealed=false->β b=some (k,o)->∀ g,¬ J' g k):SimH J' β h w:=by
 refine⟨L,T,S.gl.to (hJ false) (fun _ _=>rfl),fun b x D G Y=>?_,fun b x D G Y=>by
   obtain⟨g1,g2,k,ob,g3,g4,g5,g6⟩:=S.mblk b x D G Y
   exact⟨g1,g2,k,ob,g3,g4,g5,C b x k 0 D G g2 g3⟩,S.sep⟩
 rcases S.blk b x D G Y with I|⟨k,o,cs,ty,fr,I,h2,h3,h4,h5,h6,h7⟩
 ·exact .inl I
 ·exact .inr ⟨k,o,cs,ty,fr,I,h2,h3,h4,h5.ext (Ext.grow hJ),fun hs=>C b x k o D G hs I,fun hs=>hJ _ _ (h7 hs)⟩
def v7(β:Bt)(h:Ap)(fz:List Nat)(k:Nat):Prop:=∃ b x o,b∈fz/\Ah h b=some x/\x.dead=false/\x.sealed=false/\β b=some (k,o)
def JS(J:Bool->Nat->Prop)(β:Bt)(h:Ap)(fz:List Nat):Bool->Nat->Prop:=fun o k=>J o k\/(o=true/\v7 β h fz k)
def V_{g:A1}{b off n:Nat}{x:Blk}{vc:Value}{fz:List Nat}(S:SimH J β h w)(hl:Looks g h)(C:Et g b=some x)(hp:x.pure=true)(hf:x.sealed=false->b∈fz)(hv:Rep J β h w (.own b off n) vc):
  Rep (JS J β h fz) β h w (.imm ((x.cells.drop off).take (n*x.sz)) n x.sz false (!x.sealed||x.taint)) vc:=by
 unfold Et at C
 obtain⟨x0,T,C⟩:=ub C
 obtain⟨Y,C⟩:=kO C
 simp at C;subst C
 have L:=hl b _ T
 rw[Rep]
 have key:=(mT (J':=fun o k=>o≠x0.taint\/JS J β h fz (!x0.sealed||x0.taint) k) S L Y hp hv (fun k o hβ=>.inr ?_) (fun o k G=>?_) false (!x0.sealed||x0.taint)).2 (by simp)
 ·exact RepC.keep (fun k I=>by rcases I with I|I;exact absurd rfl I;exact I) (fun _ _=>rfl) key
 ·cases hs:x0.sealed with
  |false =>
   simp only[Acs,Aee]
   exact .inr ⟨rfl,b,x0,o,hf hs,L,Y,hs,hβ⟩
  | true =>
   simp only[Ac7,Ad4]
   rcases S.blk b x0 L Y (pe L hv)with⟨D,_⟩|⟨k',o',cs,ty,fr,D,h2,h3,h4,h5,h6,h7⟩
   ·rw[hβ]at D;cases D
   ·rw[hβ]at D;simp at D;obtain⟨rfl,rfl⟩:=D
    exact .inl (h7 hs)
 ·by_cases e:o=x0.taint
  ·subst e
   right
   cases hs:x0.sealed with
   |false =>
    simp only[Acs,Aee]
    left
    cases ht:x0.taint with
    |false=>rw[ht]at G;exact S.jft k G
    |true=>rw[ht]at G;exact G
   |true=>simp only[Ac7,Ad4];exact .inl G
  ·exact .inl e
def JS.mono(S:SimH J β h w){fz:List Nat}{a b:Bool}(k:Nat)(C:JS J β h fz a k):JS J β h fz (a||b) k:=by
 cases a
 ·cases b
  ·exact C
  ·rcases C with C|⟨D,_⟩
   ·exact .inl (S.jft k C)
   ·cases D
 ·exact C
def ZR{g:A1}{v v':AV}{o:Bool}{vc:Value}{fz:List Nat}(S:SimH J β h w)(Y:Looks g h)(hh:Xd g v=some (v',o))(hf:∀ b off n x,v=.own b off n->g b=some x->x.sealed=false->b∈fz)(D:Rep J β h w v vc):
  RepC (JS J β h fz o) w v' vc:=by
 cases v
 case own b off n =>
  rw[Xd]at hh
  obtain⟨x,C,h1⟩:=ub hh
  obtain⟨hp,T⟩:=uc h1
  simp at T
  obtain⟨rfl,rfl⟩:=T
  have:=V_ S Y C hp (fun hs=>by
   unfold Et at C
   obtain⟨x0,G,C⟩:=ub C
   obtain⟨hd,C⟩:=kO C
   simp at C;subst C
   exact hf b off n x0 rfl G hs) D
  rw[Rep]at this;exact this
 case imm c n sz t org =>
  simp[Xd]at hh;obtain⟨rfl,rfl⟩:=hh
  rw[Rep,RepC]at D
  rw[RepC]
  obtain⟨e1,A,cap,e2,e3,e4,I⟩:=D
  refine⟨e1,A,cap,e2,e3,by simp,?_⟩
  rcases I with I|⟨a,e6,e7,e8⟩
  ·exact .inl I
  ·exact .inr ⟨a,e6,.inl e7,RepCs.keep (fun k L=>.inl L) (fun _ _=>rfl) (fun _=>rfl) e8⟩
 case iptr c org =>
  simp[Xd]at hh;obtain⟨rfl,rfl⟩:=hh
  rw[Rep]at D
  exact RepC.keep (fun k L=>.inl L) (fun _ _=>rfl) D
 all_goals first
  |(simp[Xd]at hh;done)
  |(simp[Xd]at hh;obtain⟨rfl,rfl⟩:=hh;rw[Rep]at D;rw[RepC];exact D)
def Rw{g:A1}{fz:List Nat}(S:SimH J β h w)(Y:Looks g h):∀{c c':LA}{o:Bool}{cs:List Value},Vu g c=some (c',o)->(∀ b∈F9 g c,b∈fz)->Reps J β h w c cs ->
  cs.length=c'.length/\∀(j:Nat)(x:AV),c'[j]?=some x->∃ u,cs[j]?=some u/\RepC (JS J β h fz o) w x u
|[],c',o,cs,hh,G,C=>by
  simp[Vu]at hh;obtain⟨rfl,rfl⟩:=hh
  rw[Reps]at C;subst C
  exact⟨rfl,fun j x D=>by simp at D⟩
| v::r,c',o,cs,hh,G,C=>by
  rw[Vu]at hh
  obtain⟨⟨v1,o1⟩,h1,hh⟩:=ub hh
  obtain⟨⟨r1,o2⟩,h2,hh⟩:=ub hh
  simp at hh;obtain⟨rfl,rfl⟩:=hh
  rw[Reps]at C
  obtain⟨u,us,rfl,g1,g2⟩:=C
  have I:∀ b ∈ F9 g r,b ∈ fz:=fun b L=>G b (by
   cases v<;>simp only[F9]<;>try exact L
   split
   ·rename_i x _;cases x.sealed<;>simp[L]
   ·exact L)
  have a1:=ZR (fz:=fz) S Y h1 (fun b off n x e hx hs=>G b (by subst e;simp[F9,hx,hs])) g1
  obtain⟨b1,b2⟩:=Rw S Y h2 I g2
  refine⟨by simp[b1],fun j x D=>?_⟩
  cases j with
  |zero=>simp at D;subst D;exact⟨u,by simp,RepC.keep (fun k T=>JS.mono S k T) (fun _ _=>rfl) a1⟩
  |succ j =>
   obtain⟨u',e1,e2⟩:=b2 j x (by simpa using D)
   exact⟨u',by simpa using e1,RepC.keep (fun k T=>by rw[Aed];exact JS.mono S k T) (fun _ _=>rfl) e2⟩
def m7{rd:Nat->Option Value}:∀{c:LA} ,(∀ j x,c[j]?=some x->∃ u,rd j=some u/\Rep J β h w x u)->∃ us,Reps J β h w c us/\∀ j,j<us.length->us[j]?=rd j
|[],_=>⟨[],by rw[Reps],fun j k=>by simp at k⟩
|x::r,hc=>by
  obtain⟨u,C,D⟩:=hc 0 x (by simp)
  obtain⟨us,G,I⟩:=m7 (rd:=fun j=>rd (j+1)) (c:=r) (fun j y k=>hc (j+1) y (by simpa using k))
  refine⟨u::us,by rw[Reps];exact⟨u,us,rfl,D,G⟩,fun j k=>?_⟩
  cases j with
  |zero=>simp[C]
  |succ j=>simpa using I j (by simpa using k)
def ZS{g:A1}{v v':AV}{q:Bool}{vc:Value}{fz:List Nat}(S:SimH J β h w)(hl:Looks g h)(hh:eK g v=some (v',q))(hf:∀ b∈Q3 g v,b∈fz)(I:Rep J β h w v vc):
  Rep (JS J β h fz) β h w v' vc/\E9 v'=[]:=by
 unfold eK at hh
 split at hh
 ·rename_i b off n
  obtain⟨x,C,T⟩:=ub hh
  obtain⟨hp,Y⟩:=uc T
  simp at Y
  obtain⟨rfl,_⟩:=Y
  exact⟨V_ S hl C hp (fun hs=>by
   unfold Et at C
   obtain⟨x0,L,C⟩:=ub C
   obtain⟨hd,C⟩:=kO C
   simp at C;subst C
   exact hf b (by simp[Q3,L,hs])) I,by simp[E9]⟩
 ·simp at hh;obtain⟨rfl,_⟩:=hh
  refine⟨?_,by simp[E9]⟩
  rw[Rep,RepC]at I ⊢
  obtain⟨e1,A,cap,e2,e3,e4,e5⟩:=I
  refine⟨e1,A,cap,e2,e3,by simp,?_⟩
  rcases e5 with e5|⟨a,e6,e7,e8⟩
  ·exact .inl e5
  ·exact .inr ⟨a,e6,.inl e7,RepCs.keep (fun k hk=>.inl hk) (fun _ _=>rfl) (fun _=>rfl) e8⟩
 ·rename_i b off
  obtain⟨x,C,T⟩:=ub hh
  unfold Et at C
  obtain⟨x0,L,C⟩:=ub C
  obtain⟨hd,C⟩:=kO C
  simp at C;subst C
  have hy:=hl b _ L
  rw[Rep]at I
  obtain⟨x1,k,o,⟨g1,gm⟩,g2,g3⟩:=I
  rw[hy]at g1;simp at g1;subst g1
  rcases g3 with g3|g3
  ·simp[hd]at g3
  rcases S.blk b x0 hy hd gm with⟨G,_⟩|⟨k',o',cs,ty,fr,G,Y,h3,h4,h5,h6,h7⟩
  ·rw[g3]at G;cases G
  rw[g3]at G;simp at G;obtain⟨rfl,rfl⟩:=G
  have hk:JS J β h fz (!x0.sealed||x0.taint) k:=by
   cases hs:x0.sealed with
   |false =>
    simp only[Acs,Aee]
    exact .inr ⟨rfl,b,x0,o,hf b (by simp[Q3,L,hs]),hy,hd,hs,g3⟩
   |true =>
    simp only[Ac7,Ad4]
    exact .inl (h7 hs)
  cases hp:x0.pure with
  | true =>
   rw[hp,cond_true]at T
   simp at T
   obtain⟨rfl,_⟩:=T
   refine⟨?_,by simp[E9]⟩
   have hin:∀ k2,J x0.taint k2->JS J β h fz (!x0.sealed||x0.taint) k2:=by
    intro k2 D
    left
    cases hs:x0.sealed with
    |false =>
     simp only[Acs,Aee]
     cases ht:x0.taint with
     |false=>rw[ht]at D;exact S.jft k2 D
     |true=>rw[ht]at D;exact D
    |true=>simp only[Ac7,Ad4];exact D
   rw[Rep,RepC]
   refine⟨_,g2,hk,?_⟩
   refine RepCs.keep hin (fun _ _=>rfl) (fun j=>?_) ((h5.1 hp).drop off)
   rw[Addr.add_mid,Iu Y,Aaf]
  | false =>
   rw[hp,cond_false]at T
   obtain⟨⟨c1,o1⟩,h8,h9⟩:=ub T
   simp at h9;obtain⟨rfl,_⟩:=h9
   refine⟨?_,by simp[E9]⟩
   obtain⟨us,e1,e2⟩:=m7 (c:=x0.cells.drop off) (rd:=fun j=>cs[o+off+j]?) (fun j c D=>by
    obtain⟨u,q1,q2,_⟩:=h5.2 hp (off+j) c (by rw[zk]at D;exact D)
    exact⟨u,by rw[<-q1,Aaf],q2⟩)
   obtain⟨b1,b2⟩:=Rw (fz:=fz) S hl h8 (fun b' hb=>hf b' (by simp[Q3,L,hp,hb])) e1
   rw[Rep,RepC]
   refine⟨_,g2,?_,?_⟩
   ·have:=JS.mono S (b:=true) k hk;rwa [Adl]at this
   ·rw[Bh]
    intro j x D
    obtain⟨u,e3,e4⟩:=b2 j x D
    refine⟨u,?_,RepC.keep (fun k hk=>by have:=JS.mono S (b:=true) k hk;rwa [Adl]at this) (fun _ _=>rfl) e4⟩
    rw[Addr.add_mid,Iu Y,zU]
    rw[<-e2 j (by have:=(zK.1 e3).1;exact this)];exact e3
 ·rename_i c
  obtain⟨⟨c1,o1⟩,T,Y⟩:=ub hh
  simp at Y;obtain⟨rfl,_⟩:=Y
  rw[Rep]at I
  obtain⟨cs,rfl,I⟩:=I
  obtain⟨b1,b2⟩:=Rw (fz:=fz) S hl T (by simpa[Q3]using hf) I
  refine⟨?_,by simp[E9]⟩
  rw[Rep]
  refine⟨cs,rfl,b1,?_⟩
  rw[Bh]
  intro j x D
  obtain⟨u,e1,e2⟩:=b2 j x D
  exact⟨u,by simpa using e1,e2⟩
 ·simp at hh;obtain⟨rfl,_⟩:=hh
  exact⟨Rep.ext (Ext.grow fun _ _ D=>.inl D) I,by simp[E9,F8]⟩
 ·simp at hh
 ·simp at hh
 ·simp at hh
 ·simp at hh
 ·simp at hh;obtain⟨rfl,_⟩:=hh
  refine⟨Rep.ext (Ext.grow fun _ _ D=>.inl D) I,?_⟩
  cases v<;>first|rfl|simp_all
def Rx{g:A1}{fz:List Nat}(S:SimH J β h w)(hl:Looks g h):∀{D:LA}{ms:List Bool}{args':LA}{im C:List Nat}{vs:List Value},
  Vv g ms D=some (args',im,C)->(∀ b∈C,b∈fz)->Reps J β h w D vs->Reps (JS J β h fz) β h w args' vs/\∀ b∈F8 args',b∈im
|[],ms,args',im,C,vs,hh,Y,G=>by
  simp[Vv]at hh;obtain⟨rfl,rfl,rfl⟩:=hh
  rw[Reps]at G;subst G
  exact⟨by rw[Reps],by simp[F8]⟩
| v::r,ms,args',im,C,vs,hh,Y,G=>by
  rw[Vv]at hh
  rw[Reps]at G
  obtain⟨u,us,rfl,I,L⟩:=G
  cases hm:ms.headD false with
  |true =>
   rw[hm,cond_true]at hh
   obtain⟨⟨a2,i2,f2⟩,h1,T⟩:=ub hh
   simp at T;obtain⟨rfl,rfl,rfl⟩:=T
   obtain⟨g1,g2⟩:=Rx S hl h1 Y L
   refine⟨by rw[Reps];exact⟨u,us,rfl,Rep.ext (Ext.grow fun _ _ hj=>.inl hj) I,g1⟩,fun b k=>?_⟩
   rw[F8]at k
   rcases zP.1 k with k|k
   ·exact zP.2 (.inl k)
   ·exact zP.2 (.inr (g2 b k))
  |false =>
   rw[hm,cond_false]at hh
   obtain⟨⟨v1,b1⟩,h0,hh⟩:=ub hh
   obtain⟨⟨a2,i2,f2⟩,h1,T⟩:=ub hh
   simp at T;obtain⟨rfl,rfl,rfl⟩:=T
   obtain⟨e1,e2⟩:=ZS S hl h0 (fun b k=>Y b (zP.2 (.inl k))) I
   obtain⟨g1,g2⟩:=Rx S hl h1 (fun b k=>Y b (zP.2 (.inr k))) L
   refine⟨by rw[Reps];exact⟨u,us,rfl,e1,g1⟩,fun b k=>?_⟩
   rw[F8,e2]at k
   exact g2 b (by simpa using k)
end
end Gx
namespace Gx
open Go
def b9{g g':A1}{ρ:Nat->Nat}:∀{ids:List Nat},(∀ b∈ids,g b=g' b)->sub g ρ ids=sub g' ρ ids
|[],_=>rfl
|b::r,h=>by rw[sub,sub,h b (by simp),b9 (fun c hc=>h c (by simp[hc]))]
def BP{g:A1}:∀{l:List Nat},BC g l=true->∀ b∈l,∃ x,g b=some x/\x.dead=false
|[],_,b,k=>by simp at k
| i::r,h,b,k=>by
  rw[BC]at h
  simp at h
  rcases zX.1 k with rfl|k
  ·cases C:g b with
   |none=>rw[C]at h;simp at h
   |some x=>rw[C]at h;exact⟨x,rfl,by simpa using h.1⟩
  ·exact BP h.2 b k
def m8:∀{l m:List Nat},iD l m=true->∀ b∈l,b∉m
|[],m,_,b,k=>by simp at k
|i::r,m,h,b,k=>by
  rw[iD]at h
  simp at h
  rcases zX.1 k with rfl|k
  ·intro C;have:=Hs.2 C;rw[this]at h;simp at h
  ·exact m8 h.2 b k
def V5{d:Nat}:∀{l:List (Nat×Nat)}{b:Nat},b∈l.map (·.1)->Gj d l b∈l.map (·.2)
|[],b,k=>by simp at k
| (i,x)::r,b,k=>by
  rw[Gj]
  cases hi:beq i b with
  |true=>simp
  | false =>
   have C:b∈r.map (·.1):=by
    rw[z_]at k
    rcases zX.1 k with h|h
    ·exact absurd h.symm (Pf hi)
    ·exact h
   simp only[cond_false,z_]
   exact Ab6 _ (V5 C)
def P8{d:Nat}:∀{l m:List (Nat×Nat)}{b:Nat},Gj d (l++m) b=if b∈l.map (·.1)then Gj d l b else Gj d m b
|[],m,b=>by simp
| (i,x)::r,m,b=>by
  rw[Aax,Gj,Gj,P8]
  cases hi:beq i b with
  |true=>have:=zM hi;subst this;simp
  |false =>
   have:=Pf hi
   simp only[cond_false,z_,zX]
   by_cases k:b∈r.map (·.1)
   ·rw[if_pos k,if_pos (.inr k)]
   ·rw[if_neg k,if_neg (by rintro(h|h);exact this h.symm;exact k h)]
def Hd:∀{base:Nat}{l:List Nat},(An base l).map (·.1)=l
|_,[]=>rfl
|base,i::r=>by rw[An,z_,Hd]
def WA{d D:Nat}:∀{l:List Nat}{base b:Nat},b∈l->Gj D ((An base l).map fun p=>(p.2,p.1)) (Gj d (An base l) b)=b
|[],base,b,k=>by simp at k
| i::r,base,b,k=>by
  rw[An,Gj,z_,Gj]
  cases hi:beq i b with
  |true=>have:=zM hi;subst this;simp
  | false =>
   have C:b∈r:=by
    rcases zX.1 k with h|h
    ·exact absurd h.symm (Pf hi)
    ·exact h
   simp only[cond_false]
   have G:=Rv (d:=d) (base:=base+1) C
   rw[AK (show base≠Gj d (An (base+1) r) b by omega)]
   exact WA C
def Nb:∀{base:Nat}{l:List Nat}{c:Nat},c∈(An base l).map (·.2)->base<=c/\c<base+l.length
|_,[],c,hc=>by simp[An]at hc
|base,i::r,c,hc=>by
  rw[An,z_]at hc
  rcases zX.1 hc with h|h
  ·simp at h;subst h;simp
  ·have:=Nb h;simp only[z8];omega
def Ry:∀{base:Nat}{l:List Nat},((An base l).map (·.2)).Nodup
|_,[]=>by simp[An]
|base,i::r=>by
  rw[An,z_,Aae]
  exact⟨fun h=>by have:=Nb h;simp at this;omega,Ry⟩
def BQ:∀{base:Nat}{l:List Nat}{b:Nat},b∈l->(b,Gj 0 (An base l) b)∈An base l
|_,[],b,k=>by simp at k
| base,i::r,b,k=>by
  rw[An,Gj]
  cases hi:beq i b with
  |true=>have:=zM hi;subst this;simp
  | false =>
   have C:b∈r:=by
    rcases zX.1 k with h|h
    ·exact absurd h.symm (Pf hi)
    ·exact h
   simp only[cond_false]
   exact Ab6 _ (BQ C)
def lF(x:Blk):Blk:={x with dead:=true,pure:=true,cells:=[]}
def Fa:∀{ups:C5}{h:Ap}{b:Nat}{o:Option Blk},(ups.map (·.1)).Nodup->(b,o)∈ups->Ah (Ai ups h) b=match o with|some x=>some x|none=>(Ah h b).map lF
|[],h,b,o,_,I=>by simp at I
| (i,y)::r,h,b,o,C,I=>by
  rw[z_,Aae]at C
  rcases zX.1 I with L|k
  ·simp at L
   obtain⟨rfl,rfl⟩:=L
   have D:Ay r b=false:=by
    have:∀{r:C5},b∉r.map (·.1)->Ay r b=false:=by
     intro r
     induction r with
     |nil=>intro _;rfl
     |cons p r T =>
      intro h
      simp only[z_,zX,not_or]at h
      rw[Ay,AK (fun e=>h.1 e.symm)]
      exact T h.2
    exact this C.1
   cases o with
   |some x=>rw[Ai,Bj _ _ _ D,Ae,if_pos rfl]
   |none =>
    rw[Ai,Bj _ _ _ D]
    cases Y:Ah h b with
    |none=>simp[Y]
    |some x=>simp only[Option.map_some];rw[Ae,if_pos rfl];rfl
  ·have G:b≠i:=fun e=>by subst e;exact C.1 (zr.2 ⟨_,k,rfl⟩)
   cases y with
   |some x =>
    rw[Ai,Fa C.2 k]
    cases o with
    |some _=>rfl
    |none=>simp only;rw[Ae,if_neg G]
   | none =>
    rw[Ai,Fa C.2 k]
    cases o with
    |some _=>rfl
    |none =>
     simp only
     split
     ·rw[Ae,if_neg G]
     ·rfl
def Q7:∀{ups:C5}{b:Nat},Ay ups b=true↔b∈ups.map (·.1)
|[],b=>by simp[Ay]
|(i,y)::r,b=>by
  rw[Ay,z_,zX,<-Q7]
  cases hi:beq i b with
  |true=>have:=zM hi;subst this;simp
  |false=>have:=Pf hi;simp;intro e;exact absurd e.symm this
def WB{β:Bt}{h:Ap}{ρ:Nat->Nat}{ids:List Nat}(C:(ids.map ρ).Nodup){k:Nat}(I:iJ (Zt ρ ids β) (sub (Ah h) ρ ids) k):
  ∃ b x o,b∈ids/\Ah h b=some x/\x.dead=false/\x.sealed=false/\β b=some (k,o):=by
 obtain⟨c,y,o,L,T,hs,D⟩:=I
 obtain⟨b,x,G,rfl,Y,rfl⟩:=Jp C c y L
 rw[Fi C G]at D
 exact⟨b,x,o,G,Y,T,hs,D⟩
def SimH.unJ{J:Bool->Nat->Prop}{β:Bt}{h:Ap}{w:World}(S:SimH J β h w){b:Nat}{x:Blk}{k o:Nat}(G:Ah h b=some x)(I:x.dead=false)(hs:x.sealed=false)(D:β b=some (k,o)):∀ g,¬ J g k:=by
 cases L:x.mp with
| false =>
  rcases S.blk b x G I L with⟨C,_⟩|⟨Y,o2,cs,ty,fr,C,T,h4,h5,h6,h7,h8⟩
  ·rw[D]at C;cases C
  ·rw[D]at C;simp at C;obtain⟨rfl,rfl⟩:=C
   exact h7 hs
|true =>
  obtain⟨_,_,Y,ob,C,_,_,T⟩:=S.mblk b x G I L
  rw[D]at C;simp at C;obtain⟨rfl,_⟩:=C
  exact T
def SimH.seJ{J:Bool->Nat->Prop}{β:Bt}{h:Ap}{w:World}(S:SimH J β h w){b:Nat}{x:Blk}{k o:Nat}(D:Ah h b=some x)(G:x.dead=false)(hs:x.sealed=true)(I:β b=some (k,o)):J x.taint k:=by
 cases L:x.mp with
| false =>
  rcases S.blk b x D G L with⟨C,_⟩|⟨Y,o2,cs,ty,fr,C,h3,h4,h5,h6,h7,T⟩
  ·rw[I]at C;cases C
  ·rw[I]at C;simp at C;obtain⟨rfl,rfl⟩:=C
   exact T hs
|true =>
  have:=(S.mblk b x D G L).2.1
  rw[hs]at this;cases this
def Step.merge{J J0 J1:Bool->Nat->Prop}{β β1:Bt}{h h1 H:Ap}{w w':World}{D ids:List Nat}(S:SimH J β h w)(S1:SimH J0 β1 h1 w')
  (hH:∀ b,b∉D->Ah H b=Ah h b)
  (hD:∀ b x,b∈D->Ah H b=some x->x.dead=false->Ah h1 b=some x)
  (hD1:∀ b x,Ah h1 b=some x->b∈D/\Ah H b=some x)
  (hnew:∀ b x,b∈D->b∉ids->Ah h b≠some x)
  (hold:∀ b x,b∈ids->Ah h b=some x->∃ x',(Ah H b=some x'/\x'.mp=x.mp)/\(x'.dead=true\/(x.dead=false/\β1 b=β b/\x'.sz=x.sz/\(x.mp=false->x'.cells.length=x.cells.length))))
  (hids:∀ b∈ids,b∈D)
  (os:w'.os=w.os) (tape:w'.tape=w.tape) (output:w'.output=w.output) (size:w.heap.size<=w'.heap.size)
  (frame:∀ k,k<w.heap.size->(¬ ∃ b x o,b∈ids/\Ah h b=some x/\x.dead=false/\x.sealed=false/\β b=some (k,o))->w'.heap[k]?=w.heap[k]?)
  (wr:∀ k,iJ β1 h1 k->k<w.heap.size->∃ b x o,b∈ids/\Ah h b=some x/\x.dead=false/\x.sealed=false/\β b=some (k,o))
  (jup:∀ o k,J0 o k->J o k\/(∃ b x o,b∈ids/\Ah h b=some x/\x.dead=false/\x.sealed=false/\β b=some (k,o))\/w.heap.size<=k)
  (sizes:∀ k,Aw w k<=Aw w' k) :
  Step J β h w (fun o k=>J o k\/J0 o k) (fun b=>if b∈D then β1 b else β b) H w'/\Ext J0 β1 h1 w' (fun o k=>J o k\/J0 o k) (fun b=>if b∈D then β1 b else β b) H w':=by
 have E0:Ext J0 β1 h1 w' (fun o k=>J o k\/J0 o k) (fun b=>if b∈D then β1 b else β b) H w':=by
  refine⟨fun _ _ C=>.inr C,fun _ _ _=>rfl,fun b x G=>?_,fun _ _ _ _=>zE _⟩
  obtain⟨h2,h3⟩:=hD1 b x G
  refine⟨x,⟨h3,rfl⟩,?_⟩
  cases L:x.dead
  ·exact .inr ⟨rfl,by simp[h2],rfl,fun _=>rfl⟩
  ·exact .inl rfl
 have keepJ:∀ o k,J o k->w'.heap[k]?=w.heap[k]?:=by
  intro o k C
  refine frame k (S.jlt o k C) ?_
  rintro⟨b,x,o',_,G,L,hs,hβ⟩
  exact S.unJ G L hs hβ o C
 have E:Ext J β h w (fun o k=>J o k\/J0 o k) (fun b=>if b∈D then β1 b else β b) H w':=by
  refine⟨fun _ _ C=>.inl C,keepJ,fun b x G=>?_,fun b k o _=>sizes k⟩
  by_cases hi:b∈ids
  ·obtain⟨x',h2,h3⟩:=hold b x hi G
   refine⟨x',h2,?_⟩
   simp only[hids b hi,if_true]
   exact h3
  ·have hnd:b∉D:=fun L=>hnew b x L hi G
   refine⟨x,⟨by rw[hH b hnd];exact G,rfl⟩,?_⟩
   cases L:x.dead
   ·exact .inr ⟨rfl,by simp[hnd],rfl,fun _=>rfl⟩
   ·exact .inl rfl
 have out:∀{b x},b∉D->Ah H b=some x->Ah h b=some x:=fun G hx=>by rw[<-hH _ G];exact hx
 refine⟨⟨E,⟨?_,?_,S.gl.ext E,fun b x hx L hm=>?_,fun b x hx L hm=>by
   by_cases G:b∈D
   ·have h2:=hD b x G hx L
    have M:=S1.mblk b x h2 L hm
    refine M.keep (by simp[G]) (fun _ _ _=>rfl) (fun g k o hβ C=>?_)
    rcases C with C|C
    ·exfalso
     by_cases hk:k<w.heap.size
     ·obtain⟨b',x',o',Y,hx',T,hs',I⟩:=wr k ⟨b,x,o,h2,L,M.2.1,hβ⟩ hk
      exact S.unJ hx' T hs' I g C
     ·exact hk (S.jlt g k C)
    ·exact C
   ·have h2:=out G hx
    have M:=S.mblk b x h2 L hm
    have hnm:∀ k o,β b=some (k,o)->¬ ∃ b x o,b∈ids/\Ah h b=some x/\x.dead=false/\x.sealed=false/\β b=some (k,o):=by
     rintro k o h3 ⟨b',x',o',Y,hx',T,hs',I⟩
     have:=S.sep b b' x x' k o o' h2 hx' L T M.2.1 h3 I
     subst this
     exact G (hids b Y)
    refine M.keep (by simp[G]) (fun k o hβ=>frame k (M7 S h2 L hβ) (hnm k o hβ)) (fun g k o hβ C=>?_)
    rcases C with C|C
    ·exact C
    ·rcases jup g k C with C|C|C
     ·exact C
     ·exact absurd C (hnm k o hβ)
     ·have:=M7 S h2 L hβ;omega,?_⟩,os,tape,output,size,?_,?_,?_⟩,E0⟩
 ·rintro o k (C|C)
  ·exact zV (S.jlt o k C) size
  ·exact S1.jlt o k C
 ·rintro k (C|C)
  ·exact .inl (S.jft k C)
  ·exact .inr (S1.jft k C)
 ·by_cases G:b∈D
  ·have h2:=hD b x G hx L
   rcases S1.blk b x h2 L hm with⟨h3,h4⟩|⟨k,o,cs,ty,fr,h3,h4,h5,h6,h7,h8,h9⟩
   ·exact .inl ⟨by simp[G,h3],h4⟩
   ·refine .inr ⟨k,o,cs,ty,fr,by simp[G,h3],h4,h5,h6,h7.ext E0,fun hs g C=>?_,fun hs=>.inr (h9 hs)⟩
    rcases C with C|C
    ·by_cases hk:k<w.heap.size
     ·obtain⟨b',x',o',Y,hx',T,hs',I⟩:=wr k ⟨b,x,o,h2,L,hs,h3⟩ hk
      exact S.unJ hx' T hs' I g C
     ·exact hk (S.jlt g k C)
    ·exact h8 hs g C
  ·have h2:=out G hx
   rcases S.blk b x h2 L hm with⟨h3,h4⟩|⟨k,o,cs,ty,fr,h3,h4,h5,h6,h7,h8,h9⟩
   ·exact .inl ⟨by simp[G,h3],h4⟩
   ·have hk:=P5 h4
    have hnm:x.sealed=false->¬ ∃ b x o,b∈ids/\Ah h b=some x/\x.dead=false/\x.sealed=false/\β b=some (k,o):=by
     rintro hs ⟨b',x',o',Y,hx',T,hs',I⟩
     have:=S.sep b b' x x' k o o' h2 hx' L T hs h3 I
     subst this
     exact G (hids b Y)
    have same:w'.heap[k]?=w.heap[k]?:=by
     cases hs:x.sealed with
     |false=>exact frame k hk (hnm hs)
     |true=>exact keepJ _ k (h9 hs)
    refine .inr ⟨k,o,cs,ty,fr,by simp[G,h3],by rw[same];exact h4,h5,h6,h7.ext E,fun hs g C=>?_,fun hs=>.inl (h9 hs)⟩
    rcases C with C|C
    ·exact h8 hs g C
    ·rcases jup g k C with C|C|C
     ·exact h8 hs g C
     ·exact hnm hs C
     ·omega
 ·intro b b' x x' k o o' hx hx' L T hs hβ I
  by_cases G:b∈D<;>by_cases Y:b'∈D
  ·simp[G]at hβ;simp[Y]at I
   exact S1.sep b b' x x' k o o' (hD b x G hx L) (hD b' x' Y hx' T) L T hs hβ I
  ·exfalso
   simp[G]at hβ;simp[Y]at I
   have h2:=out Y hx'
   have hk:=M7 S h2 T I
   obtain⟨b2,x2,o2,hb2,hx2,hd2,hs2,hβ2⟩:=wr k ⟨b,x,o,hD b x G hx L,L,hs,hβ⟩ hk
   have:=S.sep b2 b' x2 x' k o2 o' hx2 h2 hd2 T hs2 hβ2 I
   subst this
   exact Y (hids _ hb2)
  ·exfalso
   simp[G]at hβ;simp[Y]at I
   have h2:=out G hx
   have h3:=hD b' x' Y hx' T
   have hk:=M7 S h2 L hβ
   have hnm:¬ ∃ b x o,b∈ids/\Ah h b=some x/\x.dead=false/\x.sealed=false/\β b=some (k,o):=by
    rintro⟨b2,x2,o2,hb2,hx2,hd2,hs2,hβ2⟩
    have:=S.sep b b2 x x2 k o o2 h2 hx2 L hd2 hs hβ hβ2
    subst this
    exact G (hids _ hb2)
   cases hs':x'.sealed with
   |false=>exact hnm (wr k ⟨b',x',o',h3,T,hs',I⟩ hk)
   |true =>
    rcases jup _ k (S1.seJ h3 T hs' I)with C|C|C
    ·exact S.unJ h2 L hs hβ _ C
    ·exact hnm C
    ·omega
  ·simp[G]at hβ;simp[Y]at I
   exact S.sep b b' x x' k o o' (out G hx) (out Y hx') L T hs hβ I
 ·intro k hk hm
  exact frame k hk (fun ⟨b,x,o,_,hx,L,hs,hβ⟩=>hm ⟨b,x,o,hx,L,hs,hβ⟩)
 ·rintro k ⟨b,x,o,hx,L,hs,hβ⟩ hk
  by_cases G:b∈D
  ·simp[G]at hβ
   obtain⟨b2,x2,o2,_,hx2,hd2,hs2,hβ2⟩:=wr k ⟨b,x,o,hD b x G hx L,L,hs,hβ⟩ hk
   exact⟨b2,x2,o2,hx2,hd2,hs2,hβ2⟩
  ·simp[G]at hβ
   exact⟨b,x,o,out G hx,L,hs,hβ⟩
 ·rintro o k (C|C)
  ·exact .inl C
  ·rcases jup o k C with C|⟨b,x,o2,_,hx,L,hs,hβ⟩|C
   ·exact .inl C
   ·exact .inr (.inl ⟨b,x,o2,hx,L,hs,hβ⟩)
   ·exact .inr (.inr C)
end Gx
namespace Gx
open Go
def lG{l:List Nat}:HC l=true↔l=[]:=by cases l<;>simp[HC]
def Xr{α β:Type}{f:α->β}:∀{l:List α},(l.map f).Nodup->l.Nodup
|[],_=>Aeu
|a::r,h=>by
  rw[z_,Aae]at h
  exact Aae.2 ⟨fun k=>h.1 (zr.2 ⟨a,k,rfl⟩),Xr h.2⟩
def Xs{α:Type}{p:α->Bool}:∀{l:List α},l.Nodup->(l.filter p).Nodup
|[],_=>Aeu
|a::r,h=>by
  rw[Aae]at h
  rw[Ad7]
  split
  ·exact Aae.2 ⟨fun k=>h.1 (Abb.1 k).1,Xs h.2⟩
  ·exact Xs h.2
def KA{base:Nat}{l:List Nat}{p:Nat×Nat}(k:p∈An base l):p.1∈l:=by
 have:p.1∈(An base l).map (·.1):=zr.2 ⟨p,k,rfl⟩
 rw[Hd]at this;exact this
def m9{σ:Nat->Nat}:∀{l:List Nat}{a b:Nat},(l.map σ).Nodup->a∈l->b∈l->σ a=σ b->a=b
|[],a,b,_,G,_,_=>by simp at G
|i::r,a,b,D,G,L,I=>by
  rw[z_,Aae]at D
  rcases zX.1 G with k|k<;>rcases zX.1 L with C|C
  ·rw[k,C]
  ·subst k;exact absurd (zr.2 ⟨b,C,I.symm⟩) D.1
  ·subst C;exact absurd (zr.2 ⟨a,k,I⟩) D.1
  ·exact m9 D.2 k C I
mutual
def pw:∀{a b:AV},Mr a b=true->a=b
|.int k n,b,h=>by cases b<;>simp[Mr,G9]at h;obtain⟨rfl,rfl⟩:=h;rfl
|.bool x,b,h=>by cases b<;>simp[Mr]at h;subst h;rfl
|.str x,b,h=>by cases b<;>simp[Mr]at h;subst h;rfl
|.nsl,b,h=>by cases b<;>simp[Mr]at h;rfl
|.imm c n z t o,b,h=>by cases b<;>simp[Mr]at h;obtain⟨h1,rfl,rfl,rfl,rfl⟩:=h;rw[Q8 h1]
|.iptr c o,b,h=>by cases b<;>simp[Mr]at h;obtain⟨h1,rfl⟩:=h;rw[Q8 h1]
|.pagg c o,b,h=>by cases b<;>simp[Mr]at h;obtain⟨h1,rfl⟩:=h;rw[Q8 h1]
|.own x f n,b,h=>by cases b<;>simp[Mr]at h;obtain⟨rfl,rfl,rfl⟩:=h;rfl
|.optr x f,b,h=>by cases b<;>simp[Mr]at h;obtain⟨rfl,rfl⟩:=h;rfl
|.agg c,b,h=>by cases b<;>simp[Mr]at h;rw[Q8 h]
|.tup c,b,h=>by cases b<;>simp[Mr]at h
|.fn f c,b,h=>by cases b<;>simp[Mr]at h
|.nilptr,b,h=>by cases b<;>simp[Mr]at h;rfl
|.nilfn,b,h=>by cases b<;>simp[Mr]at h
|.undef,b,h=>by cases b<;>simp[Mr]at h;rfl
|.omap x,b,h=>by cases b<;>simp[Mr]at h
def Q8:∀{a b:List AV},U5 a b=true->a=b
|[],b,h=>by cases b<;>simp[U5]at h;rfl
|a::r,b,h=>by
  cases b with
  |nil=>simp[U5]at h
  |cons x s=>rw[U5,zJ]at h;rw[pw h.1,Q8 h.2]
end
def qA{x y:Blk}(h:pZ x y=true):x=y:=by
 cases x;cases y
 simp[pZ]at h
 obtain⟨rfl,rfl,rfl,rfl,rfl,k,rfl,rfl⟩:=h
 rw[Q8 k]
def DZ(g:A1):∀ L:C5,(Zl g L).Sublist L
|[]=>.slnil
|(b,some x)::r=>by
  rw[Zl]
  cases iE g b x
  ·exact(DZ g r).cons_cons _
  ·exact(DZ g r).cons _
|(b,none)::r=>(DZ g r).cons_cons _
def NZ(g:A1):∀(L:C5)(p:Nat×Option Blk),p∈L->p∈Zl g L\/∃ x,p.2=some x/\g p.1=some x
|[],p,k=>by simp at k
| (b,some x)::r,p,k=>by
  rw[Zl]
  rcases zX.1 k with rfl|k
  ·cases hq:iE g b x with
   |false=>exact .inl (Ae8 ..)
   |true =>
    refine .inr ⟨x,rfl,?_⟩
    unfold iE at hq
    cases C:g b with
    |none=>rw[C]at hq;simp at hq
    |some y=>rw[C]at hq;rw[qA hq]
  ·rcases NZ g r p k with h|h
   ·left
    cases iE g b x
    ·exact Ab6 _ h
    ·exact h
   ·exact .inr h
| (b,none)::r,p,k=>by
  show p∈(b,none)::Zl g r\/_
  rcases zX.1 k with rfl|k
  ·exact .inl (Ae8 ..)
  ·rcases NZ g r p k with h|h
   ·exact .inl (Ab6 _ h)
   ·exact .inr h
def ZT{T L M:C5}{h:Ap}(hs:T.Sublist L)(hk:∀ p∈L,p∈T\/∃ x,p.2=some x/\Ah h p.1=some x)(I:((L++M).map (·.1)).Nodup)(b:Nat):Ah (Ai (T++M) h) b=Ah (Ai (L++M) h) b:=by
 have k:(T++M).Sublist (L++M):=hs.append (List.Sublist.refl M)
 have Y:((T++M).map (·.1)).Nodup:=(k.map _).nodup I
 cases hi:Ay (T++M) b with
|true =>
  obtain⟨p,D,rfl⟩:=zr.1 (Q7.1 hi)
  obtain⟨i,o⟩:=p
  rw[Fa Y D,Fa I (k.subset D)]
| false =>
  rw[Bj _ _ _ hi]
  cases hj:Ay (L++M) b with
  |false=>rw[Bj _ _ _ hj]
  | true =>
   obtain⟨p,D,rfl⟩:=zr.1 (Q7.1 hj)
   have C:p∉T++M:=fun h=>by
    have:=Q7.2 (zr.2 ⟨p,h,rfl⟩);rw[hi]at this;cases this
   obtain⟨i,o⟩:=p
   rcases zP.1 D with h1|h1
   ·rcases hk _ h1 with G|⟨x,G,h3⟩
    ·exact absurd (zP.2 (.inl G)) C
    ·simp only at G h3
     subst G
     rw[Fa I D,h3]
   ·exact absurd (zP.2 (.inr h1)) C
def lH{v:AV}(h:Ow v=false):UA v=v:=by cases v<;>simp_all[Ow,UA]
def qB {E:Env} (hT:VX E.P E.tbl):HG E:=by
 intro R r k J β h w g d f args vs S hl hh hv
 unfold bT at hh
 obtain⟨⟨args',im,fz⟩,hp,h1⟩:=ub hh
 simp only at h1
 obtain⟨hc,h2⟩:=uc h1
 simp only[zJ]at hc
 obtain⟨hal,him,hin,hdj,I,_⟩:=hc
 generalize hids:Rl g im=ids at *
 generalize hρ:Gj 0 (An 100000 ids)=ρ at *
 have hal:=BP hal
 have him:=Kf him
 have hdj:=m8 hdj
 have I:=M9 I
 have hg:∀ b∈ids,g b=Ah h b:=fun b C=>by obtain⟨x,G,_⟩:=hal b C;rw[G,hl b x G]
 rw[Tr (g:=Ah h) hg]at hin
 have hin:=Kf hin
 rw[b9 (g':=Ah h) hg]at h2
 obtain⟨hA,hB⟩:=Rx (fz:=fz) S hl hp (fun _ h=>h) hv
 have aliveH:∀ b∈ids,∃ x,Ah h b=some x/\x.dead=false:=fun b C=>by obtain⟨x,G,hd⟩:=hal b C;exact⟨x,hl b x G,hd⟩
 have SJ:SimH (JS J β h fz) (Zt ρ ids β) (sub (Ah h) ρ ids) w:=by
  refine(S.ren I hin).grow (fun o k L=>.inl L) ?_ ?_ ?_
  ·rintro o k (L|⟨_,b,x,o',_,G,hd,_,hβ⟩)
   ·exact S.jlt o k L
   ·exact M7 S G hd hβ
  ·rintro k (L|⟨h0,_⟩)
   ·exact .inl (S.jft k L)
   ·cases h0
  ·intro c y k o hy hd hs hβ q L
   obtain⟨b,x,C,rfl,G,rfl⟩:=Jp I c y hy
   rw[Fi I C]at hβ
   rcases L with L|⟨_,b',x',o',hb',hx',hd',hs',hβ'⟩
   ·exact S.unJ G hd hs hβ _ L
   ·have:=S.sep b b' x x' k o o' G hx' hd hd' hs hβ hβ'
    subst this
    exact hdj b hb' C
 have RJ:Reps (JS J β h fz) (Zt ρ ids β) (sub (Ah h) ρ ids) w (Pe ρ args') vs:=Reps.ren I (fun b C=>him b (hB b C)) hA
 obtain⟨rv,rh,hF,h3⟩:=jA hT h2
 have hcall:=hF _ _ w vs SJ RJ
 obtain⟨Y,h4⟩:=kO h3
 have hdo:cond (HC fz) rv (UA rv)=rv:=by
  cases he:HC fz with
  |true=>rfl
  |false =>
   rw[he]at Y
   simp at Y
   exact lH Y.1
 rw[hdo]at h4
 obtain⟨hc2,h5⟩:=uc h4
 simp only[zJ]at hc2
 obtain⟨hnal,hn16,hrv,houts,hrin,hσn⟩:=hc2
 generalize hall:Rl (Ah rh) (E9 rv++(An 100000 ids).map (·.2))=all at *
 generalize hnew:all.filter (fun b=>!D9 ((An 100000 ids).map (·.2)) b)=new at *
 generalize hσ:Gj 0 ((An 100000 ids).map (fun p=>(p.2,p.1))++An (nid d) new)=σ at *
 have hnal:=BP hnal
 have hrv:=Kf hrv
 have houts:=Kf houts
 have hrin:=Kf hrin
 have hσn:=M9 hσn
 have hn16:new.length<=16:=by simpa using hn16
 have hTs:(cond (D9 E.cob (d+7000000)) (Zl g ((An 100000 ids).map fun p=>(p.1,(Ah rh p.2).map (Jm σ)))) ((An 100000 ids).map fun p=>(p.1,(Ah rh p.2).map (Jm σ)))).Sublist ((An 100000 ids).map fun p=>(p.1,(Ah rh p.2).map (Jm σ))):=by
  cases D9 E.cob (d+7000000)
  ·exact List.Sublist.refl _
  ·exact DZ g _
 have hTm:∀ p∈((An 100000 ids).map fun p=>(p.1,(Ah rh p.2).map (Jm σ))),p∈(cond (D9 E.cob (d+7000000)) (Zl g ((An 100000 ids).map fun p=>(p.1,(Ah rh p.2).map (Jm σ)))) ((An 100000 ids).map fun p=>(p.1,(Ah rh p.2).map (Jm σ))))\/∃ x,p.2=some x/\Ah h p.1=some x:=by
  intro p hp
  cases D9 E.cob (d+7000000)
  ·exact .inl hp
  ·rcases NZ g _ p hp with h6|⟨x,h6,h7⟩
   ·exact .inl h6
   ·exact .inr ⟨x,h6,hl _ _ h7⟩
 generalize cond (D9 E.cob (d+7000000)) (Zl g ((An 100000 ids).map fun p=>(p.1,(Ah rh p.2).map (Jm σ)))) ((An 100000 ids).map fun p=>(p.1,(Ah rh p.2).map (Jm σ)))=T at h5 hTs hTm
 refine⟨_,_,h5,fun hfree=>Calls.mono hcall ?_⟩
 rintro e w' ⟨vc,J',β',rfl,F,hR⟩
 refine⟨vc,rfl,?_⟩
 have back:∀ b∈ids,σ (ρ b)=b:=by
  intro b C
  rw[<-hσ,P8,if_pos,<-hρ]
  ·exact WA C
  ·rw[Abp]
   have:=V5 (d:=0) (l:=An 100000 ids) (b:=b) (by rw[Hd];exact C)
   rw[hρ]at this
   exact this
 have ρall:∀ b∈ids,ρ b∈all:=by
  intro b C
  refine houts _ ?_
  have:=V5 (d:=0) (l:=An 100000 ids) (b:=b) (by rw[Hd];exact C)
  rw[hρ]at this
  exact this
 have σout:∀ c∈all,c∈(An 100000 ids).map (·.2)->σ c∈ids:=by
  intro c _ hc
  rw[<-hσ,P8,if_pos (by rw[Abp];exact hc)]
  have:=V5 (d:=0) (l:=(An 100000 ids).map (fun p=>(p.2,p.1))) (b:=c) (by rw[Abp];exact hc)
  rw[Abp]at this
  have e:(An 100000 ids).map ((fun x=>x.2)∘fun p=>(p.2,p.1))=ids:=Hd
  rw[e]at this
  exact this
 have newmem:∀ c∈new,c∈all/\c∉(An 100000 ids).map (·.2):=by
  intro c hc
  rw[<-hnew]at hc
  obtain⟨h6,h7⟩:=Abb.1 hc
  refine⟨h6,fun hm=>?_⟩
  rw[Hs.2 hm]at h7;simp at h7
 have σnew:∀ c∈new,σ c=Gj 0 (An (nid d) new) c:=by
  intro c hc
  rw[<-hσ,P8,if_neg]
  rw[Abp];exact(newmem c hc).2
 have allcases:∀ c∈all,c∈(An 100000 ids).map (·.2)\/c∈new:=by
  intro c hc
  by_cases hm:c∈(An 100000 ids).map (·.2)
  ·exact .inl hm
  ·refine .inr ?_
   rw[<-hnew]
   refine Abb.2 ⟨hc,?_⟩
   cases hq:D9 ((An 100000 ids).map (·.2)) c with
   |false=>rfl
   |true=>exact absurd (Hs.1 hq) hm
 have newFree0:∀ c∈(An (nid d) new).map (·.2),Ay (T++(An (nid d) new).map (fun p=>(p.2,(Ah rh p.1).map (Jm σ)))) c=true:=by
  intro c hc
  refine Q7.2 ?_
  rw[List.map_append,Abp]
  exact zP.2 (.inr hc)
 have hH0:=fun b=>ZT (h:=h) (M:=(An (nid d) new).map (fun p=>(p.2,(Ah rh p.1).map (Jm σ)))) hTs hTm (b:=b)
 generalize hups:((An 100000 ids).map fun p=>(p.1,(Ah rh p.2).map (Jm σ)))++(An (nid d) new).map (fun p=>(p.2,(Ah rh p.1).map (Jm σ)))=ups at *
 have keys:ups.map (·.1)=ids++(An (nid d) new).map (·.2):=by
  rw[<-hups,List.map_append,Abp,Abp]
  congr 1
  exact Hd
 have newFree:∀ c∈(An (nid d) new).map (·.2),Ah h c=none:=by
  intro c hc
  refine hfree c (newFree0 c hc) ?_
  have:=Nb hc
  unfold Vw
  simp;omega
 have keysN:(ups.map (·.1)).Nodup:=by
  rw[keys,List.nodup_append]
  refine⟨Xr I,Ry,fun a ha b C e=>?_⟩
  subst e
  obtain⟨x,G,_⟩:=aliveH a ha
  rw[newFree a C]at G;cases G
 have upsOld:∀ b∈ids,(b,(Ah rh (ρ b)).map (Jm σ))∈ups:=by
  intro b C
  rw[<-hups]
  refine zP.2 (.inl (zr.2 ⟨(b,ρ b),?_,rfl⟩))
  rw[<-hρ];exact BQ C
 have upsNew:∀ c∈new,(σ c,(Ah rh c).map (Jm σ))∈ups:=by
  intro c hc
  rw[<-hups]
  refine zP.2 (.inr (zr.2 ⟨(c,σ c),?_,rfl⟩))
  rw[σnew c hc];exact BQ hc
 have J0:∃ J0:Bool->Nat->Prop,SimH J0 β' rh w'/\Rep J0 β' rh w' rv vc/\∀ o k,J0 o k->J o k\/iJ (Zt ρ ids β) (sub (Ah h) ρ ids) k\/w.heap.size<=k:=by
  cases he:HC fz with
  |true =>
   have:=lG.1 he
   subst this
   refine⟨J',F.sim,hR,fun o k L=>?_⟩
   rcases F.jup o k L with(L|⟨_,b,x,o',C,_⟩)|L
   ·exact .inl L
   ·simp at C
   ·exact .inr L
  | false =>
   rw[he]at Y
   simp at Y
   refine⟨fun _=>J' false,F.sim.noOrg Y.2,Rep.noOrg Y.1 hR,fun o k L=>?_⟩
   rcases F.jup false k L with(h6|⟨h0,_⟩)|h6
   ·left
    cases o
    ·exact h6
    ·exact S.jft k h6
   ·cases h0
   ·exact .inr h6
 obtain⟨J0,S0,R0,jup0⟩:=J0
 have S1:=S0.ren hσn hrin
 have R1:=Rep.ren hσn hrv R0
 have hH:=fun b=>hH0 b keysN
 have M:=Step.merge (J:=J) (J0:=J0) (J1:=J0) (H:=Ai (T++(An (nid d) new).map (fun p=>(p.2,(Ah rh p.1).map (Jm σ)))) h) (D:=ids++(An (nid d) new).map (·.2)) (ids:=ids) S S1
  (fun b C=>(hH b).trans (Bj _ _ _ (by
   cases hi:Ay ups b with
   |false=>rfl
   | true=>exact absurd (by rw[<-keys];exact Q7.1 hi) C)))
  (fun b x C G hd=>by
   rcases zP.1 C with C|C
   ·rw[hH,Fa keysN (upsOld b C)]at G
    cases hq:Ah rh (ρ b)with
    |none =>
     rw[hq]at G;simp at G
     obtain⟨y,_,rfl⟩:=G
     simp[lF]at hd
    |some y =>
     rw[hq]at G;simp at G;subst G
     have:=Ts (g:=Ah rh) hσn (ρ b) y (ρall b C) hq
     rw[back b C]at this
     exact this
   ·obtain⟨c,hc,rfl⟩:∃ c∈new,σ c=b:=by
     obtain⟨p,hp,rfl⟩:=zr.1 C
     have hp1:p.1∈new:=KA hp
     refine⟨p.1,hp1,?_⟩
     rw[σnew _ hp1]
     have:∀{base:Nat}{l:List Nat}{p:Nat×Nat},l.Nodup->p∈An base l->Gj 0 (An base l) p.1=p.2:=by
      intro base l
      induction l generalizing base with
      |nil=>intro p _ hp;simp[An]at hp
      | cons i r ih =>
       intro p hn hp
       rw[Aae]at hn
       rw[An]at hp ⊢
       rw[Gj]
       rcases zX.1 hp with rfl|hp
       ·simp
       ·have:p.1∈r:=KA hp
        rw[AK (fun e=>hn.1 (by rw[e];exact this))]
        exact ih hn.2 hp
     refine this ?_ hp
     rw[<-hnew]
     exact Xs (Xr hσn)
    rw[hH,Fa keysN (upsNew c hc)]at G
    obtain⟨y,hy,_⟩:=hnal c hc
    rw[hy]at G;simp at G;subst G
    exact Ts (g:=Ah rh) hσn c y (newmem c hc).1 hy)
  (fun b x C=>by
   obtain⟨c,y,hc,rfl,hy,rfl⟩:=Jp hσn b x C
   rcases allcases c hc with hm|hm
   ·have h6:=σout c hc hm
    have h7:ρ (σ c)=c:=by
     have:(all.map σ).Nodup:=hσn
     have e1:=back (σ c) h6
     have e2:=ρall (σ c) h6
     exact m9 this e2 hc e1
    refine⟨zP.2 (.inl h6),?_⟩
    rw[hH,Fa keysN (upsOld (σ c) h6),h7,hy];rfl
   ·refine⟨zP.2 (.inr ?_),?_⟩
    ·rw[σnew c hm]
     exact V5 (by rw[Hd];exact hm)
    ·rw[hH,Fa keysN (upsNew c hm),hy];rfl)
  (fun b x C hni G=>by
   rcases zP.1 C with C|C
   ·exact hni C
   ·rw[newFree b C] at G;cases G)
  (fun b x C G=>by
   rw[hH,Fa keysN (upsOld b C)]
   cases hq:Ah rh (ρ b)with
   |none=>exact⟨lF x,⟨by simp[G],rfl⟩,.inl rfl⟩
   | some y =>
    cases hd:y.dead with
    |true=>have:=F.live _ _ hq;rw[hd]at this;cases this
    | false =>
     have e0:=Ts (g:=Ah h) I b x C G
     obtain⟨⟨e1,em⟩,e2,e3,e4⟩:=F.outs (ρ b) _ y e0 hq hd
     refine⟨Jm σ y,⟨by simp,em⟩,.inr ?_⟩
     refine⟨e4,?_,e2,fun hmx=>?_⟩
     ·have:=Fi (β:=β') hσn (ρall b C)
      rw[back b C]at this
      rw[this,e1]
      exact Fi I C
     ·rw[Iw,e3 hmx,Iw])
  (fun b C=>zP.2 (.inl C))
  F.os F.tape F.output F.size
  (fun k hk hm=>F.frame k hk (fun hm'=>hm (WB I hm')))
  (fun k hm hk=>WB I (F.wr k (fN hσn hm) hk))
  (fun o k L=>by
   rcases jup0 o k L with L|L|L
   ·exact .inl L
   ·exact .inr (.inl (WB I L))
   ·exact .inr (.inr L))
  F.sizes
 exact⟨_,_,M.1,Rep.ext M.2 R1⟩
def BR{P:Program}{muts:Nat->List Bool}{T:List (Nat×Tw)}{hs:Hints}{N f:Nat}{k:LA}{h:Ap}{res:AV}{h':Ap}(hT:VX P T)(hm:P.follows .mixedOrders=true)
  (hh:QG P muts T hs N f k h (fun v h'=>some (v,h'))=some (res,h')):sG P f k h res h':=by
 unfold QG at hh
 split at hh
 ·simp at hh
 ·rename_i fn hfn
  split at hh
  ·simp at hh
  ·rename_i c hc
   simp only at hh
   obtain⟨Y,h1⟩:=uc hh
   simp only[zJ]at Y
   obtain⟨L,D⟩:=Y
   have L:k.length<=fn.ntmps:=by simpa using L
   intro J β w vs S hv
   have hvl:vs.length=k.length:=((Bq).1 hv).1
   refine calls_of_wp hfn hc ?_
   have roots:∀{h:Ap}{b:Nat}{x:Blk},JN h=true->Ah h b=some x->UU b=true:=by
    intro h
    induction h with
    |nil=>intro b x _ C;simp[Ah]at C
    |cons p r ih =>
     intro b x hr C
     obtain⟨i,y⟩:=p
     rw[JN]at hr
     simp at hr
     rw[Ah]at C
     cases hi:beq i b with
     |true=>have:=zM hi;subst this;exact hr.1
     |false=>rw[hi]at C;exact ih hr.2 (by simpa using C)
   have sgetI:∀{k:LA}{j i:Nat},Es (UV j k) i=if j<=i then(k[i - j]?).getD .undef else .undef:=by
    intro k
    induction k with
    |nil=>intro j i;simp[UV,Es]
    | cons v r ih =>
     intro j i
     rw[UV,Es]
     cases hi:beq j i with
     |true=>have:=zM hi;subst this;simp
     | false =>
      have:=Pf hi
      simp only[cond_false]
      rw[ih]
      by_cases hji:j+1<=i
      ·rw[if_pos hji,if_pos (by omega),show i - j=(i - (j+1))+1 by omega];simp
      ·rw[if_neg hji]
       by_cases G:j<=i
       ·omega
       ·rw[if_neg G]
   have I:Inv ⟨J,β,h,w⟩ fn.ntmps J β {s:=UV 0 k,h:=h} {tmps:=vs.toArray++Array.replicate (fn.ntmps - vs.toArray.size) undef,defers:=[]} w:=by
    refine⟨S,⟨fun i v hi=>?_,fun i hi=>?_⟩,?_,rfl,rfl,rfl,rfl,zE _,fun _ _ _=>rfl,fun _ hm _=>hm,fun _ _ hj=>hj,fun _ _ hj=>.inl hj,fun _=>zE _,?_,?_,?_⟩
    ·rw[sgetI,if_pos (Abx _)]
     by_cases hlt:i<k.length
     ·have G:k[i - 0]?=some k[i]:=by simp[hlt]
      rw[G]
      have h3:vs[i]?=some v:=by
       rw[Abk (by simp;omega)]at hi
       simpa using hi
      exact((Bq).1 hv).2 i _ _ (by simp[hlt]) h3
     ·have G:k[i - 0]?=none:=by simp;omega
      rw[G];simp[Rep]
    ·simp at hi
     rw[sgetI,if_pos (Abx _)]
     have G:k[i - 0]?=none:=by simp;omega
     rw[G];rfl
    ·simp;omega
    ·intro b x0 C;exact(VW.1 (roots D C)).2
    ·intro b x0 C;exact(VW.1 (roots D C)).1
    ·intro b x0 x C hx hd
     change Ah h b=some x0 at C
     change Ah h b=some x at hx
     rw[C]at hx;simp at hx;subst hx
     exact⟨⟨rfl,rfl⟩,rfl,fun _=>rfl,hd⟩
   have fin:∀ st' a' w' J' β',Inv ⟨J,β,h,w⟩ fn.ntmps J' β' st' a' w'->Nz {P:=P,nt:=fn.ntmps,muts:=muts,nils:=hs.nils,free:=hs.free,cob:=hs.cob,tbl:=T} fn hs.modes (h.map (·.1)) (fun v h'=>some (v,h')) st'=some (res,h') ->
     a'.defers=[]/\∃ v,(results fn a'.tmps).run P w'=.ok v w'/\∃ vc J' β',Ending.returned v=.returned vc/\FDone ⟨J,β,h,w⟩ J' β' h' w'/\Rep J' β' h' w' res vc:=by
    intro st' a' w' J' β' I' G
    obtain⟨He,h2',vc,J2,β2,h3,h4,h5,h6⟩:=ZQ I' G
    simp at h3
    obtain⟨rfl,rfl⟩:=h3
    exact⟨I'.defers,vc,h4,vc,J2,β2,rfl,h5,h6⟩
   exact iz (E:={P:=P,nt:=fn.ntmps,muts:=muts,nils:=hs.nils,free:=hs.free,cob:=hs.cob,tbl:=T}) (qB hT) hm c I h1 fin (fun _ _ _ _ _ _ _ G=>by simp at G) fin
end Gx
namespace Gx
open Go
section
variable{R R':Type}
def lI(E:Env)(ops:Array Oper)(o:Oper)(st:St)(k:St->Foot->O R)(g:R->Option R'):(iF E ops o st k).bind g=iF E ops o st fun st f=>(k st f).bind g:=by rw[DX,DX,zC]
def fS(ops:Array Oper)(o:Oper)(st:St)(k:St->O R)(g:R->Option R'):(NM ops o st k).bind g=NM ops o st fun st=>(k st).bind g:=by
 unfold NM
 split
 ·rfl
 ·split
  ·rfl
  ·split
   ·rw[Aj]
   ·rfl
def ZU(E:Env)(o:Oper)(st:St)(k:St->O R)(g:R->Option R'):(DQ E o st k).bind g=DQ E o st fun st=>(k st).bind g:=by
 unfold DQ
 split
 ·rw[Aj]
  congr 1
  split
  ·rw[VL]
  ·rfl
 ·rfl
def WC(E:Env)(ops:Array Oper)(g:R->Option R'):∀(l:List Oper)(st:St)(tr:List Foot)(k:St->List Foot->O R),(UR E ops l st tr k).bind g=UR E ops l st tr fun st tr=>(k st tr).bind g
|[],st,tr,k=>rfl
|o::r,st,tr,k=>by
  rw[UR,UR,fS]
  congr 1;funext st
  rw[ZU]
  congr 1;funext st
  rw[lI]
  congr 1;funext st f
  exact WC E ops g r st (f::tr) k
def ZV(E:Env)(roots:List Nat)(ops:Array Oper)(draw:Bool)(st:St)(k:St->O R)(g:R->Option R'):(Xg E roots ops draw st k).bind g=Xg E roots ops draw st fun st=>(k st).bind g:=by
 unfold Xg
 rw[WC]
 congr 1;funext st tr
 rw[Aj,zC];rfl
def lJ(E:Env)(roots:List Nat)(H:Hint)(f:St->O R)(g:R->Option R')(st:St):(iG E roots H f st).bind g=iG E roots H (fun st=>(f st).bind g) st:=by
 unfold iG
 rw[Aj,zC,Ny,Ny]
def Q'(cn:St->Option St)(b1:(St->O R)->St->O R)(b2:(St->Option R')->St->Option R')(g:R->Option R')(C:∀ k st,(b1 k st).bind g=b2 (fun st=>(k st).bind g) st):∀ n st,(Zn cn b1 n st).bind g=Zn cn b2 n st
|0,st=>rfl
|n+1,st=>by
  rw[Zn,Zn,C]
  congr 1;funext st
  rw[zC]
  congr 1;funext st
  exact Q' cn b1 b2 g C n st
def jE(E:Env)(roots:List Nat)(N:Nat)(g:R->Option R'):∀(c:Code)(H:Hint)(k:St->O R)(x:Nat->St->O R)(r:St->O R)(st:St),
  (Cw E roots N c H k x r st).bind g=Cw E roots N c H (fun st=>(k st).bind g) (fun j st=>(x j st).bind g) (fun st=>(r st).bind g) st:=by
 intro c
 induction c with
|skip=>intro H k x r st;rfl
|region id ops draw=>intro H k x r st;exact ZV ..
|seq a b C D =>
  intro H k x r st
  rw[Cw,Cw,C]
  congr 1;funext st
  rw[lJ]
  congr 1;funext st
  exact D ..
|cond c a b C D =>
  intro H k x r st
  rw[Cw,Cw]
  split
  ·rw[Aj,C,D]
  ·rfl
|block id c G =>
  intro H k x r st
  rw[Cw,Cw,G]
  simp only[Aj]
|loop c G =>
  intro H k x r st
  rw[Cw,Cw,zC,Ny,Ny]
  congr 1;funext st
  exact Q' _ _ _ g (fun k st=>G ..) N st
|exit id=>intro H k x r st;rfl
|ret=>intro H k x r st;rfl
|rangeFunc=>intro H k x r st;rfl
|scope c G=>intro H k x r st;rw[Cw,Cw,G]
|label=>intro H k x r st;rfl
|goto=>intro H k x r st;rfl
|refuse=>intro H k x r st;rfl
def Vb(E:Env)(st:St)(g:R->Option R'):∀(l:List ResultVar)(C:LA)(k:LA->O R),(Jn E st l C k).bind g=Jn E st l C fun l=>(k l).bind g
|[],C,k=>rfl
|.tmp t::r,C,k=>by rw[Jn,Jn];exact Vb E st g r _ k
|.cell a t::r,C,k=>by
  rw[Jn,Jn,Xp,Xp (R:=R'),zC]
  congr 1;funext v
  exact Vb E st g r _ k
def ZW(E:Env)(fn:Func)(modes:List (Nat×Nat))(outs:List Nat)(k:AV->Ap->O R)(g:R->Option R')(st:St):(Nz E fn modes outs k st).bind g=Nz E fn modes outs (fun v h=>(k v h).bind g) st:=by
 unfold Nz
 rw[Vb]
 congr 1;funext l
 rw[zC]
 congr 1;funext q
 rw[Aj];rfl
def HL(P:Program)(muts:Nat->List Bool)(T:List (Nat×Tw))(hs:Hints)(N f:Nat)(C:LA)(h:Ap)(k:AV->Ap->O R):
  QG P muts T hs N f C h k=(QG P muts T hs N f C h fun v h=>some (v,h)).bind fun p=>k p.1 p.2:=by
 unfold QG
 split
 ·rfl
 ·split
  ·rfl
  ·simp only
   rw[Aj,jE]
   simp only[ZW]
   rfl
structure Cut(R:Type)where
 c:Code
 H:Hint
 k:St->O R
 x:Nat->St->O R
 r:St->O R
noncomputable def uC(E:Env)(roots:List Nat)(N:Nat):List Nat->Code->Hint->(St->O R)->(Nat->St->O R)->(St->O R)->List (St->O R)->Cut R
|[],c,H,k,x,r,_=>⟨c,H,k,x,r⟩
|d::p,.seq a b,H,k,x,r,ks=>cond (beq d 0) (uC E roots N p a H.a (iG E roots H fun st=>Cw E roots N b H.b k x r st) x r ks) (uC E roots N p b H.b k x r ks)
|d::p,.cond _ a b,H,k,x,r,ks=>cond (beq d 0) (uC E roots N p a H.a k x r ks) (uC E roots N p b H.b k x r ks)
|_::p,.block id c,H,k,x,r,ks=>uC E roots N p c H.a k (fun j st=>cond (beq j id) (k st) (x j st)) r ks
|_::p,.loop c,H,_,x,r,q::ks=>uC E roots N p c H.a (fun st=>(Zm E H.live roots st).bind q) x r ks
|_::_,c,H,k,x,r,_=>⟨c,H,k,x,r⟩
def jF:Code->Code
|.loop c=>c
|c=>c
structure CutB(R:Type)where
 E:Env
 roots:List Nat
 N:Nat
 c:Cut R
noncomputable def Ba(q:CutB R)(st:St):O R:=Cw q.E q.roots q.N q.c.c q.c.H q.c.k q.c.x q.c.r st
noncomputable def lK(q:CutB R)(st:St):O R:=pd true (fun st=>Cw q.E q.roots q.N q.c.c q.c.H q.c.k q.c.x q.c.r st) st
def nu(q:CutB R)(st:St):lK q st=Ba q st:=by unfold lK;rw[Ny];rfl
noncomputable def A3(q:CutB R)(n:Nat)(st:St):O R:=Zn (Zm q.E q.c.H.live q.roots) (fun k st=>Cw q.E q.roots q.N (jF q.c.c) q.c.H.a k q.c.x q.c.r st) n st
noncomputable def qC(q:CutB R)(st:St):O R:=pd true (Zn (Zm q.E q.c.H.live q.roots) (fun k st=>Cw q.E q.roots q.N (jF q.c.c) q.c.H.a k q.c.x q.c.r st) q.N) st
def qD(q:CutB R)(st:St):qC q st=A3 q q.N st:=by unfold qC;rw[Ny];rfl
def uD(fn:Func):Code:=match fn.body with|some c=>c|none=>.skip
def tD:List (Nat×List Bool)->Nat->List Bool
|[],_=>[]
|(i,l)::r,f=>cond (beq i f) l (tD r f)
end
end Gx
namespace Gx
open Go
abbrev KF(R:Type):=AV->Ap->Option R
abbrev hL:Hint:=.leaf
abbrev hS(a b:Hint):Hint:=.node [] a b
abbrev hP(l:List Nat)(a:Hint):Hint:=.node l a .leaf
abbrev hJ(l:List Nat)(a b:Hint):Hint:=.join l a b
def sH(P:Program)(muts:Nat->List Bool)(nt:Nat)(hs:Hints)(T:List (Nat×Tw)):Env:={P,nt,muts,nils:=hs.nils,free:=hs.free,cob:=hs.cob,tbl:=T}
noncomputable def yV{R:Type}(P:Program)(muts:Nat->List Bool)(fn:Func)(hs:Hints)(T:List (Nat×Tw))(roots:List Nat)(N:Nat)(F:KF R)(p:List Nat)(ks:List (St->O R)):CutB R:=⟨sH P muts fn.ntmps hs T,roots,N,uC (sH P muts fn.ntmps hs T) roots N p (uD fn) hs.H (Nz (sH P muts fn.ntmps hs T) fn hs.modes roots F) (fun _ _=>none) (Nz (sH P muts fn.ntmps hs T) fn hs.modes roots F) ks⟩
def iv(n:Int):AV:=.int .i64 n
def op(k:Nat):AV:=.optr (300000+k) 0
def wz:Nat->List Blk->Ap
|_,[]=>[]
|i,b::r=>(i,b)::wz (i+1) r
def hq(l:List Blk):Ap:=wz 300000 l
def bQ(sz:Nat)(c:LA):Blk:=⟨false,false,true,false,sz,c,false,none⟩
def bN(sz:Nat)(c:LA):Blk:=⟨false,false,false,false,sz,c,false,none⟩
def bP(t:Bool)(sz:Nat)(c:LA):Blk:=⟨false,false,true,t,sz,c,false,none⟩
def Am{R:Type}(kd:IntKind)(c:LA)(k:Int->O R):O R:=(c.head?).bind fun x=>(FH kd x).bind k
def Zu{R:Type}(c:LA)(k:Bool->O R):O R:=(c.head?).bind fun x=>(asBool x).bind k
def yH{R:Type}(c:LA)(k:Lu->O R):O R:=(c.head?).bind fun x=>(UM x).bind k
def D6{R:Type}(sz:Nat)(c:LA)(k:LA->Nat->O R):O R:=(c.head?).bind fun x=>(pR sz x).bind fun p=>k p.1 p.2
def lL(k:IntKind)(a b:Int):Int:=k.wrap ((BitVec.ofInt k.bits a &&& BitVec.ofInt k.bits b).toNat:Int)
def K5(k:IntKind)(a b:Int):Int:=k.wrap ((BitVec.ofInt k.bits a ||| BitVec.ofInt k.bits b).toNat:Int)
def m_{α δ:Type}(f:α->δ){a a':α}(k:a=a'):f a=f a':=by rw[k]
def wrap_u8(a:Nat):wrap .u8 (a:Int)=((a%256:Nat):Int):=by rw[IntKind.wrap_u8];omega
def wrap_u32(a:Nat)(h:a<4294967296):wrap .u32 (a:Int)=(a:Int):=IntWalk.u32_in _ (by omega)
def nv(a:Nat):wrap .u32 (a:Int)=((a%4294967296:Nat):Int):=by rw[IntKind.wrap_u32];omega
def Aq(a:Int)(h:-9223372036854775808<=a/\a<=9223372036854775807):wrap .i64 a=a:=IntWalk.i64_in _ h
def wrap_u64(a:Nat)(h:a<18446744073709551616):wrap .u64 (a:Int)=(a:Int):=IntWalk.u64_in _ (by omega)
def D_(w a:Nat):BitVec.ofInt w (a:Int)=BitVec.ofNat w a:=by simp
def lM{k:IntKind}(hs:k.signed=false){a b:Nat}(D:a<2 ^ k.bits)(C:b<2 ^ k.bits):lL k a b=((a &&& b:Nat):Int):=by
 unfold lL
 rw[D_,D_]
 have G:(BitVec.ofNat k.bits a &&& BitVec.ofNat k.bits b).toNat=a &&& b:=by
  rw[BitVec.toNat_and,Acl,Acl,zf D,zf C]
 rw[G]
 have I:a &&& b<2 ^ k.bits:=Nat.and_lt_two_pow _ C
 unfold wrap
 simp only[hs,Adr,Aa0,if_false]
 have:(2 ^ k.bits:Int)=((2 ^ k.bits:Nat):Int):=by simp
 rw[this,<-Int.natCast_emod,zf I]
def b_{k:IntKind}(hs:k.signed=false){a b:Nat}(C:a<2 ^ k.bits)(D:b<2 ^ k.bits):K5 k a b=((a ||| b:Nat):Int):=by
 unfold K5
 rw[D_,D_]
 have G:(BitVec.ofNat k.bits a ||| BitVec.ofNat k.bits b).toNat=a ||| b:=by
  rw[BitVec.toNat_or,Acl,Acl,zf C,zf D]
 rw[G]
 have I:a ||| b<2 ^ k.bits:=Nat.or_lt_two_pow C D
 unfold wrap
 simp only[hs,Adr,Aa0,if_false]
 have:(2 ^ k.bits:Int)=((2 ^ k.bits:Nat):Int):=by simp
 rw[this,<-Int.natCast_emod,zf I]
def Lo(a k:Nat):Int.fdiv (a:Int) (2 ^ k)=((a/2 ^ k:Nat):Int):=by
 have:(2 ^ k:Int)=((2 ^ k:Nat):Int):=by simp
 rw[this,Ads (a:Int) (Int.natCast_nonneg (2 ^ k))]
 rfl
def Az{R:Type}{k:IntKind}{n:Int}{r:LA}{f:Int->O R}:Am k (.int k n::r) f=f n:=by simp[Am,FH,G9]
def Aa{i n:Nat}(h:i<n):Ab (i:Int) n=true:=by simp[Ab];omega
structure Bd(P:Program)where
 f:Nat
 run:LA->Ap->Option ((R:Type)->KF R->O R)
 eq:∀ a h g,run a h=some g->∀(R:Type)(k:KF R),g R k=(g (AV×Ap) fun v h=>some (v,h)).bind fun p=>k p.1 p.2
 ok:∀ a h g res h',run a h=some g->(g (AV×Ap) fun v h=>some (v,h))=some (res,h')->sG P f a h res h'
def yI{R:Type}(k:KF R):Option ((R:Type)->KF R->O R)->O R
|some g=>g R k
|none=>none
def Bd.tw {P:Program} (b:Bd P):Tw:=⟨fun {R} a h k=>yI k (b.run a h),fun {R} a h k=>by
 cases e:b.run a h with
|none=>rfl
| some g=>exact b.eq a h g e R k⟩
def Bd.tok{P:Program}(b:Bd P):fQ P b.f b.tw:=by
 intro a h res h' hh
 have hh:yI (fun v h'=>some (v,h')) (b.run a h)=some (res,h'):=hh
 cases e:b.run a h with
|none=>rw[e]at hh;cases hh
|some g=>rw[e]at hh;exact b.ok a h g res h' e hh
def sI{P:Program}:List (Bd P)->List (Nat×Tw)
|[]=>[]
|b::r=>(b.f,b.tw)::sI r
def mc{P:Program}:∀ l:List (Bd P),VX P (sI l)
|[]=>trivial
|b::r=>⟨b.tok,mc r⟩
def xM {P:Program} {f:Nat} (t:Tw) (h:fQ P f t):Bd P:=⟨f,fun a h=>some fun _ k=>t.runK a h k,fun a h g e R k=>by cases e;exact t.eq a h k,fun a h g res h' e hh=>by cases e;exact ‹fQ P f t› a h res h' hh⟩
def xN {P:Program} (x y:Bd P) (e:x.f=y.f):Bd P:=⟨x.f,fun a h=>match x.run a h with | some g=>some g | none=>y.run a h,fun a h g q=>by
 split at q
 ·cases q;exact x.eq a h _ ‹_›
 ·exact y.eq a h g q,fun a h g res h' q=>by
 split at q
 ·cases q;exact x.ok a h _ res h' ‹_›
 ·rw[e];exact y.ok a h g res h' q⟩
def v_(P:Program)(muts:Nat->List Bool)(T:List (Nat×Tw))(hs:Hints)(N f:Nat)(a:LA)(h:Ap):Option ((R:Type)->KF R->O R)->Prop
|some g=>∀(R:Type)(F:KF R),QG P muts T hs N f a h F=g R F
|none=>True
def yW{P:Program}{muts:Nat->List Bool}(hm:P.follows .mixedOrders=true)(N f:Nat)(l:List (Bd P))(hs:Hints)(run:LA->Ap->Option ((R:Type)->KF R->O R))(e:∀ a h,v_ P muts (sI l) hs N f a h (run a h)):Bd P :=
 ⟨f,run,fun a h g q R k=>by
  have H:=e a h;rw[q]at H
  rw[<-H,<-H];exact HL ..,fun a h g res h' q hh=>by
  have H:=e a h;rw[q]at H
  rw[<-H] at hh;exact BR (mc l) hm hh⟩
def lW{R τ:Type}(p:(St->O R)->τ)(q:CutB R):p (qC q)=p (A3 q q.N):=congrArg p (funext fun _=>qD q _)
def jW{R τ:Type}(p:(St->O R)->τ)(q:CutB R):p (lK q)=p (Ba q):=congrArg p (funext fun _=>nu q _)
def uE{α δ:Type}{f g:α->δ}(h:∀ a,f a=g a):f=g:=funext h
def kP{α β δ:Type}{f g:α->β->δ}(h:∀ a b,f a b=g a b):f=g:=funext fun _=>funext (h _)
def uF{α β γ δ:Type}{f g:α->β->γ->δ}(h:∀ a b c,f a b c=g a b c):f=g:=funext fun _=>kP (h _)
def rz{α β γ ε δ:Type}{f g:α->β->γ->ε->δ}(h:∀ a b c d,f a b c d=g a b c d):f=g:=funext fun _=>uF (h _)
def yX{α β γ ε ζ δ:Type}{f g:α->β->γ->ε->ζ->δ}(h:∀ a b c d e,f a b c d e=g a b c d e):f=g:=funext fun _=>rz (h _)
def vM{α β γ ε ζ η δ:Type}{f g:α->β->γ->ε->ζ->η->δ}(h:∀ a b c d e x,f a b c d e x=g a b c d e x):f=g:=funext fun _=>yX (h _)
def yJ:Nat->Nat->List Nat->List Nat
|0,_,l=>l
|f+1,n,l=>cond (ble n 1) l (yJ f (n/4) (n%4::l))
def pz(n:Nat):List Nat:=yJ 100 n []
def hK:Nat->Hint->Hint
|0,h=>h
|n+1,h=>hS hL (hK n h)
def Mo{τ:Type}{f g:Nat->τ}(h:∀ n,f n=g n->f (n+1)=g (n+1))(k:f 0=g 0:=by kernel_rfl):∀ n,f n=g n
|0=>k
|n+1=>h n (Mo h k n)
def Dw{α δ:Type}{z:δ}(f:α->δ){a a':α}(C:a=a')(k:z=f a:=by kernel_rfl):z=f a':=by rw[k,C]
def ZX{α β δ:Type}{z:δ}(f:α->β->δ){a a':α}{b C:β}(D:a=a')(G:b=C)(k:z=f a b:=by kernel_rfl):z=f a' C:=by rw[k,D,G]
def yY{α β γ δ:Type}{z:δ}(f:α->β->γ->δ){a a':α}{b C:β}{c c':γ}(D:a=a')(G:b=C)(I:c=c')(k:z=f a b c:=by kernel_rfl):z=f a' C c':=by rw[k,D,G,I]
def yZ{α β γ ε δ:Type}{z:δ}(f:α->β->γ->ε->δ){a a':α}{b C:β}{c c':γ}{d D:ε}(G:a=a')(I:b=C)(L:c=c')(T:d=D)(k:z=f a b c d:=by kernel_rfl):z=f a' C c' D:=by rw[k,G,I,L,T]
def qE{R:Type}(E:Env)(roots:List Nat)(H:Hint)(f:St->O R)(st:St):O R:=cond H.isJoin ((Zm E H.live roots st).bind f) (f st)
def qF{R:Type}(E:Env)(roots:List Nat)(H:Hint)(f:St->O R):qE E roots H f=iG E roots H f:=by funext st;unfold qE iG;rw[Ny]
def Kx{R:Type}(E:Env)(roots:List Nat)(N:Nat):Code->Hint->(St->O R)->(Nat->St->O R)->(St->O R)->St->O R
|.skip,_,k,_,_,st=>k st
|.region _ ops draw,_,k,_,_,st=>Xg E roots ops draw st k
|.seq a b,H,k,x,r,st=>Kx E roots N a H.a (qE E roots H fun st=>Kx E roots N b H.b k x r st) x r st
|.cond c a b,H,k,x,r,st=>match ev st.s c with
  |.bool t=>cond t (Kx E roots N a H.a k x r st) (Kx E roots N b H.b k x r st)
  |_=>none
|.block id c,H,k,x,r,st=>Kx E roots N c H.a k (fun j st=>cond (beq j id) (k st) (x j st)) r st
|.loop c,H,_,x,r,st=>(Zm E H.live roots st).bind (Zn (Zm E H.live roots) (fun k st=>Kx E roots N c H.a k x r st) N)
|.exit id,_,_,x,_,st=>x id st
|.ret,_,_,_,r,st=>r st
|.scope c,H,k,x,r,st=>Kx E roots N c H.a k x r st
|.label _,_,k,_,_,st=>k st
|_,_,_,_,_,_=>none
def nx{R:Type}(E:Env)(roots:List Nat)(N:Nat):∀(c:Code)(H:Hint)(k:St->O R)(x:Nat->St->O R)(r:St->O R)(st:St),Kx E roots N c H k x r st=Cw E roots N c H k x r st:=by
 intro c
 induction c with
|skip=>intro H k x r st;rfl
|region id ops draw=>intro H k x r st;rfl
|seq a b C D =>
  intro H k x r st
  rw[Cw,Kx,C,qF]
  congr 2;funext st
  exact D ..
|cond c a b C D =>
  intro H k x r st
  rw[Cw,Kx]
  simp only[C,D]
  rfl
|block id c G=>intro H k x r st;rw[Cw,Kx,G]
|loop c G =>
  intro H k x r st
  rw[Cw,Kx,Ny]
  have:(fun k st=>Kx E roots N c H.a k x r st)=fun k st=>Cw E roots N c H.a k x r st:=by funext k st;exact G ..
  rw[this]
|exit id=>intro H k x r st;rfl
|ret=>intro H k x r st;rfl
|rangeFunc=>intro H k x r st;rfl
|scope c G=>intro H k x r st;rw[Cw,Kx,G]
|label=>intro H k x r st;rfl
|goto=>intro H k x r st;rfl
|refuse=>intro H k x r st;rfl
def WD{R:Type}(P:Program)(muts:Nat->List Bool)(T:List (Nat×Tw))(hs:Hints)(N f:Nat)(args:LA)(h:Ap)(k:AV->Ap->O R):O R :=
 match P.funcs[f]? with
|none=>none
| some fn=>match fn.body with
  |none=>none
  |some c =>
   let E:Env:={P,nt:=fn.ntmps,muts,nils:=hs.nils,free:=hs.free,cob:=hs.cob,tbl:=T}
   let outs:=h.map (·.1)
   let fin:=Nz E fn hs.modes outs k
   cond (ble args.length fn.ntmps&&JN h) (Kx E outs N c hs.H fin (fun _ _=>none) fin {s:=UV 0 args,h}) none
def V6{R:Type}(P:Program)(muts:Nat->List Bool)(T:List (Nat×Tw))(hs:Hints)(N f:Nat)(C:LA)(h:Ap)(k:AV->Ap->O R):WD P muts T hs N f C h k=QG P muts T hs N f C h k:=by
 unfold WD QG
 cases P.funcs[f]? with
|none=>rfl
|some fn =>
  simp only
  cases fn.body with
  |none=>rfl
  |some c=>simp only;rw[nx]
end Gx
namespace Gx
open Go Go.RowKit
def ny{P:Program}{f:Nat}{t:Tw}(G:fQ P f t){W:World}{avs:LA}{vs:List Value}(T:Reps (fun _ k=>k<W.heap.size) (fun _=>none) [] W avs vs)
  (D:(t.runK avs [] fun v h=>some (v,h))=some (.bool true,[])) (I:GlobOk (fun _ k=>k<W.heap.size) W):Calls P f vs.toArray W fun e w'=>e=.returned (.bool true)/\Below W.heap.size W w':=by
 have S:SimH (fun _ k=>k<W.heap.size) (fun _=>none) [] W:=⟨fun _ _ h=>h,fun _ h=>h,I,fun b x C=>by simp[Ah]at C,fun b x C=>by simp[Ah]at C,fun b b' x x' k o o' C=>by simp[Ah]at C⟩
 refine Calls.mono (G avs [] _ _ D _ _ W vs S T) ?_
 rintro e w' ⟨vc,J',β',rfl,F,L⟩
 rw[Rep]at L;subst L
 refine⟨rfl,F.os,F.tape,F.output,F.size,fun k Y=>F.frame k Y ?_⟩
 rintro⟨b,x,o,C,_⟩
 change Ah [] b=some x at C
 simp[Ah]at C
structure Opens(P:Program)(t:TypeId){α:Type}(e:α->List AV)(n:Nat):Prop where
 size:P.cellsOf t=n
 pos:0<n
 len:∀ a,(e a).length=n
 read:∀{H:Type}(enc:TypeId×Value->H)(W:World)(fuel:Nat)(cs:List Value)(d:DataW H)(ps:List MemPlace),DataW.trod enc P W 0 (fun _=>true) true fuel t cs=some (d,ps) ->
  cs.length=n/\∃ a,RepCs (fun k=>k<W.heap.size) W (e a) (fun j=>cs[j]?) 0
def cA{P:Program}{t:TypeId}{k:IntKind}(D:P.underlying t=some (.int k))(hc:P.cellsOf t=1):Opens P t (α:={n:Int // (Lit.int k n).wf=true}) (fun n=>[.int k n.1]) 1:=by
 refine⟨hc,by omega,fun _=>rfl,fun enc W C cs d ps h=>?_⟩
 obtain⟨n,rfl,_,G⟩:=DataW.trod_int D h
 exact⟨rfl,⟨n,G⟩,by simp[RepCs,RepC]⟩
def lN{P:Program}{t:TypeId}(C:P.underlying t=some .bool)(hc:P.cellsOf t=1):Opens P t (α:=Bool) (fun b=>[.bool b]) 1:=by
 refine⟨hc,by omega,fun _=>rfl,fun enc W k cs d ps h=>?_⟩
 obtain⟨b,rfl,_⟩:=DataW.trod_bool C h
 exact⟨rfl,b,by simp[RepCs,RepC]⟩
def RA{α β:Type}{e:α->List β}{n:Nat}(D:0<n)(k:∀ a,(e a).length=n):∀(l:List α)(j:Nat),(l.flatMap e)[j]?=(l[j/n]?).bind fun a=>(e a)[j%n]?
|[],j=>by simp
| a::r,j=>by
  rw[Aad]
  by_cases C:j<n
  ·rw[Ace (by rw[k];exact C),zw C,zf C];simp
  ·rw[Ab5 (by rw[k];omega),k,RA D k r (j - n)]
   have G:j/n=(j - n)/n+1:=by
    have:=Nat.add_div_right (j - n) D
    rw[show j - n+n=j by omega]at this;exact this
   have I:j%n=(j - n)%n:=by
    have:=Nat.add_mod_right (j - n) n
    rw[show j - n+n=j by omega]at this;exact this
   rw[G,I];simp
def RC{α β:Type}{e:α->List β}{n:Nat}(k:∀ a,(e a).length=n):∀(l:List α),(l.flatMap e).length=l.length*n
|[]=>by simp
|a::r=>by rw[Aad,zq,k,RC k r,z8,Afd];omega
def jG{α β:Type}{f:α->Option β}:∀{l:List α}{r:List β},l.mapM f=some r->r.length=l.length/\∀(i:Nat)(a:α),l[i]?=some a->f a=r[i]?
|[],r,h=>by simp at h;subst h;simp
| x::l,r,h=>by
  rw[Aes]at h
  cases k:f x with
  |none=>simp[k]at h
  | some y =>
   cases C:l.mapM f with
   |none=>simp[k,C]at h
   |some ys =>
    simp[k,C]at h
    subst h
    obtain⟨D,G⟩:=jG C
    refine⟨by simp[D],fun i a hi=>?_⟩
    cases i with
    |zero=>simp at hi;subst hi;simpa using k
    |succ i=>simpa using G i a (by simpa using hi)
def Tt {P:Program} {t el:TypeId} {α:Type} {e:α->LA} {n:Nat} (hu:P.underlying t=some (.slice el)) (hc:P.cellsOf t=1) (L:Opens P el e n) :
  Opens P t (α:={l:List α // l.length<=maxLen}) (fun l=>[.imm (l.1.flatMap e) l.1.length n false false]) 1:=by
 refine⟨hc,by omega,fun _=>rfl,fun enc W C cs d ps h=>?_⟩
 cases C with
|zero=>simp[DataW.trod]at h
| succ C =>
  unfold DataW.trod at h
  simp only[hu]at h
  split at h
  all_goals first|(rename_i D;simp at D;done)|(rename_i D _;simp at D;done)|(rename_i D _ _;simp at D;done)|skip
  ·refine⟨rfl,⟨[],by simp⟩,?_⟩
   simp[RepCs,RepC]
  ·rename_i e' a len cap D
   simp at D;subst D
   split at h
   ·rename_i T
    obtain⟨hb,hlc,hcm⟩:=T
    refine⟨rfl,?_⟩
    cases hm:(List.range len).mapM (fun i=>(W.cells? 0 (a.add (i*P.cellsOf el)) (P.cellsOf el)).bind (DataW.trod enc P W 0 (fun _=>true) true C el))with
    |none=>rw[hm]at h;simp at h
    | some bI =>
     obtain⟨h1,h2⟩:=jG hm
     rw[L.size]at h2
     have each:∀ i:Nat,i<len->∃ x:α,∃ cs,W.cells? 0 (a.add (i*n)) n=some cs/\RepCs (fun k=>k<W.heap.size) W (e x) (fun j=>cs[j]?) 0:=by
      intro i hi
      have h3:=h2 i i (by simp[hi])
      rw[zD (by rw[h1];simpa using hi)]at h3
      cases G:W.cells? 0 (a.add (i*n)) n with
      |none=>rw[G]at h3;simp at h3
      |some cs =>
       rw[G]at h3
       obtain⟨_,x,D⟩:=L.read enc W C cs _ _ h3
       exact⟨x,cs,rfl,D⟩
     have build:∀ m,m<=len->∃ l:List α,l.length=m/\∀ i x,l[i]?=some x->∃ cs,W.cells? 0 (a.add (i*n)) n=some cs/\RepCs (fun k=>k<W.heap.size) W (e x) (fun j=>cs[j]?) 0:=by
      intro m
      induction m with
      |zero=>intro _;exact⟨[],rfl,by simp⟩
      | succ m ih =>
       intro hm
       obtain⟨l,hl,Y⟩:=ih (by omega)
       obtain⟨x,cs,hx1,hx2⟩:=each m (by omega)
       refine⟨l++[x],by simp[hl],fun i y hy=>?_⟩
       rw[zt]at hy
       split at hy
       ·exact Y i y hy
       ·have:i=m:=by
         have:=(zK.1 hy).1
         simp at this;omega
        subst this
        simp[hl]at hy;subst hy
        exact⟨cs,hx1,hx2⟩
     obtain⟨l,hl,Y⟩:=build len (zE _)
     refine⟨⟨l,by omega⟩,?_⟩
     simp only[RepCs,RepC,and_true]
     refine⟨_,rfl,?_,some a,cap,by rw[hl],by omega,by simp,?_⟩
     ·exact RC L.len l
     ·by_cases h0:l.length=0
      ·exact .inl h0
      ·right
       refine⟨a,rfl,?_,?_⟩
       ·obtain⟨x,cs,D,_⟩:=each 0 (by omega)
        have:=World.cells?_block D L.pos
        rwa [M5]at this
       ·rw[Bh]
        intro j x hj
        rw[RA L.pos L.len]at hj
        cases hq:l[j/n]? with
        |none=>rw[hq]at hj;simp at hj
        |some y =>
         rw[hq]at hj
         simp at hj
         obtain⟨cs,G,I⟩:=Y (j/n) y hq
         rw[Bh]at I
         obtain⟨u,hu1,hu2⟩:=I (j%n) x hj
         refine⟨u,?_,hu2⟩
         obtain⟨_,hlen,hcell⟩:=World.cells?_some G
         have hlt:j%n<n:=Aav _ L.pos
         have:=hcell (j%n) hlt
         rw[Addr.add_add,show j/n*n+j%n=j by rw[zH];exact zx j n]at this
         simp only[zU]at hu1 ⊢
         rw[this];exact hu1
   ·simp at h
  ·simp at h
def qG{J:Bool->Nat->Prop}{β:Bt}{h:Ap}{w:World}{x:AV}{vs:List Value}(H:Reps J β h w [x] vs):∃ u,vs=[u]/\Rep J β h w x u:=by
 rw[Reps]at H
 obtain⟨u,us,rfl,C,k⟩:=H
 rw[Reps]at k;subst k
 exact⟨u,rfl,C⟩
end Gx
namespace Gx
open Go
structure RB where
 nm:List UInt8
 bu:Int
 mi:Int
 ma:Int
 sc:LA
 sn:Nat
 st:Bool
 so:Bool
 nl:Int
 ru:Int
 rd:Int
 sr:Int
 tr:Int
 ut:Int
 dt:Int
 sT:Int
 hc:Int
 cc:Int
 hh:Int
 rs:Int
 rp:Int
 ac:LA
 an:Nat
 aq:Bool
 ao:Bool
 us:Int
 uh:Int
 uo:Int
 hs:Int
 ec:LA
 en:Nat
 et:Bool
 eo:Bool
 qc:LA
 qn:Nat
 qt:Bool
 qo:Bool
 pc:LA
 pn:Nat
 pt:Bool
 po:Bool
 vc:LA
 vn:Nat
 vt:Bool
 vo:Bool
 na:Nat
 nb:Nat
 nc:Nat
 nd:Nat
 ne:Nat
 nf:Nat
 ng:Nat
 ka:LA
 kb:LA
 kc:LA
 kd:LA
 ke:LA
 kf:LA
 kg:LA
def xA(k:Nat)(s:RB):LA:=[.str s.nm,.int .i64 s.bu,.int .i64 s.mi,.int .i64 s.ma,.imm s.sc s.sn 2 s.st s.so,.int .i64 s.nl,.int .i64 s.ru,.int .i64 s.rd,.int .i64 s.sr,.int .i64 s.tr,.int .i64 s.ut,.int .i64 s.dt,.int .i64 s.sT,.int .i64 s.hc,.int .i64 s.cc,.int .i64 s.hh,.int .i64 s.rs,.int .i64 s.rp,.imm s.ac s.an 1 s.aq s.ao,.int .i64 s.us,.int .i64 s.uh,.int .i64 s.uo,.int .i64 s.hs,.imm s.ec s.en 3 s.et s.eo,.imm s.qc s.qn 3 s.qt s.qo,.imm s.pc s.pn 1 s.pt s.po,.imm s.vc s.vn 3 s.vt s.vo,.own (k+1) 0 s.na,.own (k+2) 0 s.nb,.own (k+3) 0 s.nc,.own (k+4) 0 s.nd,.own (k+5) 0 s.ne,.own (k+6) 0 s.nf,.own (k+7) 0 s.ng,.nsl,.nsl,.nsl,.nsl,.nsl,.nsl,.nsl,.nsl,.nsl,.nsl,.nsl,.nsl,.nsl,.nsl,.nsl,.nsl,.nsl]
def xO(c:LA):Blk:=⟨false,false,false,false,0,c,false,none⟩
def lO(z:Nat)(c:LA):Blk:=⟨false,false,true,false,z,c,false,none⟩
def yK(s:RB):Ap:=[(100000,xO (xA 100000 s)),(100001,lO 2 s.ka),(100002,lO 2 s.kb),(100003,lO 2 s.kc),(100004,lO 2 s.kd),(100005,lO 2 s.ke),(100006,lO 2 s.kf),(100007,lO 2 s.kg)]
def HM(s:RB)(l0:LA)(m0:Nat)(l1:LA)(m1:Nat)(l2:LA)(m2:Nat)(l3:LA)(m3:Nat)(l4:LA)(m4:Nat)(l5:LA)(m5:Nat)(l6:LA)(m6:Nat):LA:=[.str s.nm,.int .i64 s.bu,.int .i64 s.mi,.int .i64 s.ma,.imm s.sc s.sn 2 false s.so,.int .i64 s.nl,.int .i64 s.ru,.int .i64 s.rd,.int .i64 s.sr,.int .i64 s.tr,.int .i64 s.ut,.int .i64 s.dt,.int .i64 s.sT,.int .i64 s.hc,.int .i64 s.cc,.int .i64 s.hh,.int .i64 s.rs,.int .i64 s.rp,.imm s.ac s.an 1 false s.ao,.int .i64 s.us,.int .i64 s.uh,.int .i64 s.uo,.int .i64 s.hs,.imm s.ec s.en 3 false s.eo,.imm s.qc s.qn 3 false s.qo,.imm s.pc s.pn 1 false s.po,.imm s.vc s.vn 3 false s.vo,.imm l0 m0 2 false true,.imm l1 m1 2 false true,.imm l2 m2 2 false true,.imm l3 m3 2 false true,.imm l4 m4 2 false true,.imm l5 m5 2 false true,.imm l6 m6 2 false true,.nsl,.nsl,.nsl,.nsl,.nsl,.nsl,.nsl,.nsl,.nsl,.nsl,.nsl,.nsl,.nsl,.nsl,.nsl,.nsl,.nsl]
def sJ(k:Nat):AV->Option Nat
|.own b f n=>cond (beq b k&&beq f 0) (some n) none
|_=>none
def ZH:AV->Option Int
|.int .i64 n=>some n
|_=>none
def xP:AV->Option Lu
|.str n=>some n
|_=>none
def fT:AV->Option Unit
|.nsl=>some ()
|_=>none
def tE(z:Nat):AV->Option (LA×Nat×Bool×Bool)
|.imm c n q t o=>cond (beq q z) (some (c,n,t,o)) none
|_=>none
def kQ(k sz:Nat):Nat×Blk->Option LA
|(i,⟨false,false,true,false,z,c,false,none⟩)=>cond (beq i k&&beq z sz) (some c) none
|_=>none
def HN{k n:Nat}{v:AV}(h:sJ k v=some n):v=.own k 0 n:=by
 unfold sJ at h
 split at h
 ·obtain⟨C,D⟩:=uc h
  simp at C D
  rw[C.1,C.2,D]
 ·cases h
def Gr{n:Int}{v:AV}(h:ZH v=some n):v=.int .i64 n:=by
 unfold ZH at h
 split at h
 ·cases h;rfl
 ·cases h
def uG{n:Lu}{v:AV}(h:xP v=some n):v=.str n:=by
 unfold xP at h
 split at h
 ·cases h;rfl
 ·cases h
def Ix{n:Unit}{v:AV}(h:fT v=some n):v=.nsl:=by
 unfold fT at h
 split at h
 ·rfl
 ·cases h
def N_{z n:Nat}{c:LA}{t o:Bool}{v:AV}(h:tE z v=some (c,n,t,o)):v=.imm c n z t o:=by
 unfold tE at h
 split at h
 ·obtain⟨k,C⟩:=uc h
  simp at k C
  obtain⟨rfl,rfl,rfl,rfl⟩:=C
  rw[k]
 ·cases h
def Lp{k sz:Nat}{p:Nat×Blk}{c:LA}(h:kQ k sz p=some c):p=(k,lO sz c):=by
 unfold kQ at h
 split at h
 ·obtain⟨C,D⟩:=uc h
  simp at C D
  rw[C.1,C.2,D];rfl
 ·cases h
def xQ(k:Nat):LA->Option RB
|a0::a1::a2::a3::a4::a5::a6::a7::a8::a9::a10::a11::a12::a13::a14::a15::a16::a17::a18::a19::a20::a21::a22::a23::a24::a25::a26::a27::a28::a29::a30::a31::a32::a33::a34::a35::a36::a37::a38::a39::a40::a41::a42::a43::a44::a45::a46::a47::a48::a49::a50::[]=>(xP a0).bind fun nm=>(ZH a1).bind fun bu=>(ZH a2).bind fun mi=>(ZH a3).bind fun ma=>(tE 2 a4).bind fun(sc,sn,st,so)=>(ZH a5).bind fun nl=>(ZH a6).bind fun ru=>(ZH a7).bind fun rd=>(ZH a8).bind fun sr=>(ZH a9).bind fun tr=>(ZH a10).bind fun ut=>(ZH a11).bind fun dt=>(ZH a12).bind fun sT=>(ZH a13).bind fun hc=>(ZH a14).bind fun cc=>(ZH a15).bind fun hh=>(ZH a16).bind fun rs=>(ZH a17).bind fun rp=>(tE 1 a18).bind fun(ac,an,aq,ao)=>(ZH a19).bind fun us=>(ZH a20).bind fun uh=>(ZH a21).bind fun uo=>(ZH a22).bind fun hs=>(tE 3 a23).bind fun(ec,en,et,eo)=>(tE 3 a24).bind fun(qc,qn,qt,qo)=>(tE 1 a25).bind fun(pc,pn,pt,po)=>(tE 3 a26).bind fun(vc,vn,vt,vo)=>(sJ (k+1) a27).bind fun na=>(sJ (k+2) a28).bind fun nb=>(sJ (k+3) a29).bind fun nc=>(sJ (k+4) a30).bind fun nd=>(sJ (k+5) a31).bind fun ne=>(sJ (k+6) a32).bind fun nf=>(sJ (k+7) a33).bind fun ng=>(fT a34).bind fun _=>(fT a35).bind fun _=>(fT a36).bind fun _=>(fT a37).bind fun _=>(fT a38).bind fun _=>(fT a39).bind fun _=>(fT a40).bind fun _=>(fT a41).bind fun _=>(fT a42).bind fun _=>(fT a43).bind fun _=>(fT a44).bind fun _=>(fT a45).bind fun _=>(fT a46).bind fun _=>(fT a47).bind fun _=>(fT a48).bind fun _=>(fT a49).bind fun _=>(fT a50).bind fun _=>some ⟨nm,bu,mi,ma,sc,sn,st,so,nl,ru,rd,sr,tr,ut,dt,sT,hc,cc,hh,rs,rp,ac,an,aq,ao,us,uh,uo,hs,ec,en,et,eo,qc,qn,qt,qo,pc,pn,pt,po,vc,vn,vt,vo,na,nb,nc,nd,ne,nf,ng,[],[],[],[],[],[],[]⟩
|_=>none
def uH{k:Nat}{c:LA}{s:RB}(e:xQ k c=some s):c=xA k s:=by
 unfold xQ at e
 split at e
 ·obtain⟨_,q,e0⟩:=ub e
  cases uG q
  obtain⟨_,q,e1⟩:=ub e0
  cases Gr q
  obtain⟨_,q,e2⟩:=ub e1
  cases Gr q
  obtain⟨_,q,e3⟩:=ub e2
  cases Gr q
  obtain⟨⟨_,_,_,_⟩,q,e4⟩:=ub e3
  cases N_ q
  obtain⟨_,q,e5⟩:=ub e4
  cases Gr q
  obtain⟨_,q,e6⟩:=ub e5
  cases Gr q
  obtain⟨_,q,e7⟩:=ub e6
  cases Gr q
  obtain⟨_,q,e8⟩:=ub e7
  cases Gr q
  obtain⟨_,q,e9⟩:=ub e8
  cases Gr q
  obtain⟨_,q,C⟩:=ub e9
  cases Gr q
  obtain⟨_,q,e11⟩:=ub C
  cases Gr q
  obtain⟨_,q,e12⟩:=ub e11
  cases Gr q
  obtain⟨_,q,e13⟩:=ub e12
  cases Gr q
  obtain⟨_,q,D⟩:=ub e13
  cases Gr q
  obtain⟨_,q,G⟩:=ub D
  cases Gr q
  obtain⟨_,q,e16⟩:=ub G
  cases Gr q
  obtain⟨_,q,I⟩:=ub e16
  cases Gr q
  obtain⟨⟨_,_,_,_⟩,q,L⟩:=ub I
  cases N_ q
  obtain⟨_,q,T⟩:=ub L
  cases Gr q
  obtain⟨_,q,Y⟩:=ub T
  cases Gr q
  obtain⟨_,q,e21⟩:=ub Y
  cases Gr q
  obtain⟨_,q,e22⟩:=ub e21
  cases Gr q
  obtain⟨⟨_,_,_,_⟩,q,e23⟩:=ub e22
  cases N_ q
  obtain⟨⟨_,_,_,_⟩,q,e24⟩:=ub e23
  cases N_ q
  obtain⟨⟨_,_,_,_⟩,q,e25⟩:=ub e24
  cases N_ q
  obtain⟨⟨_,_,_,_⟩,q,e26⟩:=ub e25
  cases N_ q
  obtain⟨_,q,e27⟩:=ub e26
  cases HN q
  obtain⟨_,q,e28⟩:=ub e27
  cases HN q
  obtain⟨_,q,e29⟩:=ub e28
  cases HN q
  obtain⟨_,q,e30⟩:=ub e29
  cases HN q
  obtain⟨_,q,e31⟩:=ub e30
  cases HN q
  obtain⟨_,q,e32⟩:=ub e31
  cases HN q
  obtain⟨_,q,e33⟩:=ub e32
  cases HN q
  obtain⟨_,q,e34⟩:=ub e33
  cases Ix q
  obtain⟨_,q,e35⟩:=ub e34
  cases Ix q
  obtain⟨_,q,e36⟩:=ub e35
  cases Ix q
  obtain⟨_,q,e37⟩:=ub e36
  cases Ix q
  obtain⟨_,q,e38⟩:=ub e37
  cases Ix q
  obtain⟨_,q,e39⟩:=ub e38
  cases Ix q
  obtain⟨_,q,e40⟩:=ub e39
  cases Ix q
  obtain⟨_,q,e41⟩:=ub e40
  cases Ix q
  obtain⟨_,q,e42⟩:=ub e41
  cases Ix q
  obtain⟨_,q,e43⟩:=ub e42
  cases Ix q
  obtain⟨_,q,e44⟩:=ub e43
  cases Ix q
  obtain⟨_,q,e45⟩:=ub e44
  cases Ix q
  obtain⟨_,q,e46⟩:=ub e45
  cases Ix q
  obtain⟨_,q,e47⟩:=ub e46
  cases Ix q
  obtain⟨_,q,e48⟩:=ub e47
  cases Ix q
  obtain⟨_,q,e49⟩:=ub e48
  cases Ix q
  obtain⟨_,q,e50⟩:=ub e49
  cases Ix q
  cases e50;rfl
 ·cases e
def xB(i k:Nat):Nat×Blk->Option RB
|(j,⟨false,false,false,false,z,c,false,none⟩)=>cond (beq j i&&beq z 0) (xQ k c) none
|_=>none
def qH{i k:Nat}{p:Nat×Blk}{s:RB}(h:xB i k p=some s):p=(i,xO (xA k s)):=by
 unfold xB at h
 split at h
 ·obtain⟨C,D⟩:=uc h
  simp at C
  rw[C.1,C.2,uH D];rfl
 ·cases h
def sK:Ap->Option RB
|p::p0::p1::p2::p3::p4::p5::p6::[]=>(xB 100000 100000 p).bind fun s=>(kQ 100001 2 p0).bind fun c0=>(kQ 100002 2 p1).bind fun c1=>(kQ 100003 2 p2).bind fun c2=>(kQ 100004 2 p3).bind fun c3=>(kQ 100005 2 p4).bind fun c4=>(kQ 100006 2 p5).bind fun c5=>(kQ 100007 2 p6).bind fun c6=>some {s with ka:=c0,kb:=c1,kc:=c2,kd:=c3,ke:=c4,kf:=c5,kg:=c6}
|_=>none
def sL{h:Ap}{s:RB}(e:sK h=some s):h=yK s:=by
 unfold sK at e
 split at e
 ·obtain⟨s,q,f⟩:=ub e
  cases qH q
  obtain⟨_,q,k⟩:=ub f
  cases Lp q
  obtain⟨_,q,e1⟩:=ub k
  cases Lp q
  obtain⟨_,q,C⟩:=ub e1
  cases Lp q
  obtain⟨_,q,e3⟩:=ub C
  cases Lp q
  obtain⟨_,q,e4⟩:=ub e3
  cases Lp q
  obtain⟨_,q,D⟩:=ub e4
  cases Lp q
  obtain⟨_,q,G⟩:=ub D
  cases Lp q
  cases G;rfl
 ·cases e
def va{G:Type 1}(f:LA->RB->Option G)(a:LA)(h:Ap):Option G:=(sK h).bind (f a)
def xR{P:Program}{muts:Nat->List Bool}{T:List (Nat×Tw)}{hs:Hints}{N f:Nat}{g:LA->RB->Option ((R:Type)->KF R->O R)}(H:∀ a s,v_ P muts T hs N f a (yK s) (g a s)):∀ a h,v_ P muts T hs N f a h (va g a h):=fun a h=>by
 unfold va
 cases e:sK h with
|none=>trivial
|some s=>rw[sL e];exact H a s
def xS{S:Type}{G:Type 1}(of:Ap->Option S)(f:LA->S->Option G)(a:LA)(h:Ap):Option G:=(of h).bind (f a)
def y5{S:Type}{of:Ap->Option S}{lay:S->Ap}(k:∀{h s},of h=some s->h=lay s){P:Program}{muts:Nat->List Bool}{T:List (Nat×Tw)}{hs:Hints}{N f:Nat}{g:LA->S->Option ((R:Type)->KF R->O R)}(H:∀ a s,v_ P muts T hs N f a (lay s) (g a s)):∀ a h,v_ P muts T hs N f a h (xS of g a h):=fun a h=>by
 unfold xS
 cases e:of h with
|none=>trivial
|some s=>rw[k e];exact H a s
end Gx
namespace Gx
open Go Go.Proofs
set_option maxRecDepth 100000
noncomputable section
variable{R:Type}(N:Nat)
def muts:Nat->List Bool:=tD [(54,[true,false,false,false]),(56,[true,true,false]),(68,[false,false,false,true,true]),(70,[false,false,true,true]),(71,[false,true,true,true,true,true,true,true,true]),(85,[true,false,false]),(87,[true,true,false,false]),(89,[true,false]),(90,[true,false,false]),(92,[true,false,false,false,false]),(93,[true,false,false,false]),(94,[true,false,false,false]),(111,[true,false,false]),(112,[true,false,false,false]),(113,[true,false,false,false]),(123,[true,false,false]),(125,[true]),(126,[true]),(144,[true,false,false]),(145,[false,false,false,false,false,false]),(146,[false,false,false,false,false,false]),(147,[false,false,false,false,false,false]),(148,[false,false,false,false,false,false]),(149,[false,false,false,false,false,false]),(151,[true,false]),(152,[true,false]),(153,[true,false,false,false]),(154,[true,false,false,false,false,false,false,false]),(155,[true,false,false,false,false,false]),(157,[true,false,false]),(158,[true,false,false]),(159,[true,false,false]),(160,[true,false,false]),(161,[true,false,false]),(169,[false,true]),(171,[false,true,true,true,true,true,true,true,true]),(172,[false,true]),(180,[true]),(195,[true,false,false]),(202,[true,false,false,false,false,false]),(204,[true,false,false,false,false,false]),(205,[true,false,false]),(212,[false,true]),(232,[false,false,false,false,false,false]),(233,[false,false,false,false,false,false]),(238,[true]),(239,[false,false,true]),(240,[false,false,false,false,true]),(244,[true,false]),(246,[false,true,true,true,true,true,true,true,true]),(247,[false,false,false,false,false,false]),(248,[false,true,true,true,true,true,true,true,true]),(249,[false,false,false,true]),(250,[false,true,true,true,true,true,true,true,true])]
def y6{R:Type}:=@yV R Tryz.prog muts
def follows:Tryz.prog.follows .mixedOrders=true:=by kernel_rfl
abbrev Vc:=List (Bd Tryz.prog)
def Mp{R:Type}(fn hs)(l:Vc)(r N)(F:KF R):=@y6 R fn hs (sI l) r N F
def Dm(N f:Nat):=@yW Tryz.prog muts follows N f
def G4:Hints:={H:=hL}
def J9:Hints:={H:=hL,modes:=[(3,0)]}
def RD:Hints:={H:=hK 2 (hS (hS (hP [0,3] hL) hL) hL),nils:=[(2,1)],modes:=[(2,1)]}
def qI:Hints:={H:=hL,nils:=[(2,1)],modes:=[(2,1)]}
def cB:Hints:={H:=hK 3 (hS (hK 1 (hS (hP [0,1,5] hL) hL)) hL)}
def md:Hints:={H:=hK 2 (hJ [0,1,5] hL hL)}
def mf:Hints:={H:=hK 2 (hS (hK 1 (hS (hP [0,1,3,8,9,18,19,20] hL) hL)) (hK 3 (hS (hK 1 (hS (hP [3,8,12,41,42,43] hL) hL)) hL))),modes:=[(3,0)]}
def Gs(F:KF R):LA->O R:=fun v0=>F (.pagg v0 false) []
def C1(F:KF R):Bool->O R:=fun v0=>F (.bool v0) []
def He(F:KF R):Int->O R:=fun v0=>F (iv v0) []
def Ga(F:KF R):Nat->LA->O R:=fun v0 v1=>F (Ahf 0 v0) (hq [bQ 1 v1])
def WE(F:KF R):LA->Bool->O R:=fun v0 v1=>F (.pagg v0 v1) []
def sM(F:KF R):Bool->Nat->LA->O R:=fun v0 v1 v2=>F (.agg [.bool v0,Ahf 0 v1]) (hq [bQ 1 v2])
def N'(F:KF R):Nat->Bool->LA->O R:=fun v0 v1 v2=>F (.tup [Ahf 0 v0,.bool v1]) (hq [bQ 1 v2])
def Vd(F:KF R):LA->Bool->O R:=fun v0 v1=>F (.tup [.pagg v0 false,.bool v1]) []
def jH(F:KF R):Int->O R:=fun v0=>F (.int .u64 v0) []
def jI(F:KF R):Int->Bool->O R:=fun v0 v1=>F (.tup [.int .u64 v0,.bool v1]) []
def RE(F:KF R):Nat->Nat->LA->LA->O R:=fun v0 v1 v2 v3=>F (.tup [Ahf 0 v0,Ahf 1 v1]) (hq [bQ 1 v2,bQ 1 v3])
def RF(F:KF R):Nat->Nat->Bool->LA->LA->O R:=fun v0 v1 v2 v3 v4=>F (.tup [Ahf 0 v0,Ahf 1 v1,.bool v2]) (hq [bQ 1 v3,bQ 1 v4])
def qJ(F:KF R):Nat->Nat->LA->Bool->LA->O R:=fun v0 v1 v2 v3 v4=>F (.tup []) [(100000,bN 0 [Ahf 0 v0,Ahf 1 v1]),(300000,bQ 1 v2),(300001,bP v3 3 v4)]
end
end Gx
namespace Gx
def val:List Nat->Nat
|[]=>0
|x::r=>x+4294967296*val r
def Ag(l:List Nat):Prop:=∀ x∈l,x<4294967296
def jJ:Nat->Nat->List Nat
|0,_=>[]
|f+1,n=>if n=0 then []else n%4294967296::jJ f (n/4294967296)
def Al(n:Nat):List Nat:=jJ n n
def mg:∀(f n:Nat),n<=f->∀ g,n<=g->jJ f n=jJ g n
|0,n,h,g,_=>by
  have:n=0:=by omega
  subst this;cases g<;>simp[jJ]
| f+1,n,h,g,C=>by
  by_cases k:n=0
  ·subst k;cases g<;>simp[jJ]
  ·cases g with
   |zero=>omega
   |succ g=>simp only[jJ,k,if_false];rw[mg f _ (by omega) g (by omega)]
def C6:Al 0=[]:=rfl
def Xt{n:Nat}(h:n≠0):Al n=n%4294967296::Al (n/4294967296):=by
 unfold Al
 cases n with
|zero=>omega
|succ n=>simp only[jJ,h,if_false];rw[mg n _ (by omega) ((n+1)/4294967296) (by omega)]
def Af:∀ n,val (Al n)=n:=by
 intro n
 induction n using Nat.strongRecOn with
|_ n k =>
  by_cases h:n=0
  ·subst h;rfl
  ·rw[Xt h,val,k _ (by omega)];omega
def Ac:∀ n,Ag (Al n):=by
 intro n
 induction n using Nat.strongRecOn with
| _ n C =>
  by_cases h:n=0
  ·subst h;intro x k;simp[C6]at k
  ·rw[Xt h];intro x k
   simp at k
   rcases k with rfl|k
   ·omega
   ·exact C _ (by omega) x k
def Nc:Ag []:=by intro x k;simp at k
def Cj{x:Nat}{r:List Nat}:Ag (x::r)↔x<4294967296/\Ag r:=by simp[Ag]
def KB{a b:List Nat}:Ag (a++b)↔Ag a/\Ag b:=by simp[Ag,or_imp,forall_and]
def B7{a:List Nat}(h:Ag a)(n:Nat):Ag (a.take n):=fun x k=>h x (Ab7 k)
def Xu{a:List Nat}(h:Ag a)(n:Nat):Ag (a.drop n):=fun x k=>h x (List.mem_of_mem_drop k)
def A0{a:List Nat}(h:Ag a){i:Nat}(hi:i<a.length):a[i]<4294967296:=h _ (zQ hi)
def Cc{a:List Nat}(h:Ag a){v:Nat}(D:v<4294967296)(i:Nat):Ag (a.set i v):=fun x C=>by
 rcases Adv C with k|k
 ·exact h x k
 ·omega
def Cb(n:Nat):Ag (replicate n 0):=fun x k=>by simp at k;omega
def Ky:∀(a b:List Nat),val (a++b)=val a+4294967296 ^ a.length*val b
|[],b=>by simp[val]
|x::r,b=>by
  simp only[Aax,val,z8,Ky r b,zR]
  rw[zN,<-Aaf,<-zL];congr 2;rw[zH]
def D3:∀ n,val (replicate n 0)=0
|0=>rfl
|n+1=>by rw[Adj,val,D3 n]
def Be:∀{a:List Nat},Ag a->val a<4294967296 ^ a.length
|[],_=>by simp[val]
|x::r,h=>by
  have k:=Cj.1 h
  have C:=Be k.2
  rw[val,z8,zR]
  omega
def lP(a:List Nat)(x:Nat):val (a++[x])=val a+4294967296 ^ a.length*x:=by rw[Ky];simp[val]
def HO{n:Nat}(h:n≠0):Al n≠[]:=by rw[Xt h];simp
def WF{n:Nat}:Al n=[]↔n=0:=by
 constructor
 ·intro h;by_cases k:n=0;exact k;exact absurd h (HO k)
 ·intro h;rw[h];rfl
def Bb{n:Nat}:(Al n).length=0↔n=0:=by rw[Ad9,WF]
def A7:∀{l:List Nat},Ag l->l=Al (val l)++replicate (l.length - (Al (val l)).length) 0/\(Al (val l)).length<=l.length
|[],_=>by simp[val,C6]
| x::r,h=>by
  have D:=Cj.1 h
  obtain⟨k,G⟩:=A7 D.2
  rw[val]
  by_cases C:x+4294967296*val r=0
  ·have I:x=0:=by omega
   have L:val r=0:=by omega
   rw[C,C6]
   rw[L,C6]at k
   simp at k
   subst I
   refine⟨?_,by simp⟩
   rw[Adb,Ada,Nat.sub_zero,z8,Adj,<-k]
  ·rw[Xt C,show(x+4294967296*val r)%4294967296=x by omega,show(x+4294967296*val r)/4294967296=val r by omega]
   refine⟨?_,by simp;exact G⟩
   rw[Aax,z8,z8,Nat.add_sub_add_right,<-k]
def WG:∀(n:Nat)(h:Al n≠[]),(Al n).getLast h≠0:=by
 intro n
 induction n using Nat.strongRecOn with
| _ n D =>
  intro h
  have G:n≠0:=fun e=>h (by rw[e];rfl)
  have e:=Xt G
  by_cases C:n/4294967296=0
  ·rw[C,C6]at e
   have:n<4294967296:=by omega
   simp[e];omega
  ·have k:=HO C
   have:=D _ (by omega) k
   have I:(Al n).getLast h=(Al (n/4294967296)).getLast k:=by
    simp only[e];rw[List.getLast_cons k]
   rw[I];exact this
def uI:∀{l:List Nat},Ag l->(∀ h:l≠[],l.getLast h≠0)->Al (val l)=l:=by
 intro l h L
 obtain⟨C,T⟩:=A7 h
 by_cases G:l.length - (Al (val l)).length=0
 ·rw[G]at C;simpa using C.symm
 ·exfalso
  obtain⟨k,G⟩:=Nat.exists_eq_succ_of_ne_zero G
  rw[G,Aev,<-Aa9]at C
  have D:l≠[]:=by intro e;rw[e]at C;simp at C
  apply L D
  have I:l.getLast?=some 0:=by rw[C,List.getLast?_append];rfl
  rw[List.getLast?_eq_some_getLast D]at I
  simpa using I
def Iy {n k:Nat} (h:n<4294967296 ^ k):(Al n).length<=k:=by
  induction k generalizing n with
  | zero => have : n = 0 := by simpa using h
            subst this;simp[C6]
  | succ k D =>
    by_cases C:n=0
    · subst C;simp[C6]
    · rw[Xt C,z8]
      have:n/4294967296<4294967296 ^ k:=by
        rw[zR]at h
        exact Abq (by rw[zH];exact h)
      have:=D this
      omega
def Bf{a b:Nat}(h:a<=b):(Al a).length<=(Al b).length:=by
 apply Iy
 have:=Be (Ac b)
 rw[Af]at this
 omega
def cC{U V U3 V2 P d:Nat}(hV:V2*P<=V)(hU:U<(U3+1)*P)(h:U3<d*V2)(k:0<V):U/V<d:=by
 rw[Acz k]
 have D:(U3+1)*P<=d*V2*P:=zI _ h
 have C:d*(V2*P)<=d*V:=zW _ hV
 rw[<-zL]at C
 omega
def cD{U V U3 V2 P d:Nat}(hV:V<(V2+1)*P)(hU:U3*P<=U)(h:d*V2<=U3)(C:d<=V2+1)(k:0<V):d<=U/V+1:=by
 cases d with
|zero=>exact Abx _
| succ d =>
  have:d<=U/V:=by
   rw[Ab1 k]
   have D:(d+1)*V2*P<=U3*P:=zI _ h
   have G:d*V<=d*((V2+1)*P):=zW _ (by omega)
   have I:d*((V2+1)*P)<=(d+1)*V2*P:=by
    rw[<-zL]
    apply zI
    rw[zN,zS];omega
   omega
  omega
def jK{a b u v s t x y:Nat}(D:x+v*b=u*a)(G:y+s*a=t*b)(k:u*t=v*s+1):Nat.gcd x y=Nat.gcd a b:=by
 have e1:t*x+v*y=a:=by
  have C:t*x+t*v*b=t*u*a:=by rw[<-zL t u a |>.symm,zL t v b,<-zN,D]
  have I:v*y+v*s*a=v*t*b:=by rw[zL,zL,<-zN,G]
  have L:t*u*a=v*s*a+a:=by rw[zH t u,k,zS,Ad2]
  have T:t*v*b=v*t*b:=by rw[zH t v]
  omega
 have Y:s*x+u*y=b:=by
  have C:s*x+s*v*b=s*u*a:=by rw[zL,zL,<-zN,D]
  have I:u*y+u*s*a=u*t*b:=by rw[zL,zL,<-zN,G]
  have L:u*t*b=v*s*b+b:=by rw[k,zS,Ad2]
  have T:s*u*a=u*s*a:=by rw[zH s u]
  have h5:s*v*b=v*s*b:=by rw[zH s v]
  omega
 apply Nat.dvd_antisymm
 ·apply Nat.dvd_gcd
  ·rw[<-e1];exact Nat.dvd_add (Aap (Abe x y) t) (Aap (Ab3 x y) v)
  ·rw[<-Y];exact Nat.dvd_add (Aap (Abe x y) s) (Aap (Ab3 x y) u)
 ·apply Nat.dvd_gcd
  ·have C:Nat.gcd a b∣x+v*b:=by rw[D];exact Aap (Abe a b) u
   exact(Ac3 (Aap (Ab3 a b) v)).1 C
  ·have C:Nat.gcd a b∣y+s*a:=by rw[G];exact Aap (Ab3 a b) t
   exact(Ac3 (Aap (Abe a b) s)).1 C
def Tu{a b x y P u v w:Nat}(k:x*P<=a)(D:b<(y+1)*P)(C:u*x=w+v*y)(G:v<=w):v*b<=u*a:=by
 have I:u*(x*P)<=u*a:=zW _ k
 have L:v*b<=v*((y+1)*P):=zW _ (by omega)
 have T:v*((y+1)*P)<=u*(x*P):=by
  rw[<-zL,<-zL]
  apply zI
  rw[C,zN];omega
 omega
end Gx
namespace Gx
open Go
section
variable{R:Type}
def Ad(l:List Nat):LA:=l.map fun n:Nat=>.int .u32 (n:Int)
def Q9(x:Nat)(l:List Nat):Ad (x::l)=.int .u32 (x:Int)::Ad l:=rfl
def Bk(l:List Nat):(Ad l).length=l.length:=by simp[Ad]
def nz(l:List Nat)(n:Nat):(Ad l).drop n=Ad (l.drop n):=by simp[Ad,List.map_drop]
def Nd(l:List Nat)(n:Nat):(Ad l).take n=Ad (l.take n):=by simp[Ad,Ae1]
def KC(l:List Nat)(j:Nat)(v:Nat):List.set (Ad l) j (.int .u32 (v:Int))=Ad (l.set j v):=by simp[Ad,Adm]
def Cy(n:Nat):replicate n (AV.int .u32 0)=Ad (replicate n 0):=by simp[Ad]
def jL{l:List Nat}{i:Nat}(h:i<l.length){f:Int->O R}:Am .u32 (drop i (Ad l)) f=f (l[i]:Nat):=by rw[nz,Aar h,Q9,Az]
def Tv:∀ l:List Nat,Bs (Ad l)=true
|[]=>rfl
|x::r=>by rw[Q9,Bs];exact Tv r
def AL(a b:Nat):(a:Int)+(b:Int)=((a+b:Nat):Int):=by omega
def ZY(a b:Nat):(a:Int)*(b:Int)=((a*b:Nat):Int):=by simp
def G3{a:Nat}(h:a<18446744073709551616):wrap .u64 (a:Int)=(a:Int):=wrap_u64 a h
def oA{a:Nat}(h:a<4294967296):wrap .u32 (a:Int)=(a:Int):=wrap_u32 a h
def KD(a:Nat):wrap .u32 (a:Int)=((a%4294967296:Nat):Int):=nv a
def HP(a:Int):wrap .u64 a=a%18446744073709551616:=IntKind.wrap_u64 a
def OA{a b:Nat}(k:a<18446744073709551616)(C:b<=a):wrap .u64 ((a:Int) - (b:Int))=((a - b:Nat):Int):=by rw[HP];omega
def qK{a b:Nat}(h:a<b)(k:b<=18446744073709551616):wrap .u64 ((a:Int) - (b:Int))=((18446744073709551616+a - b:Nat):Int):=by rw[HP];omega
def ST(a:Nat):Int.fdiv (a:Int) (2 ^ 32)=((a/4294967296:Nat):Int):=Lo a 32
def vd(a:Nat):Int.fdiv (a:Int) (2 ^ 63)=((a/9223372036854775808:Nat):Int):=Lo a 63
def i64{a:Int}(h:-9223372036854775808<=a/\a<=9223372036854775807):wrap .i64 a=a:=Aq a h
def lQ{a b:Nat}(k:a<18446744073709551616)(C:b<18446744073709551616):K5 .u64 (a:Int) (b:Int)=((a ||| b:Nat):Int):=b_ rfl k C
def OB{a b k:Nat}(h:b<2 ^ k):a*2 ^ k ||| b=a*2 ^ k+b:=by rw[<-Nat.shiftLeft_eq,Nat.shiftLeft_add_eq_or_of_lt h]
end
end Gx
namespace Gx
open Go Go.Proofs
set_option maxRecDepth 100000
noncomputable section
variable{R:Type}(N:Nat)
def Xv(N:Nat)(r0:Nat->O R)(a:Nat)(b:LA)(k0:Int->O R)(c:Int):O R:=(cond ((decide (c>0))==true) (cond (Ab (wrap .i64 (c - 1)) a) (Am .u32 (b.drop (0+(((wrap .i64 (c - 1)).toNat)*1))) fun d=>cond (cond true (d==0) false) (k0 (wrap .i64 (c - 1))) (cond ((decide ((0:Int)<=(0:Int)))&&((decide (0<=c))&&((decide (c<=(a:Int)))&&(decide ((a:Int)<=(a:Int)))))) (r0 c.toNat) none)) none) (cond ((decide ((0:Int)<=(0:Int)))&&((decide (0<=c))&&((decide (c<=(a:Int)))&&(decide ((a:Int)<=(a:Int)))))) (r0 c.toNat) none))
def Nf(r0:Nat->O R)(a:Nat)(b:LA):Nat->Int->O R
|0=>fun _=>none
|n+1=>Xv N r0 a b (Nf r0 a b n)
def KE(N:Nat)(r0:Nat->O R)(q0:Int->O R)(a:Nat)(b:LA):O R:=(q0 (a:Int))
def Rz:=(Ak fun N a b r0=>KE (R:=R) N r0 (Nf N r0 a b N) a b).1
def HQ(a b r0):(@Rz R N a b r0)=(KE N r0 (Nf N r0 a b N) a b):=by rw[Rz,(Ak _).2]
def oB(F:KF R):=Mp Tryz.f180 RD [] [100000] N F
def EA(b:LA)(F:KF R):Nat->O R:=fun f=>F (.own 100000 0 f) [(100000,bQ 1 b)]
def oC(a:Nat)(b:LA)(K:St->O R):=fun c=>K ⟨[(0,.own 100000 0 a),(3,iv c)],[(100000,bQ 1 b)]⟩
def fU(F:KF R)(a b):∀ n,oC a b (A3 (oB N F (pz 336) []) n)=(Nf N (EA b F) a b n):=Mo fun n e=>(Dw (Xv N (EA b F) a b) e:_)
def KG:=Dm N 180 [] RD (fun
|[.own 100000 0 a],[(100000,⟨false,false,true,false,1,b,false,none⟩)]=>some fun _ k=>Rz N a b (EA b k)
| _,_=>none) fun _ _=>by split;rename_i a b;intro R F;exact(Dw (KE N (EA b F) · a b) ((lW ..).trans (fU ..)):_).trans (HQ ..).symm;trivial
def R3(a:Int)(r0:Nat->LA->O R):O R:=(Rz N 2 [.int .u32 (wrap .u32 a),.int .u32 (wrap .u32 (Int.fdiv a (2 ^ 32)))] fun b=>r0 b [.int .u32 (wrap .u32 a),.int .u32 (wrap .u32 (Int.fdiv a (2 ^ 32)))])
def Bn:=(Ak (@R3 R)).1
def Tx:@Bn R=@R3 R:=(Ak _).2
def Fs:=Dm N 170 [KG N] qI (fun
|[.int .u64 a],[]=>some fun _ k=>Bn N a (Ga k)
| _,_=>none) fun _ _=>by split;intro R F;dsimp only;rw[Tx];kernel_rfl;trivial
def HR(N:Nat)(c:Bool)(a:Nat)(b:LA)(r0:Bool->O R):O R:=(cond (c==true) (r0 (cond true (decide ((a:Int)>0)) false)) (r0 false))
def H8:=(Ak (@HR R)).1
def FQ:@H8 R=@HR R:=(Ak _).2
def fV(a:Nat)(b:LA)(F:KF R):Bool->O R:=fun d=>F (.agg [.bool d,.own 100000 0 a]) [(100000,bQ 1 b)]
def Ty:=Dm N 169 [] G4 (fun
|[.bool c,.own 100000 0 a],[(100000,⟨false,false,true,false,1,b,false,none⟩)]=>some fun _ k=>H8 N c a b (fV a b k)
| _,_=>none) fun _ _=>by split;intro R F;dsimp only;rw[FQ];kernel_rfl;trivial
def BS(a:Int)(r0:Bool->Nat->LA->O R):O R:=(cond (decide (a<0)) (Bn N (wrap .u64 ((0:Int) - (wrap .u64 a))) fun b c=>H8 N true b c fun f=>r0 f b c) (Bn N (wrap .u64 a) fun d e=>H8 N false d e fun g=>r0 g d e))
def Xw:=(Ak (@BS R)).1
def BT:@Xw R=@BS R:=(Ak _).2
def fW:=Dm N 108 [Fs N,Ty N] G4 (fun
|[.int .i64 a],[]=>some fun _ k=>Xw N a (sM k)
| _,_=>none) fun _ _=>by split;intro R F;dsimp only;rw[BT];kernel_rfl;trivial
def BU(a:Int)(r0:LA->O R):O R:=(Xw N a fun c b d=>r0 [.bool c,.imm (d.take (b*1)) b 1 false false,.imm [.int .u32 1] 1 1 false false])
def A4:=(Ak (@BU R)).1
def BV:@A4 R=@BU R:=(Ak _).2
def Cd:=Dm N 51 [fW N] J9 (fun
|[.int .i64 a],[]=>some fun _ k=>A4 N a (Gs k)
| _,_=>none) fun _ _=>by split;intro R F;dsimp only;rw[BV];kernel_rfl;trivial
def N5(N:Nat)(r0:LA->Nat->O R)(c:LA)(a:Nat)(d b:Bool)(k0:Int->O R)(f:Int):O R:=(cond ((decide (f>0))==true) (cond (Ab (wrap .i64 (f - 1)) a) (Am .u32 (c.drop (((wrap .i64 (f - 1)).toNat)*1)) fun g=>cond (cond true (g==0) false) (k0 (wrap .i64 (f - 1))) (cond ((decide ((0:Int)<=(0:Int)))&&((decide (0<=f))&&((decide (f<=(a:Int)))&&(decide ((a:Int)<=(a:Int)))))) (r0 (c.take (f.toNat*1)) f.toNat) none)) none) (cond ((decide ((0:Int)<=(0:Int)))&&((decide (0<=f))&&((decide (f<=(a:Int)))&&(decide ((a:Int)<=(a:Int)))))) (r0 (c.take (f.toNat*1)) f.toNat) none))
def Hf(r0:LA->Nat->O R)(c:LA)(a:Nat)(d b:Bool):Nat->Int->O R
|0=>fun _=>none
|n+1=>N5 N r0 c a d b (Hf r0 c a d b n)
def Xx(N:Nat)(r0:LA->Nat->O R)(q0:Int->O R)(c:LA)(a:Nat)(d b:Bool):O R:=(q0 (a:Int))
def B9:=(Ak fun N c a d b r0=>Xx (R:=R) N r0 (Hf N r0 c a d b N) c a d b).1
def FR(c a d b r0):(@B9 R N c a d b r0)=(Xx N r0 (Hf N r0 c a d b N) c a d b):=by rw[B9,(Ak _).2]
def fX(F:KF R):=Mp Tryz.f180 RD [] [] N F
def P9(b:Bool)(F:KF R):LA->Nat->O R:=fun h i=>F (.imm h i 1 false b) []
def fY(c:LA)(a:Nat)(d b:Bool)(K:St->O R):=fun f=>K ⟨[(0,.imm c a 1 d b),(3,iv f)],[]⟩
def SU(F:KF R)(c a d b):∀ n,fY c a d b (A3 (fX N F (pz 336) []) n)=(Hf N (P9 b F) c a d b n):=Mo fun n e=>(Dw (N5 N (P9 b F) c a d b) e:_)
def Iz:=Dm N 180 [] RD (fun
|[.imm c a 1 d b],[]=>some fun _ k=>B9 N c a d b (P9 b k)
| _,_=>none) fun _ _=>by split;rename_i c a d b;intro R F;exact(Dw (Xx N (P9 b F) · c a d b) ((lW ..).trans (SU ..)):_).trans (FR ..).symm;trivial
def G5(N:Nat)(r0:Int->O R)(b:LA)(a:Nat)(c d:Bool)(k0:Int->Int->Int->O R)(g h f:Int):O R:=(cond (decide (f<h)) (cond (Ab f a) (Am .u32 (b.drop (f.toNat*1)) fun i=>cond (decide ((wrap .i64 (32*f))<0)) none (k0 (K5 .u64 g (wrap .u64 ((wrap .u64 i)*2 ^ (min ((wrap .i64 (32*f)).toNat) 64)))) h (wrap .i64 (f+1)))) none) (r0 g))
def Gb(r0:Int->O R)(b:LA)(a:Nat)(c d:Bool):Nat->Int->Int->Int->O R
|0=>fun _ _ _=>none
|n+1=>G5 N r0 b a c d (Gb r0 b a c d n)
def KH(N:Nat)(r0:Int->O R)(q0:Int->Int->Int->O R)(b:LA)(a:Nat)(c d:Bool):O R:=(q0 0 (a:Int) 0)
def Lq:=(Ak fun N b a c d r0=>KH (R:=R) N r0 (Gb N r0 b a c d N) b a c d).1
def RG(b a c d r0):(@Lq R N b a c d r0)=(KH N r0 (Gb N r0 b a c d N) b a c d):=by rw[Lq,(Ak _).2]
def WH:Hints:={H:=hK 2 (hS (hK 1 (hS (hP [3,6,7,8] hL) hL)) hL)}
def lR(F:KF R):=Mp Tryz.f214 WH [] [] N F
def lS(b:LA)(a:Nat)(c d:Bool)(K:St->O R):=fun g h f=>K ⟨[(3,.int .u64 g),(6,.imm b a 1 c d),(7,iv h),(8,iv f)],[]⟩
def ZZ(F:KF R)(b a c d):∀ n,lS b a c d (A3 (lR N F (pz 1348) []) n)=(Gb N (jH F) b a c d n):=Mo fun n e=>(Dw (G5 N (jH F) b a c d) e:_)
def OC:=Dm N 214 [] WH (fun
|[.imm b a 1 c d],[]=>some fun _ k=>Lq N b a c d (jH k)
| _,_=>none) fun _ _=>by split;intro R F;exact(Dw (KH N (jH F) · _ _ _ _) ((lW ..).trans (ZZ ..)):_).trans (RG ..).symm;trivial
def HS(b:LA)(c:Nat)(d a:Bool)(r0:Int->Bool->O R):O R:=(B9 N b c d a fun f e=>cond (decide ((e:Int)>2)) (r0 0 false) (Lq N f e false a fun g=>r0 g true))
def V7:=(Ak (@HS R)).1
def FS:@V7 R=@HS R:=(Ak _).2
def jM:=Dm N 176 [Iz N,OC N] G4 (fun
|[.imm b c 1 d a],[]=>some fun _ k=>V7 N b c d a (jI k)
| _,_=>none) fun _ _=>by split;intro R F;dsimp only;rw[FS];kernel_rfl;trivial
def Eb(N:Nat)(r0:Int->Int->Bool->O R)(b a:Int)(d:Bool)(c:LA)(e:Bool):O R:=(cond e (r0 0 0 false) (cond (a==0) (r0 0 1 true) (Zu c fun f=>cond f (r0 (wrap .i64 ((0:Int) - (wrap .i64 b))) (wrap .i64 a) true) (r0 (wrap .i64 b) (wrap .i64 a) true))))
def Ra(r0:Int->Int->Bool->O R)(q0:Int->Int->Bool->O R)(c:LA)(d:Bool):O R:=(D6 1 (c.drop 1) fun g h=>V7 N g h false d fun b i=>D6 1 (c.drop 2) fun j l=>V7 N j l false d fun a m=>cond ((!i)==false) (cond ((cond false true (!m))==false) (cond ((cond false true (decide (b>=2147483648)))==false) (q0 b a (cond false true (decide (a>=2147483648)))) (q0 b a true)) (q0 b a true)) (q0 b a true))
def Fj:=(Ak fun N c d r0=>Ra (R:=R) N r0 (fun b a=>Eb N r0 b a d c) c d).1
def Qa(c d r0):(@Fj R N c d r0)=(Ra N r0 (fun b a=>Eb N r0 b a d c) c d):=by rw[Fj,(Ak _).2]
def RH:Hints:={H:=hK 3 (hS (hS (hJ [1,5,6,21] hL hL) hL) hL)}
def WI:Vc:=[jM N]
def jN(F:KF R):=Mp Tryz.f115 RH (WI N) [] N F
def BW(F:KF R):Int->Int->Bool->O R:=fun n o p=>F (.tup [iv n,iv o,.bool p]) []
def jO(b a:Int)(d:Bool)(c:LA)(K:St->O R):=fun e=>K ⟨[(1,op 0),(5,.int .u64 b),(6,.int .u64 a),(21,.bool e)],hq [bP d 0 c]⟩
def WJ(F:KF R)(b a d c):jO b a d c (Ba (jN N F (pz 5441) []))=(Eb N (BW F) b a d c):=by kernel_rfl
def Xy:=Dm N 115 (WI N) RH (fun
|[.pagg c d],[]=>some fun _ k=>Fj N c d (BW k)
| _,_=>none) fun _ _=>by split;intro R F;exact(Dw (Ra N (BW F) · _ _) (kP fun b a=>(jW ..).trans (WJ ..)):_).trans (Qa ..).symm;trivial
def Ht(r0:LA->O R)(a b c:Int)(k1:Int->Int->O R)(d f:Int):O R:=(cond (f != 0) (cond (f==0) none (k1 f (Int.tmod d f))) (cond (d==0) none (Bn N (wrap .u64 (Int.tdiv c d)) fun g i=>cond (d==0) none (Bn N (wrap .u64 (Int.tdiv (wrap .u64 b) d)) fun h j=>r0 [.bool (decide (a<0)),.imm (i.take (g*1)) g 1 false false,.imm (j.take (h*1)) h 1 false false]))))
def Ca(r0:LA->O R)(a b c:Int):Nat->Int->Int->O R
|0=>fun _ _=>none
|n+1=>Ht N r0 a b c (Ca r0 a b c n)
def O0(N:Nat)(r0:LA->O R)(a b:Int)(q1:Int->Int->Int->O R)(c:Int):O R:=(q1 c (wrap .u64 b) c)
def Lr(r0:LA->O R)(a b:Int)(c:Int):O R:=O0 N r0 a b (fun c=>Ca N r0 a b c N) c
def Qb(N:Nat)(r0:LA->O R)(q0:Int->O R)(a b:Int):O R:=(cond (decide (a<0)) (q0 (wrap .u64 ((0:Int) - (wrap .u64 a)))) (q0 (wrap .u64 a)))
def G6:=(Ak fun N a b r0=>Qb (R:=R) N r0 (Lr N r0 a b) a b).1
def Zv(a b r0):(@G6 R N a b r0)=(Qb N r0 (Lr N r0 a b) a b):=by rw[G6,(Ak _).2]
def BX:Hints:={H:=hK 2 (hJ [0,1,4,5] hL (hK 1 (hS (hS (hP [0,1,4,5,6,7] hL) hL) hL))),modes:=[(3,0)]}
def FT:Vc:=[Fs N]
def BY(F:KF R):=Mp Tryz.f127 BX (FT N) [] N F
def WK(a b c:Int)(K:St->O R):=fun d f=>K ⟨[(0,iv a),(1,iv b),(4,op 0),(5,.int .u64 c),(6,.int .u64 d),(7,.int .u64 f)],hq [bN 0 [.bool false,.nsl,.nsl]]⟩
def WL(a b:Int)(K:St->O R):=fun c=>K ⟨[(0,iv a),(1,iv b),(4,op 0),(5,.int .u64 c)],hq [bN 0 [.bool false,.nsl,.nsl]]⟩
def KI(F:KF R)(a b c):∀ n,WK a b c (A3 (BY N F (pz 5456) []) n)=(Ca N (Gs F) a b c n):=Mo fun n e=>(Dw (Ht N (Gs F) a b c) e:_)
def KJ(F:KF R)(a b):WL a b (Ba (BY N F (pz 85) []))=(Lr N (Gs F) a b):=(Dw (O0 N (Gs F) a b) (uE fun c=>(lW ..).trans (KI ..)):_)
def Ve:=Dm N 127 (FT N) BX (fun
|[.int .i64 a,.int .i64 b],[]=>some fun _ k=>G6 N a b (Gs k)
| _,_=>none) fun _ _=>by split;intro R F;exact(Dw (Qb N (Gs F) · _ _) ((jW ..).trans (KJ ..)):_).trans (Zv ..).symm;trivial
def FU(N:Nat)(r0:LA->O R)(k0:O R):O R:=(r0 [])
def Ls(r0:LA->O R):Nat->O R
|0=>none
|n+1=>FU N r0 (Ls r0 n)
def Xz(N:Nat)(r0:LA->O R)(q0:O R):O R:=q0
def V8:=(Ak fun N r0=>Xz (R:=R) N r0 (Ls N r0 N)).1
def FV r0:(@V8 R N r0)=(Xz N r0 (Ls N r0 N)):=by rw[V8,(Ak _).2]
def fZ(F:KF R):=Mp Tryz.f180 RD [] [] N F
def Qc(F:KF R):LA->O R:=fun a=>F (Ahf 0 0) (hq [bQ 1 a])
def f5(K:St->O R):=K ⟨[(0,.nsl),(3,iv 0)],[]⟩
def SV(F:KF R):∀ n,f5 (A3 (fZ N F (pz 336) []) n)=(Ls N (Qc F) n):=Mo fun n e=>(Dw (FU N (Qc F)) e:_)
def jP:=Dm N 180 [] RD (fun
|[.nsl],[]=>some fun _ k=>V8 N (Qc k)
| _,_=>none) fun _ _=>by split;intro R F;exact(Dw (Xz N (Qc F)) ((lW ..).trans (SV ..)):_).trans (FV ..).symm;trivial
def R4(N:Nat)(r0:Int->O R)(c:LA)(a:Nat)(b:Bool)(d:LA)(k0:Int->O R)(f:Int):O R:=(cond (decide (f>=0)) (cond (Ab f a) (Am .u32 (c.drop (f.toNat*1)) fun j=>cond (Ab f 0) (Am .u32 (d.drop (0+(f.toNat*1))) fun l=>cond (decide (j<l)) (r0 (-1)) (cond (Ab f a) (Am .u32 (c.drop (f.toNat*1)) fun m=>cond (Ab f 0) (Am .u32 (d.drop (0+(f.toNat*1))) fun o=>cond (decide (m>o)) (r0 1) (k0 (wrap .i64 (f - 1)))) none) none)) none) none) (r0 0))
def Kg(r0:Int->O R)(c:LA)(a:Nat)(b:Bool)(d:LA):Nat->Int->O R
|0=>fun _=>none
|n+1=>R4 N r0 c a b d (Kg r0 c a b d n)
def Tz(r0:Int->O R)(q0:LA->Nat->LA->Int->O R)(g:LA)(h:Nat)(i b:Bool):O R:=(B9 N g h i b fun c a=>V8 N fun d=>cond ((a:Int) != 0) (cond (decide ((a:Int)<0)) (r0 (-1)) (r0 1)) (q0 c a d (wrap .i64 ((a:Int) - 1))))
def Ng:=(Ak fun N g h i b r0=>Tz (R:=R) N r0 (fun c a d=>Kg N r0 c a b d N) g h i b).1
def BZ(g h i b r0):(@Ng R N g h i b r0)=(Tz N r0 (fun c a d=>Kg N r0 c a b d N) g h i b):=by rw[Ng,(Ak _).2]
def Th:=xN (Iz N) (jP N) (Eq.refl 180)
def KK:Vc:=[Th N]
def Z_(F:KF R):=Mp Tryz.f128 cB (KK N) [] N F
def Z'(c:LA)(a:Nat)(b:Bool)(d:LA)(K:St->O R):=fun f=>K ⟨[(0,.imm c a 1 false b),(1,Ahf 0 0),(5,iv f)],hq [bQ 1 d]⟩
def OD(F:KF R)(c a b d):∀ n,Z' c a b d (A3 (Z_ N F (pz 5444) []) n)=(Kg N (He F) c a b d n):=Mo fun n e=>(Dw (R4 N (He F) c a b d) e:_)
def KL:=Dm N 128 (KK N) cB (fun
|[.imm g h 1 i b,.nsl],[]=>some fun _ k=>Ng N g h i b (He k)
| _,_=>none) fun _ _=>by split;intro R F;exact(Dw (Tz N (He F) · _ _ _ _) (uF fun c a d=>(lW ..).trans (OD ..)):_).trans (BZ ..).symm;trivial
def EB(a:LA)(b:Bool)(r0:LA->Bool->LA->Nat->Bool->O R):O R:=(D6 1 (a.drop 2) fun c d=>Ng N c d false b fun e=>cond (e==0) (r0 [.bool false,.nsl] false [.int .u32 1] 1 false) (cond (ble 2 a.length) (D6 1 (a.drop 2) fun f g=>cond ((beq 0 0)&&((beq ((a.take 2).length) 2)&&(beq 2 2))) (cond (ble 2 ((a.take 2).length)) (r0 ((a.take 2).take 2) b f g b) none) none) none))
def I0:=(Ak (@EB R)).1
def X0:@I0 R=@EB R:=(Ak _).2
def jQ(F:KF R):LA->Bool->LA->Nat->Bool->O R:=fun h i j l m=>F (.tup [.pagg h i,.imm j l 1 false m]) []
def R5:=Dm N 117 [KL N] { H:=hL,nils:=[(3,1)],modes:=[(3,0),(1,1)] } (fun
|[.pagg a b],[]=>some fun _ k=>I0 N a b (jQ k)
| _,_=>none) fun _ _=>by split;intro R F;dsimp only;rw[X0];kernel_rfl;trivial
def X1(N:Nat)(k1:Nat->Int->Int->LA->O R)(r0:Nat->LA->O R)(f:LA)(a:Nat)(c:Bool)(i:Nat)(h l:Int)(g:LA)(b:Nat)(d:Bool)(j:Int)(k2:Int->Int->Int->LA->O R)(w x m:Int)(u:LA):O R:=(cond (decide (m<x)) (cond (Ab m a) (Am .u32 (f.drop (m.toNat*1)) fun y=>cond (Ab (wrap .i64 (h+m)) i) (Am .u32 (u.drop (0+(((wrap .i64 (h+m)).toNat)*1))) fun z=>cond (Ab (wrap .i64 (h+m)) i) (cond ((beq 1 1)&&((ble ((0+(((wrap .i64 (h+m)).toNat)*1))+1) u.length)&&(!false))) (k2 (Int.fdiv (wrap .u64 (w+(wrap .u64 ((wrap .u64 ((wrap .u64 l)*(wrap .u64 y)))+(wrap .u64 z))))) (2 ^ 32)) x (wrap .i64 (m+1)) (u.set (0+(((wrap .i64 (h+m)).toNat)*1)) (.int .u32 (wrap .u32 (wrap .u64 (w+(wrap .u64 ((wrap .u64 ((wrap .u64 l)*(wrap .u64 y)))+(wrap .u64 z))))))))) none) none) none) none) (cond (Ab (wrap .i64 (h+(a:Int))) i) (cond ((beq 1 1)&&((ble ((0+(((wrap .i64 (h+(a:Int))).toNat)*1))+1) u.length)&&(!false))) (k1 i j (wrap .i64 (h+1)) (u.set (0+(((wrap .i64 (h+(a:Int))).toNat)*1)) (.int .u32 (wrap .u32 w)))) none) none))
def Nh(k1:Nat->Int->Int->LA->O R)(r0:Nat->LA->O R)(f:LA)(a:Nat)(c:Bool)(i:Nat)(h l:Int)(g:LA)(b:Nat)(d:Bool)(j:Int):Nat->Int->Int->Int->LA->O R
|0=>fun _ _ _ _=>none
|n+1=>X1 N k1 r0 f a c i h l g b d j (Nh k1 r0 f a c i h l g b d j n)
def R6(r0:Nat->LA->O R)(f:LA)(a:Nat)(c:Bool)(g:LA)(b:Nat)(d:Bool)(k1:Nat->Int->Int->LA->O R)(q2:Nat->Int->Int->Int->Int->Int->Int->LA->O R)(i:Nat)(j h:Int)(v:LA):O R:=(cond (decide (h<j)) (cond (Ab h b) (Am .u32 (g.drop (h.toNat*1)) fun l=>cond (l==0) (k1 i j (wrap .i64 (h+1)) v) (q2 i h l j 0 (a:Int) 0 v)) none) (Rz N i v fun aa=>r0 aa v))
def Jr(r0:Nat->LA->O R)(f:LA)(a:Nat)(c:Bool)(g:LA)(b:Nat)(d:Bool):Nat->Nat->Int->Int->LA->O R
|0=>fun _ _ _ _=>none
|n+1=>R6 N r0 f a c g b d (Jr r0 f a c g b d n) (fun i h l j=>Nh N (Jr r0 f a c g b d n) r0 f a c i h l g b d j N)
def HT(N:Nat)(r0:Nat->LA->O R)(g:LA)(b:Nat)(d:Bool)(f:LA)(a:Nat)(c:Bool)(q1:Nat->Int->Int->LA->O R):O R:=(cond ((decide (0<=(wrap .i64 ((b:Int)+(a:Int)))))&&((decide ((wrap .i64 ((b:Int)+(a:Int)))<=(wrap .i64 ((b:Int)+(a:Int)))))&&((decide ((wrap .i64 ((b:Int)+(a:Int)))<=140737488355328))&&(decide (((wrap .i64 ((b:Int)+(a:Int)))*((4:Nat):Int))<=140737488355328))))) (q1 ((wrap .i64 ((b:Int)+(a:Int))).toNat) (b:Int) 0 (replicate ((wrap .i64 ((b:Int)+(a:Int))).toNat) (.int .u32 0))) none)
def EC(r0:Nat->LA->O R)(g:LA)(b:Nat)(d:Bool)(f:LA)(a:Nat)(c:Bool):O R:=HT N r0 g b d f a c (Jr N r0 f a c g b d N)
def ED(r0:Nat->LA->O R)(q0:LA->Nat->LA->Nat->O R)(o:LA)(p:Nat)(q d:Bool)(r:LA)(s:Nat)(t c:Bool):O R:=(B9 N o p q d fun g b=>B9 N r s t c fun f a=>cond (((b:Int)==0)==false) (cond (cond false true ((a:Int)==0)) (r0 0 []) (q0 g b f a)) (r0 0 []))
def X2:=(Ak fun N o p q d r s t c r0=>ED (R:=R) N r0 (fun g b f a=>EC N r0 g b d f a c) o p q d r s t c).1
def X3(o p q d r s t c r0):(@X2 R N o p q d r s t c r0)=(ED N r0 (fun g b f a=>EC N r0 g b d f a c) o p q d r s t c):=by rw[X2,(Ak _).2]
def cE:Hints:={H:=hK 2 (hJ [0,1] hL (hK 1 (hS (hK 1 (hS (hP [1,5,29,30,31] (hK 2 (hS (hS (hK 3 (hS (hK 1 (hS (hP [1,5,6,7,8,29,30,31,38,39,40] hL) hL)) hL)) hL) hL))) hL)) hL))),nils:=[(4,1)],modes:=[(2,1)]}
def E7:=xN (Iz N) (KG N) (Eq.refl 180)
def jR:Vc:=[E7 N]
def OE(F:KF R):=Mp Tryz.f131 cE (jR N) [] N F
def oD(f:LA)(a:Nat)(c:Bool)(i:Nat)(h l:Int)(g:LA)(b:Nat)(d:Bool)(j:Int)(K:St->O R):=fun w x m u=>K ⟨[(1,.imm f a 1 false c),(5,Ahf 0 i),(6,iv h),(7,.int .u32 l),(8,.int .u64 w),(29,.imm g b 1 false d),(30,iv j),(31,iv h),(38,.imm f a 1 false c),(39,iv x),(40,iv m)],hq [bQ 1 u]⟩
def OF(f:LA)(a:Nat)(c:Bool)(g:LA)(b:Nat)(d:Bool)(K:St->O R):=fun i j h v=>K ⟨[(1,.imm f a 1 false c),(5,Ahf 0 i),(29,.imm g b 1 false d),(30,iv j),(31,iv h)],hq [bQ 1 v]⟩
def oE(g:LA)(b:Nat)(d:Bool)(f:LA)(a:Nat)(c:Bool)(K:St->O R):=K ⟨[(0,.imm g b 1 false d),(1,.imm f a 1 false c)],[]⟩
def f6 Q1 (F:KF R) (f a c i h l g b d j):∀ n,oD f a c i h l g b d j (A3 (OE N F (pz 91553596740) [Q1]) n)=(Nh N (OF f a c g b d Q1) (Ga F) f a c i h l g b d j n):=Mo fun n e=>(Dw (X1 N (OF f a c g b d Q1) (Ga F) f a c i h l g b d j) e:_)
def f7(F:KF R)(f a c g b d):∀ n,OF f a c g b d (A3 (OE N F (pz 21828) []) n)=(Jr N (Ga F) f a c g b d n):=Mo fun n e=>(ZX (R6 N (Ga F) f a c g b d) e (rz fun i h l j=>(lW ..).trans ((f6 ..).trans (m_ (Nh _ · _ _ _ _ _ _ _ _ _ _ _ _) e))):_)
def f8(F:KF R)(g b d f a c):oE g b d f a c (Ba (OE N F (pz 85) []))=(EC N (Ga F) g b d f a c):=(Dw (HT N (Ga F) g b d f a c) ((lW ..).trans (f7 ..)):_)
def KM:=Dm N 131 (jR N) cE (fun
|[.imm o p 1 q d,.imm r s 1 t c],[]=>some fun _ k=>X2 N o p q d r s t c (Ga k)
| _,_=>none) fun _ _=>by split;intro R F;exact(Dw (ED N (Ga F) · _ _ _ _ _ _ _ _) (rz fun g b f a=>(jW ..).trans (f8 ..)):_).trans (X3 ..).symm;trivial
def f9(a:LA)(c:Bool)(b:LA)(d:Bool)(r0:Bool->Nat->LA->O R):O R:=(Zu a fun g=>Zu b fun h=>D6 1 (a.drop 1) fun i j=>D6 1 (b.drop 1) fun l m=>X2 N i j false c l m false d fun e f=>H8 N (!(g==h)) e f fun n=>r0 n e f)
def B_:=(Ak (@f9 R)).1
def WM:@B_ R=@f9 R:=(Ak _).2
def WN:=Dm N 119 [KM N,Ty N] G4 (fun
|[.pagg a c,.pagg b d],[]=>some fun _ k=>B_ N a c b d (sM k)
| _,_=>none) fun _ _=>by split;intro R F;dsimp only;rw[WM];kernel_rfl;trivial
def WO(c:LA)(d:Nat)(e b:Bool)(r0:Nat->LA->O R):O R:=(B9 N c d e b fun f a=>cond ((decide (0<=(a:Int)))&&((decide ((a:Int)<=(a:Int)))&&((decide ((a:Int)<=140737488355328))&&(decide (((a:Int)*((4:Nat):Int))<=140737488355328))))) (cond ((!b)||(Bs f)) (r0 a (D8 (replicate a (.int .u32 0)) 0 (f.take ((min a a)*1)))) none) none)
def T0:=(Ak (@WO R)).1
def RK:@T0 R=@WO R:=(Ak _).2
def EE:=Dm N 182 [Iz N] qI (fun
|[.imm c d 1 e b],[]=>some fun _ k=>T0 N c d e b (Ga k)
| _,_=>none) fun _ _=>by split;intro R F;dsimp only;rw[RK];kernel_rfl;trivial
def WP(a:LA)(b:Bool)(r0:Bool->Nat->LA->O R):O R:=(Zu a fun e=>D6 1 (a.drop 1) fun f g=>T0 N f g false b fun c d=>H8 N e c d fun h=>r0 h c d)
def UC:=(Ak (@WP R)).1
def RL:@UC R=@WP R:=(Ak _).2
def oF:=Dm N 181 [EE N,Ty N] G4 (fun
|[.pagg a b],[]=>some fun _ k=>UC N a b (sM k)
| _,_=>none) fun _ _=>by split;intro R F;dsimp only;rw[RL];kernel_rfl;trivial
def Il(N:Nat)(r0:Int->O R)(f:LA)(a:Nat)(b:Bool)(g:LA)(c:Nat)(d:Bool)(k0:Int->O R)(h:Int):O R:=(cond (decide (h>=0)) (cond (Ab h a) (Am .u32 (f.drop (h.toNat*1)) fun q=>cond (Ab h c) (Am .u32 (g.drop (h.toNat*1)) fun r=>cond (decide (q<r)) (r0 (-1)) (cond (Ab h a) (Am .u32 (f.drop (h.toNat*1)) fun s=>cond (Ab h c) (Am .u32 (g.drop (h.toNat*1)) fun t=>cond (decide (s>t)) (r0 1) (k0 (wrap .i64 (h - 1)))) none) none)) none) none) (r0 0))
def Dx(r0:Int->O R)(f:LA)(a:Nat)(b:Bool)(g:LA)(c:Nat)(d:Bool):Nat->Int->O R
|0=>fun _=>none
|n+1=>Il N r0 f a b g c d (Dx r0 f a b g c d n)
def Lt(r0:Int->O R)(q0:LA->Nat->LA->Nat->Int->O R)(i:LA)(j:Nat)(l b:Bool)(m:LA)(o:Nat)(p d:Bool):O R:=(B9 N i j l b fun f a=>B9 N m o p d fun g c=>cond ((a:Int) != (c:Int)) (cond (decide ((a:Int)<(c:Int))) (r0 (-1)) (r0 1)) (q0 f a g c (wrap .i64 ((a:Int) - 1))))
def Dc:=(Ak fun N i j l b m o p d r0=>Lt (R:=R) N r0 (fun f a g c=>Dx N r0 f a b g c d N) i j l b m o p d).1
def T1(i j l b m o p d r0):(@Dc R N i j l b m o p d r0)=(Lt N r0 (fun f a g c=>Dx N r0 f a b g c d N) i j l b m o p d):=by rw[Dc,(Ak _).2]
def Zw:Vc:=[Iz N]
def OG(F:KF R):=Mp Tryz.f128 cB (Zw N) [] N F
def OH(f:LA)(a:Nat)(b:Bool)(g:LA)(c:Nat)(d:Bool)(K:St->O R):=fun h=>K ⟨[(0,.imm f a 1 false b),(1,.imm g c 1 false d),(5,iv h)],[]⟩
def ET(F:KF R)(f a b g c d):∀ n,OH f a b g c d (A3 (OG N F (pz 5444) []) n)=(Dx N (He F) f a b g c d n):=Mo fun n e=>(Dw (Il N (He F) f a b g c d) e:_)
def Hu:=Dm N 128 (Zw N) cB (fun
|[.imm i j 1 l b,.imm m o 1 p d],[]=>some fun _ k=>Dc N i j l b m o p d (He k)
| _,_=>none) fun _ _=>by split;intro R F;exact(Dw (Lt N (He F) · _ _ _ _ _ _ _ _) (rz fun f a g c=>(lW ..).trans (ET ..)):_).trans (T1 ..).symm;trivial
def Dy(N:Nat)(r0:Int->O R)(b c:Int):O R:=(cond (decide (b>=256)) (cond (Ab (wrap .u8 (Int.fdiv b (2 ^ 8))) 256) (r0 (wrap .i64 ((wrap .i64 (c+8))+(wrap .i64 ((UInt8.toNat (List.getD ([0,1,2,2,3,3,3,3,4,4,4,4,4,4,4,4,5,5,5,5,5,5,5,5,5,5,5,5,5,5,5,5,6,6,6,6,6,6,6,6,6,6,6,6,6,6,6,6,6,6,6,6,6,6,6,6,6,6,6,6,6,6,6,6,7,7,7,7,7,7,7,7,7,7,7,7,7,7,7,7,7,7,7,7,7,7,7,7,7,7,7,7,7,7,7,7,7,7,7,7,7,7,7,7,7,7,7,7,7,7,7,7,7,7,7,7,7,7,7,7,7,7,7,7,7,7,7,7,8,8,8,8,8,8,8,8,8,8,8,8,8,8,8,8,8,8,8,8,8,8,8,8,8,8,8,8,8,8,8,8,8,8,8,8,8,8,8,8,8,8,8,8,8,8,8,8,8,8,8,8,8,8,8,8,8,8,8,8,8,8,8,8,8,8,8,8,8,8,8,8,8,8,8,8,8,8,8,8,8,8,8,8,8,8,8,8,8,8,8,8,8,8,8,8,8,8,8,8,8,8,8,8,8,8,8,8,8,8,8,8,8,8,8,8,8,8,8,8,8,8,8,8,8,8,8,8]:Lu) ((wrap .u8 (Int.fdiv b (2 ^ 8))).toNat) 0):Nat):Int))))) none) (cond (Ab (wrap .u8 b) 256) (r0 (wrap .i64 (c+(wrap .i64 ((UInt8.toNat (List.getD ([0,1,2,2,3,3,3,3,4,4,4,4,4,4,4,4,5,5,5,5,5,5,5,5,5,5,5,5,5,5,5,5,6,6,6,6,6,6,6,6,6,6,6,6,6,6,6,6,6,6,6,6,6,6,6,6,6,6,6,6,6,6,6,6,7,7,7,7,7,7,7,7,7,7,7,7,7,7,7,7,7,7,7,7,7,7,7,7,7,7,7,7,7,7,7,7,7,7,7,7,7,7,7,7,7,7,7,7,7,7,7,7,7,7,7,7,7,7,7,7,7,7,7,7,7,7,7,7,8,8,8,8,8,8,8,8,8,8,8,8,8,8,8,8,8,8,8,8,8,8,8,8,8,8,8,8,8,8,8,8,8,8,8,8,8,8,8,8,8,8,8,8,8,8,8,8,8,8,8,8,8,8,8,8,8,8,8,8,8,8,8,8,8,8,8,8,8,8,8,8,8,8,8,8,8,8,8,8,8,8,8,8,8,8,8,8,8,8,8,8,8,8,8,8,8,8,8,8,8,8,8,8,8,8,8,8,8,8,8,8,8,8,8,8,8,8,8,8,8,8,8,8,8,8,8,8]:Lu) ((wrap .u8 b).toNat) 0):Nat):Int))))) none))
def Js(N:Nat)(r0:Int->O R)(q0:Int->Int->O R)(a:Int):O R:=(cond (decide (a>=65536)) (q0 (Int.fdiv a (2 ^ 16)) 16) (q0 a 0))
def Hv:=(Ak fun N a r0=>Js (R:=R) N r0 (Dy N r0) a).1
def Pg(a r0):(@Hv R N a r0)=(Js N r0 (Dy N r0) a):=by rw[Hv,(Ak _).2]
def R7:Hints:={H:=hK 1 (hJ [0,2] hL hL)}
def HU(F:KF R):=Mp Tryz.f223 R7 [] [] N F
def HV(K:St->O R):=fun b c=>K ⟨[(0,.int .u32 b),(2,iv c)],[]⟩
def AM(F:KF R):HV (Ba (HU N F (pz 21) []))=(Dy N (He F)):=by kernel_rfl
def KO:=Dm N 223 [] R7 (fun
|[.int .u32 a],[]=>some fun _ k=>Hv N a (He k)
| _,_=>none) fun _ _=>by split;intro R F;exact(Dw (Js N (He F) · _) ((jW ..).trans (AM ..)):_).trans (Pg ..).symm;trivial
def Fr(a:Int)(r0:Int->O R):O R:=(Hv N a fun b=>r0 (wrap .i64 (32 - b)))
def Bx:=(Ak (@Fr R)).1
def Hw:@Bx R=@Fr R:=(Ak _).2
def I3:=Dm N 241 [KO N] G4 (fun
|[.int .u32 a],[]=>some fun _ k=>Bx N a (He k)
| _,_=>none) fun _ _=>by split;intro R F;dsimp only;rw[Hw];kernel_rfl;trivial
def R8(N:Nat)(c:Int)(b:LA)(a:Nat)(d e:Bool)(r0:Int->O R):O R:=(cond (decide (c<(a:Int))) (cond (Ab c a) (Am .u32 (b.drop (c.toNat*1)) fun f=>r0 (wrap .u64 f)) none) (r0 0))
def H9:=(Ak (@R8 R)).1
def T2:@H9 R=@R8 R:=(Ak _).2
def OI(b:LA)(a:Nat)(d e:Bool)(F:KF R):Int->O R:=fun g=>F (.int .u64 g) [(100000,bN 0 [.imm b a 1 d e])]
def SW:=Dm N 250 [] G4 (fun
|[.int .i64 c,.optr 100000 0],[(100000,⟨false,false,false,false,0,[.imm b a 1 d e],false,none⟩)]=>some fun _ k=>H9 N c b a d e (OI b a d e k)
| _,_=>none) fun _ _=>by split;intro R F;dsimp only;rw[T2];kernel_rfl;trivial
def HW(b:LA)(c:Nat)(d e:Bool)(f a:Int)(r0:Int->O R):O R:=(H9 N (wrap .i64 (f - 1)) b c d e fun g=>H9 N (wrap .i64 (f - 2)) b c d e fun h=>cond (decide (a<0)) none (H9 N (wrap .i64 (f - 3)) b c d e fun i=>cond (decide ((wrap .i64 (32 - a))<0)) none (r0 (K5 .u64 (wrap .u64 ((K5 .u64 (wrap .u64 (g*2 ^ 32)) h)*2 ^ (min a.toNat 64))) (Int.fdiv i (2 ^ (min ((wrap .i64 (32 - a)).toNat) 64)))))))
def V9:=(Ak (@HW R)).1
def FW:@V9 R=@HW R:=(Ak _).2
def jS:=Dm N 242 [SW N] G4 (fun
|[.imm b c 1 d e,.int .i64 f,.int .i64 a],[]=>some fun _ k=>V9 N b c d e f a (jH k)
| _,_=>none) fun _ _=>by split;intro R F;dsimp only;rw[FW];kernel_rfl;trivial
def N6(N:Nat)(k0:Int->Int->Int->Int->Int->Int->Int->Int->Bool->O R)(r0:LA->O R)(m c s t u v:Int)(z:Bool):O R:=(cond (c==0) none (cond (c==0) none (k0 c (Int.tmod m c) s t (wrap .u64 (s+(wrap .u64 ((wrap .u64 (Int.tdiv m c))*t)))) u v (wrap .u64 (u+(wrap .u64 ((wrap .u64 (Int.tdiv m c))*v)))) (!z))))
def Gt(N:Nat)(r0:LA->O R)(k0:Int->Int->Int->Int->Int->Int->Int->Int->Bool->O R)(q1:Int->Int->Int->Int->Int->Int->Bool->O R)(w o x p aa y l q:Int)(r:Bool):O R:=(cond ((decide (o>=q))==true) (cond (cond true (decide ((wrap .u64 (w - o))>=(wrap .u64 (l+q)))) false) (q1 w o p aa l q r) (r0 [.int .u64 x,.int .u64 p,.int .u64 y,.int .u64 l,.bool r])) (r0 [.int .u64 x,.int .u64 p,.int .u64 y,.int .u64 l,.bool r]))
def Dd(r0:LA->O R):Nat->Int->Int->Int->Int->Int->Int->Int->Int->Bool->O R
|0=>fun _ _ _ _ _ _ _ _ _=>none
|n+1=>Gt N r0 (Dd r0 n) (N6 N (Dd r0 n) r0)
def T3(r0:LA->O R)(q0:Int->Int->Int->Int->Int->Int->Int->Int->Bool->O R)(b:LA)(a:Nat)(i d:Bool)(f:LA)(g:Nat)(j h:Bool):O R:=(cond (Ab (wrap .i64 ((a:Int) - 1)) a) (Am .u32 (b.drop (((wrap .i64 ((a:Int) - 1)).toNat)*1)) fun ac=>Bx N ac fun ab=>V9 N b a false d (a:Int) ab fun ad=>V9 N f g false h (a:Int) ab fun ae=>q0 ad ae 0 1 0 0 0 1 false) none)
def R9:=(Ak fun N b a i d f g j h r0=>T3 (R:=R) N r0 (Dd N r0 N) b a i d f g j h).1
def B'(b a i d f g j h r0):(@R9 R N b a i d f g j h r0)=(T3 N r0 (Dd N r0 N) b a i d f g j h):=by rw[R9,(Ak _).2]
def FX:Hints:={H:=hK 7 (hS (hS (hP [4,7,8,9,10,11,12,13,14,15] (hJ [4,7,8,10,11,13,14,15] hL hL)) hL) hL),modes:=[(3,0)]}
def KP:Vc:=[I3 N,jS N]
def FY(F:KF R):=Mp Tryz.f225 FX (KP N) [] N F
def aA(K:St->O R):=fun m c s t u v z=>K ⟨[(4,op 0),(7,.int .u64 m),(8,.int .u64 c),(10,.int .u64 s),(11,.int .u64 t),(13,.int .u64 u),(14,.int .u64 v),(15,.bool z)],hq [bQ 0 [.int .u64 0,.int .u64 0,.int .u64 0,.int .u64 0,.bool false]]⟩
def FZ(K:St->O R):=fun w o x p aa y l q r=>K ⟨[(4,op 0),(7,.int .u64 w),(8,.int .u64 o),(9,.int .u64 x),(10,.int .u64 p),(11,.int .u64 aa),(12,.int .u64 y),(13,.int .u64 l),(14,.int .u64 q),(15,.bool r)],hq [bQ 0 [.int .u64 0,.int .u64 0,.int .u64 0,.int .u64 0,.bool false]]⟩
def OJ Q0 (F:KF R):aA (Ba (FY N F (pz 5592321) [Q0]))=(N6 N (FZ Q0) (Gs F)):=by kernel_rfl
def OK(F:KF R):∀ n,FZ (A3 (FY N F (pz 349520) []) n)=(Dd N (Gs F) n):=Mo fun n e=>(ZX (Gt N (Gs F)) e ((jW ..).trans ((OJ ..).trans (m_ (N6 _ · _) e))):_)
def f_:=Dm N 225 (KP N) FX (fun
|[.imm b a 1 i d,.imm f g 1 j h],[]=>some fun _ k=>R9 N b a i d f g j h (Gs k)
| _,_=>none) fun _ _=>by split;intro R F;exact(Dw (T3 N (Gs F) · _ _ _ _ _ _ _ _) ((lW ..).trans (OK ..)):_).trans (B' ..).symm;trivial
def Gm(r0:Nat->Nat->LA->LA->O R)(c:LA)(a:Nat)(d f:Bool)(b:Int)(k0:Int->Int->LA->O R)(i g:Int)(h:LA):O R:=(cond (decide (g>=0)) (cond (Ab g a) (Am .u32 (c.drop (g.toNat*1)) fun j=>cond ((wrap .u64 b)==0) none (cond (Ab g a) (cond ((beq 1 1)&&((ble ((0+(g.toNat*1))+1) h.length)&&(!false))) (cond ((wrap .u64 b)==0) none (k0 (Int.tmod (K5 .u64 (wrap .u64 (i*2 ^ 32)) (wrap .u64 j)) (wrap .u64 b)) (wrap .i64 (g - 1)) (h.set (0+(g.toNat*1)) (.int .u32 (wrap .u32 (wrap .u64 (Int.tdiv (K5 .u64 (wrap .u64 (i*2 ^ 32)) (wrap .u64 j)) (wrap .u64 b)))))))) none) none)) none) (Rz N a h fun l=>Bn N i fun m o=>r0 l m h o))
def C2(r0:Nat->Nat->LA->LA->O R)(c:LA)(a:Nat)(d f:Bool)(b:Int):Nat->Int->Int->LA->O R
|0=>fun _ _ _=>none
|n+1=>Gm N r0 c a d f b (C2 r0 c a d f b n)
def Jt(N:Nat)(r0:Nat->Nat->LA->LA->O R)(q0:Int->Int->LA->O R)(c:LA)(a:Nat)(d f:Bool)(b:Int):O R:=(cond ((decide (0<=(a:Int)))&&((decide ((a:Int)<=(a:Int)))&&((decide ((a:Int)<=140737488355328))&&(decide (((a:Int)*((4:Nat):Int))<=140737488355328))))) (q0 0 (wrap .i64 ((a:Int) - 1)) (replicate a (.int .u32 0))) none)
def Ft:=(Ak fun N c a d f b r0=>Jt (R:=R) N r0 (C2 N r0 c a d f b N) c a d f b).1
def Ph(c a d f b r0):(@Ft R N c a d f b r0)=(Jt N r0 (C2 N r0 c a d f b N) c a d f b):=by rw[Ft,(Ak _).2]
def Sa:Hints:={H:=hK 3 (hS (hK 1 (hS (hP [0,1,4,6,7] hL) hL)) hL),nils:=[(4,1),(5,1)],modes:=[(2,1),(2,1)]}
def T4:Vc:=[KG N,Fs N]
def HX(F:KF R):=Mp Tryz.f227 Sa (T4 N) [] N F
def HY(c:LA)(a:Nat)(d f:Bool)(b:Int)(K:St->O R):=fun i g h=>K ⟨[(0,.imm c a 1 d f),(1,.int .u32 b),(4,Ahf 0 a),(6,.int .u64 i),(7,iv g)],hq [bQ 1 h]⟩
def AN(F:KF R)(c a d f b):∀ n,HY c a d f b (A3 (HX N F (pz 5444) []) n)=(C2 N (RE F) c a d f b n):=Mo fun n e=>(Dw (Gm N (RE F) c a d f b) e:_)
def KQ:=Dm N 227 (T4 N) Sa (fun
|[.imm c a 1 d f,.int .u32 b],[]=>some fun _ k=>Ft N c a d f b (RE k)
| _,_=>none) fun _ _=>by split;intro R F;exact(Dw (Jt N (RE F) · _ _ _ _ _) ((lW ..).trans (AN ..)):_).trans (Ph ..).symm;trivial
def Lv(N:Nat)(r0:Nat->LA->O R)(c:LA)(a:Nat)(d f:Bool)(b:Int)(k0:Nat->Int->Int->Int->LA->O R)(h:Nat)(j l g:Int)(i:LA):O R:=(cond (decide (g<l)) (cond (Ab g a) (Am .u32 (c.drop (g.toNat*1)) fun m=>cond (decide (b<0)) none (cond (Ab g h) (cond ((beq 1 1)&&((ble ((0+(g.toNat*1))+1) i.length)&&(!false))) (k0 h (Int.fdiv (K5 .u64 j (wrap .u64 ((wrap .u64 m)*2 ^ (min b.toNat 64)))) (2 ^ 32)) l (wrap .i64 (g+1)) (i.set (0+(g.toNat*1)) (.int .u32 (wrap .u32 (K5 .u64 j (wrap .u64 ((wrap .u64 m)*2 ^ (min b.toNat 64)))))))) none) none)) none) (cond (Ab (a:Int) h) (cond ((beq 1 1)&&((ble ((0+(a*1))+1) i.length)&&(!false))) (r0 h (i.set (0+(a*1)) (.int .u32 (wrap .u32 j)))) none) none))
def Gc(r0:Nat->LA->O R)(c:LA)(a:Nat)(d f:Bool)(b:Int):Nat->Nat->Int->Int->Int->LA->O R
|0=>fun _ _ _ _ _=>none
|n+1=>Lv N r0 c a d f b (Gc r0 c a d f b n)
def T5(N:Nat)(r0:Nat->LA->O R)(q0:Nat->Int->Int->Int->LA->O R)(c:LA)(a:Nat)(d f:Bool)(b:Int):O R:=(cond ((decide (0<=(wrap .i64 ((a:Int)+1))))&&((decide ((wrap .i64 ((a:Int)+1))<=(wrap .i64 ((a:Int)+1))))&&((decide ((wrap .i64 ((a:Int)+1))<=140737488355328))&&(decide (((wrap .i64 ((a:Int)+1))*((4:Nat):Int))<=140737488355328))))) (q0 ((wrap .i64 ((a:Int)+1)).toNat) 0 (a:Int) 0 (replicate ((wrap .i64 ((a:Int)+1)).toNat) (.int .u32 0))) none)
def Ni:=(Ak fun N c a d f b r0=>T5 (R:=R) N r0 (Gc N r0 c a d f b N) c a d f b).1
def CA(c a d f b r0):(@Ni R N c a d f b r0)=(T5 N r0 (Gc N r0 c a d f b N) c a d f b):=by rw[Ni,(Ak _).2]
def F_:Hints:={H:=hK 3 (hS (hK 1 (hS (hP [0,1,5,6,13,14,15] hL) hL)) hL),nils:=[(4,1)],modes:=[(2,1)]}
def aB(F:KF R):=Mp Tryz.f243 F_ [] [] N F
def aC(c:LA)(a:Nat)(d f:Bool)(b:Int)(K:St->O R):=fun h j l g i=>K ⟨[(0,.imm c a 1 d f),(1,iv b),(5,Ahf 0 h),(6,.int .u64 j),(13,.imm c a 1 d f),(14,iv l),(15,iv g)],hq [bQ 1 i]⟩
def OL(F:KF R)(c a d f b):∀ n,aC c a d f b (A3 (aB N F (pz 5444) []) n)=(Gc N (Ga F) c a d f b n):=Mo fun n e=>(Dw (Lv N (Ga F) c a d f b) e:_)
def ff:=Dm N 243 [] F_ (fun
|[.imm c a 1 d f,.int .i64 b],[]=>some fun _ k=>Ni N c a d f b (Ga k)
| _,_=>none) fun _ _=>by split;intro R F;exact(Dw (T5 N (Ga F) · _ _ _ _ _) ((lW ..).trans (OL ..)):_).trans (CA ..).symm;trivial
def Ju(N:Nat)(r0:Int->LA->O R)(b c:Nat)(f j:Int)(d:LA)(a:Nat)(g h:Bool)(k4:Int->Int->Int->LA->O R)(t u o:Int)(r:LA):O R:=(cond (decide (o<u)) (cond (Ab o a) (Am .u32 (d.drop (o.toNat*1)) fun y=>cond (Ab o c) (Am .u32 (r.drop (b+(o.toNat*1))) fun z=>cond (Ab o c) (cond ((beq 1 1)&&((ble ((b+(o.toNat*1))+1) r.length)&&(!false))) (k4 (Int.fdiv (wrap .u64 (t+(wrap .u64 ((wrap .u64 z)+(wrap .u64 y))))) (2 ^ 32)) u (wrap .i64 (o+1)) (r.set (b+(o.toNat*1)) (.int .u32 (wrap .u32 (wrap .u64 (t+(wrap .u64 ((wrap .u64 z)+(wrap .u64 y))))))))) none) none) none) none) (cond (Ab f c) (Am .u32 (r.drop (b+(f.toNat*1))) fun ag=>cond (Ab f c) (cond ((beq 1 1)&&((ble ((b+(f.toNat*1))+1) r.length)&&(!false))) (r0 (wrap .u32 (wrap .u64 (j - 1))) (r.set (b+(f.toNat*1)) (.int .u32 (wrap .u32 (ag+(wrap .u32 t)))))) none) none) none))
def Fu(r0:Int->LA->O R)(b c:Nat)(f j:Int)(d:LA)(a:Nat)(g h:Bool):Nat->Int->Int->Int->LA->O R
|0=>fun _ _ _ _=>none
|n+1=>Ju N r0 b c f j d a g h (Fu r0 b c f j d a g h n)
def Gu(N:Nat)(r0:Int->LA->O R)(b c:Nat)(d:LA)(a:Nat)(g h:Bool)(f j:Int)(k3:Int->Int->Int->LA->O R)(q4:Int->Int->Int->LA->O R)(s v p:Int)(q:LA):O R:=(cond (decide (p<v)) (cond (Ab p a) (Am .u32 (d.drop (p.toNat*1)) fun w=>cond (Ab p c) (Am .u32 (q.drop (b+(p.toNat*1))) fun aa=>cond (Ab p c) (cond ((beq 1 1)&&((ble ((b+(p.toNat*1))+1) q.length)&&(!false))) (k3 (wrap .u64 ((Int.fdiv (wrap .u64 ((wrap .u64 (j*(wrap .u64 w)))+s)) (2 ^ 32))+(Int.fdiv (wrap .u64 ((wrap .u64 aa) - (wrap .u64 (wrap .u32 (wrap .u64 ((wrap .u64 (j*(wrap .u64 w)))+s)))))) (2 ^ 63)))) v (wrap .i64 (p+1)) (q.set (b+(p.toNat*1)) (.int .u32 (wrap .u32 (wrap .u64 ((wrap .u64 aa) - (wrap .u64 (wrap .u32 (wrap .u64 ((wrap .u64 (j*(wrap .u64 w)))+s)))))))))) none) none) none) none) (cond (Ab f c) (Am .u32 (q.drop (b+(f.toNat*1))) fun x=>cond (Ab f c) (cond ((beq 1 1)&&((ble ((b+(f.toNat*1))+1) q.length)&&(!false))) (cond ((Int.fdiv (wrap .u64 ((wrap .u64 x) - s)) (2 ^ 63))==0) (r0 (wrap .u32 j) (q.set (b+(f.toNat*1)) (.int .u32 (wrap .u32 (wrap .u64 ((wrap .u64 x) - s)))))) (q4 0 (a:Int) 0 (q.set (b+(f.toNat*1)) (.int .u32 (wrap .u32 (wrap .u64 ((wrap .u64 x) - s))))))) none) none) none))
def Ev(r0:Int->LA->O R)(b c:Nat)(d:LA)(a:Nat)(g h:Bool)(f j:Int):Nat->Int->Int->Int->LA->O R
|0=>fun _ _ _ _=>none
|n+1=>Gu N r0 b c d a g h f j (Ev r0 b c d a g h f j n) (Fu N r0 b c f j d a g h N)
def Nj(N:Nat)(r0:Int->LA->O R)(b c:Nat)(d:LA)(a:Nat)(g h:Bool)(f:Int)(i:LA)(q3:Int->Int->Int->Int->LA->O R)(j:Int):O R:=(q3 j 0 (a:Int) 0 i)
def Do(r0:Int->LA->O R)(b c:Nat)(d:LA)(a:Nat)(g h:Bool)(f:Int)(i:LA)(j:Int):O R:=Nj N r0 b c d a g h f i (fun j=>Ev N r0 b c d a g h f j N) j
def Nk(N:Nat)(k0:Int->Int->Int->O R)(r0:Int->LA->O R)(b c:Nat)(d:LA)(a:Nat)(g h:Bool)(f l m:Int)(i:LA)(q2:Int->O R):O R:=(cond (Ab (wrap .i64 (f - 1)) a) (Am .u32 (d.drop (((wrap .i64 (f - 1)).toNat)*1)) fun ab=>cond ((Int.fdiv (wrap .u64 (m+(wrap .u64 ab))) (2 ^ 32)) != 0) (q2 (wrap .u64 (l - 1))) (k0 f (wrap .u64 (l - 1)) (wrap .u64 (m+(wrap .u64 ab))))) none)
def Hx(k0:Int->Int->Int->O R)(r0:Int->LA->O R)(b c:Nat)(d:LA)(a:Nat)(g h:Bool)(f l m:Int)(i:LA):O R:=Nk N k0 r0 b c d a g h f l m i (Do N r0 b c d a g h f i)
def Nl(N:Nat)(r0:Int->LA->O R)(b c:Nat)(d:LA)(a:Nat)(g h:Bool)(i:LA)(k0:Int->Int->Int->O R)(q1:Int->Int->Int->O R)(q2:Int->Int->O R)(f l m:Int):O R:=(cond (((Int.fdiv l (2 ^ 32)) != 0)==false) (cond (Ab (wrap .i64 (f - 2)) a) (Am .u32 (d.drop (((wrap .i64 (f - 2)).toNat)*1)) fun ah=>cond (Ab (wrap .i64 (f - 2)) c) (Am .u32 (i.drop (b+(((wrap .i64 (f - 2)).toNat)*1))) fun ai=>cond (cond false true (decide ((wrap .u64 (l*(wrap .u64 ah)))>(K5 .u64 (wrap .u64 (m*2 ^ 32)) (wrap .u64 ai))))) (q1 f l m) (q2 f l)) none) none) (q1 f l m))
def Dp(r0:Int->LA->O R)(b c:Nat)(d:LA)(a:Nat)(g h:Bool)(i:LA):Nat->Int->Int->Int->O R
|0=>fun _ _ _=>none
|n+1=>Nl N r0 b c d a g h i (Dp r0 b c d a g h i n) (fun f l m=>Hx N (Dp r0 b c d a g h i n) r0 b c d a g h f l m i) (fun f=>Do N r0 b c d a g h f i)
def N7(N:Nat)(r0:Int->LA->O R)(q0:Int->Int->Int->O R)(b c:Nat)(d:LA)(a:Nat)(g h:Bool)(i:LA):O R:=(cond (Ab (a:Int) c) (Am .u32 (i.drop (b+(a*1))) fun ac=>cond (Ab (wrap .i64 ((a:Int) - 1)) c) (Am .u32 (i.drop (b+(((wrap .i64 ((a:Int) - 1)).toNat)*1))) fun ad=>cond (Ab (wrap .i64 ((a:Int) - 1)) a) (Am .u32 (d.drop (((wrap .i64 ((a:Int) - 1)).toNat)*1)) fun ae=>cond ((wrap .u64 ae)==0) none (cond (Ab (wrap .i64 ((a:Int) - 1)) a) (Am .u32 (d.drop (((wrap .i64 ((a:Int) - 1)).toNat)*1)) fun af=>cond ((wrap .u64 af)==0) none (q0 (a:Int) (wrap .u64 (Int.tdiv (K5 .u64 (wrap .u64 ((wrap .u64 ac)*2 ^ 32)) (wrap .u64 ad)) (wrap .u64 ae))) (Int.tmod (K5 .u64 (wrap .u64 ((wrap .u64 ac)*2 ^ 32)) (wrap .u64 ad)) (wrap .u64 af)))) none)) none) none) none)
def Jv:=(Ak fun N b c d a g h i r0=>N7 (R:=R) N r0 (Dp N r0 b c d a g h i N) b c d a g h i).1
def Wa(b c d a g h i r0):(@Jv R N b c d a g h i r0)=(N7 N r0 (Dp N r0 b c d a g h i N) b c d a g h i):=by rw[Jv,(Ak _).2]
def Zx:Hints:={H:=hK 4 (hJ [0,1,5,7] (hS (hP [0,1,5,7,8] (hJ [0,1,5,7,8] hL hL)) hL) (hK 1 (hS (hK 1 (hS (hP [0,1,5,7,9,84,85,86] hL) hL)) (hK 4 (hS (hK 1 (hS (hP [0,5,7,9,134,135,136] hL) hL)) hL)))))}
def Hy(F:KF R):=Mp Tryz.f244 Zx [] [100000] N F
def Bp(F:KF R):Int->LA->O R:=fun aj ak=>F (.int .u32 aj) [(100000,bQ 1 ak)]
def SX(b c:Nat)(f j:Int)(d:LA)(a:Nat)(g h:Bool)(K:St->O R):=fun t u o r=>K ⟨[(0,.own 100000 b c),(5,iv f),(7,.int .u64 j),(9,.int .u64 t),(134,.imm d a 1 g h),(135,iv u),(136,iv o)],[(100000,bQ 1 r)]⟩
def SY(b c:Nat)(d:LA)(a:Nat)(g h:Bool)(f j:Int)(K:St->O R):=fun s v p q=>K ⟨[(0,.own 100000 b c),(1,.imm d a 1 g h),(5,iv f),(7,.int .u64 j),(9,.int .u64 s),(84,.imm d a 1 g h),(85,iv v),(86,iv p)],[(100000,bQ 1 q)]⟩
def SZ(b c:Nat)(d:LA)(a:Nat)(g h:Bool)(f:Int)(i:LA)(K:St->O R):=fun j=>K ⟨[(0,.own 100000 b c),(1,.imm d a 1 g h),(5,iv f),(7,.int .u64 j)],[(100000,bQ 1 i)]⟩
def S_(b c:Nat)(d:LA)(a:Nat)(g h:Bool)(f l m:Int)(i:LA)(K:St->O R):=K ⟨[(0,.own 100000 b c),(1,.imm d a 1 g h),(5,iv f),(7,.int .u64 l),(8,.int .u64 m)],[(100000,bQ 1 i)]⟩
def O1(b c:Nat)(d:LA)(a:Nat)(g h:Bool)(i:LA)(K:St->O R):=fun f l m=>K ⟨[(0,.own 100000 b c),(1,.imm d a 1 g h),(5,iv f),(7,.int .u64 l),(8,.int .u64 m)],[(100000,bQ 1 i)]⟩
def HZ(F:KF R)(b c f j d a g h):∀ n,SX b c f j d a g h (A3 (Hy N F (pz 357913924) []) n)=(Fu N (Bp F) b c f j d a g h n):=Mo fun n e=>(Dw (Ju N (Bp F) b c f j d a g h) e:_)
def H_(F:KF R)(b c d a g h f j):∀ n,SY b c d a g h f j (A3 (Hy N F (pz 349508) []) n)=(Ev N (Bp F) b c d a g h f j n):=Mo fun n e=>(ZX (Gu N (Bp F) b c d a g h f j) e ((lW ..).trans (HZ ..)):_)
def Sb(F:KF R)(b c d a g h f i):SZ b c d a g h f i (Ba (Hy N F (pz 1365) []))=(Do N (Bp F) b c d a g h f i):=(Dw (Nj N (Bp F) b c d a g h f i) (uE fun j=>(lW ..).trans (H_ ..)):_)
def H' Q0 (F:KF R) (b c d a g h f l m i):S_ b c d a g h f l m i (Ba (Hy N F (pz 87297) [Q0]))=(Hx N (O1 b c d a g h i Q0) (Bp F) b c d a g h f l m i):=(Dw (Nk N (O1 b c d a g h i Q0) (Bp F) b c d a g h f l m i) ((jW ..).trans (Sb ..)):_)
def IA(F:KF R)(b c d a g h i):∀ n,O1 b c d a g h i (A3 (Hy N F (pz 5456) []) n)=(Dp N (Bp F) b c d a g h i n):=Mo fun n e=>(yY (Nl N (Bp F) b c d a g h i) e (uF fun f l m=>(jW ..).trans ((H' ..).trans (m_ (Hx _ · _ _ _ _ _ _ _ _ _ _ _) e))) (uE fun f=>(jW ..).trans (Sb ..)):_)
def WQ:=Dm N 244 [] Zx (fun
|[.own 100000 b c,.imm d a 1 g h],[(100000,⟨false,false,true,false,1,i,false,none⟩)]=>some fun _ k=>Jv N b c d a g h i (Bp k)
| _,_=>none) fun _ _=>by split;intro R F;exact(Dw (N7 N (Bp F) · _ _ _ _ _ _ _) ((lW ..).trans (IA ..)):_).trans (Wa ..).symm;trivial
def Fx(r0:Nat->Bool->LA->O R)(b:Bool)(k0:LA->Nat->Int->Nat->LA->Nat->Int->Int->LA->O R)(o:LA)(m:Nat)(f:Int)(l:Nat)(p:LA)(q:Nat)(r d:Int)(g:LA):O R:=(cond (decide (d<r)) (cond (Ab d q) (Am .u32 (p.drop (d.toNat*1)) fun s=>cond (decide ((wrap .i64 (d+1))<(m:Int))) (cond (Ab (wrap .i64 (d+1)) m) (Am .u32 (o.drop (((wrap .i64 (d+1)).toNat)*1)) fun u=>cond (decide (f<0)) none (cond (Ab d l) (cond ((beq 1 1)&&((ble ((0+(d.toNat*1))+1) g.length)&&(!false))) (k0 o m f l p q r (wrap .i64 (d+1)) (g.set (0+(d.toNat*1)) (.int .u32 (wrap .u32 (Int.fdiv (K5 .u64 (wrap .u64 s) (wrap .u64 ((wrap .u64 u)*2 ^ 32))) (2 ^ (min f.toNat 64))))))) none) none)) none) (cond (decide (f<0)) none (cond (Ab d l) (cond ((beq 1 1)&&((ble ((0+(d.toNat*1))+1) g.length)&&(!false))) (k0 o m f l p q r (wrap .i64 (d+1)) (g.set (0+(d.toNat*1)) (.int .u32 (wrap .u32 (Int.fdiv (wrap .u64 s) (2 ^ (min f.toNat 64))))))) none) none))) none) (Rz N l g fun v=>r0 v true g))
def Ce(r0:Nat->Bool->LA->O R)(b:Bool):Nat->LA->Nat->Int->Nat->LA->Nat->Int->Int->LA->O R
|0=>fun _ _ _ _ _ _ _ _ _=>none
|n+1=>Fx N r0 b (Ce r0 b n)
def I4(r0:Nat->Bool->LA->O R)(q0:LA->Nat->Int->Nat->LA->Nat->Int->Int->LA->O R)(h:LA)(i:Nat)(j b:Bool)(a:Int):O R:=(cond (decide (a<0)) (r0 0 false []) (B9 N h i j b fun t c=>cond (decide ((wrap .i64 (Int.tdiv a 32))>=(c:Int))) (r0 0 true []) (cond ((decide (0<=(wrap .i64 (Int.tdiv a 32))))&&((decide ((wrap .i64 (Int.tdiv a 32))<=(c:Int)))&&((decide ((c:Int)<=(c:Int)))&&(decide ((c:Int)<=(c:Int)))))) (cond ((decide (0<=(((c - ((wrap .i64 (Int.tdiv a 32)).toNat)):Nat):Int)))&&((decide ((((c - ((wrap .i64 (Int.tdiv a 32)).toNat)):Nat):Int)<=(((c - ((wrap .i64 (Int.tdiv a 32)).toNat)):Nat):Int)))&&((decide ((((c - ((wrap .i64 (Int.tdiv a 32)).toNat)):Nat):Int)<=140737488355328))&&(decide (((((c - ((wrap .i64 (Int.tdiv a 32)).toNat)):Nat):Int)*((4:Nat):Int))<=140737488355328))))) (q0 ((t.drop (((wrap .i64 (Int.tdiv a 32)).toNat)*1)).take ((c - ((wrap .i64 (Int.tdiv a 32)).toNat))*1)) (c - ((wrap .i64 (Int.tdiv a 32)).toNat)) (Int.tmod a 32) (c - ((wrap .i64 (Int.tdiv a 32)).toNat)) ((t.drop (((wrap .i64 (Int.tdiv a 32)).toNat)*1)).take ((c - ((wrap .i64 (Int.tdiv a 32)).toNat))*1)) (c - ((wrap .i64 (Int.tdiv a 32)).toNat)) (((c - ((wrap .i64 (Int.tdiv a 32)).toNat)):Nat):Int) 0 (replicate (c - ((wrap .i64 (Int.tdiv a 32)).toNat)) (.int .u32 0))) none) none)))
def Kh:=(Ak fun N h i j b a r0=>I4 (R:=R) N r0 (Ce N r0 b N) h i j b a).1
def Lw(h i j b a r0):(@Kh R N h i j b a r0)=(I4 N r0 (Ce N r0 b N) h i j b a):=by rw[Kh,(Ak _).2]
def Wb:Hints:={H:=hK 7 (hS (hK 1 (hS (hP [0,6,7,29,30,31] hL) hL)) hL),nils:=[(4,1)],modes:=[(2,1),(0,0)]}
def Zy:Vc:=[E7 N]
def OM(F:KF R):=Mp Tryz.f245 Wb (Zy N) [] N F
def ON(b:Bool)(K:St->O R):=fun o m f l p q r d g=>K ⟨[(0,.imm o m 1 false b),(6,iv f),(7,Ahf 0 l),(29,.imm p q 1 false b),(30,iv r),(31,iv d)],hq [bQ 1 g]⟩
def EU(F:KF R)b:∀ n,ON b (A3 (OM N F (pz 1398084) []) n)=(Ce N (N' F) b n):=Mo fun n e=>(Dw (Fx N (N' F) b) e:_)
def TA:=Dm N 245 (Zy N) Wb (fun
|[.imm h i 1 j b,.int .i64 a],[]=>some fun _ k=>Kh N h i j b a (N' k)
| _,_=>none) fun _ _=>by split;intro R F;exact(Dw (I4 N (N' F) · _ _ _ _ _) ((lW ..).trans (EU ..)):_).trans (Lw ..).symm;trivial
end
end Gx
namespace Gx
open Go Go.Proofs
section
variable{R:Type}
def fit(k N:Nat):Prop:=100*k+1000<=N/\k<=1000000000
def fit.le{j k N:Nat}(h:fit k N)(C:j<=k):fit j N:=⟨by have:=h.1;omega,by have:=h.2;omega⟩
def ct(x y:O R):cond true x y=x:=rfl
def cf(x y:O R):cond false x y=y:=rfl
def jT(x y:Bool):cond true x y=x:=rfl
def xT(x y:Bool):cond false x y=y:=rfl
def lT(c:Nat):((decide (((c+1:Nat):Int)>(0:Int)))==true)=true:=by simp
def T6{j n:Nat}(h:j<n):decide ((j:Int)<(n:Int))=true:=by simp;omega
def Wc{j n:Nat}(h:n<=j):decide ((j:Int)<(n:Int))=false:=by simp;omega
def wS{j:Nat}(h:j<=1000000000000):wrap .i64 ((j:Int)+1)=((j+1:Nat):Int):=by rw[i64 (by omega)];omega
def wP{j:Nat}(h:j<=1000000000000):wrap .i64 (((j+1:Nat):Int) - 1)=(j:Int):=by rw[i64 (by omega)];omega
def wA{j k:Nat}(h:j+k<=1000000000000):wrap .i64 ((j:Int)+(k:Int))=((j+k:Nat):Int):=by rw[i64 (by omega)];omega
def CB{l:List Nat}{j:Nat}(h:j<l.length){f:Int->O R}:Am .u32 (drop ((Int.toNat (j:Int))*1) (Ad l)) f=f (l[j]:Nat):=by rw[zG,zY,jL h]
def OO{l:List Nat}{j:Nat}(h:j<l.length){f:Int->O R}:Am .u32 (drop (0+((Int.toNat (j:Int))*1)) (Ad l)) f=f (l[j]:Nat):=by rw[zU,CB h]
def tF{c a:Nat}(h:c<=a):((decide ((0:Int)<=(0:Int)))&&((decide ((0:Int)<=(c:Int)))&&((decide ((c:Int)<=(a:Int)))&&(decide ((a:Int)<=(a:Int))))))=true:=by simp;omega
def qL{n:Nat}(h:n<=1000000000000):((decide ((0:Int)<=(n:Int)))&&((decide ((n:Int)<=(n:Int)))&&((decide ((n:Int)<=(140737488355328:Int)))&&(decide (((n:Int)*((4:Nat):Int))<=(140737488355328:Int))))))=true:=by simp;omega
def hI{x:Nat}{m:List Nat}(h:x<m.length):((beq 1 1)&&((ble ((0+((Int.toNat (x:Int))*1))+1) (List.length (Ad m)))&&(!false)))=true:=by rw[Bk,zG];simp;omega
def IB{x v:Nat}{m:List Nat}:List.set (Ad m) (0+((Int.toNat (x:Int))*1)) (.int .u32 (v:Int))=Ad (m.set x v):=by rw[zG,zY,zU,KC]
def jU{l:List Nat}(h:Ag l):l.take (Al (val l)).length=Al (val l):=by
 obtain⟨k,C⟩:=A7 h
 rw[congrArg (take (Al (val l)).length) k,List.take_left]
def Ia{l:List Nat}(h:Ag l):take ((Al (val l)).length*1) (Ad l)=Ad (Al (val l)):=by rw[zY,Nd,jU h]
def Au{l:List Nat}{c:Nat}(h:c<l.length):val (l.take (c+1))=val (l.take c)+4294967296 ^ c*l[c]:=by rw[zu h,lP,zT,zZ (by omega)]
def fg{l:List Nat}{c:Nat}(k:Ag l)(h:c<l.length)(C:l[c]≠0):Al (val (l.take (c+1)))=l.take (c+1):=by
 apply uI (B7 k _)
 intro D
 rw[Abv]
 simp only[zT,zZ (show c+1<=l.length by omega),Ae9,Aaz]
 exact C
def WR{N:Nat}{l:List Nat}{K:Nat->O R}(D:Ag l)(hs:l.length<=1000000000000):∀(c k:Nat),c<=l.length->c<k ->
  Nf N K l.length (Ad l) k (c:Int)=K (Al (val (l.take c))).length
|0,k+1,hc,_=>by
  rw[Nf];unfold Xv
  rw[show decide (((0:Nat):Int)>0)=false by simp]
  rw[show((false:Bool)==true)=false by rfl,cf,tF (by omega),ct,zG];rfl
| c+1,k+1,hc,G=>by
  rw[Nf];unfold Xv
  rw[lT,ct,wP (by omega),Aa (by omega),ct,OO (by omega),jT,tF (by omega),ct,WR D hs c k (by omega) (by omega),zG]
  by_cases C:l[c]=0
  ·rw[Au (by omega),C];simp
  ·rw[fg D (by omega) C,zT,zZ hc]
   rw[show(((l[c]:Nat):Int)==0)=false by simp;exact C,cf]
def Wd{N:Nat}{l:List Nat}{n:Nat}{K:Nat->O R}(C:n=l.length)(D:Ag l)(k:fit l.length N):Rz N n (Ad l) K=K (Al (val l)).length:=by
 subst C
 have G:=k.1;have I:=k.2
 rw[HQ];unfold KE
 rw[WR D (by omega) l.length N (zE _) (by omega),zd]
def cF{N:Nat}{l:List Nat}{t o:Bool}{K:LA->Nat->O R}(D:Ag l)(hs:l.length<=1000000000000):∀(c k:Nat),c<=l.length->c<k ->
  Hf N K (Ad l) l.length t o k (c:Int)=K (Ad (Al (val (l.take c)))) (Al (val (l.take c))).length
|0,k+1,hc,_=>by
  rw[Hf];unfold N5
  rw[show decide (((0:Nat):Int)>0)=false by simp]
  rw[show((false:Bool)==true)=false by rfl,cf,tF (by omega),ct,zG];rfl
| c+1,k+1,hc,G=>by
  rw[Hf];unfold N5
  rw[lT,ct,wP (by omega),Aa (by omega),ct,CB (by omega),jT,tF (by omega),ct,cF D hs c k (by omega) (by omega),zG,zY,Nd]
  by_cases C:l[c]=0
  ·rw[Au (by omega),C];simp
  ·rw[fg D (by omega) C,zT,zZ hc]
   rw[show(((l[c]:Nat):Int)==0)=false by simp;exact C,cf]
def Bi{N:Nat}{l:List Nat}{n:Nat}{t o:Bool}{K:LA->Nat->O R}(C:n=l.length)(D:Ag l)(k:fit l.length N):B9 N (Ad l) n t o K=K (Ad (Al (val l))) (Al (val l)).length:=by
 subst C
 have G:=k.1;have I:=k.2
 rw[FR];unfold Xx
 rw[cF D (by omega) l.length N (zE _) (by omega),zd]
def oG{N:Nat}{K:LA->O R}(hN:1<=N):V8 N K=K []:=by
 rw[FV];unfold Xz
 cases N with
|zero=>omega
|succ N=>rw[Ls];rfl
end
end Gx
namespace Gx
open Go Go.RowKit
section
variable{P:Program}{W:World}{H:Type}{enc:TypeId×Value->H}{β:Bt}{h:Ap}
def sN{t I:TypeId}{α:Type}{e:α->LA}{n:Nat}{a:Option Addr}{len cap:Nat}{d:DataW H}{p:List MemPlace}(D:P.underlying t=some (.slice I))(hc:P.cellsOf t=1)(L:Opens P I e n)
  (T:DataW.Trod enc P W 0 (fun _=>true) true t (.slice a len cap) d p):∃ l:List α,l.length<=maxLen/\Rep (fun _ k=>k<W.heap.size) β h W (.imm (l.flatMap e) l.length n false false) (.slice a len cap):=by
 obtain⟨C,Y⟩:=T
 obtain⟨_,⟨l,hl⟩,G⟩:=(Tt D hc L).read enc W C _ _ _ Y
 refine⟨l,hl,?_⟩
 simp only[RepCs,Value.cells,and_true]at G
 obtain⟨u,D,G⟩:=G
 simp at D;subst D
 rw[Rep];exact G
def fh{k:IntKind}{n:Int}:Rep (fun _ k=>k<W.heap.size) β h W (.int k n) (.int k n):=by rw[Rep]
def qM:Reps (fun _ k=>k<W.heap.size) β h W [] []:=by rw[Reps]
def Rb{x:AV}{xs:LA}{v:Value}{vs:List Value}(C:Rep (fun _ k=>k<W.heap.size) β h W x v)(D:Reps (fun _ k=>k<W.heap.size) β h W xs vs):Reps (fun _ k=>k<W.heap.size) β h W (x::xs) (v::vs):=by rw[Reps];exact⟨v,vs,rfl,C,D⟩
def qN{t:TypeId}{α:Type}{e:α->LA}{n:Nat}{cs:Array Value}{d:DataW H}{p:List MemPlace}(D:Opens P t e n)
  (G:DataW.Trod enc P W 0 (fun _=>true) true t (.agg cs) d p):∃ a:α,Rep (fun _ k=>k<W.heap.size) β h W (.pagg (e a) false) (.agg cs):=by
 obtain⟨C,I⟩:=G
 obtain⟨L,a,T⟩:=D.read enc W C _ _ _ I
 refine⟨a,?_⟩
 rw[Rep]
 exact⟨cs.toList,rfl,by rw[D.len];exact L,T⟩
end
end Gx
namespace Gx
open Go Go.Proofs
set_option maxRecDepth 100000
noncomputable section
variable{R:Type}(N:Nat)
def X4(N:Nat)(r0:Bool->O R)(b:LA)(a:Nat)(c d:Bool)(k0:Int->O R)(f:Int):O R:=(cond (decide (f<(a:Int))) (cond (Ab f a) (D6 1 ((b.drop (f.toNat*3)).drop 1) fun i g=>cond ((decide ((g:Int)>4))==false) (cond (Ab f a) (D6 1 ((b.drop (f.toNat*3)).drop 2) fun j h=>cond (cond false true (decide ((h:Int)>4))) (r0 false) (k0 (wrap .i64 (f+1)))) none) (r0 false)) none) (r0 true))
def Nm(r0:Bool->O R)(b:LA)(a:Nat)(c d:Bool):Nat->Int->O R
|0=>fun _=>none
|n+1=>X4 N r0 b a c d (Nm r0 b a c d n)
def UD(N:Nat)(r0:Bool->O R)(q0:Int->O R)(b:LA)(a:Nat)(c d:Bool):O R:=(cond (decide ((a:Int)>30)) (r0 false) (q0 0))
def OP:=(Ak fun N b a c d r0=>UD (R:=R) N r0 (Nm N r0 b a c d N) b a c d).1
def WS(b a c d r0):(@OP R N b a c d r0)=(UD N r0 (Nm N r0 b a c d N) b a c d):=by rw[OP,(Ak _).2]
def cG:Hints:={H:=hK 2 (hS (hK 1 (hS (hP [0,3] hL) hL)) hL)}
def oH(F:KF R):=Mp Tryz.f22 cG [] [] N F
def oI(b:LA)(a:Nat)(c d:Bool)(K:St->O R):=fun f=>K ⟨[(0,.imm b a 3 c d),(3,iv f)],[]⟩
def fj(F:KF R)(b a c d):∀ n,oI b a c d (A3 (oH N F (pz 1348) []) n)=(Nm N (C1 F) b a c d n):=Mo fun n e=>(Dw (X4 N (C1 F) b a c d) e:_)
def qO:=Dm N 22 [] cG (fun
|[.imm b a 3 c d],[]=>some fun _ k=>OP N b a c d (C1 k)
| _,_=>none) fun _ _=>by split;intro R F;exact(Dw (UD N (C1 F) · _ _ _ _) ((lW ..).trans (fj ..)):_).trans (WS ..).symm;trivial
def IC(N:Nat)(b a:Int)(r0:Int->O R):O R:=(cond (a==0) none (cond (a==0) none (r0 (Int.tmod (wrap .i64 ((Int.tmod b a)+a)) a))))
def EF:=(Ak (@IC R)).1
def aD:@EF R=@IC R:=(Ak _).2
def Lx(N:Nat)(r0:Bool->O R)(b c:Int)(d:LA)(a:Nat)(f g:Bool)(k0:Int->Int->O R)(i h:Int):O R:=(cond (decide (h<i)) (cond (Ab h a) (Am .i64 (d.drop (h.toNat*1)) fun j=>cond ((decide (j<b))==false) (cond (cond false true (decide (j>c))) (r0 false) (k0 i (wrap .i64 (h+1)))) (r0 false)) none) (r0 true))
def Gd(r0:Bool->O R)(b c:Int)(d:LA)(a:Nat)(f g:Bool):Nat->Int->Int->O R
|0=>fun _ _=>none
|n+1=>Lx N r0 b c d a f g (Gd r0 b c d a f g n)
def T7(N:Nat)(r0:Bool->O R)(q0:Int->Int->O R)(b c:Int)(d:LA)(a:Nat)(f g:Bool):O R:=(q0 (a:Int) 0)
def Ck:=(Ak fun N b c d a f g r0=>T7 (R:=R) N r0 (Gd N r0 b c d a f g N) b c d a f g).1
def CC(b c d a f g r0):(@Ck R N b c d a f g r0)=(T7 N r0 (Gd N r0 b c d a f g N) b c d a f g):=by rw[Ck,(Ak _).2]
def F':Hints:={H:=hK 1 (hS (hK 1 (hS (hP [0,1,9,10,11] hL) hL)) hL)}
def aE(F:KF R):=Mp Tryz.f103 F' [] [] N F
def aF(b c:Int)(d:LA)(a:Nat)(f g:Bool)(K:St->O R):=fun i h=>K ⟨[(0,iv b),(1,iv c),(9,.imm d a 1 f g),(10,iv i),(11,iv h)],[]⟩
def OQ(F:KF R)(b c d a f g):∀ n,aF b c d a f g (A3 (aE N F (pz 324) []) n)=(Gd N (C1 F) b c d a f g n):=Mo fun n e=>(Dw (Lx N (C1 F) b c d a f g) e:_)
def X5:=Dm N 103 [] F' (fun
|[.int .i64 b,.int .i64 c,.imm d a 1 f g],[]=>some fun _ k=>Ck N b c d a f g (C1 k)
| _,_=>none) fun _ _=>by split;intro R F;exact(Dw (T7 N (C1 F) · _ _ _ _ _ _) ((lW ..).trans (OQ ..)):_).trans (CC ..).symm;trivial
end
end Gx
