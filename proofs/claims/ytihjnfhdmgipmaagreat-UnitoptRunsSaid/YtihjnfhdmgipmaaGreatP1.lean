/- A part of the proof; each theorem says what it holds. -/
import Derived.Laws.StructEq
import Derived.ChangeKeysEq
import Derived.MapKept
import Derived.Scope
import Derived.IntWalk
import Derived.ProofKit
import Derived.OpenShut
import Derived.ChangeOld
import Derived.Below
import Derived.Lib.LaidTab
import Derived.Test.YtihjnfhdmgipmaaGreatProg
import Derived.Test.YtihjnfhdmgipmaaGreatP0
set_option linter.unusedVariables false
set_option linter.defProp false
set_option linter.unusedSimpArgs false
open Nat (ble beq)
open List (take drop replicate)
open Go.IntKind (wrap)
namespace Gx
open Go
section
variable{R:Type}{r:R}{P:Program}{J:Bool->Nat->Prop}{β:Ch}{h:Ay}{w:World}
def PRd(n:Nat)(x:LA)(rd:Nat->Option Value):Prop:=∀ j q,j<n->x[j]?=some q ->
 (∀ k m,q=.int k m->rd j=some (.int k m))/\(∀ b,q=.bool b->rd j=some (.bool b))/\(∀ s,q=.str s->rd j=some (.string ⟨⟨s⟩⟩))
def PRd.drop{n m o:Nat}{x:LA}{xs:Array Value}{ox sz:Nat}(G:PRd sz x (fun j=>xs[ox+j]?))(Y:o+m<=sz)(hn:n=m):PRd n (x.drop o) (fun j=>(xs.extract ox (ox+sz))[o+j]?):=by
 subst hn
 intro j q hj hq
 rw[Ayw]at hq
 have C:=G (o+j) q (by omega) hq
 have e:∀ v,xs[ox+(o+j)]?=some v->(xs.extract ox (ox+sz))[o+j]?=some v:=by
  intro v D
  have I:=(Azt.1 D).1
  rw[Array.getElem?_extract,if_pos (by omega)];exact D
 exact⟨fun k m L=>e _ (C.1 k m L),fun b T=>e _ (C.2.1 b T),fun s hs=>e _ (C.2.2 s hs)⟩
def Z2{t:TypeId}{d:TypeDesc}{xs:Array Value}{ox:Nat}{v:Value}(k:P.underlying t=some d)(C:d.isRow=false)(D:xs[ox]?=some v):(part t xs ox).run P w=.ok v w:=by
 unfold part isAgg
 simp only[Sem.run_bind,run_underlying k,Result.andThen_ok]
 cases d<;>simp_all[TypeDesc.isRow]
def GQ{t:TypeId}{d:TypeDesc}{xs:Array Value}{ox s:Nat}(k:P.underlying t=some d)(C:d.isRow=true)(hs:Bk P t=some s):(part t xs ox).run P w=.ok (.agg (xs.extract ox (ox+s))) w:=by
 unfold part isAgg
 have:=Ck hs w
 simp only[Sem.run_bind,run_underlying k,Result.andThen_ok]
 cases d<;>simp_all[TypeDesc.isRow]
def Adh(P:Program)(w:World)(D:Nat)(step:TypeId->LA->LA->(Bool->O R)->O R):Prop :=
 ∀(r:R)(t:TypeId)(s:Nat)(x y:LA)(k:Bool->O R)(xs ys:Array Value)(ox oy:Nat),Bk P t=some s->0<s->step t x y k=some r->PRd s x (fun j=>xs[ox+j]?)->PRd s y (fun j=>ys[oy+j]?) ->
  ∃ b a a',k b=some r/\(part t xs ox).run P w=.ok a w/\(part t ys oy).run P w=.ok a' w/\(Op.equalIn D t a a').run P w=.ok b w
def NV{D:Nat}{step:TypeId->LA->LA->(Bool->O R)->O R}(hs:Adh P w D step){x y:LA}{xs ys:Array Value}{ox oy sz:Nat}(T:PRd sz x (fun j=>xs[ox+j]?))(Y:PRd sz y (fun j=>ys[oy+j]?)):
  ∀(fs:List Field){k:Bool->O R},fs.all (wU P sz)=true->GI step x y (fs.map fun f=>(f.offset,f.type)) k=some r ->
  ∃ b,k b=some r/\(Op.eqFields D (xs.extract ox (ox+sz)) (ys.extract oy (oy+sz)) fs).run P w=.ok b w
|[],k,_,hh=>⟨true,by simpa[GI]using hh,by simp[Op.eqFields]⟩
| f::fs,k,L,hh=>by
  rw[Az3,Axr]at L
  obtain⟨I,L⟩:=L
  unfold wU at I
  cases C:Bk P f.type with
  |none=>rw[C]at I;simp at I
  |some s =>
   rw[C]at I
   simp only[Axr,Ays]at I
   obtain⟨h1,h2,h3⟩:=I
   have G : f.name≠"_" := by simpa using h3
   rw[Ayc,GI]at hh
   obtain⟨b,a,a',g1,g2,g3,g4⟩:=hs r f.type s _ _ _ (xs.extract ox (ox+sz)) (ys.extract oy (oy+sz)) f.offset f.offset C (by omega) hh (T.drop h2 rfl) (Y.drop h2 rfl)
   obtain⟨c,e1,e2⟩:=NV hs T Y fs L g1
   refine⟨b&&c,e1,?_⟩
   rw[Op.eqFields,if_pos G]
   simp only[Sem.run_bind,g2,g3,g4,Result.andThen_ok]
   cases b with
   |false=>simp
   |true=>simpa using e2
def QQ{D:Nat}{step:TypeId->LA->LA->(Bool->O R)->O R}(hs:Adh P w D step){x y:LA}{xs ys:Array Value}{ox oy sz:Nat}{e:TypeId}{s:Nat}(C:Bk P e=some s)(G:0<s)(I:PRd sz x (fun j=>xs[ox+j]?))(L:PRd sz y (fun j=>ys[oy+j]?)):
  ∀(is:List Nat){k:Bool->O R},(∀ i∈is,i*s+s<=sz)->GI step x y (is.map fun i=>(i*s,e)) k=some r ->
  ∃ b,k b=some r/\(Op.eqItems D e s (xs.extract ox (ox+sz)) (ys.extract oy (oy+sz)) is).run P w=.ok b w
|[],k,_,hh=>⟨true,by simpa[GI]using hh,by simp[Op.eqItems]⟩
|i::is,k,T,hh=>by
  have Y:=T i (by simp)
  rw[Ayc,GI]at hh
  obtain⟨b,a,a',g1,g2,g3,g4⟩:=hs r e s _ _ _ (xs.extract ox (ox+sz)) (ys.extract oy (oy+sz)) (i*s) (i*s) C G hh (I.drop Y rfl) (L.drop Y rfl)
  obtain⟨c,e1,e2⟩:=QQ hs C G I L is (fun j hj=>T j (by simp[hj])) g1
  refine⟨b&&c,e1,?_⟩
  rw[Op.eqItems]
  simp only[Sem.run_bind,g2,g3,g4,Result.andThen_ok]
  cases b with
  |false=>simp
  |true=>simpa using e2
def YS:∀(d D:Nat),d<=D->Adh P w D (lZ (R:=R) P d)
|0,D,_=>fun r t s x y k xs ys ox oy hs G hh=>by simp[lZ]at hh
| d+1,D,hD=>fun r t s x y k xs ys ox oy hs G hh hx hy=>by
  obtain⟨D,rfl⟩:∃ D',D=D'+1:=⟨D - 1,by omega⟩
  rw[lZ]at hh
  split at hh
  ·rename_i kd C
   obtain⟨u,L,hh⟩:=ub hh
   obtain⟨a,Y,hh⟩:=ub hh
   obtain⟨v,T,hh⟩:=ub hh
   obtain⟨b,hb,hh⟩:=ub hh
   have ea:u=.int kd a:=by
    unfold WS at Y;split at Y
    ·obtain⟨hk,ha'⟩:=uc Y;simp[Kc]at hk ha';subst hk ha';rfl
    ·simp at Y
   have eb:v=.int kd b:=by
    unfold WS at hb;split at hb
    ·obtain⟨hk,hb'⟩:=uc hb;simp[Kc]at hk hb';subst hk hb';rfl
    ·simp at hb
   have px:=(hx 0 u G (by rw[<-Ayp];exact L)).1 kd a ea
   have py:=(hy 0 v G (by rw[<-Ayp];exact T)).1 kd b eb
   exact⟨_,_,_,hh,Z2 C rfl (by simpa using px),Z2 C rfl (by simpa using py),run_equalIn_int w D t kd kd a b C⟩
  ·rename_i C
   obtain⟨u,L,hh⟩:=ub hh
   obtain⟨a,Y,hh⟩:=ub hh
   obtain⟨v,T,hh⟩:=ub hh
   obtain⟨b,hb,hh⟩:=ub hh
   have ea:u=.bool a:=by unfold asBool at Y;split at Y<;>simp_all
   have eb:v=.bool b:=by unfold asBool at hb;split at hb<;>simp_all
   have px:=(hx 0 u G (by rw[<-Ayp];exact L)).2.1 a ea
   have py:=(hy 0 v G (by rw[<-Ayp];exact T)).2.1 b eb
   exact⟨_,_,_,hh,Z2 C rfl (by simpa using px),Z2 C rfl (by simpa using py),run_equalIn_bool' w D t a b C⟩
  ·rename_i C
   obtain⟨u,L,hh⟩:=ub hh
   obtain⟨a,Y,hh⟩:=ub hh
   obtain⟨v,T,hh⟩:=ub hh
   obtain⟨b,hb,hh⟩:=ub hh
   have ea:u=.str a:=by unfold jV at Y;split at Y<;>simp_all
   have eb:v=.str b:=by unfold jV at hb;split at hb<;>simp_all
   have px:=(hx 0 u G (by rw[<-Ayp];exact L)).2.2 a ea
   have py:=(hy 0 v G (by rw[<-Ayp];exact T)).2.2 b eb
   refine⟨_,_,_,hh,Z2 C rfl (by simpa using px),Z2 C rfl (by simpa using py),?_⟩
   have:=run_equalIn_string w D t ⟨⟨a⟩⟩ ⟨⟨b⟩⟩ C
   rw[this]
   simp[ByteArray.toList_eq]
  ·rename_i fs C
   obtain⟨sz,I,hh⟩:=ub hh
   obtain⟨hc,hh2⟩:=Ac2 hh
   simp only[Bool.or_eq_false_iff,Bool.not_eq_false']at hc
   rw[hs]at I;simp at I;subst I
   obtain⟨b,h1,h2⟩:=NV (YS d D (by omega)) hx hy fs.toList hc.2 hh2
   refine⟨b,_,_,h1,GQ C rfl hs,GQ C rfl hs,?_⟩
   have hfo:P.fieldsOf t=fs:=by simp[Program.fieldsOf,C]
   rw[run_equalIn_struct w D t _ _ (by rw[hfo];exact C) hc.1,hfo]
   exact h2
  ·rename_i n e C
   obtain⟨s',hse,hh⟩:=ub hh
   obtain⟨sz,I,hh⟩:=ub hh
   obtain⟨hc,hh2⟩:=uc hh
   simp only[Axr,Ays]at hc
   rw[hs]at I;simp at I;subst I
   obtain⟨b,h1,h2⟩:=QQ (YS d D (by omega)) hse (by omega) hx hy (List.range n) (fun i hi=>by
    have:=List.mem_range.1 hi
    have h3:(i+1)*s'<=n*s':=Axs _ this
    rw[A4t] at h3;omega) hh2
   refine⟨b,_,_,h1,GQ C rfl hs,GQ C rfl hs,?_⟩
   cases hi:P.info? e with
   |none=>simp[Bk,hi]at hse
   |some i =>
    have hcell:P.cellsOf e=s':=by simp[Bk,hi]at hse;simp[Program.cellsOf,hi,hse]
    rw[run_equalIn_array w D _ _ C hi,hcell]
    exact h2
  ·simp at hh
def z_{c:LA}{org:Bool}{v:Value}{a:LA}{x:AV}(G:wV x=some a)(hr:Rep J β h w x v):∃ cs:List Value,v=.agg ⟨cs⟩/\cs.length=a.length/\∀ n,PRd n a (fun j=>(⟨cs⟩:Array Value)[0+j]?):=by
 unfold wV at G
 split at G
 ·simp at G;subst G
  rw[Rep]at hr
  obtain⟨cs,T,I,h3⟩:=hr
  refine⟨cs,T,I,fun n j q _ hq=>?_⟩
  rw[By]at h3
  obtain⟨u,L,C⟩:=h3 j q hq
  simp only[Ax0]at L ⊢
  refine⟨fun k m Y=>?_,fun b hb=>?_,fun s hs=>?_⟩
  ·subst Y;rw[RepC]at C;subst C;simpa using L
  ·subst hb;rw[RepC]at C;subst C;simpa using L
  ·subst hs;rw[RepC]at C;subst C;simpa using L
 ·simp at G;subst G
  rw[Rep]at hr
  obtain⟨cs,T,I⟩:=hr
  rw[Cb]at I
  refine⟨cs,T,I.1,fun n j q _ hq=>?_⟩
  have D:j<cs.length:=by rw[I.1];exact(Axw.1 hq).1
  have C:=I.2 j q cs[j] hq (Axn D)
  simp only[Ax0]
  refine⟨fun k m Y=>?_,fun b hb=>?_,fun s hs=>?_⟩
  ·subst Y;rw[Rep]at C;simp[D,C]
  ·subst hb;rw[Rep]at C;simp[D,C]
  ·subst hs;rw[Rep]at C;simp[D,C]
 ·simp at G
def za{op:BinOp}{t:TypeId}{x y:AV}{k:AV->O R}{vx vy:Value}(hh:uG P t op x y k=some r)(T:Rep J β h w x vx)(Y:Rep J β h w y vy)(ox oy:Operand):
  ∃ v vc,k v=some r/\(do eqGuard op t ox oy vx vy;binOp op t vx vy:Sem Value).run P w=.ok vc w/\Rep J β h w v vc:=by
 unfold uG at hh
 split at hh
 ·rename_i a b ha hb
  obtain⟨s,hs,hh⟩:=ub hh
  obtain⟨hc,hh⟩:=uc hh
  simp only[Axr,Ays,A25]at hc
  obtain⟨h1,h2,h3,D,h4⟩:=hc
  have h2:=Axy h2
  have h3:=Axy h3
  obtain⟨cs,rfl,hl,px⟩:=z_ (c:=[]) (org:=false) ha T
  obtain⟨C,rfl,hl',py⟩:=z_ (c:=[]) (org:=false) hb Y
  have hg:=run_eqGuard_agg w op t ox oy ⟨cs⟩ ⟨C⟩ h4
  have whole:∀(l:List Value),l.length=s->(⟨l⟩:Array Value).extract 0 (0+s)=⟨l⟩:=by
   intro l hl;subst hl;simp
  have key:∀{kk:Bool->O R},lZ P 8 t a b kk=some r->∃ c,kk c=some r/\(Op.equal t (.agg ⟨cs⟩) (.agg ⟨C⟩)).run P w=.ok c w:=by
   intro kk hk
   obtain⟨c,u,u',e1,G,e3,e4⟩:=YS 8 10000 (by omega) r t s a b kk ⟨cs⟩ ⟨C⟩ 0 0 hs (by omega) hk (px s) (py s)
   refine⟨c,e1,?_⟩
   have L:∃ d,P.underlying t=some d/\d.isRow=true:=by
    unfold Akp at D
    split at D
    ·rename_i fs I;exact⟨_,I,rfl⟩
    ·rename_i n e I;exact⟨_,I,rfl⟩
    ·simp at D
   obtain⟨d,I,hd⟩:=L
   rw[GQ I hd hs,whole cs (by omega)]at G
   rw[GQ I hd hs,whole C (by omega)]at e3
   simp only[Result.ok.injEq,and_true]at G e3
   subst G e3
   exact e4
  split at hh
  ·obtain⟨c,e1,G⟩:=key hh
   refine⟨_,.bool c,e1,?_,by rw[Rep]⟩
   simp only[Sem.run_bind,hg,Result.andThen_ok,binOp,G,Sem.run_pure]
  ·obtain⟨c,e1,G⟩:=key hh
   refine⟨_,.bool (!c),e1,?_,by rw[Rep]⟩
   simp only[Sem.run_bind,hg,Result.andThen_ok,binOp,G,Sem.run_pure]
  ·simp at hh
 ·exact Ac9 hh T Y ox oy
def zc{t:TypeId}{x y:AV}{b:Bool}{vx vy:Value}{g:A6}(S:SimH J β h w)(hl:Looks g h)(C:Aku g x y=some b)(T:Ac7 P t=true)(D:Rep J β h w x vx)(G:Rep J β h w y vy):
  ∃ p q,vx=.pointer p/\vy=.pointer q/\(Op.equal t (.pointer p) (.pointer q)).run P w=.ok b w:=by
 unfold Ac7 at T
 split at T
 ·rename_i e Y
  split at T
  ·rename_i n hn
   have hn0:n≠0:=fun e=>by subst e;simp at T
   have Y:=run_underlying (w:=w) Y
   have hs:(Go.sizeOf e).run P w=.ok n w:=Ck hn w
   have nn:∀ q:Option Addr,(Op.equal t (.pointer none) (.pointer q)).run P w=.ok q.isNone w:=fun q=>by
    unfold Op.equal Op.maxDepth Op.equalIn;simp[Y]
   have nn':∀ a:Addr,(Op.equal t (.pointer (some a)) (.pointer none)).run P w=.ok false w:=fun q=>by
    unfold Op.equal Op.maxDepth Op.equalIn;simp[Y]
   unfold Aku at C
   split at C
   ·simp only[Rep]at D G;subst D G;simp at C;subst C;exact⟨_,_,rfl,rfl,nn none⟩
   ·simp only[Rep]at D G;obtain⟨_,k,o,_,rfl,_⟩:=G;subst D;simp at C;subst C;exact⟨_,_,rfl,rfl,nn (some _)⟩
   ·simp only[Rep]at D G;obtain⟨_,k,o,_,rfl,_⟩:=D;subst G;simp at C;subst C;exact⟨_,_,rfl,rfl,nn' _⟩
   ·simp only[Rep]at D G;rw[RepC]at G;obtain⟨a,rfl,_⟩:=G;subst D;simp at C;subst C;exact⟨_,_,rfl,rfl,nn (some _)⟩
   ·simp only[Rep]at D G;rw[RepC]at D;obtain⟨a,rfl,_⟩:=D;subst G;simp at C;subst C;exact⟨_,_,rfl,rfl,nn' _⟩
   ·rename_i b1 o1 b2 o2
    obtain⟨z,hz,C⟩:=ub C
    obtain⟨hb,C⟩:=uc C
    have hb:=Axy hb
    subst hb
    obtain⟨hz1,I⟩:=Dr hl hz
    rw[Rep]at D G
    obtain⟨x1,k1,p1,⟨g1,_⟩,rfl,h1⟩:=D
    obtain⟨x2,k2,p2,⟨g2,_⟩,rfl,L⟩:=G
    rw[hz1]at g1 g2;simp at g1 g2;subst g1 g2
    rcases h1 with h1|h1
    ·rw[h1]at I;cases I
    ·rcases L with L|L
     ·rw[L]at I;cases I
     ·rw[h1]at L;simp at L;obtain⟨rfl,rfl⟩:=L
      refine⟨_,_,rfl,rfl,?_⟩
      simp at C
      unfold Op.equal Op.maxDepth Op.equalIn
      simp[Y,hs,hn0,sameAddr]
      by_cases e:o1=o2
      ·subst e;simp at C;simp[C]
      ·rw[PL e]at C;subst C;simp;exact e
   ·cases C
  ·cases T
 ·cases T
def zf{g:A6}{op:BinOp}{t:TypeId}{x y:AV}{k:AV->O R}{vx vy:Value}(S:SimH J β h w)(I:Looks g h)(hh:uP P g t op x y k=some r)(C:Rep J β h w x vx)(D:Rep J β h w y vy)(ox oy:Operand):
  ∃ v vc,k v=some r/\(do eqGuard op t ox oy vx vy;binOp op t vx vy:Sem Value).run P w=.ok vc w/\Rep J β h w v vc:=by
 unfold uP at hh
 split at hh
 ·rename_i b L
  obtain⟨T,hh⟩:=uc hh
  obtain⟨p,q,rfl,rfl,G⟩:=zc S I L T C D
  split at hh
  ·refine⟨_,.bool b,hh,?_,by rw[Rep]⟩
   simp[eqGuard,binOp,G]
  ·refine⟨_,.bool (!b),hh,?_,by rw[Rep]⟩
   simp[eqGuard,binOp,G]
  ·cases hh
 ·exact za hh C D ox oy
end
end Gx
namespace Gx
open Go Go.MapKept
section
variable{R:Type}{r:R}{P:Program}{J:Bool->Nat->Prop}{β:Ch}{h:Ay}{w:World}{g:A6}
def gV:∀(l:List Int)(n:Int),nr (l.map fun m=>.int .i64 m) n=true↔n∈l
|[],n=>by simp[nr]
|m::r,n=>by
  rw[Ayc,nr]
  by_cases e:n=m
  ·simp[e]
  ·simp[e,gV r n]
def zg{c:LA}{es:Array MapEntry}{l:List Int}(C:es.toList.map (fun e=>(e.key,e.val))=l.map (fun n=>((.int .i64 n:Value),(.bool true:Value)))){x:MapEntry}(D:x∈es.toList):∃ n,n∈l/\x.key=.int .i64 n/\x.val=.bool true:=by
 have:=A39 (f:=fun e:MapEntry=>(e.key,e.val)) D
 rw[C]at this
 obtain⟨n,hn,k⟩:=Ayy.1 this
 simp at k
 exact⟨n,hn,k.1.symm,k.2.symm⟩
def Ak4{es:Array MapEntry}{l:List Int}(C:es.toList.map (fun e=>(e.key,e.val))=l.map (fun n=>((.int .i64 n:Value),(.bool true:Value)))){n:Int}(hn:n∈l):∃ x∈es.toList,x.key=.int .i64 n:=by
 have:=A39 (f:=fun n:Int=>((.int .i64 n:Value),(.bool true:Value))) hn
 rw[<-C]at this
 obtain⟨x,D,k⟩:=Ayy.1 this
 simp at k
 exact⟨x,D,k.1⟩
def zh{c:LA}{es:Array MapEntry}(hm:Aqu c es)(n:Int):
  (nr c n=false/\Instr.findNow (.int .i64) (.int .i64 n) es.toList 0=some none) \/
  (nr c n=true/\∃ j e,Instr.findNow (.int .i64) (.int .i64 n) es.toList 0=some (some (j,.bool true))/\es[j]?=some e/\e.key=.int .i64 n/\e.val=.bool true):=by
 obtain⟨l,rfl,T⟩:=hm
 have Y:∀ x∈es.toList,IsKey (.int .i64) x.key:=fun x hx=>by
  obtain⟨m,_,D,_⟩:=zg (c:=[]) T hx
  rw[D];simp[IsKey]
 rcases findNow_spec (d:=.int .i64) (k:=.int .i64 n) (by simp[IsKey]) es.toList 0 Y with⟨D,L⟩|⟨j,e,D,L,h3⟩
 ·left
  refine⟨?_,D⟩
  cases hb:nr (l.map fun m=>.int .i64 m) n with
  |false=>rfl
  |true =>
   obtain⟨x,hx,hk⟩:=Ak4 T ((gV l n).1 hb)
   exact absurd hk (L x hx)
 ·right
  have G:e∈es.toList:=A32 L
  obtain⟨m,hm1,C,I⟩:=zg (c:=[]) T G
  rw[h3]at C;simp at C;subst C
  refine⟨(gV l n).2 hm1,j,e,?_,by simpa using L,h3,I⟩
  rw[D,I,Ax0]
def oI{t:TypeId}(hs:wc P t=true):∃ kt et,P.underlying t=some (.map kt et)/\P.underlying kt=some (.int .i64)/\∀ w,(zeroValue et).run P w=.ok (.bool false) w:=by
 unfold wc at hs
 split at hs
 ·rename_i kt et L
  simp only[Axr]at hs
  obtain⟨D,G⟩:=hs
  refine⟨kt,et,L,?_,fun w=>?_⟩
  ·split at D
   ·assumption
   ·cases D
  ·split at G
   ·rename_i k
    unfold bM at k
    cases hi:P.info? et with
    |none=>rw[hi]at k;simp at k
    | some i =>
     rw[hi]at k
     cases C:i.zero with
     |none=>simp[C]at k
     | some z =>
      simp[C]at k
      have:z=.bool false:=by
       have I:=JW (J:=fun _ _=>False) (β:=fun _=>none) (h:=[]) (w:=w) z
       rw[k,Rep]at I;exact I
      subst this
      simp[zeroValue,typeInfo,hi,C]
   ·cases G
 ·cases hs
def Ak5{b:Nat}{x:Blk}{v:Value}(S:SimH J β h w)(G:Am h b=some x)(I:x.dead=false)(hr:Rep J β h w (.omap b) v):
  ∃ k ob,x.mp=true/\β b=some (k,0)/\v=Asr x.sz k/\w.heap[k]?=some ob/\ObjIs x ob/\x.sealed=false/\x.pure=true:=by
 rw[Rep]at hr
 obtain⟨y,k,⟨C,L⟩,hr⟩:=hr
 rw[G]at C;simp at C;subst C
 rcases hr with hr|⟨T,Y⟩
 ·simp[I]at hr
 ·obtain⟨h1,h2,k',ob,D,h4,h5,_⟩:=S.mblk b x G I L
  rw[T]at D;simp at D;subst D
  exact⟨k,ob,L,T,Y,h4,h5,h2,h1⟩
def Agc{b:Nat}{x:Blk}{v:Value}(S:SimH J β h w)(G:Am h b=some x)(I:x.dead=false)(L:x.sz=0)(hr:Rep J β h w (.omap b) v):
  ∃ k es clk,x.mp=true/\β b=some (k,0)/\v=.map (some k)/\w.heap[k]?=some (.map es clk)/\Aqu x.cells es/\x.sealed=false/\x.pure=true:=by
 obtain⟨k,ob,T,Y,D,h4,C,h6,h7⟩:=Ak5 S G I hr
 rw[L]at D
 rcases C with⟨_,es,clk,rfl,C⟩|⟨C,_⟩
 ·exact⟨k,es,clk,T,Y,D,h4,C,h6,h7⟩
 ·omega
def An2{b:Nat}{x:Blk}{v:Value}(S:SimH J β h w)(G:Am h b=some x)(I:x.dead=false)(L:x.sz=1)(hr:Rep J β h w (.omap b) v):
  ∃ k s pos,x.mp=true/\β b=some (k,0)/\v=.pointer (some ⟨k,0,none⟩)/\w.heap[k]?=some (.stringIter ⟨⟨s⟩⟩ pos)/\x.cells=[.str s,.int .i64 (pos:Int)]/\x.sealed=false/\x.pure=true:=by
 obtain⟨k,ob,T,Y,D,h4,C,h6,h7⟩:=Ak5 S G I hr
 rw[L]at D
 rcases C with⟨C,_⟩|⟨_,s,pos,rfl,C⟩
 ·omega
 ·exact⟨k,s,pos,T,Y,D,h4,C,h6,h7⟩
def NW{k pos:Nat}{s:ByteArray}(C:w.heap[k]?=some (.stringIter s pos)):(getObj k).run P w=.ok (.stringIter s pos) w:=by simp[getObj,Sem.run,C]
def l7{k pos:Nat}{s:ByteArray}(ob:Obj)(C:w.heap[k]?=some (.stringIter s pos)):(setObj k ob).run P w=.ok () {w with heap:=w.heap.setIfInBounds k ob}:=by simp[setObj,Sem.run,C]
def xE{d:Nat}{t:TypeId}{x:AV}{vx:Value}{k:AV->D7->O R}(S:SimH J β h w)(hh:gM P d t x k=some r)(C:Rep J β h w x vx):
  ∃ val ups,k val ups=some r/\(UpsFree d h ups->∃ vc w',(Instr.range t vx).run P w=.ok vc w'/\OpDone J β h w ups val vc w'):=by
 unfold gM at hh
 split at hh
 ·rename_i s D
  rw[Rep]at C;subst C
  refine⟨_,_,hh,fun G=>⟨.pointer (some ⟨w.heap.size,0,none⟩),w.alloc (.stringIter ⟨⟨s⟩⟩ 0),?_,?_⟩⟩
  ·simp only[Instr.range,Sem.run_bind,run_underlying D,Result.andThen_ok,Sem.run_pure];rfl
  have A:=Step.newObj (x:={dead:=false,sealed:=false,pure:=true,taint:=false,sz:=1,cells:=[.str s,.int .i64 0],mp:=true}) (ob:=.stringIter ⟨⟨s⟩⟩ 0) S (G.nid (by simp[A4])) rfl rfl rfl (.inr ⟨rfl,s,0,rfl,rfl⟩) rfl
  refine⟨_,_,A,?_⟩
  rw[Rep]
  exact⟨{dead:=false,sealed:=false,pure:=true,taint:=false,sz:=1,cells:=[.str s,.int .i64 0],mp:=true},w.heap.size,⟨by simp[An,Ah],rfl⟩,.inr ⟨by simp,rfl⟩⟩
 ·simp at hh
def zi{d:Nat}{t:TypeId}{it:AV}{b:Bool}{vi:Value}{k:AV->D7->O R}(S:SimH J β h w)(hl:Looks g h)(hh:uO g it b k=some r)(hi:Rep J β h w it vi):
  ∃ val ups,k val ups=some r/\(UpsFree d h ups->∃ vc w',(Instr.next vi b t).run P w=.ok vc w'/\OpDone J β h w ups val vc w'):=by
 unfold uO at hh
 split at hh
 ·rename_i b0
  obtain⟨x,hx,h1⟩:=ub hh
  obtain⟨hc,G⟩:=uc h1
  simp only[Axr]at hc
  obtain⟨I,T⟩:=hc
  have T:=Axy T
  obtain⟨hb,Y⟩:=Dr hl hx
  obtain⟨kk,s,pos,_,hβ,rfl,L,hcl,hsl,hpu⟩:=An2 S hb Y T hi
  rw[hcl]at G
  simp only at G
  have hlt:=Yy L
  cases C:decide ((pos:Int)<(s.length:Int))with
  | true =>
   rw[C]at G
   have C:pos<s.length:=by have:=of_decide_eq_true C;omega
   have D:pos<(⟨⟨s⟩⟩:ByteArray).size:=C
   refine⟨_,_,G,fun _=>⟨.tuple #[.bool true,goInt pos,.int .i32 ((Ahr s pos).1:Nat)],{w with heap:=w.heap.setIfInBounds kk (.stringIter ⟨⟨s⟩⟩ (pos+(Ahr s pos).2))},?_,J,β,?_,?_⟩⟩
   ·simp[Instr.next,NW L,D,l7 _ L,Ahr]
   ·show Step J β h w J β (Fp h b0 _) _
    refine Step.setObj (ob:=.stringIter ⟨⟨s⟩⟩ pos) S hb Y I hβ L (by simp[hlt]) (fun j hj=>by simp[A2e,Ne.symm hj]) (by simp) rfl rfl rfl (.inr ⟨T,s,pos+(Ahr s pos).2,rfl,by simp⟩) Y hsl hpu rfl I
   ·rw[Rep]
    refine⟨_,rfl,?_⟩
    simp[Reps,Rep,goInt]
  | false =>
   rw[C]at G
   have C:¬ pos<s.length:=by have:=of_decide_eq_false C;omega
   have D:¬ pos<(⟨⟨s⟩⟩:ByteArray).size:=C
   refine⟨_,_,G,fun _=>⟨.tuple #[.bool false],w,?_,J,β,Step.refl S,?_⟩⟩
   ·simp[Instr.next,NW L,D]
   ·rw[Rep]
    refine⟨_,rfl,?_⟩
    simp[Reps,Rep]
 ·simp at hh
def oJ{d:Nat}{t:TypeId}{k:AV->D7->O R}(S:SimH J β h w)(hh:AF d none k=some r):
  ∃ val ups,k val ups=some r/\(UpsFree d h ups->∃ vc w',(Instr.makeMap t none).run P w=.ok vc w'/\OpDone J β h w ups val vc w'):=by
 unfold AF at hh
 refine⟨_,_,hh,fun C=>⟨.map (some w.heap.size),w.alloc (.map #[] 0),rfl,?_⟩⟩
 have A:=Step.newObj (x:={dead:=false,sealed:=false,pure:=true,taint:=false,sz:=0,cells:=[],mp:=true}) (ob:=.map #[] 0) S (C.nid (by simp[A4])) rfl rfl rfl (.inl ⟨rfl,#[],0,rfl,[],rfl,by simp⟩) rfl
 refine⟨_,_,A,?_⟩
 rw[Rep]
 exact⟨{dead:=false,sealed:=false,pure:=true,taint:=false,sz:=0,cells:=[],mp:=true},w.heap.size,⟨by simp[An,Ah],rfl⟩,.inr ⟨by simp,rfl⟩⟩
def zj{t:TypeId}{m key:AV}{c:Bool}{vm vk:Value}{k:AV->O R}(S:SimH J β h w)(Y:Looks g h)(hh:uM P g t m key c k=some r)(hm:Rep J β h w m vm)(D:Rep J β h w key vk):
  ∃ v vc,k v=some r/\(Instr.lookup t vm vk c).run P w=.ok vc w/\Rep J β h w v vc:=by
 unfold uM at hh
 split at hh
 ·rename_i b n
  obtain⟨hs,h1⟩:=uc hh
  obtain⟨x,hx,h2⟩:=ub h1
  obtain⟨C,h3⟩:=uc h2
  simp only[Axr]at C
  obtain⟨C,I⟩:=C
  have I:=Axy I
  obtain⟨hb,hd⟩:=Dr Y hx
  rw[Rep]at D;subst D
  obtain⟨kk,es,clk,_,hβ,rfl,D,hr,_,_⟩:=Agc S hb hd I hm
  obtain⟨kt,et,u1,u2,u3⟩:=oI hs
  refine⟨_,.bool (nr x.cells n),h3,?_,by rw[Rep]⟩
  have G:IsKey (.int .i64) (.int .i64 n):=by simp[IsKey]
  rcases zh hr n with⟨L,T⟩|⟨L,j,e,T,_,_,_⟩
  ·rw[L]
   simp[Instr.lookup,run_underlying u1,run_getObj_map D,run_checkKey u2 G,run_findKey u2 T,u3,Result.andThen]
  ·rw[L]
   simp[Instr.lookup,run_underlying u1,run_getObj_map D,run_checkKey u2 G,run_findKey u2 T,Result.andThen]
 ·simp at hh
def xF{t:TypeId}{m key val:AV}{vm vk vv:Value}{k:AV->D7->O R}(S:SimH J β h w)(hl:Looks g h)(hh:gL P g t m key val k=some r)(hm:Rep J β h w m vm)(D:Rep J β h w key vk)(hv:Rep J β h w val vv):
  ∃ ups,k .undef ups=some r/\∃ J' β' w',(Instr.mapUpdate t vm vk vv).run P w=.ok () w'/\Step J β h w J' β' (An ups h) w':=by
 unfold gL at hh
 split at hh
 ·rename_i b n
  obtain⟨hs,h1⟩:=uc hh
  obtain⟨x,hx,h2⟩:=ub h1
  obtain⟨C,h3⟩:=uc h2
  simp only[Axr]at C
  obtain⟨C,T⟩:=C
  have T:=Axy T
  obtain⟨hb,Y⟩:=Dr hl hx
  simp only[Rep]at D hv;subst D hv
  obtain⟨kk,es,clk,_,hβ,rfl,D,hr,hsl,hpu⟩:=Agc S hb Y T hm
  obtain⟨kt,et,u1,u2,u3⟩:=oI hs
  have G:IsKey (.int .i64) (.int .i64 n):=by simp[IsKey]
  have hlt:=Yy D
  refine⟨_,h3,J,β,?_⟩
  rcases zh hr n with⟨g1,g2⟩|⟨g1,j,e,g2,g3,g4,g5⟩
  ·refine⟨{w with heap:=w.heap.setIfInBounds kk (.map (es.push {key:=.int .i64 n,val:=.bool true,born:=clk}) (clk+1))},?_,?_⟩
   ·simp[Instr.mapUpdate,run_underlying u1,run_getObj_map D,run_checkKey u2 G,run_findKey u2 g2,run_setObj_map _ D,Result.andThen]
   ·refine Step.setObj S hb Y C hβ D (heap_set D).1 (fun j hj=>(heap_set D).2 j hj) (by simp) rfl rfl rfl (.inl ⟨T,_,_,rfl,?_⟩) Y hsl hpu rfl C
    obtain⟨l,I,L⟩:=hr
    refine⟨l++[n],?_,?_⟩
    ·show Akt x.cells n=_
     unfold Akt;rw[g1,I];simp
    ·simp[L]
  ·refine⟨{w with heap:=w.heap.setIfInBounds kk (.map (es.modify j fun e=>{e with key:=.int .i64 n,val:=.bool true}) clk)},?_,?_⟩
   ·simp[Instr.mapUpdate,run_underlying u1,run_getObj_map D,run_checkKey u2 G,run_findKey u2 g2,g3,g4,run_keyThatStays G,run_setObj_map _ D,Result.andThen]
   ·refine Step.setObj S hb Y C hβ D (heap_set D).1 (fun j hj=>(heap_set D).2 j hj) (by simp) rfl rfl rfl (.inl ⟨T,_,_,rfl,?_⟩) Y hsl hpu rfl C
    obtain⟨l,I,L⟩:=hr
    refine⟨l,?_,?_⟩
    ·show Akt x.cells n=_
     unfold Akt;rw[g1,I];rfl
    ·have:es.modify j (fun e=>{e with key:=.int .i64 n,val:=.bool true})=es:=by
      apply Array.ext_getElem?
      intro i
      rw[Azg]
      split
      ·rename_i hij;subst hij
       rw[g3];simp;rw[<-g4,<-g5]
      ·rfl
     rw[this];exact L
 ·simp at hh
end
end Gx
namespace Gx
open Go
def YT(E:Env):Prop:=∀(R:Type)(r:R)(k:AV->D7->O R)(J:Bool->Nat->Prop)(β:Ch)(h:Ay)(w:World)(g:A6)(d f:Nat)(args:LA)(vs:List Value),
 SimH J β h w->Looks g h->uQ E g d f args k=some r->Reps J β h w args vs ->
 ∃ val ups,k val ups=some r/\(UpsFree d h ups->Calls E.P f vs.toArray w fun e w'=>∃ vc,e=.returned vc/\OpDone J β h w ups val vc w')
section
variable{R:Type}{r:R}{P:Program}{J J':Bool->Nat->Prop}{β:Ch}{h:Ay}{w w':World}{g:A6}{o:Oper}{a:Act}{next:Act->World->Prop}{Q:Exit->Act->World->Prop}
def Fw{vc:Value}(k:(execOp a.eval o).run P w=.ok (.value vc) w')(hn:next (a.put o.dst vc) w'):o.wp P a w next Q:=by unfold Oper.wp;rw[k];exact hn
def zk(k:(execOp a.eval o).run P w=.ok .skip w')(hn:next (a.put o.dst undef) w'):o.wp P a w next Q:=by unfold Oper.wp;rw[k];exact hn
def OpDone.same(S:SimH J β h w){v:AV}{vc:Value}(k:Rep J β h w v vc):OpDone J β h w [] v vc w:=⟨J,β,Step.refl S,k⟩
def oK{s:G7}(SS:SimS J β h w s a.tmps):∀(xs:List Operand),Reps J β h w (xs.map (ev s)) (xs.map a.eval)
|[]=>by simp[Reps]
|x::r=>by rw[Ayc,Ayc,Reps];exact⟨_,_,rfl,A7 SS x,oK SS r⟩
def Rz{s:G7}(SS:SimS J β h w s a.tmps):∀(ps:List (Nat×Operand)),RepParts J β h w (ps.map fun p=>(p.1,ev s p.2)) (ps.map fun p=>(p.1,a.eval p.2))
|[]=>by simp[RepParts]
|p::r=>by rw[Ayc,Ayc,RepParts];exact⟨_,_,rfl,A7 SS p.2,Rz SS r⟩
def oM{s:G7}(SS:SimS J β h w s a.tmps)(x:Option Operand):Xl J β h w (x.map (ev s)) (x.map a.eval):=by
 cases x with
|none=>simp[Xl]
|some x=>simp[Xl];exact A7 SS x
def Reps.append:∀{c c':LA}{cs k:List Value},Reps J β h w c cs->Reps J β h w c' k->Reps J β h w (c++c') (cs++k)
|[],c',cs,k,C,D=>by rw[Reps]at C;subst C;exact D
|x::r,c',cs,k,C,D=>by
  rw[Reps]at C
  obtain⟨u,us,rfl,G,I⟩:=C
  rw[Ayu,Ayu,Reps]
  exact⟨u,us++k,rfl,G,Reps.append I D⟩
def zl{J:Nat->Prop}:∀{c:LA}{cs:List Value},A9 c=true->Reps (fun _ _=>False) (fun _=>none) [] w c cs->RepCs J w c (fun j=>cs[j]?) 0/\cs.length=c.length:=by
 intro c cs I hr
 rw[Cb]at hr
 refine⟨?_,hr.1⟩
 rw[By]
 intro j x C
 have k:j<cs.length:=by rw[hr.1];exact(Axw.1 C).1
 refine⟨cs[j],by simp[k],?_⟩
 have D:=hr.2 j x cs[j] C (Axn k)
 have L:A9 [x]=true:=by
  clear hr D k
  induction c generalizing j with
  |nil=>simp at C
  |cons y r T =>
   have G:A9 r=true:=by unfold A9 at I;split at I<;>simp_all
   cases j with
   |zero=>simp at C;subst C;cases y<;>simp_all[A9]
   |succ j=>exact T G j (by simpa using C)
 cases x<;>simp[A9]at L<;>(rw[Rep]at D;rw[RepC];exact D)
def Ahy{co:Bool}{v:AV}{vv:Value}(k:∀(J:Bool->Nat->Prop)(β:Ch)(h:Ay),Rep J β h w v vv):Rep J β h w (Akr co v) vv:=by
 unfold Akr
 split
 ·rename_i c
  cases D:A9 c with
  |false=>exact k J β h
  |true =>
   have C:=k (fun _ _=>False) (fun _=>none) []
   rw[Rep]at C
   obtain⟨cs,rfl,G⟩:=C
   obtain⟨I,L⟩:=zl (J:=J false) D G
   rw[cond_true,Rep]
   exact⟨cs,rfl,L,I⟩
 ·exact k J β h
def YU{d:Nat}:∀{l:List (Nat×Nat)}{j:Nat}{c:LA},1<=j->A4 (Gq d l j c).2 (nid d)=false
|[],_,_,_=>by simp[Gq,A4]
| (o,sz)::l,j,c,k=>by
  rw[Gq]
  split
  ·simp only[A4]
   rw[PL (by omega),cond_false]
   exact YU (by omega)
  ·exact YU (by omega)
def sX{d:Nat}{t:TypeId}{k:AV->D7->O R}(S:SimH J β h w)(hh:UC P g d t k=some r):
  ∃ v val ups,(∃ i,P.info? t=some i/\i.zero=some v)/\k val ups=some r/\(UpsFree d h ups->∃ vc w',(Instr.box t v).run P w=.ok vc w'/\OpDone J β h w ups val vc w'):=by
 unfold UC at hh
 split at hh
 ·rename_i c G
  obtain⟨hc,h1⟩:=uc hh
  simp only[Axr]at hc
  obtain⟨hb,L⟩:=hc
  obtain⟨v,hv,he⟩:∃ v,(∃ i,P.info? t=some i/\i.zero=some v)/\fy v=.agg c:=by
   unfold bM at G
   cases hi:P.info? t with
   |none=>simp[hi]at G
   |some i =>
    cases D:i.zero with
    |none=>simp[hi,D]at G
    |some v=>simp[hi,D]at G;exact⟨v,⟨i,rfl,D⟩,G⟩
  have hr:=JW (J:=J) (β:=β) (h:=h) (w:=w) v
  rw[he,Rep]at hr
  obtain⟨cs,rfl,hr⟩:=hr
  refine⟨_,_,_,hv,h1,fun hf=>⟨_,_,JZ,?_⟩⟩
  have hn:=hf.nid (by simp[H9,Rv,A4])
  obtain⟨β',A,hA⟩:=Vj (d:=d) (l:=Rw P t) (j:=1) S (Axo _) (by simp at hb;omega) (fun i hi hi2 T=>hf _ (by rw[H9,T];rfl) (by unfold GM;simp;omega)) hr
  have Y:Am (An (Gq d (Rw P t) 1 c).2 h) (nid d)=none:=by rw[Bu _ _ _ (YU (Axo _))];exact hn
  have I:∀(j:Nat) u,cs[j]?=some u->u.oneCell'=true:=fun j u hu=>by
   rw[Cb]at hr
   have C:j<c.length:=by rw[<-hr.1];exact(Axw.1 hu).1
   exact Kf (Ry L j c[j] (Axn C)) (hr.2 j c[j] u (Axn C) hu)
  rw[Cb]at hA
  refine OpDone.after A (UJ A.sim Y rfl rfl (by simp[Value.cells,hA.1]) ⟨fun hp=>by simp at hp,fun _ j y hj=>?_⟩) (Qo _ _)
  have C:j<cs.length:=by rw[hA.1];exact(Axw.1 hj).1
  exact⟨cs[j],by simp[Value.cells,C],hA.2 j y _ hj (Axn C),I j _ (Axn C)⟩
 ·simp at hh
def xG{co:Bool}{d:Nat}{t:TypeId}{k:AV->D7->O R}(S:SimH J β h w)(hl:Looks g h)(hh:gF P g co d t k=some r):
  ∃ v val ups,(∃ i,P.info? t=some i/\i.zero=some v)/\k val ups=some r/\(UpsFree d h ups->∃ vc w',(Instr.box t v).run P w=.ok vc w'/\OpDone J β h w ups val vc w'):=by
 have zv:∀{z:AV},bM P t=some z->∃ v,(∃ i,P.info? t=some i/\i.zero=some v)/\fy v=z:=by
  intro z C
  unfold bM at C
  cases hi:P.info? t with
  |none=>simp[hi]at C
  |some i =>
   cases D:i.zero with
   |none=>simp[hi,D]at C
   |some v=>simp[hi,D]at C;exact⟨v,⟨i,rfl,D⟩,C⟩
 unfold gF at hh
 split at hh
 ·rename_i el hu C
  obtain⟨v,G,I⟩:=zv C
  obtain⟨sz,hs,hh⟩:=ub hh
  refine⟨v,_,_,G,hh,fun hf=>⟨_,_,JZ,?_⟩⟩
  have hr:=JW (J:=J) (β:=β) (h:=h) (w:=w) v
  rw[I,Rep]at hr;subst hr
  have L:∀ b,b=nid d+1->GM d b=true:=fun b hb=>by subst hb;unfold GM nid;simp
  have T:Am h (nid d+1)=none:=hf _ (by simp[A4]) (L _ rfl)
  have Y:Am h (nid d)=none:=hf.nid (by simp[A4])
  have A:=Step.newNone S (d:=nid d+1) (x:=Gm sz) T rfl
  have e:([(nid d+1,some (Gm sz)),(nid d,some {dead:=false,sealed:=false,pure:=false,taint:=false,sz:=0,cells:=[.own (nid d+1) 0 0]})]:D7)=[(nid d+1,some (Gm sz))]++[(nid d,some {dead:=false,sealed:=false,pure:=false,taint:=false,sz:=0,cells:=[.own (nid d+1) 0 0]})]:=rfl
  rw[e]
  refine OpDone.after A (UJ A.sim ?_ rfl rfl (by simp[Value.cells]) ⟨fun hp=>by simp at hp,fun _ j y hj=>?_⟩) (Qo _ _)
  ·simp only[An];rw[Ah,if_neg (by omega)];exact Y
  ·cases j with
   |zero =>
    simp at hj;subst hj
    refine⟨.slice none 0 0,by simp[Value.cells],?_,rfl⟩
    rw[Rep]
    exact⟨Gm sz,none,0,⟨by simp[An,Ah],rfl⟩,rfl,Axo _,.inl rfl⟩
   |succ j=>simp at hj
 ·rename_i z C _
  obtain⟨v,G,I⟩:=zv C
  obtain⟨val,ups,T,Y⟩:=oC S hl hh (vv:=v) (Ahy fun J β h=>by rw[<-I];exact JW v)
  exact⟨v,val,ups,G,T,Y⟩
 ·simp at hh
def zm{c x y:AV}{vc vx vy:Value}{k:AV->O R}(hh:uS c x y k=some r)(hc:Rep J β h w c vc)(C:Rep J β h w x vx)(D:Rep J β h w y vy):
  ∃ v,k v=some r/\∃ t:Bool,vc=.bool t/\Rep J β h w v (if t then vx else vy):=by
 unfold uS at hh
 split at hh
 ·rename_i t a b
  rw[Rep]at hc C D
  subst hc C D
  exact⟨_,hh,t,rfl,by cases t<;>simp[Rep]⟩
 ·rename_i t x _
  rw[Rep]at hc;subst hc
  obtain⟨G,I⟩:=uc hh
  subst G
  exact⟨_,I,true,rfl,C⟩
 ·rename_i t _ _ _
  rw[Rep]at hc;subst hc
  obtain⟨G,I⟩:=Ac2 hh
  subst G
  exact⟨_,I,false,rfl,D⟩
 ·rename_i t _ _ _
  rw[Rep]at hc;subst hc
  cases t
  ·exact⟨_,hh,false,rfl,D⟩
  ·exact⟨_,hh,true,rfl,C⟩
 ·simp at hh
def Adi {E:Env} (hC:YT E) {d:Nat} {s:G7} {k:AV->D7->O R} (S:SimH J β h w) (SS:SimS J β h w s a.tmps) (hl:Looks g h)
  (hh:sS E g d (ev s) o.op k=some r) :
  ∃ val ups,k val ups=some r/\(UpsFree d h ups->(∀ vc w',OpDone J β h w ups val vc w'->next (a.put o.dst vc) w')->o.wp E.P a w next Q):=by
 unfold sS at hh
 have same:∀{v:AV}{vc:Value},k v []=some r->(execOp a.eval o).run E.P w=.ok (.value vc) w->Rep J β h w v vc ->
   ∃ val ups,k val ups=some r/\(UpsFree d h ups->(∀ vc w',OpDone J β h w ups val vc w'->next (a.put o.dst vc) w')->o.wp E.P a w next Q) :=
  fun hk hrun hr=>⟨_,_,hk,fun _ hn=>Fw hrun (hn _ _ (OpDone.same S hr))⟩
 split at hh
 ·rename_i x I
  exact same hh (by simp[execOp,I]) (A7 SS x)
 ·rename_i x I
  exact same hh (by simp[execOp,I]) (A7 SS x)
 ·rename_i c x y I
  obtain⟨v,C,D⟩:=zm hh (A7 SS c) (A7 SS x) (A7 SS y)
  obtain⟨t,ht,hr⟩:=D
  refine same C (vc:=if t then a.eval x else a.eval y) ?_ hr
  cases t<;>simp[execOp,I,ht,Go.asBool]
 ·rename_i t I
  obtain⟨v,val,ups,h0,C,D⟩:∃ v val ups,(∃ i,E.P.info? t=some i/\i.zero=some v)/\k val ups=some r/\(UpsFree d h ups->∃ vc w',(Instr.box t v).run E.P w=.ok vc w'/\OpDone J β h w ups val vc w'):=by
   cases hm:Fv E.cob (d+1000000)with
   |true=>rw[hm]at hh;exact sX S hh
   |false=>rw[hm]at hh;exact xG S hl hh
  refine⟨val,ups,C,fun hf hn=>?_⟩
  obtain⟨vc,w',G,L⟩:=D hf
  refine Fw ?_ (hn vc w' L)
  rw[JZ]at G
  simp only[Result.ok.injEq]at G
  obtain⟨rfl,rfl⟩:=G
  obtain⟨i,hi,hiz⟩:=h0
  simp[execOp,I,Instr.alloc,zeroValue,typeInfo,hi,hiz,newVar,newRow]
 ·rename_i t x I
  obtain⟨v',h0,hv'⟩:=wu hh (A7 SS x)
  obtain⟨val,ups,C,D⟩:=oC S hl h0 hv'
  refine⟨val,ups,C,fun hf hn=>?_⟩
  obtain⟨vc,w',G,L⟩:=D hf
  exact Fw (by simp[execOp,I,G]) (hn vc w' L)
 ·rename_i t parts I
  have:(parts.map fun p=>(p.1,a.eval p.2))=(parts.toList.map fun p=>(p.1,a.eval p.2)).toArray:=by apply Azi;simp
  cases hco:Fv E.cob (d+4000000)with
  |true =>
   rw[hco]at hh
   obtain⟨val,ups,u,C,D,G⟩:=sW S hl hh (Rz SS parts.toList)
   exact⟨val,ups,C,fun _ hn=>Fw (by simp[execOp,I,this,D]) (hn _ _ G)⟩
  |false =>
  rw[hco,cond_false,YR]at hh
  obtain⟨v,hv,hh⟩:=ub hh
  obtain⟨u,C,D⟩:=xD (P:=E.P) S hv (Rz SS parts.toList)
  obtain⟨val,ups,G,L⟩:=Adf S hh D
  refine⟨val,ups,G,fun hf hn=>Fw ?_ (hn _ _ (L hf))⟩
  simp[execOp,I,this,C]
 ·rename_i t len parts I
  have:(parts.map fun p=>(p.1,a.eval p.2))=(parts.toList.map fun p=>(p.1,a.eval p.2)).toArray:=by apply Azi;simp
  cases hhard:(parts.toList.map fun p=>(p.1,ev s p.2)).any fun p=>Aks p.2 with
  |true =>
   rw[hhard]at hh
   obtain⟨val,ups,C,D⟩:=gU S hh (Rz SS parts.toList)
   refine⟨val,ups,C,fun hf hn=>?_⟩
   obtain⟨vc,w',G,L⟩:=D hf
   exact Fw (by simp[execOp,I,this,G]) (hn vc w' L)
  |false =>
   rw[hhard]at hh
   obtain⟨val,ups,C,D⟩:=b8 S hl hh (Rz SS parts.toList)
   refine⟨val,ups,C,fun hf hn=>?_⟩
   obtain⟨vc,w',G,L⟩:=D hf
   exact Fw (by simp[execOp,I,this,G]) (hn vc w' L)
 ·rename_i t p I
  obtain⟨v,vc,C,D,G⟩:=j7 S hl hh (A7 SS p)
  exact same C (by simp[execOp,I,D]) G
 ·rename_i t p x I
  obtain⟨val,ups,C,J',β',w',D,G,rfl⟩:=wt S hl hh (A7 SS p) (A7 SS x)
  exact⟨.undef,ups,C,fun _ hn=>zk (w':=w') (by simp[execOp,I,D]) (hn undef w' ⟨J',β',G,by simp[Rep]⟩)⟩
 ·rename_i x I
  have C:=A7 SS x
  split at hh
  ·rename_i c oo hx
   rw[hx]at C
   refine same hh (vc:=a.eval x) ?_ C
   rw[Rep,RepC]at C
   obtain⟨ad,D,_⟩:=C
   simp[execOp,I,D]
  ·rename_i b oo hx
   rw[hx]at C
   refine same hh (vc:=a.eval x) ?_ C
   rw[Rep]at C
   obtain⟨_,kk,o',_,D,_⟩:=C
   simp[execOp,I,D]
  ·simp at hh
 ·rename_i op t x y t2 I
  obtain⟨v,vc,C,D,G⟩:=zf S hl hh (A7 SS x) (A7 SS y) x y
  refine same C ?_ G
  simp only[execOp,I]
  rw[Sem.run_bind,D];simp
 ·rename_i op t x I
  obtain⟨v,hv,hh⟩:=ub hh
  obtain⟨vc,D,G⟩:=Ahu (P:=E.P) hv (A7 SS x)
  exact same hh (by simp[execOp,I,D]) G
 ·rename_i src dst x I
  obtain⟨val,ups,C,D⟩:=xB S hl hh (A7 SS x)
  refine⟨val,ups,C,fun hf hn=>?_⟩
  obtain⟨vc,w',G,L⟩:=D hf
  exact Fw (by simp[execOp,I,G]) (hn vc w' L)
 ·rename_i f first caps I
  obtain⟨hf,hh⟩:=uc hh
  have hf':f<1000000:=by simpa using hf
  have key:∀(a n:Nat),a<1000000->(a+1000000*n)%1000000=a/\(a+1000000*n)/1000000=n:=by intro a n h;omega
  have e1:=(key f first.toList.length hf').1
  have e2:=(key f first.toList.length hf').2
  refine same (vc:=.func (.func f) ⟨first.toList.map a.eval⟩ ⟨caps.toList.map a.eval⟩) hh ?_ ?_
  ·simp only[execOp,I,Instr.makeFunc]
   simp
   refine⟨?_,?_⟩<;>(apply Azi;simp)
  ·rw[Rep,e1,e2]
   refine⟨(first.toList++caps.toList).map a.eval,?_,oK SS _⟩
   simp
 ·rename_i t l c I
  obtain⟨val,ups,C,D⟩:=zY S hh (A7 SS l) (A7 SS c)
  refine⟨val,ups,C,fun hf hn=>?_⟩
  obtain⟨vc,w',G,L⟩:=D hf
  exact Fw (by simp[execOp,I,G]) (hn vc w' L)
 ·rename_i t x lo hi mx I
  obtain⟨v,vc,C,D,G⟩:=wq S hl hh (A7 SS x) (oM SS lo) (oM SS hi) (oM SS mx)
  exact same C (by simp[execOp,I,D]) G
 ·rename_i t x f I
  obtain⟨v,vc,C,D,G⟩:=gR hh (A7 SS x)
  exact same C (by simp[execOp,I,D]) G
 ·rename_i t x f I
  obtain⟨v,vc,C,D,G⟩:=wm hh (A7 SS x)
  exact same C (by simp[execOp,I,D]) G
 ·rename_i t x i I
  obtain⟨v,vc,C,D,G⟩:=gQ hh (A7 SS x) (A7 SS i)
  exact same C (by simp[execOp,I,D]) G
 ·rename_i t x i I
  obtain⟨v,vc,C,D,G⟩:=wo hh (A7 SS x) (A7 SS i)
  exact same C (by simp[execOp,I,D]) G
 ·rename_i t rr I
  cases rr with
  |some x=>simp[AF]at hh
  |none =>
   obtain⟨val,ups,C,D⟩:=oJ (P:=E.P) (t:=t) S hh
   refine⟨val,ups,C,fun hf hn=>?_⟩
   obtain⟨vc,w',G,L⟩:=D hf
   exact Fw (by simp[execOp,I,G]) (hn vc w' L)
 ·rename_i t m x y I
  obtain⟨ups,C,J',β',w',D,G⟩:=xF S hl hh (A7 SS m) (A7 SS x) (A7 SS y)
  exact⟨.undef,ups,C,fun _ hn=>zk (w':=w') (by simp[execOp,I,D]) (hn undef w' ⟨J',β',G,by simp[Rep]⟩)⟩
 ·rename_i t m x c I
  obtain⟨v,vc,C,D,G⟩:=zj S hl hh (A7 SS m) (A7 SS x)
  exact same C (by simp[execOp,I,D]) G
 ·rename_i t x I
  obtain⟨val,ups,C,D⟩:=xE (P:=E.P) S hh (A7 SS x)
  refine⟨val,ups,C,fun hf hn=>?_⟩
  obtain⟨vc,w',G,L⟩:=D hf
  exact Fw (by simp[execOp,I,G]) (hn vc w' L)
 ·rename_i x b I
  obtain⟨val,ups,C,D⟩:=zi (P:=E.P) (d:=d) (t:=o.type) S hl hh (A7 SS x)
  refine⟨val,ups,C,fun hf hn=>?_⟩
  obtain⟨vc,w',G,L⟩:=D hf
  exact Fw (by simp[execOp,I,G]) (hn vc w' L)
 ·rename_i t i I
  split at hh
  ·rename_i vs ht
   obtain⟨v,hv,hh⟩:=ub hh
   have C:=A7 SS t
   rw[ht,Rep]at C
   obtain⟨cs,D,G⟩:=C
   rw[Cb]at G
   have hlt:i<cs.length:=by rw[G.1];exact(Axw.1 hv).1
   refine same hh (vc:=cs[i]) ?_ (G.2 i v _ hv (Axn hlt))
   simp[execOp,I,Instr.extract,D,hlt]
  ·simp at hh
 ·rename_i c I
  split at hh
  ·rename_i hc
   split at hh
   ·rename_i x t C D
    obtain⟨v,hv,hh⟩:=ub hh
    have e1:c.args=#[x]:=by apply Azi;simpa using C
    have e2:c.argTypes=#[t]:=by apply Azi;simpa using D
    obtain⟨vc,G,L⟩:=Ada (P:=E.P) (ty:=o.type) hv (A7 SS x)
    refine same hh ?_ L
    simp[execOp,I,resolve,hc,e1,e2,invoke,builtin,G]
   ·simp at hh
  ·rename_i hc
   split at hh
   ·rename_i x y t tx C D
    have e1:c.args=#[x,y]:=by apply Azi;simpa using C
    have e2:c.argTypes=#[t,tx]:=by apply Azi;simpa using D
    obtain⟨val,ups,G,L⟩:=sV (ty:=o.type) S hl hh (A7 SS x) (A7 SS y)
    refine⟨val,ups,G,fun hf hn=>?_⟩
    obtain⟨vc,w',h5,h6⟩:=L hf
    refine Fw ?_ (hn vc w' h6)
    simp[execOp,I,resolve,hc,e1,e2,invoke,builtin,h5]
   ·simp at hh
  ·rename_i hc
   split at hh
   ·rename_i x y t tx C D
    have e1:c.args=#[x,y]:=by apply Azi;simpa using C
    have e2:c.argTypes=#[t,tx]:=by apply Azi;simpa using D
    obtain⟨val,ups,G,vc,w',h5,h6⟩:=z7 (tx:=tx) (ty:=o.type) S hl hh (A7 SS x) (A7 SS y)
    refine⟨val,ups,G,fun hf hn=>?_⟩
    refine Fw ?_ (hn vc w' h6)
    simp[execOp,I,resolve,hc,e1,e2,invoke,builtin,h5]
   ·simp at hh
  ·rename_i hc
   split at hh
   ·rename_i x t C D
    have e1:c.args=#[x]:=by apply Azi;simpa using C
    have e2:c.argTypes=#[t]:=by apply Azi;simpa using D
    obtain⟨val,ups,G,vc,w',h5,h6⟩:=xA (ty:=o.type) S hl hh (A7 SS x)
    refine⟨val,ups,G,fun hf hn=>?_⟩
    refine Fw ?_ (hn vc w' h6)
    simp[execOp,I,resolve,hc,e1,e2,invoke,builtin,h5]
   ·simp at hh
  ·rename_i hc
   split at hh
   ·rename_i x y C
    obtain⟨v,hv,hh⟩:=ub hh
    have e1:c.args=#[x,y]:=by apply Azi;simpa using C
    have D:=A7 SS x
    have G:=A7 SS y
    unfold Ahs at hv
    split at hv
    ·rename_i k1 a1 k2 a2 hx hy
     simp at hv;subst hv
     rw[hx,Rep]at D;rw[hy,Rep]at G
     refine same hh (vc:=.int k1 (Ca a1 a2)) ?_ (by rw[Rep])
     simp[execOp,I,resolve,hc,e1,invoke,builtin,D,G,Builtin.min_,Builtin.min2,Ca,cond_eq_ite]
    ·simp at hv
   ·rename_i x y z C
    obtain⟨q,hq,hh⟩:=ub hh
    obtain⟨v,hv,hh⟩:=ub hh
    have e1:c.args=#[x,y,z]:=by apply Azi;simpa using C
    have D:=A7 SS x
    have G:=A7 SS y
    have L:=A7 SS z
    unfold Ahs at hq
    split at hq
    ·rename_i k1 a1 k2 a2 hx hy
     simp at hq;subst hq
     unfold Ahs at hv
     split at hv
     ·rename_i k3 a3 k4 a4 hx2 hz
      simp at hx2;obtain⟨rfl,rfl⟩:=hx2
      simp at hv;subst hv
      rw[hx,Rep]at D;rw[hy,Rep]at G;rw[hz,Rep]at L
      refine same hh (vc:=.int k1 (Ca (Ca a1 a2) a4)) ?_ (by rw[Rep])
      simp[execOp,I,resolve,hc,e1,invoke,builtin,D,G,L,Builtin.min_,Builtin.min2,Ca,cond_eq_ite]
     ·simp at hv
    ·simp at hq
   ·simp at hh
  ·rename_i hc
   split at hh
   ·rename_i x y C
    obtain⟨v,hv,hh⟩:=ub hh
    have e1:c.args=#[x,y]:=by apply Azi;simpa using C
    have D:=A7 SS x
    have G:=A7 SS y
    unfold Aht at hv
    split at hv
    ·rename_i k1 a1 k2 a2 hx hy
     simp at hv;subst hv
     rw[hx,Rep]at D;rw[hy,Rep]at G
     refine same hh (vc:=.int k1 (Mj a1 a2)) ?_ (by rw[Rep])
     simp[execOp,I,resolve,hc,e1,invoke,builtin,D,G,Builtin.max_,Builtin.max2,Mj,cond_eq_ite]
    ·simp at hv
   ·rename_i x y z C
    obtain⟨q,hq,hh⟩:=ub hh
    obtain⟨v,hv,hh⟩:=ub hh
    have e1:c.args=#[x,y,z]:=by apply Azi;simpa using C
    have D:=A7 SS x
    have G:=A7 SS y
    have L:=A7 SS z
    unfold Aht at hq
    split at hq
    ·rename_i k1 a1 k2 a2 hx hy
     simp at hq;subst hq
     unfold Aht at hv
     split at hv
     ·rename_i k3 a3 k4 a4 hx2 hz
      simp at hx2;obtain⟨rfl,rfl⟩:=hx2
      simp at hv;subst hv
      rw[hx,Rep]at D;rw[hy,Rep]at G;rw[hz,Rep]at L
      refine same hh (vc:=.int k1 (Mj (Mj a1 a2) a4)) ?_ (by rw[Rep])
      simp[execOp,I,resolve,hc,e1,invoke,builtin,D,G,L,Builtin.max_,Builtin.max2,Mj,cond_eq_ite]
     ·simp at hv
    ·simp at hq
   ·simp at hh
  ·rename_i hc
   split at hh
   ·rename_i x C
    have e1:c.args=#[x]:=by apply Azi;simpa using C
    obtain⟨val,ups,G,L⟩:=gS (P:=E.P) (d:=d) (ts:=c.argTypes) (ty:=o.type) S hl hh (A7 SS x)
    refine⟨val,ups,G,fun hf hn=>?_⟩
    obtain⟨vc,w',h5,h6⟩:=L hf
    refine Fw ?_ (hn vc w' h6)
    simp[execOp,I,resolve,hc,e1,invoke,builtin,h5]
   ·simp at hh
  ·rename_i hc
   split at hh
   ·rename_i x y t tx C D
    have e1:c.args=#[x,y]:=by apply Azi;simpa using C
    have e2:c.argTypes=#[t,tx]:=by apply Azi;simpa using D
    obtain⟨val,ups,G,L⟩:=gT (d:=d) (it:=tx) (ty:=o.type) S hl hh (A7 SS x) (A7 SS y)
    refine⟨val,ups,G,fun hf hn=>?_⟩
    obtain⟨vc,w',h5,h6⟩:=L hf
    refine Fw ?_ (hn vc w' h6)
    simp[execOp,I,resolve,hc,e1,e2,invoke,builtin,h5]
   ·simp at hh
  ·rename_i fo hc
   split at hh
   ·rename_i f0 caps hf
    have C:=A7 SS fo
    rw[hf,Rep]at C
    obtain⟨cs0,D,h30⟩:=C
    cases T:wh E.P (f0%1000000)with
    | false =>
     rw[T,cond_false]at hh
     obtain⟨hne,hh⟩:=uc hh
     split at hh
     ·rename_i x Y hold
      rw[Reps]at h30;subst h30
      obtain⟨y,hy,rfl⟩:∃ y,c.args=#[y]/\x=ev s y:=by
       cases hl:c.args.toList with
       |nil=>rw[hl]at Y;cases Y
       |cons y l =>
        rw[hl]at Y;simp at Y
        exact⟨y,by apply Azi;rw[hl,Y.2],Y.1.symm⟩
      refine same (vc:=a.eval y) hh ?_ (A7 SS y)
      simp only[execOp,I,Sem.run_bind,resolve,hc,D,Deferred.ofValue,Sem.run_pure,Result.andThen_ok,invoke,hy]
      simpa using Ahw hne (a.eval y) w
     ·simp at hh
    |true =>
    rw[T,cond_true]at hh
    have htk:Reps J β h w (caps.take (f0/1000000)) (cs0.take (f0/1000000))/\Reps J β h w (caps.drop (f0/1000000)) (cs0.drop (f0/1000000)):=by
     rw[Cb]at h30
     refine⟨Cb.2 ⟨by simp[h30.1],fun j x u hx hu=>?_⟩,Cb.2 ⟨by simp[h30.1],fun j x u hx hu=>?_⟩⟩
     ·rw[Azn]at hx hu
      split at hx
      ·rename_i hj;rw[if_pos hj]at hu;exact h30.2 j x u hx hu
      ·simp at hx
     ·rw[Ayw]at hx hu;exact h30.2 _ x u hx hu
    generalize f0%1000000=f at *
    generalize cs0.take (f0/1000000)=fs at *
    generalize cs0.drop (f0/1000000)=cs at *
    obtain⟨val,ups,L,h5⟩:=hC R r k J β h w g d f _ _ S hl hh (htk.1.append ((oK SS c.args.toList).append htk.2))
    refine⟨val,ups,L,fun hfr hn=>?_⟩
    have hcall:=h5 hfr
    unfold wh at T
    cases hfn:E.P.funcs[f]? with
    |none=>rw[hfn]at T;simp at T
    | some fn =>
     rw[hfn]at T
     simp at T
     obtain⟨hb1,hb2⟩:=T
     have hb3:fn.body.isNone=false:=by cases hq:fn.body<;>simp_all
     have Y:(⟨fs⟩:Array Value)++c.args.map a.eval++(⟨cs⟩:Array Value)=(fs++(c.args.toList.map a.eval++cs)).toArray:=by apply Azi;simp
     have hrun:(execOp a.eval o).run E.P w=.ok (.enter f (fs++(c.args.toList.map a.eval++cs)).toArray) w:=by
      simp only[execOp,I,Sem.run_bind,resolve,hc,D,Deferred.ofValue,Sem.run_pure,Result.andThen_ok,invoke,callFunc,run_program,hfn]
      simp only[hb3,Y]
      simp[hb2]
     unfold Oper.wp
     rw[hrun]
     refine Calls.mono hcall ?_
     rintro e w' ⟨vc,rfl,hd⟩
     exact hn vc w' hd
   ·simp at hh
  ·simp at hh
 ·simp at hh
end
end Gx
namespace Gx
open Go
structure Start where
 J:Bool->Nat->Prop
 β:Ch
 h:Ay
 w:World
structure Inv(Z:Start)(nt:Nat)(J:Bool->Nat->Prop)(β:Ch)(st:St)(a:Act)(w:World):Prop where
 sim:SimH J β st.h w
 ss:SimS J β st.h w st.s a.tmps
 tmps:a.tmps.size=nt
 defers:a.defers=[]
 os:w.os=Z.w.os
 tape:w.tape=Z.w.tape
 output:w.output=Z.w.output
 size:Z.w.heap.size<=w.heap.size
 frame:∀ k,k<Z.w.heap.size->¬ zX Z.β Z.h k->w.heap[k]?=Z.w.heap[k]?
 wr:∀ k,zX β st.h k->k<Z.w.heap.size->zX Z.β Z.h k
 jsub:∀ o k,Z.J o k->J o k
 jup:∀ o k,J o k->Z.J o k\/zX Z.β Z.h k\/Z.w.heap.size<=k
 sizes:∀ k,A1 Z.w k<=A1 w k
 zlt:∀ b x0,Am Z.h b=some x0->b<200000
 zge:∀ b x0,Am Z.h b=some x0->100000<=b
 outs:∀ b x0 x,Am Z.h b=some x0->Am st.h b=some x->x.dead=false->(β b=Z.β b/\x.mp=x0.mp)/\x.sz=x0.sz/\(x0.mp=false->x.cells.length=x0.cells.length)/\x0.dead=false
section
variable{R:Type}{r:R}{Z:Start}{nt:Nat}{J J':Bool->Nat->Prop}{β β':Ch}{st:St}{h':Ay}{a:Act}{w w':World}{ops:Array Oper}{o:Oper}
def Oo{s:G7}{d:Option Nat}{v:AV}{i:Nat}:Gc (Ac8 nt s d v) i=if d=some i/\i<nt then v else Gc s i:=by
 unfold Ac8
 cases d with
|none=>simp
| some d =>
  simp only[Az1]
  cases C:Nat.blt d nt with
  |true =>
   have k:d<nt:=by simpa using C
   simp only[cond_true]
   rw[L5]
   by_cases e:i=d
   ·subst e;simp[k]
   ·rw[if_neg e,if_neg (fun hh=>e hh.1.symm)]
  |false =>
   have k:¬ d<nt:=by intro D;rw[show Nat.blt d nt=true by simpa using D]at C;cases C
   simp only[cond_false]
   rw[if_neg (fun hh=>by obtain⟨G,I⟩:=hh;subst G;exact k I)]
def SimS.put{h:Ay}{s:G7}{d:Option Nat}{v:AV}{vc:Value}(H:SimS J β h w s a.tmps)(hn:a.tmps.size=nt)(D:Rep J β h w v vc):SimS J β h w (Ac8 nt s d v) (a.put d vc).tmps:=by
 refine⟨fun i u k=>?_,fun i hi=>?_⟩
 ·rw[Oo]
  cases d with
  |none=>simp;exact H.slot i u k
  | some d =>
   simp only[Act.put]at k
   rw[A2e]at k
   by_cases e:d=i
   ·subst e
    simp only[if_true]at k
    by_cases C:d<a.tmps.size
    ·simp[C]at k;subst k
     rw[if_pos ⟨rfl,by omega⟩];exact D
    ·simp[C]at k
   ·rw[if_neg e]at k
    rw[if_neg (fun hh=>e (by simpa using hh.1))]
    exact H.slot i u k
 ·have hs:(a.put d vc).tmps.size=a.tmps.size:=by cases d<;>simp[Act.put]
  rw[hs]at hi
  rw[Oo,if_neg (by omega)]
  exact H.out i hi
def SimS.ext{h:Ay}{s:G7}{t:Array Value}(E:Ext J β h w J' β' h' w')(H:SimS J β h w s t):SimS J' β' h' w' s t:=⟨fun i v k=>Rep.ext E (H.slot i v k),H.out⟩
def Inv.step(I:Inv Z nt J β st a w)(A:Step J β st.h w J' β' h' w')(L:∀ b x,Am h' b=some x->Am st.h b=none->Hr<=b):Inv Z nt J' β' {s:=st.s,h:=h'} a w' where
 sim:=A.sim
 ss:=I.ss.ext A.ext
 tmps:=I.tmps
 defers:=I.defers
 os:=A.os.trans I.os
 tape:=A.tape.trans I.tape
 output:=A.output.trans I.output
 size:=Ay7 I.size A.size
 frame k C D:=(A.frame k (Ax9 C I.size) (fun hm'=>D (I.wr k hm' C))).trans (I.frame k C D)
 wr k D C:=I.wr k (A.wr k D (Ax9 C I.size)) C
 jsub o k hj:=A.ext.jsub o k (I.jsub o k hj)
 jup o k hj:=by
  rcases A.jup o k hj with T|T|T
  ·exact I.jup o k T
  ·by_cases C:k<Z.w.heap.size
   ·exact .inr (.inl (I.wr k T C))
   ·exact .inr (.inr (by omega))
  ·exact .inr (.inr (Ay7 I.size T))
 sizes k:=by
  refine Ay7 (I.sizes k) ?_
  by_cases D:∃ b o,β b=some (k,o)
  ·obtain⟨b,o,G⟩:=D;exact A.ext.size b k o G
  ·by_cases C:k<w.heap.size
   ·have:=A.frame k C (fun ⟨b,x,o,_,_,_,G⟩=>D ⟨b,o,G⟩)
    simp[A1,this]
   ·simp[A1,Azm (Az9 C)]
 outs b x0 x h0 hx hd:=by
  cases G:Am st.h b with
  |none=>have:=L b x hx G;have:=I.zlt b x0 h0;unfold Hr at *;omega
  | some y =>
   obtain⟨x',⟨g1,gm⟩,Y⟩:=A.ext.blk b y G
   change Am h' b=some x at hx
   rw[hx]at g1;simp at g1;subst g1
   rcases Y with Y|⟨Y,g3,g4,g5⟩
   ·simp[hd]at Y
   ·obtain⟨⟨e1,em⟩,e2,e3,e4⟩:=I.outs b x0 y h0 G Y
    exact⟨⟨g3.trans e1,gm.trans em⟩,g4.trans e2,fun h=>(g5 (em.trans h)).trans (e3 h),e4⟩
 zlt:=I.zlt
 zge:=I.zge
def Inv.put(I:Inv Z nt J β st a w){d:Option Nat}{v:AV}{vc:Value}(k:Rep J β st.h w v vc):Inv Z nt J β {s:=Ac8 nt st.s d v,h:=st.h} (a.put d vc) w where
 sim:=I.sim
 ss:=I.ss.put I.tmps k
 tmps:=by cases d<;>simp[Act.put,I.tmps]
 defers:=by cases d<;>simp[Act.put,I.defers]
 os:=I.os
 tape:=I.tape
 output:=I.output
 size:=I.size
 frame:=I.frame
 wr:=I.wr
 jsub:=I.jsub
 jup:=I.jup
 sizes:=I.sizes
 zlt:=I.zlt
 zge:=I.zge
 outs:=I.outs
def oN{d:Nat}{F:List Nat}{h:Ay}:∀{ups:D7},WU d F h ups=true->∀ b,A4 ups b=true->(GM d b=true/\Am h b=none)\/(GM d b=false/\Fv F b=true/\∃ x,Am h b=some x)
|[],_,b,C=>by simp[A4]at C
| (i,_)::r,k,b,C=>by
  rw[WU]at k
  simp at k
  rw[A4]at C
  cases hi:beq i b with
  | true =>
   have:i=b:=Axy hi
   subst this
   cases hn:GM d i with
   |true=>rw[hn]at k;simp at k;exact .inl ⟨rfl,k.1⟩
   |false =>
    rw[hn]at k;simp at k
    obtain⟨⟨D,G⟩,_⟩:=k
    exact .inr ⟨rfl,D,A3e.1 G⟩
  |false=>rw[hi]at C;exact oN k.2 b (by simpa using C)
def Ak6{d b:Nat}(hn:GM d b=true):Hr<=b:=by
 unfold GM nid at hn
 simp at hn
 unfold Hr;omega
def xH{d:Nat}{F:List Nat}{h:Ay}{ups:D7}(D:WU d F h ups=true){b:Nat}{x:Blk}(k:Am (An ups h) b=some x)(hn:Am h b=none):Hr<=b:=by
 cases hi:A4 ups b with
|false=>rw[Bu _ _ _ hi,hn]at k;cases k
|true =>
  rcases oN D b hi with⟨G,_⟩|⟨_,_,y,C⟩
  ·exact Ak6 G
  ·rw[hn]at C;cases C
def Adj{h:Ay}{F:List Nat}:Looks (fun b=>cond (Fv F b) (Am h b) none) h:=fun b x k=>by
 cases C:Fv F b with
|true=>simpa[C]using k
|false=>simp[C]at k
def sY{h:Ay}{s:G7}(H:SimS J β h w s a.tmps){t:Bool}(k:JR ops s o=some t):Region.wanted o (yielded ops a.tmps)=t:=by
 unfold JR at k
 unfold Region.wanted
 split at k
 ·rename_i C;rw[C];simpa using k
 ·rename_i j want C
  rw[C]
  simp only
  unfold yielded
  split at k
  ·rename_i t' D
   rw[D]
   simp only[Azl]
   cases I:a.tmps[t']? with
   |none =>
    have:=H.out t' (by simpa using I)
    rw[this]at k;simp at k
   | some v =>
    have hr:=H.slot t' v I
    split at k
    ·rename_i b G
     rw[G,Rep]at hr;subst hr
     simp at k;subst k
     simp
    ·rename_i G
     rw[G,Rep]at hr
     obtain⟨cs,rfl,hc⟩:=hr
     rw[Reps]at hc;subst hc
     simp at k;subst k
     simp
    ·simp at k
  ·rename_i D
   rw[D]
   simp at k;subst k
   simp
def oO{E:Env}(hC:YT E)(I:Inv Z E.nt J β st a w){k:St->Foot->O R}(hh:zT E ops o st k=some r){K:Act->World->Prop}{Q:Exit->Act->World->Prop}:
  ∃ st' f,k st' f=some r/\((∀ a' w' J' β',Inv Z E.nt J' β' st' a' w'->K a' w')->if Region.wanted o (yielded ops a.tmps)then o.wp E.P a w K Q else K (a.put o.dst undef) w):=by
 unfold zT at hh
 obtain⟨t,G,C⟩:=ub hh
 rw[sY I.ss G]
 cases t with
|false =>
  refine⟨_,_,C,fun hK=>?_⟩
  simp only[Azb,if_false]
  exact hK _ _ J β (I.put (by rw[Rep];exact⟨[],rfl,by rw[Reps]⟩))
| true =>
  rw[cond_true]at C
  obtain⟨val,ups,L,T⟩:=Adi (o:=o) (next:=K) (Q:=Q) hC I.sim I.ss Adj C
  obtain⟨D,Y⟩:=uc L
  refine⟨_,_,Y,fun hK=>?_⟩
  simp only[if_true]
  refine T (fun b hb hn=>?_) (fun vc w' hd=>?_)
  ·rcases oN D b hb with⟨_,g⟩|⟨g,_⟩
   ·exact g
   ·rw[hn]at g;cases g
  ·obtain⟨J',β',A,hv⟩:=hd
   exact hK _ _ J' β' ((I.step A (fun b x hx hn=>xH D hx hn)).put hv)
def Eqv(a b:St):Prop:=(∀ t,Gc a.s t=Gc b.s t)/\(∀ b',Am a.h b'=Am b.h b')
def Eqv.refl(a:St):Eqv a a:=⟨fun _=>rfl,fun _=>rfl⟩
def Eqv.symm{a b:St}(h:Eqv a b):Eqv b a:=⟨fun t=>(h.1 t).symm,fun t=>(h.2 t).symm⟩
def Eqv.trans{a b c:St}(h:Eqv a b)(k:Eqv b c):Eqv a c:=⟨fun t=>(h.1 t).trans (k.1 t),fun t=>(h.2 t).trans (k.2 t)⟩
def Inv.eqv{nt:Nat}{J:Bool->Nat->Prop}{β:Ch}{st st2:St}{a:Act}{w:World}(I:Inv Z nt J β st a w)(h:Eqv st st2):Inv Z nt J β st2 a w:=by
 have hr:∀{x v},Rep J β st.h w x v->Rep J β st2.h w x v:=fun G=>Rep.ext ⟨fun _ _ L=>L,fun _ _ _=>rfl,fun b x C=>⟨x,⟨by rw[<-h.2 b];exact C,rfl⟩,by cases D:x.dead<;>simp⟩,fun _ _ _ _=>Axo _⟩ G
 refine⟨⟨I.sim.jlt,I.sim.jft,I.sim.gl,fun b x C D T=>?_,fun b x C D T=>I.sim.mblk b x (by rw[h.2];exact C) D T,fun b b' x x' k o o' C Y=>I.sim.sep b b' x x' k o o' (by rw[h.2];exact C) (by rw[h.2];exact Y)⟩,⟨fun i v hv=>by rw[<-h.1 i];exact hr (I.ss.slot i v hv),fun i hi=>by rw[<-h.1 i];exact I.ss.out i hi⟩,I.tmps,I.defers,I.os,I.tape,I.output,I.size,I.frame,?_,I.jsub,I.jup,I.sizes,I.zlt,I.zge,fun b x0 x h0 G=>I.outs b x0 x h0 (by rw[h.2];exact G)⟩
 ·rcases I.sim.blk b x (by rw[h.2];exact C) D T with h1|⟨k,o,cs,ty,fr,h1,h2,h3,h4,h5,h6⟩
  ·exact .inl h1
  ·exact .inr ⟨k,o,cs,ty,fr,h1,h2,h3,h4,⟨h5.1,fun hp j c L=>by
    obtain⟨u,g1,g2,g3⟩:=h5.2 hp j c L
    exact⟨u,g1,hr g2,g3⟩⟩,h6⟩
 ·rintro k ⟨b,x,o,C,D,hs,hβ⟩ hk
  exact I.wr k ⟨b,x,o,by rw[h.2];exact C,D,hs,hβ⟩ hk
def oP{st:St}{k:St->O R}(hh:gN ops o st k=some r):∃ st',Eqv st st'/\k st'=some r:=by
 unfold gN at hh
 split at hh
 ·exact⟨st,Eqv.refl _,hh⟩
 ·rename_i j want G
  split at hh
  ·exact⟨st,Eqv.refl _,hh⟩
  ·rename_i t I
   split at hh
   ·rename_i b D
    have key:∀ c:Bool,b=c->Eqv st {s:=QA st.s t (.bool c),h:=st.h}:=by
     intro c hc
     refine⟨fun i=>?_,fun _=>rfl⟩
     simp only
     rw[L5]
     by_cases e:i=t
     ·subst e;rw[if_pos rfl,D,hc]
     ·rw[if_neg e]
    cases C:(b==want)with
    |true =>
     rw[C]at hh
     exact⟨_,key want (by simpa using C),hh⟩
    |false =>
     rw[C]at hh
     exact⟨_,key (!want) (by cases b<;>cases want<;>simp_all),hh⟩
   ·exact⟨st,Eqv.refl _,hh⟩
def uW{i:Int}{k:Nat->O R}:∀{m j:Nat},jY i k m j=some r->∃ q:Nat,i=(q:Int)/\k q=some r
|0,_,h=>by cases h
|m+1,j,h=>by
  rw[jY]at h
  cases hc:i==(j:Int)with
  |true=>rw[hc]at h;exact⟨j,by simpa using hc,h⟩
  |false=>rw[hc]at h;exact uW h
def ja{E:Env}{o:Oper}{st:St}{k:St->O R}(hh:UF E o st k=some r):∃ st',Eqv st st'/\k st'=some r:=by
 unfold UF at hh
 split at hh
 ·rename_i i d D G
  cases hc:Fv E.cob (d+6000000)with
  |false=>rw[hc]at hh;exact⟨st,Eqv.refl _,hh⟩
  | true =>
   rw[hc,cond_true]at hh
   split at hh
   ·rename_i kd n hn
    obtain⟨q,hq,C⟩:=uW hh
    subst hq
    refine⟨{s:=QA st.s i (.int kd (q:Int)),h:=st.h},⟨fun j=>?_,fun _=>rfl⟩,C⟩
    simp only
    rw[L5]
    by_cases e:j=i
    ·subst e;rw[if_pos rfl,hn]
    ·rw[if_neg e]
   ·exact⟨st,Eqv.refl _,hh⟩
 ·exact⟨st,Eqv.refl _,hh⟩
def oQ{E:Env}(hC:YT E){Q:Exit->Act->World->Prop}:∀(l:List Oper){st:St}{tr:List Foot}{k:St->List Foot->O R}{a:Act}{w:World}{J:Bool->Nat->Prop}{β:Ch},
  Inv Z E.nt J β st a w->nv E ops l st tr k=some r->(∀ st' C a' w' J' β',Inv Z E.nt J' β' st' a' w'->k st' C=some r->Q .normal a' w')->wpList E.P ops Q l a w
|[],st,tr,k,a,w,J,β,I,hh,hQ=>hQ st tr a w J β I hh
|o::l,st,tr,k,a,w,J,β,I,hh,hQ=>by
  rw[nv]at hh
  obtain⟨st0,D,hh⟩:=oP hh
  obtain⟨uX,G,hh⟩:=ja hh
  have T:=D.trans G
  obtain⟨st',f,Y,h2⟩:=oO (K:=wpList E.P ops Q l) (Q:=Q) hC (I.eqv T) hh
  have:=h2 (fun a' w' J' β' I'=>oQ hC l I' Y hQ)
  rw[wpList]
  split
  ·rename_i L;rw[if_pos L]at this;exact .inl this
  ·rename_i L;rw[if_neg L]at this;exact this
end
end Gx
namespace Gx
open Go
def Ll:∀{l:List Nat}{b:Nat},Fv l b=true↔b∈l
  |[],b=>by simp[Fv]
  | i::r,b=>by
    rw[Fv]
    cases hi:beq i b with
    |true=>have:=Axy hi;subst this;simp
    | false => have := X1 hi; simp only [cond_false, Ax7]; rw [Ll]; constructor
               · exact fun h=>.inr h
               · rintro(h | h)
                 · exact absurd h.symm this
                 · exact h
def Ud:∀{l:List Nat},QG l=true->l.Nodup
|[],_=>A33
|i::r,h=>by
  rw[QG]at h;simp at h
  refine Ay9.2 ⟨fun k=>?_,Ud h.2⟩
  rw[Ll.2 k]at h;simp at h
def gW{g:A6}{ids:List Nat}:∀{l:List Nat},nz g ids l=true->∀ b∈l,∀ x,Gd g b=some x->b∈ids
|[],_,b,k,_,_=>by simp at k
| i::r,h,b,k,x,D=>by
  rw[nz]at h;simp at h
  rcases Ax7.1 k with e|k
  ·subst e
   rcases h.1 with C|C
   ·exact Ll.1 C
   ·rw[D]at C;simp at C
  ·exact gW h.2 b k x D
def zn:∀{l:List Nat},Af8 l=true->∀ b∈l,Hr<=b->Lk b<100000
|[],_,b,k,_=>by simp at k
| i::r,h,b,k,hn=>by
  rw[Af8]at h;simp at h
  rcases Ax7.1 k with e|k
  ·subst e
   have:ble Hr b=true:=by simpa using hn
   rw[this]at h;simpa using h.1
  ·exact zn h.2 b k hn
def AM(g:A6):∀ c:LA,(Ke g c).length=c.length
|[]=>rfl
|x::r=>by rw[Ke,Ayb,Ayb,AM g r]
section
variable{R:Type}{r:R}{Z:Start}{nt:Nat}{J J':Bool->Nat->Prop}{β β':Ch}{st:St}{h h':Ay}{a:Act}{w w':World}{ids:List Nat}
def Ng(g:A6)(x:Blk):Blk:={x with cells:=cond x.pure x.cells (Ke g x.cells)}
def YV{g:A6}:∀{ids:List Nat},(ids.map Lk).Nodup->∀ c y,Am (AI g ids) c=some y->∃ b x,b∈ids/\Lk b=c/\Gd g b=some x/\y=Ng g x
|[],_,c,y,hc=>by simp[AI,Am]at hc
| b::r,hn,c,y,hc=>by
  rw[Ayc,Ay9]at hn
  rw[AI]at hc
  split at hc
  ·rename_i x L
   rw[Ah]at hc
   by_cases e:c=Lk b
   ·rw[if_pos e]at hc;simp at hc
    exact⟨b,x,by simp,e.symm,L,hc.symm⟩
   ·rw[if_neg e]at hc
    obtain⟨k,x',C,D,G,I⟩:=YV hn.2 c y hc
    exact⟨k,x',by simp[C],D,G,I⟩
  ·obtain⟨k,x',C,D,G,I⟩:=YV hn.2 c y hc
   exact⟨k,x',by simp[C],D,G,I⟩
def AN{g:A6}:∀{ids:List Nat},(ids.map Lk).Nodup->∀ b x,b∈ids->Gd g b=some x->Am (AI g ids) (Lk b)=some (Ng g x)
|[],_,b,x,k,_=>by simp at k
| G::r,hn,b,x,k,C=>by
  rw[Ayc,Ay9]at hn
  rw[AI]
  by_cases e:b=G
  ·subst e
   rw[C]
   simp only
   rw[Ah,if_pos rfl];rfl
  ·have D:b∈r:=by simpa[e]using k
   have ne:Lk b≠Lk G:=fun h=>hn.1 (by rw[<-h];exact Ayy.2 ⟨b,D,rfl⟩)
   split
   ·rw[Ah,if_neg ne];exact AN hn.2 b x D C
   ·exact AN hn.2 b x D C
def oR(ids:List Nat)(c:Nat):Option Nat:=ids.find? fun b=>beq (Lk b) c
def L7(hn:(ids.map Lk).Nodup){b:Nat}(k:b∈ids):oR ids (Lk b)=some b:=by
 induction ids with
|nil=>simp at k
| cons i r C =>
  rw[Ayc,Ay9]at hn
  unfold oR at C ⊢
  rw[List.find?_cons]
  by_cases e:b=i
  ·subst e;simp
  ·have D:b∈r:=by simpa[e]using k
   have ne:Lk i≠Lk b:=fun h=>hn.1 (by rw[h];exact Ayy.2 ⟨b,D,rfl⟩)
   rw[PL ne];exact C hn.2 D
def Apm(g:A6)(ids:List Nat)(l:List Nat):Prop:=∀ b∈l,∀ x,Gd g b=some x->b∈ids
def Ahz{b:Nat}:Gd (Am h) b=(Am h b).bind fun x=>cond x.dead none (some x):=rfl
def YW{b:Nat}{x y:Blk}(D:Am h b=some x)(k:Gd (Am h) b=some y):y=x/\x.dead=false:=by
 rw[Ahz,D]at k
 cases C:x.dead with
|true=>simp[C]at k
|false=>simp[C]at k;exact⟨k.symm,rfl⟩
mutual
def Rep.clean(hn:(ids.map Lk).Nodup):∀{x:AV}{v:Value},Apm (Am h) ids (Gv x)->Rep J β h w x v ->
  Rep J (fun c=>(oR ids c).bind β) (AI (Am h) ids) w (AH (Am h) x) v
| .own b off n,v,hm,hr=>by
  rw[Rep]at hr
  obtain⟨x,A,cap,⟨hx,hmp⟩,h1,h2,h3⟩:=hr
  rw[AH]
  cases hv:Gd (Am h) b with
  |none=>simp only;rw[Rep];trivial
  | some y =>
   obtain⟨rfl,hd⟩:=YW hx hv
   have hb:=hm b (by simp[Gv]) _ hv
   simp only
   rw[Rep]
   refine⟨Ng (Am h) y,A,cap,⟨AN hn b y hb hv,hmp⟩,h1,h2,?_⟩
   rcases h3 with h3|⟨k,o,h4,h5⟩
   ·exact .inl h3
   ·refine .inr ⟨k,o,h4,?_⟩
    rcases h5 with h5|⟨h5,h6,h7⟩
    ·simp[hd]at h5
    ·refine .inr ⟨by rw[L7 hn hb];exact h5,h6,?_⟩
     have:(Ng (Am h) y).cells.length=y.cells.length:=by
      unfold Ng;cases y.pure
      ·simp;exact AM _ _
      ·rfl
     rw[this];exact h7
| .optr b off,v,hm,hr=>by
  rw[Rep]at hr
  obtain⟨x,k,o,⟨hx,hmp⟩,h1,h2⟩:=hr
  rw[AH]
  cases hv:Gd (Am h) b with
  |none=>simp only;rw[Rep];trivial
  |some y =>
   obtain⟨rfl,hd⟩:=YW hx hv
   have hb:=hm b (by simp[Gv]) _ hv
   simp only
   rw[Rep]
   refine⟨Ng (Am h) y,k,o,⟨AN hn b y hb hv,hmp⟩,h1,?_⟩
   rcases h2 with h2|h2
   ·simp[hd]at h2
   ·exact .inr (by rw[L7 hn hb];exact h2)
| .omap b,v,hm,hr=>by
  rw[Rep]at hr
  obtain⟨x,k,⟨hx,hmp⟩,h2⟩:=hr
  rw[AH]
  cases hv:Gd (Am h) b with
  |none=>simp only;rw[Rep];trivial
  |some y =>
   obtain⟨rfl,hd⟩:=YW hx hv
   have hb:=hm b (by simp[Gv]) _ hv
   simp only
   rw[Rep]
   refine⟨Ng (Am h) y,k,⟨AN hn b y hb hv,hmp⟩,?_⟩
   rcases h2 with h2|h2
   ·simp[hd]at h2
   ·exact .inr (by rw[L7 hn hb];exact h2)
|.agg c,v,hm,hr=>by
  rw[Rep]at hr
  obtain⟨cs,h1,h2⟩:=hr
  rw[AH,Rep]
  exact⟨cs,h1,Reps.clean hn (by simpa[Gv]using hm) h2⟩
|.tup c,v,hm,hr=>by
  rw[Rep]at hr
  obtain⟨cs,h1,h2⟩:=hr
  rw[AH,Rep]
  exact⟨cs,h1,Reps.clean hn (by simpa[Gv]using hm) h2⟩
|.fn f c,v,hm,hr=>by
  rw[Rep]at hr
  obtain⟨cs,h1,h2⟩:=hr
  rw[AH,Rep]
  exact⟨cs,h1,Reps.clean hn (by simpa[Gv]using hm) h2⟩
|.pagg c o,v,hm,hr=>by show Rep J _ _ w (.pagg c o) v;rw[Rep]at hr ⊢;exact hr
|.undef,v,hm,hr=>by show Rep J _ _ w .undef v;rw[Rep]at hr ⊢;exact hr
|.imm c n sz t o,v,hm,hr=>by show Rep J _ _ w (.imm c n sz t o) v;rw[Rep]at hr ⊢;exact hr
|.iptr c o,v,hm,hr=>by show Rep J _ _ w (.iptr c o) v;rw[Rep]at hr ⊢;exact hr
|.int k n,v,hm,hr=>by show Rep J _ _ w (.int k n) v;rw[Rep]at hr ⊢;exact hr
|.bool b,v,hm,hr=>by show Rep J _ _ w (.bool b) v;rw[Rep]at hr ⊢;exact hr
|.str s,v,hm,hr=>by show Rep J _ _ w (.str s) v;rw[Rep]at hr ⊢;exact hr
|.nsl,v,hm,hr=>by show Rep J _ _ w .nsl v;rw[Rep]at hr ⊢;exact hr
|.nilptr,v,hm,hr=>by show Rep J _ _ w .nilptr v;rw[Rep]at hr ⊢;exact hr
|.nilfn,v,hm,hr=>by show Rep J _ _ w .nilfn v;rw[Rep]at hr ⊢;exact hr
def Reps.clean(hn:(ids.map Lk).Nodup):∀{c:List AV}{cs:List Value},Apm (Am h) ids (Iv c)->Reps J β h w c cs ->
  Reps J (fun c=>(oR ids c).bind β) (AI (Am h) ids) w (Ke (Am h) c) cs
|[],cs,hm,hr=>by rw[Reps]at hr;rw[Ke,Reps];exact hr
|x::r,cs,hm,hr=>by
  rw[Reps]at hr
  obtain⟨u,us,h1,h2,h3⟩:=hr
  rw[Ke,Reps]
  exact⟨u,us,h1,Rep.clean hn (fun b hb=>hm b (by simp[Iv,hb])) h2,Reps.clean hn (fun b hb=>hm b (by simp[Iv,hb])) h3⟩
end
def DA{g:A6}{K:List Nat}:∀{s:G7}{i:Nat},Gc (gO g K s) i=if Fv K i=true then AH g (Gc s i)else .undef
|[],i=>by
  simp only[gO,Gc]
  show AV.undef=if Fv K i=true then AV.undef else AV.undef
  split<;>rfl
| (t,v)::r,i=>by
  rw[gO,Gc]
  cases k:Fv K t with
  | true =>
   simp only[cond_true,Gc]
   cases hi:beq t i with
   |true =>
    have:=Axy hi;subst this
    simp[k]
   |false=>simp only[cond_false];exact DA
  | false =>
   simp only[cond_false]
   rw[DA]
   cases hi:beq t i with
   |true =>
    have:=Axy hi;subst this
    simp[k]
   |false=>rfl
def oS{K:List Nat}:∀{s:G7}{i:Nat},Fv K i=true->∀ b∈Gv (Gc s i),b∈ny K s
|[],i,_,b,k=>by simp[Gc,Gv]at k
| (t,v)::r,i,C,b,k=>by
  rw[Gc]at k
  rw[ny]
  cases hi:beq t i with
  |true =>
   have:=Axy hi;subst this
   rw[hi]at k
   rw[C];simp at k ⊢;exact .inl k
  |false =>
   rw[hi]at k
   have:=oS C b k
   cases Fv K t
   ·exact this
   ·simp;exact .inr this
def gX{g:A6}:∀{ids:List Nat}{b:Nat}{x:Blk},b∈ids->g b=some x->x.pure=false->∀ c∈Iv x.cells,c∈Lj g ids
|[],b,x,k,_,_,_,_=>by simp at k
|i::r,b,x,k,C,D,c,hc=>by
  rw[Lj]
  by_cases e:b=i
  ·subst e;rw[C];simp only[D,cond_false];exact Axz.2 (.inl hc)
  ·exact Axz.2 (.inr (gX (by simpa[e]using k) C D c hc))
def gY:∀{c:LA}{j:Nat}{x:AV},c[j]?=some x->∀ b∈Gv x,b∈Iv c
|[],j,x,k,_,_=>by simp at k
|y::r,j,x,k,b,C=>by
  rw[Iv]
  cases j with
  |zero=>simp at k;subst k;exact Axz.2 (.inl C)
  |succ j=>exact Axz.2 (.inr (gY (by simpa using k) b C))
def jb{g:A6}:∀{c:LA}{j:Nat}{y:AV},(Ke g c)[j]?=some y->∃ x,c[j]?=some x/\y=AH g x
|[],j,y,k=>by simp[Ke]at k
|x::r,j,y,k=>by
  rw[Ke]at k
  cases j with
  |zero=>simp at k;exact⟨x,by simp,k.symm⟩
  |succ j=>obtain⟨x',C,D⟩:=jb (c:=r) (j:=j) (by simpa using k);exact⟨x',by simpa using C,D⟩
def Ah0{b:Nat}(k:b<Hr):Lk b=b:=by
 unfold Lk
 have:ble Hr b=false:=by
  cases h:ble Hr b with
  |false=>rfl
  |true=>have:=A0t h;omega
 rw[this];rfl
def zo{K roots:List Nat}{st':St}(I:Inv Z nt J β st a w)(hh:clean K roots st=some st'):∃ β',Inv Z nt J β' st' a w:=by
 unfold clean at hh
 obtain⟨hc,h1⟩:_/\_:=uc hh
 simp only[Axr]at hc
 obtain⟨c1,c2,c3,c4⟩:=hc
 generalize hids:C_ (Am st.h) (AG (Am st.h) (ny K st.s++roots))=ids at *
 simp at h1
 have hn:=Ud c1
 have blk:∀ c y,Am (AI (Am st.h) ids) c=some y->∃ b x,b∈ids/\Lk b=c/\Am st.h b=some x/\x.dead=false/\y=Ng (Am st.h) x:=by
  intro c y T
  obtain⟨b,x,g1,g2,g3,g4⟩:=YV hn c y T
  have D:Am st.h b=some x/\x.dead=false:=Dr (fun _ _ h=>h) g3
  exact⟨b,x,g1,g2,D.1,D.2,g4⟩
 have Y:∀ x:Blk,(Ng (Am st.h) x).cells.length=x.cells.length:=fun x=>by
  unfold Ng;cases x.pure
  ·simp;exact AM _ _
  ·rfl
 refine⟨fun c=>(oR ids c).bind β,?_⟩
 subst h1
 refine⟨⟨I.sim.jlt,I.sim.jft,I.sim.gl,fun c y T hd hm=>?_,fun c y T hd hm=>by
   obtain⟨b,x,G,rfl,D,C,rfl⟩:=blk c y T
   obtain⟨g1,g2,k,ob,g3,g4,g5,g6⟩:=I.sim.mblk b x D C hm
   have:(Ng (Am st.h) x).cells=x.cells:=by unfold Ng;rw[g1];rfl
   exact⟨g1,g2,k,ob,by simp only[L7 hn G,Azl];exact g3,g4,by rw[ObjIs,show(Ng (Am st.h) x).sz=x.sz from rfl,this];exact g5,g6⟩,?_⟩,⟨fun i v hv=>?_,fun i hi=>?_⟩,I.tmps,I.defers,I.os,I.tape,I.output,I.size,I.frame,?_,I.jsub,I.jup,I.sizes,I.zlt,I.zge,?_⟩
 ·obtain⟨b,x,G,rfl,D,C,rfl⟩:=blk c y T
  rcases I.sim.blk b x D C hm with⟨g1,g2⟩|⟨k,o,cs,ty,fr,g1,g2,g3,g4,g5,g6,g7⟩
  ·refine .inl ⟨by simp only[L7 hn G,Azl];exact g1,?_⟩
   have:=Y x;rw[g2]at this;simpa using this
  ·refine .inr ⟨k,o,cs,ty,fr,by simp only[L7 hn G,Azl];exact g1,g2,g3,by rw[Y];exact g4,⟨fun hp=>?_,fun hp j q hj=>?_⟩,g6,g7⟩
   ·have L:x.pure=true:=hp
    have:(Ng (Am st.h) x).cells=x.cells:=by unfold Ng;rw[L];rfl
    rw[this];exact g5.1 L
   ·have L:x.pure=false:=hp
    have:(Ng (Am st.h) x).cells=Ke (Am st.h) x.cells:=by unfold Ng;rw[L];rfl
    rw[this]at hj
    obtain⟨q',hq,rfl⟩:=jb hj
    obtain⟨u,hu,hr,ho⟩:=g5.2 L j q' hq
    exact⟨u,hu,Rep.clean hn (fun b' hb' x' hx'=>gW c3 b' (gX G D L b' (gY hq b' hb')) x' hx') hr,ho⟩
 ·intro c c' y y' k o o' T hy' hd hd' hs hβ hβ'
  obtain⟨b,x,G,rfl,D,C,rfl⟩:=blk c y T
  obtain⟨b',x',hb',rfl,hx',hxd',rfl⟩:=blk c' y' hy'
  simp only[L7 hn G,Azl]at hβ
  simp only[L7 hn hb',Azl]at hβ'
  rw[I.sim.sep b b' x x' k o o' D hx' C hxd' hs hβ hβ']
 ·rw[DA]
  split
  ·rename_i hk
   exact Rep.clean hn (fun b G x D=>gW c2 b (oS hk b G) x D) (I.ss.slot i v hv)
  ·rw[Rep];trivial
 ·rw[DA,I.ss.out i hi]
  split
  ·rfl
  ·rfl
 ·rintro k ⟨c,y,o,T,hd,hs,hβ⟩ hk
  obtain⟨b,x,G,rfl,D,C,rfl⟩:=blk c y T
  simp only[L7 hn G,Azl]at hβ
  exact I.wr k ⟨b,x,o,D,C,hs,hβ⟩ hk
 ·intro c x0 y h0 T hd
  obtain⟨b,x,G,rfl,D,C,rfl⟩:=blk c y T
  have hlt:=I.zlt _ _ h0
  have hge:=I.zge _ _ h0
  have hbo:Lk b=b:=by
   by_cases hnb:Hr<=b
   ·have:=zn c4 b G hnb;omega
   ·exact Ah0 (by omega)
  rw[hbo]at h0
  obtain⟨⟨e1,em⟩,e2,e3,e4⟩:=I.outs b x0 x h0 D C
  refine⟨⟨?_,em⟩,e2,by rw[Y];exact e3,e4⟩
  simp only[L7 hn G,Azl];rw[hbo];exact e1
end
end Gx
namespace Gx
open Go
section
variable{R:Type}
def Ap{α β:Type}(b:Bool)(x y:Option α)(f:α->Option β):(cond b x y).bind f=cond b (x.bind f) (y.bind f):=by cases b<;>rfl
def Yz{R':Type}(P:Program)(t:TypeId)(c:LA)(o:Bool)(k:Bool->Option R')(f:R'->O R):(Yw P t c o k).bind f=Yw P t c o fun o=>(k o).bind f:=by unfold Yw;simp only[Ap,A2b]
def Ue(P:Program)(t:TypeId)(c:LA)(org:Bool)(k:AV->O R):QB P t c org k=(QB P t c org some).bind k:=by
 unfold QB
 split<;>simp[Axp,Ap,Yz]<;>rfl
def Adk(P:Program)(t:TypeId)(c:LA)(k:AV->O R):jX P t c k=(jX P t c some).bind k:=by
 unfold jX
 split<;>simp[Axp,Ap]
def jc(n:Nat)(k:AV->O R):∀(c:LA)(i:Nat),JO n k c i=(JO n some c i).bind k
|[],_=>rfl
|v::r,i=>by rw[JO,JO,Ap,jc n k r (i+1)];rfl
def jd(P:Program)(t:TypeId)(c:LA)(off:Nat)(k:AV->O R):QC P t c off k=(QC P t c off some).bind k:=by
 unfold QC
 split
 ·simp[Axp,Ap]
 ·simp[Axp,Ap]
 ·exact jc ..
 ·rfl
def KC(P:Program)(g:A6)(t:TypeId)(p:AV)(k:AV->O R):nk P g t p k=(nk P g t p some).bind k:=by
 unfold nk
 split
 ·exact Ue ..
 ·rw[Axp]
  congr 1;funext x
  rw[Ap,<-Ue,<-jd]
 ·rfl
def NX(P:Program)(t:TypeId)(x i:AV)(k:AV->O R):T4 P t x i k=(T4 P t x i some).bind k:=by
 unfold T4
 split<;>simp[Axp,Ap]
def oT{R':Type}(i:Int)(k:Nat->O R)(C:R->Option R'):∀ m j,(jY i k m j).bind C=jY i (fun q=>(k q).bind C) m j
|0,_=>rfl
|m+1,j=>by rw[jY,jY,Ap,oT i k C m (j+1)]
def NY(P:Program)(t:TypeId)(x:AV)(f:Nat)(k:AV->O R):T5 P t x f k=(T5 P t x f some).bind k:=by
 unfold T5
 simp only[Axp,Ap]
 congr 1;funext p;congr 1;funext n;congr 1
 split<;>rfl
def je(P:Program)(t:TypeId)(x:AV)(f:Nat)(k:AV->O R):gB P t x f k=(gB P t x f some).bind k:=by
 unfold gB
 rw[Axp]
 congr 1;funext p
 split
 ·exact Ue ..
 ·exact Adk ..
 ·rfl
def jf(P:Program)(t:TypeId)(x i:AV)(k:AV->O R):gC P t x i k=(gC P t x i some).bind k:=by
 unfold gC
 split
 ·simp[Ap]
 ·simp only[Axp,Ap,<-Ue];rfl
 ·simp only[Axp,Ap,<-jd];rfl
 ·rfl
def Y0{α:Type}(lo hi mx:Option AV)(n:Nat)(f:Nat->Nat->α)(k:α->O R):(Yx lo hi mx n fun l h=>k (f l h))=(Yx lo hi mx n fun l h=>some (f l h)).bind k:=by
 unfold Yx
 simp[Axp,Ap]
def jg(P:Program)(g:A6)(t:TypeId)(x:AV)(lo hi mx:Option AV)(k:AV->O R):gD P g t x lo hi mx k=(gD P g t x lo hi mx some).bind k:=by
 unfold gD
 split
 ·rw[Ap,<-Y0];rfl
 ·rw[Axp];congr 1;funext _;exact Y0 lo hi mx 0 (fun _ _=>AV.nsl) k
 ·rw[Axp];congr 1;funext _;rw[Ap,<-Y0];rfl
 ·rw[Axp];congr 1;funext _;rw[Axp];congr 1;funext _;rw[Ap,<-Y0];rfl
 ·simp only[Axp,Ap];rfl
 ·rfl
def Ah1(P:Program)(t:TypeId)(op:BinOp)(x y:AV)(k:AV->O R):Ahn P t op x y k=(Ahn P t op x y some).bind k:=by
 unfold Ahn
 split
 ·split<;>simp[Ap]
 ·split<;>simp[Ap]
 ·split<;>simp[Ap]
 ·rfl
def pr(v:AV)(u:D7):Option (AV×D7):=some (v,u)
def AO(P:Program)(c:LA)(org:Bool):∀(L:List (Nat×TypeId))(C:LA)(k:LA->O R),NP P c org L C k=(NP P c org L C some).bind k
|[],C,k=>rfl
|(off,t)::L,C,k=>by
  rw[NP,NP,Ap]
  congr 1
  rw[Ue,Ue (k:=fun v=>NP P c org L (C++[v]) some),Axp]
  congr 1;funext v
  exact AO P c org L _ k
def zp{R':Type}(P:Program)(c:LA)(org:Bool)(L:List (Nat×TypeId))(C:LA)(k:LA->O R)(f:R->Option R'):(NP P c org L C k).bind f=NP P c org L C fun l=>(k l).bind f:=by rw[AO,Axp,<-AO]
def zq(P:Program)(g:A6)(t:TypeId)(p v:AV)(k:AV->D7->O R):gE P g t p v k=(gE P g t p v pr).bind fun q=>k q.1 q.2:=by
 unfold gE
 split
 ·simp only[Axp,Ap]
  congr 1;funext x;congr 1;funext n;congr 1;congr 1
  split<;>simp[Ap,zp,pr]
 ·rfl
def jh(P:Program)(co:Bool)(t:TypeId)(v:AV)(k:AV->O R):gG P co t v k=(gG P co t v some).bind k:=by
 unfold gG
 split
 ·rename_i c org
  rw[AO,AO (k:=fun l=>cond (beq c.length l.length) (some (AV.agg l)) none),Axp]
  congr 1;funext l
  rw[Ap];rfl
 ·rfl
def uY(P:Program)(g:A6)(d:Nat)(t:TypeId)(v:AV)(k:AV->D7->O R):zP P g d t v k=(zP P g d t v pr).bind fun q=>k q.1 q.2:=by
 unfold zP
 split<;>simp[Axp,Ap,pr]
def gZ(P:Program)(g:A6)(d:Nat)(t:TypeId)(len:Nat)(ps:List (Nat×AV))(k:AV->D7->O R):Ra P g d t len ps k=(Ra P g d t len ps pr).bind fun q=>k q.1 q.2:=by
 unfold Ra
 split<;>simp[Axp,Ap,pr,Wm]
def l8(P:Program)(g:A6)(d:Nat)(t:TypeId)(len:Nat)(ps:List (Nat×AV))(k:AV->D7->O R):T6 P g d t len ps k=(T6 P g d t len ps pr).bind fun q=>k q.1 q.2:=by
 unfold T6
 split<;>simp[Axp,Ap,pr]
def xI(P:Program)(g:A6)(t:TypeId)(ps:List (Nat×AV))(k:AV->D7->O R):UB P g t ps k=(UB P g t ps pr).bind fun q=>k q.1 q.2:=by
 unfold UB
 simp[Axp,pr,Wm]
def Ah2(P:Program)(t:TypeId)(co:Bool)(d:Nat)(v:AV)(k:AV->D7->O R):Ahq P t co d v k=(Ahq P t co d v pr).bind fun q=>k q.1 q.2:=by
 unfold Ahq
 split<;>simp[Ap,pr]
def Adl(P:Program)(d:Nat)(t:TypeId)(l c:AV)(k:AV->D7->O R):uJ P d t l c k=(uJ P d t l c pr).bind fun q=>k q.1 q.2:=by
 unfold uJ
 split<;>simp[Axp,Ap,pr]
def xJ(P:Program)(g:A6)(d:Nat)(t tx:TypeId)(s x:AV)(k:AV->D7->O R):UD P g d t tx s x k=(UD P g d t tx s x pr).bind fun q=>k q.1 q.2:=by
 unfold UD YM
 split<;>simp[Axp,Ap,pr,Yz]
def ji{α:Type}(kd:IntKind):∀(n:Nat)(c:LA)(f:LA->Option α)(k:α->O R),YO kd n c (fun l=>(f l).bind k)=(YO kd n c f).bind k
|0,_,_,_=>rfl
|n+1,c,f,k=>by
  simp only[YO,Axp]
  congr 1;funext x;congr 1;funext v
  exact ji kd n _ (fun l=>f (.int kd v::l)) k
def zr(P:Program)(C sz b off n:Nat)(y:Blk)(new:LA×Nat×Bool)(k:AV->D7->O R):gH P C sz b off n y new k=(gH P C sz b off n y new pr).bind fun q=>k q.1 q.2:=by
 unfold gH
 split
 ·rw[Ap,<-ji];rfl
 ·rfl
def Adm(P:Program)(g:A6)(t:TypeId)(s x:AV)(k:AV->D7->O R):uK P g t s x k=(uK P g t s x pr).bind fun q=>k q.1 q.2:=by
 unfold uK YM
 split
 ·simp only[Axp,Ap,Yz,<-zr];rfl
 ·simp[Axp,Ap,pr,Yz]
 ·rfl
def xK(P:Program)(g:A6)(d:Nat)(t:TypeId)(k:AV->D7->O R):UC P g d t k=(UC P g d t pr).bind fun q=>k q.1 q.2:=by
 unfold UC
 split<;>simp[Ap,pr]
def zt(P:Program)(g:A6)(t:TypeId)(s:AV)(k:AV->D7->O R):gJ P g t s k=(gJ P g t s pr).bind fun q=>k q.1 q.2:=by
 unfold gJ
 split<;>simp[Axp,Ap,pr]
def Adn(P:Program)(g:A6)(d:Nat)(src dst:TypeId)(x:AV)(k:AV->D7->O R):uL P g d src dst x k=(uL P g d src dst x pr).bind fun q=>k q.1 q.2:=by
 unfold uL
 split
 ·split<;>simp[Ap,pr]
 ·split
  ·split<;>simp[pr]
  ·split
   ·split<;>simp[Axp,pr]
   ·rfl
  ·rfl
 ·split
  ·rw[Ap,Axp];simp only[Ap];rfl
  ·rfl
  ·rfl
 ·rfl
def zu(P:Program)(g:A6)(d:Nat)(src dst:TypeId)(x:AV)(k:AV->D7->O R):gK P g d src dst x k=(gK P g d src dst x pr).bind fun q=>k q.1 q.2:=by
 unfold gK
 split
 ·split
  ·simp only[Axp,Ap];rfl
  ·rfl
 ·split
  ·simp only[Axp,Ap];rfl
  ·rfl
 ·exact Adn ..
def l_(g:A6)(x:AV)(k:AV->D7->O R):T7 g x k=(T7 g x pr).bind fun q=>k q.1 q.2:=by
 unfold T7
 split
 ·rfl
 ·simp only[Axp,Ap];rfl
 ·rfl
def lc(P:Program)(g:A6)(t:TypeId)(x n:AV)(k:AV->D7->O R):T8 P g t x n k=(T8 P g t x n pr).bind fun q=>k q.1 q.2:=by
 unfold T8
 split
 ·rw[Ap];rfl
 ·simp only[Axp]
  congr 1;funext y;congr 1;funext q
  split
  ·simp only[Axp,Ap];rfl
  ·rfl
 ·rfl
def YX{R':Type}{f:R'->O R}{s1:TypeId->LA->LA->(Bool->Option R')->Option R'}{s2:TypeId->LA->LA->(Bool->O R)->O R}(hs:∀ t x y k,(s1 t x y k).bind f=s2 t x y fun b=>(k b).bind f){x y:LA}:
  ∀(l:List (Nat×TypeId))(k:Bool->Option R'),(GI s1 x y l k).bind f=GI s2 x y l fun b=>(k b).bind f
|[],k=>rfl
|(o,t)::r,k=>by
  rw[GI,GI,hs]
  congr 1;funext b
  exact YX hs r _
def UL{R':Type}{f:R'->O R}(P:Program):∀(d:Nat)(t:TypeId)(x y:LA)(k:Bool->Option R'),(lZ P d t x y k).bind f=lZ P d t x y fun b=>(k b).bind f
|0,t,x,y,k=>rfl
|d+1,t,x,y,k=>by
  rw[lZ,lZ]
  split<;>simp only[Axp,Ap,A2b]
  ·congr 1;funext sz;rw[YX (UL P d)]
  ·congr 1;funext s;congr 1;funext sz;rw[YX (UL P d)]
def Ado(P:Program)(t:TypeId)(op:BinOp)(x y:AV)(k:AV->O R):uG P t op x y k=(uG P t op x y some).bind k:=by
 unfold uG
 split
 ·rw[Axp]
  congr 1;funext s
  rw[Ap]
  congr 1
  split
  ·rw[UL];rfl
  ·rw[UL];rfl
  ·rfl
 ·exact Ah1 ..
def oU(P:Program)(g:A6)(t:TypeId)(op:BinOp)(x y:AV)(k:AV->O R):uP P g t op x y k=(uP P g t op x y some).bind k:=by
 unfold uP
 split
 ·rw[Ap];congr 1;split<;>rfl
 ·exact Ado ..
def oV(c x y:AV)(k:AV->O R):uS c x y k=(uS c x y some).bind k:=by
 unfold uS
 split<;>first|rfl|(rw[Ap];rfl)
def zw(P:Program)(g:A6)(co:Bool)(d:Nat)(t:TypeId)(k:AV->D7->O R):gF P g co d t k=(gF P g co d t pr).bind fun q=>k q.1 q.2:=by
 unfold gF
 split
 ·rw[Axp];rfl
 ·exact uY ..
 ·rfl
def oW:∀(T:List (Nat×Tw))(f:Nat)(C:LA)(h:Ay)(k:AV->Ay->O R),bS T f C h k=(bS T f C h fun v h'=>some (v,h')).bind fun p=>k p.1 p.2
|[],f,C,h,k=>rfl
|(g,t)::r,f,C,h,k=>by
  rw[bS,bS]
  cases beq g f
  ·exact oW r f C h k
  ·exact t.eq C h k
def Adp(E:Env)(g:A6)(d f:Nat)(C:LA)(k:AV->D7->O R):uQ E g d f C k=(uQ E g d f C pr).bind fun q=>k q.1 q.2:=by
 unfold uQ
 rw[Axp]
 congr 1;funext q
 simp only[Ap,A2b]
 congr 1
 rw[oW,oW (R:=AV×D7),Axp]
 congr 1;funext p
 simp only[Ap,A2b,pr,Azl]
def sZ(d:Nat)(o:Option AV)(k:AV->D7->O R):AF d o k=(AF d o pr).bind fun q=>k q.1 q.2:=by
 unfold AF
 split<;>rfl
def zx(P:Program)(g:A6)(t:TypeId)(m x y:AV)(k:AV->D7->O R):gL P g t m x y k=(gL P g t m x y pr).bind fun q=>k q.1 q.2:=by
 unfold gL
 split<;>simp[Ap,Axp,pr]
def zy(P:Program)(d:Nat)(t:TypeId)(x:AV)(k:AV->D7->O R):gM P d t x k=(gM P d t x pr).bind fun q=>k q.1 q.2:=by
 unfold gM
 split<;>rfl
def Adq(g:A6)(it:AV)(b:Bool)(k:AV->D7->O R):uO g it b k=(uO g it b pr).bind fun q=>k q.1 q.2:=by
 unfold uO
 split
 ·rw[Axp];congr 1;funext x
  rw[Ap];congr 1
  split
  ·rename_i s p _
   cases decide (p<(s.length:Int))<;>rfl
  ·rfl
 ·rfl
def oX(P:Program)(g:A6)(t:TypeId)(m x:AV)(c:Bool)(k:AV->O R):uM P g t m x c k=(uM P g t m x c some).bind k:=by
 unfold uM
 split<;>simp[Ap,Axp]
def Ah3(E:Env)(g:A6)(d:Nat)(v:Operand->AV)(o:Op)(k:AV->D7->O R):sS E g d v o k=(sS E g d v o pr).bind fun q=>k q.1 q.2:=by
 unfold sS
 split
 ·rfl
 ·rfl
 ·rw[oV,oV (k:=fun r=>pr r []),Axp];rfl
 ·rw[Ap,<-xK,<-zw]
 ·rw[jh,jh (k:=fun u=>zP E.P g d _ u pr),Axp];congr 1;funext u;exact uY ..
 ·rw[Ap,<-xI];congr 1;rw[YR,YR,Axp];congr 1;funext x;exact Ah2 ..
 ·rw[Ap,<-l8,<-gZ]
 ·rw[KC,KC (k:=fun r=>pr r []),Axp];rfl
 ·exact zq ..
 ·split<;>rfl
 ·rw[oU,oU (k:=fun r=>pr r []),Axp];rfl
 ·rw[Axp];rfl
 ·exact zu ..
 ·rw[Ap];rfl
 ·exact Adl ..
 ·rw[jg,jg (k:=fun r=>pr r []),Axp];rfl
 ·rw[NY,NY (k:=fun r=>pr r []),Axp];rfl
 ·rw[je,je (k:=fun r=>pr r []),Axp];rfl
 ·rw[NX,NX (k:=fun r=>pr r []),Axp];rfl
 ·rw[jf,jf (k:=fun r=>pr r []),Axp];rfl
 ·exact sZ ..
 ·exact zx ..
 ·rw[oX,oX (k:=fun r=>pr r []),Axp];rfl
 ·exact zy ..
 ·exact Adq ..
 ·split
  ·rw[Axp];rfl
  ·rfl
 ·split
  ·split
   ·rw[Axp];rfl
   ·rfl
  ·split
   ·exact xJ ..
   ·rfl
  ·split
   ·exact Adm ..
   ·rfl
  ·split
   ·exact zt ..
   ·rfl
  ·split
   ·rw[Axp];rfl
   ·simp only[Axp];rfl
   ·rfl
  ·split
   ·rw[Axp];rfl
   ·simp only[Axp];rfl
   ·rfl
  ·split
   ·exact l_ ..
   ·rfl
  ·split
   ·exact lc ..
   ·rfl
  ·split
   ·rw[Ap,<-Adp,Ap];congr 1;congr 1
    split<;>rfl
   ·rfl
  ·rfl
 ·rfl
end
end Gx
namespace Gx
open Go
def GR:∀{l k:List Nat}{b:Nat},b∈j2 l k↔b∈l\/b∈k
|[],k,b=>by simp[j2]
| i::r,k,b=>by
  rw[j2]
  cases C:Fv k i with
  | true =>
   simp only[cond_true]
   rw[GR]
   have:=Ll.1 C
   constructor
   ·rintro(h|h)
    ·exact .inl (by simp[h])
    ·exact .inr h
   ·rintro(h|h)
    ·rcases Ax7.1 h with e|h
     ·subst e;exact .inr this
     ·exact .inl h
    ·exact .inr h
  | false =>
   simp only[cond_false]
   rw[GR]
   simp only[Ax7]
   constructor
   ·rintro(h|h|h)
    ·exact .inl (.inr h)
    ·exact .inl (.inl h)
    ·exact .inr h
   ·rintro((h|h)|h)
    ·exact .inr (.inl h)
    ·exact .inl h
    ·exact .inr (.inr h)
def DB{g g':A6}:∀{l:List Nat},(∀ b∈l,g' b=g b)->Lj g' l=Lj g l
|[],_=>rfl
|i::r,h=>by rw[Lj,Lj,h i (by simp),DB (fun b k=>h b (by simp[k]))]
def b_{g:A6}:∀{a b:List Nat},Lj g (a++b)=Lj g a++Lj g b
|[],b=>rfl
|i::r,b=>by rw[Ayu,Lj,Lj,b_,Azz]
def Aaa{g g':A6}{ids:List Nat}(h:∀ b∈AG g ids,g' b=g b):AG g' ids=AG g ids:=by
 have C:∀ b∈ids,g' b=g b:=fun b k=>h b (GR.2 (.inl (Axz.2 (.inl k))))
 have e1:Lj g' ids=Lj g ids:=DB C
 have D:∀ b∈Lj g ids,g' b=g b:=fun b k=>h b (GR.2 (.inl (Axz.2 (.inr (by rw[b_];exact Axz.2 (.inl k))))))
 unfold AG
 rw[e1,DB (l:=ids++Lj g ids) (fun b k=>by
  rcases Axz.1 k with k|k
  ·exact C b k
  ·exact D b k)]
section
variable{R:Type}{E:Env}{ops:Array Oper}{o p:Oper}{st uX st2:St}
def jj{v v':Operand->AV}{parts:Array (Nat×Operand)}(h:∀ q∈parts.toList,v' q.2=v q.2):(parts.toList.map fun q=>(q.1,v' q.2))=(parts.toList.map fun q=>(q.1,v q.2)):=A1o (fun q hq=>by rw[h q hq])
def Adr {g:A6} {d:Nat} {v v':Operand->AV} {op:Op} {k:AV->D7->O R} (h:∀ x ∈ op.operands.toList,v' x=v x):sS E g d v' op k=sS E g d v op k:=by
  unfold sS
  cases op
  case build t parts =>
    simp only
    rw[jj (v:=v) (v':=v') (fun q hq=>h q.2 (by simp[Op.operands];exact⟨q.1,by simpa using hq⟩))]
  case buildSlice t n parts =>
    simp only
    rw[jj (v:=v) (v':=v') (fun q hq=>h q.2 (by simp[Op.operands];exact⟨q.1,by simpa using hq⟩))]
  case slice t x lo hi mx =>
    simp only
    have C:v' x=v x:=h x (by simp[Op.operands])
    have I:lo.map v'=lo.map v:=by
      cases lo with
      |none=>rfl
      |some y=>simp;exact h y (by simp[Op.operands])
    have L:hi.map v'=hi.map v:=by
      cases hi with
      |none=>rfl
      |some y=>simp;exact h y (by simp[Op.operands])
    have T:mx.map v'=mx.map v:=by
      cases mx with
      |none=>rfl
      |some y=>simp;exact h y (by simp[Op.operands])
    rw[C,I,L,T]
  case makeMap t rr =>
    simp only
    have C:rr.map v'=rr.map v:=by
      cases rr with
      |none=>rfl
      |some y=>simp;exact h y (by simp[Op.operands])
    rw[C]
  case makeFunc f first caps =>
    cases f<;>try rfl
    simp only
    have:(first.toList++caps.toList).map v'=(first.toList++caps.toList).map v:=A1o (fun x G=>h x (by simp[Op.operands];simpa using G))
    rw[this]
  case call c =>
    have D:∀ x ∈ c.args.toList,v' x=v x:=fun x G=>h x (by
      simp only[Op.operands,Call.operands,Array.toList_append]
      exact Axz.2 (.inr G))
    have Y:c.args.toList.map v'=c.args.toList.map v:=A1o D
    simp only
    cases hc:c.callee with
    | value f =>
      have hf:v' f=v f:=h f (by simp[Op.operands,Call.operands,hc])
      simp only[hf,Y]
    |invoke a b=>rfl
    | builtin b =>
      cases b<;>try rfl
      all_goals
        simp only
        split
        · first
            | (rename_i C I
               simp only[C,Ax7,A3k,or_false,forall_eq_or_imp,forall_eq]at D
               simp only[D])
            | (rename_i C
               simp only[C,Ax7,A3k,or_false,forall_eq_or_imp,forall_eq]at D
               simp only[D])
        all_goals first
          |rfl
          | (rename_i C
             simp only[C,Ax7,A3k,or_false,forall_eq_or_imp,forall_eq]at D
             simp only[D])
  all_goals first
    |rfl
    |(simp[Op.operands]at h;simp[h])
end
end Gx
namespace Gx
open Go
section
variable{R:Type}{E:Env}{ops:Array Oper}{o p:Oper}{st uX st2 st3:St}
def Agd(ops:Array Oper)(o:Oper):List Nat:=match UE ops o with|some p=>[p.1]|none=>[]
def FL(o:Oper)(s:G7):LA:=o.op.operands.toList.map (ev s)
def xL(h:Ay)(F:List Nat):A6:=fun b=>cond (Fv F b) (Am h b) none
def Av1(o:Oper):Nat:=o.dst.getD 50000
def Tp (E:Env) (ops:Array Oper) (o:Oper) (st:St):Option (AV×D7×Foot) :=
  (JR ops st.s o).bind fun wanted=>cond wanted
    ((sS E (xL st.h (Xk st.h o.op (FL o st.s))) (Av1 o) (ev st.s) o.op pr).bind fun q =>
      cond (WU (Av1 o) (Xk st.h o.op (FL o st.s)) st.h q.2) (some (q.1,q.2,{ r:=Agd ops o++YQ o.op.operands.toList,w:=o.dst,f:=Xk st.h o.op (FL o st.s),u:=q.2.map (·.1) })) none)
    (some (.tup [],[],{r:=Agd ops o,w:=o.dst,f:=[],u:=[]}))
def after(E:Env)(o:Oper)(st:St)(q:AV×D7×Foot):St:={s:=Ac8 E.nt st.s o.dst q.1,h:=An q.2.1 st.h}
def UM(k:St->Foot->O R):zT E ops o st k=(Tp E ops o st).bind fun q=>k (after E o st q) q.2.2:=by
 unfold zT Tp
 rw[Axp]
 congr 1;funext t
 rw[Ap]
 congr 1
 rw[Ah3,Axp]
 congr 1;funext q
 rw[Ap]
 rfl
def oY:∀{l:List Operand}{t:Nat},Operand.tmp t∈l->t∈YQ l
|[],t,h=>by simp at h
| x::r,t,h=>by
  rcases Ax7.1 h with e|h'
  ·subst e;simp[YQ]
  ·have k:=oY h'
   cases x<;>simp[YQ]<;>first|exact .inr k|exact k
def jk{d:Nat}{F:List Nat}{h k:Ay}:∀{ups:D7},(∀ b∈ups.map (·.1),Am k b=Am h b)->WU d F k ups=WU d F h ups
|[],_=>rfl
|(b,_)::r,hh=>by rw[WU,WU,hh b (by simp),jk (fun c hc=>hh c (by simp at hc ⊢;exact .inr hc))]
def W_{s s2:G7}(h:∀ t∈Agd ops o,Gc s2 t=Gc s t):JR ops s2 o=JR ops s o:=by
 unfold JR
 cases k:o.guard with
|none=>rfl
| some q =>
  obtain⟨j,want⟩:=q
  simp only
  cases C:(ops[j]?).bind (·.dst)with
  |none=>rfl
  |some t =>
   have:Gc s2 t=Gc s t:=h t (by simp[Agd,UE,k,C])
   simp only[this]
def QR{q:AV×D7×Foot}(hc:Tp E ops o st=some q)(hr:∀ t∈q.2.2.r,Gc st2.s t=Gc st.s t)(k:∀ b,b∈q.2.2.f\/b∈q.2.2.u->Am st2.h b=Am st.h b):Tp E ops o st2=some q:=by
 have hc0:=hc
 unfold Tp at hc
 obtain⟨t,G,I⟩:=ub hc
 cases t with
|false =>
  simp at I;subst I
  unfold Tp
  rw[W_ (s:=st.s) hr,G];rfl
| true =>
  rw[cond_true]at I
  obtain⟨x,hx,h2⟩:=ub I
  obtain⟨hu,Y⟩:=uc h2
  simp at Y;subst Y
  simp only at hr k
  have hv:∀ y∈o.op.operands.toList,ev st2.s y=ev st.s y:=fun y hy=>by
   cases y with
   |tmp t=>exact hr t (Axz.2 (.inr (oY hy)))
   |const _=>rfl
   |global _=>rfl
   |func _=>rfl
  have C:FL o st2.s=FL o st.s:=A1o hv
  have hF:Xk st2.h o.op (FL o st.s)=Xk st.h o.op (FL o st.s):=by
   unfold Xk at k ⊢
   cases L:Af6 o.op with
   |true =>
    rw[L]at k
    cases T:Af7 o.op with
    |true=>rfl
    |false=>rw[T]at k;exact Aaa (fun b D=>k b (.inl D))
   |false=>rfl
  have hm:xL st2.h (Xk st.h o.op (FL o st.s))=xL st.h (Xk st.h o.op (FL o st.s)):=by
   funext b
   unfold xL
   cases D:Fv (Xk st.h o.op (FL o st.s)) b with
   |false=>rfl
   |true=>simp only[cond_true];exact k b (.inl (Ll.1 D))
  unfold Tp
  rw[W_ (s:=st.s) (fun t G=>hr t (Axz.2 (.inl G))),G]
  simp only[Azl,cond_true]
  rw[C,hF,hm,Adr hv,hx]
  simp only[Azl]
  rw[jk (h:=st.h) (fun b D=>k b (.inr D)),hu]
  rfl
def UN:∀{ups:D7}{b:Nat},A4 ups b=true↔b∈ups.map (·.1)
|[],b=>by simp[A4]
| (i,_)::r,b=>by
  rw[A4]
  cases hi:beq i b with
  |true=>have:=Axy hi;subst this;simp
  | false =>
   have ne:=X1 hi
   simp only[cond_false]
   rw[UN]
   simp only[Ayc,Ax7]
   constructor
   ·exact fun h=>.inr h
   ·rintro(h|h)
    ·exact absurd h.symm ne
    ·exact h
def Age{q:AV×D7×Foot}(hc:Tp E ops o st=some q):q.2.2.w=o.dst/\q.2.2.u=q.2.1.map (·.1):=by
 unfold Tp at hc
 obtain⟨t,G,k⟩:=ub hc
 cases t with
|false=>simp at k;subst k;simp
|true =>
  rw[cond_true]at k
  obtain⟨x,I,D⟩:=ub k
  obtain⟨L,C⟩:=uc D
  simp at C;subst C;simp
def G8:∀(ups:D7){h k:Ay},(∀ b,Am k b=Am h b)->∀ b,Am (An ups k) b=Am (An ups h) b
|[],_,_,hh,b=>hh b
|(i,some x)::r,h,k,hh,b=>G8 r (fun c=>by rw[Ah,Ah,hh c]) b
|(i,none)::r,h,k,hh,b=>by
  rw[An,An]
  refine G8 r (fun c=>?_) b
  rw[hh i]
  split
  ·rw[Ah,Ah,hh c]
  ·exact hh c
def Aab{q:AV×D7×Foot}(h:Eqv st st2):Eqv (after E o st q) (after E o st2 q):=by
 refine⟨fun t=>?_,fun b=>?_⟩
 ·unfold after;simp only;rw[Oo,Oo,h.1 t]
 ·exact(G8 q.2.1 (fun b=>(h.2 b).symm) b).symm
def R3{i:Nat}{y:Blk}:∀(ups:D7){h:Ay},A4 ups i=false->∀ b,Am (An ups (Fp h i y)) b=if b=i then some y else Am (An ups h) b
|[],h,_,b=>Ah h i y b
| (j,some x)::r,h,hi,b=>by
  rw[A4]at hi
  cases k:beq j i with
  |true=>rw[k]at hi;simp at hi
  | false =>
   rw[k]at hi
   have ne:=X1 k
   rw[An,An,G8 r (h:=Fp (Fp h j x) i y) (fun c=>by
    rw[Ah,Ah,Ah,Ah]
    by_cases e1:c=j
    ·subst e1;simp[ne]
    ·simp[e1]) b]
   exact R3 r hi b
| (j,none)::r,h,hi,b=>by
  rw[A4]at hi
  cases k:beq j i with
  |true=>rw[k]at hi;simp at hi
  | false =>
   rw[k]at hi
   have ne:=X1 k
   rw[An,An,Ah,if_neg ne]
   split
   ·rename_i x C
    rw[G8 r (h:=Fp (Fp h j { x with dead:=true,pure:=true,cells:=[] }) i y) (fun c=>by
     rw[Ah,Ah,Ah,Ah]
     by_cases e1:c=j
     ·subst e1;simp[ne]
     ·simp[e1]) b]
    exact R3 r hi b
   ·exact R3 r hi b
def Vk:∀(u1 u2:D7)(h:Ay),(∀ b,A4 u1 b=true->A4 u2 b=false)->∀ b,Am (An u2 (An u1 h)) b=Am (An u1 (An u2 h)) b
|[],u2,h,_,b=>rfl
|(i,some x)::r,u2,h,k,b=>by
  rw[An,An]
  have hi:A4 u2 i=false:=k i (by simp[A4])
  rw[Vk r u2 (Fp h i x) (fun c hc=>k c (by rw[A4,hc];cases beq i c<;>rfl)) b]
  refine G8 r (fun c=>?_) b
  rw[R3 u2 hi,Ah]
| (i,none)::r,u2,h,k,b=>by
  rw[An,An]
  have hi:A4 u2 i=false:=k i (by simp[A4])
  rw[Bu u2 h i hi]
  split
  ·rename_i x C
   rw[Vk r u2 _ (fun c hc=>k c (by rw[A4,hc];cases beq i c<;>rfl)) b]
   refine G8 r (fun c=>?_) b
   rw[R3 u2 hi,Ah]
  ·exact Vk r u2 h (fun c hc=>k c (by rw[A4,hc];cases beq i c<;>rfl)) b
def oZ:∀{a l:List Nat},zR a l=true->∀ b∈a,b∉l
|[],l,_,b,k=>by simp at k
|i::r,l,h,b,k=>by
  rw[zR]at h;simp at h
  rcases Ax7.1 k with e|k
  ·subst e;intro C;rw[Ll.2 C]at h;simp at h
  ·exact oZ h.2 b k
def o7{q:AV×D7×Foot}{t:Nat}(h:o.dst≠some t):Gc (after E o st q).s t=Gc st.s t:=by unfold after;simp only;rw[Oo,if_neg (fun hh=>h hh.1)]
def o8{q:AV×D7×Foot}{b:Nat}(h:b∉q.2.1.map (·.1)):Am (after E o st q).h b=Am st.h b:=by
 unfold after;simp only
 rw[Bu]
 cases hi:A4 q.2.1 b with
|false=>rfl
|true=>exact absurd (UN.1 hi) h
def uZ{w:Option Nat}{l:List Nat}(h:Auc w l=false):∀ t∈l,w≠some t:=by
 intro t k e
 subst e
 rw[Auc,Ll.2 k]at h;cases h
def Aur{D k:AV×D7×Foot}(Y:Tp E ops p st=some D)(h2:Tp E ops o (after E p st D)=some k)(hi:j3 D.2.2 k.2.2=true):
  Tp E ops o st=some k/\Tp E ops p (after E o st k)=some D/\Eqv (after E p (after E o st k) D) (after E o (after E p st D) k):=by
 unfold j3 at hi
 simp only[Axr,A25]at hi
 obtain⟨⟨⟨⟨i1,i2⟩,i3⟩,i4⟩,i5⟩:=hi
 obtain⟨w1,u1⟩:=Age Y
 obtain⟨w2,u2⟩:=Age h2
 have L:=oZ i4
 have d2:=oZ i5
 have a1:Tp E ops o st=some k:=QR h2 (fun t T=>(o7 (by rw[<-w1];exact uZ i1 t T)).symm) (fun b C=>(o8 (fun I=>by
  rw[<-u1]at I
  exact L b I (by rcases C with C | C<;>simp[C]))).symm)
 have a2:Tp E ops p (after E o st k)=some D:=QR Y (fun t T=>o7 (by rw[<-w2];exact uZ i2 t T)) (fun b C=>o8 (fun I=>by
  rw[<-u2]at I
  rcases C with C|C
  ·exact d2 b I C
  ·exact L b C (by simp[I])))
 refine⟨a1,a2,fun t=>?_,fun b=>?_⟩
 ·unfold after;simp only
  rw[Oo,Oo,Oo,Oo]
  by_cases e1:p.dst=some t/\t<E.nt
  ·by_cases G:o.dst=some t/\t<E.nt
   ·exfalso
    rw[w1,w2,e1.1,G.1]at i3
    simp at i3
   ·rw[if_pos e1,if_neg G,if_pos e1]
  ·by_cases G:o.dst=some t/\t<E.nt
   ·rw[if_neg e1,if_pos G,if_pos G]
   ·rw[if_neg e1,if_neg G,if_neg G,if_neg e1]
 ·unfold after;simp only
  refine(Vk D.2.1 k.2.1 st.h (fun c hc=>?_) b).symm
  cases hx:A4 k.2.1 c with
  |false=>rfl
  |true =>
   have m1:c∈D.2.2.u:=by rw[u1];exact UN.1 hc
   have m2:c∈k.2.2.u:=by rw[u2];exact UN.1 hx
   exact absurd (by simp[m2]) (L c m1)
def RunF(E:Env)(ops:Array Oper)(fp:Nat->Foot):List (Nat×Oper)->St->St->Prop
|[],st,e=>Eqv st e
|(i,o)::r,st,e=>∃ q,Tp E ops o st=some q/\q.2.2=fp i/\RunF E ops fp r (after E o st q) e
def RunF.congr{fp:Nat->Foot}:∀{l:List (Nat×Oper)}{st st2 e:St},RunF E ops fp l st e->Eqv st st2->RunF E ops fp l st2 e
|[],st,st2,e,h,k=>k.symm.trans h
|(i,o)::r,st,st2,e,h,k=>by
  rw[RunF]at h ⊢
  obtain⟨q,C,D,G⟩:=h
  exact⟨q,QR C (fun t _=>(k.1 t).symm) (fun b _=>(k.2 b).symm),D,RunF.congr G (Aab k)⟩
def RunF.pull{fp:Nat->Foot}{i:Nat}{o:Oper}{B:List (Nat×Oper)}:∀{A:List (Nat×Oper)}{st e:St},RunF E ops fp (A++(i,o)::B) st e->(∀ jp∈A,j3 (fp jp.1) (fp i)=true) ->
  ∃ q,Tp E ops o st=some q/\q.2.2=fp i/\RunF E ops fp (A++B) (after E o st q) e
|[],st,e,h,_=>h
|(j,p)::A,st,e,h,hA=>by
  rw[Ayu,RunF]at h
  obtain⟨k,I,C,L⟩:=h
  obtain⟨D,T,G,Y⟩:=RunF.pull L (fun jp hm=>hA jp (by simp[hm]))
  have hi:j3 k.2.2 D.2.2=true:=by rw[C,G];exact hA (j,p) (by simp)
  obtain⟨a1,a2,a3⟩:=Aur I T hi
  refine⟨D,a1,G,?_⟩
  rw[Ayu,RunF]
  exact⟨k,a2,C,RunF.congr Y a3.symm⟩
end
end Gx
namespace Gx
open Go
def Agf:Nat->List Oper->List (Nat×Oper)
|_,[]=>[]
|n,o::r=>(n,o)::Agf (n+1) r
def nS:∀{l:List Oper}{n:Nat}{p:Nat×Oper},p∈Agf n l↔n<=p.1/\l[p.1 - n]?=some p.2
|[],n,p=>by simp[Agf]
| o::r,n,p=>by
  rw[Agf,Ax7,nS]
  constructor
  ·rintro(rfl|⟨C,k⟩)
   ·simp
   ·refine⟨by omega,?_⟩
    rw[show p.1 - n=(p.1 - (n+1))+1 by omega];simpa using k
  ·rintro⟨C,k⟩
   by_cases e:p.1=n
   ·left
    rw[e]at k;simp at k
    obtain⟨a,b⟩:=p
    simp at e k;subst e k;rfl
   ·right
    refine⟨by omega,?_⟩
    rw[show p.1 - n=(p.1 - (n+1))+1 by omega]at k;simpa using k
def o9:∀(l:List Oper)(n:Nat),(Agf n l).Pairwise (fun a b=>a.1<b.1)
|[],n=>List.Pairwise.nil
|o::r,n=>by
  rw[Agf]
  refine A1v.2 ⟨fun p k=>?_,o9 r (n+1)⟩
  have:=(nS.1 k).1
  show n<p.1;omega
section
variable{R:Type}{r:R}{Z:Start}{E:Env}{ops:Array Oper}
def RunL(E:Env)(ops:Array Oper):List Oper->List Foot->St->St->Prop
|[],[],st,e=>st=e
|o::l,f::fs,st,e=>∃ st' q,Eqv st st'/\Tp E ops o st'=some q/\q.2.2=f/\RunL E ops l fs (after E o st' q) e
|_,_,_,_=>False
def Aac:∀{l:List Oper}{st:St}{tr:List Foot}{k:St->List Foot->O R},nv E ops l st tr k=some r->∃ fs e,k e (fs.reverse++tr)=some r/\RunL E ops l fs st e
|[],st,tr,k,h=>⟨[],st,by simpa[nv]using h,rfl⟩
|o::l,st,tr,k,h=>by
  rw[nv]at h
  obtain⟨st0,C,h⟩:=oP h
  obtain⟨st',D,h⟩:=ja h
  have G:=C.trans D
  rw[UM]at h
  obtain⟨q,I,L⟩:=ub h
  obtain⟨fs,e,T,Y⟩:=Aac L
  exact⟨q.2.2::fs,e,by simpa using T,st',q,G,I,rfl,Y⟩
def RunL.length:∀{l:List Oper}{fs:List Foot}{st e:St},RunL E ops l fs st e->fs.length=l.length
|[],[],_,_,_=>rfl
|[],_::_,_,_,h=>h.elim
|_::_,[],_,_,h=>h.elim
|o::l,f::fs,st,e,⟨_,q,_,_,_,h⟩=>by simp[RunL.length h]
def RunL.runF{fp:Nat->Foot}:∀{l:List Oper}{fs:List Foot}{n:Nat}{st e:St},RunL E ops l fs st e->(∀(j:Nat)(f:Foot),fs[j]?=some f->fp (n+j)=f)->RunF E ops fp (Agf n l) st e
|[],[],n,st,e,h,_=>by subst h;exact Eqv.refl _
|[],_::_,_,_,_,h,_=>h.elim
|_::_,[],_,_,_,h,_=>h.elim
|o::l,f::fs,n,st,e,⟨st',q,C,D,G,I⟩,k=>by
  rw[Agf]
  refine RunF.congr ?_ C.symm
  rw[RunF]
  refine⟨q,D,by rw[G];exact(k 0 f (by simp)).symm,RunL.runF I (fun j g L=>?_)⟩
  have:=k (j+1) g (by simpa using L)
  rwa [show n+(j+1)=n+1+j by omega]at this
def jl{f:Foot}{anc:List Nat}:∀{seen:List Foot}{i:Nat},bU f anc i seen=true->∀(j:Nat)(g:Foot),seen[j]?=some g->(i+j)∈anc\/j3 g f=true
|[],i,_,j,g,k=>by simp at k
| x::r,i,h,j,g,k=>by
  rw[bU]at h;simp only[Axr,Bool.or_eq_true]at h
  cases j with
  |zero =>
   simp at k;subst k
   rcases h.1 with C|C
   ·exact .inl (Ll.1 C)
   ·exact .inr C
  |succ j =>
   have:=jl h.2 j g (by simpa using k)
   rwa [show i+1+j=i+(j+1) by omega]at this
def o_:∀{fs:List Foot}{az9:List (List Nat)}{seen:List Foot},UG fs az9 seen=true->∀(i:Nat)(f:Foot),fs[i]?=some f ->
  ∃ a,az9[i]?=some a/\∀(j:Nat)(g:Foot),(seen++fs)[j]?=some g->j<seen.length+i->j∈a\/j3 g f=true
|[],az9,seen,_,i,f,k=>by simp at k
|x::r,[],seen,h,i,f,k=>by simp[UG]at h
| x::r,a::az9,seen,h,i,f,k=>by
  rw[UG]at h;simp only[Axr]at h
  cases i with
  |zero =>
   simp at k;subst k
   refine⟨a,by simp,fun j g C D=>?_⟩
   rw[Ay3,if_pos (by omega)]at C
   simpa using jl h.1 j g C
  |succ i =>
   obtain⟨a',G,I⟩:=o_ h.2 i f (by simpa using k)
   refine⟨a',by simpa using G,fun j g C D=>I j g ?_ (by simp;omega)⟩
   simpa using C
def FM:∀{l:List Oper}{k:List (List Nat)}{i:Nat},i<k.length->(Gz l k)[i]?=k[i]?
|[],k,i,_=>rfl
|o::r,k,i,hi=>by rw[Gz,GN,FM (by simp;omega),Ay3,if_pos hi]
def KD:∀{l:List Oper}{C:List (List Nat)}{i:Nat}{a:List Nat},(Gz l C)[i]?=some a->C.length<=i->∃ o,l[i - C.length]?=some o /\
  ∀ k∈a,k∈JT o\/∃ j a',j∈JT o/\j<i/\(Gz l C)[j]?=some a'/\k∈a'
|[],C,i,a,h,hi=>by
  rw[Gz,Ayz hi]at h;cases h
| o::r,C,i,a,h,hi=>by
  by_cases e:i=C.length
  ·subst e
   rw[Gz,GN,FM (by simp)]at h
   simp only[List.getElem?_concat_length,Az1]at h
   refine⟨o,by simp,fun k D=>?_⟩
   rw[<-h,GR]at D
   replace D:=D.resolve_right (by simp)
   rcases Axz.1 D with D|D
   ·exact .inl D
   ·right
    obtain⟨j,T,D⟩:=A18.1 D
    cases I:C[j]? with
    |none=>rw[I]at D;simp at D
    |some a' =>
     rw[I]at D;simp at D
     have G:j<C.length:=(Axw.1 I).1
     exact⟨j,a',T,G,by rw[FM G];exact I,D⟩
  ·rw[Gz,GN]at h
   obtain⟨o',L,Y⟩:=KD h (by simp;omega)
   refine⟨o',?_,fun k D=>?_⟩
   ·simp at L
    rw[show i - C.length=(i - (C.length+1))+1 by omega];simpa using L
   ·rw[Gz,GN];exact Y k D
def cA:∀{l:List Oper}{n i:Nat}{o:Oper},Z1 n l=true->l[i]?=some o->∀ e∈o.after,QI e=true->e.on<n+i
|[],n,i,o,_,hi,_,_,_=>by simp at hi
| x::r,n,i,o,h,hi,e,k,C=>by
  rw[Z1]at h;simp only[Axr]at h
  cases i with
  |zero =>
   simp at hi;subst hi
   have:=A04.1 h.1 e (by simpa using k)
   rw[C]at this;simpa using this
  |succ i =>
   have:=cA h.2 (by simpa using hi) e k C
   omega
def u_(e:Edge):Region.binds .any e=QI e:=by
 unfold Region.binds QI
 cases e.ground<;>rfl
def Ads{listed:Array Bool}(hclosed:∀(j:Nat)(o:Oper),ops[j]?=some o->listed.getD j true=true->∀ k∈JT o,listed.getD k false=true):
  ∀(i:Nat)(a:List Nat)(o:Oper),(Gz ops.toList [])[i]?=some a->ops[i]?=some o->(∀ k∈JT o,listed.getD k false=true)->∀ k∈a,listed.getD k false=true:=by
 intro i
 induction i using Nat.strongRecOn with
| _ i ih =>
  intro a o ha ho T k hk
  obtain⟨o',G,h2⟩:=KD ha (by simp)
  simp at G
  rw[ho]at G;simp at G;subst G
  rcases h2 k hk with I|⟨j,a',I,h4,Y,h6⟩
  ·exact T k I
  ·have C:=T j I
   obtain⟨oj,D,_⟩:=KD Y (by simp)
   simp at D
   have L:listed.getD j true=true:=by
    rw[A0a]at C ⊢
    cases hx:listed[j]? with
    |none=>rw[hx]at C;simp at C
    |some b=>rw[hx]at C;simpa using C
   exact ih j h4 a' oj Y D (hclosed j oj D L) k h6
def G0(ops:Array Oper)(listed:Array Bool):List (Nat×Oper):=(Agf 0 ops.toList).filter fun p=>!listed.getD p.1 true
def QS(listed:Array Bool):(G0 ops listed).Pairwise (fun a b=>a.1<b.1):=(o9 _ _).filter _
def GS{listed:Array Bool}{p:Nat×Oper}:p∈G0 ops listed↔ops[p.1]?=some p.2/\listed.getD p.1 true=false:=by
 unfold G0
 rw[Az5,nS]
 simp
def Aad{listed:Array Bool}{i:Nat}{o:Oper}{A B:List (Nat×Oper)}(h:G0 ops listed=A++(i,o)::B):G0 ops (listed.setIfInBounds i true)=A++B:=by
 have hi:(i,o)∈G0 ops listed:=by rw[h];simp
 have k:=(GS.1 hi).2
 have D:i<listed.size:=by
  rw[A0a]at k
  rcases A2o i listed.size with G|G
  ·exact G
  ·rw[Azm G]at k;simp at k
 have L:G0 ops (listed.setIfInBounds i true)=(G0 ops listed).filter fun p=>!beq p.1 i:=by
  unfold G0
  rw[List.filter_filter]
  congr 1;funext p
  by_cases e:p.1=i
  ·rw[e];simp[D]
  ·rw[getD_set_ne true (fun e'=>e e'.symm),PL e];simp
 rw[L,h,List.filter_append,A0q]
 have hs:=QS (ops:=ops) listed
 rw[h]at hs
 have C:=A1h.1 hs
 have hB:=A1v.1 C.2.1
 have e1:A.filter (fun p=>!beq p.1 i)=A:=A2j.2 (fun p I=>by
  have:p.1<i:=C.2.2 p I (i,o) (by simp)
  rw[PL (by omega)];rfl)
 have T:B.filter (fun p=>!beq p.1 i)=B:=A2j.2 (fun p I=>by
  have:i<p.1:=hB.1 p I
  rw[PL (by omega)];rfl)
 rw[e1,T];simp
def Ah4(hC:YT E){Q:Exit->Act->World->Prop}{fp:Nat->Foot}{e:St}(hfw:Z1 0 ops.toList=true)
  (hord:∀(i j:Nat)(o:Oper),ops[i]?=some o->j<i->∃ a,(Gz ops.toList [])[i]?=some a/\(j∈a\/j3 (fp j) (fp i)=true))
  (hQ:∀ a' w' J' β',Inv Z E.nt J' β' e a' w'->Q .normal a' w') :
  ∀(fuel:Nat)(listed:Array Bool){st:St}{a:Act}{w:World}{J:Bool->Nat->Prop}{β:Ch},listed.size=ops.size->(G0 ops listed).length=fuel ->
   (∀(j:Nat)(o:Oper),ops[j]?=some o->listed.getD j true=true->∀ k∈JT o,listed.getD k false=true) ->
   RunF E ops fp (G0 ops listed) st e->Inv Z E.nt J β st a w->wpAny E.P .any ops Q fuel listed a w:=by
 intro fuel
 have fin:∀(listed:Array Bool){st:St}{a:Act}{w:World}{J:Bool->Nat->Prop}{β:Ch},G0 ops listed=[]->RunF E ops fp (G0 ops listed) st e->Inv Z E.nt J β st a w->Region.ready .any ops listed=[]/\Q .normal a w:=by
  intro listed st a w J β hr C I
  refine⟨List.eq_nil_iff_forall_not_mem.2 (fun i hi=>?_),?_⟩
  ·obtain⟨h1,o,T,_⟩:=mem_ready.1 hi
   have:(i,o)∈G0 ops listed:=GS.2 ⟨T,h1⟩
   rw[hr]at this;simp at this
  ·rw[hr,RunF]at C
   exact hQ _ _ J β (I.eqv C)
 induction fuel with
|zero =>
  intro listed st a w J β _ D _ C I
  exact fin listed (A3j.1 D) C I
| succ fuel ih =>
  intro listed st a w J β hsz D hclosed C I
  refine⟨fun hnil=>?_,fun i hi=>?_⟩
  ·
   cases G:G0 ops listed with
   |nil=>rw[G]at D;simp at D
   | cons p r =>
    exfalso
    have hp:p∈G0 ops listed:=by rw[G];simp
    obtain⟨L,hl⟩:=GS.1 hp
    have hs:=QS (ops:=ops) listed
    rw[G]at hs
    have hmin:=(A1v.1 hs).1
    have:p.1 ∈ Region.ready .any ops listed:=mem_ready.2 ⟨hl,p.2,L,fun ed hed hb=>by
     rw[u_]at hb
     have Y:=cA hfw (i:=p.1) (o:=p.2) (by simpa using L) ed hed hb
     simp at Y
     have hops:ed.on<ops.size:=by have:=(Azt.1 L).1;omega
     cases hx:listed.getD ed.on true with
     |true =>
      rw[A0a]at hx ⊢
      rw[Array.getElem?_eq_getElem (by omega)]at hx ⊢
      simpa using hx
     | false =>
      have hm:(ed.on,ops[ed.on])∈G0 ops listed:=GS.2 ⟨by simp[hops],hx⟩
      rw[G]at hm
      rcases Ax7.1 hm with e1|e1
      ·have:ed.on=p.1:=by rw[<-e1]
       omega
      ·have:=hmin _ e1
       simp at this;omega⟩
    rw[hnil]at this;simp at this
  ·obtain⟨hl,o,L,hall⟩:=mem_ready.1 hi
   have hmem:(i,o)∈G0 ops listed:=GS.2 ⟨L,hl⟩
   obtain⟨A,B,hAB⟩:=List.append_of_mem hmem
   have hdir:∀ k∈JT o,listed.getD k false=true:=by
    intro k hk
    unfold JT at hk
    obtain⟨ed,hed,rfl⟩:=Ayy.1 hk
    obtain⟨h1,T⟩:=Az5.1 hed
    exact hall ed (by simpa using h1) (by rw[u_];exact T)
   have hs:=QS (ops:=ops) listed
   rw[hAB]at hs
   have hs':=A1h.1 hs
   rw[hAB]at C
   obtain⟨q,g1,g2,g3⟩:=C.pull (fun jp hjp=>by
    have Y:jp.1<i:=hs'.2.2 jp hjp (i,o) (by simp)
    obtain⟨an,h1,T⟩:=hord i jp.1 o L Y
    rcases T with T|T
    ·exfalso
     have:=Ads hclosed i an o h1 L hdir jp.1 T
     have hjm:jp∈G0 ops listed:=by rw[hAB];simp[hjp]
     have h3:=(GS.1 hjm).2
     rw[A0a]at this h3
     cases hx:listed[jp.1]? with
     |none=>rw[hx]at this;simp at this
     |some b=>rw[hx]at this h3;simp at this h3;rw[this]at h3;cases h3
    ·exact T)
   have hone:zT E ops o st (fun s f=>some (s,f))=some (after E o st q,q.2.2):=by rw[UM,g1];rfl
   obtain⟨st',f,h4,h5⟩:=oO (K:=wpAny E.P .any ops Q fuel (listed.setIfInBounds i true)) (Q:=Q) hC I hone
   simp only[Az1,A4d]at h4
   obtain⟨rfl,rfl⟩:=h4
   have Y:i<listed.size:=by rw[hsz];exact(Azt.1 L).1
   have:=h5 (fun a' w' J' β' I'=>ih (listed.setIfInBounds i true) (by simp[hsz]) (by
     rw[Aad hAB];rw[hAB] at D;simp at D ⊢;omega) (fun j oj hoj hj k hk=>?_) (by rw[Aad hAB];exact g3) I')
   ·unfold wpOp
    rw[L]
    simp only
    split
    ·rename_i hw;rw[if_pos hw]at this;exact .inl this
    ·rename_i hw;rw[if_neg hw]at this;exact this
   ·by_cases e1:j=i
    ·subst e1
     rw[L]at hoj;simp at hoj;subst hoj
     exact getD_set_true (hdir k hk)
    ·rw[getD_set_ne true (fun e'=>e1 e'.symm)]at hj
     exact getD_set_true (hclosed j oj hoj hj k hk)
end
end Gx
namespace Gx
open Go
section
variable{R:Type}{r:R}{Z:Start}{E:Env}
def s5(hC:YT E)(hm:E.P.follows .mixedOrders=true){roots:List Nat}{id:Nat}{ops:Array Oper}{draw:Bool}{st:St}{k:St->O R}{a:Act}{w:World}{J:Bool->Nat->Prop}{β:Ch}{Q:Exit->Act->World->Prop}
  (I:Inv Z E.nt J β st a w) (hh:JU E roots ops draw st k=some r) (hQ:∀ st' a' w' J' β',Inv Z E.nt J' β' st' a' w'->k st'=some r->Q .normal a' w'):(Code.region id ops draw).wp E.P Q a w:=by
 unfold JU at hh
 have done:∀{st':St}{tr:List Foot}{a':Act}{w':World}{J':Bool->Nat->Prop}{β':Ch},Inv Z E.nt J' β' st' a' w' ->
   cond (!draw||(Z1 0 ops.toList&&UG tr.reverse (Gz ops.toList []) [])) ((clean (st'.s.map (·.1)) roots st').bind k) none=some r->Q .normal a' w':=by
  intro st' tr a' w' J' β' I' h'
  obtain⟨_,h1⟩:=uc h'
  obtain⟨st2,h2,h3⟩:=ub h1
  obtain⟨β2,I2⟩:=zo I' h2
  exact hQ _ _ _ _ _ I2 h3
 cases draw with
|false=>exact wp_region_list (oQ hC _ I hh (fun st' tr' a' w' J' β' I' h'=>done I' h'))
| true =>
  obtain⟨fs,e,h1,h2⟩:=Aac hh
  obtain⟨hc,h3⟩:=uc h1
  simp at hc
  obtain⟨hfw,L⟩:=hc
  have T:=h2.length
  refine wp_region_any hm ?_
  have I':Inv Z E.nt J β st a w.drew:=I.step (Step.drew I.sim) (fun b x hx hn=>by rw[hx]at hn;cases hn)
  have C:G0 ops (Array.replicate ops.size false)=Agf 0 ops.toList:=by
   unfold G0
   refine A2j.2 (fun p hp=>?_)
   have:=(nS.1 hp).2
   have D:p.1<ops.size:=by
    simp at this
    exact(Azt.1 this).1
   simp[D]
  have Y:(Agf 0 ops.toList).length=ops.size:=by
   have:∀(l:List Oper)(n:Nat),(Agf n l).length=l.length:=by
    intro l
    induction l with
    |nil=>intro n;rfl
    |cons o r ih=>intro n;simp[Agf,ih]
   rw[this];simp
  have hrun:RunF E ops (fun i=>fs.getD i {r:=[],w:=none,f:=[],u:=[]}) (Agf 0 ops.toList) st e:=h2.runF (fun j f G=>by simp[G])
  refine Ah4 hC (fp:=fun i=>fs.getD i {r:=[],w:=none,f:=[],u:=[]}) (e:=e) hfw (fun i j o ho hji=>?_) (fun a' w' J' β' Ie=>done (tr:=fs.reverse++[]) Ie h1) ops.size _ (by simp) (by rw[C,Y]) (fun j o ho G=>?_) (by rw[C];exact hrun) I'
  ·have hi:i<fs.length:=by rw[T];simpa using(Azt.1 ho).1
   obtain⟨an,g1,g2⟩:=o_ L i fs[i] (Axn hi)
   refine⟨an,g1,?_⟩
   have G:j<fs.length:=by omega
   have:=g2 j fs[j] (by simp[G]) (by simpa using hji)
   simpa[hi,G]using this
  ·exfalso
   have D:j<ops.size:=(Azt.1 ho).1
   simp[D]at G
end
end Gx
namespace Gx
open Go
def cB(ρ:Nat->Nat):∀ c:LA,(X0 ρ c).length=c.length
|[]=>rfl
|x::r=>by rw[X0,Ayb,Ayb,cB ρ r]
def Nh(ρ:Nat->Nat)(x:Blk):(Om ρ x).cells.length=x.cells.length:=by
 unfold Om;cases x.pure
 ·simp;exact cB _ _
 ·rfl
def ua{ρ:Nat->Nat}:∀{c:LA}{j:Nat}{y:AV},(X0 ρ c)[j]?=some y->∃ x,c[j]?=some x/\y=VN ρ x
|[],j,y,k=>by simp[X0]at k
|x::r,j,y,k=>by
  rw[X0]at k
  cases j with
  |zero=>simp at k;exact⟨x,by simp,k.symm⟩
  |succ j=>obtain⟨x',C,D⟩:=ua (c:=r) (j:=j) (by simpa using k);exact⟨x',by simpa using C,D⟩
section
variable{R:Type}{r:R}{J J':Bool->Nat->Prop}{β β':Ch}{h h':Ay}{w w':World}{ids:List Nat}{ρ:Nat->Nat}
def Oq{g:A6}:∀{ids:List Nat},(ids.map ρ).Nodup->∀ c y,Am (sub g ρ ids) c=some y->∃ b x,b∈ids/\ρ b=c/\g b=some x/\y=Om ρ x
|[],_,c,y,hc=>by simp[sub,Am]at hc
| b::r,hn,c,y,hc=>by
  rw[Ayc,Ay9]at hn
  rw[sub]at hc
  split at hc
  ·rename_i x L
   rw[Ah]at hc
   by_cases e:c=ρ b
   ·rw[if_pos e]at hc;simp at hc
    exact⟨b,x,by simp,e.symm,L,hc.symm⟩
   ·rw[if_neg e]at hc
    obtain⟨k,x',C,D,G,I⟩:=Oq hn.2 c y hc
    exact⟨k,x',by simp[C],D,G,I⟩
  ·obtain⟨k,x',C,D,G,I⟩:=Oq hn.2 c y hc
   exact⟨k,x',by simp[C],D,G,I⟩
def DC{g:A6}:∀{ids:List Nat},(ids.map ρ).Nodup->∀ b x,b∈ids->g b=some x->Am (sub g ρ ids) (ρ b)=some (Om ρ x)
|[],_,b,x,k,_=>by simp at k
| G::r,hn,b,x,k,C=>by
  rw[Ayc,Ay9]at hn
  rw[sub]
  by_cases e:b=G
  ·subst e
   rw[C]
   simp only
   rw[Ah,if_pos rfl]
  ·have D:b∈r:=by simpa[e]using k
   have ne:ρ b≠ρ G:=fun h=>hn.1 (by rw[<-h];exact Ayy.2 ⟨b,D,rfl⟩)
   split
   ·rw[Ah,if_neg ne];exact DC hn.2 b x D C
   ·exact DC hn.2 b x D C
def Ak7(ρ:Nat->Nat)(ids:List Nat)(c:Nat):Option Nat:=ids.find? fun b=>beq (ρ b) c
def Ak8(hn:(ids.map ρ).Nodup){b:Nat}(k:b∈ids):Ak7 ρ ids (ρ b)=some b:=by
 induction ids with
|nil=>simp at k
| cons i r C =>
  rw[Ayc,Ay9]at hn
  unfold Ak7 at C ⊢
  rw[List.find?_cons]
  by_cases e:b=i
  ·subst e;simp
  ·have D:b∈r:=by simpa[e]using k
   have ne:ρ i≠ρ b:=fun h=>hn.1 (by rw[h];exact Ayy.2 ⟨b,D,rfl⟩)
   rw[PL ne];exact C hn.2 D
def NZ(ρ:Nat->Nat)(ids:List Nat)(β:Ch):Ch:=fun c=>(Ak7 ρ ids c).bind β
def G9(hn:(ids.map ρ).Nodup){b:Nat}(k:b∈ids):NZ ρ ids β (ρ b)=β b:=by unfold NZ;rw[Ak8 hn k];rfl
mutual
def Rep.ren(hn:(ids.map ρ).Nodup):∀{x:AV}{v:Value},(∀ b∈Gv x,b∈ids)->Rep J β h w x v->Rep J (NZ ρ ids β) (sub (Am h) ρ ids) w (VN ρ x) v
|.own b off n,v,hm,hr=>by
  rw[Rep]at hr
  obtain⟨x,A,cap,⟨hx,hmp⟩,h1,h2,h3⟩:=hr
  have hb:=hm b (by simp[Gv])
  rw[VN,Rep]
  refine⟨Om ρ x,A,cap,⟨DC hn b x hb hx,hmp⟩,h1,h2,?_⟩
  rw[Nh,G9 hn hb]
  exact h3
|.optr b off,v,hm,hr=>by
  rw[Rep]at hr
  obtain⟨x,k,o,⟨hx,hmp⟩,h1,h2⟩:=hr
  have hb:=hm b (by simp[Gv])
  rw[VN,Rep]
  refine⟨Om ρ x,k,o,⟨DC hn b x hb hx,hmp⟩,h1,?_⟩
  rw[G9 hn hb]
  exact h2
|.omap b,v,hm,hr=>by
  rw[Rep]at hr
  obtain⟨x,k,⟨hx,hmp⟩,h2⟩:=hr
  have hb:=hm b (by simp[Gv])
  rw[VN,Rep]
  refine⟨Om ρ x,k,⟨DC hn b x hb hx,hmp⟩,?_⟩
  rw[G9 hn hb]
  exact h2
|.agg c,v,hm,hr=>by
  rw[Rep]at hr
  obtain⟨cs,h1,h2⟩:=hr
  rw[VN,Rep]
  exact⟨cs,h1,Reps.ren hn (by simpa[Gv]using hm) h2⟩
|.tup c,v,hm,hr=>by
  rw[Rep]at hr
  obtain⟨cs,h1,h2⟩:=hr
  rw[VN,Rep]
  exact⟨cs,h1,Reps.ren hn (by simpa[Gv]using hm) h2⟩
|.fn f c,v,hm,hr=>by
  rw[Rep]at hr
  obtain⟨cs,h1,h2⟩:=hr
  rw[VN,Rep]
  exact⟨cs,h1,Reps.ren hn (by simpa[Gv]using hm) h2⟩
|.pagg c o,v,hm,hr=>by show Rep J _ _ w (.pagg c o) v;rw[Rep]at hr ⊢;exact hr
|.undef,v,hm,hr=>by show Rep J _ _ w .undef v;rw[Rep]at hr ⊢;exact hr
|.imm c n sz t o,v,hm,hr=>by show Rep J _ _ w (.imm c n sz t o) v;rw[Rep]at hr ⊢;exact hr
|.iptr c o,v,hm,hr=>by show Rep J _ _ w (.iptr c o) v;rw[Rep]at hr ⊢;exact hr
|.int k n,v,hm,hr=>by show Rep J _ _ w (.int k n) v;rw[Rep]at hr ⊢;exact hr
|.bool b,v,hm,hr=>by show Rep J _ _ w (.bool b) v;rw[Rep]at hr ⊢;exact hr
|.str s,v,hm,hr=>by show Rep J _ _ w (.str s) v;rw[Rep]at hr ⊢;exact hr
|.nsl,v,hm,hr=>by show Rep J _ _ w .nsl v;rw[Rep]at hr ⊢;exact hr
|.nilptr,v,hm,hr=>by show Rep J _ _ w .nilptr v;rw[Rep]at hr ⊢;exact hr
|.nilfn,v,hm,hr=>by show Rep J _ _ w .nilfn v;rw[Rep]at hr ⊢;exact hr
def Reps.ren(hn:(ids.map ρ).Nodup):∀{c:List AV}{cs:List Value},(∀ b∈Iv c,b∈ids)->Reps J β h w c cs->Reps J (NZ ρ ids β) (sub (Am h) ρ ids) w (X0 ρ c) cs
|[],cs,hm,hr=>by rw[Reps]at hr;rw[X0,Reps];exact hr
|x::r,cs,hm,hr=>by
  rw[Reps]at hr
  obtain⟨u,us,h1,h2,h3⟩:=hr
  rw[X0,Reps]
  exact⟨u,us,h1,Rep.ren hn (fun b hb=>hm b (by simp[Iv,hb])) h2,Reps.ren hn (fun b hb=>hm b (by simp[Iv,hb])) h3⟩
end
def SimH.ren(S:SimH J β h w)(hn:(ids.map ρ).Nodup)(hin:∀ b∈Lj (Am h) ids,b∈ids):SimH J (NZ ρ ids β) (sub (Am h) ρ ids) w:=by
 refine⟨S.jlt,S.jft,S.gl,fun c y T Y hm=>?_,fun c y T Y hm=>by
   obtain⟨b,x,D,rfl,I,rfl⟩:=Oq hn c y T
   obtain⟨L,g2,k,ob,g3,g4,g5,g6⟩:=S.mblk b x I Y hm
   have:(Om ρ x).cells=x.cells:=by unfold Om;rw[L];rfl
   exact⟨L,g2,k,ob,by rw[G9 hn D];exact g3,g4,by rw[ObjIs,show(Om ρ x).sz=x.sz from rfl,this];exact g5,g6⟩,?_⟩
 ·obtain⟨b,x,D,rfl,I,rfl⟩:=Oq hn c y T
  rcases S.blk b x I Y hm with⟨L,g2⟩|⟨k,o,cs,ty,fr,L,g2,g3,g4,g5,g6,g7⟩
  ·refine .inl ⟨by rw[G9 hn D];exact L,?_⟩
   have:=Nh ρ x;rw[g2]at this;simpa using this
  ·refine .inr ⟨k,o,cs,ty,fr,by rw[G9 hn D];exact L,g2,g3,by rw[Nh];exact g4,⟨fun hp=>?_,fun hp j q hj=>?_⟩,g6,g7⟩
   ·have C:x.pure=true:=hp
    have:(Om ρ x).cells=x.cells:=by unfold Om;rw[C];rfl
    rw[this];exact g5.1 C
   ·have C:x.pure=false:=hp
    have:(Om ρ x).cells=X0 ρ x.cells:=by unfold Om;rw[C];rfl
    rw[this]at hj
    obtain⟨q',hq,rfl⟩:=ua hj
    obtain⟨u,hu,hr,ho⟩:=g5.2 C j q' hq
    exact⟨u,hu,Rep.ren hn (fun b' G=>hin b' (gX D I C b' (gY hq b' G))) hr,ho⟩
 ·intro c c' y y' k o o' T hy' Y hd' hs hβ hβ'
  obtain⟨b,x,D,rfl,I,rfl⟩:=Oq hn c y T
  obtain⟨b',x',G,rfl,hx',rfl⟩:=Oq hn c' y' hy'
  rw[G9 hn D]at hβ
  rw[G9 hn G]at hβ'
  rw[S.sep b b' x x' k o o' I hx' Y hd' hs hβ hβ']
def xM(hn:(ids.map ρ).Nodup){k:Nat}(D:zX (NZ ρ ids β) (sub (Am h) ρ ids) k):zX β h k:=by
 obtain⟨c,y,o,G,I,hs,C⟩:=D
 obtain⟨b,x,L,rfl,T,rfl⟩:=Oq hn c y G
 rw[G9 hn L]at C
 exact⟨b,x,o,T,I,hs,C⟩
end
end Gx
namespace Gx
open Go
def Ps{ids:List Nat}:∀{l:List Nat},NQ ids l=true->∀ b∈l,b∈ids
|[],_,b,k=>by simp at k
|i::r,h,b,k=>by
  rw[NQ]at h
  simp at h
  rcases Ax7.1 k with rfl|k
  ·exact Ll.1 h.1
  ·exact Ps h.2 b k
def AP{d:Nat}:∀{l:List Nat}{base b:Nat},b∈l->base<=Jc d (Aw base l) b/\Jc d (Aw base l) b<base+l.length
|[],base,b,k=>by simp at k
| i::r,base,b,k=>by
  rw[Aw,Jc]
  cases hi:beq i b with
  |true=>simp
  | false =>
   have C:=X1 hi
   have D:b∈r:=by
    rcases Ax7.1 k with h|h
    ·exact absurd h.symm C
    ·exact h
   have:=AP (d:=d) (base:=base+1) D
   simp only[cond_false,Ayb]
   omega
def Aae{free ids:List Nat}{b:Nat}(h:GO free b=true):AJ free ids b=b:=by unfold AJ;rw[h];rfl
def xN{free ids:List Nat}{b:Nat}(h:GO free b=false)(k:b∈ids):300000<=AJ free ids b:=by
 unfold AJ Akx;rw[h]
 exact(AP (Az5.2 ⟨k,by simp[h]⟩)).1
def oa{b:Nat}:oA b=true↔100000<=b/\b<200000:=by unfold oA;simp
def jm{free ids:List Nat}{b c:Nat}(C:b∈ids)(hc:100000<=c/\c<200000)(k:AJ free ids b=c):b=c:=by
 cases hr:GO free b with
|true=>rw[Aae hr]at k;exact k
|false=>have:=xN hr C;omega
def GU{ρ:Nat->Nat}{K:List Nat}:∀{s:G7}{i:Nat},Gc (Aky ρ K s) i=if Fv K i=true then VN ρ (Gc s i)else .undef
|[],i=>by
  show AV.undef=if Fv K i=true then VN ρ .undef else AV.undef
  simp[VN]
| (t,v)::r,i=>by
  rw[Aky]
  by_cases e:t=i
  ·subst e
   cases k:Fv K t with
   |true=>simp[Gc]
   |false=>simp only[cond_false];rw[GU];simp[k]
  ·have C:beq t i=false:=PL e
   cases k:Fv K t with
   |true=>simp only[cond_true,Gc,C,cond_false];exact GU
   |false=>simp only[cond_false,Gc,C];exact GU
def Aaf{g:A6}{l:List Nat}{b:Nat}(h:b∈C_ g l):∃ x,g b=some x/\x.dead=false:=by
 unfold C_ at h
 obtain⟨_,k⟩:=Az5.1 h
 unfold Gd at k
 cases C:g b with
|none=>simp[C]at k
|some x =>
  cases D:x.dead with
  |false=>exact⟨x,rfl,D⟩
  |true=>simp[C,D]at k
section
variable{Z:Start}{nt:Nat}{J:Bool->Nat->Prop}{β:Ch}{st st':St}{a:Act}{w:World}
def AV.isz:AV->Nat
|.imm _ _ s _ _=>s
|_=>0
def Ot{live:List Nat}:∀(nils:List (Nat×Nat)){st:St}{J:Bool->Nat->Prop}{β:Ch},Inv Z nt J β st a w->JV live nils st=some st'->∃ J' β',Inv Z nt J' β' st' a w
|[],st,J,β,I,hh=>by simp[JV]at hh;subst hh;exact⟨J,β,I⟩
| (t,sz)::r,st,J,β,I,hh=>by
  rw[JV]at hh
  cases L:ble 1000000 sz with
  | true =>
   rw[L,cond_true]at hh
   split at hh
   ·rename_i hm hs
    refine Ot r (J:=J) (β:=β) (st:={s:=QA st.s t (.imm [] 0 (sz - 1000000) false false),h:=st.h}) ?_ hh
    refine {I with ss:=⟨fun i v C=>?_,fun i hi=>?_⟩}
    ·rw[L5]
     by_cases e:i=t
     ·subst e
      have:=I.ss.slot i v C
      rw[hs,Rep]at this
      subst this
      rw[if_pos rfl,Rep,RepC]
      exact⟨by simp,none,0,rfl,Axo _,fun _=>rfl,.inl rfl⟩
     ·rw[if_neg e];exact I.ss.slot i v C
    ·rw[L5]
     by_cases e:i=t
     ·subst e
      have:=I.ss.out i hi
      rw[hs]at this;cases this
     ·rw[if_neg e];exact I.ss.out i hi
   ·rename_i b off n hm hs
    obtain⟨⟨v',ups,org⟩,T,h1⟩:=ub hh
    by_cases Y:∃ v,a.tmps[t]?=some v
    ·obtain⟨v0,hv0⟩:=Y
     have hr:=I.ss.slot t v0 hv0
     rw[hs]at hr
     obtain⟨J1,A,D,_⟩:=QL I.sim (fun b x hb=>⟨x,hb,rfl⟩) T hr
     have I1:=I.step A (fun c x G hn=>by
      exfalso
      unfold WT at T
      obtain⟨y,hy,k⟩:=ub T
      obtain⟨_,k⟩:=uc k
      simp at k
      obtain⟨_,k,_⟩:=k
      subst k
      simp only[An,Ah]at G
      unfold Gd at hy
      obtain⟨y0,hy0,_⟩:=ub hy
      by_cases e:c=b
      ·subst e;rw[hn]at hy0;cases hy0
      ·rw[if_neg e,hn] at G;cases G)
     refine Ot r (J:=J1) (β:=β) (st:={s:=QA st.s t v',h:=An ups st.h}) ?_ h1
     have him:∃ c,v'=.imm c n v'.isz false org:=by
      unfold WT at T
      obtain⟨y,hy,k⟩:=ub T
      obtain⟨_,k⟩:=uc k
      simp at k
      obtain⟨k,_,h3⟩:=k
      subst k h3
      exact⟨_,rfl⟩
     refine {I1 with ss:=⟨fun i v C=>?_,fun i hi=>?_⟩}
     ·rw[L5]
      by_cases e:i=t
      ·subst e
       rw[if_pos rfl]
       rw[hv0]at C;simp at C;subst C
       obtain⟨c,hc⟩:=him
       rw[hc]at D ⊢
       rw[Rep];exact D
      ·rw[if_neg e];exact I1.ss.slot i v C
     ·rw[L5]
      by_cases e:i=t
      ·subst e
       have:=I.ss.out i hi
       rw[hs]at this;cases this
      ·rw[if_neg e];exact I1.ss.out i hi
    ·exfalso
     have:=I.ss.out t (by
      cases h:a.tmps[t]? with
      |none=>simp at h;omega
      | some v=>exact absurd ⟨v,h⟩ Y)
     rw[hs]at this;cases this
   ·exact Ot r I hh
  | false =>
   rw[L,cond_false]at hh
   split at hh
   ·rename_i hm hs
    cases hf:Am st.h (nid t+15)with
    |some x=>simp[hf]at hh
    | none =>
     simp[hf]at hh
     have A:=Step.newNone I.sim (d:=nid t+15) (x:=Gm sz) hf rfl
     have I1:=I.step A (fun b x G hn=>by
      rw[Ah]at G
      by_cases e:b=nid t+15
      ·subst e;unfold nid Hr;omega
      ·rw[if_neg e,hn] at G;cases G)
     refine Ot r (J:=J) (β:=fun b=>if b=nid t+15 then none else β b) (st:={s:=QA st.s t (.own (nid t+15) 0 0),h:=Fp st.h (nid t+15) (Gm sz)}) ?_ hh
     refine {I1 with ss:=⟨fun i v C=>?_,fun i hi=>?_⟩}
     ·rw[L5]
      by_cases e:i=t
      ·subst e
       rw[if_pos rfl,Rep]
       have:=I.ss.slot i v C
       rw[hs,Rep]at this
       subst this
       exact⟨Gm sz,none,0,⟨by rw[Ah,if_pos rfl],rfl⟩,rfl,Axo _,.inl rfl⟩
      ·rw[if_neg e];exact I1.ss.slot i v C
     ·rw[L5]
      by_cases e:i=t
      ·subst e
       have:=I.ss.out i hi
       rw[hs]at this;cases this
      ·rw[if_neg e];exact I1.ss.out i hi
   ·exact Ot r I hh
def QT{E:Env}{live roots:List Nat}(I:Inv Z nt J β st a w)(hh:NS E live roots st=some st'):∃ J' β',Inv Z nt J' β' st' a w:=by
 unfold NS at hh
 obtain⟨s1,Y,h2⟩:=ub hh
 obtain⟨J1,β1,I1⟩:=Ot _ I Y
 obtain⟨hc,L⟩:=uc h2
 simp at hc L
 subst L
 obtain⟨hn,hs,hi,_⟩:=hc
 have hn:=Ud hn
 have D:∀ b∈Lj (Am s1.h) (C_ (Am s1.h) (AG (Am s1.h) (ny live s1.s++roots))),b∈C_ (Am s1.h) (AG (Am s1.h) (ny live s1.s++roots)):=Ps hi
 refine⟨J1,NZ _ _ β1,{I1 with sim:=I1.sim.ren hn D,ss:=⟨fun i v hv=>?_,fun i hi=>?_⟩,wr:=fun k hm=>I1.wr k (xM hn hm),outs:=fun b x0 x G hx hd=>?_}⟩
 ·rw[GU]
  cases hk:Fv live i with
  |false=>simp[Rep]
  |true =>
   simp only[if_true]
   exact Rep.ren hn (fun b hb=>Ps hs b (oS hk b hb)) (I1.ss.slot i v hv)
 ·rw[GU,I1.ss.out i hi];simp[VN]
 ·obtain⟨b',x',C,T,hg,rfl⟩:=Oq hn b x hx
  have:=jm C ⟨I1.zge b x0 G,I1.zlt b x0 G⟩ T
  subst this
  obtain⟨⟨e1,em⟩,e2,e3,e4⟩:=I1.outs b' x0 x' G hg hd
  refine⟨⟨?_,em⟩,e2,by rw[Nh];exact e3,e4⟩
  have:=G9 (β:=β1) hn C
  rw[T]at this
  rw[this];exact e1
end
end Gx
namespace Gx
open Go
section
variable{R:Type}{r:R}{Z:Start}{E:Env}
def Aag(hC:YT E)(hm:E.P.follows .mixedOrders=true){roots:List Nat}{N:Nat}:∀(c:Code){H:Hint}{kn:St->O R}{kx:Nat->St->O R}{kr:St->O R}{st:St}{a:Act}{w:World}{J:Bool->Nat->Prop}{β:Ch}{Q:Exit->Act->World->Prop},
  Inv Z E.nt J β st a w->Dv E roots N c H kn kx kr st=some r ->
  (∀ st' a' w' J' β',Inv Z E.nt J' β' st' a' w'->kn st'=some r->Q .normal a' w') ->
  (∀ id st' a' w' J' β',Inv Z E.nt J' β' st' a' w'->kx id st'=some r->Q (.exit id) a' w') ->
  (∀ st' a' w' J' β',Inv Z E.nt J' β' st' a' w'->kr st'=some r->Q .ret a' w')->c.wp E.P Q a w:=by
 intro c
 induction c with
|skip=>intro H kn kx kr st a w J β Q I hh hn C hr;exact wp_skip (hn _ _ _ _ _ I hh)
|region id ops draw=>intro H kn kx kr st a w J β Q I hh hn C hr;exact s5 hC hm I hh hn
| seq x y G D =>
  intro H kn kx kr st a w J β Q I hh hn C hr
  rw[Dv]at hh
  refine wp_seq (G I hh (fun st' a' w' J' β' I' h'=>?_) (fun id st' a' w' J' β' I' h'=>C id st' a' w' J' β' I' h') (fun st' a' w' J' β' I' h'=>hr st' a' w' J' β' I' h'))
  unfold zU at h'
  cases L:H.isJoin with
  |true =>
   rw[L,cond_true,Ve]at h'
   obtain⟨s2,T,Y⟩:=ub h'
   obtain⟨J2,β2,I2⟩:=QT I' T
   exact D I2 Y hn C hr
  |false=>rw[L]at h';exact D I' h' hn C hr
| cond c x y G D =>
  intro H kn kx kr st a w J β Q I hh hn C hr
  rw[Dv]at hh
  split at hh
  ·rename_i t ht
   have h1:=A7 I.ss c
   rw[ht,Rep]at h1
   refine wp_cond h1 ?_
   cases t with
   |true=>exact G I hh hn C hr
   |false=>exact D I hh hn C hr
  ·simp at hh
| block id c ih =>
  intro H kn kx kr st a w J β Q I hh hn C hr
  rw[Dv]at hh
  refine wp_block (ih I hh (fun st' a' w' J' β' I' h'=>hn _ _ _ _ _ I' h') (fun j st' a' w' J' β' I' h'=>?_) (fun st' a' w' J' β' I' h'=>hr _ _ _ _ _ I' h'))
  cases L:beq j id with
  |true =>
   rw[L]at h'
   have:=Axy L
   subst this
   simp only[Exit.inBlock,if_true]
   exact hn _ _ _ _ _ I' h'
  |false =>
   rw[L]at h'
   simp only[Exit.inBlock]
   rw[if_neg (X1 L)]
   exact C _ _ _ _ _ _ I' h'
| loop c ih =>
  intro H kn kx kr st a w J β Q I hh hn C hr
  rw[Dv,Ve]at hh
  refine wp_loop_rounds N ?_
  have key:∀(n:Nat){st:St}{a:Act}{w:World}{J:Bool->Nat->Prop}{β:Ch},Inv Z E.nt J β st a w->NT (NS E H.live roots) (fun k st=>Dv E roots N c H.a k kx kr st) n st=some r->Code.rounds E.P c Q n a w:=by
   intro n
   induction n with
   |zero=>intro st a w J β I h';simp[NT]at h'
   |succ n ihn =>
    intro st a w J β I h'
    rw[NT]at h'
    rw[rounds_succ]
    refine ih I h' (fun st' a' w' J' β' I' h''=>?_) (fun id st' a' w' J' β' I' h''=>C _ _ _ _ _ _ I' h'') (fun st' a' w' J' β' I' h''=>hr _ _ _ _ _ I' h'')
    obtain⟨s2,T,Y⟩:=ub h''
    obtain⟨J2,β2,I2⟩:=QT I' T
    exact ihn I2 Y
  obtain⟨s2,T,Y⟩:=ub hh
  obtain⟨J2,β2,I2⟩:=QT I T
  exact key N I2 Y
|exit id=>intro H kn kx kr st a w J β Q I hh hn C hr;exact wp_exit (C _ _ _ _ _ _ I hh)
|ret=>intro H kn kx kr st a w J β Q I hh hn C hr;exact wp_ret (hr _ _ _ _ _ I hh)
|rangeFunc=>intro H kn kx kr st a w J β Q I hh;simp[Dv]at hh
|scope c ih =>
  intro H kn kx kr st a w J β Q I hh hn C hr
  rw[Dv]at hh
  exact wp_scope_straight (ih I hh (fun st' a' w' J' β' I' h'=>hn _ _ _ _ _ I' h') (fun id st' a' w' J' β' I' h'=>C _ _ _ _ _ _ I' h') (fun st' a' w' J' β' I' h'=>hr _ _ _ _ _ I' h'))
|label =>
  intro H kn kx kr st a w J β Q I hh hn C hr
  rw[Dv]at hh
  exact wp_label (hn _ _ _ _ _ I hh)
|goto=>intro H kn kx kr st a w J β Q I hh;simp[Dv]at hh
|refuse=>intro H kn kx kr st a w J β Q I hh;simp[Dv]at hh
end
end Gx
namespace Gx
open Go
structure FDone(Z:Start)(J:Bool->Nat->Prop)(β:Ch)(h:Ay)(w:World):Prop where
 sim:SimH J β h w
 os:w.os=Z.w.os
 tape:w.tape=Z.w.tape
 output:w.output=Z.w.output
 size:Z.w.heap.size<=w.heap.size
 frame:∀ k,k<Z.w.heap.size->¬ zX Z.β Z.h k->w.heap[k]?=Z.w.heap[k]?
 wr:∀ k,zX β h k->k<Z.w.heap.size->zX Z.β Z.h k
 jsub:∀ o k,Z.J o k->J o k
 jup:∀ o k,J o k->Z.J o k\/zX Z.β Z.h k\/Z.w.heap.size<=k
 sizes:∀ k,A1 Z.w k<=A1 w k
 outs:∀ b x0 x,Am Z.h b=some x0->Am h b=some x->x.dead=false->(β b=Z.β b/\x.mp=x0.mp)/\x.sz=x0.sz/\(x0.mp=false->x.cells.length=x0.cells.length)/\x0.dead=false
 live:∀ b x,Am h b=some x->x.dead=false
def An3(P:Program)(f:Nat)(args:LA)(h:Ay)(res:AV)(h':Ay):Prop :=
 ∀(J:Bool->Nat->Prop)(β:Ch)(w:World)(vs:List Value),SimH J β h w->Reps J β h w args vs ->
  Calls P f vs.toArray w fun e w'=>∃ vc J' β',e=.returned vc/\FDone ⟨J,β,h,w⟩ J' β' h' w'/\Rep J' β' h' w' res vc
def xO(P:Program)(f:Nat)(t:Tw):Prop:=∀ args h res h',(t.runK args h fun v h'=>some (v,h'))=some (res,h')->An3 P f args h res h'
def oc(P:Program):List (Nat×Tw)->Prop
|[]=>True
|p::r=>xO P p.1 p.2/\oc P r
def Aah{P:Program}{R:Type}{r:R}:∀{T:List (Nat×Tw)},oc P T->∀{f:Nat}{C:LA}{h:Ay}{k:AV->Ay->O R},bS T f C h k=some r ->
  ∃ res h',An3 P f C h res h'/\k res h'=some r
|[],_,f,C,h,k,hh=>by simp[bS]at hh
| (g,t)::T,hT,f,C,h,k,hh=>by
  rw[bS]at hh
  cases D:beq g f with
  |false=>rw[D]at hh;exact Aah hT.2 hh
  |true =>
   rw[D]at hh
   have:=Axy D
   subst this
   simp only[cond_true]at hh
   rw[t.eq]at hh
   obtain⟨⟨res,h'⟩,G,I⟩:=ub hh
   exact⟨res,h',hT.1 C h res h' G,I⟩
section
variable{R:Type}{r:R}{Z:Start}{nt:Nat}{J:Bool->Nat->Prop}{β:Ch}{st:St}{a:Act}{w:World}
def cC(tmps:Array Value):ResultVar->Sem Value
|.tmp t=>pure (tmps.getD t undef)
|.cell a t=>do loadVar t (<-Go.asAddr (tmps.getD a undef))
def Ak9{α β:Type}(f:α->Sem β)(xs:Array α):xs.mapM f=(List.toArray <$> xs.toList.mapM f):=by rw[<-List.mapM_toArray]
def Adt(fn:Func)(tmps:Array Value):results fn tmps=(do let vs <-fn.results.mapM (cC tmps);pure (if h:vs.size=1 then vs[0]else .tuple vs)):=by
 unfold results
 congr 1
def Aai(l:List Value):Value:=match l with|[v]=>v|l=>.tuple l.toArray
def Aaj{P:Program}(fn:Func)(tmps:Array Value){vs:List Value}(h:(fn.results.toList.mapM (cC tmps)).run P w=.ok vs w):(results fn tmps).run P w=.ok (Aai vs) w:=by
 rw[Adt,Ak9]
 simp only[map_eq_pure_bind,Sem.run_bind,h,Result.andThen_ok,Sem.run_pure]
 congr 1
 match vs with
|[]=>rfl
|[v]=>rfl
|v::u::r=>simp[Aai]
def Aak{P:Program}{t:TypeId}{v vc:Value}(h:(Instr.loadAt t v).run P w=.ok vc w):(do loadVar t (<-Go.asAddr v):Sem Value).run P w=.ok vc w:=by
 unfold Instr.loadAt at h
 cases v with
|pointer a =>
  cases a with
  |some a=>exact h
  |none=>simp[Instr.sureAddr]at h
|_=>simp[Instr.sureAddr]at h
def FN{E:Env}(S:SimH J β st.h w)(SS:SimS J β st.h w st.s a.tmps):∀(l:List ResultVar){C:LA}{k:LA->O R},On E st l C k=some r ->
  ∃ vals vs,k (C.reverse++vals)=some r/\(l.mapM (cC a.tmps)).run E.P w=.ok vs w/\Reps J β st.h w vals vs
|[],C,k,hh=>⟨[],[],by simpa[On]using hh,by simp,by rw[Reps]⟩
|.tmp t::l,C,k,hh=>by
  rw[On]at hh
  obtain⟨vals,vs,D,G,I⟩:=FN S SS l hh
  refine⟨Gc st.s t::vals,a.tmps.getD t undef::vs,by simpa using D,?_,by rw[Reps];exact⟨_,_,rfl,A7 SS (.tmp t),I⟩⟩
  simp only[A31,cC,Sem.run_bind,Sem.run_pure,Result.andThen_ok,G]
|.cell ad t::l,C,k,hh=>by
  rw[On]at hh
  obtain⟨v,vc,L,D,G⟩:=j7 S (fun _ _ h=>h) hh (A7 SS (.tmp ad))
  obtain⟨vals,vs,I,T,Y⟩:=FN S SS l L
  refine⟨v::vals,vc::vs,by simpa using I,?_,by rw[Reps];exact⟨_,_,rfl,G,Y⟩⟩
  have:(cC a.tmps (.cell ad t)).run E.P w=.ok vc w:=Aak D
  simp only[A31,Sem.run_bind,this,Sem.run_pure,Result.andThen_ok,T]
def Adu{i:Nat}{m:Nat×Nat}{v v':AV}{ups:D7}{vc:Value}{h:Ay}(S:SimH J β h w)(hh:Aqq (Am h) i m v=some (v',ups))(k:Rep J β h w v vc):
  ∃ J' β',Step J β h w J' β' (An ups h) w/\Rep J' β' (An ups h) w v' vc/\(∀ b x,Am (An ups h) b=some x->Am h b=none->Hr<=b):=by
 have old:∀{ups:D7},(∀ b,A4 ups b=true->∃ x,Am h b=some x)->∀ b x,Am (An ups h) b=some x->Am h b=none->Hr<=b:=by
  intro ups hu b x C hn
  cases hi:A4 ups b with
  |true=>obtain⟨y,hy⟩:=hu b hi;rw[hy]at hn;cases hn
  |false=>rw[Bu _ _ _ hi,hn]at C;cases C
 unfold Aqq at hh
 cases T:beq m.1 0 with
|true =>
  rw[T]at hh;simp at hh
  obtain⟨rfl,rfl⟩:=hh
  exact⟨J,β,Step.refl S,k,old (by simp[A4])⟩
| false =>
  rw[T,cond_false]at hh
  cases Y:beq m.1 1 with
  | true =>
   rw[Y,cond_true]at hh
   split at hh
   ·simp at hh;obtain⟨rfl,rfl⟩:=hh
    rw[Rep]at k;subst k
    refine⟨J,β,Step.refl S,?_,old (by simp[A4])⟩
    rw[Rep,RepC]
    exact⟨by simp,none,0,rfl,Axo _,by simp,.inl rfl⟩
   ·simp at hh;obtain⟨rfl,rfl⟩:=hh
    refine⟨J,β,Step.refl S,?_,old (by simp[A4])⟩
    rw[Rep,RepC]at k ⊢
    obtain⟨e1,A,cap,e2,e3,e4,e5⟩:=k
    exact⟨e1,A,cap,e2,e3,by simp,e5⟩
   ·obtain⟨⟨q1,q2,q3⟩,hq,G⟩:=ub hh
    simp at G;obtain⟨rfl,rfl⟩:=G
    obtain⟨J',A,hA,_⟩:=QL S (Looks.s fun _ _ h=>h) hq k
    refine⟨J',β,A,?_,old (uU hq)⟩
    unfold WT at hq
    obtain⟨x,C,D⟩:=ub hq
    obtain⟨_,h4⟩:=uc D
    simp at h4
    obtain⟨rfl,rfl,rfl⟩:=h4
    rw[Rep];exact hA
   ·simp at hh
  | false =>
   rw[Y,cond_false]at hh
   cases G:beq m.1 2 with
   | true =>
    rw[G,cond_true]at hh
    split at hh
    ·obtain⟨hn,D⟩:=Ac2 hh
     simp at D;obtain⟨rfl,rfl⟩:=D
     have L:Am h (nid 90000+i)=none:=by cases C:Am h (nid 90000+i)<;>simp_all
     have A:=Step.newNone S (x:=Gm m.2) L rfl
     refine⟨J,fun b=>if b=nid 90000+i then none else β b,A,?_,fun b x C hb=>?_⟩
     ·rw[Rep]at k;subst k;rw[Rep]
      exact⟨Gm m.2,none,0,⟨by simp only[An];rw[Ah,if_pos rfl],rfl⟩,rfl,Axo _,.inl rfl⟩
     ·simp only[An]at C
      rw[Ah]at C
      by_cases e:b=nid 90000+i
      ·subst e;unfold nid Hr;omega
      ·rw[if_neg e,hb]at C;cases C
    ·simp at hh;obtain⟨rfl,rfl⟩:=hh
     exact⟨J,β,Step.refl S,k,old (by simp[A4])⟩
   | false =>
    rw[G,cond_false]at hh
    split at hh
    ·rename_i c
     obtain⟨⟨q1,q2,q3⟩,hq,D⟩:=ub hh
     simp at D;obtain⟨rfl,rfl⟩:=D
     rw[Rep]at k
     obtain⟨cs,rfl,hc⟩:=k
     obtain⟨J',A,hA,I,_⟩:=Rx S (Looks.s fun _ _ h=>h) hq hc
     refine⟨J',β,A,?_,old (AK hq)⟩
     rw[Rep]
     exact⟨cs,rfl,I.symm,hA⟩
    ·simp at hh;obtain⟨rfl,rfl⟩:=hh
     exact⟨J,β,Step.refl S,k,old (by simp[A4])⟩
    ·simp at hh
def jn{s:G7}:∀(vals:LA){i:Nat}{ms:List (Nat×Nat)}{h h':Ay}{vals':LA}{vs:List Value}{J:Bool->Nat->Prop}{β:Ch},
  Inv Z nt J β {s:=s,h:=h} a w->zV h i ms vals=some (vals',h')->Reps J β h w vals vs ->
  ∃ J' β',Inv Z nt J' β' {s:=s,h:=h'} a w/\Reps J' β' h' w vals' vs/\∀ x v,Rep J β h w x v->Rep J' β' h' w x v
|[],i,ms,h,h',vals',vs,J,β,I,hh,C=>by
  simp[zV]at hh;obtain⟨rfl,rfl⟩:=hh
  exact⟨J,β,I,C,fun _ _ h=>h⟩
|v::r,i,ms,h,h',vals',vs,J,β,I,hh,C=>by
  rw[zV]at hh
  obtain⟨⟨v1,u1⟩,Y,h2⟩:=ub hh
  obtain⟨⟨r2,hr⟩,h3,L⟩:=ub h2
  simp at L;obtain⟨rfl,rfl⟩:=L
  rw[Reps]at C
  obtain⟨u,us,rfl,D,G⟩:=C
  obtain⟨J1,β1,A,hA,k⟩:=Adu I.sim Y D
  have I1:=I.step A k
  obtain⟨J2,β2,I2,hB,T⟩:=jn r I1 h3 (Reps.ext A.ext G)
  refine⟨J2,β2,I2,?_,fun x v h=>T x v (Rep.ext A.ext h)⟩
  rw[Reps]
  exact⟨u,us,rfl,T _ _ hA,hB⟩
def s6{E:Env}{fn:Func}{modes:List (Nat×Nat)}{outs:List Nat}{k:AV->Ay->O R}(I:Inv Z nt J β st a w)(hh:Vf E fn modes outs k st=some r):
  ∃ res h' vc J' β',k res h'=some r/\(results fn a.tmps).run E.P w=.ok vc w/\FDone Z J' β' h' w/\Rep J' β' h' w res vc:=by
 unfold Vf at hh
 obtain⟨vals,vs,h1,h2,h3⟩:=FN I.sim I.ss _ hh
 simp only[List.reverse_nil,A0e]at h1
 obtain⟨⟨vals',h'⟩,h4,h5⟩:=ub h1
 obtain⟨J1,β1,I1,hR,_⟩:=jn (s:=st.s) vals I h4 h3
 obtain⟨hc,h6⟩:=uc h5
 simp at hc
 obtain⟨hn,hs,hi,_⟩:=hc
 have hn:=Ud hn
 have G:=Ps hi
 have hs:=Ps hs
 refine⟨_,_,Aai vs,J1,NZ _ _ β1,h6,Aaj fn a.tmps h2,?_,Rep.ren hn hs ?_⟩
 ·exact⟨I1.sim.ren hn G,I1.os,I1.tape,I1.output,I1.size,I1.frame,fun k hm=>I1.wr k (xM hn hm),I1.jsub,I1.jup,I1.sizes,fun b x0 x L T hd=>by
   obtain⟨b',x',D,Y,hg,rfl⟩:=Oq hn b x T
   have:=jm D ⟨I1.zge b x0 L,I1.zlt b x0 L⟩ Y
   subst this
   obtain⟨⟨e1,em⟩,e2,e3,e4⟩:=I1.outs b' x0 x' L hg hd
   refine⟨⟨?_,em⟩,e2,by rw[Nh];exact e3,e4⟩
   have:=G9 (β:=β1) hn D
   rw[Y]at this
   rw[this];exact e1,fun b x T=>by
   obtain⟨b',x',D,Y,hg,rfl⟩:=Oq hn b x T
   obtain⟨x2,h7,h8⟩:=Aaf D
   rw[hg] at h7;simp at h7;subst h7;exact h8⟩
 ·match vals',vs,hR with
  |[],vs,hR=>rw[Reps]at hR;subst hR;simp only[Aai,Aqr];rw[Rep];exact⟨[],rfl,by rw[Reps]⟩
  |[v],vs,hR =>
   rw[Reps]at hR
   obtain⟨u,us,rfl,hu,C⟩:=hR
   rw[Reps]at C;subst C
   exact hu
  |v::v2::l,vs,hR =>
   have hR':=hR
   rw[Reps]at hR
   obtain⟨u,us,rfl,hu,C⟩:=hR
   rw[Reps]at C
   obtain⟨u2,us2,rfl,_,_⟩:=C
   simp only[Aai,Aqr]
   rw[Rep]
   exact⟨_,rfl,hR'⟩
end
end Gx
namespace Gx
open Go
section
variable{J J':Bool->Nat->Prop}{β:Ch}{h:Ay}{w:World}
mutual
def Rep.noOrg:∀{x:AV}{v:Value},Xj x=false->Rep J β h w x v->Rep (fun _=>J false) β h w x v
|.own ..,v,_,hr=>by rw[Rep]at hr ⊢;exact hr
|.optr ..,v,_,hr=>by rw[Rep]at hr ⊢;exact hr
|.omap ..,v,_,hr=>by rw[Rep]at hr ⊢;exact hr
|.pagg c o,v,ho,hr=>by
  rw[Xj]at ho;subst ho
  rw[Rep]at hr ⊢;exact hr
|.agg c,v,ho,hr=>by
  rw[Xj]at ho
  rw[Rep]at hr ⊢
  obtain⟨cs,h1,h2⟩:=hr
  exact⟨cs,h1,Reps.noOrg ho h2⟩
|.tup c,v,ho,hr=>by
  rw[Xj]at ho
  rw[Rep]at hr ⊢
  obtain⟨cs,h1,h2⟩:=hr
  exact⟨cs,h1,Reps.noOrg ho h2⟩
|.fn f c,v,ho,hr=>by
  rw[Xj]at ho
  rw[Rep]at hr ⊢
  obtain⟨cs,h1,h2⟩:=hr
  exact⟨cs,h1,Reps.noOrg ho h2⟩
|.undef,_,_,_=>by rw[Rep];trivial
|.imm c n sz t o,v,ho,hr=>by
  rw[Xj]at ho;subst ho
  rw[Rep]at hr ⊢;exact hr
|.iptr c o,v,ho,hr=>by
  rw[Xj]at ho;subst ho
  rw[Rep]at hr ⊢;exact hr
|.int ..,v,_,hr=>by rw[Rep]at hr ⊢;exact hr
|.bool _,v,_,hr=>by rw[Rep]at hr ⊢;exact hr
|.str _,v,_,hr=>by rw[Rep]at hr ⊢;exact hr
|.nsl,v,_,hr=>by rw[Rep]at hr ⊢;exact hr
|.nilptr,v,_,hr=>by rw[Rep]at hr ⊢;exact hr
|.nilfn,v,_,hr=>by rw[Rep]at hr ⊢;exact hr
def Reps.noOrg:∀{c:List AV}{cs:List Value},Vd c=false->Reps J β h w c cs->Reps (fun _=>J false) β h w c cs
|[],_,_,hr=>by rw[Reps]at hr ⊢;exact hr
|x::r,cs,ho,hr=>by
  rw[Vd]at ho
  simp at ho
  rw[Reps]at hr ⊢
  obtain⟨u,us,h1,h2,h3⟩:=hr
  exact⟨u,us,h1,Rep.noOrg ho.1 h2,Reps.noOrg ho.2 h3⟩
end
def oe:∀{c:LA}{j:Nat}{x:AV},Vd c=false->c[j]?=some x->Xj x=false
|[],j,x,_,k=>by simp at k
|y::r,j,x,C,k=>by
  rw[Vd]at C
  simp at C
  cases j with
  |zero=>simp at k;subst k;exact C.1
  |succ j=>exact oe C.2 (by simpa using k)
def og:∀{h:Ay}{b:Nat}{x:Blk},bT h=false->Am h b=some x->x.taint=false/\(x.pure=false->Vd x.cells=false)
|[],b,x,_,k=>by simp[Am]at k
| (i,y)::r,b,x,C,k=>by
  rw[bT]at C
  simp at C
  rw[Am]at k
  cases hi:beq i b with
  |true =>
   rw[hi]at k;simp at k;subst k
   refine⟨C.1.1,fun D=>?_⟩
   have:=C.1.2
   rw[D]at this;simpa using this
  |false=>rw[hi]at k;exact og C.2 (by simpa using k)
def SimH.noOrg(S:SimH J β h w)(ho:bT h=false):SimH (fun _=>J false) β h w:=by
 refine⟨fun _ k C=>S.jlt _ k C,fun k C=>C,S.gl.to (fun _ h=>h) (fun _ _=>rfl),fun b x D I L=>?_,fun b x D I L=>by
   obtain⟨T,Y,k,ob,g3,g4,g5,g6⟩:=S.mblk b x D I L
   exact⟨T,Y,k,ob,g3,g4,g5,fun _ hg=>g6 false hg⟩,S.sep⟩
 obtain⟨ht,hc⟩:=og ho D
 rcases S.blk b x D I L with h1|⟨k,o,cs,ty,fr,h1,h2,h3,h4,h5,h6,h7⟩
 ·exact .inl h1
 ·refine .inr ⟨k,o,cs,ty,fr,h1,h2,h3,h4,⟨fun G=>?_,fun G j c C=>?_⟩,fun hs _=>h6 hs _,fun hs=>?_⟩
  ·have:=h5.1 G;rw[ht]at this;exact this
  ·obtain⟨u,T,Y,g3⟩:=h5.2 G j c C
   exact⟨u,T,Rep.noOrg (oe (hc G) C) Y,g3⟩
  ·have:=h7 hs;rw[ht]at this;exact this
def Ext.grow(hJ:∀ o k,J o k->J' o k):Ext J β h w J' β h w:=⟨hJ,fun _ _ _=>rfl,fun b x C=>⟨x,⟨C,rfl⟩,by cases D:x.dead<;>simp⟩,fun _ _ _ _=>Axo _⟩
def SimH.grow(S:SimH J β h w)(hJ:∀ o k,J o k->J' o k)(L:∀ o k,J' o k->k<w.heap.size)(T:∀ k,J' false k->J' true k)
  (C:∀ b x k o,Am h b=some x->x.dead=false->x.sealed=false->β b=some (k,o)->∀ g,¬ J' g k):SimH J' β h w:=by
 refine⟨L,T,S.gl.to (hJ false) (fun _ _=>rfl),fun b x D G Y=>?_,fun b x D G Y=>by
   obtain⟨g1,g2,k,ob,g3,g4,g5,g6⟩:=S.mblk b x D G Y
   exact⟨g1,g2,k,ob,g3,g4,g5,C b x k 0 D G g2 g3⟩,S.sep⟩
 rcases S.blk b x D G Y with I|⟨k,o,cs,ty,fr,I,h2,h3,h4,h5,h6,h7⟩
 ·exact .inl I
 ·exact .inr ⟨k,o,cs,ty,fr,I,h2,h3,h4,h5.ext (Ext.grow hJ),fun hs=>C b x k o D G hs I,fun hs=>hJ _ _ (h7 hs)⟩
def Ast(β:Ch)(h:Ay)(fz:List Nat)(k:Nat):Prop:=∃ b x o,b∈fz/\Am h b=some x/\x.dead=false/\x.sealed=false/\β b=some (k,o)
def JS(J:Bool->Nat->Prop)(β:Ch)(h:Ay)(fz:List Nat):Bool->Nat->Prop:=fun o k=>J o k\/(o=true/\Ast β h fz k)
def oh{g:A6}{b off n:Nat}{x:Blk}{vc:Value}{fz:List Nat}(S:SimH J β h w)(hl:Looks g h)(C:Gd g b=some x)(hp:x.pure=true)(hf:x.sealed=false->b∈fz)(hv:Rep J β h w (.own b off n) vc):
  Rep (JS J β h fz) β h w (.imm ((x.cells.drop off).take (n*x.sz)) n x.sz false (!x.sealed||x.taint)) vc:=by
 unfold Gd at C
 obtain⟨x0,T,C⟩:=ub C
 obtain⟨Y,C⟩:=Ac2 C
 simp at C;subst C
 have L:=hl b _ T
 rw[Rep]
 have key:=(Af9 (J':=fun o k=>o≠x0.taint\/JS J β h fz (!x0.sealed||x0.taint) k) S L Y hp hv (fun k o hβ=>.inr ?_) (fun o k G=>?_) false (!x0.sealed||x0.taint)).2 (by simp)
 ·exact RepC.keep (fun k I=>by rcases I with I|I;exact absurd rfl I;exact I) (fun _ _=>rfl) key
 ·cases hs:x0.sealed with
  |false =>
   simp only[Az2,A0w]
   exact .inr ⟨rfl,b,x0,o,hf hs,L,Y,hs,hβ⟩
  | true =>
   simp only[A00,A1q]
   rcases S.blk b x0 L Y (Ak0 L hv)with⟨D,_⟩|⟨k',o',cs,ty,fr,D,h2,h3,h4,h5,h6,h7⟩
   ·rw[hβ]at D;cases D
   ·rw[hβ]at D;simp at D;obtain⟨rfl,rfl⟩:=D
    exact .inl (h7 hs)
 ·by_cases e:o=x0.taint
  ·subst e
   right
   cases hs:x0.sealed with
   |false =>
    simp only[Az2,A0w]
    left
    cases ht:x0.taint with
    |false=>rw[ht]at G;exact S.jft k G
    |true=>rw[ht]at G;exact G
   |true=>simp only[A00,A1q];exact .inl G
  ·exact .inl e
def JS.mono(S:SimH J β h w){fz:List Nat}{a b:Bool}(k:Nat)(C:JS J β h fz a k):JS J β h fz (a||b) k:=by
 cases a
 ·cases b
  ·exact C
  ·rcases C with C|⟨D,_⟩
   ·exact .inl (S.jft k C)
   ·cases D
 ·exact C
def s7{g:A6}{v v':AV}{o:Bool}{vc:Value}{fz:List Nat}(S:SimH J β h w)(Y:Looks g h)(hh:JQ g v=some (v',o))(hf:∀ b off n x,v=.own b off n->g b=some x->x.sealed=false->b∈fz)(D:Rep J β h w v vc):
  RepC (JS J β h fz o) w v' vc:=by
 cases v
 case own b off n =>
  rw[JQ]at hh
  obtain⟨x,C,h1⟩:=ub hh
  obtain⟨hp,T⟩:=uc h1
  simp at T
  obtain⟨rfl,rfl⟩:=T
  have:=oh S Y C hp (fun hs=>by
   unfold Gd at C
   obtain⟨x0,G,C⟩:=ub C
   obtain⟨hd,C⟩:=Ac2 C
   simp at C;subst C
   exact hf b off n x0 rfl G hs) D
  rw[Rep]at this;exact this
 case imm c n sz t org =>
  simp[JQ]at hh;obtain⟨rfl,rfl⟩:=hh
  rw[Rep,RepC]at D
  rw[RepC]
  obtain⟨e1,A,cap,e2,e3,e4,I⟩:=D
  refine⟨e1,A,cap,e2,e3,by simp,?_⟩
  rcases I with I|⟨a,e6,e7,e8⟩
  ·exact .inl I
  ·exact .inr ⟨a,e6,.inl e7,RepCs.keep (fun k L=>.inl L) (fun _ _=>rfl) (fun _=>rfl) e8⟩
 case iptr c org =>
  simp[JQ]at hh;obtain⟨rfl,rfl⟩:=hh
  rw[Rep]at D
  exact RepC.keep (fun k L=>.inl L) (fun _ _=>rfl) D
 all_goals first
  |(simp[JQ]at hh;done)
  |(simp[JQ]at hh;obtain⟨rfl,rfl⟩:=hh;rw[Rep]at D;rw[RepC];exact D)
def AQ{g:A6}{fz:List Nat}(S:SimH J β h w)(Y:Looks g h):∀{c c':LA}{o:Bool}{cs:List Value},GK g c=some (c',o)->(∀ b∈Iw g c,b∈fz)->Reps J β h w c cs ->
  cs.length=c'.length/\∀(j:Nat)(x:AV),c'[j]?=some x->∃ u,cs[j]?=some u/\RepC (JS J β h fz o) w x u
|[],c',o,cs,hh,G,C=>by
  simp[GK]at hh;obtain⟨rfl,rfl⟩:=hh
  rw[Reps]at C;subst C
  exact⟨rfl,fun j x D=>by simp at D⟩
| v::r,c',o,cs,hh,G,C=>by
  rw[GK]at hh
  obtain⟨⟨v1,o1⟩,h1,hh⟩:=ub hh
  obtain⟨⟨r1,o2⟩,h2,hh⟩:=ub hh
  simp at hh;obtain⟨rfl,rfl⟩:=hh
  rw[Reps]at C
  obtain⟨u,us,rfl,g1,g2⟩:=C
  have I:∀ b ∈ Iw g r,b ∈ fz:=fun b L=>G b (by
   cases v<;>simp only[Iw]<;>try exact L
   split
   ·rename_i x _;cases x.sealed<;>simp[L]
   ·exact L)
  have a1:=s7 (fz:=fz) S Y h1 (fun b off n x e hx hs=>G b (by subst e;simp[Iw,hx,hs])) g1
  obtain⟨b1,b2⟩:=AQ S Y h2 I g2
  refine⟨by simp[b1],fun j x D=>?_⟩
  cases j with
  |zero=>simp at D;subst D;exact⟨u,by simp,RepC.keep (fun k T=>JS.mono S k T) (fun _ _=>rfl) a1⟩
  |succ j =>
   obtain⟨u',e1,e2⟩:=b2 j x (by simpa using D)
   exact⟨u',by simpa using e1,RepC.keep (fun k T=>by rw[A3m];exact JS.mono S k T) (fun _ _=>rfl) e2⟩
def Agg{rd:Nat->Option Value}:∀{c:LA} ,(∀ j x,c[j]?=some x->∃ u,rd j=some u/\Rep J β h w x u)->∃ us,Reps J β h w c us/\∀ j,j<us.length->us[j]?=rd j
|[],_=>⟨[],by rw[Reps],fun j k=>by simp at k⟩
|x::r,hc=>by
  obtain⟨u,C,D⟩:=hc 0 x (by simp)
  obtain⟨us,G,I⟩:=Agg (rd:=fun j=>rd (j+1)) (c:=r) (fun j y k=>hc (j+1) y (by simpa using k))
  refine⟨u::us,by rw[Reps];exact⟨u,us,rfl,D,G⟩,fun j k=>?_⟩
  cases j with
  |zero=>simp[C]
  |succ j=>simpa using I j (by simpa using k)
def s9{g:A6}{v v':AV}{q:Bool}{vc:Value}{fz:List Nat}(S:SimH J β h w)(hl:Looks g h)(hh:wg g v=some (v',q))(hf:∀ b∈Z0 g v,b∈fz)(I:Rep J β h w v vc):
  Rep (JS J β h fz) β h w v' vc/\Gv v'=[]:=by
 unfold wg at hh
 split at hh
 ·rename_i b off n
  obtain⟨x,C,T⟩:=ub hh
  obtain⟨hp,Y⟩:=uc T
  simp at Y
  obtain⟨rfl,_⟩:=Y
  exact⟨oh S hl C hp (fun hs=>by
   unfold Gd at C
   obtain⟨x0,L,C⟩:=ub C
   obtain⟨hd,C⟩:=Ac2 C
   simp at C;subst C
   exact hf b (by simp[Z0,L,hs])) I,by simp[Gv]⟩
 ·simp at hh;obtain⟨rfl,_⟩:=hh
  refine⟨?_,by simp[Gv]⟩
  rw[Rep,RepC]at I ⊢
  obtain⟨e1,A,cap,e2,e3,e4,e5⟩:=I
  refine⟨e1,A,cap,e2,e3,by simp,?_⟩
  rcases e5 with e5|⟨a,e6,e7,e8⟩
  ·exact .inl e5
  ·exact .inr ⟨a,e6,.inl e7,RepCs.keep (fun k hk=>.inl hk) (fun _ _=>rfl) (fun _=>rfl) e8⟩
 ·rename_i b off
  obtain⟨x,C,T⟩:=ub hh
  unfold Gd at C
  obtain⟨x0,L,C⟩:=ub C
  obtain⟨hd,C⟩:=Ac2 C
  simp at C;subst C
  have hy:=hl b _ L
  rw[Rep]at I
  obtain⟨x1,k,o,⟨g1,gm⟩,g2,g3⟩:=I
  rw[hy]at g1;simp at g1;subst g1
  rcases g3 with g3|g3
  ·simp[hd]at g3
  rcases S.blk b x0 hy hd gm with⟨G,_⟩|⟨k',o',cs,ty,fr,G,Y,h3,h4,h5,h6,h7⟩
  ·rw[g3]at G;cases G
  rw[g3]at G;simp at G;obtain⟨rfl,rfl⟩:=G
  have hk:JS J β h fz (!x0.sealed||x0.taint) k:=by
   cases hs:x0.sealed with
   |false =>
    simp only[Az2,A0w]
    exact .inr ⟨rfl,b,x0,o,hf b (by simp[Z0,L,hs]),hy,hd,hs,g3⟩
   |true =>
    simp only[A00,A1q]
    exact .inl (h7 hs)
  cases hp:x0.pure with
  | true =>
   rw[hp,cond_true]at T
   simp at T
   obtain⟨rfl,_⟩:=T
   refine⟨?_,by simp[Gv]⟩
   have hin:∀ k2,J x0.taint k2->JS J β h fz (!x0.sealed||x0.taint) k2:=by
    intro k2 D
    left
    cases hs:x0.sealed with
    |false =>
     simp only[Az2,A0w]
     cases ht:x0.taint with
     |false=>rw[ht]at D;exact S.jft k2 D
     |true=>rw[ht]at D;exact D
    |true=>simp only[A00,A1q];exact D
   rw[Rep,RepC]
   refine⟨_,g2,hk,?_⟩
   refine RepCs.keep hin (fun _ _=>rfl) (fun j=>?_) ((h5.1 hp).drop off)
   rw[Addr.add_mid,Nf Y,Ay8]
  | false =>
   rw[hp,cond_false]at T
   obtain⟨⟨c1,o1⟩,h8,h9⟩:=ub T
   simp at h9;obtain⟨rfl,_⟩:=h9
   refine⟨?_,by simp[Gv]⟩
   obtain⟨us,e1,e2⟩:=Agg (c:=x0.cells.drop off) (rd:=fun j=>cs[o+off+j]?) (fun j c D=>by
    obtain⟨u,q1,q2,_⟩:=h5.2 hp (off+j) c (by rw[Ayw]at D;exact D)
    exact⟨u,by rw[<-q1,Ay8],q2⟩)
   obtain⟨b1,b2⟩:=AQ (fz:=fz) S hl h8 (fun b' hb=>hf b' (by simp[Z0,L,hp,hb])) e1
   rw[Rep,RepC]
   refine⟨_,g2,?_,?_⟩
   ·have:=JS.mono S (b:=true) k hk;rwa [A0b]at this
   ·rw[By]
    intro j x D
    obtain⟨u,e3,e4⟩:=b2 j x D
    refine⟨u,?_,RepC.keep (fun k hk=>by have:=JS.mono S (b:=true) k hk;rwa [A0b]at this) (fun _ _=>rfl) e4⟩
    rw[Addr.add_mid,Nf Y,Ax0]
    rw[<-e2 j (by have:=(Axw.1 e3).1;exact this)];exact e3
 ·rename_i c
  obtain⟨⟨c1,o1⟩,T,Y⟩:=ub hh
  simp at Y;obtain⟨rfl,_⟩:=Y
  rw[Rep]at I
  obtain⟨cs,rfl,I⟩:=I
  obtain⟨b1,b2⟩:=AQ (fz:=fz) S hl T (by simpa[Z0]using hf) I
  refine⟨?_,by simp[Gv]⟩
  rw[Rep]
  refine⟨cs,rfl,b1,?_⟩
  rw[By]
  intro j x D
  obtain⟨u,e1,e2⟩:=b2 j x D
  exact⟨u,by simpa using e1,e2⟩
 ·simp at hh;obtain⟨rfl,_⟩:=hh
  exact⟨Rep.ext (Ext.grow fun _ _ D=>.inl D) I,by simp[Gv,Iv]⟩
 ·simp at hh
 ·simp at hh
 ·simp at hh
 ·simp at hh
 ·simp at hh;obtain⟨rfl,_⟩:=hh
  refine⟨Rep.ext (Ext.grow fun _ _ D=>.inl D) I,?_⟩
  cases v<;>first|rfl|simp_all
def AR{g:A6}{fz:List Nat}(S:SimH J β h w)(hl:Looks g h):∀{D:LA}{ms:List Bool}{args':LA}{im C:List Nat}{vs:List Value},
  GL g ms D=some (args',im,C)->(∀ b∈C,b∈fz)->Reps J β h w D vs->Reps (JS J β h fz) β h w args' vs/\∀ b∈Iv args',b∈im
|[],ms,args',im,C,vs,hh,Y,G=>by
  simp[GL]at hh;obtain⟨rfl,rfl,rfl⟩:=hh
  rw[Reps]at G;subst G
  exact⟨by rw[Reps],by simp[Iv]⟩
| v::r,ms,args',im,C,vs,hh,Y,G=>by
  rw[GL]at hh
  rw[Reps]at G
  obtain⟨u,us,rfl,I,L⟩:=G
  cases hm:ms.headD false with
  |true =>
   rw[hm,cond_true]at hh
   obtain⟨⟨a2,i2,f2⟩,h1,T⟩:=ub hh
   simp at T;obtain⟨rfl,rfl,rfl⟩:=T
   obtain⟨g1,g2⟩:=AR S hl h1 Y L
   refine⟨by rw[Reps];exact⟨u,us,rfl,Rep.ext (Ext.grow fun _ _ hj=>.inl hj) I,g1⟩,fun b k=>?_⟩
   rw[Iv]at k
   rcases Axz.1 k with k|k
   ·exact Axz.2 (.inl k)
   ·exact Axz.2 (.inr (g2 b k))
  |false =>
   rw[hm,cond_false]at hh
   obtain⟨⟨v1,b1⟩,h0,hh⟩:=ub hh
   obtain⟨⟨a2,i2,f2⟩,h1,T⟩:=ub hh
   simp at T;obtain⟨rfl,rfl,rfl⟩:=T
   obtain⟨e1,e2⟩:=s9 S hl h0 (fun b k=>Y b (Axz.2 (.inl k))) I
   obtain⟨g1,g2⟩:=AR S hl h1 (fun b k=>Y b (Axz.2 (.inr k))) L
   refine⟨by rw[Reps];exact⟨u,us,rfl,e1,g1⟩,fun b k=>?_⟩
   rw[Iv,e2]at k
   exact g2 b (by simpa using k)
end
end Gx
namespace Gx
open Go
def ud{g g':A6}{ρ:Nat->Nat}:∀{ids:List Nat},(∀ b∈ids,g b=g' b)->sub g ρ ids=sub g' ρ ids
|[],_=>rfl
|b::r,h=>by rw[sub,sub,h b (by simp),ud (fun c hc=>h c (by simp[hc]))]
def QU{g:A6}:∀{l:List Nat},QH g l=true->∀ b∈l,∃ x,g b=some x/\x.dead=false
|[],_,b,k=>by simp at k
| i::r,h,b,k=>by
  rw[QH]at h
  simp at h
  rcases Ax7.1 k with rfl|k
  ·cases C:g b with
   |none=>rw[C]at h;simp at h
   |some x=>rw[C]at h;exact⟨x,rfl,by simpa using h.1⟩
  ·exact QU h.2 b k
def Agh:∀{l m:List Nat},zR l m=true->∀ b∈l,b∉m
|[],m,_,b,k=>by simp at k
|i::r,m,h,b,k=>by
  rw[zR]at h
  simp at h
  rcases Ax7.1 k with rfl|k
  ·intro C;have:=Ll.2 C;rw[this]at h;simp at h
  ·exact Agh h.2 b k
def GV{d:Nat}:∀{l:List (Nat×Nat)}{b:Nat},b∈l.map (·.1)->Jc d l b∈l.map (·.2)
|[],b,k=>by simp at k
| (i,x)::r,b,k=>by
  rw[Jc]
  cases hi:beq i b with
  |true=>simp
  | false =>
   have C:b∈r.map (·.1):=by
    rw[Ayc]at k
    rcases Ax7.1 k with h|h
    ·exact absurd h.symm (X1 hi)
    ·exact h
   simp only[cond_false,Ayc]
   exact Az8 _ (GV C)
def Y1{d:Nat}:∀{l m:List (Nat×Nat)}{b:Nat},Jc d (l++m) b=if b∈l.map (·.1)then Jc d l b else Jc d m b
|[],m,b=>by simp
| (i,x)::r,m,b=>by
  rw[Ayu,Jc,Jc,Y1]
  cases hi:beq i b with
  |true=>have:=Axy hi;subst this;simp
  |false =>
   have:=X1 hi
   simp only[cond_false,Ayc,Ax7]
   by_cases k:b∈r.map (·.1)
   ·rw[if_pos k,if_pos (.inr k)]
   ·rw[if_neg k,if_neg (by rintro(h|h);exact this h.symm;exact k h)]
def Kg:∀{base:Nat}{l:List Nat},(Aw base l).map (·.1)=l
|_,[]=>rfl
|base,i::r=>by rw[Aw,Ayc,Kg]
def oi{d d':Nat}:∀{l:List Nat}{base b:Nat},b∈l->Jc d' ((Aw base l).map fun p=>(p.2,p.1)) (Jc d (Aw base l) b)=b
|[],base,b,k=>by simp at k
| i::r,base,b,k=>by
  rw[Aw,Jc,Ayc,Jc]
  cases hi:beq i b with
  |true=>have:=Axy hi;subst this;simp
  | false =>
   have C:b∈r:=by
    rcases Ax7.1 k with h|h
    ·exact absurd h.symm (X1 hi)
    ·exact h
   simp only[cond_false]
   have D:=AP (d:=d) (base:=base+1) C
   rw[PL (show base≠Jc d (Aw (base+1) r) b by omega)]
   exact oi C
def Uf:∀{base:Nat}{l:List Nat}{c:Nat},c∈(Aw base l).map (·.2)->base<=c/\c<base+l.length
|_,[],c,hc=>by simp[Aw]at hc
|base,i::r,c,hc=>by
  rw[Aw,Ayc]at hc
  rcases Ax7.1 hc with h|h
  ·simp at h;subst h;simp
  ·have:=Uf h;simp only[Ayb];omega
def AS:∀{base:Nat}{l:List Nat},((Aw base l).map (·.2)).Nodup
|_,[]=>by simp[Aw]
|base,i::r=>by
  rw[Aw,Ayc,Ay9]
  exact⟨fun h=>by have:=Uf h;simp at this;omega,AS⟩
def QV:∀{base:Nat}{l:List Nat}{b:Nat},b∈l->(b,Jc 0 (Aw base l) b)∈Aw base l
|_,[],b,k=>by simp at k
| base,i::r,b,k=>by
  rw[Aw,Jc]
  cases hi:beq i b with
  |true=>have:=Axy hi;subst this;simp
  | false =>
   have C:b∈r:=by
    rcases Ax7.1 k with h|h
    ·exact absurd h.symm (X1 hi)
    ·exact h
   simp only[cond_false]
   exact Az8 _ (QV C)
def Adv(x:Blk):Blk:={x with dead:=true,pure:=true,cells:=[]}
def Gw:∀{ups:D7}{h:Ay}{b:Nat}{o:Option Blk},(ups.map (·.1)).Nodup->(b,o)∈ups->Am (An ups h) b=match o with|some x=>some x|none=>(Am h b).map Adv
|[],h,b,o,_,G=>by simp at G
| (i,y)::r,h,b,o,hn,G=>by
  rw[Ayc,Ay9]at hn
  rcases Ax7.1 G with I|k
  ·simp at I
   obtain⟨rfl,rfl⟩:=I
   have C:A4 r b=false:=by
    have:∀{r:D7},b∉r.map (·.1)->A4 r b=false:=by
     intro r
     induction r with
     |nil=>intro _;rfl
     |cons p r L =>
      intro h
      simp only[Ayc,Ax7,not_or]at h
      rw[A4,PL (fun e=>h.1 e.symm)]
      exact L h.2
    exact this hn.1
   cases o with
   |some x=>rw[An,Bu _ _ _ C,Ah,if_pos rfl]
   |none =>
    rw[An,Bu _ _ _ C]
    cases T:Am h b with
    |none=>simp[T]
    |some x=>simp only[Option.map_some];rw[Ah,if_pos rfl];rfl
  ·have D:b≠i:=fun e=>by subst e;exact hn.1 (Ayy.2 ⟨_,k,rfl⟩)
   cases y with
   |some x =>
    rw[An,Gw hn.2 k]
    cases o with
    |some _=>rfl
    |none=>simp only;rw[Ah,if_neg D]
   | none =>
    rw[An,Gw hn.2 k]
    cases o with
    |some _=>rfl
    |none =>
     simp only
     split
     ·rw[Ah,if_neg D]
     ·rfl
def Z3:∀{ups:D7}{b:Nat},A4 ups b=true↔b∈ups.map (·.1)
|[],b=>by simp[A4]
|(i,y)::r,b=>by
  rw[A4,Ayc,Ax7,<-Z3]
  cases hi:beq i b with
  |true=>have:=Axy hi;subst this;simp
  |false=>have:=X1 hi;simp;intro e;exact absurd e.symm this
def om{β:Ch}{h:Ay}{ρ:Nat->Nat}{ids:List Nat}(hn:(ids.map ρ).Nodup){k:Nat}(G:zX (NZ ρ ids β) (sub (Am h) ρ ids) k):
  ∃ b x o,b∈ids/\Am h b=some x/\x.dead=false/\x.sealed=false/\β b=some (k,o):=by
 obtain⟨c,y,o,I,L,hs,C⟩:=G
 obtain⟨b,x,D,rfl,T,rfl⟩:=Oq hn c y I
 rw[G9 hn D]at C
 exact⟨b,x,o,D,T,L,hs,C⟩
def SimH.unJ{J:Bool->Nat->Prop}{β:Ch}{h:Ay}{w:World}(S:SimH J β h w){b:Nat}{x:Blk}{k o:Nat}(G:Am h b=some x)(I:x.dead=false)(hs:x.sealed=false)(D:β b=some (k,o)):∀ g,¬ J g k:=by
 cases L:x.mp with
| false =>
  rcases S.blk b x G I L with⟨C,_⟩|⟨Y,o2,cs,ty,fr,C,T,h4,h5,h6,h7,h8⟩
  ·rw[D]at C;cases C
  ·rw[D]at C;simp at C;obtain⟨rfl,rfl⟩:=C
   exact h7 hs
|true =>
  obtain⟨_,_,Y,ob,C,_,_,T⟩:=S.mblk b x G I L
  rw[D]at C;simp at C;obtain⟨rfl,_⟩:=C
  exact T
def SimH.seJ{J:Bool->Nat->Prop}{β:Ch}{h:Ay}{w:World}(S:SimH J β h w){b:Nat}{x:Blk}{k o:Nat}(D:Am h b=some x)(G:x.dead=false)(hs:x.sealed=true)(I:β b=some (k,o)):J x.taint k:=by
 cases L:x.mp with
| false =>
  rcases S.blk b x D G L with⟨C,_⟩|⟨Y,o2,cs,ty,fr,C,h3,h4,h5,h6,h7,T⟩
  ·rw[I]at C;cases C
  ·rw[I]at C;simp at C;obtain⟨rfl,rfl⟩:=C
   exact T hs
|true =>
  have:=(S.mblk b x D G L).2.1
  rw[hs]at this;cases this
def Step.merge{J J0 J1:Bool->Nat->Prop}{β β1:Ch}{h h1 H:Ay}{w w':World}{D ids:List Nat}(S:SimH J β h w)(S1:SimH J0 β1 h1 w')
  (hH:∀ b,b∉D->Am H b=Am h b)
  (hD:∀ b x,b∈D->Am H b=some x->x.dead=false->Am h1 b=some x)
  (hD1:∀ b x,Am h1 b=some x->b∈D/\Am H b=some x)
  (hnew:∀ b x,b∈D->b∉ids->Am h b≠some x)
  (hold:∀ b x,b∈ids->Am h b=some x->∃ x',(Am H b=some x'/\x'.mp=x.mp)/\(x'.dead=true\/(x.dead=false/\β1 b=β b/\x'.sz=x.sz/\(x.mp=false->x'.cells.length=x.cells.length))))
  (hids:∀ b∈ids,b∈D)
  (os:w'.os=w.os) (tape:w'.tape=w.tape) (output:w'.output=w.output) (size:w.heap.size<=w'.heap.size)
  (frame:∀ k,k<w.heap.size->(¬ ∃ b x o,b∈ids/\Am h b=some x/\x.dead=false/\x.sealed=false/\β b=some (k,o))->w'.heap[k]?=w.heap[k]?)
  (wr:∀ k,zX β1 h1 k->k<w.heap.size->∃ b x o,b∈ids/\Am h b=some x/\x.dead=false/\x.sealed=false/\β b=some (k,o))
  (jup:∀ o k,J0 o k->J o k\/(∃ b x o,b∈ids/\Am h b=some x/\x.dead=false/\x.sealed=false/\β b=some (k,o))\/w.heap.size<=k)
  (sizes:∀ k,A1 w k<=A1 w' k) :
  Step J β h w (fun o k=>J o k\/J0 o k) (fun b=>if b∈D then β1 b else β b) H w'/\Ext J0 β1 h1 w' (fun o k=>J o k\/J0 o k) (fun b=>if b∈D then β1 b else β b) H w':=by
 have E0:Ext J0 β1 h1 w' (fun o k=>J o k\/J0 o k) (fun b=>if b∈D then β1 b else β b) H w':=by
  refine⟨fun _ _ C=>.inr C,fun _ _ _=>rfl,fun b x G=>?_,fun _ _ _ _=>Axo _⟩
  obtain⟨h2,h3⟩:=hD1 b x G
  refine⟨x,⟨h3,rfl⟩,?_⟩
  cases L:x.dead
  ·exact .inr ⟨rfl,by simp[h2],rfl,fun _=>rfl⟩
  ·exact .inl rfl
 have keepJ:∀ o k,J o k->w'.heap[k]?=w.heap[k]?:=by
  intro o k C
  refine frame k (S.jlt o k C) ?_
  rintro⟨b,x,o',_,G,L,hs,hβ⟩
  exact S.unJ G L hs hβ o C
 have E:Ext J β h w (fun o k=>J o k\/J0 o k) (fun b=>if b∈D then β1 b else β b) H w':=by
  refine⟨fun _ _ C=>.inl C,keepJ,fun b x G=>?_,fun b k o _=>sizes k⟩
  by_cases hi:b∈ids
  ·obtain⟨x',h2,h3⟩:=hold b x hi G
   refine⟨x',h2,?_⟩
   simp only[hids b hi,if_true]
   exact h3
  ·have hnd:b∉D:=fun L=>hnew b x L hi G
   refine⟨x,⟨by rw[hH b hnd];exact G,rfl⟩,?_⟩
   cases L:x.dead
   ·exact .inr ⟨rfl,by simp[hnd],rfl,fun _=>rfl⟩
   ·exact .inl rfl
 have out:∀{b x},b∉D->Am H b=some x->Am h b=some x:=fun G hx=>by rw[<-hH _ G];exact hx
 refine⟨⟨E,⟨?_,?_,S.gl.ext E,fun b x hx L hm=>?_,fun b x hx L hm=>by
   by_cases G:b∈D
   ·have h2:=hD b x G hx L
    have M:=S1.mblk b x h2 L hm
    refine M.keep (by simp[G]) (fun _ _ _=>rfl) (fun g k o hβ C=>?_)
    rcases C with C|C
    ·exfalso
     by_cases hk:k<w.heap.size
     ·obtain⟨b',x',o',Y,hx',T,hs',I⟩:=wr k ⟨b,x,o,h2,L,M.2.1,hβ⟩ hk
      exact S.unJ hx' T hs' I g C
     ·exact hk (S.jlt g k C)
    ·exact C
   ·have h2:=out G hx
    have M:=S.mblk b x h2 L hm
    have hnm:∀ k o,β b=some (k,o)->¬ ∃ b x o,b∈ids/\Am h b=some x/\x.dead=false/\x.sealed=false/\β b=some (k,o):=by
     rintro k o h3 ⟨b',x',o',Y,hx',T,hs',I⟩
     have:=S.sep b b' x x' k o o' h2 hx' L T M.2.1 h3 I
     subst this
     exact G (hids b Y)
    refine M.keep (by simp[G]) (fun k o hβ=>frame k (Ub S h2 L hβ) (hnm k o hβ)) (fun g k o hβ C=>?_)
    rcases C with C|C
    ·exact C
    ·rcases jup g k C with C|C|C
     ·exact C
     ·exact absurd C (hnm k o hβ)
     ·have:=Ub S h2 L hβ;omega,?_⟩,os,tape,output,size,?_,?_,?_⟩,E0⟩
 ·rintro o k (C|C)
  ·exact Ax9 (S.jlt o k C) size
  ·exact S1.jlt o k C
 ·rintro k (C|C)
  ·exact .inl (S.jft k C)
  ·exact .inr (S1.jft k C)
 ·by_cases G:b∈D
  ·have h2:=hD b x G hx L
   rcases S1.blk b x h2 L hm with⟨h3,h4⟩|⟨k,o,cs,ty,fr,h3,h4,h5,h6,h7,h8,h9⟩
   ·exact .inl ⟨by simp[G,h3],h4⟩
   ·refine .inr ⟨k,o,cs,ty,fr,by simp[G,h3],h4,h5,h6,h7.ext E0,fun hs g C=>?_,fun hs=>.inr (h9 hs)⟩
    rcases C with C|C
    ·by_cases hk:k<w.heap.size
     ·obtain⟨b',x',o',Y,hx',T,hs',I⟩:=wr k ⟨b,x,o,h2,L,hs,h3⟩ hk
      exact S.unJ hx' T hs' I g C
     ·exact hk (S.jlt g k C)
    ·exact h8 hs g C
  ·have h2:=out G hx
   rcases S.blk b x h2 L hm with⟨h3,h4⟩|⟨k,o,cs,ty,fr,h3,h4,h5,h6,h7,h8,h9⟩
   ·exact .inl ⟨by simp[G,h3],h4⟩
   ·have hk:=Yy h4
    have hnm:x.sealed=false->¬ ∃ b x o,b∈ids/\Am h b=some x/\x.dead=false/\x.sealed=false/\β b=some (k,o):=by
     rintro hs ⟨b',x',o',Y,hx',T,hs',I⟩
     have:=S.sep b b' x x' k o o' h2 hx' L T hs h3 I
     subst this
     exact G (hids b Y)
    have same:w'.heap[k]?=w.heap[k]?:=by
     cases hs:x.sealed with
     |false=>exact frame k hk (hnm hs)
     |true=>exact keepJ _ k (h9 hs)
    refine .inr ⟨k,o,cs,ty,fr,by simp[G,h3],by rw[same];exact h4,h5,h6,h7.ext E,fun hs g C=>?_,fun hs=>.inl (h9 hs)⟩
    rcases C with C|C
    ·exact h8 hs g C
    ·rcases jup g k C with C|C|C
     ·exact h8 hs g C
     ·exact hnm hs C
     ·omega
 ·intro b b' x x' k o o' hx hx' L T hs hβ I
  by_cases G:b∈D<;>by_cases Y:b'∈D
  ·simp[G]at hβ;simp[Y]at I
   exact S1.sep b b' x x' k o o' (hD b x G hx L) (hD b' x' Y hx' T) L T hs hβ I
  ·exfalso
   simp[G]at hβ;simp[Y]at I
   have h2:=out Y hx'
   have hk:=Ub S h2 T I
   obtain⟨b2,x2,o2,hb2,hx2,hd2,hs2,hβ2⟩:=wr k ⟨b,x,o,hD b x G hx L,L,hs,hβ⟩ hk
   have:=S.sep b2 b' x2 x' k o2 o' hx2 h2 hd2 T hs2 hβ2 I
   subst this
   exact Y (hids _ hb2)
  ·exfalso
   simp[G]at hβ;simp[Y]at I
   have h2:=out G hx
   have h3:=hD b' x' Y hx' T
   have hk:=Ub S h2 L hβ
   have hnm:¬ ∃ b x o,b∈ids/\Am h b=some x/\x.dead=false/\x.sealed=false/\β b=some (k,o):=by
    rintro⟨b2,x2,o2,hb2,hx2,hd2,hs2,hβ2⟩
    have:=S.sep b b2 x x2 k o o2 h2 hx2 L hd2 hs hβ hβ2
    subst this
    exact G (hids _ hb2)
   cases hs':x'.sealed with
   |false=>exact hnm (wr k ⟨b',x',o',h3,T,hs',I⟩ hk)
   |true =>
    rcases jup _ k (S1.seJ h3 T hs' I)with C|C|C
    ·exact S.unJ h2 L hs hβ _ C
    ·exact hnm C
    ·omega
  ·simp[G]at hβ;simp[Y]at I
   exact S.sep b b' x x' k o o' (out G hx) (out Y hx') L T hs hβ I
 ·intro k hk hm
  exact frame k hk (fun ⟨b,x,o,_,hx,L,hs,hβ⟩=>hm ⟨b,x,o,hx,L,hs,hβ⟩)
 ·rintro k ⟨b,x,o,hx,L,hs,hβ⟩ hk
  by_cases G:b∈D
  ·simp[G]at hβ
   obtain⟨b2,x2,o2,_,hx2,hd2,hs2,hβ2⟩:=wr k ⟨b,x,o,hD b x G hx L,L,hs,hβ⟩ hk
   exact⟨b2,x2,o2,hx2,hd2,hs2,hβ2⟩
  ·simp[G]at hβ
   exact⟨b,x,o,out G hx,L,hs,hβ⟩
 ·rintro o k (C|C)
  ·exact .inl C
  ·rcases jup o k C with C|⟨b,x,o2,_,hx,L,hs,hβ⟩|C
   ·exact .inl C
   ·exact .inr (.inl ⟨b,x,o2,hx,L,hs,hβ⟩)
   ·exact .inr (.inr C)
end Gx
namespace Gx
open Go
def Adw{l:List Nat}:YP l=true↔l=[]:=by cases l<;>simp[YP]
def KE{α β:Type}{f:α->β}:∀{l:List α},(l.map f).Nodup->l.Nodup
|[],_=>A33
|a::r,h=>by
  rw[Ayc,Ay9]at h
  exact Ay9.2 ⟨fun k=>h.1 (Ayy.2 ⟨a,k,rfl⟩),KE h.2⟩
def KG{α:Type}{p:α->Bool}:∀{l:List α},l.Nodup->(l.filter p).Nodup
|[],_=>A33
|a::r,h=>by
  rw[Ay9]at h
  rw[A0q]
  split
  ·exact Ay9.2 ⟨fun k=>h.1 (Az5.1 k).1,KG h.2⟩
  ·exact KG h.2
def cD{base:Nat}{l:List Nat}{p:Nat×Nat}(k:p∈Aw base l):p.1∈l:=by
 have:p.1∈(Aw base l).map (·.1):=Ayy.2 ⟨p,k,rfl⟩
 rw[Kg]at this;exact this
def Agi{σ:Nat->Nat}:∀{l:List Nat}{a b:Nat},(l.map σ).Nodup->a∈l->b∈l->σ a=σ b->a=b
|[],a,b,_,D,_,_=>by simp at D
|i::r,a,b,hn,D,I,G=>by
  rw[Ayc,Ay9]at hn
  rcases Ax7.1 D with k|k<;>rcases Ax7.1 I with C|C
  ·rw[k,C]
  ·subst k;exact absurd (Ayy.2 ⟨b,C,G.symm⟩) hn.1
  ·subst C;exact absurd (Ayy.2 ⟨a,k,G⟩) hn.1
  ·exact Agi hn.2 k C G
mutual
def Ala:∀{a b:AV},To a b=true->a=b
|.int k n,b,h=>by cases b<;>simp[To,Kc]at h;obtain⟨rfl,rfl⟩:=h;rfl
|.bool x,b,h=>by cases b<;>simp[To]at h;subst h;rfl
|.str x,b,h=>by cases b<;>simp[To]at h;subst h;rfl
|.nsl,b,h=>by cases b<;>simp[To]at h;rfl
|.imm c n z t o,b,h=>by cases b<;>simp[To]at h;obtain⟨h1,rfl,rfl,rfl,rfl⟩:=h;rw[Z4 h1]
|.iptr c o,b,h=>by cases b<;>simp[To]at h;obtain⟨h1,rfl⟩:=h;rw[Z4 h1]
|.pagg c o,b,h=>by cases b<;>simp[To]at h;obtain⟨h1,rfl⟩:=h;rw[Z4 h1]
|.own x f n,b,h=>by cases b<;>simp[To]at h;obtain⟨rfl,rfl,rfl⟩:=h;rfl
|.optr x f,b,h=>by cases b<;>simp[To]at h;obtain⟨rfl,rfl⟩:=h;rfl
|.agg c,b,h=>by cases b<;>simp[To]at h;rw[Z4 h]
|.tup c,b,h=>by cases b<;>simp[To]at h
|.fn f c,b,h=>by cases b<;>simp[To]at h
|.nilptr,b,h=>by cases b<;>simp[To]at h;rfl
|.nilfn,b,h=>by cases b<;>simp[To]at h
|.undef,b,h=>by cases b<;>simp[To]at h;rfl
|.omap x,b,h=>by cases b<;>simp[To]at h
def Z4:∀{a b:List AV},FI a b=true->a=b
|[],b,h=>by cases b<;>simp[FI]at h;rfl
|a::r,b,h=>by
  cases b with
  |nil=>simp[FI]at h
  |cons x s=>rw[FI,Axr]at h;rw[Ala h.1,Z4 h.2]
end
def Alb{x y:Blk}(h:Akv x y=true):x=y:=by
 cases x;cases y
 simp[Akv]at h
 obtain⟨rfl,rfl,rfl,rfl,rfl,k,rfl,rfl⟩:=h
 rw[Z4 k]
def UO(g:A6):∀ L:D7,(NR g L).Sublist L
|[]=>.slnil
|(b,some x)::r=>by
  rw[NR]
  cases zS g b x
  ·exact(UO g r).cons_cons _
  ·exact(UO g r).cons _
|(b,none)::r=>(UO g r).cons_cons _
def g8(g:A6):∀(L:D7)(p:Nat×Option Blk),p∈L->p∈NR g L\/∃ x,p.2=some x/\g p.1=some x
|[],p,k=>by simp at k
| (b,some x)::r,p,k=>by
  rw[NR]
  rcases Ax7.1 k with rfl|k
  ·cases hq:zS g b x with
   |false=>exact .inl (A4j ..)
   |true =>
    refine .inr ⟨x,rfl,?_⟩
    unfold zS at hq
    cases C:g b with
    |none=>rw[C]at hq;simp at hq
    |some y=>rw[C]at hq;rw[Alb hq]
  ·rcases g8 g r p k with h|h
   ·left
    cases zS g b x
    ·exact Az8 _ h
    ·exact h
   ·exact .inr h
| (b,none)::r,p,k=>by
  show p∈(b,none)::NR g r\/_
  rcases Ax7.1 k with rfl|k
  ·exact .inl (A4j ..)
  ·rcases g8 g r p k with h|h
   ·exact .inl (Az8 _ h)
   ·exact .inr h
def s_{T L M:D7}{h:Ay}(hs:T.Sublist L)(hk:∀ p∈L,p∈T\/∃ x,p.2=some x/\Am h p.1=some x)(hn:((L++M).map (·.1)).Nodup)(b:Nat):Am (An (T++M) h) b=Am (An (L++M) h) b:=by
 have k:(T++M).Sublist (L++M):=hs.append (List.Sublist.refl M)
 have I:((T++M).map (·.1)).Nodup:=(k.map _).nodup hn
 cases hi:A4 (T++M) b with
|true =>
  obtain⟨p,D,rfl⟩:=Ayy.1 (Z3.1 hi)
  obtain⟨i,o⟩:=p
  rw[Gw I D,Gw hn (k.subset D)]
| false =>
  rw[Bu _ _ _ hi]
  cases hj:A4 (L++M) b with
  |false=>rw[Bu _ _ _ hj]
  | true =>
   obtain⟨p,D,rfl⟩:=Ayy.1 (Z3.1 hj)
   have C:p∉T++M:=fun h=>by
    have:=Z3.2 (Ayy.2 ⟨p,h,rfl⟩);rw[hi]at this;cases this
   obtain⟨i,o⟩:=p
   rcases Axz.1 D with Y|Y
   ·rcases hk _ Y with G|⟨x,G,h3⟩
    ·exact absurd (Axz.2 (.inl G)) C
    ·simp only at G h3
     subst G
     rw[Gw hn D,h3]
   ·exact absurd (Axz.2 (.inr Y)) C
def Adx{v:AV}(h:Xj v=false):nR v=v:=by cases v<;>simp_all[Xj,nR]
def Alc {E:Env} (hT:oc E.P E.tbl):YT E:=by
 intro R r k J β h w g d f args vs S hl hh hv
 unfold uQ at hh
 obtain⟨⟨args',im,fz⟩,hp,h1⟩:=ub hh
 simp only at h1
 obtain⟨hc,h2⟩:=uc h1
 simp only[Axr]at hc
 obtain⟨hal,him,hin,hdj,I,_⟩:=hc
 generalize hids:AG g im=ids at *
 generalize hρ:Jc 0 (Aw 100000 ids)=ρ at *
 have hal:=QU hal
 have him:=Ps him
 have hdj:=Agh hdj
 have I:=Ud I
 have hg:∀ b∈ids,g b=Am h b:=fun b C=>by obtain⟨x,G,_⟩:=hal b C;rw[G,hl b x G]
 rw[DB (g:=Am h) hg]at hin
 have hin:=Ps hin
 rw[ud (g':=Am h) hg]at h2
 obtain⟨hA,hB⟩:=AR (fz:=fz) S hl hp (fun _ h=>h) hv
 have aliveH:∀ b∈ids,∃ x,Am h b=some x/\x.dead=false:=fun b C=>by obtain⟨x,G,hd⟩:=hal b C;exact⟨x,hl b x G,hd⟩
 have SJ:SimH (JS J β h fz) (NZ ρ ids β) (sub (Am h) ρ ids) w:=by
  refine(S.ren I hin).grow (fun o k L=>.inl L) ?_ ?_ ?_
  ·rintro o k (L|⟨_,b,x,o',_,G,hd,_,hβ⟩)
   ·exact S.jlt o k L
   ·exact Ub S G hd hβ
  ·rintro k (L|⟨h0,_⟩)
   ·exact .inl (S.jft k L)
   ·cases h0
  ·intro c y k o hy hd hs hβ q L
   obtain⟨b,x,C,rfl,G,rfl⟩:=Oq I c y hy
   rw[G9 I C]at hβ
   rcases L with L|⟨_,b',x',o',hb',hx',hd',hs',hβ'⟩
   ·exact S.unJ G hd hs hβ _ L
   ·have:=S.sep b b' x x' k o o' G hx' hd hd' hs hβ hβ'
    subst this
    exact hdj b hb' C
 have RJ:Reps (JS J β h fz) (NZ ρ ids β) (sub (Am h) ρ ids) w (X0 ρ args') vs:=Reps.ren I (fun b C=>him b (hB b C)) hA
 obtain⟨rv,rh,hF,h3⟩:=Aah hT h2
 have hcall:=hF _ _ w vs SJ RJ
 obtain⟨Y,h4⟩:=Ac2 h3
 have hdo:cond (YP fz) rv (nR rv)=rv:=by
  cases he:YP fz with
  |true=>rfl
  |false =>
   rw[he]at Y
   simp at Y
   exact Adx Y.1
 rw[hdo]at h4
 obtain⟨hc2,h5⟩:=uc h4
 simp only[Axr]at hc2
 obtain⟨hnal,hn16,hrv,houts,hrin,hσn⟩:=hc2
 generalize hall:AG (Am rh) (Gv rv++(Aw 100000 ids).map (·.2))=all at *
 generalize hnew:all.filter (fun b=>!Fv ((Aw 100000 ids).map (·.2)) b)=new at *
 generalize hσ:Jc 0 ((Aw 100000 ids).map (fun p=>(p.2,p.1))++Aw (nid d) new)=σ at *
 have hnal:=QU hnal
 have hrv:=Ps hrv
 have houts:=Ps houts
 have hrin:=Ps hrin
 have hσn:=Ud hσn
 have hn16:new.length<=16:=by simpa using hn16
 have hTs:(cond (Fv E.cob (d+7000000)) (NR g ((Aw 100000 ids).map fun p=>(p.1,(Am rh p.2).map (Om σ)))) ((Aw 100000 ids).map fun p=>(p.1,(Am rh p.2).map (Om σ)))).Sublist ((Aw 100000 ids).map fun p=>(p.1,(Am rh p.2).map (Om σ))):=by
  cases Fv E.cob (d+7000000)
  ·exact List.Sublist.refl _
  ·exact UO g _
 have hTm:∀ p∈((Aw 100000 ids).map fun p=>(p.1,(Am rh p.2).map (Om σ))),p∈(cond (Fv E.cob (d+7000000)) (NR g ((Aw 100000 ids).map fun p=>(p.1,(Am rh p.2).map (Om σ)))) ((Aw 100000 ids).map fun p=>(p.1,(Am rh p.2).map (Om σ))))\/∃ x,p.2=some x/\Am h p.1=some x:=by
  intro p hp
  cases Fv E.cob (d+7000000)
  ·exact .inl hp
  ·rcases g8 g _ p hp with h6|⟨x,h6,h7⟩
   ·exact .inl h6
   ·exact .inr ⟨x,h6,hl _ _ h7⟩
 generalize cond (Fv E.cob (d+7000000)) (NR g ((Aw 100000 ids).map fun p=>(p.1,(Am rh p.2).map (Om σ)))) ((Aw 100000 ids).map fun p=>(p.1,(Am rh p.2).map (Om σ)))=T at h5 hTs hTm
 refine⟨_,_,h5,fun hfree=>Calls.mono hcall ?_⟩
 rintro e w' ⟨vc,J',β',rfl,F,hR⟩
 refine⟨vc,rfl,?_⟩
 have back:∀ b∈ids,σ (ρ b)=b:=by
  intro b C
  rw[<-hσ,Y1,if_pos,<-hρ]
  ·exact oi C
  ·rw[A0x]
   have:=GV (d:=0) (l:=Aw 100000 ids) (b:=b) (by rw[Kg];exact C)
   rw[hρ]at this
   exact this
 have ρall:∀ b∈ids,ρ b∈all:=by
  intro b C
  refine houts _ ?_
  have:=GV (d:=0) (l:=Aw 100000 ids) (b:=b) (by rw[Kg];exact C)
  rw[hρ]at this
  exact this
 have σout:∀ c∈all,c∈(Aw 100000 ids).map (·.2)->σ c∈ids:=by
  intro c _ hc
  rw[<-hσ,Y1,if_pos (by rw[A0x];exact hc)]
  have:=GV (d:=0) (l:=(Aw 100000 ids).map (fun p=>(p.2,p.1))) (b:=c) (by rw[A0x];exact hc)
  rw[A0x]at this
  have e:(Aw 100000 ids).map ((fun x=>x.2)∘fun p=>(p.2,p.1))=ids:=Kg
  rw[e]at this
  exact this
 have newmem:∀ c∈new,c∈all/\c∉(Aw 100000 ids).map (·.2):=by
  intro c hc
  rw[<-hnew]at hc
  obtain⟨h6,h7⟩:=Az5.1 hc
  refine⟨h6,fun hm=>?_⟩
  rw[Ll.2 hm]at h7;simp at h7
 have σnew:∀ c∈new,σ c=Jc 0 (Aw (nid d) new) c:=by
  intro c hc
  rw[<-hσ,Y1,if_neg]
  rw[A0x];exact(newmem c hc).2
 have allcases:∀ c∈all,c∈(Aw 100000 ids).map (·.2)\/c∈new:=by
  intro c hc
  by_cases hm:c∈(Aw 100000 ids).map (·.2)
  ·exact .inl hm
  ·refine .inr ?_
   rw[<-hnew]
   refine Az5.2 ⟨hc,?_⟩
   cases hq:Fv ((Aw 100000 ids).map (·.2)) c with
   |false=>rfl
   |true=>exact absurd (Ll.1 hq) hm
 have newFree0:∀ c∈(Aw (nid d) new).map (·.2),A4 (T++(Aw (nid d) new).map (fun p=>(p.2,(Am rh p.1).map (Om σ)))) c=true:=by
  intro c hc
  refine Z3.2 ?_
  rw[Azw,A0x]
  exact Axz.2 (.inr hc)
 have hH0:=fun b=>s_ (h:=h) (M:=(Aw (nid d) new).map (fun p=>(p.2,(Am rh p.1).map (Om σ)))) hTs hTm (b:=b)
 generalize hups:((Aw 100000 ids).map fun p=>(p.1,(Am rh p.2).map (Om σ)))++(Aw (nid d) new).map (fun p=>(p.2,(Am rh p.1).map (Om σ)))=ups at *
 have keys:ups.map (·.1)=ids++(Aw (nid d) new).map (·.2):=by
  rw[<-hups,Azw,A0x,A0x]
  congr 1
  exact Kg
 have newFree:∀ c∈(Aw (nid d) new).map (·.2),Am h c=none:=by
  intro c hc
  refine hfree c (newFree0 c hc) ?_
  have:=Uf hc
  unfold GM
  simp;omega
 have keysN:(ups.map (·.1)).Nodup:=by
  rw[keys,List.nodup_append]
  refine⟨KE I,AS,fun a ha b C e=>?_⟩
  subst e
  obtain⟨x,G,_⟩:=aliveH a ha
  rw[newFree a C]at G;cases G
 have upsOld:∀ b∈ids,(b,(Am rh (ρ b)).map (Om σ))∈ups:=by
  intro b C
  rw[<-hups]
  refine Axz.2 (.inl (Ayy.2 ⟨(b,ρ b),?_,rfl⟩))
  rw[<-hρ];exact QV C
 have upsNew:∀ c∈new,(σ c,(Am rh c).map (Om σ))∈ups:=by
  intro c hc
  rw[<-hups]
  refine Axz.2 (.inr (Ayy.2 ⟨(c,σ c),?_,rfl⟩))
  rw[σnew c hc];exact QV hc
 have J0:∃ J0:Bool->Nat->Prop,SimH J0 β' rh w'/\Rep J0 β' rh w' rv vc/\∀ o k,J0 o k->J o k\/zX (NZ ρ ids β) (sub (Am h) ρ ids) k\/w.heap.size<=k:=by
  cases he:YP fz with
  |true =>
   have:=Adw.1 he
   subst this
   refine⟨J',F.sim,hR,fun o k L=>?_⟩
   rcases F.jup o k L with(L|⟨_,b,x,o',C,_⟩)|L
   ·exact .inl L
   ·simp at C
   ·exact .inr L
  | false =>
   rw[he]at Y
   simp at Y
   refine⟨fun _=>J' false,F.sim.noOrg Y.2,Rep.noOrg Y.1 hR,fun o k L=>?_⟩
   rcases F.jup false k L with(h6|⟨h0,_⟩)|h6
   ·left
    cases o
    ·exact h6
    ·exact S.jft k h6
   ·cases h0
   ·exact .inr h6
 obtain⟨J0,S0,R0,jup0⟩:=J0
 have S1:=S0.ren hσn hrin
 have R1:=Rep.ren hσn hrv R0
 have hH:=fun b=>hH0 b keysN
 have M:=Step.merge (J:=J) (J0:=J0) (J1:=J0) (H:=An (T++(Aw (nid d) new).map (fun p=>(p.2,(Am rh p.1).map (Om σ)))) h) (D:=ids++(Aw (nid d) new).map (·.2)) (ids:=ids) S S1
  (fun b C=>(hH b).trans (Bu _ _ _ (by
   cases hi:A4 ups b with
   |false=>rfl
   | true=>exact absurd (by rw[<-keys];exact Z3.1 hi) C)))
  (fun b x C G hd=>by
   rcases Axz.1 C with C|C
   ·rw[hH,Gw keysN (upsOld b C)]at G
    cases hq:Am rh (ρ b)with
    |none =>
     rw[hq]at G;simp at G
     obtain⟨y,_,rfl⟩:=G
     simp[Adv]at hd
    |some y =>
     rw[hq]at G;simp at G;subst G
     have:=DC (g:=Am rh) hσn (ρ b) y (ρall b C) hq
     rw[back b C]at this
     exact this
   ·obtain⟨c,hc,rfl⟩:∃ c∈new,σ c=b:=by
     obtain⟨p,hp,rfl⟩:=Ayy.1 C
     have hp1:p.1∈new:=cD hp
     refine⟨p.1,hp1,?_⟩
     rw[σnew _ hp1]
     have:∀{base:Nat}{l:List Nat}{p:Nat×Nat},l.Nodup->p∈Aw base l->Jc 0 (Aw base l) p.1=p.2:=by
      intro base l
      induction l generalizing base with
      |nil=>intro p _ hp;simp[Aw]at hp
      | cons i r ih =>
       intro p hn hp
       rw[Ay9]at hn
       rw[Aw]at hp ⊢
       rw[Jc]
       rcases Ax7.1 hp with rfl|hp
       ·simp
       ·have:p.1∈r:=cD hp
        rw[PL (fun e=>hn.1 (by rw[e];exact this))]
        exact ih hn.2 hp
     refine this ?_ hp
     rw[<-hnew]
     exact KG (KE hσn)
    rw[hH,Gw keysN (upsNew c hc)]at G
    obtain⟨y,hy,_⟩:=hnal c hc
    rw[hy]at G;simp at G;subst G
    exact DC (g:=Am rh) hσn c y (newmem c hc).1 hy)
  (fun b x C=>by
   obtain⟨c,y,hc,rfl,hy,rfl⟩:=Oq hσn b x C
   rcases allcases c hc with hm|hm
   ·have h6:=σout c hc hm
    have h7:ρ (σ c)=c:=by
     have:(all.map σ).Nodup:=hσn
     have e1:=back (σ c) h6
     have e2:=ρall (σ c) h6
     exact Agi this e2 hc e1
    refine⟨Axz.2 (.inl h6),?_⟩
    rw[hH,Gw keysN (upsOld (σ c) h6),h7,hy];rfl
   ·refine⟨Axz.2 (.inr ?_),?_⟩
    ·rw[σnew c hm]
     exact GV (by rw[Kg];exact hm)
    ·rw[hH,Gw keysN (upsNew c hm),hy];rfl)
  (fun b x C hni G=>by
   rcases Axz.1 C with C|C
   ·exact hni C
   ·rw[newFree b C] at G;cases G)
  (fun b x C G=>by
   rw[hH,Gw keysN (upsOld b C)]
   cases hq:Am rh (ρ b)with
   |none=>exact⟨Adv x,⟨by simp[G],rfl⟩,.inl rfl⟩
   | some y =>
    cases hd:y.dead with
    |true=>have:=F.live _ _ hq;rw[hd]at this;cases this
    | false =>
     have e0:=DC (g:=Am h) I b x C G
     obtain⟨⟨e1,em⟩,e2,e3,e4⟩:=F.outs (ρ b) _ y e0 hq hd
     refine⟨Om σ y,⟨by simp,em⟩,.inr ?_⟩
     refine⟨e4,?_,e2,fun hmx=>?_⟩
     ·have:=G9 (β:=β') hσn (ρall b C)
      rw[back b C]at this
      rw[this,e1]
      exact G9 I C
     ·rw[Nh,e3 hmx,Nh])
  (fun b C=>Axz.2 (.inl C))
  F.os F.tape F.output F.size
  (fun k hk hm=>F.frame k hk (fun hm'=>hm (om I hm')))
  (fun k hm hk=>om I (F.wr k (xM hσn hm) hk))
  (fun o k L=>by
   rcases jup0 o k L with L|L|L
   ·exact .inl L
   ·exact .inr (.inl (om I L))
   ·exact .inr (.inr L))
  F.sizes
 exact⟨_,_,M.1,Rep.ext M.2 R1⟩
def QW{P:Program}{muts:Nat->List Bool}{T:List (Nat×Tw)}{hs:Hints}{N f:Nat}{k:LA}{h:Ay}{res:AV}{h':Ay}(hT:oc P T)(hm:P.follows .mixedOrders=true)
  (hh:j4 P muts T hs N f k h (fun v h'=>some (v,h'))=some (res,h')):An3 P f k h res h':=by
 unfold j4 at hh
 split at hh
 ·simp at hh
 ·rename_i fn hfn
  split at hh
  ·simp at hh
  ·rename_i c hc
   simp only at hh
   obtain⟨Y,h1⟩:=uc hh
   simp only[Axr]at Y
   obtain⟨L,D⟩:=Y
   have L:k.length<=fn.ntmps:=by simpa using L
   intro J β w vs S hv
   have hvl:vs.length=k.length:=((Cb).1 hv).1
   refine calls_of_wp hfn hc ?_
   have roots:∀{h:Ay}{b:Nat}{x:Blk},bV h=true->Am h b=some x->oA b=true:=by
    intro h
    induction h with
    |nil=>intro b x _ C;simp[Am]at C
    |cons p r ih =>
     intro b x hr C
     obtain⟨i,y⟩:=p
     rw[bV]at hr
     simp at hr
     rw[Am]at C
     cases hi:beq i b with
     |true=>have:=Axy hi;subst this;exact hr.1
     |false=>rw[hi]at C;exact ih hr.2 (by simpa using C)
   have sgetI:∀{k:LA}{j i:Nat},Gc (oB j k) i=if j<=i then(k[i - j]?).getD .undef else .undef:=by
    intro k
    induction k with
    |nil=>intro j i;simp[oB,Gc]
    | cons v r ih =>
     intro j i
     rw[oB,Gc]
     cases hi:beq j i with
     |true=>have:=Axy hi;subst this;simp
     | false =>
      have:=X1 hi
      simp only[cond_false]
      rw[ih]
      by_cases hji:j+1<=i
      ·rw[if_pos hji,if_pos (by omega),show i - j=(i - (j+1))+1 by omega];simp
      ·rw[if_neg hji]
       by_cases G:j<=i
       ·omega
       ·rw[if_neg G]
   have I:Inv ⟨J,β,h,w⟩ fn.ntmps J β {s:=oB 0 k,h:=h} {tmps:=vs.toArray++Array.replicate (fn.ntmps - vs.toArray.size) undef,defers:=[]} w:=by
    refine⟨S,⟨fun i v hi=>?_,fun i hi=>?_⟩,?_,rfl,rfl,rfl,rfl,Axo _,fun _ _ _=>rfl,fun _ hm _=>hm,fun _ _ hj=>hj,fun _ _ hj=>.inl hj,fun _=>Axo _,?_,?_,?_⟩
    ·rw[sgetI,if_pos (A07 _)]
     by_cases hlt:i<k.length
     ·have G:k[i - 0]?=some k[i]:=by simp[hlt]
      rw[G]
      have h3:vs[i]?=some v:=by
       rw[A0r (by simp;omega)]at hi
       simpa using hi
      exact((Cb).1 hv).2 i _ _ (by simp[hlt]) h3
     ·have G:k[i - 0]?=none:=by simp;omega
      rw[G];simp[Rep]
    ·simp at hi
     rw[sgetI,if_pos (A07 _)]
     have G:k[i - 0]?=none:=by simp;omega
     rw[G];rfl
    ·simp;omega
    ·intro b x0 C;exact(oa.1 (roots D C)).2
    ·intro b x0 C;exact(oa.1 (roots D C)).1
    ·intro b x0 x C hx hd
     change Am h b=some x0 at C
     change Am h b=some x at hx
     rw[C]at hx;simp at hx;subst hx
     exact⟨⟨rfl,rfl⟩,rfl,fun _=>rfl,hd⟩
   have fin:∀ st' a' w' J' β',Inv ⟨J,β,h,w⟩ fn.ntmps J' β' st' a' w'->Vf {P:=P,nt:=fn.ntmps,muts:=muts,nils:=hs.nils,free:=hs.free,cob:=hs.cob,tbl:=T} fn hs.modes (h.map (·.1)) (fun v h'=>some (v,h')) st'=some (res,h') ->
     a'.defers=[]/\∃ v,(results fn a'.tmps).run P w'=.ok v w'/\∃ vc J' β',Ending.returned v=.returned vc/\FDone ⟨J,β,h,w⟩ J' β' h' w'/\Rep J' β' h' w' res vc:=by
    intro st' a' w' J' β' I' G
    obtain⟨Ha,h2',vc,J2,β2,h3,h4,h5,h6⟩:=s6 I' G
    simp at h3
    obtain⟨rfl,rfl⟩:=h3
    exact⟨I'.defers,vc,h4,vc,J2,β2,rfl,h5,h6⟩
   exact Aag (E:={P:=P,nt:=fn.ntmps,muts:=muts,nils:=hs.nils,free:=hs.free,cob:=hs.cob,tbl:=T}) (Alc hT) hm c I h1 fin (fun _ _ _ _ _ _ _ G=>by simp at G) fin
end Gx
namespace Gx
open Go
section
variable{R R':Type}
def Ady(E:Env)(ops:Array Oper)(o:Oper)(st:St)(k:St->Foot->O R)(g:R->Option R'):(zT E ops o st k).bind g=zT E ops o st fun st f=>(k st f).bind g:=by rw[UM,UM,Axp]
def xP(ops:Array Oper)(o:Oper)(st:St)(k:St->O R)(g:R->Option R'):(gN ops o st k).bind g=gN ops o st fun st=>(k st).bind g:=by
 unfold gN
 split
 ·rfl
 ·split
  ·rfl
  ·split
   ·rw[Ap]
   ·rfl
def sa(E:Env)(o:Oper)(st:St)(k:St->O R)(g:R->Option R'):(UF E o st k).bind g=UF E o st fun st=>(k st).bind g:=by
 unfold UF
 split
 ·rw[Ap]
  congr 1
  split
  ·rw[oT]
  ·rfl
 ·rfl
def oq(E:Env)(ops:Array Oper)(g:R->Option R'):∀(l:List Oper)(st:St)(tr:List Foot)(k:St->List Foot->O R),(nv E ops l st tr k).bind g=nv E ops l st tr fun st tr=>(k st tr).bind g
|[],st,tr,k=>rfl
|o::r,st,tr,k=>by
  rw[nv,nv,xP]
  congr 1;funext st
  rw[sa]
  congr 1;funext st
  rw[Ady]
  congr 1;funext st f
  exact oq E ops g r st (f::tr) k
def sb(E:Env)(roots:List Nat)(ops:Array Oper)(draw:Bool)(st:St)(k:St->O R)(g:R->Option R'):(JU E roots ops draw st k).bind g=JU E roots ops draw st fun st=>(k st).bind g:=by
 unfold JU
 rw[oq]
 congr 1;funext st tr
 rw[Ap,Axp];rfl
def Adz(E:Env)(roots:List Nat)(H:Hint)(f:St->O R)(g:R->Option R')(st:St):(zU E roots H f st).bind g=zU E roots H (fun st=>(f st).bind g) st:=by
 unfold zU
 rw[Ap,Axp,Ve,Ve]
def jo(cn:St->Option St)(b1:(St->O R)->St->O R)(b2:(St->Option R')->St->Option R')(g:R->Option R')(C:∀ k st,(b1 k st).bind g=b2 (fun st=>(k st).bind g) st):∀ n st,(NT cn b1 n st).bind g=NT cn b2 n st
|0,st=>rfl
|n+1,st=>by
  rw[NT,NT,C]
  congr 1;funext st
  rw[Axp]
  congr 1;funext st
  exact jo cn b1 b2 g C n st
def Aal(E:Env)(roots:List Nat)(N:Nat)(g:R->Option R'):∀(c:Code)(H:Hint)(k:St->O R)(x:Nat->St->O R)(r:St->O R)(st:St),
  (Dv E roots N c H k x r st).bind g=Dv E roots N c H (fun st=>(k st).bind g) (fun j st=>(x j st).bind g) (fun st=>(r st).bind g) st:=by
 intro c
 induction c with
|skip=>intro H k x r st;rfl
|region id ops draw=>intro H k x r st;exact sb ..
|seq a b C D =>
  intro H k x r st
  rw[Dv,Dv,C]
  congr 1;funext st
  rw[Adz]
  congr 1;funext st
  exact D ..
|cond c a b C D =>
  intro H k x r st
  rw[Dv,Dv]
  split
  ·rw[Ap,C,D]
  ·rfl
|block id c G =>
  intro H k x r st
  rw[Dv,Dv,G]
  simp only[Ap]
|loop c G =>
  intro H k x r st
  rw[Dv,Dv,Axp,Ve,Ve]
  congr 1;funext st
  exact jo _ _ _ g (fun k st=>G ..) N st
|exit id=>intro H k x r st;rfl
|ret=>intro H k x r st;rfl
|rangeFunc=>intro H k x r st;rfl
|scope c G=>intro H k x r st;rw[Dv,Dv,G]
|label=>intro H k x r st;rfl
|goto=>intro H k x r st;rfl
|refuse=>intro H k x r st;rfl
def FO(E:Env)(st:St)(g:R->Option R'):∀(l:List ResultVar)(C:LA)(k:LA->O R),(On E st l C k).bind g=On E st l C fun l=>(k l).bind g
|[],C,k=>rfl
|.tmp t::r,C,k=>by rw[On,On];exact FO E st g r _ k
|.cell a t::r,C,k=>by
  rw[On,On,KC,KC (R:=R'),Axp]
  congr 1;funext v
  exact FO E st g r _ k
def sd(E:Env)(fn:Func)(modes:List (Nat×Nat))(outs:List Nat)(k:AV->Ay->O R)(g:R->Option R')(st:St):(Vf E fn modes outs k st).bind g=Vf E fn modes outs (fun v h=>(k v h).bind g) st:=by
 unfold Vf
 rw[FO]
 congr 1;funext l
 rw[Axp]
 congr 1;funext q
 rw[Ap];rfl
def YY(P:Program)(muts:Nat->List Bool)(T:List (Nat×Tw))(hs:Hints)(N f:Nat)(C:LA)(h:Ay)(k:AV->Ay->O R):
  j4 P muts T hs N f C h k=(j4 P muts T hs N f C h fun v h=>some (v,h)).bind fun p=>k p.1 p.2:=by
 unfold j4
 split
 ·rfl
 ·split
  ·rfl
  ·simp only
   rw[Ap,Aal]
   simp only[sd]
   rfl
structure Cut(R:Type)where
 c:Code
 H:Hint
 k:St->O R
 x:Nat->St->O R
 r:St->O R
noncomputable def Aqv(E:Env)(roots:List Nat)(N:Nat):List Nat->Code->Hint->(St->O R)->(Nat->St->O R)->(St->O R)->List (St->O R)->Cut R
|[],c,H,k,x,r,_=>⟨c,H,k,x,r⟩
|d::p,.seq a b,H,k,x,r,ks=>cond (beq d 0) (Aqv E roots N p a H.a (zU E roots H fun st=>Dv E roots N b H.b k x r st) x r ks) (Aqv E roots N p b H.b k x r ks)
|d::p,.cond _ a b,H,k,x,r,ks=>cond (beq d 0) (Aqv E roots N p a H.a k x r ks) (Aqv E roots N p b H.b k x r ks)
|_::p,.block id c,H,k,x,r,ks=>Aqv E roots N p c H.a k (fun j st=>cond (beq j id) (k st) (x j st)) r ks
|_::p,.loop c,H,_,x,r,q::ks=>Aqv E roots N p c H.a (fun st=>(NS E H.live roots st).bind q) x r ks
|_::_,c,H,k,x,r,_=>⟨c,H,k,x,r⟩
def Aam:Code->Code
|.loop c=>c
|c=>c
structure CutB(R:Type)where
 E:Env
 roots:List Nat
 N:Nat
 c:Cut R
noncomputable def A2(q:CutB R)(st:St):O R:=Dv q.E q.roots q.N q.c.c q.c.H q.c.k q.c.x q.c.r st
noncomputable def Ad0(q:CutB R)(st:St):O R:=Akz true (fun st=>Dv q.E q.roots q.N q.c.c q.c.H q.c.k q.c.x q.c.r st) st
def Ah5(q:CutB R)(st:St):Ad0 q st=A2 q st:=by unfold Ad0;rw[Ve];rfl
noncomputable def Au(q:CutB R)(n:Nat)(st:St):O R:=NT (NS q.E q.c.H.live q.roots) (fun k st=>Dv q.E q.roots q.N (Aam q.c.c) q.c.H.a k q.c.x q.c.r st) n st
noncomputable def Ald(q:CutB R)(st:St):O R:=Akz true (NT (NS q.E q.c.H.live q.roots) (fun k st=>Dv q.E q.roots q.N (Aam q.c.c) q.c.H.a k q.c.x q.c.r st) q.N) st
def Ale(q:CutB R)(st:St):Ald q st=Au q q.N st:=by unfold Ald;rw[Ve];rfl
def Aqw(fn:Func):Code:=match fn.body with|some c=>c|none=>.skip
def Apn:List (Nat×List Bool)->Nat->List Bool
|[],_=>[]
|(i,l)::r,f=>cond (beq i f) l (Apn r f)
end
end Gx
namespace Gx
open Go
abbrev KF(R:Type):=AV->Ay->Option R
abbrev hL:Hint:=.leaf
abbrev hS(a b:Hint):Hint:=.node [] a b
abbrev hP(l:List Nat)(a:Hint):Hint:=.node l a .leaf
abbrev hJ(l:List Nat)(a b:Hint):Hint:=.join l a b
def An4(P:Program)(muts:Nat->List Bool)(nt:Nat)(hs:Hints)(T:List (Nat×Tw)):Env:={P,nt,muts,nils:=hs.nils,free:=hs.free,cob:=hs.cob,tbl:=T}
noncomputable def Awm{R:Type}(P:Program)(muts:Nat->List Bool)(fn:Func)(hs:Hints)(T:List (Nat×Tw))(roots:List Nat)(N:Nat)(F:KF R)(p:List Nat)(ks:List (St->O R)):CutB R:=⟨An4 P muts fn.ntmps hs T,roots,N,Aqv (An4 P muts fn.ntmps hs T) roots N p (Aqw fn) hs.H (Vf (An4 P muts fn.ntmps hs T) fn hs.modes roots F) (fun _ _=>none) (Vf (An4 P muts fn.ntmps hs T) fn hs.modes roots F) ks⟩
def iv(n:Int):AV:=.int .i64 n
def op(k:Nat):AV:=.optr (300000+k) 0
def Aud:Nat->List Blk->Ay
|_,[]=>[]
|i,b::r=>(i,b)::Aud (i+1) r
def hq(l:List Blk):Ay:=Aud 300000 l
def bQ(sz:Nat)(c:LA):Blk:=⟨false,false,true,false,sz,c,false,none⟩
def bN(sz:Nat)(c:LA):Blk:=⟨false,false,false,false,sz,c,false,none⟩
def bP(t:Bool)(sz:Nat)(c:LA):Blk:=⟨false,false,true,t,sz,c,false,none⟩
def Aq{R:Type}(kd:IntKind)(c:LA)(k:Int->O R):O R:=(c.head?).bind fun x=>(WS kd x).bind k
def DD{R:Type}(c:LA)(k:Bool->O R):O R:=(c.head?).bind fun x=>(asBool x).bind k
def ue{R:Type}(c:LA)(k:Lu->O R):O R:=(c.head?).bind fun x=>(jV x).bind k
def Bq{R:Type}(sz:Nat)(c:LA)(k:LA->Nat->O R):O R:=(c.head?).bind fun x=>(Aho sz x).bind fun p=>k p.1 p.2
def Ad1(k:IntKind)(a b:Int):Int:=k.wrap ((BitVec.ofInt k.bits a &&& BitVec.ofInt k.bits b).toNat:Int)
def Rb(k:IntKind)(a b:Int):Int:=k.wrap ((BitVec.ofInt k.bits a ||| BitVec.ofInt k.bits b).toNat:Int)
def ot{α δ:Type}(f:α->δ){a a':α}(k:a=a'):f a=f a':=by rw[k]
def wrap_u8(a:Nat):wrap .u8 (a:Int)=((a%256:Nat):Int):=by rw[IntKind.wrap_u8];omega
def wrap_u32(a:Nat)(h:a<4294967296):wrap .u32 (a:Int)=(a:Int):=IntWalk.u32_in _ (by omega)
def Ah6(a:Nat):wrap .u32 (a:Int)=((a%4294967296:Nat):Int):=by rw[IntKind.wrap_u32];omega
def Ar(a:Int)(h:-9223372036854775808<=a/\a<=9223372036854775807):wrap .i64 a=a:=IntWalk.i64_in _ h
def wrap_u64(a:Nat)(h:a<18446744073709551616):wrap .u64 (a:Int)=(a:Int):=IntWalk.u64_in _ (by omega)
def UP(w a:Nat):BitVec.ofInt w (a:Int)=BitVec.ofNat w a:=by simp
def Ad2{k:IntKind}(hs:k.signed=false){a b:Nat}(D:a<2 ^ k.bits)(C:b<2 ^ k.bits):Ad1 k a b=((a &&& b:Nat):Int):=by
 unfold Ad1
 rw[UP,UP]
 have G:(BitVec.ofNat k.bits a &&& BitVec.ofNat k.bits b).toNat=a &&& b:=by
  rw[BitVec.toNat_and,A1u,A1u,Ayl D,Ayl C]
 rw[G]
 have I:a &&& b<2 ^ k.bits:=Nat.and_lt_two_pow _ C
 unfold wrap
 simp only[hs,A2u,Azb,if_false]
 have:(2 ^ k.bits:Int)=((2 ^ k.bits:Nat):Int):=by simp
 rw[this,<-Int.natCast_emod,Ayl I]
def uf{k:IntKind}(hs:k.signed=false){a b:Nat}(C:a<2 ^ k.bits)(D:b<2 ^ k.bits):Rb k a b=((a ||| b:Nat):Int):=by
 unfold Rb
 rw[UP,UP]
 have G:(BitVec.ofNat k.bits a ||| BitVec.ofNat k.bits b).toNat=a ||| b:=by
  rw[BitVec.toNat_or,A1u,A1u,Ayl C,Ayl D]
 rw[G]
 have I:a ||| b<2 ^ k.bits:=Nat.or_lt_two_pow C D
 unfold wrap
 simp only[hs,A2u,Azb,if_false]
 have:(2 ^ k.bits:Int)=((2 ^ k.bits:Nat):Int):=by simp
 rw[this,<-Int.natCast_emod,Ayl I]
def R4(a k:Nat):Int.fdiv (a:Int) (2 ^ k)=((a/2 ^ k:Nat):Int):=by
 have:(2 ^ k:Int)=((2 ^ k:Nat):Int):=by simp
 rw[this,A2v (a:Int) (Int.natCast_nonneg (2 ^ k))]
 rfl
def Av{R:Type}{k:IntKind}{n:Int}{r:LA}{f:Int->O R}:Aq k (.int k n::r) f=f n:=by simp[Aq,WS,Kc]
def Aa{i n:Nat}(h:i<n):Ac (i:Int) n=true:=by simp[Ac];omega
structure Bd(P:Program)where
 f:Nat
 run:LA->Ay->Option ((R:Type)->KF R->O R)
 eq:∀ a h g,run a h=some g->∀(R:Type)(k:KF R),g R k=(g (AV×Ay) fun v h=>some (v,h)).bind fun p=>k p.1 p.2
 ok:∀ a h g res h',run a h=some g->(g (AV×Ay) fun v h=>some (v,h))=some (res,h')->An3 P f a h res h'
def Av2{R:Type}(k:KF R):Option ((R:Type)->KF R->O R)->O R
|some g=>g R k
|none=>none
def Bd.tw {P:Program} (b:Bd P):Tw:=⟨fun {R} a h k=>Av2 k (b.run a h),fun {R} a h k=>by
 cases e:b.run a h with
|none=>rfl
| some g=>exact b.eq a h g e R k⟩
def Bd.tok{P:Program}(b:Bd P):xO P b.f b.tw:=by
 intro a h res h' hh
 have hh:Av2 (fun v h'=>some (v,h')) (b.run a h)=some (res,h'):=hh
 cases e:b.run a h with
|none=>rw[e]at hh;cases hh
|some g=>rw[e]at hh;exact b.ok a h g res h' e hh
def An5{P:Program}:List (Bd P)->List (Nat×Tw)
|[]=>[]
|b::r=>(b.f,b.tw)::An5 r
def Agj{P:Program}:∀ l:List (Bd P),oc P (An5 l)
|[]=>trivial
|b::r=>⟨b.tok,Agj r⟩
def Aus {P:Program} {f:Nat} (t:Tw) (h:xO P f t):Bd P:=⟨f,fun a h=>some fun _ k=>t.runK a h k,fun a h g e R k=>by cases e;exact t.eq a h k,fun a h g res h' e hh=>by cases e;exact ‹xO P f t› a h res h' hh⟩
def Aut {P:Program} (x y:Bd P) (e:x.f=y.f):Bd P:=⟨x.f,fun a h=>match x.run a h with | some g=>some g | none=>y.run a h,fun a h g q=>by
 split at q
 ·cases q;exact x.eq a h _ ‹_›
 ·exact y.eq a h g q,fun a h g res h' q=>by
 split at q
 ·cases q;exact x.ok a h _ res h' ‹_›
 ·rw[e];exact y.ok a h g res h' q⟩
def Asu(P:Program)(muts:Nat->List Bool)(T:List (Nat×Tw))(hs:Hints)(N f:Nat)(a:LA)(h:Ay):Option ((R:Type)->KF R->O R)->Prop
|some g=>∀(R:Type)(F:KF R),j4 P muts T hs N f a h F=g R F
|none=>True
def Awn{P:Program}{muts:Nat->List Bool}(hm:P.follows .mixedOrders=true)(N f:Nat)(l:List (Bd P))(hs:Hints)(run:LA->Ay->Option ((R:Type)->KF R->O R))(e:∀ a h,Asu P muts (An5 l) hs N f a h (run a h)):Bd P :=
 ⟨f,run,fun a h g q R k=>by
  have H:=e a h;rw[q]at H
  rw[<-H,<-H];exact YY ..,fun a h g res h' q hh=>by
  have H:=e a h;rw[q]at H
  rw[<-H] at hh;exact QW (Agj l) hm hh⟩
def lW{R τ:Type}(p:(St->O R)->τ)(q:CutB R):p (Ald q)=p (Au q q.N):=congrArg p (funext fun _=>Ale q _)
def jW{R τ:Type}(p:(St->O R)->τ)(q:CutB R):p (Ad0 q)=p (A2 q):=congrArg p (funext fun _=>Ah5 q _)
def Aan{α δ:Type}{f g:α->δ}(h:∀ a,f a=g a):f=g:=funext h
def ld{α β δ:Type}{f g:α->β->δ}(h:∀ a b,f a b=g a b):f=g:=funext fun _=>funext (h _)
def Aqx{α β γ δ:Type}{f g:α->β->γ->δ}(h:∀ a b c,f a b c=g a b c):f=g:=funext fun _=>ld (h _)
def Ad3{α β γ ε δ:Type}{f g:α->β->γ->ε->δ}(h:∀ a b c d,f a b c d=g a b c d):f=g:=funext fun _=>Aqx (h _)
def Av3{α β γ ε ζ δ:Type}{f g:α->β->γ->ε->ζ->δ}(h:∀ a b c d e,f a b c d e=g a b c d e):f=g:=funext fun _=>Ad3 (h _)
def An6{α β γ ε ζ η δ:Type}{f g:α->β->γ->ε->ζ->η->δ}(h:∀ a b c d e x,f a b c d e x=g a b c d e x):f=g:=funext fun _=>Av3 (h _)
def Av4:Nat->Nat->List Nat->List Nat
|0,_,l=>l
|f+1,n,l=>cond (ble n 1) l (Av4 f (n/4) (n%4::l))
def pz(n:Nat):List Nat:=Av4 100 n []
def hK:Nat->Hint->Hint
|0,h=>h
|n+1,h=>hS hL (hK n h)
def Gn{τ:Type}{f g:Nat->τ}(h:∀ n,f n=g n->f (n+1)=g (n+1))(k:f 0=g 0:=by kernel_rfl):∀ n,f n=g n
|0=>k
|n+1=>h n (Gn h k n)
def B5{α δ:Type}{z:δ}(f:α->δ){a a':α}(C:a=a')(k:z=f a:=by kernel_rfl):z=f a':=by rw[k,C]
def KH{α β δ:Type}{z:δ}(f:α->β->δ){a a':α}{b C:β}(D:a=a')(G:b=C)(k:z=f a b:=by kernel_rfl):z=f a' C:=by rw[k,D,G]
def Auu{α β γ δ:Type}{z:δ}(f:α->β->γ->δ){a a':α}{b C:β}{c c':γ}(D:a=a')(G:b=C)(I:c=c')(k:z=f a b c:=by kernel_rfl):z=f a' C c':=by rw[k,D,G,I]
def Awo{α β γ ε δ:Type}{z:δ}(f:α->β->γ->ε->δ){a a':α}{b C:β}{c c':γ}{d d':ε}(D:a=a')(G:b=C)(I:c=c')(L:d=d')(k:z=f a b c d:=by kernel_rfl):z=f a' C c' d':=by rw[k,D,G,I,L]
def Awp{α β γ ε ζ η δ:Type}{z:δ}(f:α->β->γ->ε->ζ->η->δ){a a':α}{b C:β}{c c':γ}{d d':ε}{e e':ζ}{g g':η}(D:a=a')(G:b=C)(I:c=c')(L:d=d')(T:e=e')(Y:g=g')(k:z=f a b c d e g:=by kernel_rfl):z=f a' C c' d' e' g':=by rw[k,D,G,I,L,T,Y]
def Alf{R:Type}(E:Env)(roots:List Nat)(H:Hint)(f:St->O R)(st:St):O R:=cond H.isJoin ((NS E H.live roots st).bind f) (f st)
def Alg{R:Type}(E:Env)(roots:List Nat)(H:Hint)(f:St->O R):Alf E roots H f=zU E roots H f:=by funext st;unfold Alf zU;rw[Ve]
def Qq{R:Type}(E:Env)(roots:List Nat)(N:Nat):Code->Hint->(St->O R)->(Nat->St->O R)->(St->O R)->St->O R
|.skip,_,k,_,_,st=>k st
|.region _ ops draw,_,k,_,_,st=>JU E roots ops draw st k
|.seq a b,H,k,x,r,st=>Qq E roots N a H.a (Alf E roots H fun st=>Qq E roots N b H.b k x r st) x r st
|.cond c a b,H,k,x,r,st=>match ev st.s c with
  |.bool t=>cond t (Qq E roots N a H.a k x r st) (Qq E roots N b H.b k x r st)
  |_=>none
|.block id c,H,k,x,r,st=>Qq E roots N c H.a k (fun j st=>cond (beq j id) (k st) (x j st)) r st
|.loop c,H,_,x,r,st=>(NS E H.live roots st).bind (NT (NS E H.live roots) (fun k st=>Qq E roots N c H.a k x r st) N)
|.exit id,_,_,x,_,st=>x id st
|.ret,_,_,_,r,st=>r st
|.scope c,H,k,x,r,st=>Qq E roots N c H.a k x r st
|.label _,_,k,_,_,st=>k st
|_,_,_,_,_,_=>none
def Ah7{R:Type}(E:Env)(roots:List Nat)(N:Nat):∀(c:Code)(H:Hint)(k:St->O R)(x:Nat->St->O R)(r:St->O R)(st:St),Qq E roots N c H k x r st=Dv E roots N c H k x r st:=by
 intro c
 induction c with
|skip=>intro H k x r st;rfl
|region id ops draw=>intro H k x r st;rfl
|seq a b C D =>
  intro H k x r st
  rw[Dv,Qq,C,Alg]
  congr 2;funext st
  exact D ..
|cond c a b C D =>
  intro H k x r st
  rw[Dv,Qq]
  simp only[C,D]
  rfl
|block id c G=>intro H k x r st;rw[Dv,Qq,G]
|loop c G =>
  intro H k x r st
  rw[Dv,Qq,Ve]
  have:(fun k st=>Qq E roots N c H.a k x r st)=fun k st=>Dv E roots N c H.a k x r st:=by funext k st;exact G ..
  rw[this]
|exit id=>intro H k x r st;rfl
|ret=>intro H k x r st;rfl
|rangeFunc=>intro H k x r st;rfl
|scope c G=>intro H k x r st;rw[Dv,Qq,G]
|label=>intro H k x r st;rfl
|goto=>intro H k x r st;rfl
|refuse=>intro H k x r st;rfl
def ou{R:Type}(P:Program)(muts:Nat->List Bool)(T:List (Nat×Tw))(hs:Hints)(N f:Nat)(args:LA)(h:Ay)(k:AV->Ay->O R):O R :=
 match P.funcs[f]? with
|none=>none
| some fn=>match fn.body with
  |none=>none
  |some c =>
   let E:Env:={P,nt:=fn.ntmps,muts,nils:=hs.nils,free:=hs.free,cob:=hs.cob,tbl:=T}
   let outs:=h.map (·.1)
   let fin:=Vf E fn hs.modes outs k
   cond (ble args.length fn.ntmps&&bV h) (Qq E outs N c hs.H fin (fun _ _=>none) fin {s:=oB 0 args,h}) none
def GW{R:Type}(P:Program)(muts:Nat->List Bool)(T:List (Nat×Tw))(hs:Hints)(N f:Nat)(C:LA)(h:Ay)(k:AV->Ay->O R):ou P muts T hs N f C h k=j4 P muts T hs N f C h k:=by
 unfold ou j4
 cases P.funcs[f]? with
|none=>rfl
|some fn =>
  simp only
  cases fn.body with
  |none=>rfl
  |some c=>simp only;rw[Ah7]
end Gx
namespace Gx
open Go Go.RowKit
def Ah8{P:Program}{f:Nat}{t:Tw}(G:xO P f t){W:World}{avs:LA}{vs:List Value}(hr:Reps (fun _ k=>k<W.heap.size) (fun _=>none) [] W avs vs)
  (D:(t.runK avs [] fun v h=>some (v,h))=some (.bool true,[])) (I:GlobOk (fun _ k=>k<W.heap.size) W):Calls P f vs.toArray W fun e w'=>e=.returned (.bool true)/\Below W.heap.size W w':=by
 have S:SimH (fun _ k=>k<W.heap.size) (fun _=>none) [] W:=⟨fun _ _ h=>h,fun _ h=>h,I,fun b x C=>by simp[Am]at C,fun b x C=>by simp[Am]at C,fun b Y x x' k o o' C=>by simp[Am]at C⟩
 refine Calls.mono (G avs [] _ _ D _ _ W vs S hr) ?_
 rintro e w' ⟨vc,J',β',rfl,F,L⟩
 rw[Rep]at L;subst L
 refine⟨rfl,F.os,F.tape,F.output,F.size,fun k T=>F.frame k T ?_⟩
 rintro⟨b,x,o,C,_⟩
 change Am [] b=some x at C
 simp[Am]at C
structure Opens(P:Program)(t:TypeId){α:Type}(e:α->List AV)(n:Nat):Prop where
 size:P.cellsOf t=n
 pos:0<n
 len:∀ a,(e a).length=n
 read:∀{H:Type}(enc:TypeId×Value->H)(W:World)(fuel:Nat)(cs:List Value)(d:DataW H)(ps:List MemPlace),DataW.trod enc P W 0 (fun _=>true) true fuel t cs=some (d,ps) ->
  cs.length=n/\∃ a,RepCs (fun k=>k<W.heap.size) W (e a) (fun j=>cs[j]?) 0
def UQ{P:Program}{t:TypeId}{k:IntKind}(C:P.underlying t=some (.int k))(hc:P.cellsOf t=1):Opens P t (α:={n:Int // (Lit.int k n).wf=true}) (fun n=>[.int k n.1]) 1:=by
 refine⟨hc,by omega,fun _=>rfl,fun enc W fuel cs d ps h=>?_⟩
 obtain⟨n,rfl,_,D⟩:=DataW.trod_int C h
 exact⟨rfl,⟨n,D⟩,by simp[RepCs,RepC]⟩
def jq{α β:Type}{e:α->List β}{n:Nat}(hn:0<n)(k:∀ a,(e a).length=n):∀(l:List α)(j:Nat),(l.flatMap e)[j]?=(l[j/n]?).bind fun a=>(e a)[j%n]?
|[],j=>by simp
| a::r,j=>by
  rw[Aye]
  by_cases C:j<n
  ·rw[A22 (by rw[k];exact C),Ay4 C,Ayl C];simp
  ·rw[A2z (by rw[k];omega),k,jq hn k r (j - n)]
   have D:j/n=(j - n)/n+1:=by
    have:=Nat.add_div_right (j - n) hn
    rw[show j - n+n=j by omega]at this;exact this
   have G:j%n=(j - n)%n:=by
    have:=Nat.add_mod_right (j - n) n
    rw[show j - n+n=j by omega]at this;exact this
   rw[D,G];simp
def jr{α β:Type}{e:α->List β}{n:Nat}(k:∀ a,(e a).length=n):∀(l:List α),(l.flatMap e).length=l.length*n
|[]=>by simp
|a::r=>by rw[Aye,Ax1,k,jr k r,Ayb,A4t];omega
def Aao{α β:Type}{f:α->Option β}:∀{l:List α}{r:List β},l.mapM f=some r->r.length=l.length/\∀(i:Nat)(a:α),l[i]?=some a->f a=r[i]?
|[],r,h=>by simp at h;subst h;simp
| x::l,r,h=>by
  rw[A31]at h
  cases k:f x with
  |none=>simp[k]at h
  | some y =>
   cases C:l.mapM f with
   |none=>simp[k,C]at h
   |some ys =>
    simp[k,C]at h
    subst h
    obtain⟨D,G⟩:=Aao C
    refine⟨by simp[D],fun i a hi=>?_⟩
    cases i with
    |zero=>simp at hi;subst hi;simpa using k
    |succ i=>simpa using G i a (by simpa using hi)
def Aap {P:Program} {t el:TypeId} {α:Type} {e:α->LA} {n:Nat} (hu:P.underlying t=some (.slice el)) (hc:P.cellsOf t=1) (I:Opens P el e n) :
  Opens P t (α:={l:List α // l.length<=maxLen}) (fun l=>[.imm (l.1.flatMap e) l.1.length n false false]) 1:=by
 refine⟨hc,by omega,fun _=>rfl,fun enc W fuel cs d ps h=>?_⟩
 cases fuel with
|zero=>simp[DataW.trod]at h
| succ fuel =>
  unfold DataW.trod at h
  simp only[hu]at h
  split at h
  all_goals first|(rename_i C;simp at C;done)|(rename_i C _;simp at C;done)|(rename_i C _ _;simp at C;done)|skip
  ·refine⟨rfl,⟨[],by simp⟩,?_⟩
   simp[RepCs,RepC]
  ·rename_i e' a len cap C
   simp at C;subst C
   split at h
   ·rename_i L
    obtain⟨hb,hlc,hcm⟩:=L
    refine⟨rfl,?_⟩
    cases hm:(List.range len).mapM (fun i=>(W.cells? 0 (a.add (i*P.cellsOf el)) (P.cellsOf el)).bind (DataW.trod enc P W 0 (fun _=>true) true fuel el))with
    |none=>rw[hm]at h;simp at h
    | some uH =>
     obtain⟨h1,h2⟩:=Aao hm
     rw[I.size]at h2
     have each:∀ i:Nat,i<len->∃ x:α,∃ cs,W.cells? 0 (a.add (i*n)) n=some cs/\RepCs (fun k=>k<W.heap.size) W (e x) (fun j=>cs[j]?) 0:=by
      intro i hi
      have h3:=h2 i i (by simp[hi])
      rw[Axn (by rw[h1];simpa using hi)]at h3
      cases D:W.cells? 0 (a.add (i*n)) n with
      |none=>rw[D]at h3;simp at h3
      |some cs =>
       rw[D]at h3
       obtain⟨_,x,C⟩:=I.read enc W fuel cs _ _ h3
       exact⟨x,cs,rfl,C⟩
     have build:∀ m,m<=len->∃ l:List α,l.length=m/\∀ i x,l[i]?=some x->∃ cs,W.cells? 0 (a.add (i*n)) n=some cs/\RepCs (fun k=>k<W.heap.size) W (e x) (fun j=>cs[j]?) 0:=by
      intro m
      induction m with
      |zero=>intro _;exact⟨[],rfl,by simp⟩
      | succ m ih =>
       intro hm
       obtain⟨l,hl,T⟩:=ih (by omega)
       obtain⟨x,cs,hx1,hx2⟩:=each m (by omega)
       refine⟨l++[x],by simp[hl],fun i y hy=>?_⟩
       rw[Ay3]at hy
       split at hy
       ·exact T i y hy
       ·have:i=m:=by
         have:=(Axw.1 hy).1
         simp at this;omega
        subst this
        simp[hl]at hy;subst hy
        exact⟨cs,hx1,hx2⟩
     obtain⟨l,hl,T⟩:=build len (Axo _)
     refine⟨⟨l,by omega⟩,?_⟩
     simp only[RepCs,RepC,and_true]
     refine⟨_,rfl,?_,some a,cap,by rw[hl],by omega,by simp,?_⟩
     ·exact jr I.len l
     ·by_cases h0:l.length=0
      ·exact .inl h0
      ·right
       refine⟨a,rfl,?_,?_⟩
       ·obtain⟨x,cs,C,_⟩:=each 0 (by omega)
        have:=World.cells?_block C I.pos
        rwa [T9]at this
       ·rw[By]
        intro j x hj
        rw[jq I.pos I.len]at hj
        cases hq:l[j/n]? with
        |none=>rw[hq]at hj;simp at hj
        |some y =>
         rw[hq]at hj
         simp at hj
         obtain⟨cs,D,G⟩:=T (j/n) y hq
         rw[By]at G
         obtain⟨u,hu1,hu2⟩:=G (j%n) x hj
         refine⟨u,?_,hu2⟩
         obtain⟨_,hlen,Y⟩:=World.cells?_some D
         have hlt:j%n<n:=Azo _ I.pos
         have:=Y (j%n) hlt
         rw[Addr.add_add,show j/n*n+j%n=j by rw[Axq];exact Ay6 j n]at this
         simp only[Ax0]at hu1 ⊢
         rw[this];exact hu1
   ·simp at h
  ·simp at h
def Alh{J:Bool->Nat->Prop}{β:Ch}{h:Ay}{w:World}{x:AV}{vs:List Value}(H:Reps J β h w [x] vs):∃ u,vs=[u]/\Rep J β h w x u:=by
 rw[Reps]at H
 obtain⟨u,us,rfl,C,k⟩:=H
 rw[Reps]at k;subst k
 exact⟨u,rfl,C⟩
end Gx
namespace Gx
open Go
structure RB where
 nm:List UInt8
 bu:Int
 mi:Int
 ma:Int
 sc:LA
 sn:Nat
 st:Bool
 so:Bool
 nl:Int
 ru:Int
 rd:Int
 sr:Int
 tr:Int
 ut:Int
 dt:Int
 sT:Int
 hc:Int
 cc:Int
 hh:Int
 rs:Int
 rp:Int
 ac:LA
 an:Nat
 aq:Bool
 ao:Bool
 us:Int
 uh:Int
 uo:Int
 hs:Int
 ec:LA
 en:Nat
 et:Bool
 eo:Bool
 qc:LA
 qn:Nat
 qt:Bool
 qo:Bool
 pc:LA
 pn:Nat
 pt:Bool
 po:Bool
 vc:LA
 vn:Nat
 vt:Bool
 vo:Bool
 na:Nat
 nb:Nat
 nc:Nat
 nd:Nat
 ne:Nat
 nf:Nat
 ng:Nat
 ka:LA
 kb:LA
 kc:LA
 kd:LA
 ke:LA
 kf:LA
 kg:LA
def Aue(k:Nat)(s:RB):LA:=[.str s.nm,.int .i64 s.bu,.int .i64 s.mi,.int .i64 s.ma,.imm s.sc s.sn 2 s.st s.so,.int .i64 s.nl,.int .i64 s.ru,.int .i64 s.rd,.int .i64 s.sr,.int .i64 s.tr,.int .i64 s.ut,.int .i64 s.dt,.int .i64 s.sT,.int .i64 s.hc,.int .i64 s.cc,.int .i64 s.hh,.int .i64 s.rs,.int .i64 s.rp,.imm s.ac s.an 1 s.aq s.ao,.int .i64 s.us,.int .i64 s.uh,.int .i64 s.uo,.int .i64 s.hs,.imm s.ec s.en 3 s.et s.eo,.imm s.qc s.qn 3 s.qt s.qo,.imm s.pc s.pn 1 s.pt s.po,.imm s.vc s.vn 3 s.vt s.vo,.own (k+1) 0 s.na,.own (k+2) 0 s.nb,.own (k+3) 0 s.nc,.own (k+4) 0 s.nd,.own (k+5) 0 s.ne,.own (k+6) 0 s.nf,.own (k+7) 0 s.ng,.nsl,.nsl,.nsl,.nsl,.nsl,.nsl,.nsl,.nsl,.nsl,.nsl,.nsl,.nsl,.nsl,.nsl,.nsl,.nsl,.nsl]
def Auv(c:LA):Blk:=⟨false,false,false,false,0,c,false,none⟩
def Ad4(z:Nat)(c:LA):Blk:=⟨false,false,true,false,z,c,false,none⟩
def Av5(s:RB):Ay:=[(100000,Auv (Aue 100000 s)),(100001,Ad4 2 s.ka),(100002,Ad4 2 s.kb),(100003,Ad4 2 s.kc),(100004,Ad4 2 s.kd),(100005,Ad4 2 s.ke),(100006,Ad4 2 s.kf),(100007,Ad4 2 s.kg)]
def YZ(s:RB)(l0:LA)(m0:Nat)(l1:LA)(m1:Nat)(l2:LA)(m2:Nat)(l3:LA)(m3:Nat)(l4:LA)(m4:Nat)(l5:LA)(m5:Nat)(l6:LA)(m6:Nat):LA:=[.str s.nm,.int .i64 s.bu,.int .i64 s.mi,.int .i64 s.ma,.imm s.sc s.sn 2 false s.so,.int .i64 s.nl,.int .i64 s.ru,.int .i64 s.rd,.int .i64 s.sr,.int .i64 s.tr,.int .i64 s.ut,.int .i64 s.dt,.int .i64 s.sT,.int .i64 s.hc,.int .i64 s.cc,.int .i64 s.hh,.int .i64 s.rs,.int .i64 s.rp,.imm s.ac s.an 1 false s.ao,.int .i64 s.us,.int .i64 s.uh,.int .i64 s.uo,.int .i64 s.hs,.imm s.ec s.en 3 false s.eo,.imm s.qc s.qn 3 false s.qo,.imm s.pc s.pn 1 false s.po,.imm s.vc s.vn 3 false s.vo,.imm l0 m0 2 false true,.imm l1 m1 2 false true,.imm l2 m2 2 false true,.imm l3 m3 2 false true,.imm l4 m4 2 false true,.imm l5 m5 2 false true,.imm l6 m6 2 false true,.nsl,.nsl,.nsl,.nsl,.nsl,.nsl,.nsl,.nsl,.nsl,.nsl,.nsl,.nsl,.nsl,.nsl,.nsl,.nsl,.nsl]
def An7(k:Nat):AV->Option Nat
|.own b f n=>cond (beq b k&&beq f 0) (some n) none
|_=>none
def sR:AV->Option Int
|.int .i64 n=>some n
|_=>none
def Auw:AV->Option Lu
|.str n=>some n
|_=>none
def xQ:AV->Option Unit
|.nsl=>some ()
|_=>none
def Apo(z:Nat):AV->Option (LA×Nat×Bool×Bool)
|.imm c n q t o=>cond (beq q z) (some (c,n,t,o)) none
|_=>none
def Ac3(k sz:Nat):Nat×Blk->Option LA
|(i,⟨false,false,true,false,z,c,false,none⟩)=>cond (beq i k&&beq z sz) (some c) none
|_=>none
def Y_{k n:Nat}{v:AV}(h:An7 k v=some n):v=.own k 0 n:=by
 unfold An7 at h
 split at h
 ·obtain⟨C,D⟩:=uc h
  simp at C D
  rw[C.1,C.2,D]
 ·cases h
def Jl{n:Int}{v:AV}(h:sR v=some n):v=.int .i64 n:=by
 unfold sR at h
 split at h
 ·cases h;rfl
 ·cases h
def Aqy{n:Lu}{v:AV}(h:Auw v=some n):v=.str n:=by
 unfold Auw at h
 split at h
 ·cases h;rfl
 ·cases h
def Ni{n:Unit}{v:AV}(h:xQ v=some n):v=.nsl:=by
 unfold xQ at h
 split at h
 ·rfl
 ·cases h
def g9{z n:Nat}{c:LA}{t o:Bool}{v:AV}(h:Apo z v=some (c,n,t,o)):v=.imm c n z t o:=by
 unfold Apo at h
 split at h
 ·obtain⟨k,C⟩:=uc h
  simp at k C
  obtain⟨rfl,rfl,rfl,rfl⟩:=C
  rw[k]
 ·cases h
def R5{k sz:Nat}{p:Nat×Blk}{c:LA}(h:Ac3 k sz p=some c):p=(k,Ad4 sz c):=by
 unfold Ac3 at h
 split at h
 ·obtain⟨C,D⟩:=uc h
  simp at C D
  rw[C.1,C.2,D];rfl
 ·cases h
def Aux(k:Nat):LA->Option RB
|a0::a1::a2::a3::a4::a5::a6::a7::a8::a9::a10::a11::a12::a13::a14::a15::a16::a17::a18::a19::a20::a21::a22::a23::a24::a25::a26::a27::a28::a29::a30::a31::a32::a33::a34::a35::a36::a37::a38::a39::a40::a41::a42::a43::a44::a45::a46::a47::a48::a49::a50::[]=>(Auw a0).bind fun nm=>(sR a1).bind fun bu=>(sR a2).bind fun mi=>(sR a3).bind fun ma=>(Apo 2 a4).bind fun(sc,sn,st,so)=>(sR a5).bind fun nl=>(sR a6).bind fun ru=>(sR a7).bind fun rd=>(sR a8).bind fun sr=>(sR a9).bind fun tr=>(sR a10).bind fun ut=>(sR a11).bind fun dt=>(sR a12).bind fun sT=>(sR a13).bind fun hc=>(sR a14).bind fun cc=>(sR a15).bind fun hh=>(sR a16).bind fun rs=>(sR a17).bind fun rp=>(Apo 1 a18).bind fun(ac,an,aq,ao)=>(sR a19).bind fun us=>(sR a20).bind fun uh=>(sR a21).bind fun uo=>(sR a22).bind fun hs=>(Apo 3 a23).bind fun(ec,en,et,eo)=>(Apo 3 a24).bind fun(qc,qn,qt,qo)=>(Apo 1 a25).bind fun(pc,pn,pt,po)=>(Apo 3 a26).bind fun(vc,vn,vt,vo)=>(An7 (k+1) a27).bind fun na=>(An7 (k+2) a28).bind fun nb=>(An7 (k+3) a29).bind fun nc=>(An7 (k+4) a30).bind fun nd=>(An7 (k+5) a31).bind fun ne=>(An7 (k+6) a32).bind fun nf=>(An7 (k+7) a33).bind fun ng=>(xQ a34).bind fun _=>(xQ a35).bind fun _=>(xQ a36).bind fun _=>(xQ a37).bind fun _=>(xQ a38).bind fun _=>(xQ a39).bind fun _=>(xQ a40).bind fun _=>(xQ a41).bind fun _=>(xQ a42).bind fun _=>(xQ a43).bind fun _=>(xQ a44).bind fun _=>(xQ a45).bind fun _=>(xQ a46).bind fun _=>(xQ a47).bind fun _=>(xQ a48).bind fun _=>(xQ a49).bind fun _=>(xQ a50).bind fun _=>some ⟨nm,bu,mi,ma,sc,sn,st,so,nl,ru,rd,sr,tr,ut,dt,sT,hc,cc,hh,rs,rp,ac,an,aq,ao,us,uh,uo,hs,ec,en,et,eo,qc,qn,qt,qo,pc,pn,pt,po,vc,vn,vt,vo,na,nb,nc,nd,ne,nf,ng,[],[],[],[],[],[],[]⟩
|_=>none
def Aqz{k:Nat}{c:LA}{s:RB}(e:Aux k c=some s):c=Aue k s:=by
 unfold Aux at e
 split at e
 ·obtain⟨_,q,e0⟩:=ub e
  cases Aqy q
  obtain⟨_,q,e1⟩:=ub e0
  cases Jl q
  obtain⟨_,q,e2⟩:=ub e1
  cases Jl q
  obtain⟨_,q,e3⟩:=ub e2
  cases Jl q
  obtain⟨⟨_,_,_,_⟩,q,e4⟩:=ub e3
  cases g9 q
  obtain⟨_,q,e5⟩:=ub e4
  cases Jl q
  obtain⟨_,q,e6⟩:=ub e5
  cases Jl q
  obtain⟨_,q,e7⟩:=ub e6
  cases Jl q
  obtain⟨_,q,e8⟩:=ub e7
  cases Jl q
  obtain⟨_,q,e9⟩:=ub e8
  cases Jl q
  obtain⟨_,q,C⟩:=ub e9
  cases Jl q
  obtain⟨_,q,An8⟩:=ub C
  cases Jl q
  obtain⟨_,q,Ad5⟩:=ub An8
  cases Jl q
  obtain⟨_,q,Auy⟩:=ub Ad5
  cases Jl q
  obtain⟨_,q,D⟩:=ub Auy
  cases Jl q
  obtain⟨_,q,G⟩:=ub D
  cases Jl q
  obtain⟨_,q,An9⟩:=ub G
  cases Jl q
  obtain⟨_,q,I⟩:=ub An9
  cases Jl q
  obtain⟨⟨_,_,_,_⟩,q,L⟩:=ub I
  cases g9 q
  obtain⟨_,q,T⟩:=ub L
  cases Jl q
  obtain⟨_,q,Y⟩:=ub T
  cases Jl q
  obtain⟨_,q,e21⟩:=ub Y
  cases Jl q
  obtain⟨_,q,e22⟩:=ub e21
  cases Jl q
  obtain⟨⟨_,_,_,_⟩,q,e23⟩:=ub e22
  cases g9 q
  obtain⟨⟨_,_,_,_⟩,q,e24⟩:=ub e23
  cases g9 q
  obtain⟨⟨_,_,_,_⟩,q,e25⟩:=ub e24
  cases g9 q
  obtain⟨⟨_,_,_,_⟩,q,e26⟩:=ub e25
  cases g9 q
  obtain⟨_,q,e27⟩:=ub e26
  cases Y_ q
  obtain⟨_,q,e28⟩:=ub e27
  cases Y_ q
  obtain⟨_,q,e29⟩:=ub e28
  cases Y_ q
  obtain⟨_,q,e30⟩:=ub e29
  cases Y_ q
  obtain⟨_,q,e31⟩:=ub e30
  cases Y_ q
  obtain⟨_,q,e32⟩:=ub e31
  cases Y_ q
  obtain⟨_,q,e33⟩:=ub e32
  cases Y_ q
  obtain⟨_,q,e34⟩:=ub e33
  cases Ni q
  obtain⟨_,q,e35⟩:=ub e34
  cases Ni q
  obtain⟨_,q,e36⟩:=ub e35
  cases Ni q
  obtain⟨_,q,e37⟩:=ub e36
  cases Ni q
  obtain⟨_,q,e38⟩:=ub e37
  cases Ni q
  obtain⟨_,q,e39⟩:=ub e38
  cases Ni q
  obtain⟨_,q,e40⟩:=ub e39
  cases Ni q
  obtain⟨_,q,e41⟩:=ub e40
  cases Ni q
  obtain⟨_,q,e42⟩:=ub e41
  cases Ni q
  obtain⟨_,q,e43⟩:=ub e42
  cases Ni q
  obtain⟨_,q,e44⟩:=ub e43
  cases Ni q
  obtain⟨_,q,e45⟩:=ub e44
  cases Ni q
  obtain⟨_,q,e46⟩:=ub e45
  cases Ni q
  obtain⟨_,q,e47⟩:=ub e46
  cases Ni q
  obtain⟨_,q,e48⟩:=ub e47
  cases Ni q
  obtain⟨_,q,e49⟩:=ub e48
  cases Ni q
  obtain⟨_,q,e50⟩:=ub e49
  cases Ni q
  cases e50;rfl
 ·cases e
def Auf(i k:Nat):Nat×Blk->Option RB
|(j,⟨false,false,false,false,z,c,false,none⟩)=>cond (beq j i&&beq z 0) (Aux k c) none
|_=>none
def Ali{i k:Nat}{p:Nat×Blk}{s:RB}(h:Auf i k p=some s):p=(i,Auv (Aue k s)):=by
 unfold Auf at h
 split at h
 ·obtain⟨C,D⟩:=uc h
  simp at C
  rw[C.1,C.2,Aqz D];rfl
 ·cases h
def Aoa:Ay->Option RB
|p::p0::p1::p2::p3::p4::p5::p6::[]=>(Auf 100000 100000 p).bind fun s=>(Ac3 100001 2 p0).bind fun c0=>(Ac3 100002 2 p1).bind fun c1=>(Ac3 100003 2 p2).bind fun c2=>(Ac3 100004 2 p3).bind fun c3=>(Ac3 100005 2 p4).bind fun c4=>(Ac3 100006 2 p5).bind fun c5=>(Ac3 100007 2 p6).bind fun c6=>some {s with ka:=c0,kb:=c1,kc:=c2,kd:=c3,ke:=c4,kf:=c5,kg:=c6}
|_=>none
def Aob{h:Ay}{s:RB}(e:Aoa h=some s):h=Av5 s:=by
 unfold Aoa at e
 split at e
 ·obtain⟨s,q,f⟩:=ub e
  cases Ali q
  obtain⟨_,q,k⟩:=ub f
  cases R5 q
  obtain⟨_,q,e1⟩:=ub k
  cases R5 q
  obtain⟨_,q,C⟩:=ub e1
  cases R5 q
  obtain⟨_,q,e3⟩:=ub C
  cases R5 q
  obtain⟨_,q,e4⟩:=ub e3
  cases R5 q
  obtain⟨_,q,D⟩:=ub e4
  cases R5 q
  obtain⟨_,q,G⟩:=ub D
  cases R5 q
  cases G;rfl
 ·cases e
def Asv{G:Type 1}(f:LA->RB->Option G)(a:LA)(h:Ay):Option G:=(Aoa h).bind (f a)
def Auz{P:Program}{muts:Nat->List Bool}{T:List (Nat×Tw)}{hs:Hints}{N f:Nat}{g:LA->RB->Option ((R:Type)->KF R->O R)}(H:∀ a s,Asu P muts T hs N f a (Av5 s) (g a s)):∀ a h,Asu P muts T hs N f a h (Asv g a h):=fun a h=>by
 unfold Asv
 cases e:Aoa h with
|none=>trivial
|some s=>rw[Aob e];exact H a s
def Au0{S:Type}{G:Type 1}(of:Ay->Option S)(f:LA->S->Option G)(a:LA)(h:Ay):Option G:=(of h).bind (f a)
def Awq{S:Type}{of:Ay->Option S}{lay:S->Ay}(k:∀{h s},of h=some s->h=lay s){P:Program}{muts:Nat->List Bool}{T:List (Nat×Tw)}{hs:Hints}{N f:Nat}{g:LA->S->Option ((R:Type)->KF R->O R)}(H:∀ a s,Asu P muts T hs N f a (lay s) (g a s)):∀ a h,Asu P muts T hs N f a h (Au0 of g a h):=fun a h=>by
 unfold Au0
 cases e:of h with
|none=>trivial
|some s=>rw[k e];exact H a s
end Gx
namespace Gx
open Go Go.Proofs
set_option maxRecDepth 100000
noncomputable section
variable{R:Type}(N:Nat)
def muts:Nat->List Bool:=Apn [(54,[true,false,false,false]),(56,[true,true,false]),(68,[false,false,false,true,true]),(70,[false,false,true,true]),(71,[false,true,true,true,true,true,true,true,true]),(85,[true,false,false]),(87,[true,true,false,false]),(89,[true,false]),(90,[true,false,false]),(92,[true,false,false,false,false]),(93,[true,false,false,false]),(94,[true,false,false,false]),(111,[true,false,false]),(112,[true,false,false,false]),(113,[true,false,false,false]),(123,[true,false,false]),(125,[true]),(126,[true]),(144,[true,false,false]),(145,[false,false,false,false,false,false]),(146,[false,false,false,false,false,false]),(147,[false,false,false,false,false,false]),(148,[false,false,false,false,false,false]),(149,[false,false,false,false,false,false]),(151,[true,false]),(152,[true,false]),(153,[true,false,false,false]),(154,[true,false,false,false,false,false,false,false]),(155,[true,false,false,false,false,false]),(157,[true,false,false]),(158,[true,false,false]),(159,[true,false,false]),(160,[true,false,false]),(161,[true,false,false]),(169,[false,true]),(171,[false,true,true,true,true,true,true,true,true]),(172,[false,true]),(180,[true]),(195,[true,false,false]),(202,[true,false,false,false,false,false]),(204,[true,false,false,false,false,false]),(205,[true,false,false]),(212,[false,true]),(232,[false,false,false,false,false,false]),(233,[false,false,false,false,false,false]),(238,[true]),(239,[false,false,true]),(240,[false,false,false,false,true]),(244,[true,false]),(246,[false,true,true,true,true,true,true,true,true]),(247,[false,false,false,false,false,false]),(248,[false,true,true,true,true,true,true,true,true]),(249,[false,false,false,true]),(250,[false,true,true,true,true,true,true,true,true])]
def Awr{R:Type}:=@Awm R Tryz.prog muts
def follows:Tryz.prog.follows .mixedOrders=true:=by kernel_rfl
abbrev Ru:=List (Bd Tryz.prog)
def J7{R:Type}(fn hs)(l:Ru)(r N)(F:KF R):=@Awr R fn hs (An5 l) r N F
def B9(N f:Nat):=@Awn Tryz.prog muts follows N f
def Eh:Hints:={H:=hL}
def Hb:Hints:={H:=hL,modes:=[(3,0)]}
def js:Hints:={H:=hK 2 (hS (hS (hP [0,3] hL) hL) hL),nils:=[(2,1)],modes:=[(2,1)]}
def Alj:Hints:={H:=hL,nils:=[(2,1)],modes:=[(2,1)]}
def ui:Hints:={H:=hK 3 (hS (hK 1 (hS (hP [0,1,5] hL) hL)) hL)}
def Agk:Hints:={H:=hK 2 (hJ [0,1,5] hL hL)}
def Agl:Hints:={H:=hK 2 (hS (hK 1 (hS (hP [0,1,3,8,9,18,19,20] hL) hL)) (hK 3 (hS (hK 1 (hS (hP [3,8,12,41,42,43] hL) hL)) hL))),modes:=[(3,0)]}
def Cl(F:KF R):LA->O R:=fun v0=>F (.pagg v0 false) []
def Cc(F:KF R):Bool->O R:=fun v0=>F (.bool v0) []
def Ha(F:KF R):Int->O R:=fun v0=>F (iv v0) []
def Cw(F:KF R):Nat->LA->O R:=fun v0 v1=>F (A6q 0 v0) (hq [bQ 1 v1])
def Ia(F:KF R):LA->O R:=fun v0=>F (.tup []) [(100000,bQ 0 v0)]
def ov(F:KF R):LA->Bool->O R:=fun v0 v1=>F (.pagg v0 v1) []
def Aoc(F:KF R):Bool->Nat->LA->O R:=fun v0 v1 v2=>F (.agg [.bool v0,A6q 0 v1]) (hq [bQ 1 v2])
def lf(v0:LA)(v1:Nat)(v2 v3:Bool)(F:KF R):LA->Int->O R:=fun v4 v5=>F (.pagg v4 false) [(100000,bN 0 [.imm v0 v1 1 v2 v3,iv v5])]
def g_(F:KF R):Nat->Bool->LA->O R:=fun v0 v1 v2=>F (.tup [A6q 0 v0,.bool v1]) (hq [bQ 1 v2])
def FP(F:KF R):LA->Bool->O R:=fun v0 v1=>F (.tup [.pagg v0 false,.bool v1]) []
def Aaq(v0:LA)(v1:Nat)(v2 v3:Bool)(F:KF R):Nat->Int->LA->O R:=fun v4 v5 v6=>F (A6q 0 v4) [(100000,bN 0 [.imm v0 v1 1 v2 v3,iv v5]),(300000,bQ 1 v6)]
def Mp(F:KF R):LA->Int->O R:=fun v0 v1=>F (.tup [.pagg v0 false,iv v1]) []
def Aar(F:KF R):Int->O R:=fun v0=>F (.int .u64 v0) []
def Aas(F:KF R):Int->Bool->O R:=fun v0 v1=>F (.tup [.int .u64 v0,.bool v1]) []
def jt(F:KF R):Nat->Nat->LA->LA->O R:=fun v0 v1 v2 v3=>F (.tup [A6q 0 v0,A6q 1 v1]) (hq [bQ 1 v2,bQ 1 v3])
def ju(F:KF R):Nat->Nat->Bool->LA->LA->O R:=fun v0 v1 v2 v3 v4=>F (.tup [A6q 0 v0,A6q 1 v1,.bool v2]) (hq [bQ 1 v3,bQ 1 v4])
def Alk(F:KF R):Nat->Nat->LA->Bool->LA->O R:=fun v0 v1 v2 v3 v4=>F (.tup []) [(100000,bN 0 [A6q 0 v0,A6q 1 v1]),(300000,bQ 1 v2),(300001,bP v3 3 v4)]
end
end Gx
namespace Gx
def val:List Nat->Nat
|[]=>0
|x::r=>x+4294967296*val r
def Al(l:List Nat):Prop:=∀ x∈l,x<4294967296
def Aat:Nat->Nat->List Nat
|0,_=>[]
|f+1,n=>if n=0 then []else n%4294967296::Aat f (n/4294967296)
def Ao(n:Nat):List Nat:=Aat n n
def Agm:∀(f n:Nat),n<=f->∀ g,n<=g->Aat f n=Aat g n
|0,n,h,g,_=>by
  have:n=0:=by omega
  subst this;cases g<;>simp[Aat]
| f+1,n,h,g,C=>by
  by_cases k:n=0
  ·subst k;cases g<;>simp[Aat]
  ·cases g with
   |zero=>omega
   |succ g=>simp only[Aat,k,if_false];rw[Agm f _ (by omega) g (by omega)]
def D8:Ao 0=[]:=rfl
def KI{n:Nat}(h:n≠0):Ao n=n%4294967296::Ao (n/4294967296):=by
 unfold Ao
 cases n with
|zero=>omega
|succ n=>simp only[Aat,h,if_false];rw[Agm n _ (by omega) ((n+1)/4294967296) (by omega)]
def Ak:∀ n,val (Ao n)=n:=by
 intro n
 induction n using Nat.strongRecOn with
|_ n k =>
  by_cases h:n=0
  ·subst h;rfl
  ·rw[KI h,val,k _ (by omega)];omega
def Ad:∀ n,Al (Ao n):=by
 intro n
 induction n using Nat.strongRecOn with
| _ n C =>
  by_cases h:n=0
  ·subst h;intro x k;simp[D8]at k
  ·rw[KI h];intro x k
   simp at k
   rcases k with rfl|k
   ·omega
   ·exact C _ (by omega) x k
def Ug:Al []:=by intro x k;simp at k
def De{x:Nat}{r:List Nat}:Al (x::r)↔x<4294967296/\Al r:=by simp[Al]
def cE{a b:List Nat}:Al (a++b)↔Al a/\Al b:=by simp[Al,or_imp,forall_and]
def Cg{a:List Nat}(h:Al a)(n:Nat):Al (a.take n):=fun x k=>h x (A1g k)
def KJ{a:List Nat}(h:Al a)(n:Nat):Al (a.drop n):=fun x k=>h x (List.mem_of_mem_drop k)
def A3{a:List Nat}(h:Al a){i:Nat}(hi:i<a.length):a[i]<4294967296:=h _ (Axv hi)
def Cm{a:List Nat}(h:Al a){v:Nat}(D:v<4294967296)(i:Nat):Al (a.set i v):=fun x C=>by
 rcases A23 C with k|k
 ·exact h x k
 ·omega
def Cj(n:Nat):Al (replicate n 0):=fun x k=>by simp at k;omega
def Qr:∀(a b:List Nat),val (a++b)=val a+4294967296 ^ a.length*val b
|[],b=>by simp[val]
|x::r,b=>by
  simp only[Ayu,val,Ayb,Qr r b,Ax3]
  rw[Axx,<-Ay8,<-Axt];congr 2;rw[Axq]
def Ej:∀ n,val (replicate n 0)=0
|0=>rfl
|n+1=>by rw[A2k,val,Ej n]
def Bc:∀{a:List Nat},Al a->val a<4294967296 ^ a.length
|[],_=>by simp[val]
|x::r,h=>by
  have k:=De.1 h
  have C:=Bc k.2
  rw[val,Ayb,Ax3]
  omega
def Ad6(a:List Nat)(x:Nat):val (a++[x])=val a+4294967296 ^ a.length*x:=by rw[Qr];simp[val]
def ZA{n:Nat}(h:n≠0):Ao n≠[]:=by rw[KI h];simp
def ow{n:Nat}:Ao n=[]↔n=0:=by
 constructor
 ·intro h;by_cases k:n=0;exact k;exact absurd h (ZA k)
 ·intro h;rw[h];rfl
def Bl{n:Nat}:(Ao n).length=0↔n=0:=by rw[A3j,ow]
def Bi:∀{l:List Nat},Al l->l=Ao (val l)++replicate (l.length - (Ao (val l)).length) 0/\(Ao (val l)).length<=l.length
|[],_=>by simp[val,D8]
| x::r,h=>by
  have D:=De.1 h
  obtain⟨k,G⟩:=Bi D.2
  rw[val]
  by_cases C:x+4294967296*val r=0
  ·have I:x=0:=by omega
   have hr:val r=0:=by omega
   rw[C,D8]
   rw[hr,D8]at k
   simp at k
   subst I
   refine⟨?_,by simp⟩
   rw[A0e,Az4,Nat.sub_zero,Ayb,A2k,<-k]
  ·rw[KI C,show(x+4294967296*val r)%4294967296=x by omega,show(x+4294967296*val r)/4294967296=val r by omega]
   refine⟨?_,by simp;exact G⟩
   rw[Ayu,Ayb,Ayb,Nat.add_sub_add_right,<-k]
def oz:∀(n:Nat)(h:Ao n≠[]),(Ao n).getLast h≠0:=by
 intro n
 induction n using Nat.strongRecOn with
| _ n D =>
  intro h
  have G:n≠0:=fun e=>h (by rw[e];rfl)
  have e:=KI G
  by_cases C:n/4294967296=0
  ·rw[C,D8]at e
   have:n<4294967296:=by omega
   simp[e];omega
  ·have k:=ZA C
   have:=D _ (by omega) k
   have I:(Ao n).getLast h=(Ao (n/4294967296)).getLast k:=by
    simp only[e];rw[List.getLast_cons k]
   rw[I];exact this
def Aq0:∀{l:List Nat},Al l->(∀ h:l≠[],l.getLast h≠0)->Ao (val l)=l:=by
 intro l h L
 obtain⟨C,T⟩:=Bi h
 by_cases G:l.length - (Ao (val l)).length=0
 ·rw[G]at C;simpa using C.symm
 ·exfalso
  obtain⟨k,G⟩:=Nat.exists_eq_succ_of_ne_zero G
  rw[G,A34,<-Azz]at C
  have D:l≠[]:=by intro e;rw[e]at C;simp at C
  apply L D
  have I:l.getLast?=some 0:=by rw[C,List.getLast?_append];rfl
  rw[List.getLast?_eq_some_getLast D]at I
  simpa using I
def C1 {n k:Nat} (h:n<4294967296 ^ k):(Ao n).length<=k:=by
  induction k generalizing n with
  | zero => have : n = 0 := by simpa using h
            subst this;simp[D8]
  | succ k D =>
    by_cases C:n=0
    · subst C;simp[D8]
    · rw[KI C,Ayb]
      have:n/4294967296<4294967296 ^ k:=by
        rw[Ax3]at h
        exact A0z (by rw[Axq];exact h)
      have:=D this
      omega
def Br{a b:Nat}(h:a<=b):(Ao a).length<=(Ao b).length:=by
 apply C1
 have:=Bc (Ad b)
 rw[Ak]at this
 omega
def uj{U V U3 V2 P d:Nat}(hV:V2*P<=V)(hU:U<(U3+1)*P)(h:U3<d*V2)(k:0<V):U/V<d:=by
 rw[A17 k]
 have D:(U3+1)*P<=d*V2*P:=Axs _ h
 have C:d*(V2*P)<=d*V:=Aya _ hV
 rw[<-Axt]at C
 omega
def uk{U V U3 V2 P d:Nat}(hV:V<(V2+1)*P)(hU:U3*P<=U)(h:d*V2<=U3)(C:d<=V2+1)(k:0<V):d<=U/V+1:=by
 cases d with
|zero=>exact A07 _
| succ d =>
  have:d<=U/V:=by
   rw[A1c k]
   have D:(d+1)*V2*P<=U3*P:=Axs _ h
   have G:d*V<=d*((V2+1)*P):=Aya _ (by omega)
   have I:d*((V2+1)*P)<=(d+1)*V2*P:=by
    rw[<-Axt]
    apply Axs
    rw[Axx,Ax2];omega
   omega
  omega
def Aau{a b u v s t x y:Nat}(D:x+v*b=u*a)(G:y+s*a=t*b)(k:u*t=v*s+1):Nat.gcd x y=Nat.gcd a b:=by
 have e1:t*x+v*y=a:=by
  have C:t*x+t*v*b=t*u*a:=by rw[<-Axt t u a |>.symm,Axt t v b,<-Axx,D]
  have I:v*y+v*s*a=v*t*b:=by rw[Axt,Axt,<-Axx,G]
  have L:t*u*a=v*s*a+a:=by rw[Axq t u,k,Ax2,A3a]
  have T:t*v*b=v*t*b:=by rw[Axq t v]
  omega
 have Y:s*x+u*y=b:=by
  have C:s*x+s*v*b=s*u*a:=by rw[Axt,Axt,<-Axx,D]
  have I:u*y+u*s*a=u*t*b:=by rw[Axt,Axt,<-Axx,G]
  have L:u*t*b=v*s*b+b:=by rw[k,Ax2,A3a]
  have T:s*u*a=u*s*a:=by rw[Axq s u]
  have h5:s*v*b=v*s*b:=by rw[Axq s v]
  omega
 apply Nat.dvd_antisymm
 ·apply Nat.dvd_gcd
  ·rw[<-e1];exact Nat.dvd_add (Azj (A0i x y) t) (Azj (A1e x y) v)
  ·rw[<-Y];exact Nat.dvd_add (Azj (A0i x y) s) (Azj (A1e x y) u)
 ·apply Nat.dvd_gcd
  ·have C:Nat.gcd a b∣x+v*b:=by rw[D];exact Azj (A0i a b) u
   exact(A19 (Azj (A1e a b) v)).1 C
  ·have C:Nat.gcd a b∣y+s*a:=by rw[G];exact Azj (A1e a b) t
   exact(A19 (Azj (A0i a b) s)).1 C
def DE{a b x y P u v w:Nat}(k:x*P<=a)(D:b<(y+1)*P)(C:u*x=w+v*y)(G:v<=w):v*b<=u*a:=by
 have I:u*(x*P)<=u*a:=Aya _ k
 have L:v*b<=v*((y+1)*P):=Aya _ (by omega)
 have T:v*((y+1)*P)<=u*(x*P):=by
  rw[<-Axt,<-Axt]
  apply Axs
  rw[C,Axx];omega
 omega
end Gx
namespace Gx
open Go
section
variable{R:Type}
def Ae(l:List Nat):LA:=l.map fun n:Nat=>.int .u32 (n:Int)
def Z5(x:Nat)(l:List Nat):Ae (x::l)=.int .u32 (x:Int)::Ae l:=rfl
def Bp(l:List Nat):(Ae l).length=l.length:=by simp[Ae]
def Ah9(l:List Nat)(n:Nat):(Ae l).drop n=Ae (l.drop n):=by simp[Ae,List.map_drop]
def Uh(l:List Nat)(n:Nat):(Ae l).take n=Ae (l.take n):=by simp[Ae,A4c]
def cF(l:List Nat)(j:Nat)(v:Nat):List.set (Ae l) j (.int .u32 (v:Int))=Ae (l.set j v):=by simp[Ae,A11]
def C2(n:Nat):replicate n (AV.int .u32 0)=Ae (replicate n 0):=by simp[Ae]
def Aav{l:List Nat}{i:Nat}(h:i<l.length){f:Int->O R}:Aq .u32 (drop i (Ae l)) f=f (l[i]:Nat):=by rw[Ah9,Ayx h,Z5,Av]
def DF:∀ l:List Nat,A9 (Ae l)=true
|[]=>rfl
|x::r=>by rw[Z5,A9];exact DF r
def GX(a b:Nat):(a:Int)+(b:Int)=((a+b:Nat):Int):=by omega
def pA(a b:Nat):(a:Int)*(b:Int)=((a*b:Nat):Int):=by simp
def Iu{a:Nat}(h:a<18446744073709551616):wrap .u64 (a:Int)=(a:Int):=wrap_u64 a h
def Agn{a:Nat}(h:a<4294967296):wrap .u32 (a:Int)=(a:Int):=wrap_u32 a h
def ZB(a:Nat):wrap .u32 (a:Int)=((a%4294967296:Nat):Int):=Ah6 a
def ZC(a:Int):wrap .u64 a=a%18446744073709551616:=IntKind.wrap_u64 a
def gc{a b:Nat}(k:a<18446744073709551616)(C:b<=a):wrap .u64 ((a:Int) - (b:Int))=((a - b:Nat):Int):=by rw[ZC];omega
def All{a b:Nat}(h:a<b)(k:b<=18446744073709551616):wrap .u64 ((a:Int) - (b:Int))=((18446744073709551616+a - b:Nat):Int):=by rw[ZC];omega
def gd(a:Nat):Int.fdiv (a:Int) (2 ^ 32)=((a/4294967296:Nat):Int):=R4 a 32
def Asw(a:Nat):Int.fdiv (a:Int) (2 ^ 63)=((a/9223372036854775808:Nat):Int):=R4 a 63
def i64{a:Int}(h:-9223372036854775808<=a/\a<=9223372036854775807):wrap .i64 a=a:=Ar a h
def Ad7{a b:Nat}(k:a<18446744073709551616)(C:b<18446744073709551616):Rb .u64 (a:Int) (b:Int)=((a ||| b:Nat):Int):=uf rfl k C
def ge{a b k:Nat}(h:b<2 ^ k):a*2 ^ k ||| b=a*2 ^ k+b:=by rw[<-Nat.shiftLeft_eq,Nat.shiftLeft_add_eq_or_of_lt h]
end
end Gx
namespace Gx
open Go Go.Proofs
set_option maxRecDepth 100000
noncomputable section
variable{R:Type}(N:Nat)
def KK(N:Nat)(r0:Nat->O R)(a:Nat)(b:LA)(k0:Int->O R)(c:Int):O R:=(cond ((decide (c>0))==true) (cond (Ac (wrap .i64 (c - 1)) a) (Aq .u32 (b.drop (0+(((wrap .i64 (c - 1)).toNat)*1))) fun d=>cond (cond true (d==0) false) (k0 (wrap .i64 (c - 1))) (cond ((decide ((0:Int)<=(0:Int)))&&((decide (0<=c))&&((decide (c<=(a:Int)))&&(decide ((a:Int)<=(a:Int)))))) (r0 c.toNat) none)) none) (cond ((decide ((0:Int)<=(0:Int)))&&((decide (0<=c))&&((decide (c<=(a:Int)))&&(decide ((a:Int)<=(a:Int)))))) (r0 c.toNat) none))
def Ui(r0:Nat->O R)(a:Nat)(b:LA):Nat->Int->O R
|0=>fun _=>none
|n+1=>KK N r0 a b (Ui r0 a b n)
def cG(N:Nat)(r0:Nat->O R)(q0:Int->O R)(a:Nat)(b:LA):O R:=(q0 (a:Int))
def AT:=(Ai fun N a b r0=>cG (R:=R) N r0 (Ui N r0 a b N) a b).1
def ZD(a b r0):(@AT R N a b r0)=(cG N r0 (Ui N r0 a b N) a b):=by rw[AT,(Ai _).2]
def Aia(F:KF R):=J7 Tryz.f180 js [] [100000] N F
def UR(b:LA)(F:KF R):Nat->O R:=fun f=>F (.own 100000 0 f) [(100000,bQ 1 b)]
def Aib(a:Nat)(b:LA)(K:St->O R):=fun c=>K ⟨[(0,.own 100000 0 a),(3,iv c)],[(100000,bQ 1 b)]⟩
def xR(F:KF R)(a b):∀ n,Aib a b (Au (Aia N F (pz 336) []) n)=(Ui N (UR b F) a b n):=Gn fun n e=>(B5 (KK N (UR b F) a b) e:_)
def cH:=B9 N 180 [] js (fun
|[.own 100000 0 a],[(100000,⟨false,false,true,false,1,b,false,none⟩)]=>some fun _ k=>AT N a b (UR b k)
| _,_=>none) fun _ _=>by split;rename_i a b;intro R F;exact(B5 (cG N (UR b F) · a b) ((lW ..).trans (xR ..)):_).trans (ZD ..).symm;trivial
def AU(a:Int)(r0:Nat->LA->O R):O R:=(AT N 2 [.int .u32 (wrap .u32 a),.int .u32 (wrap .u32 (Int.fdiv a (2 ^ 32)))] fun b=>r0 b [.int .u32 (wrap .u32 a),.int .u32 (wrap .u32 (Int.fdiv a (2 ^ 32)))])
def Bx:=(Ai (@AU R)).1
def DG:@Bx R=@AU R:=(Ai _).2
def H3:=B9 N 170 [cH N] Alj (fun
|[.int .u64 a],[]=>some fun _ k=>Bx N a (Cw k)
| _,_=>none) fun _ _=>by split;intro R F;dsimp only;rw[DG];kernel_rfl;trivial
def ZE(N:Nat)(c:Bool)(a:Nat)(b:LA)(r0:Bool->O R):O R:=(cond (c==true) (r0 (cond true (decide ((a:Int)>0)) false)) (r0 false))
def L8:=(Ai (@ZE R)).1
def XA:@L8 R=@ZE R:=(Ai _).2
def xS(a:Nat)(b:LA)(F:KF R):Bool->O R:=fun d=>F (.agg [.bool d,.own 100000 0 a]) [(100000,bQ 1 b)]
def DH:=B9 N 169 [] Eh (fun
|[.bool c,.own 100000 0 a],[(100000,⟨false,false,true,false,1,b,false,none⟩)]=>some fun _ k=>L8 N c a b (xS a b k)
| _,_=>none) fun _ _=>by split;intro R F;dsimp only;rw[XA];kernel_rfl;trivial
def QX(a:Int)(r0:Bool->Nat->LA->O R):O R:=(cond (decide (a<0)) (Bx N (wrap .u64 ((0:Int) - (wrap .u64 a))) fun b c=>L8 N true b c fun f=>r0 f b c) (Bx N (wrap .u64 a) fun d e=>L8 N false d e fun g=>r0 g d e))
def KL:=(Ai (@QX R)).1
def QY:@KL R=@QX R:=(Ai _).2
def xT:=B9 N 108 [H3 N,DH N] Eh (fun
|[.int .i64 a],[]=>some fun _ k=>KL N a (Aoc k)
| _,_=>none) fun _ _=>by split;intro R F;dsimp only;rw[QY];kernel_rfl;trivial
def QZ(a:Int)(r0:LA->O R):O R:=(KL N a fun c b d=>r0 [.bool c,.imm (d.take (b*1)) b 1 false false,.imm [.int .u32 1] 1 1 false false])
def Ba:=(Ai (@QZ R)).1
def Q_:@Ba R=@QZ R:=(Ai _).2
def C8:=B9 N 51 [xT N] Hb (fun
|[.int .i64 a],[]=>some fun _ k=>Ba N a (Cl k)
| _,_=>none) fun _ _=>by split;intro R F;dsimp only;rw[Q_];kernel_rfl;trivial
def Vl(N:Nat)(r0:LA->Nat->O R)(c:LA)(a:Nat)(d b:Bool)(k0:Int->O R)(f:Int):O R:=(cond ((decide (f>0))==true) (cond (Ac (wrap .i64 (f - 1)) a) (Aq .u32 (c.drop (((wrap .i64 (f - 1)).toNat)*1)) fun g=>cond (cond true (g==0) false) (k0 (wrap .i64 (f - 1))) (cond ((decide ((0:Int)<=(0:Int)))&&((decide (0<=f))&&((decide (f<=(a:Int)))&&(decide ((a:Int)<=(a:Int)))))) (r0 (c.take (f.toNat*1)) f.toNat) none)) none) (cond ((decide ((0:Int)<=(0:Int)))&&((decide (0<=f))&&((decide (f<=(a:Int)))&&(decide ((a:Int)<=(a:Int)))))) (r0 (c.take (f.toNat*1)) f.toNat) none))
def Kh(r0:LA->Nat->O R)(c:LA)(a:Nat)(d b:Bool):Nat->Int->O R
|0=>fun _=>none
|n+1=>Vl N r0 c a d b (Kh r0 c a d b n)
def KM(N:Nat)(r0:LA->Nat->O R)(q0:Int->O R)(c:LA)(a:Nat)(d b:Bool):O R:=(q0 (a:Int))
def Cy:=(Ai fun N c a d b r0=>KM (R:=R) N r0 (Kh N r0 c a d b N) c a d b).1
def XB(c a d b r0):(@Cy R N c a d b r0)=(KM N r0 (Kh N r0 c a d b N) c a d b):=by rw[Cy,(Ai _).2]
def xU(F:KF R):=J7 Tryz.f180 js [] [] N F
def Y2(b:Bool)(F:KF R):LA->Nat->O R:=fun h i=>F (.imm h i 1 false b) []
def xV(c:LA)(a:Nat)(d b:Bool)(K:St->O R):=fun f=>K ⟨[(0,.imm c a 1 d b),(3,iv f)],[]⟩
def li(F:KF R)(c a d b):∀ n,xV c a d b (Au (xU N F (pz 336) []) n)=(Kh N (Y2 b F) c a d b n):=Gn fun n e=>(B5 (Vl N (Y2 b F) c a d b) e:_)
def Nj:=B9 N 180 [] js (fun
|[.imm c a 1 d b],[]=>some fun _ k=>Cy N c a d b (Y2 b k)
| _,_=>none) fun _ _=>by split;rename_i c a d b;intro R F;exact(B5 (KM N (Y2 b F) · c a d b) ((lW ..).trans (li ..)):_).trans (XB ..).symm;trivial
def J8(N:Nat)(r0:Int->O R)(b:LA)(a:Nat)(c d:Bool)(k0:Int->Int->Int->O R)(g h f:Int):O R:=(cond (decide (f<h)) (cond (Ac f a) (Aq .u32 (b.drop (f.toNat*1)) fun i=>cond (decide ((wrap .i64 (32*f))<0)) none (k0 (Rb .u64 g (wrap .u64 ((wrap .u64 i)*2 ^ (min ((wrap .i64 (32*f)).toNat) 64)))) h (wrap .i64 (f+1)))) none) (r0 g))
def Ix(r0:Int->O R)(b:LA)(a:Nat)(c d:Bool):Nat->Int->Int->Int->O R
|0=>fun _ _ _=>none
|n+1=>J8 N r0 b a c d (Ix r0 b a c d n)
def cI(N:Nat)(r0:Int->O R)(q0:Int->Int->Int->O R)(b:LA)(a:Nat)(c d:Bool):O R:=(q0 0 (a:Int) 0)
def R6:=(Ai fun N b a c d r0=>cI (R:=R) N r0 (Ix N r0 b a c d N) b a c d).1
def jv(b a c d r0):(@R6 R N b a c d r0)=(cI N r0 (Ix N r0 b a c d N) b a c d):=by rw[R6,(Ai _).2]
def pB:Hints:={H:=hK 2 (hS (hK 1 (hS (hP [3,6,7,8] hL) hL)) hL)}
def Ad8(F:KF R):=J7 Tryz.f214 pB [] [] N F
def Ad9(b:LA)(a:Nat)(c d:Bool)(K:St->O R):=fun g h f=>K ⟨[(3,.int .u64 g),(6,.imm b a 1 c d),(7,iv h),(8,iv f)],[]⟩
def se(F:KF R)(b a c d):∀ n,Ad9 b a c d (Au (Ad8 N F (pz 1348) []) n)=(Ix N (Aar F) b a c d n):=Gn fun n e=>(B5 (J8 N (Aar F) b a c d) e:_)
def gf:=B9 N 214 [] pB (fun
|[.imm b a 1 c d],[]=>some fun _ k=>R6 N b a c d (Aar k)
| _,_=>none) fun _ _=>by split;intro R F;exact(B5 (cI N (Aar F) · _ _ _ _) ((lW ..).trans (se ..)):_).trans (jv ..).symm;trivial
def ZF(b:LA)(c:Nat)(d a:Bool)(r0:Int->Bool->O R):O R:=(Cy N b c d a fun f e=>cond (decide ((e:Int)>2)) (r0 0 false) (R6 N f e false a fun g=>r0 g true))
def GY:=(Ai (@ZF R)).1
def XC:@GY R=@ZF R:=(Ai _).2
def Aaw:=B9 N 176 [Nj N,gf N] Eh (fun
|[.imm b c 1 d a],[]=>some fun _ k=>GY N b c d a (Aas k)
| _,_=>none) fun _ _=>by split;intro R F;dsimp only;rw[XC];kernel_rfl;trivial
def Fx(N:Nat)(r0:Int->Int->Bool->O R)(b a:Int)(d:Bool)(c:LA)(e:Bool):O R:=(cond e (r0 0 0 false) (cond (a==0) (r0 0 1 true) (DD c fun f=>cond f (r0 (wrap .i64 ((0:Int) - (wrap .i64 b))) (wrap .i64 a) true) (r0 (wrap .i64 b) (wrap .i64 a) true))))
def Z6(r0:Int->Int->Bool->O R)(q0:Int->Int->Bool->O R)(c:LA)(d:Bool):O R:=(Bq 1 (c.drop 1) fun g h=>GY N g h false d fun b i=>Bq 1 (c.drop 2) fun j l=>GY N j l false d fun a m=>cond ((!i)==false) (cond ((cond false true (!m))==false) (cond ((cond false true (decide (b>=2147483648)))==false) (q0 b a (cond false true (decide (a>=2147483648)))) (q0 b a true)) (q0 b a true)) (q0 b a true))
def Hc:=(Ai fun N c d r0=>Z6 (R:=R) N r0 (fun b a=>Fx N r0 b a d c) c d).1
def Y3(c d r0):(@Hc R N c d r0)=(Z6 N r0 (fun b a=>Fx N r0 b a d c) c d):=by rw[Hc,(Ai _).2]
def jw:Hints:={H:=hK 3 (hS (hS (hJ [1,5,6,21] hL hL) hL) hL)}
def pC:Ru:=[Aaw N]
def Aax(F:KF R):=J7 Tryz.f115 jw (pC N) [] N F
def Q'(F:KF R):Int->Int->Bool->O R:=fun n o p=>F (.tup [iv n,iv o,.bool p]) []
def Aay(b a:Int)(d:Bool)(c:LA)(K:St->O R):=fun e=>K ⟨[(1,op 0),(5,.int .u64 b),(6,.int .u64 a),(21,.bool e)],hq [bP d 0 c]⟩
def pD(F:KF R)(b a d c):Aay b a d c (A2 (Aax N F (pz 5441) []))=(Fx N (Q' F) b a d c):=by kernel_rfl
def KO:=B9 N 115 (pC N) jw (fun
|[.pagg c d],[]=>some fun _ k=>Hc N c d (Q' k)
| _,_=>none) fun _ _=>by split;intro R F;exact(B5 (Z6 N (Q' F) · _ _) (ld fun b a=>(jW ..).trans (pD ..)):_).trans (Y3 ..).symm;trivial
def Lm(r0:LA->O R)(a b c:Int)(k1:Int->Int->O R)(d f:Int):O R:=(cond (f != 0) (cond (f==0) none (k1 f (Int.tmod d f))) (cond (d==0) none (Bx N (wrap .u64 (Int.tdiv c d)) fun g i=>cond (d==0) none (Bx N (wrap .u64 (Int.tdiv (wrap .u64 b) d)) fun h j=>r0 [.bool (decide (a<0)),.imm (i.take (g*1)) g 1 false false,.imm (j.take (h*1)) h 1 false false]))))
def C3(r0:LA->O R)(a b c:Int):Nat->Int->Int->O R
|0=>fun _ _=>none
|n+1=>Lm N r0 a b c (C3 r0 a b c n)
def Xn(N:Nat)(r0:LA->O R)(a b:Int)(q1:Int->Int->Int->O R)(c:Int):O R:=(q1 c (wrap .u64 b) c)
def R7(r0:LA->O R)(a b:Int)(c:Int):O R:=Xn N r0 a b (fun c=>C3 N r0 a b c N) c
def Y4(N:Nat)(r0:LA->O R)(q0:Int->O R)(a b:Int):O R:=(cond (decide (a<0)) (q0 (wrap .u64 ((0:Int) - (wrap .u64 a)))) (q0 (wrap .u64 a)))
def J9:=(Ai fun N a b r0=>Y4 (R:=R) N r0 (R7 N r0 a b) a b).1
def N_(a b r0):(@J9 R N a b r0)=(Y4 N r0 (R7 N r0 a b) a b):=by rw[J9,(Ai _).2]
def RA:Hints:={H:=hK 2 (hJ [0,1,4,5] hL (hK 1 (hS (hS (hP [0,1,4,5,6,7] hL) hL) hL))),modes:=[(3,0)]}
def XD:Ru:=[H3 N]
def RC(F:KF R):=J7 Tryz.f127 RA (XD N) [] N F
def pF(a b c:Int)(K:St->O R):=fun d f=>K ⟨[(0,iv a),(1,iv b),(4,op 0),(5,.int .u64 c),(6,.int .u64 d),(7,.int .u64 f)],hq [bN 0 [.bool false,.nsl,.nsl]]⟩
def pG(a b:Int)(K:St->O R):=fun c=>K ⟨[(0,iv a),(1,iv b),(4,op 0),(5,.int .u64 c)],hq [bN 0 [.bool false,.nsl,.nsl]]⟩
def cJ(F:KF R)(a b c):∀ n,pF a b c (Au (RC N F (pz 5456) []) n)=(C3 N (Cl F) a b c n):=Gn fun n e=>(B5 (Lm N (Cl F) a b c) e:_)
def cM(F:KF R)(a b):pG a b (A2 (RC N F (pz 85) []))=(R7 N (Cl F) a b):=(B5 (Xn N (Cl F) a b) (Aan fun c=>(lW ..).trans (cJ ..)):_)
def FQ:=B9 N 127 (XD N) RA (fun
|[.int .i64 a,.int .i64 b],[]=>some fun _ k=>J9 N a b (Cl k)
| _,_=>none) fun _ _=>by split;intro R F;exact(B5 (Y4 N (Cl F) · _ _) ((jW ..).trans (cM ..)):_).trans (N_ ..).symm;trivial
def XE(N:Nat)(r0:LA->O R)(k0:O R):O R:=(r0 [])
def R8(r0:LA->O R):Nat->O R
|0=>none
|n+1=>XE N r0 (R8 r0 n)
def KP(N:Nat)(r0:LA->O R)(q0:O R):O R:=q0
def GZ:=(Ai fun N r0=>KP (R:=R) N r0 (R8 N r0 N)).1
def XF r0:(@GZ R N r0)=(KP N r0 (R8 N r0 N)):=by rw[GZ,(Ai _).2]
def xW(F:KF R):=J7 Tryz.f180 js [] [] N F
def Y5(F:KF R):LA->O R:=fun a=>F (A6q 0 0) (hq [bQ 1 a])
def xX(K:St->O R):=K ⟨[(0,.nsl),(3,iv 0)],[]⟩
def lj(F:KF R):∀ n,xX (Au (xW N F (pz 336) []) n)=(R8 N (Y5 F) n):=Gn fun n e=>(B5 (XE N (Y5 F)) e:_)
def Aaz:=B9 N 180 [] js (fun
|[.nsl],[]=>some fun _ k=>GZ N (Y5 k)
| _,_=>none) fun _ _=>by split;intro R F;exact(B5 (KP N (Y5 F)) ((lW ..).trans (lj ..)):_).trans (XF ..).symm;trivial
def AW(N:Nat)(r0:Int->O R)(c:LA)(a:Nat)(b:Bool)(d:LA)(k0:Int->O R)(f:Int):O R:=(cond (decide (f>=0)) (cond (Ac f a) (Aq .u32 (c.drop (f.toNat*1)) fun j=>cond (Ac f 0) (Aq .u32 (d.drop (0+(f.toNat*1))) fun l=>cond (decide (j<l)) (r0 (-1)) (cond (Ac f a) (Aq .u32 (c.drop (f.toNat*1)) fun m=>cond (Ac f 0) (Aq .u32 (d.drop (0+(f.toNat*1))) fun o=>cond (decide (m>o)) (r0 1) (k0 (wrap .i64 (f - 1)))) none) none)) none) none) (r0 0))
def Pu(r0:Int->O R)(c:LA)(a:Nat)(b:Bool)(d:LA):Nat->Int->O R
|0=>fun _=>none
|n+1=>AW N r0 c a b d (Pu r0 c a b d n)
def DI(r0:Int->O R)(q0:LA->Nat->LA->Int->O R)(g:LA)(h:Nat)(i b:Bool):O R:=(Cy N g h i b fun c a=>GZ N fun d=>cond ((a:Int) != 0) (cond (decide ((a:Int)<0)) (r0 (-1)) (r0 1)) (q0 c a d (wrap .i64 ((a:Int) - 1))))
def Uj:=(Ai fun N g h i b r0=>DI (R:=R) N r0 (fun c a d=>Pu N r0 c a b d N) g h i b).1
def RD(g h i b r0):(@Uj R N g h i b r0)=(DI N r0 (fun c a d=>Pu N r0 c a b d N) g h i b):=by rw[Uj,(Ai _).2]
def CW:=Aut (Nj N) (Aaz N) (Eq.refl 180)
def cN:Ru:=[CW N]
def sf(F:KF R):=J7 Tryz.f128 ui (cN N) [] N F
def sh(c:LA)(a:Nat)(b:Bool)(d:LA)(K:St->O R):=fun f=>K ⟨[(0,.imm c a 1 false b),(1,A6q 0 0),(5,iv f)],hq [bQ 1 d]⟩
def gg(F:KF R)(c a b d):∀ n,sh c a b d (Au (sf N F (pz 5444) []) n)=(Pu N (Ha F) c a b d n):=Gn fun n e=>(B5 (AW N (Ha F) c a b d) e:_)
def cO:=B9 N 128 (cN N) ui (fun
|[.imm g h 1 i b,.nsl],[]=>some fun _ k=>Uj N g h i b (Ha k)
| _,_=>none) fun _ _=>by split;intro R F;exact(B5 (DI N (Ha F) · _ _ _ _) (Aqx fun c a d=>(lW ..).trans (gg ..)):_).trans (RD ..).symm;trivial
def US(a:LA)(b:Bool)(r0:LA->Bool->LA->Nat->Bool->O R):O R:=(Bq 1 (a.drop 2) fun c d=>Uj N c d false b fun e=>cond (e==0) (r0 [.bool false,.nsl] false [.int .u32 1] 1 false) (cond (ble 2 a.length) (Bq 1 (a.drop 2) fun f g=>cond ((beq 0 0)&&((beq ((a.take 2).length) 2)&&(beq 2 2))) (cond (ble 2 ((a.take 2).length)) (r0 ((a.take 2).take 2) b f g b) none) none) none))
def Nk:=(Ai (@US R)).1
def KQ:@Nk R=@US R:=(Ai _).2
def Aa0(F:KF R):LA->Bool->LA->Nat->Bool->O R:=fun h i j l m=>F (.tup [.pagg h i,.imm j l 1 false m]) []
def AX:=B9 N 117 [cO N] { H:=hL,nils:=[(3,1)],modes:=[(3,0),(1,1)] } (fun
|[.pagg a b],[]=>some fun _ k=>Nk N a b (Aa0 k)
| _,_=>none) fun _ _=>by split;intro R F;dsimp only;rw[KQ];kernel_rfl;trivial
def KS(N:Nat)(k1:Nat->Int->Int->LA->O R)(r0:Nat->LA->O R)(f:LA)(a:Nat)(c:Bool)(i:Nat)(h l:Int)(g:LA)(b:Nat)(d:Bool)(j:Int)(k2:Int->Int->Int->LA->O R)(w x m:Int)(u:LA):O R:=(cond (decide (m<x)) (cond (Ac m a) (Aq .u32 (f.drop (m.toNat*1)) fun y=>cond (Ac (wrap .i64 (h+m)) i) (Aq .u32 (u.drop (0+(((wrap .i64 (h+m)).toNat)*1))) fun z=>cond (Ac (wrap .i64 (h+m)) i) (cond ((beq 1 1)&&((ble ((0+(((wrap .i64 (h+m)).toNat)*1))+1) u.length)&&(!false))) (k2 (Int.fdiv (wrap .u64 (w+(wrap .u64 ((wrap .u64 ((wrap .u64 l)*(wrap .u64 y)))+(wrap .u64 z))))) (2 ^ 32)) x (wrap .i64 (m+1)) (u.set (0+(((wrap .i64 (h+m)).toNat)*1)) (.int .u32 (wrap .u32 (wrap .u64 (w+(wrap .u64 ((wrap .u64 ((wrap .u64 l)*(wrap .u64 y)))+(wrap .u64 z))))))))) none) none) none) none) (cond (Ac (wrap .i64 (h+(a:Int))) i) (cond ((beq 1 1)&&((ble ((0+(((wrap .i64 (h+(a:Int))).toNat)*1))+1) u.length)&&(!false))) (k1 i j (wrap .i64 (h+1)) (u.set (0+(((wrap .i64 (h+(a:Int))).toNat)*1)) (.int .u32 (wrap .u32 w)))) none) none))
def Uk(k1:Nat->Int->Int->LA->O R)(r0:Nat->LA->O R)(f:LA)(a:Nat)(c:Bool)(i:Nat)(h l:Int)(g:LA)(b:Nat)(d:Bool)(j:Int):Nat->Int->Int->Int->LA->O R
|0=>fun _ _ _ _=>none
|n+1=>KS N k1 r0 f a c i h l g b d j (Uk k1 r0 f a c i h l g b d j n)
def AY(r0:Nat->LA->O R)(f:LA)(a:Nat)(c:Bool)(g:LA)(b:Nat)(d:Bool)(k1:Nat->Int->Int->LA->O R)(q2:Nat->Int->Int->Int->Int->Int->Int->LA->O R)(i:Nat)(j h:Int)(v:LA):O R:=(cond (decide (h<j)) (cond (Ac h b) (Aq .u32 (g.drop (h.toNat*1)) fun l=>cond (l==0) (k1 i j (wrap .i64 (h+1)) v) (q2 i h l j 0 (a:Int) 0 v)) none) (AT N i v fun aa=>r0 aa v))
def Ou(r0:Nat->LA->O R)(f:LA)(a:Nat)(c:Bool)(g:LA)(b:Nat)(d:Bool):Nat->Nat->Int->Int->LA->O R
|0=>fun _ _ _ _=>none
|n+1=>AY N r0 f a c g b d (Ou r0 f a c g b d n) (fun i h l j=>Uk N (Ou r0 f a c g b d n) r0 f a c i h l g b d j N)
def ZG(N:Nat)(r0:Nat->LA->O R)(g:LA)(b:Nat)(d:Bool)(f:LA)(a:Nat)(c:Bool)(q1:Nat->Int->Int->LA->O R):O R:=(cond ((decide (0<=(wrap .i64 ((b:Int)+(a:Int)))))&&((decide ((wrap .i64 ((b:Int)+(a:Int)))<=(wrap .i64 ((b:Int)+(a:Int)))))&&((decide ((wrap .i64 ((b:Int)+(a:Int)))<=140737488355328))&&(decide (((wrap .i64 ((b:Int)+(a:Int)))*((4:Nat):Int))<=140737488355328))))) (q1 ((wrap .i64 ((b:Int)+(a:Int))).toNat) (b:Int) 0 (replicate ((wrap .i64 ((b:Int)+(a:Int))).toNat) (.int .u32 0))) none)
def UT(r0:Nat->LA->O R)(g:LA)(b:Nat)(d:Bool)(f:LA)(a:Nat)(c:Bool):O R:=ZG N r0 g b d f a c (Ou N r0 f a c g b d N)
def UU(r0:Nat->LA->O R)(q0:LA->Nat->LA->Nat->O R)(o:LA)(p:Nat)(q d:Bool)(r:LA)(s:Nat)(t c:Bool):O R:=(Cy N o p q d fun g b=>Cy N r s t c fun f a=>cond (((b:Int)==0)==false) (cond (cond false true ((a:Int)==0)) (r0 0 []) (q0 g b f a)) (r0 0 []))
def KT:=(Ai fun N o p q d r s t c r0=>UU (R:=R) N r0 (fun g b f a=>UT N r0 g b d f a c) o p q d r s t c).1
def KU(o p q d r s t c r0):(@KT R N o p q d r s t c r0)=(UU N r0 (fun g b f a=>UT N r0 g b d f a c) o p q d r s t c):=by rw[KT,(Ai _).2]
def um:Hints:={H:=hK 2 (hJ [0,1] hL (hK 1 (hS (hK 1 (hS (hP [1,5,29,30,31] (hK 2 (hS (hS (hK 3 (hS (hK 1 (hS (hP [1,5,6,7,8,29,30,31,38,39,40] hL) hL)) hL)) hL) hL))) hL)) hL))),nils:=[(4,1)],modes:=[(2,1)]}
def Gr:=Aut (Nj N) (cH N) (Eq.refl 180)
def Aa1:Ru:=[Gr N]
def gh(F:KF R):=J7 Tryz.f131 um (Aa1 N) [] N F
def Aic(f:LA)(a:Nat)(c:Bool)(i:Nat)(h l:Int)(g:LA)(b:Nat)(d:Bool)(j:Int)(K:St->O R):=fun w x m u=>K ⟨[(1,.imm f a 1 false c),(5,A6q 0 i),(6,iv h),(7,.int .u32 l),(8,.int .u64 w),(29,.imm g b 1 false d),(30,iv j),(31,iv h),(38,.imm f a 1 false c),(39,iv x),(40,iv m)],hq [bQ 1 u]⟩
def gi(f:LA)(a:Nat)(c:Bool)(g:LA)(b:Nat)(d:Bool)(K:St->O R):=fun i j h v=>K ⟨[(1,.imm f a 1 false c),(5,A6q 0 i),(29,.imm g b 1 false d),(30,iv j),(31,iv h)],hq [bQ 1 v]⟩
def Aid(g:LA)(b:Nat)(d:Bool)(f:LA)(a:Nat)(c:Bool)(K:St->O R):=K ⟨[(0,.imm g b 1 false d),(1,.imm f a 1 false c)],[]⟩
def xY Q1 (F:KF R) (f a c i h l g b d j):∀ n,Aic f a c i h l g b d j (Au (gh N F (pz 91553596740) [Q1]) n)=(Uk N (gi f a c g b d Q1) (Cw F) f a c i h l g b d j n):=Gn fun n e=>(B5 (KS N (gi f a c g b d Q1) (Cw F) f a c i h l g b d j) e:_)
def xZ(F:KF R)(f a c g b d):∀ n,gi f a c g b d (Au (gh N F (pz 21828) []) n)=(Ou N (Cw F) f a c g b d n):=Gn fun n e=>(KH (AY N (Cw F) f a c g b d) e (Ad3 fun i h l j=>(lW ..).trans ((xY ..).trans (ot (Uk _ · _ _ _ _ _ _ _ _ _ _ _ _) e))):_)
def x9(F:KF R)(g b d f a c):Aid g b d f a c (A2 (gh N F (pz 85) []))=(UT N (Cw F) g b d f a c):=(B5 (ZG N (Cw F) g b d f a c) ((lW ..).trans (xZ ..)):_)
def cP:=B9 N 131 (Aa1 N) um (fun
|[.imm o p 1 q d,.imm r s 1 t c],[]=>some fun _ k=>KT N o p q d r s t c (Cw k)
| _,_=>none) fun _ _=>by split;intro R F;exact(B5 (UU N (Cw F) · _ _ _ _ _ _ _ _) (Ad3 fun g b f a=>(jW ..).trans (x9 ..)):_).trans (KU ..).symm;trivial
def x_(a:LA)(c:Bool)(b:LA)(d:Bool)(r0:Bool->Nat->LA->O R):O R:=(DD a fun g=>DD b fun h=>Bq 1 (a.drop 1) fun i j=>Bq 1 (b.drop 1) fun l m=>KT N i j false c l m false d fun e f=>L8 N (!(g==h)) e f fun n=>r0 n e f)
def RE:=(Ai (@x_ R)).1
def pH:@RE R=@x_ R:=(Ai _).2
def pI:=B9 N 119 [cP N,DH N] Eh (fun
|[.pagg a c,.pagg b d],[]=>some fun _ k=>RE N a c b d (Aoc k)
| _,_=>none) fun _ _=>by split;intro R F;dsimp only;rw[pH];kernel_rfl;trivial
def pJ(c:LA)(d:Nat)(e b:Bool)(r0:Nat->LA->O R):O R:=(Cy N c d e b fun f a=>cond ((decide (0<=(a:Int)))&&((decide ((a:Int)<=(a:Int)))&&((decide ((a:Int)<=140737488355328))&&(decide (((a:Int)*((4:Nat):Int))<=140737488355328))))) (cond ((!b)||(A9 f)) (r0 a (Dd (replicate a (.int .u32 0)) 0 (f.take ((min a a)*1)))) none) none)
def DJ:=(Ai (@pJ R)).1
def jx:@DJ R=@pJ R:=(Ai _).2
def UV:=B9 N 182 [Nj N] Alj (fun
|[.imm c d 1 e b],[]=>some fun _ k=>DJ N c d e b (Cw k)
| _,_=>none) fun _ _=>by split;intro R F;dsimp only;rw[jx];kernel_rfl;trivial
def pK(a:LA)(b:Bool)(r0:Bool->Nat->LA->O R):O R:=(DD a fun e=>Bq 1 (a.drop 1) fun f g=>DJ N f g false b fun c d=>L8 N e c d fun h=>r0 h c d)
def nT:=(Ai (@pK R)).1
def jy:@nT R=@pK R:=(Ai _).2
def Aie:=B9 N 181 [UV N,DH N] Eh (fun
|[.pagg a b],[]=>some fun _ k=>nT N a b (Aoc k)
| _,_=>none) fun _ _=>by split;intro R F;dsimp only;rw[jy];kernel_rfl;trivial
def Mq(N:Nat)(r0:Int->O R)(f:LA)(a:Nat)(b:Bool)(g:LA)(c:Nat)(d:Bool)(k0:Int->O R)(h:Int):O R:=(cond (decide (h>=0)) (cond (Ac h a) (Aq .u32 (f.drop (h.toNat*1)) fun q=>cond (Ac h c) (Aq .u32 (g.drop (h.toNat*1)) fun r=>cond (decide (q<r)) (r0 (-1)) (cond (Ac h a) (Aq .u32 (f.drop (h.toNat*1)) fun s=>cond (Ac h c) (Aq .u32 (g.drop (h.toNat*1)) fun t=>cond (decide (s>t)) (r0 1) (k0 (wrap .i64 (h - 1)))) none) none)) none) none) (r0 0))
def Fd(r0:Int->O R)(f:LA)(a:Nat)(b:Bool)(g:LA)(c:Nat)(d:Bool):Nat->Int->O R
|0=>fun _=>none
|n+1=>Mq N r0 f a b g c d (Fd r0 f a b g c d n)
def R9(r0:Int->O R)(q0:LA->Nat->LA->Nat->Int->O R)(i:LA)(j:Nat)(l b:Bool)(m:LA)(o:Nat)(p d:Bool):O R:=(Cy N i j l b fun f a=>Cy N m o p d fun g c=>cond ((a:Int) != (c:Int)) (cond (decide ((a:Int)<(c:Int))) (r0 (-1)) (r0 1)) (q0 f a g c (wrap .i64 ((a:Int) - 1))))
def Ek:=(Ai fun N i j l b m o p d r0=>R9 (R:=R) N r0 (fun f a g c=>Fd N r0 f a b g c d N) i j l b m o p d).1
def DK(i j l b m o p d r0):(@Ek R N i j l b m o p d r0)=(R9 N r0 (fun f a g c=>Fd N r0 f a b g c d N) i j l b m o p d):=by rw[Ek,(Ai _).2]
def N':Ru:=[Nj N]
def gj(F:KF R):=J7 Tryz.f128 ui (N' N) [] N F
def gk(f:LA)(a:Nat)(b:Bool)(g:LA)(c:Nat)(d:Bool)(K:St->O R):=fun h=>K ⟨[(0,.imm f a 1 false b),(1,.imm g c 1 false d),(5,iv h)],[]⟩
def VO(F:KF R)(f a b g c d):∀ n,gk f a b g c d (Au (gj N F (pz 5444) []) n)=(Fd N (Ha F) f a b g c d n):=Gn fun n e=>(B5 (Mq N (Ha F) f a b g c d) e:_)
def Ln:=B9 N 128 (N' N) ui (fun
|[.imm i j 1 l b,.imm m o 1 p d],[]=>some fun _ k=>Ek N i j l b m o p d (Ha k)
| _,_=>none) fun _ _=>by split;intro R F;exact(B5 (R9 N (Ha F) · _ _ _ _ _ _ _ _) (Ad3 fun f a g c=>(lW ..).trans (VO ..)):_).trans (DK ..).symm;trivial
def Fe(N:Nat)(r0:Int->O R)(b c:Int):O R:=(cond (decide (b>=256)) (cond (Ac (wrap .u8 (Int.fdiv b (2 ^ 8))) 256) (r0 (wrap .i64 ((wrap .i64 (c+8))+(wrap .i64 ((UInt8.toNat (List.getD ([0,1,2,2,3,3,3,3,4,4,4,4,4,4,4,4,5,5,5,5,5,5,5,5,5,5,5,5,5,5,5,5,6,6,6,6,6,6,6,6,6,6,6,6,6,6,6,6,6,6,6,6,6,6,6,6,6,6,6,6,6,6,6,6,7,7,7,7,7,7,7,7,7,7,7,7,7,7,7,7,7,7,7,7,7,7,7,7,7,7,7,7,7,7,7,7,7,7,7,7,7,7,7,7,7,7,7,7,7,7,7,7,7,7,7,7,7,7,7,7,7,7,7,7,7,7,7,7,8,8,8,8,8,8,8,8,8,8,8,8,8,8,8,8,8,8,8,8,8,8,8,8,8,8,8,8,8,8,8,8,8,8,8,8,8,8,8,8,8,8,8,8,8,8,8,8,8,8,8,8,8,8,8,8,8,8,8,8,8,8,8,8,8,8,8,8,8,8,8,8,8,8,8,8,8,8,8,8,8,8,8,8,8,8,8,8,8,8,8,8,8,8,8,8,8,8,8,8,8,8,8,8,8,8,8,8,8,8,8,8,8,8,8,8,8,8,8,8,8,8,8,8,8,8,8,8]:Lu) ((wrap .u8 (Int.fdiv b (2 ^ 8))).toNat) 0):Nat):Int))))) none) (cond (Ac (wrap .u8 b) 256) (r0 (wrap .i64 (c+(wrap .i64 ((UInt8.toNat (List.getD ([0,1,2,2,3,3,3,3,4,4,4,4,4,4,4,4,5,5,5,5,5,5,5,5,5,5,5,5,5,5,5,5,6,6,6,6,6,6,6,6,6,6,6,6,6,6,6,6,6,6,6,6,6,6,6,6,6,6,6,6,6,6,6,6,7,7,7,7,7,7,7,7,7,7,7,7,7,7,7,7,7,7,7,7,7,7,7,7,7,7,7,7,7,7,7,7,7,7,7,7,7,7,7,7,7,7,7,7,7,7,7,7,7,7,7,7,7,7,7,7,7,7,7,7,7,7,7,7,8,8,8,8,8,8,8,8,8,8,8,8,8,8,8,8,8,8,8,8,8,8,8,8,8,8,8,8,8,8,8,8,8,8,8,8,8,8,8,8,8,8,8,8,8,8,8,8,8,8,8,8,8,8,8,8,8,8,8,8,8,8,8,8,8,8,8,8,8,8,8,8,8,8,8,8,8,8,8,8,8,8,8,8,8,8,8,8,8,8,8,8,8,8,8,8,8,8,8,8,8,8,8,8,8,8,8,8,8,8,8,8,8,8,8,8,8,8,8,8,8,8,8,8,8,8,8,8]:Lu) ((wrap .u8 b).toNat) 0):Nat):Int))))) none))
def Ov(N:Nat)(r0:Int->O R)(q0:Int->Int->O R)(a:Int):O R:=(cond (decide (a>=65536)) (q0 (Int.fdiv a (2 ^ 16)) 16) (q0 a 0))
def Lo:=(Ai fun N a r0=>Ov (R:=R) N r0 (Fe N r0) a).1
def X2(a r0):(@Lo R N a r0)=(Ov N r0 (Fe N r0) a):=by rw[Lo,(Ai _).2]
def AZ:Hints:={H:=hK 1 (hJ [0,2] hL hL)}
def ZH(F:KF R):=J7 Tryz.f223 AZ [] [] N F
def ZI(K:St->O R):=fun b c=>K ⟨[(0,.int .u32 b),(2,iv c)],[]⟩
def PM(F:KF R):ZI (A2 (ZH N F (pz 21) []))=(Fe N (Ha F)):=by kernel_rfl
def cQ:=B9 N 223 [] AZ (fun
|[.int .u32 a],[]=>some fun _ k=>Lo N a (Ha k)
| _,_=>none) fun _ _=>by split;intro R F;exact(B5 (Ov N (Ha F) · _) ((jW ..).trans (PM ..)):_).trans (X2 ..).symm;trivial
def Hz(a:Int)(r0:Int->O R):O R:=(Lo N a fun b=>r0 (wrap .i64 (32 - b)))
def Cn:=(Ai (@Hz R)).1
def Lp:@Cn R=@Hz R:=(Ai _).2
def Nl:=B9 N 241 [cQ N] Eh (fun
|[.int .u32 a],[]=>some fun _ k=>Cn N a (Ha k)
| _,_=>none) fun _ _=>by split;intro R F;dsimp only;rw[Lp];kernel_rfl;trivial
def A_(N:Nat)(c:Int)(b:LA)(a:Nat)(d e:Bool)(r0:Int->O R):O R:=(cond (decide (c<(a:Int))) (cond (Ac c a) (Aq .u32 (b.drop (c.toNat*1)) fun f=>r0 (wrap .u64 f)) none) (r0 0))
def L9:=(Ai (@A_ R)).1
def DL:@L9 R=@A_ R:=(Ai _).2
def gn(b:LA)(a:Nat)(d e:Bool)(F:KF R):Int->O R:=fun g=>F (.int .u64 g) [(100000,bN 0 [.imm b a 1 d e])]
def lk:=B9 N 250 [] Eh (fun
|[.int .i64 c,.optr 100000 0],[(100000,⟨false,false,false,false,0,[.imm b a 1 d e],false,none⟩)]=>some fun _ k=>L9 N c b a d e (gn b a d e k)
| _,_=>none) fun _ _=>by split;intro R F;dsimp only;rw[DL];kernel_rfl;trivial
def ZJ(b:LA)(c:Nat)(d e:Bool)(f a:Int)(r0:Int->O R):O R:=(L9 N (wrap .i64 (f - 1)) b c d e fun g=>L9 N (wrap .i64 (f - 2)) b c d e fun h=>cond (decide (a<0)) none (L9 N (wrap .i64 (f - 3)) b c d e fun i=>cond (decide ((wrap .i64 (32 - a))<0)) none (r0 (Rb .u64 (wrap .u64 ((Rb .u64 (wrap .u64 (g*2 ^ 32)) h)*2 ^ (min a.toNat 64))) (Int.fdiv i (2 ^ (min ((wrap .i64 (32 - a)).toNat) 64)))))))
def G_:=(Ai (@ZJ R)).1
def XG:@G_ R=@ZJ R:=(Ai _).2
def Aa2:=B9 N 242 [lk N] Eh (fun
|[.imm b c 1 d e,.int .i64 f,.int .i64 a],[]=>some fun _ k=>G_ N b c d e f a (Aar k)
| _,_=>none) fun _ _=>by split;intro R F;dsimp only;rw[XG];kernel_rfl;trivial
def Vm(N:Nat)(k0:Int->Int->Int->Int->Int->Int->Int->Int->Bool->O R)(r0:LA->O R)(m c s t u v:Int)(z:Bool):O R:=(cond (c==0) none (cond (c==0) none (k0 c (Int.tmod m c) s t (wrap .u64 (s+(wrap .u64 ((wrap .u64 (Int.tdiv m c))*t)))) u v (wrap .u64 (u+(wrap .u64 ((wrap .u64 (Int.tdiv m c))*v)))) (!z))))
def Jm(N:Nat)(r0:LA->O R)(k0:Int->Int->Int->Int->Int->Int->Int->Int->Bool->O R)(q1:Int->Int->Int->Int->Int->Int->Bool->O R)(w o x p aa y l q:Int)(r:Bool):O R:=(cond ((decide (o>=q))==true) (cond (cond true (decide ((wrap .u64 (w - o))>=(wrap .u64 (l+q)))) false) (q1 w o p aa l q r) (r0 [.int .u64 x,.int .u64 p,.int .u64 y,.int .u64 l,.bool r])) (r0 [.int .u64 x,.int .u64 p,.int .u64 y,.int .u64 l,.bool r]))
def El(r0:LA->O R):Nat->Int->Int->Int->Int->Int->Int->Int->Int->Bool->O R
|0=>fun _ _ _ _ _ _ _ _ _=>none
|n+1=>Jm N r0 (El r0 n) (Vm N (El r0 n) r0)
def DM(r0:LA->O R)(q0:Int->Int->Int->Int->Int->Int->Int->Int->Bool->O R)(b:LA)(a:Nat)(i d:Bool)(f:LA)(g:Nat)(j h:Bool):O R:=(cond (Ac (wrap .i64 ((a:Int) - 1)) a) (Aq .u32 (b.drop (((wrap .i64 ((a:Int) - 1)).toNat)*1)) fun ac=>Cn N ac fun ab=>G_ N b a false d (a:Int) ab fun ad=>G_ N f g false h (a:Int) ab fun ae=>q0 ad ae 0 1 0 0 0 1 false) none)
def BA:=(Ai fun N b a i d f g j h r0=>DM (R:=R) N r0 (El N r0 N) b a i d f g j h).1
def RF(b a i d f g j h r0):(@BA R N b a i d f g j h r0)=(DM N r0 (El N r0 N) b a i d f g j h):=by rw[BA,(Ai _).2]
def XH:Hints:={H:=hK 7 (hS (hS (hP [4,7,8,9,10,11,12,13,14,15] (hJ [4,7,8,10,11,13,14,15] hL hL)) hL) hL),modes:=[(3,0)]}
def cR:Ru:=[Nl N,Aa2 N]
def XI(F:KF R):=J7 Tryz.f225 XH (cR N) [] N F
def si(K:St->O R):=fun m c s t u v z=>K ⟨[(4,op 0),(7,.int .u64 m),(8,.int .u64 c),(10,.int .u64 s),(11,.int .u64 t),(13,.int .u64 u),(14,.int .u64 v),(15,.bool z)],hq [bQ 0 [.int .u64 0,.int .u64 0,.int .u64 0,.int .u64 0,.bool false]]⟩
def XJ(K:St->O R):=fun w o x p aa y l q r=>K ⟨[(4,op 0),(7,.int .u64 w),(8,.int .u64 o),(9,.int .u64 x),(10,.int .u64 p),(11,.int .u64 aa),(12,.int .u64 y),(13,.int .u64 l),(14,.int .u64 q),(15,.bool r)],hq [bQ 0 [.int .u64 0,.int .u64 0,.int .u64 0,.int .u64 0,.bool false]]⟩
def gp Q0 (F:KF R):si (A2 (XI N F (pz 5592321) [Q0]))=(Vm N (XJ Q0) (Cl F)):=by kernel_rfl
def gq(F:KF R):∀ n,XJ (Au (XI N F (pz 349520) []) n)=(El N (Cl F) n):=Gn fun n e=>(KH (Jm N (Cl F)) e ((jW ..).trans ((gp ..).trans (ot (Vm _ · _) e))):_)
def xa:=B9 N 225 (cR N) XH (fun
|[.imm b a 1 i d,.imm f g 1 j h],[]=>some fun _ k=>BA N b a i d f g j h (Cl k)
| _,_=>none) fun _ _=>by split;intro R F;exact(B5 (DM N (Cl F) · _ _ _ _ _ _ _ _) ((lW ..).trans (gq ..)):_).trans (RF ..).symm;trivial
def Jd(r0:Nat->Nat->LA->LA->O R)(c:LA)(a:Nat)(d f:Bool)(b:Int)(k0:Int->Int->LA->O R)(i g:Int)(h:LA):O R:=(cond (decide (g>=0)) (cond (Ac g a) (Aq .u32 (c.drop (g.toNat*1)) fun j=>cond ((wrap .u64 b)==0) none (cond (Ac g a) (cond ((beq 1 1)&&((ble ((0+(g.toNat*1))+1) h.length)&&(!false))) (cond ((wrap .u64 b)==0) none (k0 (Int.tmod (Rb .u64 (wrap .u64 (i*2 ^ 32)) (wrap .u64 j)) (wrap .u64 b)) (wrap .i64 (g - 1)) (h.set (0+(g.toNat*1)) (.int .u32 (wrap .u32 (wrap .u64 (Int.tdiv (Rb .u64 (wrap .u64 (i*2 ^ 32)) (wrap .u64 j)) (wrap .u64 b)))))))) none) none)) none) (AT N a h fun l=>Bx N i fun m o=>r0 l m h o))
def D4(r0:Nat->Nat->LA->LA->O R)(c:LA)(a:Nat)(d f:Bool)(b:Int):Nat->Int->Int->LA->O R
|0=>fun _ _ _=>none
|n+1=>Jd N r0 c a d f b (D4 r0 c a d f b n)
def Ow(N:Nat)(r0:Nat->Nat->LA->LA->O R)(q0:Int->Int->LA->O R)(c:LA)(a:Nat)(d f:Bool)(b:Int):O R:=(cond ((decide (0<=(a:Int)))&&((decide ((a:Int)<=(a:Int)))&&((decide ((a:Int)<=140737488355328))&&(decide (((a:Int)*((4:Nat):Int))<=140737488355328))))) (q0 0 (wrap .i64 ((a:Int) - 1)) (replicate a (.int .u32 0))) none)
def H4:=(Ai fun N c a d f b r0=>Ow (R:=R) N r0 (D4 N r0 c a d f b N) c a d f b).1
def X3(c a d f b r0):(@H4 R N c a d f b r0)=(Ow N r0 (D4 N r0 c a d f b N) c a d f b):=by rw[H4,(Ai _).2]
def BB:Hints:={H:=hK 3 (hS (hK 1 (hS (hP [0,1,4,6,7] hL) hL)) hL),nils:=[(4,1),(5,1)],modes:=[(2,1),(2,1)]}
def DN:Ru:=[cH N,H3 N]
def ZK(F:KF R):=J7 Tryz.f227 BB (DN N) [] N F
def ZL(c:LA)(a:Nat)(d f:Bool)(b:Int)(K:St->O R):=fun i g h=>K ⟨[(0,.imm c a 1 d f),(1,.int .u32 b),(4,A6q 0 a),(6,.int .u64 i),(7,iv g)],hq [bQ 1 h]⟩
def PN(F:KF R)(c a d f b):∀ n,ZL c a d f b (Au (ZK N F (pz 5444) []) n)=(D4 N (jt F) c a d f b n):=Gn fun n e=>(B5 (Jd N (jt F) c a d f b) e:_)
def cS:=B9 N 227 (DN N) BB (fun
|[.imm c a 1 d f,.int .u32 b],[]=>some fun _ k=>H4 N c a d f b (jt k)
| _,_=>none) fun _ _=>by split;intro R F;exact(B5 (Ow N (jt F) · _ _ _ _ _) ((lW ..).trans (PN ..)):_).trans (X3 ..).symm;trivial
def Sa(N:Nat)(r0:Nat->LA->O R)(c:LA)(a:Nat)(d f:Bool)(b:Int)(k0:Nat->Int->Int->Int->LA->O R)(h:Nat)(j l g:Int)(i:LA):O R:=(cond (decide (g<l)) (cond (Ac g a) (Aq .u32 (c.drop (g.toNat*1)) fun m=>cond (decide (b<0)) none (cond (Ac g h) (cond ((beq 1 1)&&((ble ((0+(g.toNat*1))+1) i.length)&&(!false))) (k0 h (Int.fdiv (Rb .u64 j (wrap .u64 ((wrap .u64 m)*2 ^ (min b.toNat 64)))) (2 ^ 32)) l (wrap .i64 (g+1)) (i.set (0+(g.toNat*1)) (.int .u32 (wrap .u32 (Rb .u64 j (wrap .u64 ((wrap .u64 m)*2 ^ (min b.toNat 64)))))))) none) none)) none) (cond (Ac (a:Int) h) (cond ((beq 1 1)&&((ble ((0+(a*1))+1) i.length)&&(!false))) (r0 h (i.set (0+(a*1)) (.int .u32 (wrap .u32 j)))) none) none))
def Iy(r0:Nat->LA->O R)(c:LA)(a:Nat)(d f:Bool)(b:Int):Nat->Nat->Int->Int->Int->LA->O R
|0=>fun _ _ _ _ _=>none
|n+1=>Sa N r0 c a d f b (Iy r0 c a d f b n)
def DO(N:Nat)(r0:Nat->LA->O R)(q0:Nat->Int->Int->Int->LA->O R)(c:LA)(a:Nat)(d f:Bool)(b:Int):O R:=(cond ((decide (0<=(wrap .i64 ((a:Int)+1))))&&((decide ((wrap .i64 ((a:Int)+1))<=(wrap .i64 ((a:Int)+1))))&&((decide ((wrap .i64 ((a:Int)+1))<=140737488355328))&&(decide (((wrap .i64 ((a:Int)+1))*((4:Nat):Int))<=140737488355328))))) (q0 ((wrap .i64 ((a:Int)+1)).toNat) 0 (a:Int) 0 (replicate ((wrap .i64 ((a:Int)+1)).toNat) (.int .u32 0))) none)
def Ul:=(Ai fun N c a d f b r0=>DO (R:=R) N r0 (Iy N r0 c a d f b N) c a d f b).1
def RG(c a d f b r0):(@Ul R N c a d f b r0)=(DO N r0 (Iy N r0 c a d f b N) c a d f b):=by rw[Ul,(Ai _).2]
def XK:Hints:={H:=hK 3 (hS (hK 1 (hS (hP [0,1,5,6,13,14,15] hL) hL)) hL),nils:=[(4,1)],modes:=[(2,1)]}
def sj(F:KF R):=J7 Tryz.f243 XK [] [] N F
def sk(c:LA)(a:Nat)(d f:Bool)(b:Int)(K:St->O R):=fun h j l g i=>K ⟨[(0,.imm c a 1 d f),(1,iv b),(5,A6q 0 h),(6,.int .u64 j),(13,.imm c a 1 d f),(14,iv l),(15,iv g)],hq [bQ 1 i]⟩
def gr(F:KF R)(c a d f b):∀ n,sk c a d f b (Au (sj N F (pz 5444) []) n)=(Iy N (Cw F) c a d f b n):=Gn fun n e=>(B5 (Sa N (Cw F) c a d f b) e:_)
def xb:=B9 N 243 [] XK (fun
|[.imm c a 1 d f,.int .i64 b],[]=>some fun _ k=>Ul N c a d f b (Cw k)
| _,_=>none) fun _ _=>by split;intro R F;exact(B5 (DO N (Cw F) · _ _ _ _ _) ((lW ..).trans (gr ..)):_).trans (RG ..).symm;trivial
def Ox(N:Nat)(r0:Int->LA->O R)(b c:Nat)(f j:Int)(d:LA)(a:Nat)(g h:Bool)(k4:Int->Int->Int->LA->O R)(t u o:Int)(r:LA):O R:=(cond (decide (o<u)) (cond (Ac o a) (Aq .u32 (d.drop (o.toNat*1)) fun y=>cond (Ac o c) (Aq .u32 (r.drop (b+(o.toNat*1))) fun z=>cond (Ac o c) (cond ((beq 1 1)&&((ble ((b+(o.toNat*1))+1) r.length)&&(!false))) (k4 (Int.fdiv (wrap .u64 (t+(wrap .u64 ((wrap .u64 z)+(wrap .u64 y))))) (2 ^ 32)) u (wrap .i64 (o+1)) (r.set (b+(o.toNat*1)) (.int .u32 (wrap .u32 (wrap .u64 (t+(wrap .u64 ((wrap .u64 z)+(wrap .u64 y))))))))) none) none) none) none) (cond (Ac f c) (Aq .u32 (r.drop (b+(f.toNat*1))) fun ag=>cond (Ac f c) (cond ((beq 1 1)&&((ble ((b+(f.toNat*1))+1) r.length)&&(!false))) (r0 (wrap .u32 (wrap .u64 (j - 1))) (r.set (b+(f.toNat*1)) (.int .u32 (wrap .u32 (ag+(wrap .u32 t)))))) none) none) none))
def H5(r0:Int->LA->O R)(b c:Nat)(f j:Int)(d:LA)(a:Nat)(g h:Bool):Nat->Int->Int->Int->LA->O R
|0=>fun _ _ _ _=>none
|n+1=>Ox N r0 b c f j d a g h (H5 r0 b c f j d a g h n)
def Jn(N:Nat)(r0:Int->LA->O R)(b c:Nat)(d:LA)(a:Nat)(g h:Bool)(f j:Int)(k3:Int->Int->Int->LA->O R)(q4:Int->Int->Int->LA->O R)(s v p:Int)(q:LA):O R:=(cond (decide (p<v)) (cond (Ac p a) (Aq .u32 (d.drop (p.toNat*1)) fun w=>cond (Ac p c) (Aq .u32 (q.drop (b+(p.toNat*1))) fun aa=>cond (Ac p c) (cond ((beq 1 1)&&((ble ((b+(p.toNat*1))+1) q.length)&&(!false))) (k3 (wrap .u64 ((Int.fdiv (wrap .u64 ((wrap .u64 (j*(wrap .u64 w)))+s)) (2 ^ 32))+(Int.fdiv (wrap .u64 ((wrap .u64 aa) - (wrap .u64 (wrap .u32 (wrap .u64 ((wrap .u64 (j*(wrap .u64 w)))+s)))))) (2 ^ 63)))) v (wrap .i64 (p+1)) (q.set (b+(p.toNat*1)) (.int .u32 (wrap .u32 (wrap .u64 ((wrap .u64 aa) - (wrap .u64 (wrap .u32 (wrap .u64 ((wrap .u64 (j*(wrap .u64 w)))+s)))))))))) none) none) none) none) (cond (Ac f c) (Aq .u32 (q.drop (b+(f.toNat*1))) fun x=>cond (Ac f c) (cond ((beq 1 1)&&((ble ((b+(f.toNat*1))+1) q.length)&&(!false))) (cond ((Int.fdiv (wrap .u64 ((wrap .u64 x) - s)) (2 ^ 63))==0) (r0 (wrap .u32 j) (q.set (b+(f.toNat*1)) (.int .u32 (wrap .u32 (wrap .u64 ((wrap .u64 x) - s)))))) (q4 0 (a:Int) 0 (q.set (b+(f.toNat*1)) (.int .u32 (wrap .u32 (wrap .u64 ((wrap .u64 x) - s))))))) none) none) none))
def Gf(r0:Int->LA->O R)(b c:Nat)(d:LA)(a:Nat)(g h:Bool)(f j:Int):Nat->Int->Int->Int->LA->O R
|0=>fun _ _ _ _=>none
|n+1=>Jn N r0 b c d a g h f j (Gf r0 b c d a g h f j n) (H5 N r0 b c f j d a g h N)
def Um(N:Nat)(r0:Int->LA->O R)(b c:Nat)(d:LA)(a:Nat)(g h:Bool)(f:Int)(i:LA)(q3:Int->Int->Int->Int->LA->O R)(j:Int):O R:=(q3 j 0 (a:Int) 0 i)
def Ez(r0:Int->LA->O R)(b c:Nat)(d:LA)(a:Nat)(g h:Bool)(f:Int)(i:LA)(j:Int):O R:=Um N r0 b c d a g h f i (fun j=>Gf N r0 b c d a g h f j N) j
def Up(N:Nat)(k0:Int->Int->Int->O R)(r0:Int->LA->O R)(b c:Nat)(d:LA)(a:Nat)(g h:Bool)(f l m:Int)(i:LA)(q2:Int->O R):O R:=(cond (Ac (wrap .i64 (f - 1)) a) (Aq .u32 (d.drop (((wrap .i64 (f - 1)).toNat)*1)) fun ab=>cond ((Int.fdiv (wrap .u64 (m+(wrap .u64 ab))) (2 ^ 32)) != 0) (q2 (wrap .u64 (l - 1))) (k0 f (wrap .u64 (l - 1)) (wrap .u64 (m+(wrap .u64 ab))))) none)
def Lq(k0:Int->Int->Int->O R)(r0:Int->LA->O R)(b c:Nat)(d:LA)(a:Nat)(g h:Bool)(f l m:Int)(i:LA):O R:=Up N k0 r0 b c d a g h f l m i (Ez N r0 b c d a g h f i)
def Uq(N:Nat)(r0:Int->LA->O R)(b c:Nat)(d:LA)(a:Nat)(g h:Bool)(i:LA)(k0:Int->Int->Int->O R)(q1:Int->Int->Int->O R)(q2:Int->Int->O R)(f l m:Int):O R:=(cond (((Int.fdiv l (2 ^ 32)) != 0)==false) (cond (Ac (wrap .i64 (f - 2)) a) (Aq .u32 (d.drop (((wrap .i64 (f - 2)).toNat)*1)) fun ah=>cond (Ac (wrap .i64 (f - 2)) c) (Aq .u32 (i.drop (b+(((wrap .i64 (f - 2)).toNat)*1))) fun ai=>cond (cond false true (decide ((wrap .u64 (l*(wrap .u64 ah)))>(Rb .u64 (wrap .u64 (m*2 ^ 32)) (wrap .u64 ai))))) (q1 f l m) (q2 f l)) none) none) (q1 f l m))
def E1(r0:Int->LA->O R)(b c:Nat)(d:LA)(a:Nat)(g h:Bool)(i:LA):Nat->Int->Int->Int->O R
|0=>fun _ _ _=>none
|n+1=>Uq N r0 b c d a g h i (E1 r0 b c d a g h i n) (fun f l m=>Lq N (E1 r0 b c d a g h i n) r0 b c d a g h f l m i) (fun f=>Ez N r0 b c d a g h f i)
def Vn(N:Nat)(r0:Int->LA->O R)(q0:Int->Int->Int->O R)(b c:Nat)(d:LA)(a:Nat)(g h:Bool)(i:LA):O R:=(cond (Ac (a:Int) c) (Aq .u32 (i.drop (b+(a*1))) fun ac=>cond (Ac (wrap .i64 ((a:Int) - 1)) c) (Aq .u32 (i.drop (b+(((wrap .i64 ((a:Int) - 1)).toNat)*1))) fun ad=>cond (Ac (wrap .i64 ((a:Int) - 1)) a) (Aq .u32 (d.drop (((wrap .i64 ((a:Int) - 1)).toNat)*1)) fun ae=>cond ((wrap .u64 ae)==0) none (cond (Ac (wrap .i64 ((a:Int) - 1)) a) (Aq .u32 (d.drop (((wrap .i64 ((a:Int) - 1)).toNat)*1)) fun af=>cond ((wrap .u64 af)==0) none (q0 (a:Int) (wrap .u64 (Int.tdiv (Rb .u64 (wrap .u64 ((wrap .u64 ac)*2 ^ 32)) (wrap .u64 ad)) (wrap .u64 ae))) (Int.tmod (Rb .u64 (wrap .u64 ((wrap .u64 ac)*2 ^ 32)) (wrap .u64 ad)) (wrap .u64 af)))) none)) none) none) none)
def Oy:=(Ai fun N b c d a g h i r0=>Vn (R:=R) N r0 (E1 N r0 b c d a g h i N) b c d a g h i).1
def G'(b c d a g h i r0):(@Oy R N b c d a g h i r0)=(Vn N r0 (E1 N r0 b c d a g h i N) b c d a g h i):=by rw[Oy,(Ai _).2]
def OA:Hints:={H:=hK 4 (hJ [0,1,5,7] (hS (hP [0,1,5,7,8] (hJ [0,1,5,7,8] hL hL)) hL) (hK 1 (hS (hK 1 (hS (hP [0,1,5,7,9,84,85,86] hL) hL)) (hK 4 (hS (hK 1 (hS (hP [0,5,7,9,134,135,136] hL) hL)) hL)))))}
def Lr(F:KF R):=J7 Tryz.f244 OA [] [100000] N F
def B6(F:KF R):Int->LA->O R:=fun aj ak=>F (.int .u32 aj) [(100000,bQ 1 ak)]
def lm(b c:Nat)(f j:Int)(d:LA)(a:Nat)(g h:Bool)(K:St->O R):=fun t u o r=>K ⟨[(0,.own 100000 b c),(5,iv f),(7,.int .u64 j),(9,.int .u64 t),(134,.imm d a 1 g h),(135,iv u),(136,iv o)],[(100000,bQ 1 r)]⟩
def lp(b c:Nat)(d:LA)(a:Nat)(g h:Bool)(f j:Int)(K:St->O R):=fun s v p q=>K ⟨[(0,.own 100000 b c),(1,.imm d a 1 g h),(5,iv f),(7,.int .u64 j),(9,.int .u64 s),(84,.imm d a 1 g h),(85,iv v),(86,iv p)],[(100000,bQ 1 q)]⟩
def lq(b c:Nat)(d:LA)(a:Nat)(g h:Bool)(f:Int)(i:LA)(K:St->O R):=fun j=>K ⟨[(0,.own 100000 b c),(1,.imm d a 1 g h),(5,iv f),(7,.int .u64 j)],[(100000,bQ 1 i)]⟩
def lw(b c:Nat)(d:LA)(a:Nat)(g h:Bool)(f l m:Int)(i:LA)(K:St->O R):=K ⟨[(0,.own 100000 b c),(1,.imm d a 1 g h),(5,iv f),(7,.int .u64 l),(8,.int .u64 m)],[(100000,bQ 1 i)]⟩
def Xo(b c:Nat)(d:LA)(a:Nat)(g h:Bool)(i:LA)(K:St->O R):=fun f l m=>K ⟨[(0,.own 100000 b c),(1,.imm d a 1 g h),(5,iv f),(7,.int .u64 l),(8,.int .u64 m)],[(100000,bQ 1 i)]⟩
def ZM(F:KF R)(b c f j d a g h):∀ n,lm b c f j d a g h (Au (Lr N F (pz 357913924) []) n)=(H5 N (B6 F) b c f j d a g h n):=Gn fun n e=>(B5 (Ox N (B6 F) b c f j d a g h) e:_)
def ZN(F:KF R)(b c d a g h f j):∀ n,lp b c d a g h f j (Au (Lr N F (pz 349508) []) n)=(Gf N (B6 F) b c d a g h f j n):=Gn fun n e=>(KH (Jn N (B6 F) b c d a g h f j) e ((lW ..).trans (ZM ..)):_)
def BC(F:KF R)(b c d a g h f i):lq b c d a g h f i (A2 (Lr N F (pz 1365) []))=(Ez N (B6 F) b c d a g h f i):=(B5 (Um N (B6 F) b c d a g h f i) (Aan fun j=>(lW ..).trans (ZN ..)):_)
def ZO Q0 (F:KF R) (b c d a g h f l m i):lw b c d a g h f l m i (A2 (Lr N F (pz 87297) [Q0]))=(Lq N (Xo b c d a g h i Q0) (B6 F) b c d a g h f l m i):=(B5 (Up N (Xo b c d a g h i Q0) (B6 F) b c d a g h f l m i) ((jW ..).trans (BC ..)):_)
def ZP(F:KF R)(b c d a g h i):∀ n,Xo b c d a g h i (Au (Lr N F (pz 5456) []) n)=(E1 N (B6 F) b c d a g h i n):=Gn fun n e=>(Auu (Uq N (B6 F) b c d a g h i) e (Aqx fun f l m=>(jW ..).trans ((ZO ..).trans (ot (Lq _ · _ _ _ _ _ _ _ _ _ _ _) e))) (Aan fun f=>(jW ..).trans (BC ..)):_)
def pL:=B9 N 244 [] OA (fun
|[.own 100000 b c,.imm d a 1 g h],[(100000,⟨false,false,true,false,1,i,false,none⟩)]=>some fun _ k=>Oy N b c d a g h i (B6 k)
| _,_=>none) fun _ _=>by split;intro R F;exact(B5 (Vn N (B6 F) · _ _ _ _ _ _ _) ((lW ..).trans (ZP ..)):_).trans (G' ..).symm;trivial
def Ib(r0:Nat->Bool->LA->O R)(b:Bool)(k0:LA->Nat->Int->Nat->LA->Nat->Int->Int->LA->O R)(o:LA)(m:Nat)(f:Int)(l:Nat)(p:LA)(q:Nat)(r d:Int)(g:LA):O R:=(cond (decide (d<r)) (cond (Ac d q) (Aq .u32 (p.drop (d.toNat*1)) fun s=>cond (decide ((wrap .i64 (d+1))<(m:Int))) (cond (Ac (wrap .i64 (d+1)) m) (Aq .u32 (o.drop (((wrap .i64 (d+1)).toNat)*1)) fun u=>cond (decide (f<0)) none (cond (Ac d l) (cond ((beq 1 1)&&((ble ((0+(d.toNat*1))+1) g.length)&&(!false))) (k0 o m f l p q r (wrap .i64 (d+1)) (g.set (0+(d.toNat*1)) (.int .u32 (wrap .u32 (Int.fdiv (Rb .u64 (wrap .u64 s) (wrap .u64 ((wrap .u64 u)*2 ^ 32))) (2 ^ (min f.toNat 64))))))) none) none)) none) (cond (decide (f<0)) none (cond (Ac d l) (cond ((beq 1 1)&&((ble ((0+(d.toNat*1))+1) g.length)&&(!false))) (k0 o m f l p q r (wrap .i64 (d+1)) (g.set (0+(d.toNat*1)) (.int .u32 (wrap .u32 (Int.fdiv (wrap .u64 s) (2 ^ (min f.toNat 64))))))) none) none))) none) (AT N l g fun v=>r0 v true g))
def C9(r0:Nat->Bool->LA->O R)(b:Bool):Nat->LA->Nat->Int->Nat->LA->Nat->Int->Int->LA->O R
|0=>fun _ _ _ _ _ _ _ _ _=>none
|n+1=>Ib N r0 b (C9 r0 b n)
def Nm(r0:Nat->Bool->LA->O R)(q0:LA->Nat->Int->Nat->LA->Nat->Int->Int->LA->O R)(h:LA)(i:Nat)(j b:Bool)(a:Int):O R:=(cond (decide (a<0)) (r0 0 false []) (Cy N h i j b fun t c=>cond (decide ((wrap .i64 (Int.tdiv a 32))>=(c:Int))) (r0 0 true []) (cond ((decide (0<=(wrap .i64 (Int.tdiv a 32))))&&((decide ((wrap .i64 (Int.tdiv a 32))<=(c:Int)))&&((decide ((c:Int)<=(c:Int)))&&(decide ((c:Int)<=(c:Int)))))) (cond ((decide (0<=(((c - ((wrap .i64 (Int.tdiv a 32)).toNat)):Nat):Int)))&&((decide ((((c - ((wrap .i64 (Int.tdiv a 32)).toNat)):Nat):Int)<=(((c - ((wrap .i64 (Int.tdiv a 32)).toNat)):Nat):Int)))&&((decide ((((c - ((wrap .i64 (Int.tdiv a 32)).toNat)):Nat):Int)<=140737488355328))&&(decide (((((c - ((wrap .i64 (Int.tdiv a 32)).toNat)):Nat):Int)*((4:Nat):Int))<=140737488355328))))) (q0 ((t.drop (((wrap .i64 (Int.tdiv a 32)).toNat)*1)).take ((c - ((wrap .i64 (Int.tdiv a 32)).toNat))*1)) (c - ((wrap .i64 (Int.tdiv a 32)).toNat)) (Int.tmod a 32) (c - ((wrap .i64 (Int.tdiv a 32)).toNat)) ((t.drop (((wrap .i64 (Int.tdiv a 32)).toNat)*1)).take ((c - ((wrap .i64 (Int.tdiv a 32)).toNat))*1)) (c - ((wrap .i64 (Int.tdiv a 32)).toNat)) (((c - ((wrap .i64 (Int.tdiv a 32)).toNat)):Nat):Int) 0 (replicate (c - ((wrap .i64 (Int.tdiv a 32)).toNat)) (.int .u32 0))) none) none)))
def Pv:=(Ai fun N h i j b a r0=>Nm (R:=R) N r0 (C9 N r0 b N) h i j b a).1
def Sb(h i j b a r0):(@Pv R N h i j b a r0)=(Nm N r0 (C9 N r0 b N) h i j b a):=by rw[Pv,(Ai _).2]
def HA:Hints:={H:=hK 7 (hS (hK 1 (hS (hP [0,6,7,29,30,31] hL) hL)) hL),nils:=[(4,1)],modes:=[(2,1),(0,0)]}
def OB:Ru:=[Gr N]
def gt(F:KF R):=J7 Tryz.f245 HA (OB N) [] N F
def gv(b:Bool)(K:St->O R):=fun o m f l p q r d g=>K ⟨[(0,.imm o m 1 false b),(6,iv f),(7,A6q 0 l),(29,.imm p q 1 false b),(30,iv r),(31,iv d)],hq [bQ 1 g]⟩
def VP(F:KF R)b:∀ n,gv b (Au (gt N F (pz 1398084) []) n)=(C9 N (g_ F) b n):=Gn fun n e=>(B5 (Ib N (g_ F) b) e:_)
def mA:=B9 N 245 (OB N) HA (fun
|[.imm h i 1 j b,.int .i64 a],[]=>some fun _ k=>Pv N h i j b a (g_ k)
| _,_=>none) fun _ _=>by split;intro R F;exact(B5 (Nm N (g_ F) · _ _ _ _ _) ((lW ..).trans (VP ..)):_).trans (Sb ..).symm;trivial
end
end Gx
namespace Gx
open Go Go.Proofs
section
variable{R:Type}
def fit(k N:Nat):Prop:=100*k+1000<=N/\k<=1000000000
def fit.le{j k N:Nat}(h:fit k N)(C:j<=k):fit j N:=⟨by have:=h.1;omega,by have:=h.2;omega⟩
def ct(x y:O R):cond true x y=x:=rfl
def cf(x y:O R):cond false x y=y:=rfl
def Aa3(x y:Bool):cond true x y=x:=rfl
def Av6(x y:Bool):cond false x y=y:=rfl
def Alm(c:Nat):((decide (((c+1:Nat):Int)>(0:Int)))==true)=true:=by simp
def Jo{j n:Nat}(h:j<n):decide ((j:Int)<(n:Int))=true:=by simp;omega
def Ki{j n:Nat}(h:n<=j):decide ((j:Int)<(n:Int))=false:=by simp;omega
def wS{j:Nat}(h:j<=1000000000000):wrap .i64 ((j:Int)+1)=((j+1:Nat):Int):=by rw[i64 (by omega)];omega
def wP{j:Nat}(h:j<=1000000000000):wrap .i64 (((j+1:Nat):Int) - 1)=(j:Int):=by rw[i64 (by omega)];omega
def wA{j k:Nat}(h:j+k<=1000000000000):wrap .i64 ((j:Int)+(k:Int))=((j+k:Nat):Int):=by rw[i64 (by omega)];omega
def PO{l:List Nat}{j:Nat}(h:j<l.length){f:Int->O R}:Aq .u32 (drop ((Int.toNat (j:Int))*1) (Ae l)) f=f (l[j]:Nat):=by rw[Axm,Ax4,Aav h]
def cT{l:List Nat}{j:Nat}(h:j<l.length){f:Int->O R}:Aq .u32 (drop (0+((Int.toNat (j:Int))*1)) (Ae l)) f=f (l[j]:Nat):=by rw[Ax0,PO h]
def App{c a:Nat}(h:c<=a):((decide ((0:Int)<=(0:Int)))&&((decide ((0:Int)<=(c:Int)))&&((decide ((c:Int)<=(a:Int)))&&(decide ((a:Int)<=(a:Int))))))=true:=by simp;omega
def Akd{n:Nat}(h:n<=1000000000000):((decide ((0:Int)<=(n:Int)))&&((decide ((n:Int)<=(n:Int)))&&((decide ((n:Int)<=(140737488355328:Int)))&&(decide (((n:Int)*((4:Nat):Int))<=(140737488355328:Int))))))=true:=by simp;omega
def uX{x:Nat}{m:List Nat}(h:x<m.length):((beq 1 1)&&((ble ((0+((Int.toNat (x:Int))*1))+1) (List.length (Ae m)))&&(!false)))=true:=by rw[Bp,Axm];simp;omega
def RH{x v:Nat}{m:List Nat}:List.set (Ae m) (0+((Int.toNat (x:Int))*1)) (.int .u32 (v:Int))=Ae (m.set x v):=by rw[Axm,Ax4,Ax0,cF]
def Aa4{l:List Nat}(h:Al l):l.take (Ao (val l)).length=Ao (val l):=by
 obtain⟨k,C⟩:=Bi h
 rw[congrArg (take (Ao (val l)).length) k,List.take_left]
def Ma{l:List Nat}(h:Al l):take ((Ao (val l)).length*1) (Ae l)=Ae (Ao (val l)):=by rw[Ax4,Uh,Aa4 h]
def A0{l:List Nat}{c:Nat}(h:c<l.length):val (l.take (c+1))=val (l.take c)+4294967296 ^ c*l[c]:=by rw[Ax5 h,Ad6,Ax6,Ayd (by omega)]
def xc{l:List Nat}{c:Nat}(k:Al l)(h:c<l.length)(C:l[c]≠0):Ao (val (l.take (c+1)))=l.take (c+1):=by
 apply Aq0 (Cg k _)
 intro D
 rw[A05]
 simp only[Ax6,Ayd (show c+1<=l.length by omega),A4k,Azs]
 exact C
def pM{N:Nat}{l:List Nat}{K:Nat->O R}(C:Al l)(hs:l.length<=1000000000000):∀(c fuel:Nat),c<=l.length->c<fuel ->
  Ui N K l.length (Ae l) fuel (c:Int)=K (Ao (val (l.take c))).length
|0,fuel+1,hc,_=>by
  rw[Ui];unfold KK
  rw[show decide (((0:Nat):Int)>0)=false by simp]
  rw[show((false:Bool)==true)=false by rfl,cf,App (by omega),ct,Axm];rfl
| c+1,fuel+1,hc,D=>by
  rw[Ui];unfold KK
  rw[Alm,ct,wP (by omega),Aa (by omega),ct,cT (by omega),Aa3,App (by omega),ct,pM C hs c fuel (by omega) (by omega),Axm]
  by_cases k:l[c]=0
  ·rw[A0 (by omega),k];simp
  ·rw[xc C (by omega) k,Ax6,Ayd hc]
   rw[show(((l[c]:Nat):Int)==0)=false by simp;exact k,cf]
def HB{N:Nat}{l:List Nat}{n:Nat}{K:Nat->O R}(hn:n=l.length)(C:Al l)(k:fit l.length N):AT N n (Ae l) K=K (Ao (val l)).length:=by
 subst hn
 have D:=k.1;have G:=k.2
 rw[ZD];unfold cG
 rw[pM C (by omega) l.length N (Axo _) (by omega),Ayk]
def uq{N:Nat}{l:List Nat}{t o:Bool}{K:LA->Nat->O R}(C:Al l)(hs:l.length<=1000000000000):∀(c fuel:Nat),c<=l.length->c<fuel ->
  Kh N K (Ae l) l.length t o fuel (c:Int)=K (Ae (Ao (val (l.take c)))) (Ao (val (l.take c))).length
|0,fuel+1,hc,_=>by
  rw[Kh];unfold Vl
  rw[show decide (((0:Nat):Int)>0)=false by simp]
  rw[show((false:Bool)==true)=false by rfl,cf,App (by omega),ct,Axm];rfl
| c+1,fuel+1,hc,D=>by
  rw[Kh];unfold Vl
  rw[Alm,ct,wP (by omega),Aa (by omega),ct,PO (by omega),Aa3,App (by omega),ct,uq C hs c fuel (by omega) (by omega),Axm,Ax4,Uh]
  by_cases k:l[c]=0
  ·rw[A0 (by omega),k];simp
  ·rw[xc C (by omega) k,Ax6,Ayd hc]
   rw[show(((l[c]:Nat):Int)==0)=false by simp;exact k,cf]
def Bt{N:Nat}{l:List Nat}{n:Nat}{t o:Bool}{K:LA->Nat->O R}(hn:n=l.length)(C:Al l)(k:fit l.length N):Cy N (Ae l) n t o K=K (Ae (Ao (val l))) (Ao (val l)).length:=by
 subst hn
 have D:=k.1;have G:=k.2
 rw[XB];unfold KM
 rw[uq C (by omega) l.length N (Axo _) (by omega),Ayk]
def Aif{N:Nat}{K:LA->O R}(hN:1<=N):GZ N K=K []:=by
 rw[XF];unfold KP
 cases N with
|zero=>omega
|succ N=>rw[R8];rfl
end
end Gx
namespace Gx
open Go Go.RowKit
section
variable{P:Program}{W:World}{H:Type}{enc:TypeId×Value->H}{β:Ch}{h:Ay}
def nU{t D:TypeId}{α:Type}{e:α->LA}{n:Nat}{a:Option Addr}{len cap:Nat}{d:DataW H}{p:List MemPlace}(C:P.underlying t=some (.slice D))(hc:P.cellsOf t=1)(G:Opens P D e n)
  (I:DataW.Trod enc P W 0 (fun _=>true) true t (.slice a len cap) d p):∃ l:List α,l.length<=maxLen/\Rep (fun _ k=>k<W.heap.size) β h W (.imm (l.flatMap e) l.length n false false) (.slice a len cap):=by
 obtain⟨fuel,L⟩:=I
 obtain⟨_,⟨l,T⟩,hr⟩:=(Aap C hc G).read enc W fuel _ _ _ L
 refine⟨l,T,?_⟩
 simp only[RepCs,Value.cells,and_true]at hr
 obtain⟨u,C,hr⟩:=hr
 simp at C;subst C
 rw[Rep];exact hr
def Ago{k:IntKind}{n:Int}:Rep (fun _ k=>k<W.heap.size) β h W (.int k n) (.int k n):=by rw[Rep]
def Aln:Reps (fun _ k=>k<W.heap.size) β h W [] []:=by rw[Reps]
def Z7{x:AV}{xs:LA}{v:Value}{vs:List Value}(C:Rep (fun _ k=>k<W.heap.size) β h W x v)(D:Reps (fun _ k=>k<W.heap.size) β h W xs vs):Reps (fun _ k=>k<W.heap.size) β h W (x::xs) (v::vs):=by rw[Reps];exact⟨v,vs,rfl,C,D⟩
end
end Gx
