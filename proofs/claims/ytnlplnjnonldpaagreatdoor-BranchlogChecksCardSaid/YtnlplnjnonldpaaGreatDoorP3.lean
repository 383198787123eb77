/- A part of the proof; each theorem says what it holds. -/
import Derived.Test.YtnlplnjnonldpaaGreatDoorRows
import Derived.ChangeSame
import Derived.Test.YtnlplnjnonldpaaGreatDoorP2
set_option linter.unusedVariables false
set_option linter.defProp false
set_option linter.unusedSimpArgs false
open Nat (ble beq)
open List (take drop replicate)
open Go.IntKind (wrap)
namespace Gx
open Go
mutual
def zN:AV→AV→Bool
 | .int k n,.int k' n'=>Jp k k'&&decide (n=n')
 | .bool b,.bool b'=>b==b'
 | .str s,.str s'=>s==s'
 | .nsl,.nsl=>true
 | .imm c n s t o,.imm c' n' s' t' o'=>beq n n'&&(beq s s'&&(t==t'&&(o==o'&&ZP c c')))
 | .iptr c o,.iptr c' o'=>o==o'&&ZP c c'
 | .pagg c o,.pagg c' o'=>o==o'&&ZP c c'
 | .own b f n,.own b' f' n'=>beq b b'&&(beq f f'&&beq n n')
 | .optr b f,.optr b' f'=>beq b b'&&beq f f'
 | .agg c,.agg c'=>ZP c c'
 | .tup c,.tup c'=>ZP c c'
 | .fn f c,.fn f' c'=>beq f f'&&ZP c c'
 | .nilptr,.nilptr=>true
 | .nilfn,.nilfn=>true
 | .undef,.undef=>true
 | .omap b,.omap b'=>beq b b'
 | _,_=>false
def ZP:List AV→List AV→Bool
 | [],[]=>true
 | x::r,y::q=>zN x y&&ZP r q
 | _,_=>false
end
mutual
theorem qS:∀ a b,zN a b=true→a=b:=by
 intro a b h
 cases a<;>cases b<;>simp only[zN,Ab6,Ae7,beq_iff_eq,Jp,decide_eq_true_eq,reduceCtorEq,Adx] at h
 case int.int=>rw[h.1,h.2]
 case bool.bool=>rw[h]
 case str.str=>rw[h]
 case nsl.nsl=>rfl
 case imm.imm=>rw[h.1,h.2.1,h.2.2.1,h.2.2.2.1,Tg _ _ h.2.2.2.2]
 case iptr.iptr=>rw[h.1,Tg _ _ h.2]
 case pagg.pagg=>rw[h.1,Tg _ _ h.2]
 case own.own=>rw[h.1,h.2.1,h.2.2]
 case optr.optr=>rw[h.1,h.2]
 case agg.agg=>rw[Tg _ _ h]
 case tup.tup=>rw[Tg _ _ h]
 case fn.fn=>rw[h.1,Tg _ _ h.2]
 case nilptr.nilptr=>rfl
 case nilfn.nilfn=>rfl
 case undef.undef=>rfl
 case omap.omap=>rw[h]
theorem Tg:∀ a b,ZP a b=true→a=b:=by
 intro a b h
 cases a<;>cases b<;>simp only[ZP,Ab6,Adx] at h
 ·rfl
 ·rw[qS _ _ h.1,Tg _ _ h.2]
end
def zO:Option (Nat×Nat)→Option (Nat×Nat)→Bool
 | none,none=>true
 | some (a,b),some (c,d)=>beq a c&&beq b d
 | _,_=>false
def z6 (x y:Blk):Bool:=x.dead==y.dead&&(x.sealed==y.sealed&&(x.pure==y.pure&&(x.taint==y.taint&&(beq x.sz y.sz&&(x.mp==y.mp&&(zO x.ty y.ty&&ZP x.cells y.cells))))))
def wL:Ao→Ao→Bool
 | [],[]=>true
 | (i,x)::r,(j,y)::q=>beq i j&&(z6 x y&&wL r q)
 | _,_=>false
theorem xH:∀ a b,zO a b=true→a=b:=by
 intro a b h
 match a,b,h with
 | none,none,_=>rfl
 | some (a,b),some (c,d),h=>simp only[zO,Ab6,Ae7] at h;rw[h.1,h.2]
 | none,some _,h=>cases h
 | some _,none,h=>simp[zO] at h
theorem xI (x y:Blk) (h:z6 x y=true):x=y:=by
 unfold z6 at h
 simp only[Ab6,Ae7,beq_iff_eq] at h
 obtain⟨e,i,j,k,m,q,b,d⟩:=h
 have:=xH _ _ b;have:=Tg _ _ d
 cases x;cases y;simp_all
theorem qT:∀ a b,wL a b=true→a=b:=by
 intro a
 induction a with
 | nil=>intro b h;cases b<;>simp[wL] at h ⊢
 | cons p r d =>
  intro b h
  cases b with
  | nil=>simp[wL] at h
  | cons q s =>
   obtain⟨i,x⟩:=p;obtain⟨j,y⟩:=q
   simp only[wL,Ab6,Ae7] at h
   rw[h.1,xI _ _ h.2.1,d _ h.2.2]
structure Pt where
 f:Nat
 args:List AV
 h:Ao
 res:AV
 h':Ao
def Jb (P:Program) (p:Pt):Prop:=lZ P p.f p.args p.h p.res p.h'
def oA (P:Program):List Pt→Prop
 | []=>True
 | p::r=>Jb P p∧oA P r
def FS (f:Nat) (a:LA) (h:Ao):List Pt→Option Pt
 | []=>none
 | p::r=>cond (beq p.f f&&(ZP p.args a&&wL p.h h)) (some p) (FS f a h r)
def uT {R:Type} (k:AV→Ao→O R) (alt:O R):Option Pt→O R
 | some p=>k p.res p.h'
 | none=>alt
def xJ (l:List Pt) (f:Nat) (t:Tw):Tw:=⟨fun {R} a h k=>uT k (t.runK a h k) (FS f a h l),fun {R} a h k=>by
 cases FS f a h l with
 | none=>exact t.eq a h k
 | some p=>rfl⟩
theorem ii {P:Program} {f:Nat} {a:LA} {h:Ao}:∀ {l:List Pt},oA P l→∀ {p},FS f a h l=some p→lZ P f a h p.res p.h'
 | [],_,p,e=>by simp[FS] at e
 | q::r,H,p,e=>by
  unfold FS at e
  cases b:beq q.f f&&(ZP q.args a&&wL q.h h) with
  | false=>rw[b] at e;exact ii H.2 e
  | true =>
   rw[b] at e
   simp only[cond_true,Ac0] at e
   subst e
   simp only[Ab6,Ae7] at b
   have:=Tg _ _ b.2.1;have:=qT _ _ b.2.2
   obtain⟨rfl,_,_⟩:=b
   subst_vars;exact H.1
theorem v6 {P:Program} {l:List Pt} (H:oA P l) {f:Nat} {t:Tw} (d:fb P f t):fb P f (xJ l f t):=by
 intro a h b h' e
 have e:uT (fun v h'=>some (v,h')) (t.runK a h fun v h'=>some (v,h')) (FS f a h l)=some (b,h'):=e
 cases hq:FS f a h l with
 | none=>rw[hq] at e;exact d a h b h' e
 | some p =>
  rw[hq] at e
  simp only[uT,Ac0,Af9] at e
  obtain⟨rfl,rfl⟩:=e
  exact ii H hq
def xg (P:Program) (muts:Nat→List Bool) (N:Nat) (l:List Pt) (fs:List (Nat×Hints)):Nat→List (Nat×Tw)
 | 0=>[]
 | d+1=>fs.map fun p=>(p.1,xJ l p.1 ⟨fun args h k=>iN P muts (xg P muts N l fs d) p.2 N p.1 args h k,fun args h k=>by rw[Xp,Xp];exact KZ ..⟩)
theorem uU {P:Program} (b:P.follows .mixedOrders=true) (muts:Nat→List Bool) (N:Nat) {l:List Pt} (H:oA P l) (fs:List (Nat×Hints)):∀ d,bS P (xg P muts N l fs d)
 | 0=>trivial
 | d+1=>by
  rw[xg]
  have key:∀ (q:List (Nat×Hints)),bS P (q.map fun p=>((p.1,xJ l p.1 ⟨fun args h k=>iN P muts (xg P muts N l fs d) p.2 N p.1 args h k,fun args h k=>by rw[Xp,Xp];exact KZ ..⟩):Nat×Tw)):=by
   intro q
   induction q with
   | nil=>trivial
   | cons p r e =>
    refine⟨v6 H ?_,e⟩
    intro args h i h' j
    exact DO (uU b muts N H fs d) b ((Xp ..).symm.trans j)
  exact key fs
def xK (f:Nat):List (Nat×Hints)→Hints
 | []=>⟨.leaf,[],[],[],[]⟩
 | p::r=>cond (beq p.1 f) p.2 (xK f r)
def XR (p:Pt):Option (AV×Ao)→Bool
 | some (v,h)=>zN p.res v&&wL p.h' h
 | none=>false
theorem R6 {P:Program} (b:P.follows .mixedOrders=true) {muts:Nat→List Bool} {N:Nat} {l:List Pt} (H:oA P l) {fs:List (Nat×Hints)} (d:Nat) {p:Pt}
  (e:XR p (iN P muts (xg P muts N l fs d) (xK p.f fs) N p.f p.args p.h fun v h=>some (v,h))=true):Jb P p:=by
 cases hq:iN P muts (xg P muts N l fs d) (xK p.f fs) N p.f p.args p.h fun v h=>some (v,h) with
 | none=>rw[hq] at e;cases e
 | some q =>
  rw[hq] at e
  obtain⟨v,h⟩:=q
  simp only[XR,Ab6] at e
  have:=qS _ _ e.1;have:=qT _ _ e.2
  subst_vars
  exact DO (uU b muts N H fs d) b ((Xp ..).symm.trans hq)
end Gx
namespace Gx
open Go Go.Proofs
theorem lK {P:Program} {p:Pt} {o:Option (AV×Ao)} (h:∀ v h',o=some (v,h')→lZ P p.f p.args p.h v h') (e:XR p o=true):Jb P p:=by
 cases hq:o with
 | none=>rw[hq] at e;cases e
 | some q =>
  rw[hq] at e
  obtain⟨v,h'⟩:=q
  simp only[XR,Ab6] at e
  have b:=qS _ _ e.1;have d:=qT _ _ e.2
  unfold Jb;rw[b,d]
  exact h _ _ hq
def xL (a:LA) (h:Ao):Option (AV×Ao):=match a,h with
 | [.str s,.str t],[]=>Oc 0 s t fun x y b=>some (.tup [.str x,.str y,.bool b],[])
 | _,_=>none
theorem v7 (a:LA) (h:Ao) (v:AV) (h':Ao) (b:xL a h=some (v,h')):lZ Tryz.prog 41 a h v h':=by
 refine fB 0 _ _ _ _ (show F4 0 a h (fun v h'=>some (v,h'))=some (v,h') from ?_)
 unfold xL at b;unfold F4
 split at b
 ·rw[Mi];exact b
 ·cases b
theorem lL {p:Pt} (b:p.f=41) (e:XR p (xL p.args p.h)=true):Jb Tryz.prog p:=lK (fun v h' d=>by rw[b];exact v7 _ _ _ _ d) e
def uV (a:LA) (h:Ao):Option (AV×Ao):=match a,h with
 | [.int .i64 n],[]=>L0 0 n fun x=>some (.str x,[])
 | _,_=>none
theorem uW (a:LA) (h:Ao) (v:AV) (h':Ao) (b:uV a h=some (v,h')):lZ Tryz.prog 116 a h v h':=by
 refine ZO 0 _ _ _ _ (show Fa 0 a h (fun v h'=>some (v,h'))=some (v,h') from ?_)
 unfold uV at b;unfold Fa
 split at b
 ·rw[Kv];exact b
 ·cases b
theorem QI {p:Pt} (b:p.f=116) (e:XR p (uV p.args p.h)=true):Jb Tryz.prog p:=lK (fun v h' d=>by rw[b];exact uW _ _ _ _ d) e
def uX (a:LA) (h:Ao):Option (AV×Ao):=match a,h with
 | [.str s],[]=>L1 0 s fun x=>some (.tup [.int .i64 x,.undef],[])
 | _,_=>none
theorem uY (a:LA) (h:Ao) (v:AV) (h':Ao) (b:uX a h=some (v,h')):lZ Tryz.prog 239 a h v h':=by
 refine strconv_Atoi_ok 0 _ _ _ _ (show Fb 0 a h (fun v h'=>some (v,h'))=some (v,h') from ?_)
 unfold uX at b;unfold Fb
 split at b
 ·rw[Kw];exact b
 ·cases b
theorem rN {p:Pt} (b:p.f=239) (e:XR p (uX p.args p.h)=true):Jb Tryz.prog p:=lK (fun v h' d=>by rw[b];exact uY _ _ _ _ d) e
def qU (a:LA) (h:Ao):Option (AV×Ao):=match a,h with
 | [.str s,.str t],[]=>Kf 0 s t fun n c=>some (.own 300000 0 n,[(300000,bQ 1 c)])
 | _,_=>none
theorem sd (a:LA) (h:Ao) (v:AV) (h':Ao) (b:qU a h=some (v,h')):lZ Tryz.prog 43 a h v h':=by
 refine T' 0 _ _ _ _ (show El 0 a h (fun v h'=>some (v,h'))=some (v,h') from ?_)
 unfold qU at b;unfold El
 split at b
 ·rw[Jo];exact b
 ·cases b
theorem oB {p:Pt} (b:p.f=43) (e:XR p (qU p.args p.h)=true):Jb Tryz.prog p:=lK (fun v h' d=>by rw[b];exact sd _ _ _ _ d) e
end Gx
namespace Gx
open Go Go.Proofs
set_option maxRecDepth 100000
set_option linter.unusedVariables false
def xu:Hints:={ H:=(hS hL (hS hL (hS hL (hS hL (hS hL (hS (hS hL (hS (hP [1,4,42,43,44] hL) hL)) (hS (hS hL (hS (hP [1,4,56,57,58] hL) hL)) (hS (hS hL (hS (hP [4,66,67,68] hL) hL)) hL)))))))) }
def xv:Hints:={ H:=(hS hL (hS hL (hS hL (hS hL (hS (hS (hP [0,2,5,6] hL) hL) hL))))),modes:=[(3,0),(0,0),(0,0)],cob:=[1000002,1000005] }
def z7:Hints:={ H:=hL }
def z8:Hints:={ H:=(hS hL (hS (hS hL (hS (hP [1,10,11,12] hL) hL)) (hS (hS hL (hS (hP [1,28,29,30] hL) hL)) (hS (hS hL (hS (hP [39,40,41] hL) hL)) hL)))) }
def z_:Hints:={ H:=hL }
def za:Hints:={ H:=hL }
def uZ:Hints:={ H:=hL }
def xw:Hints:={ H:=hL }
def zb:Hints:={ H:=hL }
def zc:Hints:={ H:=hL }
def zd:Hints:={ H:=hL }
def ze:Hints:={ H:=hL,modes:=[(3,0)] }
def xx:Hints:={ H:=hL }
def zf:Hints:={ H:=(hS hL (hS hL (hS hL (hS (hS hL (hS (hP [1,3,27,28,29] hL) hL)) hL)))) }
def zg:Hints:={ H:=(hS hL (hS hL (hS (hP [0,11,12,13] hL) hL))) }
def xy:Hints:={ H:=hL }
def xz:Hints:={ H:=(hS hL (hS (hS hL (hS (hP [0,13,14,15] hL) hL)) hL)) }
def zh:Hints:={ H:=hL,nils:=[(2,1)],modes:=[(2,1),(0,0)] }
def zi:Hints:={ H:=hL,modes:=[(3,0),(0,0)] }
def yA:Hints:={ H:=hL,modes:=[(3,0)] }
def zj:Hints:={ H:=hL,modes:=[(3,0)] }
def zk:Hints:={ H:=hL,modes:=[(3,0),(0,0)] }
def yB:Hints:={ H:=hL }
def wM:Hints:={ H:=hL }
def ij:Hints:={ H:=hL }
def wN:Hints:={ H:=hL }
def ik:Hints:={ H:=hL }
def yC:Hints:={ H:=(hS hL (hS hL (hS hL (hS hL (hS (hS hL (hS (hP [4,5,14] hL) hL)) hL))))) }
def yD:Hints:={ H:=(hS hL (hS hL (hS (hS hL (hS (hP [4,12,13,14] hL) hL)) hL))),nils:=[(2,1)],modes:=[(2,1),(0,0)] }
def yE:Hints:={ H:=(hS hL (hS hL (hS (hS hL (hS (hP [4,6,13,14,15] hL) hL)) hL))),modes:=[(3,0),(0,0)] }
def yF:Hints:={ H:=hL }
def yG:Hints:={ H:=hL,modes:=[(3,0)] }
def yH:Hints:={ H:=(hS hL (hS hL (hS (hS hL (hS (hP [0,1,5] hL) hL)) hL))) }
def yI:Hints:={ H:=hL,modes:=[(3,0)] }
def yJ:Hints:={ H:=hL,modes:=[(3,0),(3,0),(0,0)] }
def wO:Hints:={ H:=hL,modes:=[(3,0)] }
def u0:Hints:={ H:=hL,nils:=[(2,1)],modes:=[(2,1)] }
def wQ:Hints:={ H:=hL,nils:=[(3,1)],modes:=[(3,0),(1,1)] }
def QJ:Hints:={ H:=hL }
def il:Hints:={ H:=hL }
def yK:Hints:={ H:=hL }
def rO:Hints:={ H:=hL }
def yL:Hints:={ H:=(hS hL (hS hL (hS hL (hS (hS hL (hS (hP [4,20] hL) hL)) hL)))) }
def yM:Hints:={ H:=hL,modes:=[(3,0),(0,0)] }
def wR:Hints:={ H:=(hS hL (hS hL (hS (hS (hP [0,1] hL) hL) hL))),nils:=[(4,1)],modes:=[(2,1)] }
def wT:Hints:={ H:=(hS hL (hS hL (hS hL (hS hL (hS hL (hS hL (hS (hS hL (hS (hP [0,1,4,5,11] hL) hL)) hL))))))),nils:=[(4,1),(5,1)],modes:=[(2,1),(2,1),(0,0)] }
def u4:Hints:={ H:=(hS hL (hS hL (hS (hS (hP [0,3] hL) hL) hL))),nils:=[(2,1)],modes:=[(2,1)] }
def QK:Hints:={ H:=(hS hL (hS hL (hS hL (hS (hS hL (hS (hP [0,1,5] hL) hL)) hL)))) }
def rP:Hints:={ H:=hL,modes:=[(3,0)] }
def yN:Hints:={ H:=hL }
def wU:Hints:={ H:=hL }
def QL:Hints:={ H:=hL }
def wV:Hints:={ H:=hL }
def wW:Hints:={ H:=hL,modes:=[(3,0),(0,0)] }
def wX:Hints:={ H:=(hS hL (hS hL (hS hL (hS hL (hS (hS hL (hS (hP [0,4,5] hL) hL)) hL))))) }
def Yt:Hints:={ H:=(hS hL (hS hL (hS (hS (hP [0,3] hL) hL) hL))),nils:=[(2,1)],modes:=[(2,1)] }
def rQ:Hints:={ H:=hL }
def rR:Hints:={ H:=(hS hL (hS hL (hS hL (hS hL (hS (hS (hP [0,1,4,5,6,7] hL) hL) hL))))),modes:=[(3,0)] }
def yO:Hints:={ H:=hL }
def QM:Hints:={ H:=hL }
def FT:Hints:={ H:=hL,nils:=[(2,1)],modes:=[(2,1)] }
def wY:Hints:={ H:=hL }
def yP:Hints:={ H:=hL }
def yQ:Hints:={ H:=(hS hL (hS hL (hS (hS hL (hS (hP [3,7] hL) hL)) hL))) }
def yR:Hints:={ H:=hL,modes:=[(3,0),(0,0)],cob:=[2,3] }
def u5:Hints:={ H:=(hS hL (hS hL (hS hL (hS hL (hS (hS (hP [0,2,3,4,5] hL) hL) hL))))),modes:=[(3,0)] }
def XS:Hints:={ H:=hL }
def rS:Hints:={ H:=hL,nils:=[(2,1)],modes:=[(2,1)] }
def rT:Hints:={ H:=hL,nils:=[(4,1),(5,1)],modes:=[(2,1),(2,1),(0,0)] }
def io:Hints:={ H:=(hS hL (hS hL (hS hL (hS hL (hS (hS (hP [3,4,5] hL) hL) (hS hL (hS hL (hS (hS hL (hS (hP [5,11,42,43] hL) hL)) hL)))))))),nils:=[(5,1)] }
def yS:Hints:={ H:=hL }
def yT:Hints:={ H:=hL }
def u6:Hints:={ H:=hL }
def yU:Hints:={ H:=(hS hL (hS (hS hL (hS (hP [0,6] hL) hL)) hL)) }
def fD:Hints:={ H:=(hS hL (hS hL (hS (hS (hP [1,2,4,5] hL) hL) hL))) }
def wZ:Hints:={ H:=hL }
def w8:Hints:={ H:=hL }
def u7:Hints:={ H:=hL }
def XT:Hints:={ H:=(hS hL (hS hL (hS (hS hL (hS (hP [3,6,7,8] hL) hL)) hL))) }
def rU:Hints:={ H:=hL }
def rV:Hints:={ H:=hL,modes:=[(3,0),(3,0),(0,0)] }
def rW:Hints:={ H:=hL }
def u9:Hints:={ H:=hL }
def w9:Hints:={ H:=(hS hL (hS hL (hS hL (hS hL (hS hL (hS (hS hL (hS (hP [0,1,5,6,24,25,26] hL) hL)) hL)))))),nils:=[(4,1)],modes:=[(2,1)] }
def u_:Hints:={ H:=(hS hL (hS hL (hS hL (hS hL (hS (hS hL (hS (hP [1,5,29,30,31] (hS hL (hS hL (hS (hS (hS hL (hS hL (hS hL (hS (hS hL (hS (hP [1,5,6,7,8,29,30,31,38,39,40] hL) hL)) hL)))) hL) hL)))) hL)) hL))))),nils:=[(4,1)],modes:=[(2,1)] }
def ua:Hints:={ H:=hL }
def Aa2:Pt:=⟨174,[.imm [.int .u32 3] 1 1 false false,.imm [.int .u32 4] 1 1 false false],[],.own 300000 0 1,[(300000,⟨false,false,true,false,1,[.int .u32 1],false,none⟩)]⟩
theorem Abm:Jb Tryz.prog Aa2:=R6 follows (muts:=muts) (N:=1000000) (l:=[]) trivial (fs:=[(135,u0),(174,wR),(175,wT),(179,u4),(197,wX)]) 5 (by kernel_rfl)
def Aa3:Pt:=⟨87,[.pagg [.bool false,.imm [.int .u32 3] 1 1 false false] false,.pagg [.bool false,.imm [.int .u32 4] 1 1 false false] false],[],.pagg [.bool false,.imm [.int .u32 3] 1 1 false false,.imm [.int .u32 4] 1 1 false false] false,[]⟩
theorem Abn:Jb Tryz.prog Aa3:=R6 follows (muts:=muts) (N:=1000000) (l:=[Aa2]) ⟨Abm,trivial⟩ (fs:=[(87,yA),(127,yF),(129,yG),(130,yH),(131,yI),(132,yJ),(134,wO),(135,u0),(174,wR),(175,wT),(179,u4),(197,wX)]) 6 (by kernel_rfl)
def Aa4:Pt:=⟨116,[iv 0],[],.str [48],[]⟩
theorem Abo:Jb Tryz.prog Aa4:=QI (by kernel_rfl) (by kernel_rfl)
def Aa5:Pt:=⟨116,[iv 1],[],.str [49],[]⟩
theorem Abp:Jb Tryz.prog Aa5:=QI (by kernel_rfl) (by kernel_rfl)
def xM:Pt:=⟨238,[.pagg [.bool false,.imm [.int .u32 10] 1 1 false true] true,iv 9],[],.agg [.bool false,.own 300000 0 1],[(300000,⟨false,false,true,false,1,[.int .u32 1000000000,.int .u32 0],false,none⟩)]⟩
theorem xh:Jb Tryz.prog xM:=R6 follows (muts:=muts) (N:=1000000) (l:=[]) trivial (fs:=[(189,QL),(203,Yt),(212,QM),(213,FT),(238,fD),(241,u7),(262,u_)]) 5 (by kernel_rfl)
def zl:Pt:=⟨116,[iv 3],[],.str [51],[]⟩
theorem Aa6:Jb Tryz.prog zl:=QI (by kernel_rfl) (by kernel_rfl)
def Aa7:Pt:=⟨232,[.pagg [.bool false,.imm [.int .u32 3] 1 1 false false] true],[],.str [51],[]⟩
theorem Abq:Jb Tryz.prog Aa7:=R6 follows (muts:=muts) (N:=1000000) (l:=[xM,zl]) ⟨xh,Aa6,trivial⟩ (fs:=[(40,uZ),(116,ij),(118,ik),(159,QJ),(161,il),(183,QK),(189,QL),(203,Yt),(212,QM),(213,FT),(227,XS),(229,rS),(231,rT),(232,io),(238,fD),(246,XT),(251,rU),(252,rV),(253,rW)]) 6 (by kernel_rfl)
def zm:Pt:=⟨116,[iv 4],[],.str [52],[]⟩
theorem Aa8:Jb Tryz.prog zm:=QI (by kernel_rfl) (by kernel_rfl)
def Aa9:Pt:=⟨232,[.pagg [.bool false,.imm [.int .u32 4] 1 1 false true] true],[],.str [52],[]⟩
theorem Abr:Jb Tryz.prog Aa9:=R6 follows (muts:=muts) (N:=1000000) (l:=[xM,zm]) ⟨xh,Aa8,trivial⟩ (fs:=[(40,uZ),(116,ij),(118,ik),(159,QJ),(161,il),(183,QK),(189,QL),(203,Yt),(212,QM),(213,FT),(227,XS),(229,rS),(231,rT),(232,io),(238,fD),(246,XT),(251,rU),(252,rV),(253,rW)]) 6 (by kernel_rfl)
def Aba:Pt:=⟨163,[.pagg [.bool false,.imm [.int .u32 3] 1 1 false false,.imm [.int .u32 4] 1 1 false false] true],[],.str [51,47,52],[]⟩
theorem Abs:Jb Tryz.prog Aba:=R6 follows (muts:=muts) (N:=1000000) (l:=[Aa7,Aa9]) ⟨Abq,Abr,trivial⟩ (fs:=[(159,QJ),(163,rO),(183,QK),(186,rP),(188,wU),(189,QL),(190,wV),(203,Yt),(208,rQ),(209,rR),(212,QM),(213,FT),(214,wY),(227,XS),(232,io),(246,XT)]) 7 (by kernel_rfl)
def yV:Pt:=⟨116,[iv 2],[],.str [50],[]⟩
theorem zn:Jb Tryz.prog yV:=QI (by kernel_rfl) (by kernel_rfl)
def yW:Pt:=⟨78,[.optr 100000 0,.str [98,111,117,110,100],.imm [iv 2,.bool false,.imm [.int .u32 3] 1 1 false false,.imm [.int .u32 4] 1 1 false false] 1 4 false true],[(100000,⟨false,false,false,false,0,[.optr 100000 0,.own 100001 0 10,.bool false],false,some (113,3)⟩),(100001,⟨false,false,true,false,1,[.int .u8 108,.int .u8 111,.int .u8 103,.int .u8 32,.int .u8 48,.int .u8 32,.int .u8 48,.int .u8 32,.int .u8 49,.int .u8 10],false,some (5,0)⟩)],.tup [],[(100000,⟨false,false,false,false,0,[.optr 100000 0,.own 300000 0 22,.bool false],false,some (113,3)⟩),(300000,⟨false,false,true,false,1,[.int .u8 108,.int .u8 111,.int .u8 103,.int .u8 32,.int .u8 48,.int .u8 32,.int .u8 48,.int .u8 32,.int .u8 49,.int .u8 10,.int .u8 98,.int .u8 111,.int .u8 117,.int .u8 110,.int .u8 100,.int .u8 32,.int .u8 50,.int .u8 58,.int .u8 51,.int .u8 47,.int .u8 52,.int .u8 10],false,some (5,0)⟩)]⟩
theorem zo:Jb Tryz.prog yW:=R6 follows (muts:=muts) (N:=1000000) (l:=[Aba,yV]) ⟨Abs,zn,trivial⟩ (fs:=[(77,xy),(78,xz),(116,ij),(117,wN),(118,ik),(119,yC),(161,il),(162,yK),(163,rO),(186,rP),(187,yN),(203,Yt),(208,rQ),(209,rR),(211,yO),(213,FT),(227,XS),(246,XT)]) 8 (by kernel_rfl)
def yX:Pt:=⟨11,[.pagg [.nsl,.nsl,.imm [iv 1,iv 0,iv 0,iv 0,.imm [iv 2,.bool false,.imm [.int .u32 3] 1 1 false false,.imm [.int .u32 4] 1 1 false false] 1 4 false false] 1 5 false true] true],[],.tup [.str [108,111,103,32,48,32,48,32,49,10,98,111,117,110,100,32,50,58,51,47,52,10],iv 0],[]⟩
theorem zp:Jb Tryz.prog yX:=R6 follows (muts:=muts) (N:=1000000) (l:=[Aa4,Aa5,yW]) ⟨Abo,Abp,zo,trivial⟩ (fs:=[(11,xu),(36,z8),(37,z_),(39,za),(40,uZ),(73,xx),(75,zf),(76,zg),(77,xy),(78,xz),(98,zk),(114,yB),(115,wM),(116,ij),(117,wN),(118,ik),(158,wQ),(159,QJ),(161,il),(183,QK),(203,Yt)]) 8 (by kernel_rfl)
def yY:Pt:=⟨41,[.str [108,111,103,32,48,32,48,32,49,10,98,111,117,110,100,32,50,58,51,47,52,10],.str [10]],[],.tup [.str [108,111,103,32,48,32,48,32,49],.str [98,111,117,110,100,32,50,58,51,47,52,10],.bool true],[]⟩
theorem zq:Jb Tryz.prog yY:=lL (by kernel_rfl) (by kernel_rfl)
def yZ:Pt:=⟨43,[.str [108,111,103,32,48,32,48,32,49],.str [32]],[],.own 300000 0 4,[(300000,⟨false,false,true,false,1,[.str [108,111,103],.str [48],.str [48],.str [49]],false,none⟩)]⟩
theorem zr:Jb Tryz.prog yZ:=oB (by kernel_rfl) (by kernel_rfl)
def y3:Pt:=⟨41,[.str [98,111,117,110,100,32,50,58,51,47,52,10],.str [10]],[],.tup [.str [98,111,117,110,100,32,50,58,51,47,52],.str [],.bool true],[]⟩
theorem zt:Jb Tryz.prog y3:=lL (by kernel_rfl) (by kernel_rfl)
def y4:Pt:=⟨43,[.str [98,111,117,110,100,32,50,58,51,47,52],.str [32]],[],.own 300000 0 2,[(300000,⟨false,false,true,false,1,[.str [98,111,117,110,100],.str [50,58,51,47,52]],false,none⟩)]⟩
theorem zu:Jb Tryz.prog y4:=oB (by kernel_rfl) (by kernel_rfl)
def y5:Pt:=⟨41,[.str [50,58,51,47,52],.str [58]],[],.tup [.str [50],.str [51,47,52],.bool true],[]⟩
theorem zw:Jb Tryz.prog y5:=lL (by kernel_rfl) (by kernel_rfl)
def y6:Pt:=⟨41,[.str [51,47,52],.str [47]],[],.tup [.str [51],.str [52],.bool true],[]⟩
theorem zx:Jb Tryz.prog y6:=lL (by kernel_rfl) (by kernel_rfl)
def y7:Pt:=⟨239,[.str [51]],[],.tup [iv 3,.undef],[]⟩
theorem zy:Jb Tryz.prog y7:=rN (by kernel_rfl) (by kernel_rfl)
def y8:Pt:=⟨218,[.str [51]],[],.pagg [.bool false,.imm [.int .u32 3] 1 1 false false] false,[]⟩
theorem Aaa:Jb Tryz.prog y8:=R6 follows (muts:=muts) (N:=1000000) (l:=[xM,y7]) ⟨xh,zy,trivial⟩ (fs:=[(189,QL),(203,Yt),(212,QM),(213,FT),(218,u5),(236,u6),(238,fD),(239,wZ),(240,w8),(241,u7),(257,u9),(260,w9),(262,u_),(270,ua)]) 5 (by kernel_rfl)
def y9:Pt:=⟨239,[.str [52]],[],.tup [iv 4,.undef],[]⟩
theorem Aab:Jb Tryz.prog y9:=rN (by kernel_rfl) (by kernel_rfl)
def y_:Pt:=⟨218,[.str [52]],[],.pagg [.bool false,.imm [.int .u32 4] 1 1 false false] false,[]⟩
theorem Aac:Jb Tryz.prog y_:=R6 follows (muts:=muts) (N:=1000000) (l:=[xM,y9]) ⟨xh,Aab,trivial⟩ (fs:=[(189,QL),(203,Yt),(212,QM),(213,FT),(218,u5),(236,u6),(238,fD),(239,wZ),(240,w8),(241,u7),(257,u9),(260,w9),(262,u_),(270,ua)]) 5 (by kernel_rfl)
def ya:Pt:=⟨193,[.str [51,47,52]],[],.tup [.pagg [.bool false,.imm [.int .u32 3] 1 1 false false,.imm [.int .u32 4] 1 1 false false] false,iv 0],[]⟩
theorem Aad:Jb Tryz.prog ya:=R6 follows (muts:=muts) (N:=1000000) (l:=[y6,y8,y_]) ⟨zx,Aaa,Aac,trivial⟩ (fs:=[(41,xw),(159,QJ),(183,QK),(186,rP),(193,wW),(203,Yt),(208,rQ),(209,rR),(213,FT),(215,yP),(216,yQ),(217,yR),(218,u5),(227,XS),(234,yS),(235,yT),(236,u6),(237,yU),(246,XT),(257,u9),(270,ua)]) 7 (by kernel_rfl)
def yb:Pt:=⟨232,[.pagg [.bool false,.imm [.int .u32 3] 1 1 false false] false],[],.str [51],[]⟩
theorem Aae:Jb Tryz.prog yb:=R6 follows (muts:=muts) (N:=1000000) (l:=[xM,zl]) ⟨xh,Aa6,trivial⟩ (fs:=[(40,uZ),(116,ij),(118,ik),(159,QJ),(161,il),(183,QK),(189,QL),(203,Yt),(212,QM),(213,FT),(227,XS),(229,rS),(231,rT),(232,io),(238,fD),(246,XT),(251,rU),(252,rV),(253,rW)]) 6 (by kernel_rfl)
def yc:Pt:=⟨232,[.pagg [.bool false,.imm [.int .u32 4] 1 1 false false] false],[],.str [52],[]⟩
theorem Aaf:Jb Tryz.prog yc:=R6 follows (muts:=muts) (N:=1000000) (l:=[xM,zm]) ⟨xh,Aa8,trivial⟩ (fs:=[(40,uZ),(116,ij),(118,ik),(159,QJ),(161,il),(183,QK),(189,QL),(203,Yt),(212,QM),(213,FT),(227,XS),(229,rS),(231,rT),(232,io),(238,fD),(246,XT),(251,rU),(252,rV),(253,rW)]) 6 (by kernel_rfl)
def yd:Pt:=⟨163,[.pagg [.bool false,.imm [.int .u32 3] 1 1 false false,.imm [.int .u32 4] 1 1 false false] false],[],.str [51,47,52],[]⟩
theorem Aag:Jb Tryz.prog yd:=R6 follows (muts:=muts) (N:=1000000) (l:=[yb,yc]) ⟨Aae,Aaf,trivial⟩ (fs:=[(159,QJ),(163,rO),(183,QK),(186,rP),(188,wU),(189,QL),(190,wV),(203,Yt),(208,rQ),(209,rR),(212,QM),(213,FT),(214,wY),(227,XS),(232,io),(246,XT)]) 7 (by kernel_rfl)
def ye:Pt:=⟨12,[.str [108,111,103,32,48,32,48,32,49,10,98,111,117,110,100,32,50,58,51,47,52,10]],[],.tup [.pagg [.imm [] 0 2 false false,.imm [] 0 6 false false,.imm [iv 1,iv 0,iv 0,iv 0,.imm [iv 2,.bool false,.imm [.int .u32 3] 1 1 false false,.imm [.int .u32 4] 1 1 false false] 1 4 false false] 1 5 false false] false,iv 0,iv 0],[]⟩
theorem Aah:Jb Tryz.prog ye:=R6 follows (muts:=muts) (N:=1000000) (l:=[yY,yZ,y3,y4,y5,ya,yd]) ⟨zq,zr,zt,zu,zw,Aad,Aag,trivial⟩ (fs:=[(12,xv),(41,xw),(42,zb),(43,zc),(44,zd),(73,xx),(80,zh),(83,zi),(115,wM),(121,yD),(122,yE),(158,wQ),(159,QJ),(163,rO),(168,yL),(169,yM),(183,QK),(193,wW),(203,Yt)]) 10 (by kernel_rfl)
def Aai:Pt:=⟨15,[],[],.bool true,[]⟩
theorem Aaj:Jb Tryz.prog Aai:=R6 follows (muts:=muts) (N:=1000000) (l:=[Aa3,yX,ye]) ⟨Abn,zp,Aah,trivial⟩ (fs:=[(11,xu),(12,xv),(15,z7),(47,ze),(87,yA),(88,zj),(134,wO),(135,u0),(179,u4)]) 6 (by kernel_rfl)
theorem UA:lZ Tryz.prog 15 [] [] (.bool true) []:=Aaj
end Gx
namespace Gx
open Go Go.Proofs
noncomputable section
variable {R:Type} (N:Nat)
def AY (_N:Nat) (r0:Bool→O R):O R:=r0 true
def Wh:=(Ai (@AY R)).1
theorem Mj:@Wh R=@AY R:=(Ai _).2
def gr:Bd Tryz.prog:=⟨15,fun
 | [],[]=>some fun _ k=>Wh N fun b=>k (.bool b) []
 | _,_=>none,(fun a h g e R k=>by
  split at e
  ·cases e;dsimp only;rw[Mj,Mj];rfl
  ·cases e),(fun a h g res h' e hh=>by
  split at e
  ·cases e;dsimp only at hh;rw[Mj] at hh;cases hh;exact UA
  ·cases e)⟩
end
end Gx
namespace Gx
open Go Go.Proofs
set_option maxRecDepth 100000
noncomputable section
variable {R:Type} (N:Nat)
def Kx (N:Nat) (r0:Bool→O R) (c d:Nat) (a b:LA) (k1:Int→O R) (h:Int):O R :=
 (cond (decide (h<(c:Int))) (cond (Af h c) (cond (ble 3 ((a.drop (0+((h.toNat)*3))).length)) (cond (Af h d) (cond (ble 3 ((b.drop (0+((h.toNat)*3))).length)) (cond ((ble 1 3)&&((beq (((a.drop (0+((h.toNat)*3))).take 3).length) 3)&&((beq (((b.drop (0+((h.toNat)*3))).take 3).length) 3)&&(true&&(!false))))) (An .i64 ((a.drop (0+((h.toNat)*3))).take 3) fun p=>An .i64 ((b.drop (0+((h.toNat)*3))).take 3) fun q=>An .i64 (((a.drop (0+((h.toNat)*3))).take 3).drop 1) fun r=>An .i64 (((b.drop (0+((h.toNat)*3))).take 3).drop 1) fun s=>An .i64 (((a.drop (0+((h.toNat)*3))).take 3).drop 2) fun t=>An .i64 (((b.drop (0+((h.toNat)*3))).take 3).drop 2) fun u=>cond (!((p==q)&&((r==s)&&((t==u)&&true)))) (r0 false) (k1 (wrap .i64 (h+1)))) none) none) none) none) none) (r0 true))
def F5 (r0:Bool→O R) (c d:Nat) (a b:LA):Nat→Int→O R
 | 0,_=>none
 | n+1,h=>(Kx N r0 c d a b (F5 r0 c d a b n) h)
def Ph (N:Nat) (r0:Bool→O R) (c d:Nat) (a b:LA) (q1:Int→O R):O R :=
 (q1 0)
def I3 (r0:Bool→O R) (c d:Nat) (a b:LA):O R:=(Ph N r0 c d a b (F5 N r0 c d a b N))
def Qo (r0:Bool→O R) (q0:Nat→Nat→LA→LA→O R) (f:LA) (i:Bool) (g:LA) (j:Bool) (l:Int):O R :=
 (cond (ble 8 (f.length)) (cond (ble 3 (g.length)) (PA N (f.take 8) i (g.take 3) j l fun c v a=>cond (ble 8 (f.length)) (cond (ble 3 (g.length)) (HI N (f.take 8) i (g.take 3) j l fun d w b=>cond (ble 8 (f.length)) (cond (ble 3 (g.length)) (Ys N (f.take 8) i (g.take 3) j fun m x y=>cond (ble 8 (f.length)) (cond (ble 3 (g.length)) (Uy N (f.take 8) i (g.take 3) j fun o z aa=>cond (ble 8 (f.length)) (cond (ble 3 (g.length)) (Uk N (f.take 8) i (g.take 3) j fun ab=>cond (ble 8 (f.length)) (cond (ble 3 (g.length)) (Pg N (f.take 8) i (g.take 3) j fun ac=>cond ((ab != ac)==false) (cond ((cond false true (v != w))==false) (cond ((cond false true (x != z))==false) (QF N (y.take (m*1)) m false true (aa.take (o*1)) o false true fun ad=>cond ((cond false true (!ad))==false) (cond (cond false true ((c:Int) != (d:Int))) (r0 false) (q0 c d a b)) (r0 false)) (r0 false)) (r0 false)) (r0 false)) none) none) none) none) none) none) none) none) none) none) none) none)
def Ky:=(Ai fun N f i g j l r0=>Qo (R:=R) N r0 (fun c d a b=>I3 N r0 c d a b) f i g j l).1
theorem Yu (f i g j l e):(@Ky R N f i g j l e)=(Qo N e (fun c d a b=>I3 N e c d a b) f i g j l):=by rw[Ky,(Ai _).2]
def CE:Hints:={ H:=(hK 5 (hJ [7,9] hL (hS (hK 1 (hS (hP [7,9,15] hL) hL)) hL))) }
def FU:Qr:=[qC N,nr N,nu N,lH N,LF N,FO N,qR N]
def CF (F:KF R):=Jd Tryz.f17 CE (FU N) [] N F
def ZQ (c d:Nat) (a b:LA) (K:St→O R):=fun h=>K ⟨[(7,(.own 300000 0 c)),(9,(.own 300001 0 d)),(15,(iv h))],(hq [(bQ 3 a),(bQ 3 b)])⟩
def ZR (c d:Nat) (a b:LA) (K:St→O R):=K ⟨[(7,(.own 300000 0 c)),(9,(.own 300001 0 d))],(hq [(bQ 3 a),(bQ 3 b)])⟩
theorem LN (F:KF R) (c d a b):∀ n,ZQ c d a b (Am (CF N F (pz 349508) []) n)=(F5 N (Bi F) c d a b n):=Fc fun n e=>(By (Kx N (Bi F) c d a b) e:_)
theorem LO (F:KF R) (c d a b):ZR c d a b (Bv (CF N F (pz 5461) []))=(I3 N (Bi F) c d a b):=(By (Ph N (Bi F) c d a b) ((lW ..).trans (LN ..)):_)
def fE:=Dq N 17 (FU N) CE (fun
 | [(.pagg f i),(.pagg g j),(.int .i64 l)],[]=>some fun _ k=>(Ky N f i g j l (Bi k))
 | _,_=>none) fun _ _=>by split;intro R F;exact(By (Qo N (Bi F) · _ _ _ _ _) (wu fun c d a b=>(jW ..).trans (LO ..)):_).trans (Yu ..).symm;trivial
def Io (l:Int) (m:LA) (n:Nat) (ah a:Bool) (o:LA) (p:Nat) (ai b:Bool) (q:LA) (r:Nat) (aj c:Bool) (s:LA) (t:Nat) (ak d:Bool) (u:LA) (v:Nat) (al e:Bool) (w:LA) (x:Nat) (am f:Bool) (y:LA) (z:Nat) (an g:Bool) (aa:LA) (ab:Nat) (ao h:Bool) (ac:LA) (ad:Nat) (ap i:Bool) (ae:LA) (af:Nat) (aq j:Bool) (ag:Int) (r0:Bool→O R):O R :=
 (GQ N [(.int .i64 l),(.imm m n 1 false a),(.imm o p 3 false b),(.imm q r 12 false c),(.imm s t 22 false d),(.imm u v 9 false e),(.imm w x 5 false f),(.imm y z 4 false g)] (a||(b||(c||(d||(e||(f||(g||false))))))) fun ar=>cond ((!ar)==false) (Qt N [(.imm aa ab 2 false h),(.imm ac ad 6 false i),(.imm ae af 5 false j)] (h||(i||(j||false))) fun au=>cond (cond false true (!au)) (r0 true) (Wh N fun av=>cond (av==true) (Ky N [(.int .i64 l),(.imm m n 1 false a),(.imm o p 3 false b),(.imm q r 12 false c),(.imm s t 22 false d),(.imm u v 9 false e),(.imm w x 5 false f),(.imm y z 4 false g)] (a||(b||(c||(d||(e||(f||(g||false))))))) [(.imm aa ab 2 false h),(.imm ac ad 6 false i),(.imm ae af 5 false j)] (h||(i||(j||false))) ag fun aw=>r0 (cond true aw false)) (r0 false))) (r0 true))
def Jc:=(Ai (@Io R)).1
theorem K8:@Jc R=@Io R:=(Ai _).2
def M9:=Dq N 4 [s5 N,gJ N,gr N,fE N] G2 (fun
 | [(.agg [(.int .i64 l),(.imm m n 1 ah a),(.imm o p 3 ai b),(.imm q r 12 aj c),(.imm s t 22 ak d),(.imm u v 9 al e),(.imm w x 5 am f),(.imm y z 4 an g)]),(.agg [(.imm aa ab 2 ao h),(.imm ac ad 6 ap i),(.imm ae af 5 aq j)]),(.int .i64 ag)],[]=>some fun _ k=>(Jc N l m n ah a o p ai b q r aj c s t ak d u v al e w x am f y z an g aa ab ao h ac ad ap i ae af aq j ag (Bi k))
 | _,_=>none) fun _ _=>by split;intro R F;dsimp only;rw[K8];kernel_rfl;trivial
def L3:=(M9 N).tw
theorem W8:fb Tryz.prog 4 (L3 N):=(M9 N).tok
end
end Gx
namespace Gx.Cf
open Go Go.Proofs
section
variable {R:Type}
def B4 (c:CaseD) (p:B8) (k i:Int):LA:=c.av++Xr p k i
theorem Ip {N:Nat} {c:CaseD} {p:B8} {k i d j:Int} {w:Bool} {K:Bool→LA→O R} :
  EG N d j w (B4 c p k i) K=K w (B4 c p d j):=by
 rw[iZ];unfold ph
 rcases p with _ | ⟨⟨a,b,f⟩,e,m⟩
 ·simp[B4,CaseD.av,Xr,Ay,Cy,Cn,U4]
 ·have:(e==0)=false:=by simpa using m
  simp[B4,CaseD.av,Xr,Ay,this]
theorem Al {N:Nat} {c:CaseD} {p:B8} {k i f e:Int} {ok w:Bool} {K:Bool→LA→O R} (j:e≠0) :
  Aq N ok f e w (B4 c p k i) K=K w (B4 c (nd p ok (k,i,f) ⟨e,j⟩) k i):=by
 rw[V'];unfold dE
 rcases p with _ | ⟨⟨a,b,q⟩,m,d⟩
 ·cases ok<;>simp[B4,CaseD.av,Xr,Ay,nd,Cn,U4]
 ·have:(m==0)=false:=by simpa using d
  simp[B4,CaseD.av,Xr,Ay,nd,this]
theorem Dm {N:Nat} {c:CaseD} {p:B8} {k i f n lo hi:Int} {w:Bool} {K:Bool→LA→O R} :
  A0 N f n lo hi w (B4 c p k i) K=K w (B4 c (nd p (Fv lo hi n) (k,i,f) ⟨3,by decide⟩) k i):=by
 rw[JC];unfold LB
 rw[Al (by decide),Al (by decide)]
 unfold Fv
 cases h:decide (n≥lo) with
 | true=>simp at h;simp[h]
 | false=>simp at h;simp[show ¬ lo≤n by omega]
theorem Wi {N:Nat} {l:List Int} {t o:Bool} {K:Bool→O R} (hs:l.length<4611686018427387904):∀ (m j fuel:Nat),j+1+m=l.length→m<fuel →
  Ds N K (Ax l) l.length t o fuel ((j+1:Nat):Int)=K (JR (l.drop j))
 | 0,j,fuel+1,d,_=>by
  rw[Ds];unfold Ha
  rw[G9 (by omega),cf,Bc (by omega),Bo (by omega),aD]
 | m+1,j,fuel+1,d,e=>by
  rw[Ds];unfold Ha
  have h:j+1<l.length:=by omega
  have h':j<l.length:=by omega
  rw[G4 h,ct,Ab h,ct,R5 h,ib (by omega),Ab h',ct,R5 h',Bf (by omega),Wi hs m (j+1) fuel (by omega) (by omega),Bc h',Bc h,HA]
  by_cases b:l[j+1]≤l[j]
  ·have:¬ l[j]<l[j+1]:=by omega
   simp[b,this]
  ·have:l[j]<l[j+1]:=by omega
   simp[b,this]
theorem Od {N:Nat} {l:List Int} {n:Nat} {t o:Bool} {K:Bool→O R} (hn:n=l.length) (hs:Dr l.length N):Hy N (Ax l) n t o K=K (JR l):=by
 subst hn
 rw[X5];unfold P0
 rcases l with _ | ⟨a,r⟩
 ·have hN:=hs.1
  rcases N with _ | N
  ·simp at hN
  ·rw[Ds];unfold Ha;simp[ki]
 ·have:=Wi (R:=R) (N:=N) (t:=t) (o:=o) (K:=K) hs.2 r.length 0 N (by simp;omega) (by have:=hs.1;simp at this;omega)
  simpa using this
theorem fF {N:Nat} {v:Int} {l:List Int} {t o:Bool} {K:Int→O R} (hs:l.length<4611686018427387904):∀ (m j fuel:Nat),j+m=l.length→m<fuel →
  ∃ r:Int,(decide (r≥0)=(l.drop j).contains v)∧Bp N K (Ax l) l.length t o v fuel (l.length:Int) (j:Int)=K r
 | 0,j,fuel+1,b,_=>by
  rw[Bp];unfold Dw
  rw[G9 (by omega),cf,Bo (by omega)];exact⟨-1,by simp,rfl⟩
 | m+1,j,fuel+1,b,d=>by
  rw[Bp];unfold Dw
  have h:j<l.length:=by omega
  rw[G4 h,ct,Ab h,ct,R5 h,Bf (by omega),Bc h,Agd]
  cases e:v==l[j] with
  | true=>exact⟨j,by simp,rfl⟩
  | false=>simpa using fF hs m (j+1) fuel (by omega) (by omega)
theorem KA {N:Nat} {v:Int} {l:List Int} {n:Nat} {t o:Bool} {K:Bool→O R} (hn:n=l.length) (hs:Dr l.length N):Ct N (Ax l) n t o v K=K (l.contains v):=by
 subst hn
 rw[Iy];unfold F1
 rw[K5];unfold Ex
 obtain⟨r,b,d⟩:=fF (R:=R) (N:=N) (v:=v) (t:=false) (o:=o) (K:=fun y1=>K (decide (y1≥0))) hs.2 l.length 0 N (by omega) hs.1
 simp only[Acb] at b
 rw[←b]
 simpa using d
theorem lM {N:Nat} {v:Int} {K:O R} (hN:8≤N):C8 N v K=K:=by
 rw[G3];unfold Ep
 rw[Iz];unfold Dx
 rcases N with _ | N
 ·omega
 ·rw[B9];unfold Eo;rfl
theorem Hh {c:CaseD} {p:B8} {k i:Int} {f:Int→O R}:An .i64 (drop 11 (B4 c p k i)) f=f (A8 p):=by
 rcases p with _ | ⟨⟨a,b,d⟩,e,j⟩<;>simp[B4,CaseD.av,Xr,Ay,A8]
theorem UB {c:CaseD} {k i:Int} {f:Int→O R}:An .i64 (drop 9 (B4 c none k i)) f=f i:=by simp[B4,CaseD.av,Xr,Ay]
theorem QN {c:CaseD} {p:B8} {k i:Int} {f:Int→O R}:An .i64 (B4 c p k i) f=f c.hours:=by simp[B4,CaseD.av,Ay]
theorem qV {c:CaseD} {p:B8} {k i:Int} {f:LA→Nat→O R}:Az 1 (drop 1 (B4 c p k i)) f=f (Ax c.reserve.l) c.reserve.l.length:=by simp[B4,CaseD.av,Bj,C0]
theorem QO {c:CaseD} {p:B8} {k i:Int} {f:LA→Nat→O R}:Az 3 (drop 2 (B4 c p k i)) f=f (c.buses.l.flatMap BusD.av) c.buses.l.length:=by simp[B4,CaseD.av,Bj]
theorem QP {c:CaseD} {p:B8} {k i:Int} {f:LA→Nat→O R}:Az 12 (drop 3 (B4 c p k i)) f=f (c.lines.l.flatMap LineD.av) c.lines.l.length:=by simp[B4,CaseD.av,Bj]
theorem QQ {c:CaseD} {p:B8} {k i:Int} {f:LA→Nat→O R}:Az 22 (drop 4 (B4 c p k i)) f=f (c.units.l.flatMap UnitD.av) c.units.l.length:=by simp[B4,CaseD.av,Bj]
theorem UC {c:CaseD} {p:B8} {k i:Int} {f:LA→Nat→O R}:Az 9 (drop 5 (B4 c p k i)) f=f (c.stores.l.flatMap StoreD.av) c.stores.l.length:=by simp[B4,CaseD.av,Bj]
theorem lN {c:CaseD} {p:B8} {k i:Int} {f:LA→Nat→O R}:Az 5 (drop 6 (B4 c p k i)) f=f (c.ties.l.flatMap TieD.av) c.ties.l.length:=by simp[B4,CaseD.av,Bj]
theorem aF {c:CaseD} {p:B8} {k i:Int} {f:LA→Nat→O R}:Az 4 (drop 7 (B4 c p k i)) f=f (c.outs.l.flatMap OutD.av) c.outs.l.length:=by simp[B4,CaseD.av,Bj]
theorem FV {N:Nat} {c:CaseD} {k i f lo hi:Int} {l:List Int} {t o w:Bool} {K:Bool→LA→O R} (hs:l.length<4611686018427387904):∀ (m j fuel:Nat) (p:B8),j+m=l.length→m<fuel →
  Hx N K f lo hi (Ax l) l.length t o fuel (l.length:Int) (j:Int) w (B4 c p k i)=K w (B4 c (nd p ((l.drop j).all (Fv lo hi)) (k,i,f) ⟨3,by decide⟩) k i)
 | 0,j,fuel+1,p,b,_=>by
  rw[Hx];unfold Py
  rw[G9 (by omega),cf,Bo (by omega),Adh,D5]
 | m+1,j,fuel+1,p,b,q=>by
  rw[Hx];unfold Py
  have h:j<l.length:=by omega
  rw[G4 h,ct,Ab h,ct,R5 h,Hh,Dm,Bf (by omega),FV hs m (j+1) fuel _ (by omega) (by omega),Bc h,Acl,K4]
  rcases p with _ | ⟨x,e,d⟩
  ·simp[A8]
  ·have:(e != 0)=true:=by simpa using d
   simp[A8,this,nd]
theorem Kg {N:Nat} {c:CaseD} {p:B8} {k i f lo hi:Int} {l:List Int} {n:Nat} {t o w:Bool} {K:Bool→LA→O R} (hn:n=l.length) (hs:Dr l.length N) :
  Kr N f (Ax l) n t o lo hi w (B4 c p k i) K=K w (B4 c (WU c.hours l lo hi (k,i,f) p) k i):=by
 subst hn
 rw[JD];unfold Zs
 rw[QN,Al (by decide)]
 have:=FV (R:=R) (N:=N) (c:=c) (k:=k) (i:=i) (f:=f) (lo:=lo) (hi:=hi) (t:=t) (o:=o) (w:=w) (K:=K) hs.2 l.length 0 N (nd p ((l.length:Int)==c.hours) (k,i,f) ⟨4,by decide⟩) (by omega) hs.1
 simpa[WU] using this
theorem QR {N:Nat} {c:CaseD} {k i f:Int} {l:List Int} {t o w w0:Bool} {h0:LA} {K:Bool→LA→O R} (hs:Dr l.length N):∀ (m j fuel:Nat) (p:B8),j+m=l.length→m<fuel →
  Mn N K f (Ax l) l.length t o w0 h0 fuel (l.length:Int) (j:Int) w (B4 c p k i)=K w (B4 c (nd (nd p ((l.drop j).all (Fv 0 (wrap .i64 (c.hours - 1)))) (k,i,f) ⟨3,by decide⟩) (JR l) (k,i,f) ⟨11,by decide⟩) k i)
 | 0,j,fuel+1,p,b,_=>by
  rw[Mn];unfold Vr
  rw[G9 (by omega),cf,Bo (by omega),Adh,D5,Od rfl hs,Al (by decide)]
 | m+1,j,fuel+1,p,b,s=>by
  rw[Mn];unfold Vr
  have h:j<l.length:=by omega
  have d:=hs.2
  rw[G4 h,ct,Ab h,ct,R5 h,Hh,QN,Dm,Bf (by omega),QR hs m (j+1) fuel _ (by omega) (by omega),Bc h,Acl,K4]
  rcases p with _ | ⟨x,e,q⟩
  ·simp[A8]
  ·have:(e != 0)=true:=by simpa using q
   simp[A8,this,nd]
theorem QS {N:Nat} {c:CaseD} {p:B8} {k i f:Int} {l:List Int} {n:Nat} {t o w:Bool} {K:Bool→LA→O R} (hn:n=l.length) (hs:Dr l.length N) :
  GT N f (Ax l) n t o w (B4 c p k i) K=K w (B4 c (PP c.hours l (k,i,f) p) k i):=by
 subst hn
 rw[WE];unfold OE
 have:=QR (R:=R) (N:=N) (c:=c) (k:=k) (i:=i) (f:=f) (t:=t) (o:=o) (w:=w) (w0:=w) (h0:=B4 c p k i) (K:=K) hs l.length 0 N p (by omega) hs.1
 simpa[PP] using this
theorem Wj {N:Nat} {c:CaseD} {p:B8} {k i f b:Int} {w:Bool} {K:Bool→LA→O R} :
  EL N f b w (B4 c p k i) K=K w (B4 c (nd p (JT c b) (k,i,f) ⟨12,by decide⟩) k i):=by
 rw[dN];unfold kL
 rw[QO,Al (by decide),Al (by decide)]
 unfold JT
 cases h:decide (b≥0) with
 | true=>simp at h;simp[h]
 | false=>simp at h;simp[show ¬ 0≤b by omega]
theorem KB {N:Nat} {f:FracD} {o:Bool} {K:Bool→O R}:Ud N [.int .i64 f.num,.int .i64 f.den] o K=K (Lg f):=by
 rw[OD];unfold SY
 simp only[Aci,Acb,Ay]
 unfold Lg Fv
 by_cases b:1≤f.den<;>by_cases d:f.den≤1048576<;>by_cases e:-1048576≤f.num<;>simp[b,d,e]
theorem QT {N:Nat} {s:Lu} {K:Bool→O R} (hs:s.length<4611686018427387904):∀ (m j fuel:Nat),j+m=s.length→m<fuel →
  O5 N K s fuel (s.length:Int) (j:Int)=K ((s.drop j).all uJ)
 | 0,j,fuel+1,b,_=>by
  rw[O5];unfold Vo
  rw[G9 (by omega),cf,Bo (by omega)];rfl
 | m+1,j,fuel+1,b,u=>by
  rw[O5];unfold Vo
  have h:j<s.length:=by omega
  rw[G4 h,ct,Ab h,ct,Bf (by omega),QT hs m (j+1) fuel (by omega) (by omega),Bc h,Acl,kj h]
  unfold uJ TQ
  generalize s[j].toNat=v
  generalize (s.drop (j+1)).all _=r
  by_cases d:97≤v<;>by_cases e:v≤122<;>by_cases i:48≤v<;>by_cases k:v≤57<;>by_cases q:v=95 <;>
   simp[d,e,i,k,show((v:Int)<97)↔¬ 97≤v by omega,show((v:Int)<48)↔¬ 48≤v by omega,show((122:Int)<v)↔¬ v≤122 by omega,show((57:Int)<v)↔¬ v≤57 by omega,show((v:Int) != 95)=!decide (v=95) by (by_cases v=95<;>simp_all<;>omega),q]
theorem Kz {N:Nat} {s:Lu} {K:Bool→O R} (hN:64≤N):Pz N s K=K (Rq s):=by
 rw[WC];unfold N_ Zt EI
 unfold Rq
 by_cases b:1≤s.length
 ·by_cases d:s.length≤16
  ·have e:=QT (R:=R) (N:=N) (s:=s) (K:=K) (by omega) s.length 0 N (by omega) (by omega)
   simp only[Acb,Acz] at e
   rw[e]
   have h0:Af 0 s.length=true:=Ab (i:=0) (by omega)
   rw[h0]
   simp only[b,d,show(decide ((s.length:Int)<1))=false by simp;omega,show(decide ((s.length:Int)>16))=false by simp;omega,decide_true,cond_true,cond_false,beq_self_eq_true]
   cases s==[99,111,114,114,101,99,116,105,118,101]
   ·unfold TQ
    generalize (List.getD s 0 0).toNat=v
    by_cases j:97≤v<;>by_cases k:v≤122<;>simp[j,k,show((v:Int)<97)↔¬ 97≤v by omega,show((122:Int)<v)↔¬ v≤122 by omega]
   ·simp
  ·simp[b,d,show((s.length:Int)<1)↔¬ 1≤s.length by omega,show((16:Int)<s.length)↔¬ s.length≤16 by omega]
 ·simp[b,show((s.length:Int)<1)↔¬ 1≤s.length by omega]
theorem QU {N:Nat} {c:CaseD} {p:B8} {k i:Int} {w:Bool} {j:Nat} {K:Lu→O R} (h:j<c.buses.l.length):Sk N (j:Int) w (B4 c p k i) K=K c.buses.l[j].name:=by
 rw[X2];unfold Ws
 rw[QO,Ab h,ct,Ab2,Ap Uu _ _ h]
 simp[BusD.av,C2]
theorem QV {N:Nat} {c:CaseD} {k i:Int} {s:Lu} {w:Bool} {K:Bool→LA→O R} {n:Nat} (hn:n≤c.buses.l.length) (hs:n<4611686018427387904):∀ (m j fuel:Nat) (p:B8),j+m=n→m<fuel →
  E2 N K s (n:Int) fuel (j:Int) w (B4 c p k i)=K w (B4 c (nd p ((((c.buses.l.map (·.name)).take n).drop j).all fun x=>!(x==s)) (k,i,0) ⟨10,by decide⟩) k i)
 | 0,j,fuel+1,p,b,_=>by
  rw[E2];unfold Ju
  rw[G9 (by omega),cf,Bo (by simp;omega),Adh,D5]
 | m+1,j,fuel+1,p,b,v=>by
  rw[E2];unfold Ju
  have h:j<c.buses.l.length:=by omega
  have d:j<((c.buses.l.map (·.name)).take n).length:=by simp;omega
  rw[G4 (by omega),ct,Hh,QU h,Al (by decide),Bf (by omega),QV hn hs m (j+1) fuel _ (by omega) (by omega),Bc d,Acl,K4]
  have e:((c.buses.l.map (·.name)).take n)[j]=c.buses.l[j].name:=by simp
  rw[e]
  rcases p with _ | ⟨x,q,u⟩
  ·simp[A8]
  ·have:(q != 0)=true:=by simpa using u
   simp[A8,this,nd]
theorem lO {N:Nat} {c:CaseD} {p:B8} {k:Int} {n:Nat} {s:Lu} {w:Bool} {K:Bool→LA→O R} (hN:64≤N) (hn:n≤c.buses.l.length) (hs:Dr n N) :
  Ub N s w (B4 c p k (n:Int)) K=K w (B4 c (K6 ((c.buses.l.map (·.name)).take n) k n s p) k n):=by
 rw[EJ];unfold Vp
 rw[Kz hN,Al (by decide)]
 unfold K6
 cases m:nd p (Rq s) (k,(n:Int),0) ⟨9,by decide⟩ with
 | none =>
  rw[UB]
  have:=QV (R:=R) (N:=N) (c:=c) (k:=k) (i:=n) (s:=s) (w:=w) (K:=K) hn hs.2 n 0 N none (by omega) hs.1
  simpa using this
 | some x =>
  obtain⟨⟨a,b,f⟩,e,d⟩:=x
  have j:∀ g:Int→O R,An .i64 (drop 9 (B4 c (some ((a,b,f),⟨e,d⟩)) k n)) g=g b:=by intro g;simp[B4,CaseD.av,Xr,Ay]
  rw[j,Zi]
  rcases N with _ | N
  ·omega
  ·dsimp only
   rw[E2];unfold Ju
   rw[Hh]
   have:(e != 0)=true:=by simpa using d
   cases decide (0<b)<;>simp[A8,this]
theorem QW {N:Nat} {c:CaseD} {p:B8} {k i:Int} {w:Bool} {j:Nat} {K:Lu→O R} (h:j<c.lines.l.length):Sn N (j:Int) w (B4 c p k i) K=K c.lines.l[j].name:=by
 rw[X4];unfold Wt
 rw[QP,Ab h,ct,Ab2,Ap C5 _ _ h]
 simp[LineD.av,C2]
theorem CG {N:Nat} {c:CaseD} {k i:Int} {s:Lu} {w:Bool} {K:Bool→LA→O R} {n:Nat} (hn:n≤c.lines.l.length) (hs:n<4611686018427387904):∀ (m j fuel:Nat) (p:B8),j+m=n→m<fuel →
  E3 N K s (n:Int) fuel (j:Int) w (B4 c p k i)=K w (B4 c (nd p ((((c.lines.l.map (·.name)).take n).drop j).all fun x=>!(x==s)) (k,i,0) ⟨10,by decide⟩) k i)
 | 0,j,fuel+1,p,b,_=>by
  rw[E3];unfold Jw
  rw[G9 (by omega),cf,Bo (by simp;omega),Adh,D5]
 | m+1,j,fuel+1,p,b,v=>by
  rw[E3];unfold Jw
  have h:j<c.lines.l.length:=by omega
  have d:j<((c.lines.l.map (·.name)).take n).length:=by simp;omega
  rw[G4 (by omega),ct,Hh,QW h,Al (by decide),Bf (by omega),CG hn hs m (j+1) fuel _ (by omega) (by omega),Bc d,Acl,K4]
  have e:((c.lines.l.map (·.name)).take n)[j]=c.lines.l[j].name:=by simp
  rw[e]
  rcases p with _ | ⟨x,q,u⟩
  ·simp[A8]
  ·have:(q != 0)=true:=by simpa using u
   simp[A8,this,nd]
theorem ZS {N:Nat} {c:CaseD} {p:B8} {k:Int} {n:Nat} {s:Lu} {w:Bool} {K:Bool→LA→O R} (hN:64≤N) (hn:n≤c.lines.l.length) (hs:Dr n N) :
  Uc N s w (B4 c p k (n:Int)) K=K w (B4 c (K6 ((c.lines.l.map (·.name)).take n) k n s p) k n):=by
 rw[EK];unfold Vq
 rw[Kz hN,Al (by decide)]
 unfold K6
 cases m:nd p (Rq s) (k,(n:Int),0) ⟨9,by decide⟩ with
 | none =>
  rw[UB]
  have:=CG (R:=R) (N:=N) (c:=c) (k:=k) (i:=n) (s:=s) (w:=w) (K:=K) hn hs.2 n 0 N none (by omega) hs.1
  simpa using this
 | some x =>
  obtain⟨⟨a,b,f⟩,e,d⟩:=x
  have j:∀ g:Int→O R,An .i64 (drop 9 (B4 c (some ((a,b,f),⟨e,d⟩)) k n)) g=g b:=by intro g;simp[B4,CaseD.av,Xr,Ay]
  rw[j,Zi]
  rcases N with _ | N
  ·omega
  ·dsimp only
   rw[E3];unfold Jw
   rw[Hh]
   have:(e != 0)=true:=by simpa using d
   cases decide (0<b)<;>simp[A8,this]
theorem QX {N:Nat} {c:CaseD} {p:B8} {k i:Int} {w:Bool} {j:Nat} {K:Lu→O R} (h:j<c.units.l.length):Sp N (j:Int) w (B4 c p k i) K=K c.units.l[j].name:=by
 rw[X7];unfold Wu
 rw[QQ,Ab h,ct,Ab2,Ap F3 _ _ h]
 simp[UnitD.av,C2]
theorem CH {N:Nat} {c:CaseD} {k i:Int} {s:Lu} {w:Bool} {K:Bool→LA→O R} {n:Nat} (hn:n≤c.units.l.length) (hs:n<4611686018427387904):∀ (m j fuel:Nat) (p:B8),j+m=n→m<fuel →
  E4 N K s (n:Int) fuel (j:Int) w (B4 c p k i)=K w (B4 c (nd p ((((c.units.l.map (·.name)).take n).drop j).all fun x=>!(x==s)) (k,i,0) ⟨10,by decide⟩) k i)
 | 0,j,fuel+1,p,b,_=>by
  rw[E4];unfold Jx
  rw[G9 (by omega),cf,Bo (by simp;omega),Adh,D5]
 | m+1,j,fuel+1,p,b,v=>by
  rw[E4];unfold Jx
  have h:j<c.units.l.length:=by omega
  have d:j<((c.units.l.map (·.name)).take n).length:=by simp;omega
  rw[G4 (by omega),ct,Hh,QX h,Al (by decide),Bf (by omega),CH hn hs m (j+1) fuel _ (by omega) (by omega),Bc d,Acl,K4]
  have e:((c.units.l.map (·.name)).take n)[j]=c.units.l[j].name:=by simp
  rw[e]
  rcases p with _ | ⟨x,q,u⟩
  ·simp[A8]
  ·have:(q != 0)=true:=by simpa using u
   simp[A8,this,nd]
theorem ZT {N:Nat} {c:CaseD} {p:B8} {k:Int} {n:Nat} {s:Lu} {w:Bool} {K:Bool→LA→O R} (hN:64≤N) (hn:n≤c.units.l.length) (hs:Dr n N) :
  Uf N s w (B4 c p k (n:Int)) K=K w (B4 c (K6 ((c.units.l.map (·.name)).take n) k n s p) k n):=by
 rw[EO];unfold Vu
 rw[Kz hN,Al (by decide)]
 unfold K6
 cases m:nd p (Rq s) (k,(n:Int),0) ⟨9,by decide⟩ with
 | none =>
  rw[UB]
  have:=CH (R:=R) (N:=N) (c:=c) (k:=k) (i:=n) (s:=s) (w:=w) (K:=K) hn hs.2 n 0 N none (by omega) hs.1
  simpa using this
 | some x =>
  obtain⟨⟨a,b,f⟩,e,d⟩:=x
  have j:∀ g:Int→O R,An .i64 (drop 9 (B4 c (some ((a,b,f),⟨e,d⟩)) k n)) g=g b:=by intro g;simp[B4,CaseD.av,Xr,Ay]
  rw[j,Zi]
  rcases N with _ | N
  ·omega
  ·dsimp only
   rw[E4];unfold Jx
   rw[Hh]
   have:(e != 0)=true:=by simpa using d
   cases decide (0<b)<;>simp[A8,this]
theorem LP {N:Nat} {c:CaseD} {p:B8} {k i:Int} {w:Bool} {j:Nat} {K:Lu→O R} (h:j<c.stores.l.length):P2 N (j:Int) w (B4 c p k i) K=K c.stores.l[j].name:=by
 rw[Vx];unfold Ug
 rw[UC,Ab h,ct,Ab2,Ap Gt _ _ h]
 simp[StoreD.av,C2]
theorem CI {N:Nat} {c:CaseD} {k i:Int} {s:Lu} {w:Bool} {K:Bool→LA→O R} {n:Nat} (hn:n≤c.stores.l.length) (hs:n<4611686018427387904):∀ (m j fuel:Nat) (p:B8),j+m=n→m<fuel →
  Ef N K s (n:Int) fuel (j:Int) w (B4 c p k i)=K w (B4 c (nd p ((((c.stores.l.map (·.name)).take n).drop j).all fun x=>!(x==s)) (k,i,0) ⟨10,by decide⟩) k i)
 | 0,j,fuel+1,p,b,_=>by
  rw[Ef];unfold Iv
  rw[G9 (by omega),cf,Bo (by simp;omega),Adh,D5]
 | m+1,j,fuel+1,p,b,v=>by
  rw[Ef];unfold Iv
  have h:j<c.stores.l.length:=by omega
  have d:j<((c.stores.l.map (·.name)).take n).length:=by simp;omega
  rw[G4 (by omega),ct,Hh,LP h,Al (by decide),Bf (by omega),CI hn hs m (j+1) fuel _ (by omega) (by omega),Bc d,Acl,K4]
  have e:((c.stores.l.map (·.name)).take n)[j]=c.stores.l[j].name:=by simp
  rw[e]
  rcases p with _ | ⟨x,q,u⟩
  ·simp[A8]
  ·have:(q != 0)=true:=by simpa using u
   simp[A8,this,nd]
theorem ZU {N:Nat} {c:CaseD} {p:B8} {k:Int} {n:Nat} {s:Lu} {w:Bool} {K:Bool→LA→O R} (hN:64≤N) (hn:n≤c.stores.l.length) (hs:Dr n N) :
  Qu N s w (B4 c p k (n:Int)) K=K w (B4 c (K6 ((c.stores.l.map (·.name)).take n) k n s p) k n):=by
 rw[BS];unfold Ss
 rw[Kz hN,Al (by decide)]
 unfold K6
 cases m:nd p (Rq s) (k,(n:Int),0) ⟨9,by decide⟩ with
 | none =>
  rw[UB]
  have:=CI (R:=R) (N:=N) (c:=c) (k:=k) (i:=n) (s:=s) (w:=w) (K:=K) hn hs.2 n 0 N none (by omega) hs.1
  simpa using this
 | some x =>
  obtain⟨⟨a,b,f⟩,e,d⟩:=x
  have j:∀ g:Int→O R,An .i64 (drop 9 (B4 c (some ((a,b,f),⟨e,d⟩)) k n)) g=g b:=by intro g;simp[B4,CaseD.av,Xr,Ay]
  rw[j,Zi]
  rcases N with _ | N
  ·omega
  ·dsimp only
   rw[Ef];unfold Iv
   rw[Hh]
   have:(e != 0)=true:=by simpa using d
   cases decide (0<b)<;>simp[A8,this]
theorem UD {N:Nat} {c:CaseD} {p:B8} {k i:Int} {w:Bool} {j:Nat} {K:Lu→O R} (h:j<c.ties.l.length):Vy N (j:Int) w (B4 c p k i) K=K c.ties.l[j].name:=by
 rw[BT];unfold Zz
 rw[lN,Ab h,ct,Ab2,Ap Lw _ _ h]
 simp[TieD.av,C2]
theorem CJ {N:Nat} {c:CaseD} {k i:Int} {s:Lu} {w:Bool} {K:Bool→LA→O R} {n:Nat} (hn:n≤c.ties.l.length) (hs:n<4611686018427387904):∀ (m j fuel:Nat) (p:B8),j+m=n→m<fuel →
  Eg N K s (n:Int) fuel (j:Int) w (B4 c p k i)=K w (B4 c (nd p ((((c.ties.l.map (·.name)).take n).drop j).all fun x=>!(x==s)) (k,i,0) ⟨10,by decide⟩) k i)
 | 0,j,fuel+1,p,b,_=>by
  rw[Eg];unfold Iw
  rw[G9 (by omega),cf,Bo (by simp;omega),Adh,D5]
 | m+1,j,fuel+1,p,b,v=>by
  rw[Eg];unfold Iw
  have h:j<c.ties.l.length:=by omega
  have d:j<((c.ties.l.map (·.name)).take n).length:=by simp;omega
  rw[G4 (by omega),ct,Hh,UD h,Al (by decide),Bf (by omega),CJ hn hs m (j+1) fuel _ (by omega) (by omega),Bc d,Acl,K4]
  have e:((c.ties.l.map (·.name)).take n)[j]=c.ties.l[j].name:=by simp
  rw[e]
  rcases p with _ | ⟨x,q,u⟩
  ·simp[A8]
  ·have:(q != 0)=true:=by simpa using u
   simp[A8,this,nd]
theorem ZV {N:Nat} {c:CaseD} {p:B8} {k:Int} {n:Nat} {s:Lu} {w:Bool} {K:Bool→LA→O R} (hN:64≤N) (hn:n≤c.ties.l.length) (hs:Dr n N) :
  Qv N s w (B4 c p k (n:Int)) K=K w (B4 c (K6 ((c.ties.l.map (·.name)).take n) k n s p) k n):=by
 rw[BU];unfold Su
 rw[Kz hN,Al (by decide)]
 unfold K6
 cases m:nd p (Rq s) (k,(n:Int),0) ⟨9,by decide⟩ with
 | none =>
  rw[UB]
  have:=CJ (R:=R) (N:=N) (c:=c) (k:=k) (i:=n) (s:=s) (w:=w) (K:=K) hn hs.2 n 0 N none (by omega) hs.1
  simpa using this
 | some x =>
  obtain⟨⟨a,b,f⟩,e,d⟩:=x
  have j:∀ g:Int→O R,An .i64 (drop 9 (B4 c (some ((a,b,f),⟨e,d⟩)) k n)) g=g b:=by intro g;simp[B4,CaseD.av,Xr,Ay]
  rw[j,Zi]
  rcases N with _ | N
  ·omega
  ·dsimp only
   rw[Eg];unfold Iw
   rw[Hh]
   have:(e != 0)=true:=by simpa using d
   cases decide (0<b)<;>simp[A8,this]
theorem ID {N:Nat} {c:CaseD} {p:B8} {k i:Int} {w:Bool} {j:Nat} {K:Lu→O R} (h:j<c.outs.l.length):Np N (j:Int) w (B4 c p k i) K=K c.outs.l[j].name:=by
 rw[Uh];unfold Rn
 rw[aF,Ab h,ct,Ab2,Ap Dj _ _ h]
 simp[OutD.av,C2]
theorem CK {N:Nat} {c:CaseD} {k i:Int} {s:Lu} {w:Bool} {K:Bool→LA→O R} {n:Nat} (hn:n≤c.outs.l.length) (hs:n<4611686018427387904):∀ (m j fuel:Nat) (p:B8),j+m=n→m<fuel →
  Eh N K s (n:Int) fuel (j:Int) w (B4 c p k i)=K w (B4 c (nd p ((((c.outs.l.map (·.name)).take n).drop j).all fun x=>!(x==s)) (k,i,0) ⟨10,by decide⟩) k i)
 | 0,j,fuel+1,p,b,_=>by
  rw[Eh];unfold Ix
  rw[G9 (by omega),cf,Bo (by simp;omega),Adh,D5]
 | m+1,j,fuel+1,p,b,v=>by
  rw[Eh];unfold Ix
  have h:j<c.outs.l.length:=by omega
  have d:j<((c.outs.l.map (·.name)).take n).length:=by simp;omega
  rw[G4 (by omega),ct,Hh,ID h,Al (by decide),Bf (by omega),CK hn hs m (j+1) fuel _ (by omega) (by omega),Bc d,Acl,K4]
  have e:((c.outs.l.map (·.name)).take n)[j]=c.outs.l[j].name:=by simp
  rw[e]
  rcases p with _ | ⟨x,q,u⟩
  ·simp[A8]
  ·have:(q != 0)=true:=by simpa using u
   simp[A8,this,nd]
theorem CL {N:Nat} {c:CaseD} {p:B8} {k:Int} {n:Nat} {s:Lu} {w:Bool} {K:Bool→LA→O R} (hN:64≤N) (hn:n≤c.outs.l.length) (hs:Dr n N) :
  Qw N s w (B4 c p k (n:Int)) K=K w (B4 c (K6 ((c.outs.l.map (·.name)).take n) k n s p) k n):=by
 rw[BV];unfold Sv
 rw[Kz hN,Al (by decide)]
 unfold K6
 cases m:nd p (Rq s) (k,(n:Int),0) ⟨9,by decide⟩ with
 | none =>
  rw[UB]
  have:=CK (R:=R) (N:=N) (c:=c) (k:=k) (i:=n) (s:=s) (w:=w) (K:=K) hn hs.2 n 0 N none (by omega) hs.1
  simpa using this
 | some x =>
  obtain⟨⟨a,b,f⟩,e,d⟩:=x
  have j:∀ g:Int→O R,An .i64 (drop 9 (B4 c (some ((a,b,f),⟨e,d⟩)) k n)) g=g b:=by intro g;simp[B4,CaseD.av,Xr,Ay]
  rw[j,Zi]
  rcases N with _ | N
  ·omega
  ·dsimp only
   rw[Eh];unfold Ix
   rw[Hh]
   have:(e != 0)=true:=by simpa using d
   cases decide (0<b)<;>simp[A8,this]
theorem gt {N:Nat} {c:CaseD} {p:B8} {k i:Int} {w:Bool} {K:Bool→LA→O R} (hs:Small c N):X1 N w (B4 c p k i) K=K w (B4 c (TR c p) 0 0):=by
 rw[NZ];unfold GR Vn
 simp only[Ip,QN,Dm,qV,Kg rfl hs.res,QO,QP,QQ,UC,lN,aF,Al (show(8:Int)≠0 by decide)]
 unfold TR
 cases h:decide ((c.buses.l.length:Int)≥1) with
 | true=>simp only[beq_self_eq_true,cond_true];simp only[Fv];simp at h;simp[show(1:Int)≤(c.buses.l.length:Int) by omega]
 | false=>simp only[Fv];simp at h;simp[show ¬ ((1:Int)≤(c.buses.l.length:Int)) by simp;omega]
theorem KC {N:Nat} {c:CaseD} {w w0:Bool} (hs:Small c N):∀ (m j fuel:Nat) (p:B8) (k i:Int),j+m=c.buses.l.length→m<fuel →
  ∃ e q:Int,∀ K:Bool→LA→O R,Jv N K (c.buses.l.flatMap BusD.av) c.buses.l.length w0 fuel (c.buses.l.length:Int) (j:Int) w (B4 c p k i)=K w (B4 c (A9 (n7 c) (c.buses.l.drop j) j p) e q)
 | 0,j,fuel+1,p,k,i,u,_=>by
  refine⟨k,i,fun K=>?_⟩
  rw[Jv];unfold Sm
  rw[G9 (by omega),cf,Bo (by omega),A9]
 | m+1,j,fuel+1,p,k,i,u,D=>by
  have h:j<c.buses.l.length:=by omega
  have hN:=hs.n64
  have d:=hs.bus
  obtain⟨e,q,v⟩:=KC (w:=w) (w0:=w0) hs m (j+1) fuel (n7 c j c.buses.l[j] p) 1 j (by omega) (by omega)
  refine⟨e,q,fun K=>?_⟩
  rw[Jv];unfold Sm 
  rw[G4 h,ct,Ab h,ct,Ab2,Ap Uu _ _ h,Bc h,A9,←v K]
  have y:c.buses.l[j] ∈ c.buses.l:=Acg h
  have z:=hs.dem _ y
  have s:=@lO R N c
  generalize c.buses.l[j]=b at *
  have A:ble 3 (List.length (b.av++List.flatMap BusD.av (drop (j+1) c.buses.l)))=true:=by rw[Cn,Ab4,Uu];simp
  have C:take 3 (b.av++List.flatMap BusD.av (drop (j+1) c.buses.l))=b.av:=Acj (Uu b)
  rw[A,ct,C,Uu]
  simp only[BusD.av,Aci,Acb,C2,Ay,Bj,C0,U4,decide_true,Acy,cond_true,Ip,Bf (show j<4611686018427387904 by have:=d.2;omega)]
  simp only[s hN (show j≤_ by omega) ⟨by have:=d.1;omega,by have:=d.2;omega⟩,Kg rfl z,Dm]
  rfl
theorem gu {N:Nat} {c:CaseD} {p:B8} {k i:Int} {w:Bool} (hs:Small c N):∃ b d:Int,∀ K:Bool→LA→O R,X3 N w (B4 c p k i) K=K w (B4 c (A9 (n7 c) c.buses.l 0 p) b d):=by
 obtain⟨b,d,h⟩:=KC (R:=R) (w:=w) (w0:=w) hs c.buses.l.length 0 N p k i (by omega) hs.bus.1
 refine⟨b,d,fun K=>?_⟩
 rw[OA];unfold GS
 rw[QO]
 simpa using h K
theorem KD {N:Nat} {c:CaseD} {w w0:Bool} {h0:LA} (hs:Small c N):∀ (m j fuel:Nat) (p:B8) (k i:Int),j+m=c.lines.l.length→m<fuel →
  ∃ e q:Int,∀ K:Bool→LA→O R,Hk N K (c.lines.l.flatMap LineD.av) c.lines.l.length w0 h0 fuel (c.lines.l.length:Int) (j:Int) w (B4 c p k i)=K w (B4 c (A9 (FI c) (c.lines.l.drop j) j p) e q)
 | 0,j,fuel+1,p,k,i,u,_=>by
  refine⟨k,i,fun K=>?_⟩
  rw[Hk];unfold So
  rw[G9 (by omega),cf,Bo (by omega),A9]
 | m+1,j,fuel+1,p,k,i,u,D=>by
  have h:j<c.lines.l.length:=by omega
  have hN:=hs.n64
  have d:=hs.lin
  obtain⟨e,q,v⟩:=KD (w:=w) (w0:=w0) (h0:=h0) hs m (j+1) fuel (FI c j c.lines.l[j] p) 2 j (by omega) (by omega)
  refine⟨e,q,fun K=>?_⟩
  rw[Hk];unfold So Vs Zv EN Zu EM
  rw[G4 h,ct,Ab h,ct,Ab2,Ap C5 _ _ h,Bc h,A9,←v K]
  have y:c.lines.l[j] ∈ c.lines.l:=Acg h
  have z:=hs.law _ y
  have s:=@ZS R N c
  generalize c.lines.l[j]=b at *
  have A:ble 12 (List.length (b.av++List.flatMap LineD.av (drop (j+1) c.lines.l)))=true:=by rw[Cn,Ab4,C5];simp
  have C:take 12 (b.av++List.flatMap LineD.av (drop (j+1) c.lines.l))=b.av:=Acj (C5 b)
  rw[A,ct,C,C5]
  simp only[LineD.av,Aci,Acb,Ad1,Ac1,Acd,Ac5,C2,Ay,Bj,C0,Cn,U4,Aw,Nat.reduceAdd,Nat.reduceLeDiff,decide_true,Acy,Adi,cond_true,Ab8,Ip,Bf (show j<4611686018427387904 by have:=d.2;omega)]
  simp only[s hN (show j≤_ by omega) ⟨by have:=d.1;omega,by have:=d.2;omega⟩,Wj,Dm,QS rfl z,KB,Al (show(1:Int)≠0 by decide),Al (show(3:Int)≠0 by decide)]
  unfold FI;cases Lg b.re<;>cases Lg b.smin<;>cases Lg b.smax<;>rfl
theorem gv {N:Nat} {c:CaseD} {p:B8} {k i:Int} {w:Bool} (hs:Small c N):∃ b d:Int,∀ K:Bool→LA→O R,X6 N w (B4 c p k i) K=K w (B4 c (A9 (FI c) c.lines.l 0 p) b d):=by
 obtain⟨b,d,h⟩:=KD (R:=R) (w:=w) (w0:=w) (h0:=B4 c p k i) hs c.lines.l.length 0 N p k i (by omega) hs.lin.1
 refine⟨b,d,fun K=>?_⟩
 rw[OF];unfold GU
 rw[QP]
 simpa using h K
theorem FW {N:Nat} {c:CaseD} {w w0:Bool} (hs:Small c N):∀ (m j fuel:Nat) (p:B8) (k i:Int),j+m=c.stores.l.length→m<fuel →
  ∃ e q:Int,∀ K:Bool→LA→O R,Hz N K (c.stores.l.flatMap StoreD.av) c.stores.l.length w0 fuel (c.stores.l.length:Int) (j:Int) w (B4 c p k i)=K w (B4 c (A9 (W3 c) (c.stores.l.drop j) j p) e q)
 | 0,j,fuel+1,p,k,i,u,_=>by
  refine⟨k,i,fun K=>?_⟩
  rw[Hz];unfold P3
  rw[G9 (by omega),cf,Bo (by omega),A9]
 | m+1,j,fuel+1,p,k,i,u,A=>by
  have h:j<c.stores.l.length:=by omega
  have hN:=hs.n64
  have d:=hs.sto
  obtain⟨e,q,v⟩:=FW (w:=w) (w0:=w0) hs m (j+1) fuel (W3 c j c.stores.l[j] p) 4 j (by omega) (by omega)
  refine⟨e,q,fun K=>?_⟩
  rw[Hz];unfold P3 
  rw[G4 h,ct,Ab h,ct,Ab2,Ap Gt _ _ h,Bc h,A9,←v K]
  have C:c.stores.l[j] ∈ c.stores.l:=Acg h
  skip
  have s:=@ZU R N c
  generalize c.stores.l[j]=b at *
  have y:ble 9 (List.length (b.av++List.flatMap StoreD.av (drop (j+1) c.stores.l)))=true:=by rw[Cn,Ab4,Gt];simp
  have z:take 9 (b.av++List.flatMap StoreD.av (drop (j+1) c.stores.l))=b.av:=Acj (Gt b)
  rw[y,ct,z,Gt]
  simp only[StoreD.av,setCells,Cy,Adf,Acp,Aek,Aci,Acb,Ad1,Ac1,Acd,Ac5,C2,Ay,Cn,U4,Aw,Nat.reduceAdd,decide_true,Acy,Adi,Acv,cond_true,Ab8,Ab3,Ip,Bf (show j<4611686018427387904 by have:=d.2;omega)]
  simp only[s hN (show j≤_ by omega) ⟨by have:=d.1;omega,by have:=d.2;omega⟩,Wj,Dm,KB,Al (show(3:Int)≠0 by decide)]
  unfold W3;cases Lg b.eff<;>cases decide (b.eff.num>0)<;>rfl
theorem fG {N:Nat} {c:CaseD} {p:B8} {k i:Int} {w:Bool} (hs:Small c N):∃ b d:Int,∀ K:Bool→LA→O R,Tm N w (B4 c p k i) K=K w (B4 c (A9 (W3 c) c.stores.l 0 p) b d):=by
 obtain⟨b,d,h⟩:=FW (R:=R) (w:=w) (w0:=w) hs c.stores.l.length 0 N p k i (by omega) hs.sto.1
 refine⟨b,d,fun K=>?_⟩
 rw[JG];unfold Zy
 rw[UC]
 simpa using h K
theorem QY {N:Nat} {c:CaseD} {w w0:Bool} (hs:Small c N):∀ (m j fuel:Nat) (p:B8) (k i:Int),j+m=c.ties.l.length→m<fuel →
  ∃ e q:Int,∀ K:Bool→LA→O R,Mo N K (c.ties.l.flatMap TieD.av) c.ties.l.length w0 fuel (c.ties.l.length:Int) (j:Int) w (B4 c p k i)=K w (B4 c (A9 (n8 c) (c.ties.l.drop j) j p) e q)
 | 0,j,fuel+1,p,k,i,z,_=>by
  refine⟨k,i,fun K=>?_⟩
  rw[Mo];unfold Vz
  rw[G9 (by omega),cf,Bo (by omega),A9]
 | m+1,j,fuel+1,p,k,i,z,G=>by
  have h:j<c.ties.l.length:=by omega
  have hN:=hs.n64
  have d:=hs.tie
  obtain⟨e,q,A⟩:=QY (w:=w) (w0:=w0) hs m (j+1) fuel (n8 c j c.ties.l[j] p) 5 j (by omega) (by omega)
  refine⟨e,q,fun K=>?_⟩
  rw[Mo];unfold Vz 
  rw[G4 h,ct,Ab h,ct,Ab2,Ap Lw _ _ h,Bc h,A9,←A K]
  have s:c.ties.l[j] ∈ c.ties.l:=Acg h
  have C:=hs.tim _ s;have u:=hs.tex _ s;have v:=hs.tpr _ s
  have y:=@ZV R N c
  generalize c.ties.l[j]=b at *
  have D:ble 5 (List.length (b.av++List.flatMap TieD.av (drop (j+1) c.ties.l)))=true:=by rw[Cn,Ab4,Lw];simp
  have F:take 5 (b.av++List.flatMap TieD.av (drop (j+1) c.ties.l))=b.av:=Acj (Lw b)
  rw[D,ct,F,Lw]
  simp only[TieD.av,Aci,Acb,C2,Ay,Bj,C0,U4,decide_true,Acy,cond_true,Ip,Bf (show j<4611686018427387904 by have:=d.2;omega)]
  simp only[y hN (show j≤_ by omega) ⟨by have:=d.1;omega,by have:=d.2;omega⟩,Wj,Kg rfl C,Kg rfl u,Kg rfl v]
  rfl
theorem lP {N:Nat} {c:CaseD} {p:B8} {k i:Int} {w:Bool} (hs:Small c N):∃ b d:Int,∀ K:Bool→LA→O R,GW N w (B4 c p k i) K=K w (B4 c (A9 (n8 c) c.ties.l 0 p) b d):=by
 obtain⟨b,d,h⟩:=QY (R:=R) (w:=w) (w0:=w) hs c.ties.l.length 0 N p k i (by omega) hs.tie.1
 refine⟨b,d,fun K=>?_⟩
 rw[WI];unfold ON
 rw[lN]
 simpa using h K
theorem QZ {N:Nat} {c:CaseD} {k i s:Int} {u:UnitD} {o w:Bool} {K:Bool→LA→O R} (hs:u.segs.l.length<4611686018427387904):∀ (m j fuel:Nat) (p:B8),j+1+m=u.segs.l.length→m<fuel →
  Fk N K s o u.av fuel ((j+1:Nat):Int) w (B4 c p k i)=K w (B4 c (nd (nd p (TS (u.segs.l.drop j)) (k,i,4) s9) (s==wrap .i64 (u.max - u.min)) (k,i,4) e4) k i)
 | 0,j,fuel+1,p,b,_=>by
  rw[Fk];unfold Iu
  rw[W4,G9 (by omega),cf,Bc (l:=u.segs.l) (j:=j) (by omega),Bo (l:=u.segs.l) (j:=j+1) (by omega),n9,D5,rG,rH,Al (by decide)]
 | m+1,j,fuel+1,p,b,d=>by
  rw[Fk];unfold Iu
  have h:j+1<u.segs.l.length:=by omega
  have h':j<u.segs.l.length:=by omega
  simp only[W4]
  rw[G4 h,ct,Ab h,ct,HB h,ib (by omega),Ab h',ct,HB h',Bf (by omega),Al (by decide),QZ hs m (j+1) fuel _ (by omega) (by omega),Bc h',Bc h,eX,K4]
theorem Q_ {N:Nat} {c:CaseD} {k i:Int} {u:UnitD} {o w:Bool} {K:Bool→LA→O R} (hs:Dr u.segs.l.length N):∀ (m j fuel:Nat) (p:B8) (a:Int),j+m=u.segs.l.length→m<fuel →
  Fl N K (u.segs.l.flatMap SegD.av) u.segs.l.length o u.av fuel a (u.segs.l.length:Int) (j:Int) w (B4 c p k i) =
   K w (B4 c (nd (nd (nd p ((u.segs.l.drop j).all rF) (k,i,4) e3) (TS u.segs.l) (k,i,4) s9) (gh a (u.segs.l.drop j)==wrap .i64 (u.max - u.min)) (k,i,4) e4) k i)
 | 0,j,fuel+1,p,a,e,_=>by
  rw[Fl];unfold L9
  rw[G9 (by omega),cf,Bo (by omega),Adh,D5,gh]
  rcases d:u.segs.l with _ | ⟨b,r⟩
  ·rw[n_,D5]
   have hN:=hs.1
   rcases N with _ | N
   ·omega
   ·dsimp only
    rw[Fk];unfold Iu
    rw[W4,d]
    simp only[Ac5,Acz]
    rw[show decide ((1:Int)<0)=false by decide,cf,rG,rH,Al (by decide)]
  ·have:=QZ (R:=R) (N:=N) (c:=c) (k:=k) (i:=i) (s:=a) (u:=u) (o:=o) (w:=w) (K:=K) hs.2 r.length 0 N p (by rw[d];simp;omega) (by have:=hs.1;rw[d] at this;simp at this;omega)
   rw[d] at this
   simpa using this
 | m+1,j,fuel+1,p,a,e,z=>by
  rw[Fl];unfold L9
  have h:j<u.segs.l.length:=by omega
  have q:=hs.2
  rw[G4 h,ct,Ab h,ct,Ab2,Ap Lx _ _ h,Bc h,Acl,gh,Bf (by omega)]
  have v:ble 2 (List.length (u.segs.l[j].av++List.flatMap SegD.av (drop (j+1) u.segs.l)))=true:=by rw[Cn,Ab4,Lx];simp
  have y:take 2 (u.segs.l[j].av++List.flatMap SegD.av (drop (j+1) u.segs.l))=u.segs.l[j].av:=Acj (Lx _)
  rw[v,ct,y,Lx]
  simp only[SegD.av,setCells,Cy,Adf,Acp,Aek,Aci,Acb,Ac1,Acd,Ac5,Ay,Cn,U4,Aw,Nat.reduceAdd,decide_true,Acy,Adi,Acv,cond_true,Ab8,Ab3,Dm,Q_ hs m (j+1) fuel _ _ (show j+1+m=_ by omega) (show m<fuel by omega)]
  rw[K4,K4,←Bool.and_assoc];rfl
theorem UE {N:Nat} {c:CaseD} {p:B8} {j:Nat} {u:UnitD} {o w:Bool} {K:Bool→LA→O R} (hs:Dr u.segs.l.length N) :
  Mz N u.av o w (B4 c p 3 j) K=K w (B4 c (na u j p) 3 j):=by
 rw[BR];unfold Sq
 simp only[W4,Al (show(8:Int)≠0 by decide),Hh]
 have:=Q_ (R:=R) (N:=N) (c:=c) (k:=3) (i:=j) (u:=u) (o:=o) (w:=w) (K:=K) hs u.segs.l.length 0 N (nd p (decide ((u.segs.l.length:Int)≤8)) (3,j,4) e8) 0 (by omega) hs.1
 simp only[Acb,Acz] at this
 rw[this]
 unfold na
 cases b:nd p (decide ((u.segs.l.length:Int)≤8)) (3,(j:Int),4) e8 with
 | none=>simp[A8]
 | some x =>
  have:(x.2.1 != 0)=true:=by simpa using x.2.2
  simp[A8,this,nd]
theorem XU {N:Nat} {c:CaseD} {k i:Int} {l:List MoveD} {o w:Bool} {K:Bool→LA→O R} (hs:l.length<4611686018427387904):∀ (m j fuel:Nat) (p:B8),j+m=l.length→m<fuel →
  M1 N K (l.flatMap MoveD.av) l.length o fuel (l.length:Int) (j:Int) w (B4 c p k i)=K w (B4 c (nd p ((l.drop j).all sa) (k,i,3) e3) k i)
 | 0,j,fuel+1,p,b,_=>by
  rw[M1];unfold Sw
  rw[G9 (by omega),cf,Bo (by omega),Adh,D5]
 | m+1,j,fuel+1,p,b,q=>by
  rw[M1];unfold Sw
  have h:j<l.length:=by omega
  rw[G4 h,ct,Ab h,ct,Ab2,Ap Dn _ _ h,Bc h,Acl,Bf (by omega)]
  have d:ble 3 (List.length (l[j].av++List.flatMap MoveD.av (drop (j+1) l)))=true:=by rw[Cn,Ab4,Dn];simp
  have e:take 3 (l[j].av++List.flatMap MoveD.av (drop (j+1) l))=l[j].av:=Acj (Dn _)
  rw[d,ct,e,Dn]
  simp only[MoveD.av,setCells,Cy,Adf,Acp,Aek,Aci,Acb,Ac1,Acd,Ac5,Ay,Cn,U4,Aw,Nat.reduceAdd,decide_true,Acy,Adi,Acv,cond_true,Ab8,Ab3,Dm,XU hs m (j+1) fuel _ (show j+1+m=_ by omega) (show m<fuel by omega)]
  rw[K4,K4,←Bool.and_assoc];rfl
theorem XV {N:Nat} {c:CaseD} {k i:Int} {u:OutD} {o w:Bool} {K:Bool→LA→O R} (hs:Dr u.moves.l.length N) (e:u.moves.l.length≤16):∀ (m j fuel:Nat) (p:B8),j+m=u.moves.l.length→m<fuel →
  Jy N K (u.moves.l.flatMap MoveD.av) u.moves.l.length o u.av fuel j (u.moves.l.length:Int) (j:Int) w (B4 c p k i) (Ax ((u.moves.l.take j).map (·.unit))) =
   K w (B4 c (nd (nd (nd p ((u.moves.l.drop j).all (qJ c)) (k,i,3) oZ) (JR (u.moves.l.map (·.unit))) (k,i,3) s9) (u.moves.l.all sa) (k,i,3) e3) k i)
 | 0,j,fuel+1,p,q,_=>by
  rw[Jy];unfold Sx
  have s:j=u.moves.l.length:=by omega
  rw[G9 (by omega),cf,Bo (l:=u.moves.l) (j:=j) (by omega),Adh,D5,Acf,Ab0 (by simp[Eb];omega),Ab0 (show u.moves.l.length≤j by omega)]
  rw[Od (by simp;omega) (by simpa using hs),Al (by decide),aE]
  have:=XU (R:=R) (N:=N) (c:=c) (k:=k) (i:=i) (l:=u.moves.l) (o:=o) (w:=w) (K:=K) hs.2 u.moves.l.length 0 N (nd p (JR (u.moves.l.map (·.unit))) (k,i,3) s9) (by omega) hs.1
  simpa using this
 | m+1,j,fuel+1,p,q,C=>by
  rw[Jy];unfold Sx
  have h:j<u.moves.l.length:=by omega
  have v:=hs.2
  have y:ble 3 (List.length (u.moves.l[j].av++List.flatMap MoveD.av (drop (j+1) u.moves.l)))=true:=by rw[Cn,Ab4,Dn];simp
  have z:take 3 (u.moves.l[j].av++List.flatMap MoveD.av (drop (j+1) u.moves.l))=u.moves.l[j].av:=Acj (Dn _)
  have D:(ble (j+1) 140737488355328&&ble ((j+1)*8) 140737488355328)=true:=by rw[Cn,Cn];simp;omega
  have A:take (j*1) (Ax ((u.moves.l.take j).map (·.unit)))++[.int .i64 u.moves.l[j].unit]=Ax ((u.moves.l.take (j+1)).map (·.unit)):=by
   rw[Ab0 (by simp[Eb];omega),Ace h,Ade,←DS];rfl
  rw[G4 h,ct,Ab h,ct,Ab2,Ap Dn _ _ h,Bc h,Acl,Bf (by omega),y,ct,z,Dn]
  simp only[MoveD.av,setCells,Cy,Adf,Acp,Aek,Aci,Ac1,Acd,Ac5,Ay,Cn,U4,Aw,Nat.reduceAdd,Nat.reduceLeDiff,decide_true,Acy,Adi,Acv,cond_true,Ab8,Ab3,QQ,Al (show(12:Int)≠0 by decide),A,XV hs e m (j+1) fuel _ (show j+1+m=_ by omega) (show m<fuel by omega)]
  rw[K4,K4]
  unfold qJ
  generalize (drop (j+1) u.moves.l).all _=r
  have b:(decide (j≤140737488355327)&&decide ((j+1)*8≤140737488355328))=true:=by simp;omega
  by_cases d:0≤u.moves.l[j].unit
  ·have e1:decide (u.moves.l[j].unit≥0)=true:=by simpa using d
   rw[e1,b];rfl
  ·have e1:decide (u.moves.l[j].unit≥0)=false:=by simpa using d
   rw[e1,b];rfl
theorem gw {N:Nat} {c:CaseD} {p:B8} {j:Nat} {u:OutD} {o w:Bool} {K:Bool→LA→O R} (hs:Dr u.moves.l.length N) :
  ET N u.av o w (B4 c p 6 j) K=K w (B4 c (TT c u j p) 6 j):=by
 rw[OP];unfold GX V0 Z0
 simp only[aE,uK,Al (show(16:Int)≠0 by decide),Al (show(8:Int)≠0 by decide),Hh]
 have key:∀ b:B8,(cond (A8 (nd b (decide ((u.moves.l.length:Int)≤16)) (6,(j:Int),3) e8) != 0) (K w (B4 c (nd b (decide ((u.moves.l.length:Int)≤16)) (6,(j:Int),3) e8) 6 j))
   (Jy N K (u.moves.l.flatMap MoveD.av) u.moves.l.length o u.av N 0 (u.moves.l.length:Int) 0 w (B4 c (nd b (decide ((u.moves.l.length:Int)≤16)) (6,(j:Int),3) e8) 6 j) [])) =
   K w (B4 c (nd (nd (nd (nd b (decide ((u.moves.l.length:Int)≤16)) (6,(j:Int),3) e8) (u.moves.l.all (qJ c)) (6,j,3) oZ) (JR (u.moves.l.map (·.unit))) (6,j,3) s9) (u.moves.l.all sa) (6,j,3) e3) 6 j):=by
  intro b
  cases d:nd b (decide ((u.moves.l.length:Int)≤16)) (6,(j:Int),3) e8 with
  | none =>
   have e:u.moves.l.length≤16:=by
    rcases b with _ | x
    ·by_cases e:u.moves.l.length≤16
     ·exact e
     ·have:decide ((u.moves.l.length:Int)≤16)=false:=by simp;omega
      rw[this] at d;simp[nd] at d
    ·simp[nd] at d
   have:=XV (R:=R) (N:=N) (c:=c) (k:=6) (i:=j) (u:=u) (o:=o) (w:=w) (K:=K) hs e u.moves.l.length 0 N none (by omega) hs.1
   simp only[Ac1,Aei,Acb,Acz,Ax] at this
   simp only[A8,bne_self_eq_false,cond_false]
   exact this
  | some x =>
   have:(x.2.1 != 0)=true:=by simpa using x.2.2
   simp[A8,this,nd]
 unfold TT
 cases m:((u.moves.l.length:Int)==0) with
 | true=>simp only[Adv,cond_false,show(true==false)=false from rfl];exact key _
 | false=>simp only[beq_self_eq_true,Ad6,cond_true,cond_false];exact key _
theorem KE {N:Nat} {c:CaseD} {w w0:Bool} {h0:LA} (hs:Small c N):∀ (m j fuel:Nat) (p:B8) (k i:Int),j+m=c.units.l.length→m<fuel →
  ∃ e q:Int,∀ K:Bool→LA→O R,Hl N K (c.units.l.flatMap UnitD.av) c.units.l.length w0 h0 fuel (c.units.l.length:Int) (j:Int) w (B4 c p k i)=K w (B4 c (A9 (JV c) (c.units.l.drop j) j p) e q)
 | 0,j,fuel+1,p,k,i,C,_=>by
  refine⟨k,i,fun K=>?_⟩
  rw[Hl];unfold Sr
  rw[G9 (by omega),cf,Bo (by omega),A9]
 | m+1,j,fuel+1,p,k,i,C,L=>by
  have h:j<c.units.l.length:=by omega
  have hN:=hs.n64
  have d:=hs.uni
  obtain⟨e,q,D⟩:=KE (w:=w) (w0:=w0) (h0:=h0) hs m (j+1) fuel (JV c j c.units.l[j] p) 3 j (by omega) (by omega)
  refine⟨e,q,fun K=>?_⟩
  rw[Hl];unfold Sr Vv Zx ES Zw ER
  rw[G4 h,ct,Ab h,ct,Ab2,Ap F3 _ _ h,Bc h,A9,←D K]
  have z:c.units.l[j] ∈ c.units.l:=Acg h
  have F:=hs.seg _ z;have s:=hs.uaw _ z
  have u:=@ZT R N c
  generalize c.units.l[j]=b at *
  have G:ble 22 (List.length (b.av++List.flatMap UnitD.av (drop (j+1) c.units.l)))=true:=by rw[Cn,Ab4,F3];simp
  have I:take 22 (b.av++List.flatMap UnitD.av (drop (j+1) c.units.l))=b.av:=Acj (F3 b)
  rw[G,ct,I,F3]
  have v:∀ (p:B8) (K:Bool→LA→O R),Mz N [.str b.name,.int .i64 b.bus,.int .i64 b.min,.int .i64 b.max,b.segs.av 2 SegD.av,.int .i64 b.noLoad,.int .i64 b.rampUp,.int .i64 b.rampDown,.int .i64 b.startRamp,.int .i64 b.stopRamp,.int .i64 b.upTime,.int .i64 b.downTime,.int .i64 b.startTime,.int .i64 b.hotCost,.int .i64 b.coldCost,.int .i64 b.hotHours,.int .i64 b.reserve,.int .i64 b.reservePrice,b.away.av 1 Wq,.int .i64 b.state,.int .i64 b.hours,.int .i64 b.output] w0 w (B4 c p 3 j) K=K w (B4 c (na b j p) 3 j):=fun p K=>UE F
  simp only[UnitD.av,Aci,Acb,Ad1,Ac1,C2,Ay,Bj,C0,Cn,U4,decide_true,Acy,cond_true,cond_false,Ab3,Ip,Bf (show j<4611686018427387904 by have:=d.2;omega)]
  simp only[u hN (show j≤_ by omega) ⟨by have:=d.1;omega,by have:=d.2;omega⟩,Wj,Dm,v,QS rfl s,Al (show(12:Int)≠0 by decide),Al (show(16:Int)≠0 by decide),Al (show(3:Int)≠0 by decide)]
  unfold JV
  unfold Fv
  by_cases A:b.state=0
  ·simp[A]
  ·by_cases y:b.state=1
   ·simp[y]
   ·by_cases s2:b.state=2
    ·simp[s2]
    ·have a0:(b.state==0)=false:=by simpa using A
     have a1:(b.state==1)=false:=by simpa using y
     have a2:(b.state==2)=false:=by simpa using s2
     have a3:(decide (0≤b.state)&&decide (b.state≤2))=false:=by simp;omega
     have a4:(b.state != 1)=true:=by simpa using y
     simp[a0,a1,a2,a3,a4]
theorem gx {N:Nat} {c:CaseD} {p:B8} {k i:Int} {w:Bool} (hs:Small c N):∃ b d:Int,∀ K:Bool→LA→O R,X8 N w (B4 c p k i) K=K w (B4 c (A9 (JV c) c.units.l 0 p) b d):=by
 obtain⟨b,d,h⟩:=KE (R:=R) (w:=w) (w0:=w) (h0:=B4 c p k i) hs c.units.l.length 0 N p k i (by omega) hs.uni.1
 refine⟨b,d,fun K=>?_⟩
 rw[OJ];unfold GV
 rw[QQ]
 simpa using h K
def yf (c:CaseD) (n:Int):Bool:=decide (0≤n)&&decide (n<(c.lines.l.length:Int))
theorem xN {u:OutD}:take 4 u.av=u.av:=rfl
theorem AZ {N:Nat} {c:CaseD} {j:Nat} {x:OutD} {w w0:Bool} {l1 h0:LA} {m2:Nat} {a i12:Int} {K0:Int→Int→Bool→LA→O R} {K:Bool→LA→O R} (hs:Dr x.lines.l.length N) (b:Dr x.moves.l.length N):∀ (m q fuel:Nat) (p:B8),q+m=x.lines.l.length→m<fuel →
  I6 N K0 K l1 m2 w0 a (Ax x.lines.l) x.lines.l.length x.av h0 fuel i12 (x.lines.l.length:Int) (q:Int) w (B4 c p 6 j) =
   K0 a (wrap .i64 (i12+1)) w (B4 c (TT c x j (nd (nd p ((x.lines.l.drop q).all (yf c)) (6,j,1) oZ) (JR x.lines.l) (6,j,1) s9)) 6 j)
 | 0,q,fuel+1,p,e,_=>by
  rw[I6];unfold Nq
  rw[G9 (by omega),cf,Bo (l:=x.lines.l) (j:=q) (by omega),Adh,D5,PQ,Od rfl hs,Al (by decide),xN,gw b];rfl
 | m+1,q,fuel+1,p,e,k=>by
  rw[I6];unfold Nq
  have h:q<x.lines.l.length:=by omega
  have i:=hs.2
  rw[G4 h,ct,Ab h,ct,R5 h,QP,Al (by decide),Al (by decide),Bf (by omega),AZ hs b m (q+1) fuel _ (by omega) (by omega),AZ hs b m (q+1) fuel _ (by omega) (by omega),Bc h,Acl,K4,K4]
  unfold yf
  generalize (drop (q+1) x.lines.l).all _=r
  by_cases d:0≤x.lines.l[q]
  ·have e1:decide (x.lines.l[q]≥0)=true:=by simpa using d
   rw[e1];rfl
  ·have e1:decide (x.lines.l[q]≥0)=false:=by simpa using d
   rw[e1];rfl
theorem CM {N:Nat} {c:CaseD} {w w0:Bool} {h0:LA} (hs:Small c N):∀ (m j fuel:Nat) (p:B8) (k i:Int),j+m=c.outs.l.length→m<fuel →
  ∃ G I:Int,∀ K:Bool→LA→O R,Db N K (c.outs.l.flatMap OutD.av) c.outs.l.length w0 h0 fuel (c.outs.l.length:Int) (j:Int) w (B4 c p k i)=K w (B4 c (A9 (TU c) (c.outs.l.drop j) j p) G I)
 | 0,j,fuel+1,p,k,i,L,_=>by
  refine⟨k,i,fun K=>?_⟩
  rw[Db];unfold Jz
  rw[G9 (by omega),cf,Bo (by omega),A9]
 | m+1,j,fuel+1,p,k,i,L,U=>by
  have h:j<c.outs.l.length:=by omega
  have hN:=hs.n64
  have d:=hs.out
  have C:c.outs.l[j] ∈ c.outs.l:=Acg h
  have D:=hs.oli _ C
  have v:=hs.omo _ C
  obtain⟨M,i1,S⟩:=CM (w:=w) (w0:=w0) (h0:=h0) hs m (j+1) fuel (TU c j c.outs.l[j] p) 6 j (by omega) (by omega)
  cases e:nd (K6 ((c.outs.l.map (·.name)).take j) 6 j c.outs.l[j].name p) ((c.outs.l[j].lines.l.length:Int)==1||(c.outs.l[j].lines.l.length:Int)==2) (6,(j:Int),1) e4 with
  | none =>
   refine⟨M,i1,fun K=>?_⟩
   rw[Db];unfold Jz Ln Nr
   rw[G4 h,ct,Ab h,ct,Ab2,Ap Dj _ _ h,Bc h,A9,←S K]
   have s:=@CL R N c
   generalize c.outs.l[j]=b at *
   have z:ble 4 (List.length (b.av++List.flatMap OutD.av (drop (j+1) c.outs.l)))=true:=by rw[Cn,Ab4,Dj];simp
   have A:take 4 (b.av++List.flatMap OutD.av (drop (j+1) c.outs.l))=b.av:=Acj (Dj b)
   rw[z,ct,A,Dj]
   have q:∀ f:Lu→O R,IP b.av f=f b.name:=fun f=>by simp[OutD.av,C2]
   simp only[U4,decide_true,Acy,Aej,cond_true,Ip,q,PQ,s hN (show j≤_ by omega) ⟨by have:=d.1;omega,by have:=d.2;omega⟩,Al (show(4:Int)≠0 by decide),Hh]
   have l2:=fun p=>AZ (R:=R) (N:=N) (c:=c) (j:=j) (x:=b) (w:=w) (w0:=w0) (l1:=c.outs.l.flatMap OutD.av) (h0:=h0) (m2:=c.outs.l.length) (a:=c.outs.l.length) (i12:=j) (K0:=Db N K (c.outs.l.flatMap OutD.av) c.outs.l.length w0 h0 fuel) (K:=K) D v b.lines.l.length 0 N p (by omega) D.1
   simp only[Acb,Acz] at l2
   simp only[l2,Bf (show j<4611686018427387904 by have:=d.2;omega)]
   unfold TU
   cases u:((b.lines.l.length:Int)==1) with
   | true =>
    rw[u] at e
    simp only[Adv] at e
    simp only[show(true==false)=false from rfl,cond_false,Adv,e,A8,bne_self_eq_false];rfl
   | false =>
    rw[u] at e
    simp only[Ad6] at e
    simp only[beq_self_eq_true,cond_true,cond_false,Ad6,e,A8,bne_self_eq_false];rfl
  | some y =>
   have F:(y.2.1 != 0)=true:=by simpa using y.2.2
   have T:TU c j c.outs.l[j] p=some y:=by unfold TU;simp only;rw[e];rfl
   refine⟨6,j,fun K=>?_⟩
   rw[Db];unfold Jz Ln Nr
   rw[G4 h,ct,Ab h,ct,Ab2,Ap Dj _ _ h,Bc h,A9,T,A4 (fun _ _=>I7)]
   have s:=@CL R N c
   generalize c.outs.l[j]=b at *
   have z:ble 4 (List.length (b.av++List.flatMap OutD.av (drop (j+1) c.outs.l)))=true:=by rw[Cn,Ab4,Dj];simp
   have A:take 4 (b.av++List.flatMap OutD.av (drop (j+1) c.outs.l))=b.av:=Acj (Dj b)
   rw[z,ct,A,Dj]
   have q:∀ f:Lu→O R,IP b.av f=f b.name:=fun f=>by simp[OutD.av,C2]
   simp only[U4,decide_true,Acy,Aej,cond_true,Ip,q,PQ,s hN (show j≤_ by omega) ⟨by have:=d.1;omega,by have:=d.2;omega⟩,Al (show(4:Int)≠0 by decide),Hh]
   cases u:((b.lines.l.length:Int)==1) with
   | true =>
    rw[u] at e
    simp only[Adv] at e
    simp only[show(true==false)=false from rfl,cond_false,e,A8,F,cond_true]
   | false =>
    rw[u] at e
    simp only[Ad6] at e
    simp only[beq_self_eq_true,cond_true,cond_false,e,A8,F]
theorem ZW {N:Nat} {c:CaseD} {p:B8} {k i:Int} {w:Bool} (hs:Small c N):∃ b d:Int,∀ K:Bool→LA→O R,O6 N w (B4 c p k i) K=K w (B4 c (A9 (TU c) c.outs.l 0 p) b d):=by
 obtain⟨b,d,h⟩:=CM (R:=R) (w:=w) (w0:=w) (h0:=B4 c p k i) hs c.outs.l.length 0 N p k i (by omega) hs.out.1
 refine⟨b,d,fun K=>?_⟩
 rw[EV];unfold V1
 rw[aF]
 simpa using h K
end
end Gx.Cf
namespace Gx.Cf
theorem Conn.add {es:List (Nat×Nat)} {u v a b:Nat} (h:Conn (es++[(u,v)]) a b):Conn es a b∨(Conn es a u∧Conn es v b)∨(Conn es a v∧Conn es u b):=by
 induction h with
 | refl=>exact .inl (.refl _)
 | fwd d _ i =>
  rename_i x y k _
  rcases Aca.1 d with d | d
  ·rcases i with i | ⟨j,e⟩ | ⟨j,e⟩
   ·exact .inl (.fwd d i)
   ·exact .inr (.inl ⟨.fwd d j,e⟩)
   ·exact .inr (.inr ⟨.fwd d j,e⟩)
  ·simp at d;obtain⟨rfl,rfl⟩:=d
   rcases i with i | ⟨j,e⟩ | ⟨j,e⟩
   ·exact .inr (.inl ⟨.refl _,i⟩)
   ·exact .inr (.inl ⟨.refl _,e⟩)
   ·exact .inl e
 | bwd d _ i =>
  rename_i x y k _
  rcases Aca.1 d with d | d
  ·rcases i with i | ⟨j,e⟩ | ⟨j,e⟩
   ·exact .inl (.bwd d i)
   ·exact .inr (.inl ⟨.bwd d j,e⟩)
   ·exact .inr (.inr ⟨.bwd d j,e⟩)
  ·simp at d;obtain⟨rfl,rfl⟩:=d
   rcases i with i | ⟨j,e⟩ | ⟨j,e⟩
   ·exact .inr (.inr ⟨.refl _,i⟩)
   ·exact .inl e
   ·exact .inr (.inr ⟨.refl _,e⟩)
theorem Conn.new {es:List (Nat×Nat)} {u v:Nat}:Conn (es++[(u,v)]) u v:=.fwd (Aca.2 (.inr (by simp))) (.refl _)
theorem Conn.old {es:List (Nat×Nat)} {e:Nat×Nat} {a b:Nat} (h:Conn es a b):Conn (es++[e]) a b:=h.mono fun _ d=>Aca.2 (.inl d)
theorem fH (es:List (Nat×Nat)):∀ u:Nat,∃ r,r≤u∧Conn es r u∧Ly es r:=by
 intro u
 induction u using Nat.strongRecOn with
 | ind u e =>
  by_cases h:Ly es u
  ·exact⟨u,Ab3 _,.refl _,h⟩
  ·unfold Ly at h
   have:∃ a,a<u∧Conn es a u:=by
    apply Classical.byContradiction
    intro hn
    exact h fun a b d=>hn ⟨a,b,d⟩
   obtain⟨a,b,d⟩:=this
   obtain⟨r,k,i,j⟩:=e a b
   exact⟨r,by omega,i.trans d,j⟩
theorem Yv {es:List (Nat×Nat)} {r a:Nat} (h:Ly es r) (b:Conn es a r):r≤a:=Adm fun d=>h a d b
theorem fI {p q:Nat→Bool} {m:Nat}:∀ {l:List Nat},l.Nodup→m ∈ l→p m=true→(∀ b ∈ l,q b=(p b&&decide (b≠m)))→(l.filter p).length=(l.filter q).length+1
 | [],_,j,_,_=>by simp at j
 | a::r,k,j,v,hq=>by
  rw[Acu] at k
  by_cases s:a=m
  ·subst s
   have e:(r.filter p)=(r.filter q):=Afa fun b i=>by
    rw[hq b (Adc _ i)]
    have:b≠a:=fun e=>by subst e;exact k.1 i
    simp[this]
   have d:=hq a (by simp)
   simp at d
   simp[Adn,v,d,e]
  ·have u:m ∈ r:=by
    rcases Ach.1 j with h | h
    ·exact absurd h.symm s
    ·exact h
   have y:=fI (p:=p) (q:=q) k.2 u v (fun b i=>hq b (Adc _ i))
   have d:=hq a (by simp)
   simp[s] at d
   rw[Adn,Adn,d]
   cases p a<;>simp[y]
theorem qW {n:Nat} {es:List (Nat×Nat)} {u v:Nat} (h:Conn es u v):F0 n (es++[(u,v)])=F0 n es:=by
 unfold F0
 congr 1
 apply Afa
 intro b _
 have:Ly (es++[(u,v)]) b↔Ly es b:=by
  constructor
  ·intro d a e j;exact d a e j.old
  ·intro d a e j
   rcases j.add with i | ⟨i,k⟩ | ⟨i,k⟩
   ·exact d a e i
   ·exact d a e (i.trans (h.trans k))
   ·exact d a e (i.trans (h.symm.trans k))
 simp[this]
open Classical in
theorem qX {n:Nat} {es:List (Nat×Nat)} {u v:Nat} (hu:u<n) (hv:v<n) (h:¬ Conn es u v):F0 n es=F0 n (es++[(u,v)])+1:=by
 obtain⟨ru,u1,u2,u3⟩:=fH es u
 obtain⟨rv,v1,v2,v3⟩:=fH es v
 have hne:ru≠rv:=fun e=>by subst e;exact h (u2.symm.trans v2)
 unfold F0
 refine fI (m:=max ru rv) List.nodup_range (by rw[List.mem_range];omega) ?_ ?_
 ·have:Ly es (max ru rv):=by rcases Nat.le_total ru rv with h1 | h1<;>simp[h1,Nat.max_eq_right,Nat.max_eq_left,u3,v3]
  simp[this]
 ·intro b _
  have:Ly (es++[(u,v)]) b↔Ly es b∧b≠max ru rv:=by
   constructor
   ·intro hm
    refine⟨fun a ha hc=>hm a ha hc.old,fun e=>?_⟩
    rcases Nat.lt_or_gt_of_ne hne with h1 | h1
    ·rw[Nat.max_eq_right (by omega)] at e;subst e
     exact hm ru h1 (u2.old.trans (Conn.new.trans v2.old.symm))
    ·rw[Nat.max_eq_left (by omega)] at e;subst e
     exact hm rv h1 (v2.old.trans (Conn.new.symm.trans u2.old.symm))
   ·rintro⟨hm,hne2⟩ a ha hc
    rcases hc.add with h1 | ⟨h1,h2⟩ | ⟨h1,h2⟩
    ·exact hm a ha h1
    ·
     have e1:b≤rv:=Yv hm (v2.trans h2)
     have e2:rv≤b:=Yv v3 (h2.symm.trans v2.symm)
     have e3:ru≤a:=Yv u3 (h1.trans u2.symm)
     omega
    ·have e1:b≤ru:=Yv hm (u2.trans h2)
     have e2:ru≤b:=Yv u3 (h2.symm.trans u2.symm)
     have e3:rv≤a:=Yv v3 (h1.trans v2.symm)
     omega
  have hd:decide (Ly (es++[(u,v)]) b)=decide (Ly es b∧b≠max ru rv):=by simp only[this]
  rw[hd]
  by_cases x:Ly es b<;>by_cases y:b=max ru rv<;>simp[x,y]
theorem se (n:Nat):F0 n []=n:=by
 have h0:∀ a b,Conn [] a b→a=b:=by
  intro a b h
  induction h with
  | refl=>rfl
  | fwd d=>simp at d
  | bwd d=>simp at d
 unfold F0
 rw[Aes.2]
 ·simp
 ·intro b _
  have:Ly [] b:=fun a i e=>by have:=h0 a b e;omega
  simp[this]
def Q' (L:List Int) (tx fr:Int):List Int:=L.map fun x=>cond (x==tx) fr x
def U0 (st:List Int×Int) (e:Nat×Nat):List Int×Int :=
 cond (st.1.getD e.1 0==st.1.getD e.2 0) st (Q' st.1 (st.1.getD e.2 0) (st.1.getD e.1 0),st.2 - 1)
theorem oC {f:Int→Int} {L:List Int} {a:Nat} (h:a<L.length):(L.map f).getD a 0=f (L.getD a 0):=by
 rw[Ab9,Ab9,Adr,Ab1 h];rfl
theorem sf {n:Nat} {es:List (Nat×Nat)} {st:List Int×Int} {e:Nat×Nat} (h:UfOk n es st) (z:e.1<n) (A:e.2<n):UfOk n (es++[e]) (U0 st e):=by
 obtain⟨u,v⟩:=e
 unfold U0
 by_cases C:st.1.getD u 0=st.1.getD v 0
 ·have d:(st.1.getD u 0==st.1.getD v 0)=true:=by simpa using C
  simp only[d,cond_true]
  have i:=(h.iff u v z A).1 C
  refine⟨h.len,fun a b q s=>?_,by rw[qW i];exact h.cnt⟩
  rw[h.iff a b q s]
  constructor
  ·exact Conn.old
  ·intro k
   rcases k.add with d | ⟨d,j⟩ | ⟨d,j⟩
   ·exact d
   ·exact d.trans (i.trans j)
   ·exact d.trans (i.symm.trans j)
 ·have d:(st.1.getD u 0==st.1.getD v 0)=false:=by simpa using C
  simp only[d,cond_false]
  have i:¬ Conn es u v:=fun x=>C ((h.iff u v z A).2 x)
  refine⟨by simp[Q',h.len],fun a b q s=>?_,by
   have e:=qX (n:=n) (es:=es) (u:=u) (v:=v) z A i
   show st.2 - 1=_
   rw[h.cnt,e];omega⟩
  have D:a<st.1.length:=by rw[h.len];exact q
  have F:b<st.1.length:=by rw[h.len];exact s
  unfold Q'
  rw[oC D,oC F]
  have iff':=h.iff a b q s
  have av:=h.iff a v q A
  have bv:=h.iff b v s A
  have au:=h.iff a u q z
  have bu:=h.iff b u s z
  by_cases x:st.1.getD a 0=st.1.getD v 0<;>by_cases y:st.1.getD b 0=st.1.getD v 0
  ·have G:Conn es a b:=iff'.1 (x.trans y.symm)
   have x':(st.1.getD a 0==st.1.getD v 0)=true:=by simpa using x
   have m:(st.1.getD b 0==st.1.getD v 0)=true:=by simpa using y
   simp only[x',m,cond_true,true_iff]
   exact G.old
  ·have x':(st.1.getD a 0==st.1.getD v 0)=true:=by simpa using x
   have m:(st.1.getD b 0==st.1.getD v 0)=false:=by simpa using y
   simp only[x',m,cond_true,cond_false]
   constructor
   ·intro e;exact((av.1 x).old.trans Conn.new.symm).trans (bu.1 e.symm).symm.old
   ·intro k
    rcases k.add with d | ⟨d,j⟩ | ⟨d,j⟩
    ·exact absurd (bv.2 (d.symm.trans (av.1 x))) y
    ·exact absurd (d.symm.trans (av.1 x)) i
    ·exact(bu.2 j.symm).symm
  ·have x':(st.1.getD a 0==st.1.getD v 0)=false:=by simpa using x
   have m:(st.1.getD b 0==st.1.getD v 0)=true:=by simpa using y
   simp only[x',m,cond_true,cond_false]
   constructor
   ·intro e;exact(au.1 e).old.trans (Conn.new.trans (bv.1 y).symm.old)
   ·intro k
    rcases k.add with d | ⟨d,j⟩ | ⟨d,j⟩
    ·exact absurd (av.2 (d.trans (bv.1 y))) x
    ·exact au.2 d
    ·exact absurd (j.trans (bv.1 y)) i
  ·have x':(st.1.getD a 0==st.1.getD v 0)=false:=by simpa using x
   have m:(st.1.getD b 0==st.1.getD v 0)=false:=by simpa using y
   simp only[x',m,cond_false]
   rw[iff']
   constructor
   ·exact Conn.old
   ·intro k
    rcases k.add with d | ⟨d,j⟩ | ⟨d,j⟩
    ·exact d
    ·exact absurd (bv.2 j.symm) y
    ·exact absurd (av.2 d) x
theorem v8 (n:Nat):UfOk n [] (Du n,(n:Int)):=by
 refine⟨by simp[Du],fun a b i j=>?_,by rw[se]⟩
 simp only[HC i,HC j]
 constructor
 ·intro e;have:a=b:=by omega
  subst this;exact .refl _
 ·intro h
  have h0:∀ a b,Conn [] a b→a=b:=by
   intro a b h
   induction h with
   | refl=>rfl
   | fwd d=>simp at d
   | bwd d=>simp at d
  rw[h0 a b h]
theorem rX {n:Nat}:∀ (fs es:List (Nat×Nat)) (st:List Int×Int),UfOk n es st→(∀ e ∈ fs,e.1<n∧e.2<n)→UfOk n (es++fs) (fs.foldl U0 st)
 | [],es,st,h,_=>by simpa using h
 | e::r,es,st,h,b=>by
  rw[Ad2]
  have:=rX r (es++[e]) (U0 st e) (sf h (b e (by simp)).1 (b e (by simp)).2) (fun x d=>b x (Adc _ d))
  simpa using this
theorem oD {n:Nat} {es:List (Nat×Nat)} (b:∀ e ∈ es,e.1<n∧e.2<n):(es.foldl U0 (Du n,(n:Int))).2=(F0 n es:Int):=by
 have:=(rX es [] _ (v8 n) b).cnt
 simpa using this
end Gx.Cf
namespace Gx.Cf
open Go Go.Proofs
section
variable {R:Type}
theorem oE {f:Int→Int} {L:List Int} {j:Nat} (h:j<L.length):((L.take j).map f++L.drop j).set j (f L[j])=(L.take (j+1)).map f++L.drop (j+1):=by
 have b:j - ((L.take j).map f).length=0:=by simp;omega
 rw[Afy _ _ (by simp;omega),b,Ace h,Ade,Bc h,Agc,Ads];rfl
theorem oF {f:Int→Int} {L:List Int} {j:Nat} (h:j<L.length):((L.take j).map f++L.drop j).getD j 0=L[j]:=by
 have b:j - ((L.take j).map f).length=0:=by simp;omega
 rw[Ab9,Aec (by simp;omega),b,Bc h];rfl
theorem ip {f:Int→Int} {L:List Int} {j:Nat} (h:j<L.length) (b:f L[j]=L[j]):(L.take j).map f++L.drop j=(L.take (j+1)).map f++L.drop (j+1):=by
 rw[Ace h,Ade,Bc h];simp[b]
theorem KG {N:Nat} {c:CaseD} {L:List Int} {x7 x11 i32 i33 cnt:Int} {ls:List Int} {t1 o1 o0:Bool} {K1:Int→Int→Int→LA→O R} {K:Int→O R} (hs:L.length<4611686018427387904):∀ (m j fuel:Nat),j+m=L.length→m<fuel →
  M2 N K1 K L.length x7 x11 (Ax ls) ls.length t1 o1 i32 i33 o0 c.av fuel cnt (L.length:Int) (j:Int) (Ax ((L.take j).map (fun x=>cond (x==x11) x7 x)++L.drop j))=K1 cnt i32 (wrap .i64 (i33+1)) (Ax (Q' L x11 x7))
 | 0,j,fuel+1,k,_=>by
  rw[M2];unfold S3
  rw[G9 (by omega),cf,Bo (by omega),Acp,Ab0 (by omega)];rfl
 | m+1,j,fuel+1,k,b=>by
  rw[M2];unfold S3
  have h:j<L.length:=by omega
  have d:((L.take j).map (fun x=>cond (x==x11) x7 x)++L.drop j).length=L.length:=by simp;omega
  have e:=KG (N:=N) (c:=c) (L:=L) (x7:=x7) (x11:=x11) (i32:=i32) (i33:=i33) (cnt:=cnt) (ls:=ls) (t1:=t1) (o1:=o1) (o0:=o0) (K1:=K1) (K:=K) hs m (j+1) fuel (by omega) (by omega)
  rw[G4 h,ct,Ab h,ct,gi (by rw[d];simpa using h),Ab2,oF h,ct,AP (by rw[d];exact h),ct,Ab8,Acf,Rg,Bf (by omega)]
  cases i:L[j]==x11 with
  | true =>
   have b:=oE (f:=fun x=>cond (x==x11) x7 x) h
   simp only[i,cond_true] at b
   rw[b,ct,e]
  | false =>
   rw[cf,ip h (by simp[i]),e]
theorem W9 {N:Nat} {c:CaseD} {ls:List Int} {t1 o1 o0:Bool} {K:Int→O R} (hN:8≤N) (e:Dr c.buses.l.length N) (s:ls.length≤1000000) (i:∀ l ∈ ls,∃ x,LnV c l x):∀ (m j fuel:Nat) (st:List Int×Int),j+m=ls.length→m<fuel→st.1.length=c.buses.l.length→(-1000000+(m:Int)≤st.2∧st.2≤1000000) →
  Hm N K c.buses.l.length (Ax ls) ls.length t1 o1 o0 c.av fuel st.2 (ls.length:Int) (j:Int) (Ax st.1)=K ((ls.drop j).map (Dk c) |>.foldl U0 st).2
 | 0,j,fuel+1,st,v,_,_,_=>by
  rw[Hm];unfold S4
  rw[G9 (by omega),cf,Bo (l:=ls) (by omega)];rfl
 | m+1,j,fuel+1,st,v,y,b,z=>by
  rw[Hm];unfold S4 V2 Z2
  have h:j<ls.length:=by omega
  obtain⟨x,d⟩:=i ls[j] (Acg h)
  have k:=W9 (N:=N) (c:=c) (ls:=ls) (t1:=t1) (o1:=o1) (o0:=o0) (K:=K) hN e s i m (j+1) fuel st (by omega) (by omega) b (by omega)
  have q:=W9 (N:=N) (c:=c) (ls:=ls) (t1:=t1) (o1:=o1) (o0:=o0) (K:=K) hN e s i m (j+1) fuel (Q' st.1 (st.1.getD x.tl.toNat 0) (st.1.getD x.fr.toNat 0),st.2 - 1) (by omega) (by omega) (by simp[Q',b]) (by simp only;omega)
  rw[G4 h,ct,Ab h,ct,R5 h]
  simp only[Ge,uM d,uN d]
  rw[Pd d.l0 d.lt,ct,Pd d.f0 d.f1,ct,gi (by rw[b];exact d.f1),ct,Pd d.t0 d.t1,ct,gi (by rw[b];exact d.t1),lM hN,Bf (by omega),Xq (st.2 - 1) (by omega),Bc h]
  have u:=KG (R:=R) (N:=N) (c:=c) (L:=st.1) (x7:=st.1.getD x.fr.toNat 0) (x11:=st.1.getD x.tl.toNat 0) (i32:=(ls.length:Int)) (i33:=(j:Int)) (cnt:=st.2 - 1) (ls:=ls) (t1:=t1) (o1:=o1) (o0:=o0) (K1:=Hm N K c.buses.l.length (Ax ls) ls.length t1 o1 o0 c.av fuel) (K:=K) (by rw[b];exact e.2) st.1.length 0 N (by omega) (by rw[b];exact e.1)
  simp only[Ac1,Aei,Adf,Acb,Acz,b,Bf (show j<4611686018427387904 by omega)] at u
  rw[u]
  rw[Acc,Ad2,HD d,U0]
  cases hq:st.1.getD x.fr.toNat 0==st.1.getD x.tl.toNat 0 with
  | true=>simp only[show(true==false)=false from rfl,cond_false,cond_true];exact k
  | false=>simp only[beq_self_eq_true,cond_false,cond_true];exact q
theorem KH {N:Nat} {c:CaseD} {ls:List Int} {t1 o1 o0:Bool} {K:Int→O R} (hN:8≤N) (b:Dr c.buses.l.length N) (k:c.buses.l.length≤1000000) (e:ls.length≤1000000) (hlN:ls.length<N) (i:∀ l ∈ ls,∃ x,LnV c l x) (L:List Int) (hL:L.length=c.buses.l.length):∀ (m j fuel:Nat),j+m=c.buses.l.length→m<fuel →
  J4 N K (Ax ls) ls.length t1 o1 c.buses.l.length o0 c.av fuel (c.buses.l.length:Int) (j:Int) (Ax ((Du c.buses.l.length).take j++L.drop j))=K ((ls).map (Dk c) |>.foldl U0 (Du c.buses.l.length,(c.buses.l.length:Int))).2
 | 0,j,fuel+1,q,_=>by
  rw[J4];unfold S5
  have:=W9 (R:=R) (N:=N) (c:=c) (ls:=ls) (t1:=t1) (o1:=o1) (o0:=o0) (K:=K) hN b e i ls.length 0 N (Du c.buses.l.length,(c.buses.l.length:Int)) (by omega) hlN (by simp[Du]) (by simp only;omega)
  rw[G9 (by omega),cf,Bo (by omega),Acp,Ab0 (by simp[Du];omega)]
  simpa using this
 | m+1,j,fuel+1,q,s=>by
  rw[J4];unfold S5
  have h:j<c.buses.l.length:=by omega
  have d:((Du c.buses.l.length).take j++L.drop j).length=c.buses.l.length:=by simp[Du];omega
  rw[G4 h,ct,Ab h,ct,AP (by rw[d];simpa using h),ct,Ab2,Ab8,Acf,Rg,LI hL h,Bf (by omega),KH hN b k e hlN i L hL m (j+1) fuel (by omega) (by omega)]
theorem LQ {N:Nat} {c:CaseD} {ls:List Int} {n:Nat} {t1 o1 o0:Bool} {K:Int→O R} (hn:n=ls.length) (hN:8≤N) (b:Dr c.buses.l.length N) (m:c.buses.l.length≤1000000) (q:ls.length≤1000000) (hlN:ls.length<N) (j:∀ l ∈ ls,∃ x,LnV c l x) :
  EW N c.av o0 (Ax ls) n t1 o1 K=K (F0 c.buses.l.length ((ls).map (Dk c)):Int):=by
 subst hn
 rw[OS];unfold GY
 have:=KH (R:=R) (N:=N) (c:=c) (ls:=ls) (t1:=t1) (o1:=o1) (o0:=o0) (K:=K) hN b m q hlN j (replicate c.buses.l.length 0) (by simp) c.buses.l.length 0 N (by omega) b.1
 rw[oD (by
  intro e k
  simp only[Acs] at k
  obtain⟨l,d,rfl⟩:=k
  obtain⟨x,i⟩:=j l d
  rw[HD i];exact⟨i.f1,i.t1⟩)] at this
 have ok:(decide ((0:Int)≤(c.buses.l.length:Int))&&(decide ((c.buses.l.length:Int)≤(c.buses.l.length:Int))&&(decide ((c.buses.l.length:Int)≤(140737488355328:Int))&&decide (((c.buses.l.length:Int)*((8:Nat):Int))≤(140737488355328:Int)))))=true:=by simp;omega
 rw[I0,ok,ct]
 have e:replicate c.buses.l.length (AV.int .i64 (0:Int))=Ax (replicate c.buses.l.length 0):=by simp[Ax]
 rw[e]
 simpa using this
theorem Yw {N:Nat} {c:CaseD} {L:List Int} {x7 x11 i32 i33 cnt:Int} {ls:List Int} {t1 o1 o0:Bool} {gone:List Int} {t2 o2:Bool} {K1:Int→Int→Int→LA→O R} {K:Int→O R} (hs:L.length<4611686018427387904):∀ (m j fuel:Nat),j+m=L.length→m<fuel →
  Hb N K1 K (Ax gone) gone.length t2 o2 L.length x7 x11 (Ax ls) ls.length t1 o1 i32 i33 o0 c.av fuel cnt (L.length:Int) (j:Int) (Ax ((L.take j).map (fun x=>cond (x==x11) x7 x)++L.drop j))=K1 cnt i32 (wrap .i64 (i33+1)) (Ax (Q' L x11 x7))
 | 0,j,fuel+1,k,_=>by
  rw[Hb];unfold Ma
  rw[G9 (by omega),cf,Bo (by omega),Acp,Ab0 (by omega)];rfl
 | m+1,j,fuel+1,k,b=>by
  rw[Hb];unfold Ma
  have h:j<L.length:=by omega
  have d:((L.take j).map (fun x=>cond (x==x11) x7 x)++L.drop j).length=L.length:=by simp;omega
  have e:=Yw (N:=N) (c:=c) (L:=L) (x7:=x7) (x11:=x11) (i32:=i32) (i33:=i33) (cnt:=cnt) (ls:=ls) (t1:=t1) (o1:=o1) (o0:=o0) (gone:=gone) (t2:=t2) (o2:=o2) (K1:=K1) (K:=K) hs m (j+1) fuel (by omega) (by omega)
  rw[G4 h,ct,Ab h,ct,gi (by rw[d];simpa using h),Ab2,oF h,ct,AP (by rw[d];exact h),ct,Ab8,Acf,Rg,Bf (by omega)]
  cases i:L[j]==x11 with
  | true =>
   have b:=oE (f:=fun x=>cond (x==x11) x7 x) h
   simp only[i,cond_true] at b
   rw[b,ct,e]
  | false =>
   rw[cf,ip h (by simp[i]),e]
theorem Pi {N:Nat} {c:CaseD} {ls:List Int} {t1 o1 o0:Bool} {gone:List Int} {t2 o2:Bool} {K:Int→O R} (hN:8≤N) (e:Dr c.buses.l.length N) (u:ls.length≤1000000) (k:∀ l ∈ ls,∃ x,LnV c l x) (q:Dr gone.length N):∀ (m j fuel:Nat) (st:List Int×Int),j+m=ls.length→m<fuel→st.1.length=c.buses.l.length→(-1000000+(m:Int)≤st.2∧st.2≤1000000) →
  Ei N K (Ax gone) gone.length t2 o2 c.buses.l.length (Ax ls) ls.length t1 o1 o0 c.av fuel st.2 (ls.length:Int) (j:Int) (Ax st.1)=K ((((ls.drop j).filter fun l=>!gone.contains l)).map (Dk c) |>.foldl U0 st).2
 | 0,j,fuel+1,st,y,_,_,_=>by
  rw[Ei];unfold Mb
  rw[G9 (by omega),cf,Bo (l:=ls) (by omega)];rfl
 | m+1,j,fuel+1,st,y,A,b,C=>by
  rw[Ei];unfold Mb Ns Ro
  have h:j<ls.length:=by omega
  obtain⟨x,d⟩:=k ls[j] (Acg h)
  have i:=Pi (N:=N) (c:=c) (ls:=ls) (t1:=t1) (o1:=o1) (o0:=o0) (gone:=gone) (t2:=t2) (o2:=o2) (K:=K) hN e u k q m (j+1) fuel st (by omega) (by omega) b (by omega)
  have s:=Pi (N:=N) (c:=c) (ls:=ls) (t1:=t1) (o1:=o1) (o0:=o0) (gone:=gone) (t2:=t2) (o2:=o2) (K:=K) hN e u k q m (j+1) fuel (Q' st.1 (st.1.getD x.tl.toNat 0) (st.1.getD x.fr.toNat 0),st.2 - 1) (by omega) (by omega) (by simp[Q',b]) (by simp only;omega)
  rw[G4 h,ct,Ab h,ct,R5 h]
  simp only[Ge,uM d,uN d]
  rw[Pd d.l0 d.lt,ct,Pd d.f0 d.f1,ct,gi (by rw[b];exact d.f1),ct,Pd d.t0 d.t1,ct,gi (by rw[b];exact d.t1),KA rfl q,Bf (by omega),Xq (st.2 - 1) (by omega),Bc h]
  have v:=Yw (R:=R) (N:=N) (c:=c) (L:=st.1) (x7:=st.1.getD x.fr.toNat 0) (x11:=st.1.getD x.tl.toNat 0) (i32:=(ls.length:Int)) (i33:=(j:Int)) (cnt:=st.2 - 1) (ls:=ls) (t1:=t1) (o1:=o1) (o0:=o0) (gone:=gone) (t2:=t2) (o2:=o2) (K1:=Ei N K (Ax gone) gone.length t2 o2 c.buses.l.length (Ax ls) ls.length t1 o1 o0 c.av fuel) (K:=K) (by rw[b];exact e.2) st.1.length 0 N (by omega) (by rw[b];exact e.1)
  simp only[Ac1,Aei,Adf,Acb,Acz,b,Bf (show j<4611686018427387904 by omega)] at v
  rw[v]
  rw[Adn]
  cases z:gone.contains ls[j] with
  | true =>
   simp only[Aea,cond_true,cond_false,Adx,if_false]
   cases st.1.getD x.fr.toNat 0==st.1.getD x.tl.toNat 0<;>exact i
  | false =>
   simp only[Acv,if_true]
   rw[Acc,Ad2,HD d,U0]
   cases hq:st.1.getD x.fr.toNat 0==st.1.getD x.tl.toNat 0 with
   | true=>simp only[show(true==false)=false from rfl,cond_false,cond_true];exact i
   | false=>simp only[beq_self_eq_true,cond_false,cond_true];exact s
theorem Yx {N:Nat} {c:CaseD} {ls:List Int} {t1 o1 o0:Bool} {gone:List Int} {t2 o2:Bool} {K:Int→O R} (hN:8≤N) (b:Dr c.buses.l.length N) (q:c.buses.l.length≤1000000) (e:ls.length≤1000000) (hlN:ls.length<N) (i:∀ l ∈ ls,∃ x,LnV c l x) (k:Dr gone.length N) (L:List Int) (hL:L.length=c.buses.l.length):∀ (m j fuel:Nat),j+m=c.buses.l.length→m<fuel →
  Fm N K (Ax ls) ls.length t1 o1 (Ax gone) gone.length t2 o2 c.buses.l.length o0 c.av fuel (c.buses.l.length:Int) (j:Int) (Ax ((Du c.buses.l.length).take j++L.drop j))=K (((ls.filter fun l=>!gone.contains l)).map (Dk c) |>.foldl U0 (Du c.buses.l.length,(c.buses.l.length:Int))).2
 | 0,j,fuel+1,s,_=>by
  rw[Fm];unfold Mc
  have:=Pi (R:=R) (N:=N) (c:=c) (ls:=ls) (t1:=t1) (o1:=o1) (o0:=o0) (gone:=gone) (t2:=t2) (o2:=o2) (K:=K) hN b e i k ls.length 0 N (Du c.buses.l.length,(c.buses.l.length:Int)) (by omega) hlN (by simp[Du]) (by simp only;omega)
  rw[G9 (by omega),cf,Bo (by omega),Acp,Ab0 (by simp[Du];omega)]
  simpa using this
 | m+1,j,fuel+1,s,u=>by
  rw[Fm];unfold Mc
  have h:j<c.buses.l.length:=by omega
  have d:((Du c.buses.l.length).take j++L.drop j).length=c.buses.l.length:=by simp[Du];omega
  rw[G4 h,ct,Ab h,ct,AP (by rw[d];simpa using h),ct,Ab2,Ab8,Acf,Rg,LI hL h,Bf (by omega),Yx hN b q e hlN i k L hL m (j+1) fuel (by omega) (by omega)]
theorem gy {N:Nat} {c:CaseD} {ls:List Int} {n:Nat} {t1 o1 o0:Bool} {gone:List Int} {t2 o2:Bool} {n2:Nat} {K:Int→O R} (hn:n=ls.length) (d:n2=gone.length) (hN:8≤N) (b:Dr c.buses.l.length N) (q:c.buses.l.length≤1000000) (s:ls.length≤1000000) (hlN:ls.length<N) (k:∀ l ∈ ls,∃ x,LnV c l x) (u:Dr gone.length N) :
  Qz N c.av o0 (Ax ls) n t1 o1 (Ax gone) n2 t2 o2 K=K (F0 c.buses.l.length (((ls.filter fun l=>!gone.contains l)).map (Dk c)):Int):=by
 subst hn d
 rw[BW];unfold S6
 have:=Yx (R:=R) (N:=N) (c:=c) (ls:=ls) (t1:=t1) (o1:=o1) (o0:=o0) (gone:=gone) (t2:=t2) (o2:=o2) (K:=K) hN b q s hlN k u (replicate c.buses.l.length 0) (by simp) c.buses.l.length 0 N (by omega) b.1
 rw[oD (by
  intro e m
  simp only[Acs,Ad3] at m
  obtain⟨l,i,rfl⟩:=m
  obtain⟨x,j⟩:=k l i.1
  rw[HD j];exact⟨j.f1,j.t1⟩)] at this
 have ok:(decide ((0:Int)≤(c.buses.l.length:Int))&&(decide ((c.buses.l.length:Int)≤(c.buses.l.length:Int))&&(decide ((c.buses.l.length:Int)≤(140737488355328:Int))&&decide (((c.buses.l.length:Int)*((8:Nat):Int))≤(140737488355328:Int)))))=true:=by simp;omega
 rw[I0,ok,ct]
 have e:replicate c.buses.l.length (AV.int .i64 (0:Int))=Ax (replicate c.buses.l.length 0):=by simp[Ax]
 rw[e]
 simpa using this
theorem FX {N:Nat} {c:CaseD} {h:Int} {o:Bool} {K:Nat→LA→O R} (hs:Small c N):∀ (m j fuel:Nat) (A:List Int),j+m=c.lines.l.length→m<fuel→A.length≤j →
  H1 N K h (c.lines.l.flatMap LineD.av) c.lines.l.length o fuel A.length (c.lines.l.length:Int) (j:Int) (Ax A)=K (A++FK h (c.lines.l.drop j) j).length (Ax (A++FK h (c.lines.l.drop j) j))
 | 0,j,fuel+1,A,q,_,_=>by
  rw[H1];unfold P4
  rw[G9 (by omega),cf,Bo (by omega),FK,Acp]
 | m+1,j,fuel+1,A,q,F,hA=>by
  rw[H1];unfold P4
  have d:j<c.lines.l.length:=by omega
  have k:=hs.top.2.1
  have s:c.lines.l[j] ∈ c.lines.l:=Acg d
  have u:=hs.law _ s
  rw[G4 d,ct,Ab d,ct,Ab2,Ap C5 _ _ d,Bc d,FK]
  have e:=FX (N:=N) (c:=c) (h:=h) (o:=o) (K:=K) hs m (j+1) fuel (A++[(j:Int)]) (by omega) (by omega) (by simp;omega)
  have i:=FX (N:=N) (c:=c) (h:=h) (o:=o) (K:=K) hs m (j+1) fuel A (by omega) (by omega) (by omega)
  generalize c.lines.l[j]=b at *
  have v:ble 12 (List.length (b.av++List.flatMap LineD.av (drop (j+1) c.lines.l)))=true:=by rw[Cn,Ab4,C5];simp
  have y:take 12 (b.av++List.flatMap LineD.av (drop (j+1) c.lines.l))=b.av:=Acj (C5 b)
  have z:(ble (A.length+1) 140737488355328&&ble ((A.length+1)*8) 140737488355328)=true:=by rw[Cn,Cn];simp;omega
  have C:∀ f:LA→Nat→O R,Az 1 (drop 11 b.av) f=f (Ax b.away.l) b.away.l.length:=fun f=>by simp[LineD.av,Bj,C0]
  have D:take (A.length*1) (Ax A)++[.int .i64 (j:Int)]=Ax (A++[(j:Int)]):=kp (B:=[(j:Int)]) rfl
  rw[v,ct,y,C5,show((beq 0 0)&&((beq 12 12)&&(beq 12 12)))=true from rfl,ct,C,KA rfl u,z,ct,D,Bf (by omega)]
  cases b.away.l.contains h with
  | true=>simp only[Aea,cond_false,cond_true];exact i
  | false =>
   simp only[Acv,cond_true,cond_false]
   rw[Ab4] at e
   simpa using e
theorem oG {N:Nat} {c:CaseD} {h:Int} {o:Bool} {K:Nat→LA→O R} (hs:Small c N):Ya N c.av o h K=K (As c h).length (Ax (As c h)):=by
 rw[JK];unfold Z1
 have:=FX (R:=R) (N:=N) (c:=c) (h:=h) (o:=o) (K:=K) hs c.lines.l.length 0 N [] (by omega) hs.lin.1 (by simp)
 rw[Ge]
 simpa[As,Ax] using this
theorem oH {c:CaseD} {p:B8} {k i:Int}:take 8 (B4 c p k i)=c.av:=rfl
theorem ud {p:B8} {k i:Int}:(Xr p k i).length=4:=by rcases p with _ | ⟨⟨a,b,f⟩,e⟩<;>rfl
theorem rY {c:CaseD} {p:B8} {k i:Int}:ble 8 (List.length (B4 c p k i))=true:=by
 rw[Cn,B4,Ab4,ud];simp[CaseD.av]
theorem RA {N:Nat} {c:CaseD} {w w0 o31:Bool} {h0:LA} {x1:Int} {hr:Int} (hs:Small c N) (v:PreV c):∀ (m j fuel:Nat) (p:B8) (k i:Int),j+m=c.outs.l.length→m<fuel →
  ∃ q s:Int,∀ (K0:Int→Bool→LA→O R) (K:Bool→LA→O R),Gr N K0 K (As c hr).length (F0 c.buses.l.length ((As c hr).map (Dk c)):Int) x1 (c.outs.l.flatMap OutD.av) c.outs.l.length (Ax (As c hr)) w0 h0 fuel hr hr o31 (c.outs.l.length:Int) (j:Int) w (B4 c p k i) =
   K0 (wrap .i64 (hr+1)) w (B4 c (A9 (nh c hr) (c.outs.l.drop j) j p) q s)
 | 0,j,fuel+1,p,k,i,u,_=>by
  refine⟨k,i,fun K0 K=>?_⟩
  rw[Gr];unfold Nu
  rw[G9 (by omega),cf,Bo (by omega),A9]
 | m+1,j,fuel+1,p,k,i,u,L=>by
  have h:j<c.outs.l.length:=by omega
  have hN:=hs.n64
  have y:c.outs.l[j] ∈ c.outs.l:=Acg h
  have z:=hs.oli _ y
  have d:=hs.top
  have A:=Uv hr c.lines.l 0
  have e:=hs.lin.1
  obtain⟨C,i1,D⟩:=RA (w:=w) (w0:=w0) (o31:=o31) (h0:=h0) (x1:=x1) (hr:=hr) hs v m (j+1) fuel (nh c hr j c.outs.l[j] p) 6 j (by omega) (by omega)
  refine⟨C,i1,fun K0 K=>?_⟩
  rw[Gr];unfold Nu
  rw[G4 h,ct,Ab h,ct,Ab2,Ap Dj _ _ h,Bc h,A9,←D K0 K]
  generalize c.outs.l[j]=b at *
  have F:ble 4 (List.length (b.av++List.flatMap OutD.av (drop (j+1) c.outs.l)))=true:=by rw[Cn,Ab4,Dj];simp
  have G:take 4 (b.av++List.flatMap OutD.av (drop (j+1) c.outs.l))=b.av:=Acj (Dj b)
  rw[F,ct,G,Dj,show((beq 0 0)&&((beq 4 4)&&(beq 4 4)))=true from rfl,ct,Ip,rY,ct,PQ,oH,Acf,Ab0 (by rw[Eb];exact Ab3 _),
   gy rfl rfl (by omega) hs.bus d.1 (by unfold As;omega) (by unfold As;omega) (fun l I=>v.lnV I) z,Al (by decide),Bf (by omega)]
  rfl
theorem RB {N H:Nat} {c:CaseD} {w w0:Bool} {h0:LA} (hs:Small c N) (v:PreV c) (hH:H≤24):∀ (m j fuel:Nat) (p:B8) (k i:Int),j+m=H→m<fuel →
  ∃ q s:Int,∀ K:Bool→LA→O R,E5 N K (H:Int) w0 h0 fuel (j:Int) w (B4 c p k i)=K w (B4 c (Pf c m j p) q s)
 | 0,j,fuel+1,p,k,i,u,_=>by
  refine⟨k,i,fun K=>?_⟩
  rw[E5];unfold Nv
  rw[G9 (by omega),cf,Pf]
 | m+1,j,fuel+1,p,k,i,u,F=>by
  have hN:=hs.n64
  have b:=hs.top
  have y:=Uv (j:Int) c.lines.l 0
  have d:=hs.lin.1
  obtain⟨z,i1,e⟩:=RA (R:=R) (w:=w) (w0:=w0) (o31:=w) (h0:=h0) (x1:=(H:Int)) (hr:=(j:Int)) hs v c.outs.l.length 0 N p k i (by omega) hs.out.1
  obtain⟨A,i2,C⟩:=RB (w:=w) (w0:=w0) (h0:=h0) hs v hH m (j+1) fuel (A9 (nh c j) c.outs.l 0 p) z i1 (by omega) (by omega)
  refine⟨A,i2,fun K=>?_⟩
  rw[E5];unfold Nv
  simp only[Acb,Acz] at e
  rw[G4 (by omega),ct,rY,ct,oH,oG hs,ct,Acf,Ab0 (by rw[Eb];exact Ab3 _),
   LQ rfl (by omega) hs.bus b.1 (by unfold As;omega) (by unfold As;omega) (fun l D=>v.lnV D),aF]
  dsimp only
  rw[e,Bf (by omega),C,Pf]
theorem ZX {N:Nat} {c:CaseD} {p:B8} {k i:Int} {w:Bool} (hs:Small c N) (v:PreV c):∃ b d:Int,∀ K:Bool→LA→O R,O9 N w (B4 c p k i) K=K w (B4 c (Pf c c.hours.toNat 0 p) b d):=by
 have e:=v.hours
 have hN:=hs.n64
 obtain⟨b,d,h⟩:=RB (R:=R) (w:=w) (w0:=w) (h0:=B4 c p k i) hs v (H:=c.hours.toNat) (by omega) c.hours.toNat 0 N p k i (by omega) (by omega)
 refine⟨b,d,fun K=>?_⟩
 rw[EY];unfold V4
 rw[QN]
 have:=h K
 rw[Ae3 (by omega)] at this
 simpa using this
theorem v_ {c:CaseD} {p:B8} {k i:Int} {w:Bool} {K:LA→Int→O R} {X:O R} :
  (An .i64 (drop 11 (B4 c p k i)) fun x3=>cond (x3 != (0:Int)) (cond (ble 3 (List.length (drop 8 (B4 c p k i)))) (cond ((!w)||(Aw (take 3 (drop 8 (B4 c p k i))))) (An .i64 (drop 11 (B4 c p k i)) fun x4=>cond ((beq (List.length (take 3 (drop 8 (B4 c p k i)))) 3)&&((ble 3 3)&&(!false))) (cond (ble 3 (List.length (setCells [(.int .i64 (0:Int)),(.int .i64 (0:Int)),(.int .i64 (0:Int))] 0 (take 3 (drop 8 (B4 c p k i)))))) (K (take 3 (setCells [(.int .i64 (0:Int)),(.int .i64 (0:Int)),(.int .i64 (0:Int))] 0 (take 3 (drop 8 (B4 c p k i))))) x4) none) none) none) none) X) =
  match p with | none=>X | some y=>K (w3 (some y)) y.2.1:=by
 rw[Hh]
 rcases p with _ | ⟨⟨a,b,f⟩,e,d⟩
 ·simp[A8]
 ·have j:(e != 0)=true:=by simpa using d
  rw[Hh]
  simp[A8,j,B4,CaseD.av,Xr,w3,Aw,Cn,U4,setCells,Cy]
def KI (K:LA→Int→O R) (X:Bool→LA→O R) (y1:Bool) (y2:LA):O R :=
   (An .i64 (drop 11 y2) fun x3=>cond (x3 != (0:Int)) (cond (ble 3 (List.length (drop 8 y2))) (cond ((!y1)||(Aw (take 3 (drop 8 y2)))) (An .i64 (drop 11 y2) fun x4=>cond ((beq (List.length (take 3 (drop 8 y2))) 3)&&((ble 3 3)&&(!false))) (cond (ble 3 (List.length (setCells [(.int .i64 (0:Int)),(.int .i64 (0:Int)),(.int .i64 (0:Int))] 0 (take 3 (drop 8 y2))))) (K (take 3 (setCells [(.int .i64 (0:Int)),(.int .i64 (0:Int)),(.int .i64 (0:Int))] 0 (take 3 (drop 8 y2)))) x4) none) none) none) none) (X y1 y2))
theorem Rh {c:CaseD} {p:B8} {k i:Int} {w:Bool} {K:LA→Int→O R} {X:Bool→LA→O R}:KI K X w (B4 c p k i)=match p with | none=>X w (B4 c p k i) | some y=>K (w3 (some y)) y.2.1:=by
 unfold KI;exact v_
theorem yg {N fuel:Nat} {w:Bool} {h:LA} {K:LA→Int→O R}:Au N K (fuel+1) 0 w h=X1 N w h (KI K (Au N K fuel 1)):=by
 rw[Au];unfold Di
 rw[show decide ((0:Int)<8)=true from rfl,ct,show Af (0:Int) 8=true from rfl,ct]
 rfl
theorem yh {N fuel:Nat} {w:Bool} {h:LA} {K:LA→Int→O R}:Au N K (fuel+1) 1 w h=X3 N w h (KI K (Au N K fuel 2)):=by
 rw[Au];unfold Di
 rw[show decide ((1:Int)<8)=true from rfl,ct,show Af (1:Int) 8=true from rfl,ct]
 rfl
theorem yi {N fuel:Nat} {w:Bool} {h:LA} {K:LA→Int→O R}:Au N K (fuel+1) 2 w h=X6 N w h (KI K (Au N K fuel 3)):=by
 rw[Au];unfold Di
 rw[show decide ((2:Int)<8)=true from rfl,ct,show Af (2:Int) 8=true from rfl,ct]
 rfl
theorem yj {N fuel:Nat} {w:Bool} {h:LA} {K:LA→Int→O R}:Au N K (fuel+1) 3 w h=X8 N w h (KI K (Au N K fuel 4)):=by
 rw[Au];unfold Di
 rw[show decide ((3:Int)<8)=true from rfl,ct,show Af (3:Int) 8=true from rfl,ct]
 rfl
theorem yk {N fuel:Nat} {w:Bool} {h:LA} {K:LA→Int→O R}:Au N K (fuel+1) 4 w h=Tm N w h (KI K (Au N K fuel 5)):=by
 rw[Au];unfold Di
 rw[show decide ((4:Int)<8)=true from rfl,ct,show Af (4:Int) 8=true from rfl,ct]
 rfl
theorem yl {N fuel:Nat} {w:Bool} {h:LA} {K:LA→Int→O R}:Au N K (fuel+1) 5 w h=GW N w h (KI K (Au N K fuel 6)):=by
 rw[Au];unfold Di
 rw[show decide ((5:Int)<8)=true from rfl,ct,show Af (5:Int) 8=true from rfl,ct]
 rfl
theorem ym {N fuel:Nat} {w:Bool} {h:LA} {K:LA→Int→O R}:Au N K (fuel+1) 6 w h=O6 N w h (KI K (Au N K fuel 7)):=by
 rw[Au];unfold Di
 rw[show decide ((6:Int)<8)=true from rfl,ct,show Af (6:Int) 8=true from rfl,ct]
 rfl
theorem yn {N fuel:Nat} {w:Bool} {h:LA} {K:LA→Int→O R}:Au N K (fuel+1) 7 w h=O9 N w h (KI K (Au N K fuel 8)):=by
 rw[Au];unfold Di
 rw[show decide ((7:Int)<8)=true from rfl,ct,show Af (7:Int) 8=true from rfl,ct]
 rfl
theorem gz {N:Nat} {c:CaseD} {o:Bool} {K:LA→Int→O R} (hs:Small c N):EZ N c.av o K=K (w3 (Ig c)) (A8 (Ig c)):=by
 have hN:=hs.n64
 have A:setCells [(.int .i64 (0:Int)),.nsl,.nsl,.nsl,.nsl,.nsl,.nsl,.nsl,(.int .i64 (0:Int)),(.int .i64 (0:Int)),(.int .i64 (0:Int)),(.int .i64 (0:Int))] 0 c.av=B4 c none 0 0:=rfl
 rw[OY];unfold GZ
 rw[Bz,D3,ct,A,show((beq (List.length c.av) 8)&&(ble 8 12))=true from rfl,ct]
 obtain⟨n,hn⟩:∃ n,N=n+9:=⟨N - 9,by omega⟩
 have fin:∀ (y:(Int×Int×Int)×{ e:Int // e≠0 }),LL c=some y→K (w3 (some y)) y.2.1=K (w3 (Ig c)) (A8 (Ig c)):=by
  intro y C
  unfold Ig;rw[C];rfl
 have st:Au N K N 0 (o||false) (B4 c none 0 0)=Au N K (n+9) 0 (o||false) (B4 c none 0 0):=by rw[←hn]
 try dsimp only
 rw[st,yg,gt hs,Rh]
 cases b:TR c none with
 | some y =>
  refine fin y ?_
  unfold LL;simp only;rw[b,A4 (fun _ _=>HF _ _ _),A4 (fun _ _=>Uw _ _ _),A4 (fun _ _=>Pe _ _ _),A4 (fun _ _=>Kc _ _ _),A4 (fun _ _=>M7 _ _ _),A4 (fun _ _=>I7)]
 | none =>
  try dsimp only
  rw[yh]
  obtain⟨D,i1,F⟩:=gu (R:=R) (p:=none) (k:=0) (i:=0) (w:=(o||false)) hs
  rw[F,Rh]
  cases d:A9 (n7 c) c.buses.l 0 none with
  | some y =>
   refine fin y ?_
   unfold LL;simp only;rw[b,d,A4 (fun _ _=>Uw _ _ _),A4 (fun _ _=>Pe _ _ _),A4 (fun _ _=>Kc _ _ _),A4 (fun _ _=>M7 _ _ _),A4 (fun _ _=>I7)]
  | none =>
   try dsimp only
   rw[yi]
   obtain⟨G,i2,I⟩:=gv (R:=R) (p:=none) (k:=D) (i:=i1) (w:=(o||false)) hs
   rw[I,Rh]
   cases j:A9 (FI c) c.lines.l 0 none with
   | some y =>
    refine fin y ?_
    unfold LL;simp only;rw[b,d,j,A4 (fun _ _=>Pe _ _ _),A4 (fun _ _=>Kc _ _ _),A4 (fun _ _=>M7 _ _ _),A4 (fun _ _=>I7)]
   | none =>
    try dsimp only
    rw[yj]
    obtain⟨L,i3,M⟩:=gx (R:=R) (p:=none) (k:=G) (i:=i2) (w:=(o||false)) hs
    rw[M,Rh]
    cases m:A9 (JV c) c.units.l 0 none with
    | some y =>
     refine fin y ?_
     unfold LL;simp only;rw[b,d,j,m,A4 (fun _ _=>Kc _ _ _),A4 (fun _ _=>M7 _ _ _),A4 (fun _ _=>I7)]
    | none =>
     try dsimp only
     rw[yk]
     obtain⟨S,i4,T⟩:=fG (R:=R) (p:=none) (k:=L) (i:=i3) (w:=(o||false)) hs
     rw[T,Rh]
     cases q:A9 (W3 c) c.stores.l 0 none with
     | some y =>
      refine fin y ?_
      unfold LL;simp only;rw[b,d,j,m,q,A4 (fun _ _=>M7 _ _ _),A4 (fun _ _=>I7)]
     | none =>
      try dsimp only
      rw[yl]
      obtain⟨U,i5,V⟩:=lP (R:=R) (p:=none) (k:=S) (i:=i4) (w:=(o||false)) hs
      rw[V,Rh]
      cases u:A9 (n8 c) c.ties.l 0 none with
      | some y =>
       refine fin y ?_
       unfold LL;simp only;rw[b,d,j,m,q,u,A4 (fun _ _=>I7)]
      | none =>
       try dsimp only
       rw[ym]
       obtain⟨X,i6,Y⟩:=ZW (R:=R) (p:=none) (k:=U) (i:=i5) (w:=(o||false)) hs
       rw[Y,Rh]
       cases z:A9 (TU c) c.outs.l 0 none with
       | some y =>
        refine fin y ?_
        unfold LL;simp only;rw[b,d,j,m,q,u,z]
       | none =>
        have s:LL c=none:=by unfold LL;simp only;rw[b,d,j,m,q,u,z]
        have v:=ic s
        try dsimp only
        rw[yn]
        obtain⟨k7,i7,g7⟩:=ZX (R:=R) (p:=none) (k:=X) (i:=i6) (w:=(o||false)) hs v
        rw[g7,Rh]
        have hc:Ig c=Pf c c.hours.toNat 0 none:=by unfold Ig;rw[s]
        rw[hc]
        cases hq:Pf c c.hours.toNat 0 none with
        | some y=>rfl
        | none =>
         try dsimp only
         rw[Au];unfold Di
         rfl
end
end Gx.Cf
namespace Gx
def val:List Nat→Nat
 | []=>0
 | x::r=>x+4294967296*val r
def Be (l:List Nat):Prop:=∀ x ∈ l,x<4294967296
def oI:Nat→Nat→List Nat
 | 0,_=>[]
 | f+1,n=>if n=0 then [] else n%4294967296::oI f (n/4294967296)
def Bn (n:Nat):List Nat:=oI n n
theorem rZ:∀ (f n:Nat),n≤f→∀ g,n≤g→oI f n=oI g n
 | 0,n,h,g,_=>by
  have:n=0:=by omega
  subst this;cases g<;>simp[oI]
 | f+1,n,h,g,b=>by
  by_cases h0:n=0
  ·subst h0;cases g<;>simp[oI]
  ·cases g with
   | zero=>omega
   | succ g=>simp only[oI,h0,if_false];rw[rZ f _ (by omega) g (by omega)]
theorem Ft:Bn 0=[]:=rfl
theorem A_ {n:Nat} (h:n≠0):Bn n=n%4294967296::Bn (n/4294967296):=by
 unfold Bn
 cases n with
 | zero=>omega
 | succ n=>simp only[oI,h,if_false];rw[rZ n _ (by omega) ((n+1)/4294967296) (by omega)]
theorem Br:∀ n,val (Bn n)=n:=by
 intro n
 induction n using Nat.strongRecOn with
 | _ n b =>
  by_cases h:n=0
  ·subst h;rfl
  ·rw[A_ h,val,b _ (by omega)];omega
theorem Ba:∀ n,Be (Bn n):=by
 intro n
 induction n using Nat.strongRecOn with
 | _ n d =>
  by_cases h:n=0
  ·subst h;intro x b;simp[Ft] at b
  ·rw[A_ h];intro x b
   simp at b
   rcases b with rfl | b
   ·omega
   ·exact d _ (by omega) x b
theorem iq:Be []:=by intro x b;simp at b
theorem Kh {x:Nat} {r:List Nat}:Be (x::r)↔x<4294967296∧Be r:=by simp[Be]
theorem Pj {a:List Nat} (h:Be a) (n:Nat):Be (a.take n):=fun x b=>h x (Aez b)
theorem Yy {a:List Nat} (h:Be a) {i:Nat} (hi:i<a.length):a[i]<4294967296:=h _ (Acg hi)
theorem UF {a:List Nat} (h:Be a) {v:Nat} (e:v<4294967296) (i:Nat):Be (a.set i v):=fun x d=>by
 rcases List.mem_or_eq_of_mem_set d with b | b
 ·exact h x b
 ·omega
theorem Rr (n:Nat):Be (replicate n 0):=fun x b=>by simp at b;omega
theorem LR:∀ (a b:List Nat),val (a++b)=val a+4294967296 ^ a.length*val b
 | [],b=>by simp[val]
 | x::r,b=>by
  simp only[Ada,val,Acd,LR r b,Acw]
  rw[Ad7,←Acx,←Aee];congr 2;rw[Ado]
theorem Qp:∀ n,val (replicate n 0)=0
 | 0=>rfl
 | n+1=>by rw[Ae4,val,Qp n]
theorem Mt:∀ {a:List Nat},Be a→val a<4294967296 ^ a.length
 | [],_=>by simp[val]
 | x::r,h=>by
  have b:=Kh.1 h
  have d:=Mt b.2
  rw[val,Acd,Acw]
  omega
theorem qY (a:List Nat) (x:Nat):val (a++[x])=val a+4294967296 ^ a.length*x:=by rw[LR];simp[val]
theorem LT {n:Nat} (h:n≠0):Bn n≠[]:=by rw[A_ h];simp
theorem fJ {n:Nat}:Bn n=[]↔n=0:=by
 constructor
 ·intro h;by_cases h0:n=0;exact h0;exact absurd h (LT h0)
 ·intro h;rw[h];rfl
theorem Es {n:Nat}:(Bn n).length=0↔n=0:=by rw[Afk,fJ]
theorem Fz:∀ {l:List Nat},Be l→l=Bn (val l)++replicate (l.length - (Bn (val l)).length) 0∧(Bn (val l)).length≤l.length
 | [],_=>by simp[val,Ft]
 | x::r,h=>by
  have d:=Kh.1 h
  obtain⟨b,e⟩:=Fz d.2
  rw[val]
  by_cases h0:x+4294967296*val r=0
  ·have i:x=0:=by omega
   have hr:val r=0:=by omega
   rw[h0,Ft]
   rw[hr,Ft] at b
   simp at b
   subst i
   refine⟨?_,by simp⟩
   rw[Adf,Ac5,Nat.sub_zero,Acd,Ae4,←b]
  ·rw[A_ h0,show(x+4294967296*val r)%4294967296=x by omega,show(x+4294967296*val r)/4294967296=val r by omega]
   refine⟨?_,by simp;exact e⟩
   rw[Ada,Acd,Acd,Nat.add_sub_add_right,←b]
theorem ue:∀ (n:Nat) (h:Bn n≠[]),(Bn n).getLast h≠0:=by
 intro n
 induction n using Nat.strongRecOn with
 | _ n i =>
  intro h
  have h0:n≠0:=fun e=>h (by rw[e];rfl)
  have e:=A_ h0
  by_cases d:n/4294967296=0
  ·rw[d,Ft] at e
   have:n<4294967296:=by omega
   simp[e];omega
  ·have b:=LT d
   have:=i _ (by omega) b
   have j:(Bn n).getLast h=(Bn (n/4294967296)).getLast b:=by
    simp only[e];rw[List.getLast_cons b]
   rw[j];exact this
theorem xO:∀ {l:List Nat},Be l→(∀ h:l≠[],l.getLast h≠0)→Bn (val l)=l:=by
 intro l h m
 obtain⟨b,q⟩:=Fz h
 by_cases i:l.length - (Bn (val l)).length=0
 ·rw[i] at b;simpa using b.symm
 ·exfalso
  obtain⟨k,i⟩:=Nat.exists_eq_succ_of_ne_zero i
  rw[i,List.replicate_succ',←Ads] at b
  have d:l≠[]:=by intro e;rw[e] at b;simp at b
  apply m d
  have j:l.getLast?=some 0:=by rw[b,List.getLast?_append];rfl
  rw[List.getLast?_eq_some_getLast d] at j
  simpa using j
theorem lQ {n k:Nat} (h:n<4294967296 ^ k):(Bn n).length≤k:=by
  induction k generalizing n with
  | zero => have : n = 0 := by simpa using h
            subst this;simp[Ft]
  | succ k b =>
    by_cases h0:n=0
    · subst h0;simp[Ft]
    · rw[A_ h0,Acd]
      have:n/4294967296<4294967296 ^ k:=by
        rw[Acw] at h
        exact Nat.div_lt_of_lt_mul (by rw[Ado];exact h)
      have:=b this
      omega
theorem Dc {a b:Nat} (h:a≤b):(Bn a).length≤(Bn b).length:=by
 apply lQ
 have:=Mt (Ba b)
 rw[Br] at this
 omega
end Gx
namespace Gx
open Go
section
variable {R:Type}
def Av (l:List Nat):LA:=l.map fun n:Nat=>.int .u32 (n:Int)
theorem ir (x:Nat) (l:List Nat):Av (x::l)=.int .u32 (x:Int)::Av l:=rfl
theorem Cm (l:List Nat):(Av l).length=l.length:=by simp[Av]
theorem sh (l:List Nat) (n:Nat):(Av l).drop n=Av (l.drop n):=by simp[Av,List.map_drop]
theorem HK (l:List Nat) (n:Nat):(Av l).take n=Av (l.take n):=by simp[Av,List.map_take]
theorem uf (l:List Nat) (j:Nat) (v:Nat):List.set (Av l) j (.int .u32 (v:Int))=Av (l.set j v):=by simp[Av,List.map_set]
theorem U2 (n:Nat):replicate n (AV.int .u32 0)=Av (replicate n 0):=by simp[Av]
theorem ug {l:List Nat} {i:Nat} (h:i<l.length) {f:Int→O R}:An .u32 (drop i (Av l)) f=f (l[i]:Nat):=by
 rw[sh,Ack h,ir,Ay]
theorem FY:∀ l:List Nat,Aw (Av l)=true
 | []=>rfl
 | x::r=>by rw[ir,Aw];exact FY r
theorem xP (a b:Nat):(a:Int)+(b:Int)=((a+b:Nat):Int):=by omega
theorem Aak (a b:Nat):(a:Int)*(b:Int)=((a*b:Nat):Int):=by simp
theorem qZ {a:Nat} (h:a<18446744073709551616):wrap .u64 (a:Int)=(a:Int):=wrap_u64 a h
theorem zP {a:Nat} (h:a<4294967296):wrap .u32 (a:Int)=(a:Int):=wrap_u32 a h
theorem xQ (a:Nat):wrap .u32 (a:Int)=((a%4294967296:Nat):Int):=sM a
theorem Aal (a:Int):wrap .u64 a=a%18446744073709551616:=IntKind.wrap_u64 a
theorem uh {a b:Nat} (d:a<18446744073709551616) (e:b≤a):wrap .u64 ((a:Int) - (b:Int))=((a - b:Nat):Int):=by rw[Aal];omega
theorem xR (a:Nat):Int.fdiv (a:Int) (2 ^ 32)=((a/4294967296:Nat):Int):=b_ a 32
theorem i64 {a:Int} (h:-9223372036854775808≤a∧a≤9223372036854775807):wrap .i64 a=a:=Xq a h
theorem Aam {a b:Nat} (d:a<18446744073709551616) (e:b<18446744073709551616):bZ .u64 (a:Int) (b:Int)=((a ||| b:Nat):Int):=iP rfl d e
theorem ui {a b k:Nat} (h:b<2 ^ k):a*2 ^ k ||| b=a*2 ^ k+b:=by
 rw[←Nat.shiftLeft_eq,Nat.shiftLeft_add_eq_or_of_lt h]
end
end Gx
namespace Gx
open Go Go.Proofs
section
variable {R:Type}
def fit (k N:Nat):Prop:=100*k+1000≤N∧k≤1000000000
theorem fit.le {j k N:Nat} (h:fit k N) (b:j≤k):fit j N:=⟨by have:=h.1;omega,by have:=h.2;omega⟩
theorem ct (x y:O R):cond true x y=x:=rfl
theorem cf (x y:O R):cond false x y=y:=rfl
theorem xi (x y:Bool):cond true x y=x:=rfl
theorem yo (c:Nat):((decide (((c+1:Nat):Int)>(0:Int)))==true)=true:=by simp
theorem G4 {j n:Nat} (h:j<n):decide ((j:Int)<(n:Int))=true:=by simp;omega
theorem G9 {j n:Nat} (h:n≤j):decide ((j:Int)<(n:Int))=false:=by simp;omega
theorem wS {j:Nat} (h:j≤1000000000000):wrap .i64 ((j:Int)+1)=((j+1:Nat):Int):=by rw[i64 (by omega)];omega
theorem wP {j:Nat} (h:j≤1000000000000):wrap .i64 (((j+1:Nat):Int) - 1)=(j:Int):=by rw[i64 (by omega)];omega
theorem w_ {l:List Nat} {j:Nat} (h:j<l.length) {f:Int→O R}:An .u32 (drop ((Int.toNat (j:Int))*1) (Av l)) f=f (l[j]:Nat):=by
 rw[Ab2,Acf,ug h]
theorem fK {l:List Nat} {j:Nat} (h:j<l.length) {f:Int→O R}:An .u32 (drop (0+((Int.toNat (j:Int))*1)) (Av l)) f=f (l[j]:Nat):=by
 rw[Ab8,w_ h]
theorem zQ {c a:Nat} (h:c≤a):((decide ((0:Int)≤(0:Int)))&&((decide ((0:Int)≤(c:Int)))&&((decide ((c:Int)≤(a:Int)))&&(decide ((a:Int)≤(a:Int))))))=true:=by
 simp;omega
theorem Aan {n:Nat} (h:n≤1000000000000):((decide ((0:Int)≤(n:Int)))&&((decide ((n:Int)≤(n:Int)))&&((decide ((n:Int)≤(140737488355328:Int)))&&(decide (((n:Int)*((4:Nat):Int))≤(140737488355328:Int))))))=true:=by
 simp;omega
theorem wH {x:Nat} {m:List Nat} (h:x<m.length):((beq 1 1)&&((ble ((0+((Int.toNat (x:Int))*1))+1) (List.length (Av m)))&&(!false)))=true:=by
 rw[Cm,Ab2];simp;omega
theorem uj {x v:Nat} {m:List Nat}:List.set (Av m) (0+((Int.toNat (x:Int))*1)) (.int .u32 (v:Int))=Av (m.set x v):=by
 rw[Ab2,Acf,Ab8,uf]
theorem uk {l:List Nat} (h:Be l):l.take (Bn (val l)).length=Bn (val l):=by
 obtain⟨b,d⟩:=Fz h
 rw[congrArg (take (Bn (val l)).length) b,List.take_left]
theorem si {l:List Nat} (h:Be l):take ((Bn (val l)).length*1) (Av l)=Av (Bn (val l)):=by rw[Acf,HK,uk h]
theorem Gy {l:List Nat} {c:Nat} (h:c<l.length):val (l.take (c+1))=val (l.take c)+4294967296 ^ c*l[c]:=by
 rw[Ace h,qY,Ac7,Ac6 (by omega)]
theorem r5 {l:List Nat} {c:Nat} (b:Be l) (h:c<l.length) (h0:l[c]≠0):Bn (val (l.take (c+1)))=l.take (c+1):=by
 apply xO (Pj b _)
 intro d
 rw[Afi]
 simp only[Ac7,Ac6 (show c+1≤l.length by omega),Agg,List.getElem_take]
 exact h0
theorem iw {N:Nat} {l:List Nat} {t o:Bool} {K:LA→Nat→O R} (b:Be l) (hs:l.length≤1000000000000):∀ (c fuel:Nat),c≤l.length→c<fuel →
  Hs N K (Av l) l.length t o fuel (c:Int)=K (Av (Bn (val (l.take c)))) (Bn (val (l.take c))).length
 | 0,fuel+1,d,_=>by
  rw[Hs];unfold Pv
  rw[show decide (((0:Nat):Int)>0)=false by simp]
  rw[show((false:Bool)==true)=false by rfl,cf,zQ (by omega),ct,Ab2];rfl
 | c+1,fuel+1,d,e=>by
  rw[Hs];unfold Pv
  rw[yo,ct,wP (by omega),Ab (by omega),ct,w_ (by omega),xi,zQ (by omega),ct,iw b hs c fuel (by omega) (by omega),Ab2,Acf,HK]
  by_cases h0:l[c]=0
  ·rw[Gy (by omega),h0];simp
  ·rw[r5 b (by omega) h0,Ac7,Ac6 d]
   rw[show(((l[c]:Nat):Int)==0)=false by simp;exact h0,cf]
theorem sj {N:Nat} {l:List Nat} {n:Nat} {t o:Bool} {K:LA→Nat→O R} (hn:n=l.length) (d:Be l) (b:fit l.length N):Xs N (Av l) n t o K=K (Av (Bn (val l))) (Bn (val l)).length:=by
 subst hn
 have e:=b.1;have i:=b.2
 rw[IS];unfold Zj
 rw[iw d (by omega) l.length N (Ab3 _) (by omega),Ady]
theorem sk {N:Nat} {K:LA→O R} (hN:1≤N):Xt N K=K []:=by
 rw[IU];unfold Zk
 cases N with
 | zero=>omega
 | succ N=>rw[Nk];rfl
def BA (x y:Nat):Int:=if x<y then -1 else if y<x then 1 else 0
theorem HL (x:Nat):BA x x=0:=by unfold BA;simp
theorem fL {a b:Nat} (h:(Bn a).length<(Bn b).length):a<b:=Nat.lt_of_not_le fun d=>by
 have:=Dc d;omega
theorem r6 {u w p q P:Nat} (b:u<P) (d:w<P) (h:p<q):u+P*p<w+P*q:=by
 have:P*(p+1)≤P*q:=Adp _ h
 rw[Ad7] at this
 omega
theorem fM {N:Nat} {a:List Nat} {n:Nat} {t o:Bool} {K:Int→O R} (hn:n=a.length) (d:Be a) (b:fit a.length N):O2 N (Av a) n t o K=K (BA (val a) 0):=by
 subst hn
 have e:=b.1;have i:=b.2
 rw[DT];unfold Vd
 dsimp only
 rw[sj rfl d b,sk (by omega)]
 by_cases h0:val a=0
 ·rw[h0,Ft,HL]
  cases N with
  | zero=>omega
  | succ N =>
   rw[Ll];unfold T3
   rw[i64 (by simp)];simp
 ·have j:(Bn (val a)).length≠0:=fun h=>h0 (Es.1 h)
  rw[show((((Bn (val a)).length:Nat):Int) != (0:Int))=true by simp;exact fun h=>h0 (fJ.1 h),ct]
  rw[show decide ((((Bn (val a)).length:Nat):Int)<(0:Int))=false by simp,cf]
  unfold BA;rw[if_neg (by omega),if_pos (by omega)]
theorem lR:∀ {S:List Nat} {d v:Nat} (h:d<S.length),val (S.set d v)+4294967296 ^ d*S[d]=val S+4294967296 ^ d*v
 | x::r,0,v,_=>by simp[val];omega
 | x::r,d+1,v,h=>by
  have b:=lR (S:=r) (d:=d) (v:=v) (by simpa using h)
  simp only[List.set_cons_succ,val,Afq,Acw]
  have e1:∀ y,4294967296 ^ d*4294967296*y=4294967296*(4294967296 ^ d*y):=fun y=>by rw[Ado (4294967296 ^ d),Aee]
  rw[e1,e1]
  omega
theorem UG (b:List Nat) (d:Nat):val (b.take (d+1))=val (b.take d)+4294967296 ^ d*b.getD d 0:=by
 by_cases h:d<b.length
 ·rw[Gy h,Ab9,Ab1 h];rfl
 ·rw[Ab0 (by omega),Ab0 (by omega),Ab9,Adu (by omega)];simp
theorem oJ (P s:Nat):P*(s%4294967296)+P*4294967296*(s/4294967296)=P*s:=by
 rw[Aee,←Ad7,Afo,Ad4]
def xj (S:List Nat) (d:Nat):Prop:=∀ j (h:j<S.length),d≤j→S[j]=0
theorem r7 {S:List Nat} {d v:Nat} (h:xj S d):xj (S.set d v) (d+1):=fun j b e=>by
 rw[List.getElem_set]
 rw[if_neg (by omega)]
 exact h j (by simpa using b) (by omega)
theorem KJ (n:Nat):xj (replicate n 0) 0:=fun j b _=>by simp
theorem r8 {S:List Nat} {d v:Nat} (h:xj S d) (b:d<S.length):val (S.set d v)=val S+4294967296 ^ d*v:=by
 have:=lR (v:=v) b
 rw[h d b (Ab3 _)] at this;simpa using this
theorem yp {n:Nat} (h:n≠0):((n:Int)==(0:Int))=false:=by rw[beq_eq_false_iff_ne];omega
theorem va {v:Nat} (h:(Bn v).length≤2):v<18446744073709551616:=by
 have:=Mt (Ba v)
 rw[Br] at this
 have b:4294967296 ^ (Bn v).length≤4294967296 ^ 2:=Ael (by omega) h
 omega
theorem vd {v:Nat} (h:v<18446744073709551616):(Bn v).length≤2:=lQ (by simpa using h)
theorem ix {X:List Nat} {n:Nat} (h:X.length=n+1):val X=val (X.take n)+4294967296 ^ n*X[n]:=by
 have:=Gy (l:=X) (c:=n) (by omega)
 rwa [Ab0 (by omega)] at this
theorem ul (a b:Nat):Int.tdiv (a:Int) (b:Int)=((a/b:Nat):Int):=rfl
theorem um (a b:Nat):Int.tmod (a:Int) (b:Int)=((a%b:Nat):Int):=rfl
theorem Aao {a b:Nat} (d:a<4294967296) (e:b<4294967296):bZ .u64 (wrap .u64 ((a:Int)*2 ^ 32)) (b:Int)=((a*4294967296+b:Nat):Int):=by
 rw[show(2:Int) ^ 32=((2 ^ 32:Nat):Int) by rfl,Aak,qZ (by omega),Aam (by omega) (by omega),ui (by omega)]
theorem uo {l:List Nat} {d:Nat} (h:d<l.length):val (l.drop d)=l[d]+4294967296*val (l.drop (d+1)):=by
 rw[Ack h,val]
theorem q_ {S:List Nat} {n:Nat} (hS:Be S) (h:S.length=n+1):val S<(S[n]+1)*4294967296 ^ n:=by
 have d:=ix h
 have b:=Mt (Pj hS n)
 rw[Ac7,Ac6 (by omega)] at b
 rw[Ad8,Ado S[n]];omega
theorem uq {x y:Nat} (d:1≤y) (h:y≤x):2*(y*(x%y))≤x*y:=by
 have e:=Ad4 x y
 have i:=Aeg x (show 0<y by omega)
 have hq:1≤x/y:=by rw[Nat.le_div_iff_mul_le (by omega)];omega
 have j:y*1≤y*(x/y):=Adp _ hq
 have b:2*(x%y)≤x:=by omega
 have:=Adp y b
 rw[Ado x y,Afd];exact this
theorem UH {a:List Nat} (b:Be a) (i:Nat):a.getD i 0<4294967296:=by
 by_cases h:i<a.length
 ·rw[Ab9,Ab1 h];exact Yy b h
 ·rw[Ab9,Adu (by omega)];simp
theorem ur (n m:Nat):4294967296 ^ n*4294967296 ^ m=2 ^ (32*(n+m)):=by
 rw[←Ae1,show(4294967296:Nat)=2 ^ 32 by rfl,←Ags]
theorem yq {c:Nat} (h:c≤1000000000000):((ble (0+c) 140737488355328)&&(ble ((0+c)*4) 140737488355328))=true:=by simp;omega
theorem LU {N:Nat} {l:List Nat} {t o:Bool} {K:Nat→LA→O R} (b:Be l) (hs:l.length≤1000000000000):∀ (c fuel:Nat),c≤l.length→c<fuel →
  Jt N K (Av l) l.length t o fuel (c:Int)=K (Bn (val (l.take c))).length (Av (Bn (val (l.take c))))
 | 0,fuel+1,d,_=>by
  rw[Jt];unfold Sh
  rw[show decide (((0:Nat):Int)>0)=false by simp]
  rw[show((false:Bool)==true)=false by rfl,cf,zQ (by omega),ct,Ab2,Acf,HK,FY,Adi,ct,yq (by omega),ct];rfl
 | c+1,fuel+1,d,e=>by
  rw[Jt];unfold Sh
  rw[yo,ct,wP (by omega),Ab (by omega),ct,w_ (by omega),xi,zQ (by omega),ct,LU b hs c fuel (by omega) (by omega),Ab2,Acf,HK,FY,Adi,ct,yq (by omega),ct,Ab8]
  by_cases h0:l[c]=0
  ·rw[Gy (by omega),h0];simp
  ·rw[r5 b (by omega) h0,Ac7,Ac6 d]
   rw[yp h0,cf]
theorem Cz {N:Nat} {l:List Nat} {n:Nat} {t o:Bool} {K:Nat→LA→O R} (hn:n=l.length) (d:Be l) (b:fit l.length N):Df N (Av l) n t o K=K (Bn (val l)).length (Av (Bn (val l))):=by
 subst hn
 have e:=b.1;have i:=b.2
 rw[Zm];unfold Xu
 rw[LU d (by omega) l.length N (Ab3 _) (by omega),Ady]
theorem oK {N:Nat} {a b:List Nat} {t o t' o':Bool} {K:Bool→O R} (hs:a.length≤1000000000000) (k:a.length=b.length):∀ (m j fuel:Nat),j+m=a.length→m<fuel →
  Hu N K (Av a) a.length t o (Av b) b.length t' o' fuel (j:Int)=K (decide (a.drop j=b.drop j))
 | 0,j,fuel+1,q,_=>by
  rw[Hu];unfold Pw
  rw[G9 (by omega),cf,Ac8 (by omega),Ac8 (by omega)];simp
 | m+1,j,fuel+1,q,s=>by
  have e:j<a.length:=by omega
  have i:j<b.length:=by omega
  rw[Hu];unfold Pw
  rw[G4 e,ct,Ab e,ct,w_ e,Ab i,ct,w_ i,wS (by omega),oK hs k m (j+1) fuel (by omega) (by omega),Ack e,Ack i]
  by_cases h:a[j]=b[j]
  ·rw[show((((a[j]:Nat):Int) != ((b[j]:Nat):Int)))=false by simp[h],cf];congr 1;rw[decide_eq_decide,List.cons.injEq];exact⟨fun d=>⟨h,d⟩,fun d=>d.2⟩
  ·rw[show((((a[j]:Nat):Int) != ((b[j]:Nat):Int)))=true by rw[bne_iff_ne];omega,ct];congr 1;symm;rw[decide_eq_false_iff_not,List.cons.injEq];exact fun d=>h d.1
theorem ut {N:Nat} {a b:List Nat} {n m:Nat} {t o t' o':Bool} {K:Bool→O R} (hn:n=a.length) (i:m=b.length) (e:fit a.length N):Xx N (Av a) n t o (Av b) m t' o' K=K (decide (a=b)):=by
 subst hn i
 have j:=e.1;have k:=e.2
 rw[IW];unfold Zn
 by_cases d:a.length=b.length
 ·rw[show((a.length:Int) != (b.length:Int))=false by simp[d],cf]
  have:=oK (R:=R) (N:=N) (t:=t) (o:=o) (t':=t') (o':=o') (K:=K) (by omega) d a.length 0 N (by omega) (by omega)
  simpa using this
 ·rw[show((a.length:Int) != (b.length:Int))=true by rw[bne_iff_ne];omega,ct]
  congr 1;symm;rw[decide_eq_false_iff_not];intro h;exact d (by rw[h])
theorem XW {N:Nat} {v:Nat} {K:Nat→LA→O R} (e:v<18446744073709551616) (hN:4≤N):Fi N (v:Int) K=K (Bn v).length (Av (Bn v)):=by
 have d:Be [v%4294967296,v/4294967296]:=Kh.2 ⟨by omega,Kh.2 ⟨by omega,iq⟩⟩
 have b:val [v%4294967296,v/4294967296]=v:=by simp[val];omega
 rw[T4];unfold Rl
 rw[xQ,xR,zP (show v/4294967296<4294967296 by omega)]
 have:=LU (R:=R) (N:=N) (l:=[v%4294967296,v/4294967296]) (t:=false) (o:=true) (K:=K) d (by simp) 2 N (by simp) (by omega)
 rw[show [v%4294967296,v/4294967296].take 2=[v%4294967296,v/4294967296] by rfl,b] at this
 rw[Zm];unfold Xu
 exact this
theorem BB {N:Nat} {l:List Nat} {n:Nat} {t o:Bool} {K:Int→Bool→O R} (hn:n=l.length) (s:Be l) (m:fit l.length N):O3 N (Av l) n t o K=if val l<18446744073709551616 then K (val l:Int) true else K 0 false:=by
 have z:=m.1
 rw[DU];unfold Ve
 rw[Cz hn s m]
 by_cases h:val l<18446744073709551616
 ·have u:=vd h
  rw[if_pos h,show decide ((((Bn (val l)).length:Nat):Int)>2)=false by simp;omega,cf]
  have e:=Br (val l)
  have j:=Ba (val l)
  obtain⟨M,hM⟩:∃ M,N=M+4:=⟨N - 4,by omega⟩
  rw[hM]
  generalize Bn (val l)=d at *
  match d,u,e,j with
  | [],_,e,_ =>
   dsimp only
   rw[Da];unfold Ec
   rw[←e,i64 (by simp)];rfl
  | [x],_,e,j =>
   have k:=(Kh.1 j).1
   have i:val l=x:=by rw[←e];simp[val]
   dsimp only
   rw[Da];unfold Ec
   rw[i64 (by simp),show((([x]:List Nat).length:Nat):Int) - 1=((0:Nat):Int) by rfl,show decide (((0:Nat):Int)≥0)=true by rfl,ct,Ab (by simp),ct,fK (by simp)]
   rw[Da];unfold Ec
   rw[i64 (by simp),show decide ((((0:Nat):Int) - 1)≥0)=false by rfl,cf]
   have:=Aao (a:=0) (b:=x) (by omega) k
   simp only[Aft]
   rw[qZ (show x<18446744073709551616 by omega),show(0:Int)=((0:Nat):Int) by rfl,this,i];simp
  | [x,y],_,e,j =>
   have k:=(Kh.1 j).1
   have q:=(Kh.1 (Kh.1 j).2).1
   have i:val l=y*4294967296+x:=by rw[←e];simp[val];omega
   dsimp only
   rw[Da];unfold Ec
   rw[i64 (by simp),show((([x,y]:List Nat).length:Nat):Int) - 1=((1:Nat):Int) by rfl,show decide (((1:Nat):Int)≥0)=true by rfl,ct,Ab (by simp),ct,fK (by simp)]
   rw[Da];unfold Ec
   rw[i64 (by simp),show(((1:Nat):Int) - 1)=((0:Nat):Int) by rfl,show decide (((0:Nat):Int)≥0)=true by rfl,ct,Ab (by simp),ct,fK (by simp)]
   rw[Da];unfold Ec
   rw[i64 (by simp),show decide ((((0:Nat):Int) - 1)≥0)=false by rfl,cf]
   have o1:=Aao (a:=0) (b:=y) (by omega) q
   have o2:=Aao (a:=y) (b:=x) q k
   simp only[Aft,Afq]
   rw[qZ (show y<18446744073709551616 by omega),qZ (show x<18446744073709551616 by omega),show(0:Int)=((0:Nat):Int) by rfl,o1,Nat.zero_mul,Ab8,o2,i]
 ·have:¬ (Bn (val l)).length≤2:=fun v=>h (va v)
  rw[if_neg h,show decide ((((Bn (val l)).length:Nat):Int)>2)=true by simp;omega,ct]
theorem iy {N:Nat} {x y:List Nat} {K:Int→O R} (e:Be x) (j:Be y) (hs:x.length≤1000000000000) (k:x.length=y.length):∀ (i fuel:Nat),i≤x.length→i<fuel →
  Fj N K x.length y.length (Av x) (Av y) fuel ((i:Int) - 1)=K (BA (val (x.take i)) (val (y.take i)))
 | 0,fuel+1,_,_=>by
  rw[Fj];unfold L5
  rw[show decide ((((0:Nat):Int) - 1)≥0)=false by simp,cf]
  simp[HL]
 | i+1,fuel+1,hi,m=>by
  rw[Fj];unfold L5
  rw[show(((i+1:Nat):Int) - 1)=(i:Int) by omega,show decide ((i:Int)≥0)=true by simp,ct,Ab (by omega),ct,fK (by omega),Ab (by omega),ct,fK (by omega),ct,fK (by omega),ct,fK (by omega),i64 (by omega),
   iy e j hs k i fuel (by omega) (by omega),Gy (by omega),Gy (by omega)]
  have b:=Mt (Pj e i)
  have d:=Mt (Pj j i)
  rw[Ac7,Ac6 (by omega)] at b d
  by_cases c1:x[i]<y[i]
  ·have:=r6 b d c1
   rw[show decide (((x[i]:Nat):Int)<((y[i]:Nat):Int))=true by simp;exact c1,ct]
   unfold BA;rw[if_pos this]
  ·by_cases c2:y[i]<x[i]
   ·have:=r6 d b c2
    rw[show decide (((x[i]:Nat):Int)<((y[i]:Nat):Int))=false by simp;omega,cf,show decide (((x[i]:Nat):Int)>((y[i]:Nat):Int))=true by simp;exact c2,ct]
    unfold BA;rw[if_neg (by omega),if_pos this]
   ·have:x[i]=y[i]:=by omega
    rw[show decide (((x[i]:Nat):Int)<((y[i]:Nat):Int))=false by simp;omega,cf,show decide (((x[i]:Nat):Int)>((y[i]:Nat):Int))=false by simp;omega,cf,this]
    unfold BA
    congr 1
    by_cases a1:val (x.take i)<val (y.take i)
    ·rw[if_pos a1,if_pos (by omega)]
    ·by_cases a2:val (y.take i)<val (x.take i)
     ·rw[if_neg a1,if_pos a2,if_neg (by omega),if_pos (by omega)]
     ·rw[if_neg a1,if_neg a2,if_neg (by omega),if_neg (by omega)]
theorem sl {N:Nat} {a b:List Nat} {n m:Nat} {t o t' o':Bool} {K:Int→O R} (hn:n=a.length) (q:m=b.length) (e:Be a) (i:Be b) (d:fit (a.length+b.length) N) :
  Qs N (Av a) n t o (Av b) m t' o' K=K (BA (val a) (val b)):=by
 subst hn q
 have s:=d.1;have u:=d.2
 rw[BQ];unfold Si
 dsimp only
 rw[Cz rfl e (d.le (by omega)),Cz rfl i (d.le (by omega))]
 have la:=(Fz e).2
 have lb:=(Fz i).2
 by_cases j:(Bn (val a)).length=(Bn (val b)).length
 ·rw[show((((Bn (val a)).length:Nat):Int) != (((Bn (val b)).length:Nat):Int))=false by simp;omega,cf,i64 (by omega),iy (Ba _) (Ba _) (by omega) j _ N (Ab3 _) (by omega),Ady,j,Ady,Br,Br]
 ·rw[show((((Bn (val a)).length:Nat):Int) != (((Bn (val b)).length:Nat):Int))=true by simp;omega,ct]
  by_cases k:(Bn (val a)).length<(Bn (val b)).length
  ·have:=fL k
   rw[G4 k,ct]
   unfold BA;rw[if_pos this]
  ·have:=fL (show(Bn (val b)).length<(Bn (val a)).length by omega)
   rw[G9 (by omega),cf]
   unfold BA;rw[if_neg (by omega),if_pos this]
theorem yr (a b:Nat):KO (a:Int) (b:Int)=((max a b:Nat):Int):=by
 unfold KO
 by_cases h:(b:Int)>(a:Int)
 ·rw[decide_eq_true h];show(b:Int)=_;omega
 ·rw[decide_eq_false h];show(a:Int)=_;omega
theorem iz {N:Nat} {a b:List Nat} {t o t' o':Bool} {n:Nat} (v:Be a) (y:Be b) (z:a.length<n) (A:b.length<n) (hn:n≤max a.length b.length+1) (q:fit n N):∀ (m d fuel:Nat) (S:List Nat) (c:Nat),d+m=n→m<fuel→Be S→S.length=n→xj S d→c≤1 →
  val S+4294967296 ^ d*c=val (a.take d)+val (b.take d) →
  ∀ K:Nat→LA→O R,Gn N K (Av a) a.length t o (Av b) b.length t' o' fuel n (c:Int) (d:Int) (Av S)=K (Bn (val a+val b)).length (Av (Bn (val a+val b)))
 | 0,d,fuel+1,S,c,T,_,hS,u,C,U,D=>by
  intro K
  have F:d=n:=by omega
  subst F
  rw[Ab0 (by omega),Ab0 (by omega)] at D
  have G:c=0:=by
   rcases Adk c with h | h
   ·exact h
   ·exfalso
    have I:c=1:=by omega
    subst I
    obtain⟨e,rfl⟩:∃ e,d=e+1:=⟨d - 1,by omega⟩
    have x1:=Mt v
    have x2:=Mt y
    have y1:4294967296 ^ a.length≤4294967296 ^ e:=Ael (by omega) (by omega)
    have y2:4294967296 ^ b.length≤4294967296 ^ e:=Ael (by omega) (by omega)
    rw[Acw] at D
    omega
  subst G
  have L:val S=val a+val b:=by omega
  rw[Gn];unfold Vf
  rw[G9 (Ab3 _),cf,Acf,Ab0 (by rw[Cm];omega),Cz u.symm hS (by rw[u];exact q),L]
 | m+1,d,fuel+1,S,c,T,V,hS,u,C,U,D=>by
  intro K
  have X:=q.1;have Y:=q.2
  have ga:=UH v d
  have gb:=UH y d
  have step:∀ s:Nat,s=c+a.getD d 0+b.getD d 0→val (S.set d (s%4294967296))+4294967296 ^ (d+1)*(s/4294967296)=val (a.take (d+1))+val (b.take (d+1)):=by
   intro s hs
   rw[r8 C (by omega),UG a d,UG b d,Acw]
   have e:=oJ (4294967296 ^ d) s
   have e2:4294967296 ^ d*s=4294967296 ^ d*c+4294967296 ^ d*a.getD d 0+4294967296 ^ d*b.getD d 0:=by rw[hs,Ad7,Ad7]
   omega
  have next:∀ s:Nat,s=c+a.getD d 0+b.getD d 0→Gn N K (Av a) a.length t o (Av b) b.length t' o' fuel n ((s/4294967296:Nat):Int) ((d+1:Nat):Int) (Av (S.set d (s%4294967296)))=K (Bn (val a+val b)).length (Av (Bn (val a+val b))):=by
   intro s hs
   exact iz v y z A hn q m (d+1) fuel (S.set d (s%4294967296)) (s/4294967296) (by omega) (by omega) (UF hS (by omega) d) (by simpa using u) (r7 C) (by omega) (step s hs) K
  have second:∀ w:Nat,w=c+a.getD d 0→T5 N (Gn N K (Av a) a.length t o (Av b) b.length t' o' fuel) K (Av a) a.length t o (Av b) b.length t' o' n (Av S) (w:Int) (d:Int)=K (Bn (val a+val b)).length (Av (Bn (val a+val b))):=by
   intro w M
   unfold T5
   by_cases i:d<b.length
   ·have k:b.getD d 0=b[d]:=by rw[Ab9,Ab1 i];rfl
    rw[G4 i,ct,Ab i,ct,w_ i,Ab (by omega),ct,wH (by omega),ct,qZ (show b[d]<18446744073709551616 by omega),xP,qZ (show w+b[d]<18446744073709551616 by omega),xR,xQ,uj,wS (by omega)]
    exact next _ (by rw[M,k])
   ·have k:b.getD d 0=0:=by rw[Ab9,Adu (by omega)];rfl
    rw[G9 (by omega),cf,Ab (by omega),ct,wH (by omega),ct,xR,xQ,uj,wS (by omega)]
    exact next _ (by rw[M,k];rfl)
  rw[Gn];unfold Vf
  rw[G4 (by omega),ct]
  by_cases j:d<a.length
  ·have k:a.getD d 0=a[d]:=by rw[Ab9,Ab1 j];rfl
   rw[G4 j,ct,Ab j,ct,w_ j,qZ (show a[d]<18446744073709551616 by omega),xP,qZ (show c+a[d]<18446744073709551616 by omega)]
   exact second _ (by rw[k])
  ·have k:a.getD d 0=0:=by rw[Ab9,Adu (by omega)];rfl
   rw[G9 (by omega),cf]
   exact second _ (by rw[k];rfl)
theorem jA {N:Nat} {a b:List Nat} {n m:Nat} {t o t' o':Bool} {K:Nat→LA→O R} (hn:n=a.length) (e:m=b.length) (i:Be a) (j:Be b) (d:fit (a.length+b.length+1) N) :
  Zp N (Av a) n t o (Av b) m t' o' K=K (Bn (val a+val b)).length (Av (Bn (val a+val b))):=by
 subst hn e
 have k:=d.1;have q:=d.2
 rw[VT];unfold NF
 rw[yr,wS (by omega),Aan (by omega),ct,Ab2,U2]
 exact iz i j (n:=max a.length b.length+1) (by omega) (by omega) (Ab3 _) (d.le (by omega)) (max a.length b.length+1) 0 N (replicate (max a.length b.length+1) 0) 0 (by omega) (by omega) (Rr _) (by simp) (KJ _) (by omega) (by rw[Qp];simp[val]) K
theorem jB {N:Nat} {a b:List Nat} (M:Be a) (T:Be b) (A:fit a.length N) (v:b.length≤a.length) (C:val b≤val a):∀ (m d fuel:Nat) (S:List Nat) (c:Nat),d+m=a.length→m<fuel→Be S→S.length=a.length→xj S d→c≤1 →
  val S+val (b.take d)=val (a.take d)+4294967296 ^ d*c →
  ∀ K:Nat→Bool→LA→O R,Gp N K a.length b.length (Av a) (Av b) fuel (c:Int) (d:Int) (Av S)=K (Bn (val a - val b)).length true (Av (Bn (val a - val b)))
 | 0,d,fuel+1,S,c,V,_,hS,z,D,X,U=>by
  intro K
  have F:d=a.length:=by omega
  subst F
  rw[Ady,Ab0 v] at U
  have q:=Mt hS
  rw[z] at q
  have G:c=0:=by
   rcases Ae5 0 c with h | h
   ·exfalso
    have:c=1:=by omega
    subst this
    omega
   ·omega
  subst G
  have I:val S=val a - val b:=by omega
  rw[Gp];unfold Vg
  rw[G9 (Ab3 _),cf,Acf,Ab0 (by rw[Cm];omega),Cz z.symm hS (by rw[z];exact A),I]
 | m+1,d,fuel+1,S,c,V,Y,hS,z,D,X,U=>by
  intro K
  have h1:=A.1;have h2:=A.2
  have i:d<a.length:=by omega
  have ad:=Yy M i
  have gb:=UH T d
  have step:∀ y g j:Nat,y=c+b.getD d 0→a[d]+4294967296*j=g+y→val (S.set d g)+val (b.take (d+1))=val (a.take (d+1))+4294967296 ^ (d+1)*j:=by
   intro y g j u s
   rw[r8 D (by omega),Gy i,UG b d,Acw,Aee]
   have e:4294967296 ^ d*(a[d]+4294967296*j)=4294967296 ^ d*(g+(c+b.getD d 0)):=by rw[s,u]
   rw[Ad7,Ad7,Ad7] at e
   omega
  have next:∀ y g j:Nat,g<4294967296→j≤1→y=c+b.getD d 0→a[d]+4294967296*j=g+y→Gp N K a.length b.length (Av a) (Av b) fuel (j:Int) ((d+1:Nat):Int) (Av (S.set d g))=K (Bn (val a - val b)).length true (Av (Bn (val a - val b))):=by
   intro y g j s L u he
   exact jB M T A v C m (d+1) fuel (S.set d g) j (by omega) (by omega) (UF hS s d) (by simpa using z) (r7 D) L (step y g j u he) K
  have second:∀ y:Nat,y=c+b.getD d 0→T6 N (Gp N K a.length b.length (Av a) (Av b) fuel) K a.length b.length (Av a) (Av b) (Av S) (d:Int) (y:Int)=K (Bn (val a - val b)).length true (Av (Bn (val a - val b))):=by
   intro y u
   unfold T6
   rw[Ab i,ct,fK i,qZ (show a[d]<18446744073709551616 by omega)]
   by_cases q:a[d]<y
   ·rw[G4 q,ct,ct,wH (by omega),ct,show((a[d]:Nat):Int)+4294967296=((a[d]+4294967296:Nat):Int) by omega,qZ (show a[d]+4294967296<18446744073709551616 by omega),uh (by omega) (by omega),zP (by omega),uj,wS (by omega)]
    exact next y (a[d]+4294967296 - y) 1 (by omega) (by omega) u (by omega)
   ·rw[G9 (by omega),cf,ct,wH (by omega),ct,uh (by omega) (by omega),zP (by omega),uj,wS (by omega)]
    exact next y (a[d] - y) 0 (by omega) (by omega) u (by omega)
  rw[Gp];unfold Vg
  rw[G4 i,ct]
  by_cases k:d<b.length
  ·have s:b.getD d 0=b[d]:=by rw[Ab9,Ab1 k];rfl
   rw[G4 k,ct,Ab k,ct,fK k,qZ (show b[d]<18446744073709551616 by omega),xP,qZ (show c+b[d]<18446744073709551616 by omega)]
   exact second _ (by rw[s])
  ·have s:b.getD d 0=0:=by rw[Ab9,Adu (by omega)];rfl
   rw[G9 (by omega),cf]
   exact second _ (by rw[s];rfl)
theorem sm {N:Nat} {a b:List Nat} {n m:Nat} {t o t' o':Bool} {K:Nat→Bool→LA→O R} (hn:n=a.length) (q:m=b.length) (i:Be a) (j:Be b) (e:fit (a.length+b.length) N) :
  Zq N (Av a) n t o (Av b) m t' o' K=if val b≤val a then K (Bn (val a - val b)).length true (Av (Bn (val a - val b))) else K 0 false []:=by
 subst hn q
 have s:=e.1;have u:=e.2
 have la:=(Fz i).2
 have lb:=(Fz j).2
 rw[VV];unfold NH
 dsimp only
 rw[sl rfl rfl i j e]
 by_cases d:val b≤val a
 ·have k:=Dc d
  rw[if_pos d,show decide (BA (val a) (val b)<0)=false by (unfold BA;rw[if_neg (by omega)];split<;>rfl),cf,Cz rfl i (e.le (by omega)),Cz rfl j (e.le (by omega)),Aan (by omega),ct,U2]
  have:=jB (R:=R) (N:=N) (a:=Bn (val a)) (b:=Bn (val b)) (Ba _) (Ba _) (e.le (by omega)) k (by rw[Br,Br];exact d) (Bn (val a)).length 0 N (replicate (Bn (val a)).length 0) 0 (by omega) (by omega) (Rr _) (by simp) (KJ _) (by omega) (by rw[Qp];simp[val]) K
  rw[Br,Br] at this
  exact this
 ·rw[if_neg d,show decide (BA (val a) (val b)<0)=true by (unfold BA;rw[if_pos (by omega)];rfl),ct]
theorem fN {N:Nat}:∀ (k fuel n v:Nat),v<2 ^ k→k<fuel→n+k≤1000000000000→∃ b:Nat,b≤k∧v<2 ^ b∧(v≠0→2 ^ b≤2*v)∧(v=0→b=0)∧∀ K:Int→O R,Hj N K fuel (n:Int) (v:Int)=K ((n+b:Nat):Int)
 | 0,fuel+1,n,v,d,_,_=>by
  have h0:v=0:=by simpa using d
  subst h0
  refine⟨0,by omega,by simp,fun h=>absurd rfl h,fun _=>rfl,fun K=>?_⟩
  rw[Hj];unfold Nl
  rw[show decide (((0:Nat):Int)>0)=false by rfl,cf];rfl
 | k+1,fuel+1,n,v,d,q,hn=>by
  by_cases h0:v=0
  ·subst h0
   refine⟨0,by omega,by simp,fun h=>absurd rfl h,fun _=>rfl,fun K=>?_⟩
   rw[Hj];unfold Nl
   rw[show decide (((0:Nat):Int)>0)=false by rfl,cf];rfl
  ·obtain⟨b,s,u,i,j,m⟩:=fN (N:=N) k fuel (n+1) (v/2) (by rw[Acw] at d;omega) (by omega) (by omega)
   refine⟨b+1,by omega,by rw[Acw];omega,fun _=>?_,fun h=>absurd h h0,fun K=>?_⟩
   ·by_cases e:v/2=0
    ·rw[j e];simp;omega
    ·have:=i e;rw[Acw];omega
   ·rw[Hj];unfold Nl
    rw[show decide ((v:Int)>0)=true by rw[decide_eq_true_eq];omega,ct,wS (by omega),b_ v 1,show v/2 ^ 1=v/2 by rfl,m]
    congr 2;omega
theorem qa {N:Nat} {a:List Nat} {n:Nat} {t o:Bool} (hn:n=a.length) (i:Be a) (e:fit a.length N):∃ nb:Nat,nb≤32*a.length∧val a<2 ^ nb∧(val a≠0→2 ^ nb≤2*val a)∧(val a=0→nb=0)∧∀ K:Int→O R,DV N (Av a) n t o K=K (nb:Int):=by
 have A:=e.1;have C:=e.2
 have la:=(Fz i).2
 by_cases h0:val a=0
 ·refine⟨0,by omega,by rw[h0];simp,fun h=>absurd h0 h,fun _=>rfl,fun K=>?_⟩
  rw[Zo];unfold Xz
  rw[Cz hn i e,h0,Ft];rfl
 ·have q:(Bn (val a)).length≠0:=fun h=>h0 (Es.1 h)
  obtain⟨k,j⟩:∃ k,(Bn (val a)).length=k+1:=⟨(Bn (val a)).length - 1,by omega⟩
  have top:=Yy (Ba (val a)) (show k<(Bn (val a)).length by omega)
  have d:(Bn (val a))[k]'(by omega)≠0:=by
   have:=ue (val a) (LT h0)
   rw[Afi] at this
   simp only[j,Agg] at this
   exact this
  have tf:=ix j
  have tl:=q_ (Ba (val a)) j
  rw[Br] at tf tl
  obtain⟨b,D,s,u,F,v⟩:=fN (R:=R) (N:=N) 32 N (32*k) ((Bn (val a))[k]'(by omega)) (by exact top) (by omega) (by omega)
  have m:(2:Nat) ^ (32*k+b)=4294967296 ^ k*2 ^ b:=by rw[Ae1,Ags]
  refine⟨32*k+b,by omega,?_,fun _=>?_,fun h=>absurd h h0,fun K=>?_⟩
  ·rw[m]
   have:((Bn (val a))[k]'(by omega)+1)*4294967296 ^ k≤2 ^ b*4294967296 ^ k:=Aco _ s
   rw[Ado (2 ^ b)] at this;omega
  ·rw[m]
   have:=Adp (4294967296 ^ k) (u d)
   rw[Afd] at this
   omega
  ·rw[Zo];unfold Xz
   have y:wrap .i64 ((((Bn (val a)).length:Nat):Int) - 1)=(k:Int):=by rw[i64 (by omega)];omega
   have z:wrap .i64 ((32:Int)*(k:Int))=((32*k:Nat):Int):=by rw[i64 (by omega)];omega
   rw[Cz hn i e,yp q,cf,y,Ab (by omega),ct,fK (by omega),z]
   exact v K
theorem oL {a:List Nat} {j:Nat} (h:j<a.length):val a=val (a.take j)+4294967296 ^ j*(a[j]+4294967296*val (a.drop (j+1))):=by
 have:=LR (a.take j) (a.drop j)
 rw[List.take_append_drop,Ac7,Ac6 (by omega),uo h] at this
 exact this
theorem UI (j k:Nat):(2:Nat) ^ (32*j+k)=4294967296 ^ j*2 ^ k:=by rw[Ae1,Ags]
theorem ve {a:List Nat} {j k:Nat} (b:Be a) (h:j<a.length) (m:k<32):val a/2 ^ (32*j+k)%2=a[j]/2 ^ k%2:=by
 have tl:=Mt (Pj b j)
 rw[Ac7,Ac6 (by omega)] at tl
 have hP:0<4294967296 ^ j:=Af4 (by omega)
 have d:0<2 ^ k:=Af4 (by omega)
 rw[UI,←Afv,oL h,Af1 _ _ hP,Aen tl,Ab8]
 have e:4294967296=2 ^ k*(2*2 ^ (31 - k)):=by rw[←Nat.pow_succ',←Ae1,show k+(31 - k+1)=32 by omega]
 have i:4294967296*val (a.drop (j+1))=2 ^ k*(2*(2 ^ (31 - k)*val (a.drop (j+1)))):=by
  rw[←Aee 2,←Aee,←e]
 rw[i,Af1 _ _ d,Nat.add_mul_mod_self_left]
theorem sn {N:Nat} {a:List Nat} {n:Nat} {t o:Bool} {i:Nat} {K:Int→O R} (hn:n=a.length) (m:Be a) (hi:i<32*a.length) (hs:a.length≤1000000000):aA N (Av a) n t o (i:Int) K=K ((val a/2 ^ i%2:Nat):Int):=by
 subst hn
 have d:i/32<a.length:=by omega
 have aj:=Yy m d
 rw[VU];unfold cL
 have q:wrap .i64 (Int.tdiv (i:Int) 32)=((i/32:Nat):Int):=by rw[show(32:Int)=((32:Nat):Int) by rfl,ul,i64 (by omega)]
 have s:wrap .u64 (Int.tmod (i:Int) 32)=((i%32:Nat):Int):=by rw[show(32:Int)=((32:Nat):Int) by rfl,um,qZ (by omega)]
 rw[q,s,show decide (((i/32:Nat):Int)≥(a.length:Int))=false by rw[decide_eq_false_iff_not];omega,cf,Ab d,ct,w_ d,show decide (((i%32:Nat):Int)<0)=false by rw[decide_eq_false_iff_not];omega,cf,Ab2,Ac6 (by omega),b_]
 have j:a[i/32]/2 ^ (i%32)<4294967296:=Aeu (Aet _ _) aj
 have e:=pP (k:=.u32) rfl (a:=a[i/32]/2 ^ (i%32)) (b:=1) j (by decide)
 rw[show(1:Int)=((1:Nat):Int) by rfl,e,Nat.and_one_is_mod]
 have:=ve m d (k:=i%32) (by omega)
 rw[Ad4] at this
 rw[this]
theorem uu {Q:List Nat} {j k:Nat} (hQ:Be Q) (h:j<Q.length) (d:k<32) (b:2 ^ (32*j+k+1)∣val Q):2 ^ (k+1)∣Q[j]:=by
 have tl:=Mt (Pj hQ j)
 rw[Ac7,Ac6 (by omega)] at tl
 have hP:0<4294967296 ^ j:=Af4 (by omega)
 rw[Acx,UI,oL h] at b
 have h0:val (Q.take j)=0:=by
  have x1:4294967296 ^ j∣val (Q.take j):=(Nat.dvd_add_left (Afb _ _)).1 (Nat.dvd_trans (Afb _ _) b)
  exact Nat.eq_zero_of_dvd_of_lt x1 tl
 rw[h0,Ab8] at b
 have x2:=Nat.dvd_of_mul_dvd_mul_left hP b
 have x3:2 ^ (k+1)∣4294967296*val (Q.drop (j+1)):=Nat.dvd_trans ⟨2 ^ (31 - k),by rw[←Ae1,show k+1+(31 - k)=32 by omega]⟩ (Afb _ _)
 exact(Nat.dvd_add_left x3).1 x2
theorem UJ {N:Nat} {a b:List Nat} {t o:Bool} {B:Nat} (S:Be a) (s:b=Bn B) (hB:0<B) (q:fit (a.length+2*b.length+4) N):∀ (i fuel:Nat) (Q:List Nat) (r:Nat),i<fuel→i≤32*a.length→Be Q→Q.length=a.length→r=val a/2 ^ i%B→val Q=val a/2 ^ i/B*2 ^ i →
  ∀ K:Nat→Nat→Bool→LA→LA→O R,D6 N K (Av a) a.length t o b.length (Av b) fuel (Bn r).length ((i:Int) - 1) (Av Q) (Av (Bn r))=K (Bn (val a/B)).length (Bn (val a%B)).length true (Av (Bn (val a/B))) (Av (Bn (val a%B)))
 | 0,fuel+1,Q,r,_,_,hQ,C,hr,u=>by
  intro K
  rw[Nat.pow_zero,Nat.div_one] at hr u
  rw[Acf] at u
  have lr:(Bn r).length≤b.length:=by
   rw[s];apply Dc;rw[hr];exact Afu (Aeg _ hB)
  rw[D6];unfold Nm
  rw[show decide ((((0:Nat):Int) - 1)≥0)=false by rfl,cf,Acf,Ab0 (by rw[Cm];omega),Cz C.symm hQ (by rw[C];exact q.le (by omega)),Acf,Ab0 (by rw[Cm];omega),Cz rfl (Ba _) (q.le (by omega)),Br,u,hr]
 | i+1,fuel+1,Q,r,hfu,hi,hQ,C,hr,u=>by
  intro K
  have h1:=q.1;have h2:=q.2
  have hrB:r<B:=by rw[hr];exact Aeg _ hB
  have lr:(Bn r).length≤b.length:=by rw[s];exact Dc (Afu hrB)
  have j:val a/2 ^ i=2*(val a/2 ^ (i+1))+val a/2 ^ i%2:=by
   have:=Ad4 (val a/2 ^ i) 2
   rw[Afv,←Acw] at this
   exact this.symm
  have T:=Ad4 (val a/2 ^ (i+1)) B
  have hb2:val a/2 ^ i%2<2:=Aeg _ (by omega)
  generalize hH:val a/2 ^ (i+1)=H at *
  generalize D:val a/2 ^ i%2=bt at *
  have d:val a/2 ^ i=B*(2*(H/B))+(2*r+bt):=by
   rw[j,hr,Afd];omega
  clear hr T j
  have F:i/32<Q.length:=by omega
  have qj:=Yy hQ F
  have G:2 ^ (32*(i/32)+i%32+1)∣val Q:=by rw[Ad4,u];exact Nat.dvd_mul_left _ _
  have y:=uu hQ F (Aeg _ (by omega)) G
  have U:2 ^ i=4294967296 ^ (i/32)*2 ^ (i%32):=by rw[←UI,Ad4]
  have I:2 ^ (i%32+1)≤4294967296:=(Ael (by omega) (show i%32+1≤32 by omega):2 ^ (i%32+1)≤2 ^ 32)
  have L:bZ .u32 ((Q[i/32]:Nat):Int) (wrap .u32 ((1:Int)*2 ^ (min (Int.toNat ((i%32:Nat):Int)) 32)))=((Q[i/32]+2 ^ (i%32):Nat):Int)∧Q[i/32]+2 ^ (i%32)<4294967296:=by
   obtain⟨c,V⟩:=y
   have Y:0<2 ^ (i%32):=Af4 (by omega)
   have X:Q[i/32]+2 ^ (i%32)<4294967296:=by
    obtain⟨w,hw⟩:∃ w,4294967296=2 ^ (i%32+1)*w:=⟨2 ^ (31 - i%32),by rw[←Ae1,show i%32+1+(31 - i%32)=32 by omega]⟩
    have x1:c<w:=by rw[V,hw] at qj;exact Nat.lt_of_mul_lt_mul_left qj
    have x2:=Adp (2 ^ (i%32+1)) (show c+1≤w from x1)
    rw[Ad7,←hw,←V,Acf,Acw] at x2
    omega
   refine⟨?_,X⟩
   rw[Ab2,Ac6 (by omega),Int.one_mul,show(2:Int) ^ (i%32)=((2 ^ (i%32):Nat):Int) by simp,zP (by rw[Acw] at I;omega),iP (k:=.u32) rfl qj (by show 2 ^ (i%32)<4294967296;rw[Acw] at I;omega)]
   congr 1
   have e:Q[i/32]=c*2 ^ (i%32+1):=by rw[V,Ado]
   rw[e];exact ui (by rw[Acw];omega)
  have w1:wrap .i64 (Int.tdiv (i:Int) 32)=((i/32:Nat):Int):=by rw[show(32:Int)=((32:Nat):Int) by rfl,ul,i64 (by omega)]
  have w2:wrap .u64 (Int.tmod (i:Int) 32)=((i%32:Nat):Int):=by rw[show(32:Int)=((32:Nat):Int) by rfl,um,qZ (by omega)]
  have l2:(Bn (2*r+bt)).length≤b.length+1:=by
   apply lQ
   have x1:=Mt (Ba B)
   rw[Br,←s] at x1
   rw[Acw];omega
  have second:I5 N (D6 N K (Av a) a.length t o b.length (Av b) fuel) K (Av a) a.length t o b.length (i:Int) (Av b) (Av Q) (Bn (2*r+bt)).length (Av (Bn (2*r+bt)))=K (Bn (val a/B)).length (Bn (val a%B)).length true (Av (Bn (val a/B))) (Av (Bn (val a%B))):=by
   unfold I5
   have lb:Be b:=by rw[s];exact Ba _
   have vb:val b=B:=by rw[s,Br]
   rw[Acf,Acf,Ab0 (by rw[Cm];omega),Ab0 (by rw[Cm];omega),sm rfl rfl (Ba _) lb (q.le (by omega)),Br,vb]
   by_cases M:B≤2*r+bt
   ·have z:val a/2 ^ i/B=2*(H/B)+1:=by
     rw[d,show B*(2*(H/B))+(2*r+bt)=B*(2*(H/B)+1)+(2*r+bt - B) by rw[Ad7];omega,Nat.mul_add_div hB,Aen (show 2*r+bt - B<B by omega),Ac4]
    have A:val a/2 ^ i%B=2*r+bt - B:=by
     rw[d,show B*(2*(H/B))+(2*r+bt)=B*(2*(H/B)+1)+(2*r+bt - B) by rw[Ad7];omega,Nat.mul_add_mod,Adg (by omega)]
    rw[if_pos M,ct,w1,w2,Ab (by omega),ct,fK F,show decide (((i%32:Nat):Int)<0)=false by rw[decide_eq_false_iff_not];omega,cf,ct,wH F,ct,L.1,uj,i64 (by omega)]
    refine UJ S s hB q i fuel (Q.set (i/32) (Q[i/32]+2 ^ (i%32))) (2*r+bt - B) (by omega) (by omega) (UF hQ L.2 _) (by simpa using C) A.symm ?_ K
    have x1:=lR (v:=Q[i/32]+2 ^ (i%32)) F
    rw[Ad7,←U] at x1
    rw[z,Ad8,Nat.one_mul,Ado 2,Aee,Ado 2,←Acw,←u]
    omega
   ·have z:val a/2 ^ i/B=2*(H/B):=by rw[d,Nat.mul_add_div hB,Aen (show 2*r+bt<B by omega),Ac4]
    have A:val a/2 ^ i%B=2*r+bt:=by rw[d,Nat.mul_add_mod,Adg (by omega)]
    rw[if_neg M,cf,i64 (by omega)]
    refine UJ S s hB q i fuel Q (2*r+bt) (by omega) (by omega) hQ C A.symm ?_ K
    rw[z,Ado 2,Aee,Ado 2,←Acw,←u]
  rw[D6];unfold Nm
  rw[show(((i+1:Nat):Int) - 1)=(i:Int) by omega,show decide ((i:Int)≥0)=true by rw[decide_eq_true_eq];omega,ct,Acf,Ab0 (by rw[Cm];omega),jA rfl rfl (Ba _) (Ba _) (q.le (by omega)),Br,sn rfl S (by omega) (by omega),D]
  have l3:(Bn (r+r)).length≤b.length+1:=by
   apply lQ
   have x1:=Mt (Ba B)
   rw[Br,←s] at x1
   rw[Acw];omega
  rcases(show bt=0∨bt=1 by omega) with rfl | rfl
  ·rw[show(((0:Nat):Int)==1)=false by rfl,cf]
   rw[show 2*r+0=r+r by omega] at second
   exact second
  ·rw[show(((1:Nat):Int)==1)=true by rfl,ct,Acf,Ab0 (by rw[Cm];omega)]
   have:=jA (R:=R) (N:=N) (a:=Bn (r+r)) (b:=[1]) (n:=(Bn (r+r)).length) (m:=1) (t:=false) (o:=true) (t':=false) (o':=true) (K:=fun af ag=>I5 N (D6 N K (Av a) a.length t o b.length (Av b) fuel) K (Av a) a.length t o b.length (i:Int) (Av b) (Av Q) af ag) rfl rfl (Ba _) (by intro x hx;simp at hx;omega) (q.le (by simp;omega))
   rw[Br,show val [1]=1 by rfl,show r+r+1=2*r+1 by omega] at this
   exact this.trans second
theorem BC {N:Nat} {a b:List Nat} {n m:Nat} {t o t' o':Bool} {K:Nat→Nat→Bool→LA→LA→O R} (hn:n=a.length) (z:m=b.length) (q:Be a) (v:Be b) (j:val b≠0) (i:fit (a.length+2*b.length+4) N) :
  O4 N (Av a) n t o (Av b) m t' o' K=K (Bn (val a/val b)).length (Bn (val a%val b)).length true (Av (Bn (val a/val b))) (Av (Bn (val a%val b))):=by
 have A:=i.1;have C:=i.2
 have lb:=(Fz v).2
 have s:(Bn (val b)).length≠0:=fun h=>j (Es.1 h)
 rw[DX];unfold Vh
 dsimp only
 have long:Lm N K (Av a) n t o (Bn (val b)).length (Av (Bn (val b)))=K (Bn (val a/val b)).length (Bn (val a%val b)).length true (Av (Bn (val a/val b))) (Av (Bn (val a%val b))):=by
  obtain⟨nb,n1,n2,n3,n4,n5⟩:=qa (R:=R) (N:=N) (a:=a) (n:=n) (t:=false) (o:=o) hn q (i.le (by omega))
  unfold Lm T8
  rw[n5,hn,Aan (by omega),ct,U2,i64 (by omega)]
  have y:val a/2 ^ nb=0:=Aen n2
  have:=UJ (R:=R) (N:=N) (a:=a) (b:=Bn (val b)) (t:=t) (o:=o) (B:=val b) q rfl (by omega) (i.le (by omega)) nb N (replicate a.length 0) 0 (by omega) n1 (Rr _) (by simp) (by rw[y];simp) (by rw[y,Qp];simp) K
  exact this
 rw[Cz z v (i.le (by omega)),yp s,cf,BB hn q (i.le (by omega)),Acf,Ab0 (by rw[Cm];exact Ab3 _)]
 by_cases e:val a<18446744073709551616
 ·rw[if_pos e,BB rfl (Ba _) (i.le (by omega)),Br]
  by_cases d:val b<18446744073709551616
  ·have k:val a/val b<18446744073709551616:=Aeu (Aet _ _) e
   have u:val a%val b<18446744073709551616:=Aeu (Nat.mod_le _ _) e
   rw[if_pos d,show((true:Bool)==true)=true by rfl,ct,xi,ct,yp j,cf,ul,qZ k,XW k (by omega),cf,um,XW u (by omega)]
  ·rw[if_neg d,show((true:Bool)==true)=true by rfl,ct,xi,cf,long]
 ·rw[if_neg e,BB rfl (Ba _) (i.le (by omega)),Br]
  by_cases d:val b<18446744073709551616
  ·rw[if_pos d,show((false:Bool)==true)=false by rfl,cf,long]
  ·rw[if_neg d,show((false:Bool)==true)=false by rfl,cf,long]
theorem sq {N:Nat}:∀ (k fuel A B:Nat),k<fuel→A*B<2 ^ k→B<A→fit (3*(Bn A).length+4) N→∀ K:Nat→LA→O R,Dg N K fuel (Bn A).length (Bn B).length (Av (Bn A)) (Av (Bn B))=K (Bn (Nat.gcd A B)).length (Av (Bn (Nat.gcd A B))):=by
 have base:∀ (fuel A:Nat) (K:Nat→LA→O R),Dg N K (fuel+1) (Bn A).length (Bn 0).length (Av (Bn A)) (Av (Bn 0))=K (Bn (Nat.gcd A 0)).length (Av (Bn (Nat.gcd A 0))):=by
  intro fuel A K
  rw[Dg];unfold Mx
  rw[Ft,show decide ((((([]:List Nat).length:Nat)):Int)>0)=false by decide,cf,Age]
 intro k
 induction k with
 | zero =>
  intro fuel A B i b d e K
  obtain⟨fuel,rfl⟩:∃ F,fuel=F+1:=⟨fuel - 1,by omega⟩
  have j:B=0:=by
   rcases Adk B with h | h
   ·exact h
   ·have y:=Adp A (show 1≤B by omega)
    rw[Nat.pow_zero] at b;omega
  subst j
  exact base fuel A K
 | succ k m =>
  intro fuel A B i b d e K
  have z:=e.1;have C:=e.2
  obtain⟨fuel,rfl⟩:∃ F,fuel=F+1:=⟨fuel - 1,by omega⟩
  rcases Adk B with h | h
  ·subst h;exact base fuel A K
  have q:=Dc (Afu d)
  have s:(Bn B).length≠0:=fun h0=>by have:=Es.1 h0;omega
  have u:=Aeg A h
  have D:=uq (show 1≤B by omega) (Afu d)
  have:=m fuel B (A%B) (by omega) (by rw[Acw] at b;omega) u (e.le (by omega)) K
  have v:Nat.gcd B (A%B)=Nat.gcd A B:=by rw[Aeo,←Nat.gcd_rec,Aeo]
  rw[v] at this
  rw[Dg];unfold Mx
  rw[show decide ((((Bn B).length:Nat):Int)>0)=true by rw[decide_eq_true_eq];omega,ct,Acf,Acf,Ab0 (by rw[Cm];exact Ab3 _),Ab0 (by rw[Cm];exact Ab3 _),BC rfl rfl (Ba _) (Ba _) (by rw[Br];omega) (e.le (by omega)),Br,Br]
  exact this
theorem sr {N:Nat} {a b:List Nat} {n m:Nat} {t o t' o':Bool} {K:Nat→LA→O R} (hn:n=a.length) (u:m=b.length) (j:Be a) (k:Be b) (i:fit (3*(a.length+b.length)+4) N) :
  NL N (Av a) n t o (Av b) m t' o' K=K (Bn (Nat.gcd (val a) (val b))).length (Av (Bn (Nat.gcd (val a) (val b)))):=by
 have z:=i.1;have A:=i.2
 have la:=(Fz j).2
 have lb:=(Fz k).2
 have q:val a*val b<2 ^ (32*(a.length+b.length)):=by rw[←ur];exact Nat.mul_lt_mul'' (Mt j) (Mt k)
 rw[VW];unfold NK
 rw[Cz hn j (i.le (by omega)),Cz u k (i.le (by omega))]
 obtain⟨F,hF⟩:∃ F,N=F+1:=⟨N - 1,by omega⟩
 rcases Adk (val b) with h | h
 ·rw[h,Ft,Age,hF,Dg];unfold Mx
  rw[show decide ((((([]:List Nat).length:Nat)):Int)>0)=false by decide,cf]
 ·have s:=Aeg (val a) h
  have v:(Bn (val b)).length≠0:=fun h0=>by have:=Es.1 h0;omega
  have d:val b*(val a%val b)<2 ^ (32*(a.length+b.length)):=by
   have:val b*(val a%val b)≤val b*val a:=Adp _ (Nat.mod_le _ _)
   rw[Ado (val b) (val a)] at this;omega
  have:=sq (R:=R) (N:=N) (32*(a.length+b.length)) F (val b) (val a%val b) (by omega) d s (i.le (by omega)) K
  have y:Nat.gcd (val b) (val a%val b)=Nat.gcd (val a) (val b):=by rw[Aeo,←Nat.gcd_rec,Aeo]
  rw[y] at this
  have e:Dg N K (F+1) (Bn (val a)).length (Bn (val b)).length (Av (Bn (val a))) (Av (Bn (val b)))=Dg N K F (Bn (val b)).length (Bn (val a%val b)).length (Av (Bn (val b))) (Av (Bn (val a%val b))):=by
   rw[Dg];unfold Mx
   rw[show decide ((((Bn (val b)).length:Nat):Int)>0)=true by rw[decide_eq_true_eq];omega,ct,Acf,Acf,Ab0 (by rw[Cm];exact Ab3 _),Ab0 (by rw[Cm];exact Ab3 _),BC rfl rfl (Ba _) (Ba _) (by rw[Br];omega) (i.le (by omega)),Br,Br]
  conv=>lhs;rw[show(Dg N K N)=Dg N K (F+1) by rw[←hF]]
  rw[e];exact this
inductive LS where
 | nil
 | of (l:List Nat) (t o:Bool)
def LS.l:LS→List Nat
 | .nil=>[]
 | .of l _ _=>l
def LS.av:LS→AV
 | .nil=>.nsl
 | .of l t o=>.imm (Av l) l.length 1 t o
theorem uv {s:LS} {r:LA} {f:LA→Nat→O R}:Az 1 (s.av::r) f=f (Av s.l) s.l.length:=by
 cases s<;>simp[Az,LS.av,LS.l,l7,Av]
theorem yt {b:Bool} {r:LA} {f:Bool→O R}:L_ (.bool b::r) f=f b:=by simp[L_,asBool]
def U7 (neg:Bool) (s:LS):LA:=[.bool neg,s.av]
def Ea (neg:Bool) (s:LS):Int:=if neg then -(val s.l:Int) else (val s.l:Int)
theorem Na (neg:Bool) (s:LS):(Ea neg s).natAbs=val s.l:=by unfold Ea;cases neg<;>simp
theorem oM {neg:Bool} {s:LS} {f:Bool→O R}:L_ (U7 neg s) f=f neg:=yt
theorem oN {neg:Bool} {s:LS} {f:LA→Nat→O R}:Az 1 (drop 1 (U7 neg s)) f=f (Av s.l) s.l.length:=by rw[U7,Aci,Acb,uv]
theorem su {z:Int} {c:Bool} {m:Nat} (h:z=if c then -(m:Int) else (m:Int)):(c&&decide (0<(Bn m).length))=decide (z<0)∧z.natAbs=m:=by
 have d:z.natAbs=m:=by rw[h];cases c<;>simp
 refine⟨?_,d⟩
 by_cases h0:m=0
 ·subst h0;rw[h,Ft];cases c<;>simp
 ·have:0<(Bn m).length:=by
   rcases Adk (Bn m).length with b | b
   ·exact absurd (Es.1 b) h0
   ·exact b
  rw[h];cases c<;>simp[this]<;>omega
theorem qb {N:Nat} {neg:Bool} {s:LS} {o:Bool} {K:Int→O R} (hs:Be s.l) (b:fit s.l.length N):Z_ N (U7 neg s) o K=K (Ea neg s).sign:=by
 rw[VQ];unfold cB
 rw[oN,fM rfl hs b]
 unfold Ea
 by_cases h:val s.l=0
 ·rw[h,HL,show((0:Int)==0)=true by rfl,ct];cases neg<;>rfl
 ·have:BA (val s.l) 0=1:=by unfold BA;rw[if_neg (by omega),if_pos (by omega)]
  rw[this,show((1:Int)==0)=false by rfl,cf,oM]
  cases neg
  ·rw[cf];simp only[Adx,if_false]
   congr 1
   rw[Ad9];omega
  ·rw[ct];simp only[if_true]
   congr 1
   rw[Aeb];omega
theorem uw (z:Int) (d:Nat) (i:d≠0):(mkRat z d).num.natAbs=z.natAbs/Nat.gcd z.natAbs d∧((mkRat z d).num<0↔z<0)∧(mkRat z d).den=d/Nat.gcd z.natAbs d:=by
 have k:0<Nat.gcd z.natAbs d:=Afh _ (by omega)
 rw[Agb,Aga,if_neg i,if_neg i,Aeo d]
 have b:((Nat.gcd z.natAbs d:Nat):Int)∣z:=Int.dvd_natAbs.1 (Int.natCast_dvd_natCast.2 (Nat.gcd_dvd_left _ _))
 obtain⟨c,j⟩:=b
 have m:z.natAbs.gcd d=Nat.gcd z.natAbs d:=rfl
 generalize Nat.gcd z.natAbs d=g at *
 refine⟨?_,?_,rfl⟩
 ·rw[j,Aed _ (by omega),Int.natAbs_mul,Ae8,Afj _ k]
 ·rw[j,Aed _ (by omega)]
  constructor
  ·intro h;exact Int.mul_neg_of_pos_of_neg (by omega) h
  ·intro h;rcases Int.lt_or_le c 0 with e | e
   ·exact e
   ·have:=Int.mul_nonneg (show(0:Int)≤g by omega) e;omega
structure RatD where
 neg:Bool
 ns:LS
 ds:LS
def RatD.av (x:RatD):LA:=[.bool x.neg,x.ns.av,x.ds.av]
def RatD.ok (x:RatD):Prop:=Be x.ns.l∧Be x.ds.l
def RatD.m (x:RatD):Nat:=max x.ns.l.length x.ds.l.length
def RatD.q (x:RatD):Rat:=mkRat (Ea x.neg x.ns) (val x.ds.l)
def qm (q:Rat):Nat:=max (Bn q.num.natAbs).length (Bn q.den).length
theorem vf {x:RatD} {f:LA→Nat→O R}:Az 1 (drop 2 x.av) f=f (Av x.ds.l) x.ds.l.length:=by rw[RatD.av,Aci,Aci,Acb,uv]
theorem yu (x:RatD):ble 3 (List.length x.av)=true:=rfl
theorem wa (x:RatD):take 3 x.av=x.av:=rfl
theorem wb (x:RatD):take 2 x.av=U7 x.neg x.ns:=rfl
theorem wc (n:Bool) (s:LS):((beq 0 0)&&((beq (List.length (U7 n s)) 2)&&(beq 2 2)))=true:=rfl
theorem qc (n:Bool) (s:LS):ble 2 (List.length (U7 n s))=true:=rfl
theorem xS (n:Bool) (s:LS):take 2 (U7 n s)=U7 n s:=rfl
theorem ux:([.int .u32 1]:LA)=Av [1]:=rfl
theorem sv:Be [1]:=by intro x b;simp at b;omega
theorem RC:Bn 1=[1]:=by rw[A_ (by omega)];simp[Ft]
theorem uy {v:Nat} {S:List Nat} (b:Be S) (d:val S=v):take ((Bn v).length*1) (Av S)=Av (Bn v):=by rw[←d,si b]
theorem Abt (neg:Bool) (l:List Nat) (t o:Bool):([.bool neg,.imm (Av l) l.length 1 t o]:LA)=U7 neg (.of l t o):=rfl
theorem vg {z:Int} {t o:Bool}:Ea (decide (z<0)) (.of (Bn z.natAbs) t o)=z:=by
 unfold Ea LS.l;rw[Br]
 by_cases h:z<0
 ·rw[if_pos (by simpa using h)];omega
 ·rw[if_neg (by simpa using h)];omega
theorem LQ {N:Nat} {x:RatD} {o:Bool} (d:x.ok) (i:fit x.m N):∃ (neg:Bool) (s:LS) (l:List Nat) (o1 o2:Bool),Be s.l∧Be l∧val l≠0∧s.l.length≤x.m∧l.length≤max x.m 1∧mkRat (Ea neg s) (val l)=x.q∧∀ K:LA→Bool→LA→Nat→Bool→O R,MZ N x.av o K=K (U7 neg s) o1 (Av l) l.length o2:=by
 have e:x.ns.l.length≤x.m:=Ae2 _ _
 have b:x.ds.l.length≤x.m:=Afn _ _
 by_cases h0:val x.ds.l=0
 ·refine⟨false,.nil,[1],false,false,iq,sv,by decide,by simp[LS.l],by simp;omega,?_,fun K=>?_⟩
  ·unfold RatD.q;rw[h0];simp[Ea,LS.l,val]
  ·rw[Zl];unfold GO
   rw[vf,fM rfl d.2 (i.le b),h0,HL];rfl
 ·refine⟨x.neg,x.ns,x.ds.l,o,o,d.1,d.2,h0,e,by omega,rfl,fun K=>?_⟩
  have:BA (val x.ds.l) 0=1:=by unfold BA;rw[if_neg (by omega),if_pos (by omega)]
  rw[Zl];unfold GO
  rw[vf,fM rfl d.2 (i.le b),this,show((1:Int)==0)=false by rfl,cf,show ble 2 (List.length x.av)=true by rfl,ct,vf,wb,wc,ct,qc,ct,xS]
theorem yv (z:Int) (d:Nat) (e:d≠0):(mkRat z d).num.sign=z.sign:=by
 obtain⟨j,i,_⟩:=uw z d e
 rcases Int.lt_trichotomy z 0 with h | h | h
 ·rw[Aeb h,Aeb (i.2 h)]
 ·subst h;simp
 ·have hn:¬ (mkRat z d).num<0:=fun b=>by have:=i.1 b;omega
  have h0:(mkRat z d).num≠0:=fun b=>by
   have:mkRat z d=0:=Rat.num_eq_zero.1 b
   rw[Rat.mkRat_eq_zero e] at this;omega
  rw[Ad9 h,Ad9 (by omega)]
theorem qd {N:Nat} {x:RatD} {o:Bool} {K:Int→O R} (d:x.ok) (b:fit x.m N):Z' N x.av o K=K x.q.num.sign:=by
 obtain⟨neg,s,l,o1,o2,e,v,i,j,y,k,u⟩:=LQ (R:=R) (o:=o) d b
 rw[VR];unfold cC
 rw[yu,ct,wa,u,wc,ct,qc,ct,xS,qb e (b.le j),←k,yv _ _ i]
def Lh (z:Int):LA:=U7 (decide (z<0)) (.of (Bn z.natAbs) false false)
theorem wd (z:Int) (K:LA→O R):(cond ((beq 0 0)&&((beq (List.length (Lh z)) 2)&&(beq 2 2))) (cond (ble 2 (List.length (Lh z))) (K (take 2 (Lh z))) none) none)=K (Lh z):=rfl
theorem Abu (z:Int):take 2 (Lh z)=Lh z:=rfl
theorem Aap (z:Int):beq (List.length (Lh z)) 2=true:=rfl
theorem zR (v:Nat):take ((Bn v).length*1) (Av (Bn v))=Av (Bn v):=uy (Ba _) (Br v)
theorem BD {N:Nat} {neg:Bool} {l:List Nat} {n:Nat} {t o:Bool} {K:LA→O R} (hn:n=l.length) (b:Be l) (d:fit l.length N):F9 N neg (Av l) n t o K=K (Lh (if neg then -(val l:Int) else (val l:Int))):=by
 obtain⟨c1,c2⟩:=su (z:=if neg then -(val l:Int) else (val l:Int)) (c:=neg) (m:=val l) rfl
 rw[M_];unfold SL
 rw[Cz hn b d,zR]
 unfold Lh
 rw[←c1,c2]
 cases neg
 ·rfl
 ·rw[show((true:Bool)==true)=true by rfl,ct,xi];simp[U7,LS.av]
theorem LV {N:Nat} {n:Bool} {s:LS} {o:Bool} {K:LA→O R} (hs:Be s.l) (b:fit s.l.length N):Xv N (U7 n s) o K=K (Lh (Ea n s)):=by
 rw[M'];unfold SM
 rw[oM,oN,BD rfl hs b];exact wd _ _
theorem fO {N:Nat} {n:Bool} {s:LS} {o:Bool} {K:Int→O R} (hs:Be s.l) (b:fit s.l.length N):Xw N (U7 n s) o K=K (Ea n s).sign:=by
 rw[NA];unfold SN
 rw[qc,ct,xS,LV hs b,Aap,show((true&&(true&&(!false))))=true by rfl,ct]
 have e:setCells (U7 n s) 0 (Lh (Ea n s))=Lh (Ea n s):=rfl
 rw[e]
 generalize Ea n s=z
 unfold Lh
 rw[oM]
 rcases Int.lt_trichotomy z 0 with h | h | h
 ·rw[decide_eq_true h,ct,Aeb h]
 ·subst h;rfl
 ·rw[decide_eq_false (by omega),cf,oN]
  have:(Bn z.natAbs).length≠0:=fun d=>by have:=Es.1 d;omega
  simp only[LS.l]
  rw[yp this,cf,Ad9 h]
theorem sw {N:Nat} {n1 n2:Bool} {b s2:LS} {o1 o2:Bool} {K:LA→O R} (d:Be b.l) (e:Be s2.l) (i:fit (3*(b.l.length+s2.l.length)+4) N):aB N (U7 n1 b) o1 (U7 n2 s2) o2 K=K (Lh ((Nat.gcd (Ea n1 b).natAbs (Ea n2 s2).natAbs:Nat):Int)):=by
 have j:(Bn (Nat.gcd (val b.l) (val s2.l))).length≤b.l.length+s2.l.length:=by
  rcases Adk (val b.l) with h | h
  ·rw[h,Nat.gcd_zero_left];have:=(Fz e).2;omega
  ·have:=Dc (Nat.gcd_le_left (val s2.l) h);have:=(Fz d).2;omega
 rw[VX];unfold cS
 rw[oN,oN,sr rfl rfl d e i,zR,BD rfl (Ba _) (i.le (by omega)),Br,Na,Na];exact wd _ _
theorem FZ {N:Nat} {n1:Bool} {b:LS} {g:Nat} {o1 o2:Bool} {K:LA→LA→Bool→O R} (i:Be b.l) (k:0<g) (j:g∣val b.l) (e:fit (b.l.length+2*(Bn g).length+4) N):T9 N (U7 n1 b) o1 (Lh (g:Int)) o2 K=K (Lh (Ea n1 b/(g:Int))) (Lh 0) true:=by
 have d:Lh (g:Int)=U7 false (.of (Bn g) false false):=by
  unfold Lh;rw[decide_eq_false (by omega),Ae8]
 have hq:(Bn (val b.l/g)).length≤b.l.length:=Add (Dc (Aet _ _)) (Fz i).2
 rw[d,DZ];unfold DY
 rw[oN,oN,show(LS.of (Bn g) false false).l=Bn g by rfl]
 rw[BC rfl rfl i (Ba _) (by rw[Br];omega) e,Br,Nat.mod_eq_zero_of_dvd j,show(!true)=false by rfl,cf,oM,oM,zR,BD rfl (Ba _) (e.le (by omega)),oM,zR,BD rfl (Ba _) (e.le (by simp[Ft])),Br,Br]
 have m:(if n1=true then -((0:Nat):Int) else ((0:Nat):Int))=0:=by cases n1<;>rfl
 have e1:(if (!(n1==false))=true then -((val b.l/g:Nat):Int) else ((val b.l/g:Nat):Int))=Ea n1 b/(g:Int):=by
  obtain⟨c,d⟩:=j
  have s:val b.l/g=c:=by rw[d,Afj _ k]
  rw[s];unfold Ea;rw[d]
  cases n1
  ·simp;rw[Aed _ (by omega)]
  ·simp only[Bool.true_beq,Acv,if_true]
   rw[show -((g*c:Nat):Int)=(g:Int)*(-(c:Int)) by rw[Int.mul_neg];simp,Aed _ (by omega)]
 rw[m,e1]
 generalize Ea n1 b/(g:Int)=q
 have u:∀ (f:Bool→O R),L_ (Lh 0) f=f false:=fun f=>oM
 rw[show((beq 0 0)&&((beq (List.length (Lh q)) 2)&&(beq 2 2)))=true by rfl,ct,show((beq 0 0)&&((beq (List.length (Lh 0)) 2)&&(beq 2 2)))=true by rfl,ct,u,cf]
 rfl
def Abb (q:Rat):RatD:=⟨decide (q.num<0),.of (Bn q.num.natAbs) false false,.of (Bn q.den) false false⟩
def cq (q:Rat):LA:=(Abb q).av
theorem wg (q:Rat) (K:LA→O R):(cond ((beq 0 0)&&((beq (List.length (cq q)) 3)&&(beq 3 3))) (cond (ble 3 (List.length (cq q))) (K (take 3 (cq q))) none) none)=K (cq q):=rfl
theorem yw (q:Rat):ble 2 (List.length (cq q))=true:=rfl
theorem xT (q:Rat):take 2 (cq q)=Lh q.num:=rfl
theorem vh:cq 0=[(.bool false),(.imm [] 0 1 false false),(.imm [(.int .u32 1)] 1 1 false false)]:=by
 have e:cq 0=[.bool false,.imm (Av (Bn 0)) (Bn 0).length 1 false false,.imm (Av (Bn 1)) (Bn 1).length 1 false false]:=rfl
 rw[e,RC];rfl
theorem qe {N:Nat} {K:LA→O R}:NB N K=K (cq 0):=by
 rw[NC];unfold SO
 rw[vh]
theorem yx {N:Nat} {z:Int} {o:Bool} {K:Int→O R} (b:fit (Bn z.natAbs).length N):Xw N (Lh z) o K=K z.sign:=by
 have:=fO (R:=R) (N:=N) (n:=decide (z<0)) (s:=.of (Bn z.natAbs) false false) (o:=o) (K:=K) (Ba _) b
 rw[vg] at this;exact this
theorem xU (z:Int):mkRat z 1=(z:Rat):=by
 apply Rat.ext
 ·rw[Agb,if_neg (by decide),Nat.gcd_one_left];simp
 ·rw[Aga,if_neg (by decide),Nat.gcd_one_left];simp
theorem vj (z:Int) (w:Nat) (b:w≠0):(mkRat z w).num=z/((Nat.gcd z.natAbs w:Nat):Int)∧(mkRat z w).den=w/Nat.gcd z.natAbs w:=by
 refine⟨?_,?_⟩
 ·rw[Agb,if_neg b,Aeo w]
 ·rw[Aga,if_neg b,Aeo w]
theorem oO {N:Nat} {n1 n2:Bool} {d s2:LS} {o1 o2:Bool} {K:LA→O R} (u:Be d.l) (k:Be s2.l) (F:0≤Ea n2 s2) (i:fit (4*(d.l.length+s2.l.length)+10) N):D_ N (U7 n1 d) o1 (U7 n2 s2) o2 K=K (cq (mkRat (Ea n1 d) (Ea n2 s2).natAbs)):=by
 have j:=Na n2 s2
 have q:=Na n1 d
 rw[NP];unfold GP
 rw[qc,ct,xS,fO k (i.le (by omega))]
 by_cases h0:Ea n2 s2=0
 ·rw[h0,show((0:Int).sign==0)=true by rfl,ct,qe]
  rw[show(0:Int).natAbs=0 by rfl,Rat.mkRat_zero];exact wg _ _
 ·have G:(Ea n2 s2).natAbs≠0:=by omega
  have v:((Ea n2 s2).sign==0)=false:=by rw[Ad9 (by omega)];rfl
  rw[v,cf,ct,LV k (i.le (by omega)),show((beq 0 0)&&((beq (List.length (Lh (Ea n2 s2))) 2)&&(beq 2 2)))=true by rfl,ct]
  have rb:∀ (z:Int) (f:Bool→O R),L_ (Lh z) f=f (decide (z<0)):=fun z f=>oM
  have rl:∀ (z:Int) (f:LA→Nat→O R),Az 1 (drop 1 (Lh z)) f=f (Av (Bn z.natAbs)) (Bn z.natAbs).length:=fun z f=>oN
  have l2:=(Fz k).2
  have l1:=(Fz u).2
  rw[rb,decide_eq_false (by omega),show((!false)==true)=true by rfl,ct,rl,ux,ut (a:=Bn (Ea n2 s2).natAbs) (b:=[1]) (m:=1) rfl rfl (i.le (by rw[j];omega)),xi]
  by_cases e:(Ea n2 s2).natAbs=1
  ·rw[e,RC,show decide (([1]:List Nat)=[1])=true by decide,ct,qc,ct,xS,LV u (i.le (by omega)),rl,e,RC]
   rw[xU]
   have I:cq ((Ea n1 d:Int):Rat)=[.bool (decide (Ea n1 d<0)),.imm (Av (Bn (Ea n1 d).natAbs)) (Bn (Ea n1 d).natAbs).length 1 false false,.imm (Av [1]) 1 1 false false]:=by
    unfold cq Abb RatD.av LS.av
    rw[Rat.num_intCast,Rat.den_intCast,RC];rfl
   rw[I];rfl
  ·have y:decide (Bn (Ea n2 s2).natAbs=[1])=false:=by
    rw[decide_eq_false_iff_not];intro L
    have:=congrArg val L
    rw[Br] at this;simp[val] at this;omega
   rw[y,cf]
   unfold Vj
   have s:0<Nat.gcd (Ea n1 d).natAbs (Ea n2 s2).natAbs:=Afh _ (by omega)
   have M:(Bn (Nat.gcd (Ea n1 d).natAbs (Ea n2 s2).natAbs)).length≤s2.l.length:=Add (Dc (Nat.gcd_le_right _ (by omega))) (by rw[j];exact l2)
   have A:Nat.gcd (Ea n1 d).natAbs (Ea n2 s2).natAbs∣val d.l:=by rw[←q];exact Nat.gcd_dvd_left _ _
   have C:Nat.gcd (Ea n1 d).natAbs (Ea n2 s2).natAbs∣val s2.l:=by rw[←j];exact Nat.gcd_dvd_right _ _
   obtain⟨S,T⟩:=vj (Ea n1 d) (Ea n2 s2).natAbs G
   rw[qc,ct,qc,ct,xS,xS,sw u k (i.le (by omega))]
   generalize U:Nat.gcd (Ea n1 d).natAbs (Ea n2 s2).natAbs=g at *
   rw[show((beq 0 0)&&((beq (List.length (Lh (g:Int))) 2)&&(beq 2 2)))=true by rfl,ct,ct,show ble 2 (List.length (Lh (g:Int)))=true by rfl,ct,Abu,FZ u s A (i.le (by omega))]
   rw[show ∀ z:Int,((beq 0 0)&&((beq (List.length (Lh z)) 2)&&(beq 2 2)))=true from fun z=>rfl,ct,show((beq 0 0)&&((beq (List.length (Lh 0)) 2)&&(beq 2 2)))=true by rfl,ct,ct,FZ k s C (i.le (by omega))]
   have D:Ea n2 s2/(g:Int)=(((Ea n2 s2).natAbs/g:Nat):Int):=by
    rw[show Ea n2 s2=(((Ea n2 s2).natAbs:Nat):Int) by omega];rfl
   rw[show ∀ z:Int,((beq 0 0)&&((beq (List.length (Lh z)) 2)&&(beq 2 2)))=true from fun z=>rfl,ct,ct,rb,D,decide_eq_false (by omega),cf,show ∀ z:Int,ble 2 (List.length (Lh z))=true from fun z=>rfl,ct,rl,Ae8,←T]
   rw[←S];rfl
theorem oP {N:Nat} {x:RatD} {o:Bool} {K:LA→O R} (b:x.ok) (d:fit (8*x.m+10) N):NQ N x.av o K=K (cq x.q):=by
 have m1:x.ns.l.length≤x.m:=Ae2 _ _
 have m2:x.ds.l.length≤x.m:=Afn _ _
 rw[NR];unfold SU
 rw[show ble 2 (List.length x.av)=true by rfl,ct,vf,wb,Abt,oO (s2:=.of x.ds.l false o) b.1 b.2 (by unfold Ea;simp) (d.le (show 4*(x.ns.l.length+x.ds.l.length)+10≤_ by omega))]
 have:mkRat (Ea x.neg x.ns) (Ea false (.of x.ds.l false o)).natAbs=x.q:=by rw[Na];rfl
 rw[this];exact wg _ _
theorem yy (x:RatD) (b:x.ok):qm x.q≤x.m+1:=by
 have m1:x.ns.l.length≤x.m:=Ae2 _ _
 have m2:x.ds.l.length≤x.m:=Afn _ _
 unfold qm
 by_cases h:val x.ds.l=0
 ·have:x.q=0:=by unfold RatD.q;rw[h,Rat.mkRat_zero]
  rw[this,Rat.zero_num,Rat.zero_den,RC];simp[Ft]
 ·obtain⟨a1,_,a3⟩:=uw (Ea x.neg x.ns) (val x.ds.l) h
  have d:x.q.num.natAbs≤val x.ns.l:=by show(mkRat _ _).num.natAbs≤_;rw[a1,Na];exact Aet _ _
  have e:x.q.den≤val x.ds.l:=by show(mkRat _ _).den≤_;rw[a3];exact Aet _ _
  have c1:=Add (Dc d) (Fz b.1).2
  have c2:=Add (Dc e) (Fz b.2).2
  omega
theorem oQ {N:Nat} {x:RatD} {o:Bool} {K:Int→O R} (b:x.ok) (d:fit (8*x.m+10) N):EA N x.av o K=K x.q.num.sign:=by
 have hq:=yy x b
 have e:(Bn x.q.num.natAbs).length≤qm x.q:=Ae2 _ _
 rw[NS];unfold SV
 rw[yu,ct,wa,oP b d,yw,ct,xT,yx (d.le (show(Bn x.q.num.natAbs).length≤_ by omega))]
end
end Gx
namespace Gx.Bl
open Go Go.Proofs Gx.Cf
section
variable {R:Type}
structure EntD where
 i:Int
 v:RatD
structure CutD where
 kind:Int
 hour:Int
 units:Sl Int
 least:Int
 unit:Int
 len:Int
structure NodeD where
 kind:Int
 unit:Int
 hour:Int
 other:Int
 y:Sl EntD
structure LogD where
 uses:Sl (Int×Int)
 cuts:Sl CutD
 nodes:Sl NodeD
def EntD.av (e:EntD):LA:=.int .i64 e.i::e.v.av
def lS (u:Int×Int):LA:=[.int .i64 u.1,.int .i64 u.2]
def CutD.av (c:CutD):LA:=[.int .i64 c.kind,.int .i64 c.hour,c.units.av 1 Wq,.int .i64 c.least,.int .i64 c.unit,.int .i64 c.len]
def NodeD.av (n:NodeD):LA:=[.int .i64 n.kind,.int .i64 n.unit,.int .i64 n.hour,.int .i64 n.other,n.y.av 4 EntD.av]
def LogD.av (l:LogD):LA:=[l.uses.av 2 lS,l.cuts.av 6 CutD.av,l.nodes.av 5 NodeD.av]
theorem Ri (e:EntD):e.av.length=4:=rfl
theorem uz (c:CutD):c.av.length=6:=rfl
theorem Nb (n:NodeD):n.av.length=5:=rfl
def Aaq (M:Nat) (e:EntD):Prop:=e.v.ok∧e.v.m≤M
def yz (M B:Nat) (n:NodeD):Prop:=n.y.l.length≤B∧∀ e ∈ n.y.l,Aaq M e
def Aar (B:Nat) (c:CutD):Prop:=c.units.l.length≤B
structure LogG (M B:Nat) (l:LogD):Prop where
 uses:l.uses.l.length≤B
 cuts:l.cuts.l.length≤B
 nodes:l.nodes.l.length≤B
 cut:∀ c ∈ l.cuts.l,Aar B c
 node:∀ n ∈ l.nodes.l,yz M B n
theorem Ga {α:Type} {e:α→LA} {sz:Nat} (b:∀ a,(e a).length=sz) {l:List α} {j:Nat} (h:j<l.length):drop (Int.toNat (j:Int)*sz) (l.flatMap e)=e l[j]++(l.drop (j+1)).flatMap e:=by
 rw[Ab2,Ap b l j h]
theorem vA {s:Sl Int} {r:LA} {f:LA→Nat→O R}:Az 1 (s.av 1 Wq::r) f=f (Ax s.l) s.l.length:=by rw[Bj,C0]
theorem vq {N:Nat} (hN:10<N) {v:RatD} {a b:Bool}:∃ r:Bool,(r=true→v.m≤4)∧∀ K:Bool→O R,c_ N v.av 1 a b K=K r:=by
 have e1:∀ F:LA→Nat→O R,Az 1 (drop 1 v.av) F=F (Av v.ns.l) v.ns.l.length:=fun F=>by
  show Az 1 (v.ns.av::[v.ds.av]) F=_
  cases v.ns<;>rfl
 have i:∀ F:LA→Nat→O R,Az 1 (drop 2 v.av) F=F (Av v.ds.l) v.ds.l.length:=fun F=>by
  show Az 1 (v.ds.av::[]) F=_
  cases v.ds<;>rfl
 obtain⟨n,rfl⟩:∃ n,N=n+2:=⟨N - 2,by omega⟩
 refine⟨decide (v.ns.l.length≤4)&&decide (v.ds.l.length≤4),fun h=>?_,fun K=>?_⟩
 ·simp only[Ab6,decide_eq_true_eq] at h
  exact Nat.max_le.2 h
 ·rw[dA];unfold aC
  rw[show decide (((1:Nat):Int)>30)=false from rfl,cf]
  rw[Tk];unfold K'
  rw[show decide ((0:Int)<((1:Nat):Int))=true from rfl,ct,show Af 0 1=true from rfl,ct]
  show Az 1 (drop 1 v.av) _=_
  rw[e1]
  by_cases d:v.ns.l.length≤4
  ·rw[show(decide ((v.ns.l.length:Int)>4)==false)=true by rw[decide_eq_false (by omega)];rfl,ct,ct,decide_eq_true d,Aej]
   show Az 1 (drop 2 v.av) _=_
   rw[i]
   by_cases e:v.ds.l.length≤4
   ·rw[show(cond false true (decide ((v.ds.l.length:Int)>4)):Bool)=false from decide_eq_false (by omega),cf,decide_eq_true e,Tk];rfl
   ·rw[show(cond false true (decide ((v.ds.l.length:Int)>4)):Bool)=true from decide_eq_true (by omega),ct,decide_eq_false e]
  ·rw[show(decide ((v.ns.l.length:Int)>4)==false)=false by rw[decide_eq_true (by omega)];rfl,cf,decide_eq_false d];rfl
section light
variable {N:Nat} {x:LogD} {f:Bool}
theorem fP (hN:100<N) {i:Nat} (hi:i<x.nodes.l.length) (k:(x.nodes.l[i]).y.l.length≤12):∀ (m j fuel:Nat),j+m=(x.nodes.l[i]).y.l.length→m<fuel →
  ((∀ e ∈ (x.nodes.l[i]).y.l.drop j,e.v.m≤4)∧∀ (K2:Int→O R) (K:Bool→O R),Ce N K2 K f x.av fuel (i:Int) (j:Int)=K2 (wrap .i64 ((i:Int)+1)))∨∀ (K2:Int→O R) (K:Bool→O R),Ce N K2 K f x.av fuel (i:Int) (j:Int)=K false
 | 0,j,fuel+1,s,_=>by
  have rx:∀ F:LA→Nat→O R,Az 5 (drop 2 x.av) F=F (x.nodes.l.flatMap NodeD.av) x.nodes.l.length:=fun F=>by
   show Az 5 (x.nodes.av 5 NodeD.av::_) _=_
   rw[Bj]
  refine .inl ⟨by rw[Ac8 (by omega)];simp,fun K2 K=>?_⟩
  rw[Ce];unfold L6
  rw[rx,Ab hi,ct,Ga Nb hi]
  show Az 4 ((x.nodes.l[i]).y.av 4 EntD.av::_) _=_
  rw[Bj,G9 (by omega),cf]
 | m+1,j,fuel+1,s,D=>by
  have rx:∀ F:LA→Nat→O R,Az 5 (drop 2 x.av) F=F (x.nodes.l.flatMap NodeD.av) x.nodes.l.length:=fun F=>by
   show Az 5 (x.nodes.av 5 NodeD.av::_) _=_
   rw[Bj]
  have h:j<(x.nodes.l[i]).y.l.length:=by omega
  obtain⟨r,u,z⟩:=vq (R:=R) (N:=N) (by omega) (v:=((x.nodes.l[i]).y.l[j]).v) (a:=false) (b:=true)
  have l3:∀ (q:RatD) (r:LA),ble 3 (q.av++r).length=true:=fun q r=>by rw[Ab4];show ble 3 (3+r.length)=true;simp
  have pre:∀ (K2:Int→O R) (K:Bool→O R),Ce N K2 K f x.av (fuel+1) (i:Int) (j:Int)=cond (!r) (K false) (Ce N K2 K f x.av fuel (i:Int) ((j+1:Nat):Int)):=fun K2 K=>by
   rw[Ce];unfold L6
   have A:drop 1 (drop (Int.toNat (j:Int)*4) ((x.nodes.l[i]).y.l.flatMap EntD.av))=((x.nodes.l[i]).y.l[j]).v.av++((x.nodes.l[i]).y.l.drop (j+1)).flatMap EntD.av:=by rw[Ga Ri h];rfl
   have t3:∀ (q:RatD) (r:LA),take 3 (q.av++r)=q.av:=fun q r=>rfl
   rw[rx,Ab hi,ct,Ga Nb hi]
   show Az 4 ((x.nodes.l[i]).y.av 4 EntD.av::_) _=_
   rw[Bj,G4 h,ct,rx,Ab hi,ct,Ga Nb hi]
   show Az 4 ((x.nodes.l[i]).y.av 4 EntD.av::_) _=_
   rw[Bj,Ab h,ct,A,l3,ct,t3,show((beq (((x.nodes.l[i]).y.l[j]).v.av.length) 3)&&(ble 3 3))=true from rfl,ct,wS (by omega)]
   exact z _
  cases hr:r
  ·exact .inr fun K2 K=>by rw[pre,hr];rfl
  ·rcases fP hN hi k m (j+1) fuel (by omega) (by omega) with⟨e1,C⟩ | e
   ·refine .inl ⟨fun e d=>?_,fun K2 K=>by rw[pre,hr];exact C K2 K⟩
    rw[Ack h] at d
    rcases Ach.1 d with rfl | d
    ·exact u hr
    ·exact e1 e d
   ·exact .inr fun K2 K=>by rw[pre,hr];exact e K2 K
theorem XX (hN:100<N) (hn:x.nodes.l.length≤40):∀ (m i fuel:Nat),i+m=x.nodes.l.length→m<fuel→∃ r:Bool,(r=true→∀ n ∈ x.nodes.l.drop i,n.y.l.length≤12∧∀ e ∈ n.y.l,e.v.m≤4)∧∀ K:Bool→O R,Dh N K f x.av fuel (i:Int)=K r
 | 0,i,fuel+1,hi,_=>by
  have rx:∀ F:LA→Nat→O R,Az 5 (drop 2 x.av) F=F (x.nodes.l.flatMap NodeD.av) x.nodes.l.length:=fun F=>by
   show Az 5 (x.nodes.av 5 NodeD.av::_) _=_
   rw[Bj]
  refine⟨true,fun _=>by rw[Ac8 (by omega)];simp,fun K=>?_⟩
  rw[Dh];unfold L7
  rw[rx,G9 (by omega),cf]
 | m+1,i,fuel+1,hi,s=>by
  have rx:∀ F:LA→Nat→O R,Az 5 (drop 2 x.av) F=F (x.nodes.l.flatMap NodeD.av) x.nodes.l.length:=fun F=>by
   show Az 5 (x.nodes.av 5 NodeD.av::_) _=_
   rw[Bj]
  have h:i<x.nodes.l.length:=by omega
  have pre:∀ K:Bool→O R,Dh N K f x.av (fuel+1) (i:Int)=cond (decide ((((x.nodes.l[i]).y.l.length:Nat):Int)>12)) (K false) (Ce N (Dh N K f x.av fuel) K f x.av N (i:Int) ((0:Nat):Int)):=fun K=>by
   rw[Dh];unfold L7
   rw[rx,G4 h,ct,rx,Ab h,ct,Ga Nb h]
   show Az 4 ((x.nodes.l[i]).y.av 4 EntD.av::_) _=_
   rw[Bj];rfl
  by_cases d:(x.nodes.l[i]).y.l.length≤12
  ·rcases fP (R:=R) (f:=f) hN h d (x.nodes.l[i]).y.l.length 0 N (by omega) (by omega) with⟨e1,j⟩ | e
   ·obtain⟨r,k,q⟩:=XX hN hn m (i+1) fuel (by omega) (by omega)
    refine⟨r,fun hr n b=>?_,fun K=>?_⟩
    ·rw[Ack h] at b
     rcases Ach.1 b with rfl | b
     ·exact⟨d,by simpa using e1⟩
     ·exact k hr n b
    ·rw[pre,decide_eq_false (by omega),cf,j,wS (by omega),q]
   ·exact⟨false,fun h=>(by cases h),fun K=>by rw[pre,decide_eq_false (by omega),cf,e]⟩
  ·exact⟨false,fun h=>(by cases h),fun K=>by rw[pre,decide_eq_true (by omega),ct]⟩
theorem fQ (hN:100<N) (hn:x.nodes.l.length≤40) (k:x.cuts.l.length≤12):∀ (m i fuel:Nat),i+m=x.cuts.l.length→m<fuel→∃ r:Bool,(r=true→(∀ c ∈ x.cuts.l.drop i,c.units.l.length≤12)∧∀ n ∈ x.nodes.l,n.y.l.length≤12∧∀ e ∈ n.y.l,e.v.m≤4)∧∀ K:Bool→O R,Ee N K f x.av fuel (i:Int)=K r
 | 0,i,fuel+1,hi,_=>by
  have rx:∀ F:LA→Nat→O R,Az 6 (drop 1 x.av) F=F (x.cuts.l.flatMap CutD.av) x.cuts.l.length:=fun F=>by
   show Az 6 (x.cuts.av 6 CutD.av::_) _=_
   rw[Bj]
  obtain⟨r,d,j⟩:=XX (R:=R) (f:=f) hN hn x.nodes.l.length 0 N (by omega) (by omega)
  refine⟨r,fun hr=>⟨by rw[Ac8 (by omega)];simp,by simpa using d hr⟩,fun K=>?_⟩
  rw[Ee];unfold L8
  rw[rx,G9 (by omega),cf]
  exact j K
 | m+1,i,fuel+1,hi,s=>by
  have rx:∀ F:LA→Nat→O R,Az 6 (drop 1 x.av) F=F (x.cuts.l.flatMap CutD.av) x.cuts.l.length:=fun F=>by
   show Az 6 (x.cuts.av 6 CutD.av::_) _=_
   rw[Bj]
  have h:i<x.cuts.l.length:=by omega
  have pre:∀ K:Bool→O R,Ee N K f x.av (fuel+1) (i:Int)=cond (decide ((((x.cuts.l[i]).units.l.length:Nat):Int)>12)) (K false) (Ee N K f x.av fuel ((i+1:Nat):Int)):=fun K=>by
   rw[Ee];unfold L8
   rw[rx,G4 h,ct,rx,Ab h,ct,Ga uz h]
   show Az 1 ((x.cuts.l[i]).units.av 1 Wq::_) _=_
   rw[vA,wS (by omega)]
  by_cases q:(x.cuts.l[i]).units.l.length≤12
  ·obtain⟨r,d,j⟩:=fQ hN hn k m (i+1) fuel (by omega) (by omega)
   refine⟨r,fun hr=>⟨fun c b=>?_,(d hr).2⟩,fun K=>by rw[pre,decide_eq_false (by omega),cf,j]⟩
   rw[Ack h] at b
   rcases Ach.1 b with rfl | b
   ·exact q
   ·exact(d hr).1 c b
  ·exact⟨false,fun h=>(by cases h),fun K=>by rw[pre,decide_eq_true (by omega),ct]⟩
theorem qf (hN:100<N) (d:∀ n ∈ x.nodes.l,∀ e ∈ n.y.l,e.v.ok):∃ r:Bool,(r=true→LogG 4 40 x)∧∀ K:Bool→O R,Qt N x.av f K=K r:=by
 have b:∀ F:LA→Nat→O R,Az 2 x.av F=F (x.uses.l.flatMap lS) x.uses.l.length:=fun F=>by
  show Az 2 (x.uses.av 2 lS::_) _=_
  rw[Bj]
 have i:∀ F:LA→Nat→O R,Az 6 (drop 1 x.av) F=F (x.cuts.l.flatMap CutD.av) x.cuts.l.length:=fun F=>by
  show Az 6 (x.cuts.av 6 CutD.av::_) _=_
  rw[Bj]
 have j:∀ F:LA→Nat→O R,Az 5 (drop 2 x.av) F=F (x.nodes.l.flatMap NodeD.av) x.nodes.l.length:=fun F=>by
  show Az 5 (x.nodes.av 5 NodeD.av::_) _=_
  rw[Bj]
 by_cases z:x.uses.l.length≤20
 ·by_cases q:x.cuts.l.length≤12
  ·by_cases k:x.nodes.l.length≤40
   ·obtain⟨r,e1,s⟩:=fQ (R:=R) (f:=f) hN k q x.cuts.l.length 0 N (by omega) (by omega)
    refine⟨r,fun hr=>?_,fun K=>?_⟩
    ·have:=e1 hr
     rw[Acb] at this
     exact⟨by omega,by omega,k,fun c u=>Add (this.1 c u) (by decide),fun n hn=>⟨Add (this.2 n hn).1 (by decide),fun e m=>⟨d n hn e m,(this.2 n hn).2 e m⟩⟩⟩
    ·rw[It];unfold Hw
     rw[b,show(decide ((x.uses.l.length:Int)>20)==false)=true by rw[decide_eq_false (by omega)];rfl,ct,i,show(cond false true (decide ((x.cuts.l.length:Int)>12))==false)=true by rw[decide_eq_false (by omega)];rfl,ct,j,show(cond false true (decide ((x.nodes.l.length:Int)>40)):Bool)=false from decide_eq_false (by omega),cf]
     unfold Nn Rm
     exact s K
   ·refine⟨false,fun h=>(by cases h),fun K=>?_⟩
    rw[It];unfold Hw
    rw[b,show(decide ((x.uses.l.length:Int)>20)==false)=true by rw[decide_eq_false (by omega)];rfl,ct,i,show(cond false true (decide ((x.cuts.l.length:Int)>12))==false)=true by rw[decide_eq_false (by omega)];rfl,ct,j,show(cond false true (decide ((x.nodes.l.length:Int)>40)):Bool)=true from decide_eq_true (by omega),ct]
  ·refine⟨false,fun h=>(by cases h),fun K=>?_⟩
   rw[It];unfold Hw
   rw[b,show(decide ((x.uses.l.length:Int)>20)==false)=true by rw[decide_eq_false (by omega)];rfl,ct,i,show(cond false true (decide ((x.cuts.l.length:Int)>12))==false)=false by rw[decide_eq_true (by omega)];rfl,cf]
 ·refine⟨false,fun h=>(by cases h),fun K=>?_⟩
  rw[It];unfold Hw
  rw[b,show(decide ((x.uses.l.length:Int)>20)==false)=false by rw[decide_eq_true (by omega)];rfl,cf]
end light
theorem vt {u:UnitD} {r:LA} {F:LA→Nat→O R}:Az 1 (drop 18 (u.av++r)) F=F (u.away.l.flatMap Wq) u.away.l.length:=by
 unfold UnitD.av;exact Bj
theorem vu {u:UnitD} {r:LA} {F:LA→Nat→O R}:Az 2 (drop 4 (u.av++r)) F=F (u.segs.l.flatMap SegD.av) u.segs.l.length:=by
 unfold UnitD.av;exact Bj
theorem sx {N:Nat} {c:CaseD} {o:Bool} (s:c.units.l.length≤4):∀ (m j fuel:Nat),j+m=c.units.l.length→m<fuel→∃ t:Bool,∀ K:Bool→O R,Hv N K o c.av fuel (j:Int)=K t:=by
 intro m
 induction m with
 | zero =>
  intro j fuel e i
  obtain⟨f,rfl⟩:∃ f,fuel=f+1:=⟨fuel - 1,by omega⟩
  refine⟨true,fun K=>?_⟩
  rw[Hv];unfold Vl
  rw[Fs,G9 (by omega),cf]
 | succ m k =>
  intro j fuel e i
  obtain⟨f,rfl⟩:∃ f,fuel=f+1:=⟨fuel - 1,by omega⟩
  have h:j<c.units.l.length:=by omega
  obtain⟨t,q⟩:=k (j+1) f (by omega) (by omega)
  have step:∀ K:Bool→O R,Hv N K o c.av (f+1) (j:Int)=cond ((decide (((c.units.l[j].away.l.length:Nat):Int)>30))==false) (cond (cond false true (decide (((c.units.l[j].segs.l.length:Nat):Int)>20))) (K false) (K t)) (K false):=fun K=>by
   rw[Hv];unfold Vl
   rw[Fs,G4 h,ct,Fs,Ab h,ct,Ab2,Ap F3 _ _ h,vt]
   rw[Fs,Ab h,ct,Ap F3 _ _ h,vu,wS (by omega),q]
  by_cases b:((c.units.l[j].away.l.length:Nat):Int)>30
  ·exact⟨false,fun K=>by rw[step,decide_eq_true b];rfl⟩
  ·by_cases d:((c.units.l[j].segs.l.length:Nat):Int)>20
   ·exact⟨false,fun K=>by rw[step,decide_eq_false b,decide_eq_true d];rfl⟩
   ·exact⟨t,fun K=>by rw[step,decide_eq_false b,decide_eq_false d];rfl⟩
structure TinyC (c:CaseD):Prop where
 b:c.buses.l.length≤5
 l:c.lines.l.length≤6
 u:c.units.l.length≤4
 s:c.stores.l.length≤4
 t:c.ties.l.length≤4
 o:c.outs.l.length≤4
theorem sy {N:Nat} {c:CaseD} {o:Bool} (hN:64≤N):∃ t:Bool,(t=true→TinyC c)∧∀ K:Bool→O R,GQ N c.av o K=K t:=by
 have e:∀ K:Bool→O R,GQ N c.av o K=cond (decide ((c.buses.l.length:Int)>5)==false) (cond (decide ((c.lines.l.length:Int)>6)==false) (cond (decide ((c.units.l.length:Int)>4)==false) (cond (decide ((c.stores.l.length:Int)>4)==false) (cond (decide ((c.ties.l.length:Int)>4)==false) (cond (decide ((c.outs.l.length:Int)>4)==false) (cond (decide (c.hours>3)) (K false) (Hv N K o c.av N 0)) (K false)) (K false)) (K false)) (K false)) (K false)) (K false):=fun K=>by
  rw[V_];unfold NT
  rw[I0,Ge,Fs,Pc,AK,Qe,Lv]
  unfold Zr EE
  rfl
 by_cases h:TinyC c
 ·obtain⟨t,d⟩:=sx (R:=R) (N:=N) (o:=o) h.u c.units.l.length 0 N (by omega) (by have:=h.u;omega)
  refine⟨cond (decide (c.hours>3)) false t,fun _=>h,fun K=>?_⟩
  have:=h.b;have:=h.l;have:=h.u;have:=h.s;have:=h.t;have:=h.o
  rw[e,decide_eq_false (by omega),decide_eq_false (by omega),decide_eq_false (by omega),decide_eq_false (by omega),decide_eq_false (by omega),decide_eq_false (by omega),show Hv N K o c.av N 0=K t from d K]
  cases decide (c.hours>3)<;>rfl
 ·refine⟨false,fun h=>(by cases h),fun K=>?_⟩
  rw[e]
  have i:decide ((c.buses.l.length:Int)>5)=true∨decide ((c.lines.l.length:Int)>6)=true∨decide ((c.units.l.length:Int)>4)=true∨decide ((c.stores.l.length:Int)>4)=true∨decide ((c.ties.l.length:Int)>4)=true∨decide ((c.outs.l.length:Int)>4)=true:=by
   simp only[decide_eq_true_eq]
   false_or_by_contra
   exact h ⟨by omega,by omega,by omega,by omega,by omega,by omega⟩
  revert i
  generalize decide ((c.buses.l.length:Int)>5)=x1
  generalize decide ((c.lines.l.length:Int)>6)=x2
  generalize decide ((c.units.l.length:Int)>4)=x3
  generalize decide ((c.stores.l.length:Int)>4)=x4
  generalize decide ((c.ties.l.length:Int)>4)=x5
  generalize decide ((c.outs.l.length:Int)>4)=x6
  cases x1<;>cases x2<;>cases x3<;>cases x4<;>cases x5<;>cases x6<;>simp
end
end Gx.Bl
namespace Gx
open Go Go.Proofs Go.RowKit Go.ChangeShapes
theorem vB {n:Int} (h:(Lit.int .u32 n).wf=true):0≤n∧n<4294967296:=by
 simp only[Lit.wf,Ab6,decide_eq_true_eq,show IntKind.u32.min=0 from rfl,show IntKind.u32.max=4294967295 from rfl] at h;omega
theorem xV {n:Int} (h:(Lit.int .i64 n).wf=true):-9223372036854775808≤n∧n≤9223372036854775807:=by
 simp only[Lit.wf,Ab6,decide_eq_true_eq,show IntKind.i64.min=-9223372036854775808 from rfl,show IntKind.i64.max=9223372036854775807 from rfl] at h;omega
section
theorem Yz:Opens Tryz.prog 3 (α:=Int) (fun n=>[.int .i64 n]) 1:=(SF Tryz.underlying3 (by kernel_rfl)).map _ (fun n=>n.1) (fun _=>rfl) (fun _=>rfl)
theorem xW:Opens Tryz.prog 222 (α:={ n:Nat // n<4294967296 }) (fun n=>[.int .u32 (n.1:Int)]) 1 :=
 (SF Tryz.underlying222 (by kernel_rfl)).map _ (fun n=>⟨n.1.toNat,by have:=vB n.2;omega⟩) (fun n=>by have:=vB n.2;simp;omega) (fun _=>rfl)
theorem jC:∀ l:List { n:Nat // n<4294967296 },l.flatMap (fun n=>[AV.int .u32 (n.1:Int)])=Av (l.map (·.1))
 | []=>rfl
 | a::r=>by rw[Ad0,jC r];rfl
theorem r9:Opens Tryz.prog 69 (α:={ l:List Nat // Be l }) (fun l=>[.imm (Av l.1) l.1.length 1 false false]) 1 :=
 (Mw Tryz.underlying69 (by kernel_rfl) xW).map _ (fun l=>⟨l.1.map (·.1),fun x b=>by obtain⟨y,_,rfl⟩:=Acs.1 b;exact y.2⟩) (fun l=>by show [AV.imm (l.1.flatMap fun n=>[AV.int .u32 (n.1:Int)]) l.1.length 1 false false]=[AV.imm (Av (l.1.map (·.1))) (l.1.map (·.1)).length 1 false false];rw[jC,Adl]) (fun _=>rfl)
theorem zA:Opens Tryz.prog 73 (α:={ x:RatD // x.ok }) (fun x=>x.1.av) 3 :=
 (Hr Tryz.underlying73 (by kernel_rfl) (by decide) (Bb rfl (Hr Tryz.underlying71 (by kernel_rfl) (by decide) (Bb rfl (b7 Tryz.underlying4 (by kernel_rfl)) (Bb rfl r9 Ml))) (Bb rfl r9 Ml))).map _
  (fun p=>⟨⟨p.1.1,.of p.1.2.1.1 false false,.of p.2.1.1 false false⟩,⟨p.1.2.1.2,p.2.1.2⟩⟩) (fun _=>rfl) (fun _=>rfl)
theorem zB:Opens Tryz.prog 75 (α:={ e:Bl.EntD // e.v.ok }) (fun e=>e.1.av) 4 :=
 (Hr Tryz.underlying75 (by kernel_rfl) (by decide) (Bb rfl Yz (Bb rfl zA Ml))).map _ (fun p=>⟨⟨p.1,p.2.1.1⟩,p.2.1.2⟩) (fun _=>rfl) (fun _=>rfl)
theorem fR:∀ m:List Int,m.flatMap (fun n=>[AV.int .i64 n])=Cf.Ax m
 | []=>rfl
 | a::r=>by rw[Ad0,fR r];rfl
theorem xX:Opens Tryz.prog 22 (α:=List Int) (fun l=>[.imm (Cf.Ax l) l.length 1 false false]) 1 :=
 (Mw Tryz.underlying22 (by kernel_rfl) Yz).map _ (fun l=>l.1) (fun l=>by rw[←fR]) (fun _=>rfl)
theorem xY:Opens Tryz.prog 53 (α:={ l:List Bl.EntD // ∀ e ∈ l,e.v.ok }) (fun l=>[.imm (l.1.flatMap Bl.EntD.av) l.1.length 4 false false]) 1 :=
 (Mw Tryz.underlying53 (by kernel_rfl) zB).map _ (fun l=>⟨l.1.map (·.1),fun x b=>by obtain⟨y,_,rfl⟩:=Acs.1 b;exact y.2⟩) (fun l=>by show [AV.imm (l.1.flatMap fun e=>e.1.av) l.1.length 4 false false]=[AV.imm ((l.1.map (·.1)).flatMap Bl.EntD.av) (l.1.map (·.1)).length 4 false false];rw[Afl,Adl]) (fun _=>rfl)
theorem zC:Opens Tryz.prog 116 (α:=Int×Int) Bl.lS 2 :=
 (Hr Tryz.underlying116 (by kernel_rfl) (by decide) (Bb rfl Yz (Bb rfl Yz Ml))).map _ (fun p=>(p.1,p.2.1)) (fun _=>rfl) (fun _=>rfl)
theorem zD:Opens Tryz.prog 67 (α:=Bl.CutD) Bl.CutD.av 6 :=
 (Hr Tryz.underlying67 (by kernel_rfl) (by decide) (Bb rfl Yz (Bb rfl Yz (Bb rfl xX (Bb rfl Yz (Bb rfl Yz (Bb rfl Yz Ml))))))).map _
  (fun p=>⟨p.1,p.2.1,.of p.2.2.1 false false,p.2.2.2.1,p.2.2.2.2.1,p.2.2.2.2.2.1⟩) (fun p=>by
   show _=[AV.int .i64 p.1,.int .i64 p.2.1,.imm (p.2.2.1.flatMap Cf.Wq) p.2.2.1.length 1 false false,.int .i64 p.2.2.2.1,.int .i64 p.2.2.2.2.1,.int .i64 p.2.2.2.2.2.1]
   rw[Cf.C0];rfl) (fun _=>rfl)
def lT (n:Bl.NodeD):Prop:=∀ e ∈ n.y.l,e.v.ok
theorem xZ:Opens Tryz.prog 55 (α:={ n:Bl.NodeD // lT n }) (fun n=>n.1.av) 5 :=
 (Hr Tryz.underlying55 (by kernel_rfl) (by decide) (Bb rfl Yz (Bb rfl Yz (Bb rfl Yz (Bb rfl Yz (Bb rfl xY Ml)))))).map _
  (fun p=>⟨⟨p.1,p.2.1,p.2.2.1,p.2.2.2.1,.of p.2.2.2.2.1.1 false false⟩,p.2.2.2.2.1.2⟩) (fun _=>rfl) (fun _=>rfl)
theorem zE:Opens Tryz.prog 27 (α:=List (Int×Int)×List Bl.CutD×{ l:List Bl.NodeD // ∀ n ∈ l,lT n }) (fun p=>[.imm (p.1.flatMap Bl.lS) p.1.length 2 false false,.imm (p.2.1.flatMap Bl.CutD.av) p.2.1.length 6 false false,.imm (p.2.2.1.flatMap Bl.NodeD.av) p.2.2.1.length 5 false false]) 3 :=
 (Hr Tryz.underlying27 (by kernel_rfl) (by decide) (Bb rfl (Mw Tryz.underlying23 (by kernel_rfl) zC) (Bb rfl (Mw Tryz.underlying24 (by kernel_rfl) zD) (Bb rfl (Mw Tryz.underlying25 (by kernel_rfl) xZ) Ml)))).map _
  (fun p=>⟨p.1.1,p.2.1.1,p.2.2.1.1.map (·.1),fun x b=>by obtain⟨y,_,rfl⟩:=Acs.1 b;exact y.2⟩)
  (fun p=>by
   have e1:p.2.2.1.1.flatMap (fun n=>n.1.av)=(p.2.2.1.1.map (·.1)).flatMap Bl.NodeD.av:=by rw[Afl]
   dsimp only
   rw[←e1,Adl];rfl) (fun _=>rfl)
end
section
variable {W:World} {H:Type} {enc:TypeId×Value→H} {β:Bu} {h:Ao}
theorem vC {v:Value} {d:DataW H} {p:List MemPlace} (b:∃ cs,v=.agg cs) (e:DataW.Trod enc Tryz.prog W 0 (fun _=>true) true 27 v d p) :
  ∃ (U:List (Int×Int)) (C:List Bl.CutD) (P:List Bl.NodeD),(∀ n ∈ P,lT n)∧Rep (fun _ k=>k<W.heap.size) β h W (.agg [.imm (U.flatMap Bl.lS) U.length 2 false false,.imm (C.flatMap Bl.CutD.av) C.length 6 false false,.imm (P.flatMap Bl.NodeD.av) P.length 5 false false]) v:=by
 obtain⟨cs,rfl⟩:=b
 obtain⟨⟨U,C,P,hP⟩,hr⟩:=tt (β:=β) (h:=h) zE e
 exact⟨U,C,P,hP,rE hr⟩
end
open Cf
section
def vw (s:Sl Int):Prop:=∃ l:List Int,s=.of l false false∧l.length*8≤reachBytes
theorem C6:OpensW Tryz.prog 3 (α:=Int) (fun n=>[.int .i64 n]) 1 :=
 (SF Tryz.underlying3 (by kernel_rfl)).w.map _ (fun n=>n.1) (fun _=>rfl) (fun _=>rfl)
theorem jD:OpensW Tryz.prog 9 (α:=Lu) (fun s=>[.str s]) 1 :=
 (jr Tryz.underlying9 (by kernel_rfl)).w.map _ (fun n=>n.1) (fun _=>rfl) (fun _=>rfl)
theorem x8:OpensW Tryz.prog 4 (α:=Bool) (fun b=>[.bool b]) 1:=(b7 Tryz.underlying4 (by kernel_rfl)).w
theorem LW:OpensW Tryz.prog 22 (α:={ s:Sl Int // vw s }) (fun s=>[s.1.av 1 Wq]) 1 :=
 (Nj (k:=8) Tryz.underlying22 (by kernel_rfl) C6 (of_decide_eq_true (by kernel_rfl))).map _ (fun l=>⟨.of l.1 false false,l.1,rfl,l.2⟩) (fun _=>rfl) (fun _=>rfl)
theorem lU:OpensW Tryz.prog 88 (α:=FracD) (fun f=>[.int .i64 f.num,.int .i64 f.den]) 2 :=
 (C9 Tryz.underlying88 (by kernel_rfl) (by decide) (Ae rfl C6 (Ae rfl C6 E1))).map _ (fun p=>⟨p.1,p.2.1⟩) (fun _=>rfl) (fun _=>rfl)
theorem zF:OpensW Tryz.prog 92 (α:={ s:Sl SegD // ∃ l,s=.of l false false∧l.length*8≤reachBytes }) (fun s=>[s.1.av 2 SegD.av]) 1 :=
 (Nj (k:=8) Tryz.underlying92 (by kernel_rfl) ((C9 Tryz.underlying144 (by kernel_rfl) (by decide) (Ae rfl C6 (Ae rfl C6 E1))).map SegD.av (fun p=>⟨p.1,p.2.1⟩) (fun _=>rfl) fun _=>rfl) (of_decide_eq_true (by kernel_rfl))).map _ (fun l=>⟨.of l.1 false false,l.1,rfl,l.2⟩) (fun _=>rfl) (fun _=>rfl)
theorem vz:OpensW Tryz.prog 100 (α:={ s:Sl MoveD // ∃ l,s=.of l false false∧l.length*24≤reachBytes }) (fun s=>[s.1.av 3 MoveD.av]) 1 :=
 (Nj (k:=24) Tryz.underlying100 (by kernel_rfl) ((C9 Tryz.underlying146 (by kernel_rfl) (by decide) (Ae rfl C6 (Ae rfl C6 (Ae rfl C6 E1)))).map MoveD.av (fun p=>⟨p.1,p.2.1,p.2.2.1⟩) (fun _=>rfl) fun _=>rfl) (of_decide_eq_true (by kernel_rfl))).map _ (fun l=>⟨.of l.1 false false,l.1,rfl,l.2⟩) (fun _=>rfl) (fun _=>rfl)
def wh (b:BusD):Prop:=vw b.demand
theorem zG:OpensW Tryz.prog 86 (α:={ b:BusD // wh b }) (fun b=>b.1.av) 3 :=
 (C9 Tryz.underlying86 (by kernel_rfl) (by decide) (Ae rfl jD (Ae rfl LW (Ae rfl C6 E1)))).map _ (fun p=>⟨⟨p.1,p.2.1.1,p.2.2.1⟩,p.2.1.2⟩) (fun _=>rfl) (fun _=>rfl)
def vD (b:LineD):Prop:=vw b.away
theorem x9:OpensW Tryz.prog 90 (α:={ b:LineD // vD b }) (fun b=>b.1.av) 12 :=
 (C9 Tryz.underlying90 (by kernel_rfl) (by decide) (Ae rfl jD (Ae rfl C6 (Ae rfl C6 (Ae rfl lU (Ae rfl lU (Ae rfl lU (Ae rfl C6 (Ae rfl C6 (Ae rfl LW E1)))))))))).map _
  (fun p=>⟨⟨p.1,p.2.1,p.2.2.1,p.2.2.2.1,p.2.2.2.2.1,p.2.2.2.2.2.1,p.2.2.2.2.2.2.1,p.2.2.2.2.2.2.2.1,p.2.2.2.2.2.2.2.2.1.1⟩,p.2.2.2.2.2.2.2.2.1.2⟩) (fun _=>rfl) (fun _=>rfl)
structure OkUnit (b:UnitD):Prop where
 segs:∃ l,b.segs=.of l false false∧l.length*8≤reachBytes
 away:vw b.away
theorem x_:OpensW Tryz.prog 94 (α:={ b:UnitD // OkUnit b }) (fun b=>b.1.av) 22 :=
 (C9 Tryz.underlying94 (by kernel_rfl) (by decide) (Ae rfl jD (Ae rfl C6 (Ae rfl C6 (Ae rfl C6 (Ae rfl zF (Ae rfl C6 (Ae rfl C6 (Ae rfl C6 (Ae rfl C6 (Ae rfl C6 (Ae rfl C6
  (Ae rfl C6 (Ae rfl C6 (Ae rfl C6 (Ae rfl C6 (Ae rfl C6 (Ae rfl C6 (Ae rfl C6 (Ae rfl LW (Ae rfl C6 (Ae rfl C6 (Ae rfl C6 E1))))))))))))))))))))))).map _
  (fun ⟨a,b,c,d,s,f,g,h,i,j,k,l,m,n,o,p,q,r,w,x,y,z,_⟩=>⟨⟨a,b,c,d,s.1,f,g,h,i,j,k,l,m,n,o,p,q,r,w.1,x,y,z⟩,s.2,w.2⟩) (fun _=>rfl) (fun _=>rfl)
theorem zS:OpensW Tryz.prog 97 (α:=StoreD) StoreD.av 9 :=
 (C9 Tryz.underlying97 (by kernel_rfl) (by decide) (Ae rfl jD (Ae rfl C6 (Ae rfl C6 (Ae rfl C6 (Ae rfl C6 (Ae rfl C6 (Ae rfl C6 (Ae rfl lU E1))))))))).map _
  (fun ⟨a,b,c,d,e,f,g,h,_⟩=>⟨a,b,c,d,e,f,g,h⟩) (fun _=>rfl) (fun _=>rfl)
structure OkTie (b:TieD):Prop where
 imp:vw b.imp
 exp:vw b.exp
 price:vw b.price
theorem zH:OpensW Tryz.prog 99 (α:={ b:TieD // OkTie b }) (fun b=>b.1.av) 5 :=
 (C9 Tryz.underlying99 (by kernel_rfl) (by decide) (Ae rfl jD (Ae rfl C6 (Ae rfl LW (Ae rfl LW (Ae rfl LW E1)))))).map _
  (fun ⟨a,b,c,d,e,_⟩=>⟨⟨a,b,c.1,d.1,e.1⟩,c.2,d.2,e.2⟩) (fun _=>rfl) (fun _=>rfl)
structure OkOut (b:OutD):Prop where
 lines:vw b.lines
 moves:∃ l,b.moves=.of l false false∧l.length*24≤reachBytes
theorem zI:OpensW Tryz.prog 102 (α:={ b:OutD // OkOut b }) (fun b=>b.1.av) 4 :=
 (C9 Tryz.underlying102 (by kernel_rfl) (by decide) (Ae rfl jD (Ae rfl LW (Ae rfl x8 (Ae rfl vz E1))))).map _
  (fun ⟨a,b,c,d,_⟩=>⟨⟨a,b.1,c,d.1⟩,b.2,d.2⟩) (fun _=>rfl) (fun _=>rfl)
structure OkL {α:Type} (ok:α→Prop) (l:List α):Prop where
 len:l.length*8≤reachBytes
 each:∀ x ∈ l,ok x
theorem UK {t d:TypeId} {α:Type} {ok:α→Prop} {e:α→LA} {n:Nat} (i:Tryz.prog.underlying t=some (.slice d)) (j:Tryz.prog.cellsOf t=1) (k:8≤Tryz.prog.bytesOf d)
  (h:OpensW Tryz.prog d (α:={ b:α // ok b }) (fun b=>e b.1) n):OpensW Tryz.prog t (α:={ l:List α // OkL ok l }) (fun l=>[.imm (l.1.flatMap e) l.1.length n false false]) 1 :=
 (Nj i j h k).map _ (fun l=>⟨l.1.map (·.1),by rw[Adl];exact l.2,fun x m=>by obtain⟨y,_,rfl⟩:=Acs.1 m;exact y.2⟩)
  (fun l=>by show [AV.imm (l.1.flatMap fun b=>e b.1) l.1.length n false false]=[AV.imm ((l.1.map (·.1)).flatMap e) (l.1.map (·.1)).length n false false];rw[Afl,Adl]) (fun _=>rfl)
structure OkCase (res:List Int) (bs:List BusD) (ls:List LineD) (us:List UnitD) (ss:List StoreD) (ts:List TieD) (os:List OutD):Prop where
 res:res.length*8≤reachBytes
 bus:OkL wh bs
 line:OkL vD ls
 unit:OkL OkUnit us
 store:OkL (fun _:StoreD=>True) ss
 tie:OkL OkTie ts
 out:OkL OkOut os
def oR (H:Int) (res:List Int) (bs:List BusD) (ls:List LineD) (us:List UnitD) (ss:List StoreD) (ts:List TieD) (os:List OutD):CaseD:=⟨H,.of res false false,.of bs false false,.of ls false false,.of us false false,.of ss false false,.of ts false false,.of os false false⟩
theorem Aas:OpensW Tryz.prog 38 (α:={ c:CaseD // ∃ H d bs ls e ss ts os,c=oR H d bs ls e ss ts os∧OkCase d bs ls e ss ts os }) (fun c=>c.1.av) 8 :=
 (C9 Tryz.underlying38 (by kernel_rfl) (by decide) (Ae rfl C6 (Ae rfl (Nj (k:=8) Tryz.underlying22 (by kernel_rfl) C6 (of_decide_eq_true (by kernel_rfl))) (Ae rfl (UK Tryz.underlying31 (by kernel_rfl) (of_decide_eq_true (by kernel_rfl)) zG)
  (Ae rfl (UK Tryz.underlying32 (by kernel_rfl) (of_decide_eq_true (by kernel_rfl)) x9) (Ae rfl (UK Tryz.underlying33 (by kernel_rfl) (of_decide_eq_true (by kernel_rfl)) x_) (Ae rfl (UK (ok:=fun _=>True) Tryz.underlying34 (by kernel_rfl) (of_decide_eq_true (by kernel_rfl)) (zS.map _ (fun b=>(⟨b,trivial⟩:{ b:StoreD // True })) (fun _=>rfl) fun _=>rfl))
   (Ae rfl (UK Tryz.underlying35 (by kernel_rfl) (of_decide_eq_true (by kernel_rfl)) zH) (Ae rfl (UK Tryz.underlying36 (by kernel_rfl) (of_decide_eq_true (by kernel_rfl)) zI) E1))))))))).map _
  (fun ⟨h,r,b,l,u,s,t,o,_⟩=>⟨oR h r.1 b.1 l.1 u.1 s.1 t.1 o.1,h,r.1,b.1,l.1,u.1,s.1,t.1,o.1,rfl,r.2,b.2,l.2,u.2,s.2,t.2,o.2⟩) (fun _=>rfl) (fun _=>rfl)
theorem vE {N:Nat} {h:Int} {i:List Int} {bs:List BusD} {ls:List LineD} {q:List UnitD} {ss:List StoreD} {ts:List TieD} {os:List OutD} (hN:140737488351232<N) (k:OkCase i bs ls q ss ts os) (j:Bl.TinyC (oR h i bs ls q ss ts os)):Small (oR h i bs ls q ss ts os) N:=by
 have hr:reachBytes=140737488351232:=rfl
 have fit:∀ n:Nat,n*8≤reachBytes→Dr n N:=fun n hn=>⟨by omega,by omega⟩
 have oi:∀ s:Sl Int,vw s→Dr s.l.length N:=fun s hs=>by obtain⟨l,rfl,m⟩:=hs;exact fit _ m
 have b:=j.b;have l:=j.l;have u:=j.u;have s:=j.s;have t:=j.t;have o:=j.o
 refine⟨by omega,fit _ k.res,fit _ k.bus.len,fit _ k.line.len,fit _ k.unit.len,fit _ k.store.len,fit _ k.tie.len,fit _ k.out.len,
  fun x d=>oi _ (k.bus.each x d),fun x d=>oi _ (k.line.each x d),fun x d=>?_,fun x d=>oi _ (k.unit.each x d).away,fun x d=>oi _ (k.tie.each x d).imp,fun x d=>oi _ (k.tie.each x d).exp,fun x d=>oi _ (k.tie.each x d).price,
  fun x d=>oi _ (k.out.each x d).lines,fun x d=>?_,fun x d=>?_,?_⟩
 ·obtain⟨l,e,m⟩:=(k.unit.each x d).segs;rw[e];exact fit _ m
 ·obtain⟨l,e,m⟩:=(k.out.each x d).moves;rw[e];exact fit _ (by show l.length*8≤_;omega)
 ·obtain⟨l,e,m⟩:=(k.out.each x d).moves;rw[e];show l.length<_;omega
 ·omega
end
section
variable {W:World} {H:Type} {enc:TypeId×Value→H} {β:Bu} {h:Ao}
theorem tA {v:Value} {d:DataW H} {p:List MemPlace} (i:∃ cs,v=.agg cs) (j:DataW.Trod enc Tryz.prog W 0 (fun _=>true) true 38 v d p) (m:WOk Tryz.prog 38 d) :
  ∃ (H:Int) (b:List Int) (bs:List BusD) (ls:List LineD) (e:List UnitD) (ss:List StoreD) (ts:List TieD) (os:List OutD),OkCase b bs ls e ss ts os∧Rep (fun _ k=>k<W.heap.size) β h W (.agg (oR H b bs ls e ss ts os).av) v:=by
 obtain⟨cs,rfl⟩:=i
 obtain⟨fuel,q⟩:=j
 obtain⟨s,⟨c,H,b,bs,ls,e,ss,ts,os,rfl,k⟩,hr⟩:=Aas.read enc W fuel _ _ _ q m
 refine⟨H,b,bs,ls,e,ss,ts,os,k,rE ?_⟩
 rw[Rep]
 exact⟨cs.toList,rfl,s,hr⟩
end
end Gx
namespace Gx.Bl
open Go Go.Proofs Gx.Cf
section
variable {R:Type}
def tJ (e:EntD):Bool:=decide (0≤e.i)&&(decide (e.i<16384)&&(e.v.q.num.sign != 0))
def hE (l:List EntD):Bool:=JR (l.map (·.i))&&l.all tJ
section
variable {N:Nat} {l:List EntD} {t o:Bool}
theorem UL {j:Nat} (h:j<l.length) {f:Int→O R}:An .i64 (drop ((Int.toNat (j:Int))*4) (l.flatMap EntD.av)) f=f (l[j]).i:=by
 rw[Ga Ri h];rfl
theorem vF {j:Nat} (h:j<l.length):take 4 (drop ((Int.toNat (j:Int))*4) (l.flatMap EntD.av))=(l[j]).av:=by
 rw[Ga Ri h];rfl
theorem wA {j:Nat} (h:j<l.length):ble 4 (drop ((Int.toNat (j:Int))*4) (l.flatMap EntD.av)).length=true:=by
 rw[Ga Ri h,Ab4,Ri];simp
theorem vG {j:Nat} (h:j<l.length) (b:l.length≤j+1):JR ((l.drop j).map (·.i))=true:=by
 rw[Bc h,Bo (by omega)];exact aD _
theorem vH {j:Nat} (h:j+1<l.length):JR ((l.drop j).map (·.i))=(decide ((l[j]'(by omega)).i<(l[j+1]).i)&&JR ((l.drop (j+1)).map (·.i))):=by
 rw[Bc (show j<l.length by omega),Bc h,Acc,Acc,HA]
theorem jE {K:Bool→O R} (hs:l.length<1000000000):∀ (m j fuel:Nat),j+1+m=l.length→m<fuel →
  B7 N K (l.flatMap EntD.av) l.length t o fuel ((j+1:Nat):Int)=K (JR ((l.drop j).map (·.i)))
 | 0,j,fuel+1,d,_=>by
  rw[B7];unfold Ej
  rw[G9 (by omega),cf,vG (by omega) (by omega)]
 | m+1,j,fuel+1,d,e=>by
  rw[B7];unfold Ej
  have h:j+1<l.length:=by omega
  rw[G4 h,ct,ib (by omega),Ab (show j<l.length by omega),ct,UL (show j<l.length by omega),Ab h,ct,UL h,wS (by omega),jE hs m (j+1) fuel (by omega) (by omega),vH h]
  by_cases b:(l[j]'(by omega)).i<(l[j+1]).i
  ·rw[decide_eq_false (by omega),cf,decide_eq_true b,Aej]
  ·rw[decide_eq_true (by omega),ct,decide_eq_false b,Afz]
theorem tB {K:Bool→O R} (hs:l.length<1000000000) (hN:l.length+1<N):Hc N (l.flatMap EntD.av) l.length t o K=K (JR (l.map (·.i))):=by
 rw[Q3];unfold Jf
 rcases b:l with _ | ⟨a,r⟩
 ·obtain⟨n,rfl⟩:∃ n,N=n+1:=⟨N - 1,by omega⟩
  rw[B7];unfold Ej
  rfl
 ·rw[←b]
  have:=jE (R:=R) (N:=N) (l:=l) (t:=t) (o:=o) (K:=K) hs (l.length - 1) 0 N (by rw[b];simp;omega) (by omega)
  simpa using this
theorem fS {K:Bool→O R} (hs:l.length<1000000000) (b:∀ e ∈ l,e.v.ok∧e.v.m≤1000) (hN:1000000≤N):∀ (m j fuel:Nat),j+m=l.length→m<fuel →
  Er N K 16384 (l.flatMap EntD.av) l.length t o fuel (l.length:Int) (j:Int)=K ((l.drop j).all tJ)
 | 0,j,fuel+1,C,_=>by
  rw[Er];unfold Ks
  rw[G9 (by omega),cf,Bo (by omega)];rfl
 | m+1,j,fuel+1,C,D=>by
  rw[Er];unfold Ks
  have h:j<l.length:=by omega
  have k:=b _ (Acg h)
  have u:∀ F:Int→O R,An .i64 (l[j]).av F=F (l[j]).i:=fun F=>rfl
  rw[G4 h,ct,Ab h,ct,wA h,ct,vF h,show((beq 0 0)&&((beq ((l[j]).av.length) 4)&&(beq 4 4)))=true from rfl,ct,u,u,
   show ble 3 (drop 1 (l[j]).av).length=true from rfl,ct,show take 3 (drop 1 (l[j]).av)=(l[j]).v.av from rfl,qd k.1 ⟨by have:=k.2;omega,by have:=k.2;omega⟩,wS (by omega),fS hs b hN m (j+1) fuel (by omega) (by omega),Bc h,Acl]
  generalize (l.drop (j+1)).all tJ=z
  unfold tJ
  generalize (l[j]).v.q.num.sign=s
  by_cases y:(l[j]).i<0
  ·rw[decide_eq_true y,decide_eq_false (show ¬ 0≤(l[j]).i by omega)];rfl
  ·rw[decide_eq_false y,decide_eq_true (show 0≤(l[j]).i by omega)]
   by_cases A:(l[j]).i<16384
   ·rw[decide_eq_false (show ¬ (l[j]).i≥16384 by omega),decide_eq_true A]
    show cond (cond false true (s==0)) (K false) (K z)=K ((s != 0)&&z)
    cases d:s==0 with
    | true=>rw[show(s != 0)=false by simp[bne,d]];rfl
    | false=>rw[show(s != 0)=true by simp[bne,d]];rfl
   ·rw[decide_eq_true (show(l[j]).i≥16384 by omega),decide_eq_false A];rfl
theorem qg {K:Bool→O R} (hs:l.length<1000000) (b:∀ e ∈ l,e.v.ok∧e.v.m≤1000) (hN:10000000≤N):Nx N (l.flatMap EntD.av) l.length t o 16384 K=K (hE l):=by
 rw[Yb];unfold P5
 rw[tB (by omega) (by omega)]
 unfold hE
 have:=fS (R:=R) (N:=N) (l:=l) (t:=t) (o:=o) (K:=K) (by omega) b (by omega) l.length 0 N (by omega) (by omega)
 rw[Acb] at this
 cases JR (l.map (·.i)) with
 | true=>exact this
 | false=>rfl
def zJ:Option Int→Int→Bool
 | none,_=>true
 | some a,b=>decide (a<b)
def vr:Option Int→List EntD→Bool
 | _,[]=>true
 | p,e::r=>tJ e&&(zJ p e.i&&vr (some e.i) r)
theorem lV (p:Option Int) (e:EntD) (r:List EntD):vr p (e::r)=(tJ e&&(zJ p e.i&&vr (some e.i) r)):=by cases p<;>rfl
theorem xa (p:Option Int):vr p []=true:=by cases p<;>rfl
theorem r_:∀ (l:List EntD) (a:Int),vr (some a) l=(JR (a::l.map (·.i))&&l.all tJ)
 | [],a=>by rw[vr,Aei,aD];rfl
 | e::r,a=>by
  rw[lV,r_ r e.i,show zJ (some a) e.i=decide (a<e.i) from rfl,Acc,HA,Acl]
  generalize tJ e=x;generalize JR (e.i::r.map (·.i))=y;generalize r.all tJ=z;generalize decide (a<e.i)=u
  cases x<;>cases y<;>cases z<;>cases u<;>rfl
theorem wB (l:List EntD):vr none l=hE l:=by
 cases l with
 | nil=>rw[vr,hE,Aei,ki];rfl
 | cons e r =>
  rw[lV,r_,hE,Acc,Acl]
  generalize tJ e=x;generalize JR (e.i::r.map (·.i))=y;generalize r.all tJ=z;rw[show zJ none e.i=true from rfl]
  cases x<;>cases y<;>cases z<;>rfl
def jF (l:List EntD):Nat→Option Int
 | 0=>none
 | j+1=>(l[j]?).map (·.i)
theorem jG {K:Bool→O R} (hs:l.length<1000000) (b:∀ e ∈ l,e.v.ok∧e.v.m≤1000) (hN:1000000≤N):∀ (m j fuel:Nat),j+m=l.length→m<fuel →
  Gv N K (l.flatMap EntD.av) l.length t o fuel (j:Int)=K (vr (jF l j) (l.drop j))
 | 0,j,fuel+1,D,_=>by
  rw[Gv];unfold N9
  rw[G9 (by omega),cf,Bo (by omega),xa]
 | m+1,j,fuel+1,D,G=>by
  rw[Gv];unfold N9
  have h:j<l.length:=by omega
  have k:=b _ (Acg h)
  have l3:ble 3 (drop 1 (drop ((Int.toNat (j:Int))*4) (l.flatMap EntD.av))).length=true:=by
   rw[Ga Ri h,Ad5,Ab4,Ri];simp
  have t3:take 3 (drop 1 (drop ((Int.toNat (j:Int))*4) (l.flatMap EntD.av)))=(l[j]).v.av:=by rw[Ga Ri h];rfl
  have F:jF l (j+1)=some (l[j]).i:=by rw[jF,Ab1 h];rfl
  rw[G4 h,ct,Ab h,ct,UL h,ct,UL h,l3,ct,t3,oQ k.1 ⟨by have:=k.2;omega,by have:=k.2;omega⟩,wS (by omega),jG hs b hN m (j+1) fuel (by omega) (by omega),Bc h,lV,F]
  generalize vr (some (l[j]).i) (l.drop (j+1))=z
  unfold tJ
  generalize (l[j]).v.q.num.sign=s
  have sg:cond (cond false true (s==0)) (K false) (K z)=K ((s != 0)&&z):=by
   cases d:s==0 with
   | true=>rw[show(s != 0)=false by simp[bne,d]];rfl
   | false=>rw[show(s != 0)=true by simp[bne,d]];rfl
  by_cases y:(l[j]).i<0
  ·rw[decide_eq_true y,decide_eq_false (show ¬ 0≤(l[j]).i by omega)];rfl
  ·rw[decide_eq_false y,decide_eq_true (show 0≤(l[j]).i by omega)]
   by_cases A:(l[j]).i<16384
   ·rw[decide_eq_false (show ¬ (l[j]).i≥16384 by omega),decide_eq_true A]
    rcases j with _ | j
    ·show cond (cond false true (s==0)) (K false) (K z)=K ((true&&(true&&(s != 0)))&&(true&&z))
     rw[sg];simp
    ·have h':j<l.length:=by omega
     have u:jF l (j+1)=some (l[j]).i:=by rw[jF,Ab1 h'];rfl
     rw[decide_eq_true (show(((j+1:Nat):Int))>0 by omega),ib (by omega),u,show zJ (some (l[j]).i) (l[j+1]).i=decide ((l[j]).i<(l[j+1]).i) from rfl]
     show cond (Af (j:Int) l.length) (An .i64 (drop ((Int.toNat (j:Int))*4) (l.flatMap EntD.av)) _) none=_
     rw[Ab h',ct,UL h']
     rw[ct,UL h]
     by_cases C:(l[j]).i<(l[j+1]).i
     ·rw[decide_eq_false (show ¬ (l[j]).i≥(l[j+1]).i by omega),decide_eq_true C]
      show cond (cond false true (s==0)) (K false) (K z)=_
      rw[sg];simp
     ·rw[decide_eq_true (show(l[j]).i≥(l[j+1]).i by omega),decide_eq_false C]
      show K false=_
      simp
   ·rw[decide_eq_true (show(l[j]).i≥16384 by omega),decide_eq_false A];rfl
theorem tC {K:Bool→O R} (hs:l.length<1000000) (b:∀ e ∈ l,e.v.ok∧e.v.m≤1000) (hN:10000000≤N):Ux N (l.flatMap EntD.av) l.length t o K=K (hE l):=by
 rw[FM];unfold Wf
 have:=jG (R:=R) (N:=N) (l:=l) (t:=t) (o:=o) (K:=K) hs b (by omega) l.length 0 N (by omega) (by omega)
 rw[Acb,show jF l 0=none from rfl,wB] at this
 exact this
end
def HO (v n:Int):Bool:=decide (0≤v)&&decide (v<n)
def tK (c:CaseD) (n:NodeD):Bool :=
 cond (n.kind==0) (HO n.unit c.units.l.length&&(HO n.hour c.hours&&((n.other==0)&&decide (n.y.l.length=0))))
 (cond ((n.kind==1)||(n.kind==2)) ((n.unit==0)&&((n.hour==0)&&((n.other==0)&&hE n.y.l)))
 (cond (n.kind==3) (HO n.unit c.units.l.length&&((n.hour==0)&&((n.other==0)&&decide (n.y.l.length=0))))
 (cond (n.kind==4) (HO n.unit c.units.l.length&&(HO n.hour c.hours&&(HO n.other c.units.l.length&&decide (n.y.l.length=0)))) false)))
structure NodeB (n:NodeD):Prop where
 y:n.y.l.length<1000000
 e:∀ e ∈ n.y.l,e.v.ok∧e.v.m≤1000
section
variable {N:Nat} {c:CaseD} {n:NodeD} {t o:Bool}
theorem tD {F:LA→Nat→O R}:Az 4 (drop 4 n.av) F=F (n.y.l.flatMap EntD.av) n.y.l.length:=by
 show Az 4 (n.y.av 4 EntD.av::[]) F=_
 rw[Bj]
theorem LX {b:Bool} {v m:Int} {K:Bool→O R}:Nw N b v m K=K (cond b (HO v m) (v==0)):=by
 rw[O_];unfold TF HO
 cases b with
 | false=>rfl
 | true =>
  by_cases h:0≤v
  ·rw[decide_eq_true (show v≥0 from h)];rfl
  ·rw[decide_eq_false (show ¬ v≥0 from h)];rfl
def vI (k:Int):Option (Bool×Bool×Bool×Bool):=cond (k==0) (some (true,true,false,false)) (cond ((k==1)||(k==2)) (some (false,false,false,true)) (cond (k==3) (some (true,false,false,false)) (cond (k==4) (some (true,true,true,false)) none)))
def fT (f:Bool×Bool×Bool×Bool):LA:=[.bool f.1,.bool f.2.1,.bool f.2.2.1,.bool f.2.2.2]
theorem tE {k:Int} {K:LA→Bool→O R}:Tn N k K=match vI k with | some f=>K (fT f) true | none=>K (fT (false,false,false,false)) false:=by
 rw[JO];unfold Z3 S7 vI
 cases k==0 with
 | true=>rfl
 | false=>cases k==1 with
  | true=>rfl
  | false=>cases k==2 with
   | true=>rfl
   | false=>cases k==3 with
    | true=>rfl
    | false=>cases k==4<;>rfl
theorem fU {l:List EntD} (h:l.length=0):hE l=true:=by rw[Adq h];rfl
theorem wC {f:Bool×Bool×Bool×Bool} {K:Bool→O R} (b:NodeB n) (hN:10000000≤N):Cj N K t c.av o n.av (fT f) =
  K (cond f.1 (HO n.unit c.units.l.length) (n.unit==0)&&(cond f.2.1 (HO n.hour c.hours) (n.hour==0)&&(cond f.2.2.1 (HO n.other c.units.l.length) (n.other==0)&&hE n.y.l))):=by
 unfold Cj
 rw[Fs]
 show Nw N f.1 n.unit _ _=_
 rw[LX]
 cases cond f.1 (HO n.unit c.units.l.length) (n.unit==0) with
 | false=>rfl
 | true =>
  show An .i64 c.av (fun m=>Nw N f.2.1 n.hour m _)=_
  rw[Lv,LX]
  cases cond f.2.1 (HO n.hour c.hours) (n.hour==0) with
  | false=>rfl
  | true =>
   show Nw N f.2.2.1 n.other _ _=_
   rw[LX]
   cases cond f.2.2.1 (HO n.other c.units.l.length) (n.other==0) with
   | false=>rfl
   | true =>
    rw[show((cond true true false)==true)=true from rfl,ct,tD,qg b.y b.e hN];rfl
theorem wD {K:Bool→O R} (b:NodeB n) (hN:10000000≤N):Lq N c.av t n.av o K=K (tK c n):=by
 rw[V5];unfold Ny
 show Tn N n.kind _=_
 rw[tE]
 have tl:=fun f=>wC (R:=R) (t:=t) (o:=o) (c:=c) (f:=f) (K:=K) b hN
 have noy:∀ F:O R,Az 4 (drop 4 n.av) (fun _ y=>cond (cond false true (cond true (decide ((y:Int)>0)) false)) (K false) F)=cond (decide (n.y.l.length=0)) F (K false):=fun F=>by
  rw[tD]
  by_cases h:n.y.l.length=0
  ·rw[decide_eq_true h,decide_eq_false (show ¬ (n.y.l.length:Int)>0 by omega)];rfl
  ·rw[decide_eq_false h,decide_eq_true (show(n.y.l.length:Int)>0 by omega)];rfl
 unfold vI tK
 cases n.kind==0 with
 | true =>
  show Az 4 (drop 4 n.av) (fun _ y=>cond (cond false true (cond true (decide ((y:Int)>0)) false)) (K false) (Cj N K t c.av o n.av (fT (true,true,false,false))))=_
  rw[noy,tl]
  by_cases h:n.y.l.length=0
  ·rw[decide_eq_true h,fU h];rfl
  ·rw[decide_eq_false h];simp
 | false=>cases d:(n.kind==1)||(n.kind==2) with
  | true =>
   show Cj N K t c.av o n.av (fT (false,false,false,true))=_
   rw[tl];rfl
  | false=>cases n.kind==3 with
   | true =>
    show Az 4 (drop 4 n.av) (fun _ y=>cond (cond false true (cond true (decide ((y:Int)>0)) false)) (K false) (Cj N K t c.av o n.av (fT (true,false,false,false))))=_
    rw[noy,tl]
    by_cases h:n.y.l.length=0
    ·rw[decide_eq_true h,fU h];rfl
    ·rw[decide_eq_false h];simp
   | false=>cases n.kind==4 with
    | true =>
     show Az 4 (drop 4 n.av) (fun _ y=>cond (cond false true (cond true (decide ((y:Int)>0)) false)) (K false) (Cj N K t c.av o n.av (fT (true,true,true,false))))=_
     rw[noy,tl]
     by_cases h:n.y.l.length=0
     ·rw[decide_eq_true h,fU h];rfl
     ·rw[decide_eq_false h];simp
    | false=>rfl
theorem xb {l:Nat}:cond true ((l:Int)==0) false=decide (l=0):=by
 by_cases h:l=0
 ·rw[decide_eq_true h,h];rfl
 ·rw[decide_eq_false h,show((l:Int)==0)=false by rw[beq_eq_false_iff_ne];omega];rfl
theorem qh {K:Bool→O R} (m:NodeB n) (hN:10000000≤N):FN N c.av t n.av o K=K (tK c n):=by
 have main:∀ e f:Bool,e=HO n.unit c.units.l.length→f=HO n.hour c.hours→Gi N K t c.av o n.av e f=K (tK c n):=by
  rintro e f s u
  unfold Gi AS tK
  rw[←s,←u]
  show cond (n.kind==0) _ _=_
  cases n.kind==0 with
  | true =>
   cases e<;>cases f<;>try rfl
   show cond ((cond true (n.other==0) false)==true) (Az 4 (drop 4 n.av) _) _=_
   rw[tD,xb]
   cases n.other==0<;>rfl
  | false =>
   have k:(h:((n.kind==1)||(n.kind==2))=true)→∀ b:Bool,b=true→Kd N K e f n.kind t c.av o n.av b=K ((n.unit==0)&&((n.hour==0)&&((n.other==0)&&hE n.y.l))):=by
    rintro _ b rfl
    unfold Kd
    show cond ((n.unit==0)==true) _ _=_
    cases n.unit==0 with
    | false=>rfl
    | true =>
     show cond ((cond true (n.hour==0) false)==true) _ _=_
     cases n.hour==0 with
     | false=>rfl
     | true =>
      show cond ((cond true (n.other==0) false)==true) _ _=_
      cases n.other==0 with
      | false=>rfl
      | true =>
       rw[show((cond true true false)==true)=true from rfl,ct,tD,tC m.y m.e hN];rfl
   show cond (n.kind==1) (Kd N K e f n.kind t c.av o n.av (n.kind==1)) (Kd N K e f n.kind t c.av o n.av (n.kind==2))=_
   cases i:n.kind==1 with
   | true=>exact k (by rw[i];rfl) true rfl
   | false=>cases d:n.kind==2 with
    | true=>exact k (by rw[d];simp) true rfl
    | false =>
     unfold Kd
     show cond (n.kind==3) _ _=_
     cases n.kind==3 with
     | true =>
      cases e with
      | false=>rfl
      | true =>
       show cond ((cond true (n.hour==0) false)==true) _ _=_
       cases n.hour==0 with
       | false=>rfl
       | true =>
        show cond ((cond true (n.other==0) false)==true) (Az 4 (drop 4 n.av) _) _=_
        rw[tD,xb]
        cases n.other==0<;>rfl
     | false =>
      show cond (n.kind==4) _ _=_
      cases n.kind==4 with
      | false=>rfl
      | true =>
       cases e with
       | false=>rfl
       | true=>cases f with
        | false=>rfl
        | true =>
         show cond ((cond true (decide (n.other≥0)) false)==true) (Az 22 (drop 4 c.av) fun _ w=>cond ((cond true (decide (n.other<(w:Int))) false)==true) (Az 4 (drop 4 n.av) _) _) _=_
         rw[Fs,tD,xb]
         unfold HO
         by_cases q:0≤n.other
         ·rw[decide_eq_true (show n.other≥0 from q)]
          cases decide (n.other<(c.units.l.length:Int))<;>rfl
         ·rw[decide_eq_false (show ¬ n.other≥0 from q)];rfl
 rw[PZ];unfold HG
 show cond ((decide (n.unit≥0))==true) (Az 22 (drop 4 c.av) fun _ j=>cond ((decide (n.hour≥0))==true) (An .i64 c.av fun ad=>Gi N K t c.av o n.av (cond true (decide (n.unit<(j:Int))) false) (cond true (decide (n.hour<ad)) false)) (Gi N K t c.av o n.av (cond true (decide (n.unit<(j:Int))) false) false))
  (cond ((decide (n.hour≥0))==true) (An .i64 c.av fun ag=>Gi N K t c.av o n.av false (cond true (decide (n.hour<ag)) false)) (Gi N K t c.av o n.av false false))=_
 rw[Fs,Lv,Lv]
 unfold HO at main
 by_cases i:0≤n.unit
 ·rw[decide_eq_true (show n.unit≥0 from i)]
  by_cases d:0≤n.hour
  ·rw[decide_eq_true (show n.hour≥0 from d)]
   exact main _ _ (by rw[decide_eq_true i];rfl) (by rw[decide_eq_true d];rfl)
  ·rw[decide_eq_false (show ¬ n.hour≥0 from d)]
   exact main _ _ (by rw[decide_eq_true i];rfl) (by rw[decide_eq_false d];rfl)
 ·rw[decide_eq_false (show ¬ n.unit≥0 from i)]
  by_cases d:0≤n.hour
  ·rw[decide_eq_true (show n.hour≥0 from d)]
   exact main _ _ (by rw[decide_eq_false i];rfl) (by rw[decide_eq_true d];rfl)
  ·rw[decide_eq_false (show ¬ n.hour≥0 from d)]
   exact main _ _ (by rw[decide_eq_false i];rfl) (by rw[decide_eq_false d];rfl)
end
end
end Gx.Bl
namespace Gx.Bl
open Go Go.Proofs Gx.Cf Go.Proofs.Bw
def Ki:Nat→List Nd→Option (List Nd)
 | 0,l=>some l
 | _+1,[]=>none
 | m+1,n::l=>Ki (m+cond (n.1==0) 3 0) l
theorem Pk (l:List Nd):Ki 0 l=some l:=by cases l<;>rfl
theorem fV:∀ (l:List Nd) (a b:Nat),Ki (a+b) l=(Ki a l).bind (Ki b)
 | l,0,b=>by rw[Ab8,Pk];rfl
 | [],a+1,b=>by rw[show a+1+b=(a+b)+1 by omega];rfl
 | n::l,a+1,b=>by
  rw[show a+1+b=(a+b)+1 by omega,Ki,Ki,show a+b+cond (n.1==0) 3 0=(a+cond (n.1==0) 3 0)+b by omega]
  exact fV l _ b
theorem LY:∀ (l:List Nd) (o:Nat),Ed o l=decide (Ki o l=some [])
 | [],0=>by simp[Ed,Ki]
 | n::l,0=>by simp[Ed,Ki]
 | [],o+1=>by simp[Ed,Ki]
 | n::l,o+1=>by rw[Ed,Ki];exact LY l _
theorem F_:∀ (l:List Nd) (m:Nat) (r:List Nd),Ki m l=some r→∃ k,k≤l.length∧r=l.drop k
 | l,0,r,h=>by rw[Pk] at h;cases h;exact⟨0,by omega,rfl⟩
 | [],m+1,r,h=>by cases h
 | n::l,m+1,r,h=>by
  rw[Ki] at h
  obtain⟨k,b,rfl⟩:=F_ l _ r h
  exact⟨k+1,by simp;omega,rfl⟩
def Dv (n:NodeD):Nd:=(n.kind,n.unit,n.hour)
def Kj (L:List Nd) (m a:Nat):Int:=match Ki m (L.drop a) with
 | some r=>((L.length - r.length:Nat):Int)
 | none=>-1
theorem UM {L:List Nd} {m a:Nat} {r:List Nd} (h:Ki m (L.drop a)=some r) (e:a≤L.length):∃ b,a≤b∧b≤L.length∧r=L.drop b∧Kj L m a=(b:Int):=by
 obtain⟨k,d,rfl⟩:=F_ _ _ _ h
 rw[Ad5] at d
 refine⟨a+k,by omega,by omega,by rw[List.drop_drop],?_⟩
 unfold Kj;rw[h]
 simp only[Ad5];omega
theorem jH {f:Int→Option Int} {L:List Nd} (lo:Nat) (k:∀ a:Nat,lo≤a→a≤L.length→f (a:Int)=some (Kj L 1 a)):∀ (m a:Nat),lo≤a→a≤L.length→ni f m (a:Int)=some (Kj L m a)
 | 0,a,h0,d=>by
  unfold ni Kj;rw[Pk];simp only[Ad5];congr 1;omega
 | m+1,a,h0,d=>by
  unfold ni
  rw[decide_eq_false (by omega),cond_false,k a h0 d]
  have e:Ki (m+1) (L.drop a)=(Ki 1 (L.drop a)).bind (Ki m):=by rw[Afo,fV]
  cases hr:Ki 1 (L.drop a) with
  | none =>
   have e1:Kj L 1 a=-1:=by unfold Kj;rw[hr]
   have q:Kj L (m+1) a=-1:=by unfold Kj;rw[e,hr];rfl
   rw[e1,q,Acn]
   cases m with
   | zero=>rfl
   | succ m=>unfold ni;rfl
  | some r =>
   obtain⟨b,s,i,rfl,j⟩:=UM hr d
   rw[j,Acn,jH lo k m b (by omega) i]
   unfold Kj;rw[e,hr];rfl
section
variable {R:Type} {N:Nat} {l:List NodeD}
theorem ra {j:Nat} (h:j<l.length) {f:Int→O R}:An .i64 (drop ((Int.toNat (j:Int))*5) (l.flatMap NodeD.av)) f=f (l[j]).kind:=by
 rw[Ga Nb h];rfl
theorem HM {j:Nat} (h:j<l.length):take 5 (drop ((Int.toNat (j:Int))*5) (l.flatMap NodeD.av))=(l[j]).av:=by
 rw[Ga Nb h];rfl
theorem RD {j:Nat} (h:j<l.length):ble 5 (drop ((Int.toNat (j:Int))*5) (l.flatMap NodeD.av)).length=true:=by
 rw[Ga Nb h,Ab4,Nb];simp
theorem jI (k:l.length≤1000000):∀ (d a:Nat),l.length - a<d→a≤l.length→Y_ d (l.flatMap NodeD.av) l.length (a:Int)=some (Kj (l.map Dv) 1 a)
 | 0,a,h,_=>by omega
 | d+1,a,h,q=>by
  rw[Y_,decide_eq_false (show ¬ (a:Int)<0 by omega)]
  by_cases e:a<l.length
  ·rw[decide_eq_false (show ¬ (l.length:Int)≤(a:Int) by omega),Bool.or_false,cond_false,ra e,wS (by omega)]
   have i:(l.map Dv).drop a=Dv l[a]::(l.map Dv).drop (a+1):=by rw[Ack (by simpa using e)];simp
   cases j:(l[a]).kind != 0 with
   | true =>
    rw[cond_true]
    unfold Kj
    rw[i,Ki,show((Dv l[a]).1==0)=false by show((l[a]).kind==0)=false;simpa[bne] using j]
    show _=some (match Ki 0 _ with | some r=>_ | none=>_)
    rw[Pk]
    simp only[Ad5,Adl]
    congr 1;omega
   | false =>
    rw[cond_false,jH (L:=l.map Dv) (a+1) (fun b s m=>?_) 3 (a+1) (Ab3 _) (by simp;omega)]
    ·unfold Kj
     rw[i,Ki,show((Dv l[a]).1==0)=true by show((l[a]).kind==0)=true;simpa[bne] using j]
     rfl
    ·exact jI k d b (by omega) (by simpa using m)
  ·rw[decide_eq_true (show(l.length:Int)≤(a:Int) by omega),Adi,cond_true]
   unfold Kj
   rw[Ac8 (by simp;omega)];rfl
theorem oS {t o:Bool} {a:Nat} {K:Int→O R} (b:l.length≤1000000) (hN:1000000<N) (d:a≤l.length):PV N (l.flatMap NodeD.av) l.length t o (a:Int) K=K (Kj (l.map Dv) 1 a):=by
 rw[We];unfold PU eZ
 rw[jI b N a (by omega) d];rfl
end
noncomputable def Pl (c:CaseD) (x:LogD):Int:=cond (A8 (Ig c) != 0) (A8 (Ig c)) (cond (decide (x.cuts.l.length≤256)&&decide (x.nodes.l.length≤4096)) (cond (x.nodes.l.all (tK c)&&Ed 1 (x.nodes.l.map Dv)) 0 73) 8)
structure LogB (x:LogD):Prop where
 n:x.nodes.l.length≤100000
 b:∀ n ∈ x.nodes.l,NodeB n
section
variable {R:Type} {N:Nat} {c:CaseD} {x:LogD} {t o:Bool}
theorem rc {F:LA→Nat→O R}:Az 6 (drop 1 x.av) F=F (x.cuts.l.flatMap CutD.av) x.cuts.l.length:=by
 show Az 6 (x.cuts.av 6 CutD.av::_) F=_
 rw[Bj]
theorem Dz {F:LA→Nat→O R}:Az 5 (drop 2 x.av) F=F (x.nodes.l.flatMap NodeD.av) x.nodes.l.length:=by
 show Az 5 (x.nodes.av 5 NodeD.av::_) F=_
 rw[Bj]
theorem wi:((beq ((w3 (Ig c)).length) 3)&&((ble 3 3)&&(!false)))=true:=by cases Ig c<;>rfl
theorem fW {K:Int→O R} {l:List NodeD} (d:l.length≤100000) (b:∀ n ∈ l,NodeB n) (hN:10000000≤N):∀ (m j fuel p:Nat),j+m=l.length→m<fuel→p≤1+2*j →
  M3 N K (l.flatMap NodeD.av) l.length t o c.av fuel (p:Int) (l.length:Int) (j:Int)=K (cond ((l.drop j).all (tK c)&&Ed p ((l.drop j).map Dv)) 0 73)
 | 0,j,fuel+1,p,e,_,i=>by
  rw[M3];unfold S8
  rw[G9 (by omega),cf,Bo (by omega)]
  cases p with
  | zero=>rfl
  | succ p=>rw[show(((p+1:Nat):Int) != 0)=true by simp;omega];rfl
 | m+1,j,fuel+1,p,e,q,i=>by
  rw[M3];unfold S8
  have h:j<l.length:=by omega
  have k:=b _ (Acg h)
  rw[G4 h,ct,Ab h,ct,RD h,ct,HM h,show((beq 0 0)&&((beq ((l[j]).av.length) 5)&&(beq 5 5)))=true from rfl,ct,Bc h,Acl,Acc]
  cases p with
  | zero=>rw[show Ed 0 (Dv l[j]::List.map Dv (drop (j+1) l))=false from rfl,Bool.and_false];rfl
  | succ p =>
   rw[show((((p+1:Nat):Int)==0)==false)=true by rw[show((((p+1:Nat):Int))==0)=false by rw[beq_eq_false_iff_ne];omega];rfl,ct,D3,ct,show ble 5 (l[j]).av.length=true from rfl,ct,Bz,show take 5 (l[j]).av=(l[j]).av from rfl,wD k hN]
   cases tK c l[j] with
   | false=>rfl
   | true =>
    show An .i64 (l[j]).av _=_
    show cond ((l[j]).kind==0) _ _=_
    rw[show wrap .i64 (((p+1:Nat):Int) - 1)=(p:Int) by rw[Gx.i64 (by omega)];omega,show wrap .i64 ((p:Int)+3)=((p+3:Nat):Int) by rw[Gx.i64 (by omega)];omega,wS (by omega),Ed,Aej]
    show cond ((l[j]).kind==0) _ _=K (cond (_&&Ed (p+cond ((l[j]).kind==0) 3 0) _) 0 73)
    cases (l[j]).kind==0 with
    | true=>exact fW d b hN m (j+1) fuel (p+3) (by omega) (by omega) (by omega)
    | false=>exact fW d b hN m (j+1) fuel p (by omega) (by omega) (by omega)
theorem LZ {K:Int→O R} (hs:Small c N) (d:LogB x) (hN:10000000≤N):Uk N c.av t x.av o K=K (Pl c x):=by
 rw[O'];unfold G_ Pl
 rw[D3,ct,Bz,gz hs,wi,ct]
 cases A8 (Ig c) != 0 with
 | true=>rfl
 | false =>
  rw[cf,cond_false,rc,Dz]
  by_cases e:x.cuts.l.length≤256
  ·rw[decide_eq_false (show ¬ (x.cuts.l.length:Int)>256 by omega),decide_eq_true e]
   by_cases i:x.nodes.l.length≤4096
   ·rw[decide_eq_false (show ¬ (x.nodes.l.length:Int)>4096 by omega),decide_eq_true i]
    show Q4 N K t c.av o x.av=_
    unfold Q4 Z6
    rw[Dz]
    have:=fW (R:=R) (K:=K) (c:=c) (t:=o) (o:=t) (l:=x.nodes.l) d.n d.b hN x.nodes.l.length 0 N 1 (by omega) (by have:=d.n;omega) (by omega)
    rw[Acb] at this
    exact this
   ·rw[decide_eq_true (show(x.nodes.l.length:Int)>4096 by omega),decide_eq_false i];rfl
  ·rw[decide_eq_true (show(x.cuts.l.length:Int)>256 by omega),decide_eq_false e];rfl
theorem jJ {K:Int→O R} (d:LogB x) (hN:10000000≤N):∀ (m j fuel:Nat),j+m=x.nodes.l.length→m<fuel →
  Ku N K t c.av o x.av fuel (j:Int)=K (cond ((x.nodes.l.drop j).all (tK c)&&Ed 1 (x.nodes.l.map Dv)) 0 73)
 | 0,j,fuel+1,s,_=>by
  rw[Ku];unfold Qm
  rw[Dz,G9 (by omega),cf,Dz,Dz,show x.nodes.l.drop j=[] from Bo (by omega)]
  show _=K (cond (Ed 1 (x.nodes.l.map Dv)) 0 73)
  by_cases h0:x.nodes.l.length=0
  ·rw[h0,Adq h0];rfl
  ·rw[show(((x.nodes.l.length:Int)==0)==false)=true by rw[show((x.nodes.l.length:Int)==0)=false by rw[beq_eq_false_iff_ne];omega];rfl,ct]
   have e:=oS (R:=R) (N:=N) (l:=x.nodes.l) (t:=false) (o:=o) (a:=0) (K:=fun q=>Az 5 (x.av.drop 2) fun _ r=>cond (cond false true (q != (r:Int))) (K 73) (K 0)) (by have:=d.n;omega) (by omega) (by omega)
   refine e.trans ?_
   rw[Dz,LY]
   by_cases i:Ki 1 (x.nodes.l.map Dv)=some []
   ·rw[decide_eq_true i,show Kj (x.nodes.l.map Dv) 1 0=(x.nodes.l.length:Int) by unfold Kj;rw[Acb,i];simp]
    simp
   ·rw[decide_eq_false i]
    have:Kj (x.nodes.l.map Dv) 1 0≠(x.nodes.l.length:Int):=by
     cases hr:Ki 1 ((x.nodes.l.map Dv).drop 0) with
     | none=>unfold Kj;rw[hr];show(-1:Int)≠_;omega
     | some r =>
      obtain⟨b,_,u,rfl,k⟩:=UM hr (by omega)
      rw[k]
      intro e
      have:b=x.nodes.l.length:=by omega
      rw[Acb] at hr
      exact i (by rw[hr,this,Ac8 (by simp)])
    rw[show(Kj (x.nodes.l.map Dv) 1 0 != (x.nodes.l.length:Int))=true by simpa[bne_iff_ne] using this]
    rfl
 | m+1,j,fuel+1,s,y=>by
  rw[Ku];unfold Qm
  have h:j<x.nodes.l.length:=by omega
  have v:=d.b _ (Acg h)
  have hn:=d.n
  rw[Dz,G4 h,ct,D3,ct,Dz,Ab h,ct,RD h,ct,HM h,Bz,qh v hN,wS (by omega),jJ d hN m (j+1) fuel (by omega) (by omega),Bc h,Acl]
  cases tK c x.nodes.l[j]<;>rfl
theorem F' {K:Int→O R} (hs:Small c N) (b:LogB x) (hN:10000000≤N):Pg N c.av t x.av o K=K (Pl c x):=by
 rw[JX];unfold AT Pl
 rw[D3,ct,Bz,ey hs (by omega),wi,ct]
 cases A8 (Ig c) != 0 with
 | true=>rfl
 | false =>
  rw[cf,cond_false,rc,Dz]
  by_cases d:x.cuts.l.length≤256
  ·rw[decide_eq_false (show ¬ (x.cuts.l.length:Int)>256 by omega),decide_eq_true d]
   by_cases e:x.nodes.l.length≤4096
   ·rw[decide_eq_false (show ¬ (x.nodes.l.length:Int)>4096 by omega),decide_eq_true e]
    show Oa N K t c.av o x.av=_
    unfold Oa W7
    have:=jJ (R:=R) (K:=K) (c:=c) (t:=t) (o:=o) b hN x.nodes.l.length 0 N (by omega) (by have:=b.n;omega)
    rw[Acb] at this
    exact this
   ·rw[decide_eq_true (show(x.nodes.l.length:Int)>4096 by omega),decide_eq_false e];rfl
  ·rw[decide_eq_true (show(x.cuts.l.length:Int)>256 by omega),decide_eq_false d];rfl
end
end Gx.Bl
namespace Gx.Bl
open Go Go.Proofs Gx.Cf Go.Proofs.Bw
theorem fX:∀ (l:List Nd) (b s2:List (List Nd)) (r:List Nd),Ki b.length l=some r→(l.take (l.length - r.length)).foldl Ru (b++s2)=s2
 | l,[],s2,r,h=>by
  rw[Ac5,Pk] at h;cases h
  simp
 | [],q::b,s2,r,h=>by cases h
 | n::l,q::b,s2,r,h=>by
  rw[Acd,Ki] at h
  obtain⟨k,i,hr⟩:=F_ _ _ _ h
  have j:r.length≤l.length:=by rw[hr,Ad5];omega
  rw[Acd,show l.length+1 - r.length=(l.length - r.length)+1 by omega,Ad1,Ad2]
  by_cases h0:n.1=0
  ·have e:Ru (q::b++s2) n=((q++[(n.2.1,n.2.2,0)])::(q++[(n.2.1,n.2.2,1)])::(q++[(n.2.1,n.2.2,2)])::b)++s2:=by simp[Ru,h0]
   rw[e]
   exact fX l _ s2 r (by simpa[h0] using h)
  ·have e:Ru (q::b++s2) n=b++s2:=by simp[Ru,h0]
   rw[e]
   refine fX l b s2 r ?_
   have d:(n.1==0)=false:=by simp[h0]
   rw[d] at h;exact h
theorem vJ {L:List Nd} {a b:Nat} {q:List Nd} {st:List (List Nd)} (hs:JA L a=q::st) (d:a≤b) (j:b≤L.length) (hr:Ki 1 (L.drop a)=some (L.drop b)):JA L b=st:=by
 have h:=fX (L.drop a) [q] st (L.drop b) hr
 have e:(L.drop a).length - (L.drop b).length=b - a:=by simp;omega
 rw[e] at h
 unfold JA at hs ⊢
 have i:L.take b=L.take a++(L.drop a).take (b - a):=by rw[←List.take_add];congr 1;omega
 rw[i,List.foldl_append,hs]
 exact h
theorem wE (p:List Nd):(p.flatMap fA).take (p.length*3)=p.flatMap fA:=by rw[Ab0];rw[pe];exact Ab3 _
section
variable {R:Type} {N:Nat} {x:LogD} {o:Bool}
theorem jK {K0:Nat→Int→LA→O R} {K:Nat→LA→O R} (G:x.nodes.l.length≤100000) (hN:1000000<N) {want a:Nat} {p:List Nd} {st:List (List Nd)} {un hr:Int} {ncell:LA} (y:∀ F:Int→O R,An .i64 (ncell.drop 1) F=F un) (z:∀ F:Int→O R,An .i64 (ncell.drop 2) F=F hr) (I:p.length≤a) (L:a≤100000) :
  ∀ (m g b fuel:Nat),g+m=3→m<fuel→a<b→b≤want→b≤x.nodes.l.length→JA (x.nodes.l.map Dv) b=gG p (0,un,hr) st g→(want:Int)<Kj (x.nodes.l.map Dv) m b →
  ∃ (k:Nat) (f:Nd) (st':List (List Nd)),a<k∧k≤want∧k≤x.nodes.l.length∧JA (x.nodes.l.map Dv) k=(p++[f])::st'∧(want:Int)<Kj (x.nodes.l.map Dv) 1 k ∧
   Gj N K0 K (want:Int) o x.av fuel p.length (a:Int) (b:Int) (g:Int) (p.flatMap fA) ncell=K0 (p++[f]).length (k:Int) ((p++[f]).flatMap fA)
 | 0,g,b,fuel,M,_,q,s,i,hs,d=>by
  unfold Kj at d;rw[Pk] at d
  simp only[Ad5,Adl] at d;omega
 | m+1,g,b,fuel+1,M,U,q,s,i,hs,d=>by
  have u:g<3:=by omega
  have A:=hs.trans (iX p (0,un,hr) st g u)
  have go:Gj N K0 K (want:Int) o x.av (fuel+1) p.length (a:Int) (b:Int) (g:Int) (p.flatMap fA) ncell =
    cond (decide ((want:Int)<Kj (x.nodes.l.map Dv) 1 b)) (K0 (p.length+1) (b:Int) (p.flatMap fA++[.int .i64 un,.int .i64 hr,.int .i64 g])) (Gj N K0 K (want:Int) o x.av fuel p.length (a:Int) (Kj (x.nodes.l.map Dv) 1 b) ((g+1:Nat):Int) (p.flatMap fA) ncell):=by
   rw[Gj];unfold AU
   rw[decide_eq_true (show(g:Int)≤2 by omega),ct,Dz,oS (by omega) hN i,wS (by omega),y,z,wE,show((ble (p.length+1) 140737488355328)&&(ble ((p.length+1)*24) 140737488355328))=true by simp;omega,ct]
  by_cases hq:(want:Int)<Kj (x.nodes.l.map Dv) 1 b
  ·refine⟨b,(un,hr,(g:Int)),gG p (0,un,hr) st (g+1),q,s,i,A,hq,?_⟩
   rw[go,decide_eq_true hq]
   show K0 _ _ _=_
   rw[Ab4,Af8];rfl
  ·rw[go,decide_eq_false hq]
   show ∃ k f st',_∧_∧_∧_∧_∧Gj N K0 K (want:Int) o x.av fuel p.length (a:Int) (Kj (x.nodes.l.map Dv) 1 b) ((g+1:Nat):Int) (p.flatMap fA) ncell=_
   have e:Ki (m+1) ((x.nodes.l.map Dv).drop b)=(Ki 1 ((x.nodes.l.map Dv).drop b)).bind (Ki m):=by rw[Afo,fV]
   cases j:Ki 1 ((x.nodes.l.map Dv).drop b) with
   | none=>unfold Kj at d;rw[e,j] at d;simp at d;omega
   | some r =>
    obtain⟨C,S,D,rfl,T⟩:=UM j (by simpa using i)
    rw[T] at hq ⊢
    have v:(want:Int)<Kj (x.nodes.l.map Dv) m C:=by unfold Kj at d ⊢;rw[e,j] at d;exact d
    exact jK G hN y z I L m (g+1) C fuel (by omega) (by omega) (by omega) (by omega) (by simpa using D) (vJ A S D j) v
theorem tF {K:Nat→LA→O R} (u:x.nodes.l.length≤100000) (hN:1000000<N) {want:Nat} (M:want<x.nodes.l.length):∀ (d a fuel:Nat) (p:List Nd) (st:List (List Nd)),want - a≤d→d<fuel→a≤want→JA (x.nodes.l.map Dv) a=p::st→p.length≤a→(want:Int)<Kj (x.nodes.l.map Dv) 1 a →
  Gk N K (want:Int) o x.av fuel p.length (a:Int) (p.flatMap fA)=K ((JA (x.nodes.l.map Dv) want).headD []).length (((JA (x.nodes.l.map Dv) want).headD []).flatMap fA):=by
 intro d
 induction d with
 | zero =>
  intro a fuel p st v y z hs q i
  obtain rfl:a=want:=by omega
  obtain⟨f,rfl⟩:∃ f,fuel=f+1:=⟨fuel - 1,by omega⟩
  rw[Gk];unfold Te
  rw[show((a:Int) != (a:Int))=false by simp,cf,hs];rfl
 | succ d A =>
  intro a fuel p st v y z hs q i
  obtain⟨f,rfl⟩:∃ f,fuel=f+1:=⟨fuel - 1,by omega⟩
  rw[Gk];unfold Te
  by_cases hq:a=want
  ·subst hq
   rw[show((a:Int) != (a:Int))=false by simp,cf,hs];rfl
  ·have h:a<x.nodes.l.length:=by omega
   rw[show((a:Int) != (want:Int))=true by simp;omega,ct,Dz,Ab h,ct,RD h,ct,HM h,show((beq 0 0)&&((beq ((x.nodes.l[a]).av.length) 5)&&(beq 5 5)))=true from rfl,ct,wS (by omega)]
   have s:(x.nodes.l.map Dv).drop a=Dv x.nodes.l[a]::(x.nodes.l.map Dv).drop (a+1):=by rw[Ack (by simpa using h)];simp
   have C:(x.nodes.l.map Dv)[a]?=some (Dv x.nodes.l[a]):=by simp[h]
   have e:(x.nodes.l[a]).kind=0:=by
    false_or_by_contra
    have j:((Dv x.nodes.l[a]).1==0)=false:=by show((x.nodes.l[a]).kind==0)=false;simpa using ‹¬ _›
    unfold Kj at i
    rw[s,Ki,j] at i
    change (want:Int)<(match Ki 0 _ with | some r=>_ | none=>_) at i
    rw[Pk] at i
    simp only[Ad5,Adl] at i;omega
   have j:((Dv x.nodes.l[a]).1==0)=true:=by show((x.nodes.l[a]).kind==0)=true;simp[e]
   have k:JA (x.nodes.l.map Dv) (a+1)=gG p (0,(x.nodes.l[a]).unit,(x.nodes.l[a]).hour) st 0:=by
    rw[cV C,hs]
    show Ru (p::st) ((x.nodes.l[a]).kind,_,_)=_
    simp[Ru,e,gG,Dv]
   have m:(want:Int)<Kj (x.nodes.l.map Dv) 3 (a+1):=by
    unfold Kj at i ⊢
    rw[s,Ki,j] at i
    exact i
   obtain⟨D,fx,st',S,F,T,G,I,L⟩:=jK (R:=R) (N:=N) (x:=x) (o:=o) (K0:=Gk N K (want:Int) o x.av f) (K:=K) (want:=want) (a:=a) (p:=p) (st:=st) (un:=(x.nodes.l[a]).unit) (hr:=(x.nodes.l[a]).hour) (ncell:=(x.nodes.l[a]).av) u hN (fun _=>rfl) (fun _=>rfl) q (by omega) 3 0 (a+1) N (by omega) (by omega) (by omega) (by omega) (by omega) k m
   refine L.trans ?_
   exact A D f _ st' (by omega) (by omega) F G (by simp;omega) I
theorem tG {K:Nat→LA→O R} (d:x.nodes.l.length≤100000) (hN:1000000<N) {want:Nat} (e:want<x.nodes.l.length) (b:Ed 1 (x.nodes.l.map Dv)=true) :
  Yr N x.av o (want:Int) K=K ((JA (x.nodes.l.map Dv) want).headD []).length (((JA (x.nodes.l.map Dv) want).headD []).flatMap fA):=by
 rw[QA];unfold HH
 rw[LY,decide_eq_true_eq] at b
 refine tF d hN e want 0 N [] [] (by omega) (by omega) (by omega) rfl (by simp) ?_
 unfold Kj
 rw[Acb,b];simp;omega
theorem oT:∀ l:List NodeD,mv l.length (l.flatMap NodeD.av)=some (l.map Dv)
 | []=>rfl
 | n::l=>by
  show mv (l.length+1) (.int .i64 n.kind::.int .i64 n.unit::.int .i64 n.hour::.int .i64 n.other::n.y.av 4 EntD.av::l.flatMap NodeD.av)=_
  rw[mv,oT l]
  obtain⟨q,hq⟩:∃ q,l7 4 (n.y.av 4 EntD.av)=some q:=by cases n.y<;>exact⟨_,rfl⟩
  rw[hq];rfl
end
noncomputable def lX (c:CaseD) (x:LogD) (w:Int):Int:=cond (Pl c x != 0) (Pl c x) (cond (decide (0≤w)&&decide (w<x.nodes.l.length)) 0 12)
noncomputable def fY (c:CaseD) (x:LogD) (w:Int):List Nd:=cond (lX c x w==0) ((JA (x.nodes.l.map Dv) w.toNat).headD []) []
theorem jL {c:CaseD} {x:LogD} (h:Pl c x=0):Ed 1 (x.nodes.l.map Dv)=true∧x.nodes.l.length≤4096∧x.nodes.l.all (tK c)=true∧A8 (Ig c)=0:=by
 unfold Pl at h
 cases b:A8 (Ig c) != 0 with
 | true=>rw[b,cond_true] at h;rw[h] at b;simp at b
 | false =>
  rw[b,cond_false] at h
  have e1:A8 (Ig c)=0:=by simpa[bne] using b
  cases d:decide (x.cuts.l.length≤256)&&decide (x.nodes.l.length≤4096) with
  | false=>rw[d] at h;simp at h
  | true =>
   rw[d,cond_true] at h
   cases e:x.nodes.l.all (tK c)&&Ed 1 (x.nodes.l.map Dv) with
   | false=>rw[e] at h;simp at h
   | true =>
    simp only[Ab6,decide_eq_true_eq] at d e
    exact⟨e.2,d.2,e.1,e1⟩
section
variable {R:Type} {N:Nat} {c:CaseD} {x:LogD} {t o:Bool}
theorem qi {w:Int} {K:Nat→Int→LA→O R} (hs:Small c N) (j:LogB x) (hN:10000000≤N):PA N c.av t x.av o w K=K (fY c x w).length (lX c x w) ((fY c x w).flatMap fA):=by
 rw[PB];unfold TI
 rw[D3,ct,show ble 3 x.av.length=true from rfl,ct,Bz,show take 3 x.av=x.av from rfl,LZ hs j hN]
 unfold fY lX
 cases i:Pl c x != 0 with
 | true =>
  rw[ct,cond_true,show(Pl c x==0)=false by simpa[bne] using i];rfl
 | false =>
  have h0:Pl c x=0:=by simpa[bne] using i
  obtain⟨k,m,q⟩:=jL h0
  rw[cf,cond_false,Dz]
  by_cases b:0≤w
  ·rw[decide_eq_false (show ¬ w<0 by omega),decide_eq_true b]
   by_cases d:w<x.nodes.l.length
   ·rw[decide_eq_false (show ¬ w≥(x.nodes.l.length:Int) by omega),decide_eq_true d]
    rw[show(false==false)=true from rfl,ct,show(cond false true false:Bool)=false from rfl,cf,Dz,Vk];unfold EC
    rw[oT]
    show cond _ _ none=_
    rw[show(Ed 1 (x.nodes.l.map Dv)&&(ble x.nodes.l.length 1000000&&(decide ((0:Int)=0)&&(beq 0 0&&(decide (0≤w)&&decide (w<(x.nodes.l.length:Int)))))))=true by simp[k,b,d];omega,ct]
    have e:Bw.seen (x.nodes.l.map Dv) w x.nodes.l.length=(JA (x.nodes.l.map Dv) w.toNat).headD []:=by unfold Bw.seen;rw[if_pos ⟨b,d⟩]
    rw[e];rfl
   ·rw[decide_eq_true (show w≥(x.nodes.l.length:Int) by omega),decide_eq_false d];rfl
  ·rw[decide_eq_true (show w<0 by omega),decide_eq_false b];rfl
theorem oU {w:Int} {K:Nat→Int→LA→O R} (hs:Small c N) (e:LogB x) (hN:10000000≤N):HI N c.av t x.av o w K=K (fY c x w).length (lX c x w) ((fY c x w).flatMap fA):=by
 rw[JY];unfold LM
 rw[D3,ct,show ble 3 x.av.length=true from rfl,ct,Bz,show take 3 x.av=x.av from rfl,F' hs e hN]
 unfold fY lX
 cases i:Pl c x != 0 with
 | true =>
  rw[ct,cond_true,show(Pl c x==0)=false by simpa[bne] using i];rfl
 | false =>
  have h0:Pl c x=0:=by simpa[bne] using i
  obtain⟨j,k,m⟩:=jL h0
  rw[cf,cond_false,Dz]
  by_cases b:0≤w
  ·rw[decide_eq_false (show ¬ w<0 by omega),decide_eq_true b]
   by_cases d:w<x.nodes.l.length
   ·rw[decide_eq_false (show ¬ w≥(x.nodes.l.length:Int) by omega),decide_eq_true d]
    obtain⟨v,rfl⟩:∃ v:Nat,w=(v:Int):=⟨w.toNat,by omega⟩
    show cond true (Yr N x.av o (v:Int) _) none=_
    rw[ct,tG e.n (by omega) (by omega) j];rfl
   ·rw[decide_eq_true (show w≥(x.nodes.l.length:Int) by omega),decide_eq_false d];rfl
  ·rw[decide_eq_true (show w<0 by omega),decide_eq_false b];rfl
end
end Gx.Bl
namespace Gx.Bl
open Go Go.Proofs Gx.Cf Go.Proofs.Bw
def tH:List NodeD→Nat→List Int
 | [],_=>[]
 | n::r,j=>cond (n.kind != 0) ((j:Int)::tH r (j+1)) (tH r (j+1))
noncomputable def wj (c:CaseD) (x:LogD):List Int:=cond (Pl c x==0) (tH x.nodes.l 0) []
section
variable {R:Type} {N:Nat} {c:CaseD} {x:LogD} {t o:Bool}
theorem UN (A:List Int):(Ax A).take (A.length*1)=Ax A:=by rw[Ab0];simp[Ax,Wq]
theorem jM (A:List Int) (j:Int):Ax A++[.int .i64 j]=Ax (A++[j]):=by simp[Ax,Wq]
theorem GA {K:Nat→Int→LA→O R} {l:List NodeD} (b:l.length≤100000):∀ (m j fuel:Nat) (A:List Int),j+m=l.length→m<fuel→A.length≤j →
  In N K (l.flatMap NodeD.av) l.length o fuel A.length (l.length:Int) (j:Int) (Ax A)=K (A++tH (l.drop j) j).length 0 (Ax (A++tH (l.drop j) j))
 | 0,j,fuel+1,A,d,_,hA=>by
  rw[In];unfold Qn
  rw[G9 (by omega),cf,show l.drop j=[] from Bo (by omega),tH,Acp]
 | m+1,j,fuel+1,A,d,e,hA=>by
  rw[In];unfold Qn
  have h:j<l.length:=by omega
  rw[G4 h,ct,Ab h,ct,RD h,ct,HM h,show((beq 0 0)&&((beq ((l[j]).av.length) 5)&&(beq 5 5)))=true from rfl,ct,show l.drop j=l[j]::l.drop (j+1) from Bc h,tH]
  show cond ((l[j]).kind != 0) _ _=_
  rw[wS (by omega),UN,jM,show((ble (A.length+1) 140737488355328)&&(ble ((A.length+1)*8) 140737488355328))=true by simp;omega,ct]
  cases (l[j]).kind != 0 with
  | true =>
   have:=GA (K:=K) b m (j+1) fuel (A++[(j:Int)]) (by omega) (by omega) (by simp;omega)
   rw[Ads] at this
   simpa using this
  | false=>exact GA b m (j+1) fuel A (by omega) (by omega) (by omega)
theorem oV {K:Nat→Int→LA→O R} (hs:Small c N) (b:LogB x) (hN:10000000≤N):Ys N c.av t x.av o K=K (wj c x).length (Pl c x) (Ax (wj c x)):=by
 rw[JZ];unfold AW
 rw[D3,ct,show ble 3 x.av.length=true from rfl,ct,Bz,show take 3 x.av=x.av from rfl,LZ hs b hN]
 unfold wj
 cases d:Pl c x != 0 with
 | true=>rw[ct,show(Pl c x==0)=false by simpa[bne] using d];rfl
 | false =>
  have h0:Pl c x=0:=by simpa[bne] using d
  rw[cf,Dz,h0]
  exact GA b.n x.nodes.l.length 0 N [] (by omega) (by have:=b.n;omega) (by simp)
theorem BE {K:Nat→Int→LA→O R} (b:x.nodes.l.length≤100000):∀ (m j fuel:Nat) (A:List Int),j+m=x.nodes.l.length→m<fuel→A.length≤j →
  Gw N K o x.av fuel A.length (j:Int) (Ax A)=K (A++tH (x.nodes.l.drop j) j).length 0 (Ax (A++tH (x.nodes.l.drop j) j))
 | 0,j,fuel+1,A,d,_,hA=>by
  rw[Gw];unfold Ob
  rw[Dz,G9 (by omega),cf,show x.nodes.l.drop j=[] from Bo (by omega),tH,Acp]
 | m+1,j,fuel+1,A,d,e,hA=>by
  rw[Gw];unfold Ob
  have h:j<x.nodes.l.length:=by omega
  rw[Dz,G4 h,ct,Dz,Ab h,ct,ra h,show x.nodes.l.drop j=x.nodes.l[j]::x.nodes.l.drop (j+1) from Bc h,tH,wS (by omega),UN,jM,show((ble (A.length+1) 140737488355328)&&(ble ((A.length+1)*8) 140737488355328))=true by simp;omega,ct]
  cases (x.nodes.l[j]).kind != 0 with
  | true =>
   have:=BE (K:=K) b m (j+1) fuel (A++[(j:Int)]) (by omega) (by omega) (by simp;omega)
   rw[Ads] at this
   simpa using this
  | false=>exact BE b m (j+1) fuel A (by omega) (by omega) (by omega)
theorem lY {K:Nat→Int→LA→O R} (hs:Small c N) (b:LogB x) (hN:10000000≤N):Uy N c.av t x.av o K=K (wj c x).length (Pl c x) (Ax (wj c x)):=by
 rw[FQ];unfold Wg
 rw[D3,ct,show ble 3 x.av.length=true from rfl,ct,Bz,show take 3 x.av=x.av from rfl,F' hs b hN]
 unfold wj
 cases d:Pl c x != 0 with
 | true=>rw[ct,show(Pl c x==0)=false by simpa[bne] using d];rfl
 | false =>
  have h0:Pl c x=0:=by simpa[bne] using d
  rw[cf,h0]
  exact BE b.n x.nodes.l.length 0 N [] (by omega) (by have:=b.n;omega) (by simp)
theorem jN {l:List Int} {f g h i:Bool} {K:Bool→O R} (d:l.length≤1000000):∀ (m j fuel:Nat),j+m=l.length→m<fuel→Ke N K (Ax l) l.length f g (Ax l) l.length h i fuel (j:Int)=K true
 | 0,j,fuel+1,e,_=>by
  rw[Ke];unfold Tf
  rw[G9 (by omega),cf]
 | m+1,j,fuel+1,e,k=>by
  rw[Ke];unfold Tf
  have b:j<l.length:=by omega
  rw[G4 b,ct,Ab b,ct,R5 b,ct,R5 b,show(l[j] != l[j])=false by simp,cf,wS (by omega)]
  exact jN d m (j+1) fuel (by omega) (by omega)
theorem tI {l:List Int} {g c h f:Bool} {K:Bool→O R} (b:l.length≤1000000) (hN:1000000<N):QF N (Ax l) l.length g c (Ax l) l.length h f K=K true:=by
 rw[QG];unfold TY
 rw[QE];unfold HJ
 rw[show((l.length:Int) != (l.length:Int))=false by simp,cf]
 exact jN b l.length 0 N (by omega) (by omega)
theorem rf:∀ (l:List NodeD) (j:Nat),(tH l j).length≤l.length
 | [],_=>Ab3 _
 | n::r,j=>by
  have:=rf r (j+1)
  rw[tH]
  cases n.kind != 0<;>simp<;>omega
theorem rg (f:Nd):(fA f).length=3:=rfl
theorem fZ {p:List Nd} {K:Bool→O R} (b:p.length≤1000000):∀ (m j fuel:Nat),j+m=p.length→m<fuel→F5 N K p.length p.length (p.flatMap fA) (p.flatMap fA) fuel (j:Int)=K true
 | 0,j,fuel+1,d,_=>by
  rw[F5];unfold Kx
  rw[G9 (by omega),cf]
 | m+1,j,fuel+1,d,k=>by
  rw[F5];unfold Kx
  have h:j<p.length:=by omega
  have e:drop (0+(Int.toNat (j:Int))*3) (p.flatMap fA)=fA p[j]++(p.drop (j+1)).flatMap fA:=by rw[Ab8];exact Ga rg h
  have i:take 3 (fA p[j]++(p.drop (j+1)).flatMap fA)=fA p[j]:=rfl
  have e3:ble 3 (fA p[j]++(p.drop (j+1)).flatMap fA).length=true:=by rw[Ab4,rg];simp
  rw[G4 h,ct,Ab h,ct,e,e3,ct,ct,ct,i,show((ble 1 3)&&((beq ((fA p[j]).length) 3)&&((beq ((fA p[j]).length) 3)&&(true&&(!false)))))=true from rfl,ct,wS (by omega)]
  show cond (!(((p[j]).1==(p[j]).1)&&(((p[j]).2.1==(p[j]).2.1)&&(((p[j]).2.2==(p[j]).2.2)&&true)))) (K false) _=K true
  rw[show(!(((p[j]).1==(p[j]).1)&&(((p[j]).2.1==(p[j]).2.1)&&(((p[j]).2.2==(p[j]).2.2)&&true))))=false by simp,cf]
  exact fZ b m (j+1) fuel (by omega) (by omega)
theorem ri:∀ (L:List Nd) (i:Nat),i≤L.length→∀ p ∈ JA L i,p.length≤i
 | L,0,_,p,b=>by
  have:p ∈ ([[]]:List (List Nd)):=b
  rw[List.mem_singleton] at this;subst this;exact Ab3 _
 | L,i+1,hi,p,b=>by
  have e:L[i]?=some L[i]:=Ab1 (by omega)
  rw[cV e] at b
  have d:=ri L i (by omega)
  revert b d
  cases JA L i with
  | nil=>intro b;simp[Ru] at b
  | cons q s =>
   intro b d
   have hq:=d q (by simp)
   change p ∈ (if L[i].1=0 then (q++[(L[i].2.1,L[i].2.2,0)])::(q++[(L[i].2.1,L[i].2.2,1)])::(q++[(L[i].2.1,L[i].2.2,2)])::s else s) at b
   split at b
   ·simp only[Ach] at b
    rcases b with rfl | rfl | rfl | b
    ·simp;omega
    ·simp;omega
    ·simp;omega
    ·have:=d p (by simp[b]);omega
   ·have:=d p (by simp[b]);omega
theorem vK (i:x.nodes.l.length≤100000) (w:Int):(fY c x w).length≤100000:=by
 unfold fY
 cases h:lX c x w==0 with
 | false=>exact Ae0 _
 | true =>
  rw[cond_true]
  have e:w.toNat≤x.nodes.l.length:=by
   unfold lX at h
   cases b:Pl c x != 0 with
   | true=>rw[b,cond_true] at h;simp at h;simp[h] at b
   | false =>
    rw[b,cond_false] at h
    cases d:decide (0≤w)&&decide (w<(x.nodes.l.length:Int)) with
    | false=>rw[d] at h;cases h
    | true=>simp at d;omega
  cases hs:JA (x.nodes.l.map Dv) w.toNat with
  | nil=>simp
  | cons p st =>
   have:=ri (x.nodes.l.map Dv) w.toNat (by simpa using e) p (by rw[hs];simp)
   simp;omega
theorem oW {w:Int} {K:Bool→O R} (hs:Small c N) (b:LogB x) (hN:10000000≤N):Ky N c.av t x.av o w K=K true:=by
 rw[Yu];unfold Qo
 have l3:ble 3 x.av.length=true:=rfl
 have t3:take 3 x.av=x.av:=rfl
 have d:(wj c x).length≤1000000:=by
  unfold wj
  have:=rf x.nodes.l 0;have:=b.n
  cases Pl c x==0<;>simp<;>omega
 rw[D3,ct,l3,ct,Bz,t3,qi hs b hN,ct,ct,oU hs b hN,ct,ct,oV hs b hN,ct,ct,lY hs b hN,ct,ct,LZ hs b hN,ct,ct,F' hs b hN]
 rw[show(Pl c x != Pl c x)=false by simp,show(lX c x w != lX c x w)=false by simp,show(((fY c x w).length:Int) != ((fY c x w).length:Int))=false by simp,UN,tI d (by omega)]
 show I3 N K _ _ _ _=_
 unfold I3 Ph
 have:=vK (c:=c) b.n w
 exact fZ (by omega) (fY c x w).length 0 N (by omega) (by omega)
end
end Gx.Bl
namespace Gx.Bl
open Go Go.Proofs Gx.Cf Go.Proofs.Bw
section
variable {R:Type} {N:Nat}
theorem wF {x:LogD} (h:LogG 4 40 x):LogB x:=⟨Add h.nodes (by decide),fun n hn=>⟨Aeu (h.node n hn).1 (by decide),fun e b=>⟨((h.node n hn).2 e b).1,Add ((h.node n hn).2 e b).2 (by decide)⟩⟩⟩
theorem oX {h:Int} {b:List Int} {bs:List BusD} {ls:List LineD} {d:List UnitD} {ss:List StoreD} {ts:List TieD} {os:List OutD} {U:List (Int×Int)} {C:List CutD} {P:List NodeD} {w:Int}
  {t1 t2 t3 t4 t5 t6 t7 t8 t9 t10:Bool} {K:Bool→O R} (hN:140737488351232<N) (m:OkCase b bs ls d ss ts os) (i:∀ n ∈ P,lT n) :
  Jc N h (b.flatMap Wq) b.length t1 false (bs.flatMap BusD.av) bs.length t2 false (ls.flatMap LineD.av) ls.length t3 false (d.flatMap UnitD.av) d.length t4 false (ss.flatMap StoreD.av) ss.length t5 false (ts.flatMap TieD.av) ts.length t6 false (os.flatMap OutD.av) os.length t7 false
   (U.flatMap lS) U.length t8 false (C.flatMap CutD.av) C.length t9 false (P.flatMap NodeD.av) P.length t10 false w K=K true:=by
 rw[K8];unfold Io
 have j:[AV.int .i64 h,.imm (b.flatMap Wq) b.length 1 false false,.imm (bs.flatMap BusD.av) bs.length 3 false false,.imm (ls.flatMap LineD.av) ls.length 12 false false,.imm (d.flatMap UnitD.av) d.length 22 false false,.imm (ss.flatMap StoreD.av) ss.length 9 false false,.imm (ts.flatMap TieD.av) ts.length 5 false false,.imm (os.flatMap OutD.av) os.length 4 false false]=(oR h b bs ls d ss ts os).av:=rfl
 have k:[AV.imm (U.flatMap lS) U.length 2 false false,.imm (C.flatMap CutD.av) C.length 6 false false,.imm (P.flatMap NodeD.av) P.length 5 false false]=(⟨.of U false false,.of C false false,.of P false false⟩:LogD).av:=rfl
 rw[j,k]
 obtain⟨t,q,e⟩:=sy (R:=R) (N:=N) (c:=oR h b bs ls d ss ts os) (o:=(false||(false||(false||(false||(false||(false||(false||false)))))))) (by omega)
 rw[e]
 cases t with
 | false=>rfl
 | true =>
  have hs:=vE hN m (q rfl)
  obtain⟨r,hr,s⟩:=qf (R:=R) (N:=N) (x:=(⟨.of U false false,.of C false false,.of P false false⟩:LogD)) (f:=(false||(false||(false||false)))) (by omega) i
  rw[show((!true)==false)=true from rfl,ct,s]
  cases r with
  | false=>rfl
  | true =>
   show Wh N _=_
   rw[Mj];unfold AY
   show Ky N _ _ _ _ _ _=_
   rw[oW hs (wF (hr rfl)) (by omega)];rfl
end
end Gx.Bl
