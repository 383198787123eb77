/- A part of the proof: what it holds is said by each theorem. -/
import Derived.Test.YtcbkbnhmbpmfjaaRows
import Derived.ChangeSame
import Derived.Test.YtcbkbnhmbpmfjaaP2
set_option linter.unusedVariables false
set_option linter.defProp false
set_option linter.unusedSimpArgs false
namespace Gx
open Go Go.Proofs
open IntKind (wrap)
set_option maxRecDepth 100000
noncomputable section
variable {R:Type} (N:Nat)
def Vs (b:LA) (c:Nat) (d e:Bool) (f:Int) (r0:LA→Int→O R):O R :=
 (Cw N 13 b c d e f (fun i l=>(Cw N 4 b c d e l (fun m n=>(XF N (wrap .i64 (i - 6)) (wrap .i64 (1+m)) (fun g=>(cond ((Nat.beq 0 0)&&((Nat.beq (g.length) 3)&&(Nat.beq 3 3))) (cond (Nat.ble 3 (g.length)) (r0 (g.take 3) n) none) none)))))))
def Mf:=(Ak (@Vs R)).1
theorem Xe:@Mf R=@Vs R:=(Ak _).2
def bK:Ke:=[(24,Mq N),(58,mB N)]
def Z6 (b:LA) (c:Nat) (d e:Bool) (F:KF R):LA→Int→O R:=(fun o p=>F (.pagg o false) [(100000,(bN 0 [(.imm b c 1 d e),(iv p)]))])
theorem Z7 (b:LA) (c:Nat) (d e:Bool) (f:Int) (F:KF R):Ga (bK N) Oo N 43 [(.optr 100000 0)] [(100000,(bN 0 [(.imm b c 1 d e),(iv f)]))] F=(Mf N b c d e f (Z6 b c d e F)):=by
 rw[Xe]
 kernel_rfl
def Xf (a:LA) (h:Ag) (k:KF R):O R :=
 match a,h with
 | [(.optr 100000 0)],[(100000,⟨false,false,false,false,0,[(.imm b c 1 d e),(.int .i64 f)],false,none,0,0⟩)]=>(Mf N b c d e f (Z6 b c d e k))
 | _,_=>none
theorem Z8:At N 43 @Xf:=by
 intro R Q a h k j;unfold Xf;split;exact Bg (Z7 ..) (Z7 ..) ⟨Mr N,mC N,trivial⟩;exact Bi
def ZE:=Bf (Z8 N)
def ZF:=Gi (Z8 N)
def D6 (k0:Nat→Int→Int→LA→O R) (r0:LA→Int→O R) (g f:Int) (b:LA) (c:Nat) (d e:Bool) (i:Int) (k1:Nat→Int→Nat→Int→Int→LA→LA→O R) (r:Nat) (s:Int) (l:Nat) (t w:Int) (u v:LA):O R :=
 (cond (decide (t<f)) (Ot N (fun x=>(cond ((Nat.beq 0 0)&&((Nat.beq (x.length) 3)&&(Nat.beq 3 3))) (Cw N 3 b c d e w (fun ab aa=>(cond (decide (ab>0)) (Mf N b c d e aa (fun y ac=>(cond ((Nat.beq (y.length) 3)&&((Nat.ble 3 (x.length))&&(!false))) (cond (Nat.ble 3 ((setCells x 0 y).length)) (cond ((Nat.beq (((setCells x 0 y).take 3).length) 3)&&(Nat.ble 3 3)) (cond ((Nat.ble (l+1) 140737488355328)&&(Nat.ble ((l+1)*56) 140737488355328)) (k1 r s (l+1) (wrap .i64 (t+1)) ac u ((v.take (l*3))++((setCells [(.bool false),.nsl,.nsl] 0 ((setCells x 0 y).take 3)).take 3))) none) none) none) none))) (cond (Nat.ble 3 (x.length)) (cond ((Nat.beq ((x.take 3).length) 3)&&(Nat.ble 3 3)) (cond ((Nat.ble (l+1) 140737488355328)&&(Nat.ble ((l+1)*56) 140737488355328)) (k1 r s (l+1) (wrap .i64 (t+1)) aa u ((v.take (l*3))++((setCells [(.bool false),.nsl,.nsl] 0 (x.take 3)).take 3))) none) none) none)))) none))) (cond ((Nat.ble (r+1) 140737488355328)&&(Nat.ble ((r+1)*24) 140737488355328)) (k0 (r+1) (wrap .i64 (s+1)) w ((u.take (r*1))++[(.imm (v.take (l*3)) l 3 false false)])) none))
def Bv (k0:Nat→Int→Int→LA→O R) (r0:LA→Int→O R) (g f:Int) (b:LA) (c:Nat) (d e:Bool) (i:Int):Nat→Nat→Int→Nat→Int→Int→LA→LA→O R
 | 0,_,_,_,_,_,_,_=>none
 | n+1,r,s,l,t,w,u,v=>(D6 N k0 r0 g f b c d e i (Bv k0 r0 g f b c d e i n) r s l t w u v)
def Fn (r0:LA→Int→O R) (g f:Int) (b:LA) (c:Nat) (d e:Bool) (i:Int) (k0:Nat→Int→Int→LA→O R) (q1:Nat→Int→Nat→Int→Int→LA→LA→O R) (m:Nat) (o p:Int) (q:LA):O R :=
 (cond (decide (o<g)) (q1 m o 0 0 p q []) (J4 N (q.take (m*1)) m false true f (fun z=>(cond ((Nat.beq 0 0)&&((Nat.beq (z.length) 3)&&(Nat.beq 3 3))) (cond (Nat.ble 3 (z.length)) (r0 (z.take 3) p) none) none))))
def Bw (r0:LA→Int→O R) (g f:Int) (b:LA) (c:Nat) (d e:Bool) (i:Int):Nat→Nat→Int→Int→LA→O R
 | 0,_,_,_,_=>none
 | n+1,m,o,p,q=>(Fn N r0 g f b c d e i (Bw r0 g f b c d e i n) (fun r s l t w u v=>(Bv N (Bw r0 g f b c d e i n) r0 g f b c d e i N r s l t w u v)) m o p q)
def Ia (N:Nat) (r0:LA→Int→O R) (q0:Nat→Int→Int→LA→O R) (g f:Int) (b:LA) (c:Nat) (d e:Bool) (i:Int):O R :=
 (q0 0 0 i [])
def C2:=(Ak (fun (N:Nat) (g f:Int) (b:LA) (c:Nat) (d e:Bool) (i:Int) (r0:LA→Int→O R)=>(Ia N r0 (fun m o p q=>(Bw N r0 g f b c d e i N m o p q)) g f b c d e i))).1
theorem Po (g f b c d e i r0):(@C2 R N g f b c d e i r0)=(Ia N r0 (fun m o p q=>(Bw N r0 g f b c d e i N m o p q)) g f b c d e i):=by rw[C2,(Ak _).2]
def Q9:Hints:={ H:=(hS hL (hS hL (hS (hS hL (hS (hP [0,1,2,6,7,8] (hS hL (hS (hS (hS hL (hS (hS hL (hS (hP [0,1,2,6,7,8,9,10] hL) hL)) hL)) hL) hL))) hL)) hL))),nils:=[(7,1),(9,3)],modes:=[(3,0)] }
def T4:Ke:=[(25,QF N),(42,Yj N),(24,Mq N),(43,ZE N)]
def Ra (F:KF R):=Rt Try.f23 Q9 (T4 N) [100000] N F
def Bx (b:LA) (c:Nat) (d e:Bool) (F:KF R):LA→Int→O R:=(fun ad ae=>F (.pagg ad false) [(100000,(bN 0 [(.imm b c 1 d e),(iv ae)]))])
def IU (g f:Int) (b:LA) (c:Nat) (d e:Bool) (i:Int) (r:Nat) (s:Int) (l:Nat) (t w:Int) (u v:LA):St:=⟨[(0,(.optr 100000 0)),(1,(iv g)),(2,(iv f)),(6,(op 0)),(7,(.own 300001 0 r)),(8,(iv s)),(9,(.own 300002 0 l)),(10,(iv t))],[(100000,(bN 0 [(.imm b c 1 d e),(iv w)])),(300000,(bN 0 [(iv 0),(iv 0),.nsl])),(300001,(bQ 1 u)),(300002,(bQ 3 v))]⟩
def IV (F:KF R) (Q0:St→O R):=Ra N F [1,1,0,1,0,0,1,0,0,1,0,1,0] [Q0]
def J5 (g f:Int) (b:LA) (c:Nat) (d e:Bool) (i:Int) (m:Nat) (o p:Int) (q:LA):St:=⟨[(0,(.optr 100000 0)),(1,(iv g)),(2,(iv f)),(6,(op 0)),(7,(.own 300001 0 m)),(8,(iv o))],[(100000,(bN 0 [(.imm b c 1 d e),(iv p)])),(300000,(bN 0 [(iv 0),(iv 0),.nsl])),(300001,(bQ 1 q))]⟩
def Rb (F:KF R):=Ra N F [1,1,0,1,0] []
theorem Mg (Q0:St→O R) (F:KF R) (g f:Int) (b:LA) (c:Nat) (d e:Bool) (i:Int):∀ (n r:Nat) (s:Int) (l:Nat) (t w:Int) (u v:LA),Aj (IV N F Q0) n (IU g f b c d e i r s l t w u v)=(Bv N (fun m o p q=>Q0 (J5 g f b c d e i m o p q)) (Bx b c d e F) g f b c d e i n r s l t w u v)
 | 0,_,_,_,_,_,_,_=>by kernel_rfl
 | n+1,r,s,l,t,w,u,v=>Eq.trans (by kernel_rfl) (Dc (D6 N (fun m o p q=>Q0 (J5 g f b c d e i m o p q)) (Bx b c d e F) g f b c d e i · r s l t w u v) (funext fun r=>funext fun s=>funext fun l=>funext fun t=>funext fun w=>funext fun u=>funext fun v=>(Mg Q0 F g f b c d e i n r s l t w u v)):_)
theorem Mh (F:KF R) (g f:Int) (b:LA) (c:Nat) (d e:Bool) (i:Int):∀ (n m:Nat) (o p:Int) (q:LA),Aj (Rb N F) n (J5 g f b c d e i m o p q)=(Bw N (Bx b c d e F) g f b c d e i n m o p q)
 | 0,_,_,_,_=>by kernel_rfl
 | n+1,m,o,p,q=>have e0:=(funext fun m=>funext fun o=>funext fun p=>funext fun q=>(Mh F g f b c d e i n m o p q))
  Eq.trans (by kernel_rfl) (bz (Fn N (Bx b c d e F) g f b c d e i · · m o p q) e0 (funext fun r=>funext fun s=>funext fun l=>funext fun t=>funext fun w=>funext fun u=>funext fun v=>(Ah ..).trans ((Mg N (Aj (Rb N F) n) F g f b c d e i N r s l t w u v).trans (Dc (Bv N · (Bx b c d e F) g f b c d e i N r s l t w u v) e0))):_)
theorem Rc (g f:Int) (b:LA) (c:Nat) (d e:Bool) (i:Int) (F:KF R):Ga (T4 N) Q9 N 23 [(.optr 100000 0),(iv g),(iv f)] [(100000,(bN 0 [(.imm b c 1 d e),(iv i)]))] F=(C2 N g f b c d e i (Bx b c d e F)):=by
 rw[Po]
 exact Eq.trans (by kernel_rfl) (Dc (Ia N (Bx b c d e F) · g f b c d e i) (funext fun m=>funext fun o=>funext fun p=>funext fun q=>(Ah ..).trans (Mh N F g f b c d e i N m o p q)):_)
def Pp (a:LA) (h:Ag) (k:KF R):O R :=
 match a,h with
 | [(.optr 100000 0),(.int .i64 g),(.int .i64 f)],[(100000,⟨false,false,false,false,0,[(.imm b c 1 d e),(.int .i64 i)],false,none,0,0⟩)]=>(C2 N g f b c d e i (Bx b c d e k))
 | _,_=>none
theorem Rd:At N 23 @Pp:=by
 intro R Q a h k j;unfold Pp;split;exact Bg (Rc ..) (Rc ..) ⟨QG N,Yk N,Mr N,ZF N,trivial⟩;exact Bi
def IW:=Bf (Rd N)
def IX:=Gi (Rd N)
def R4 (r0:Bool→O R) (c:LA) (d:Nat) (g e:Bool) (f:Int) (k0:Int→O R) (b:Int):O R :=
 (cond (decide (b<((d:Nat):Int))) (cond (Af b d) (Ch .i64 (c.drop ((b.toNat)*4)) fun i=>(cond ((decide (i<0))==false) (cond (Af b d) (Ch .i64 (c.drop ((b.toNat)*4)) fun l=>(cond ((cond false true (decide (l≥f)))==false) (cond ((decide (b>0))==true) (cond (Af b d) (Ch .i64 (c.drop ((b.toNat)*4)) fun m=>(cond (Af (wrap .i64 (b - 1)) d) (Ch .i64 (c.drop (((wrap .i64 (b - 1)).toNat)*4)) fun o=>(cond ((cond false true (cond true (decide (m≤o)) false))==false) (cond (Af b d) (cond (Nat.ble 3 (((c.drop ((b.toNat)*4)).drop 1).length)) (E2 N (((c.drop ((b.toNat)*4)).drop 1).take 3) e (fun p=>(cond (cond false true (p==0)) (r0 false) (k0 (wrap .i64 (b+1)))))) none) none) (r0 false))) none)) none) (cond (Af b d) (cond (Nat.ble 3 (((c.drop ((b.toNat)*4)).drop 1).length)) (E2 N (((c.drop ((b.toNat)*4)).drop 1).take 3) e (fun q=>(cond (cond false true (q==0)) (r0 false) (k0 (wrap .i64 (b+1)))))) none) none)) (r0 false))) none) (r0 false))) none) (r0 true))
def Hi (r0:Bool→O R) (c:LA) (d:Nat) (g e:Bool) (f:Int):Nat→Int→O R
 | 0,_=>none
 | n+1,b=>(R4 N r0 c d g e f (Hi r0 c d g e f n) b)
def Vt (N:Nat) (r0:Bool→O R) (q0:Int→O R) (c:LA) (d:Nat) (g e:Bool) (f:Int):O R :=
 (q0 0)
def K5:=(Ak (fun (N:Nat) (c:LA) (d:Nat) (g e:Bool) (f:Int) (r0:Bool→O R)=>(Vt N r0 (fun b=>(Hi N r0 c d g e f N b)) c d g e f))).1
theorem EE (c d g e f r0):(@K5 R N c d g e f r0)=(Vt N r0 (fun b=>(Hi N r0 c d g e f N b)) c d g e f):=by rw[K5,(Ak _).2]
def IY:Hints:={ H:=(hS hL (hS (hS hL (hS (hP [0,1,5] hL) hL)) hL)) }
def QH:Ke:=[(48,Y6 N)]
def dy (F:KF R):=Rt Try.f60 IY (QH N) [] N F
def J6 (F:KF R):Bool→O R:=(fun r=>F (.bool r) [])
def dz (c:LA) (d:Nat) (g e:Bool) (f b:Int):St:=⟨[(0,(.imm c d 4 g e)),(1,(iv f)),(5,(iv b))],[]⟩
def eA (F:KF R):=dy N F [1,0,1,0] []
theorem Xg (F:KF R) (c:LA) (d:Nat) (g e:Bool) (f:Int):∀ (n:Nat) (b:Int),Aj (eA N F) n (dz c d g e f b)=(Hi N (J6 F) c d g e f n b)
 | 0,_=>by kernel_rfl
 | n+1,b=>Eq.trans (by kernel_rfl) (Dc (R4 N (J6 F) c d g e f · b) (funext fun b=>(Xg F c d g e f n b)):_)
theorem IZ (c:LA) (d:Nat) (g e:Bool) (f:Int) (F:KF R):Ga (QH N) IY N 60 [(.imm c d 4 g e),(iv f)] [] F=(K5 N c d g e f (J6 F)):=by
 rw[EE]
 exact Eq.trans (by kernel_rfl) (Dc (Vt N (J6 F) · c d g e f) (funext fun b=>(Ah ..).trans (Xg N F c d g e f N b)):_)
def EF (a:LA) (h:Ag) (k:KF R):O R :=
 match a,h with
 | [(.imm c d 4 g e),(.int .i64 f)],[]=>(K5 N c d g e f (J6 k))
 | _,_=>none
theorem I_:At N 60 @EF:=by
 intro R Q a h k j;unfold EF;split;exact Bg (IZ ..) (IZ ..) ⟨Y7 N,trivial⟩;exact Bi
def JA:=Bf (I_ N)
def JB:=Gi (I_ N)
def R5 (r0:Nat→Bool→LA→O R) (c:LA) (d:Nat) (f e:Bool) (b:Int) (k1:Nat→Int→LA→O R) (i:Nat) (g:Int) (l:LA):O R :=
 (cond (decide (g<b)) (Vn N c d false e g (fun m=>(cond (Af g i) (cond ((Nat.beq (m.length) 3)&&((Nat.ble ((0+((g.toNat)*3))+3) (l.length))&&(!false))) (k1 i (wrap .i64 (g+1)) (setCells l (0+((g.toNat)*3)) m)) none) none))) (r0 i true l))
def J7 (r0:Nat→Bool→LA→O R) (c:LA) (d:Nat) (f e:Bool) (b:Int):Nat→Nat→Int→LA→O R
 | 0,_,_,_=>none
 | n+1,i,g,l=>(R5 N r0 c d f e b (J7 r0 c d f e b n) i g l)
def R6 (N:Nat) (r0:Nat→Bool→LA→O R) (c:LA) (d:Nat) (f e:Bool) (b:Int) (q1:Nat→Int→LA→O R):O R :=
 (cond ((decide (0≤b))&&((decide (b≤b))&&((decide (b≤140737488355328))&&(decide ((b*((56:Nat):Int))≤140737488355328))))) (q1 (b.toNat) 0 (List.flatten (List.replicate (b.toNat) ([(.bool false),.nsl,.nsl]:LA)))) none)
def Nz (r0:Nat→Bool→LA→O R) (c:LA) (d:Nat) (f e:Bool) (b:Int):O R:=(R6 N r0 c d f e b (fun i g l=>(J7 N r0 c d f e b N i g l)))
def Vu (r0:Nat→Bool→LA→O R) (q0:O R) (c:LA) (d:Nat) (f e:Bool) (b:Int):O R :=
 (cond ((decide (b<0))==false) (cond ((cond false true (decide (b>16384)))==false) (Pl N c d false e (fun o p=>(K5 N (p.take (o*4)) o false true b (fun q=>(cond (cond false true (!q)) (r0 0 false []) q0))))) (r0 0 false [])) (r0 0 false []))
def Oa:=(Ak (fun (N:Nat) (c:LA) (d:Nat) (f e:Bool) (b:Int) (r0:Nat→Bool→LA→O R)=>(Vu N r0 (Nz N r0 c d f e b) c d f e b))).1
theorem EG (c d f e b r0):(@Oa R N c d f e b r0)=(Vu N r0 (Nz N r0 c d f e b) c d f e b):=by rw[Oa,(Ak _).2]
def JC:Hints:={ H:=(hS hL (hJ [0,1] hL (hS hL (hS (hS hL (hS (hP [0,1,6,7] hL) hL)) hL)))),nils:=[(4,3)],modes:=[(2,3),(0,0)] }
def QI:Ke:=[(59,P' N),(60,JA N),(61,YQ N)]
def JD (F:KF R):=Rt Try.f45 JC (QI N) [] N F
def Fo (F:KF R):Nat→Bool→LA→O R:=(fun r s t=>F (.tup [(.own 300000 0 r),(.bool s)]) (hq [(bQ 3 t)]))
def eB (c:LA) (d:Nat) (f e:Bool) (b:Int) (i:Nat) (g:Int) (l:LA):St:=⟨[(0,(.imm c d 4 f e)),(1,(iv b)),(6,(.own 300000 0 i)),(7,(iv g))],(hq [(bQ 3 l)])⟩
def eC (F:KF R):=JD N F [1,1,1,0,1,0] []
def eD (c:LA) (d:Nat) (f e:Bool) (b:Int):St:=⟨[(0,(.imm c d 4 f e)),(1,(iv b))],[]⟩
def eE (F:KF R):=JD N F [1,1] []
theorem Xh (F:KF R) (c:LA) (d:Nat) (f e:Bool) (b:Int):∀ (n i:Nat) (g:Int) (l:LA),Aj (eC N F) n (eB c d f e b i g l)=(J7 N (Fo F) c d f e b n i g l)
 | 0,_,_,_=>by kernel_rfl
 | n+1,i,g,l=>Eq.trans (by kernel_rfl) (Dc (R5 N (Fo F) c d f e b · i g l) (funext fun i=>funext fun g=>funext fun l=>(Xh F c d f e b n i g l)):_)
theorem RV (F:KF R) (c:LA) (d:Nat) (f e:Bool) (b:Int):Rs (eE N F) (eD c d f e b)=(Nz N (Fo F) c d f e b):=by
 exact Eq.trans (by kernel_rfl) (Dc (R6 N (Fo F) c d f e b ·) (funext fun i=>funext fun g=>funext fun l=>(Ah ..).trans (Xh N F c d f e b N i g l)):_)
theorem JE (c:LA) (d:Nat) (f e:Bool) (b:Int) (F:KF R):Ga (QI N) JC N 45 [(.imm c d 4 f e),(iv b)] [] F=(Oa N c d f e b (Fo F)):=by
 rw[EG]
 exact Eq.trans (by kernel_rfl) (Dc (Vu N (Fo F) · c d f e b) ((Hf ..).trans (RV N F c d f e b)):_)
def EH (a:LA) (h:Ag) (k:KF R):O R :=
 match a,h with
 | [(.imm c d 4 f e),(.int .i64 b)],[]=>(Oa N c d f e b (Fo k))
 | _,_=>none
theorem JF:At N 45 @EH:=by
 intro R Q a h k j;unfold EH;split;exact Bg (JE ..) (JE ..) ⟨QA N,JB N,YR N,trivial⟩;exact Bi
def eF:=Bf (JF N)
def eG:=Gi (JF N)
def K6 (r0:Nat→LA→O R) (c:Bool) (b:LA) (k0:Nat→Int→LA→O R) (e:Nat) (d:Int) (f:LA):O R :=
 (Ch .i64 b fun l=>(cond (decide (d<l)) (Gk 1 (b.drop 2) fun m o=>(cond (Af d o) (Gk 4 (m.drop ((d.toNat)*1)) fun p q=>(Ch .i64 (b.drop 1) fun r=>(Oa N p q false c r (fun i v s=>(cond (Af d e) (cond ((Nat.beq 1 1)&&((Nat.ble ((0+((d.toNat)*1))+1) (f.length))&&(!false))) (k0 e (wrap .i64 (d+1)) (f.set (0+((d.toNat)*1)) (.imm (s.take (i*3)) i 3 false false))) none) none))))) none)) (r0 e f)))
def El (r0:Nat→LA→O R) (c:Bool) (b:LA):Nat→Nat→Int→LA→O R
 | 0,_,_,_=>none
 | n+1,e,d,f=>(K6 N r0 c b (El r0 c b n) e d f)
def Lr (N:Nat) (r0:Nat→LA→O R) (q0:Nat→Int→LA→O R) (b:LA) (c:Bool):O R :=
 (Ch .i64 b fun g=>(cond ((decide (0≤g))&&((decide (g≤g))&&((decide (g≤140737488355328))&&(decide ((g*((24:Nat):Int))≤140737488355328))))) (q0 (g.toNat) 0 (List.replicate (g.toNat) .nsl)) none))
def Fp:=(Ak (fun (N:Nat) (b:LA) (c:Bool) (r0:Nat→LA→O R)=>(Lr N r0 (fun e d f=>(El N r0 c b N e d f)) b c))).1
theorem T5 (b c r0):(@Fp R N b c r0)=(Lr N r0 (fun e d f=>(El N r0 c b N e d f)) b c):=by rw[Fp,(Ak _).2]
def Xi:Hints:={ H:=(hS hL (hS hL (hS (hS hL (hS (hP [1,3,4] hL) hL)) hL))),nils:=[(2,1)],modes:=[(2,1)] }
def Z9:Ke:=[(45,eF N)]
def RW (F:KF R):=Rt Try.f26 Xi (Z9 N) [] N F
def Fx (F:KF R):Nat→LA→O R:=(fun t u=>F (.own 300000 0 t) (hq [(bQ 1 u)]))
def RX (c:Bool) (b:LA) (e:Nat) (d:Int) (f:LA):St:=⟨[(1,(op 0)),(3,(.own 300001 0 e)),(4,(iv d))],(hq [(bP c 0 b),(bQ 1 f)])⟩
def RY (F:KF R):=RW N F [1,1,0,1,0] []
theorem Pq (F:KF R) (c:Bool) (b:LA):∀ (n e:Nat) (d:Int) (f:LA),Aj (RY N F) n (RX c b e d f)=(El N (Fx F) c b n e d f)
 | 0,_,_,_=>by kernel_rfl
 | n+1,e,d,f=>Eq.trans (by kernel_rfl) (Dc (K6 N (Fx F) c b · e d f) (funext fun e=>funext fun d=>funext fun f=>(Pq F c b n e d f)):_)
theorem Xj (b:LA) (c:Bool) (F:KF R):Ga (Z9 N) Xi N 26 [(.pagg b c)] [] F=(Fp N b c (Fx F)):=by
 rw[T5]
 exact Eq.trans (by kernel_rfl) (Dc (Lr N (Fx F) · b c) (funext fun e=>funext fun d=>funext fun f=>(Ah ..).trans (Pq N F c b N e d f)):_)
def T6 (a:LA) (h:Ag) (k:KF R):O R :=
 match a,h with
 | [(.pagg b c)],[]=>(Fp N b c (Fx k))
 | _,_=>none
theorem Xk:At N 26 @T6:=by
 intro R Q a h k j;unfold T6;split;exact Bg (Xj ..) (Xj ..) ⟨eG N,trivial⟩;exact Bi
def Xl:=Bf (Xk N)
def Xm:=Gi (Xk N)
def AA (N:Nat) (b:Int) (r0:Bool→O R):O R :=
 (cond ((decide (b≥0))==true) (r0 (cond true (decide (b≤16384)) false)) (r0 false))
def K7:=(Ak (@AA R)).1
theorem AB:@K7 R=@AA R:=(Ak _).2
def EI (F:KF R):Bool→O R:=(fun c=>F (.bool c) [])
theorem EJ (b:Int) (F:KF R):Ga [] S5 N 62 [(iv b)] [] F=(K7 N b (EI F)):=by
 rw[AB]
 kernel_rfl
def AC (a:LA) (h:Ag) (k:KF R):O R :=
 match a,h with
 | [(.int .i64 b)],[]=>(K7 N b (EI k))
 | _,_=>none
theorem EK:At N 62 @AC:=by
 intro R Q a h k j;unfold AC;split;exact Bg (EJ ..) (EJ ..) trivial;exact Bi
def bL:=Bf (EK N)
def bM:=Gi (EK N)
def G5 (N:Nat) (r0:Bool→O R) (c:LA) (b:Nat) (d e:Bool) (k0:Int→O R) (f:Int):O R :=
 (cond (decide (f<((b:Nat):Int))) (cond (Af (wrap .i64 (f - 1)) b) (Ch .i64 (c.drop (((wrap .i64 (f - 1)).toNat)*4)) fun g=>(cond (Af f b) (Ch .i64 (c.drop ((f.toNat)*4)) fun i=>(cond (decide (g≥i)) (r0 false) (k0 (wrap .i64 (f+1))))) none)) none) (r0 true))
def Ci (r0:Bool→O R) (c:LA) (b:Nat) (d e:Bool):Nat→Int→O R
 | 0,_=>none
 | n+1,f=>(G5 N r0 c b d e (Ci r0 c b d e n) f)
def Gf (N:Nat) (r0:Bool→O R) (q0:Int→O R) (c:LA) (b:Nat) (d e:Bool):O R :=
 (q0 1)
def E7:=(Ak (fun (N:Nat) (c:LA) (b:Nat) (d e:Bool) (r0:Bool→O R)=>(Gf N r0 (fun f=>(Ci N r0 c b d e N f)) c b d e))).1
theorem Mi (c b d e r0):(@E7 R N c b d e r0)=(Gf N r0 (fun f=>(Ci N r0 c b d e N f)) c b d e):=by rw[E7,(Ak _).2]
def Nd:Hints:={ H:=(hS hL (hS (hS hL (hS (hP [0,3] hL) hL)) hL)) }
def CC (F:KF R):=Rt Try.f74 Nd [] [] N F
def Dj (F:KF R):Bool→O R:=(fun l=>F (.bool l) [])
def CD (c:LA) (b:Nat) (d e:Bool) (f:Int):St:=⟨[(0,(.imm c b 4 d e)),(3,(iv f))],[]⟩
def CE (F:KF R):=CC N F [1,0,1,0] []
theorem J8 (F:KF R) (c:LA) (b:Nat) (d e:Bool):∀ (n:Nat) (f:Int),Aj (CE N F) n (CD c b d e f)=(Ci N (Dj F) c b d e n f)
 | 0,_=>by kernel_rfl
 | n+1,f=>Eq.trans (by kernel_rfl) (Dc (G5 N (Dj F) c b d e · f) (funext fun f=>(J8 F c b d e n f)):_)
theorem Nf (c:LA) (b:Nat) (d e:Bool) (F:KF R):Ga [] Nd N 74 [(.imm c b 4 d e)] [] F=(E7 N c b d e (Dj F)):=by
 rw[Mi]
 exact Eq.trans (by kernel_rfl) (Dc (Gf N (Dj F) · c b d e) (funext fun f=>(Ah ..).trans (J8 N F c b d e N f)):_)
def Mj (a:LA) (h:Ag) (k:KF R):O R :=
 match a,h with
 | [(.imm c b 4 d e)],[]=>(E7 N c b d e (Dj k))
 | _,_=>none
theorem Ng:At N 74 @Mj:=by
 intro R Q a h k j;unfold Mj;split;exact Bg (Nf ..) (Nf ..) trivial;exact Bi
def CF:=Bf (Ng N)
def CG:=Gi (Ng N)
def K8 (r0:Bool→O R) (e:Int) (b:LA) (c:Nat) (g d:Bool) (k0:Int→Int→O R) (i f:Int):O R :=
 (cond (decide (f<i)) (cond (Af f c) (cond (Nat.ble 4 ((b.drop ((f.toNat)*4)).length)) (cond ((Nat.beq 0 0)&&((Nat.beq (((b.drop ((f.toNat)*4)).take 4).length) 4)&&(Nat.beq 4 4))) (Ch .i64 ((b.drop ((f.toNat)*4)).take 4) fun l=>(cond ((decide (l<0))==false) (Ch .i64 ((b.drop ((f.toNat)*4)).take 4) fun m=>(cond ((cond false true (decide (m≥e)))==false) (cond (Nat.ble 3 ((((b.drop ((f.toNat)*4)).take 4).drop 1).length)) (BN N ((((b.drop ((f.toNat)*4)).take 4).drop 1).take 3) d (fun o=>(cond (cond false true (o==0)) (r0 false) (k0 i (wrap .i64 (f+1)))))) none) (r0 false))) (r0 false))) none) none) none) (r0 true))
def Da (r0:Bool→O R) (e:Int) (b:LA) (c:Nat) (g d:Bool):Nat→Int→Int→O R
 | 0,_,_=>none
 | n+1,i,f=>(K8 N r0 e b c g d (Da r0 e b c g d n) i f)
def Ls (r0:Bool→O R) (q0:Int→Int→O R) (b:LA) (c:Nat) (g d:Bool) (e:Int):O R :=
 (E7 N b c false d (fun p=>(cond (!p) (r0 false) (q0 ((c:Nat):Int) 0))))
def Hj:=(Ak (fun (N:Nat) (b:LA) (c:Nat) (g d:Bool) (e:Int) (r0:Bool→O R)=>(Ls N r0 (fun i f=>(Da N r0 e b c g d N i f)) b c g d e))).1
theorem T7 (b c g d e r0):(@Hj R N b c g d e r0)=(Ls N r0 (fun i f=>(Da N r0 e b c g d N i f)) b c g d e):=by rw[Hj,(Ak _).2]
def Xn:Hints:={ H:=(hS hL (hS hL (hS (hS hL (hS (hP [1,10,11,12] hL) hL)) hL))) }
def AD:Ke:=[(74,CF N),(75,j_ N)]
def RZ (F:KF R):=Rt Try.f63 Xn (AD N) [] N F
def Fy (F:KF R):Bool→O R:=(fun q=>F (.bool q) [])
def R_ (e:Int) (b:LA) (c:Nat) (g d:Bool) (i f:Int):St:=⟨[(1,(iv e)),(10,(.imm b c 4 g d)),(11,(iv i)),(12,(iv f))],[]⟩
def SB (F:KF R):=RZ N F [1,1,0,1,0] []
theorem Pr (F:KF R) (e:Int) (b:LA) (c:Nat) (g d:Bool):∀ (n:Nat) (i f:Int),Aj (SB N F) n (R_ e b c g d i f)=(Da N (Fy F) e b c g d n i f)
 | 0,_,_=>by kernel_rfl
 | n+1,i,f=>Eq.trans (by kernel_rfl) (Dc (K8 N (Fy F) e b c g d · i f) (funext fun i=>funext fun f=>(Pr F e b c g d n i f)):_)
theorem Xo (b:LA) (c:Nat) (g d:Bool) (e:Int) (F:KF R):Ga (AD N) Xn N 63 [(.imm b c 4 g d),(iv e)] [] F=(Hj N b c g d e (Fy F)):=by
 rw[T7]
 exact Eq.trans (by kernel_rfl) (Dc (Ls N (Fy F) · b c g d e) (funext fun i=>funext fun f=>(Ah ..).trans (Pr N F e b c g d N i f)):_)
def T8 (a:LA) (h:Ag) (k:KF R):O R :=
 match a,h with
 | [(.imm b c 4 g d),(.int .i64 e)],[]=>(Hj N b c g d e (Fy k))
 | _,_=>none
theorem Xp:At N 63 @T8:=by
 intro R Q a h k j;unfold T8;split;exact Bg (Xo ..) (Xo ..) ⟨CG N,ja N,trivial⟩;exact Bi
def SC:=Bf (Xp N)
def SD:=Gi (Xp N)
def Vv (r0:Bool→O R) (f:LA) (e:Nat) (c:Bool) (b:LA) (k1:Int→Int→O R) (g d:Int):O R :=
 (cond (decide (d<g)) (cond (Af d e) (Gk 4 (f.drop ((d.toNat)*1)) fun i l=>(Ch .i64 (b.drop 1) fun m=>(Hj N i l false c m (fun o=>(cond (!o) (r0 false) (k1 g (wrap .i64 (d+1)))))))) none) (r0 true))
def Mk (r0:Bool→O R) (f:LA) (e:Nat) (c:Bool) (b:LA):Nat→Int→Int→O R
 | 0,_,_=>none
 | n+1,g,d=>(Vv N r0 f e c b (Mk r0 f e c b n) g d)
def Vw (N:Nat) (r0:Bool→O R) (c:Bool) (b:LA) (q1:LA→Nat→Int→Int→O R):O R :=
 (Gk 1 (b.drop 2) fun f e=>(q1 f e ((e:Nat):Int) 0))
def Re (r0:Bool→O R) (c:Bool) (b:LA):O R:=(Vw N r0 c b (fun f e g d=>(Mk N r0 f e c b N g d)))
def BX (r0:Bool→O R) (q0:O R) (b:LA) (c:Bool):O R :=
 (Ch .i64 b fun p=>(K7 N p (fun q=>(cond ((!q)==false) (Ch .i64 (b.drop 1) fun r=>(K7 N r (fun s=>(cond ((cond false true (!s))==false) (Gk 1 (b.drop 2) fun w t=>(Ch .i64 b fun u=>(cond (cond false true (((t:Nat):Int) != u)) (r0 false) q0))) (r0 false))))) (r0 false)))))
def T9:=(Ak (fun (N:Nat) (b:LA) (c:Bool) (r0:Bool→O R)=>(BX N r0 (Re N r0 c b) b c))).1
theorem JG (b c r0):(@T9 R N b c r0)=(BX N r0 (Re N r0 c b) b c):=by rw[T9,(Ak _).2]
def QJ:Hints:={ H:=(hS hL (hJ [1] hL (hS (hS hL (hS (hP [1,24,25,26] hL) hL)) hL))) }
def ZG:Ke:=[(62,bL N),(63,SC N)]
def QK (F:KF R):=Rt Try.f46 QJ (ZG N) [] N F
def G6 (F:KF R):Bool→O R:=(fun v=>F (.bool v) [])
def gu (f:LA) (e:Nat) (c:Bool) (b:LA) (g d:Int):St:=⟨[(1,(op 0)),(24,(.imm f e 1 false c)),(25,(iv g)),(26,(iv d))],(hq [(bP c 0 b)])⟩
def gv (F:KF R):=QK N F [1,1,0,1,0] []
def gw (c:Bool) (b:LA):St:=⟨[(1,(op 0))],(hq [(bP c 0 b)])⟩
def gx (F:KF R):=QK N F [1,1] []
theorem AE (F:KF R) (f:LA) (e:Nat) (c:Bool) (b:LA):∀ (n:Nat) (g d:Int),Aj (gv N F) n (gu f e c b g d)=(Mk N (G6 F) f e c b n g d)
 | 0,_,_=>by kernel_rfl
 | n+1,g,d=>Eq.trans (by kernel_rfl) (Dc (Vv N (G6 F) f e c b · g d) (funext fun g=>funext fun d=>(AE F f e c b n g d)):_)
theorem ZH (F:KF R) (c:Bool) (b:LA):Rs (gx N F) (gw c b)=(Re N (G6 F) c b):=by
 exact Eq.trans (by kernel_rfl) (Dc (Vw N (G6 F) c b ·) (funext fun f=>funext fun e=>funext fun g=>funext fun d=>(Ah ..).trans (AE N F f e c b N g d)):_)
theorem QL (b:LA) (c:Bool) (F:KF R):Ga (ZG N) QJ N 46 [(.pagg b c)] [] F=(T9 N b c (G6 F)):=by
 rw[JG]
 exact Eq.trans (by kernel_rfl) (Dc (BX N (G6 F) · b c) ((Hf ..).trans (ZH N F c b)):_)
def JH (a:LA) (h:Ag) (k:KF R):O R :=
 match a,h with
 | [(.pagg b c)],[]=>(T9 N b c (G6 k))
 | _,_=>none
theorem QM:At N 46 @JH:=by
 intro R Q a h k j;unfold JH;split;exact Bg (QL ..) (QL ..) ⟨bM N,SD N,trivial⟩;exact Bi
def gy:=Bf (QM N)
def gz:=Gi (QM N)
end
end Gx

namespace Gx
open Go Go.Proofs
open IntKind (wrap)
set_option maxRecDepth 100000
noncomputable section
variable {R:Type} (N:Nat)
def Ps (N:Nat) (k1:Int→Int→LA→O R) (r0:Nat→Int→LA→O R) (c:Nat) (f:LA) (d:Nat) (b:Bool) (e:Int) (p:LA) (s:Nat) (k2:Int→Int→Int→Int→LA→O R) (g t u l:Int) (o:LA):O R :=
 (cond (decide (l<u)) (cond (Af l s) (cond (Nat.ble 4 ((p.drop ((l.toNat)*4)).length)) (cond ((Nat.beq 0 0)&&((Nat.beq (((p.drop ((l.toNat)*4)).take 4).length) 4)&&(Nat.beq 4 4))) (Ch .i64 ((p.drop ((l.toNat)*4)).take 4) fun ad=>(cond (ad != g) (cond (Af g c) (Ch .i64 ((p.drop ((l.toNat)*4)).take 4) fun z=>(Ch .i64 ((p.drop ((l.toNat)*4)).take 4) fun x=>(cond (Af x c) (fe (o.drop (g.toNat)) fun aa=>(cond (Nat.beq (g.toNat) (g.toNat)) (rB ((o.set (g.toNat) (A6 (Mm aa z) 1 0)).drop (g.toNat)) fun ab=>(fe (((o.set (g.toNat) (A6 (Mm aa z) 1 0)).set (g.toNat) (A6 ab 0 0)).drop (x.toNat)) fun ac=>(cond (Nat.beq (x.toNat) (x.toNat)) (rB ((((o.set (g.toNat) (A6 (Mm aa z) 1 0)).set (g.toNat) (A6 ab 0 0)).set (x.toNat) (A6 (Mm ac g) 1 0)).drop (x.toNat)) fun ae=>(k2 g t u (wrap .i64 (l+1)) ((((o.set (g.toNat) (A6 (Mm aa z) 1 0)).set (g.toNat) (A6 ab 0 0)).set (x.toNat) (A6 (Mm ac g) 1 0)).set (x.toNat) (A6 ae 0 0)))) none))) none)) none))) none) (k2 g t u (wrap .i64 (l+1)) o))) none) none) none) (k1 e (wrap .i64 (t+1)) o))
def F4 (k1:Int→Int→LA→O R) (r0:Nat→Int→LA→O R) (c:Nat) (f:LA) (d:Nat) (b:Bool) (e:Int) (p:LA) (s:Nat):Nat→Int→Int→Int→Int→LA→O R
 | 0,_,_,_,_,_=>none
 | n+1,g,t,u,l,o=>(Ps N k1 r0 c f d b e p s (F4 k1 r0 c f d b e p s n) g t u l o)
def Pt (r0:Nat→Int→LA→O R) (c:Nat) (f:LA) (d:Nat) (b:Bool) (k1:Int→Int→LA→O R) (q2:LA→Nat→Int→Int→Int→Int→LA→O R) (e m:Int) (q:LA):O R :=
 (cond (decide (m<e)) (cond (Af m d) (Gk 4 (f.drop ((m.toNat)*1)) fun p s=>(q2 p s m m ((s:Nat):Int) 0 q)) none) (F3 N c q (fun am af=>(r0 c 0 af))))
def F5 (r0:Nat→Int→LA→O R) (c:Nat) (f:LA) (d:Nat) (b:Bool):Nat→Int→Int→LA→O R
 | 0,_,_,_=>none
 | n+1,e,m,q=>(Pt N r0 c f d b (F5 r0 c f d b n) (fun p s g t u l o=>(F4 N (F5 r0 c f d b n) r0 c f d b e p s N g t u l o)) e m q)
def Pu (N:Nat) (r0:Nat→Int→LA→O R) (b:Bool) (i:LA) (k0:Nat→Int→Int→LA→O R) (q1:LA→Nat→Int→Int→LA→O R) (c:Nat) (v r:Int) (w:LA):O R :=
 (cond (decide (r<v)) (cond (Af r c) (k0 c v (wrap .i64 (r+1)) (w.set (r.toNat) (A6 [] 0 0))) none) (Gk 1 (i.drop 2) fun f d=>(q1 f d ((d:Nat):Int) 0 w)))
def F6 (r0:Nat→Int→LA→O R) (b:Bool) (i:LA):Nat→Nat→Int→Int→LA→O R
 | 0,_,_,_,_=>none
 | n+1,c,v,r,w=>(Pu N r0 b i (F6 r0 b i n) (fun f d e m q=>(F5 N r0 c f d b N e m q)) c v r w)
def Rf (r0:Nat→Int→LA→O R) (q0:Nat→Int→Int→LA→O R) (i:LA) (b:Bool):O R :=
 (cond (Nat.ble 3 (i.length)) (T9 N (i.take 3) b (fun ag=>(cond (!ag) (r0 0 1 []) (Ch .i64 i fun ah=>(Ch .i64 (i.drop 1) fun ai=>(cond (ah != ai) (r0 0 4 []) (Ch .i64 i fun y=>(cond ((decide (0≤y))&&((decide (y=y))&&((decide (y≤140737488355328))&&(decide ((y*((8:Nat):Int))≤140737488355328))))) (q0 (y.toNat) (((y.toNat):Nat):Int) 0 (List.replicate (y.toNat) .nsl)) none)))))))) none)
def K9:=(Ak (fun (N:Nat) (i:LA) (b:Bool) (r0:Nat→Int→LA→O R)=>(Rf N r0 (fun c v r w=>(F6 N r0 b i N c v r w)) i b))).1
theorem AF (i b r0):(@K9 R N i b r0)=(Rf N r0 (fun c v r w=>(F6 N r0 b i N c v r w)) i b):=by rw[K9,(Ak _).2]
def EL:Hints:={ H:=(hS hL (hS hL (hS hL (hS hL (hS (hS hL (hS (hP [1,4,22,23] hL) hL)) (hS (hS hL (hS (hP [4,32,33,34] (hS hL (hS hL (hS (hS (hS hL (hS hL (hS (hP [4,6,32,33,34,39,40,41] hL) hL))) hL) hL)))) hL)) hL)))))),nils:=[(2,1)],modes:=[(2,1),(0,0)],cob:=[2000020] }
def JI:Ke:=[(46,gy N),(40,LO N)]
def R7 (F:KF R):=Rt Try.f27 EL (JI N) [] N F
def Cd (F:KF R):Nat→Int→LA→O R:=(fun aj ak al=>F (.tup [(.own 300000 0 aj),(iv ak)]) (hq [(bQ 1 al)]))
def bO (c:Nat) (f:LA) (d:Nat) (b:Bool) (e:Int) (p:LA) (s:Nat) (g t u l:Int) (o:LA):St:=⟨[(4,(.nd 300000 (.whole c))),(6,(iv g)),(32,(.imm f d 1 false b)),(33,(iv e)),(34,(iv t)),(39,(.imm p s 4 false b)),(40,(iv u)),(41,(iv l))],(hq [⟨false,false,true,false,2,o,true,none,0,0⟩])⟩
def bR (F:KF R) (Q1:St→O R):=R7 N F [1,1,1,1,1,0,1,0,0,1,1,0,0,1,1,0] [Q1]
def R8 (c:Nat) (f:LA) (d:Nat) (b:Bool) (e m:Int) (q:LA):St:=⟨[(4,(.nd 300000 (.whole c))),(32,(.imm f d 1 false b)),(33,(iv e)),(34,(iv m))],(hq [⟨false,false,true,false,2,q,true,none,0,0⟩])⟩
def EM (F:KF R):=R7 N F [1,1,1,1,1,0,1,0] []
def bS (b:Bool) (i:LA) (c:Nat) (v r:Int) (w:LA):St:=⟨[(1,(op 0)),(4,(.nd 300001 (.whole c))),(22,(iv v)),(23,(iv r))],(hq [(bP b 0 i),⟨false,false,true,false,2,w,true,none,0,0⟩])⟩
def bT (F:KF R):=R7 N F [1,1,1,1,0,1,0] []
theorem Ua (Q1:St→O R) (F:KF R) (c:Nat) (f:LA) (d:Nat) (b:Bool) (e:Int) (p:LA) (s:Nat):∀ (n:Nat) (g t u l:Int) (o:LA),Aj (bR N F Q1) n (bO c f d b e p s g t u l o)=(F4 N (fun e m q=>Q1 (R8 c f d b e m q)) (Cd F) c f d b e p s n g t u l o)
 | 0,_,_,_,_,_=>by kernel_rfl
 | n+1,g,t,u,l,o=>Eq.trans (by kernel_rfl) (Dc (Ps N (fun e m q=>Q1 (R8 c f d b e m q)) (Cd F) c f d b e p s · g t u l o) (funext fun g=>funext fun t=>funext fun u=>funext fun l=>funext fun o=>(Ua Q1 F c f d b e p s n g t u l o)):_)
theorem Ub (F:KF R) (c:Nat) (f:LA) (d:Nat) (b:Bool):∀ (n:Nat) (e m:Int) (q:LA),Aj (EM N F) n (R8 c f d b e m q)=(F5 N (Cd F) c f d b n e m q)
 | 0,_,_,_=>by kernel_rfl
 | n+1,e,m,q=>have e0:=(funext fun e=>funext fun m=>funext fun q=>(Ub F c f d b n e m q))
  Eq.trans (by kernel_rfl) (bz (Pt N (Cd F) c f d b · · e m q) e0 (funext fun p=>funext fun s=>funext fun g=>funext fun t=>funext fun u=>funext fun l=>funext fun o=>(Ah ..).trans ((Ua N (Aj (EM N F) n) F c f d b e p s N g t u l o).trans (Dc (F4 N · (Cd F) c f d b e p s N g t u l o) e0))):_)
theorem Uc (F:KF R) (b:Bool) (i:LA):∀ (n c:Nat) (v r:Int) (w:LA),Aj (bT N F) n (bS b i c v r w)=(F6 N (Cd F) b i n c v r w)
 | 0,_,_,_,_=>by kernel_rfl
 | n+1,c,v,r,w=>Eq.trans (by kernel_rfl) (bz (Pu N (Cd F) b i · · c v r w) (funext fun c=>funext fun v=>funext fun r=>funext fun w=>(Uc F b i n c v r w)) (funext fun f=>funext fun d=>funext fun e=>funext fun m=>funext fun q=>(Ah ..).trans (Ub N F c f d b N e m q)):_)
theorem EN (i:LA) (b:Bool) (F:KF R):Ga (JI N) EL N 27 [(.pagg i b)] [] F=(K9 N i b (Cd F)):=by
 rw[AF]
 exact Eq.trans (by kernel_rfl) (Dc (Rf N (Cd F) · i b) (funext fun c=>funext fun v=>funext fun r=>funext fun w=>(Ah ..).trans (Uc N F b i N c v r w)):_)
def AG (a:LA) (h:Ag) (k:KF R):O R :=
 match a,h with
 | [(.pagg i b)],[]=>(K9 N i b (Cd k))
 | _,_=>none
theorem EO:At N 27 @AG:=by
 intro R Q a h k j;unfold AG;split;exact Bg (EN ..) (EN ..) ⟨gz N,LP N,trivial⟩;exact Bi
def bU:=Bf (EO N)
def bV:=Gi (EO N)
def R9 (r0:Bool→O R) (c:Bool) (b:LA) (k1:Int→O R) (d:Int):O R :=
 (Ch .i64 b fun e=>(cond (decide (d<e)) (Gk 1 (b.drop 2) fun f g=>(cond (Af d g) (Gk 4 (f.drop ((d.toNat)*1)) fun i l=>(Ch .i64 (b.drop 1) fun m=>(K5 N i l false c m (fun o=>(cond (!o) (r0 false) (k1 (wrap .i64 (d+1)))))))) none)) (r0 true)))
def J9 (r0:Bool→O R) (c:Bool) (b:LA):Nat→Int→O R
 | 0,_=>none
 | n+1,d=>(R9 N r0 c b (J9 r0 c b n) d)
def Sa (N:Nat) (r0:Bool→O R) (c:Bool) (b:LA) (q1:Int→O R):O R :=
 (q1 0)
def N0 (r0:Bool→O R) (c:Bool) (b:LA):O R:=(Sa N r0 c b (fun d=>(J9 N r0 c b N d)))
def Vx (N:Nat) (r0:Bool→O R) (q0:O R) (b:LA) (c:Bool):O R :=
 (Ch .i64 b fun p=>(cond ((decide (p<0))==false) (Ch .i64 b fun q=>(cond ((cond false true (decide (q>16384)))==false) (Ch .i64 (b.drop 1) fun r=>(cond ((cond false true (decide (r<0)))==false) (Ch .i64 (b.drop 1) fun s=>(cond ((cond false true (decide (s>16384)))==false) (Gk 1 (b.drop 2) fun w t=>(Ch .i64 b fun u=>(cond (cond false true (((t:Nat):Int) != u)) (r0 false) q0))) (r0 false))) (r0 false))) (r0 false))) (r0 false)))
def Ob:=(Ak (fun (N:Nat) (b:LA) (c:Bool) (r0:Bool→O R)=>(Vx N r0 (N0 N r0 c b) b c))).1
theorem EP (b c r0):(@Ob R N b c r0)=(Vx N r0 (N0 N r0 c b) b c):=by rw[Ob,(Ak _).2]
def JJ:Hints:={ H:=(hS hL (hJ [1] hL (hS (hS hL (hS (hP [1,3] hL) hL)) hL))) }
def QN:Ke:=[(60,JA N)]
def JK (F:KF R):=Rt Try.f47 JJ (QN N) [] N F
def Fq (F:KF R):Bool→O R:=(fun v=>F (.bool v) [])
def eH (c:Bool) (b:LA) (d:Int):St:=⟨[(1,(op 0)),(3,(iv d))],(hq [(bP c 0 b)])⟩
def eI (F:KF R):=JK N F [1,1,0,1,0] []
def eJ (c:Bool) (b:LA):St:=⟨[(1,(op 0))],(hq [(bP c 0 b)])⟩
def eK (F:KF R):=JK N F [1,1] []
theorem Xq (F:KF R) (c:Bool) (b:LA):∀ (n:Nat) (d:Int),Aj (eI N F) n (eH c b d)=(J9 N (Fq F) c b n d)
 | 0,_=>by kernel_rfl
 | n+1,d=>Eq.trans (by kernel_rfl) (Dc (R9 N (Fq F) c b · d) (funext fun d=>(Xq F c b n d)):_)
theorem SE (F:KF R) (c:Bool) (b:LA):Rs (eK N F) (eJ c b)=(N0 N (Fq F) c b):=by
 exact Eq.trans (by kernel_rfl) (Dc (Sa N (Fq F) c b ·) (funext fun d=>(Ah ..).trans (Xq N F c b N d)):_)
theorem JL (b:LA) (c:Bool) (F:KF R):Ga (QN N) JJ N 47 [(.pagg b c)] [] F=(Ob N b c (Fq F)):=by
 rw[EP]
 exact Eq.trans (by kernel_rfl) (Dc (Vx N (Fq F) · b c) ((Hf ..).trans (SE N F c b)):_)
def EQ (a:LA) (h:Ag) (k:KF R):O R :=
 match a,h with
 | [(.pagg b c)],[]=>(Ob N b c (Fq k))
 | _,_=>none
theorem JM:At N 47 @EQ:=by
 intro R Q a h k j;unfold EQ;split;exact Bg (JL ..) (JL ..) ⟨JB N,trivial⟩;exact Bi
def eL:=Bf (JM N)
def eM:=Gi (JM N)
def Mx (k0:Nat→Int→LA→O R) (r0:Int→LA→O R) (r1:LA→Nat→O R) (e d:Nat) (c:Bool) (b f:LA) (k1:Int→Int→LA→O R) (i g:Int) (m:LA):O R :=
 (Ch .i64 b fun x=>(cond (decide (g<x)) (cond (Af i d) (Ht 1 m (i.toNat) fun ao r=>(cond ((i != g)==true) (cond (Af i e) (Gk 3 (f.drop (0+((i.toNat)*1))) fun s y=>(cond (Af g y) (cond (Nat.ble 3 ((s.drop ((g.toNat)*3)).length)) (E2 N ((s.drop ((g.toNat)*3)).take 3) false (fun z=>(cond ((z != 0)==false) (cond (Af g e) (Gk 3 (f.drop (0+((g.toNat)*1))) fun t aa=>(cond (Af i aa) (cond (Nat.ble 3 ((t.drop ((i.toNat)*3)).length)) (E2 N ((t.drop ((i.toNat)*3)).take 3) false (fun ab=>(cond (Af g r) (Ht 1 m (i.toNat) fun u ac=>(cond (Nat.blt ((g.toNat)*1) u.length) (k1 i (wrap .i64 (g+1)) (m.set (i.toNat) (A6 (u.set ((g.toNat)*1) (.bool (cond true (cond false true (ab != 0)) false))) ac 1))) none)) none))) none) none)) none) (cond (Af g r) (Ht 1 m (i.toNat) fun v ad=>(cond (Nat.blt ((g.toNat)*1) v.length) (k1 i (wrap .i64 (g+1)) (m.set (i.toNat) (A6 (v.set ((g.toNat)*1) (.bool (cond true true false))) ad 1))) none)) none)))) none) none)) none) (cond (Af g r) (Ht 1 m (i.toNat) fun w ae=>(cond (Nat.blt ((g.toNat)*1) w.length) (k1 i (wrap .i64 (g+1)) (m.set (i.toNat) (A6 (w.set ((g.toNat)*1) (.bool false)) ae 1))) none)) none))) none) (k0 d (wrap .i64 (i+1)) m)))
def D7 (k0:Nat→Int→LA→O R) (r0:Int→LA→O R) (r1:LA→Nat→O R) (e d:Nat) (c:Bool) (b f:LA):Nat→Int→Int→LA→O R
 | 0,_,_,_=>none
 | n+1,i,g,m=>(Mx N k0 r0 r1 e d c b f (D7 k0 r0 r1 e d c b f n) i g m)
def My (r0:Int→LA→O R) (r1:LA→Nat→O R) (e:Nat) (c:Bool) (b f:LA) (k0:Nat→Int→LA→O R) (q1:Int→Int→LA→O R) (d:Nat) (l:Int) (o:LA):O R :=
 (Ch .i64 b fun af=>(cond (decide (l<af)) (Ch .i64 b fun p=>(cond ((decide (0≤p))&&((decide (p≤p))&&((decide (p≤140737488355328))&&(decide ((p*((1:Nat):Int))≤140737488355328))))) (cond (Af l d) (cond (Nat.ble 1 (p.toNat)) (q1 l 0 (o.set (l.toNat) (A6 (List.take ((p.toNat)*1) (List.replicate (p.toNat) (.bool false))) (p.toNat) 1))) none) none) none)) (Ek N d o (fun ag=>(r1 ag d)))))
def D8 (r0:Int→LA→O R) (r1:LA→Nat→O R) (e:Nat) (c:Bool) (b f:LA):Nat→Nat→Int→LA→O R
 | 0,_,_,_=>none
 | n+1,d,l,o=>(My N r0 r1 e c b f (D8 r0 r1 e c b f n) (fun i g m=>(D7 N (D8 r0 r1 e c b f n) r0 r1 e d c b f N i g m)) d l o)
def N1 (r0:Int→LA→O R) (r1:LA→Nat→O R) (q0:Nat→LA→Nat→Int→LA→O R) (b:LA) (c:Bool):O R :=
 (cond (Nat.ble 3 (b.length)) (Ob N (b.take 3) c (fun ah=>(cond (!ah) (r0 1 []) (Ch .i64 b fun ai=>(Ch .i64 (b.drop 1) fun aj=>(cond (ai != aj) (r0 4 []) (cond (Nat.ble 3 (b.length)) (Fp N (b.take 3) c (fun e f=>(Ch .i64 b fun q=>(cond ((decide (0≤q))&&((decide (q=q))&&((decide (q≤140737488355328))&&(decide ((q*((24:Nat):Int))≤140737488355328))))) (q0 e f (q.toNat) 0 (List.replicate (q.toNat) .nsl)) none)))) none))))))) none)
def Ja:=(Ak (fun (N:Nat) (b:LA) (c:Bool) (r0:Int→LA→O R) (r1:LA→Nat→O R)=>(N1 N r0 r1 (fun e f d l o=>(D8 N r0 r1 e c b f N d l o)) b c))).1
theorem Xr (b c r0 r1):(@Ja R N b c r0 r1)=(N1 N r0 r1 (fun e f d l o=>(D8 N r0 r1 e c b f N d l o)) b c):=by rw[Ja,(Ak _).2]
def AH:Hints:={ H:=(hS hL (hS hL (hS hL (hS hL (hS hL (hS (hS hL (hS (hP [1,4,5,6] (hS hL (hS (hS (hS hL (hS hL (hS (hP [1,4,5,6,7] hL) hL))) hL) hL))) hL)) hL)))))),nils:=[(2,1)],modes:=[(2,1),(0,0)],cob:=[2000020] }
def ER:Ke:=[(47,eL N),(26,Xl N),(49,FL N),(48,Y6 N)]
def AI (F:KF R):=Rt Try.f28 AH (ER N) [] N F
def C3 (F:KF R):Int→LA→O R:=(fun ak al=>F (.tup [(.own 300000 0 0),(iv ak)]) (hq [(bQ 1 al)]))
def C4 (F:KF R):LA→Nat→O R:=(fun am an=>F (.tup [(.imm am an 1 false false),(iv 0)]) [])
def ZI (e d:Nat) (c:Bool) (b f:LA) (i g:Int) (m:LA):St:=⟨[(1,(op 0)),(4,(.own 300001 0 e)),(5,(.nd 300002 (.whole d))),(6,(iv i)),(7,(iv g))],(hq [(bP c 0 b),(bQ 1 f),⟨false,false,true,false,3,m,true,none,0,0⟩])⟩
def ZJ (F:KF R) (Q0:St→O R):=AI N F [1,1,1,1,1,0,1,0,0,1,0,0,1,1,0] [Q0]
def Pv (e:Nat) (c:Bool) (b f:LA) (d:Nat) (l:Int) (o:LA):St:=⟨[(1,(op 0)),(4,(.own 300001 0 e)),(5,(.nd 300002 (.whole d))),(6,(iv l))],(hq [(bP c 0 b),(bQ 1 f),⟨false,false,true,false,3,o,true,none,0,0⟩])⟩
def AJ (F:KF R):=AI N F [1,1,1,1,1,0,1,0] []
theorem Rg (Q0:St→O R) (F:KF R) (e d:Nat) (c:Bool) (b f:LA):∀ (n:Nat) (i g:Int) (m:LA),Aj (ZJ N F Q0) n (ZI e d c b f i g m)=(D7 N (fun d l o=>Q0 (Pv e c b f d l o)) (C3 F) (C4 F) e d c b f n i g m)
 | 0,_,_,_=>by kernel_rfl
 | n+1,i,g,m=>Eq.trans (by kernel_rfl) (Dc (Mx N (fun d l o=>Q0 (Pv e c b f d l o)) (C3 F) (C4 F) e d c b f · i g m) (funext fun i=>funext fun g=>funext fun m=>(Rg Q0 F e d c b f n i g m)):_)
theorem Rh (F:KF R) (e:Nat) (c:Bool) (b f:LA):∀ (n d:Nat) (l:Int) (o:LA),Aj (AJ N F) n (Pv e c b f d l o)=(D8 N (C3 F) (C4 F) e c b f n d l o)
 | 0,_,_,_=>by kernel_rfl
 | n+1,d,l,o=>have e0:=(funext fun d=>funext fun l=>funext fun o=>(Rh F e c b f n d l o))
  Eq.trans (by kernel_rfl) (bz (My N (C3 F) (C4 F) e c b f · · d l o) e0 (funext fun i=>funext fun g=>funext fun m=>(Ah ..).trans ((Rg N (Aj (AJ N F) n) F e d c b f N i g m).trans (Dc (D7 N · (C3 F) (C4 F) e d c b f N i g m) e0))):_)
theorem AK (b:LA) (c:Bool) (F:KF R):Ga (ER N) AH N 28 [(.pagg b c)] [] F=(Ja N b c (C3 F) (C4 F)):=by
 rw[Xr]
 exact Eq.trans (by kernel_rfl) (Dc (N1 N (C3 F) (C4 F) · b c) (funext fun e=>funext fun f=>funext fun d=>funext fun l=>funext fun o=>(Ah ..).trans (Rh N F e c b f N d l o)):_)
def Xs (a:LA) (h:Ag) (k:KF R):O R :=
 match a,h with
 | [(.pagg b c)],[]=>(Ja N b c (C3 k) (C4 k))
 | _,_=>none
theorem AL:At N 28 @Xs:=by
 intro R Q a h k j;unfold Xs;split;exact Bg (AK ..) (AK ..) ⟨eM N,Xm N,FM N,Y7 N,trivial⟩;exact Bi
def ZK:=Bf (AL N)
def ZL:=Gi (AL N)
def Bs (r0:Bool→O R) (k0:Int→Bool→LA→O R) (b:Int) (d:Bool) (c:LA):O R :=
 (cond (decide (b<3)) (cond (Af b 3) (cond (Nat.ble 3 ((c.drop (0+((b.toNat)*3))).length)) (cond ((Nat.beq 0 0)&&((Nat.beq (((c.drop (0+((b.toNat)*3))).take 3).length) 3)&&(Nat.beq 3 3))) (Gk 1 (((c.drop (0+((b.toNat)*3))).take 3).drop 2) fun ay z=>(cond (decide (((z:Nat):Int)>20)) (k0 (wrap .i64 (b+1)) d c) (cond (Nat.ble 3 (((c.drop (0+((b.toNat)*3))).take 3).length)) (K9 N (((c.drop (0+((b.toNat)*3))).take 3).take 3) d (fun t w x=>(cond (Nat.ble 3 (((c.drop (0+((b.toNat)*3))).take 3).length)) (Ja N (((c.drop (0+((b.toNat)*3))).take 3).take 3) d (fun aa az=>(L9 N (x.take (t*1)) t false true [] 0 false true (fun ab=>(cond ((!ab)==false) (cond ((cond false true (w != aa))==false) (cond ((w==0)==true) (Gu N (x.take (t*1)) t false true (fun ac=>(cond (cond false true (cond true (!ac) false)) (r0 false) (k0 (wrap .i64 (b+1)) d c)))) (k0 (wrap .i64 (b+1)) d c)) (r0 false)) (r0 false))))) (fun ad ae=>(L9 N (x.take (t*1)) t false true ad ae false false (fun af=>(cond ((!af)==false) (cond ((cond false true (w != 0))==false) (cond ((w==0)==true) (Gu N (x.take (t*1)) t false true (fun ag=>(cond (cond false true (cond true (!ag) false)) (r0 false) (k0 (wrap .i64 (b+1)) d c)))) (k0 (wrap .i64 (b+1)) d c)) (r0 false)) (r0 false)))))) none))) none))) none) none) none) (L7 N (fun ah=>(r0 ah))))
def Au (r0:Bool→O R):Nat→Int→Bool→LA→O R
 | 0,_,_,_=>none
 | n+1,b,d,c=>(Bs N r0 (Au r0 n) b d c)
def Dp (r0:Bool→O R) (q0:Int→Bool→LA→O R) (l m:Int) (o:LA) (p:Nat) (q i:Bool) (e:LA) (f:Nat) (r g:Bool):O R :=
 (XQ N e f false g (Cw N 7 e f false g 0 (fun ai aj=>(Cw N 7 e f false g aj (fun ak al=>(C2 N ai ak e f false g al (fun u am=>(cond ((Nat.beq 0 0)&&((Nat.beq (u.length) 3)&&(Nat.beq 3 3))) (Cw N 7 e f false g am (fun an ao=>(C2 N an 0 e f false g ao (fun s ap=>(cond ((Nat.beq 0 0)&&((Nat.beq (s.length) 3)&&(Nat.beq 3 3))) (Ch .i64 s fun aq=>(Ch .i64 s fun ar=>(C2 N aq ar e f false g ap (fun au ba=>(Fp N au false (fun y av=>(Ch .i64 s fun aw=>(J4 N (av.take (y*1)) y false true aw (fun v=>(cond ((Nat.beq (v.length) 3)&&((Nat.ble 3 (s.length))&&(!false))) (cond (Nat.ble 3 (u.length)) (cond (Nat.ble 3 ((setCells s 0 v).length)) (cond ((Nat.beq ((u.take 3).length) 3)&&(Nat.ble 3 9)) (cond ((Nat.beq (((setCells s 0 v).take 3).length) 3)&&(Nat.ble 6 ((setCells [(.int .i64 0),(.int .i64 0),.nsl,(.int .i64 0),(.int .i64 0),.nsl,(.int .i64 0),(.int .i64 0),.nsl] 0 (u.take 3)).length))) (cond ((Nat.beq 3 3)&&(Nat.ble 9 ((setCells (setCells [(.int .i64 0),(.int .i64 0),.nsl,(.int .i64 0),(.int .i64 0),.nsl,(.int .i64 0),(.int .i64 0),.nsl] 0 (u.take 3)) 3 ((setCells s 0 v).take 3)).length))) (q0 0 ((i||false)||false) (Hp (setCells (setCells [(.int .i64 0),(.int .i64 0),.nsl,(.int .i64 0),(.int .i64 0),.nsl,(.int .i64 0),(.int .i64 0),.nsl] 0 (u.take 3)) 3 ((setCells s 0 v).take 3)) 6 [(.int .i64 l),(.int .i64 m),(.imm o p 1 q i)])) none) none) none) none) none) none)))))))))) none))))) none))))))))
def By:=(Ak (fun (N:Nat) (l m:Int) (o:LA) (p:Nat) (q i:Bool) (e:LA) (f:Nat) (r g:Bool) (r0:Bool→O R)=>(Dp N r0 (fun b d c=>(Au N r0 N b d c)) l m o p q i e f r g))).1
theorem Hm (l m o p q i e f r g r0):(@By R N l m o p q i e f r g r0)=(Dp N r0 (fun b d c=>(Au N r0 N b d c)) l m o p q i e f r g):=by rw[By,(Ak _).2]
def H0:Hints:={ H:=(hS hL (hS hL (hS hL (hS hL (hS hL (hS (hS hL (hS (hP [39,40,41] hL) hL)) hL)))))) }
def Jb:Ke:=[(9,mF N),(24,Mq N),(23,IW N),(26,Xl N),(25,QF N),(27,bU N),(28,ZK N),(29,gW N),(30,Qu N),(12,YE N)]
def Sb (F:KF R):=Rt Try.f7 H0 (Jb N) [] N F
def B0 (F:KF R):Bool→O R:=(fun ax=>F (.bool ax) [])
def Sc (b:Int) (d:Bool) (c:LA):St:=⟨[(39,(.own 300000 0 3)),(40,(iv 3)),(41,(iv b))],(hq [(bP d 3 c)])⟩
def Sd (F:KF R):=Sb N F [1,1,1,1,1,0,1,0] []
theorem Gg (F:KF R):∀ (n:Nat) (b:Int) (d:Bool) (c:LA),Aj (Sd N F) n (Sc b d c)=(Au N (B0 F) n b d c)
 | 0,_,_,_=>by kernel_rfl
 | n+1,b,d,c=>Eq.trans (by kernel_rfl) (Dc (Bs N (B0 F) · b d c) (funext fun b=>funext fun d=>funext fun c=>(Gg F n b d c)):_)
theorem H1 (l m:Int) (o:LA) (p:Nat) (q i:Bool) (e:LA) (f:Nat) (r g:Bool) (F:KF R):Ga (Jb N) H0 N 7 [(.agg [(iv l),(iv m),(.imm o p 1 q i)]),(.imm e f 1 r g)] [] F=(By N l m o p q i e f r g (B0 F)):=by
 rw[Hm]
 exact Eq.trans (by kernel_rfl) (Dc (Dp N (B0 F) · l m o p q i e f r g) (funext fun b=>funext fun d=>funext fun c=>(Ah ..).trans (Gg N F N b d c)):_)
def Hn (a:LA) (h:Ag) (k:KF R):O R :=
 match a,h with
 | [(.agg [(.int .i64 l),(.int .i64 m),(.imm o p 1 q i)]),(.imm e f 1 r g)],[]=>(By N l m o p q i e f r g (B0 k))
 | _,_=>none
theorem H2:At N 7 @Hn:=by
 intro R Q a h k j;unfold Hn;split;exact Bg (H1 ..) (H1 ..) ⟨mG N,Mr N,IX N,Xm N,QG N,bV N,ZL N,gX N,Qv N,YF N,trivial⟩;exact Bi
def Se:=Bf (H2 N)
def Sf:=Gi (H2 N)
end
end Gx

namespace Gx
def val:List Nat→Nat
 | []=>0
 | x::r=>x+4294967296*val r
def As (l:List Nat):Prop:=∀ x ∈ l,x<4294967296
def hE:Nat→Nat→List Nat
 | 0,_=>[]
 | f+1,n=>if n=0 then [] else n%4294967296::hE f (n/4294967296)
def Av (n:Nat):List Nat:=hE n n
theorem ky:∀ (f n:Nat),n≤f→∀ g,n≤g→hE f n=hE g n
 | 0,n,h,g,_=>by
  have:n=0:=by omega
  subst this;cases g<;>simp[hE]
 | f+1,n,h,g,hg=>by
  by_cases h0:n=0
  ·subst h0;cases g<;>simp[hE]
  ·cases g with
   | zero=>omega
   | succ g=>simp only[hE,h0,if_false];rw[ky f _ (by omega) g (by omega)]
theorem D9:Av 0=[]:=rfl
theorem Vy {n:Nat} (h:n≠0):Av n=n%4294967296::Av (n/4294967296):=by
 unfold Av
 cases n with
 | zero=>omega
 | succ n=>simp only[hE,h,if_false];rw[ky n _ (by omega) ((n+1)/4294967296) (by omega)]
theorem Ax:∀ n,val (Av n)=n:=by
 intro n
 induction n using Nat.strongRecOn with
 | _ n ih =>
  by_cases h:n=0
  ·subst h;rfl
  ·rw[Vy h,val,ih _ (by omega)];omega
theorem Ai:∀ n,As (Av n):=by
 intro n
 induction n using Nat.strongRecOn with
 | _ n ih =>
  by_cases h:n=0
  ·subst h;intro x hx;simp[D9] at hx
  ·rw[Vy h];intro x hx
   simp at hx
   rcases hx with rfl | hx
   ·omega
   ·exact ih _ (by omega) x hx
theorem cX:As []:=by intro x hx;simp at hx
theorem G7 {x:Nat} {r:List Nat}:As (x::r)↔x<4294967296∧As r:=by simp[As]
theorem Ir {a:List Nat} (h:As a) (n:Nat):As (a.take n):=fun x hx=>h x (List.mem_of_mem_take hx)
theorem Jc {a:List Nat} (h:As a) {i:Nat} (hi:i<a.length):a[i]<4294967296:=h _ (List.getElem_mem hi)
theorem Ud {a:List Nat} (h:As a) {v:Nat} (hv:v<4294967296) (i:Nat):As (a.set i v):=fun x hx=>by
 rcases List.mem_or_eq_of_mem_set hx with h1 | h1
 ·exact h x h1
 ·omega
theorem Ib (n:Nat):As (List.replicate n 0):=fun x hx=>by simp at hx;omega
theorem FR:∀ (a b:List Nat),val (a++b)=val a+4294967296 ^ a.length*val b
 | [],b=>by simp[val]
 | x::r,b=>by
  simp only[List.cons_append,val,List.length_cons,FR r b,Nat.pow_succ]
  rw[Nat.mul_add,←Nat.add_assoc,←Nat.mul_assoc];congr 2;rw[Nat.mul_comm]
theorem H3:∀ n,val (List.replicate n 0)=0
 | 0=>rfl
 | n+1=>by rw[List.replicate_succ,val,H3 n]
theorem Ee:∀ {a:List Nat},As a→val a<4294967296 ^ a.length
 | [],_=>by simp[val]
 | x::r,h=>by
  have h1:=G7.1 h
  have h2:=Ee h1.2
  rw[val,List.length_cons,Nat.pow_succ]
  omega
theorem jx (a:List Nat) (x:Nat):val (a++[x])=val a+4294967296 ^ a.length*x:=by rw[FR];simp[val]
theorem FS {n:Nat} (h:n≠0):Av n≠[]:=by rw[Vy h];simp
theorem ZM {n:Nat}:Av n=[]↔n=0:=by
 constructor
 ·intro h;by_cases h0:n=0;exact h0;exact absurd h (FS h0)
 ·intro h;rw[h];rfl
theorem Db {n:Nat}:(Av n).length=0↔n=0:=by rw[List.length_eq_zero_iff,ZM]
theorem Ec:∀ {l:List Nat},As l→l=Av (val l)++List.replicate (l.length - (Av (val l)).length) 0∧(Av (val l)).length≤l.length
 | [],_=>by simp[val,D9]
 | x::r,h=>by
  have h1:=G7.1 h
  obtain⟨h2,h3⟩:=Ec h1.2
  rw[val]
  by_cases h0:x+4294967296*val r=0
  ·have hx:x=0:=by omega
   have hr:val r=0:=by omega
   rw[h0,D9]
   rw[hr,D9] at h2
   simp at h2
   subst hx
   refine⟨?_,by simp⟩
   rw[List.nil_append,List.length_nil,Nat.sub_zero,List.length_cons,List.replicate_succ,←h2]
  ·rw[Vy h0,show(x+4294967296*val r)%4294967296=x by omega,show(x+4294967296*val r)/4294967296=val r by omega]
   refine⟨?_,by simp;exact h3⟩
   rw[List.cons_append,List.length_cons,List.length_cons,Nat.add_sub_add_right,←h2]
theorem nk:∀ (n:Nat) (h:Av n≠[]),(Av n).getLast h≠0:=by
 intro n
 induction n using Nat.strongRecOn with
 | _ n ih =>
  intro h
  have h0:n≠0:=fun e=>h (by rw[e];rfl)
  have e:=Vy h0
  by_cases h1:n/4294967296=0
  ·rw[h1,D9] at e
   have:n<4294967296:=by omega
   simp[e];omega
  ·have h2:=FS h1
   have:=ih _ (by omega) h2
   have h3:(Av n).getLast h=(Av (n/4294967296)).getLast h2:=by
    simp only[e];rw[List.getLast_cons h2]
   rw[h3];exact this
theorem ql:∀ {l:List Nat},As l→(∀ h:l≠[],l.getLast h≠0)→Av (val l)=l:=by
 intro l h hl
 obtain⟨h1,h2⟩:=Ec h
 by_cases hk:l.length - (Av (val l)).length=0
 ·rw[hk] at h1;simpa using h1.symm
 ·exfalso
  obtain⟨k,hk⟩:=Nat.exists_eq_succ_of_ne_zero hk
  rw[hk,List.replicate_succ',←List.append_assoc] at h1
  have hne:l≠[]:=by intro e;rw[e] at h1;simp at h1
  apply hl hne
  have h3:l.getLast?=some 0:=by rw[h1,List.getLast?_append];rfl
  rw[List.getLast?_eq_some_getLast hne] at h3
  simpa using h3
theorem F9 {n k:Nat} (h:n<4294967296 ^ k):(Av n).length≤k:=by
  induction k generalizing n with
  | zero => have : n = 0 := by simpa using h
            subst this;simp[D9]
  | succ k ih =>
    by_cases h0:n=0
    · subst h0;simp[D9]
    · rw[Vy h0,List.length_cons]
      have:n/4294967296<4294967296 ^ k:=by
        rw[Nat.pow_succ] at h
        exact Nat.div_lt_of_lt_mul (by rw[Nat.mul_comm];exact h)
      have:=ih this
      omega
theorem Ce {a b:Nat} (h:a≤b):(Av a).length≤(Av b).length:=by
 apply F9
 have:=Ee (Ai b)
 rw[Ax] at this
 omega
end Gx

namespace Gx
open Go
section
variable {R:Type}
def Al (l:List Nat):LA:=l.map fun n:Nat=>.int .u32 (n:Int)
theorem cY (x:Nat) (l:List Nat):Al (x::l)=.int .u32 (x:Int)::Al l:=rfl
theorem Bl (l:List Nat):(Al l).length=l.length:=by simp[Al]
theorem mS (l:List Nat) (n:Nat):(Al l).drop n=Al (l.drop n):=by simp[Al,List.map_drop]
theorem BY (l:List Nat) (n:Nat):(Al l).take n=Al (l.take n):=by simp[Al,List.map_take]
theorem nl (l:List Nat) (j:Nat) (v:Nat):List.set (Al l) j (.int .u32 (v:Int))=Al (l.set j v):=by simp[Al,List.map_set]
theorem Ka (n:Nat):List.replicate n (AV.int .u32 0)=Al (List.replicate n 0):=by simp[Al]
theorem nm {l:List Nat} {i:Nat} (h:i<l.length) {f:Int→O R}:Ch .u32 (List.drop i (Al l)) f=f (l[i]:Nat):=by
 rw[mS,List.drop_eq_getElem_cons h,cY,nK]
theorem AM:∀ l:List Nat,Cf (Al l)=true
 | []=>rfl
 | x::r=>by rw[cY,Cf];exact AM r
theorem np (a b:Nat):(a:Int)+(b:Int)=((a+b:Nat):Int):=by omega
theorem rQ (a b:Nat):(a:Int)*(b:Int)=((a*b:Nat):Int):=by simp
theorem bW {a:Nat} (h:a<18446744073709551616):IntKind.wrap .u64 (a:Int)=(a:Int):=wrap_u64 a h
theorem rR {a:Nat} (h:a<4294967296):IntKind.wrap .u32 (a:Int)=(a:Int):=wrap_u32 a h
theorem pM (a:Nat):IntKind.wrap .u32 (a:Int)=((a%4294967296:Nat):Int):=lm a
theorem pN (a:Int):IntKind.wrap .u64 a=a%18446744073709551616:=IntKind.wrap_u64 a
theorem nq {a b:Nat} (ha:a<18446744073709551616) (hb:b≤a):IntKind.wrap .u64 ((a:Int) - (b:Int))=((a - b:Nat):Int):=by rw[pN];omega
theorem pO (a:Nat):Int.fdiv (a:Int) (2 ^ 32)=((a/4294967296:Nat):Int):=UT a 32
theorem i64 {a:Int} (h:-9223372036854775808≤a∧a≤9223372036854775807):IntKind.wrap .i64 a=a:=wrap_i64 a h
theorem sD {a b:Nat} (ha:a<18446744073709551616) (hb:b<18446744073709551616):US .u64 (a:Int) (b:Int)=((a ||| b:Nat):Int):=cA rfl ha hb
theorem nr {a b k:Nat} (h:b<2 ^ k):a*2 ^ k ||| b=a*2 ^ k+b:=by
 rw[←Nat.shiftLeft_eq,Nat.shiftLeft_add_eq_or_of_lt h]
end
end Gx

namespace Gx
open Go Go.Proofs
section
variable {R:Type}
def fit (k N:Nat):Prop:=100*k+1000≤N∧k≤1000000000
theorem fit.le {j k N:Nat} (h:fit k N) (hj:j≤k):fit j N:=⟨by have:=h.1;omega,by have:=h.2;omega⟩
theorem ct (x y:O R):cond true x y=x:=rfl
theorem cf (x y:O R):cond false x y=y:=rfl
theorem rC (x y:Bool):cond true x y=x:=rfl
theorem rS (c:Nat):((decide (((c+1:Nat):Int)>(0:Int)))==true)=true:=by simp
theorem ou {j n:Nat} (h:j<n):decide ((j:Int)<(n:Int))=true:=by simp;omega
theorem ov {j n:Nat} (h:n≤j):decide ((j:Int)<(n:Int))=false:=by simp;omega
theorem wS {j:Nat} (h:j≤1000000000000):IntKind.wrap .i64 ((j:Int)+1)=((j+1:Nat):Int):=by rw[i64 (by omega)];omega
theorem wP {j:Nat} (h:j≤1000000000000):IntKind.wrap .i64 (((j+1:Nat):Int) - 1)=(j:Int):=by rw[i64 (by omega)];omega
theorem wA {j k:Nat} (h:j+k≤1000000000000):IntKind.wrap .i64 ((j:Int)+(k:Int))=((j+k:Nat):Int):=by rw[i64 (by omega)];omega
theorem ow {l:List Nat} {j:Nat} (h:j<l.length) {f:Int→O R}:Ch .u32 (List.drop ((Int.toNat (j:Int))*1) (Al l)) f=f (l[j]:Nat):=by
 rw[Int.toNat_natCast,Nat.mul_one,nm h]
theorem SF {l:List Nat} {j:Nat} (h:j<l.length) {f:Int→O R}:Ch .u32 (List.drop (0+((Int.toNat (j:Int))*1)) (Al l)) f=f (l[j]:Nat):=by
 rw[Nat.zero_add,ow h]
theorem rp {c a:Nat} (h:c≤a):((decide ((0:Int)≤(0:Int)))&&((decide ((0:Int)≤(c:Int)))&&((decide ((c:Int)≤(a:Int)))&&(decide ((a:Int)≤(a:Int))))))=true:=by
 simp;omega
theorem rq {n:Nat} (h:n≤1000000000000):((decide ((0:Int)≤(n:Int)))&&((decide ((n:Int)≤(n:Int)))&&((decide ((n:Int)≤(140737488355328:Int)))&&(decide (((n:Int)*((4:Nat):Int))≤(140737488355328:Int))))))=true:=by
 simp;omega
theorem ol {x:Nat} {m:List Nat} (h:x<m.length):((Nat.beq 1 1)&&((Nat.ble ((0+((Int.toNat (x:Int))*1))+1) (List.length (Al m)))&&(!false)))=true:=by
 rw[Bl,Int.toNat_natCast];simp;omega
theorem jy {x v:Nat} {m:List Nat}:List.set (Al m) (0+((Int.toNat (x:Int))*1)) (.int .u32 (v:Int))=Al (m.set x v):=by
 rw[Int.toNat_natCast,Nat.mul_one,Nat.zero_add,nl]
theorem nu {l:List Nat} (h:As l):l.take (Av (val l)).length=Av (val l):=by
 obtain⟨h1,h2⟩:=Ec h
 rw[congrArg (List.take (Av (val l)).length) h1,List.take_left]
theorem mT {l:List Nat} (h:As l):List.take ((Av (val l)).length*1) (Al l)=Al (Av (val l)):=by rw[Nat.mul_one,BY,nu h]
theorem Cy {l:List Nat} {c:Nat} (h:c<l.length):val (l.take (c+1))=val (l.take c)+4294967296 ^ c*l[c]:=by
 rw[List.take_succ_eq_append_getElem h,jx,List.length_take,Nat.min_eq_left (by omega)]
theorem kz {l:List Nat} {c:Nat} (hl:As l) (h:c<l.length) (h0:l[c]≠0):Av (val (l.take (c+1)))=l.take (c+1):=by
 apply ql (Ir hl _)
 intro hne
 rw[List.getLast_eq_getElem]
 simp only[List.length_take,Nat.min_eq_left (show c+1≤l.length by omega),Nat.add_sub_cancel,List.getElem_take]
 exact h0
theorem cZ {N:Nat} {l:List Nat} {t o:Bool} {K:LA→Nat→O R} (hl:As l) (hs:l.length≤1000000000000):∀ (c fuel:Nat),c≤l.length→c<fuel →
  Fj N K (Al l) l.length t o fuel (c:Int)=K (Al (Av (val (l.take c)))) (Av (val (l.take c))).length
 | 0,fuel+1,hc,_=>by
  rw[Fj];unfold Lm
  rw[show decide (((0:Nat):Int)>0)=false by simp]
  rw[show((false:Bool)==true)=false by rfl,cf,rp (by omega),ct,Int.toNat_natCast];rfl
 | c+1,fuel+1,hc,hf=>by
  rw[Fj];unfold Lm
  rw[rS,ct,wP (by omega),Ba (by omega),ct,ow (by omega),rC,rp (by omega),ct,cZ hl hs c fuel (by omega) (by omega),Int.toNat_natCast,Nat.mul_one,BY]
  by_cases h0:l[c]=0
  ·rw[Cy (by omega),h0];simp
  ·rw[kz hl (by omega) h0,List.length_take,Nat.min_eq_left hc]
   rw[show(((l[c]:Nat):Int)==0)=false by simp;exact h0,cf]
theorem mU {N:Nat} {l:List Nat} {n:Nat} {t o:Bool} {K:LA→Nat→O R} (hn:n=l.length) (hl:As l) (hf:fit l.length N):N8 N (Al l) n t o K=K (Al (Av (val l))) (Av (val l)).length:=by
 subst hn
 have h1:=hf.1;have h2:=hf.2
 rw[DN];unfold Vb
 dsimp only
 rw[cZ hl (by omega) l.length N (Nat.le_refl _) (by omega),List.take_length]
theorem mW {N:Nat} {K:LA→O R} (hN:1≤N):N9 N K=K []:=by
 rw[DP];unfold Vc
 cases N with
 | zero=>omega
 | succ N=>rw[Js];rfl
end
end Gx

namespace Gx
open Go Go.Proofs
section
variable {R:Type}
def Vz (x y:Nat):Int:=if x<y then -1 else if y<x then 1 else 0
theorem BZ (x:Nat):Vz x x=0:=by unfold Vz;simp
theorem ZN {a b:Nat} (h:(Av a).length<(Av b).length):a<b:=Nat.lt_of_not_le fun h2=>by
 have:=Ce h2;omega
theorem lA {u w p q P:Nat} (hu:u<P) (hw:w<P) (h:p<q):u+P*p<w+P*q:=by
 have:P*(p+1)≤P*q:=Nat.mul_le_mul_left _ h
 rw[Nat.mul_add] at this
 omega
theorem ZO {N:Nat} {a:List Nat} {n:Nat} {t o:Bool} {K:Int→O R} (hn:n=a.length) (ha:As a) (hf:fit a.length N):Im N (Al a) n t o K=K (Vz (val a) 0):=by
 subst hn
 have h1:=hf.1;have h2:=hf.2
 rw[Y8];unfold Qs
 dsimp only
 rw[mU rfl ha hf,mW (by omega)]
 by_cases h0:val a=0
 ·rw[h0,D9,BZ]
  cases N with
  | zero=>omega
  | succ N =>
   rw[Hy];unfold O2
   rw[i64 (by simp)];simp
 ·have hl:(Av (val a)).length≠0:=fun h=>h0 (Db.1 h)
  rw[show((((Av (val a)).length:Nat):Int) != (0:Int))=true by simp;exact fun h=>h0 (ZM.1 h),ct]
  rw[show decide ((((Av (val a)).length:Nat):Int)<(0:Int))=false by simp,cf]
  unfold Vz;rw[if_neg (by omega),if_pos (by omega)]
end
end Gx

namespace Gx
open Go Go.Proofs
section
variable {R:Type}
theorem SP:∀ {S:List Nat} {d v:Nat} (h:d<S.length),val (S.set d v)+4294967296 ^ d*S[d]=val S+4294967296 ^ d*v
 | x::r,0,v,_=>by simp[val];omega
 | x::r,d+1,v,h=>by
  have ih:=SP (S:=r) (d:=d) (v:=v) (by simpa using h)
  simp only[List.set_cons_succ,val,List.getElem_cons_succ,Nat.pow_succ]
  have e1:∀ y,4294967296 ^ d*4294967296*y=4294967296*(4294967296 ^ d*y):=fun y=>by rw[Nat.mul_comm (4294967296 ^ d),Nat.mul_assoc]
  rw[e1,e1]
  omega
theorem LX (b:List Nat) (d:Nat):val (b.take (d+1))=val (b.take d)+4294967296 ^ d*b.getD d 0:=by
 by_cases h:d<b.length
 ·rw[Cy h,List.getD_eq_getElem?_getD,List.getElem?_eq_getElem h];rfl
 ·rw[List.take_of_length_le (by omega),List.take_of_length_le (by omega),List.getD_eq_getElem?_getD,List.getElem?_eq_none (by omega)];simp
theorem QO (P s:Nat):P*(s%4294967296)+P*4294967296*(s/4294967296)=P*s:=by
 rw[Nat.mul_assoc,←Nat.mul_add,Nat.add_comm,Nat.div_add_mod]
def pu (S:List Nat) (d:Nat):Prop:=∀ j (h:j<S.length),d≤j→S[j]=0
theorem lB {S:List Nat} {d v:Nat} (h:pu S d):pu (S.set d v) (d+1):=fun j hj hd=>by
 rw[List.getElem_set]
 rw[if_neg (by omega)]
 exact h j (by simpa using hj) (by omega)
theorem ES (n:Nat):pu (List.replicate n 0) 0:=fun j hj _=>by simp
theorem eN {S:List Nat} {d v:Nat} (h:pu S d) (hd:d<S.length):val (S.set d v)=val S+4294967296 ^ d*v:=by
 have:=SP (v:=v) hd
 rw[h d hd (Nat.le_refl _)] at this;simpa using this
end
end Gx

namespace Gx
open Go Go.Proofs
section
variable {R:Type}
theorem rT {n:Nat} (h:n≠0):(((n:Nat):Int)==(0:Int))=false:=by rw[beq_eq_false_iff_ne];omega
theorem nv:∀ {S:List Nat} {j:Nat} (h:j<S.length),4294967296 ^ j*S[j]≤val S
 | x::r,0,_=>by simp[val]
 | x::r,j+1,h=>by
  have:=nv (S:=r) (j:=j) (by simpa using h)
  simp only[List.getElem_cons_succ,val,Nat.pow_succ]
  rw[Nat.mul_comm (4294967296 ^ j),Nat.mul_assoc]
  omega
theorem qn {S:List Nat} {k:Nat} (h:val S<4294967296 ^ k):pu S k:=fun j hj hk=>by
 have h1:=nv hj
 have h2:4294967296 ^ k≤4294967296 ^ j:=Nat.pow_le_pow_right (by omega) hk
 rcases Nat.eq_zero_or_pos S[j] with h0 | h0
 ·exact h0
 ·have:=Nat.le_mul_of_pos_right (4294967296 ^ j) h0
  omega
theorem nx {p q y s:Nat} (hp:p<4294967296) (hq:q<4294967296) (hy:y<4294967296) (hs:s<4294967296):p+(q*y+s)<18446744073709551616:=by
 have:q*y≤4294967295*4294967295:=Nat.mul_le_mul (by omega) (by omega)
 omega
end
end Gx

namespace Gx
open Go Go.Proofs
section
variable {R:Type}
theorem pP {v:Nat} (h:(Av v).length≤2):v<18446744073709551616:=by
 have:=Ee (Ai v)
 rw[Ax] at this
 have h2:4294967296 ^ (Av v).length≤4294967296 ^ 2:=Nat.pow_le_pow_right (by omega) h
 omega
theorem SQ {v:Nat} (h:v<18446744073709551616):(Av v).length≤2:=F9 (by simpa using h)
end
end Gx

namespace Gx
open Go Go.Proofs
section
variable {R:Type}
theorem c9 {X:List Nat} {n:Nat} (h:X.length=n+1):val X=val (X.take n)+4294967296 ^ n*X[n]:=by
 have:=Cy (l:=X) (c:=n) (by omega)
 rwa [List.take_of_length_le (by omega)] at this
end
end Gx

namespace Gx
open Go Go.Proofs
section
variable {R:Type}
theorem ny (a b:Nat):Int.tdiv (a:Int) (b:Int)=((a/b:Nat):Int):=rfl
theorem nz (a b:Nat):Int.tmod (a:Int) (b:Int)=((a%b:Nat):Int):=rfl
theorem sE {a b:Nat} (ha:a<4294967296) (hb:b<4294967296):US .u64 (IntKind.wrap .u64 ((a:Int)*2 ^ 32)) (b:Int)=((a*4294967296+b:Nat):Int):=by
 rw[show(2:Int) ^ 32=((2 ^ 32:Nat):Int) by rfl,rQ,bW (by omega),sD (by omega) (by omega),nr (by omega)]
end
end Gx

namespace Gx
open Go Go.Proofs
section
variable {R:Type}
theorem oA {l:List Nat} {d:Nat} (h:d<l.length):val (l.drop d)=l[d]+4294967296*val (l.drop (d+1)):=by
 rw[List.drop_eq_getElem_cons h,val]
end
end Gx

namespace Gx
open Go Go.Proofs
section
variable {R:Type}
theorem jz {S:List Nat} {n:Nat} (hS:As S) (h:S.length=n+1):val S<(S[n]+1)*4294967296 ^ n:=by
 have h1:=c9 h
 have h2:=Ee (Ir hS n)
 rw[List.length_take,Nat.min_eq_left (by omega)] at h2
 rw[Nat.add_mul,Nat.mul_comm S[n]];omega
end
end Gx

namespace Gx
open Go Go.Proofs
section
variable {R:Type}
theorem oB {x y:Nat} (hy:1≤y) (h:y≤x):2*(y*(x%y))≤x*y:=by
 have h1:=Nat.div_add_mod x y
 have h2:=Nat.mod_lt x (show 0<y by omega)
 have hq:1≤x/y:=by rw[Nat.le_div_iff_mul_le (by omega)];omega
 have h3:y*1≤y*(x/y):=Nat.mul_le_mul_left _ hq
 have h4:2*(x%y)≤x:=by omega
 have:=Nat.mul_le_mul_left y h4
 rw[Nat.mul_comm x y,Nat.mul_left_comm];exact this
end
end Gx

namespace Gx
open Go Go.Proofs
section
variable {R:Type}
theorem LY {a:List Nat} (ha:As a) (i:Nat):a.getD i 0<4294967296:=by
 by_cases h:i<a.length
 ·rw[List.getD_eq_getElem?_getD,List.getElem?_eq_getElem h];exact Jc ha h
 ·rw[List.getD_eq_getElem?_getD,List.getElem?_eq_none (by omega)];simp
end
end Gx

namespace Gx
open Go Go.Proofs
section
variable {R:Type}
theorem oC (n m:Nat):4294967296 ^ n*4294967296 ^ m=2 ^ (32*(n+m)):=by
 rw[←Nat.pow_add,show(4294967296:Nat)=2 ^ 32 by rfl,←Nat.pow_mul]
end
end Gx

namespace Gx
open Go Go.Proofs
section
variable {R:Type}
theorem rU {c:Nat} (h:c≤1000000000000):((Nat.ble (0+c) 140737488355328)&&(Nat.ble ((0+c)*4) 140737488355328))=true:=by simp;omega
theorem FT {N:Nat} {l:List Nat} {t o:Bool} {K:Nat→LA→O R} (hl:As l) (hs:l.length≤1000000000000):∀ (c fuel:Nat),c≤l.length→c<fuel →
  Gl N K (Al l) l.length t o fuel (c:Int)=K (Av (val (l.take c))).length (Al (Av (val (l.take c))))
 | 0,fuel+1,hc,_=>by
  rw[Gl];unfold Np
  rw[show decide (((0:Nat):Int)>0)=false by simp]
  rw[show((false:Bool)==true)=false by rfl,cf,rp (by omega),ct,Int.toNat_natCast,Nat.mul_one,BY,AM,Bool.or_true,ct,rU (by omega),ct];rfl
 | c+1,fuel+1,hc,hf=>by
  rw[Gl];unfold Np
  rw[rS,ct,wP (by omega),Ba (by omega),ct,ow (by omega),rC,rp (by omega),ct,FT hl hs c fuel (by omega) (by omega),Int.toNat_natCast,Nat.mul_one,BY,AM,Bool.or_true,ct,rU (by omega),ct,Nat.zero_add]
  by_cases h0:l[c]=0
  ·rw[Cy (by omega),h0];simp
  ·rw[kz hl (by omega) h0,List.length_take,Nat.min_eq_left hc]
   rw[rT h0,cf]
theorem Bt {N:Nat} {l:List Nat} {n:Nat} {t o:Bool} {K:Nat→LA→O R} (hn:n=l.length) (hl:As l) (hf:fit l.length N):Bz N (Al l) n t o K=K (Av (val l)).length (Al (Av (val l))):=by
 subst hn
 have h1:=hf.1;have h2:=hf.2
 rw[U7];unfold Tb
 dsimp only
 rw[FT hl (by omega) l.length N (Nat.le_refl _) (by omega),List.take_length]
theorem hG {N:Nat} {a b:List Nat} {t o t' o':Bool} {K:Bool→O R} (hs:a.length≤1000000000000) (he:a.length=b.length):∀ (m j fuel:Nat),j+m=a.length→m<fuel →
  Fh N K (Al a) a.length t o (Al b) b.length t' o' fuel (j:Int)=K (decide (a.drop j=b.drop j))
 | 0,j,fuel+1,hj,_=>by
  rw[Fh];unfold Ll
  rw[ov (by omega),cf,List.drop_eq_nil_of_le (by omega),List.drop_eq_nil_of_le (by omega)];simp
 | m+1,j,fuel+1,hj,hf=>by
  have h1:j<a.length:=by omega
  have h2:j<b.length:=by omega
  rw[Fh];unfold Ll
  rw[ou h1,ct,Ba h1,ct,ow h1,Ba h2,ct,ow h2,wS (by omega),hG hs he m (j+1) fuel (by omega) (by omega),List.drop_eq_getElem_cons h1,List.drop_eq_getElem_cons h2]
  by_cases h:a[j]=b[j]
  ·rw[show((((a[j]:Nat):Int) != ((b[j]:Nat):Int)))=false by simp[h],cf];congr 1;rw[decide_eq_decide,List.cons.injEq];exact⟨fun hh=>⟨h,hh⟩,fun hh=>hh.2⟩
  ·rw[show((((a[j]:Nat):Int) != ((b[j]:Nat):Int)))=true by rw[bne_iff_ne];omega,ct];congr 1;symm;rw[decide_eq_false_iff_not,List.cons.injEq];exact fun hh=>h hh.1
theorem oD {N:Nat} {a b:List Nat} {n m:Nat} {t o t' o':Bool} {K:Bool→O R} (hn:n=a.length) (hm:m=b.length) (hf:fit a.length N):N7 N (Al a) n t o (Al b) m t' o' K=K (decide (a=b)):=by
 subst hn hm
 have h1:=hf.1;have h2:=hf.2
 rw[CU];unfold U8
 by_cases he:a.length=b.length
 ·rw[show(((a.length:Nat):Int) != ((b.length:Nat):Int))=false by simp[he],cf]
  have:=hG (R:=R) (N:=N) (t:=t) (o:=o) (t':=t') (o':=o') (K:=K) (by omega) he a.length 0 N (by omega) (by omega)
  simpa using this
 ·rw[show(((a.length:Nat):Int) != ((b.length:Nat):Int))=true by rw[bne_iff_ne];omega,ct]
  congr 1;symm;rw[decide_eq_false_iff_not];intro h;exact he (by rw[h])
theorem Ri {N:Nat} {v:Nat} {K:Nat→LA→O R} (hv:v<18446744073709551616) (hN:4≤N):C0 N (v:Int) K=K (Av v).length (Al (Av v)):=by
 have hl:As [v%4294967296,v/4294967296]:=G7.2 ⟨by omega,G7.2 ⟨by omega,cX⟩⟩
 have hval:val [v%4294967296,v/4294967296]=v:=by simp[val];omega
 rw[Ow];unfold Mp
 rw[pM,pO,rR (show v/4294967296<4294967296 by omega)]
 have:=FT (R:=R) (N:=N) (l:=[v%4294967296,v/4294967296]) (t:=false) (o:=true) (K:=K) hl (by simp) 2 N (by simp) (by omega)
 rw[show [v%4294967296,v/4294967296].take 2=[v%4294967296,v/4294967296] by rfl,hval] at this
 rw[U7];unfold Tb
 exact this
theorem V0 {N:Nat} {l:List Nat} {n:Nat} {t o:Bool} {K:Int→Bool→O R} (hn:n=l.length) (hl:As l) (hf:fit l.length N):Ih N (Al l) n t o K=if val l<18446744073709551616 then K (val l:Int) true else K 0 false:=by
 have h1:=hf.1
 rw[Ym];unfold P9
 rw[Bt hn hl hf]
 by_cases h:val l<18446744073709551616
 ·have hd:=SQ h
  rw[if_pos h,show decide ((((Av (val l)).length:Nat):Int)>2)=false by simp;omega,cf]
  have hv:=Ax (val l)
  have hb:=Ai (val l)
  obtain⟨M,hM⟩:∃ M,N=M+4:=⟨N - 4,by omega⟩
  rw[hM]
  generalize Av (val l)=d at *
  match d,hd,hv,hb with
  | [],_,hv,_ =>
   dsimp only
   rw[Cc];unfold Cz
   rw[←hv,i64 (by simp)];rfl
  | [x],_,hv,hb =>
   have hx:=(G7.1 hb).1
   have hxv:val l=x:=by rw[←hv];simp[val]
   dsimp only
   rw[Cc];unfold Cz
   rw[i64 (by simp),show((([x]:List Nat).length:Nat):Int) - 1=((0:Nat):Int) by rfl,show decide (((0:Nat):Int)≥0)=true by rfl,ct,Ba (by simp),ct,SF (by simp)]
   rw[Cc];unfold Cz
   rw[i64 (by simp),show decide ((((0:Nat):Int) - 1)≥0)=false by rfl,cf]
   have:=sE (a:=0) (b:=x) (by omega) hx
   simp only[List.getElem_cons_zero]
   rw[bW (show x<18446744073709551616 by omega),show(0:Int)=((0:Nat):Int) by rfl,this,hxv];simp
  | [x,y],_,hv,hb =>
   have hx:=(G7.1 hb).1
   have hy:=(G7.1 (G7.1 hb).2).1
   have hxv:val l=y*4294967296+x:=by rw[←hv];simp[val];omega
   dsimp only
   rw[Cc];unfold Cz
   rw[i64 (by simp),show((([x,y]:List Nat).length:Nat):Int) - 1=((1:Nat):Int) by rfl,show decide (((1:Nat):Int)≥0)=true by rfl,ct,Ba (by simp),ct,SF (by simp)]
   rw[Cc];unfold Cz
   rw[i64 (by simp),show(((1:Nat):Int) - 1)=((0:Nat):Int) by rfl,show decide (((0:Nat):Int)≥0)=true by rfl,ct,Ba (by simp),ct,SF (by simp)]
   rw[Cc];unfold Cz
   rw[i64 (by simp),show decide ((((0:Nat):Int) - 1)≥0)=false by rfl,cf]
   have o1:=sE (a:=0) (b:=y) (by omega) hy
   have o2:=sE (a:=y) (b:=x) hy hx
   simp only[List.getElem_cons_zero,List.getElem_cons_succ]
   rw[bW (show y<18446744073709551616 by omega),bW (show x<18446744073709551616 by omega),show(0:Int)=((0:Nat):Int) by rfl,o1,Nat.zero_mul,Nat.zero_add,o2,hxv]
 ·have:¬ (Av (val l)).length≤2:=fun h2=>h (pP h2)
  rw[if_neg h,show decide ((((Av (val l)).length:Nat):Int)>2)=true by simp;omega,ct]
theorem c_ {N:Nat} {x y:List Nat} {K:Int→O R} (hx:As x) (hy:As y) (hs:x.length≤1000000000000) (he:x.length=y.length):∀ (i fuel:Nat),i≤x.length→i<fuel →
  D3 N K x.length y.length (Al x) (Al y) fuel ((i:Int) - 1)=K (Vz (val (x.take i)) (val (y.take i)))
 | 0,fuel+1,_,_=>by
  rw[D3];unfold H8
  rw[show decide ((((0:Nat):Int) - 1)≥0)=false by simp,cf]
  simp[BZ]
 | i+1,fuel+1,hi,hf=>by
  rw[D3];unfold H8
  rw[show(((i+1:Nat):Int) - 1)=(i:Int) by omega,show decide ((i:Int)≥0)=true by simp,ct,Ba (by omega),ct,SF (by omega),Ba (by omega),ct,SF (by omega),ct,SF (by omega),ct,SF (by omega),i64 (by omega),
   c_ hx hy hs he i fuel (by omega) (by omega),Cy (by omega),Cy (by omega)]
  have h1:=Ee (Ir hx i)
  have h2:=Ee (Ir hy i)
  rw[List.length_take,Nat.min_eq_left (by omega)] at h1 h2
  by_cases c1:x[i]<y[i]
  ·have:=lA h1 h2 c1
   rw[show decide (((x[i]:Nat):Int)<((y[i]:Nat):Int))=true by simp;exact c1,ct]
   unfold Vz;rw[if_pos this]
  ·by_cases c2:y[i]<x[i]
   ·have:=lA h2 h1 c2
    rw[show decide (((x[i]:Nat):Int)<((y[i]:Nat):Int))=false by simp;omega,cf,show decide (((x[i]:Nat):Int)>((y[i]:Nat):Int))=true by simp;exact c2,ct]
    unfold Vz;rw[if_neg (by omega),if_pos this]
   ·have:x[i]=y[i]:=by omega
    rw[show decide (((x[i]:Nat):Int)<((y[i]:Nat):Int))=false by simp;omega,cf,show decide (((x[i]:Nat):Int)>((y[i]:Nat):Int))=false by simp;omega,cf,this]
    unfold Vz
    congr 1
    by_cases a1:val (x.take i)<val (y.take i)
    ·rw[if_pos a1,if_pos (by omega)]
    ·by_cases a2:val (y.take i)<val (x.take i)
     ·rw[if_neg a1,if_pos a2,if_neg (by omega),if_pos (by omega)]
     ·rw[if_neg a1,if_neg a2,if_neg (by omega),if_neg (by omega)]
theorem mX {N:Nat} {a b:List Nat} {n m:Nat} {t o t' o':Bool} {K:Int→O R} (hn:n=a.length) (hm:m=b.length) (ha:As a) (hb:As b) (hf:fit (a.length+b.length) N) :
  Ix N (Al a) n t o (Al b) m t' o' K=K (Vz (val a) (val b)):=by
 subst hn hm
 have h1:=hf.1;have h2:=hf.2
 rw[Wj];unfold Nq
 dsimp only
 rw[Bt rfl ha (hf.le (by omega)),Bt rfl hb (hf.le (by omega))]
 have la:=(Ec ha).2
 have lb:=(Ec hb).2
 by_cases he:(Av (val a)).length=(Av (val b)).length
 ·rw[show((((Av (val a)).length:Nat):Int) != (((Av (val b)).length:Nat):Int))=false by simp;omega,cf,i64 (by omega),c_ (Ai _) (Ai _) (by omega) he _ N (Nat.le_refl _) (by omega),List.take_length,he,List.take_length,Ax,Ax]
 ·rw[show((((Av (val a)).length:Nat):Int) != (((Av (val b)).length:Nat):Int))=true by simp;omega,ct]
  by_cases hl:(Av (val a)).length<(Av (val b)).length
  ·have:=ZN hl
   rw[ou hl,ct]
   unfold Vz;rw[if_pos this]
  ·have:=ZN (show(Av (val b)).length<(Av (val a)).length by omega)
   rw[ov (by omega),cf]
   unfold Vz;rw[if_neg (by omega),if_pos this]
end
end Gx

namespace Gx
open Go Go.Proofs
section
variable {R:Type}
theorem rW (a b:Nat):EW (a:Int) (b:Int)=((max a b:Nat):Int):=by
 unfold EW
 by_cases h:(b:Int)>(a:Int)
 ·rw[decide_eq_true h];show(b:Int)=_;omega
 ·rw[decide_eq_false h];show(a:Int)=_;omega
theorem ca {N:Nat} {a b:List Nat} {t o t' o':Bool} {n:Nat} (ha:As a) (hb:As b) (hla:a.length<n) (hlb:b.length<n) (hn:n≤max a.length b.length+1) (hf:fit n N):∀ (m d fuel:Nat) (S:List Nat) (c:Nat),d+m=n→m<fuel→As S→S.length=n→pu S d→c≤1 →
  val S+4294967296 ^ d*c=val (a.take d)+val (b.take d) →
  ∀ K:Nat→LA→O R,Er N K (Al a) a.length t o (Al b) b.length t' o' fuel n (c:Int) (d:Int) (Al S)=K (Av (val a+val b)).length (Al (Av (val a+val b)))
 | 0,d,fuel+1,S,c,hd,_,hS,hl,hz,hc,hv=>by
  intro K
  have hd':d=n:=by omega
  subst hd'
  rw[List.take_of_length_le (by omega),List.take_of_length_le (by omega)] at hv
  have hc0:c=0:=by
   rcases Nat.eq_zero_or_pos c with h | h
   ·exact h
   ·exfalso
    have hc1:c=1:=by omega
    subst hc1
    obtain⟨e,rfl⟩:∃ e,d=e+1:=⟨d - 1,by omega⟩
    have x1:=Ee ha
    have x2:=Ee hb
    have y1:4294967296 ^ a.length≤4294967296 ^ e:=Nat.pow_le_pow_right (by omega) (by omega)
    have y2:4294967296 ^ b.length≤4294967296 ^ e:=Nat.pow_le_pow_right (by omega) (by omega)
    rw[Nat.pow_succ] at hv
    omega
  subst hc0
  have hv2:val S=val a+val b:=by omega
  rw[Er];unfold Qf
  rw[ov (Nat.le_refl _),cf,Nat.mul_one,List.take_of_length_le (by rw[Bl];omega),Bt hl.symm hS (by rw[hl];exact hf),hv2]
 | m+1,d,fuel+1,S,c,hd,hfu,hS,hl,hz,hc,hv=>by
  intro K
  have h1:=hf.1;have h2:=hf.2
  have ga:=LY ha d
  have gb:=LY hb d
  have step:∀ s:Nat,s=c+a.getD d 0+b.getD d 0→val (S.set d (s%4294967296))+4294967296 ^ (d+1)*(s/4294967296)=val (a.take (d+1))+val (b.take (d+1)):=by
   intro s hs
   rw[eN hz (by omega),LX a d,LX b d,Nat.pow_succ]
   have e:=QO (4294967296 ^ d) s
   have e2:4294967296 ^ d*s=4294967296 ^ d*c+4294967296 ^ d*a.getD d 0+4294967296 ^ d*b.getD d 0:=by rw[hs,Nat.mul_add,Nat.mul_add]
   omega
  have next:∀ s:Nat,s=c+a.getD d 0+b.getD d 0→Er N K (Al a) a.length t o (Al b) b.length t' o' fuel n ((s/4294967296:Nat):Int) ((d+1:Nat):Int) (Al (S.set d (s%4294967296)))=K (Av (val a+val b)).length (Al (Av (val a+val b))):=by
   intro s hs
   exact ca ha hb hla hlb hn hf m (d+1) fuel (S.set d (s%4294967296)) (s/4294967296) (by omega) (by omega) (Ud hS (by omega) d) (by simpa using hl) (lB hz) (by omega) (step s hs) K
  have second:∀ w:Nat,w=c+a.getD d 0→Oy N (Er N K (Al a) a.length t o (Al b) b.length t' o' fuel) K (Al a) a.length t o (Al b) b.length t' o' n (Al S) (w:Int) (d:Int)=K (Av (val a+val b)).length (Al (Av (val a+val b))):=by
   intro w hw
   unfold Oy
   by_cases hdb:d<b.length
   ·have hg:b.getD d 0=b[d]:=by rw[List.getD_eq_getElem?_getD,List.getElem?_eq_getElem hdb];rfl
    rw[ou hdb,ct,Ba hdb,ct,ow hdb,Ba (by omega),ct,ol (by omega),ct,bW (show b[d]<18446744073709551616 by omega),np,bW (show w+b[d]<18446744073709551616 by omega),pO,pM,jy,wS (by omega)]
    exact next _ (by rw[hw,hg])
   ·have hg:b.getD d 0=0:=by rw[List.getD_eq_getElem?_getD,List.getElem?_eq_none (by omega)];rfl
    rw[ov (by omega),cf,Ba (by omega),ct,ol (by omega),ct,pO,pM,jy,wS (by omega)]
    exact next _ (by rw[hw,hg];rfl)
  rw[Er];unfold Qf
  rw[ou (by omega),ct]
  by_cases hda:d<a.length
  ·have hg:a.getD d 0=a[d]:=by rw[List.getD_eq_getElem?_getD,List.getElem?_eq_getElem hda];rfl
   rw[ou hda,ct,Ba hda,ct,ow hda,bW (show a[d]<18446744073709551616 by omega),np,bW (show c+a[d]<18446744073709551616 by omega)]
   exact second _ (by rw[hg])
  ·have hg:a.getD d 0=0:=by rw[List.getD_eq_getElem?_getD,List.getElem?_eq_none (by omega)];rfl
   rw[ov (by omega),cf]
   exact second _ (by rw[hg];rfl)
theorem LZ {N:Nat} {a b:List Nat} {n m:Nat} {t o t' o':Bool} {K:Nat→LA→O R} (hn:n=a.length) (hm:m=b.length) (ha:As a) (hb:As b) (hf:fit (a.length+b.length+1) N) :
  Qg N (Al a) n t o (Al b) m t' o' K=K (Av (val a+val b)).length (Al (Av (val a+val b))):=by
 subst hn hm
 have h1:=hf.1;have h2:=hf.2
 rw[NZ];unfold HM
 rw[rW,wS (by omega),rq (by omega),ct,Int.toNat_natCast,Ka]
 exact ca ha hb (n:=max a.length b.length+1) (by omega) (by omega) (Nat.le_refl _) (hf.le (by omega)) (max a.length b.length+1) 0 N (List.replicate (max a.length b.length+1) 0) 0 (by omega) (by omega) (Ib _) (by simp) (ES _) (by omega) (by rw[H3];simp[val]) K
theorem cb {N:Nat} {a b:List Nat} (ha:As a) (hb:As b) (hf:fit a.length N) (hab:b.length≤a.length) (hle:val b≤val a):∀ (m d fuel:Nat) (S:List Nat) (c:Nat),d+m=a.length→m<fuel→As S→S.length=a.length→pu S d→c≤1 →
  val S+val (b.take d)=val (a.take d)+4294967296 ^ d*c →
  ∀ K:Nat→Bool→LA→O R,Es N K a.length b.length (Al a) (Al b) fuel (c:Int) (d:Int) (Al S)=K (Av (val a - val b)).length true (Al (Av (val a - val b)))
 | 0,d,fuel+1,S,c,hd,_,hS,hl,hz,hc,hv=>by
  intro K
  have hd':d=a.length:=by omega
  subst hd'
  rw[List.take_length,List.take_of_length_le hab] at hv
  have hlt:=Ee hS
  rw[hl] at hlt
  have hc0:c=0:=by
   rcases Nat.lt_or_ge 0 c with h | h
   ·exfalso
    have:c=1:=by omega
    subst this
    omega
   ·omega
  subst hc0
  have hv2:val S=val a - val b:=by omega
  rw[Es];unfold Qi
  rw[ov (Nat.le_refl _),cf,Nat.mul_one,List.take_of_length_le (by rw[Bl];omega),Bt hl.symm hS (by rw[hl];exact hf),hv2]
 | m+1,d,fuel+1,S,c,hd,hfu,hS,hl,hz,hc,hv=>by
  intro K
  have h1:=hf.1;have h2:=hf.2
  have hda:d<a.length:=by omega
  have ad:=Jc ha hda
  have gb:=LY hb d
  have step:∀ y g c':Nat,y=c+b.getD d 0→a[d]+4294967296*c'=g+y→val (S.set d g)+val (b.take (d+1))=val (a.take (d+1))+4294967296 ^ (d+1)*c':=by
   intro y g c' hy hg
   rw[eN hz (by omega),Cy hda,LX b d,Nat.pow_succ,Nat.mul_assoc]
   have e:4294967296 ^ d*(a[d]+4294967296*c')=4294967296 ^ d*(g+(c+b.getD d 0)):=by rw[hg,hy]
   rw[Nat.mul_add,Nat.mul_add,Nat.mul_add] at e
   omega
  have next:∀ y g c':Nat,g<4294967296→c'≤1→y=c+b.getD d 0→a[d]+4294967296*c'=g+y→Es N K a.length b.length (Al a) (Al b) fuel (c':Int) ((d+1:Nat):Int) (Al (S.set d g))=K (Av (val a - val b)).length true (Al (Av (val a - val b))):=by
   intro y g c' hg hc' hy he
   exact cb ha hb hf hab hle m (d+1) fuel (S.set d g) c' (by omega) (by omega) (Ud hS hg d) (by simpa using hl) (lB hz) hc' (step y g c' hy he) K
  have second:∀ y:Nat,y=c+b.getD d 0→Oz N (Es N K a.length b.length (Al a) (Al b) fuel) K a.length b.length (Al a) (Al b) (Al S) (d:Int) (y:Int)=K (Av (val a - val b)).length true (Al (Av (val a - val b))):=by
   intro y hy
   unfold Oz
   rw[Ba hda,ct,SF hda,bW (show a[d]<18446744073709551616 by omega)]
   by_cases hlt:a[d]<y
   ·rw[ou hlt,ct,ct,ol (by omega),ct,show((a[d]:Nat):Int)+4294967296=((a[d]+4294967296:Nat):Int) by omega,bW (show a[d]+4294967296<18446744073709551616 by omega),nq (by omega) (by omega),rR (by omega),jy,wS (by omega)]
    exact next y (a[d]+4294967296 - y) 1 (by omega) (by omega) hy (by omega)
   ·rw[ov (by omega),cf,ct,ol (by omega),ct,nq (by omega) (by omega),rR (by omega),jy,wS (by omega)]
    exact next y (a[d] - y) 0 (by omega) (by omega) hy (by omega)
  rw[Es];unfold Qi
  rw[ou hda,ct]
  by_cases hdb:d<b.length
  ·have hg:b.getD d 0=b[d]:=by rw[List.getD_eq_getElem?_getD,List.getElem?_eq_getElem hdb];rfl
   rw[ou hdb,ct,Ba hdb,ct,SF hdb,bW (show b[d]<18446744073709551616 by omega),np,bW (show c+b[d]<18446744073709551616 by omega)]
   exact second _ (by rw[hg])
  ·have hg:b.getD d 0=0:=by rw[List.getD_eq_getElem?_getD,List.getElem?_eq_none (by omega)];rfl
   rw[ov (by omega),cf]
   exact second _ (by rw[hg];rfl)
theorem L_ {N:Nat} {a b:List Nat} {n m:Nat} {t o t' o':Bool} {K:Nat→Bool→LA→O R} (hn:n=a.length) (hm:m=b.length) (ha:As a) (hb:As b) (hf:fit (a.length+b.length) N) :
  Qj N (Al a) n t o (Al b) m t' o' K=if val b≤val a then K (Av (val a - val b)).length true (Al (Av (val a - val b))) else K 0 false []:=by
 subst hn hm
 have h1:=hf.1;have h2:=hf.2
 have la:=(Ec ha).2
 have lb:=(Ec hb).2
 rw[OB];unfold HO
 dsimp only
 rw[mX rfl rfl ha hb hf]
 by_cases hle:val b≤val a
 ·have hll:=Ce hle
  rw[if_pos hle,show decide (Vz (val a) (val b)<0)=false by (unfold Vz;rw[if_neg (by omega)];split<;>rfl),cf,Bt rfl ha (hf.le (by omega)),Bt rfl hb (hf.le (by omega)),rq (by omega),ct,Ka]
  have:=cb (R:=R) (N:=N) (a:=Av (val a)) (b:=Av (val b)) (Ai _) (Ai _) (hf.le (by omega)) hll (by rw[Ax,Ax];exact hle) (Av (val a)).length 0 N (List.replicate (Av (val a)).length 0) 0 (by omega) (by omega) (Ib _) (by simp) (ES _) (by omega) (by rw[H3];simp[val]) K
  rw[Ax,Ax] at this
  exact this
 ·rw[if_neg hle,show decide (Vz (val a) (val b)<0)=true by (unfold Vz;rw[if_pos (by omega)];rfl),ct]
theorem lC {N:Nat} {x y:List Nat} {c d c' d':Bool} {f:Nat} (hx:As x) (hy:As y) (hf:f<x.length) (hs:x.length+y.length≤1000000000000):∀ (m l fuel:Nat) (S:List Nat) (p:Nat) (v:Nat),l+m=y.length→m<fuel→As S→S.length=x.length+y.length→pu S (f+y.length)→p<4294967296 →
  val S+4294967296 ^ (f+l)*p=v+4294967296 ^ f*(x[f]*val (y.take l)) →
  ∃ S',As S'∧S'.length=x.length+y.length∧val S'=v+4294967296 ^ f*(x[f]*val y)∧∀ (k1:Nat→Int→LA→O R) (K:Nat→LA→O R),Il N k1 K (Al x) x.length c d (Al y) y.length c' d' (x.length+y.length) fuel (f:Int) (p:Int) (l:Int) (Al S)=k1 (x.length+y.length) ((f+1:Nat):Int) (Al S')
 | 0,l,fuel+1,S,p,v,hl,_,hS,hlen,hz,hp,hv=>by
  have hl':l=y.length:=by omega
  subst hl'
  rw[List.take_length] at hv
  refine⟨S.set (f+y.length) p,Ud hS hp _,by simpa using hlen,by rw[eN hz (by omega),hv],fun k1 K=>?_⟩
  rw[Il];unfold Qo
  rw[ov (Nat.le_refl _),cf,wA (by omega),Ba (by omega),ct,ol (by omega),ct,rR hp,jy,wS (by omega)]
 | m+1,l,fuel+1,S,p,v,hl,hfu,hS,hlen,hz,hp,hv=>by
  have hly:l<y.length:=by omega
  have yl:=Jc hy hly
  have hq:=Jc hx hf
  have hi:f+l<S.length:=by omega
  have sl:=Jc hS hi
  have hw:=nx hp hq yl sl
  have hqy:x[f]*y[l]<18446744073709551616:=by omega
  generalize hsd:p+(x[f]*y[l]+S[f+l])=s at *
  have hset:=SP (v:=s%4294967296) hi
  have key:val (S.set (f+l) (s%4294967296))+4294967296 ^ (f+(l+1))*(s/4294967296)=v+4294967296 ^ f*(x[f]*val (y.take (l+1))):=by
   rw[Cy hly,←Nat.add_assoc f l 1,Nat.pow_succ]
   have e:=QO (4294967296 ^ (f+l)) s
   have e2:4294967296 ^ (f+l)*s=4294967296 ^ (f+l)*p+(4294967296 ^ (f+l)*(x[f]*y[l])+4294967296 ^ (f+l)*S[f+l]):=by rw[←hsd,Nat.mul_add,Nat.mul_add]
   have e3:4294967296 ^ f*(x[f]*(val (y.take l)+4294967296 ^ l*y[l]))=4294967296 ^ f*(x[f]*val (y.take l))+4294967296 ^ (f+l)*(x[f]*y[l]):=by
    rw[Nat.mul_add,Nat.mul_add,Nat.pow_add]
    congr 1
    rw[Nat.mul_assoc];congr 1
    rw[←Nat.mul_assoc,←Nat.mul_assoc,Nat.mul_comm x[f]]
   omega
  obtain⟨S',q1,q2,q3,q4⟩:=lC (N:=N) (c:=c) (d:=d) (c':=c') (d':=d') hx hy hf hs m (l+1) fuel (S.set (f+l) (s%4294967296)) (s/4294967296) v (by omega) (by omega) (Ud hS (by omega) _) (by simpa using hlen) (fun j hj hk=>by
   rw[List.getElem_set,if_neg (by omega)];exact hz j (by simpa using hj) hk) (by omega) key
  refine⟨S',q1,q2,q3,fun k1 K=>?_⟩
  rw[Il];unfold Qo
  rw[ou hly,ct,wA (by omega),Ba (by omega),ct,SF hi,Ba hf,ct,ow hf,Ba hly,ct,ow hly,ct,ol hi,ct,bW (show x[f]<18446744073709551616 by omega),bW (show y[l]<18446744073709551616 by omega),bW (show S[f+l]<18446744073709551616 by omega),rQ,bW hqy,np,Nat.add_comm S[f+l],bW (by omega),np,hsd,bW hw,pO,pM,jy,wS (by omega)]
  exact q4 k1 K
theorem hU {N:Nat} {x y:List Nat} {c d c' d':Bool} (hx:As x) (hy:As y) (hfit:fit (x.length+y.length) N):∀ (m f fuel:Nat) (S:List Nat),f+m=x.length→m<fuel→As S→S.length=x.length+y.length →
  val S=val (x.take f)*val y →
  ∀ K:Nat→LA→O R,Fi N K (Al x) x.length c d (Al y) y.length c' d' fuel (x.length+y.length) (f:Int) (Al S)=K (Av (val x*val y)).length (Al (Av (val x*val y)))
 | 0,f,fuel+1,S,hf,_,hS,hlen,hv=>by
  intro K
  have hf':f=x.length:=by omega
  subst hf'
  rw[List.take_length] at hv
  rw[Fi];unfold Qq
  rw[ov (Nat.le_refl _),cf,Nat.mul_one,List.take_of_length_le (by rw[Bl];omega),Bt hlen.symm hS (by rw[hlen];exact hfit),hv]
 | m+1,f,fuel+1,S,hf,hfu,hS,hlen,hv=>by
  intro K
  have h1:=hfit.1;have h2:=hfit.2
  have hfx:f<x.length:=by omega
  have b1:=Ee (Ir hx f)
  rw[List.length_take,Nat.min_eq_left (by omega)] at b1
  have b2:=Ee hy
  have hbound:val S<4294967296 ^ (f+y.length):=by
   rw[hv,Nat.pow_add];exact Nat.mul_lt_mul'' b1 b2
  have hnext:val (x.take (f+1))*val y=val S+4294967296 ^ f*(x[f]*val y):=by
   rw[Cy hfx,Nat.add_mul,hv,Nat.mul_assoc]
  obtain⟨S1,p1,p2,p3,p4⟩:=lC (R:=R) (N:=N) (x:=x) (y:=y) (c:=c) (d:=d) (c':=c') (d':=d') (f:=f) hx hy hfx (by omega) y.length 0 N S 0 (val S) (by omega) (by omega) hS hlen (qn hbound) (by omega) (by simp[val])
  rw[Fi];unfold Qq
  rw[ou hfx,ct]
  have:=p4 (Fi N K (Al x) x.length c d (Al y) y.length c' d' fuel) K
  simp only[Int.natCast_zero] at this
  dsimp only
  rw[this]
  exact hU hx hy hfit m (f+1) fuel S1 (by omega) (by omega) p1 p2 (by rw[p3,hnext]) K
theorem mY {N:Nat} {a b:List Nat} {n m:Nat} {t o t' o':Bool} {K:Nat→LA→O R} (hn:n=a.length) (hm:m=b.length) (ha:As a) (hb:As b) (hf:fit (a.length+b.length) N) :
  BK N (Al a) n t o (Al b) m t' o' K=K (Av (val a*val b)).length (Al (Av (val a*val b))):=by
 subst hn hm
 have h1:=hf.1;have h2:=hf.2
 rw[OU];unfold HW
 rw[wA (by omega),rq (by omega),ct,Int.toNat_natCast,Ka]
 exact hU ha hb hf a.length 0 N (List.replicate (a.length+b.length) 0) (by omega) (by omega) (Ib _) (by simp) (by rw[H3];simp[val]) K
end
end Gx

namespace Gx
open Go Go.Proofs
section
variable {R:Type}
theorem ZP {N:Nat}:∀ (k fuel n v:Nat),v<2 ^ k→k<fuel→n+k≤1000000000000→∃ b:Nat,b≤k∧v<2 ^ b∧(v≠0→2 ^ b≤2*v)∧(v=0→b=0)∧∀ K:Int→O R,Fb N K fuel (n:Int) (v:Int)=K ((n+b:Nat):Int)
 | 0,fuel+1,n,v,hv,_,_=>by
  have h0:v=0:=by simpa using hv
  subst h0
  refine⟨0,by omega,by simp,fun h=>absurd rfl h,fun _=>rfl,fun K=>?_⟩
  rw[Fb];unfold Jo
  rw[show decide (((0:Nat):Int)>0)=false by rfl,cf];rfl
 | k+1,fuel+1,n,v,hv,hf,hn=>by
  by_cases h0:v=0
  ·subst h0
   refine⟨0,by omega,by simp,fun h=>absurd rfl h,fun _=>rfl,fun K=>?_⟩
   rw[Fb];unfold Jo
   rw[show decide (((0:Nat):Int)>0)=false by rfl,cf];rfl
  ·obtain⟨b,b1,b2,b3,b4,b5⟩:=ZP (N:=N) k fuel (n+1) (v/2) (by rw[Nat.pow_succ] at hv;omega) (by omega) (by omega)
   refine⟨b+1,by omega,by rw[Nat.pow_succ];omega,fun _=>?_,fun h=>absurd h h0,fun K=>?_⟩
   ·by_cases h1:v/2=0
    ·rw[b4 h1];simp;omega
    ·have:=b3 h1;rw[Nat.pow_succ];omega
   ·rw[Fb];unfold Jo
    rw[show decide (((v:Nat):Int)>0)=true by rw[decide_eq_true_eq];omega,ct,wS (by omega),UT v 1,show v/2 ^ 1=v/2 by rfl,b5]
    congr 2;omega
theorem kA {N:Nat} {a:List Nat} {n:Nat} {t o:Bool} (hn:n=a.length) (ha:As a) (hf:fit a.length N):∃ nb:Nat,nb≤32*a.length∧val a<2 ^ nb∧(val a≠0→2 ^ nb≤2*val a)∧(val a=0→nb=0)∧∀ K:Int→O R,Te N (Al a) n t o K=K (nb:Int):=by
 have h1:=hf.1;have h2:=hf.2
 have la:=(Ec ha).2
 by_cases h0:val a=0
 ·refine⟨0,by omega,by rw[h0];simp,fun h=>absurd h0 h,fun _=>rfl,fun K=>?_⟩
  rw[U9];unfold Td
  rw[Bt hn ha hf,h0,D9];rfl
 ·have hl:(Av (val a)).length≠0:=fun h=>h0 (Db.1 h)
  obtain⟨k,hk⟩:∃ k,(Av (val a)).length=k+1:=⟨(Av (val a)).length - 1,by omega⟩
  have top:=Jc (Ai (val a)) (show k<(Av (val a)).length by omega)
  have htop0:(Av (val a))[k]'(by omega)≠0:=by
   have:=nk (val a) (FS h0)
   rw[List.getLast_eq_getElem] at this
   simp only[hk,Nat.add_sub_cancel] at this
   exact this
  have tf:=c9 hk
  have tl:=jz (Ai (val a)) hk
  rw[Ax] at tf tl
  obtain⟨b,b1,b2,b3,b4,b5⟩:=ZP (R:=R) (N:=N) 32 N (32*k) ((Av (val a))[k]'(by omega)) (by exact top) (by omega) (by omega)
  have hp:(2:Nat) ^ (32*k+b)=4294967296 ^ k*2 ^ b:=by rw[Nat.pow_add,Nat.pow_mul]
  refine⟨32*k+b,by omega,?_,fun _=>?_,fun h=>absurd h h0,fun K=>?_⟩
  ·rw[hp]
   have:((Av (val a))[k]'(by omega)+1)*4294967296 ^ k≤2 ^ b*4294967296 ^ k:=Nat.mul_le_mul_right _ b2
   rw[Nat.mul_comm (2 ^ b)] at this;omega
  ·rw[hp]
   have:=Nat.mul_le_mul_left (4294967296 ^ k) (b3 htop0)
   rw[Nat.mul_left_comm] at this
   omega
  ·rw[U9];unfold Td
   have w1:IntKind.wrap .i64 ((((Av (val a)).length:Nat):Int) - 1)=((k:Nat):Int):=by rw[i64 (by omega)];omega
   have w2:IntKind.wrap .i64 ((32:Int)*((k:Nat):Int))=((32*k:Nat):Int):=by rw[i64 (by omega)];omega
   rw[Bt hn ha hf,rT hl,cf,w1,Ba (by omega),ct,SF (by omega),w2]
   exact b5 K
theorem hY {a:List Nat} {j:Nat} (h:j<a.length):val a=val (a.take j)+4294967296 ^ j*(a[j]+4294967296*val (a.drop (j+1))):=by
 have:=FR (a.take j) (a.drop j)
 rw[List.take_append_drop,List.length_take,Nat.min_eq_left (by omega),oA h] at this
 exact this
theorem L' (j k:Nat):(2:Nat) ^ (32*j+k)=4294967296 ^ j*2 ^ k:=by rw[Nat.pow_add,Nat.pow_mul]
theorem pQ {a:List Nat} {j k:Nat} (ha:As a) (h:j<a.length) (hk:k<32):val a/2 ^ (32*j+k)%2=a[j]/2 ^ k%2:=by
 have tl:=Ee (Ir ha j)
 rw[List.length_take,Nat.min_eq_left (by omega)] at tl
 have hP:0<4294967296 ^ j:=Nat.pow_pos (by omega)
 have hp:0<2 ^ k:=Nat.pow_pos (by omega)
 rw[L',←Nat.div_div_eq_div_mul,hY h,Nat.add_mul_div_left _ _ hP,Nat.div_eq_of_lt tl,Nat.zero_add]
 have e:4294967296=2 ^ k*(2*2 ^ (31 - k)):=by rw[←Nat.pow_succ',←Nat.pow_add,show k+(31 - k+1)=32 by omega]
 have e2:4294967296*val (a.drop (j+1))=2 ^ k*(2*(2 ^ (31 - k)*val (a.drop (j+1)))):=by
  rw[←Nat.mul_assoc 2,←Nat.mul_assoc,←e]
 rw[e2,Nat.add_mul_div_left _ _ hp,Nat.add_mul_mod_self_left]
theorem mZ {N:Nat} {a:List Nat} {n:Nat} {t o:Bool} {i:Nat} {K:Int→O R} (hn:n=a.length) (ha:As a) (hi:i<32*a.length) (hs:a.length≤1000000000):HN N (Al a) n t o (i:Int) K=K ((val a/2 ^ i%2:Nat):Int):=by
 subst hn
 have hj:i/32<a.length:=by omega
 have aj:=Jc ha hj
 rw[N'];unfold VC
 have w1:IntKind.wrap .i64 (Int.tdiv ((i:Nat):Int) 32)=((i/32:Nat):Int):=by rw[show(32:Int)=((32:Nat):Int) by rfl,ny,i64 (by omega)]
 have w2:IntKind.wrap .u64 (Int.tmod ((i:Nat):Int) 32)=((i%32:Nat):Int):=by rw[show(32:Int)=((32:Nat):Int) by rfl,nz,bW (by omega)]
 rw[w1,w2,show decide (((i/32:Nat):Int)≥((a.length:Nat):Int))=false by rw[decide_eq_false_iff_not];omega,cf,Ba hj,ct,ow hj,show decide (((i%32:Nat):Int)<0)=false by rw[decide_eq_false_iff_not];omega,cf,Int.toNat_natCast,Nat.min_eq_left (by omega),UT]
 have hle:a[i/32]/2 ^ (i%32)<4294967296:=Nat.lt_of_le_of_lt (Nat.div_le_self _ _) aj
 have e:=iy (k:=.u32) rfl (a:=a[i/32]/2 ^ (i%32)) (b:=1) hle (by decide)
 rw[show(1:Int)=((1:Nat):Int) by rfl,e,Nat.and_one_is_mod]
 have:=pQ ha hj (k:=i%32) (by omega)
 rw[Nat.div_add_mod] at this
 rw[this]
theorem oE {Q:List Nat} {j k:Nat} (hQ:As Q) (h:j<Q.length) (hk:k<32) (hd:2 ^ (32*j+k+1)∣val Q):2 ^ (k+1)∣Q[j]:=by
 have tl:=Ee (Ir hQ j)
 rw[List.length_take,Nat.min_eq_left (by omega)] at tl
 have hP:0<4294967296 ^ j:=Nat.pow_pos (by omega)
 rw[Nat.add_assoc,L',hY h] at hd
 have h0:val (Q.take j)=0:=by
  have x1:4294967296 ^ j∣val (Q.take j):=(Nat.dvd_add_left (Nat.dvd_mul_right _ _)).1 (Nat.dvd_trans (Nat.dvd_mul_right _ _) hd)
  exact Nat.eq_zero_of_dvd_of_lt x1 tl
 rw[h0,Nat.zero_add] at hd
 have x2:=Nat.dvd_of_mul_dvd_mul_left hP hd
 have x3:2 ^ (k+1)∣4294967296*val (Q.drop (j+1)):=Nat.dvd_trans ⟨2 ^ (31 - k),by rw[←Nat.pow_add,show k+1+(31 - k)=32 by omega]⟩ (Nat.dvd_mul_right _ _)
 exact(Nat.dvd_add_left x3).1 x2
theorem MA {N:Nat} {a b:List Nat} {t o:Bool} {B:Nat} (ha:As a) (hb:b=Av B) (hB:0<B) (hf:fit (a.length+2*b.length+4) N):∀ (i fuel:Nat) (Q:List Nat) (r:Nat),i<fuel→i≤32*a.length→As Q→Q.length=a.length→r=val a/2 ^ i%B→val Q=val a/2 ^ i/B*2 ^ i →
  ∀ K:Nat→Nat→Bool→LA→LA→O R,Cu N K (Al a) a.length t o b.length (Al b) fuel (Av r).length ((i:Int) - 1) (Al Q) (Al (Av r))=K (Av (val a/B)).length (Av (val a%B)).length true (Al (Av (val a/B))) (Al (Av (val a%B)))
 | 0,fuel+1,Q,r,_,_,hQ,hl,hr,hv=>by
  intro K
  rw[Nat.pow_zero,Nat.div_one] at hr hv
  rw[Nat.mul_one] at hv
  have lr:(Av r).length≤b.length:=by
   rw[hb];apply Ce;rw[hr];exact Nat.le_of_lt (Nat.mod_lt _ hB)
  rw[Cu];unfold Jp
  rw[show decide ((((0:Nat):Int) - 1)≥0)=false by rfl,cf,Nat.mul_one,List.take_of_length_le (by rw[Bl];omega),Bt hl.symm hQ (by rw[hl];exact hf.le (by omega)),Nat.mul_one,List.take_of_length_le (by rw[Bl];omega),Bt rfl (Ai _) (hf.le (by omega)),Ax,hv,hr]
 | i+1,fuel+1,Q,r,hfu,hi,hQ,hl,hr,hv=>by
  intro K
  have h1:=hf.1;have h2:=hf.2
  have hrB:r<B:=by rw[hr];exact Nat.mod_lt _ hB
  have lr:(Av r).length≤b.length:=by rw[hb];exact Ce (Nat.le_of_lt hrB)
  have hhalf:val a/2 ^ i=2*(val a/2 ^ (i+1))+val a/2 ^ i%2:=by
   have:=Nat.div_add_mod (val a/2 ^ i) 2
   rw[Nat.div_div_eq_div_mul,←Nat.pow_succ] at this
   exact this.symm
  have hdm:=Nat.div_add_mod (val a/2 ^ (i+1)) B
  have hb2:val a/2 ^ i%2<2:=Nat.mod_lt _ (by omega)
  generalize hH:val a/2 ^ (i+1)=H at *
  generalize hbit:val a/2 ^ i%2=bt at *
  have hsum:val a/2 ^ i=B*(2*(H/B))+(2*r+bt):=by
   rw[hhalf,hr,Nat.mul_left_comm];omega
  clear hr hdm hhalf
  have hj:i/32<Q.length:=by omega
  have qj:=Jc hQ hj
  have hdvd:2 ^ (32*(i/32)+i%32+1)∣val Q:=by rw[Nat.div_add_mod,hv];exact Nat.dvd_mul_left _ _
  have hfree:=oE hQ hj (Nat.mod_lt _ (by omega)) hdvd
  have hpw:2 ^ i=4294967296 ^ (i/32)*2 ^ (i%32):=by rw[←L',Nat.div_add_mod]
  have hpk:2 ^ (i%32+1)≤4294967296:=(Nat.pow_le_pow_right (by omega) (show i%32+1≤32 by omega):2 ^ (i%32+1)≤2 ^ 32)
  have hor:US .u32 ((Q[i/32]:Nat):Int) (IntKind.wrap .u32 ((1:Int)*2 ^ (min (Int.toNat ((i%32:Nat):Int)) 32)))=((Q[i/32]+2 ^ (i%32):Nat):Int)∧Q[i/32]+2 ^ (i%32)<4294967296:=by
   obtain⟨c,hc⟩:=hfree
   have hpos:0<2 ^ (i%32):=Nat.pow_pos (by omega)
   have hlt:Q[i/32]+2 ^ (i%32)<4294967296:=by
    obtain⟨w,hw⟩:∃ w,4294967296=2 ^ (i%32+1)*w:=⟨2 ^ (31 - i%32),by rw[←Nat.pow_add,show i%32+1+(31 - i%32)=32 by omega]⟩
    have x1:c<w:=by rw[hc,hw] at qj;exact Nat.lt_of_mul_lt_mul_left qj
    have x2:=Nat.mul_le_mul_left (2 ^ (i%32+1)) (show c+1≤w from x1)
    rw[Nat.mul_add,←hw,←hc,Nat.mul_one,Nat.pow_succ] at x2
    omega
   refine⟨?_,hlt⟩
   rw[Int.toNat_natCast,Nat.min_eq_left (by omega),Int.one_mul,show(2:Int) ^ (i%32)=((2 ^ (i%32):Nat):Int) by simp,rR (by rw[Nat.pow_succ] at hpk;omega),cA (k:=.u32) rfl qj (by show 2 ^ (i%32)<4294967296;rw[Nat.pow_succ] at hpk;omega)]
   congr 1
   have e:Q[i/32]=c*2 ^ (i%32+1):=by rw[hc,Nat.mul_comm]
   rw[e];exact nr (by rw[Nat.pow_succ];omega)
  have w1:IntKind.wrap .i64 (Int.tdiv ((i:Nat):Int) 32)=((i/32:Nat):Int):=by rw[show(32:Int)=((32:Nat):Int) by rfl,ny,i64 (by omega)]
  have w2:IntKind.wrap .u64 (Int.tmod ((i:Nat):Int) 32)=((i%32:Nat):Int):=by rw[show(32:Int)=((32:Nat):Int) by rfl,nz,bW (by omega)]
  have l2:(Av (2*r+bt)).length≤b.length+1:=by
   apply F9
   have x1:=Ee (Ai B)
   rw[Ax,←hb] at x1
   rw[Nat.pow_succ];omega
  have second:F1 N (Cu N K (Al a) a.length t o b.length (Al b) fuel) K (Al a) a.length t o b.length ((i:Nat):Int) (Al b) (Al Q) (Av (2*r+bt)).length (Al (Av (2*r+bt)))=K (Av (val a/B)).length (Av (val a%B)).length true (Al (Av (val a/B))) (Al (Av (val a%B))):=by
   unfold F1
   have lb:As b:=by rw[hb];exact Ai _
   have vb:val b=B:=by rw[hb,Ax]
   rw[Nat.mul_one,Nat.mul_one,List.take_of_length_le (by rw[Bl];omega),List.take_of_length_le (by rw[Bl];omega),L_ rfl rfl (Ai _) lb (hf.le (by omega)),Ax,vb]
   by_cases hge:B≤2*r+bt
   ·have hq1:val a/2 ^ i/B=2*(H/B)+1:=by
     rw[hsum,show B*(2*(H/B))+(2*r+bt)=B*(2*(H/B)+1)+(2*r+bt - B) by rw[Nat.mul_add];omega,Nat.mul_add_div hB,Nat.div_eq_of_lt (show 2*r+bt - B<B by omega),Nat.add_zero]
    have hm1:val a/2 ^ i%B=2*r+bt - B:=by
     rw[hsum,show B*(2*(H/B))+(2*r+bt)=B*(2*(H/B)+1)+(2*r+bt - B) by rw[Nat.mul_add];omega,Nat.mul_add_mod,Nat.mod_eq_of_lt (by omega)]
    rw[if_pos hge,ct,w1,w2,Ba (by omega),ct,SF hj,show decide (((i%32:Nat):Int)<0)=false by rw[decide_eq_false_iff_not];omega,cf,ct,ol hj,ct,hor.1,jy,i64 (by omega)]
    refine MA ha hb hB hf i fuel (Q.set (i/32) (Q[i/32]+2 ^ (i%32))) (2*r+bt - B) (by omega) (by omega) (Ud hQ hor.2 _) (by simpa using hl) hm1.symm ?_ K
    have x1:=SP (v:=Q[i/32]+2 ^ (i%32)) hj
    rw[Nat.mul_add,←hpw] at x1
    rw[hq1,Nat.add_mul,Nat.one_mul,Nat.mul_comm 2,Nat.mul_assoc,Nat.mul_comm 2,←Nat.pow_succ,←hv]
    omega
   ·have hq1:val a/2 ^ i/B=2*(H/B):=by rw[hsum,Nat.mul_add_div hB,Nat.div_eq_of_lt (show 2*r+bt<B by omega),Nat.add_zero]
    have hm1:val a/2 ^ i%B=2*r+bt:=by rw[hsum,Nat.mul_add_mod,Nat.mod_eq_of_lt (by omega)]
    rw[if_neg hge,cf,i64 (by omega)]
    refine MA ha hb hB hf i fuel Q (2*r+bt) (by omega) (by omega) hQ hl hm1.symm ?_ K
    rw[hq1,Nat.mul_comm 2,Nat.mul_assoc,Nat.mul_comm 2,←Nat.pow_succ,←hv]
  rw[Cu];unfold Jp
  rw[show(((i+1:Nat):Int) - 1)=((i:Nat):Int) by omega,show decide (((i:Nat):Int)≥0)=true by rw[decide_eq_true_eq];omega,ct,Nat.mul_one,List.take_of_length_le (by rw[Bl];omega),LZ rfl rfl (Ai _) (Ai _) (hf.le (by omega)),Ax,mZ rfl ha (by omega) (by omega),hbit]
  have l3:(Av (r+r)).length≤b.length+1:=by
   apply F9
   have x1:=Ee (Ai B)
   rw[Ax,←hb] at x1
   rw[Nat.pow_succ];omega
  rcases(show bt=0∨bt=1 by omega) with rfl | rfl
  ·rw[show(((0:Nat):Int)==1)=false by rfl,cf]
   rw[show 2*r+0=r+r by omega] at second
   exact second
  ·rw[show(((1:Nat):Int)==1)=true by rfl,ct,Nat.mul_one,List.take_of_length_le (by rw[Bl];omega)]
   have:=LZ (R:=R) (N:=N) (a:=Av (r+r)) (b:=[1]) (n:=(Av (r+r)).length) (m:=1) (t:=false) (o:=true) (t':=false) (o':=true) (K:=fun af ag=>F1 N (Cu N K (Al a) a.length t o b.length (Al b) fuel) K (Al a) a.length t o b.length ((i:Nat):Int) (Al b) (Al Q) af ag) rfl rfl (Ai _) (by intro x hx;simp at hx;omega) (hf.le (by simp;omega))
   rw[Ax,show val [1]=1 by rfl,show r+r+1=2*r+1 by omega] at this
   exact this.trans second
end
end Gx

namespace Gx
open Go Go.Proofs
section
variable {R:Type}
theorem V1 {N:Nat} {a b:List Nat} {n m:Nat} {t o t' o':Bool} {K:Nat→Nat→Bool→LA→LA→O R} (hn:n=a.length) (hm:m=b.length) (ha:As a) (hb:As b) (hb0:val b≠0) (hf:fit (a.length+2*b.length+4) N) :
  Ik N (Al a) n t o (Al b) m t' o' K=K (Av (val a/val b)).length (Av (val a%val b)).length true (Al (Av (val a/val b))) (Al (Av (val a%val b))):=by
 have h1:=hf.1;have h2:=hf.2
 have lb:=(Ec hb).2
 have hbl:(Av (val b)).length≠0:=fun h=>hb0 (Db.1 h)
 rw[Ys];unfold Qk
 dsimp only
 have long:Hx N K (Al a) n t o (Av (val b)).length (Al (Av (val b)))=K (Av (val a/val b)).length (Av (val a%val b)).length true (Al (Av (val a/val b))) (Al (Av (val a%val b))):=by
  obtain⟨nb,n1,n2,n3,n4,n5⟩:=kA (R:=R) (N:=N) (a:=a) (n:=n) (t:=false) (o:=o) hn ha (hf.le (by omega))
  unfold Hx O0
  dsimp only
  rw[n5,hn,rq (by omega),ct,Ka,i64 (by omega)]
  have hz:val a/2 ^ nb=0:=Nat.div_eq_of_lt n2
  have:=MA (R:=R) (N:=N) (a:=a) (b:=Av (val b)) (t:=t) (o:=o) (B:=val b) ha rfl (by omega) (hf.le (by omega)) nb N (List.replicate a.length 0) 0 (by omega) n1 (Ib _) (by simp) (by rw[hz];simp) (by rw[hz,H3];simp) K
  exact this
 rw[Bt hm hb (hf.le (by omega)),rT hbl,cf,V0 hn ha (hf.le (by omega)),Nat.mul_one,List.take_of_length_le (by rw[Bl];exact Nat.le_refl _)]
 by_cases ha2:val a<18446744073709551616
 ·rw[if_pos ha2,V0 rfl (Ai _) (hf.le (by omega)),Ax]
  by_cases hb2:val b<18446744073709551616
  ·have q64:val a/val b<18446744073709551616:=Nat.lt_of_le_of_lt (Nat.div_le_self _ _) ha2
   have r64:val a%val b<18446744073709551616:=Nat.lt_of_le_of_lt (Nat.mod_le _ _) ha2
   rw[if_pos hb2,show((true:Bool)==true)=true by rfl,ct,rC,ct,rT hb0,cf,ny,bW q64,Ri q64 (by omega),cf,nz,Ri r64 (by omega)]
  ·rw[if_neg hb2,show((true:Bool)==true)=true by rfl,ct,rC,cf,long]
 ·rw[if_neg ha2,V0 rfl (Ai _) (hf.le (by omega)),Ax]
  by_cases hb2:val b<18446744073709551616
  ·rw[if_pos hb2,show((false:Bool)==true)=false by rfl,cf,long]
  ·rw[if_neg hb2,show((false:Bool)==true)=false by rfl,cf,long]
theorem m0 {N:Nat}:∀ (k fuel A B:Nat),k<fuel→A*B<2 ^ k→B<A→fit (3*(Av A).length+4) N→∀ K:Nat→LA→O R,Cg N K fuel (Av A).length (Av B).length (Al (Av A)) (Al (Av B))=K (Av (Nat.gcd A B)).length (Al (Av (Nat.gcd A B))):=by
 have base:∀ (fuel A:Nat) (K:Nat→LA→O R),Cg N K (fuel+1) (Av A).length (Av 0).length (Al (Av A)) (Al (Av 0))=K (Av (Nat.gcd A 0)).length (Al (Av (Nat.gcd A 0))):=by
  intro fuel A K
  rw[Cg];unfold Iy
  rw[D9,show decide ((((([]:List Nat).length:Nat)):Int)>0)=false by decide,cf,Nat.gcd_zero_right]
 intro k
 induction k with
 | zero =>
  intro fuel A B hfu hxy hle hf K
  obtain⟨fuel,rfl⟩:∃ F,fuel=F+1:=⟨fuel - 1,by omega⟩
  have hy:B=0:=by
   rcases Nat.eq_zero_or_pos B with h | h
   ·exact h
   ·have h3:=Nat.mul_le_mul_left A (show 1≤B by omega)
    rw[Nat.pow_zero] at hxy;omega
  subst hy
  exact base fuel A K
 | succ k ih =>
  intro fuel A B hfu hxy hle hf K
  have h1:=hf.1;have h2:=hf.2
  obtain⟨fuel,rfl⟩:∃ F,fuel=F+1:=⟨fuel - 1,by omega⟩
  rcases Nat.eq_zero_or_pos B with h | h
  ·subst h;exact base fuel A K
  have hll:=Ce (Nat.le_of_lt hle)
  have hbl:(Av B).length≠0:=fun h0=>by have:=Db.1 h0;omega
  have hm:=Nat.mod_lt A h
  have hh:=oB (show 1≤B by omega) (Nat.le_of_lt hle)
  have:=ih fuel B (A%B) (by omega) (by rw[Nat.pow_succ] at hxy;omega) hm (hf.le (by omega)) K
  have hg:Nat.gcd B (A%B)=Nat.gcd A B:=by rw[Nat.gcd_comm,←Nat.gcd_rec,Nat.gcd_comm]
  rw[hg] at this
  rw[Cg];unfold Iy
  rw[show decide ((((Av B).length:Nat):Int)>0)=true by rw[decide_eq_true_eq];omega,ct,Nat.mul_one,Nat.mul_one,List.take_of_length_le (by rw[Bl];exact Nat.le_refl _),List.take_of_length_le (by rw[Bl];exact Nat.le_refl _),V1 rfl rfl (Ai _) (Ai _) (by rw[Ax];omega) (hf.le (by omega)),Ax,Ax]
  exact this
theorem m4 {N:Nat} {a b:List Nat} {n m:Nat} {t o t' o':Bool} {K:Nat→LA→O R} (hn:n=a.length) (hm:m=b.length) (ha:As a) (hb:As b) (hf:fit (3*(a.length+b.length)+4) N) :
  BH N (Al a) n t o (Al b) m t' o' K=K (Av (Nat.gcd (val a) (val b))).length (Al (Av (Nat.gcd (val a) (val b)))):=by
 have h1:=hf.1;have h2:=hf.2
 have la:=(Ec ha).2
 have lb:=(Ec hb).2
 have hprod:val a*val b<2 ^ (32*(a.length+b.length)):=by rw[←oC];exact Nat.mul_lt_mul'' (Ee ha) (Ee hb)
 rw[OD];unfold HQ
 dsimp only
 rw[Bt hn ha (hf.le (by omega)),Bt hm hb (hf.le (by omega))]
 obtain⟨F,hF⟩:∃ F,N=F+1:=⟨N - 1,by omega⟩
 rcases Nat.eq_zero_or_pos (val b) with h | h
 ·rw[h,D9,Nat.gcd_zero_right,hF,Cg];unfold Iy
  rw[show decide ((((([]:List Nat).length:Nat)):Int)>0)=false by decide,cf]
 ·have hm':=Nat.mod_lt (val a) h
  have hbl:(Av (val b)).length≠0:=fun h0=>by have:=Db.1 h0;omega
  have hprod2:val b*(val a%val b)<2 ^ (32*(a.length+b.length)):=by
   have:val b*(val a%val b)≤val b*val a:=Nat.mul_le_mul_left _ (Nat.mod_le _ _)
   rw[Nat.mul_comm (val b) (val a)] at this;omega
  have:=m0 (R:=R) (N:=N) (32*(a.length+b.length)) F (val b) (val a%val b) (by omega) hprod2 hm' (hf.le (by omega)) K
  have hg:Nat.gcd (val b) (val a%val b)=Nat.gcd (val a) (val b):=by rw[Nat.gcd_comm,←Nat.gcd_rec,Nat.gcd_comm]
  rw[hg] at this
  have e:Cg N K (F+1) (Av (val a)).length (Av (val b)).length (Al (Av (val a))) (Al (Av (val b)))=Cg N K F (Av (val b)).length (Av (val a%val b)).length (Al (Av (val b))) (Al (Av (val a%val b))):=by
   rw[Cg];unfold Iy
   rw[show decide ((((Av (val b)).length:Nat):Int)>0)=true by rw[decide_eq_true_eq];omega,ct,Nat.mul_one,Nat.mul_one,List.take_of_length_le (by rw[Bl];exact Nat.le_refl _),List.take_of_length_le (by rw[Bl];exact Nat.le_refl _),V1 rfl rfl (Ai _) (Ai _) (by rw[Ax];omega) (hf.le (by omega)),Ax,Ax]
  conv=>lhs;rw[show(Cg N K N)=Cg N K (F+1) by rw[←hF]]
  rw[e];exact this
end
end Gx

namespace Gx
open Go Go.Proofs
section
variable {R:Type}
inductive LS where
 | nil
 | of (l:List Nat) (t o:Bool)
def LS.l:LS→List Nat
 | .nil=>[]
 | .of l _ _=>l
def LS.av:LS→AV
 | .nil=>.nsl
 | .of l t o=>.imm (Al l) l.length 1 t o
theorem oF {s:LS} {r:LA} {f:LA→Nat→O R}:Gk 1 (s.av::r) f=f (Al s.l) s.l.length:=by
 cases s<;>simp[Gk,LS.av,LS.l,Je,Al]
theorem rX {b:Bool} {r:LA} {f:Bool→O R}:NB (.bool b::r) f=f b:=by simp[NB,asBool]
def Ml (neg:Bool) (s:LS):LA:=[.bool neg,s.av]
def Bm (neg:Bool) (s:LS):Int:=if neg then -(val s.l:Int) else (val s.l:Int)
theorem Jd (neg:Bool) (s:LS):(Bm neg s).natAbs=val s.l:=by unfold Bm;cases neg<;>simp
theorem FU {neg:Bool} {s:LS} {f:Bool→O R}:NB (Ml neg s) f=f neg:=rX
theorem CH {neg:Bool} {s:LS} {f:LA→Nat→O R}:Gk 1 (List.drop 1 (Ml neg s)) f=f (Al s.l) s.l.length:=by rw[Ml,List.drop_succ_cons,List.drop_zero,oF]
theorem m5 {z:Int} {c:Bool} {m:Nat} (h:z=if c then -(m:Int) else (m:Int)):(c&&decide (0<(Av m).length))=decide (z<0)∧z.natAbs=m:=by
 have hz:z.natAbs=m:=by rw[h];cases c<;>simp
 refine⟨?_,hz⟩
 by_cases h0:m=0
 ·subst h0;rw[h,D9];cases c<;>simp
 ·have:0<(Av m).length:=by
   rcases Nat.eq_zero_or_pos (Av m).length with h1 | h1
   ·exact absurd (Db.1 h1) h0
   ·exact h1
  rw[h];cases c<;>simp[this]<;>omega
theorem kB {N:Nat} {neg:Bool} {s:LS} {o:Bool} {K:Int→O R} (hs:As s.l) (hf:fit s.l.length N):IB N (Ml neg s) o K=K (Bm neg s).sign:=by
 rw[PE];unfold XI
 rw[CH,ZO rfl hs hf]
 unfold Bm
 by_cases h:val s.l=0
 ·rw[h,BZ,show((0:Int)==0)=true by rfl,ct];cases neg<;>rfl
 ·have:Vz (val s.l) 0=1:=by unfold Vz;rw[if_neg (by omega),if_pos (by omega)]
  rw[this,show((1:Int)==0)=false by rfl,cf,FU]
  cases neg
  ·rw[cf];simp only[Bool.false_eq_true,if_false]
   congr 1
   rw[Int.sign_eq_one_of_pos];omega
  ·rw[ct];simp only[if_true]
   congr 1
   rw[Int.sign_eq_neg_one_of_neg];omega
end
end Gx

namespace Gx
open Go Go.Proofs
section
variable {R:Type}
theorem kC (z:Int) (d:Nat) (hd:d≠0):(mkRat z d).num.natAbs=z.natAbs/Nat.gcd z.natAbs d∧((mkRat z d).num<0↔z<0)∧(mkRat z d).den=d/Nat.gcd z.natAbs d:=by
 have hg:0<Nat.gcd z.natAbs d:=Nat.gcd_pos_of_pos_right _ (by omega)
 rw[Rat.num_mkRat,Rat.den_mkRat,if_neg hd,if_neg hd,Nat.gcd_comm d]
 have hdv:((Nat.gcd z.natAbs d:Nat):Int)∣z:=Int.dvd_natAbs.1 (Int.natCast_dvd_natCast.2 (Nat.gcd_dvd_left _ _))
 obtain⟨c,hc⟩:=hdv
 have hgz:z.natAbs.gcd d=Nat.gcd z.natAbs d:=rfl
 generalize Nat.gcd z.natAbs d=g at *
 refine⟨?_,?_,rfl⟩
 ·rw[hc,Int.mul_ediv_cancel_left _ (by omega),Int.natAbs_mul,Int.natAbs_natCast,Nat.mul_div_cancel_left _ hg]
 ·rw[hc,Int.mul_ediv_cancel_left _ (by omega)]
  constructor
  ·intro h;exact Int.mul_neg_of_pos_of_neg (by omega) h
  ·intro h;rcases Int.lt_or_le c 0 with h1 | h1
   ·exact h1
   ·have:=Int.mul_nonneg (show(0:Int)≤g by omega) h1;omega
structure RatD where
 neg:Bool
 ns:LS
 ds:LS
def RatD.av (x:RatD):LA:=[.bool x.neg,x.ns.av,x.ds.av]
def RatD.ok (x:RatD):Prop:=As x.ns.l∧As x.ds.l
def RatD.m (x:RatD):Nat:=max x.ns.l.length x.ds.l.length
def RatD.q (x:RatD):Rat:=mkRat (Bm x.neg x.ns) (val x.ds.l)
def RatD.can (x:RatD) (q:Rat):Prop:=x.neg=decide (q.num<0)∧x.ns.l=Av q.num.natAbs∧x.ds.l=Av q.den
def qm (q:Rat):Nat:=max (Av q.num.natAbs).length (Av q.den).length
theorem RatD.can.ok {x:RatD} {q:Rat} (h:x.can q):x.ok:=⟨by rw[h.2.1];exact Ai _,by rw[h.2.2];exact Ai _⟩
theorem RatD.can.m {x:RatD} {q:Rat} (h:x.can q):x.m=qm q:=by unfold RatD.m qm;rw[h.2.1,h.2.2]
theorem RatD.can.q {x:RatD} {q:Rat} (h:x.can q):x.q=q:=by
 unfold RatD.q Bm
 rw[h.1,h.2.1,h.2.2,Ax,Ax]
 have:(if decide (q.num<0)=true then -(q.num.natAbs:Int) else (q.num.natAbs:Int))=q.num:=by
  by_cases h0:q.num<0
  ·rw[if_pos (by simpa using h0)];omega
  ·rw[if_neg (by simpa using h0)];omega
 rw[this,Rat.mkRat_self]
theorem oG {x:RatD} {f:LA→Nat→O R}:Gk 1 (List.drop 2 x.av) f=f (Al x.ds.l) x.ds.l.length:=by rw[RatD.av,List.drop_succ_cons,List.drop_succ_cons,List.drop_zero,oF]
theorem oH (x:RatD):Nat.ble 3 (List.length x.av)=true:=rfl
theorem hZ (x:RatD):List.take 3 x.av=x.av:=rfl
theorem pv (x:RatD):List.take 2 x.av=Ml x.neg x.ns:=rfl
theorem pw (n:Bool) (s:LS):((Nat.beq 0 0)&&((Nat.beq (List.length (Ml n s)) 2)&&(Nat.beq 2 2)))=true:=rfl
theorem kD (n:Bool) (s:LS):Nat.ble 2 (List.length (Ml n s))=true:=rfl
theorem qo (n:Bool) (s:LS):List.take 2 (Ml n s)=Ml n s:=rfl
theorem oI:([.int .u32 1]:LA)=Al [1]:=rfl
theorem m6:As [1]:=by intro x hx;simp at hx;omega
theorem JN:Av 1=[1]:=by rw[Vy (by omega)];simp[D9]
theorem oJ {v:Nat} {S:List Nat} (h1:As S) (h2:val S=v):List.take ((Av v).length*1) (Al S)=Al (Av v):=by rw[←h2,mT h1]
theorem sO (neg:Bool) (l:List Nat) (t o:Bool):([.bool neg,.imm (Al l) l.length 1 t o]:LA)=Ml neg (.of l t o):=rfl
theorem Rj {z:Int} {t o:Bool}:Bm (decide (z<0)) (.of (Av z.natAbs) t o)=z:=by
 unfold Bm LS.l;rw[Ax]
 by_cases h:z<0
 ·rw[if_pos (by simpa using h)];omega
 ·rw[if_neg (by simpa using h)];omega
theorem kE {N:Nat} {x:RatD} {o:Bool} (hx:x.ok) (hf:fit x.m N):∃ (neg:Bool) (s:LS) (l:List Nat) (o1 o2:Bool),As s.l∧As l∧val l≠0∧s.l.length≤x.m∧l.length≤max x.m 1∧mkRat (Bm neg s) (val l)=x.q∧∀ K:LA→Bool→LA→Nat→Bool→O R,Za N x.av o K=K (Ml neg s) o1 (Al l) l.length o2:=by
 have hm1:x.ns.l.length≤x.m:=Nat.le_max_left _ _
 have hm2:x.ds.l.length≤x.m:=Nat.le_max_right _ _
 by_cases h0:val x.ds.l=0
 ·refine⟨false,.nil,[1],false,false,cX,m6,by decide,by simp[LS.l],by simp;omega,?_,fun K=>?_⟩
  ·unfold RatD.q;rw[h0];simp[Bm,LS.l,val]
  ·rw[Vd];unfold BM
   rw[oG,ZO rfl hx.2 (hf.le hm2),h0,BZ];rfl
 ·refine⟨x.neg,x.ns,x.ds.l,o,o,hx.1,hx.2,h0,hm1,by omega,rfl,fun K=>?_⟩
  have:Vz (val x.ds.l) 0=1:=by unfold Vz;rw[if_neg (by omega),if_pos (by omega)]
  rw[Vd];unfold BM
  rw[oG,ZO rfl hx.2 (hf.le hm2),this,show((1:Int)==0)=false by rfl,cf,show Nat.ble 2 (List.length x.av)=true by rfl,ct,oG,pv,pw,ct,kD,ct,qo]
theorem rY (z:Int) (d:Nat) (hd:d≠0):(mkRat z d).num.sign=z.sign:=by
 obtain⟨h1,h2,_⟩:=kC z d hd
 rcases Int.lt_trichotomy z 0 with h | h | h
 ·rw[Int.sign_eq_neg_one_of_neg h,Int.sign_eq_neg_one_of_neg (h2.2 h)]
 ·subst h;simp
 ·have hn:¬ (mkRat z d).num<0:=fun hh=>by have:=h2.1 hh;omega
  have h0:(mkRat z d).num≠0:=fun hh=>by
   have:mkRat z d=0:=Rat.num_eq_zero.1 hh
   rw[Rat.mkRat_eq_zero hd] at this;omega
  rw[Int.sign_eq_one_of_pos h,Int.sign_eq_one_of_pos (by omega)]
theorem kF {N:Nat} {x:RatD} {o:Bool} {K:Int→O R} (hx:x.ok) (hf:fit x.m N):BN N x.av o K=K x.q.num.sign:=by
 obtain⟨neg,s,l,o1,o2,p1,p2,p3,p4,p5,p6,p7⟩:=kE (R:=R) (o:=o) hx hf
 rw[PG];unfold XM
 rw[oH,ct,hZ,p7,pw,ct,kD,ct,qo,kB p1 (hf.le p4),←p6,rY _ _ p3]
end
end Gx

namespace Gx
open Go Go.Proofs
section
variable {R:Type}
theorem ZQ {a b:Int} {k l:Nat} (ha:a.natAbs<4294967296 ^ k) (hb:b.natAbs<4294967296 ^ l):(a*b).natAbs<4294967296 ^ (k+l):=by
 rw[Int.natAbs_mul,Nat.pow_add];exact Nat.mul_lt_mul'' ha hb
theorem oK {a b:Int} {k:Nat} (ha:a.natAbs<4294967296 ^ k) (hb:b.natAbs<4294967296 ^ k):(a+b).natAbs<4294967296 ^ (k+1):=by
 rw[Nat.pow_succ];omega
theorem ZR {k l:Nat} (h:k≤l):4294967296 ^ k≤4294967296 ^ l:=Nat.pow_le_pow_right (by omega) h
theorem oL {v k:Nat} (h:(Av v).length≤k):v<4294967296 ^ k:=by
 have:=Ee (Ai v);rw[Ax] at this
 exact Nat.lt_of_lt_of_le this (ZR h)
end
end Gx

namespace Gx
open Go Go.Proofs
section
variable {R:Type}
def Ed (z:Int):LA:=Ml (decide (z<0)) (.of (Av z.natAbs) false false)
theorem QP (z:Int) (K:LA→O R):(cond ((Nat.beq 0 0)&&((Nat.beq (List.length (Ed z)) 2)&&(Nat.beq 2 2))) (cond (Nat.ble 2 (List.length (Ed z))) (K (List.take 2 (Ed z))) none) none)=K (Ed z):=rfl
theorem sP (z:Int):List.take 2 (Ed z)=Ed z:=rfl
theorem sF (z:Int):Nat.beq (List.length (Ed z)) 2=true:=rfl
theorem oz (v:Nat):List.take ((Av v).length*1) (Al (Av v))=Al (Av v):=oJ (Ai _) (Ax v)
theorem Eu {N:Nat} {neg:Bool} {l:List Nat} {n:Nat} {t o:Bool} {K:LA→O R} (hn:n=l.length) (hl:As l) (hf:fit l.length N):Dh N neg (Al l) n t o K=K (Ed (if neg then -(val l:Int) else (val l:Int))):=by
 obtain⟨c1,c2⟩:=m5 (z:=if neg then -(val l:Int) else (val l:Int)) (c:=neg) (m:=val l) rfl
 rw[HA];unfold LD
 rw[Bt hn hl hf,oz]
 unfold Ed
 rw[←c1,c2]
 cases neg
 ·rfl
 ·rw[show((true:Bool)==true)=true by rfl,ct,rC];simp[Ml,LS.av]
theorem ET {N:Nat} {v:Int} {K:LA→O R} (hv:-9223372036854775808≤v∧v≤9223372036854775807) (hN:2000≤N):Fc N v K=K (Ed v):=by
 have hb:v.natAbs<18446744073709551616:=by omega
 have hl:=SQ hb
 rw[Wl];unfold Va
 by_cases h:v<0
 ·have e:IntKind.wrap .u64 (IntKind.wrap .u64 (IntKind.wrap .i64 ((0:Int) - IntKind.wrap .i64 (v+1)))+1)=(v.natAbs:Int):=by
   rw[i64 (a:=v+1) (by omega),i64 (by omega),pN,pN];omega
  rw[decide_eq_true h,ct,e,Ri hb (by omega),oz,Eu rfl (Ai _) ⟨by omega,by omega⟩,Ax]
  have:(if true=true then -(v.natAbs:Int) else (v.natAbs:Int))=v:=by rw[if_pos rfl];omega
  rw[this];exact QP _ _
 ·have e:IntKind.wrap .u64 v=(v.natAbs:Int):=by rw[pN];omega
  rw[decide_eq_false h,cf,e,Ri hb (by omega),oz,Eu rfl (Ai _) ⟨by omega,by omega⟩,Ax]
  have:(if false=true then -(v.natAbs:Int) else (v.natAbs:Int))=v:=by rw[if_neg (by decide)];omega
  rw[this];exact QP _ _
theorem FV {N:Nat} {n:Bool} {s:LS} {o:Bool} {K:LA→O R} (hs:As s.l) (hf:fit s.l.length N):Ou N (Ml n s) o K=K (Ed (Bm n s)):=by
 rw[HD];unfold LE
 rw[FU,CH,Eu rfl hs hf];exact QP _ _
theorem ZS {N:Nat} {n:Bool} {s:LS} {o:Bool} {K:Int→O R} (hs:As s.l) (hf:fit s.l.length N):Ov N (Ml n s) o K=K (Bm n s).sign:=by
 rw[HF];unfold LF
 rw[kD,ct,qo,FV hs hf,sF,show((true&&(true&&(!false))))=true by rfl,ct]
 have e:setCells (Ml n s) 0 (Ed (Bm n s))=Ed (Bm n s):=rfl
 rw[e]
 generalize Bm n s=z
 unfold Ed
 rw[FU]
 rcases Int.lt_trichotomy z 0 with h | h | h
 ·rw[decide_eq_true h,ct,Int.sign_eq_neg_one_of_neg h]
 ·subst h;rfl
 ·rw[decide_eq_false (by omega),cf,CH]
  have:(Av z.natAbs).length≠0:=fun hh=>by have:=Db.1 hh;omega
  simp only[LS.l]
  rw[rT this,cf,Int.sign_eq_one_of_pos h]
theorem kG {N:Nat} {n1 n2:Bool} {s1 s2:LS} {o1 o2:Bool} {K:LA→O R} (h1:As s1.l) (h2:As s2.l) (hf:fit (s1.l.length+s2.l.length) N):Qr N (Ml n1 s1) o1 (Ml n2 s2) o2 K=K (Ed (Bm n1 s1*Bm n2 s2)):=by
 have hl:(Av (val s1.l*val s2.l)).length≤s1.l.length+s2.l.length:=F9 (by rw[Nat.pow_add];exact Nat.mul_lt_mul'' (Ee h1) (Ee h2))
 rw[OW];unfold WY
 rw[FU,FU,CH,CH,mY rfl rfl h1 h2 hf,oz,Eu rfl (Ai _) (hf.le hl),Ax]
 have hz:Bm n1 s1*Bm n2 s2=if (!(n1==n2)) then -((val s1.l*val s2.l:Nat):Int) else ((val s1.l*val s2.l:Nat):Int):=by
  unfold Bm;cases n1<;>cases n2<;>simp[Int.mul_neg,Int.neg_mul]
 rw[←hz];exact QP _ _
theorem kH {N:Nat} {n1 n2:Bool} {s1 s2:LS} {o1 o2:Bool} {K:LA→O R} (h1:As s1.l) (h2:As s2.l) (hf:fit (s1.l.length+s2.l.length+1) N):Nr N (Ml n1 s1) o1 (Ml n2 s2) o2 K=K (Ed (Bm n1 s1+Bm n2 s2)):=by
 have v1:=Ee h1
 have v2:=Ee h2
 have w1:=ZR (show s1.l.length≤s1.l.length+s2.l.length by omega)
 have w2:=ZR (show s2.l.length≤s1.l.length+s2.l.length by omega)
 rw[OI];unfold WB
 rw[FU,FU]
 by_cases hn:n1=n2
 ·subst hn
  have hl:(Av (val s1.l+val s2.l)).length≤s1.l.length+s2.l.length+1:=F9 (by rw[Nat.pow_succ];omega)
  have hz:Bm n1 s1+Bm n1 s2=if n1 then -((val s1.l+val s2.l:Nat):Int) else ((val s1.l+val s2.l:Nat):Int):=by
   unfold Bm;cases n1<;>simp;omega
  rw[show(n1==n1)=true by simp,ct,FU,CH,CH,LZ rfl rfl h1 h2 hf,oz,Eu rfl (Ai _) (hf.le hl),Ax,←hz];exact QP _ _
 ·rw[show(n1==n2)=false by simp[hn],cf,CH,CH,L_ rfl rfl h1 h2 (hf.le (by omega))]
  by_cases hle:val s2.l≤val s1.l
  ·have hl:(Av (val s1.l - val s2.l)).length≤s1.l.length+s2.l.length+1:=F9 (by rw[Nat.pow_succ];omega)
   have hz:Bm n1 s1+Bm n2 s2=if n1 then -((val s1.l - val s2.l:Nat):Int) else ((val s1.l - val s2.l:Nat):Int):=by
    unfold Bm;cases n1<;>cases n2<;>simp at hn ⊢<;>omega
   rw[if_pos hle,ct,FU,oz,Eu rfl (Ai _) (hf.le hl),Ax,←hz];exact QP _ _
  ·have hl:(Av (val s2.l - val s1.l)).length≤s1.l.length+s2.l.length+1:=F9 (by rw[Nat.pow_succ];omega)
   have hz:Bm n1 s1+Bm n2 s2=if n2 then -((val s2.l - val s1.l:Nat):Int) else ((val s2.l - val s1.l:Nat):Int):=by
    unfold Bm;cases n1<;>cases n2<;>simp at hn ⊢<;>omega
   rw[if_neg hle,cf,CH,CH,L_ rfl rfl h2 h1 (hf.le (by omega)),if_pos (by omega),FU,oz,Eu rfl (Ai _) (hf.le hl),Ax,←hz];exact QP _ _
theorem m7 {N:Nat} {n1 n2:Bool} {s1 s2:LS} {o1 o2:Bool} {K:LA→O R} (h1:As s1.l) (h2:As s2.l) (hf:fit (3*(s1.l.length+s2.l.length)+4) N):HR N (Ml n1 s1) o1 (Ml n2 s2) o2 K=K (Ed ((Nat.gcd (Bm n1 s1).natAbs (Bm n2 s2).natAbs:Nat):Int)):=by
 have hl:(Av (Nat.gcd (val s1.l) (val s2.l))).length≤s1.l.length+s2.l.length:=by
  rcases Nat.eq_zero_or_pos (val s1.l) with h | h
  ·rw[h,Nat.gcd_zero_left];have:=(Ec h2).2;omega
  ·have:=Ce (Nat.gcd_le_left (val s2.l) h);have:=(Ec h1).2;omega
 rw[OF];unfold VW
 rw[CH,CH,m4 rfl rfl h1 h2 hf,oz,Eu rfl (Ai _) (hf.le (by omega)),Ax,Jd,Jd];exact QP _ _
theorem AN {N:Nat} {n1:Bool} {s1:LS} {g:Nat} {o1 o2:Bool} {K:LA→LA→Bool→O R} (h1:As s1.l) (hg:0<g) (hd:g∣val s1.l) (hf:fit (s1.l.length+2*(Av g).length+4) N):Kw N (Ml n1 s1) o1 (Ed (g:Int)) o2 K=K (Ed (Bm n1 s1/(g:Int))) (Ed 0) true:=by
 have hc:Ed (g:Int)=Ml false (.of (Av g) false false):=by
  unfold Ed;rw[decide_eq_false (by omega),Int.natAbs_natCast]
 have hq:(Av (val s1.l/g)).length≤s1.l.length:=Nat.le_trans (Ce (Nat.div_le_self _ _)) (Ec h1).2
 rw[hc,Y0];unfold Yz
 rw[CH,CH,show(LS.of (Av g) false false).l=Av g by rfl]
 rw[V1 rfl rfl h1 (Ai _) (by rw[Ax];omega) hf,Ax,Nat.mod_eq_zero_of_dvd hd,show(!true)=false by rfl,cf,FU,FU,oz,Eu rfl (Ai _) (hf.le (by omega)),FU,oz,Eu rfl (Ai _) (hf.le (by simp[D9])),Ax,Ax]
 have e0:(if n1=true then -((0:Nat):Int) else ((0:Nat):Int))=0:=by cases n1<;>rfl
 have e1:(if (!(n1==false))=true then -((val s1.l/g:Nat):Int) else ((val s1.l/g:Nat):Int))=Bm n1 s1/(g:Int):=by
  obtain⟨c,hc⟩:=hd
  have hv:val s1.l/g=c:=by rw[hc,Nat.mul_div_cancel_left _ hg]
  rw[hv];unfold Bm;rw[hc]
  cases n1
  ·simp;rw[Int.mul_ediv_cancel_left _ (by omega)]
  ·simp only[Bool.true_beq,Bool.not_false,if_true]
   rw[show -((g*c:Nat):Int)=(g:Int)*(-(c:Int)) by rw[Int.mul_neg];simp,Int.mul_ediv_cancel_left _ (by omega)]
 rw[e0,e1]
 generalize Bm n1 s1/(g:Int)=q
 have r0:∀ (f:Bool→O R),NB (Ed 0) f=f false:=fun f=>FU
 rw[show((Nat.beq 0 0)&&((Nat.beq (List.length (Ed q)) 2)&&(Nat.beq 2 2)))=true by rfl,ct,show((Nat.beq 0 0)&&((Nat.beq (List.length (Ed 0)) 2)&&(Nat.beq 2 2)))=true by rfl,ct,r0,cf]
 rfl
end
end Gx

namespace Gx
open Go Go.Proofs
section
variable {R:Type}
def Uh (q:Rat):RatD:=⟨decide (q.num<0),.of (Av q.num.natAbs) false false,.of (Av q.den) false false⟩
def cq (q:Rat):LA:=(Uh q).av
theorem eO (q:Rat):(Uh q).can q:=⟨rfl,rfl,rfl⟩
theorem cd (q:Rat):(Uh q).q=q:=(eO q).q
theorem FW (q:Rat):(Uh q).ok:=(eO q).ok
theorem rZ (q:Rat):(Uh q).m=qm q:=(eO q).m
theorem lD (q:Rat) (K:LA→O R):(cond ((Nat.beq 0 0)&&((Nat.beq (List.length (cq q)) 3)&&(Nat.beq 3 3))) (cond (Nat.ble 3 (List.length (cq q))) (K (List.take 3 (cq q))) none) none)=K (cq q):=rfl
theorem oM (q:Rat):Nat.ble 2 (List.length (cq q))=true:=rfl
theorem kI (q:Rat):List.take 2 (cq q)=Ed q.num:=rfl
theorem pR:cq 0=[(.bool false),(.imm [] 0 1 false false),(.imm [(.int .u32 1)] 1 1 false false)]:=by
 have e:cq 0=[.bool false,.imm (Al (Av 0)) (Av 0).length 1 false false,.imm (Al (Av 1)) (Av 1).length 1 false false]:=rfl
 rw[e,JN];rfl
theorem V2 {N:Nat} {K:LA→O R}:Ot N K=K (cq 0):=by
 rw[GZ];unfold LC
 rw[pR]
theorem r4 {N:Nat} {z:Int} {o:Bool} {K:Int→O R} (hf:fit (Av z.natAbs).length N):Ov N (Ed z) o K=K z.sign:=by
 have:=ZS (R:=R) (N:=N) (n:=decide (z<0)) (s:=.of (Av z.natAbs) false false) (o:=o) (K:=K) (Ai _) hf
 rw[Rj] at this;exact this
theorem qp {N:Nat} {z w:Int} {o o':Bool} {K:LA→O R} (hf:fit ((Av z.natAbs).length+(Av w.natAbs).length) N):Qr N (Ed z) o (Ed w) o' K=K (Ed (z*w)):=by
 have:=kG (R:=R) (N:=N) (n1:=decide (z<0)) (s1:=.of (Av z.natAbs) false false) (n2:=decide (w<0)) (s2:=.of (Av w.natAbs) false false) (o1:=o) (o2:=o') (K:=K) (Ai _) (Ai _) hf
 rw[Rj,Rj] at this;exact this
theorem sG {N:Nat} {z w:Int} {o o':Bool} {K:LA→O R} (hf:fit ((Av z.natAbs).length+(Av w.natAbs).length+1) N):Nr N (Ed z) o (Ed w) o' K=K (Ed (z+w)):=by
 have:=kH (R:=R) (N:=N) (n1:=decide (z<0)) (s1:=.of (Av z.natAbs) false false) (n2:=decide (w<0)) (s2:=.of (Av w.natAbs) false false) (o1:=o) (o2:=o') (K:=K) (Ai _) (Ai _) hf
 rw[Rj,Rj] at this;exact this
theorem qq (z:Int):mkRat z 1=(z:Rat):=by
 apply Rat.ext
 ·rw[Rat.num_mkRat,if_neg (by decide),Nat.gcd_one_left];simp
 ·rw[Rat.den_mkRat,if_neg (by decide),Nat.gcd_one_left];simp
theorem pS (z:Int) (w:Nat) (hw:w≠0):(mkRat z w).num=z/((Nat.gcd z.natAbs w:Nat):Int)∧(mkRat z w).den=w/Nat.gcd z.natAbs w:=by
 refine⟨?_,?_⟩
 ·rw[Rat.num_mkRat,if_neg hw,Nat.gcd_comm w]
 ·rw[Rat.den_mkRat,if_neg hw,Nat.gcd_comm w]
theorem QQ {N:Nat} {n1 n2:Bool} {s1 s2:LS} {o1 o2:Bool} {K:LA→O R} (h1:As s1.l) (h2:As s2.l) (hpos:0≤Bm n2 s2) (hf:fit (4*(s1.l.length+s2.l.length)+10) N):Jq N (Ml n1 s1) o1 (Ml n2 s2) o2 K=K (cq (mkRat (Bm n1 s1) (Bm n2 s2).natAbs)):=by
 have hna:=Jd n2 s2
 have hna1:=Jd n1 s1
 rw[HS];unfold BJ
 rw[kD,ct,qo,ZS h2 (hf.le (by omega))]
 by_cases h0:Bm n2 s2=0
 ·rw[h0,show((0:Int).sign==0)=true by rfl,ct,V2]
  rw[show(0:Int).natAbs=0 by rfl,Rat.mkRat_zero];exact lD _ _
 ·have hw:(Bm n2 s2).natAbs≠0:=by omega
  have hs1:((Bm n2 s2).sign==0)=false:=by rw[Int.sign_eq_one_of_pos (by omega)];rfl
  rw[hs1,cf,ct,FV h2 (hf.le (by omega)),show((Nat.beq 0 0)&&((Nat.beq (List.length (Ed (Bm n2 s2))) 2)&&(Nat.beq 2 2)))=true by rfl,ct]
  have rb:∀ (z:Int) (f:Bool→O R),NB (Ed z) f=f (decide (z<0)):=fun z f=>FU
  have rl:∀ (z:Int) (f:LA→Nat→O R),Gk 1 (List.drop 1 (Ed z)) f=f (Al (Av z.natAbs)) (Av z.natAbs).length:=fun z f=>CH
  have l2:=(Ec h2).2
  have l1:=(Ec h1).2
  rw[rb,decide_eq_false (by omega),show((!false)==true)=true by rfl,ct,rl,oI,oD (a:=Av (Bm n2 s2).natAbs) (b:=[1]) (m:=1) rfl rfl (hf.le (by rw[hna];omega)),rC]
  by_cases hone:(Bm n2 s2).natAbs=1
  ·rw[hone,JN,show decide (([1]:List Nat)=[1])=true by decide,ct,kD,ct,qo,FV h1 (hf.le (by omega)),rl,hone,JN]
   rw[qq]
   have e2:cq ((Bm n1 s1:Int):Rat)=[.bool (decide (Bm n1 s1<0)),.imm (Al (Av (Bm n1 s1).natAbs)) (Av (Bm n1 s1).natAbs).length 1 false false,.imm (Al [1]) 1 1 false false]:=by
    unfold cq Uh RatD.av LS.av
    rw[Rat.num_intCast,Rat.den_intCast,JN];rfl
   rw[e2];rfl
  ·have hne:decide (Av (Bm n2 s2).natAbs=[1])=false:=by
    rw[decide_eq_false_iff_not];intro hh
    have:=congrArg val hh
    rw[Ax] at this;simp[val] at this;omega
   rw[hne,cf]
   unfold Ql
   have hg0:0<Nat.gcd (Bm n1 s1).natAbs (Bm n2 s2).natAbs:=Nat.gcd_pos_of_pos_right _ (by omega)
   have hgl:(Av (Nat.gcd (Bm n1 s1).natAbs (Bm n2 s2).natAbs)).length≤s2.l.length:=Nat.le_trans (Ce (Nat.gcd_le_right _ (by omega))) (by rw[hna];exact l2)
   have hd1:Nat.gcd (Bm n1 s1).natAbs (Bm n2 s2).natAbs∣val s1.l:=by rw[←hna1];exact Nat.gcd_dvd_left _ _
   have hd2:Nat.gcd (Bm n1 s1).natAbs (Bm n2 s2).natAbs∣val s2.l:=by rw[←hna];exact Nat.gcd_dvd_right _ _
   obtain⟨q1,q2⟩:=pS (Bm n1 s1) (Bm n2 s2).natAbs hw
   rw[kD,ct,kD,ct,qo,qo,m7 h1 h2 (hf.le (by omega))]
   generalize hgd:Nat.gcd (Bm n1 s1).natAbs (Bm n2 s2).natAbs=g at *
   rw[show((Nat.beq 0 0)&&((Nat.beq (List.length (Ed (g:Int))) 2)&&(Nat.beq 2 2)))=true by rfl,ct,ct,show Nat.ble 2 (List.length (Ed (g:Int)))=true by rfl,ct,sP,AN h1 hg0 hd1 (hf.le (by omega))]
   rw[show ∀ z:Int,((Nat.beq 0 0)&&((Nat.beq (List.length (Ed z)) 2)&&(Nat.beq 2 2)))=true from fun z=>rfl,ct,show((Nat.beq 0 0)&&((Nat.beq (List.length (Ed 0)) 2)&&(Nat.beq 2 2)))=true by rfl,ct,ct,AN h2 hg0 hd2 (hf.le (by omega))]
   have hwz:Bm n2 s2/(g:Int)=(((Bm n2 s2).natAbs/g:Nat):Int):=by
    rw[show Bm n2 s2=(((Bm n2 s2).natAbs:Nat):Int) by omega];rfl
   rw[show ∀ z:Int,((Nat.beq 0 0)&&((Nat.beq (List.length (Ed z)) 2)&&(Nat.beq 2 2)))=true from fun z=>rfl,ct,ct,rb,hwz,decide_eq_false (by omega),cf,show ∀ z:Int,Nat.ble 2 (List.length (Ed z))=true from fun z=>rfl,ct,rl,Int.natAbs_natCast,←q2]
   rw[←q1];rfl
theorem pz {N:Nat} {z w:Int} {o o':Bool} {K:LA→O R} (hw:0≤w) (hf:fit (4*((Av z.natAbs).length+(Av w.natAbs).length)+10) N):Jq N (Ed z) o (Ed w) o' K=K (cq (mkRat z w.natAbs)):=by
 have:=QQ (R:=R) (N:=N) (n1:=decide (z<0)) (s1:=.of (Av z.natAbs) false false) (n2:=decide (w<0)) (s2:=.of (Av w.natAbs) false false) (o1:=o) (o2:=o') (K:=K) (Ai _) (Ai _) (by rw[Rj];exact hw) hf
 rw[Rj,Rj] at this;exact this
theorem Rk {N:Nat} {x:RatD} {o:Bool} {K:LA→O R} (hx:x.ok) (hf:fit (8*x.m+10) N):Lw N x.av o K=K (cq x.q):=by
 have m1:x.ns.l.length≤x.m:=Nat.le_max_left _ _
 have m2:x.ds.l.length≤x.m:=Nat.le_max_right _ _
 rw[HU];unfold LJ
 rw[show Nat.ble 2 (List.length x.av)=true by rfl,ct,oG,pv,sO,QQ (s2:=.of x.ds.l false o) hx.1 hx.2 (by unfold Bm;simp) (hf.le (show 4*(x.ns.l.length+x.ds.l.length)+10≤_ by omega))]
 have:mkRat (Bm x.neg x.ns) (Bm false (.of x.ds.l false o)).natAbs=x.q:=by rw[Jd];rfl
 rw[this];exact lD _ _
theorem B_ {N:Nat} {x:RatD} {o:Bool} {K:LA→O R} (hx:x.ok) (hf:fit (8*x.m+10) N):Qn N x.av o K=K (Ed (x.q.den:Int)):=by
 rw[OS];unfold WP
 rw[oH,ct,hZ,Rk hx hf]
 have:=oG (R:=R) (x:=Uh x.q) (f:=fun e f=>K [(.bool false),(.imm e f 1 false false)])
 refine this.trans ?_
 unfold Ed;rw[decide_eq_false (by omega),Int.natAbs_natCast];rfl
theorem ce (x:RatD) (hx:x.ok):qm x.q≤x.m+1:=by
 have m1:x.ns.l.length≤x.m:=Nat.le_max_left _ _
 have m2:x.ds.l.length≤x.m:=Nat.le_max_right _ _
 unfold qm
 by_cases h:val x.ds.l=0
 ·have:x.q=0:=by unfold RatD.q;rw[h,Rat.mkRat_zero]
  rw[this,Rat.zero_num,Rat.zero_den,JN];simp[D9]
 ·obtain⟨a1,_,a3⟩:=kC (Bm x.neg x.ns) (val x.ds.l) h
  have b1:x.q.num.natAbs≤val x.ns.l:=by show(mkRat _ _).num.natAbs≤_;rw[a1,Jd];exact Nat.div_le_self _ _
  have b2:x.q.den≤val x.ds.l:=by show(mkRat _ _).den≤_;rw[a3];exact Nat.div_le_self _ _
  have c1:=Nat.le_trans (Ce b1) (Ec hx.1).2
  have c2:=Nat.le_trans (Ce b2) (Ec hx.2).2
  omega
theorem r5 (z:Int) (d:Nat) (k:Nat) (h1:z.natAbs<4294967296 ^ k) (h2:d<4294967296 ^ k) (hd:d≠0):qm (mkRat z d)≤k:=by
 obtain⟨a1,_,a3⟩:=kC z d hd
 unfold qm
 have b1:(mkRat z d).num.natAbs≤z.natAbs:=by rw[a1];exact Nat.div_le_self _ _
 have b2:(mkRat z d).den≤d:=by rw[a3];exact Nat.div_le_self _ _
 have c1:=F9 (Nat.lt_of_le_of_lt b1 h1)
 have c2:=F9 (Nat.lt_of_le_of_lt b2 h2)
 omega
theorem oN (q:Rat):q.num.natAbs<4294967296 ^ qm q:=oL (Nat.le_max_left _ _)
theorem oO (q:Rat):q.den<4294967296 ^ qm q:=oL (Nat.le_max_right _ _)
theorem kK {N:Nat} {x y:RatD} {o o':Bool} {K:LA→O R} (hx:x.ok) (hy:y.ok) (hf:fit (16*(x.m+y.m)+80) N):BL N x.av o y.av o' K=K (cq (x.q+y.q)):=by
 have hqx:=ce x hx
 have hqy:=ce y hy
 have x1:=oN x.q
 have x2:((x.q.den:Nat):Int).natAbs<4294967296 ^ qm x.q:=by rw[Int.natAbs_natCast];exact oO _
 have y1:=oN y.q
 have y2:((y.q.den:Nat):Int).natAbs<4294967296 ^ qm y.q:=by rw[Int.natAbs_natCast];exact oO _
 have L1:=F9 x1
 have L2:=F9 x2
 have L3:=F9 y1
 have L4:=F9 y2
 have z1:=ZQ x1 y2
 have z2:=ZQ y1 x2
 have z3:=oK (k:=qm x.q+qm y.q) z1 (by rwa [Nat.add_comm])
 have z4:=ZQ x2 y2
 have M1:=F9 z1
 have M2:=F9 z2
 have M3:=F9 z3
 have M4:=F9 z4
 rw[OY];unfold XB
 rw[oH,ct,hZ,Rk hx (hf.le (by omega)),oH,ct,hZ,Rk hy (hf.le (by omega)),show ∀ q,((Nat.beq 0 0)&&((Nat.beq (List.length (cq q)) 3)&&(Nat.beq 3 3)))=true from fun q=>rfl,ct,show ∀ q,((Nat.beq 0 0)&&((Nat.beq (List.length (cq q)) 3)&&(Nat.beq 3 3)))=true from fun q=>rfl,ct,oM,ct,ct,B_ hy (hf.le (by omega)),kI,qp (hf.le (show(Av x.q.num.natAbs).length+(Av ((y.q.den:Nat):Int).natAbs).length≤_ by omega)),oM,ct,ct,B_ hx (hf.le (by omega)),kI,qp (hf.le (show(Av y.q.num.natAbs).length+(Av ((x.q.den:Nat):Int).natAbs).length≤_ by omega)),sG (hf.le (show(Av (x.q.num*((y.q.den:Nat):Int)).natAbs).length+(Av (y.q.num*((x.q.den:Nat):Int)).natAbs).length+1≤_ by omega)),ct,B_ hx (hf.le (by omega)),ct,B_ hy (hf.le (by omega)),qp (hf.le (show(Av ((x.q.den:Nat):Int).natAbs).length+(Av ((y.q.den:Nat):Int).natAbs).length≤_ by omega)),pz (Int.mul_nonneg (by omega) (by omega)) (hf.le (show 4*((Av (x.q.num*((y.q.den:Nat):Int)+y.q.num*((x.q.den:Nat):Int)).natAbs).length+(Av (((x.q.den:Nat):Int)*((y.q.den:Nat):Int)).natAbs).length)+10≤_ by omega))]
 have:mkRat (x.q.num*((y.q.den:Nat):Int)+y.q.num*((x.q.den:Nat):Int)) (((x.q.den:Nat):Int)*((y.q.den:Nat):Int)).natAbs=x.q+y.q:=by
  rw[Rat.add_def',Int.natAbs_mul,Int.natAbs_natCast,Int.natAbs_natCast]
 rw[this];exact lD _ _
theorem AO {N:Nat} {x:RatD} {o:Bool} {K:Int→O R} (hx:x.ok) (hf:fit (8*x.m+10) N):E2 N x.av o K=K x.q.num.sign:=by
 have hq:=ce x hx
 have q1:(Av x.q.num.natAbs).length≤qm x.q:=Nat.le_max_left _ _
 rw[HX];unfold LK
 rw[oH,ct,hZ,Rk hx hf,oM,ct,kI,r4 (hf.le (show(Av x.q.num.natAbs).length≤_ by omega))]
theorem oP {N:Nat} {v w:Int} {K:LA→O R} (hv:-9223372036854775808≤v∧v≤9223372036854775807) (hw:0≤w∧w≤9223372036854775807) (hN:4000≤N):XF N v w K=K (cq (mkRat v w.natAbs)):=by
 have hl:=SQ (show v.natAbs<18446744073709551616 by omega)
 have hl2:=SQ (show w.natAbs<18446744073709551616 by omega)
 rw[XG];unfold df
 rw[ET hv (by omega),ET (by omega) (by omega),pz (by omega) ⟨show 100*(4*((Av v.natAbs).length+(Av w.natAbs).length)+10)+1000≤N by omega,show 4*((Av v.natAbs).length+(Av w.natAbs).length)+10≤1000000000 by omega⟩]
 exact lD _ _
end
end Gx

namespace Gx
open Go
open IntKind (wrap)
section
variable {R:Type}
structure EntD where
 ix:Int
 v:RatD
def EntD.av (e:EntD):LA:=.int .i64 e.ix::e.v.av
def Ca (l:List EntD):LA:=l.flatMap EntD.av
theorem lE (e:EntD):e.av.length=4:=rfl
theorem B' {α:Type} {e:α→LA} {sz:Nat} (he:∀ a,(e a).length=sz):∀ (l:List α) (k:Nat),(l.flatMap e).drop (k*sz)=(l.drop k).flatMap e
 | [],k=>by simp
 | a::l,0=>by simp
 | a::l,k+1=>by
  rw[List.flatMap_cons,List.drop_succ_cons,←B' he l k,Nat.succ_mul,List.drop_append,he a]
  have h1:(e a).drop (k*sz+sz)=[]:=List.drop_of_length_le (by rw[he];omega)
  have h2:k*sz+sz - sz=k*sz:=by omega
  rw[h1,h2,List.nil_append]
theorem JO {l:List EntD} {k:Nat} {e:EntD} (h:l[k]?=some e):(Ca l).drop (k*4)=.int .i64 e.ix::.bool e.v.neg::e.v.ns.av::e.v.ds.av::(l.drop (k+1)).flatMap EntD.av:=by
 unfold Ca
 rw[B' lE,R3 h];rfl
theorem Eo {n:Int} {r:LA} (K:Int→O R):Ch .i64 (.int .i64 n::r) K=K n:=by
 unfold Ch;simp[asInt,Ho]
theorem JP {l:List EntD} {k:Nat} {e:EntD} (h:l[k]?=some e) (K:Int→O R):Ch .i64 ((Ca l).drop (((k:Nat):Int).toNat*4)) K=K e.ix:=by
 rw[Int.toNat_natCast,JO h];exact Eo K
theorem qA {l:List EntD} {k:Nat} {e:EntD} (h:l[k]?=some e):(((Ca l).drop (((k:Nat):Int).toNat*4)).drop 1).take 3=e.v.av∧Nat.ble 3 ((((Ca l).drop (((k:Nat):Int).toNat*4)).drop 1).length)=true:=by
 rw[Int.toNat_natCast,JO h]
 exact⟨rfl,by simp⟩
theorem r6 {l:List EntD} {k:Nat} {e:EntD} (h:l[k]?=some e):((Ca l).drop (((k:Nat):Int).toNat*4)).take 4=e.av∧Nat.ble 4 ((Ca l).drop (((k:Nat):Int).toNat*4)).length=true:=by
 rw[Int.toNat_natCast,JO h]
 exact⟨rfl,by simp⟩
def Kb (M:Nat) (l:List EntD):Prop:=∀ e ∈ l,e.v.ok∧e.v.m≤M
def A4:EntD:=⟨0,⟨false,.nil,.nil⟩⟩
theorem Dk {l:List EntD} {k:Nat} (h:k<l.length):l[k]?=some (l.getD k A4):=by
 rw[List.getD_eq_getElem?_getD,List.getElem?_eq_getElem h];rfl
def kL (n:Int) (l:List EntD) (k:Nat):Bool:=decide (0≤(l.getD k A4).ix)&&(decide ((l.getD k A4).ix<n)&&((decide (k=0)||decide ((l.getD (k - 1) A4).ix<(l.getD k A4).ix))&&!decide ((l.getD k A4).v.q=0)))
def rV (n:Int) (l:List EntD):Bool:=E8 0 l.length (kL n l)
theorem oQ (q:Rat):(q.num.sign==0)=decide (q=0):=by
 by_cases h:q=0
 ·subst h;rfl
 ·rw[decide_eq_false h]
  have:q.num≠0:=fun e=>h (Rat.num_eq_zero.1 e)
  simpa using this
theorem oR {N M:Nat} {n:Int} {l:List EntD} {g e:Bool} {r0:Bool→O R} (hM:Kb M l) (hf:fit (8*M+10) N) (hl:l.length≤1000000000000) :
  ∀ (fuel b:Nat),b≤l.length→l.length - b<fuel→Hi N r0 (Ca l) l.length g e n fuel (b:Int)=r0 (E8 b (l.length - b) (kL n l))
 | 0,_,_,h=>by omega
 | fuel+1,b,hb,hfu=>by
  rw[Hi,R4]
  by_cases hlt:b<l.length
  ·have he:=Dk hlt
   obtain⟨hok,hm⟩:=hM _ (List.mem_of_getElem? he)
   obtain⟨v1,v2⟩:=qA he
   have e1:l.length - b=(l.length - (b+1))+1:=by omega
   have ih:=oR (n:=n) (g:=g) (e:=e) (r0:=r0) hM hf hl fuel (b+1) (by omega) (by omega)
   have sg:∀ K:Int→O R,E2 N (l.getD b A4).v.av e K=K (l.getD b A4).v.q.num.sign:=fun K=>AO hok (hf.le (by omega))
   rw[Cp (by omega),cond_true,Bk hlt,cond_true,JP he,e1,Pn]
   unfold kL at ih ⊢
   by_cases a1:(l.getD b A4).ix<0
   ·rw[Cp a1,decide_eq_false (show ¬ 0≤(l.getD b A4).ix by omega)];rfl
   ·rw[Ck a1,decide_eq_true (show 0≤(l.getD b A4).ix by omega)]
    simp only[beq_self_eq_true,cond_true,Bool.true_and]
    rw[JP he]
    by_cases a2:(l.getD b A4).ix<n
    ·rw[decide_eq_true a2,decide_eq_false (show ¬ (l.getD b A4).ix≥n by omega)]
     simp only[cond_false,beq_self_eq_true,cond_true,Bool.true_and]
     by_cases a3:b=0
     ·subst a3
      rw[Ck (by omega)]
      have hft:(false==true)=false:=rfl
      rw[hft,cond_false,v2,cond_true,v1,sg,oQ,Mw (by omega),ih]
      cases decide ((l.getD 0 A4).v.q=0)<;>rfl
     ·have e2:wrap .i64 ((b:Int) - 1)=((b - 1:Nat):Int):=by rw[LW (by omega) (by omega)];omega
      have hp:=Dk (show b - 1<l.length by omega)
      rw[Cp (by omega)]
      simp only[beq_self_eq_true,cond_true]
      rw[JP he,e2,Bk (by omega),cond_true,JP hp,decide_eq_false a3,Bool.false_or]
      by_cases a4:(l.getD (b - 1) A4).ix<(l.getD b A4).ix
      ·rw[decide_eq_true a4,decide_eq_false (show ¬ (l.getD b A4).ix≤(l.getD (b - 1) A4).ix by omega)]
       simp only[cond_false,beq_self_eq_true,cond_true,Bool.true_and]
       rw[v2,cond_true,v1,sg,oQ,Mw (by omega),ih]
       cases decide ((l.getD b A4).v.q=0)<;>rfl
      ·rw[decide_eq_false a4,decide_eq_true (show(l.getD b A4).ix≤(l.getD (b - 1) A4).ix by omega)];rfl
    ·rw[decide_eq_false a2,decide_eq_true (show(l.getD b A4).ix≥n by omega)];rfl
  ·have:b=l.length:=by omega
   subst this
   rw[Ck (by omega),cond_false,Nat.sub_self,R2]
theorem JQ {N M:Nat} {n:Int} {l:List EntD} {g e:Bool} {r0:Bool→O R} (hM:Kb M l) (hf:fit (8*M+10) N) (hl:l.length≤1000000000000) (hN:l.length<N):K5 N (Ca l) l.length g e n r0=r0 (rV n l):=by
 rw[EE,Vt]
 exact oR hM hf hl N 0 (Nat.zero_le _) (by omega)
def kM (l:List EntD) (k:Nat):Bool:=decide (k=0)||decide ((l.getD (k - 1) A4).ix<(l.getD k A4).ix)
theorem qB {N:Nat} {l:List EntD} {d e:Bool} {r0:Bool→O R} (hl:l.length≤1000000000000) :
  ∀ (fuel f:Nat),1≤f→l.length+1 - f≤fuel→0<fuel→Ci N r0 (Ca l) l.length d e fuel (f:Int)=r0 (E8 f (l.length - f) (kM l))
 | 0,_,_,_,h=>by omega
 | fuel+1,f,hf1,hfu,_=>by
  rw[Ci,G5]
  by_cases hlt:f<l.length
  ·have e1:l.length - f=(l.length - (f+1))+1:=by omega
   have e2:wrap .i64 ((f:Int) - 1)=((f - 1:Nat):Int):=by rw[LW (by omega) (by omega)];omega
   rw[Cp (by omega),cond_true,e2,Bk (by omega),cond_true,JP (Dk (show f - 1<l.length by omega)),Bk hlt,cond_true,JP (Dk hlt),e1,Pn]
   have ih:=qB (N:=N) (d:=d) (e:=e) (r0:=r0) hl fuel (f+1) (by omega) (by omega) (by omega)
   rw[Mw (by omega),ih]
   by_cases h:(l.getD (f - 1) A4).ix<(l.getD f A4).ix
   ·rw[decide_eq_false (show ¬ (l.getD (f - 1) A4).ix≥(l.getD f A4).ix by omega),cond_false]
    have:kM l f=true:=by unfold kM;rw[decide_eq_true h];simp
    rw[this,Bool.true_and]
   ·rw[decide_eq_true (show(l.getD (f - 1) A4).ix≥(l.getD f A4).ix by omega),cond_true]
    have:kM l f=false:=by unfold kM;rw[decide_eq_false h,decide_eq_false (by omega)];rfl
    rw[this,Bool.false_and]
  ·rw[Ck (by omega),cond_false]
   have:l.length - f=0:=by omega
   rw[this,R2]
def r7 (n:Int) (l:List EntD) (k:Nat):Bool:=decide (0≤(l.getD k A4).ix)&&(decide ((l.getD k A4).ix<n)&&!decide ((l.getD k A4).v.q=0))
theorem qC {N M:Nat} {n:Int} {l:List EntD} {g d:Bool} {r0:Bool→O R} (hM:Kb M l) (hf:fit (8*M+10) N) (hl:l.length≤1000000000000) :
  ∀ (fuel b:Nat),b≤l.length→l.length - b<fuel→Da N r0 n (Ca l) l.length g d fuel (l.length:Int) (b:Int)=r0 (E8 b (l.length - b) (r7 n l))
 | 0,_,_,h=>by omega
 | fuel+1,b,hb,hfu=>by
  rw[Da,K8]
  by_cases hlt:b<l.length
  ·have he:=Dk hlt
   obtain⟨hok,hm⟩:=hM _ (List.mem_of_getElem? he)
   obtain⟨v1,v2⟩:=r6 he
   have e1:l.length - b=(l.length - (b+1))+1:=by omega
   have ih:=qC (n:=n) (g:=g) (d:=d) (r0:=r0) hM hf hl fuel (b+1) (by omega) (by omega)
   have sg:∀ K:Int→O R,BN N (l.getD b A4).v.av d K=K (l.getD b A4).v.q.num.sign:=fun K=>kF hok (hf.le (by omega))
   have s1:(Nat.beq 0 0&&(Nat.beq ((l.getD b A4).av.length) 4&&Nat.beq 4 4))=true:=rfl
   have s2:Nat.ble 3 ((l.getD b A4).av.drop 1).length=true:=rfl
   have s3:((l.getD b A4).av.drop 1).take 3=(l.getD b A4).v.av:=rfl
   have s4:∀ K:Int→O R,Ch .i64 (l.getD b A4).av K=K (l.getD b A4).ix:=fun K=>Eo K
   rw[Cp (by omega),cond_true,Bk hlt,cond_true,v2,cond_true,v1,s1,cond_true,s4,e1,Pn]
   unfold r7 at ih ⊢
   by_cases a1:(l.getD b A4).ix<0
   ·rw[Cp a1,decide_eq_false (show ¬ 0≤(l.getD b A4).ix by omega)];rfl
   ·rw[Ck a1,decide_eq_true (show 0≤(l.getD b A4).ix by omega)]
    simp only[beq_self_eq_true,cond_true,Bool.true_and]
    rw[s4]
    by_cases a2:(l.getD b A4).ix<n
    ·rw[decide_eq_true a2,decide_eq_false (show ¬ (l.getD b A4).ix≥n by omega)]
     simp only[cond_false,beq_self_eq_true,cond_true,Bool.true_and]
     rw[s2,cond_true,s3,sg,oQ,Mw (by omega),ih]
     cases decide ((l.getD b A4).v.q=0)<;>rfl
    ·rw[decide_eq_false a2,decide_eq_true (show(l.getD b A4).ix≥n by omega)];rfl
  ·have:b=l.length:=by omega
   subst this
   rw[Ck (by omega),cond_false,Nat.sub_self,R2]
theorem oS (n:Int) (l:List EntD):rV n l=(E8 1 (l.length - 1) (kM l)&&E8 0 l.length (r7 n l)):=by
 rw[Bool.eq_iff_iff,Bool.and_eq_true]
 unfold rV
 rw[Br,Br,Br]
 constructor
 ·intro h
  refine⟨fun i h1 h2=>?_,fun i h1 h2=>?_⟩
  ·have:=h i (Nat.zero_le _) (by omega)
   unfold kL at this
   simp only[Bool.and_eq_true] at this
   exact this.2.2.1
  ·have:=h i h1 h2
   unfold kL at this
   simp only[Bool.and_eq_true] at this
   unfold r7
   simp only[Bool.and_eq_true]
   exact⟨this.1,this.2.1,this.2.2.2⟩
 ·rintro⟨h1,h2⟩ i h3 h4
  have a:=h2 i h3 h4
  unfold r7 at a
  simp only[Bool.and_eq_true] at a
  unfold kL
  simp only[Bool.and_eq_true]
  refine⟨a.1,a.2.1,?_,a.2.2⟩
  by_cases h0:i=0
  ·simp[h0]
  ·exact h1 i (by omega) (by omega)
theorem SG {N M:Nat} {n:Int} {l:List EntD} {g d:Bool} {r0:Bool→O R} (hM:Kb M l) (hf:fit (8*M+10) N) (hl:l.length≤1000000000000) (hN:l.length<N):Hj N (Ca l) l.length g d n r0=r0 (rV n l):=by
 rw[T7,Ls,Mi,Gf]
 have:=qB (N:=N) (d:=false) (e:=d) (r0:=fun p=>cond (!p) (r0 false) (Da N r0 n (Ca l) l.length g d N (l.length:Int) 0)) hl N 1 (by omega) (by omega) (by omega)
 refine Eq.trans this ?_
 rw[oS]
 cases E8 1 (l.length - 1) (kM l) with
 | false=>rfl
 | true =>
  rw[Bool.not_true,cond_false,Bool.true_and]
  exact qC hM hf hl N 0 (Nat.zero_le _) (by omega)
end
end Gx

namespace Gx
open Go
open IntKind (wrap)
section
variable {R:Type}
def FX (l:List EntD):Prop:=l.Pairwise (fun a b=>a.ix<b.ix)
theorem oT {n:Int} {l:List EntD} (h:rV n l=true):FX l:=by
 unfold rV at h
 rw[Br] at h
 have key:∀ (d k:Nat),k+d+1<l.length→(l.getD k A4).ix<(l.getD (k+d+1) A4).ix:=by
  intro d
  induction d with
  | zero =>
   intro k hk
   have:=h (k+1) (by omega) (by omega)
   simp only[kL,Bool.and_eq_true,Bool.or_eq_true,decide_eq_true_eq] at this
   have h2:=this.2.2.1.resolve_left (by omega)
   exact h2
  | succ d ih =>
   intro k hk
   have h1:=ih k (by omega)
   have:=h (k+(d+1)+1) (by omega) (by omega)
   simp only[kL,Bool.and_eq_true,Bool.or_eq_true,decide_eq_true_eq] at this
   have h2:=this.2.2.1.resolve_left (by omega)
   have e:k+(d+1)+1 - 1=k+d+1:=by omega
   rw[e] at h2
   omega
 unfold FX
 rw[List.pairwise_iff_getElem]
 intro a b ha hb hab
 have:=key (b - a - 1) a (by omega)
 have e:a+(b - a - 1)+1=b:=by omega
 rw[e] at this
 have ea:=Dk ha
 have eb:=Dk hb
 rw[List.getElem?_eq_getElem ha] at ea
 rw[List.getElem?_eq_getElem hb] at eb
 injection ea with ea
 injection eb with eb
 rw[ea,eb];exact this
def Ct (l:List EntD) (i:Int):Rat:=match l.find? (fun e=>decide (e.ix=i)) with | some e=>e.v.q | none=>0
theorem qr (q:Rat):(Uh q).m=qm q:=rZ q
theorem rs:qm 0=1:=by decide
theorem h_ {N:Nat} {l:List EntD} {g d:Bool} {i:Int} {q:Rat} {r0:LA→O R} (hl:l.length≤1000000000000) :
  ∀ (fuel k:Nat),k≤l.length→l.length - k<fuel→(∀ e ∈ l.drop k,e.ix≠i)→G2 N r0 (Ca l) l.length g d i fuel (k:Int) (cq q)=r0 (cq q)
 | 0,_,_,h,_=>by omega
 | fuel+1,k,hk,hfu,hno=>by
  rw[G2,Q5]
  by_cases hlt:k<l.length
  ·have he:=Dk hlt
   have hd:=R3 he
   have hne:((l.getD k A4).ix==i)=false:=by simpa using hno _ (by rw[hd];exact List.mem_cons_self)
   rw[Cp (by omega),cond_true,Bk hlt,cond_true,JP he,hne,cond_false,Mw (by omega)]
   exact h_ hl fuel (k+1) (by omega) (by omega) (fun e h=>hno e (by rw[hd];exact List.mem_cons_of_mem _ h))
  ·rw[Ck (by omega),cond_false];rfl
theorem oU {N M:Nat} {l:List EntD} {g d:Bool} {i:Int} {r0:LA→O R} (hM:Kb M l) (hf:fit (16*(M+1)+80) N) (ha:FX l) (hl:l.length≤1000000000000) :
  ∀ (fuel k:Nat),k≤l.length→l.length - k<fuel→G2 N r0 (Ca l) l.length g d i fuel (k:Int) (cq 0)=r0 (cq (Ct (l.drop k) i))
 | 0,_,_,h=>by omega
 | fuel+1,k,hk,hfu=>by
  rw[G2,Q5]
  by_cases hlt:k<l.length
  ·have he:=Dk hlt
   have hd:=R3 he
   rw[Cp (by omega),cond_true,Bk hlt,cond_true,JP he]
   by_cases h:(l.getD k A4).ix=i
   ·obtain⟨hok,hm⟩:=hM _ (List.mem_of_getElem? he)
    obtain⟨v1,v2⟩:=qA he
    have s1:Nat.ble 3 (cq 0).length=true:=rfl
    have s2:(cq 0).take 3=(Uh 0).av:=rfl
    have add:∀ K:LA→O R,BL N (Uh 0).av false (l.getD k A4).v.av d K=K (cq ((Uh 0).q+(l.getD k A4).v.q)):=fun K=>kK (FW 0) hok (hf.le (by rw[qr,rs];omega))
    have hlook:Ct (l.drop k) i=(l.getD k A4).v.q:=by
     unfold Ct;rw[hd,List.find?_cons_of_pos (by simpa using h)]
    have s3:∀ q:Rat,(Nat.beq (cq q).length 3&&(true&&!false))=true:=fun q=>rfl
    have s4:∀ q:Rat,setCells (cq 0) 0 (cq q)=cq q:=fun q=>rfl
    rw[beq_iff_eq.2 h,cond_true,s1,cond_true,cond_true,v2,cond_true,s2,v1,add,s3,cond_true,s4,Mw (by omega),cd,Rat.zero_add,hlook]
    refine h_ hl fuel (k+1) (by omega) (by omega) (fun e hm2=>?_)
    have hp:(l.drop k).Pairwise (fun a b=>a.ix<b.ix):=ha.sublist (List.drop_sublist k l)
    rw[hd] at hp
    have:=(List.pairwise_cons.1 hp).1 e hm2
    omega
   ·have hb:((l.getD k A4).ix==i)=false:=by simpa using h
    have hlook:Ct (l.drop k) i=Ct (l.drop (k+1)) i:=by
     unfold Ct;rw[hd,List.find?_cons_of_neg (by simpa using h)]
    rw[hb,cond_false,Mw (by omega),hlook]
    exact oU hM hf ha hl fuel (k+1) (by omega) (by omega)
  ·rw[Ck (by omega),cond_false,List.drop_of_length_le (by omega)];rfl
theorem oV {N M:Nat} {l:List EntD} {g d:Bool} {i:Int} {r0:LA→O R} (hM:Kb M l) (hf:fit (16*(M+1)+80) N) (ha:FX l) (hl:l.length≤1000000000000) (hN:l.length<N):Vn N (Ca l) l.length g d i r0=r0 (cq (Ct l i)):=by
 rw[PW,IM,V2]
 have s:(Nat.beq 0 0&&(Nat.beq (cq 0).length 3&&Nat.beq 3 3))=true:=rfl
 rw[s,cond_true]
 have:=oU (g:=g) (d:=d) (i:=i) (r0:=r0) hM hf ha hl N 0 (Nat.zero_le _) (by omega)
 rw[List.drop_zero] at this
 exact this
theorem lF {l:List EntD} (ha:FX l) {k:Nat} {e:EntD} (h:l[k]?=some e):Ct l e.ix=e.v.q:=by
 unfold Ct
 obtain⟨hk,he⟩:=List.getElem?_eq_some_iff.1 h
 have h1:l.find? (fun e'=>decide (e'.ix=e.ix))=some e:=by
  rw[List.find?_eq_some_iff_append]
  refine⟨by simp,l.take k,l.drop (k+1),?_,fun a ha2=>?_⟩
  ·rw[←R3 h,List.take_append_drop]
  ·obtain⟨j,hj⟩:=List.getElem?_of_mem ha2
   rw[List.getElem?_take] at hj
   split at hj
   ·rename_i hjk
    obtain⟨hj1,hj2⟩:=List.getElem?_eq_some_iff.1 hj
    have:=(List.pairwise_iff_getElem.1 ha) j k hj1 hk hjk
    rw[hj2,he] at this
    simp;omega
   ·cases hj
 rw[h1]
theorem qs {l:List EntD} {k:Nat} {e:EntD} (h:l[k]?=some e) (K:Int→O R):Ch .i64 ((Ca l).drop (k*4)) K=K e.ix:=by
 rw[JO h];exact Eo K
def SR (l:List EntD):List Int:=l.map EntD.ix
theorem lG (l:List EntD):(SR l).length=l.length:=by simp[SR]
theorem qD {N k:Nat} {l:List EntD} {b e:Bool} {D:LA} {c:Nat} {f t:Int} {k0 k1:Nat→Int→Int→LA→O R} {r0:Nat→LA→O R} (ha:FX l) (hl:l.length≤1000000000) (hk:k<l.length) :
  ∀ (fuel p:Nat),p≤k→k - p<fuel→E5 N k0 k1 r0 (Ca l) l.length b D c e f fuel k (k:Int) (p:Int) t (Ae ((SR l).take k))=k1 (k+1) ((k+1:Nat):Int) t (Ae ((SR l).take (k+1)))
 | 0,_,_,h=>by omega
 | fuel+1,p,hp,hfu=>by
  have hlen:((SR l).take k).length=k:=by simp[SR];omega
  have he:=Dk hk
  rw[E5,Mu]
  by_cases hlt:p<k
  ·have hep:=Dk (show p<l.length by omega)
   have hx:((SR l).take k).getD p 0=(l.getD p A4).ix:=by
    rw[List.getD_eq_getElem?_getD,List.getElem?_take_of_lt hlt]
    unfold SR
    rw[List.getElem?_map,hep];rfl
   have hlt2:(l.getD p A4).ix<(l.getD k A4).ix:=by
    obtain⟨a1,a2⟩:=List.getElem?_eq_some_iff.1 hep
    obtain⟨b1,b2⟩:=List.getElem?_eq_some_iff.1 he
    have:=(List.pairwise_iff_getElem.1 ha) p k a1 b1 hlt
    rw[a2,b2] at this;exact this
   rw[Cp (by omega)]
   simp only[beq_self_eq_true,cond_true]
   rw[Bk hlt,cond_true,Z4 (by omega),hx,Bk hk,cond_true,JP he,decide_eq_true hlt2,cond_true,Mw (by omega)]
   exact qD ha hl hk fuel (p+1) (by omega) (by omega)
  ·have hpk:p=k:=by omega
   subst hpk
   rw[Ck (by omega)]
   have hft:(false==true)=false:=rfl
   rw[hft,cond_false,cond_false]
   unfold Pj
   have b1:(decide ((0:Int)≤(0:Int))&&(decide (0≤(p:Int))&&(decide ((p:Int)≤((p:Nat):Int))&&decide (((p:Nat):Int)≤((p:Nat):Int)))))=true:=by simp
   have b2:(Nat.ble (0+p) 140737488355328&&Nat.ble ((0+p)*8) 140737488355328)=true:=by simp;omega
   have b3:(Nat.ble (0+p+1) 140737488355328&&Nat.ble ((0+p+1)*8) 140737488355328)=true:=by simp;omega
   have b4:(decide (0≤(p:Int))&&(decide ((p:Int)≤((p:Nat):Int))&&(decide (((p:Nat):Int)≤((p:Nat):Int))&&decide (((p:Nat):Int)≤((p:Nat):Int)))))=true:=by simp
   have b5:(Nat.ble (0+p+1+(p - p)) 140737488355328&&Nat.ble ((0+p+1+(p - p))*8) 140737488355328)=true:=by simp;omega
   rw[b1,cond_true]
   simp only[Int.toNat_natCast p]
   rw[b2,cond_true,Bk hk,cond_true,qs he,b3,cond_true,b4,cond_true,b5,cond_true,Mw (by omega)]
   have e1:0+p+1+(p - p)=p+1:=by omega
   have hix:(SR l)[p]?=some (l.getD p A4).ix:=by unfold SR;rw[List.getElem?_map,he];rfl
   have e2:List.take ((0+p+1)*1) (List.take ((0+p)*1) (List.take (p*1) (Ae ((SR l).take p)))++[AV.int .i64 (l.getD p A4).ix])++List.take ((p - p)*1) (List.drop (0+p*1) (Ae ((SR l).take p)))=Ae ((SR l).take (p+1)):=by
    rw[C7 hix,Nat.sub_self]
    have h1:(Ae ((SR l).take p)).length=p:=by rw[Cs,hlen]
    have h2:Ae ((SR l).take p++[(l.getD p A4).ix])=Ae ((SR l).take p)++[AV.int .i64 (l.getD p A4).ix]:=by simp[Ae]
    rw[h2]
    generalize Ae ((SR l).take p)=C at h1
    rw[List.take_of_length_le (i:=p*1) (l:=C) (by omega),List.take_of_length_le (i:=(0+p)*1) (l:=C) (by omega),List.take_of_length_le (i:=(0+p+1)*1) (by simp;omega)]
    simp
   rw[e1,e2]
theorem qE {N:Nat} {l:List EntD} {b e:Bool} {D:LA} {c:Nat} {f:Int} {k0:Nat→Int→Int→LA→O R} {r0:Nat→LA→O R} {x:Int} (ha:FX l) (hl:l.length≤1000000000) (hN:l.length<N) :
  ∀ (fuel k:Nat),k≤l.length→l.length - k<fuel→D4 N k0 r0 (Ca l) l.length b D c e f fuel k (k:Int) x (Ae ((SR l).take k))=k0 l.length f (wrap .i64 (x+1)) (Ae (SR l))
 | 0,_,_,h=>by omega
 | fuel+1,k,hk,hfu=>by
  rw[D4,Mv]
  by_cases hlt:k<l.length
  ·rw[Cp (by omega),cond_true]
   refine Eq.trans (qD ha hl hlt N 0 (Nat.zero_le _) (by omega)) ?_
   exact qE ha hl hN fuel (k+1) (by omega) (by omega)
  ·have:k=l.length:=by omega
   subst this
   rw[Ck (by omega),cond_false,List.take_of_length_le (by rw[lG];exact Nat.le_refl _)]
theorem kN {N:Nat} {l:List EntD} {e b t o:Bool} {r0:Nat→LA→O R} (ha:FX l) (hl:l.length≤1000000000) (hN:l.length+2<N):I7 N [(.imm (Ca l) l.length 4 t o)] 1 e b r0=r0 l.length (Ae (SR l)):=by
 rw[Xb,Nx]
 obtain⟨n,rfl⟩:∃ n,N=n+2:=⟨N - 2,by omega⟩
 rw[C1,H9]
 have h1:decide ((0:Int)<((1:Nat):Int))=true:=by decide
 have h2:Af (0:Int) 1=true:=by decide
 have h3:∀ K:LA→Nat→O R,Gk 4 (([(AV.imm (Ca l) l.length 4 t o)]:LA).drop ((0:Int).toNat*1)) K=K (Ca l) l.length:=fun K=>by unfold Gk;simp[Je]
 rw[h1,cond_true,h2,cond_true,h3]
 have:=qE (N:=n+2) (b:=b) (e:=e) (D:=[(AV.imm (Ca l) l.length 4 t o)]) (c:=1) (f:=((1:Nat):Int)) (k0:=C1 (n+2) r0 [(AV.imm (Ca l) l.length 4 t o)] 1 e b (n+1)) (r0:=r0) (x:=0) ha hl (by omega) (n+2) 0 (Nat.zero_le _) (by omega)
 refine Eq.trans this ?_
 rw[C1,H9]
 have h4:decide (wrap .i64 ((0:Int)+1)<((1:Nat):Int))=false:=by decide
 rw[h4,cond_false]
end
end Gx

namespace Gx
open Go
open IntKind (wrap)
section
variable {R:Type}
def H4 (l:List EntD):List EntD:=(l.filter (fun e=>!decide (e.v.q=0))).map (fun e=>⟨e.ix,Uh e.v.q⟩)
theorem oW (l:List EntD):(Ca l).length=l.length*4:=by
 unfold Ca
 induction l with
 | nil=>rfl
 | cons a l ih=>rw[List.flatMap_cons,List.length_append,ih,lE,List.length_cons];omega
theorem CA (m:List EntD):(Ca m).take (m.length*4)=Ca m:=List.take_of_length_le (by rw[oW];exact Nat.le_refl _)
theorem iA (l m:List EntD):Ca (l++m)=Ca l++Ca m:=by simp[Ca]
theorem pT {l:List EntD} {k:Nat} {e:EntD} (h:l[k]?=some e):H4 (l.take (k+1))=H4 (l.take k)++(if e.v.q=0 then [] else [⟨e.ix,Uh e.v.q⟩]):=by
 unfold H4
 rw[C7 h,List.filter_append,List.map_append]
 congr 1
 by_cases hq:e.v.q=0<;>simp[hq]
theorem JR (l:List EntD):(H4 l).length≤l.length:=by unfold H4;rw[List.length_map];exact List.length_filter_le _ _
theorem qF {N M:Nat} {l:List EntD} {e d:Bool} {r0:Nat→LA→O R} (hM:Kb M l) (hf:fit (16*(M+1)+80) N) (ha:FX l) (hl:l.length≤1000000000) (hN:l.length<N) :
  ∀ (fuel k:Nat),k≤l.length→l.length - k<fuel→I8 N r0 (Ca l) l.length e d l.length (Ae (SR l)) fuel (H4 (l.take k)).length (l.length:Int) (k:Int) (Ca (H4 (l.take k)))=r0 (H4 l).length (Ca (H4 l))
 | 0,_,_,h=>by omega
 | fuel+1,k,hk,hfu=>by
  rw[I8,Vo]
  by_cases hlt:k<l.length
  ·have he:=Dk hlt
   obtain⟨hok,hm⟩:=hM _ (List.mem_of_getElem? he)
   have hix:(SR l)[k]?=some (l.getD k A4).ix:=by unfold SR;rw[List.getElem?_map,he];rfl
   have hxl:=lG l
   have hgx:(SR l).getD k 0=(l.getD k A4).ix:=by rw[List.getD_eq_getElem?_getD,hix];rfl
   have hqm:=ce _ hok
   have ih:=qF (e:=e) (d:=d) (r0:=r0) hM hf ha hl hN fuel (k+1) (by omega) (by omega)
   rw[pT he] at ih
   have hnl:=JR (l.take k)
   rw[List.length_take] at hnl
   have s1:∀ q:Rat,(Nat.beq 0 0&&(Nat.beq (cq q).length 3&&Nat.beq 3 3))=true:=fun q=>rfl
   have s2:∀ q:Rat,Nat.ble 3 (cq q).length=true:=fun q=>rfl
   have s3:∀ q:Rat,(cq q).take 3=(Uh q).av:=fun q=>rfl
   have s4:∀ q:Rat,(Nat.beq ((Uh q).av.length) 3&&Nat.ble 4 4)=true:=fun q=>rfl
   have s5:∀ (i:Int) (q:Rat),(Nat.beq ((setCells [AV.int .i64 i,.bool false,.nsl,.nsl] 1 (Uh q).av).length) 4&&Nat.ble 4 4)=true:=fun i q=>rfl
   have s6:∀ (i:Int) (q:Rat),(setCells [AV.int .i64 0,.bool false,.nsl,.nsl] 0 (setCells [AV.int .i64 i,.bool false,.nsl,.nsl] 1 (Uh q).av)).take 4=(EntD.mk i (Uh q)).av:=fun i q=>rfl
   have sg:∀ (q:Rat),qm q≤M+1→∀ K:Int→O R,E2 N (Uh q).av false K=K q.num.sign:=fun q hq K=>by
    have:=AO (R:=R) (N:=N) (x:=Uh q) (o:=false) (K:=K) (FW q) (hf.le (by rw[qr];omega))
    rw[cd] at this;exact this
   rw[Cp (by omega),cond_true,Bk hlt,cond_true,Z4 (by omega),hgx,oV hM hf ha (by omega) (by omega),lF ha he,s1,cond_true,s2,cond_true,s3,sg _ (by omega),Mw (by omega)]
   by_cases hq:(l.getD k A4).v.q=0
   ·rw[if_pos hq,List.append_nil] at ih
    have:((l.getD k A4).v.q.num.sign != 0)=false:=by rw[hq];rfl
    rw[this,cond_false];exact ih
   ·rw[if_neg hq] at ih
    have hs:((l.getD k A4).v.q.num.sign != 0)=true:=by
     have:=oQ (l.getD k A4).v.q
     rw[decide_eq_false hq] at this
     unfold bne;rw[this];rfl
    have hb:(Nat.ble ((H4 (l.take k)).length+1) 140737488355328&&Nat.ble (((H4 (l.take k)).length+1)*64) 140737488355328)=true:=by simp;omega
    rw[hs,cond_true,cond_true,s4,cond_true,s5,cond_true,hb,cond_true,s6,CA]
    rw[List.length_append,iA] at ih
    have e1:Ca [⟨(l.getD k A4).ix,Uh (l.getD k A4).v.q⟩]=(EntD.mk (l.getD k A4).ix (Uh (l.getD k A4).v.q)).av:=by unfold Ca;simp
    rw[e1] at ih
    exact ih
  ·have:k=l.length:=by omega
   subst this
   rw[Ck (by omega),cond_false,List.take_length]
theorem lH {N M:Nat} {l:List EntD} {e d:Bool} {r0:Nat→LA→O R} (hM:Kb M l) (hf:fit (16*(M+1)+80) N) (ha:FX l) (hl:l.length≤1000000000) (hN:l.length+2<N):Pl N (Ca l) l.length e d r0=r0 (H4 l).length (Ca (H4 l)):=by
 rw[IN,BT,kN ha hl hN]
 have:=qF (e:=e) (d:=d) (r0:=r0) hM hf ha hl (by omega) N 0 (Nat.zero_le _) (by omega)
 exact this
theorem iB {M:Nat} {l:List EntD} (hM:Kb M l):Kb (M+1) (H4 l):=by
 intro e he
 unfold H4 at he
 obtain⟨x,hx,rfl⟩:=List.mem_map.1 he
 obtain⟨h1,h2⟩:=hM x (List.mem_filter.1 hx).1
 exact⟨FW _,by rw[qr];have:=ce _ h1;omega⟩
theorem oX {n:Int} {l:List EntD} (h:rV n l=true):H4 l=l.map (fun e=>⟨e.ix,Uh e.v.q⟩):=by
 unfold H4
 congr 1
 rw[List.filter_eq_self]
 intro e he
 obtain⟨k,hk⟩:=List.getElem?_of_mem he
 have hkl:=(List.getElem?_eq_some_iff.1 hk).1
 unfold rV at h
 rw[Br] at h
 have:=h k (Nat.zero_le _) (by omega)
 unfold kL at this
 simp only[Bool.and_eq_true] at this
 have h3:=this.2.2.2
 have:l.getD k A4=e:=by rw[List.getD_eq_getElem?_getD,hk];rfl
 rw[this] at h3
 exact h3
theorem pU {n:Int} {l:List EntD} (h:rV n l=true):rV n (H4 l)=true:=by
 rw[oX h]
 unfold rV at h ⊢
 rw[Br] at h ⊢
 intro k h1 h2
 rw[List.length_map] at h2
 have hg:∀ j,j<l.length→(l.map (fun e:EntD=>(⟨e.ix,Uh e.v.q⟩:EntD))).getD j A4=⟨(l.getD j A4).ix,Uh (l.getD j A4).v.q⟩:=fun j hj=>by
  rw[List.getD_eq_getElem?_getD,List.getElem?_map,Dk hj];rfl
 have:=h k h1 h2
 unfold kL at this ⊢
 rw[hg k (by omega)]
 by_cases h0:k=0
 ·subst h0
  simp only[cd]
  simpa using this
 ·rw[hg (k - 1) (by omega)]
  simp only[cd]
  exact this
end
end Gx

namespace Gx
open Go
open IntKind (wrap)
section
variable {R:Type}
theorem cg {α:Type} {e:α→LA} {sz:Nat} (he:∀ a,(e a).length=sz):∀ (l:List α) (k:Nat),(l.flatMap e).take (k*sz)=(l.take k).flatMap e
 | [],k=>by simp
 | a::l,0=>by simp
 | a::l,k+1=>by
  rw[List.flatMap_cons,List.take_succ_cons,List.flatMap_cons,←cg he l k,Nat.succ_mul,List.take_append,he a]
  have h1:(e a).take (k*sz+sz)=e a:=List.take_of_length_le (by rw[he];omega)
  have h2:k*sz+sz - sz=k*sz:=by omega
  rw[h1,h2]
def z3:LA:=[.bool false,.nsl,.nsl]
def Dn (n k:Nat) (f:Nat→Rat):LA:=(List.range n).flatMap fun i=>if i<k then cq (f i) else z3
theorem sH (k:Nat) (f:Nat→Rat) (i:Nat):(if i<k then cq (f i) else z3:LA).length=3:=by split<;>rfl
theorem oY (n k:Nat) (f:Nat→Rat):(Dn n k f).length=n*3:=by
 unfold Dn
 rw[List.length_flatMap]
 have:(List.range n).map (fun i=>(if i<k then cq (f i) else z3:LA).length)=List.replicate n 3:=by
  apply List.ext_getElem?
  intro m
  by_cases hm:m<n
  ·simp only[List.getElem?_map,List.getElem?_range hm,Option.map_some,sH];simp[hm]
  ·simp[hm]
 rw[this];simp
theorem sI (n:Nat) (f:Nat→Rat):List.flatten (List.replicate n z3)=Dn n 0 f:=by
 unfold Dn
 rw[List.flatMap_def]
 congr 1
 apply List.ext_getElem?
 intro m
 by_cases hm:m<n<;>simp[hm]
theorem iC {n k:Nat} (h:k<n):List.range n=List.range k++k::(List.range n).drop (k+1):=by
 have h1:(List.range n)[k]?=some k:=by simp[h]
 conv=>lhs;rw[←List.take_append_drop k (List.range n),R3 h1]
 rw[List.take_range,Nat.min_eq_left (by omega)]
theorem ZT {n k x:Nat} (h:x ∈ (List.range n).drop k):k≤x:=by
 obtain⟨j,hj⟩:=List.getElem?_of_mem h
 rw[List.getElem?_drop] at hj
 obtain⟨h1,h2⟩:=List.getElem?_eq_some_iff.1 hj
 simp at h2;omega
theorem qt {n k:Nat} {f:Nat→Rat} (h:k<n):setCells (Dn n k f) (0+((k:Nat):Int).toNat*3) (cq (f k))=Dn n (k+1) f:=by
 rw[Int.toNat_natCast,Nat.zero_add]
 have e1:setCells (Dn n k f) (k*3) (cq (f k))=(Dn n k f).take (k*3)++cq (f k)++(Dn n k f).drop (k*3+3):=rfl
 rw[e1]
 unfold Dn
 have e2:k*3+3=(k+1)*3:=by omega
 rw[e2,cg (sH k f),B' (sH k f),List.take_range,Nat.min_eq_left (by omega)]
 conv=>rhs;rw[iC h]
 rw[List.flatMap_append,List.flatMap_cons,if_pos (by omega),List.append_assoc]
 congr 1
 ·rw[List.flatMap_def,List.flatMap_def]
  congr 1
  exact List.map_congr_left (fun i hi=>by have:=List.mem_range.1 hi;rw[if_pos this,if_pos (by omega)])
 ·congr 1
  rw[List.flatMap_def,List.flatMap_def]
  congr 1
  exact List.map_congr_left (fun i hi=>by have:=ZT hi;rw[if_neg (by omega),if_neg (by omega)])
def MB (n:Nat) (f:Nat→Rat):LA:=Dn n n f
theorem qG {N M n:Nat} {l:List EntD} {f e:Bool} {r0:Nat→Bool→LA→O R} (hM:Kb M l) (hf:fit (16*(M+1)+80) N) (ha:FX l) (hl:l.length≤1000000000) (hN:l.length<N) (hn:n≤16384) :
  ∀ (fuel g:Nat),g≤n→n - g<fuel→J7 N r0 (Ca l) l.length f e (n:Int) fuel n (g:Int) (Dn n g (fun i=>Ct l (i:Int)))=r0 n true (Dn n n (fun i=>Ct l (i:Int)))
 | 0,_,_,h=>by omega
 | fuel+1,g,hg,hfu=>by
  rw[J7,R5]
  by_cases hlt:g<n
  ·have s:∀ q:Rat,(Nat.beq (cq q).length 3&&(Nat.ble (0+((g:Nat):Int).toNat*3+3) (Dn n g (fun i=>Ct l (i:Int))).length&&!false))=true:=fun q=>by
    rw[oY,Int.toNat_natCast]
    have h1:Nat.beq (cq q).length 3=true:=rfl
    rw[h1];simp;omega
   rw[Cp (by omega),cond_true,oV hM hf ha (by omega) hN,Bk hlt,cond_true,s,cond_true,Mw (by omega)]
   have:=qt (f:=fun i=>Ct l (i:Int)) hlt
   rw[this]
   exact qG hM hf ha hl hN hn fuel (g+1) (by omega) (by omega)
  ·have:g=n:=by omega
   subst this
   rw[Ck (by omega),cond_false]
theorem oZ {N M n:Nat} {l:List EntD} {f e:Bool} {r0:Nat→Bool→LA→O R} (hM:Kb M l) (hf:fit (16*(M+2)+80) N) (hv:rV (n:Int) l=true) (hl:l.length≤1000000000) (hN:l.length+20000<N) (hn:n≤16384) :
  Oa N (Ca l) l.length f e (n:Int) r0=r0 n true (MB n (fun i=>Ct l (i:Int))):=by
 have ha:=oT hv
 rw[EG,Vu,Ck (by omega),decide_eq_false (show ¬ (n:Int)>16384 by omega)]
 simp only[cond_false,beq_self_eq_true,cond_true]
 rw[lH hM (hf.le (by omega)) ha hl (by omega),CA,JQ (iB hM) (hf.le (by omega)) (by have:=JR l;omega) (by have:=JR l;omega),pU hv]
 simp only[Bool.not_true,cond_false]
 rw[Nz,R6]
 have hb:(decide (0≤((n:Nat):Int))&&(decide (((n:Nat):Int)≤((n:Nat):Int))&&(decide (((n:Nat):Int)≤140737488355328)&&decide (((n:Nat):Int)*((56:Nat):Int)≤140737488355328))))=true:=by simp;omega
 rw[hb,cond_true,Int.toNat_natCast]
 have h0:=sI n (fun i=>Ct l (i:Int))
 unfold z3 at h0
 rw[h0]
 exact qG hM (hf.le (by omega)) ha hl (by omega) hn N 0 (Nat.zero_le _) (by omega)
end
end Gx

namespace Gx
open Go
open IntKind (wrap)
section
variable {R:Type}
def La (n:Nat) (f:Nat→RatD):LA:=(List.range n).flatMap fun i=>(f i).av
theorem kO (n:Nat) (f:Nat→Rat):MB n f=La n (fun i=>Uh (f i)):=by
 unfold MB Dn La
 rw[List.flatMap_def,List.flatMap_def]
 congr 1
 exact List.map_congr_left (fun i hi=>by rw[if_pos (List.mem_range.1 hi)];rfl)
theorem ci {n k:Nat} {f:Nat→RatD} (h:k<n):(La n f).drop (((k:Nat):Int).toNat*3)=(f k).av++((List.range n).drop (k+1)).flatMap (fun i=>(f i).av):=by
 rw[Int.toNat_natCast]
 unfold La
 have h1:(List.range n)[k]?=some k:=by simp[h]
 rw[B' (e:=fun i=>(f i).av) (sz:=3) (fun _=>rfl),R3 h1,List.flatMap_cons]
def Ue (n:Nat) (f:Nat→RatD):List EntD:=(List.range n).map fun (i:Nat)=>⟨(i:Int),f i⟩
theorem Uf (n:Nat) (f:Nat→RatD):(Ue n f).length=n:=by simp[Ue]
theorem qu (n:Nat) (f:Nat→RatD):Ca (Ue (n+1) f)=Ca (Ue n f)++(EntD.mk (n:Int) (f n)).av:=by
 unfold Ue
 rw[List.range_succ,List.map_append,iA]
 unfold Ca;simp
theorem iD (n:Nat) (f:Nat→RatD):FX (Ue n f):=by
 unfold FX Ue
 rw[List.pairwise_map]
 exact List.pairwise_lt_range.imp (fun h=>by simpa using h)
theorem lI {M n:Nat} {f:Nat→RatD} (h:∀ i,i<n→(f i).ok∧(f i).m≤M):Kb M (Ue n f):=by
 intro e he
 unfold Ue at he
 obtain⟨i,hi,rfl⟩:=List.mem_map.1 he
 exact h i (List.mem_range.1 hi)
def Ug (n:Nat) (f:Nat→RatD):List EntD:=H4 (Ue n f)
theorem qH {N M n:Nat} {f:Nat→RatD} {ff d:Bool} {r0:Nat→LA→O R} (hM:∀ i,i<n→(f i).ok∧(f i).m≤M) (hf:fit (16*(M+1)+80) N) (hn:n≤20000) (hN:n+2<N) :
  ∀ (fuel k:Nat) (l:Bool),k≤n→n - k<fuel→Dx N r0 (La n f) n ff d fuel k (k:Int) l (Ca (Ue k f))=r0 (Ug n f).length (Ca (Ug n f))
 | 0,_,_,_,h=>by omega
 | fuel+1,k,l,hk,hfu=>by
  rw[Dx,Jz]
  by_cases hlt:k<n
  ·have P3:=ci (f:=f) hlt
   have s1:Nat.ble 3 ((La n f).drop (((k:Nat):Int).toNat*3)).length=true:=by
    rw[P3,List.length_append]
    have:(f k).av.length=3:=rfl
    rw[this];simp
   have s2:((La n f).drop (((k:Nat):Int).toNat*3)).take 3=(f k).av:=by rw[P3];rfl
   have s3:(Nat.beq ((f k).av.length) 3&&Nat.ble 4 4)=true:=rfl
   have s4:(Nat.beq ((setCells [AV.int .i64 (k:Int),.bool false,.nsl,.nsl] 1 (f k).av).length) 4&&Nat.ble 4 4)=true:=rfl
   have s5:(setCells [AV.int .i64 0,.bool false,.nsl,.nsl] 0 (setCells [AV.int .i64 (k:Int),.bool false,.nsl,.nsl] 1 (f k).av)).take 4=(EntD.mk (k:Int) (f k)).av:=rfl
   have hb:(Nat.ble (k+1) 140737488355328&&Nat.ble ((k+1)*64) 140737488355328)=true:=by simp;omega
   have s6:(Ca (Ue k f)).take (k*4)=Ca (Ue k f):=by
    have:=CA (Ue k f)
    rwa [Uf] at this
   rw[Cp (by omega),cond_true,Bk hlt,cond_true,s1,cond_true,s2,s3,cond_true,s4,cond_true,hb,cond_true,s5,s6,←qu,Mw (by omega)]
   exact qH hM hf hn hN fuel (k+1) _ (by omega) (by omega)
  ·have:k=n:=by omega
   subst this
   have s6:(Ca (Ue k f)).take (k*4)=Ca (Ue k f):=by
    have:=CA (Ue k f)
    rwa [Uf] at this
   rw[Ck (by omega),cond_false,s6]
   have:=lH (N:=N) (l:=Ue k f) (e:=false) (d:=true) (r0:=fun m o=>r0 m o) (lI hM) hf (iD k f) (by rw[Uf];omega) (by rw[Uf];omega)
   rw[Uf] at this
   exact this
theorem JT {N M n:Nat} {f:Nat→RatD} {ff d:Bool} {r0:Nat→LA→O R} (hM:∀ i,i<n→(f i).ok∧(f i).m≤M) (hf:fit (16*(M+1)+80) N) (hn:n≤20000) (hN:n+2<N):Et N (La n f) n ff d r0=r0 (Ug n f).length (Ca (Ug n f)):=by
 rw[Q6,J3]
 exact qH hM hf hn hN N 0 false (Nat.zero_le _) (by omega)
def GM (c:LA) (rows:List (List EntD)):Prop:=c.length=rows.length∧∀ (i:Nat) (r:List EntD),rows[i]?=some r→∃ x,c[i]?=some x∧Je 4 x=some (Ca r,r.length)
def GQ (n:Nat) (c:LA) (fs:List (Nat→RatD)):Prop:=c.length=fs.length∧∀ (i:Nat) (f:Nat→RatD),fs[i]?=some f→∃ x,c[i]?=some x∧Je 3 x=some (La n f,n)
theorem kP {n:Nat} {c:LA} {fs:List (Nat→RatD)} (h:GQ n c fs) {k:Nat} {f:Nat→RatD} (hk:fs[k]?=some f) (K:LA→Nat→O R):Gk 3 (c.drop (((k:Nat):Int).toNat*1)) K=K (La n f) n:=by
 obtain⟨x,h1,h2⟩:=h.2 k f hk
 rw[Int.toNat_natCast,Nat.mul_one]
 unfold Gk
 rw[List.head?_drop,h1]
 simp[h2]
theorem eP {c:LA} {rows:List (List EntD)} (h:GM c rows) {k:Nat} {r:List EntD} (hk:rows[k]?=some r) (K:LA→Nat→O R):Gk 4 (c.drop (((k:Nat):Int).toNat*1)) K=K (Ca r) r.length:=by
 obtain⟨x,h1,h2⟩:=h.2 k r hk
 rw[Int.toNat_natCast,Nat.mul_one]
 unfold Gk
 rw[List.head?_drop,h1]
 simp[h2]
def AP (rows:List (List EntD)):LA:=rows.map fun r=>AV.imm (Ca r) r.length 4 false false
theorem o4 (rows:List (List EntD)):GM (AP rows) rows:=by
 refine⟨by simp[AP],fun i r h=>⟨_,by unfold AP;rw[List.getElem?_map,h];rfl,by simp[Je]⟩⟩
structure MatIs (v:LA) (rn cn:Int) (rows:List (List EntD)):Prop where
 is:∃ (x:AV) (c:LA),v=[.int .i64 rn,.int .i64 cn,x]∧Je 1 x=some (c,rows.length)∧GM c rows
theorem qI {N M n:Nat} {c:LA} {fs:List (Nat→RatD)} {ff d:Bool} {e:Int} {r0:LA→O R} {m:Int} (hc:GQ n c fs) (hM:∀ f ∈ fs,∀ i,i<n→(f i).ok∧(f i).m≤M) (hf:fit (16*(M+1)+80) N) (hn:n≤20000) (hN:n+2<N) (hfs:fs.length≤20000) :
  ∀ (fuel k:Nat),k≤fs.length→fs.length - k<fuel→Mc N r0 c fs.length ff d e fuel (k:Int) m k (AP ((fs.take k).map (Ug n)))=r0 [.int .i64 m,.int .i64 e,.imm (AP (fs.map (Ug n))) fs.length 1 false false]
 | 0,_,_,h=>by omega
 | fuel+1,k,hk,hfu=>by
  have hlen:∀ j,j≤fs.length→(AP ((fs.take j).map (Ug n))).length=j:=fun j hj=>by simp[AP];omega
  rw[Mc,Vp]
  by_cases hlt:k<fs.length
  ·obtain⟨f,hfk⟩:∃ f,fs[k]?=some f:=⟨_,List.getElem?_eq_getElem hlt⟩
   have hb:(Nat.ble (k+1) 140737488355328&&Nat.ble ((k+1)*24) 140737488355328)=true:=by simp;omega
   have e1:(AP ((fs.take k).map (Ug n))).take (k*1)++[AV.imm ((Ca (Ug n f)).take ((Ug n f).length*4)) (Ug n f).length 4 false false]=AP ((fs.take (k+1)).map (Ug n)):=by
    rw[Nat.mul_one,List.take_of_length_le (by rw[hlen k hk];exact Nat.le_refl _),CA,C7 hfk]
    simp[AP]
   rw[Cp (by omega),cond_true,Bk hlt,cond_true,kP hc hfk,JT (hM f (List.mem_of_getElem? hfk)) hf hn hN,hb,cond_true,e1,Mw (by omega)]
   exact qI hc hM hf hn hN hfs fuel (k+1) (by omega) (by omega)
  ·have:k=fs.length:=by omega
   subst this
   rw[Ck (by omega),cond_false,Nat.mul_one,List.take_of_length_le (by rw[hlen _ (Nat.le_refl _)];exact Nat.le_refl _),List.take_length]
theorem lJ {N M n:Nat} {c:LA} {fs:List (Nat→RatD)} {ff d:Bool} {e:Int} {r0:LA→O R} {Y:O R} (hc:GQ n c fs) (hM:∀ f ∈ fs,∀ i,i<n→(f i).ok∧(f i).m≤M) (hf:fit (16*(M+1)+80) N) (hn:n≤20000) (hN:n+2<N) (hfs:fs.length≤20000) (hN2:30000≤N)
  (hK:∀ v,MatIs v (fs.length:Int) e (fs.map (Ug n))→r0 v=Y):J4 N c fs.length ff d e r0=Y:=by
 rw[IQ,BU]
 obtain⟨k,rfl⟩:∃ k,N=k+1:=⟨N - 1,by omega⟩
 rw[Md,Vq]
 by_cases h0:0<fs.length
 ·obtain⟨f,hf0⟩:∃ f,fs[0]?=some f:=⟨_,List.getElem?_eq_getElem h0⟩
  have h1:decide ((0:Int)<((fs.length:Nat):Int))=true:=decide_eq_true (by omega)
  have h2:Af (0:Int) fs.length=true:=by have:=Bk (j:=0) h0;simpa using this
  have h3:∀ K:LA→Nat→O R,Gk 3 c K=K (La n f) n:=fun K=>by
   have:=kP hc hf0 K
   simpa using this
  rw[h1,cond_true,h2,cond_true,h3,JT (hM f (List.mem_of_getElem? hf0)) hf hn hN]
  have e1:[AV.imm ((Ca (Ug n f)).take ((Ug n f).length*4)) (Ug n f).length 4 false false]=AP ((fs.take 1).map (Ug n)):=by
   rw[CA]
   have:fs.take 1=[f]:=by
    have:=C7 hf0
    simpa using this
   rw[this];rfl
  rw[e1]
  have:=qI (N:=k+1) (ff:=ff) (d:=d) (e:=e) (r0:=r0) (m:=((fs.length:Nat):Int)) hc hM hf hn hN hfs k 1 (by omega) (by omega)
  refine Eq.trans this (hK _ ⟨_,_,rfl,?_,o4 _⟩)
  simp[Je]
 ·have hnil:fs=[]:=List.eq_nil_of_length_eq_zero (by omega)
  subst hnil
  have h1:decide ((0:Int)<((([]:List (Nat→RatD)).length:Nat):Int))=false:=by decide
  rw[h1,cond_false]
  exact hK _ ⟨_,[],rfl,rfl,⟨rfl,fun i r h=>by simp at h⟩⟩
end
end Gx

namespace Gx
open Go
open IntKind (wrap)
section
variable {R:Type}
theorem r8 {n:Int} {l:List EntD} (ha:FX l) (h:∀ e ∈ l,0≤e.ix∧e.ix<n∧e.v.q≠0):rV n l=true:=by
 unfold rV
 rw[Br]
 intro k _ hk
 have hk:k<l.length:=by omega
 have he:=Dk hk
 obtain⟨h1,h2,h3⟩:=h _ (List.mem_of_getElem? he)
 unfold kL
 simp only[Bool.and_eq_true,Bool.or_eq_true,decide_eq_true_eq,Bool.not_eq_true',decide_eq_false_iff_not]
 refine⟨h1,h2,?_,h3⟩
 by_cases h0:k=0
 ·exact .inl h0
 ·right
  have hp:=Dk (show k - 1<l.length by omega)
  obtain⟨a1,a2⟩:=List.getElem?_eq_some_iff.1 hp
  obtain⟨b1,b2⟩:=List.getElem?_eq_some_iff.1 he
  have:=(List.pairwise_iff_getElem.1 ha) (k - 1) k a1 b1 (by omega)
  rw[a2,b2] at this;exact this
theorem qv {n:Nat} {m:Int} {f:Nat→RatD} (h:(n:Int)≤m):rV m (Ug n f)=true:=by
 refine r8 ?_ (fun e he=>?_)
 ·unfold Ug H4 FX
  rw[List.pairwise_map]
  exact((iD n f).sublist List.filter_sublist)
 ·unfold Ug H4 at he
  obtain⟨x,hx,rfl⟩:=List.mem_map.1 he
  obtain⟨h1,h2⟩:=List.mem_filter.1 hx
  unfold Ue at h1
  obtain⟨i,hi,rfl⟩:=List.mem_map.1 h1
  have hi:=List.mem_range.1 hi
  refine⟨by simp,by simp;omega,?_⟩
  rw[cd]
  simpa using h2
theorem o5 {M n:Nat} {f:Nat→RatD} (h:∀ i,i<n→(f i).ok∧(f i).m≤M):Kb (M+1) (Ug n f):=iB (lI h)
theorem lK (n:Nat) (f:Nat→RatD):(Ug n f).length≤n:=by
 have:=JR (Ue n f)
 rw[Uf] at this;exact this
def C5 (rows:List (List EntD)) (i:Nat):List EntD:=rows.getD i []
theorem Pw {rows:List (List EntD)} {i:Nat} (h:i<rows.length):rows[i]?=some (C5 rows i):=by
 unfold C5;rw[List.getD_eq_getElem?_getD,List.getElem?_eq_getElem h];rfl
def mV (rn cn:Int) (rows:List (List EntD)):Bool:=(decide (0≤rn)&&decide (rn≤16384))&&((decide (0≤cn)&&decide (cn≤16384))&&(decide ((rows.length:Int)=rn)&&E8 0 rows.length (fun i=>rV cn (C5 rows i))))
def Hs (M L:Nat) (rows:List (List EntD)):Prop:=∀ r ∈ rows,Kb M r∧r.length≤L
theorem o6 {N M L:Nat} {rn cn:Int} {x:AV} {c:LA} {rows:List (List EntD)} {b:Bool} {r0:Bool→O R} (hc:GM c rows) (hM:Hs M L rows) (hf:fit (8*M+10) N) (hL:L<N) (hL2:L≤1000000000) (hr:rows.length≤1000) :
  ∀ (fuel d:Nat),d≤rows.length→rows.length - d<fuel→Mk N r0 c rows.length b [.int .i64 rn,.int .i64 cn,x] fuel (rows.length:Int) (d:Int)=r0 (E8 d (rows.length - d) (fun i=>rV cn (C5 rows i)))
 | 0,_,_,h=>by omega
 | fuel+1,d,hd,hfu=>by
  rw[Mk,Vv]
  by_cases hlt:d<rows.length
  ·have hrow:=Pw hlt
   obtain⟨m1,m2⟩:=hM _ (List.mem_of_getElem? hrow)
   have e1:rows.length - d=(rows.length - (d+1))+1:=by omega
   have hcn:∀ K:Int→O R,Ch .i64 (([.int .i64 rn,.int .i64 cn,x]:LA).drop 1) K=K cn:=fun K=>Eo K
   rw[Cp (by omega),cond_true,Bk hlt,cond_true,eP hc hrow,hcn,SG m1 hf (by omega) (by omega),e1,Pn,Mw (by omega),o6 hc hM hf hL hL2 hr fuel (d+1) (by omega) (by omega)]
   cases rV cn (C5 rows d)<;>rfl
  ·have:d=rows.length:=by omega
   subst this
   rw[Ck (by omega),cond_false,Nat.sub_self,R2]
theorem ZU {N:Nat} {z:Int} {r0:Bool→O R}:K7 N z r0=r0 (decide (0≤z)&&decide (z≤16384)):=by
 rw[AB];unfold AA
 by_cases h:z≥0
 ·rw[decide_eq_true h];rfl
 ·rw[decide_eq_false h];rfl
theorem cj {x:AV} {c:LA} {n:Nat} (h:Je 1 x=some (c,n)) (K:LA→Nat→O R):Gk 1 [x] K=K c n:=by
 unfold Gk;simp[h]
theorem iE {N M L:Nat} {rn cn:Int} {v:LA} {rows:List (List EntD)} {b:Bool} {r0:Bool→O R} (hv:MatIs v rn cn rows) (hM:Hs M L rows) (hf:fit (8*M+10) N) (hL:L<N) (hL2:L≤1000000000) (hr:rows.length≤1000) (hN:2000≤N) :
  T9 N v b r0=r0 (mV rn cn rows):=by
 obtain⟨x,c,rfl,hx,hc⟩:=hv.is
 rw[JG,BX,Eo,ZU]
 have hcn:∀ K:Int→O R,Ch .i64 (([.int .i64 rn,.int .i64 cn,x]:LA).drop 1) K=K cn:=fun K=>Eo K
 have hxx:∀ K:LA→Nat→O R,Gk 1 (([.int .i64 rn,.int .i64 cn,x]:LA).drop 2) K=K c rows.length:=fun K=>cj hx K
 unfold mV
 cases (decide (0≤rn)&&decide (rn≤16384)) with
 | false=>rfl
 | true =>
  simp only[Bool.not_true,beq_self_eq_true,cond_true,Bool.true_and]
  rw[hcn,ZU]
  cases (decide (0≤cn)&&decide (cn≤16384)) with
  | false=>rfl
  | true =>
   simp only[Bool.not_true,cond_false,beq_self_eq_true,cond_true,Bool.true_and]
   rw[hxx,Eo]
   by_cases h:(rows.length:Int)=rn
   ·have:(((rows.length:Nat):Int) != rn)=false:=by rw[h];simp
    rw[this,decide_eq_true h]
    simp only[cond_false,Bool.true_and]
    rw[Re,Vw,hxx]
    exact o6 hc hM hf hL hL2 hr N 0 (Nat.zero_le _) (by omega)
   ·have:(((rows.length:Nat):Int) != rn)=true:=by simpa using h
    rw[this,decide_eq_false h];rfl
theorem o7 {N M L:Nat} {rn cn:Int} {x:AV} {c:LA} {rows:List (List EntD)} {b:Bool} {r0:Bool→O R} (hx:Je 1 x=some (c,rows.length)) (hrn:(rows.length:Int)=rn) (hc:GM c rows) (hM:Hs M L rows) (hf:fit (8*M+10) N) (hL:L<N) (hL2:L≤1000000000) (hr:rows.length≤1000) :
  ∀ (fuel d:Nat),d≤rows.length→rows.length - d<fuel→J9 N r0 b [.int .i64 rn,.int .i64 cn,x] fuel (d:Int)=r0 (E8 d (rows.length - d) (fun i=>rV cn (C5 rows i)))
 | 0,_,_,h=>by omega
 | fuel+1,d,hd,hfu=>by
  have hcn:∀ K:Int→O R,Ch .i64 (([.int .i64 rn,.int .i64 cn,x]:LA).drop 1) K=K cn:=fun K=>Eo K
  have hxx:∀ K:LA→Nat→O R,Gk 1 (([.int .i64 rn,.int .i64 cn,x]:LA).drop 2) K=K c rows.length:=fun K=>cj hx K
  rw[J9,R9,Eo]
  by_cases hlt:d<rows.length
  ·have hrow:=Pw hlt
   obtain⟨m1,m2⟩:=hM _ (List.mem_of_getElem? hrow)
   have e1:rows.length - d=(rows.length - (d+1))+1:=by omega
   rw[Cp (by omega),cond_true,hxx,Bk hlt,cond_true,eP hc hrow,hcn,JQ m1 hf (by omega) (by omega),e1,Pn,Mw (by omega),o7 hx hrn hc hM hf hL hL2 hr fuel (d+1) (by omega) (by omega)]
   cases rV cn (C5 rows d)<;>rfl
  ·have:d=rows.length:=by omega
   subst this
   rw[Ck (by omega),cond_false,Nat.sub_self,R2]
theorem eQ {N M L:Nat} {rn cn:Int} {v:LA} {rows:List (List EntD)} {b:Bool} {r0:Bool→O R} (hv:MatIs v rn cn rows) (hM:Hs M L rows) (hf:fit (8*M+10) N) (hL:L<N) (hL2:L≤1000000000) (hr:rows.length≤1000) (hN:2000≤N) :
  Ob N v b r0=r0 (mV rn cn rows):=by
 obtain⟨x,c,rfl,hx,hc⟩:=hv.is
 have hcn:∀ K:Int→O R,Ch .i64 (([.int .i64 rn,.int .i64 cn,x]:LA).drop 1) K=K cn:=fun K=>Eo K
 have hxx:∀ K:LA→Nat→O R,Gk 1 (([.int .i64 rn,.int .i64 cn,x]:LA).drop 2) K=K c rows.length:=fun K=>cj hx K
 rw[EP,Vx,Eo]
 unfold mV
 by_cases h1:rn<0
 ·rw[Cp h1,decide_eq_false (show ¬ 0≤rn by omega)];rfl
 ·rw[Ck h1,decide_eq_true (show 0≤rn by omega)]
  simp only[beq_self_eq_true,cond_true,Bool.true_and]
  rw[Eo]
  by_cases h2:rn≤16384
  ·rw[decide_eq_true h2,decide_eq_false (show ¬ rn>16384 by omega)]
   simp only[cond_false,beq_self_eq_true,cond_true,Bool.true_and]
   rw[hcn]
   by_cases h3:cn<0
   ·rw[decide_eq_true h3,decide_eq_false (show ¬ 0≤cn by omega)];rfl
   ·rw[decide_eq_false h3,decide_eq_true (show 0≤cn by omega)]
    simp only[cond_false,beq_self_eq_true,cond_true,Bool.true_and]
    rw[hcn]
    by_cases h4:cn≤16384
    ·rw[decide_eq_true h4,decide_eq_false (show ¬ cn>16384 by omega)]
     simp only[cond_false,beq_self_eq_true,cond_true,Bool.true_and]
     rw[hxx,Eo]
     by_cases h:(rows.length:Int)=rn
     ·have:(((rows.length:Nat):Int) != rn)=false:=by rw[h];simp
      rw[this,decide_eq_true h]
      simp only[cond_false,Bool.true_and]
      rw[N0,Sa]
      exact o7 hx h hc hM hf hL hL2 hr N 0 (Nat.zero_le _) (by omega)
     ·have:(((rows.length:Nat):Int) != rn)=true:=by simpa using h
      rw[this,decide_eq_false h];rfl
    ·rw[decide_eq_false h4,decide_eq_true (show cn>16384 by omega)];rfl
  ·rw[decide_eq_false h2,decide_eq_true (show rn>16384 by omega)];rfl
end
end Gx

namespace Gx
open Go
open IntKind (wrap)
section
variable {R:Type}
def Gh (n:Nat) (fs:List (Nat→RatD)):LA:=fs.map fun f=>AV.imm (La n f) n 3 false false
theorem ZV (n:Nat) (fs:List (Nat→RatD)):GQ n (Gh n fs) fs:=⟨by simp[Gh],fun i f h=>⟨_,by unfold Gh;rw[List.getElem?_map,h];rfl,by simp[Je]⟩⟩
theorem pV {A:LA} {m:Nat} {x:AV}:(A++List.replicate (m+1) AV.nsl).set A.length x=(A++[x])++List.replicate m AV.nsl:=by
 rw[List.set_append_right _ _ (Nat.le_refl _)]
 simp[List.replicate_succ]
theorem kQ (n:Nat) (f:Nat→Rat):(MB n f).length=n*3:=oY n n f
def QR (rows:List (List EntD)):List (Nat→RatD):=rows.map fun l (i:Nat)=>Uh (Ct l (i:Int))
theorem o8 {N M L n:Nat} {x:AV} {c:LA} {rows:List (List EntD)} {b:Bool} {r0:Nat→LA→O R} (hx:Je 1 x=some (c,rows.length)) (hc:GM c rows) (hM:Hs M L rows) (hf:fit (16*(M+2)+80) N) (hL:L+20000<N) (hL2:L≤1000000000) (hr:rows.length≤1000) (hn:n≤16384) (hv:∀ i,i<rows.length→rV (n:Int) (C5 rows i)=true) :
  ∀ (fuel d:Nat),d≤rows.length→rows.length - d<fuel→El N r0 b [.int .i64 (rows.length:Int),.int .i64 (n:Int),x] fuel rows.length (d:Int) (Gh n ((QR rows).take d)++List.replicate (rows.length - d) AV.nsl)=r0 rows.length (Gh n (QR rows))
 | 0,_,_,h=>by omega
 | fuel+1,d,hd,hfu=>by
  have hcn:∀ K:Int→O R,Ch .i64 (([.int .i64 (rows.length:Int),.int .i64 (n:Int),x]:LA).drop 1) K=K (n:Int):=fun K=>Eo K
  have hxx:∀ K:LA→Nat→O R,Gk 1 (([.int .i64 (rows.length:Int),.int .i64 (n:Int),x]:LA).drop 2) K=K c rows.length:=fun K=>cj hx K
  have hel:(QR rows).length=rows.length:=by simp[QR]
  rw[El,K6,Eo]
  by_cases hlt:d<rows.length
  ·have hrow:=Pw hlt
   obtain⟨m1,m2⟩:=hM _ (List.mem_of_getElem? hrow)
   have hfd:(QR rows)[d]?=some (fun i:Nat=>Uh (Ct (C5 rows d) (i:Int))):=by unfold QR;rw[List.getElem?_map,hrow];rfl
   have hlen:(Gh n ((QR rows).take d)).length=d:=by simp[Gh,hel];omega
   have e1:rows.length - d=(rows.length - (d+1))+1:=by omega
   have hset:=pV (A:=Gh n ((QR rows).take d)) (m:=rows.length - (d+1)) (x:=AV.imm ((MB n (fun i=>Ct (C5 rows d) (i:Int))).take (n*3)) n 3 false false)
   rw[hlen] at hset
   rw[Cp (by omega),cond_true,hxx,Bk hlt,cond_true,eP hc hrow,hcn,oZ m1 hf (hv d hlt) (by omega) (by omega) hn,cond_true,mN (x:=d) (by rw[List.length_append,hlen];simp;omega),cond_true,Mw (by omega),Int.toNat_natCast,Nat.zero_add,Nat.mul_one,e1,hset]
   have e2:Gh n ((QR rows).take d)++[AV.imm ((MB n (fun i=>Ct (C5 rows d) (i:Int))).take (n*3)) n 3 false false]=Gh n ((QR rows).take (d+1)):=by
    rw[List.take_of_length_le (i:=n*3) (by rw[kQ];exact Nat.le_refl _),kO,C7 hfd]
    simp[Gh]
   rw[e2]
   exact o8 hx hc hM hf hL hL2 hr hn hv fuel (d+1) (by omega) (by omega)
  ·have:d=rows.length:=by omega
   subst this
   rw[Ck (by omega),cond_false,List.take_of_length_le (by rw[hel];exact Nat.le_refl _)];simp
theorem o9 {rn cn:Int} {rows:List (List EntD)} (h:mV rn cn rows=true):rn=(rows.length:Int)∧(∃ n:Nat,cn=(n:Int)∧n≤16384)∧∀ i,i<rows.length→rV cn (C5 rows i)=true:=by
 unfold mV at h
 simp only[Bool.and_eq_true,decide_eq_true_eq,Br] at h
 obtain⟨_,⟨h1,h2⟩,h3,h4⟩:=h
 exact⟨h3.symm,⟨cn.toNat,by omega,by omega⟩,fun i hi=>h4 i (Nat.zero_le _) (by omega)⟩
theorem QS {N M L n:Nat} {v:LA} {rows:List (List EntD)} {b:Bool} {r0:Nat→LA→O R} (hv:MatIs v (rows.length:Int) (n:Int) rows) (hm:mV (rows.length:Int) (n:Int) rows=true) (hM:Hs M L rows) (hf:fit (16*(M+2)+80) N) (hL:L+20000<N) (hL2:L≤1000000000) (hr:rows.length≤1000) :
  Fp N v b r0=r0 rows.length (Gh n (QR rows)):=by
 obtain⟨x,c,rfl,hx,hc⟩:=hv.is
 obtain⟨_,⟨n',h1,h2⟩,h3⟩:=o9 hm
 have hn:n≤16384:=by omega
 rw[T5,Lr,Eo]
 have hb:(decide (0≤((rows.length:Nat):Int))&&(decide (((rows.length:Nat):Int)≤((rows.length:Nat):Int))&&(decide (((rows.length:Nat):Int)≤140737488355328)&&decide (((rows.length:Nat):Int)*((24:Nat):Int)≤140737488355328))))=true:=by simp;omega
 rw[hb,cond_true,Int.toNat_natCast]
 have:=o8 (b:=b) (r0:=r0) hx hc hM hf hL hL2 hr hn h3 N 0 (Nat.zero_le _) (by omega)
 rw[Nat.sub_zero] at this
 exact this
def SH (rows:List (List EntD)) (i j:Nat):Bool:=!decide (i=j)&&(!decide (Ct (C5 rows i) (j:Int)=0)||!decide (Ct (C5 rows j) (i:Int)=0))
def m8 (rows:List (List EntD)) (f l:Nat) (i j:Nat):Bool:=(decide (i<f)&&SH rows i j)||(decide (i=f)&&(decide (j<l)&&SH rows f j))
theorem o_ {N M n k:Nat} {f:Nat→RatD} (hk:k<n) (hok:(f k).ok) (hm:(f k).m≤M) (hf:fit (8*M+10) N) (K:Int→O R):Nat.ble 3 ((La n f).drop (((k:Nat):Int).toNat*3)).length=true∧E2 N (((La n f).drop (((k:Nat):Int).toNat*3)).take 3) false K=K (f k).q.num.sign:=by
 have P3:=ci (f:=f) hk
 constructor
 ·rw[P3,List.length_append]
  have:(f k).av.length=3:=rfl
  rw[this];simp
 ·have s2:((La n f).drop (((k:Nat):Int).toNat*3)).take 3=(f k).av:=by rw[P3];rfl
  rw[s2]
  exact AO hok (hf.le (by omega))
theorem lL {n:Nat} {c:LA} {fs:List (Nat→RatD)} (h:GQ n c fs) {k:Nat} {f:Nat→RatD} (hk:fs[k]?=some f) (K:LA→Nat→O R):Gk 3 (c.drop (0+((k:Nat):Int).toNat*1)) K=K (La n f) n:=by
 rw[Nat.zero_add];exact kP h hk K
theorem eR {n k i j:Nat} {A:Nat→Nat→Bool} {b:Bool} (hk:i<k) (hi:i<n):(TB n k A).set i (A6 ((Nc n (A i)).set (((j:Nat):Int).toNat*1) (.bool b)) n 1)=TB n k (mO A i j b):=qc hk hi
theorem qJ {N M n f:Nat} {x:AV} {rows:List (List EntD)} {c:Bool} {fc:LA} {k0:Nat→Int→LA→O R} {r0:Int→LA→O R} {r1:LA→Nat→O R} (hfc:GQ n fc (QR rows)) (hrl:rows.length=n) (hq:∀ i j:Nat,i<n→j<n→(Uh (Ct (C5 rows i) (j:Int))).m≤M) (hf:fit (8*M+10) N) (hn:n≤1000) (hfn:f<n) :
  ∀ (fuel l:Nat),l≤n→n - l<fuel→D7 N k0 r0 r1 n n c [.int .i64 (n:Int),.int .i64 (n:Int),x] fc fuel (f:Int) (l:Int) (TB n (f+1) (m8 rows f l))=k0 n ((f+1:Nat):Int) (TB n (f+1) (m8 rows f n))
 | 0,_,_,h=>by omega
 | fuel+1,l,hl,hfu=>by
  rw[D7,Mx,Eo]
  by_cases hlt:l<n
  ·have hrow:∀ i,i<n→(QR rows)[i]?=some (fun j:Nat=>Uh (Ct (C5 rows i) (j:Int))):=fun i hi=>by
    unfold QR;rw[List.getElem?_map,Pw (by omega)];rfl
   have ih:=qJ (c:=c) (k0:=k0) (r0:=r0) (r1:=r1) (x:=x) hfc hrl hq hf hn hfn fuel (l+1) (by omega) (by omega)
   have fin:∀ b:Bool,b=SH rows f l→D7 N k0 r0 r1 n n c [.int .i64 (n:Int),.int .i64 (n:Int),x] fc fuel (f:Int) ((l+1:Nat):Int) (TB n (f+1) (mO (m8 rows f l) f l b))=k0 n ((f+1:Nat):Int) (TB n (f+1) (m8 rows f n)):=by
    intro b hb
    rw[←ih]
    congr 1
    refine jq (fun i j hi _ hj=>?_)
    unfold mO m8
    by_cases e1:i=f
    ·subst e1
     by_cases e2:j=l
     ·subst e2;simp[hb]
     ·have:decide (j<l+1)=decide (j<l):=by by_cases h:j<l<;>simp[h]<;>omega
      simp[e2,this]
    ·simp[e1]
   have sgn:∀ (i j:Nat) (hi:i<n) (hj:j<n) (K:Int→O R),Nat.ble 3 ((La n (fun j:Nat=>Uh (Ct (C5 rows i) (j:Int)))).drop (((j:Nat):Int).toNat*3)).length=true∧E2 N (((La n (fun j:Nat=>Uh (Ct (C5 rows i) (j:Int)))).drop (((j:Nat):Int).toNat*3)).take 3) false K=K (Ct (C5 rows i) (j:Int)).num.sign:=fun i j hi hj K=>by
    have:=o_ (N:=N) (M:=M) (f:=fun j:Nat=>Uh (Ct (C5 rows i) (j:Int))) hj (FW _) (hq i j hi hj) hf K
    rw[cd] at this;exact this
   have ne0:∀ q:Rat,(q.num.sign != 0)=!decide (q=0):=fun q=>by unfold bne;rw[oQ]
   rw[Cp (by omega),cond_true,Bk hfn,cond_true,Int.toNat_natCast f,T2 (by omega) hfn,Mw (by omega)]
   by_cases e1:f=l
   ·have:(((f:Nat):Int) != ((l:Nat):Int))=false:=by rw[e1];simp
    rw[this]
    have hft:(false==true)=false:=rfl
    rw[hft,cond_false,Bk hlt,cond_true,T2 (by omega) hfn,qe hlt,cond_true,eR (by omega) hfn]
    exact fin false (by unfold SH;rw[decide_eq_true e1];rfl)
   ·have:(((f:Nat):Int) != ((l:Nat):Int))=true:=by simp;omega
    rw[this]
    simp only[beq_self_eq_true,cond_true]
    have hg1:=fun K:LA→Nat→O R=>lL hfc (hrow f hfn) K
    have hg2:=fun K:LA→Nat→O R=>lL hfc (hrow l hlt) K
    rw[Int.toNat_natCast] at hg1
    rw[hg1,Bk hlt,cond_true,(sgn f l hfn hlt (fun z=>none)).1,cond_true,(sgn f l hfn hlt _).2,ne0]
    by_cases a1:Ct (C5 rows f) (l:Int)=0
    ·rw[decide_eq_true a1]
     simp only[Bool.not_true,beq_self_eq_true,cond_true]
     have h9:=(sgn l f hlt hfn (fun z=>none)).1
     have h8:=fun K=>(sgn l f hlt hfn K).2
     rw[hg2,Bk hfn,cond_true]
     rw[Int.toNat_natCast] at h9 h8
     rw[h9,cond_true,h8,T2 (by omega) hfn,qe hlt,cond_true,ne0,eR (by omega) hfn]
     refine fin _ ?_
     unfold SH
     rw[decide_eq_false e1,decide_eq_true a1]
     cases decide (Ct (C5 rows l) (f:Int)=0)<;>rfl
    ·rw[decide_eq_false a1]
     have hft:((!false)==false)=false:=rfl
     rw[hft,cond_false,cond_true,T2 (by omega) hfn,qe hlt,cond_true,eR (by omega) hfn]
     refine fin _ ?_
     unfold SH
     rw[decide_eq_false e1,decide_eq_false a1];rfl
  ·have:l=n:=by omega
   subst this
   rw[Ck (by omega),cond_false,Mw (by omega)]
end
end Gx

namespace Gx
open Go
open IntKind (wrap)
section
variable {R:Type}
theorem qK {N M n:Nat} {x:AV} {rows:List (List EntD)} {c:Bool} {fc:LA} {r0:Int→LA→O R} {r1:LA→Nat→O R} (hN:2000≤N) (hfc:GQ n fc (QR rows)) (hrl:rows.length=n) (hq:∀ i j:Nat,i<n→j<n→(Uh (Ct (C5 rows i) (j:Int))).m≤M) (hf:fit (8*M+10) N) (hn:n≤1000) :
  ∀ (fuel l:Nat),l≤n→n - l<fuel→D8 N r0 r1 n c [.int .i64 (n:Int),.int .i64 (n:Int),x] fc fuel n (l:Int) (TB n l (m8 rows l 0))=r1 (HB n (Cx n (SH rows))) n
 | 0,_,_,h=>by omega
 | fuel+1,l,hl,hfu=>by
  rw[D8,My,Eo]
  by_cases hlt:l<n
  ·have hb:(decide (0≤((n:Nat):Int))&&(decide (((n:Nat):Int)≤((n:Nat):Int))&&(decide (((n:Nat):Int)≤140737488355328)&&decide (((n:Nat):Int)*((1:Nat):Int)≤140737488355328))))=true:=by simp;omega
   have hb2:Nat.ble 1 n=true:=by simp;omega
   rw[Cp (by omega),cond_true,Eo,hb,cond_true,Bk hlt,cond_true,Int.toNat_natCast,hb2,cond_true,Int.toNat_natCast,qd hlt (by intro j;simp[m8])]
   refine Eq.trans (qJ hfc hrl hq hf hn hlt N 0 (Nat.zero_le _) (by omega)) ?_
   have:TB n (l+1) (m8 rows l n)=TB n (l+1) (m8 rows (l+1) 0):=jq (fun i j hi _ hj=>by
    unfold m8
    by_cases e1:i=l
    ·subst e1;simp[hj]
    ·have h1:i<l:=by omega
     have h2:¬ i=l+1:=by omega
     simp[e1,h1,hi,h2])
   rw[this]
   exact qK hN hfc hrl hq hf hn fuel (l+1) (by omega) (by omega)
  ·have:l=n:=by omega
   subst this
   rw[Ck (by omega),cond_false]
   have:TB l l (m8 rows l 0)=TB l l (SH rows):=jq (fun i j hi _ hj=>by unfold m8;simp[hi])
   rw[this,ZA hN hn]
theorem lM {M:Nat} {l:List EntD} (h:Kb M l) (i:Int):qm (Ct l i)≤M+1:=by
 unfold Ct
 cases hf:l.find? (fun e=>decide (e.ix=i)) with
 | none=>rw[rs];omega
 | some e =>
  have hm:=List.mem_of_find?_eq_some hf
  obtain⟨h1,h2⟩:=h e hm
  have:=ce _ h1
  simp only;omega
theorem lN {M L:Nat} {rows:List (List EntD)} (h:Hs M L rows) (i:Nat):Kb M (C5 rows i)∧(C5 rows i).length≤L:=by
 by_cases hi:i<rows.length
 ·exact h _ (List.mem_of_getElem? (Pw hi))
 ·have:C5 rows i=[]:=by unfold C5;rw[List.getD_eq_getElem?_getD,List.getElem?_eq_none (by omega)];rfl
  rw[this];exact⟨(fun e he=>by cases he),Nat.zero_le _⟩
theorem Px {N M L:Nat} {rn cn:Int} {v:LA} {rows:List (List EntD)} {c:Bool} {r0:Int→LA→O R} {r1:LA→Nat→O R} {Y:O R} (hv:MatIs v rn cn rows) (hM:Hs M L rows) (hf:fit (16*(M+2)+80) N) (hL:L+20000<N) (hL2:L≤1000000000) (hr:rows.length≤1000)
  (h1:mV rn cn rows=false→r0 1 []=Y) (h2:mV rn cn rows=true→rn≠cn→r0 4 []=Y) (h3:mV rn cn rows=true→rn=cn→r1 (HB rows.length (Cx rows.length (SH rows))) rows.length=Y):Ja N v c r0 r1=Y:=by
 have hv0:=hv
 obtain⟨x,cc,rfl,hx,hc⟩:=hv.is
 rw[Xr,N1]
 have s1:Nat.ble 3 ([AV.int .i64 rn,AV.int .i64 cn,x]:LA).length=true:=rfl
 have s2:([AV.int .i64 rn,AV.int .i64 cn,x]:LA).take 3=[AV.int .i64 rn,AV.int .i64 cn,x]:=rfl
 have hcn:∀ K:Int→O R,Ch .i64 (([.int .i64 rn,.int .i64 cn,x]:LA).drop 1) K=K cn:=fun K=>Eo K
 rw[s1,cond_true,s2,eQ hv0 hM (hf.le (by omega)) (by omega) hL2 hr (by omega)]
 cases hm:mV rn cn rows with
 | false=>exact h1 hm
 | true =>
  rw[Bool.not_true,cond_false,Eo,hcn]
  by_cases he:rn=cn
  ·obtain⟨e1,⟨n,e2,e3⟩,e4⟩:=o9 hm
   subst he
   have hn:n=rows.length:=by omega
   subst hn
   have:(rn != rn)=false:=by simp
   rw[this,cond_false,cond_true]
   subst e1
   rw[QS hv0 hm hM hf hL hL2 hr,Eo]
   have hb:(decide (0≤((rows.length:Nat):Int))&&(decide (((rows.length:Nat):Int)=((rows.length:Nat):Int))&&(decide (((rows.length:Nat):Int)≤140737488355328)&&decide (((rows.length:Nat):Int)*((24:Nat):Int)≤140737488355328))))=true:=by simp;omega
   rw[hb,cond_true,Int.toNat_natCast,ry rows.length (m8 rows 0 0)]
   refine Eq.trans (qK (M:=M+1) (by omega) (ZV _ _) rfl (fun i j _ _=>by rw[qr];exact lM (lN hM i).1 _) (hf.le (by omega)) hr N 0 (Nat.zero_le _) (by omega)) ?_
   exact h3 hm rfl
  ·have:(rn != cn)=true:=by simpa using he
   rw[this,cond_true]
   exact h2 hm he
def qw (l:List EntD) (j:Nat):Prop:=∃ e ∈ l,e.ix=(j:Int)
def Qp (rows:List (List EntD)) (f l:Nat) (x y:Nat):Prop:=∃ a b:Nat,a≠b∧((x=a∧y=b)∨(x=b∧y=a))∧((a<f∧qw (C5 rows a) b)∨(a=f∧qw ((C5 rows f).take l) b))
theorem oa {N n f:Nat} {rows:List (List EntD)} {c:LA} {d:Nat} {b:Bool} {e:Int} {k1:Int→Int→LA→O R} {r0:Nat→Int→LA→O R} {Y:O R} (hv:rV (n:Int) (C5 rows f)=true) (hfn:f<n) (hl:(C5 rows f).length≤1000000000)
  (hK:∀ S,Sets n (Qp rows f (C5 rows f).length) S→k1 e ((f+1:Nat):Int) (SA S)=Y) (hf:f≤1000) :
  ∀ (fuel l:Nat) (S:List (List Int)),l≤(C5 rows f).length→(C5 rows f).length - l<fuel→Sets n (Qp rows f l) S →
   F4 N k1 r0 n c d b e (Ca (C5 rows f)) (C5 rows f).length fuel (f:Int) (f:Int) ((C5 rows f).length:Int) (l:Int) (SA S)=Y
 | 0,_,_,_,h,_=>by omega
 | fuel+1,l,S,hll,hfu,hS=>by
  rw[F4,Ps]
  by_cases hlt:l<(C5 rows f).length
  ·have he:=Dk hlt
   obtain⟨v1,v2⟩:=r6 he
   have s1:(Nat.beq 0 0&&(Nat.beq (((C5 rows f).getD l A4).av.length) 4&&Nat.beq 4 4))=true:=rfl
   have s4:∀ K:Int→O R,Ch .i64 ((C5 rows f).getD l A4).av K=K ((C5 rows f).getD l A4).ix:=fun K=>Eo K
   have hok:kL (n:Int) (C5 rows f) l=true:=by
    unfold rV at hv;exact(Br.1 hv) l (Nat.zero_le _) (by omega)
   unfold kL at hok
   simp only[Bool.and_eq_true,decide_eq_true_eq] at hok
   obtain⟨w,hw⟩:∃ w:Nat,((C5 rows f).getD l A4).ix=(w:Int):=⟨_,Int.eq_ofNat_of_zero_le hok.1 |>.choose_spec⟩
   have hwn:w<n:=by omega
   have hnext:∀ Q:Nat→Nat→Prop,(∀ x y,Q x y↔(Qp rows f l x y∨(f≠w∧((x=f∧y=w)∨(x=w∧y=f)))))→∀ x y,Qp rows f (l+1) x y↔Q x y:=by
    intro Q hQ x y
    rw[hQ]
    unfold Qp
    rw[C7 he]
    constructor
    ·rintro⟨a,b2,h1,h2,h3 | ⟨h3,e',h4,h5⟩⟩
     ·exact .inl ⟨a,b2,h1,h2,.inl h3⟩
     ·rcases List.mem_append.1 h4 with h4 | h4
      ·exact .inl ⟨a,b2,h1,h2,.inr ⟨h3,e',h4,h5⟩⟩
      ·rw[List.mem_singleton.1 h4,hw] at h5
       have:b2=w:=by omega
       subst this;subst h3
       exact .inr ⟨h1,h2⟩
    ·rintro(⟨a,b2,h1,h2,h3 | ⟨h3,e',h4,h5⟩⟩ | ⟨h1,h2⟩)
     ·exact⟨a,b2,h1,h2,.inl h3⟩
     ·exact⟨a,b2,h1,h2,.inr ⟨h3,e',List.mem_append_left _ h4,h5⟩⟩
     ·exact⟨f,w,h1,h2,.inr ⟨rfl,_,List.mem_append_right _ (List.mem_singleton.2 rfl),hw⟩⟩
   rw[Cp (by omega),cond_true,Bk hlt,cond_true,v2,cond_true,v1,s1,cond_true,s4,hw]
   by_cases e1:w=f
   ·have:(((w:Nat):Int) != ((f:Nat):Int))=false:=by rw[e1];simp
    rw[this,cond_false,Mw (by omega)]
    refine oa hv hfn hl hK hf fuel (l+1) S (by omega) (by omega) (hS.congr fun x y _ _=>hnext _ (fun x y=>Iff.rfl) x y |>.trans ?_)
    constructor
    ·rintro(h | ⟨h,_⟩)
     ·exact h
     ·exact absurd e1.symm h
    ·exact .inl
   ·have:(((w:Nat):Int) != ((f:Nat):Int))=true:=by simp;omega
    obtain⟨lf,hlf⟩:=hS.get hfn
    have hlfl:=(List.getElem?_eq_some_iff.1 hlf).1
    have S1:=hS.add hlf hwn
    obtain⟨lw,hlw⟩:=S1.get hwn
    rw[this,cond_true,Bk hfn,cond_true,s4,s4,hw,Bk hwn,cond_true]
    simp only[Int.toNat_natCast]
    rw[Pm hlf]
    simp only[Nat.beq_refl,cond_true]
    rw[SO (by rw[dp];exact hlfl),YU,List.set_set,FN,Pm hlw,SO (by rw[dp];rw[S1.1];exact hwn),YU,List.set_set,FN,Mw (by omega)]
    refine oa hv hfn hl hK hf fuel (l+1) _ (by omega) (by omega) ((S1.add hlw hfn).congr fun x y _ _=>(hnext _ (fun x y=>Iff.rfl) x y).trans ?_)
    constructor
    ·rintro(h | ⟨_,⟨h1,h2⟩ | ⟨h1,h2⟩⟩)
     ·exact .inl (.inl h)
     ·exact .inl (.inr ⟨h1,h2⟩)
     ·exact .inr ⟨h1,h2⟩
    ·rintro((h | ⟨h1,h2⟩) | ⟨h1,h2⟩)
     ·exact .inl h
     ·exact .inr ⟨fun e=>e1 e.symm,.inl ⟨h1,h2⟩⟩
     ·exact .inr ⟨fun e=>e1 e.symm,.inr ⟨h1,h2⟩⟩
  ·have:l=(C5 rows f).length:=by omega
   subst this
   rw[Ck (by omega),cond_false,Mw (by omega)]
   exact hK S hS
end
end Gx

namespace Gx
open Go
open IntKind (wrap)
section
variable {R:Type}
theorem qx (rows:List (List EntD)):Gr (SH rows):=by
 refine⟨fun i j=>?_,fun i=>by unfold SH;simp⟩
 unfold SH
 have:decide (i=j)=decide (j=i):=by by_cases e:i=j<;>simp[e,eq_comm]
 rw[this,Bool.or_comm]
theorem iF {n:Int} {l:List EntD} (hv:rV n l=true) (j:Nat):qw l j↔Ct l (j:Int)≠0:=by
 have ha:=oT hv
 constructor
 ·rintro⟨e,he,hj⟩
  obtain⟨k,hk⟩:=List.getElem?_of_mem he
  have h1:=lF ha hk
  rw[hj] at h1
  rw[h1]
  have hkl:=(List.getElem?_eq_some_iff.1 hk).1
  have hok:kL n l k=true:=by unfold rV at hv;exact(Br.1 hv) k (Nat.zero_le _) (by omega)
  have hg:l.getD k A4=e:=by rw[List.getD_eq_getElem?_getD,hk];rfl
  unfold kL at hok
  rw[hg] at hok
  simp only[Bool.and_eq_true,Bool.not_eq_true',decide_eq_false_iff_not] at hok
  exact hok.2.2.2
 ·intro h
  unfold Ct at h
  cases hf:l.find? (fun e=>decide (e.ix=(j:Int))) with
  | none=>rw[hf] at h;exact absurd rfl h
  | some e=>exact⟨e,List.mem_of_find?_eq_some hf,by have:=List.find?_some hf;simpa using this⟩
theorem r9 {n:Nat} {rows:List (List EntD)} (hr:rows.length=n) (hv:∀ i,i<n→rV (n:Int) (C5 rows i)=true) {x y:Nat} (hx:x<n) (hy:y<n):Qp rows n 0 x y↔SH rows x y=true:=by
 unfold SH
 simp only[Bool.and_eq_true,Bool.or_eq_true,Bool.not_eq_true',decide_eq_false_iff_not]
 rw[←ne_eq (Ct (C5 rows x) (y:Int)) 0,←ne_eq (Ct (C5 rows y) (x:Int)) 0,←iF (hv x hx) y,←iF (hv y hy) x]
 unfold Qp
 constructor
 ·rintro⟨a,b,h1,h2,⟨h3,h4⟩ | ⟨h3,_⟩⟩
  ·rcases h2 with⟨rfl,rfl⟩ | ⟨rfl,rfl⟩
   ·exact⟨h1,.inl h4⟩
   ·exact⟨fun e=>h1 e.symm,.inr h4⟩
  ·rename_i hh
   obtain⟨e,he,_⟩:=hh
   simp at he
 ·rintro⟨h1,h2 | h2⟩
  ·exact⟨x,y,h1,.inl ⟨rfl,rfl⟩,.inl ⟨hx,h2⟩⟩
  ·exact⟨y,x,fun e=>h1 e.symm,.inr ⟨rfl,rfl⟩,.inl ⟨hy,h2⟩⟩
theorem qL {N n:Nat} {rows:List (List EntD)} {c:LA} {b:Bool} {r0:Nat→Int→LA→O R} (hN:2000≤N) (hc:GM c rows) (hrl:rows.length=n) (hn:n≤1000) (hv:∀ i,i<n→rV (n:Int) (C5 rows i)=true) (hl:∀ i,(C5 rows i).length≤1000000000∧(C5 rows i).length<N) :
  ∀ (fuel m:Nat) (S:List (List Int)),m≤n→n - m<fuel→Sets n (Qp rows m 0) S→F5 N r0 n c n b fuel (n:Int) (m:Int) (SA S)=r0 n 0 (GB n n (SH rows))
 | 0,_,_,_,h,_=>by omega
 | fuel+1,m,S,hm,hfu,hS=>by
  rw[F5,Pt]
  by_cases hlt:m<n
  ·have hrow:=Pw (rows:=rows) (i:=m) (by omega)
   rw[Cp (by omega),cond_true,Bk hlt,cond_true,eP hc hrow]
   refine oa (hv m hlt) hlt (hl m).1 (fun S' hS'=>?_) (by omega) N 0 S (Nat.zero_le _) (by have:=(hl m).2;omega) hS
   refine qL hN hc hrl hn hv hl fuel (m+1) S' (by omega) (by omega) (hS'.congr fun x y _ _=>?_)
   unfold Qp
   rw[List.take_length]
   constructor
   ·rintro⟨a,b2,h1,h2,⟨h3,h4⟩ | ⟨h3,e,h4,_⟩⟩
    ·by_cases e1:a=m
     ·subst e1;exact⟨a,b2,h1,h2,.inr ⟨rfl,h4⟩⟩
     ·exact⟨a,b2,h1,h2,.inl ⟨by omega,h4⟩⟩
    ·simp at h4
   ·rintro⟨a,b2,h1,h2,⟨h3,h4⟩ | ⟨h3,h4⟩⟩
    ·exact⟨a,b2,h1,h2,.inl ⟨by omega,h4⟩⟩
    ·subst h3;exact⟨a,b2,h1,h2,.inl ⟨by omega,h4⟩⟩
  ·have:m=n:=by omega
   subst this
   rw[Ck (by omega),cond_false,bJ (A:=SH rows) hN hn (hS.congr fun x y hx hy=>(r9 hrl hv hx hy).symm)]
theorem qM {N n:Nat} {rows:List (List EntD)} {x:AV} {c:LA} {b:Bool} {r0:Nat→Int→LA→O R} (hN:2000≤N) (hx:Je 1 x=some (c,rows.length)) (hc:GM c rows) (hrl:rows.length=n) (hn:n≤1000) (hv:∀ i,i<n→rV (n:Int) (C5 rows i)=true) (hl:∀ i,(C5 rows i).length≤1000000000∧(C5 rows i).length<N) :
  ∀ (fuel r:Nat),r≤n→n - r<fuel→F6 N r0 b [.int .i64 (n:Int),.int .i64 (n:Int),x] fuel n (n:Int) (r:Int) (SA (List.replicate r [])++List.replicate (n - r) AV.nsl)=r0 n 0 (GB n n (SH rows))
 | 0,_,_,h=>by omega
 | fuel+1,r,hr,hfu=>by
  rw[F6,Pu]
  by_cases hlt:r<n
  ·have e1:n - r=(n - (r+1))+1:=by omega
   have h1:=nV (P:=List.replicate r ([]:List Int)) (k:=n - (r+1))
   rw[List.length_replicate] at h1
   rw[Cp (by omega),cond_true,Bk hlt,cond_true,Int.toNat_natCast,e1,h1,Mw (by omega),←List.replicate_succ']
   exact qM hN hx hc hrl hn hv hl fuel (r+1) (by omega) (by omega)
  ·have:r=n:=by omega
   subst this
   have hxx:∀ K:LA→Nat→O R,Gk 1 (([.int .i64 (r:Int),.int .i64 (r:Int),x]:LA).drop 2) K=K c rows.length:=fun K=>cj hx K
   rw[Ck (by omega),cond_false,hxx,hrl]
   have e2:SA (List.replicate r [])++List.replicate (r - r) AV.nsl=SA (List.replicate r []):=by simp
   rw[e2]
   refine qL hN hc hrl hn hv hl N 0 _ (Nat.zero_le _) (by omega) ⟨by simp,fun i l hi=>?_⟩
   rw[List.getElem?_replicate] at hi
   split at hi
   ·injection hi with hi
    subst hi
    refine⟨List.nodup_nil,fun y=>?_⟩
    constructor
    ·intro h;cases h
    ·rintro⟨j,rfl,_,a,b2,_,_,⟨h3,_⟩ | ⟨_,e,h4,_⟩⟩
     ·omega
     ·simp at h4
   ·cases hi
theorem bX {N M L:Nat} {rn cn:Int} {v:LA} {rows:List (List EntD)} {c:Bool} {r0:Nat→Int→LA→O R} {Y:O R} (hv:MatIs v rn cn rows) (hM:Hs M L rows) (hf:fit (16*(M+2)+80) N) (hL:L+20000<N) (hL2:L≤1000000000) (hr:rows.length≤1000)
  (h1:mV rn cn rows=false→r0 0 1 []=Y) (h2:mV rn cn rows=true→rn≠cn→r0 0 4 []=Y) (h3:mV rn cn rows=true→rn=cn→r0 rows.length 0 (GB rows.length rows.length (SH rows))=Y):K9 N v c r0=Y:=by
 have hv0:=hv
 obtain⟨x,cc,rfl,hx,hc⟩:=hv.is
 rw[AF,Rf]
 have s1:Nat.ble 3 ([AV.int .i64 rn,AV.int .i64 cn,x]:LA).length=true:=rfl
 have s2:([AV.int .i64 rn,AV.int .i64 cn,x]:LA).take 3=[AV.int .i64 rn,AV.int .i64 cn,x]:=rfl
 have hcn:∀ K:Int→O R,Ch .i64 (([.int .i64 rn,.int .i64 cn,x]:LA).drop 1) K=K cn:=fun K=>Eo K
 rw[s1,cond_true,s2,iE hv0 hM (hf.le (by omega)) (by omega) hL2 hr (by omega)]
 cases hm:mV rn cn rows with
 | false=>exact h1 hm
 | true =>
  rw[Bool.not_true,cond_false,Eo,hcn]
  by_cases he:rn=cn
  ·obtain⟨e1,⟨n,e2,e3⟩,e4⟩:=o9 hm
   subst he
   have hn:n=rows.length:=by omega
   subst hn
   have:(rn != rn)=false:=by simp
   rw[this,cond_false]
   subst e1
   have hb:(decide (0≤((rows.length:Nat):Int))&&(decide (((rows.length:Nat):Int)=((rows.length:Nat):Int))&&(decide (((rows.length:Nat):Int)≤140737488355328)&&decide (((rows.length:Nat):Int)*((8:Nat):Int)≤140737488355328))))=true:=by simp;omega
   rw[Eo,hb,cond_true,Int.toNat_natCast]
   have:=qM (b:=c) (r0:=r0) (N:=N) (by omega) hx hc rfl hr e4 (fun i=>by have:=(lN hM i).2;omega) N 0 (Nat.zero_le _) (by omega)
   rw[Nat.sub_zero] at this
   exact this.trans (h3 hm rfl)
  ·have:(rn != cn)=true:=by simpa using he
   rw[this,cond_true]
   exact h2 hm he
end
end Gx

namespace Gx
open Go
open IntKind (wrap)
section
variable {R:Type}
theorem qy {N:Nat} {l:List Int} {d e:Bool} (hN:4000≤N) (hl:l.length≤9223372036854775807) (k:Nat) (hk:k≤l.length) :
  ∃ (q:Rat) (k':Nat),qm q≤2∧k'≤l.length∧∀ K:LA→Int→O R,Mf N (Ae l) l.length d e (k:Int) K=K (cq q) (k':Int):=by
 obtain⟨i,k1,hi,hk1,h1⟩:=BW (R:=R) (N:=N) (l:=l) (t:=d) (o:=e) hl 13 (by omega) (by omega) k hk
 obtain⟨m,k2,hm,hk2,h2⟩:=BW (R:=R) (N:=N) (l:=l) (t:=d) (o:=e) hl 4 (by omega) (by omega) k1 hk1
 refine⟨mkRat ((i:Int) - 6) ((1+(m:Int)).natAbs),k2,r5 _ _ _ ?_ ?_ (by omega),hk2,fun K=>?_⟩
 ·have:((i:Int) - 6).natAbs<4294967296:=by omega
  exact Nat.lt_of_lt_of_le this (by decide)
 ·have:(1+(m:Int)).natAbs<4294967296:=by omega
  exact Nat.lt_of_lt_of_le this (by decide)
 ·rw[Xe];unfold Vs
  rw[h1,h2,LW (by omega) (by omega),LW (by omega) (by omega),oP (by omega) (by omega) hN];rfl
def eS (F:Nat→RatD) (t:Nat) (x:RatD) (i:Nat):RatD:=if i=t then x else F i
theorem kR (t:Nat) (F:Nat→RatD) (x:RatD):La (t+1) (eS F t x)=La t F++x.av:=by
 unfold La
 rw[List.range_succ,List.flatMap_append]
 congr 1
 ·rw[List.flatMap_def,List.flatMap_def]
  congr 1
  exact List.map_congr_left (fun i hi=>by have:=List.mem_range.1 hi;unfold eS;rw[if_neg (by omega)])
 ·simp[eS]
theorem oc (n:Nat) (F:Nat→RatD):(La n F).length=n*3:=by
 induction n with
 | zero=>rfl
 | succ n ih =>
  have:F=eS F n (F n):=by funext i;unfold eS;split<;>simp_all
  rw[this,kR,List.length_append,ih]
  have:(F n).av.length=3:=rfl
  rw[this];omega
theorem eT (n:Nat) (F:Nat→RatD):(La n F).take (n*3)=La n F:=List.take_of_length_le (by rw[oc];exact Nat.le_refl _)
def RowF (F:Nat→RatD):Prop:=∀ i,(F i).ok∧(F i).m≤2
theorem RowF.upd {F:Nat→RatD} (h:RowF F) (t:Nat) {q:Rat} (hq:qm q≤2):RowF (eS F t (Uh q)):=by
 intro i
 unfold eS
 split
 ·exact⟨FW q,by rw[qr];exact hq⟩
 ·exact h i
theorem od {N n:Nat} {l:List Int} {d e:Bool} (hN:4000≤N) (hl:l.length≤9223372036854775807) (hn:n≤1000) :
  ∀ (r t fuel w:Nat) (F:Nat→RatD),t+r=n→r<fuel→w≤l.length→RowF F →
   ∃ (F':Nat→RatD) (w':Nat),RowF F'∧w'≤l.length∧∀ (k0:Nat→Int→Int→LA→O R) (r0:LA→Int→O R) (g i:Int) (rc:Nat) (s:Int) (u:LA),Bv N k0 r0 g (n:Int) (Ae l) l.length d e i fuel rc s t (t:Int) (w:Int) u (La t F)=cond (Nat.ble (rc+1) 140737488355328&&Nat.ble ((rc+1)*24) 140737488355328) (k0 (rc+1) (wrap .i64 (s+1)) (w':Int) (u.take (rc*1)++[.imm (La n F') n 3 false false])) none
 | 0,t,fuel+1,w,F,ht,_,hw,hF=>by
  obtain rfl:t=n:=by omega
  refine⟨F,w,hF,hw,fun k0 r0 g i rc s u=>?_⟩
  rw[Bv,D6,Ck (by omega),cond_false,eT]
 | r+1,t,fuel+1,w,F,ht,hf,hw,hF=>by
  obtain⟨ab,w1,hab,hw1,h1⟩:=BW (R:=R) (N:=N) (l:=l) (t:=d) (o:=e) hl 3 (by omega) (by omega) w hw
  have hb:(Nat.ble (t+1) 140737488355328&&Nat.ble ((t+1)*56) 140737488355328)=true:=by simp;omega
  have s1:∀ q:Rat,(Nat.beq 0 0&&(Nat.beq (cq q).length 3&&Nat.beq 3 3))=true:=fun q=>rfl
  by_cases h0:ab>0
  ·obtain⟨q,w2,hq,hw2,h2⟩:=qy (R:=R) (N:=N) (l:=l) (d:=d) (e:=e) hN hl w1 hw1
   obtain⟨F',w',g1,g2,g3⟩:=od hN hl hn r (t+1) fuel w2 (eS F t (Uh q)) (by omega) (by omega) hw2 (hF.upd t hq)
   refine⟨F',w',g1,g2,fun k0 r0 g i rc s u=>?_⟩
   rw[Bv,D6,Cp (by omega),cond_true,V2,s1,cond_true,h1,decide_eq_true (show(ab:Int)>0 by omega),cond_true,h2]
   have s2:(Nat.beq (cq q).length 3&&(Nat.ble 3 (cq 0).length&&!false))=true:=rfl
   have s3:Nat.ble 3 (setCells (cq 0) 0 (cq q)).length=true:=rfl
   have s4:(Nat.beq ((setCells (cq 0) 0 (cq q)).take 3).length 3&&Nat.ble 3 3)=true:=rfl
   have s5:(setCells [AV.bool false,.nsl,.nsl] 0 ((setCells (cq 0) 0 (cq q)).take 3)).take 3=(Uh q).av:=rfl
   rw[s2,cond_true,s3,cond_true,s4,cond_true,hb,cond_true,s5,eT,←kR,Mw (by omega)]
   exact g3 k0 r0 g i rc s u
  ·obtain⟨F',w',g1,g2,g3⟩:=od hN hl hn r (t+1) fuel w1 (eS F t (Uh 0)) (by omega) (by omega) hw1 (hF.upd t (by rw[rs];omega))
   refine⟨F',w',g1,g2,fun k0 r0 g i rc s u=>?_⟩
   rw[Bv,D6,Cp (by omega),cond_true,V2,s1,cond_true,h1,decide_eq_false (show ¬ (ab:Int)>0 by omega),cond_false]
   have s2:Nat.ble 3 (cq 0).length=true:=rfl
   have s4:(Nat.beq ((cq 0).take 3).length 3&&Nat.ble 3 3)=true:=rfl
   have s5:(setCells [AV.bool false,.nsl,.nsl] 0 ((cq 0).take 3)).take 3=(Uh 0).av:=rfl
   rw[s2,cond_true,s4,cond_true,hb,cond_true,s5,eT,←kR,Mw (by omega)]
   exact g3 k0 r0 g i rc s u
theorem qN {N n rr:Nat} {l:List Int} {d e:Bool} (hN:30000≤N) (hl:l.length≤9223372036854775807) (hn:n≤1000) (hrr:rr≤1000) :
  ∀ (r o fuel p:Nat) (fs:List (Nat→RatD)),o+r=rr→r<fuel→p≤l.length→fs.length=o→(∀ f ∈ fs,RowF f) →
   ∃ (fs':List (Nat→RatD)) (p':Nat),fs'.length=rr∧(∀ f ∈ fs',RowF f)∧p'≤l.length∧∀ (r0:LA→Int→O R) (i:Int),Bw N r0 (rr:Int) (n:Int) (Ae l) l.length d e i fuel o (o:Int) (p:Int) (Gh n fs)=J4 N (Gh n fs') rr false true (n:Int) (fun z=>(cond ((Nat.beq 0 0)&&((Nat.beq (z.length) 3)&&(Nat.beq 3 3))) (cond (Nat.ble 3 (z.length)) (r0 (z.take 3) (p':Int)) none) none))
 | 0,o,fuel+1,p,fs,ho,_,hp,hfs,hF=>by
  obtain rfl:o=rr:=by omega
  refine⟨fs,p,hfs,hF,hp,fun r0 i=>?_⟩
  rw[Bw,Fn,Ck (by omega),cond_false,Nat.mul_one,List.take_of_length_le (by simp[Gh,hfs])]
 | r+1,o,fuel+1,p,fs,ho,hf,hp,hfs,hF=>by
  obtain⟨F',w',g1,g2,g3⟩:=od (R:=R) (N:=N) (l:=l) (d:=d) (e:=e) (by omega) hl hn n 0 N p (fun _=>Uh 0) (by omega) (by omega) hp (fun i=>⟨FW 0,by rw[qr,rs];omega⟩)
  obtain⟨fs',p',a1,a2,a3,a4⟩:=qN hN hl hn hrr r (o+1) fuel w' (fs++[F']) (by omega) (by omega) g2 (by simp[hfs]) (fun f hf=>by
   rcases List.mem_append.1 hf with h | h
   ·exact hF f h
   ·rw[List.mem_singleton.1 h];exact g1)
  refine⟨fs',p',a1,a2,a3,fun r0 i=>?_⟩
  rw[Bw,Fn,Cp (by omega),cond_true]
  have hb:(Nat.ble (o+1) 140737488355328&&Nat.ble ((o+1)*24) 140737488355328)=true:=by simp;omega
  have e1:(Gh n fs).take (o*1)++[AV.imm (La n F') n 3 false false]=Gh n (fs++[F']):=by
   rw[Nat.mul_one,List.take_of_length_le (by simp[Gh,hfs])];simp[Gh]
  refine Eq.trans (g3 _ _ _ _ _ _ _) ?_
  rw[hb,cond_true,e1,Mw (by omega)]
  exact a4 r0 i
theorem MC {N n rr:Nat} {l:List Int} {d e:Bool} (hN:200000≤N) (hl:l.length≤9223372036854775807) (hn:n≤1000) (hrr:rr≤1000) (k:Nat) (hk:k≤l.length) :
  ∃ (fs:List (Nat→RatD)) (k':Nat),fs.length=rr∧(∀ f ∈ fs,RowF f)∧k'≤l.length∧∀ (K:LA→Int→O R) (Y:O R),(∀ v,MatIs v (rr:Int) (n:Int) (fs.map (Ug n))→K v (k':Int)=Y)→C2 N (rr:Int) (n:Int) (Ae l) l.length d e (k:Int) K=Y:=by
 obtain⟨fs,k',a1,a2,a3,a4⟩:=qN (R:=R) (N:=N) (d:=d) (e:=e) (by omega) hl hn hrr rr 0 N k [] (by omega) (by omega) hk rfl (fun f hf=>by simp at hf)
 refine⟨fs,k',a1,a2,a3,fun K Y hK=>?_⟩
 rw[Po,Ia]
 refine Eq.trans (a4 _ _) ?_
 have hq:=ZV n fs
 have:=lJ (N:=N) (M:=2) (ff:=false) (d:=true) (e:=(n:Int)) (r0:=(fun z=>(cond ((Nat.beq 0 0)&&((Nat.beq (z.length) 3)&&(Nat.beq 3 3))) (cond (Nat.ble 3 (z.length)) (K (z.take 3) (k':Int)) none) none))) (Y:=Y) hq (fun f hf i _=>a2 f hf i) ⟨by omega,by omega⟩ (by omega) (by omega) (by omega) (by omega) (fun v hv=>by
  rw[a1] at hv
  have hv0:=hv
  obtain⟨x,c,rfl,hx,hc⟩:=hv.is
  exact hK _ hv0)
 rw[a1] at this
 exact this
end
end Gx

namespace Gx
open Go
open IntKind (wrap)
section
theorem ck {n:Nat} {B:Nat→Nat→Bool} {i j:Nat}:Ny (Me n B) i j=(decide (i<n)&&(decide (j<n)&&B i j)):=by
 unfold Ny
 rw[BV]
 by_cases h:i<n
 ·rw[if_pos h,sC]
  have:(j ∈ Cx n B i)↔(j<n∧B i j=true):=Ew
  rw[decide_eq_true h,Bool.true_and]
  by_cases h2:j<n∧B i j=true
  ·rw[decide_eq_true (this.2 h2),decide_eq_true h2.1,h2.2];rfl
  ·rw[decide_eq_false (fun h3=>h2 (this.1 h3))]
   by_cases h4:j<n
   ·have:B i j=false:=by cases hb:B i j with | false=>rfl | true=>exact absurd ⟨h4,hb⟩ h2
    rw[this];simp
   ·simp[h4]
 ·rw[if_neg h,decide_eq_false h];simp
theorem oe {n:Nat} {B:Nat→Nat→Bool} (hB:Gr B):vG (Me n B)=true:=by
 refine rP (fun i=>?_) (fun i x hx=>?_) (fun i j hij=>?_)
 ·rw[BV]
  split
  ·unfold Bb Cx
   rw[List.pairwise_map]
   exact(List.pairwise_lt_range.sublist List.filter_sublist).imp (fun h=>by omega)
  ·exact List.Pairwise.nil
 ·rw[BV] at hx
  split at hx
  ·unfold Bb at hx
   obtain⟨j,hj,rfl⟩:=List.mem_map.1 hx
   obtain⟨h1,h2⟩:=Ew.1 hj
   exact⟨j,rfl,by rw[T3];exact h1,fun e=>by subst e;rw[hB.irr] at h2;cases h2⟩
  ·cases hx
 ·have h1:Ny (Me n B) i j=true:=decide_eq_true hij
  rw[ck] at h1
  simp only[Bool.and_eq_true,decide_eq_true_eq] at h1
  have h2:Ny (Me n B) j i=true:=by
   rw[ck,hB.sym j i];simp[h1]
  exact of_decide_eq_true h2
end
end Gx

namespace Gx
open Go
open IntKind (wrap)
section
variable {R:Type}
theorem r_ (n:Nat) (A:Nat→Nat→Bool):(GB n n A).take (n*1)=GB n n A:=by rw[Nat.mul_one,List.take_of_length_le (by rw[n_];exact Nat.le_refl _)]
theorem JU {n:Nat} {A:Nat→Nat→Bool} (hn:n≤1000):∀ j,(Bq (Me n A) j).length≤1000:=fun j=>by
 rw[BV]
 split
 ·rw[G4];exact Nat.le_trans (IT _ _ _) hn
 ·simp
theorem ZW {N M L:Nat} {rn cn:Int} {v c:LA} {rows:List (List EntD)} {d:Bool} {b:Nat} {r0:Bool→O R} {k0:Int→Bool→LA→O R} (hb:b<3) (hv:MatIs v rn cn rows) (hc:(c.drop (0+((b:Nat):Int).toNat*3)).take 3=v) (hc2:Nat.ble 3 (c.drop (0+((b:Nat):Int).toNat*3)).length=true)
  (hM:Hs M L rows) (hf:fit (16*(M+2)+80) N) (hL:L+20000<N) (hL2:L≤1000000000) :
  Bs N r0 k0 (b:Int) d c=k0 ((b+1:Nat):Int) d c:=by
 have hv0:=hv
 obtain⟨x,cc,rfl,hx,hcc⟩:=hv.is
 rw[Bs]
 have s0:(Nat.beq 0 0&&(Nat.beq ([AV.int .i64 rn,AV.int .i64 cn,x]:LA).length 3&&Nat.beq 3 3))=true:=rfl
 have s1:Nat.ble 3 ([AV.int .i64 rn,AV.int .i64 cn,x]:LA).length=true:=rfl
 have s2:([AV.int .i64 rn,AV.int .i64 cn,x]:LA).take 3=[AV.int .i64 rn,AV.int .i64 cn,x]:=rfl
 have hxx:∀ K:LA→Nat→O R,Gk 1 (([.int .i64 rn,.int .i64 cn,x]:LA).drop 2) K=K cc rows.length:=fun K=>cj hx K
 rw[decide_eq_true (show(b:Int)<3 by omega),cond_true,show Af (b:Int) 3=true from Bk hb,cond_true,hc2,cond_true,hc,s0,cond_true,hxx,Mw (by omega)]
 by_cases h20:rows.length≤20
 ·rw[decide_eq_false (show ¬ ((rows.length:Nat):Int)>20 by omega),cond_false,s1,cond_true,s2]
  have hN:2000≤N:=by omega
  have e0:∀ (t:Nat) (K:Bool→O R),L9 N (([]:LA).take (0*1)) 0 false true [] 0 false true K=K true:=fun t K=>kv (rows:=[]) hN n9 n9 (by simp) (fun j=>by rw[T1 (by simp)];simp)
  refine bX hv0 hM hf hL hL2 (by omega) (fun h1=>?_) (fun h1 h2=>?_) (fun h1 h2=>?_)
  ·rw[cond_true]
   refine Px hv0 hM hf hL hL2 (by omega) (fun _=>?_) (fun g1 _=>by rw[h1] at g1;cases g1) (fun g1 _=>by rw[h1] at g1;cases g1)
   rw[e0 0];rfl
  ·rw[cond_true]
   refine Px hv0 hM hf hL hL2 (by omega) (fun g1=>by rw[h1] at g1;cases g1) (fun _ _=>?_) (fun _ g2=>absurd g2 h2)
   rw[e0 0];rfl
  ·rw[cond_true]
   refine Px hv0 hM hf hL hL2 (by omega) (fun g1=>by rw[h1] at g1;cases g1) (fun _ g2=>absurd h2 g2) (fun _ _=>?_)
   have hnl:=T3 rows.length (SH rows)
   have hS:=kv (N:=N) (rows:=Me rows.length (SH rows)) (f:=false) (g:=true) (i:=false) (k:=false) (R:=R) hN (pi rows.length (SH rows)) (rM rows.length (SH rows)) (by rw[hnl];omega) (JU (by omega))
    (r0:=fun af=>(cond ((!af)==false) (cond ((cond false true ((0:Int) != 0))==false) (cond (((0:Int)==0)==true) (Gu N (GB rows.length rows.length (SH rows)) rows.length false true (fun ag=>(cond (cond false true (cond true (!ag) false)) (r0 false) (k0 ((b+1:Nat):Int) d c)))) (k0 ((b+1:Nat):Int) d c)) (r0 false)) (r0 false)))
   rw[hnl] at hS
   rw[r_]
   refine Eq.trans hS ?_
   have hV:=Q8 (N:=N) (rows:=Me rows.length (SH rows)) (e:=false) (c:=true) (R:=R) hN (pi rows.length (SH rows)) (by rw[hnl];omega) (JU (by omega)) (r0:=fun ag=>(cond (cond false true (cond true (!ag) false)) (r0 false) (k0 ((b+1:Nat):Int) d c)))
   rw[hnl,oe (qx rows)] at hV
   exact hV
 ·rw[decide_eq_true (show((rows.length:Nat):Int)>20 by omega),cond_true]
theorem lO {n:Nat} {fs:List (Nat→RatD)} (h:∀ f ∈ fs,RowF f) (hn:n≤1000):Hs 3 1000 (fs.map (Ug n)):=by
 intro r hr
 obtain⟨f,hf,rfl⟩:=List.mem_map.1 hr
 exact⟨o5 (fun i _=>h f hf i),Nat.le_trans (lK n f) hn⟩
theorem iG {N M L:Nat} {ch:List Int} {rn cn:Int} {o:LA} {rows:List (List EntD)} {q i r g:Bool} {r0:Bool→O R} (hN:200000≤N) (hch:ch.length≤9223372036854775807) (ho:GM o rows) (hM:Hs M L rows) (hf:fit (16*(M+2)+80) N) (hL:L+20000<N) (hL2:L≤1000000000) :
  By N rn cn o rows.length q i (Ae ch) ch.length r g r0=r0 true:=by
 rw[Hm,Dp,qk]
 obtain⟨a1,k1,ha1,hk1,h1⟩:=BW (R:=R) (N:=N) (l:=ch) (t:=false) (o:=g) hch 7 (by omega) (by omega) 0 (Nat.zero_le _)
 obtain⟨a2,k2,ha2,hk2,h2⟩:=BW (R:=R) (N:=N) (l:=ch) (t:=false) (o:=g) hch 7 (by omega) (by omega) k1 hk1
 obtain⟨f1,k3,fl1,fo1,hk3,h3⟩:=MC (R:=R) (N:=N) (n:=a2) (rr:=a1) (l:=ch) (d:=false) (e:=g) hN hch (by omega) (by omega) k2 hk2
 obtain⟨a3,k4,ha3,hk4,h4⟩:=BW (R:=R) (N:=N) (l:=ch) (t:=false) (o:=g) hch 7 (by omega) (by omega) k3 hk3
 obtain⟨f2,k5,fl2,fo2,hk5,h5⟩:=MC (R:=R) (N:=N) (n:=0) (rr:=a3) (l:=ch) (d:=false) (e:=g) hN hch (by omega) (by omega) k4 hk4
 obtain⟨f3,k6,fl3,fo3,hk6,h6⟩:=MC (R:=R) (N:=N) (n:=a3) (rr:=a3) (l:=ch) (d:=false) (e:=g) hN hch (by omega) (by omega) k5 hk5
 have h1':=h1
 rw[show((0:Nat):Int)=0 from rfl] at h1'
 rw[h1',h2]
 refine h3 _ _ (fun u hu=>?_)
 obtain⟨ux,uc,rfl,hux,huc⟩:=hu.is
 have s0:∀ (p q:Int) (x:AV),(Nat.beq 0 0&&(Nat.beq ([AV.int .i64 p,AV.int .i64 q,x]:LA).length 3&&Nat.beq 3 3))=true:=fun p q x=>rfl
 rw[s0,cond_true,h4]
 refine h5 _ _ (fun s hs=>?_)
 obtain⟨sx,sc,rfl,hsx,hsc⟩:=hs.is
 rw[s0,cond_true,Eo,Eo]
 refine h6 _ _ (fun t ht=>?_)
 have hr3:=lO fo3 (n:=a3) (by omega)
 have hl3:(f3.map (Ug a3)).length=a3:=by rw[List.length_map,fl3]
 have hmv:mV (((f3.map (Ug a3)).length:Nat):Int) (a3:Int) (f3.map (Ug a3))=true:=by
  unfold mV
  simp only[Bool.and_eq_true,decide_eq_true_eq,Br]
  refine⟨⟨by omega,by omega⟩,⟨by omega,by omega⟩,trivial,fun i _ hi=>?_⟩
  have hi:i<(f3.map (Ug a3)).length:=by omega
  have hg:=Pw hi
  obtain⟨f,hf,e⟩:=List.mem_map.1 (List.mem_of_getElem? hg)
  rw[←e]
  exact qv (Int.le_refl _)
 have ht2:MatIs t (((f3.map (Ug a3)).length:Nat):Int) (a3:Int) (f3.map (Ug a3)):=by rw[hl3];exact ht
 rw[QS ht2 hmv hr3 ⟨by omega,by omega⟩ (by omega) (by omega) (by omega),Eo,hl3]
 have hel:(QR (f3.map (Ug a3))).length=a3:=by unfold QR;rw[List.length_map,hl3]
 have htk:(Gh a3 (QR (f3.map (Ug a3)))).take (a3*1)=Gh a3 (QR (f3.map (Ug a3))):=by
  rw[Nat.mul_one,List.take_of_length_le (by simp[Gh,hel])]
 have hel2:∀ f ∈ QR (f3.map (Ug a3)),∀ i,i<a3→(f i).ok∧(f i).m≤4:=by
  intro f hf i _
  unfold QR at hf
  obtain⟨l,hl,rfl⟩:=List.mem_map.1 hf
  exact⟨FW _,by rw[qr];exact lM (hr3 l hl).1 _⟩
 rw[htk]
 have hmk:∀ (r0:LA→O R) (Y:O R),(∀ v,MatIs v (a3:Int) (a3:Int) ((QR (f3.map (Ug a3))).map (Ug a3))→r0 v=Y)→J4 N (Gh a3 (QR (f3.map (Ug a3)))) a3 false true (a3:Int) r0=Y:=fun r0 Y hK=>by
  have:=lJ (R:=R) (N:=N) (M:=4) (n:=a3) (c:=Gh a3 (QR (f3.map (Ug a3)))) (fs:=QR (f3.map (Ug a3))) (ff:=false) (d:=true) (e:=(a3:Int)) (r0:=r0) (Y:=Y) (ZV _ _) hel2 ⟨by omega,by omega⟩ (by omega) (by omega) (by omega) (by omega)
  rw[hel] at this
  exact this hK
 refine hmk _ _ (fun v hv=>?_)
 obtain⟨vx,vc,rfl,hvx,hvc⟩:=hv.is
 have hr1:=lO fo1 (n:=a2) (by omega)
 have hr4:Hs 5 1000 ((QR (f3.map (Ug a3))).map (Ug a3)):=by
  intro r hr
  obtain⟨f,hf,rfl⟩:=List.mem_map.1 hr
  exact⟨o5 (fun i hi=>hel2 f hf i hi),Nat.le_trans (lK _ _) (by omega)⟩
 have hm3:MatIs [.int .i64 rn,.int .i64 cn,.imm o rows.length 1 q i] rn cn rows:=⟨_,o,rfl,by simp[Je],ho⟩
 obtain⟨nn,rfl⟩:∃ k,N=k+4:=⟨N - 4,by omega⟩
 show Au (nn+4) r0 (nn+4) 0 ((i||false)||false) [.int .i64 (a1:Int),.int .i64 (a2:Int),ux,.int .i64 (a3:Int),.int .i64 (a3:Int),vx,.int .i64 rn,.int .i64 cn,.imm o rows.length 1 q i]=r0 true
 rw[Au]
 refine Eq.trans (ZW (b:=0) (by omega) hu rfl rfl hr1 ⟨by omega,by omega⟩ (by omega) (by omega)) ?_
 rw[Au]
 refine Eq.trans (ZW (b:=1) (by omega) hv rfl rfl hr4 ⟨by omega,by omega⟩ (by omega) (by omega)) ?_
 rw[Au]
 refine Eq.trans (ZW (b:=2) (by omega) hm3 rfl rfl hM hf hL hL2) ?_
 rw[Au,Bs,decide_eq_false (show ¬ ((3:Nat):Int)<3 by decide),cond_false,ni (by omega)]
end
end Gx

namespace Gx
open Go Go.Proofs Go.RowKit Go.ChangeShapes
open Go.Proofs.Ytcbkbnhmbpmfjaa (Rows.uptoBulk Rows.uptoBulkAll)
theorem qz {H:Type} (d:DataW H):1≤Rows.uptoBulk d:=by
 cases d with
 | lit l=>cases l<;>simp[Rows.uptoBulk]
 | _=>simp[Rows.uptoBulk]
structure OpensU (B:Nat) (P:Program) (t:TypeId) {α:Type} (e:α→List AV) (n:Nat):Prop where
 size:P.cellsOf t=n
 pos:0<n
 len:∀ a,(e a).length=n
 read:∀ {H:Type} (enc:TypeId×Value→H) (W:World) (fuel:Nat) (cs:List Value) (d:DataW H) (ps:List MemPlace),DataW.trod enc P W 0 (fun _=>true) true fuel t cs=some (d,ps)→Rows.uptoBulk d≤B →
  cs.length=n∧∃ a,RepCs (fun k=>k<W.heap.size) W (e a) (fun j=>cs[j]?) 0
theorem Opens.u {B:Nat} {P:Program} {t:TypeId} {α:Type} {e:α→LA} {n:Nat} (h:Opens P t e n):OpensU B P t e n:=⟨h.size,h.pos,h.len,fun enc W fuel cs d ps ht _=>h.read enc W fuel cs d ps ht⟩
theorem ZX {H:Type}:∀ {l:List (DataW H)} {i:Nat} {x:DataW H},l[i]?=some x→Rows.uptoBulk x≤Rows.uptoBulkAll l
 | a::r,0,x,h=>by simp at h;subst h;simp only[Rows.uptoBulkAll];omega
 | a::r,i+1,x,h=>by
  have:=ZX (l:=r) (i:=i) (x:=x) (by simpa using h)
  simp only[Rows.uptoBulkAll];omega
theorem cl {H:Type} {k:Nat}:∀ {l:List (DataW H)},(∀ x ∈ l,k≤Rows.uptoBulk x)→l.length*k≤Rows.uptoBulkAll l
 | [],_=>by simp
 | a::r,h=>by
  have h1:=h a (by simp)
  have h2:=cl (l:=r) fun x hx=>h x (List.mem_cons_of_mem _ hx)
  simp only[Rows.uptoBulkAll,List.length_cons,Nat.succ_mul];omega
def lP (P:Program) (t:TypeId) (k:Nat):Prop:=∀ {H:Type} (enc:TypeId×Value→H) (W:World) (fuel:Nat) (cs:List Value) (d:DataW H) (ps:List MemPlace),DataW.trod enc P W 0 (fun _=>true) true fuel t cs=some (d,ps)→k≤Rows.uptoBulk d
theorem AQ {P:Program} {t:TypeId}:lP P t 1:=fun _ _ _ _ d _ _=>qz d
theorem V3 {B k:Nat} {P:Program} {t el:TypeId} {α:Type} {e:α→LA} {n:Nat} (hu:P.underlying t=some (.slice el)) (hc:P.cellsOf t=1) (he:OpensU B P el e n) (hk:lP P el k) :
  OpensU B P t (α:={ l:List α // l.length*k≤B }) (fun l=>[.imm (l.1.flatMap e) l.1.length n false false]) 1:=by
 refine⟨hc,by omega,fun _=>rfl,fun enc W fuel cs d ps h hb=>?_⟩
 rcases DataW.trod_slice hu h with⟨rfl,_⟩ | ⟨a,len,cap,V5,Ku,m,_,rfl,hx,hb0,hlc,hcm,hlen,hel,_⟩
 ·refine⟨rfl,⟨[],by simp⟩,?_⟩
  simp[RepCs,RepC]
 ·obtain rfl:d=.slice (V5.map (·.1)) (Ku.map (·.1)):=(Prod.mk.inj hx).1
  simp only[Rows.uptoBulk] at hb
  rw[he.size] at hel
  have each:∀ i:Nat,i<len→∃ x:α,∃ cs,W.cells? 0 (a.add (i*n)) n=some cs∧RepCs (fun k=>k<W.heap.size) W (e x) (fun j=>cs[j]?) 0:=by
   intro i hi
   have h3:=hel i hi
   have hi2:i<V5.length:=by omega
   rw[List.getElem?_eq_getElem hi2] at h3
   cases hcs:W.cells? 0 (a.add (i*n)) n with
   | none=>rw[hcs] at h3;simp at h3
   | some cs =>
    rw[hcs] at h3
    have hbi:=ZX (l:=V5.map (·.1)) (i:=i) (x:=V5[i].1) (by rw[List.getElem?_map,List.getElem?_eq_getElem hi2];rfl)
    obtain⟨_,x,hx⟩:=he.read enc W m cs V5[i].1 V5[i].2 h3 (by omega)
    exact⟨x,cs,rfl,hx⟩
  have hlk:len*k≤B:=by
   have:=cl (k:=k) (l:=V5.map (·.1)) (fun x hx=>by
    obtain⟨y,hy,rfl⟩:=List.mem_map.1 hx
    obtain⟨i,hi,rfl⟩:=List.getElem_of_mem hy
    have h3:=hel i (by omega)
    rw[List.getElem?_eq_getElem hi] at h3
    cases hcs:W.cells? 0 (a.add (i*n)) n with
    | none=>rw[hcs] at h3;simp at h3
    | some cs=>rw[hcs] at h3;exact hk enc W m cs V5[i].1 V5[i].2 h3)
   rw[List.length_map,hlen] at this
   omega
  refine⟨rfl,?_⟩
  have build:∀ m,m≤len→∃ l:List α,l.length=m∧∀ i x,l[i]?=some x→∃ cs,W.cells? 0 (a.add (i*n)) n=some cs∧RepCs (fun k=>k<W.heap.size) W (e x) (fun j=>cs[j]?) 0:=by
   intro m
   induction m with
   | zero=>intro _;exact⟨[],rfl,by simp⟩
   | succ m ih =>
    intro hm
    obtain⟨l,hl,hl2⟩:=ih (by omega)
    obtain⟨x,cs,hx1,hx2⟩:=each m (by omega)
    refine⟨l++[x],by simp[hl],fun i y hy=>?_⟩
    rw[List.getElem?_append] at hy
    split at hy
    ·exact hl2 i y hy
    ·have:i=m:=by
      have:=(List.getElem?_eq_some_iff.1 hy).1
      simp at this;omega
     subst this
     simp[hl] at hy;subst hy
     exact⟨cs,hx1,hx2⟩
  obtain⟨l,hl,hl2⟩:=build len (Nat.le_refl _)
  refine⟨⟨l,by rw[hl];exact hlk⟩,?_⟩
  simp only[RepCs,RepC,and_true]
  refine⟨_,rfl,?_,some a,cap,by rw[hl],by omega,by simp,?_⟩
  ·exact Yi he.len l
  ·by_cases h0:l.length=0
   ·exact .inl h0
   ·right
    refine⟨a,rfl,?_,?_⟩
    ·obtain⟨x,cs,hx,_⟩:=each 0 (by omega)
     have:=World.cells?_block hx he.pos
     rwa [Iu] at this
    ·rw[Ay]
     intro j x hj
     rw[Yh he.pos he.len] at hj
     cases hq:l[j/n]? with
     | none=>rw[hq] at hj;simp at hj
     | some y =>
      rw[hq] at hj
      simp at hj
      obtain⟨cs,hcs,hrep⟩:=hl2 (j/n) y hq
      rw[Ay] at hrep
      obtain⟨u,hu1,hu2⟩:=hrep (j%n) x hj
      refine⟨u,?_,hu2⟩
      obtain⟨_,hlen,hcell⟩:=World.cells?_some hcs
      have hlt:j%n<n:=Nat.mod_lt _ he.pos
      have:=hcell (j%n) hlt
      rw[Addr.add_add,show j/n*n+j%n=j by rw[Nat.mul_comm];exact Nat.div_add_mod j n] at this
      simp only[Nat.zero_add] at hu1 ⊢
      rw[this];exact hu1
theorem OpensU.map {B:Nat} {P:Program} {t:TypeId} {α β:Type} {e:α→LA} {n:Nat} (h:OpensU B P t e n) (e':β→LA) (g:α→β) (hg:∀ a,e a=e' (g a)) (hl:∀ b,(e' b).length=n):OpensU B P t e' n:=by
 refine⟨h.size,h.pos,hl,fun enc W fuel cs d ps ht hb=>?_⟩
 obtain⟨h1,a,h2⟩:=h.read enc W fuel cs d ps ht hb
 exact⟨h1,g a,by rw[←hg];exact h2⟩
structure OpensUF (B:Nat) (P:Program) (fs:List Field) (off:Nat) {α:Type} (e:α→List AV) (n:Nat):Prop where
 len:∀ a,(e a).length=n
 read:∀ {H:Type} (enc:TypeId×Value→H) (W:World) (fuel:Nat) (cs:List Value),(∀ (i:Nat) (f:Field),fs[i]?=some f→∃ d ps,DataW.trod enc P W 0 (fun _=>true) true fuel f.type ((cs.drop f.offset).take (P.cellsOf f.type))=some (d,ps)∧Rows.uptoBulk d≤B) →
  ∃ a,RepCs (fun k=>k<W.heap.size) W (e a) (fun j=>cs[j]?) off
theorem Rl {B:Nat} {P:Program} {off:Nat}:OpensUF B P [] off (α:=Unit) (fun _=>[]) 0:=⟨fun _=>rfl,fun _ _ _ _ _=>⟨(),by simp[RepCs]⟩⟩
theorem Dq {B:Nat} {P:Program} {f:Field} {fs:List Field} {off:Nat} {α β:Type} {e:α→LA} {n:Nat} {e':β→LA} {m:Nat} (ho:f.offset=off) (h1:OpensU B P f.type e n) (h2:OpensUF B P fs (off+n) e' m) :
  OpensUF B P (f::fs) off (α:=α×β) (fun p=>e p.1++e' p.2) (n+m):=by
 refine⟨fun p=>by rw[List.length_append,h1.len,h2.len],fun enc W fuel cs h=>?_⟩
 obtain⟨d,ps,hd,hb⟩:=h 0 f rfl
 obtain⟨hl,a,ha⟩:=h1.read enc W fuel _ _ _ hd hb
 obtain⟨b,hb⟩:=h2.read enc W fuel cs fun i g hg=>h (i+1) g (by simpa using hg)
 refine⟨(a,b),?_⟩
 rw[Ay] at ha hb ⊢
 intro j x hj
 by_cases hjn:j<n
 ·rw[List.getElem?_append_left (by rw[h1.len];exact hjn)] at hj
  obtain⟨u,hu,hr⟩:=ha j x hj
  refine⟨u,?_,hr⟩
  simp only[Nat.zero_add] at hu
  rw[h1.size,List.getElem?_take_of_lt hjn,List.getElem?_drop,ho] at hu
  exact hu
 ·rw[List.getElem?_append_right (by rw[h1.len];omega),h1.len] at hj
  obtain⟨u,hu,hr⟩:=hb (j - n) x hj
  refine⟨u,?_,hr⟩
  rw[show off+n+(j - n)=off+j by omega] at hu
  exact hu
theorem Lt {B:Nat} {P:Program} {t:TypeId} {fs:Array Field} {α:Type} {e:α→LA} {n:Nat} (hu:P.underlying t=some (.struct fs)) (hc:P.cellsOf t=n) (hn:0<n) (h:OpensUF B P fs.toList 0 e n):OpensU B P t e n:=by
 refine⟨hc,hn,h.len,fun enc W fuel cs d ps ht hb=>?_⟩
 obtain⟨xs,g,_,hx,hl,hlen,hf⟩:=DataW.trod_struct hu ht
 obtain rfl:d=.agg (xs.map (·.1)):=(Prod.mk.inj hx).1
 simp only[Rows.uptoBulk] at hb
 refine⟨by rw[hl,hc],?_⟩
 exact h.read enc W g cs fun i f hi=>by
  have h1:fs[i]?=some f:=by simpa using hi
  have:=hf i f h1
  have hi2:i<xs.length:=by
   rw[hlen];exact(Array.getElem?_eq_some_iff.1 h1).1
  rw[List.getElem?_eq_getElem hi2] at this
  have hbi:=ZX (l:=xs.map (·.1)) (i:=i) (x:=xs[i].1) (by rw[List.getElem?_map,List.getElem?_eq_getElem hi2];rfl)
  exact⟨xs[i].1,xs[i].2,this,by omega⟩
end Gx

namespace Gx
open Go Go.Proofs Go.RowKit Go.ChangeShapes
open Go.Proofs.Ytcbkbnhmbpmfjaa (Rows.uptoBulk Rows.uptoBulkAll)
theorem lQ {n:Int} (h:(Lit.int .u32 n).wf=true):0≤n∧n<4294967296:=by
 simp only[Lit.wf,Bool.and_eq_true,decide_eq_true_eq,show IntKind.u32.min=0 from rfl,show IntKind.u32.max=4294967295 from rfl] at h;omega
section
variable {B:Nat}
theorem rA:OpensU B Try.prog 92 (α:={ n:Nat // n<4294967296 }) (fun n=>[.int .u32 (n.1:Int)]) 1 :=
 ((K_ Try.underlying92 (by kernel_rfl)).map (fun n:{ n:Nat // n<4294967296 }=>[AV.int .u32 (n.1:Int)]) (fun n=>⟨n.1.toNat,by have:=lQ n.2;omega⟩) (fun n=>by have:=lQ n.2;simp;omega) (fun _=>rfl)).u
theorem ZY:∀ l:List { n:Nat // n<4294967296 },l.flatMap (fun n=>[AV.int .u32 (n.1:Int)])=Al (l.map (·.1))
 | []=>rfl
 | a::r=>by rw[List.flatMap_cons,ZY r];rfl
theorem lR:OpensU B Try.prog 71 (α:={ l:List Nat // As l∧l.length≤B }) (fun l=>[.imm (Al l.1) l.1.length 1 false false]) 1 :=
 (V3 (k:=1) Try.underlying71 (by kernel_rfl) rA AQ).map _ (fun l=>⟨l.1.map (·.1),fun x hx=>by obtain⟨y,_,rfl⟩:=List.mem_map.1 hx;exact y.2,by rw[List.length_map];have:=l.2;omega⟩) (fun l=>by show [AV.imm (l.1.flatMap (fun n=>[AV.int .u32 (n.1:Int)])) l.1.length 1 false false]=[AV.imm (Al (l.1.map (·.1))) (l.1.map (·.1)).length 1 false false];rw[ZY,List.length_map]) (fun _=>rfl)
theorem ra:OpensU B Try.prog 75 (α:={ x:RatD // x.ok∧x.m≤B }) (fun x=>x.1.av) 3 :=
 (Lt Try.underlying75 (by kernel_rfl) (by decide) (Dq rfl (Lt Try.underlying73 (by kernel_rfl) (by decide) (Dq rfl (iw Try.underlying4 (by kernel_rfl)).u (Dq rfl lR Rl))) (Dq rfl lR Rl))).map _
  (fun p=>⟨⟨p.1.1,.of p.1.2.1.1 false false,.of p.2.1.1 false false⟩,⟨p.1.2.1.2.1,p.2.1.2.1⟩,Nat.max_le.2 ⟨p.1.2.1.2.2,p.2.1.2.2⟩⟩) (fun _=>rfl) (fun _=>rfl)
theorem kS:OpensU B Try.prog 3 (α:=Int) (fun n=>[.int .i64 n]) 1 :=
 ((K_ Try.underlying3 (by kernel_rfl)).map (fun n:Int=>[AV.int .i64 n]) (fun n=>n.1) (fun _=>rfl) (fun _=>rfl)).u
theorem re:OpensU B Try.prog 83 (α:={ e:EntD // e.v.ok∧e.v.m≤B }) (fun e=>e.1.av) 4 :=
 (Lt Try.underlying83 (by kernel_rfl) (by decide) (Dq rfl kS (Dq rfl ra Rl))).map _ (fun p=>⟨⟨p.1,p.2.1.1⟩,p.2.1.2⟩) (fun p=>by simp[EntD.av]) (fun _=>rfl)
theorem cm:∀ l:List { e:EntD // e.v.ok∧e.v.m≤B },l.flatMap (fun e=>e.1.av)=Ca (l.map (·.1))
 | []=>rfl
 | a::r=>by rw[List.flatMap_cons,cm r];rfl
theorem rf:OpensU B Try.prog 77 (α:={ l:List EntD // Kb B l∧l.length≤B }) (fun l=>[.imm (Ca l.1) l.1.length 4 false false]) 1 :=
 (V3 (k:=1) Try.underlying77 (by kernel_rfl) re AQ).map _ (fun l=>⟨l.1.map (·.1),fun x hx=>by obtain⟨y,_,rfl⟩:=List.mem_map.1 hx;exact y.2,by rw[List.length_map];have:=l.2;omega⟩) (fun l=>by show [AV.imm (l.1.flatMap (fun e=>e.1.av)) l.1.length 4 false false]=[AV.imm (Ca (l.1.map (·.1))) (l.1.map (·.1)).length 4 false false];rw[cm,List.length_map]) (fun _=>rfl)
theorem ZZ:∀ m:List { l:List EntD // Kb B l∧l.length≤B },GM (m.flatMap (fun l=>[AV.imm (Ca l.1) l.1.length 4 false false])) (m.map (·.1))
 | []=>⟨rfl,fun i r h=>by simp at h⟩
 | a::r=>by
  have ih:=ZZ r
  rw[List.flatMap_cons,List.map_cons]
  refine⟨by rw[List.length_append,ih.1,List.length_cons];exact Nat.add_comm 1 _,fun i s hs=>?_⟩
  cases i with
  | zero =>
   simp at hs
   subst hs
   exact⟨_,rfl,by simp[Je]⟩
  | succ i =>
   simp only[List.getElem?_cons_succ] at hs
   obtain⟨x,h1,h2⟩:=ih.2 i s hs
   exact⟨x,by simpa using h1,h2⟩
theorem sL:OpensU B Try.prog 47 (α:=Int×Int×{ p:LA×List (List EntD) // GM p.1 p.2∧Hs B B p.2 }) (fun p=>[.int .i64 p.1,.int .i64 p.2.1,.imm p.2.2.1.1 p.2.2.1.2.length 1 false false]) 3 :=
 (Lt Try.underlying47 (by kernel_rfl) (by decide) (Dq rfl kS (Dq rfl kS (Dq rfl (V3 (k:=1) Try.underlying45 (by kernel_rfl) rf AQ) Rl)))).map _
  (fun p=>⟨p.1,p.2.1,⟨⟨_,p.2.2.1.1.map (·.1)⟩,ZZ p.2.2.1.1,fun r hr=>by obtain⟨y,_,rfl⟩:=List.mem_map.1 hr;exact y.2⟩⟩) (fun p=>by simp only[List.length_map];rfl) (fun _=>rfl)
end
section
variable {W:World} {H:Type} {enc:TypeId×Value→H} {β:Aw} {h:Ag}
theorem og {B:Nat} {v:Value} {d:DataW H} {p:List MemPlace} (hv:∃ cs,v=.agg cs) (hd:DataW.Trod enc Try.prog W 0 (fun _=>true) true 47 v d p) (hB:Rows.uptoBulk d≤B) :
  ∃ (rn cn:Int) (o:LA) (rows:List (List EntD)),GM o rows∧Hs B B rows∧Rep (fun _ k=>k<W.heap.size) β h W (.agg [.int .i64 rn,.int .i64 cn,.imm o rows.length 1 false false]) v:=by
 obtain⟨cs,rfl⟩:=hv
 obtain⟨fuel,hf⟩:=hd
 obtain⟨hl,⟨rn,cn,⟨⟨o,rows⟩,h1,h2⟩⟩,hr⟩:=sL.read enc W fuel _ _ _ hf hB
 refine⟨rn,cn,o,rows,h1,h2,pH ?_⟩
 rw[Rep]
 exact⟨cs.toList,rfl,hl,hr⟩
end
theorem eU (N:Nat) {R:Type} {K:Bool→O R} {rn cn:Int} {o:LA} {rows:List (List EntD)} {ch:List Int} {q i r g:Bool} (hN:N=2000000000) (ho:GM o rows) (hM:Hs 1048576 1048576 rows) (hch:ch.length≤9223372036854775807) :
  By N rn cn o rows.length q i (Ae ch) ch.length r g K=K true :=
 iG (by omega) hch ho hM ⟨by omega,by omega⟩ (by omega) (by omega)
end Gx

namespace Gx
open Go Go.Proofs Go.RowKit
section
variable {H:Type} {enc:TypeId×Value→H} {W:World} {β:Aw} {h:Ag}
theorem oh {q:Int→Prop}:∀ m:List { n:Int // q n },m.flatMap (fun n=>[AV.int .i64 n.1])=Ae (m.map (·.1))
 | []=>rfl
 | a::r=>by rw[List.flatMap_cons,oh r];rfl
theorem kT {a:Option Addr} {len cap:Nat} {d:DataW H} {p:List MemPlace} (hd:DataW.Trod enc Try.prog W 0 (fun _=>true) true 22 (.slice a len cap) d p) :
  ∃ l:List Int,l.length≤9223372036854775807∧Rep (fun _ k=>k<W.heap.size) β h W (.imm (Ae l) l.length 1 false false) (.slice a len cap):=by
 obtain⟨l,hl,e⟩:=pF (β:=β) (h:=h) Try.underlying22 (by kernel_rfl) (K_ Try.underlying3 (by kernel_rfl)) hd
 rw[oh] at e
 exact⟨l.map (·.1),by rw[List.length_map];simpa[maxLen] using hl,by rw[List.length_map];exact e⟩
end
end Gx
namespace Gx
open Go Go.Proofs
theorem ri {W:World}:GlobOk (fun _ k=>k<W.heap.size) W:=⟨(fun _ hp=>by cases hp),(fun _ hg=>by cases hg)⟩
end Gx
