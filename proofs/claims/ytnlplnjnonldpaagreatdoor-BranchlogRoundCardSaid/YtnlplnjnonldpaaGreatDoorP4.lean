/- A part of the proof; each theorem says what it holds. -/
import Derived.Laws.RangeAny
import Derived.Laws.RangeString
import Derived.Lib.AtoiAllCases
import Derived.Lib.IndexMore
import Derived.Test.YtnlplnjnonldpaaGreatDoorRows
import Derived.ChangeSame
import Derived.Test.YtnlplnjnonldpaaGreatDoorP3
set_option linter.unusedVariables false
set_option linter.defProp false
set_option linter.unusedSimpArgs false
open Nat (ble beq)
open List (take drop replicate)
open Go.IntKind (wrap)
namespace Gx
open Go Go.Proofs
set_option maxRecDepth 100000
noncomputable section
variable {R:Type} (N:Nat)
def Ox (N:Nat) (r0:Lu→Bool→O R) (a:Lu) (k0:Int→Int→O R) (f b:Int):O R :=
 (cond (decide (b<(((a.length):Nat):Int))) (cond ((decide ((((Sd a b).1:Nat):Int)≥48))==true) (cond (cond true (decide ((((Sd a b).1:Nat):Int)≤57)) false) (k0 (wrap .i64 (f+1)) (b+(((Sd a b).2:Nat):Int))) (k0 f (b+(((Sd a b).2:Nat):Int)))) (k0 f (b+(((Sd a b).2:Nat):Int)))) (r0 a (decide (f≤4096))))
def Ev (r0:Lu→Bool→O R) (a:Lu):Nat→Int→Int→O R
 | 0,_,_=>none
 | n+1,f,b=>Ox N r0 a (Ev r0 a n) f b
def Xb (r0:Lu→Bool→O R) (q0:Lu→Int→Int→O R) (c:LA) (d:Bool):O R :=
 (cond (ble 3 (c.length)) (pw N (c.take 3) d fun g=>cond (decide (g>16384)) (r0 ([]:Lu) false) (cond (ble 3 (c.length)) (La N (c.take 3) d fun a=>q0 a 0 0) none)) none)
def Oy:=(Af fun N c d r0=>Xb (R:=R) N r0 (fun a=>Ev N r0 a N) c d).1
theorem KL (c d r0):(@Oy R N c d r0)=(Xb N r0 (fun a=>Ev N r0 a N) c d):=by rw[Oy,(Af _).2]
def QO:Hints:={ H:=(hK 4 (hS (hK 1 (hS (hP [4,5,14] hL) hL)) hL)) }
def UO:N0:=[Ao5 N,UN N]
def pJ (F:KF R):=Hh Tryz.f119 QO (UO N) [] N F
def pK (a:Lu) (K:St→O R):=fun f b=>K ⟨[(4,(.str a)),(5,(iv f)),(14,(.omap 300000))],(hq [⟨false,false,true,false,1,[(.str a),(iv b)],true,none⟩])⟩
theorem dO (F:KF R) (a):∀ n,pK a (Ao (pJ N F (pz 21828) []) n)=(Ev N (xo F) a n):=D3 fun n e=>(Bn (Ox N (xo F) a) e:_)
def UP:=Bj N 119 (UO N) QO (fun
 | [(.pagg c d)],[]=>some fun _ k=>Oy N c d (xo k)
 | _,_=>none) fun _ _=>by split;intro R F;exact(Bn (Xb N (xo F) · _ _) (Ai5 fun a=>(lW ..).trans (dO ..)):_).trans (KL ..).symm;trivial
def UQ (r0:O R) (r1:Nat→Bool→LA→O R) (a:LA) (b:Nat) (d c:Bool) (k0:Int→O R) (o:Int):O R :=
 (cond (decide (0<o)) (cond (Ae 0 b) (cond (ble 4 (a.length)) (cond ((beq 0 0)&&((beq ((a.take 4).length) 4)&&(beq 4 4))) r0 none) none) none) (Tr N ([10]:Lu) true r0 fun r s=>r1 r true s))
def Xc (r0:O R) (r1:Nat→Bool→LA→O R) (a:LA) (b:Nat) (d c:Bool):Nat→Int→O R
 | 0,_=>none
 | n+1,o=>UQ N r0 r1 a b d c (Xc r0 r1 a b d c n) o
def UR (r0:O R) (r1:Nat→Bool→LA→O R) (a:LA) (b:Nat) (d c:Bool) (k1:Int→Int→Nat→Bool→LA→O R) (m f:Int) (g:Nat) (h:Bool) (i:LA):O R :=
 (cond (decide (f<m)) (cond (Ae f b) (cond (ble 4 ((a.drop ((f.toNat)*4)).length)) (cond ((beq 0 0)&&((beq (((a.drop ((f.toNat)*4)).take 4).length) 4)&&(beq 4 4))) (cond h (r1 g h i) (cond (ble 3 ((((a.drop ((f.toNat)*4)).take 4).drop 1).length)) (Oy N ((((a.drop ((f.toNat)*4)).take 4).drop 1).take 3) c fun q t=>cond (!t) (r1 g true i) (As .i64 ((a.drop ((f.toNat)*4)).take 4) fun u=>strconv_Itoa N u fun p=>cond (ble (1+(p.length)) 140737488355328) (cond (ble ((List.length (([32]:Lu)++p))+1) 140737488355328) (cond (ble ((List.length ((([32]:Lu)++p)++([58]:Lu)))+(q.length)) 140737488355328) (Cg N (((([32]:Lu)++p)++([58]:Lu))++q) g h i (k1 m (wrap .i64 (f+1)) g true i) fun v w=>k1 m (wrap .i64 (f+1)) v h w) none) none) none)) none)) none) none) none) (Cg N ([10]:Lu) g h i (r1 g true i) fun x y=>r1 x h y))
def Xd (r0:O R) (r1:Nat→Bool→LA→O R) (a:LA) (b:Nat) (d c:Bool):Nat→Int→Int→Nat→Bool→LA→O R
 | 0,_,_,_,_,_=>none
 | n+1,m,f,g,h,i=>UR N r0 r1 a b d c (Xd r0 r1 a b d c n) m f g h i
def US (r0:O R) (r1:Nat→Bool→LA→O R) (q0:Int→O R) (q1:Int→Int→Nat→Bool→LA→O R) (l:Lu) (a:LA) (b:Nat) (d c j:Bool):O R :=
 (Tr N l j (q0 (b:Int)) fun z aa=>q1 (b:Int) 0 z j aa)
def DR:=(Af fun N l a b d c j r0 r1=>US (R:=R) N r0 r1 (Xc N r0 r1 a b d c N) (Xd N r0 r1 a b d c N) l a b d c j).1
theorem uH (l a b d c j r0 r1):(@DR R N l a b d c j r0 r1)=(US N r0 r1 (Xc N r0 r1 a b d c N) (Xd N r0 r1 a b d c N) l a b d c j):=by rw[DR,(Af _).2]
def aH:Hints:={ H:=(hK 1 (hS (hK 1 (hS (hP [0,13,14,15] hL) hL)) hL)) }
def gp:N0:=[Ej N,UP N,Ng N]
def aI (F:KF R):=Hh Tryz.f78 aH (gp N) [100000] N F
def xB (a:LA) (b:Nat) (d c:Bool) (K:St→O R):=fun o=>K ⟨[(0,(.optr 100000 0)),(13,(.imm a b 4 d c)),(14,(iv o)),(15,(iv 0))],[(100000,⟨false,false,false,false,0,[.nilptr,.nsl,(.bool true)],false,(some (113,3))⟩)]⟩
def xC (a:LA) (b:Nat) (d c:Bool) (K:St→O R):=fun m f g h i=>K ⟨[(0,(.optr 100000 0)),(13,(.imm a b 4 d c)),(14,(iv m)),(15,(iv f))],[(100000,⟨false,false,false,false,0,[(.optr 100000 0),(.own 300000 0 g),(.bool h)],false,(some (113,3))⟩),(300000,⟨false,false,true,false,1,i,false,(some (5,0))⟩)]⟩
theorem k8 (F:KF R) (a b d c):∀ n,xB a b d c (Ao (aI N F (pz 324) []) n)=(Xc N (CC F) (Xp F) a b d c n):=D3 fun n e=>(Bn (UQ N (CC F) (Xp F) a b d c) e:_)
theorem k_ (F:KF R) (a b d c):∀ n,xC a b d c (Ao (aI N F (pz 324) []) n)=(Xd N (CC F) (Xp F) a b d c n):=D3 fun n e=>(Bn (UR N (CC F) (Xp F) a b d c) e:_)
def Acc:=Bj N 78 (gp N) aH (fun
 | [(.optr 100000 0),(.str l),(.imm a b 4 d c)],[(100000,⟨false,false,false,false,0,[.nilptr,.nsl,(.bool j)],false,(some (113,3))⟩)]=>some fun _ k=>DR N l a b d c j (CC k) (Xp k)
 | _,_=>none) fun _ _=>by split;intro R F;exact(Yq (US N (CC F) (Xp F) · · _ _ _ _ _ _) ((lW ..).trans (k8 ..)) ((lW ..).trans (k_ ..)):_).trans (uH ..).symm;trivial
def Agr (a:LA) (d b:Bool) (r0:Bool→O R) (r1:Nat→Bool→LA→O R):O R :=
 (As .i64 a fun c=>cond (c==0) (As .i64 (a.drop 1) fun e=>As .i64 (a.drop 2) fun f=>AI N ([98,114,97,110,99,104]:Lu) [(.int .i64 e),(.int .i64 f)] 2 false true b (r0 true) fun g h i=>r1 g h i) (cond (c==1) (Aw 4 (a.drop 4) fun j l=>DR N ([98,111,117,110,100]:Lu) j l false d b (r0 true) fun m n o=>r1 m n o) (cond (c==2) (Aw 4 (a.drop 4) fun p q=>DR N ([102,97,114,107,97,115]:Lu) p q false d b (r0 true) fun r s t=>r1 r s t) (cond (c==3) (As .i64 (a.drop 1) fun u=>AI N ([112,97,116,104]:Lu) [(.int .i64 u)] 1 false true b (r0 true) fun v w x=>r1 v w x) (cond (c==4) (As .i64 (a.drop 1) fun y=>As .i64 (a.drop 3) fun z=>As .i64 (a.drop 2) fun aa=>AI N ([111,114,100,101,114]:Lu) [(.int .i64 y),(.int .i64 z),(.int .i64 aa)] 3 false true b (r0 true) fun ab ac ad=>r1 ab ac ad) (r0 b))))))
def Acd:=(Af (@Agr R)).1
theorem Ags:@Acd R=@Agr R:=(Af _).2
def Akx (F:KF R):Bool→O R:=(fun ae=>F (.tup []) [(100000,⟨false,false,false,false,0,[.nilptr,.nsl,(.bool ae)],false,(some (113,3))⟩)])
def Apw:=Bj N 39 [kY N,Acc N] Bg (fun
 | [(.optr 100000 0),(.pagg a d)],[(100000,⟨false,false,false,false,0,[.nilptr,.nsl,(.bool b)],false,(some (113,3))⟩)]=>some fun _ k=>Acd N a d b (Akx k) (Xp k)
 | _,_=>none) fun _ _=>by split;intro R F;dsimp only;rw[Ags];kernel_rfl;trivial
def aJ (N:Nat) (a:Bool) (r0:O R):O R :=
 r0
def OI:=(Af (@aJ R)).1
theorem kc:@OI R=@aJ R:=(Af _).2
def pL (a:Bool) (F:KF R):O R:=F (.str ([]:Lu)) [(100000,⟨false,false,false,false,0,[.nilptr,.nsl,(.bool a)],false,(some (113,3))⟩)]
def uI:=Bj N 40 [] Bg (fun
 | [(.optr 100000 0)],[(100000,⟨false,false,false,false,0,[.nilptr,.nsl,(.bool a)],false,(some (113,3))⟩)]=>some fun _ k=>OI N a (pL a k)
 | _,_=>none) fun _ _=>by split;intro R F;dsimp only;rw[kc];kernel_rfl;trivial
def Ms (r0:Nat→Bool→LA→O R) (a:LA) (b:Nat) (d c:Bool) (k0:Int→Int→Nat→Bool→LA→O R) (p f:Int) (g:Nat) (h:Bool) (i:LA):O R :=
 (cond (decide (f<p)) (cond (Ae f b) (cond (ble 4 ((a.drop ((f.toNat)*4)).length)) (cond ((beq 0 0)&&((beq (((a.drop ((f.toNat)*4)).take 4).length) 4)&&(beq 4 4))) (cond h (r0 g h i) (cond (ble 3 ((((a.drop ((f.toNat)*4)).take 4).drop 1).length)) (Oy N ((((a.drop ((f.toNat)*4)).take 4).drop 1).take 3) c fun r s=>cond (!s) (r0 g true i) (As .i64 ((a.drop ((f.toNat)*4)).take 4) fun t=>strconv_Itoa N t fun q=>cond (ble (1+(q.length)) 140737488355328) (cond (ble ((List.length (([32]:Lu)++q))+1) 140737488355328) (cond (ble ((List.length ((([32]:Lu)++q)++([58]:Lu)))+(r.length)) 140737488355328) (Cg N (((([32]:Lu)++q)++([58]:Lu))++r) g h i (k0 p (wrap .i64 (f+1)) g true i) fun u v=>k0 p (wrap .i64 (f+1)) u h v) none) none) none)) none)) none) none) none) (Cg N ([10]:Lu) g h i (r0 g true i) fun w x=>r0 w h x))
def C7 (r0:Nat→Bool→LA→O R) (a:LA) (b:Nat) (d c:Bool):Nat→Int→Int→Nat→Bool→LA→O R
 | 0,_,_,_,_,_=>none
 | n+1,p,f,g,h,i=>Ms N r0 a b d c (C7 r0 a b d c n) p f g h i
def Ty (r0:Nat→Bool→LA→O R) (q0:Int→Int→Nat→Bool→LA→O R) (o:Lu) (a:LA) (b:Nat) (d c:Bool) (j:Nat) (l:Bool) (m:LA):O R :=
 (Cg N o j l m (q0 (b:Int) 0 j true m) fun y z=>q0 (b:Int) 0 y l z)
def L6:=(Af fun N o a b d c j l m r0=>Ty (R:=R) N r0 (C7 N r0 a b d c N) o a b d c j l m).1
theorem GE (o a b d c j l m r0):(@L6 R N o a b d c j l m r0)=(Ty N r0 (C7 N r0 a b d c N) o a b d c j l m):=by rw[L6,(Af _).2]
def KM:Hints:={ H:=(hK 1 (hS (hK 1 (hS (hP [0,13,14,15] hL) hL)) hL)),free:=[100001] }
def QP:N0:=[Pu N,UP N,Ng N]
def ke (F:KF R):=Hh Tryz.f78 KM (QP N) [100000,100001] N F
def kf (a:LA) (b:Nat) (d c:Bool) (K:St→O R):=fun p f g h i=>K ⟨[(0,(.optr 100000 0)),(13,(.imm a b 4 d c)),(14,(iv p)),(15,(iv f))],[(100000,⟨false,false,false,false,0,[(.optr 100000 0),(.own 300000 0 g),(.bool h)],false,(some (113,3))⟩),(300000,⟨false,false,true,false,1,i,false,(some (5,0))⟩)]⟩
theorem YI (F:KF R) (a b d c):∀ n,kf a b d c (Ao (ke N F (pz 324) []) n)=(C7 N (Xp F) a b d c n):=D3 fun n e=>(Bn (Ms N (Xp F) a b d c) e:_)
def pM:=Bj N 78 (QP N) KM (fun
 | [(.optr 100000 0),(.str o),(.imm a b 4 d c)],[(100000,⟨false,false,false,false,0,[(.optr 100000 0),(.own 100001 0 j),(.bool l)],false,(some (113,3))⟩),(100001,⟨false,false,true,false,1,m,false,(some (5,0))⟩)]=>some fun _ k=>L6 N o a b d c j l m (Xp k)
 | _,_=>none) fun _ _=>by split;intro R F;exact(Bn (Ty N (Xp F) · _ _ _ _ _ _ _ _) ((lW ..).trans (YI ..)):_).trans (GE ..).symm;trivial
def UT (a:LA) (f:Bool) (b:Nat) (c:Bool) (d:LA) (r0:Nat→Bool→LA→O R) (r1:O R):O R :=
 (As .i64 a fun e=>cond (e==0) (As .i64 (a.drop 1) fun g=>As .i64 (a.drop 2) fun h=>Nt N ([98,114,97,110,99,104]:Lu) [(.int .i64 g),(.int .i64 h)] 2 false true b c d fun i j l=>r0 i j l) (cond (e==1) (Aw 4 (a.drop 4) fun m n=>L6 N ([98,111,117,110,100]:Lu) m n false f b c d fun o p q=>r0 o p q) (cond (e==2) (Aw 4 (a.drop 4) fun r s=>L6 N ([102,97,114,107,97,115]:Lu) r s false f b c d fun t u v=>r0 t u v) (cond (e==3) (As .i64 (a.drop 1) fun w=>Nt N ([112,97,116,104]:Lu) [(.int .i64 w)] 1 false true b c d fun x y z=>r0 x y z) (cond (e==4) (As .i64 (a.drop 1) fun aa=>As .i64 (a.drop 3) fun ab=>As .i64 (a.drop 2) fun ac=>Nt N ([111,114,100,101,114]:Lu) [(.int .i64 aa),(.int .i64 ab),(.int .i64 ac)] 3 false true b c d fun ad ae af=>r0 ad ae af) r1)))))
def OJ:=(Af (@UT R)).1
theorem UU:@OJ R=@UT R:=(Af _).2
def Ace:=Bj N 39 [OF N,pM N] Bg (fun
 | [(.optr 100000 0),(.pagg a f)],[(100000,⟨false,false,false,false,0,[(.optr 100000 0),(.own 100001 0 b),(.bool c)],false,(some (113,3))⟩),(100001,⟨false,false,true,false,1,d,false,(some (5,0))⟩)]=>some fun _ k=>OJ N a f b c d (Xp k) (Avr b c d k)
 | _,_=>none) fun _ _=>by split;intro R F;dsimp only;rw[UU];kernel_rfl;trivial
def HM (N a:Nat) (b:Bool) (c:LA) (r0:Lu→O R):O R :=
 (cond (Nat.blt 0 a) (cond ((beq 5 5)&&((beq 1 1)&&(true&&((!false)&&((beq 0 0)&&((decide (0<(a:Int)))&&((decide ((a:Int)≤(((c.length):Nat):Int)))&&(decide ((a:Int)≤9223372036854775807))))))))) (Option.bind (Sc (c.take a)) fun d=>r0 d) none) none)
def AM:=(Af (@HM R)).1
theorem KN:@AM R=@HM R:=(Af _).2
def pN (b:Bool) (F:KF R):Lu→O R:=(fun e=>F (.str e) [(100000,⟨false,false,false,false,0,[(.optr 100000 0),.undef,(.bool b)],false,(some (113,3))⟩)])
def uJ:=Bj N 40 [] Bg (fun
 | [(.optr 100000 0)],[(100000,⟨false,false,false,false,0,[(.optr 100000 0),(.own 100001 0 a),(.bool b)],false,(some (113,3))⟩),(100001,⟨false,false,true,false,1,c,false,(some (5,0))⟩)]=>some fun _ k=>AM N a b c (pN b k)
 | _,_=>none) fun _ _=>by split;intro R F;dsimp only;rw[KN];kernel_rfl;trivial
def Xe (r0:Lu→Int→O R) (a:Bool) (k6:LA→Nat→Int→Int→Nat→Bool→LA→O R) (l:LA) (s:Nat) (t d:Int) (u:Nat) (r:Bool) (v:LA):O R :=
 (cond (decide (d<t)) (cond (Ae d s) (cond (ble 5 ((l.drop ((d.toNat)*5)).length)) (cond ((beq 0 0)&&((beq (((l.drop ((d.toNat)*5)).take 5).length) 5)&&(beq 5 5))) (cond (ble 5 (((l.drop ((d.toNat)*5)).take 5).length)) (OJ N (((l.drop ((d.toNat)*5)).take 5).take 5) a u r v (fun av aw ax=>k6 l s t (wrap .i64 (d+1)) av aw ax) (k6 l s t (wrap .i64 (d+1)) u r v)) none) none) none) none) (cond r (r0 ([]:Lu) 8) (AM N u r v fun ay=>r0 ay 0)))
def Ib (r0:Lu→Int→O R) (a:Bool):Nat→LA→Nat→Int→Int→Nat→Bool→LA→O R
 | 0,_,_,_,_,_,_,_=>none
 | n+1,l,s,t,d,u,r,v=>Xe N r0 a (Ib r0 a n) l s t d u r v
def aK (r0:Lu→Int→O R) (a:Bool) (k5:LA→Nat→Int→Int→Bool→O R) (k6:LA→Nat→Int→Int→Nat→Bool→LA→O R) (m:LA) (w:Nat) (x f:Int) (y:Bool):O R :=
 (cond (decide (f<x)) (cond (Ae f w) (cond (ble 5 ((m.drop ((f.toNat)*5)).length)) (cond ((beq 0 0)&&((beq (((m.drop ((f.toNat)*5)).take 5).length) 5)&&(beq 5 5))) (cond (ble 5 (((m.drop ((f.toNat)*5)).take 5).length)) (Acd N (((m.drop ((f.toNat)*5)).take 5).take 5) a y (fun az=>k5 m w x (wrap .i64 (f+1)) az) fun ba bb bc=>k6 m w x (wrap .i64 (f+1)) ba bb bc) none) none) none) none) (cond y (r0 ([]:Lu) 8) (OI N y (r0 ([]:Lu) 0))))
def OK (r0:Lu→Int→O R) (a:Bool):Nat→LA→Nat→Int→Int→Bool→O R
 | 0,_,_,_,_,_=>none
 | n+1,m,w,x,f,y=>aK N r0 a (OK r0 a n) (Ib N r0 a n) m w x f y
def Xf (r0:Lu→Int→O R) (a:Bool) (b:LA) (k4:LA→Nat→Int→Int→Nat→Bool→LA→O R) (q6:LA→Nat→Int→Int→Nat→Bool→LA→O R) (q:LA) (ad:Nat) (ae i:Int) (af:Nat) (ag:Bool) (ah:LA):O R :=
 (cond (decide (i<ae)) (cond (Ae i ad) (cond (ble 6 ((q.drop ((i.toNat)*6)).length)) (cond ((beq 0 0)&&((beq (((q.drop ((i.toNat)*6)).take 6).length) 6)&&(beq 6 6))) (cond (ble 6 (((q.drop ((i.toNat)*6)).take 6).length)) (XA N (((q.drop ((i.toNat)*6)).take 6).take 6) a af ag ah fun bd be bf=>k4 q ad ae (wrap .i64 (i+1)) bd be bf) none) none) none) none) (Aw 5 (b.drop 2) fun bg an=>q6 bg an (an:Int) 0 af ag ah))
def Ic (r0:Lu→Int→O R) (a:Bool) (b:LA):Nat→LA→Nat→Int→Int→Nat→Bool→LA→O R
 | 0,_,_,_,_,_,_,_=>none
 | n+1,q,ad,ae,i,af,ag,ah=>Xf N r0 a b (Ic r0 a b n) (Ib N r0 a N) q ad ae i af ag ah
def aL (r0:Lu→Int→O R) (a:Bool) (b:LA) (k3:LA→Nat→Int→Int→O R) (k4:LA→Nat→Int→Int→Nat→Bool→LA→O R) (q5:LA→Nat→Int→Int→Bool→O R) (o:LA) (z:Nat) (aa g:Int):O R :=
 (cond (decide (g<aa)) (cond (Ae g z) (cond (ble 6 ((o.drop ((g.toNat)*6)).length)) (cond ((beq 0 0)&&((beq (((o.drop ((g.toNat)*6)).take 6).length) 6)&&(beq 6 6))) (cond (ble 6 (((o.drop ((g.toNat)*6)).take 6).length)) (Akv N (((o.drop ((g.toNat)*6)).take 6).take 6) a true (k3 o z aa (wrap .i64 (g+1))) fun bh bi bj=>k4 o z aa (wrap .i64 (g+1)) bh bi bj) none) none) none) none) (Aw 5 (b.drop 2) fun bk ao=>q5 bk ao (ao:Int) 0 true))
def OL (r0:Lu→Int→O R) (a:Bool) (b:LA):Nat→LA→Nat→Int→Int→O R
 | 0,_,_,_,_=>none
 | n+1,o,z,aa,g=>aL N r0 a b (OL r0 a b n) (Ic N r0 a b n) (OK N r0 a N) o z aa g
def Xg (r0:Lu→Int→O R) (a:Bool) (b:LA) (k2:LA→Nat→Int→Int→Nat→Bool→LA→O R) (q4:LA→Nat→Int→Int→Nat→Bool→LA→O R) (p:LA) (ai:Nat) (aj h:Int) (ak:Nat) (al:Bool) (am:LA):O R :=
 (cond (decide (h<aj)) (cond (Ae h ai) (cond (ble 2 ((p.drop ((h.toNat)*2)).length)) (cond ((!a)||(A6 ((p.drop ((h.toNat)*2)).take 2))) (cond ((beq (((p.drop ((h.toNat)*2)).take 2).length) 2)&&((ble 2 2)&&(!false))) (As .i64 (setCells [(.int .i64 0),(.int .i64 0)] 0 ((p.drop ((h.toNat)*2)).take 2)) fun bl=>As .i64 ((setCells [(.int .i64 0),(.int .i64 0)] 0 ((p.drop ((h.toNat)*2)).take 2)).drop 1) fun bm=>Nt N ([117,115,101]:Lu) [(.int .i64 bl),(.int .i64 bm)] 2 false true ak al am fun bn bo bp=>k2 p ai aj (wrap .i64 (h+1)) bn bo bp) none) none) none) none) (Aw 6 (b.drop 1) fun bq ap=>q4 bq ap (ap:Int) 0 ak al am))
def Gc (r0:Lu→Int→O R) (a:Bool) (b:LA):Nat→LA→Nat→Int→Int→Nat→Bool→LA→O R
 | 0,_,_,_,_,_,_,_=>none
 | n+1,p,ai,aj,h,ak,al,am=>Xg N r0 a b (Gc r0 a b n) (Ic N r0 a b N) p ai aj h ak al am
def aM (r0:Lu→Int→O R) (a:Bool) (b:LA) (k1:LA→Nat→Int→Int→O R) (k2:LA→Nat→Int→Int→Nat→Bool→LA→O R) (q3:LA→Nat→Int→Int→O R) (j:LA) (ab:Nat) (ac c:Int):O R :=
 (cond (decide (c<ac)) (cond (Ae c ab) (cond (ble 2 ((j.drop ((c.toNat)*2)).length)) (cond ((!a)||(A6 ((j.drop ((c.toNat)*2)).take 2))) (cond ((beq (((j.drop ((c.toNat)*2)).take 2).length) 2)&&((ble 2 2)&&(!false))) (As .i64 (setCells [(.int .i64 0),(.int .i64 0)] 0 ((j.drop ((c.toNat)*2)).take 2)) fun br=>As .i64 ((setCells [(.int .i64 0),(.int .i64 0)] 0 ((j.drop ((c.toNat)*2)).take 2)).drop 1) fun bs=>AI N ([117,115,101]:Lu) [(.int .i64 br),(.int .i64 bs)] 2 false true true (k1 j ab ac (wrap .i64 (c+1))) fun bt bu bv=>k2 j ab ac (wrap .i64 (c+1)) bt bu bv) none) none) none) none) (Aw 6 (b.drop 1) fun bw aq=>q3 bw aq (aq:Int) 0))
def OM (r0:Lu→Int→O R) (a:Bool) (b:LA):Nat→LA→Nat→Int→Int→O R
 | 0,_,_,_,_=>none
 | n+1,j,ab,ac,c=>aM N r0 a b (OM r0 a b n) (Gc N r0 a b n) (OL N r0 a b N) j ab ac c
def Xh (r0:Lu→Int→O R) (a:Bool) (b:LA) (q1:LA→Nat→Int→Int→O R) (q2:LA→Nat→Int→Int→Nat→Bool→LA→O R):O R :=
 (cond (ble 3 (b.length)) (Yg N (b.take 3) a fun bx=>cond (!bx) (r0 ([]:Lu) 1) (Aw 2 b fun cm bz=>Aw 6 (b.drop 1) fun cn ca=>Aw 5 (b.drop 2) fun co cb=>AI N ([108,111,103]:Lu) [(.int .i64 (bz:Int)),(.int .i64 (ca:Int)),(.int .i64 (cb:Int))] 3 false true false (Aw 2 b fun cc ar=>q1 cc ar (ar:Int) 0) fun cd ce cf=>Aw 2 b fun cg au=>q2 cg au (au:Int) 0 cd ce cf)) none)
def Oz (r0:Lu→Int→O R) (a:Bool) (b:LA):O R:=(Xh N r0 a b (OM N r0 a b N) (Gc N r0 a b N))
def Rg (N:Nat) (r0:Lu→Int→O R) (q0:O R) (b:LA) (a:Bool):O R :=
 (Aw 2 b fun cp ch=>cond ((decide ((ch:Int)>16384))==false) (Aw 6 (b.drop 1) fun cq ci=>cond ((cond false true (decide ((ci:Int)>256)))==false) (Aw 5 (b.drop 2) fun cr cj=>cond (cond false true (decide ((cj:Int)>4096))) (r0 ([]:Lu) 8) q0) (r0 ([]:Lu) 8)) (r0 ([]:Lu) 8))
def Hu:=(Af fun N b a r0=>Rg (R:=R) N r0 (Oz N r0 a b) b a).1
theorem Pv (b a r0):(@Hu R N b a r0)=(Rg N r0 (Oz N r0 a b) b a):=by rw[Hu,(Af _).2]
def gq:Hints:={ H:=(hK 1 (hJ [1] hL (hK 3 (hS (hK 1 (hS (hP [1,4,42,43,44] hL) hL)) (hS (hK 1 (hS (hP [1,4,56,57,58] hL) hL)) (hS (hK 1 (hS (hP [4,66,67,68] hL) hL)) hL)))))) }
def HN:=At6 (kY N) (OF N) (Eq.refl 37)
def ON:=At6 (As4 N) (Agn N) (Eq.refl 38)
def HO:=At6 (Apw N) (Ace N) (Eq.refl 39)
def Uf:=At6 (uI N) (uJ N) (Eq.refl 40)
def nV:N0:=[xA N,HN N,ON N,HO N,Uf N]
def Lb (F:KF R):=Hh Tryz.f11 gq (nV N) [] N F
def Bz (F:KF R):Lu→Int→O R:=(fun ck cl=>F (.tup [(.str ck),(iv cl)]) [])
def Acf (a:Bool) (K:St→O R):=fun l s t d u r v=>K ⟨[(4,(op 0)),(66,(.imm l s 5 false a)),(67,(iv t)),(68,(iv d))],(hq [⟨false,false,false,false,0,[(op 0),(.own 300001 0 u),(.bool r)],false,(some (113,3))⟩,⟨false,false,true,false,1,v,false,(some (5,0))⟩])⟩
def Acg (a:Bool) (K:St→O R):=fun m w x f y=>K ⟨[(4,(op 0)),(66,(.imm m w 5 false a)),(67,(iv x)),(68,(iv f))],(hq [⟨false,false,false,false,0,[.nilptr,.nsl,(.bool y)],false,(some (113,3))⟩])⟩
def Ach (a:Bool) (b:LA) (K:St→O R):=fun q ad ae i af ag ah=>K ⟨[(1,(op 0)),(4,(op 1)),(56,(.imm q ad 6 false a)),(57,(iv ae)),(58,(iv i))],(hq [(bP a 0 b),⟨false,false,false,false,0,[(op 1),(.own 300002 0 af),(.bool ag)],false,(some (113,3))⟩,⟨false,false,true,false,1,ah,false,(some (5,0))⟩])⟩
def Aci (a:Bool) (b:LA) (K:St→O R):=fun o z aa g=>K ⟨[(1,(op 0)),(4,(op 1)),(56,(.imm o z 6 false a)),(57,(iv aa)),(58,(iv g))],(hq [(bP a 0 b),⟨false,false,false,false,0,[.nilptr,.nsl,(.bool true)],false,(some (113,3))⟩])⟩
def Acj (a:Bool) (b:LA) (K:St→O R):=fun p ai aj h ak al am=>K ⟨[(1,(op 0)),(4,(op 1)),(42,(.imm p ai 2 false a)),(43,(iv aj)),(44,(iv h))],(hq [(bP a 0 b),⟨false,false,false,false,0,[(op 1),(.own 300002 0 ak),(.bool al)],false,(some (113,3))⟩,⟨false,false,true,false,1,am,false,(some (5,0))⟩])⟩
def Ack (a:Bool) (b:LA) (K:St→O R):=fun j ab ac c=>K ⟨[(1,(op 0)),(4,(op 1)),(42,(.imm j ab 2 false a)),(43,(iv ac)),(44,(iv c))],(hq [(bP a 0 b),⟨false,false,false,false,0,[.nilptr,.nsl,(.bool true)],false,(some (113,3))⟩])⟩
def Acl (a:Bool) (b:LA) (K:St→O R):=K ⟨[(1,(op 0))],(hq [(bP a 0 b)])⟩
theorem QQ (F:KF R) (a):∀ n,Acf a (Ao (Lb N F (pz 1398084) []) n)=(Ib N (Bz F) a n):=D3 fun n e=>(Bn (Xe N (Bz F) a) e:_)
theorem pO (F:KF R) (a):∀ n,Acg a (Ao (Lb N F (pz 1398084) []) n)=(OK N (Bz F) a n):=D3 fun n e=>(Yq (aK N (Bz F) a) e (QQ ..):_)
theorem QR (F:KF R) (a b):∀ n,Ach a b (Ao (Lb N F (pz 349508) []) n)=(Ic N (Bz F) a b n):=D3 fun n e=>(Yq (Xf N (Bz F) a b) e ((lW ..).trans (QQ ..)):_)
theorem pP (F:KF R) (a b):∀ n,Aci a b (Ao (Lb N F (pz 349508) []) n)=(OL N (Bz F) a b n):=D3 fun n e=>(Axl (aL N (Bz F) a b) e (QR ..) ((lW ..).trans (pO ..)):_)
theorem QS (F:KF R) (a b):∀ n,Acj a b (Ao (Lb N F (pz 87364) []) n)=(Gc N (Bz F) a b n):=D3 fun n e=>(Yq (Xg N (Bz F) a b) e ((lW ..).trans (QR ..)):_)
theorem pQ (F:KF R) (a b):∀ n,Ack a b (Ao (Lb N F (pz 87364) []) n)=(OM N (Bz F) a b n):=D3 fun n e=>(Axl (aM N (Bz F) a b) e (QS ..) ((lW ..).trans (pP ..)):_)
theorem pR (F:KF R) (a b):Acl a b (A0 (Lb N F (pz 21) []))=(Oz N (Bz F) a b):=(Yq (Xh N (Bz F) a b) ((lW ..).trans (pQ ..)) ((lW ..).trans (QS ..)):_)
def nW:=Bj N 11 (nV N) gq (fun
 | [(.pagg b a)],[]=>some fun _ k=>Hu N b a (Bz k)
 | _,_=>none) fun _ _=>by split;intro R F;exact(Bn (Rg N (Bz F) · _ _) ((jW ..).trans (pR ..)):_).trans (Pv ..).symm;trivial
def Tz (k1:Int→Int→O R) (r0:Int→Bool→O R) (a:Lu) (d f g:Int):O R :=
 (L5 N (wrap .i64 ((wrap .i64 (10*d))+(wrap .i64 (wrap .i32 (f - 48))))) fun h=>cond (!h) (r0 0 false) (k1 (wrap .i64 ((wrap .i64 (10*d))+(wrap .i64 (wrap .i32 (f - 48))))) g))
def Qs (N:Nat) (r0:Int→Bool→O R) (a:Lu) (k1:Int→Int→O R) (q2:Int→Int→Int→O R) (c b:Int):O R :=
 (cond (decide (b<(((a.length):Nat):Int))) (cond ((decide ((((Sd a b).1:Nat):Int)<48))==false) (cond (cond false true (decide ((((Sd a b).1:Nat):Int)>57))) (r0 0 false) (q2 c (((Sd a b).1:Nat):Int) (b+(((Sd a b).2:Nat):Int)))) (r0 0 false)) (r0 c true))
def G7 (r0:Int→Bool→O R) (a:Lu):Nat→Int→Int→O R
 | 0,_,_=>none
 | n+1,c,b=>Qs N r0 a (G7 r0 a n) (Tz N (G7 r0 a n) r0 a) c b
def Y3 (N:Nat) (r0:Int→Bool→O R) (a:Lu) (q1:Int→Int→O R):O R :=
 (q1 0 0)
def Nu (r0:Int→Bool→O R) (a:Lu):O R:=(Y3 N r0 a (G7 N r0 a N))
def AN (N:Nat) (r0:Int→Bool→O R) (q0:O R) (a:Lu):O R :=
 (cond ((a==([]:Lu))==false) (cond ((decide ((((a.length):Nat):Int)>1))==true) (cond (Ae 0 (a.length)) (cond (cond false true (cond true (((UInt8.toNat (List.getD a 0 0):Nat):Int)==48) false)) (r0 0 false) q0) none) q0) (r0 0 false))
def Rv:=(Af fun N a r0=>AN (R:=R) N r0 (Nu N r0 a) a).1
theorem QT (a r0):(@Rv R N a r0)=(AN N r0 (Nu N r0 a) a):=by rw[Rv,(Af _).2]
def UV:Hints:={ H:=(hK 1 (hJ [0] hL (hK 1 (hS (hK 1 (hS (hP [4,20] (hK 2 (hS (hK 1 (hJ [4,6,20] hL hL)) hL))) hL)) hL)))) }
def aN:N0:=[Yf N]
def DS (F:KF R):=Hh Tryz.f168 UV (aN N) [] N F
def uK (a:Lu) (K:St→O R):=fun d f g=>K ⟨[(4,(iv d)),(6,(.int .i32 f)),(20,(.omap 300000))],(hq [⟨false,false,true,false,1,[(.str a),(iv g)],true,none⟩])⟩
def UW (a:Lu) (K:St→O R):=fun c b=>K ⟨[(4,(iv c)),(20,(.omap 300000))],(hq [⟨false,false,true,false,1,[(.str a),(iv b)],true,none⟩])⟩
def uL (a:Lu) (K:St→O R):=K ⟨[(0,(.str a))],[]⟩
theorem gr (Q1) (F:KF R) (a):uK a (A0 (DS N F (pz 22298949) [Q1]))=(Tz N (UW a Q1) (YV F) a):=by kernel_rfl
theorem gt (F:KF R) (a):∀ n,UW a (Ao (DS N F (pz 5444) []) n)=(G7 N (YV F) a n):=D3 fun n e=>(Yq (Qs N (YV F) a) e ((jW ..).trans ((gr ..).trans (vO (Tz _ · _ _) e))):_)
theorem gv (F:KF R) (a):uL a (A0 (DS N F (pz 21) []))=(Nu N (YV F) a):=(Bn (Y3 N (YV F) a) ((lW ..).trans (gt ..)):_)
def aO:=Bj N 168 (aN N) UV (fun
 | [(.str a)],[]=>some fun _ k=>Rv N a (YV k)
 | _,_=>none) fun _ _=>by split;intro R F;exact(Bn (AN N (YV F) · _) ((jW ..).trans (gv ..)):_).trans (QT ..).symm;trivial
def O0 (r0:Nat→Bool→LA→O R) (a:Nat) (b:LA) (c d:Bool) (k0:Int→Int→LA→O R) (h f:Int) (g:LA):O R :=
 (cond (decide (f<h)) (cond (Ae f a) (bU (b.drop ((f.toNat)*1)) fun i=>Rv N i fun j l=>cond (!l) (r0 0 false []) (cond (Ae f a) (cond ((beq 1 1)&&((ble ((0+((f.toNat)*1))+1) (g.length))&&(!false))) (k0 h (wrap .i64 (f+1)) (g.set (0+((f.toNat)*1)) (.int .i64 j))) none) none)) none) (r0 a true g))
def F2 (r0:Nat→Bool→LA→O R) (a:Nat) (b:LA) (c d:Bool):Nat→Int→Int→LA→O R
 | 0,_,_,_=>none
 | n+1,h,f,g=>O0 N r0 a b c d (F2 r0 a b c d n) h f g
def Xi (N:Nat) (r0:Nat→Bool→LA→O R) (q0:Int→Int→LA→O R) (b:LA) (a:Nat) (c d:Bool):O R :=
 (cond ((decide (0≤(a:Int)))&&((decide ((a:Int)≤(a:Int)))&&((decide ((a:Int)≤140737488355328))&&(decide (((a:Int)*((8:Nat):Int))≤140737488355328))))) (q0 (a:Int) 0 (replicate a (.int .i64 0))) none)
def Gd:=(Af fun N b a c d r0=>Xi (R:=R) N r0 (F2 N r0 a b c d N) b a c d).1
theorem KO (b a c d r0):(@Gd R N b a c d r0)=(Xi N r0 (F2 N r0 a b c d N) b a c d):=by rw[Gd,(Af _).2]
def QU:Hints:={ H:=(hK 2 (hS (hK 1 (hS (hP [4,12,13,14] hL) hL)) hL)),nils:=[(2,1)],modes:=[(2,1),(0,0)] }
def UX:N0:=[aO N]
def pS (F:KF R):=Hh Tryz.f121 QU (UX N) [] N F
def pT (a:Nat) (b:LA) (c d:Bool) (K:St→O R):=fun h f g=>K ⟨[(4,(.own 300000 0 a)),(12,(.imm b a 1 c d)),(13,(iv h)),(14,(iv f))],(hq [(bQ 1 g)])⟩
theorem dP (F:KF R) (a b c d):∀ n,pT a b c d (Ao (pS N F (pz 1348) []) n)=(F2 N (IG F) a b c d n):=D3 fun n e=>(Bn (O0 N (IG F) a b c d) e:_)
def T0:=Bj N 121 (UX N) QU (fun
 | [(.imm b a 1 c d)],[]=>some fun _ k=>Gd N b a c d (IG k)
 | _,_=>none) fun _ _=>by split;intro R F;exact(Bn (Xi N (IG F) · _ _ _ _) ((lW ..).trans (dP ..)):_).trans (KO ..).symm;trivial
def AO (r0:Nat→Bool→LA→O R) (b:LA) (a:Nat) (d c:Bool):O R :=
 (cond ((decide ((0:Int)≤(1:Int)))&&((decide (1≤(a:Int)))&&((decide ((a:Int)≤(a:Int)))&&(decide ((a:Int)≤(a:Int)))))) (Gd N ((b.drop 1).take ((a - 1)*1)) (a - 1) false c fun e g f=>cond ((!g)==false) (cond (Ae 0 e) (As .i64 f fun h=>cond ((cond false true (decide (h>16384)))==false) (cond (Ae 1 e) (As .i64 (f.drop 1) fun i=>cond ((cond false true (decide (i>256)))==false) (cond (Ae 2 e) (As .i64 (f.drop 2) fun j=>cond (cond false true (decide (j>4096))) (r0 0 false []) (r0 e true f)) none) (r0 0 false [])) none) (r0 0 false [])) none) (r0 0 false [])) none)
def OO (N:Nat) (r0:Nat→Bool→LA→O R) (q0:O R) (b:LA) (a:Nat) (d c:Bool):O R :=
 (cond (((a:Int) != 4)==false) (cond (Ae 0 a) (bU b fun l=>cond (cond false true (!(l==([108,111,103]:Lu)))) (r0 0 false []) q0) none) (r0 0 false []))
def KP:=(Af fun N b a d c r0=>OO (R:=R) N r0 (AO N r0 b a d c) b a d c).1
theorem aP (b a d c r0):(@KP R N b a d c r0)=(OO N r0 (AO N r0 b a d c) b a d c):=by rw[KP,(Af _).2]
def gw:Hints:={ H:=(hK 1 (hJ [0] hL hL)),nils:=[(2,1)],modes:=[(2,1),(0,0)] }
def nX:N0:=[T0 N]
def Acm (F:KF R):=Hh Tryz.f80 gw (nX N) [] N F
def Acn (b:LA) (a:Nat) (d c:Bool) (K:St→O R):=K ⟨[(0,(.imm b a 1 d c))],[]⟩
theorem pU (F:KF R) (b a d c):Acn b a d c (A0 (Acm N F (pz 21) []))=(AO N (IG F) b a d c):=by kernel_rfl
def Agt:=Bj N 80 (nX N) gw (fun
 | [(.imm b a 1 d c)],[]=>some fun _ k=>KP N b a d c (IG k)
 | _,_=>none) fun _ _=>by split;intro R F;exact(Bn (OO N (IG F) · _ _ _ _) ((jW ..).trans (pU ..)):_).trans (aP ..).symm;trivial
def GF (r0:LA→Bool→O R) (b:LA) (a:Nat) (d c:Bool):O R :=
 (cond ((decide ((0:Int)≤(1:Int)))&&((decide (1≤(a:Int)))&&((decide ((a:Int)≤(a:Int)))&&(decide ((a:Int)≤(a:Int)))))) (Gd N ((b.drop 1).take ((a - 1)*1)) (a - 1) false c fun e g f=>cond (!g) (r0 [(.int .i64 0),(.int .i64 0)] false) (cond (Ae 0 e) (As .i64 f fun h=>cond (Ae 1 e) (As .i64 (f.drop 1) fun i=>r0 [(.int .i64 h),(.int .i64 i)] true) none) none)) none)
def XC (N:Nat) (r0:LA→Bool→O R) (q0:O R) (b:LA) (a:Nat) (d c:Bool):O R :=
 (cond (((a:Int) != 3)==false) (cond (Ae 0 a) (bU b fun j=>cond (cond false true (!(j==([117,115,101]:Lu)))) (r0 [(.int .i64 0),(.int .i64 0)] false) q0) none) (r0 [(.int .i64 0),(.int .i64 0)] false))
def UY:=(Af fun N b a d c r0=>XC (R:=R) N r0 (GF N r0 b a d c) b a d c).1
theorem gy (b a d c r0):(@UY R N b a d c r0)=(XC N r0 (GF N r0 b a d c) b a d c):=by rw[UY,(Af _).2]
def nY:Hints:={ H:=(hK 1 (hJ [0,2] hL hL)),modes:=[(3,0),(0,0)] }
def uM:N0:=[T0 N]
def Agu (F:KF R):=Hh Tryz.f81 nY (uM N) [] N F
def Agv (b:LA) (a:Nat) (d c:Bool) (K:St→O R):=K ⟨[(0,(.imm b a 1 d c)),(2,(op 0))],(hq [(bQ 0 [(iv 0),(iv 0)])])⟩
theorem uN (F:KF R) (b a d c):Agv b a d c (A0 (Agu N F (pz 21) []))=(GF N (Xq F) b a d c):=by kernel_rfl
def Aky:=Bj N 81 (uM N) nY (fun
 | [(.imm b a 1 d c)],[]=>some fun _ k=>UY N b a d c (Xq k)
 | _,_=>none) fun _ _=>by split;intro R F;exact(Bn (XC N (Xq F) · _ _ _ _) ((jW ..).trans (uN ..)):_).trans (gy ..).symm;trivial
def UZ (N:Nat) (r0:LA→Bool→O R) (a:Nat) (b:LA) (h:Bool):O R :=
 (cond h (cond (Ae 0 a) (As .i64 b fun i=>cond (Ae 1 a) (As .i64 (b.drop 1) fun j=>cond (Ae 2 a) (As .i64 (b.drop 2) fun l=>r0 [(.int .i64 1),(.int .i64 i),.nsl,(.int .i64 0),(.int .i64 j),(.int .i64 l)] true) none) none) none) (r0 [(.int .i64 0),(.int .i64 0),.nsl,(.int .i64 0),(.int .i64 0),(.int .i64 0)] false))
def AP (N:Nat) (r0:LA→Bool→O R) (d:LA) (c:Nat) (f e:Bool) (a:Nat) (b:LA) (q1:Bool→O R) (g:Bool):O R :=
 (cond g (cond (Ae 0 a) (As .i64 b fun m=>cond (Ae 1 a) (As .i64 (b.drop 1) fun n=>cond ((decide ((0:Int)≤(2:Int)))&&((decide (2≤(a:Int)))&&((decide ((a:Int)≤(a:Int)))&&(decide ((a:Int)≤(a:Int)))))) (cond ((ble (0+(a - 2)) 140737488355328)&&(ble ((0+(a - 2))*8) 140737488355328)) (r0 [(.int .i64 0),(.int .i64 m),(.imm (((b.drop 2).take ((a - 2)*1)).take ((0+(a - 2))*1)) (0+(a - 2)) 1 false false),(.int .i64 n),(.int .i64 0),(.int .i64 0)] true) none) none) none) none) (cond (Ae 0 c) (bU d fun o=>cond ((o==([114,97,109,112]:Lu))==true) (q1 (cond true ((a:Int)==3) false)) (q1 false)) none))
def Rw (r0:LA→Bool→O R) (d:LA) (c:Nat) (f e:Bool) (a:Nat) (b:LA) (g:Bool):O R:=(AP N r0 d c f e a b (UZ N r0 a b) g)
def XD (r0:LA→Bool→O R) (q0:Nat→LA→Bool→O R) (d:LA) (c:Nat) (f e:Bool):O R :=
 (cond ((decide ((0:Int)≤(1:Int)))&&((decide (1≤(c:Int)))&&((decide ((c:Int)≤(c:Int)))&&(decide ((c:Int)≤(c:Int)))))) (Gd N ((d.drop 1).take ((c - 1)*1)) (c - 1) false e fun a p b=>cond (!p) (r0 [(.int .i64 0),(.int .i64 0),.nsl,(.int .i64 0),(.int .i64 0),(.int .i64 0)] false) (cond (Ae 0 c) (bU d fun q=>cond ((q==([99,111,118,101,114]:Lu))==true) (q0 a b (cond true (decide ((a:Int)≥2)) false)) (q0 a b false)) none)) none)
def U_:=(Af fun N d c f e r0=>XD (R:=R) N r0 (fun a b=>Rw N r0 d c f e a b) d c f e).1
theorem gz (d c f e r0):(@U_ R N d c f e r0)=(XD N r0 (fun a b=>Rw N r0 d c f e a b) d c f e):=by rw[U_,(Af _).2]
def nZ:Hints:={ H:=(hK 2 (hS (hS (hK 2 (hJ [0,2,4,16] hL (hK 1 (hJ [2,4,36] hL hL)))) hL) hL)),modes:=[(3,0),(0,0)] }
def uO:N0:=[T0 N]
def n6 (F:KF R):=Hh Tryz.f82 nZ (uO N) [] N F
def Agw (a:Nat) (b:LA) (K:St→O R):=fun h=>K ⟨[(2,(op 0)),(4,(.own 300001 0 a)),(36,(.bool h))],(hq [(bN 0 [(iv 0),(iv 0),.nsl,(iv 0),(iv 0),(iv 0)]),(bQ 1 b)])⟩
def Agx (d:LA) (c:Nat) (f e:Bool) (a:Nat) (b:LA) (K:St→O R):=fun g=>K ⟨[(0,(.imm d c 1 f e)),(2,(op 0)),(4,(.own 300001 0 a)),(16,(.bool g))],(hq [(bN 0 [(iv 0),(iv 0),.nsl,(iv 0),(iv 0),(iv 0)]),(bQ 1 b)])⟩
theorem uP (F:KF R) (a b):Agw a b (A0 (n6 N F (pz 344405) []))=(UZ N (Xq F) a b):=by kernel_rfl
theorem uQ (F:KF R) (d c f e a b):Agx d c f e a b (A0 (n6 N F (pz 21525) []))=(Rw N (Xq F) d c f e a b):=(Bn (AP N (Xq F) d c f e a b) ((jW ..).trans (uP ..)):_)
def Akz:=Bj N 82 (uO N) nZ (fun
 | [(.imm d c 1 f e)],[]=>some fun _ k=>U_ N d c f e (Xq k)
 | _,_=>none) fun _ _=>by split;intro R F;exact(Bn (XD N (Xq F) · _ _ _ _) (vP fun a b=>(jW ..).trans (uQ ..)):_).trans (gz ..).symm;trivial
def Cu (N:Nat) (a b:Lu) (r0:Bool→O R):O R :=
 (cond ((decide ((((a.length):Nat):Int)≥(((b.length):Nat):Int)))==true) (cond ((decide ((0:Int)≤(0:Int)))&&((decide (0≤(((b.length):Nat):Int)))&&((decide ((((b.length):Nat):Int)≤(((a.length):Nat):Int)))&&(decide ((((a.length):Nat):Int)≤(((a.length):Nat):Int)))))) (r0 (cond true ((take (b.length) a)==b) false)) none) (r0 false))
def Fc:=(Af (@Cu R)).1
theorem Du:@Fc R=@Cu R:=(Af _).2
def T1:=Bj N 270 [] Bg (fun
 | [(.str a),(.str b)],[]=>some fun _ k=>Fc N a b (A8 k)
 | _,_=>none) fun _ _=>by split;intro R F;dsimp only;rw[Du];kernel_rfl;trivial
def Cv (a b:Lu) (r0:Lu→Bool→O R):O R :=
 (Fc N a b fun c=>cond (!c) (r0 a false) (cond ((decide (0≤(((b.length):Nat):Int)))&&((decide ((((b.length):Nat):Int)≤(((a.length):Nat):Int)))&&((decide ((((a.length):Nat):Int)≤(((a.length):Nat):Int)))&&(decide ((((a.length):Nat):Int)≤(((a.length):Nat):Int)))))) (r0 (take ((a.length) - (b.length)) (drop (b.length) a)) true) none))
def Fd:=(Af (@Cv R)).1
theorem Dv:@Fd R=@Cv R:=(Af _).2
def T2:=Bj N 257 [T1 N] Bg (fun
 | [(.str a),(.str b)],[]=>some fun _ k=>Fd N a b (xo k)
 | _,_=>none) fun _ _=>by split;intro R F;dsimp only;rw[Dv];kernel_rfl;trivial
def Lc (a b:Lu) (r0:Lu→Bool→O R):O R :=
 (Fd N a b fun c d=>r0 c d)
def Df:=(Af (@Lc R)).1
theorem Mc:@Df R=@Lc R:=(Af _).2
def Pd:=Bj N 236 [T2 N] Bg (fun
 | [(.str a),(.str b)],[]=>some fun _ k=>Df N a b (xo k)
 | _,_=>none) fun _ _=>by split;intro R F;dsimp only;rw[Mc];kernel_rfl;trivial
def Qt (N:Nat) (r0:Bool→O R) (a:Lu) (k0:Int→O R) (b:Int):O R :=
 (cond (decide (b<(((a.length):Nat):Int))) (cond ((decide ((((Sd a b).1:Nat):Int)<48))==false) (cond (cond false true (decide ((((Sd a b).1:Nat):Int)>57))) (r0 false) (k0 (b+(((Sd a b).2:Nat):Int)))) (r0 false)) (r0 (!(a==([]:Lu)))))
def G8 (r0:Bool→O R) (a:Lu):Nat→Int→O R
 | 0,_=>none
 | n+1,b=>Qt N r0 a (G8 r0 a n) b
def AQ (N:Nat) (r0:Bool→O R) (q0:Int→O R) (a:Lu):O R :=
 (q0 0)
def J5:=(Af fun N a r0=>AQ (R:=R) N r0 (G8 N r0 a N) a).1
theorem QV (a r0):(@J5 R N a r0)=(AQ N r0 (G8 N r0 a N) a):=by rw[J5,(Af _).2]
def VA:Hints:={ H:=(hK 1 (hS (hK 1 (hS (hP [0,6] hL) hL)) hL)) }
def uR (F:KF R):=Hh Tryz.f237 VA [] [] N F
def uS (a:Lu) (K:St→O R):=fun b=>K ⟨[(0,(.str a)),(6,(.omap 300000))],(hq [⟨false,false,true,false,1,[(.str a),(iv b)],true,none⟩])⟩
theorem hI (F:KF R) (a):∀ n,uS a (Ao (uR N F (pz 324) []) n)=(G8 N (A8 F) a n):=D3 fun n e=>(Bn (Qt N (A8 F) a) e:_)
def aQ:=Bj N 237 [] VA (fun
 | [(.str a)],[]=>some fun _ k=>J5 N a (A8 k)
 | _,_=>none) fun _ _=>by split;intro R F;exact(Bn (AQ N (A8 F) · _) ((lW ..).trans (hI ..)):_).trans (QV ..).symm;trivial
def VB (a:Lu) (r0:Bool→O R):O R :=
 (J5 N a fun b=>cond (b==true) (cond ((a==([48]:Lu))==false) (cond (Ae 0 (a.length)) (r0 (cond true (cond false true (((UInt8.toNat (List.getD a 0 0):Nat):Int) != 48)) false)) none) (r0 true)) (r0 false))
def Nv:=(Af (@VB R)).1
theorem VC:@Nv R=@VB R:=(Af _).2
def hZ:=Bj N 235 [aQ N] Bg (fun
 | [(.str a)],[]=>some fun _ k=>Nv N a (A8 k)
 | _,_=>none) fun _ _=>by split;intro R F;dsimp only;rw[VC];kernel_rfl;trivial
def OP (a:Lu) (r0:Bool→O R):O R :=
 (Df N a ([45]:Lu) fun b c=>Nv N b fun d=>cond (d==true) (cond (c==true) (r0 (cond true (!(cond true (b==([48]:Lu)) false)) false)) (r0 true)) (r0 false))
def Yh:=(Af (@OP R)).1
theorem QW:@Yh R=@OP R:=(Af _).2
def xD:=Bj N 234 [Pd N,hZ N] Bg (fun
 | [(.str a)],[]=>some fun _ k=>Yh N a (A8 k)
 | _,_=>none) fun _ _=>by split;intro R F;dsimp only;rw[QW];kernel_rfl;trivial
def Rx (r0:Lu→Lu→Bool→O R) (d:Bool) (c a b:Lu):O R :=
 (cond (ble ((c.length)+(a.length)) 140737488355328) (cond d (cond (ble (1+(List.length (c++a))) 140737488355328) (strings_Repeat N ([48]:Lu) (((a.length):Nat):Int) fun g=>cond (ble (1+(g.length)) 140737488355328) (r0 (([45]:Lu)++(c++a)) (([49]:Lu)++g) true) none) none) (strings_Repeat N ([48]:Lu) (((a.length):Nat):Int) fun h=>cond (ble (1+(h.length)) 140737488355328) (r0 (c++a) (([49]:Lu)++h) true) none)) none)
def Ry (r0:Lu→Lu→Bool→O R) (q0:Bool→Lu→Lu→O R) (b:Lu):O R :=
 (Yh N b fun i=>cond i (r0 b ([49]:Lu) true) (strings_Cut N b ([47]:Lu) fun e f j=>cond j (Yh N e fun l=>cond (l==true) (Nv N f fun m=>r0 e f (cond true m false)) (r0 e f false)) (Df N b ([45]:Lu) fun n d=>strings_Cut N n ([46]:Lu) fun c a t=>Nv N c fun o=>cond ((!o)==false) (J5 N a fun p=>cond (cond false true (!p)) (r0 ([]:Lu) ([]:Lu) false) (q0 d c a)) (r0 ([]:Lu) ([]:Lu) false))))
def T3:=(Af fun N b r0=>Ry (R:=R) N r0 (fun d c a=>Rx N r0 d c a b) b).1
theorem O1 (b r0):(@T3 R N b r0)=(Ry N r0 (fun d c a=>Rx N r0 d c a b) b):=by rw[T3,(Af _).2]
def n7:Hints:={ H:=(hK 5 (hJ [6,7,8] hL hL)) }
def uT:N0:=[xD N,HA N,hZ N,Pd N,aQ N,Vi N]
def Agy (F:KF R):=Hh Tryz.f215 n7 (uT N) [] N F
def VD (F:KF R):Lu→Lu→Bool→O R:=(fun q r s=>F (.tup [(.str q),(.str r),(.bool s)]) [])
def Agz (d:Bool) (c a b:Lu) (K:St→O R):=K ⟨[(6,(.bool d)),(7,(.str c)),(8,(.str a))],[]⟩
theorem uU (F:KF R) (d c a b):Agz d c a b (A0 (Agy N F (pz 5461) []))=(Rx N (VD F) d c a b):=by kernel_rfl
def Ak0:=Bj N 215 (uT N) n7 (fun
 | [(.str b)],[]=>some fun _ k=>T3 N b (VD k)
 | _,_=>none) fun _ _=>by split;intro R F;exact(Bn (Ry N (VD F) · _) (Avo fun d c a=>(jW ..).trans (uU ..)):_).trans (O1 ..).symm;trivial
def T4 (N:Nat) (r0:Bool→O R) (a:Lu) (k0:Int→Int→O R) (c b:Int):O R :=
 (cond (decide (b<(((a.length):Nat):Int))) (cond ((decide ((((Sd a b).1:Nat):Int)≥48))==true) (cond (cond true (decide ((((Sd a b).1:Nat):Int)≤57)) false) (k0 (wrap .i64 (c+1)) (b+(((Sd a b).2:Nat):Int))) (k0 c (b+(((Sd a b).2:Nat):Int)))) (k0 c (b+(((Sd a b).2:Nat):Int)))) (r0 (decide (c>4096))))
def I3 (r0:Bool→O R) (a:Lu):Nat→Int→Int→O R
 | 0,_,_=>none
 | n+1,c,b=>T4 N r0 a (I3 r0 a n) c b
def GG (N:Nat) (r0:Bool→O R) (q0:Int→Int→O R) (a:Lu):O R :=
 (q0 0 0)
def DT:=(Af fun N a r0=>GG (R:=R) N r0 (I3 N r0 a N) a).1
theorem VE (a r0):(@DT R N a r0)=(GG N r0 (I3 N r0 a N) a):=by rw[DT,(Af _).2]
def aR:Hints:={ H:=(hK 2 (hS (hK 1 (hS (hP [3,7] hL) hL)) hL)) }
def xE (F:KF R):=Hh Tryz.f216 aR [] [] N F
def xF (a:Lu) (K:St→O R):=fun c b=>K ⟨[(3,(iv c)),(7,(.omap 300000))],(hq [⟨false,false,true,false,1,[(.str a),(iv b)],true,none⟩])⟩
theorem kg (F:KF R) (a):∀ n,xF a (Ao (xE N F (pz 1348) []) n)=(I3 N (A8 F) a n):=D3 fun n e=>(Bn (T4 N (A8 F) a) e:_)
def Aco:=Bj N 216 [] aR (fun
 | [(.str a)],[]=>some fun _ k=>DT N a (A8 k)
 | _,_=>none) fun _ _=>by split;intro R F;exact(Bn (GG N (A8 F) · _) ((lW ..).trans (kg ..)):_).trans (VE ..).symm;trivial
def T5 (k0:Lu→Bool→Nat→LA→O R) (r0:LA→O R) (b c:Bool) (a:Nat) (d:LA) (f:Lu) (h:Int) (p:Bool) (o:Nat) (q:LA):O R :=
 (cond ((decide ((0:Int)≤(0:Int)))&&((decide (0≤h))&&((decide (h≤(((f.length):Nat):Int)))&&(decide ((((f.length):Nat):Int)≤(((f.length):Nat):Int)))))) (Z6 N (take (h.toNat) f) fun v=>TZ N [(.bool p),(.imm (q.take (o*1)) o 1 false true)] true [(.bool c),(.imm (d.take (a*1)) a 1 false true)] true fun w r x=>Iy N v fun y s z=>Abs N [(.bool w),(.imm (x.take (r*1)) r 1 false true)] true [(.bool y),(.imm (z.take (s*1)) s 1 false true)] true fun aa ab ac=>cond ((decide (0≤h))&&((decide (h≤(((f.length):Nat):Int)))&&((decide ((((f.length):Nat):Int)≤(((f.length):Nat):Int)))&&(decide ((((f.length):Nat):Int)≤(((f.length):Nat):Int)))))) (k0 (take ((f.length) - (h.toNat)) (drop (h.toNat) f)) aa ab ac) none) none)
def HP (r0:LA→O R) (b c:Bool) (a:Nat) (d:LA) (k0:Lu→Bool→Nat→LA→O R) (q1:Lu→Int→Bool→Nat→LA→O R) (i:Lu) (j:Bool) (g:Nat) (l:LA):O R :=
 (cond (!(i==([]:Lu))) (cond ((Int.tmod (((i.length):Nat):Int) 9)==0) (q1 i 9 j g l) (q1 i (Int.tmod (((i.length):Nat):Int) 9) j g l)) (cond b (Abr N [(.bool j),(.imm (l.take (g*1)) g 1 false true)] true fun ad t ae=>r0 [(.bool ad),(.imm (ae.take (t*1)) t 1 false false)]) (r0 [(.bool j),(.imm (l.take (g*1)) g 1 false false)])))
def If (r0:LA→O R) (b c:Bool) (a:Nat) (d:LA):Nat→Lu→Bool→Nat→LA→O R
 | 0,_,_,_,_=>none
 | n+1,i,j,g,l=>HP N r0 b c a d (If r0 b c a d n) (T5 N (If r0 b c a d n) r0 b c a d) i j g l
def OQ (r0:LA→O R) (q0:Bool→Bool→Nat→LA→Lu→Bool→Nat→LA→O R) (m:Lu):O R :=
 (Df N m ([45]:Lu) fun af b=>Iy N 0 fun ag ah ai=>Iy N 10 fun aj u ak=>KD N [(.bool aj),(.imm (ak.take (u*1)) u 1 false true)] true 9 fun c a d=>q0 b c a d af ag ah ai)
def BL:=(Af fun N m r0=>OQ (R:=R) N r0 (fun b c a d=>If N r0 b c a d N) m).1
theorem aS (m r0):(@BL R N m r0)=(OQ N r0 (fun b c a d=>If N r0 b c a d N) m):=by rw[BL,(Af _).2]
def h_:Hints:={ H:=(hK 4 (hS (hS (hP [0,2,3,4,5] (hK 1 (hS (hK 1 (hJ [0,2,3,4,5,6] hL hL)) hL))) hL) hL)),modes:=[(3,0)] }
def n8:N0:=[Pd N,AD N,uC N,Asc N,sE N,Afz N,Asd N]
def iA (F:KF R):=Hh Tryz.f218 h_ (n8 N) [] N F
def Acp (b c:Bool) (a:Nat) (d:LA) (K:St→O R):=fun f h p o q=>K ⟨[(0,(.str f)),(2,(op 0)),(3,(.bool b)),(4,(op 1)),(5,(op 2)),(6,(iv h))],(hq [(bN 0 [(.bool false),.nsl]),(bN 0 [(.bool p),(.own 300003 0 o)]),(bN 0 [(.bool c),(.own 300004 0 a)]),(bQ 1 q),(bQ 1 d)])⟩
def iB (b c:Bool) (a:Nat) (d:LA) (K:St→O R):=fun i j g l=>K ⟨[(0,(.str i)),(2,(op 0)),(3,(.bool b)),(4,(op 1)),(5,(op 2))],(hq [(bN 0 [(.bool false),.nsl]),(bN 0 [(.bool j),(.own 300003 0 g)]),(bN 0 [(.bool c),(.own 300004 0 a)]),(bQ 1 l),(bQ 1 d)])⟩
theorem pV (Q0) (F:KF R) (b c a d):Acp b c a d (A0 (iA N F (pz 5587013) [Q0]))=(T5 N (iB b c a d Q0) (Da F) b c a d):=by kernel_rfl
theorem pW (F:KF R) (b c a d):∀ n,iB b c a d (Ao (iA N F (pz 5456) []) n)=(If N (Da F) b c a d n):=D3 fun n e=>(Yq (HP N (Da F) b c a d) e ((jW ..).trans ((pV ..).trans (vO (T5 _ · _ _ _ _ _) e))):_)
def Ag0:=Bj N 218 (n8 N) h_ (fun
 | [(.str m)],[]=>some fun _ k=>BL N m (Da k)
 | _,_=>none) fun _ _=>by split;intro R F;exact(Bn (OQ N (Da F) · _) (Ah5 fun b c a d=>(lW ..).trans (pW ..)):_).trans (aS ..).symm;trivial
def O2 (b:Lu) (r0:LA→Int→O R):O R :=
 (T3 N b fun c d e=>cond (!e) (r0 [(.bool false),.nsl,.nsl] 2) (DT N b fun f=>cond f (r0 [(.bool false),.nsl,.nsl] 8) (BL N c fun g=>BL N d fun h=>Abt N g false h false fun a i=>cond ((beq 0 0)&&((beq (a.length) 3)&&(beq 3 3))) (cond (!i) (r0 [(.bool false),.nsl,.nsl] 5) (cond (ble 3 (a.length)) (cond ((beq 0 0)&&((beq ((a.take 3).length) 3)&&(beq 3 3))) (cond (ble 3 ((a.take 3).length)) (r0 ((a.take 3).take 3) 0) none) none) none)) none)))
def Ig:=(Af (@O2 R)).1
theorem Lr:@Ig R=@O2 R:=(Af _).2
def xG:=Bj N 193 [Ak0 N,Aco N,Ag0 N,Ase N] { H:=hL,modes:=[(3,0),(0,0)] } (fun
 | [(.str b)],[]=>some fun _ k=>Ig N b (Md k)
 | _,_=>none) fun _ _=>by split;intro R F;dsimp only;rw[Lr];kernel_rfl;trivial
def GH (b:Lu) (r0:LA→Bool→O R):O R :=
 (strings_Cut N b ([58]:Lu) fun e d f=>cond (!f) (r0 [(.int .i64 0),(.bool false),.nsl,.nsl] false) (Rv N e fun c g=>cond (!g) (r0 [(.int .i64 0),(.bool false),.nsl,.nsl] false) (Ig N d fun a h=>cond ((beq 0 0)&&((beq (a.length) 3)&&(beq 3 3))) (cond ((h != 0)==false) (cond (ble 3 (a.length)) (WR N (a.take 3) false fun i=>cond ((cond false true (i==0))==false) (cond (ble 3 (a.length)) (La N (a.take 3) false fun j=>cond (cond false true (!(j==d))) (r0 [(.int .i64 0),(.bool false),.nsl,.nsl] false) (cond (ble 3 (a.length)) (cond ((beq ((a.take 3).length) 3)&&(ble 4 4)) (cond ((beq 0 0)&&((beq ((setCells [(.int .i64 c),(.bool false),.nsl,.nsl] 1 (a.take 3)).length) 4)&&(beq 4 4))) (cond (ble 4 ((setCells [(.int .i64 c),(.bool false),.nsl,.nsl] 1 (a.take 3)).length)) (r0 ((setCells [(.int .i64 c),(.bool false),.nsl,.nsl] 1 (a.take 3)).take 4) true) none) none) none) none)) none) (r0 [(.int .i64 0),(.bool false),.nsl,.nsl] false)) none) (r0 [(.int .i64 0),(.bool false),.nsl,.nsl] false)) none)))
def I4:=(Af (@GH R)).1
theorem DU:@I4 R=@GH R:=(Af _).2
def Acq:=Bj N 169 [HA N,aO N,xG N,yK N,UN N] { H:=hL,modes:=[(3,0),(0,0)] } (fun
 | [(.str b)],[]=>some fun _ k=>I4 N b (Xq k)
 | _,_=>none) fun _ _=>by split;intro R F;dsimp only;rw[DU];kernel_rfl;trivial
def Pw (r0:LA→Bool→O R) (b:LA) (a:Nat) (d f:Bool) (c:Int) (k1:Int→Int→Nat→LA→O R) (i h:Int) (g:Nat) (j:LA):O R :=
 (cond (decide (h<i)) (cond (Ae h a) (bU (b.drop ((h.toNat)*1)) fun p=>I4 N p fun m q=>cond ((beq 0 0)&&((beq (m.length) 4)&&(beq 4 4))) (cond (!q) (r0 [(.int .i64 0),(.int .i64 0),(.int .i64 0),(.int .i64 0),.nsl] false) (cond (ble 4 (m.length)) (cond ((beq ((m.take 4).length) 4)&&(ble 4 4)) (cond ((ble (g+1) 140737488355328)&&(ble ((g+1)*64) 140737488355328)) (k1 i (wrap .i64 (h+1)) (g+1) ((j.take (g*4))++((setCells [(.int .i64 0),(.bool false),.nsl,.nsl] 0 (m.take 4)).take 4))) none) none) none)) none) none) (r0 [(.int .i64 c),(.int .i64 0),(.int .i64 0),(.int .i64 0),(.imm (j.take (g*4)) g 4 false false)] true))
def El (r0:LA→Bool→O R) (b:LA) (a:Nat) (d f:Bool) (c:Int):Nat→Int→Int→Nat→LA→O R
 | 0,_,_,_,_=>none
 | n+1,i,h,g,j=>Pw N r0 b a d f c (El r0 b a d f c n) i h g j
def Xj (r0:LA→Bool→O R) (b:LA) (a:Nat) (d f:Bool) (c:Int) (k0:Int→O R) (k1:Int→Int→Nat→LA→O R) (l:Int):O R :=
 (cond (decide (0<l)) (cond (Ae 0 a) (bU b fun r=>I4 N r fun o s=>cond ((beq 0 0)&&((beq (o.length) 4)&&(beq 4 4))) (cond (!s) (r0 [(.int .i64 0),(.int .i64 0),(.int .i64 0),(.int .i64 0),.nsl] false) (cond (ble 4 (o.length)) (cond ((beq ((o.take 4).length) 4)&&(ble 4 4)) (k1 l 1 1 ((setCells [(.int .i64 0),(.bool false),.nsl,.nsl] 0 (o.take 4)).take 4)) none) none)) none) none) (r0 [(.int .i64 c),(.int .i64 0),(.int .i64 0),(.int .i64 0),.nsl] true))
def Ih (r0:LA→Bool→O R) (b:LA) (a:Nat) (d f:Bool) (c:Int):Nat→Int→O R
 | 0,_=>none
 | n+1,l=>Xj N r0 b a d f c (Ih r0 b a d f c n) (El N r0 b a d f c n) l
def dQ (N:Nat) (r0:LA→Bool→O R) (q0:Int→O R) (c:Int) (b:LA) (a:Nat) (d f:Bool):O R :=
 (q0 (a:Int))
def Gl:=(Af fun N c b a d f r0=>dQ (R:=R) N r0 (Ih N r0 b a d f c N) c b a d f).1
theorem aT (c b a d f r0):(@Gl R N c b a d f r0)=(dQ N r0 (Ih N r0 b a d f c N) c b a d f):=by rw[Gl,(Af _).2]
def iC:Hints:={ H:=(hK 2 (hS (hK 1 (hS (hP [4,6,13,14,15] hL) hL)) hL)),modes:=[(3,0),(0,0)] }
def n9:N0:=[Acq N]
def iD (F:KF R):=Hh Tryz.f122 iC (n9 N) [] N F
def Acr (b:LA) (a:Nat) (d f:Bool) (c:Int) (K:St→O R):=fun i h g j=>K ⟨[(4,(op 0)),(6,(op 1)),(13,(.imm b a 1 d f)),(14,(iv i)),(15,(iv h))],(hq [(bN 0 [(iv 0),(iv 0),(iv 0),(iv 0),.nsl]),(bN 0 [(iv c),(iv 0),(iv 0),(iv 0),(.own 300002 0 g)]),(bQ 4 j)])⟩
def Acs (b:LA) (a:Nat) (d f:Bool) (c:Int) (K:St→O R):=fun l=>K ⟨[(4,(op 0)),(6,(op 1)),(13,(.imm b a 1 d f)),(14,(iv l)),(15,(iv 0))],(hq [(bN 0 [(iv 0),(iv 0),(iv 0),(iv 0),.nsl]),(bN 0 [(iv c),(iv 0),(iv 0),(iv 0),.nsl])])⟩
theorem pX (F:KF R) (b a d f c):∀ n,Acr b a d f c (Ao (iD N F (pz 1348) []) n)=(El N (Xq F) b a d f c n):=D3 fun n e=>(Bn (Pw N (Xq F) b a d f c) e:_)
theorem pY (F:KF R) (b a d f c):∀ n,Acs b a d f c (Ao (iD N F (pz 1348) []) n)=(Ih N (Xq F) b a d f c n):=D3 fun n e=>(Yq (Xj N (Xq F) b a d f c) e (pX ..):_)
def Ag1:=Bj N 122 (n9 N) iC (fun
 | [(.int .i64 c),(.imm b a 1 d f)],[]=>some fun _ k=>Gl N c b a d f (Xq k)
 | _,_=>none) fun _ _=>by split;intro R F;exact(Bn (dQ N (Xq F) · _ _ _ _ _) ((lW ..).trans (pY ..)):_).trans (aT ..).symm;trivial
def OR (N:Nat) (r0:LA→Bool→O R) (b:Nat) (c:LA) (i:Bool):O R :=
 (cond i (cond (Ae 0 b) (As .i64 c fun n=>cond (Ae 1 b) (As .i64 (c.drop 1) fun o=>cond (Ae 2 b) (As .i64 (c.drop 2) fun p=>r0 [(.int .i64 4),(.int .i64 n),(.int .i64 p),(.int .i64 o),.nsl] true) none) none) none) (r0 [(.int .i64 0),(.int .i64 0),(.int .i64 0),(.int .i64 0),.nsl] false))
def HQ (N:Nat) (r0:LA→Bool→O R) (d:LA) (a:Nat) (f e:Bool) (b:Nat) (c:LA) (q2:Bool→O R) (g:Bool):O R :=
 (cond g (cond (Ae 0 b) (As .i64 c fun q=>r0 [(.int .i64 3),(.int .i64 q),(.int .i64 0),(.int .i64 0),.nsl] true) none) (cond (Ae 0 a) (bU d fun r=>cond ((r==([111,114,100,101,114]:Lu))==true) (q2 (cond true ((b:Int)==3) false)) (q2 false)) none))
def AR (r0:LA→Bool→O R) (d:LA) (a:Nat) (f e:Bool) (b:Nat) (c:LA) (g:Bool):O R:=(HQ N r0 d a f e b c (OR N r0 b c) g)
def HR (N:Nat) (r0:LA→Bool→O R) (d:LA) (a:Nat) (f e:Bool) (b:Nat) (c:LA) (q1:Bool→O R) (h:Bool):O R :=
 (cond h (cond (Ae 0 b) (As .i64 c fun s=>cond (Ae 1 b) (As .i64 (c.drop 1) fun t=>r0 [(.int .i64 0),(.int .i64 s),(.int .i64 t),(.int .i64 0),.nsl] true) none) none) (cond (Ae 0 a) (bU d fun u=>cond ((u==([112,97,116,104]:Lu))==true) (q1 (cond true ((b:Int)==1) false)) (q1 false)) none))
def Fl (r0:LA→Bool→O R) (d:LA) (a:Nat) (f e:Bool) (b:Nat) (c:LA) (h:Bool):O R:=(HR N r0 d a f e b c (AR N r0 d a f e b c) h)
def OS (r0:LA→Bool→O R) (q0:Nat→LA→Bool→O R) (d:LA) (a:Nat) (f e:Bool):O R :=
 (cond (Ae 0 a) (bU d fun m=>cond (m==([98,111,117,110,100]:Lu)) (cond ((decide ((0:Int)≤(1:Int)))&&((decide (1≤(a:Int)))&&((decide ((a:Int)≤(a:Int)))&&(decide ((a:Int)≤(a:Int)))))) (Gl N 1 ((d.drop 1).take ((a - 1)*1)) (a - 1) false e fun j v=>cond ((beq 0 0)&&((beq (j.length) 5)&&(beq 5 5))) (cond (ble 5 (j.length)) (r0 (j.take 5) v) none) none) none) (cond (m==([102,97,114,107,97,115]:Lu)) (cond ((decide ((0:Int)≤(1:Int)))&&((decide (1≤(a:Int)))&&((decide ((a:Int)≤(a:Int)))&&(decide ((a:Int)≤(a:Int)))))) (Gl N 2 ((d.drop 1).take ((a - 1)*1)) (a - 1) false e fun l w=>cond ((beq 0 0)&&((beq (l.length) 5)&&(beq 5 5))) (cond (ble 5 (l.length)) (r0 (l.take 5) w) none) none) none) (cond ((decide ((0:Int)≤(1:Int)))&&((decide (1≤(a:Int)))&&((decide ((a:Int)≤(a:Int)))&&(decide ((a:Int)≤(a:Int)))))) (Gd N ((d.drop 1).take ((a - 1)*1)) (a - 1) false e fun b x c=>cond (!x) (r0 [(.int .i64 0),(.int .i64 0),(.int .i64 0),(.int .i64 0),.nsl] false) (cond (Ae 0 a) (bU d fun y=>cond ((y==([98,114,97,110,99,104]:Lu))==true) (q0 b c (cond true ((b:Int)==2) false)) (q0 b c false)) none)) none))) none)
def O3:=(Af fun N d a f e r0=>OS (R:=R) N r0 (fun b c=>Fl N r0 d a f e b c) d a f e).1
theorem aU (d a f e r0):(@O3 R N d a f e r0)=(OS N r0 (fun b c=>Fl N r0 d a f e b c) d a f e):=by rw[O3,(Af _).2]
def iE:Hints:={ H:=(hK 3 (hS (hS (hK 2 (hJ [0,2,4,33] hL (hK 1 (hJ [0,2,4,50] hL (hK 1 (hJ [2,4,64] hL hL)))))) hL) hL)),modes:=[(3,0),(0,0)] }
def n_:N0:=[Ag1 N,T0 N]
def OT (F:KF R):=Hh Tryz.f83 iE (n_ N) [] N F
def Acu (b:Nat) (c:LA) (K:St→O R):=fun i=>K ⟨[(2,(op 0)),(4,(.own 300001 0 b)),(64,(.bool i))],(hq [(bN 0 [(iv 0),(iv 0),(iv 0),(iv 0),.nsl]),(bQ 1 c)])⟩
def Acv (d:LA) (a:Nat) (f e:Bool) (b:Nat) (c:LA) (K:St→O R):=fun g=>K ⟨[(0,(.imm d a 1 f e)),(2,(op 0)),(4,(.own 300001 0 b)),(50,(.bool g))],(hq [(bN 0 [(iv 0),(iv 0),(iv 0),(iv 0),.nsl]),(bQ 1 c)])⟩
def Acw (d:LA) (a:Nat) (f e:Bool) (b:Nat) (c:LA) (K:St→O R):=fun h=>K ⟨[(0,(.imm d a 1 f e)),(2,(op 0)),(4,(.own 300001 0 b)),(33,(.bool h))],(hq [(bN 0 [(iv 0),(iv 0),(iv 0),(iv 0),.nsl]),(bQ 1 c)])⟩
theorem pZ (F:KF R) (b c):Acu b c (A0 (OT N F (pz 22287701) []))=(OR N (Xq F) b c):=by kernel_rfl
theorem p8 (F:KF R) (d a f e b c):Acv d a f e b c (A0 (OT N F (pz 1392981) []))=(AR N (Xq F) d a f e b c):=(Bn (HQ N (Xq F) d a f e b c) ((jW ..).trans (pZ ..)):_)
theorem p9 (F:KF R) (d a f e b c):Acw d a f e b c (A0 (OT N F (pz 87061) []))=(Fl N (Xq F) d a f e b c):=(Bn (HR N (Xq F) d a f e b c) ((jW ..).trans (p8 ..)):_)
def Ag2:=Bj N 83 (n_ N) iE (fun
 | [(.imm d a 1 f e)],[]=>some fun _ k=>O3 N d a f e (Xq k)
 | _,_=>none) fun _ _=>by split;intro R F;exact(Bn (OS N (Xq F) · _ _ _ _) (vP fun b c=>(jW ..).trans (p9 ..)):_).trans (aU ..).symm;trivial
def T6 (l:LA) (m:Nat) (x n:Bool) (b c d:Nat) (a:Bool) (e f g:Int) (h i j:LA) (r0:Bool→Bool→Int→Int→Int→O R) (r1:Nat→Int→LA→O R) (r2:Nat→Int→LA→O R) (r3:Nat→Int→LA→O R):O R :=
 (cond (!a) (KP N l m false n fun p y t=>cond (!y) (r0 false a e f g) (cond ((beq 0 0)&&((!false)&&((!false)&&((ble 3 p)&&(ble 7 7))))) (As .i64 (t.take (p*1)) fun z=>As .i64 ((t.take (p*1)).drop 1) fun aa=>As .i64 (((t.take (p*1)).drop 1).drop 1) fun ab=>r0 true true z aa ab) none)) (cond (decide (e>0)) (UY N l m false n fun q ac=>cond ((beq (q.length) 2)&&((ble 2 2)&&(!false))) (cond (!ac) (r0 false a e f g) (cond (ble 2 ((setCells [(.int .i64 0),(.int .i64 0)] 0 q).length)) (cond ((beq (((setCells [(.int .i64 0),(.int .i64 0)] 0 q).take 2).length) 2)&&(ble 2 2)) (cond ((ble (b+1) 140737488355328)&&(ble ((b+1)*16) 140737488355328)) (r1 (b+1) (wrap .i64 (e - 1)) ((h.take (b*2))++((setCells [(.int .i64 0),(.int .i64 0)] 0 ((setCells [(.int .i64 0),(.int .i64 0)] 0 q).take 2)).take 2))) none) none) none)) none) (cond (decide (f>0)) (U_ N l m false n fun r ad=>cond ((beq 0 0)&&((beq (r.length) 6)&&(beq 6 6))) (cond (!ad) (r0 false a e f g) (cond (ble 6 (r.length)) (cond ((beq ((r.take 6).length) 6)&&(ble 6 6)) (cond ((ble (c+1) 140737488355328)&&(ble ((c+1)*64) 140737488355328)) (r2 (c+1) (wrap .i64 (f - 1)) ((i.take (c*6))++((setCells [(.int .i64 0),(.int .i64 0),.nsl,(.int .i64 0),(.int .i64 0),(.int .i64 0)] 0 (r.take 6)).take 6))) none) none) none)) none) (cond (decide (g>0)) (O3 N l m false n fun s ae=>cond ((beq 0 0)&&((beq (s.length) 5)&&(beq 5 5))) (cond (!ae) (r0 false a e f g) (cond (ble 5 (s.length)) (cond ((beq ((s.take 5).length) 5)&&(ble 5 5)) (cond ((ble (d+1) 140737488355328)&&(ble ((d+1)*56) 140737488355328)) (r3 (d+1) (wrap .i64 (g - 1)) ((j.take (d*5))++((setCells [(.int .i64 0),(.int .i64 0),(.int .i64 0),(.int .i64 0),.nsl] 0 (s.take 5)).take 5))) none) none) none)) none) (r0 false a e f g)))))
def ki:=(Af (@T6 R)).1
theorem I5:@ki R=@T6 R:=(Af _).2
def Apx (b c d:Nat) (h i j:LA) (F:KF R):Bool→Bool→Int→Int→Int→O R:=(fun af ag u v w=>F (.bool af) [(100000,(bN 0 [(.own 100001 0 b),(.own 100002 0 c),(.own 100003 0 d),(.bool ag),(iv u),(iv v),(iv w)])),(100001,(bQ 2 h)),(100002,(bQ 6 i)),(100003,(bQ 5 j))])
def Apy (c d:Nat) (a:Bool) (f g:Int) (i j:LA) (F:KF R):Nat→Int→LA→O R:=(fun ah u o=>F (.bool true) [(100000,(bN 0 [(.own 300000 0 ah),(.own 100002 0 c),(.own 100003 0 d),(.bool a),(iv u),(iv f),(iv g)])),(100002,(bQ 6 i)),(100003,(bQ 5 j)),(300000,(bQ 2 o))])
def Apz (b d:Nat) (a:Bool) (e g:Int) (h j:LA) (F:KF R):Nat→Int→LA→O R:=(fun ai v o=>F (.bool true) [(100000,(bN 0 [(.own 100001 0 b),(.own 300000 0 ai),(.own 100003 0 d),(.bool a),(iv e),(iv v),(iv g)])),(100001,(bQ 2 h)),(100003,(bQ 5 j)),(300000,(bQ 6 o))])
def Ap0 (b c:Nat) (a:Bool) (e f:Int) (h i:LA) (F:KF R):Nat→Int→LA→O R:=(fun aj w o=>F (.bool true) [(100000,(bN 0 [(.own 100001 0 b),(.own 100002 0 c),(.own 300000 0 aj),(.bool a),(iv e),(iv f),(iv w)])),(100001,(bQ 2 h)),(100002,(bQ 6 i)),(300000,(bQ 5 o))])
def As5:=Bj N 42 [Agt N,Aky N,Akz N,Ag2 N] Bg (fun
 | [(.optr 100000 0),(.imm l m 1 x n)],[(100000,⟨false,false,false,false,0,[(.own 100001 0 b),(.own 100002 0 c),(.own 100003 0 d),(.bool a),(.int .i64 e),(.int .i64 f),(.int .i64 g)],false,none⟩),(100001,⟨false,false,true,false,2,h,false,none⟩),(100002,⟨false,false,true,false,6,i,false,none⟩),(100003,⟨false,false,true,false,5,j,false,none⟩)]=>some fun _ k=>ki N l m x n b c d a e f g h i j (Apx b c d h i j k) (Apy c d a f g i j k) (Apz b d a e g h j k) (Ap0 b c a e f h i k)
 | _,_=>none) fun _ _=>by split;intro R F;dsimp only;rw[I5];kernel_rfl;trivial
def uV (N:Nat) (e f g:Nat) (a:Bool) (b c d:Int) (h i j:LA) (r0:Bool→O R):O R :=
 (cond (a==true) (r0 (cond true ((b==0)&&((c==0)&&((d==0)&&true))) false)) (r0 false))
def qE:=(Af (@uV R)).1
theorem na:@qE R=@uV R:=(Af _).2
def Ak1 (e f g:Nat) (a:Bool) (b c d:Int) (h i j:LA) (F:KF R):Bool→O R:=(fun l=>F (.bool l) [(100000,(bN 0 [(.own 100001 0 e),(.own 100002 0 f),(.own 100003 0 g),(.bool a),(iv b),(iv c),(iv d)])),(100001,(bQ 2 h)),(100002,(bQ 6 i)),(100003,(bQ 5 j))])
def Ap1:=Bj N 44 [] Bg (fun
 | [(.optr 100000 0)],[(100000,⟨false,false,false,false,0,[(.own 100001 0 e),(.own 100002 0 f),(.own 100003 0 g),(.bool a),(.int .i64 b),(.int .i64 c),(.int .i64 d)],false,none⟩),(100001,⟨false,false,true,false,2,h,false,none⟩),(100002,⟨false,false,true,false,6,i,false,none⟩),(100003,⟨false,false,true,false,5,j,false,none⟩)]=>some fun _ k=>qE N e f g a b c d h i j (Ak1 e f g a b c d h i j k)
 | _,_=>none) fun _ _=>by split;intro R F;dsimp only;rw[na];kernel_rfl;trivial
def T7 (r0:LA→Int→Int→O R) (k0:Lu→Int→Nat→Nat→Nat→Bool→Int→Int→Int→LA→LA→LA→O R) (p:Lu) (a:Int) (b c d:Nat) (i:Bool) (l m o:Int) (f g h:LA):O R :=
 (cond (!(p==([]:Lu))) (strings_Cut N p ([10]:Lu) fun s q t=>cond ((!t)==false) (strings_Split N s ([32]:Lu) fun r u=>ki N (u.take (r*1)) r false true b c d i l m o f g h (fun v w x y z=>cond (cond false true (!v)) (r0 [.nsl,.nsl,.nsl] (wrap .i64 (a+1)) 2) (k0 q (wrap .i64 (a+1)) b c d w x y z f g h)) (fun aa ab ac=>k0 q (wrap .i64 (a+1)) aa c d i ab m o ac g h) (fun ad ae af=>k0 q (wrap .i64 (a+1)) b ad d i l ae o f af h) fun ag ah ai=>k0 q (wrap .i64 (a+1)) b c ag i l m ah f g ai) (r0 [.nsl,.nsl,.nsl] (wrap .i64 (a+1)) 2)) (qE N b c d i l m o f g h fun aj=>cond (!aj) (r0 [.nsl,.nsl,.nsl] (wrap .i64 (a+1)) 2) (r0 [(.imm (f.take (b*2)) b 2 false false),(.imm (g.take (c*6)) c 6 false false),(.imm (h.take (d*5)) d 5 false false)] 0 0)))
def Bt (r0:LA→Int→Int→O R):Nat→Lu→Int→Nat→Nat→Nat→Bool→Int→Int→Int→LA→LA→LA→O R
 | 0,_,_,_,_,_,_,_,_,_,_,_,_=>none
 | n+1,p,a,b,c,d,i,l,m,o,f,g,h=>T7 N r0 (Bt r0 n) p a b c d i l m o f g h
def KQ (N:Nat) (r0:LA→Int→Int→O R) (q0:Lu→Int→Nat→Nat→Nat→Bool→Int→Int→Int→LA→LA→LA→O R) (j:Lu):O R :=
 (cond (decide ((((j.length):Nat):Int)>1048576)) (r0 [.nsl,.nsl,.nsl] 0 8) (q0 j 0 0 0 0 false 0 0 0 [] [] []))
def Nw:=(Af fun N j r0=>KQ (R:=R) N r0 (Bt N r0 N) j).1
theorem OU (j r0):(@Nw R N j r0)=(KQ N r0 (Bt N r0 N) j):=by rw[Nw,(Af _).2]
def nc:Hints:={ H:=(hK 4 (hS (hS (hP [0,2,5,6] hL) hL) hL)),modes:=[(3,0),(0,0),(0,0)],cob:=[1000002,1000005] }
def uW:N0:=[HA N,ou N,As5 N,Ap1 N]
def Ag3 (F:KF R):=Hh Tryz.f12 nc (uW N) [] N F
def GI (F:KF R):LA→Int→Int→O R:=(fun ak al am=>F (.tup [(.pagg ak false),(iv al),(iv am)]) [])
def Ag4 (K:St→O R):=fun p a b c d i l m o f g h=>K ⟨[(0,(.str p)),(2,(op 0)),(5,(op 1)),(6,(iv a))],(hq [(bN 0 [(.own 300002 0 0),(.own 300003 0 0),(.own 300004 0 0)]),(bN 0 [(.own 300005 0 b),(.own 300006 0 c),(.own 300007 0 d),(.bool i),(iv l),(iv m),(iv o)]),(bQ 2 []),(bQ 6 []),(bQ 5 []),(bQ 2 f),(bQ 6 g),(bQ 5 h)])⟩
theorem uX (F:KF R):∀ n,Ag4 (Ao (Ag3 N F (pz 5456) []) n)=(Bt N (GI F) n):=D3 fun n e=>(Bn (T7 N (GI F)) e:_)
def uY:=Bj N 12 (uW N) nc (fun
 | [(.str j)],[]=>some fun _ k=>Nw N j (GI k)
 | _,_=>none) fun _ _=>by split;intro R F;exact(Bn (KQ N (GI F) · _) ((lW ..).trans (uX ..)):_).trans (OU ..).symm;trivial
end
end Gx
namespace Gx
open Go Go.Proofs
section
variable {R:Type}
theorem HS {N:Nat} {b:Lu} {c:UInt8} {K:Lu→Bool→O R}:Df N (c::b) [c] K=K b true:=by
 rw[Mc];unfold Lc
 rw[Dv];unfold Cv
 rw[Du];unfold Cu
 have e:((decide ((((c::b).length:Nat):Int)≥((([c]:Lu).length:Nat):Int)))==true)=true:=by simp;omega
 have j:((decide ((0:Int)≤(0:Int)))&&((decide ((0:Int)≤((([c]:Lu).length:Nat):Int)))&&((decide (((([c]:Lu).length:Nat):Int)≤(((c::b).length:Nat):Int)))&&(decide ((((c::b).length:Nat):Int)≤(((c::b).length:Nat):Int))))))=true:=by simp;omega
 have k:((decide ((0:Int)≤((([c]:Lu).length:Nat):Int)))&&((decide (((([c]:Lu).length:Nat):Int)≤(((c::b).length:Nat):Int)))&&((decide ((((c::b).length:Nat):Int)≤(((c::b).length:Nat):Int)))&&(decide ((((c::b).length:Nat):Int)≤(((c::b).length:Nat):Int))))))=true:=by simp;omega
 rw[e,ct,j,ct,show cond true ((take ([c]:Lu).length (c::b))==[c]) false=true by simp]
 dsimp only
 rw[show(!true)=false by rfl,cf,k,ct]
 simp
theorem DV {N:Nat} {b:Lu} {c:UInt8} {K:Lu→Bool→O R} (h:b.head?≠some c):Df N b [c] K=K b false:=by
 rw[Mc];unfold Lc
 rw[Dv];unfold Cv
 rw[Du];unfold Cu
 cases b with
 | nil=>rfl
 | cons d r =>
  have e:d≠c:=by simpa using h
  have j:((decide ((((d::r).length:Nat):Int)≥((([c]:Lu).length:Nat):Int)))==true)=true:=by simp;omega
  have k:((decide ((0:Int)≤(0:Int)))&&((decide ((0:Int)≤((([c]:Lu).length:Nat):Int)))&&((decide (((([c]:Lu).length:Nat):Int)≤(((d::r).length:Nat):Int)))&&(decide ((((d::r).length:Nat):Int)≤(((d::r).length:Nat):Int))))))=true:=by simp;omega
  rw[j,ct,k,ct,show cond true ((take ([c]:Lu).length (d::r))==[c]) false=false by simp[e]]
  rfl
theorem OV {s:Lu} {p:Nat} (h:p<s.length) (e:s[p].toNat<128):Sd s (p:Int)=(s[p].toNat,1):=by
 unfold Sd
 rw[Az1]
 exact decode_ascii ⟨⟨s⟩⟩ p h e
theorem Ap2 {s:Lu} {p:Nat} (h:p<s.length) (e:128≤s[p].toNat):128≤(Sd s (p:Int)).1:=by
 unfold Sd
 rw[Az1]
 exact(decode_high ⟨⟨s⟩⟩ p h e).1
theorem xH {N:Nat} {s:Lu} {K:Bool→O R} (hs:s≠[]):∀ (m p fuel:Nat),p≤s.length→s.length - p=m→m<fuel→G8 N K s fuel (p:Int)=K ((s.drop p).all A9):=by
 intro m
 induction m with
 | zero =>
  intro p fuel j k n
  cases fuel with
  | zero=>omega
  | succ fuel =>
   rw[G8];unfold Qt
   rw[H2 (by omega),cf,A0k (by omega),show(!(s==([]:Lu)))=true by simp[hs]]
   rfl
 | succ m q =>
  intro p fuel j k n
  cases fuel with
  | zero=>omega
  | succ fuel =>
   have e:p<s.length:=by omega
   rw[G8];unfold Qt
   rw[Gh e,ct,A0d e,A1d]
   by_cases t:s[p].toNat<128
   ·rw[OV e t]
    simp only
    by_cases u:s[p].toNat<48
    ·rw[show(decide (((s[p].toNat:Nat):Int)<48)==false)=false by simp;omega,cf]
     have:A9 s[p]=false:=by simp[A9];omega
     rw[this];rfl
    ·rw[show(decide (((s[p].toNat:Nat):Int)<48)==false)=true by simp;omega,ct]
     by_cases v:s[p].toNat>57
     ·rw[show cond false true (decide (((s[p].toNat:Nat):Int)>57))=true by simp;omega,ct]
      have:A9 s[p]=false:=by simp[A9];omega
      rw[this];rfl
     ·rw[show cond false true (decide (((s[p].toNat:Nat):Int)>57))=false by simp;omega,cf]
      have:A9 s[p]=true:=by simp[A9];omega
      rw[this,A1n,show((p:Int)+((1:Nat):Int))=((p+1:Nat):Int) by omega]
      exact q (p+1) fuel (by omega) (by omega) (by omega)
   ·have hh:=Ap2 e (by omega)
    have:A9 s[p]=false:=by simp[A9];omega
    rw[this,show(decide ((((Sd s (p:Int)).1:Nat):Int)<48)==false)=true by simp;omega,ct,show cond false true (decide ((((Sd s (p:Int)).1:Nat):Int)>57))=true by simp;omega,ct]
    rfl
theorem Xk {N:Nat} {s:Lu} {K:Bool→O R} (e:s.length<N):J5 N s K=K (fL s):=by
 rw[QV];unfold AQ
 cases s with
 | nil =>
  obtain⟨n,rfl⟩:∃ n,N=n+1:=⟨N - 1,by simp at e;omega⟩
  rfl
 | cons c r =>
  have:=xH (R:=R) (N:=N) (s:=c::r) (K:=K) (by simp) (c::r).length 0 N (by omega) (by omega) e
  refine A12 this ?_
  congr 1
  simp[fL]
theorem Ii {N:Nat} {s:Lu} {K:Bool→O R} (q:s.length<N):Nv N s K=K (D4 s):=by
 rw[VC];unfold VB
 rw[Xk q]
 by_cases j:fL s=true
 ·rw[j,show(true==true)=true by rfl,ct]
  unfold D4
  rw[j,A1n]
  by_cases n:s=[48]
  ·subst n;rfl
  ·have t:(s==[48])=false:=by simpa using n
   rw[t,show(false==false)=true by rfl,ct,A3h]
   cases s with
   | nil=>simp[fL] at j
   | cons c r =>
    rw[show Ae 0 (c::r).length=true by unfold Ae;simp,ct]
    congr 1
    simp only[cond_true,cond_false,A52,List.head?_cons]
    by_cases k:c=48
    ·subst k;rfl
    ·have:((c.toNat:Int) != 48)=true:=by
      rw[bne_iff_ne];intro e
      apply k;apply A4q.1
      have:c.toNat=48:=by omega
      rw[this];rfl
     rw[this]
     have u:((some c:Option UInt8) != some 48)=true:=by rw[bne_iff_ne];simpa using k
     rw[u]
 ·have j:fL s=false:=by simpa using j
  rw[j,show(false==true)=false by rfl,cf]
  unfold D4
  rw[j];rfl
def YJ (s:Lu):Bool:=match s with
 | 45::r=>D4 r&&!(r==[48])
 | s=>D4 s
theorem Gf {N:Nat} {s:Lu} {K:Bool→O R} (e:s.length<N):Yh N s K=K (YJ s):=by
 rw[QW];unfold OP
 by_cases h:s.head?=some 45
 ·obtain⟨r,rfl⟩:∃ r,s=45::r:=by
   cases s with
   | nil=>simp at h
   | cons c r=>simp at h;exact⟨r,by rw[h]⟩
  rw[HS,Ii (by simp at e;omega)]
  show _=K (D4 r&&!(r==[48]))
  cases D4 r
  ·rfl
  ·rw[A1n];cases r==[48]<;>rfl
 ·rw[DV h,Ii e]
  have:YJ s=D4 s:=by
   unfold YJ
   split
   ·simp at h
   ·rfl
  rw[this]
  cases D4 s<;>rfl
def Hf (s:Lu):Nat:=s.countP A9
theorem Acx {N:Nat} {s:Lu} {K:Bool→O R} (hs:∀ c ∈ s,c.toNat<128) (v:s.length≤1000000000000):∀ (m p d fuel:Nat),p≤s.length→s.length - p=m→m<fuel→d≤p→I3 N K s fuel (d:Int) (p:Int)=K (decide (4096<d+Hf (s.drop p))):=by
 intro m
 induction m with
 | zero =>
  intro p d fuel k n q t
  cases fuel with
  | zero=>omega
  | succ fuel =>
   rw[I3];unfold T4
   rw[H2 (by omega),cf,A0k (by omega)]
   congr 1
   rw[decide_eq_decide];simp[Hf];omega
 | succ m j =>
  intro p d fuel k n q t
  cases fuel with
  | zero=>omega
  | succ fuel =>
   have e:p<s.length:=by omega
   have u:s[p].toNat<128:=hs _ (A0l e)
   rw[I3];unfold T4
   rw[Gh e,ct,A0d e,OV e u]
   simp only
   rw[show((p:Int)+((1:Nat):Int))=((p+1:Nat):Int) by omega]
   have hn:Hf (s[p]::s.drop (p+1))=Hf (s.drop (p+1))+(if A9 s[p] then 1 else 0):=by unfold Hf;rw[A5f]
   rw[hn]
   by_cases z:48≤s[p].toNat
   ·rw[show(decide (((s[p].toNat:Nat):Int)≥48)==true)=true by simp;omega,ct]
    by_cases A:s[p].toNat≤57
    ·rw[show cond true (decide (((s[p].toNat:Nat):Int)≤57)) false=true by simp;omega,ct,wS (by omega),j (p+1) (d+1) fuel (by omega) (by omega) (by omega) (by omega)]
     have:A9 s[p]=true:=by simp[A9];omega
     rw[this,if_pos rfl]
     congr 1;rw[decide_eq_decide];omega
    ·rw[show cond true (decide (((s[p].toNat:Nat):Int)≤57)) false=false by simp;omega,cf,j (p+1) d fuel (by omega) (by omega) (by omega) (by omega)]
     have:A9 s[p]=false:=by simp[A9];omega
     rw[this];rfl
   ·rw[show(decide (((s[p].toNat:Nat):Int)≥48)==true)=false by simp;omega,cf,j (p+1) d fuel (by omega) (by omega) (by omega) (by omega)]
    have:A9 s[p]=false:=by simp[A9];omega
    rw[this];rfl
theorem OW {N:Nat} {s:Lu} {K:Bool→O R} (hs:∀ c ∈ s,c.toNat<128) (e:s.length≤1000000000000) (j:s.length<N):DT N s K=K (decide (4096<Hf s)):=by
 rw[VE];unfold GG
 have:=Acx (R:=R) (N:=N) (K:=K) hs e s.length 0 0 N (by omega) (by omega) j (by omega)
 simpa using this
theorem As6 (m:Nat):(Int.tmod (m:Int) 2==1)=decide (m%2=1):=by
 rw[show Int.tmod (m:Int) 2=((m%2:Nat):Int) by rfl]
 rw[Bool.eq_iff_iff];simp;omega
theorem As7 {m:Nat} (h:m≤1000000000000):wrap .i64 (Int.tdiv (m:Int) 2)=((m/2:Nat):Int):=by
 rw[show Int.tdiv (m:Int) 2=((m/2:Nat):Int) by rfl,i64 (by omega)]
theorem Am1 (n:Bool) (s:LS) (x y:AV):D9 (Do n s) 0 [x,y]=[x,y]:=rfl
theorem Am2 (s:LS):Au false s=(val s.l:Int):=rfl
theorem As8 {N:Nat} {s1 s2:LS} {o1 o2:Bool} (e:Ak s1.l) (j:Ak s2.l) (k:fit (s1.l.length+s2.l.length) N):∃ S,Ak S∧val S=val s1.l*val s2.l∧∀ K:Bool→Nat→LA→O R,TZ N (Do false s1) o1 (Do false s2) o2 K=K false (Al (val s1.l*val s2.l)).length (Ag S):=by
 obtain⟨S,a1,a2,a3⟩:=Apm (R:=R) (N:=N) (n1:=false) (n2:=false) (o1:=o1) (o2:=o2) e j k
 rw[Am2,Am2,←A5m] at a2 a3
 rw[A0v] at a2 a3
 refine⟨S,a1,a2,fun K=>?_⟩
 rw[a3,decide_eq_false (by omega)]
theorem dR {P Q m j:Nat} (hP:1≤P) (hQ:1≤Q) (e:j≤m):P ^ j≤Q*P ^ m:=by
 have k:P ^ j≤P ^ m:=A0y hP e
 have n:1*P ^ m≤Q*P ^ m:=Az9 _ hQ
 omega
theorem Ak2 {N k:Nat} (T:fit (2*k+4) N):∀ (fuel m P Q:Nat) (c:Bool) (s:LS) (S:List Nat),m<fuel→m≤1000000000→1≤P→1≤Q→Q*P ^ m<4294967296 ^ k→Ak s.l→val s.l=P→s.l.length≤k+1→Ak S→val S=Q →
  ∃ S',Ak S'∧val S'=Q*P ^ m∧∀ K:Bool→Nat→LA→O R,H9 N K fuel (m:Int) c (Do false s) false (Al Q).length (Ag S)=K false (Al (Q*P ^ m)).length (Ag S'):=by
 intro fuel
 induction fuel with
 | zero=>intro m P Q c s S h;omega
 | succ fuel B =>
  intro m P Q c s S X U hP hQ v hs C D hS hSv
  rcases A0q m with F | F
  ·subst F
   refine⟨S,hS,by simp[hSv],fun K=>?_⟩
   rw[H9];unfold Ov
   rw[show decide (((0:Nat):Int)>0)=false by decide,cf,A3o,A0b]
  ·have lQ:(Al Q).length≤k:=Dn (A0s (A21 Q (A1l hP)) v)
   have hPm:P ^ 1≤Q*P ^ m:=dR hP hQ F
   obtain⟨S1,a1,a2,a3⟩:=As8 (R:=R) (N:=N) (s1:=.of (Al Q) false true) (s2:=s) (o1:=true) (o2:=c) (Ad _) hs (T.le (show(Al Q).length+s.l.length≤_ by omega))
   have vQ:val (LS.of (Al Q) false true).l=Q:=Ah Q
   rw[vQ,C] at a2 a3
   obtain⟨S2,b1,G,I⟩:=As8 (R:=R) (N:=N) (s1:=s) (s2:=s) (o1:=c) (o2:=c) hs hs (T.le (show s.l.length+s.l.length≤_ by omega))
   rw[C] at G I
   have sq:∀ n t:Nat,(P*P) ^ n=P ^ (2*n):=fun n t=>by rw[←A6t,←A3x]
   have gt0:decide ((m:Int)>0)=true:=by simp;omega
   have cell:∀ (t:Nat) (u:List Nat),([.bool false,.imm (take ((Al t).length*1) (Ag u)) (Al t).length 1 false false]:LA)=[.bool false,.imm (take ((Al t).length*1) (Ag u)) (Al t).length 1 false false]:=fun _ _=>rfl
   by_cases q:m%2=1
   ·by_cases V:1<m
    ·have e:Q*P ^ m=(Q*P)*(P*P) ^ (m/2):=by
      rw[sq _ 0,A0c,←Nat.pow_succ']
      congr 2;omega
     have l2:(Al (P*P)).length≤k:=Dn (A0s (by have:=dR (j:=2) hP hQ (show 2≤m by omega);rwa [A6t] at this) v)
     obtain⟨S',c1,z,A⟩:=B (m/2) (P*P) (Q*P) (c||false) (.of (Al (P*P)) false false) S1 (by omega) (by omega) (A3w hP hP) (A3w hQ hP) (by rw[←e];exact v) (Ad _) (Ah _) (by show(Al (P*P)).length≤_;omega) a1 a2
     refine⟨S',c1,by rw[z,e],fun K=>?_⟩
     rw[H9];unfold Ov
     rw[gt0,ct,As6,decide_eq_true q,ct,gK,ct,yV,Bs hS hSv,Amw,a3,show decide ((m:Int)>1)=true by simp;omega,ct,ct,ct,I,show((beq 2 2)&&(true&&(!false)))=true by rfl,ct,As7 (by omega),Am1,Bs b1 G,Amw,A,e]
    ·have L:m=1:=by omega
     subst L
     obtain⟨S',c1,z,A⟩:=B 0 P (Q*P) c s S1 (by omega) (by omega) hP (A3w hQ hP) (by simpa using v) hs C D a1 a2
     rw[A3o,A0b] at z A
     refine⟨S',c1,by rw[z,Nat.pow_one],fun K=>?_⟩
     rw[H9];unfold Ov
     rw[gt0,ct,As6,decide_eq_true q,ct,gK,ct,yV,Bs hS hSv,Amw,a3,show decide (((1:Nat):Int)>1)=false by decide,cf,As7 (by omega),A,Nat.pow_one]
   ·have V:1<m:=by omega
    have e:Q*P ^ m=Q*(P*P) ^ (m/2):=by
     rw[sq _ 0];congr 2;omega
    have l2:(Al (P*P)).length≤k:=Dn (A0s (by have:=dR (j:=2) hP hQ (show 2≤m by omega);rwa [A6t] at this) v)
    obtain⟨S',c1,z,A⟩:=B (m/2) (P*P) Q (c||false) (.of (Al (P*P)) false false) S (by omega) (by omega) (A3w hP hP) hQ (by rw[←e];exact v) (Ad _) (Ah _) (by show(Al (P*P)).length≤_;omega) hS hSv
    refine⟨S',c1,by rw[z,e],fun K=>?_⟩
    rw[H9];unfold Ov
    rw[gt0,ct,As6,decide_eq_false q,cf,show decide ((m:Int)>1)=true by simp;omega,ct,gK,ct,ct,yV,I,show((beq 2 2)&&(true&&(!false)))=true by rfl,ct,As7 (by omega),Am1,Bs b1 G,Amw,A,e]
theorem Auw:Al 10=[10]:=by rw[FB (by omega)];simp[Cz]
theorem As9 (n:Nat):10 ^ n<4294967296 ^ (n+1):=by
 have e:10 ^ n≤4294967296 ^ n:=A3k (by omega) n
 have j:4294967296 ^ n<4294967296 ^ (n+1):=Nat.pow_lt_pow_right (by omega) (by omega)
 omega
theorem ye {N n:Nat} (j:fit (2*n+6) N):∃ S,Ak S∧val S=10 ^ n∧∀ (K:Bool→Nat→LA→O R),(Iy N 10 fun g e i=>KD N [(.bool g),(.imm (i.take (e*1)) e 1 false true)] true (n:Int) K)=K false (Al (10 ^ n)).length (Ag S):=by
 have z:=j.1;have A:=j.2
 obtain⟨S0,a1,a2,a3⟩:=Pt (R:=R) (N:=N) (v:=1) (by omega) (by omega)
 obtain⟨S1,b1,t,u⟩:=Pt (R:=R) (N:=N) (v:=10) (by omega) (by omega)
 obtain⟨S',c1,q,s⟩:=Ak2 (R:=R) (N:=N) (k:=n+1) (j.le (by omega)) N n 10 1 true (.of (Al 10) false true) S0 (by omega) (by omega) (by omega) (by omega) (by rw[A3t];exact As9 n) (Ad _) (Ah _) (by rw[Auw];simp[LS.l]) a1 a2
 rw[A3t] at q s
 refine⟨S',c1,q,fun K=>?_⟩
 rw[u,gi];unfold XB
 rw[a3]
 refine A12 ?_ (s K)
 rw[show(10:Int).natAbs=10 by rfl,show(1:Int).natAbs=1 by rfl] at *
 rw[Bs b1 t]
 rfl
def B9:Nat:=1000000000
def Ag5:Nat→Nat→List Nat
 | 0,_=>[]
 | n+1,a=>if a=0 then [] else a%B9::Ag5 n (a/B9)
def Ak3 (a:Nat):List Nat:=Ag5 a a
theorem Aux:∀ (n m a:Nat),a≤n→a≤m→Ag5 n a=Ag5 m a:=by
  intro n
  induction n with
  | zero=>intro m a h _;cases m<;>simp[Ag5];omega
  | succ n e =>
    intro m a j k
    cases m with
    | zero => have : a = 0 := by omega
              subst this;simp[Ag5]
    | succ m =>
      unfold Ag5
      split
      · rfl
      · have:a/B9<a:=A4o (by omega) (by decide)
        rw[e m (a/B9) (by omega) (by omega)]
theorem iF:Ak3 0=[]:=rfl
theorem GJ {a:Nat} (h:0<a):Ak3 a=a%B9::Ak3 (a/B9):=by
 unfold Ak3
 obtain⟨n,rfl⟩:∃ n,a=n+1:=⟨a - 1,by omega⟩
 rw[Ag5,if_neg (by omega)]
 have:(n+1)/B9<n+1:=A4o (by omega) (by decide)
 rw[Aux n ((n+1)/B9) _ (by omega) (Az3 _)]
theorem Aw2:∀ (a:Nat),∀ g ∈ Ak3 a,g<B9:=by
 intro a
 induction a using Nat.strongRecOn with
 | ind a k =>
  intro g e
  rcases A0q a with j | j
  ·subst j;cases e
  ·rw[GJ j] at e
   rcases Az7.1 e with rfl | e
   ·exact A1j _ (by decide)
   ·exact k (a/B9) (A4o j (by decide)) g e
def Ap3 (g:Nat):Lu:=replicate (9 - (dec g).length) 48++dec g
def Zo:List Nat→Lu
 | []=>[]
 | [g]=>dec g
 | g::h::r=>Zo (h::r)++Ap3 g
theorem VF {g:Nat} (h:g<B9):(dec g).length≤9:=(Aat (by omega)).2 h
theorem Ap4:∀ (a:Nat),0<a→Zo (Ak3 a)=dec a:=by
 intro a
 induction a using Nat.strongRecOn with
 | ind a s =>
  intro q
  rw[GJ q]
  have n:a/B9<a:=A4o q (by decide)
  rcases A0q (a/B9) with j | j
  ·rw[j,iF]
   show dec (a%B9)=dec a
   have:a<B9:=(Nat.div_eq_zero_iff_lt (by decide)).1 j
   rw[A07 this]
  ·have e:=s (a/B9) n j
   rw[GJ j] at e ⊢
   rw[Zo,e,Ap3]
   have t:a=a/B9*10 ^ 9+a%B9:=by
    have:=A1e a B9
    rw[Az8] at this
    exact this.symm
   conv=>rhs;rw[t]
   exact(Aon (k:=9) (r:=a%B9) j (A1j _ (by decide)) (VF (A1j _ (by decide)))).symm
theorem yf:∀ (gs:List Nat),(∀ g ∈ gs,g<B9)→(Zo gs).length≤9*gs.length
 | [],_=>by simp[Zo]
 | [g],h=>by have:=VF (h g (by simp));simp[Zo];omega
 | g::k::r,h=>by
  have j:=yf (k::r) (fun x e=>h x (by simp at e ⊢;exact .inr e))
  have n:=VF (h g (by simp))
  rw[Zo,Az2,Ap3,Az2,A1v]
  simp only[Az5] at *
  omega
def gI (l:List Nat):LA:=l.map fun n:Nat=>.int .i64 (n:Int)
theorem Aw3 (a:List Nat) (g:Nat):gI a++[.int .i64 (g:Int)]=gI (a++[g]):=by simp[gI]
theorem Auy (a:List Nat):take (a.length*1) (gI a)=gI a:=by rw[A0b];exact Az0 (by simp[gI])
theorem Azu {l:List Nat} {j:Nat} (h:j<l.length) {f:Int→O R}:As .i64 (drop (0+((Int.toNat (j:Int))*1)) (gI l)) f=f (l[j]:Nat):=by
 rw[A0g,A0b,Az1]
 have e:drop j (gI l)=.int .i64 ((l[j]:Nat):Int)::gI (drop (j+1) l):=by
  unfold gI;rw[←A5d,A0d h];rfl
 rw[e];rfl
theorem uZ (s:Lu) (n:Nat) (h:n=s.length):take (n*1) (At s)=At s:=by
 rw[A0b];exact Az0 (by simp[At,h])
theorem nf (s:Lu):take s.length (At s)=At s:=Az0 (by simp[At])
theorem BM (a b:Lu):At a++At b=At (a++b):=by simp[At]
theorem VG:∀ (s:Lu),Sc (At s)=some s
 | []=>rfl
 | c::r=>by
  have j:=VG r
  have e:At (c::r)=.int .u8 (c.toNat:Int)::At r:=rfl
  rw[e,Sc,j]
  simp[ph]
theorem Auz {N:Nat} {s:Lu} {K:Lu→O R} (e:s≠[]) (n:s.length≤9223372036854775807):AK N s.length (At s) K=K s:=by
 rw[KG];unfold HF
 have j:0<s.length:=A13.2 e
 have k:((beq 5 5)&&((beq 1 1)&&(true&&((!false)&&((beq 0 0)&&((decide (0<(s.length:Int)))&&((decide ((s.length:Int)≤(((At s).length:Nat):Int)))&&(decide ((s.length:Int)≤9223372036854775807)))))))))=true:=by
  simp[At];omega
 rw[show Nat.blt 0 s.length=true by simpa using j,ct,k,ct,nf,VG];rfl
theorem Au0 {N:Nat} {b:Lu} {K:Int→Nat→LA→O R} (e:b.length≤140737488355328):Mr N b K=K (b.length:Int) b.length (At b):=by
 rw[Ur];unfold Re
 rw[Zm];unfold V5
 have:(ble (0+b.length) 140737488355328&&ble ((0+b.length)*1) 140737488355328)=true:=by simp;omega
 rw[this,ct,A0g]
theorem Am3 {N:Nat} {s b:Lu} {K:Int→Nat→LA→O R} (e:s.length+b.length≤140737488355328):Fu N b s.length (At s) K=K (b.length:Int) (s++b).length (At (s++b)):=by
 rw[Us];unfold Rf
 rw[Zn];unfold V6
 have:(ble (s.length+b.length) 140737488355328&&ble ((s.length+b.length)*1) 140737488355328)=true:=by simp;omega
 rw[this,ct,uZ s _ rfl,BM,Az2]
theorem kj {N n:Nat} {K:Lu→O R} (h:n≤9223372036854775807):strconv_Itoa N (n:Int) K=K (dec n):=by
 rw[Oe];unfold Po
 have:(decide (-9223372036854775808≤(n:Int))&&decide ((n:Int)≤9223372036854775807))=true:=by simp;omega
 rw[this,ct,Lib.itoa,if_neg (by omega),Az1]
theorem Ag6 (k:Nat):Lib.repeatL [48] k=replicate k 48:=by
 induction k with
 | zero=>rfl
 | succ k e=>rw[Lib.repeatL,e];rfl
theorem qF {N k:Nat} {K:Lu→O R} (h:k≤140737488355328):strings_Repeat N [48] (k:Int) K=K (replicate k 48):=by
 rw[Ky];unfold Lj
 have:(decide ((0:Int)≤(k:Int))&&(decide ((k:Int)≤9223372036854775807)&&decide (((([48]:Lu).length:Nat):Int)*(k:Int)≤140737488355328)))=true:=by simp;omega
 rw[this,ct,Az1,Ag6]
theorem Au1:∀ (k a:Nat),a<B9 ^ k→(Ak3 a).length≤k:=by
  intro k
  induction k with
  | zero => intro a h; have : a = 0 := by simpa using h
            subst this;simp[iF]
  | succ k j =>
    intro a h
    rcases A0q a with e | e
    · subst e;simp[iF]
    · rw[GJ e,Az5]
      have:=j (a/B9) (A2y (by rw[A0i,Az8] at h;exact h))
      omega
theorem Ata {l:List Nat} (h:Ak l):(Ak3 (val l)).length≤2*l.length:=by
 refine Au1 _ _ (A1g (B6 h) ?_)
 rw[A3x]
 exact A3k (by decide) _
theorem Ax4:(Al (10 ^ 9)).length≤1:=Dn (by decide)
theorem Ay2:(10:Nat) ^ 9=B9:=by decide
theorem Ij (v:Nat) (a b:Bool):Ak (LS.of (Al v) a b).l:=Ad v
theorem Av4 {N v:Nat} {S:List Nat} {o:Bool} {K:LA→LA→Bool→O R} (e:Ak S) (j:val S=10 ^ 9) {s:LS} (hs:Ak s.l) (k:val s.l=v) (n:fit (s.l.length+5) N) :
  Vv N (Do false s) o [(.bool false),(.imm (take ((Al (10 ^ 9)).length*1) (Ag S)) (Al (10 ^ 9)).length 1 false true)] true K=K (Cb ((v/B9:Nat):Int)) (Cb ((v%B9:Nat):Int)) true:=by
 rw[Bs e j,Amw,Ab2 hs (Ij _ _ _) (by rw[Am2];simp only[LS.l];rw[Ah];decide) (n.le (by have:=Ax4;simp only[LS.l];omega)),Am2,Am2,k]
 simp only[LS.l]
 rw[Ah,Ay2];rfl
theorem yg {N v:Nat} {o:Bool} {K:Int→Bool→O R} (j:v≤9223372036854775807) (e:fit 3 N):DN N (Cb (v:Int)) o K=K (v:Int) true:=by
 have:(Al v).length≤2:=Dn (by omega)
 rw[gM,Agh (Ij _ _ _) (e.le (by simp only[LS.l];omega)) (by rw[Am2];simp only[LS.l];rw[Ah];omega),Am2]
 simp only[LS.l]
 rw[Ah]
theorem u5 {N v:Nat} {o:Bool} {K:Int→O R} (e:fit ((Al v).length) N):Qh N (Cb (v:Int)) o K=K (v:Int).sign:=by
 rw[gM,Ra (Ij _ _ _) e,Am2]
 simp only[LS.l]
 rw[Ah]
theorem Atb {v:Nat}:decide ((v:Int).sign>0)=decide (0<v):=by
 rw[decide_eq_decide]
 cases v with
 | zero=>simp
 | succ v=>simp
theorem Ax5 {l:List Nat} {j:Nat} {i:Int} (hi:i=(j:Int)) (h:j<l.length) {f:Int→O R}:As .i64 (drop (0+((Int.toNat i)*1)) (gI l)) f=f (l[j]:Nat):=by subst hi;exact Azu h
theorem Ap5 {N:Nat} {G:List Nat} {K:Lu→O R} (hG:∀ g ∈ G,g<B9) (z:G.length≤2000000000):∀ (fuel m:Nat),1≤m→m≤G.length→G.length - m<fuel →
  Tt N K G.length (gI G) fuel (G.length:Int) (m:Int) (Zo (G.drop (G.length - m))).length (At (Zo (G.drop (G.length - m))))=K (Zo G):=by
 intro fuel
 induction fuel with
 | zero=>intro m _ _ h;omega
 | succ fuel s =>
  intro m q A B
  have hT:=yf (G.drop (G.length - m)) (fun g j=>hG g (A3u j))
  rw[A2d] at hT
  rw[Tt];unfold HG
  by_cases k:m<G.length
  ·rw[Gh k,ct]
   have hi:wrap .i64 ((wrap .i64 ((G.length:Int) - 1)) - (m:Int))=((G.length - m - 1:Nat):Int):=by
    rw[show wrap .i64 ((G.length:Int) - 1)=((G.length - 1:Nat):Int) by rw[i64 (by omega)];omega,i64 (by omega)];omega
   have e:G.length - m - 1<G.length:=by omega
   rw[show Ae (wrap .i64 ((wrap .i64 ((G.length:Int) - 1)) - (m:Int))) G.length=true by rw[hi];unfold Ae;simp;omega,ct,Ax5 hi e]
   have j:=hG _ (A0l e)
   have hB:B9=1000000000:=rfl
   have t:=VF j
   rw[kj (by omega),show decide ((m:Int)>0)=true by simp;omega,ct]
   rw[show wrap .i64 (9 - (((dec G[G.length - m - 1]).length:Nat):Int))=((9 - (dec G[G.length - m - 1]).length:Nat):Int) by rw[i64 (by omega)];omega]
   have u:G.drop (G.length - (m+1))=G[G.length - m - 1]::G.drop (G.length - m):=by
    rw[show G.length - (m+1)=G.length - m - 1 by omega,A0d e,show G.length - m - 1+1=G.length - m by omega]
   have n:Zo (G.drop (G.length - (m+1)))=Zo (G.drop (G.length - m))++Ap3 G[G.length - m - 1]:=by
    rw[u]
    cases v:G.drop (G.length - m) with
    | nil=>have:=congrArg List.length v;rw[A2d] at this;simp at this;omega
    | cons x y=>rw[Zo]
   rw[qF (by omega),Am3 (by rw[A1v];omega),Am3 (by rw[Az2,A1v];omega),A10,show replicate (9 - (dec G[G.length - m - 1]).length) 48++dec G[G.length - m - 1]=Ap3 G[G.length - m - 1] from rfl,←n,wS (by omega)]
   exact s (m+1) (by omega) (by omega) (by omega)
  ·have k:m=G.length:=by omega
   subst k
   rw[H2 (by omega),cf]
   rw[A5l,A00] at hT ⊢
   rw[Auz (by
    cases hG':G with
    | nil=>rw[hG'] at q;simp at q
    | cons g r =>
     cases r with
     | nil=>exact TC g
     | cons h r =>
      rw[Zo,Ap3];simp[TC]) (by omega)]
theorem Ap6 (g:Nat):Zo [g]=dec g:=rfl
theorem Ap7 {N:Nat} {G:List Nat} {K:Lu→O R} (hG:∀ g ∈ G,g<B9) (k:G≠[]) (q:G.length≤2000000000) (hN:G.length+2≤N):Tu N K G.length (gI G) N (G.length:Int)=K (Zo G):=by
 have u:=A13.2 k
 obtain⟨n,rfl⟩:∃ n,N=n+1:=⟨N - 1,by omega⟩
 rw[Tu];unfold HH
 have hi:wrap .i64 ((wrap .i64 ((G.length:Int) - 1)) - 0)=((G.length - 1:Nat):Int):=by
  rw[show wrap .i64 ((G.length:Int) - 1)=((G.length - 1:Nat):Int) by rw[i64 (by omega)];omega,i64 (by omega)];omega
 have j:G.length - 1<G.length:=by omega
 have s:=hG _ (A0l j)
 have hB:B9=1000000000:=rfl
 have t:=VF s
 rw[show decide ((0:Int)<(G.length:Int))=true by simp;omega,ct,show Ae (wrap .i64 ((wrap .i64 ((G.length:Int) - 1)) - 0)) G.length=true by rw[hi];unfold Ae;simp;omega,ct,Ax5 hi j,kj (by omega),Au0 (by omega)]
 have e:G.drop (G.length - 1)=[G[G.length - 1]]:=by
  rw[A0d j,A0k (by omega)]
 have:=Ap5 (R:=R) (N:=n+1) (K:=K) hG q n 1 (by omega) (by omega) (by omega)
 rw[e,Ap6] at this
 exact this
theorem Ap8 {N a:Nat} {S:List Nat} {i:Bool} {e:Nat} {l:LA} {K:Lu→O R} (u:Ak S) (z:val S=10 ^ 9) (A:0<a) (B:(Ak3 a).length≤2000000000) (hN:(Ak3 a).length+2≤N) (k:fit ((Al a).length+5) N) :
  ∀ (fuel v:Nat) (G:List Nat),v≤a→G≠[]→G++Ak3 v=Ak3 a→(Ak3 v).length<fuel→Tv N K false (Al (10 ^ 9)).length (Ag S) i e l fuel G.length (Cb (v:Int)) (gI G)=K (dec a):=by
 intro fuel
 induction fuel with
 | zero=>intro v G _ _ _ h;omega
 | succ fuel C =>
  intro v G n hG0 hG q
  have D:=Bb n
  rw[Tv];unfold HI
  have t:=congrArg List.length hG
  rw[Az2] at t
  rw[Asx,ct,Axi,u5 (k.le (by omega)),Atb]
  rcases A0q v with j | j
  ·subst j
   rw[iF,A1y] at hG
   have F:=A13.2 hG0
   rw[show decide (0<0)=false by decide,cf,show((G.length:Int)==0)=false by simp;omega,cf]
   rw[hG] at hG0 ⊢
   exact(Ap7 (Aw2 a) hG0 B hN).trans (by rw[Ap4 a A])
  ·rw[decide_eq_true j,ct,ct,gM,Av4 u z (s:=.of (Al v) false false) (Ij _ _ _) (Ah v) (k.le (by simp only[LS.l];omega)),Ax3,ct,Ax3,ct,Asx,ct,Axi]
   have hB:B9=1000000000:=rfl
   have I:v%B9<B9:=A1j _ (by decide)
   rw[yg (by omega) (k.le (by omega)),show((ble (G.length+1) 140737488355328)&&(ble ((G.length+1)*8) 140737488355328))=true by simp;omega,ct,Asx,ct,Axi,Ay1,ct,←gM,Ayy,Auy,Aw3]
   have e:(G++[v%B9])++Ak3 (v/B9)=Ak3 a:=by rw[A10,←hG,GJ j];rfl
   have:=C (v/B9) (G++[v%B9]) (by have:=A1r v B9;omega) (by simp) e (by rw[GJ j,Az5] at q;omega)
   rw[Az2] at this
   exact this
theorem Ag7 {N:Nat} {n:Bool} {s:LS} {u:Bool} {K:Lu→O R} (hs:Ak s.l) (e:fit (2*s.l.length+40) N):KH N (Do n s) u K=K (dec (Au n s).natAbs):=by
 have hN:=e.1;have hN2:=e.2
 obtain⟨S,v,z,A⟩:=ye (R:=R) (N:=N) (n:=9) (e.le (by omega))
 rw[aG];unfold OH
 refine A12 (A _) ?_
 rw[gK,ct,yV,Apq hs (e.le (by omega))]
 have k:=C2 n s
 have q:=Ata hs
 have t:=(Ba hs).2
 rw[←k] at q t
 generalize (Au n s).natAbs=a at *
 obtain⟨m,rfl⟩:∃ m,N=m+1:=⟨N - 1,by omega⟩
 show Ow (m+1) K false _ false _ _ _ (m+1)=_
 rw[Ow];unfold HJ
 rw[Bs (Ad a) (Ah a),Amw,Ra (Ij _ _ _) (e.le (by show(Al a).length≤_;omega)),Am2,show val (LS.of (Al a) false true).l=a from Ah a,Atb]
 rcases A0q a with j | j
 ·subst j
  rw[show decide (0<0)=false by decide,cf,Gk (by omega)];rfl
 ·have hB:B9=1000000000:=rfl
  have B:a%B9<B9:=A1j _ (by decide)
  rw[decide_eq_true j,ct,Av4 v z (s:=.of (Al a) false true) (Ij _ _ _) (Ah a) (e.le (by show(Al a).length+5≤_;omega)),Ax3,ct,Ax3,ct,Asx,ct,Axi,yg (by omega) (e.le (by omega)),Asx,ct,Axi,Ax3,ct]
  exact Ap8 (R:=R) (G:=[a%B9]) v z j (by omega) (by omega) (e.le (by omega)) m (a/B9) (A1r _ _) (by simp) (by rw[GJ j];rfl) (by
   have:=congrArg List.length (GJ j)
   rw[Az5] at this;omega)
theorem Ak4 {v k:Nat} (h:v<10 ^ k):(dec v).length≤k+1:=by
 have:=(Aat (u:=v) (k:=k+1) (by omega)).2 (A1g h (A0y (by omega) (by omega)))
 exact this
theorem Au2 (k:Nat):4294967296 ^ k≤10 ^ (10*k):=by
 rw[A3x];exact A3k (by decide) _
theorem KR (v:Nat):(dec v).length≤10*(Al v).length+1:=Ak4 (A1g (Akd (Az3 _)) (Au2 _))
def aV (c:Nat) (s:Lu):Lu:=replicate (c+1 - s.length) 48++s
def p_ (z:Int) (s:Lu):Lu:=if z<0 then 45::s else s
def Azi (c:Nat) (s:Lu):Lu:=if c=0 then s else (aV c s).take ((aV c s).length - c)++[46]++(aV c s).drop ((aV c s).length - c)
def pt (z:Int) (c:Nat):Lu:=p_ z (Azi c (dec z.natAbs))
theorem Ap9 (c:Nat) (s:Lu):c+1≤(aV c s).length∧(aV c s).length≤c+1+s.length:=by
 unfold aV;rw[Az2,A1v];omega
theorem ko {a b:Nat} (h:a≤b):ble a b=true:=by simpa using h
theorem Av5 {N:Nat} {n:Bool} {s:LS} {u:Bool} {c:Nat} {b:Lu} {K:Lu→O R} (hs:Ak s.l) (j:fit s.l.length N) (q:c≤b.length) (t:b.length≤100000000000):Lq N K (c:Int) u (Do n s) b=K (p_ (Au n s) (b.take (b.length - c)++[46]++b.drop (b.length - c))):=by
 have k:wrap .i64 ((((b.length):Nat):Int) - (c:Int))=((b.length - c:Nat):Int):=by rw[i64 (by omega)];omega
 unfold Lq
 rw[k]
 rw[show((decide ((0:Int)≤(0:Int)))&&((decide (0≤((b.length - c:Nat):Int)))&&((decide (((b.length - c:Nat):Int)≤(((b.length):Nat):Int)))&&(decide ((((b.length):Nat):Int)≤(((b.length):Nat):Int))))))=true by simp,ct]
 rw[Az1,ko (by rw[A0o];omega),ct]
 rw[show((decide (0≤((b.length - c:Nat):Int)))&&((decide (((b.length - c:Nat):Int)≤(((b.length):Nat):Int)))&&((decide ((((b.length):Nat):Int)≤(((b.length):Nat):Int)))&&(decide ((((b.length):Nat):Int)≤(((b.length):Nat):Int))))))=true by simp,ct]
 rw[Az0 (l:=drop (b.length - c) b) (by rw[A2d];omega)]
 rw[ko (by rw[Az2,A0o,A2d,A0t];omega),ct,gK,ct,yV,Ra hs j]
 unfold p_
 by_cases h:Au n s<0
 ·rw[show decide ((Au n s).sign<0)=true by rw[decide_eq_true_eq];exact A4h.2 h,ct,if_pos h,ko (by rw[Az2,Az2,A0o,A2d,A0t];omega),ct];rfl
 ·rw[show decide ((Au n s).sign<0)=false by rw[decide_eq_false_iff_not];intro e;exact h (A4h.1 e),cf,if_neg h]
theorem u6 {N:Nat} {n:Bool} {s:LS} {u:Bool} {c:Nat} {K:Lu→O R} (hs:Ak s.l) (z:c≤1000000000) (j:fit (2*s.l.length+40) N):Tx N (Do n s) u (c:Int) K=K (pt (Au n s) c):=by
 have hN:=j.1;have hN2:=j.2
 have A:(dec (Au n s).natAbs).length≤10*s.l.length+1:=by
  have q:=KR (Au n s).natAbs
  have t:=(Ba hs).2
  rw[←C2 n s] at t;omega
 have B:=A13.2 (TC (Au n s).natAbs)
 rw[KI];unfold Xa
 rw[gK,ct,yV,Ag7 hs j]
 unfold pt Azi
 generalize dec (Au n s).natAbs=f at *
 have v:=Ap9 c f
 by_cases k:c=0
 ·subst k
  rw[show decide (((0:Nat):Int)>0)=false by decide,cf,ct,Ra hs (j.le (by omega)),if_pos rfl]
  unfold p_
  by_cases h:Au n s<0
  ·rw[show decide ((Au n s).sign<0)=true by rw[decide_eq_true_eq];exact A4h.2 h,ct,if_pos h,ko (by omega),ct];rfl
  ·rw[show decide ((Au n s).sign<0)=false by rw[decide_eq_false_iff_not];intro e;exact h (A4h.1 e),cf,if_neg h]
 ·rw[show decide ((c:Int)>0)=true by simp;omega,ct,if_neg k]
  by_cases q:f.length≤c
  ·rw[show decide ((((f.length):Nat):Int)≤(c:Int))=true by simp;omega,ct]
   rw[show wrap .i64 ((wrap .i64 ((c:Int)+1)) - (((f.length):Nat):Int))=((c+1 - f.length:Nat):Int) by rw[wS (by omega),i64 (by omega)];omega]
   rw[qF (by omega),ko (by rw[A1v];omega),ct]
   exact Av5 (b:=aV c f) hs (j.le (by omega)) (by omega) (by omega)
  ·rw[show decide ((((f.length):Nat):Int)≤(c:Int))=false by simp;omega,cf]
   have e:aV c f=f:=by unfold aV;rw[show c+1 - f.length=0 by omega];rfl
   rw[e]
   exact Av5 (b:=f) hs (j.le (by omega)) (by omega) (by omega)
def V7 (z:Int):Lu:=p_ z (dec z.natAbs)
theorem iG (z:Int):(V7 z).length≤10*(Al z.natAbs).length+2:=by
 have:=KR z.natAbs
 unfold V7 p_;split<;>simp<;>omega
theorem VH {N:Nat} {n:Bool} {s:LS} {u:Bool} {K:Lu→O R} (hs:Ak s.l) (e:fit (2*s.l.length+40) N):Ia N (Do n s) u K=K (V7 (Au n s)):=by
 rw[KJ];unfold HK
 rw[gK,ct,yV]
 exact u6 (c:=0) hs (by omega) e
def D5 (q:Rat):Lu:=if q.den=1 then V7 q.num else V7 q.num++[47]++dec q.den
theorem Au3 {N v:Nat} {a b u:Bool} {K:Lu→O R} (e:fit (2*(Al v).length+40) N):Ia N (Do false (.of (Al v) a b)) u K=K (dec v):=by
 have:=VH (R:=R) (n:=false) (s:=.of (Al v) a b) (u:=u) (K:=K) (Ij v a b) (by show fit (2*(Al v).length+40) N;exact e)
 rw[this,Am2,show val (LS.of (Al v) a b).l=v from Ah v]
 unfold V7 p_
 rw[if_neg (by omega),A0v]
theorem Au4 {d:RatD} {q:Rat} (h:d.can q):Au d.neg d.ns=q.num:=by
 unfold Au
 rw[h.1,h.2.1,Ah]
 by_cases e:q.num<0
 ·rw[decide_eq_true e,if_pos rfl];omega
 ·rw[decide_eq_false e,if_neg (by simp)];omega
theorem VI {N:Nat} {x:RatD} {o:Bool} {K:Lu→O R} (s:x.ok) (j:fit (4*x.m+60) N):La N x.av o K=K (D5 x.q):=by
 have C:=j.1;have D:=j.2
 obtain⟨d,e,t⟩:=dB (R:=R) (N:=N) (o:=o) s (j.le (by omega))
 obtain⟨S,a1,a2,a3⟩:=Pt (R:=R) (N:=N) (v:=1) (by omega) (by omega)
 have u:=UE x s
 rw[←e.m] at u
 have z:d.ns.l.length≤d.m:=A2j _ _
 have A:d.ds.l.length≤d.m:=A2o _ _
 have k:=iG x.q.num
 have n:=KR x.q.den
 rw[←e.2.1] at k
 rw[←e.2.2] at n
 rw[KK];unfold HL
 rw[OB,ct,Tn,t,show((beq (List.length d.av) 3)&&(true&&(!false)))=true by rfl,ct,show setCells x.av 0 d.av=d.av by rfl,wi,a3,Bs a1 a2]
 have e1:([.bool false,.imm (Ag d.ds.l) d.ds.l.length 1 false (o||false)]:LA)=Do false (.of (Al x.q.den) false (o||false)):=by rw[e.2.2];rfl
 rw[e1,Amw,wh (Ij _ _ _) (Ij _ _ _) (j.le (by
  have:(Al (1:Int).natAbs).length≤1:=Dn (by decide)
  show(Al x.q.den).length+(Al (1:Int).natAbs).length≤_
  rw[←e.2.2];omega)),Am2,show val (LS.of (Al x.q.den) false (o||false)).l=x.q.den from Ah _]
 rw[show Au (decide ((1:Int)<0)) (LS.of (Al (1:Int).natAbs) false true)=1 from Qj]
 have B:ble 2 (List.length d.av)=true:=rfl
 have e3:take 2 d.av=Do d.neg d.ns:=rfl
 have hn:∀ K:Lu→O R,Ia N (Do d.neg d.ns) (o||false) K=K (V7 x.q.num):=fun K=>by
  rw[VH e.ok.1 (j.le (by omega)),Au4 e]
 rw[B,ct,e3,hn]
 unfold D5
 by_cases h:x.q.den=1
 ·rw[if_pos h,h,show((tN ((1:Nat):Int) 1)==0)=true by decide,ct]
 ·have:tN (x.q.den:Int) 1≠0:=by
   have:=x.q.den_pos
   unfold tN;rw[if_neg (by omega),if_pos (by omega)];decide
  rw[if_neg h,show((tN (x.q.den:Int) 1)==0)=false by simpa using this,cf,ct,hn,ko (by omega),ct,Au3 (j.le (by rw[←e.2.2];omega)),ko (by rw[Az2,A0t];omega),ct]
theorem Ag8:∀ (s:Lu) (e k:Nat),e<10 ^ k→s.length+k≤18→s.all A9=true→Lib.parseUint10 e s=.ok (e*10 ^ s.length+By s)
 | [],e,_,_,_,_=>by simp[Lib.parseUint10,By]
 | c::r,e,k,z,v,n=>by
  simp only[A1d,A0a] at n
  have u:=n.1
  simp[A9] at u
  simp only[Az5] at v
  have j:10 ^ (k+1)≤10 ^ 18:=A0y (by omega) (by omega)
  rw[A0i] at j
  have q:e*10+(c.toNat - 48)<10 ^ k*10:=by omega
  have t:(10:Nat) ^ 18=1000000000000000000:=by decide
  rw[t] at j
  rw[Lib.parseUint10,if_pos u,if_neg (by omega),if_neg (by omega),Ag8 r (e*10+(c.toNat - 48)) (k+1) (by rw[A0i];exact q) (by omega) n.2,JD,Az5,A0i,A0m]
  congr 1
  rw[show e*10*10 ^ r.length=e*(10 ^ r.length*10) by rw[A0c,Az8 10]]
  omega
theorem Aqa {N:Nat} {s:Lu} {K:Int→O R} (hs:s.all A9=true) (e:s≠[]) (j:s.length≤18):Z6 N s K=K (By s:Int):=by
 have k:=Z5 hs
 have n:10 ^ s.length≤10 ^ 18:=A0y (by omega) j
 have q:(10:Nat) ^ 18=1000000000000000000:=by decide
 have key:Lib.atoiAll s=.ok (By s:Int):=by
  cases s with
  | nil=>exact absurd rfl e
  | cons c r =>
   have t:A9 c=true:=by simp only[A1d,A0a] at hs;exact hs.1
   simp[A9] at t
   rw[Lib.atoiAll_plain c r (by omega) (by omega),Lib.parseMag,if_neg e,Ag8 (c::r) 0 0 (by decide) (by omega) hs,A26,A0g,Lib.signless,if_neg (by omega)]
 rw[Og];unfold Pp
 rw[ko (by omega),ct,key]
theorem Au5 (k:Nat):10 ^ k<4294967296 ^ (k+1):=As9 k
theorem iH {v k:Nat} (h:v<10 ^ k):(Al v).length≤k+1:=Dn (Nat.lt_trans h (Au5 k))
theorem ng {N:Nat} {c:Bool} {q:Nat} {S9:List Nat} {K:LA→O R} (h1:Ak S9) (h2:val S9=10 ^ q) (hq:q=9):∀ (fuel j v:Nat) (g:Lu) (S:List Nat),g.length<fuel→g.all A9=true→v<10 ^ j→(v=0∨g.length%9=0)→fit (j+g.length+20) N→Ak S→val S=v →
  If N K c false (Al (10 ^ q)).length (Ag S9) fuel g false (Al v).length (Ag S)=K (Cb (if c then -((v*10 ^ g.length+By g:Nat):Int) else ((v*10 ^ g.length+By g:Nat):Int))):=by
 intro fuel
 induction fuel with
 | zero=>intro j v g S h;omega
 | succ fuel ih =>
  intro j v g S hl C F s n hS hSv
  have f1:=n.1;have f2:=n.2
  have G:(Al (10 ^ q)).length≤1:=by rw[hq];exact Ax4
  have hdv:=iH F
  rw[If];unfold HP
  cases t:g with
  | nil =>
   rw[show(!(([]:Lu)==[]))=false by rfl,cf]
   rw[show v*10 ^ ([]:Lu).length+By []=v by simp[By]]
   cases c
   ·rw[cf,Bs hS hSv,if_neg (by simp)]
    congr 1
   ·rw[ct,Bs hS hSv,Amw,Apr (Ij _ _ _) (n.le (by show(Al v).length≤_;omega)),Am2,show val (LS.of (Al v) false true).l=v from Ah v,A0v,Asz,if_pos rfl]
    congr 1
    unfold Cb
    rw[A4b,A0v];rfl
  | cons d r =>
   rw[←t]
   have u:g≠[]:=by rw[t];simp
   have U:=A13.2 u
   rw[show(!(g==[]))=true by simp[u],ct]
   have step:∀ o:Nat,1≤o→o≤9→o≤g.length→(g.length - o)%9=0→(v=0∨o=q)→T5 N (If N K c false (Al (10 ^ q)).length (Ag S9) fuel) K c false (Al (10 ^ q)).length (Ag S9) g (o:Int) false (Al v).length (Ag S)=K (Cb (if c then -((v*10 ^ g.length+By g:Nat):Int) else ((v*10 ^ g.length+By g:Nat):Int))):=by
    intro o o1 o9 ol om oz
    have V:(g.take o).all A9=true:=by
     rw[A05] at C ⊢;exact fun x I=>C x (A3b I)
    have k:(g.take o).length=o:=by rw[A0o];omega
    have z:(g.drop o).length=g.length - o:=A2d ..
    have A:=Z5 V
    rw[k] at A
    have D:10 ^ o≤10 ^ q:=A0y (by omega) (by omega)
    have e9:10 ^ q=1000000000:=by rw[hq]
    obtain⟨S1,a1,a2,a3⟩:=As8 (R:=R) (N:=N) (s1:=.of (Al v) false true) (s2:=.of (Al (10 ^ q)) false true) (o1:=true) (o2:=true) (Ij _ _ _) (Ij _ _ _) (n.le (by have:=G;show(Al v).length+(Al (10 ^ q)).length≤_;omega))
    rw[show val (LS.of (Al v) false true).l=v from Ah v,show val (LS.of (Al (10 ^ q)) false true).l=10 ^ q from Ah _] at a2 a3
    obtain⟨S2,b1,X,Y⟩:=Pt (R:=R) (N:=N) (v:=(By (g.take o):Int)) (by omega) (by omega)
    rw[A0v] at X Y
    have hm:v*10 ^ q<10 ^ (j+q):=by rw[A09];exact Nat.mul_lt_mul_of_pos_right F (A1l (by omega))
    have hdm:=iH hm
    have hdx:(Al (By (g.take o))).length≤1:=Dn (by omega)
    obtain⟨S3,c1,c2,c3⟩:=Apn (R:=R) (N:=N) (n1:=false) (n2:=false) (s1:=.of (Al (v*10 ^ q)) false true) (s2:=.of (Al (By (g.take o))) false true) (o1:=true) (o2:=true) (Ij _ _ _) (Ij _ _ _) (n.le (by show(Al (v*10 ^ q)).length+(Al (By (g.take o))).length+1≤_;omega))
    rw[Am2,Am2,show val (LS.of (Al (v*10 ^ q)) false true).l=v*10 ^ q from Ah _,show val (LS.of (Al (By (g.take o))) false true).l=By (g.take o) from Ah _,HB,A0v] at c2 c3
    unfold T5
    rw[show((decide ((0:Int)≤(0:Int)))&&((decide (0≤(o:Int)))&&((decide ((o:Int)≤(((g.length):Nat):Int)))&&(decide ((((g.length):Nat):Int)≤(((g.length):Nat):Int))))))=true by simp;omega,ct,Az1]
    rw[Aqa V (by intro e;rw[e] at k;simp at k;omega) (by omega)]
    rw[Bs hS hSv,Bs h1 h2,Amw,Amw,a3,Y,Bs a1 a2,Bs b1 X,Amw,show decide (((By (g.take o):Nat):Int)<0)=false by simp,Amw,c3]
    rw[show decide (((v*10 ^ q+By (g.take o):Nat):Int)<0)=false by rw[decide_eq_false_iff_not];omega]
    rw[show((decide (0≤(o:Int)))&&((decide ((o:Int)≤(((g.length):Nat):Int)))&&((decide ((((g.length):Nat):Int)≤(((g.length):Nat):Int)))&&(decide ((((g.length):Nat):Int)≤(((g.length):Nat):Int))))))=true by simp;omega,ct]
    rw[Az0 (l:=g.drop o) (by omega)]
    have L:v*10 ^ q+By (g.take o)<10 ^ (j+q):=by
     rcases oz with oz | oz
     ·subst oz;rw[A26,A0g]
      have:10 ^ q≤10 ^ (j+q):=A0y (by omega) (by omega)
      omega
     ·have:(v+1)*10 ^ q≤10 ^ j*10 ^ q:=Az9 _ F
      rw[A0m,A3t] at this
      rw[A09];omega
    have T:v*10 ^ q+By (g.take o)<10 ^ (j+o):=by
     rcases oz with oz | oz
     ·subst oz;rw[A26,A0g]
      have:10 ^ o≤10 ^ (j+o):=A0y (by omega) (by omega)
      omega
     ·rw[show j+o=j+q by rw[oz]];exact L
    rw[ih (j+o) (v*10 ^ q+By (g.take o)) (g.drop o) S3 (by omega) (by rw[A05] at C ⊢;exact fun x I=>C x (A3u I)) T (.inr (by rw[z];exact om)) (n.le (by omega)) c1 c2]
    have e:(v*10 ^ q+By (g.take o))*10 ^ (g.drop o).length+By (g.drop o)=v*10 ^ g.length+By g:=by
     have h3:=Rn (g.take o) (g.drop o)
     rw[A2e] at h3
     rw[h3,A0m,A1x]
     congr 1
     rcases oz with oz | oz
     ·subst oz;simp
     ·rw[A0c,←A09,z];congr 2;omega
    rw[e]
   have B:Int.tmod (g.length:Int) 9=((g.length%9:Nat):Int):=rfl
   rw[B]
   by_cases D:g.length%9=0
   ·rw[D,show((((0:Nat):Int))==0)=true by rfl,ct]
    exact step 9 (by omega) (by omega) (by omega) (by omega) (.inr hq.symm)
   ·rw[vR D,cf]
    exact step (g.length%9) (by omega) (by omega) (A5k _ _) (by omega) (.inl (by rcases s with s | s;exact s;exact absurd s D))
def Nx (s:Lu):Int:=match s with
 | 45::r=>-((By r:Nat):Int)
 | s=>((By s:Nat):Int)
def Hl (s:Lu):Bool:=match s with
 | 45::r=>r.all A9
 | s=>s.all A9
theorem Ew {N:Nat} {s:Lu} {K:LA→O R} (hs:Hl s=true) (e:fit (s.length+30) N):BL N s K=K (Cb (Nx s)):=by
 have t:=e.1;have z:=e.2
 obtain⟨S0,a1,a2,a3⟩:=Pt (R:=R) (N:=N) (v:=0) (by omega) (by omega)
 obtain⟨S,j,k,q⟩:=ye (R:=R) (N:=N) (n:=9) (e.le (by omega))
 rw[aS];unfold OQ
 by_cases h:s.head?=some 45
 ·obtain⟨r,rfl⟩:∃ r,s=45::r:=by
   cases s with
   | nil=>simp at h
   | cons c r=>simp at h;exact⟨r,by rw[h]⟩
  rw[HS,a3]
  refine A12 (q _) ?_
  have:=ng (R:=R) (N:=N) (c:=true) (K:=K) j k rfl N 0 0 r S0 (by rw[Az5] at t;omega) hs (by decide) (.inl rfl) (e.le (by rw[Az5];omega)) a1 a2
  rw[A26,A0g] at this
  exact this
 ·have e1:Nx s=((By s:Nat):Int):=by
   unfold Nx
   split
   ·simp at h
   ·rfl
  have u:s.all A9=true:=by
   rw[←hs];unfold Hl
   split
   ·simp at h
   ·rfl
  rw[DV h,a3]
  refine A12 (q _) ?_
  have:=ng (R:=R) (N:=N) (c:=false) (K:=K) j k rfl N 0 0 s S0 (by omega) u (by decide) (.inl rfl) (e.le (by omega)) a1 a2
  rw[A26,A0g] at this
  rw[e1]
  exact this
theorem BN {s:Lu} (h:D4 s=true):s.all A9=true:=by
 simp only[D4,fL,A0a] at h;exact h.1.1
theorem Xl {s:Lu} (h:YJ s=true):Hl s=true:=by
 by_cases e:s.head?=some 45
 ·obtain⟨r,rfl⟩:∃ r,s=45::r:=by
   cases s with
   | nil=>simp at e
   | cons c r=>simp at e;exact⟨r,by rw[e]⟩
  have h:(D4 r&&!(r==[48]))=true:=h
  simp only[A0a] at h;exact BN h.1
 ·have e1:YJ s=D4 s:=by
   unfold YJ;split
   ·simp at e
   ·rfl
  have j:Hl s=s.all A9:=by
   unfold Hl;split
   ·simp at e
   ·rfl
  rw[j];rw[e1] at h;exact BN h
theorem KS {s:Lu} (h:s.all A9=true):∀ c ∈ s,c.toNat<128:=by
 intro c e
 have:=A05.1 h c e
 simp[A9] at this;omega
theorem u7 {s:Lu} (h:Hl s=true):∀ c ∈ s,c.toNat<128:=by
 unfold Hl at h
 split at h
 ·intro c e
  rcases Az7.1 e with rfl | e
  ·decide
  ·exact KS h c e
 ·exact KS h
theorem Atc (u:Nat):YJ (dec u)=true:=by
 have e:=JE u
 unfold YJ
 split
 ·rename_i r j
  have:=BN e
  rw[j] at this
  simp only[A1d,A0a] at this
  exact absurd this.1 (by decide)
 ·exact e
theorem Ak5 (u:Nat):Nx (dec u)=(u:Int):=by
 unfold Nx
 split
 ·rename_i r e
  have:=BN (JE u)
  rw[e] at this
  simp only[A1d,A0a] at this
  exact absurd this.1 (by decide)
 ·rw[G0]
theorem Rz (z:Int):YJ (V7 z)=true:=by
 unfold V7 p_
 by_cases h:z<0
 ·rw[if_pos h]
  show(D4 (dec z.natAbs)&&!(dec z.natAbs==[48]))=true
  rw[JE,A1n]
  simp only[A3a,beq_eq_false_iff_ne]
  intro e
  have:=congrArg By e
  rw[G0] at this
  have:z.natAbs=0:=this
  omega
 ·rw[if_neg h];exact Atc _
theorem GK (z:Int):Nx (V7 z)=z:=by
 unfold V7 p_
 by_cases h:z<0
 ·rw[if_pos h]
  show -((By (dec z.natAbs):Nat):Int)=z
  rw[G0];omega
 ·rw[if_neg h,Ak5];omega
theorem XE (z:Int):Hf (V7 z)=(dec z.natAbs).length:=by
 have e:Hf (dec z.natAbs)=(dec z.natAbs).length:=by
  unfold Hf
  rw[A5q]
  exact fun c j=>A05.1 (Jk _) c j
 unfold V7 p_
 split
 ·unfold Hf at *;rw[A5f,e];rfl
 ·exact e
theorem dS (c b:UInt8) (l:Lu):Lib.index (b::l) [c]=if c=b then 0 else if Lib.index l [c]=-1 then -1 else Lib.index l [c]+1:=by
 rw[Lib.index]
 have k:([c].isPrefixOf (b::l)=true)↔c=b:=by simp[List.isPrefixOf]
 by_cases h:c=b
 ·rw[if_pos (k.2 h),if_pos h]
 ·rw[if_neg (fun e=>h (k.1 e)),if_neg h]
  by_cases j:Lib.index l [c]=-1
  ·rw[j];rfl
  ·rw[if_neg (by simpa using j),if_neg j]
theorem iI (c:UInt8):∀ s:Lu,c ∉ s→Lib.index s [c]=-1
 | [],_=>rfl
 | b::l,h=>by
  rw[dS,if_neg (fun e=>h (by simp[e])),iI c l (fun e=>h (by simp[e])),if_pos rfl]
theorem u9 (c:UInt8) (b:Lu):∀ a:Lu,c ∉ a→Lib.index (a++c::b) [c]=(a.length:Int)
 | [],_=>by rw[A1o,dS,if_pos rfl];rfl
 | d::l,h=>by
  have:=u9 c b l (fun e=>h (by simp[e]))
  rw[A0u,dS,if_neg (fun e=>h (by simp[e])),this,if_neg (by omega),Az5];omega
theorem Acy {c:UInt8} {s:Lu} (h:c ∉ s):Lib.cut s [c]=(s,[],false):=by
 unfold Lib.cut;rw[iI c s h,if_neg (by omega)]
theorem Y4 {c:UInt8} {a b:Lu} (h:c ∉ a):Lib.cut (a++c::b) [c]=(a,b,true):=by
 unfold Lib.cut;rw[u9 c b a h,if_pos (by omega),Az1]
 rw[A5x,A0t,←List.drop_drop,List.drop_left];rfl
theorem pa {N:Nat} {s t:Lu} {K:Lu→Lu→Bool→O R} (h:s.length≤4294967280):strings_Cut N s t K=K (Lib.cut s t).1 (Lib.cut s t).2.1 (Lib.cut s t).2.2:=by
 rw[Qe];unfold Tc;rw[ko h,ct]
theorem Acz {c:UInt8} (h:A9 c=false) {s:Lu} (hs:s.all A9=true):c ∉ s:=by
 intro e;rw[A05.1 hs c e] at h;cases h
theorem Ak6 {c:UInt8} (h:A9 c=false) (k:c≠45) {s:Lu} (hs:Hl s=true):c ∉ s:=by
 unfold Hl at hs
 split at hs
 ·intro j
  rcases Az7.1 j with e | j
  ·exact k e
  ·exact Acz h hs j
 ·exact Acz h hs
theorem yh {N:Nat} {s:Lu} {K:Lu→Lu→Bool→O R} (hs:YJ s=true) (e:s.length<N):T3 N s K=K s [49] true:=by
 rw[O1];unfold Ry
 rw[Gf e,hs,ct]
theorem Ak7 {N:Nat} {a b:Lu} {K:Lu→Lu→Bool→O R} (j:YJ a=true) (n:D4 b=true) (q:(a++47::b).length≤4294967280) (s:(a++47::b).length<N):T3 N (a++47::b) K=K a b true:=by
 have hn:YJ (a++47::b)=false:=by
  rw[←Bool.not_eq_true];intro e
  exact Ak6 (c:=47) (by decide) (by decide) (Xl e) (by simp)
 have k:(a++47::b).length=a.length+(b.length+1):=by simp
 rw[O1];unfold Ry
 rw[Gf s,hn,cf,pa q,Y4 (Ak6 (by decide) (by decide) (Xl j))]
 dsimp only
 rw[ct,Gf (by omega),j,show(true==true)=true by rfl,ct,Ii (by omega),n];rfl
theorem Atd {N:Nat} {a:Int} {b:Nat} (t:0<b) (e:fit (4*((Al a.natAbs).length+(Al b).length)+10) N):∃ d:RatD,d.can (mkRat a b)∧∀ K:LA→Bool→O R,Abt N (Cb a) false (Cb (b:Int)) false K=K d.av true:=by
 let x:RatD:=⟨decide (a<0),.of (Al a.natAbs) false false,.of (Al b) false false⟩
 have k:x.ok:=⟨Ad _,Ad _⟩
 have hq:x.q=mkRat a b:=by
  show mkRat (Au (decide (a<0)) (.of (Al a.natAbs) false false)) (val (Al b))=_
  rw[Qj,Ah]
 have u:x.m≤(Al a.natAbs).length+(Al b).length:=Nat.max_le.2 ⟨by show(Al a.natAbs).length≤_;omega,by show(Al b).length≤_;omega⟩
 obtain⟨d,j,n⟩:=dB (R:=R) (N:=N) (x:=x) (o:=(false||(false||false))) k (e.le (by omega))
 rw[hq] at j
 refine⟨d,j,fun K=>?_⟩
 rw[cZ];unfold qA
 rw[Ayi,Ayj,Asy,ct,Ayi,Ayj,Asy,ct]
 have e1:([(.bool (decide ((b:Int)<0))),(.imm (Ag (Al (b:Int).natAbs)) (Al (b:Int).natAbs).length 1 false false)]:LA)=Cb (b:Int):=rfl
 rw[e1,u5 (e.le (by omega))]
 have hs:((b:Int).sign==0)=false:=by
  rw[beq_eq_false_iff_ne];intro h;have:=A4y.1 h;omega
 rw[hs,cf]
 have s:([(.bool (!(decide (a<0)==decide ((b:Int)<0)))),(.imm (Ag (Al a.natAbs)) (Al a.natAbs).length 1 false false),(.imm (Ag (Al (b:Int).natAbs)) (Al (b:Int).natAbs).length 1 false false)]:LA)=x.av:=by
  rw[show decide ((b:Int)<0)=false by rw[decide_eq_false_iff_not];omega,A0v,show(!(decide (a<0)==false))=decide (a<0) by cases decide (a<0)<;>rfl];rfl
 rw[s,n];rfl
theorem dT {N:Nat} {s n d:Lu} (v:∀ K:Lu→Lu→Bool→O R,T3 N s K=K n d true) (hn:Hl n=true) (z:d.all A9=true) (j:0<By d) (B:∀ c ∈ s,c.toNat<128) (k:fit (8*(s.length+n.length+d.length)+60) N) :
  ∃ x:RatD,x.can (mkRat (Nx n) (By d))∧∀ K:LA→Int→O R,Ig N s K=if 4096<Hf s then K [(.bool false),.nsl,.nsl] 8 else K x.av 0:=by
 have D:=k.1;have F:=k.2
 have e:∀ t:Lu,Hl t=true→(Al (Nx t).natAbs).length≤t.length+1:=by
  intro t u
  unfold Hl at u
  unfold Nx
  split at u
  ·have:=iH (Z5 u)
   rw[A4b,A0v,Az5];omega
  ·have:=iH (Z5 u)
   rw[A0v];omega
 have q:d.head?≠some 45:=by
  cases d with
  | nil=>simp
  | cons c r =>
   intro h
   simp at h;subst h
   simp only[A1d,A0a] at z
   exact absurd z.1 (by decide)
 have e1:Nx d=((By d:Nat):Int):=by
  unfold Nx;split
  ·simp at q
  ·rfl
 have A:Hl d=true:=by
  unfold Hl;split
  ·simp at q
  ·exact z
 have G:=e n hn
 have C:=e d A
 rw[e1,A0v] at C
 obtain⟨x,x1,x2⟩:=Atd (R:=R) (N:=N) (a:=Nx n) (b:=By d) j (k.le (by omega))
 refine⟨x,x1,fun K=>?_⟩
 rw[Lr];unfold O2
 rw[v,show(!true)=false by rfl,cf,OW B (by omega) (by omega)]
 by_cases h:4096<Hf s
 ·rw[decide_eq_true h,ct,if_pos h]
 ·rw[decide_eq_false h,cf,Ew hn (k.le (by omega)),Ew A (k.le (by omega)),e1,x2,if_neg h];rfl
end
end Gx
namespace Gx.Cf
open Go Go.Proofs
section
variable {R:Type}
def Zp (c:UInt8):Lu→List Lu
 | []=>[[]]
 | b::r=>if b=c then []::Zp c r else match Zp c r with | []=>[[b]] | w::ws=>(b::w)::ws
theorem VJ (c:UInt8):∀ s,Zp c s≠[]
 | []=>by simp[Zp]
 | b::r=>by
  rw[Zp]
  split
  ·simp
  ·split<;>simp
theorem Ak8 {c:UInt8}:∀ {s:Lu},c ∉ s→Zp c s=[s]
 | [],_=>rfl
 | b::r,h=>by
  rw[Zp,if_neg (fun e=>h (by simp[e])),Ak8 (fun hr=>h (A0r _ hr))]
theorem Ak9 {c:UInt8} {b:Lu}:∀ {a:Lu},c ∉ a→Zp c (a++c::b)=a::Zp c b
 | [],_=>by rw[A1o,Zp,if_pos rfl]
 | x::r,h=>by
  rw[A0u,Zp,if_neg (fun e=>h (by simp[e])),Ak9 (fun hr=>h (A0r _ hr))]
theorem KT {c:UInt8}:∀ {s:Lu},c ∈ s→∃ a b,s=a++c::b∧c ∉ a
 | x::r,h=>by
  by_cases e:c=x
  ·exact⟨[],r,by rw[e];rfl,by simp⟩
  ·obtain⟨a,b,j,k⟩:=KT (s:=r) (by rcases Az7.1 h with h | h;exact absurd h e;exact h)
   exact⟨x::a,b,by rw[j];rfl,by simp[e,k]⟩
theorem Aqb (c:UInt8):∀ (n:Nat) (s:Lu),s.length≤n→Lib.splitK [c] 0 (Lib.count s [c]) s=Zp c s:=by
 intro n
 induction n with
 | zero =>
  intro s hs
  have:s=[]:=A1w (by omega)
  subst this
  rw[Lib.count_miss (iI c [] (by simp))];rfl
 | succ n q =>
  intro s hs
  by_cases h:c ∈ s
  ·obtain⟨a,b,rfl,e⟩:=KT h
   have hi:=u9 c b a e
   have j:drop (a.length+[c].length) (a++c::b)=b:=by
    rw[←List.drop_drop,List.drop_left];rfl
   rw[Az2,Az5] at hs
   have k:=Lib.count_hit (s:=a++c::b) (sub:=[c]) (i:=a.length) (by simp) hi
   rw[j] at k
   rw[k,A2v 1,Lib.splitK,hi,if_neg (by simp),Az1,j,q b (by omega),A1i,A5x,Ak9 e]
  ·rw[Lib.count_miss (iI c s h),Ak8 h];rfl
theorem Aqc (c:UInt8) (s:Lu):HD s [c]=Zp c s:=by
 unfold HD
 have:=Lib.splitB_data ⟨⟨[c]⟩⟩ 0 (Lib.countB ⟨⟨s⟩⟩ ⟨⟨[c]⟩⟩) ⟨⟨s⟩⟩
 rw[this]
 exact Aqb c s.length s (Az3 _)
theorem Ac0 {c:UInt8}:∀ s:Lu,(Zp c s).length≤s.length+1
 | []=>by simp[Zp]
 | b::r=>by
  have:=Ac0 (c:=c) r
  rw[Zp]
  split
  ·simp;omega
  ·split
   ·simp
   ·rename_i e;rw[e] at this;simp at this ⊢;omega
theorem qG {l:List Lu} {j:Nat} (h:j<l.length) {f:Lu→O R}:bU (drop j (Bq l)) f=f l[j]:=by
 have:drop j (Bq l)=.str l[j]::Bq (l.drop (j+1)):=by
  unfold Bq
  rw[←A5d,A0d h];rfl
 rw[this];rfl
end
end Gx.Cf
namespace Gx.Bl
open Go Go.Proofs
section
variable {R:Type}
def Fq (c:UInt8):List Lu→Lu
 | []=>[]
 | [w]=>w
 | w::v::r=>w++c::Fq c (v::r)
theorem dU (c:UInt8) (w:Lu) {r:List Lu} (h:r≠[]):Fq c (w::r)=w++c::Fq c r:=by
 cases r with
 | nil=>exact absurd rfl h
 | cons v r=>rw[Fq]
theorem Ala (c b:UInt8) (w:Lu) (r:List Lu):Fq c ((b::w)::r)=b::Fq c (w::r):=by
 cases r with
 | nil=>rfl
 | cons v r=>rw[Fq,Fq];rfl
theorem iJ (c:UInt8):∀ s:Lu,Fq c (Cf.Zp c s)=s
 | []=>rfl
 | b::r=>by
  have j:=iJ c r
  rw[Cf.Zp]
  by_cases e:b=c
  ·rw[if_pos e,dU c [] (Cf.VJ c r),j,e];rfl
  ·rw[if_neg e]
   cases h:Cf.Zp c r with
   | nil=>exact absurd h (Cf.VJ c r)
   | cons w ws=>rw[h] at j;dsimp only;rw[Ala,j]
theorem yi {c:UInt8}:∀ {l:List Lu},l≠[]→(∀ w ∈ l,c ∉ w)→Cf.Zp c (Fq c l)=l
 | [w],_,h=>Cf.Ak8 (h w (by simp))
 | w::v::r,_,h=>by
  rw[Fq,Cf.Ak9 (h w (by simp)),yi (by simp) (fun x e=>h x (A0r _ e))]
theorem Am4 {c:UInt8} {s:Lu} {l:List Lu} (j:l≠[]) (h:∀ w ∈ l,c ∉ w):Cf.Zp c s=l↔s=Fq c l :=
 ⟨fun e=>by rw[←e,iJ],fun e=>by rw[e,yi j h]⟩
theorem iK {c x:UInt8}:∀ {s:Lu} {w:Lu},w ∈ Cf.Zp c s→x ∈ w→x ∈ s
 | [],w,h,j=>by
  rw[Cf.Zp,A01] at h;subst h;cases j
 | b::r,w,h,j=>by
  rw[Cf.Zp] at h
  by_cases e:b=c
  ·rw[if_pos e,Az7] at h
   rcases h with rfl | h
   ·cases j
   ·exact A0r _ (iK h j)
  ·rw[if_neg e] at h
   cases hs:Cf.Zp c r with
   | nil=>exact absurd hs (Cf.VJ c r)
   | cons v vs =>
    rw[hs] at h
    dsimp only at h
    rcases Az7.1 h with rfl | h
    ·rcases Az7.1 j with rfl | j
     ·simp
     ·exact A0r _ (iK (w:=v) (by rw[hs];simp) j)
    ·exact A0r _ (iK (w:=w) (by rw[hs];exact A0r _ h) j)
theorem kp {c b:UInt8}:∀ {l:List Lu},b ∈ Fq c l→b=c∨∃ w ∈ l,b ∈ w
 | [w],h=>.inr ⟨w,by simp,h⟩
 | w::v::r,h=>by
  rw[Fq,A0f,Az7] at h
  rcases h with h | rfl | h
  ·exact .inr ⟨w,by simp,h⟩
  ·exact .inl rfl
  ·rcases kp h with h | ⟨x,e,j⟩
   ·exact .inl h
   ·exact .inr ⟨x,A0r _ e,j⟩
theorem Ag9 (ls:List Lu):Fq 10 (ls++[[]])=ls.flatMap (·++[10]):=by
 induction ls with
 | nil=>rfl
 | cons l r e =>
  rw[A0u,dU 10 l (by simp),e,A0z,A10];rfl
def C8 (v:Int):Bool:=decide (0≤v)&&decide (v≤1048576)
theorem Ls {v:Int}:C8 v=true↔0≤v∧v≤1048576:=by unfold C8;simp
def Ci (v:Int):Lu:=dec v.toNat
def Ac1 (w:Lu):Option Int:=if D4 w=true∧By w≤1048576 then some (By w) else none
theorem iM {w:Lu} {v:Int}:Ac1 w=some v↔w=Ci v∧C8 v=true:=by
 unfold Ac1 Ci
 rw[Ls]
 constructor
 ·intro h
  split at h
  ·rename_i e
   cases h
   rw[Az1,Ae7 e.1]
   exact⟨rfl,by omega,by omega⟩
  ·cases h
 ·rintro⟨rfl,j,k⟩
  rw[JE,G0,if_pos ⟨rfl,by omega⟩]
  congr 1;omega
def Ik:List Lu→Option (List Int)
 | []=>some []
 | w::r=>match Ac1 w,Ik r with | some n,some l=>some (n::l) | _,_=>none
theorem Fv:∀ {ws:List Lu} {l:List Int},Ik ws=some l↔ws=l.map Ci∧∀ v ∈ l,C8 v=true
 | [],l=>by
  rw[Ik]
  constructor
  ·intro h;cases h;simp
  ·rintro⟨h,_⟩
   cases l with
   | nil=>rfl
   | cons _ _=>simp at h
 | w::r,l=>by
  rw[Ik]
  constructor
  ·intro h
   split at h
   ·rename_i n m k q
    cases h
    obtain⟨e1,b1⟩:=iM.1 k
    obtain⟨s,t⟩:=Fv.1 q
    refine⟨by rw[A0n,←e1,←s],fun v e=>?_⟩
    rcases Az7.1 e with rfl | e
    ·exact b1
    ·exact t v e
   ·cases h
  ·rintro⟨h,j⟩
   cases l with
   | nil=>simp at h
   | cons n m =>
    rw[A0n,A2l] at h
    rw[iM.2 ⟨h.1,j n (by simp)⟩,Fv.2 ⟨h.2,fun v e=>j v (A0r _ e)⟩]
theorem Aha {a b:Int} (h:V7 a=V7 b):a=b:=by rw[←GK a,←GK b,h]
theorem Au6 (z:Int):(47:UInt8) ∉ V7 z:=Ak6 (by decide) (by decide) (Xl (Rz z))
theorem Ac2 {a b x y:Lu} (j:(47:UInt8) ∉ a) (k:(47:UInt8) ∉ b) (h:a++47::x=b++47::y):a=b∧x=y:=by
 have e:Lib.cut (a++47::x) [47]=Lib.cut (b++47::y) [47]:=by rw[h]
 rw[Y4 j,Y4 k] at e
 simp only[A33,and_true] at e
 exact e
theorem Ahb {p q:Rat} (h:D5 p=D5 q):p=q:=by
 have nd:∀ q:Rat,q.den=1→D5 q=V7 q.num:=fun q h=>by unfold D5;rw[if_pos h]
 have dd:∀ q:Rat,q.den≠1→D5 q=V7 q.num++47::dec q.den:=fun q h=>by unfold D5;rw[if_neg h,A10];rfl
 by_cases e:p.den=1<;>by_cases j:q.den=1
 ·rw[nd p e,nd q j] at h
  exact Rat.ext (Aha h) (by rw[e,j])
 ·rw[nd p e,dd q j] at h
  exact absurd (by rw[h];simp) (Au6 p.num)
 ·rw[dd p e,nd q j] at h
  exact absurd (by rw[←h];simp) (Au6 q.num)
 ·rw[dd p e,dd q j] at h
  obtain⟨e1,k⟩:=Ac2 (Au6 _) (Au6 _) h
  refine Rat.ext (Aha e1) ?_
  rw[←G0 p.den,k,G0]
def u_ (p:Int×Rat):Prop:=C8 p.1=true∧p.2≠0∧Hf (D5 p.2)≤4096
def Pe (p:Int×Rat):Lu:=Ci p.1++58::D5 p.2
theorem Ay3 (v:Int):(58:UInt8) ∉ Ci v:=Acz (by decide) (Jk _)
theorem Am5 (p:Int×Rat):Lib.cut (Pe p) [58]=(Ci p.1,D5 p.2,true):=Y4 (Ay3 _)
theorem Ate {p q:Int×Rat} (j:u_ p) (hq:u_ q) (h:Pe p=Pe q):p=q:=by
 have e:Lib.cut (Pe p) [58]=Lib.cut (Pe q) [58]:=by rw[h]
 simp only[Am5,A33,and_true] at e
 have k:=Ls.1 j.1
 have n:=Ls.1 hq.1
 have:p.1.toNat=q.1.toNat:=by
  have:=congrArg By e.1
  unfold Ci at this
  rwa [G0,G0] at this
 refine Prod.ext (by omega) (Ahb e.2)
open Classical in
noncomputable def Aqd (w:Lu):Option (Int×Rat):=if h:∃ p,u_ p∧w=Pe p then some h.choose else none
theorem ua {w:Lu} {p:Int×Rat}:Aqd w=some p↔w=Pe p∧u_ p:=by
 unfold Aqd
 constructor
 ·intro h
  split at h
  ·rename_i j
   cases h
   exact⟨j.choose_spec.2,j.choose_spec.1⟩
  ·cases h
 ·rintro⟨e,h⟩
  have j:∃ p,u_ p∧w=Pe p:=⟨p,h,e⟩
  rw[dif_pos j]
  congr 1
  exact Ate j.choose_spec.1 h (by rw[←j.choose_spec.2,e])
noncomputable def Ut:List Lu→Option (List (Int×Rat))
 | []=>some []
 | w::r=>match Aqd w,Ut r with | some n,some l=>some (n::l) | _,_=>none
theorem BO:∀ {ws:List Lu} {l:List (Int×Rat)},Ut ws=some l↔ws=l.map Pe∧∀ p ∈ l,u_ p
 | [],l=>by
  rw[Ut]
  constructor
  ·intro h;cases h;simp
  ·rintro⟨h,_⟩
   cases l with
   | nil=>rfl
   | cons _ _=>simp at h
 | w::r,l=>by
  rw[Ut]
  constructor
  ·intro h
   split at h
   ·rename_i n m k q
    cases h
    obtain⟨e1,b1⟩:=ua.1 k
    obtain⟨s,t⟩:=BO.1 q
    refine⟨by rw[A0n,←e1,←s],fun v e=>?_⟩
    rcases Az7.1 e with rfl | e
    ·exact b1
    ·exact t v e
   ·cases h
  ·rintro⟨h,j⟩
   cases l with
   | nil=>simp at h
   | cons n m =>
    rw[A0n,A2l] at h
    rw[ua.2 ⟨h.1,j n (by simp)⟩,BO.2 ⟨h.2,fun v e=>j v (A0r _ e)⟩]
structure CutV where
 kind:Int
 hour:Int
 units:List Int
 least:Int
 unit:Int
 len:Int
structure NodeV where
 kind:Int
 unit:Int
 hour:Int
 other:Int
 y:List (Int×Rat)
structure LogV where
 uses:List (Int×Int)
 cuts:List CutV
 nodes:List NodeV
def Ahc:Lu:=[117,115,101]
def ue:Lu:=[108,111,103]
def DW:Lu:=[99,111,118,101,114]
def KU:Lu:=[114,97,109,112]
def Xm:Lu:=[98,114,97,110,99,104]
def VK:Lu:=[98,111,117,110,100]
def OX:Lu:=[102,97,114,107,97,115]
def VL:Lu:=[112,97,116,104]
def Y5:Lu:=[111,114,100,101,114]
def Atf (u:Int×Int):Prop:=C8 u.1=true∧C8 u.2=true
def Ac3 (u:Int×Int):List Lu:=[Ahc,Ci u.1,Ci u.2]
def xI:List Lu→Option (Int×Int)
 | [w,a,b]=>if w=Ahc then (match Ik [a,b] with | some [x,y]=>some (x,y) | _=>none) else none
 | _=>none
theorem Ahd {ws:List Lu} {u:Int×Int}:xI ws=some u↔ws=Ac3 u∧Atf u:=by
 constructor
 ·intro h
  unfold xI at h
  split at h
  ·rename_i w a b
   split at h
   ·rename_i n
    split at h
    ·rename_i x y e
     cases h
     obtain⟨e1,j⟩:=Fv.1 e
     simp only[A0n,A3n,A2l,and_true] at e1
     refine⟨by unfold Ac3;rw[n,e1.1,e1.2],j x (by simp),j y (by simp)⟩
    ·cases h
   ·cases h
  ·cases h
 ·rintro⟨rfl,q,s⟩
  have:Ik [Ci u.1,Ci u.2]=some [u.1,u.2]:=Fv.2 ⟨rfl,fun v k=>by
   simp only[Az7,A08,or_false] at k
   rcases k with rfl | rfl
   ·exact q
   ·exact s⟩
  unfold Ac3 xI
  dsimp only
  rw[if_pos rfl,this]
def Ax6 (a b c:Int):Prop:=(0≤a∧a≤16384)∧(0≤b∧b≤256)∧(0≤c∧c≤4096)
def iN (a b c:Int):List Lu:=[ue,Ci a,Ci b,Ci c]
def aW:List Lu→Option (Int×Int×Int)
 | [w,a,b,c]=>if w=ue then (match Ik [a,b,c] with | some [x,y,z]=>if x≤16384∧y≤256∧z≤4096 then some (x,y,z) else none | _=>none) else none
 | _=>none
theorem kq {ws:List Lu} {a b c:Int}:aW ws=some (a,b,c)↔ws=iN a b c∧Ax6 a b c:=by
 constructor
 ·intro h
  unfold aW at h
  split at h
  ·rename_i w A B c'
   split at h
   ·rename_i u
    split at h
    ·rename_i x y z e
     split at h
     ·rename_i j
      cases h
      obtain⟨e1,k⟩:=Fv.1 e
      simp only[A0n,A3n,A2l,and_true] at e1
      have n:=Ls.1 (k a (by simp))
      have q:=Ls.1 (k b (by simp))
      have s:=Ls.1 (k c (by simp))
      exact⟨by unfold iN;rw[u,e1.1,e1.2.1,e1.2.2],⟨n.1,j.1⟩,⟨q.1,j.2.1⟩,s.1,j.2.2⟩
     ·cases h
    ·cases h
   ·cases h
  ·cases h
 ·rintro⟨rfl,n,q,s⟩
  have:Ik [Ci a,Ci b,Ci c]=some [a,b,c]:=Fv.2 ⟨rfl,fun v t=>by
   simp only[Az7,A08,or_false] at t
   rw[Ls]
   rcases t with rfl | rfl | rfl<;>omega⟩
  unfold iN aW
  dsimp only
  rw[if_pos rfl,this]
  dsimp only
  rw[if_pos ⟨n.2,q.2,s.2⟩]
def ku (c:CutV):Prop:=C8 c.hour=true∧((c.kind=0∧C8 c.least=true∧(∀ u ∈ c.units,C8 u=true)∧c.unit=0∧c.len=0)∨(c.kind=1∧c.units=[]∧c.least=0∧C8 c.unit=true∧C8 c.len=true))
def pb (c:CutV):List Lu:=if c.kind=1 then [KU,Ci c.hour,Ci c.unit,Ci c.len] else DW::Ci c.hour::Ci c.least::c.units.map Ci
def Ac4:List Lu→Option CutV
 | []=>none
 | w::r=>match Ik r with
  | none=>none
  | some l=>if w=DW∧2≤l.length then some ⟨0,l.getD 0 0,l.drop 2,l.getD 1 0,0,0⟩ else if w=KU∧l.length=3 then some ⟨1,l.getD 0 0,[],0,l.getD 1 0,l.getD 2 0⟩ else none
theorem uf {ws:List Lu} {c:CutV}:Ac4 ws=some c↔ws=pb c∧ku c:=by
 constructor
 ·intro h
  unfold Ac4 at h
  split at h
  ·cases h
  ·rename_i w r
   split at h
   ·cases h
   ·rename_i l e
    obtain⟨e1,A⟩:=Fv.1 e
    split at h
    ·rename_i D
     cases h
     obtain⟨rfl,n⟩:=D
     match l,n with
     | x::y::t,_ =>
      refine⟨by rw[e1];rfl,A x (by simp),.inl ⟨rfl,A y (by simp),fun u q=>A u (by simp at q;simp[q]),rfl,rfl⟩⟩
    ·split at h
     ·rename_i D
      cases h
      obtain⟨rfl,n⟩:=D
      match l,n with
      | [x,y,z],_ =>
       exact⟨by rw[e1];rfl,A x (by simp),.inr ⟨rfl,rfl,rfl,A y (by simp),A z (by simp)⟩⟩
     ·cases h
 ·rintro⟨rfl,hh,h | h⟩
  ·obtain⟨k,n,q,B,C⟩:=h
   obtain⟨kind,j,units,least,unit,len⟩:=c
   simp only at k n q B C hh
   subst k B C
   have:Ik (Ci j::Ci least::units.map Ci)=some (j::least::units):=Fv.2 ⟨rfl,fun v s=>by
    rcases Az7.1 s with rfl | s
    ·exact hh
    rcases Az7.1 s with rfl | s
    ·exact n
    ·exact q v s⟩
   unfold pb
   rw[if_neg (show ¬(0:Int)=1 by decide)]
   unfold Ac4
   dsimp only
   rw[this]
   dsimp only
   rw[if_pos ⟨rfl,by simp⟩];rfl
  ·obtain⟨k,q,n,B,C⟩:=h
   obtain⟨kind,j,units,least,unit,len⟩:=c
   simp only at k n q B C hh
   subst k q n
   have:Ik [Ci j,Ci unit,Ci len]=some [j,unit,len]:=Fv.2 ⟨rfl,fun v s=>by
    simp only[Az7,A08,or_false] at s
    rcases s with rfl | rfl | rfl
    ·exact hh
    ·exact B
    ·exact C⟩
   unfold pb
   rw[if_pos rfl]
   unfold Ac4
   dsimp only
   rw[this]
   dsimp only
   rw[if_neg (by rintro⟨h,_⟩;exact absurd h (by decide)),if_pos ⟨rfl,rfl⟩];rfl
def Ahe (n:NodeV):Prop :=
 (n.kind=0∧C8 n.unit=true∧C8 n.hour=true∧n.other=0∧n.y=[]) ∨
 ((n.kind=1∨n.kind=2)∧n.unit=0∧n.hour=0∧n.other=0∧∀ p ∈ n.y,u_ p) ∨
 (n.kind=3∧C8 n.unit=true∧n.hour=0∧n.other=0∧n.y=[]) ∨
 (n.kind=4∧C8 n.unit=true∧C8 n.hour=true∧C8 n.other=true∧n.y=[])
def iO (n:NodeV):List Lu :=
 if n.kind=0 then [Xm,Ci n.unit,Ci n.hour] else if n.kind=1 then VK::n.y.map Pe else if n.kind=2 then OX::n.y.map Pe
 else if n.kind=3 then [VL,Ci n.unit] else [Y5,Ci n.unit,Ci n.other,Ci n.hour]
noncomputable def Yi:List Lu→Option NodeV
 | []=>none
 | w::r =>
  if w=VK then (Ut r).map (⟨1,0,0,0,·⟩) else if w=OX then (Ut r).map (⟨2,0,0,0,·⟩) else
  match Ik r with
  | none=>none
  | some l=>if w=Xm∧l.length=2 then some ⟨0,l.getD 0 0,l.getD 1 0,0,[]⟩ else if w=VL∧l.length=1 then some ⟨3,l.getD 0 0,0,0,[]⟩ else if w=Y5∧l.length=3 then some ⟨4,l.getD 0 0,l.getD 2 0,l.getD 1 0,[]⟩ else none
theorem yj {ws:List Lu} {n:NodeV}:Yi ws=some n↔ws=iO n∧Ahe n:=by
 constructor
 ·intro h
  unfold Yi at h
  split at h
  ·cases h
  ·rename_i w r
   split at h
   ·rename_i q
    rw[A2a] at h
    obtain⟨y,A,rfl⟩:=h
    obtain⟨e1,k⟩:=BO.1 A
    exact⟨by rw[q,e1];rfl,.inr (.inl ⟨.inl rfl,rfl,rfl,rfl,k⟩)⟩
   ·split at h
    ·rename_i q
     rw[A2a] at h
     obtain⟨y,A,rfl⟩:=h
     obtain⟨e1,k⟩:=BO.1 A
     exact⟨by rw[q,e1];rfl,.inr (.inl ⟨.inr rfl,rfl,rfl,rfl,k⟩)⟩
    ·split at h
     ·cases h
     ·rename_i l e
      obtain⟨e1,k⟩:=Fv.1 e
      split at h
      ·rename_i q
       cases h
       obtain⟨rfl,t⟩:=q
       match l,t with
       | [x,y],_=>exact⟨by rw[e1];rfl,.inl ⟨rfl,k x (by simp),k y (by simp),rfl,rfl⟩⟩
      ·split at h
       ·rename_i q
        cases h
        obtain⟨rfl,t⟩:=q
        match l,t with
        | [x],_=>exact⟨by rw[e1];rfl,.inr (.inr (.inl ⟨rfl,k x (by simp),rfl,rfl,rfl⟩))⟩
       ·split at h
        ·rename_i q
         cases h
         obtain⟨rfl,t⟩:=q
         match l,t with
         | [x,y,z],_=>exact⟨by rw[e1];rfl,.inr (.inr (.inr ⟨rfl,k x (by simp),k z (by simp),k y (by simp),rfl⟩))⟩
        ·cases h
 ·rintro⟨rfl,h⟩
  obtain⟨kind,unit,j,other,y⟩:=n
  unfold Ahe at h
  simp only at h
  rcases h with⟨rfl,u,B,rfl,rfl⟩ | ⟨C,rfl,rfl,rfl,h⟩ | ⟨rfl,u,rfl,rfl,rfl⟩ | ⟨rfl,u,B,D,rfl⟩
  ·have:Ik [Ci unit,Ci j]=some [unit,j]:=Fv.2 ⟨rfl,fun v s=>by
    simp only[Az7,A08,or_false] at s
    rcases s with rfl | rfl
    ·exact u
    ·exact B⟩
   show Yi [Xm,Ci unit,Ci j]=_
   unfold Yi
   dsimp only
   rw[if_neg (by decide),if_neg (by decide),this]
   rfl
  ·have:Ut (y.map Pe)=some y:=BO.2 ⟨rfl,h⟩
   rcases C with rfl | rfl
   ·show Yi (VK::y.map Pe)=_
    unfold Yi
    dsimp only
    rw[if_pos rfl,this];rfl
   ·show Yi (OX::y.map Pe)=_
    unfold Yi
    dsimp only
    rw[if_neg (by decide),if_pos rfl,this];rfl
  ·have:Ik [Ci unit]=some [unit]:=Fv.2 ⟨rfl,fun v s=>by
    simp only[Az7,A08,or_false] at s
    subst s;exact u⟩
   show Yi [VL,Ci unit]=_
   unfold Yi
   dsimp only
   rw[if_neg (by decide),if_neg (by decide),this]
   rfl
  ·have:Ik [Ci unit,Ci other,Ci j]=some [unit,other,j]:=Fv.2 ⟨rfl,fun v s=>by
    simp only[Az7,A08,or_false] at s
    rcases s with rfl | rfl | rfl
    ·exact u
    ·exact D
    ·exact B⟩
   show Yi [Y5,Ci unit,Ci other,Ci j]=_
   unfold Yi
   dsimp only
   rw[if_neg (by decide),if_neg (by decide),this]
   rfl
def Ay4 (b:UInt8):Bool:=!(b==32)&&!(b==10)
def Cr (w:Lu):Prop:=w.all Ay4=true
theorem yk {w:Lu} (h:Cr w):(32:UInt8) ∉ w∧(10:UInt8) ∉ w:=by
 unfold Cr at h
 rw[A05] at h
 exact⟨fun e=>absurd (h _ e) (by decide),fun e=>absurd (h _ e) (by decide)⟩
theorem Au7 {b:UInt8} (h:A9 b=true):Ay4 b=true:=by
 unfold Ay4
 rw[A0a,A3a,A3a,beq_eq_false_iff_ne,beq_eq_false_iff_ne]
 exact⟨fun e=>by rw[e] at h;exact absurd h (by decide),fun e=>by rw[e] at h;exact absurd h (by decide)⟩
theorem XF (u:Nat):Cr (dec u):=by
 have:=Jk u
 unfold Cr
 rw[A05] at this ⊢
 exact fun b e=>Au7 (this b e)
theorem Gm (v:Int):Cr (Ci v):=XF _
theorem KV {a b:Lu} (e:Cr a) (j:Cr b):Cr (a++b):=by unfold Cr at *;rw[A29,e,j];rfl
theorem uh (z:Int):Cr (V7 z):=by
 unfold V7 p_
 split
 ·exact KV (a:=[45]) (by unfold Cr;decide) (XF _)
 ·exact XF _
theorem Alb (q:Rat):Cr (D5 q):=by
 unfold D5
 split
 ·exact uh _
 ·exact KV (KV (uh _) (by unfold Cr;decide)) (XF _)
theorem Aqe (p:Int×Rat):Cr (Pe p):=KV (Gm _) (KV (a:=[58]) (by unfold Cr;decide) (Alb _))
theorem dV (u:Int×Int):∀ w ∈ Ac3 u,Cr w:=by
 intro w h
 unfold Ac3 at h
 simp only[Az7,A08,or_false] at h
 rcases h with rfl | rfl | rfl
 ·unfold Cr;decide
 ·exact Gm _
 ·exact Gm _
theorem VM (a b c:Int):∀ w ∈ iN a b c,Cr w:=by
 intro w h
 unfold iN at h
 simp only[Az7,A08,or_false] at h
 rcases h with rfl | rfl | rfl | rfl
 ·unfold Cr;decide
 ·exact Gm _
 ·exact Gm _
 ·exact Gm _
theorem kv {α:Type} {f:α→Lu} (e:∀ a,Cr (f a)) {l:List α} {w:Lu} (h:w ∈ l.map f):Cr w:=by
 obtain⟨a,_,rfl⟩:=A04.1 h
 exact e a
theorem dW (c:CutV):∀ w ∈ pb c,Cr w:=by
 intro w h
 unfold pb at h
 split at h
 ·simp only[Az7,A08,or_false] at h
  rcases h with rfl | rfl | rfl | rfl
  ·unfold Cr;decide
  ·exact Gm _
  ·exact Gm _
  ·exact Gm _
 ·simp only[Az7] at h
  rcases h with rfl | rfl | rfl | h
  ·unfold Cr;decide
  ·exact Gm _
  ·exact Gm _
  ·exact kv Gm h
theorem VN (n:NodeV):∀ w ∈ iO n,Cr w:=by
 intro w h
 have e:∀ s:Lu,Cr s→w ∈ s::n.y.map Pe→Cr w:=fun s hs h=>by
  rcases Az7.1 h with rfl | h
  ·exact hs
  ·exact kv Aqe h
 have f:∀ (s:Lu) (l:List Int),Cr s→w ∈ s::l.map Ci→Cr w:=fun s l hs h=>by
  rcases Az7.1 h with rfl | h
  ·exact hs
  ·exact kv Gm h
 unfold iO at h
 split at h
 ·exact f _ [n.unit,n.hour] (by unfold Cr;decide) h
 split at h
 ·exact e _ (by unfold Cr;decide) h
 split at h
 ·exact e _ (by unfold Cr;decide) h
 split at h
 ·exact f _ [n.unit] (by unfold Cr;decide) h
 ·exact f _ [n.unit,n.other,n.hour] (by unfold Cr;decide) h
def Uu (ws:List Lu):Lu:=Fq 32 ws
theorem Yj {ws:List Lu} (e:ws≠[]) (h:∀ w ∈ ws,Cr w) {l:Lu}:Cf.Zp 32 l=ws↔l=Uu ws:=Am4 e fun w j=>(yk (h w j)).1
theorem qH {ws:List Lu} (h:∀ w ∈ ws,Cr w):(10:UInt8) ∉ Uu ws:=by
 intro j
 rcases kp j with e | ⟨w,k,n⟩
 ·cases e
 ·exact(yk (h w k)).2 n
theorem Am6 (u:Int×Int):Ac3 u≠[]:=by unfold Ac3;simp
theorem Ahf (a b c:Int):iN a b c≠[]:=by unfold iN;simp
theorem Am7 (c:CutV):pb c≠[]:=by unfold pb;split<;>simp
theorem Ahg (n:NodeV):iO n≠[]:=by unfold iO;(repeat' split)<;>simp
def V8 (u:List (Int×Int)) (c:List CutV) (n:List NodeV):List Lu:=u.map (fun x=>Uu (Ac3 x))++(c.map (fun x=>Uu (pb x))++n.map fun x=>Uu (iO x))
def Ayk (u:List (Int×Int)) (c:List CutV) (n:List NodeV):Prop:=(∀ x ∈ u,Atf x)∧(∀ x ∈ c,ku x)∧∀ x ∈ n,Ahe x
def Alc (L:LogV):Prop:=Ayk L.uses L.cuts L.nodes∧L.uses.length≤16384∧L.cuts.length≤256∧L.nodes.length≤4096
def ym (L:LogV):Lu:=Uu (iN L.uses.length L.cuts.length L.nodes.length)
def Ac5 (L:LogV):List Lu:=ym L::V8 L.uses L.cuts L.nodes
def T8 (L:LogV):Lu:=(Ac5 L).flatMap (·++[10])
structure St where
 begun:Bool
 a:Int
 b:Int
 c:Int
 L:LogV
noncomputable def ui (s:St) (ws:List Lu):Option St :=
 if s.begun=false then (aW ws).map fun p=>⟨true,p.1,p.2.1,p.2.2,s.L⟩
 else if 0<s.a then (xI ws).map fun u=>⟨true,s.a - 1,s.b,s.c,⟨s.L.uses++[u],s.L.cuts,s.L.nodes⟩⟩
 else if 0<s.b then (Ac4 ws).map fun u=>⟨true,s.a,s.b - 1,s.c,⟨s.L.uses,s.L.cuts++[u],s.L.nodes⟩⟩
 else if 0<s.c then (Yi ws).map fun u=>⟨true,s.a,s.b,s.c - 1,⟨s.L.uses,s.L.cuts,s.L.nodes++[u]⟩⟩
 else none
def uj (s:St):Bool:=s.begun&&(decide (s.a=0)&&(decide (s.b=0)&&decide (s.c=0)))
noncomputable def YK:St→List Lu→Option LogV
 | _,[]=>none
 | s,l::r=>if r=[] then (if l=[]∧uj s=true then some s.L else none) else match ui s (Cf.Zp 32 l) with | none=>none | some s'=>YK s' r
def init:St:=⟨false,0,0,0,⟨[],[],[]⟩⟩
noncomputable def OY (s:Lu):Option LogV:=if s.length≤1048576 then YK init (Cf.Zp 10 s) else none
theorem Ald:V8 [] [] []=[]:=rfl
theorem Yk:∀ (ls:List Lu) (s:St) (L:LogV),s.begun=true→0≤s.a→0≤s.b→0≤s.c →
  (YK s ls=some L↔∃ u c n,(u.length:Int)=s.a∧(c.length:Int)=s.b∧(n.length:Int)=s.c∧Ayk u c n∧ls=V8 u c n++[[]]∧L=⟨s.L.uses++u,s.L.cuts++c,s.L.nodes++n⟩)
 | [],s,L,_,_,_,_=>by
  rw[YK]
  exact⟨fun h=>(by cases h),fun ⟨u,c,n,_,_,_,_,h,_⟩=>(by simp at h)⟩
 | l::r,⟨bg,a,b,c,⟨U,C,M⟩⟩,L,z,A,B,D=>by
  simp only at z A B D
  subst z
  have nil:∀ {x:List (Int×Int)},(x.length:Int)=0→x=[]:=fun {x} h=>A1w (by omega)
  have nil2:∀ {x:List CutV},(x.length:Int)=0→x=[]:=fun {x} h=>A1w (by omega)
  have nil3:∀ {x:List NodeV},(x.length:Int)=0→x=[]:=fun {x} h=>A1w (by omega)
  by_cases hr:r=[]
  ·subst hr
   rw[YK,if_pos rfl]
   constructor
   ·intro h
    split at h
    ·rename_i t
     obtain⟨rfl,t⟩:=t
     cases h
     unfold uj at t
     simp only[A1n,A0a,decide_eq_true_eq] at t
     exact⟨[],[],[],by simp[t.1],by simp[t.2.1],by simp[t.2.2],⟨by simp,by simp,by simp⟩,rfl,by simp⟩
    ·cases h
   ·rintro⟨u,c',n,e1,v,e3,T,e,rfl⟩
    have F:V8 u c' n=[]∧l=[]:=by
     cases hq:V8 u c' n with
     | nil=>rw[hq] at e;simpa using e
     | cons x y=>rw[hq] at e;simp at e
    unfold V8 at F
    simp only[List.append_eq_nil_iff,A53] at F
    obtain⟨⟨rfl,rfl,rfl⟩,rfl⟩:=F
    simp only[A2g] at e1 v e3
    rw[if_pos ⟨rfl,by unfold uj;simp;omega⟩]
    simp
  ·rw[YK,if_neg hr]
   unfold ui
   simp only[Bool.true_eq_false,if_false]
   by_cases G:0<a
   ·rw[if_pos G]
    constructor
    ·intro h
     split at h
     ·cases h
     ·rename_i I es
      rw[A2a] at es
      obtain⟨x,q,rfl⟩:=es
      obtain⟨e1,v⟩:=Ahd.1 q
      obtain⟨u,c',n,i1,i2,i3,io,j,iL⟩:=(Yk r _ L rfl (by simp only;omega) B D).1 h
      try simp only at i1 i2 i3 iL
      refine⟨x::u,c',n,by rw[Az5];omega,i2,i3,⟨fun y k=>?_,io.2⟩,?_,by rw[iL];simp⟩
      ·rcases Az7.1 k with rfl | k
       ·exact v
       ·exact io.1 y k
      ·rw[j,(Yj (Am6 x) (dV x)).1 e1];rfl
    ·rintro⟨u,c',n,i1,i2,i3,io,j,iL⟩
     try simp only at i1 i2 i3 iL
     cases u with
     | nil=>simp at i1;omega
     | cons x u =>
      unfold V8 at j
      rw[A0n,A0u,A0u,A2l] at j
      have q:xI (Cf.Zp 32 l)=some x:=Ahd.2 ⟨(Yj (Am6 x) (dV x)).2 j.1,io.1 x (by simp)⟩
      rw[q]
      show YK _ r=some L
      rw[Az5] at i1
      exact(Yk r _ L rfl (by simp only;omega) B D).2 ⟨u,c',n,by simp only;omega,i2,i3,⟨fun y k=>io.1 y (A0r _ k),io.2⟩,j.2,by rw[iL];simp⟩
   ·rw[if_neg G]
    obtain rfl:a=0:=by omega
    by_cases z:0<b
    ·rw[if_pos z]
     constructor
     ·intro h
      split at h
      ·cases h
      ·rename_i I es
       rw[A2a] at es
       obtain⟨x,q,rfl⟩:=es
       obtain⟨e1,v⟩:=uf.1 q
       obtain⟨u,c',n,i1,i2,i3,io,j,iL⟩:=(Yk r _ L rfl A (by simp only;omega) D).1 h
       try simp only at i1 i2 i3 iL
       have:=nil i1
       subst this
       refine⟨[],x::c',n,i1,by rw[Az5];omega,i3,⟨io.1,fun y k=>?_,io.2.2⟩,?_,by rw[iL];simp⟩
       ·rcases Az7.1 k with rfl | k
        ·exact v
        ·exact io.2.1 y k
       ·rw[j,(Yj (Am7 x) (dW x)).1 e1];rfl
     ·rintro⟨u,c',n,i1,i2,i3,io,j,iL⟩
      try simp only at i1 i2 i3 iL
      have:=nil i1
      subst this
      cases c' with
      | nil=>simp at i2;omega
      | cons x c' =>
       unfold V8 at j
       rw[A3n,A1o,A0n,A0u,A0u,A2l] at j
       have q:Ac4 (Cf.Zp 32 l)=some x:=uf.2 ⟨(Yj (Am7 x) (dW x)).2 j.1,io.2.1 x (by simp)⟩
       rw[q]
       show YK _ r=some L
       rw[Az5] at i2
       exact(Yk r _ L rfl A (by simp only;omega) D).2 ⟨[],c',n,i1,by simp only;omega,i3,⟨io.1,fun y k=>io.2.1 y (A0r _ k),io.2.2⟩,j.2,by rw[iL];simp⟩
    ·rw[if_neg z]
     obtain rfl:b=0:=by omega
     by_cases S:0<c
     ·rw[if_pos S]
      constructor
      ·intro h
       split at h
       ·cases h
       ·rename_i I es
        rw[A2a] at es
        obtain⟨x,q,rfl⟩:=es
        obtain⟨e1,v⟩:=yj.1 q
        obtain⟨u,c',n,i1,i2,i3,io,j,iL⟩:=(Yk r _ L rfl A B (by simp only;omega)).1 h
        try simp only at i1 i2 i3 iL
        have:=nil i1
        subst this
        have:=nil2 i2
        subst this
        refine⟨[],[],x::n,i1,i2,by rw[Az5];omega,⟨io.1,io.2.1,fun y k=>?_⟩,?_,by rw[iL];simp⟩
        ·rcases Az7.1 k with rfl | k
         ·exact v
         ·exact io.2.2 y k
        ·rw[j,(Yj (Ahg x) (VN x)).1 e1];rfl
      ·rintro⟨u,c',n,i1,i2,i3,io,j,iL⟩
       try simp only at i1 i2 i3 iL
       have:=nil i1
       subst this
       have:=nil2 i2
       subst this
       cases n with
       | nil=>simp at i3;omega
       | cons x n =>
        unfold V8 at j
        rw[A3n,A1o,A3n,A1o,A0n,A0u,A2l] at j
        have q:Yi (Cf.Zp 32 l)=some x:=yj.2 ⟨(Yj (Ahg x) (VN x)).2 j.1,io.2.2 x (by simp)⟩
        rw[q]
        show YK _ r=some L
        rw[Az5] at i3
        exact(Yk r _ L rfl A B (by simp only;omega)).2 ⟨[],[],n,i1,i2,by simp only;omega,⟨io.1,io.2.1,fun y k=>io.2.2 y (A0r _ k)⟩,j.2,by rw[iL];simp⟩
     ·rw[if_neg S]
      obtain rfl:c=0:=by omega
      constructor
      ·intro h;cases h
      ·rintro⟨u,c',n,i1,i2,i3,io,j,iL⟩
       have:=nil i1
       subst this
       have:=nil2 i2
       subst this
       have:=nil3 i3
       subst this
       rw[Ald,A1o,A2l] at j
       exact absurd j.2 hr
theorem Atg {L:LogV}:∀ l ∈ Ac5 L,(10:UInt8) ∉ l:=by
 intro l e
 unfold Ac5 V8 at e
 simp only[Az7,A0f,A04] at e
 rcases e with rfl | ⟨x,_,rfl⟩ | ⟨x,_,rfl⟩ | ⟨x,_,rfl⟩
 ·exact qH (VM _ _ _)
 ·exact qH (dV _)
 ·exact qH (dW _)
 ·exact qH (VN _)
theorem OZ {s:Lu} {L:LogV}:OY s=some L↔s=T8 L∧Alc L∧s.length≤1048576:=by
 have t:s=T8 L↔Cf.Zp 10 s=Ac5 L++[[]]:=by
  unfold T8
  rw[←Ag9]
  exact(Am4 (by simp) fun w k=>by
   rcases A0f.1 k with k | k
   ·exact Atg w k
   ·rw[A01] at k;subst k;simp).symm
 unfold OY
 constructor
 ·intro h
  split at h
  ·rename_i j
   rw[t]
   cases hs:Cf.Zp 10 s with
   | nil=>exact absurd hs (Cf.VJ _ _)
   | cons l r =>
    rw[hs,YK] at h
    by_cases hr:r=[]
    ·rw[if_pos hr] at h
     split at h
     ·rename_i B;exact absurd B.2 (by decide)
     ·cases h
    ·rw[if_neg hr] at h
     unfold ui at h
     rw[if_pos (show init.begun=false from rfl)] at h
     split at h
     ·cases h
     ·rename_i G es
      rw[A2a] at es
      obtain⟨⟨a,b,c⟩,q,rfl⟩:=es
      obtain⟨e1,C⟩:=kq.1 q
      obtain⟨v,z,A⟩:=C
      obtain⟨u,c',n,i1,i2,i3,io,D,iL⟩:=(Yk r _ L rfl v.1 z.1 A.1).1 h
      simp only at i1 i2 i3
      have iL':L=⟨u,c',n⟩:=by rw[iL];rfl
      subst iL'
      refine⟨?_,⟨io,?_,?_,?_⟩,j⟩
      ·rw[D,(Yj (Ahf _ _ _) (VM _ _ _)).1 e1]
       unfold Ac5 ym
       simp only
       rw[i1,i2,i3];rfl
      ·simp only;omega
      ·simp only;omega
      ·simp only;omega
  ·cases h
 ·rintro⟨e,⟨F,v,z,A⟩,j⟩
  rw[if_pos j,t.1 e]
  unfold Ac5
  rw[A0u,YK,if_neg (by simp)]
  unfold ui
  rw[if_pos (show init.begun=false from rfl)]
  have q:aW (Cf.Zp 32 (ym L))=some ((L.uses.length:Int),(L.cuts.length:Int),(L.nodes.length:Int)):=kq.2 ⟨(Yj (Ahf _ _ _) (VM _ _ _)).2 rfl,⟨by omega,by omega⟩,⟨by omega,by omega⟩,by omega,by omega⟩
  rw[q]
  show YK _ _=some L
  exact(Yk _ _ L rfl (by simp only;omega) (by simp only;omega) (by simp only;omega)).2 ⟨L.uses,L.cuts,L.nodes,rfl,rfl,rfl,F,rfl,rfl⟩
end
end Gx.Bl
namespace Gx.Bl
open Go Go.Proofs Gx.Cf
section
variable {R:Type}
structure EntD where
 i:Int
 v:RatD
structure CutD where
 kind:Int
 hour:Int
 units:Sl Int
 least:Int
 unit:Int
 len:Int
structure NodeD where
 kind:Int
 unit:Int
 hour:Int
 other:Int
 y:Sl EntD
structure LogD where
 uses:Sl (Int×Int)
 cuts:Sl CutD
 nodes:Sl NodeD
def EntD.av (e:EntD):LA:=.int .i64 e.i::e.v.av
def Cc (u:Int×Int):LA:=[.int .i64 u.1,.int .i64 u.2]
def CutD.av (c:CutD):LA:=[.int .i64 c.kind,.int .i64 c.hour,c.units.av 1 Sh,.int .i64 c.least,.int .i64 c.unit,.int .i64 c.len]
def NodeD.av (n:NodeD):LA:=[.int .i64 n.kind,.int .i64 n.unit,.int .i64 n.hour,.int .i64 n.other,n.y.av 4 EntD.av]
def LogD.av (l:LogD):LA:=[l.uses.av 2 Cc,l.cuts.av 6 CutD.av,l.nodes.av 5 NodeD.av]
theorem G9 (e:EntD):e.av.length=4:=rfl
theorem Fr (u:Int×Int):(Cc u).length=2:=rfl
theorem D2 (c:CutD):c.av.length=6:=rfl
theorem B7 (n:NodeD):n.av.length=5:=rfl
def EntD.p (e:EntD):Int×Rat:=(e.i,e.v.q)
def CutD.v (c:CutD):CutV:=⟨c.kind,c.hour,c.units.l,c.least,c.unit,c.len⟩
def NodeD.v (n:NodeD):NodeV:=⟨n.kind,n.unit,n.hour,n.other,n.y.l.map EntD.p⟩
def LogD.v (l:LogD):LogV:=⟨l.uses.l,l.cuts.l.map CutD.v,l.nodes.l.map NodeD.v⟩
def Ahh (M:Nat) (e:EntD):Prop:=e.v.ok∧e.v.m≤M
def aX (M B:Nat) (n:NodeD):Prop:=n.y.l.length≤B∧∀ e ∈ n.y.l,Ahh M e
def Ac6 (B:Nat) (c:CutD):Prop:=c.units.l.length≤B
structure LogG (M B:Nat) (l:LogD):Prop where
 uses:l.uses.l.length≤B
 cuts:l.cuts.l.length≤B
 nodes:l.nodes.l.length≤B
 cut:∀ c ∈ l.cuts.l,Ac6 B c
 node:∀ n ∈ l.nodes.l,aX M B n
abbrev W:=Bool×List UInt8
def Ale (w:W):Option Lu→W
 | none=>(true,w.2)
 | some s=>if w.1=true∨1048576<w.2.length+s.length then (true,w.2) else (false,w.2++s)
def Rh (w:W) (ps:List (Option Lu)):W:=ps.foldl Ale w
theorem Ath (w:W):Rh w []=w:=rfl
theorem Gn (w:W) (p:Option Lu) (ps:List (Option Lu)):Rh w (p::ps)=Rh (Ale w p) ps:=rfl
theorem Px (w:W) (a b:List (Option Lu)):Rh w (a++b)=Rh (Rh w a) b:=List.foldl_append
theorem iP {w:W} (h:w.1=true) (p:Option Lu):Ale w p=w:=by
 obtain⟨f,t⟩:=w
 simp only at h
 subst h
 cases p with
 | none=>rfl
 | some s=>unfold Ale;dsimp only;rw[if_pos (Or.inl rfl)]
theorem V9 {w:W} (h:w.1=true):∀ ps,Rh w ps=w
 | []=>rfl
 | p::ps=>by rw[Gn,iP h,V9 h ps]
def Il (ps:List (Option Lu)):Lu:=ps.flatMap fun p=>p.getD []
theorem XG {w:W} (h:w.2.length≤1048576) (p:Option Lu):(Ale w p).2.length≤1048576:=by
 cases p with
 | none=>exact h
 | some s =>
  unfold Ale
  dsimp only
  split
  ·exact h
  ·simp only[Az2];omega
theorem Py:∀ (ps:List (Option Lu)) {w:W},w.2.length≤1048576→(Rh w ps).2.length≤1048576
 | [],_,h=>h
 | p::ps,_,h=>by rw[Gn];exact Py ps (XG h p)
theorem Am8:∀ (ps:List (Option Lu)) (t:Lu),(∀ p ∈ ps,p≠none)→t.length+(Il ps).length≤1048576→Rh (false,t) ps=(false,t++Il ps)
 | [],t,_,_=>by unfold Il;simp[Ath]
 | p::ps,t,h,j=>by
  cases p with
  | none=>exact absurd rfl (h none (by simp))
  | some s =>
   have e:Il (some s::ps)=s++Il ps:=rfl
   rw[e,Az2] at j
   rw[Gn]
   unfold Ale
   dsimp only
   rw[if_neg (by simp;omega),Am8 ps (t++s) (fun p k=>h p (A0r _ k)) (by rw[Az2];omega),e,A10]
theorem Ahi:∀ (ps:List (Option Lu)) (t:Lu),¬ ((∀ p ∈ ps,p≠none)∧t.length+(Il ps).length≤1048576)→t.length≤1048576→(Rh (false,t) ps).1=true
 | [],t,h,k=>absurd ⟨by simp,by unfold Il;simpa using k⟩ h
 | none::ps,t,h,_=>by rw[Gn,V9 (by rfl)];rfl
 | some s::ps,t,h,k=>by
  have e:Il (some s::ps)=s++Il ps:=rfl
  rw[e,Az2] at h
  rw[Gn]
  unfold Ale
  dsimp only
  by_cases n:1048576<t.length+s.length
  ·rw[if_pos (Or.inr n),V9 (by rfl)]
  ·rw[if_neg (by simp;omega)]
   refine Ahi ps (t++s) (fun hh=>h ⟨fun p j=>?_,?_⟩) (by rw[Az2];omega)
   ·rcases Az7.1 j with rfl | j
    ·simp
    ·exact hh.1 p j
   ·have:=hh.2
    rw[Az2] at this;omega
def kw (p:Int×Rat):Option Lu:=if Hf (D5 p.2)≤4096 then some (32::Pe p) else none
def Pz (v:Int):Option Lu:=some (32::Ci v)
def qI:Option Lu:=some [10]
def Au8 (u:Int×Int):List (Option Lu):=some Ahc::[Pz u.1,Pz u.2]++[qI]
def xJ (c:CutV):List (Option Lu):=if c.kind=1 then some KU::[Pz c.hour,Pz c.unit,Pz c.len]++[qI] else (some DW::[Pz c.hour,Pz c.least])++((some []::c.units.map Pz)++[qI])
def aY (n:NodeV):List (Option Lu) :=
 if n.kind=0 then some Xm::[Pz n.unit,Pz n.hour]++[qI] else if n.kind=1 then (some VK::n.y.map kw)++[qI] else if n.kind=2 then (some OX::n.y.map kw)++[qI]
 else if n.kind=3 then some VL::[Pz n.unit]++[qI] else some Y5::[Pz n.unit,Pz n.other,Pz n.hour]++[qI]
def Ati (a b c:Int):List (Option Lu):=some ue::[Pz a,Pz b,Pz c]++[qI]
def xK (L:LogV):List (Option Lu):=Ati L.uses.length L.cuts.length L.nodes.length++(L.uses.flatMap Au8++(L.cuts.flatMap xJ++L.nodes.flatMap aY))
theorem R3 (a b:List (Option Lu)):Il (a++b)=Il a++Il b:=A1h
theorem O_ (a:Option Lu) (b:List (Option Lu)):Il (a::b)=a.getD []++Il b:=rfl
theorem XH (w:Lu):∀ l:List Lu,Uu (w::l)=w++l.flatMap (32::·)
 | []=>by unfold Uu Fq;simp
 | v::r=>by
  have:=XH v r
  unfold Uu at this ⊢
  rw[Fq,this,A0z];rfl
theorem yn (l:List Int):Il (l.map Pz)=(l.map Ci).flatMap (32::·):=by
 unfold Il;rw[A30,A30];rfl
theorem Aqf {l:List (Int×Rat)} (h:∀ p ∈ l,Hf (D5 p.2)≤4096):Il (l.map kw)=(l.map Pe).flatMap (32::·):=by
 induction l with
 | nil=>rfl
 | cons p r e =>
  rw[A0n,O_,e (fun q hq=>h q (A0r _ hq)),A0n,A0z]
  unfold kw
  rw[if_pos (h p (by simp))];rfl
theorem BP (w:Lu) (l:List Int):Il ((some w::l.map Pz)++[qI])=Uu (w::l.map Ci)++[10]:=by
 rw[R3,O_,yn,XH];rfl
theorem Aqg (a b c:Int):Il (Ati a b c)=Uu (iN a b c)++[10]:=BP ue [a,b,c]
theorem Atj (u:Int×Int):Il (Au8 u)=Uu (Ac3 u)++[10]:=BP Ahc [u.1,u.2]
theorem Atk (c:CutV):Il (xJ c)=Uu (pb c)++[10]:=by
 unfold xJ pb
 split
 ·exact BP KU [c.hour,c.unit,c.len]
 ·rw[XH,R3,R3,O_ (some []),yn]
  show(DW++((32::Ci c.hour)++((32::Ci c.least)++[])))++(([]++(c.units.map Ci).flatMap (32::·))++Il [qI])=_
  simp[A0z,Il,qI]
theorem Aqh {n:NodeV} (h:∀ p ∈ n.y,Hf (D5 p.2)≤4096) (j:n.kind=0∨n.kind=1∨n.kind=2∨n.kind=3∨n.kind=4):Il (aY n)=Uu (iO n)++[10]:=by
 have e:∀ s:Lu,Il ((some s::n.y.map kw)++[qI])=Uu (s::n.y.map Pe)++[10]:=fun s=>by
  rw[R3,O_,Aqf h,XH];rfl
 unfold aY iO
 split
 ·exact BP Xm [n.unit,n.hour]
 split
 ·exact e _
 split
 ·exact e _
 split
 ·exact BP VL [n.unit]
 ·exact BP Y5 [n.unit,n.other,n.hour]
theorem ky {α:Type} {f:α→List (Option Lu)} {g:α→Lu} {l:List α} (h:∀ a ∈ l,Il (f a)=g a++[10]):Il (l.flatMap f)=(l.map g).flatMap (·++[10]):=by
 induction l with
 | nil=>rfl
 | cons a r e =>
  rw[A0z,R3,h a (by simp),e fun b j=>h b (A0r _ j),A0n,A0z]
def O' (L:LogV):Prop:=∀ n ∈ L.nodes,∀ p ∈ n.y,Hf (D5 p.2)≤4096
theorem Aqi {l:List Int} {p:Option Lu} (h:p ∈ l.map Pz):p≠none:=by
 obtain⟨v,_,rfl⟩:=A04.1 h
 unfold Pz;simp
theorem R4 (w:Lu) (l:List Int) {p:Option Lu} (h:p ∈ (some w::l.map Pz)++[qI]):p≠none:=by
 rw[A0f,Az7,A01] at h
 rcases h with(rfl | h) | rfl
 ·simp
 ·exact Aqi h
 ·unfold qI;simp
theorem Atl {c:CutV} {p:Option Lu} (h:p ∈ xJ c):p≠none:=by
 unfold xJ at h
 split at h
 ·exact R4 KU [c.hour,c.unit,c.len] h
 ·rw[A0f] at h
  rcases h with h | h
  ·exact R4 DW [c.hour,c.least] (List.mem_append_left _ h)
  ·exact R4 [] c.units h
theorem Aqj {l:List (Int×Rat)}:(∀ p ∈ l.map kw,p≠none)↔∀ p ∈ l,Hf (D5 p.2)≤4096:=by
 constructor
 ·intro h p j
  have:=h (kw p) (A2r j)
  unfold kw at this
  by_cases e:Hf (D5 p.2)≤4096
  ·exact e
  ·rw[if_neg e] at this;exact absurd rfl this
 ·intro h q hq
  obtain⟨p,j,rfl⟩:=A04.1 hq
  unfold kw
  rw[if_pos (h p j)];simp
def Ac7 (n:NodeV):Prop:=n.kind=1∨n.kind=2∨n.y=[]
theorem yp {n:NodeV} (h:Ac7 n):(∀ p ∈ aY n,p≠none)↔∀ p ∈ n.y,Hf (D5 p.2)≤4096:=by
 have ent:∀ s:Lu,(∀ p ∈ (some s::n.y.map kw)++[qI],p≠none)↔∀ p ∈ n.y,Hf (D5 p.2)≤4096:=fun s=>by
  rw[←Aqj]
  constructor
  ·exact fun h p e=>h p (by simp only[A0f,Az7];exact .inl (.inr e))
  ·intro h p e
   rw[A0f,Az7,A01] at e
   rcases e with(rfl | e) | rfl
   ·simp
   ·exact h p e
   ·unfold qI;simp
 have emp:∀ ps:List (Option Lu),(n.y=[])→(∀ p ∈ ps,p≠none)→((∀ p ∈ ps,p≠none)↔∀ p ∈ n.y,Hf (D5 p.2)≤4096):=fun ps q e=>⟨fun _=>by rw[q];simp,fun _=>e⟩
 have ny:n.kind≠1→n.kind≠2→n.y=[]:=fun j k=>by
  rcases h with h | h | h
  ·exact absurd h j
  ·exact absurd h k
  ·exact h
 unfold aY
 split
 ·rename_i u
  exact emp _ (ny (by omega) (by omega)) fun p e=>R4 Xm [n.unit,n.hour] e
 split
 ·exact ent _
 split
 ·exact ent _
 split
 ·rename_i j k t
  exact emp _ (ny j k) fun p e=>R4 VL [n.unit] e
 ·rename_i j k t
  exact emp _ (ny j k) fun p e=>R4 Y5 [n.unit,n.other,n.hour] e
theorem Atm {L:LogV} (h:∀ n ∈ L.nodes,Ac7 n):(∀ p ∈ xK L,p≠none)↔O' L:=by
 unfold xK O'
 constructor
 ·intro e n hn
  refine(yp (h n hn)).1 fun p hq=>e p ?_
  simp only[A0f,A4i]
  exact .inr (.inr (.inr ⟨n,hn,hq⟩))
 ·intro j p e
  simp only[A0f,A4i] at e
  rcases e with e | ⟨u,_,e⟩ | ⟨c,_,e⟩ | ⟨n,hn,e⟩
  ·exact R4 ue [(L.uses.length:Int),(L.cuts.length:Int),(L.nodes.length:Int)] e
  ·exact R4 Ahc [u.1,u.2] e
  ·exact Atl e
  ·exact(yp (h n hn)).2 (j n hn) p e
theorem Atn {L:LogV} (h:O' L) (e:∀ n ∈ L.nodes,n.kind=0∨n.kind=1∨n.kind=2∨n.kind=3∨n.kind=4):Il (xK L)=T8 L:=by
 unfold xK T8 Ac5 V8 ym
 rw[R3,R3,R3,Aqg,ky (fun u _=>Atj u),ky (fun c _=>Atk c),ky (fun n hn=>Aqh (h n hn) (e n hn)),A0z,A1h,A1h]
end
end Gx.Bl
namespace Gx
open Go Go.Proofs Go.RowKit Go.ChangeShapes
theorem Ato {n:Int} (h:(Lit.int .u32 n).wf=true):0≤n∧n<4294967296:=by
 simp only[Lit.wf,A0a,decide_eq_true_eq,show IntKind.u32.min=0 from rfl,show IntKind.u32.max=4294967295 from rfl] at h;omega
section
theorem KX:Opens Tryz.prog 3 (α:=Int) (fun n=>[.int .i64 n]) 1:=(jS Tryz.underlying3 (by kernel_rfl)).map _ (fun n=>n.1) (fun _=>rfl) (fun _=>rfl)
theorem Aw4:Opens Tryz.prog 222 (α:={ n:Nat // n<4294967296 }) (fun n=>[.int .u32 (n.1:Int)]) 1 :=
 (jS Tryz.underlying222 (by kernel_rfl)).map _ (fun n=>⟨n.1.toNat,by have:=Ato n.2;omega⟩) (fun n=>by have:=Ato n.2;simp;omega) (fun _=>rfl)
theorem yq:∀ l:List { n:Nat // n<4294967296 },l.flatMap (fun n=>[AV.int .u32 (n.1:Int)])=Ag (l.map (·.1))
 | []=>rfl
 | a::r=>by rw[A0z,yq r];rfl
theorem Am9:Opens Tryz.prog 69 (α:={ l:List Nat // Ak l }) (fun l=>[.imm (Ag l.1) l.1.length 1 false false]) 1 :=
 (Mx Tryz.underlying69 (by kernel_rfl) Aw4).map _ (fun l=>⟨l.1.map (·.1),fun x e=>by obtain⟨y,_,rfl⟩:=A04.1 e;exact y.2⟩) (fun l=>by show [AV.imm (l.1.flatMap fun n=>[AV.int .u32 (n.1:Int)]) l.1.length 1 false false]=[AV.imm (Ag (l.1.map (·.1))) (l.1.map (·.1)).length 1 false false];rw[yq,A03]) (fun _=>rfl)
theorem Ax7:Opens Tryz.prog 73 (α:={ x:RatD // x.ok }) (fun x=>x.1.av) 3 :=
 (Ka Tryz.underlying73 (by kernel_rfl) (by decide) (Bh rfl (Ka Tryz.underlying71 (by kernel_rfl) (by decide) (Bh rfl (Ai3 Tryz.underlying4 (by kernel_rfl)) (Bh rfl Am9 Qx))) (Bh rfl Am9 Qx))).map _
  (fun p=>⟨⟨p.1.1,.of p.1.2.1.1 false false,.of p.2.1.1 false false⟩,⟨p.1.2.1.2,p.2.1.2⟩⟩) (fun _=>rfl) (fun _=>rfl)
theorem Ax8:Opens Tryz.prog 75 (α:={ e:Bl.EntD // e.v.ok }) (fun e=>e.1.av) 4 :=
 (Ka Tryz.underlying75 (by kernel_rfl) (by decide) (Bh rfl KX (Bh rfl Ax7 Qx))).map _ (fun p=>⟨⟨p.1,p.2.1.1⟩,p.2.1.2⟩) (fun _=>rfl) (fun _=>rfl)
theorem uk:∀ m:List Int,m.flatMap (fun n=>[AV.int .i64 n])=Cf.Ap m
 | []=>rfl
 | a::r=>by rw[A0z,uk r];rfl
theorem Aw5:Opens Tryz.prog 22 (α:=List Int) (fun l=>[.imm (Cf.Ap l) l.length 1 false false]) 1 :=
 (Mx Tryz.underlying22 (by kernel_rfl) KX).map _ (fun l=>l.1) (fun l=>by rw[←uk]) (fun _=>rfl)
theorem Aw6:Opens Tryz.prog 53 (α:={ l:List Bl.EntD // ∀ e ∈ l,e.v.ok }) (fun l=>[.imm (l.1.flatMap Bl.EntD.av) l.1.length 4 false false]) 1 :=
 (Mx Tryz.underlying53 (by kernel_rfl) Ax8).map _ (fun l=>⟨l.1.map (·.1),fun x j=>by obtain⟨y,_,rfl⟩:=A04.1 j;exact y.2⟩) (fun l=>by show [AV.imm (l.1.flatMap fun e=>e.1.av) l.1.length 4 false false]=[AV.imm ((l.1.map (·.1)).flatMap Bl.EntD.av) (l.1.map (·.1)).length 4 false false];rw[A30,A03]) (fun _=>rfl)
theorem Ax9:Opens Tryz.prog 116 (α:=Int×Int) Bl.Cc 2 :=
 (Ka Tryz.underlying116 (by kernel_rfl) (by decide) (Bh rfl KX (Bh rfl KX Qx))).map _ (fun p=>(p.1,p.2.1)) (fun _=>rfl) (fun _=>rfl)
theorem Aya:Opens Tryz.prog 67 (α:=Bl.CutD) Bl.CutD.av 6 :=
 (Ka Tryz.underlying67 (by kernel_rfl) (by decide) (Bh rfl KX (Bh rfl KX (Bh rfl Aw5 (Bh rfl KX (Bh rfl KX (Bh rfl KX Qx))))))).map _
  (fun p=>⟨p.1,p.2.1,.of p.2.2.1 false false,p.2.2.2.1,p.2.2.2.2.1,p.2.2.2.2.2.1⟩) (fun p=>by
   show _=[AV.int .i64 p.1,.int .i64 p.2.1,.imm (p.2.2.1.flatMap Cf.Sh) p.2.2.1.length 1 false false,.int .i64 p.2.2.2.1,.int .i64 p.2.2.2.2.1,.int .i64 p.2.2.2.2.2.1]
   rw[Cf.Ft];rfl) (fun _=>rfl)
def Alf (n:Bl.NodeD):Prop:=∀ e ∈ n.y.l,e.v.ok
theorem Aw7:Opens Tryz.prog 55 (α:={ n:Bl.NodeD // Alf n }) (fun n=>n.1.av) 5 :=
 (Ka Tryz.underlying55 (by kernel_rfl) (by decide) (Bh rfl KX (Bh rfl KX (Bh rfl KX (Bh rfl KX (Bh rfl Aw6 Qx)))))).map _
  (fun p=>⟨⟨p.1,p.2.1,p.2.2.1,p.2.2.2.1,.of p.2.2.2.2.1.1 false false⟩,p.2.2.2.2.1.2⟩) (fun _=>rfl) (fun _=>rfl)
theorem Ayb:Opens Tryz.prog 27 (α:=List (Int×Int)×List Bl.CutD×{ l:List Bl.NodeD // ∀ n ∈ l,Alf n }) (fun p=>[.imm (p.1.flatMap Bl.Cc) p.1.length 2 false false,.imm (p.2.1.flatMap Bl.CutD.av) p.2.1.length 6 false false,.imm (p.2.2.1.flatMap Bl.NodeD.av) p.2.2.1.length 5 false false]) 3 :=
 (Ka Tryz.underlying27 (by kernel_rfl) (by decide) (Bh rfl (Mx Tryz.underlying23 (by kernel_rfl) Ax9) (Bh rfl (Mx Tryz.underlying24 (by kernel_rfl) Aya) (Bh rfl (Mx Tryz.underlying25 (by kernel_rfl) Aw7) Qx)))).map _
  (fun p=>⟨p.1.1,p.2.1.1,p.2.2.1.1.map (·.1),fun x e=>by obtain⟨y,_,rfl⟩:=A04.1 e;exact y.2⟩)
  (fun p=>by
   have e1:p.2.2.1.1.flatMap (fun n=>n.1.av)=(p.2.2.1.1.map (·.1)).flatMap Bl.NodeD.av:=by rw[A30]
   dsimp only
   rw[←e1,A03];rfl) (fun _=>rfl)
end
section
variable {W:World} {H:Type} {enc:TypeId×Value→H} {β:Cd} {h:Az}
theorem nh {q:Int→Prop}:∀ m:List { n:Int // q n },m.flatMap (fun n=>[AV.int .i64 n.1])=Cf.Ap (m.map (·.1))
 | []=>rfl
 | a::r=>by rw[A0z,nh r];rfl
theorem kz {a:Option Addr} {len cap:Nat} {d:DataW H} {p:List MemPlace} (j:DataW.Trod enc Tryz.prog W 0 (fun _=>true) true 22 (.slice a len cap) d p) :
  ∃ l:List Int,l.length≤maxLen∧Rep (fun _ k=>k<W.heap.size) β h W (.imm (Cf.Ap l) l.length 1 false false) (.slice a len cap):=by
 obtain⟨l,n,e⟩:=Aue (β:=β) (h:=h) Tryz.underlying22 (by kernel_rfl) (jS Tryz.underlying3 (by kernel_rfl)) j
 rw[nh] at e
 exact⟨l.map (·.1),by rw[A03];exact n,by rw[A03];exact e⟩
theorem Atp {v:Value} {d:DataW H} {p:List MemPlace} (e:∃ cs,v=.agg cs) (j:DataW.Trod enc Tryz.prog W 0 (fun _=>true) true 27 v d p) :
  ∃ (U:List (Int×Int)) (C:List Bl.CutD) (P:List Bl.NodeD),(∀ n ∈ P,Alf n)∧Rep (fun _ k=>k<W.heap.size) β h W (.agg [.imm (U.flatMap Bl.Cc) U.length 2 false false,.imm (C.flatMap Bl.CutD.av) C.length 6 false false,.imm (P.flatMap Bl.NodeD.av) P.length 5 false false]) v:=by
 obtain⟨cs,rfl⟩:=e
 obtain⟨⟨U,C,P,hP⟩,hr⟩:=Arw (β:=β) (h:=h) Ayb j
 exact⟨U,C,P,hP,Auf hr⟩
end
end Gx
namespace Gx.Bl
open Go Go.Proofs Gx.Cf
section
variable {R:Type}
theorem yr {N V:Nat} {t o:Bool} {K:Int→O R} (u:fit (Al V).length N):∃ k:Nat,2 ^ k≤2*V+1∧k≤32*(Al V).length∧NR N (Ag (Al V)) (Al V).length t o K=K (k:Int):=by
 have F:=u.1;have G:=u.2
 rw[mz];unfold sn
 rw[Bp rfl (Ad V) u,Ah]
 by_cases A:V=0
 ·subst A
  exact⟨0,by decide,by decide,rfl⟩
 ·have j:=NA A
  obtain⟨n,hn⟩:∃ n,(Al V).length=n+1:=⟨(Al V).length - 1,by have:=A13.2 j;omega⟩
  have s:n<(Al V).length:=by omega
  have q:(Al V)[n]=(Al V).getLast j:=by rw[A20];congr 1;omega
  have v:=fP V j
  rw[←q] at v
  have z:=Ar8 j
  rw[←q,Ah,show(Al V).length - 1=n by omega] at z
  have B:=Ay (Ad V) s
  rw[hn,show(((n+1:Nat):Int)==0)=false by rw[beq_eq_false_iff_ne];omega,cf,wP (by omega),Aa (by omega),ct,QA s]
  obtain⟨k,C,I,L,D⟩:=tK (R:=R) (N:=N) (c:=(Al V)[n]) (K:=fun l=>K (wrap .i64 (wrap .i64 (32*(n:Int))+l))) (by omega) B
  rw[D,show wrap .i64 (32*(n:Int))=32*(n:Int) from i64 (by omega),i64 (by omega)]
  refine⟨32*n+k,?_,by omega,by congr 1⟩
  have e:(2:Nat) ^ (32*n)=4294967296 ^ n:=by rw[A3x]
  rw[A09,e]
  have:=A0w (4294967296 ^ n) C
  have S:4294967296 ^ n*(2*(Al V)[n])=2*(4294967296 ^ n*(Al V)[n]):=by rw[A2f]
  omega
theorem UB {k a:Nat} (h:2 ^ k<2*10 ^ a):k≤4*a∧(2≤a→k+1≤4*a):=by
 have e:(10:Nat) ^ a≤16 ^ a:=A3k (by decide) a
 have Axg:(16:Nat) ^ a=2 ^ (4*a):=by rw[A3x]
 constructor
 ·have:2 ^ k<2 ^ (4*a+1):=by rw[A0i];omega
  have:=(A5b (by decide:1<2)).1 this
  omega
 ·intro n
  obtain⟨b,rfl⟩:∃ b,a=b+2:=⟨a - 2,by omega⟩
  have e3:(10:Nat) ^ b≤16 ^ b:=A3k (by decide) b
  have e4:(10:Nat) ^ (b+2)=10 ^ b*100:=by rw[A09]
  have j:(16:Nat) ^ (b+2)=16 ^ b*256:=by rw[A09]
  have:2 ^ k<2 ^ (4*(b+2)):=by rw[←Axg,j];omega
  have:=(A5b (by decide:1<2)).1 this
  omega
theorem Ahj (u:Nat):Hf (dec u)=(dec u).length:=by
 unfold Hf
 rw[A5q]
 exact fun c e=>A05.1 (Jk u) c e
theorem iQ (a b:Lu):Hf (a++b)=Hf a+Hf b:=by unfold Hf;exact List.countP_append
theorem qJ (u:Nat):u<10 ^ (dec u).length:=by
 have:=Z5 (Jk u)
 rwa [G0] at this
theorem Alg {q:Rat} (h:Hf (D5 q)≤4096) {a b:Nat} (u:2 ^ a≤2*q.num.natAbs+1) (e:2 ^ b≤2*q.den+1):a+b≤16384:=by
 have v:=qJ q.num.natAbs
 have z:=qJ q.den
 have b1:=UB (k:=a) (a:=(dec q.num.natAbs).length) (by omega)
 have s:=UB (k:=b) (a:=(dec q.den).length) (by omega)
 unfold D5 at h
 split at h
 ·rename_i t
  rw[XE] at h
  rw[t] at e
  have:b≤1:=by
   rcases b with _ | _ | b
   ·omega
   ·omega
   ·exfalso
    have A:2 ^ (b+2)≥4:=by rw[A09];have:=Nat.one_le_two_pow (n:=b);omega
    have j:2 ^ (b+2)≤3:=e
    omega
  by_cases j:2≤(dec q.num.natAbs).length
  ·have:=b1.2 j;omega
  ·have:=b1.1;omega
 ·rw[iQ,iQ,XE,Ahj] at h
  have:=b1.1;have:=s.1;omega
theorem Aqk {N:Nat} {x:RatD} {o:Bool} {K:Int→O R} (u:x.ok) (e:fit (4*x.m+60) N):∃ k:Nat,(Hf (D5 x.q)≤4096→k≤16384)∧pw N x.av o K=K (k:Int):=by
 have D:=e.1;have G:=e.2
 obtain⟨d,j,v⟩:=dB (R:=R) (N:=N) (o:=o) u (e.le (by omega))
 have z:=UE x u
 rw[←j.m] at z
 have n:d.ns.l.length≤d.m:=A2j _ _
 have s:d.ds.l.length≤d.m:=A2o _ _
 rw[j.2.1] at n
 rw[j.2.2] at s
 rw[nA];unfold sp
 rw[OB,ct,Tn,v,show((beq 0 0)&&((beq (List.length d.av) 3)&&(beq 3 3)))=true by rfl,ct]
 have e1:∀ F:LA→Nat→O R,Aw 1 (drop 1 d.av) F=F (Ag d.ns.l) d.ns.l.length:=fun F=>by
  show Aw 1 (d.ns.av::[d.ds.av]) F=_
  cases d.ns<;>rfl
 have A:∀ F:LA→Nat→O R,Aw 1 (drop 2 d.av) F=F (Ag d.ds.l) d.ds.l.length:=fun F=>by
  show Aw 1 (d.ds.av::[]) F=_
  cases d.ds<;>rfl
 rw[e1,j.2.1]
 have B:∀ g:Int,∃ b:Nat,2 ^ b≤2*x.q.den+1∧b≤32*(Al x.q.den).length∧(Aw 1 (drop 2 d.av) fun i l=>NR N i l false false fun m=>K (wrap .i64 (g+m)))=K (wrap .i64 (g+(b:Int))):=fun g=>by
  rw[A,j.2.2]
  exact yr (K:=fun m=>K (wrap .i64 (g+m))) (e.le (by omega))
 obtain⟨a,a1,a2,a3⟩:=yr (R:=R) (N:=N) (V:=x.q.num.natAbs) (t:=false) (o:=false) (K:=fun g=>Aw 1 (drop 2 d.av) fun i l=>NR N i l false false fun m=>K (wrap .i64 (g+m))) (e.le (by omega))
 obtain⟨b,b1,I,C⟩:=B (a:Int)
 refine⟨a+b,fun h=>Alg h a1 b1,?_⟩
 rw[a3,C,i64 (by omega)];congr 1
theorem Au9 {N:Nat} {s:Lu} {K:Lu→Bool→O R} (hs:∀ c ∈ s,c.toNat<128) (v:s.length≤1000000000000):∀ (m p d fuel:Nat),p≤s.length→s.length - p=m→m<fuel→d≤p→Ev N K s fuel (d:Int) (p:Int)=K s (decide (d+Hf (s.drop p)≤4096)):=by
 intro m
 induction m with
 | zero =>
  intro p d fuel k n q t
  cases fuel with
  | zero=>omega
  | succ fuel =>
   rw[Ev];unfold Ox
   rw[H2 (by omega),cf,A0k (by omega)]
   congr 1
   rw[decide_eq_decide];simp[Hf];omega
 | succ m j =>
  intro p d fuel k n q t
  cases fuel with
  | zero=>omega
  | succ fuel =>
   have e:p<s.length:=by omega
   have u:s[p].toNat<128:=hs _ (A0l e)
   rw[Ev];unfold Ox
   rw[Gh e,ct,A0d e,OV e u]
   simp only
   rw[show((p:Int)+((1:Nat):Int))=((p+1:Nat):Int) by omega]
   have hn:Hf (s[p]::s.drop (p+1))=Hf (s.drop (p+1))+(if A9 s[p] then 1 else 0):=by unfold Hf;rw[A5f]
   rw[hn]
   by_cases z:48≤s[p].toNat
   ·rw[show(decide (((s[p].toNat:Nat):Int)≥48)==true)=true by simp;omega,ct]
    by_cases A:s[p].toNat≤57
    ·rw[show cond true (decide (((s[p].toNat:Nat):Int)≤57)) false=true by simp;omega,ct,wS (by omega),j (p+1) (d+1) fuel (by omega) (by omega) (by omega) (by omega)]
     have:A9 s[p]=true:=by simp[A9];omega
     rw[this,if_pos rfl]
     congr 1;rw[decide_eq_decide];omega
    ·rw[show cond true (decide (((s[p].toNat:Nat):Int)≤57)) false=false by simp;omega,cf,j (p+1) d fuel (by omega) (by omega) (by omega) (by omega)]
     have:A9 s[p]=false:=by simp[A9];omega
     rw[this];rfl
   ·rw[show(decide (((s[p].toNat:Nat):Int)≥48)==true)=false by simp;omega,cf,j (p+1) d fuel (by omega) (by omega) (by omega) (by omega)]
    have:A9 s[p]=false:=by simp[A9];omega
    rw[this];rfl
theorem Ahk (q:Rat):∀ c ∈ D5 q,c.toNat<128:=by
 have j:=u7 (Xl (Rz q.num))
 have k:=KS (Jk q.den)
 unfold D5
 split
 ·exact j
 ·intro c e
  simp only[A0f,A01] at e
  rcases e with(e | e) | e
  ·exact j c e
  ·subst e;decide
  ·exact k c e
theorem yu {x:RatD} (e:x.ok):(D5 x.q).length≤20*x.m+44:=by
 have j:=iG x.q.num
 have k:=KR x.q.den
 have n:=Akk x.q
 have s:=Akl x.q
 have:=UE x e
 unfold D5
 split
 ·omega
 ·rw[Az2,Az2,A0t];omega
theorem Ava {N:Nat} {x:RatD} {o:Bool} {K:Lu→Bool→O R} {Z:O R} (j:x.ok) (e:fit (20*x.m+100) N) (hK:∀ s,K s false=Z):Oy N x.av o K=if Hf (D5 x.q)≤4096 then K (D5 x.q) true else Z:=by
 have v:=e.1;have z:=e.2
 rw[KL];unfold Xb
 have A:=yu j
 obtain⟨k,n,t⟩:=Aqk (R:=R) (N:=N) (x:=x) (o:=o) (K:=fun g=>cond (decide (g>16384)) (K ([]:Lu) false) (cond (ble 3 (List.length x.av)) (La N (take 3 x.av) o fun b=>Ev N K b N 0 0) none)) j (e.le (by omega))
 rw[OB,ct,Tn]
 refine A12 t ?_
 by_cases u:k≤16384
 ·rw[show decide ((k:Int)>16384)=false by simp;omega,cf,OB,ct,Tn,VI j (e.le (by omega))]
  have:=Au9 (R:=R) (N:=N) (K:=K) (Ahk x.q) (by omega) (D5 x.q).length 0 0 N (by omega) (by omega) (by omega) (by omega)
  rw[A00,A0g] at this
  refine A12 this ?_
  by_cases h:Hf (D5 x.q)≤4096
  ·rw[decide_eq_true h,if_pos h]
  ·rw[decide_eq_false h,if_neg h,hK]
 ·rw[show decide ((k:Int)>16384)=true by simp;omega,ct,hK,if_neg (fun h=>u (n h))]
def KW (K:Nat→Bool→LA→O R) (w:W):O R:=K w.2.length w.1 (At w.2)
theorem um {v:Int} (h:C8 v=true):(Ci v).length≤7:=by
 have:=Ls.1 h
 unfold Ci
 rw[Aat (by decide)]
 have:(10:Nat) ^ 7=10000000:=by decide
 omega
theorem Atq {N:Nat} {v:Int} {K:Lu→O R} (h:C8 v=true):strconv_Itoa N v K=K (Ci v):=by
 have:=Ls.1 h
 obtain⟨n,rfl⟩:∃ n:Nat,v=n:=⟨v.toNat,by omega⟩
 rw[kj (by omega)];rfl
theorem T9 {N:Nat} {s:Lu} {w:W} {K:Nat→Bool→LA→O R} (e:w.2.length≤1048576) (hs:s.length≤900000000000) :
  Cg N s w.2.length w.1 (At w.2) (K w.2.length true (At w.2)) (fun c d=>K c w.1 d)=KW K (Ale w (some s)):=by
 obtain⟨f,t⟩:=w
 simp only at e ⊢
 rw[QL];unfold OE Ale
 cases f with
 | true=>dsimp only;rw[if_pos (Or.inl rfl)];rfl
 | false =>
  rw[show((false:Bool)==false)=true from rfl,ct,aC];unfold dJ
  dsimp only
  rw[wA (by omega)]
  by_cases h:1048576<t.length+s.length
  ·rw[show decide (((t.length+s.length:Nat):Int)>1048576)=true by simp;omega]
   rw[if_pos (Or.inr h)];rfl
  ·rw[show decide (((t.length+s.length:Nat):Int)>1048576)=false by simp;omega]
   rw[if_neg (by simp;omega),show(cond false true false:Bool)=false from rfl,cf,Uq];unfold Rd
   rw[Zl];unfold V4
   rw[show(ble (t.length+s.length) 140737488355328&&ble ((t.length+s.length)*1) 140737488355328)=true by simp;omega,ct,uZ t _ rfl,BM,←Az2];rfl
theorem Aql {N:Nat} {s:Lu} {A:O R} {B:Nat→LA→O R} (hs:s.length≤1048576):Tr N s false A B=B s.length (At s):=by
 rw[gc];unfold kW
 rw[show((false:Bool)==false)=true from rfl,ct,te];unfold Ab6
 rw[show(0:Int)=((0:Nat):Int) from rfl,wA (by omega),show decide (((0+s.length:Nat):Int)>1048576)=false by simp;omega]
 rw[show(cond false true false:Bool)=false from rfl,cf,Up];unfold Rc
 rw[Zk];unfold V3
 rw[show(ble (0+s.length) 140737488355328&&ble ((0+s.length)*1) 140737488355328)=true by simp;omega,ct,A0g]
theorem uo {N:Nat} {l:List Int} {d e:Bool} {K:Nat→Bool→LA→O R} (A:l.length≤1000000000) (z:∀ v ∈ l,C8 v=true):∀ (m j fuel:Nat) (w:W),j+m=l.length→m<fuel→w.2.length≤1048576 →
  Ek N K (Ap l) l.length d e fuel (l.length:Int) (j:Int) w.2.length w.1 (At w.2)=KW K (Rh w ((l.drop j).map Pz))
 | 0,j,fuel+1,w,B,_,n=>by
  rw[Ek];unfold Qr
  rw[H2 (by omega),cf,A0k (by omega)];rfl
 | m+1,j,fuel+1,w,B,D,n=>by
  have h:j<l.length:=by omega
  have hn:=z _ (A0l h)
  have F:=um hn
  rw[Ek];unfold Qr
  rw[Gh h,ct,Aa h,ct,Az1,A0b,Hy h,A0d h,A0n,Gn]
  by_cases k:w.1=true
  ·rw[k,ct,iP k,V9 k];unfold KW;rw[k]
  ·have q:w.1=false:=by simpa using k
   rw[show(cond w.1 (K w.2.length w.1 (At w.2)):O R→O R)=fun x=>x by rw[q];rfl]
   rw[Atq hn,show ble (1+(Ci l[j]).length) 140737488355328=true by simp;omega,ct,wS (by omega)]
   have C:=fun w' (u:w'.2.length≤1048576)=>uo (N:=N) (d:=d) (e:=e) (K:=K) A z m (j+1) fuel w' (by omega) (by omega) u
   have:=T9 (R:=R) (N:=N) (s:=[32]++Ci l[j]) (w:=w) (K:=fun c f t=>Ek N K (Ap l) l.length d e fuel (l.length:Int) ((j+1:Nat):Int) c f t) n (by simp;omega)
   refine A12 this ?_
   exact C _ (XG n _)
theorem uq {N:Nat} {s:Lu} {l:List Int} {d e:Bool} {w:W} {K:Nat→Bool→LA→O R} (k:l.length≤1000000000) (hN:l.length<N) (n:∀ v ∈ l,C8 v=true) (j:w.2.length≤1048576) (hs:s.length≤900000000000) :
  J4 N s (Ap l) l.length d e w.2.length w.1 (At w.2) K=KW K (Rh w (some s::l.map Pz)):=by
 rw[QM];unfold AJ
 have:=T9 (R:=R) (N:=N) (s:=s) (w:=w) (K:=fun c f t=>Ek N K (Ap l) l.length d e N (l.length:Int) ((0:Nat):Int) c f t) j hs
 refine A12 this ?_
 rw[Gn]
 exact uo k n l.length 0 N _ (by omega) hN (XG j _)
theorem iR {N:Nat} {s:Lu} {l:List Int} {d e:Bool} {w:W} {K:Nat→Bool→LA→O R} (k:l.length≤1000000000) (hN:l.length<N) (n:∀ v ∈ l,C8 v=true) (j:w.2.length≤1048576) (hs:s.length≤900000000000) :
  Nt N s (Ap l) l.length d e w.2.length w.1 (At w.2) K=KW K (Rh w (some s::l.map Pz++[qI])):=by
 rw[UL];unfold UK
 rw[uq k hN n j hs,Px]
 exact T9 (K:=K) (Py _ j) (by decide)
theorem yv {N:Nat} {l:List Int} {d e:Bool} {A:O R} {K:Nat→Bool→LA→O R} (B:l.length≤1000000000) (z:∀ v ∈ l,C8 v=true):∀ (m j fuel:Nat) (w:W),j+m=l.length→m<fuel→w.2.length≤1048576 →
  J3 N A K (Ap l) l.length d e fuel (l.length:Int) (j:Int) w.2.length w.1 (At w.2)=KW K (Rh w ((l.drop j).map Pz))
 | 0,j,fuel+1,w,C,_,n=>by
  rw[J3];unfold AH
  rw[H2 (by omega),cf,A0k (by omega)];rfl
 | m+1,j,fuel+1,w,C,F,n=>by
  have h:j<l.length:=by omega
  have hn:=z _ (A0l h)
  have G:=um hn
  rw[J3];unfold AH
  rw[Gh h,ct,Aa h,ct,Az1,A0b,Hy h,A0d h,A0n,Gn]
  by_cases k:w.1=true
  ·rw[k,ct,iP k,V9 k];unfold KW;rw[k]
  ·have q:w.1=false:=by simpa using k
   rw[show(cond w.1 (K w.2.length w.1 (At w.2)):O R→O R)=fun x=>x by rw[q];rfl]
   rw[Atq hn,show ble (1+(Ci l[j]).length) 140737488355328=true by simp;omega,ct,wS (by omega)]
   have D:=fun w' (u:w'.2.length≤1048576)=>yv (N:=N) (d:=d) (e:=e) (A:=A) (K:=K) B z m (j+1) fuel w' (by omega) (by omega) u
   have:=T9 (R:=R) (N:=N) (s:=[32]++Ci l[j]) (w:=w) (K:=fun c f t=>J3 N A K (Ap l) l.length d e fuel (l.length:Int) ((j+1:Nat):Int) c f t) n (by simp;omega)
   refine A12 this ?_
   exact D _ (XG n _)
theorem Atr {N:Nat} {s:Lu} {l:List Int} {d e:Bool} {A:O R} {K:Nat→Bool→LA→O R} (k:l.length≤1000000000) (hN:l.length<N) (t:∀ v ∈ l,C8 v=true) (hs:s.length≤1048576) :
  AI N s (Ap l) l.length d e false A K=KW K (Rh (false,[]) (some s::l.map Pz++[qI])):=by
 have j:Ale (false,[]) (some s)=(false,s):=by unfold Ale;dsimp only;rw[if_neg (by simp;omega)];rfl
 rw[nS];unfold tq
 rw[gf];unfold W_
 rw[Aql hs]
 have:=yv (R:=R) (N:=N) (d:=false) (e:=e) (A:=Tr N [10] true A fun n o=>K n true o) (K:=fun i l m=>Cg N [10] i l m (K i true m) fun p q=>K p l q) k t l.length 0 N (false,s) (by omega) hN hs
 refine A12 this ?_
 rw[A0u,Gn,j,Px]
 exact T9 (K:=K) (Py _ hs) (by decide)
theorem KY {s:Sl Int} {r:LA} {f:LA→Nat→O R}:Aw 1 (s.av 1 Sh::r) f=f (Ap s.l) s.l.length:=by rw[A2,Ft]
theorem Ym {z:Int} {r:LA} {f:Int→O R}:As .i64 (.int .i64 z::r) f=f z:=Br
theorem Aw8 {N:Nat} {c:CutD} {f:Bool} {w:W} {K:Nat→Bool→LA→O R} (k:ku c.v) (t:c.units.l.length≤1000000000) (hN:c.units.l.length+10<N) (q:w.2.length≤1048576) :
  XA N c.av f w.2.length w.1 (At w.2) K=KW K (Rh w (xJ c.v)):=by
 obtain⟨kind,j,units,least,unit,len⟩:=c
 simp only[CutD.v] at k t hN
 obtain⟨hh,k⟩:=k
 simp only at hh k
 rw[aE];unfold dK
 show As .i64 (.int .i64 kind::_) _=_
 rw[Ym]
 rcases k with⟨rfl,z,u,rfl,rfl⟩ | ⟨rfl,u,rfl,A,B⟩
 ·rw[show((0:Int)==1)=false from rfl,cf]
  show As .i64 (.int .i64 j::_) _=_
  rw[Ym]
  show As .i64 (.int .i64 least::_) _=_
  rw[Ym]
  refine A12 (uq (N:=N) (s:=DW) (l:=[j,least]) (w:=w) (by simp) (by simp;omega) (fun v n=>by
   simp only[Az7,A08,or_false] at n
   rcases n with rfl | rfl
   ·exact hh
   ·exact z) q (by decide)) ?_
  unfold KW
  dsimp only
  show Aw 1 (units.av 1 Sh::_) _=_
  rw[KY]
  refine A12 (uq (N:=N) (s:=[]) (l:=units.l) t (by omega) u (Py _ q) (by decide)) ?_
  have e:xJ (CutD.v ⟨0,j,units,least,0,0⟩)=(some DW::[Pz j,Pz least])++((some []::units.l.map Pz)++[qI]):=rfl
  rw[e,Px,Px]
  exact T9 (K:=K) (Py _ (Py _ q)) (by decide)
 ·rw[show((1:Int)==1)=true from rfl,ct]
  show As .i64 (.int .i64 j::_) _=_
  rw[Ym]
  show As .i64 (.int .i64 unit::_) _=_
  rw[Ym]
  show As .i64 (.int .i64 len::_) _=_
  rw[Ym]
  exact iR (N:=N) (s:=KU) (l:=[j,unit,len]) (w:=w) (by simp) (by simp;omega) (fun v n=>by
   simp only[Az7,A08,or_false] at n
   rcases n with rfl | rfl | rfl
   ·exact hh
   ·exact A
   ·exact B) q (by decide)
theorem yw {N M:Nat} {l:List EntD} {d e:Bool} {K:Nat→Bool→LA→O R} (G:l.length≤1000000000) (u:fit (20*M+100) N) (C:∀ p ∈ l,Ahh M p∧C8 p.i=true):∀ (m j fuel:Nat) (w:W),j+m=l.length→m<fuel→w.2.length≤1048576 →
  C7 N K (l.flatMap EntD.av) l.length d e fuel (l.length:Int) (j:Int) w.2.length w.1 (At w.2)=KW K (Rh w ((l.drop j).map (fun p=>kw p.p)++[qI]))
 | 0,j,fuel+1,w,I,_,z=>by
  rw[C7];unfold Ms
  rw[H2 (by omega),cf,A0k (by omega)]
  exact T9 (K:=K) z (by decide)
 | m+1,j,fuel+1,w,I,L,z=>by
  have U:=u.1;have V:=u.2
  have h:j<l.length:=by omega
  obtain⟨⟨D,X⟩,hn⟩:=C _ (A0l h)
  have Y:=um hn
  have hr:=yu D
  have S:take 4 (drop (Int.toNat (j:Int)*4) (l.flatMap EntD.av))=EntD.av l[j]:=by
   rw[Az1,Be G9 l j h];rfl
  have A:drop (Int.toNat (j:Int)*4) (l.flatMap EntD.av)=EntD.av l[j]++(l.drop (j+1)).flatMap EntD.av:=by
   rw[Az1,Be G9 l j h]
  rw[C7];unfold Ms
  rw[Gh h,ct,Aa h,ct,S,A,show ble 4 (EntD.av l[j]++(l.drop (j+1)).flatMap EntD.av).length=true by rw[Az2,G9];simp,ct,
   show((beq 0 0)&&((beq (EntD.av l[j]).length 4)&&(beq 4 4)))=true from rfl,ct]
  rw[A0d h,A0n,A0u,Gn]
  by_cases k:w.1=true
  ·rw[k,ct,iP k,V9 k];unfold KW;rw[k]
  ·have B:w.1=false:=by simpa using k
   rw[show(cond w.1 (K w.2.length w.1 (At w.2)):O R→O R)=fun x=>x by rw[B];rfl]
   dsimp only
   rw[show ble 3 (drop 1 (EntD.av l[j])).length=true from rfl,ct,show take 3 (drop 1 (EntD.av l[j]))=(l[j]).v.av from rfl]
   rw[Ava (Z:=K w.2.length true (At w.2)) D (u.le (by omega)) (fun s=>rfl)]
   have T:kw (EntD.p l[j])=if Hf (D5 (l[j]).v.q)≤4096 then some (32::Pe (EntD.p l[j])) else none:=rfl
   rw[T]
   by_cases n:Hf (D5 (l[j]).v.q)≤4096
   ·rw[if_pos n,if_pos n,show(!true)=false from rfl,cf]
    rw[show As .i64 (EntD.av l[j])=fun (F:Int→O R)=>F (l[j]).i from funext fun F=>Ym]
    dsimp only
    rw[Atq hn,show ble (1+(Ci (l[j]).i).length) 140737488355328=true by simp;omega,ct,
     show ble (List.length (([32]:Lu)++Ci (l[j]).i)+1) 140737488355328=true by rw[Az2,A0t];simp;omega,ct,
     show ble (List.length ((([32]:Lu)++Ci (l[j]).i)++([58]:Lu))+(D5 (l[j]).v.q).length) 140737488355328=true by rw[Az2,Az2,A0t,A0t];simp;omega,ct,wS (by omega)]
    have e1:(([32]:Lu)++Ci (l[j]).i++[58])++D5 (l[j]).v.q=32::Pe (EntD.p l[j]):=by
     show _=32::(Ci (l[j]).i++58::D5 (l[j]).v.q)
     simp
    rw[e1]
    have:=T9 (R:=R) (N:=N) (s:=32::Pe (EntD.p l[j])) (w:=w) (K:=fun c f t=>C7 N K (l.flatMap EntD.av) l.length d e fuel (l.length:Int) ((j+1:Nat):Int) c f t) z (by
     show(32::(Ci (l[j]).i++58::D5 (l[j]).v.q)).length≤_
     rw[Az5,Az2,Az5];omega)
    refine A12 this ?_
    exact yw G u C m (j+1) fuel _ (by omega) (by omega) (XG z _)
   ·rw[if_neg n,if_neg n,V9 (by rfl)];rfl
theorem Ana {N M:Nat} {s:Lu} {l:List EntD} {b d e:Bool} {w:W} {K:Nat→Bool→LA→O R} (k:l.length≤1000000000) (hN:l.length<N) (n:fit (20*M+100) N) (q:∀ p ∈ l,Ahh M p∧C8 p.i=true) (j:w.2.length≤1048576) (hs:s.length≤900000000000) :
  L6 N s (l.flatMap EntD.av) l.length d e w.2.length w.1 (At w.2) K=KW K (Rh w ((some s::(l.map EntD.p).map kw)++[qI])):=by
 rw[GE];unfold Ty
 have:=T9 (R:=R) (N:=N) (s:=s) (w:=w) (K:=fun c f t=>C7 N K (l.flatMap EntD.av) l.length d e N (l.length:Int) ((0:Nat):Int) c f t) j hs
 refine A12 this ?_
 rw[A0u,Gn,A25]
 exact yw k n q l.length 0 N _ (by omega) hN (XG j _)
theorem Avb {N M:Nat} {n:NodeD} {f:Bool} {w:W} {K:Nat→Bool→LA→O R} {A:O R} (hn:(n.kind=0∧C8 n.unit=true∧C8 n.hour=true)∨((n.kind=1∨n.kind=2)∧∀ p ∈ n.y.l,C8 p.i=true)∨(n.kind=3∧C8 n.unit=true)∨(n.kind=4∧C8 n.unit=true∧C8 n.hour=true∧C8 n.other=true))
  (u:n.y.l.length≤1000000000) (hN:n.y.l.length+10<N) (B:fit (20*M+100) N) (j:∀ p ∈ n.y.l,Ahh M p) (k:w.2.length≤1048576) :
  OJ N n.av f w.2.length w.1 (At w.2) K A=KW K (Rh w (aY n.v)):=by
 obtain⟨kind,unit,e,other,y⟩:=n
 simp only at hn u hN j
 rw[UU];unfold UT
 show As .i64 (.int .i64 kind::_) _=_
 rw[Ym]
 have F:∀ l:List Int,(∀ v,v ∈ l→C8 v=true)→∀ v ∈ l,C8 v=true:=fun _ h=>h
 rcases hn with⟨rfl,q,z⟩ | ⟨C,h⟩ | ⟨rfl,q⟩ | ⟨rfl,q,z,D⟩
 ·rw[show((0:Int)==0)=true from rfl,ct]
  show As .i64 (.int .i64 unit::_) _=_
  rw[Ym]
  show As .i64 (.int .i64 e::_) _=_
  rw[Ym]
  exact iR (N:=N) (s:=Xm) (l:=[unit,e]) (w:=w) (by simp) (by simp;omega) (fun v j=>by
   simp only[Az7,A08,or_false] at j
   rcases j with rfl | rfl
   ·exact q
   ·exact z) k (by decide)
 ·rcases C with rfl | rfl
  ·rw[show((1:Int)==0)=false from rfl,cf,show((1:Int)==1)=true from rfl,ct]
   show Aw 4 (y.av 4 EntD.av::_) _=_
   rw[A2]
   exact Ana (N:=N) (b:=f) (s:=VK) u (by omega) B (fun p t=>⟨j p t,h p t⟩) k (by decide)
  ·rw[show((2:Int)==0)=false from rfl,cf,show((2:Int)==1)=false from rfl,cf,show((2:Int)==2)=true from rfl,ct]
   show Aw 4 (y.av 4 EntD.av::_) _=_
   rw[A2]
   exact Ana (N:=N) (b:=f) (s:=OX) u (by omega) B (fun p t=>⟨j p t,h p t⟩) k (by decide)
 ·rw[show((3:Int)==0)=false from rfl,cf,show((3:Int)==1)=false from rfl,cf,show((3:Int)==2)=false from rfl,cf,show((3:Int)==3)=true from rfl,ct]
  show As .i64 (.int .i64 unit::_) _=_
  rw[Ym]
  exact iR (N:=N) (s:=VL) (l:=[unit]) (w:=w) (by simp) (by simp;omega) (fun v j=>by
   simp only[Az7,A08,or_false] at j
   subst j
   exact q) k (by decide)
 ·rw[show((4:Int)==0)=false from rfl,cf,show((4:Int)==1)=false from rfl,cf,show((4:Int)==2)=false from rfl,cf,show((4:Int)==3)=false from rfl,cf,show((4:Int)==4)=true from rfl,ct]
  show As .i64 (.int .i64 unit::_) _=_
  rw[Ym]
  show As .i64 (.int .i64 other::_) _=_
  rw[Ym]
  show As .i64 (.int .i64 e::_) _=_
  rw[Ym]
  exact iR (N:=N) (s:=Y5) (l:=[unit,other,e]) (w:=w) (by simp) (by simp;omega) (fun v j=>by
   simp only[Az7,A08,or_false] at j
   rcases j with rfl | rfl | rfl
   ·exact q
   ·exact D
   ·exact z) k (by decide)
theorem Ew {N:Nat} {v:Int} {K:Bool→O R}:L5 N v K=K (C8 v):=by
 rw[Z_];unfold dF C8
 by_cases h:0≤v
 ·rw[show(decide (v≥0)==true)=true by simp;omega,ct,decide_eq_true h];rfl
 ·rw[show(decide (v≥0)==true)=false by simp;omega,cf,decide_eq_false h];rfl
def Ha (has:Bool) (v:Int):Bool:=cond has (C8 v) (v==0)
theorem Wa {N:Nat} {e:Bool} {v:Int} {K:Bool→O R}:To N e v K=K (Ha e v):=by
 rw[gU];unfold kV Ha
 cases e
 ·rfl
 ·exact Ew
def Ahl (d:Bool) (c:CutV):Bool:=C8 c.hour&&(Ha d c.least&&(Ha (!d) c.unit&&Ha (!d) c.len))
theorem JN {N:Nat} {d f:Bool} {c:CutD} {K:Bool→O R} (k:c.units.l.length≤1000000000):∀ (m j fuel:Nat),j+m=c.units.l.length→m<fuel →
  Jn N K d (Ap c.units.l) c.units.l.length f c.av fuel (c.units.l.length:Int) (j:Int)=K ((c.units.l.drop j).all C8&&Ahl d c.v)
 | 0,j,fuel+1,n,_=>by
  rw[Jn];unfold Ql
  rw[H2 (by omega),cf,show drop j c.units.l=[] from A0k (by omega),A3z,A1n]
  obtain⟨kind,e,units,least,unit,len⟩:=c
  unfold Ahl CutD.v
  show As .i64 (.int .i64 e::_) _=_
  rw[Ym,Ew]
  cases C8 e
  ·rfl
  ·rw[show((true:Bool)==true)=true from rfl,ct]
   show As .i64 (.int .i64 least::_) _=_
   rw[Ym,Wa]
   dsimp only
   cases Ha d least
   ·rfl
   ·rw[show((cond true true false:Bool)==true)=true from rfl,ct]
    show As .i64 (.int .i64 unit::_) _=_
    rw[Ym,Wa]
    cases Ha (!d) unit
    ·rfl
    ·rw[show((cond true true false:Bool)==true)=true from rfl,ct]
     show As .i64 (.int .i64 len::_) _=_
     rw[Ym,Wa]
     cases Ha (!d) len<;>rfl
 | m+1,j,fuel+1,n,q=>by
  have h:j<c.units.l.length:=by omega
  rw[Jn];unfold Ql
  rw[Gh h,ct,Aa h,ct,Az1,A0b,Hy h,Ew,A0d h,A1d]
  cases C8 c.units.l[j]
  ·rfl
  ·rw[show(!true)=false from rfl,cf,wS (by omega),JN k m (j+1) fuel (by omega) (by omega),A1n]
theorem xL {N:Nat} {f:Bool} {c:CutD} (z:c.units.l.length≤1000000000) (hN:c.units.l.length<N):∃ r:Bool,(r=true↔ku c.v)∧∀ K:Bool→O R,Ru N c.av f K=K r:=by
 have go:∀ (d:Bool) (K:Bool→O R),Tp N K f c.av d=K (c.units.l.all C8&&Ahl d c.v):=fun d K=>by
  unfold Tp Yy
  show Aw 1 (c.units.av 1 Sh::_) _=_
  rw[KY]
  have:=JN (R:=R) (N:=N) (d:=d) (f:=f) (K:=K) z c.units.l.length 0 N (by omega) hN
  rwa [A00] at this
 have rk:∀ F:Int→O R,As .i64 c.av F=F c.kind:=fun F=>Ym
 by_cases s:c.kind=0
 ·refine⟨c.units.l.all C8&&Ahl true c.v,?_,fun K=>?_⟩
  ·unfold Ahl ku Ha
   simp only[CutD.v,A0a,A05,A3f,cond_true,cond_false,beq_iff_eq,s]
   constructor
   ·rintro⟨e,j,k,n,q⟩
    exact⟨j,.inl ⟨trivial,k,e,n,q⟩⟩
   ·rintro⟨j,⟨_,k,e,n,q⟩ | ⟨h,_⟩⟩
    ·exact⟨e,j,k,n,q⟩
    ·exact absurd h (by decide)
  ·rw[Qn];unfold Oq
   rw[rk,s,show(((0:Int) != 0)==true)=false from rfl,cf]
   unfold Ns Qm
   rw[rk,s,show((!((0:Int)==0))==true)=false from rfl,cf]
   exact go _ K
 ·by_cases e:c.kind=1
  ·have u:∀ K:Bool→O R,Ru N c.av f K=cond (decide ((c.units.l.length:Int)>0)) (K false) (K (c.units.l.all C8&&Ahl false c.v)):=fun K=>by
    rw[Qn];unfold Oq
    rw[rk,e,show(((1:Int) != 0)==true)=true from rfl,ct,rk,e,show(cond true ((1:Int) != 1) false)=false from rfl,cf]
    unfold Ns Qm
    rw[rk,e,show((!((1:Int)==0))==true)=true from rfl,ct]
    show Aw 1 (c.units.av 1 Sh::_) _=_
    rw[KY]
    cases A:decide ((c.units.l.length:Int)>0)
    ·exact go _ K
    ·rfl
   by_cases t:c.units.l=[]
   ·refine⟨Ahl false c.v,?_,fun K=>?_⟩
    ·unfold Ahl ku Ha
     simp only[CutD.v,A0a,A2c,cond_true,cond_false,beq_iff_eq,e,t]
     constructor
     ·rintro⟨j,k,n,q⟩
      exact⟨j,.inr ⟨trivial,trivial,k,n,q⟩⟩
     ·rintro⟨j,⟨h,_⟩ | ⟨_,_,k,n,q⟩⟩
      ·exact absurd h (by decide)
      ·exact⟨j,k,n,q⟩
    ·rw[u,t];rfl
   ·refine⟨false,⟨fun h=>(by cases h),?_⟩,fun K=>?_⟩
    ·rintro⟨_,⟨h,_⟩ | ⟨_,h,_⟩⟩
     ·exact absurd h s
     ·exact absurd h t
    ·have:=A13.2 t
     rw[u,decide_eq_true (by omega),ct]
  ·refine⟨false,⟨fun h=>(by cases h),?_⟩,fun K=>?_⟩
   ·rintro⟨_,⟨h,_⟩ | ⟨h,_⟩⟩
    ·exact absurd h s
    ·exact absurd h e
   ·rw[Qn];unfold Oq
    rw[rk,show((c.kind != 0)==true)=true by simpa using s,ct,rk,show(cond true (c.kind != 1) false)=true by simpa using e,ct]
def Ats (p:Int×Rat):Prop:=C8 p.1=true∧p.2≠0
def Uv (n:NodeV):Prop :=
 (n.kind=0∧C8 n.unit=true∧C8 n.hour=true∧n.other=0∧n.y=[]) ∨
 ((n.kind=1∨n.kind=2)∧n.unit=0∧n.hour=0∧n.other=0∧∀ p ∈ n.y,Ats p) ∨
 (n.kind=3∧C8 n.unit=true∧n.hour=0∧n.other=0∧n.y=[]) ∨
 (n.kind=4∧C8 n.unit=true∧C8 n.hour=true∧C8 n.other=true∧n.y=[])
theorem lA {n:NodeV}:Ahe n↔Uv n∧∀ p ∈ n.y,Hf (D5 p.2)≤4096:=by
 unfold Ahe Uv u_ Ats
 constructor
 ·rintro(⟨j,k,q,s,e⟩ | ⟨j,k,q,s,e⟩ | ⟨j,k,q,s,e⟩ | ⟨j,k,q,s,e⟩)
  ·exact⟨.inl ⟨j,k,q,s,e⟩,by rw[e];simp⟩
  ·exact⟨.inr (.inl ⟨j,k,q,s,fun p t=>⟨(e p t).1,(e p t).2.1⟩⟩),fun p t=>(e p t).2.2⟩
  ·exact⟨.inr (.inr (.inl ⟨j,k,q,s,e⟩)),by rw[e];simp⟩
  ·exact⟨.inr (.inr (.inr ⟨j,k,q,s,e⟩)),by rw[e];simp⟩
 ·rintro⟨⟨j,k,q,s,e⟩ | ⟨j,k,q,s,e⟩ | ⟨j,k,q,s,e⟩ | ⟨j,k,q,s,e⟩,u⟩
  ·exact .inl ⟨j,k,q,s,e⟩
  ·exact .inr (.inl ⟨j,k,q,s,fun p t=>⟨(e p t).1,(e p t).2,u p t⟩⟩)
  ·exact .inr (.inr (.inl ⟨j,k,q,s,e⟩))
  ·exact .inr (.inr (.inr ⟨j,k,q,s,e⟩))
theorem yx (q:Rat):(q.num.sign==0)=decide (q=0):=by
 by_cases h:q=0
 ·subst h;rfl
 ·have:q.num≠0:=fun e=>h (A5n.1 e)
  rw[decide_eq_false h,beq_eq_false_iff_ne]
  intro e;exact this (A4y.1 e)
def Y6 (p:Int×Rat):Bool:=C8 p.1&&!decide (p.2=0)
def DX (a b c d:Bool):LA:=[.bool a,.bool b,.bool c,.bool d]
def VO (a b c:Bool) (n:NodeD):Bool:=Ha a n.unit&&(Ha b n.hour&&Ha c n.other)
theorem yy {N M:Nat} {f:Bool} {n:NodeD} {a b c d:Bool} {K:Bool→O R} (z:n.y.l.length≤1000000000) (t:fit M N) (u:∀ p ∈ n.y.l,Ahh M p):∀ (m j fuel:Nat),j+m=n.y.l.length→m<fuel →
  Ht N K (n.y.l.flatMap EntD.av) n.y.l.length f n.av (DX a b c d) fuel (n.y.l.length:Int) (j:Int)=K ((n.y.l.drop j).all (fun e=>Y6 e.p)&&VO a b c n)
 | 0,j,fuel+1,A,_=>by
  rw[Ht];unfold Ot
  rw[H2 (by omega),cf,show drop j n.y.l=[] from A0k (by omega),A3z,A1n]
  obtain⟨kind,unit,k,other,y⟩:=n
  unfold VO DX
  rw[y7]
  show As .i64 (.int .i64 unit::_) _=_
  rw[Ym,Wa]
  dsimp only
  cases Ha a unit
  ·rfl
  ·rw[show((true:Bool)==true)=true from rfl,ct]
   show Ud (.bool b::_) _=_
   rw[y7]
   show As .i64 (.int .i64 k::_) _=_
   rw[Ym,Wa]
   cases Ha b k
   ·rfl
   ·rw[show((cond true true false:Bool)==true)=true from rfl,ct]
    show Ud (.bool c::_) _=_
    rw[y7]
    show As .i64 (.int .i64 other::_) _=_
    rw[Ym,Wa]
    cases Ha c other<;>rfl
 | m+1,j,fuel+1,A,B=>by
  have h:j<n.y.l.length:=by omega
  obtain⟨C,D⟩:=u _ (A0l h)
  have G:take 4 (drop (Int.toNat (j:Int)*4) (n.y.l.flatMap EntD.av))=EntD.av n.y.l[j]:=by
   rw[Az1,Be G9 n.y.l j h];rfl
  have s:drop (Int.toNat (j:Int)*4) (n.y.l.flatMap EntD.av)=EntD.av n.y.l[j]++(n.y.l.drop (j+1)).flatMap EntD.av:=by
   rw[Az1,Be G9 n.y.l j h]
  rw[Ht];unfold Ot
  rw[Gh h,ct,Aa h,ct,G,s,show ble 4 (EntD.av n.y.l[j]++(n.y.l.drop (j+1)).flatMap EntD.av).length=true by rw[Az2,G9];simp,ct,
   show((beq 0 0)&&((beq (EntD.av n.y.l[j]).length 4)&&(beq 4 4)))=true from rfl,ct]
  rw[show As .i64 (EntD.av n.y.l[j])=fun (F:Int→O R)=>F (n.y.l[j]).i from funext fun F=>Ym]
  dsimp only
  rw[Ew,A0d h,A1d]
  have I:Y6 (EntD.p n.y.l[j])=(C8 (n.y.l[j]).i&&!decide ((n.y.l[j]).v.q=0)):=rfl
  rw[I]
  cases C8 (n.y.l[j]).i
  ·rfl
  ·rw[show((!true)==false)=true from rfl,ct,show ble 3 (drop 1 (EntD.av n.y.l[j])).length=true from rfl,ct,show take 3 (drop 1 (EntD.av n.y.l[j]))=(n.y.l[j]).v.av from rfl]
   rw[tQ C (t.le D),yx]
   cases decide ((n.y.l[j]).v.q=0)
   ·rw[show(cond false true false:Bool)=false from rfl,cf,wS (by omega),yy z t u m (j+1) fuel (by omega) (by omega)];rfl
   ·rfl
theorem Ahm {N:Nat} {k:Int} {K:LA→Bool→O R}:KA N k K=if k=0 then K (DX true true false false) true else if k=1∨k=2 then K (DX false false false true) true else if k=3 then K (DX true false false false) true else if k=4 then K (DX true true true false) true else K (DX false false false false) false:=by
 rw[aA];unfold OD
 by_cases e:k=0
 ·subst e;rfl
 rw[show(k==0)=false by simpa using e,cf,if_neg e]
 by_cases q:k=1
 ·subst q;rfl
 rw[show(k==1)=false by simpa using q,cf]
 by_cases s:k=2
 ·subst s;rfl
 rw[show(k==2)=false by simpa using s,if_neg (by omega)]
 unfold AF
 rw[cf]
 by_cases j:k=3
 ·subst j;rfl
 rw[show(k==3)=false by simpa using j,cf,if_neg j]
 by_cases n:k=4
 ·subst n;rfl
 rw[show(k==4)=false by simpa using n,cf,if_neg n];rfl
theorem Avc {l:List EntD}:l.all (fun e=>Y6 e.p)=true↔∀ p ∈ l.map EntD.p,Ats p:=by
 rw[A05]
 unfold Y6 Ats
 constructor
 ·intro h p k
  obtain⟨e,j,rfl⟩:=A04.1 k
  simpa using h e j
 ·intro h e j
  simpa using h _ (A2r j)
theorem ur {N M:Nat} {f:Bool} {n:NodeD} (B:n.y.l.length≤1000000000) (hN:n.y.l.length<N) (C:fit M N) (D:∀ p ∈ n.y.l,Ahh M p):∃ r:Bool,(r=true↔Uv n.v)∧∀ K:Bool→O R,Ou N n.av f K=K r:=by
 have rk:∀ F:Int→O R,As .i64 n.av F=F n.kind:=fun F=>Ym
 have ry:∀ F:LA→Nat→O R,Aw 4 (drop 4 n.av) F=F (n.y.l.flatMap EntD.av) n.y.l.length:=fun F=>by
  show Aw 4 (n.y.av 4 EntD.av::_) _=_
  rw[A2]
 have go:∀ (a b c d:Bool) (K:Bool→O R),F1 N K f n.av (DX a b c d)=K (n.y.l.all (fun e=>Y6 e.p)&&VO a b c n):=fun a b c d K=>by
  unfold F1 V1
  rw[ry]
  have:=yy (R:=R) (N:=N) (f:=f) (n:=n) (a:=a) (b:=b) (c:=c) (d:=d) (K:=K) B C D n.y.l.length 0 N (by omega) hN
  rwa [A00] at this
 have st:∀ (a b c d:Bool) (K:Bool→O R),cond ((beq (DX a b c d).length 4)&&((ble 4 4)&&(!false))) (cond ((!true)==false) (Ud ((setCells [(.bool false),(.bool false),(.bool false),(.bool false)] 0 (DX a b c d)).drop 3) fun ab=>cond ((!ab)==true) (Aw 4 (drop 4 n.av) fun _ ac=>cond (cond false true (cond true (decide ((ac:Int)>0)) false)) (K false) (F1 N K f n.av (setCells [(.bool false),(.bool false),(.bool false),(.bool false)] 0 (DX a b c d)))) (F1 N K f n.av (setCells [(.bool false),(.bool false),(.bool false),(.bool false)] 0 (DX a b c d)))) (K false)) none
   = cond (!d&&decide ((n.y.l.length:Int)>0)) (K false) (K (n.y.l.all (fun e=>Y6 e.p)&&VO a b c n)):=fun a b c d K=>by
  rw[show((beq (DX a b c d).length 4)&&((ble 4 4)&&(!false)))=true from rfl,ct,show((!true)==false)=true from rfl,ct,show setCells [(.bool false),(.bool false),(.bool false),(.bool false)] 0 (DX a b c d)=DX a b c d from rfl]
  show Ud (.bool d::_) _=_
  rw[y7,go]
  cases d
  ·rw[show((!false)==true)=true from rfl,ct,ry]
   cases decide ((n.y.l.length:Int)>0)<;>rfl
  ·rfl
 have len0:(decide ((n.y.l.length:Int)>0))=false↔n.y.l.map EntD.p=[]:=by
  rw[decide_eq_false_iff_not,A53,←A3m];omega
 have fin:∀ (a b c d:Bool),(∃ r:Bool,(r=true↔(d=true∨n.y.l.map EntD.p=[])∧(∀ p ∈ n.y.l.map EntD.p,Ats p)∧Ha a n.unit=true∧Ha b n.hour=true∧Ha c n.other=true)∧∀ K:Bool→O R,cond (!d&&decide ((n.y.l.length:Int)>0)) (K false) (K (n.y.l.all (fun e=>Y6 e.p)&&VO a b c n))=K r):=fun a b c d=>by
  refine⟨(!(!d&&decide ((n.y.l.length:Int)>0)))&&(n.y.l.all (fun e=>Y6 e.p)&&VO a b c n),?_,fun K=>?_⟩
  ·unfold VO
   rw[A0a,A0a,A0a,A0a,Avc,←len0]
   cases d<;>simp
  ·cases hq:(!d&&decide ((n.y.l.length:Int)>0))<;>rfl
 have key:∀ K:Bool→O R,Ou N n.av f K=if n.kind=0 then cond (!false&&decide ((n.y.l.length:Int)>0)) (K false) (K (n.y.l.all (fun e=>Y6 e.p)&&VO true true false n)) else if n.kind=1∨n.kind=2 then cond (!true&&decide ((n.y.l.length:Int)>0)) (K false) (K (n.y.l.all (fun e=>Y6 e.p)&&VO false false false n)) else if n.kind=3 then cond (!false&&decide ((n.y.l.length:Int)>0)) (K false) (K (n.y.l.all (fun e=>Y6 e.p)&&VO true false false n)) else if n.kind=4 then cond (!false&&decide ((n.y.l.length:Int)>0)) (K false) (K (n.y.l.all (fun e=>Y6 e.p)&&VO true true true n)) else K false:=fun K=>by
  rw[KB];unfold W9
  rw[rk,Ahm,st,st,st,st];rfl
 by_cases t:n.kind=0
 ·obtain⟨r,u,z⟩:=fin true true false false
  refine⟨r,u.trans ?_,fun K=>by rw[key,if_pos t];exact z K⟩
  unfold Uv NodeD.v Ha
  simp only[t,cond_true,cond_false,beq_iff_eq]
  constructor
  ·rintro⟨h | h,_,k,s,j⟩
   ·cases h
   ·exact .inl ⟨trivial,k,s,j,h⟩
  ·rintro(⟨_,k,s,j,q⟩ | ⟨h | h,_⟩ | ⟨h,_⟩ | ⟨h,_⟩)
   ·exact⟨.inr q,by rw[q];simp,k,s,j⟩
   ·exact absurd h (by decide)
   ·exact absurd h (by decide)
   ·exact absurd h (by decide)
   ·exact absurd h (by decide)
 by_cases k:n.kind=1∨n.kind=2
 ·obtain⟨r,u,z⟩:=fin false false false true
  refine⟨r,u.trans ?_,fun K=>by rw[key,if_neg t,if_pos k];exact z K⟩
  unfold Uv NodeD.v Ha
  simp only[cond_false,beq_iff_eq]
  constructor
  ·rintro⟨_,s,j,q,A⟩
   exact .inr (.inl ⟨k,j,q,A,s⟩)
  ·rintro(⟨h,_⟩ | ⟨_,j,q,A,s⟩ | ⟨h,_⟩ | ⟨h,_⟩)
   ·exact absurd h t
   ·exact⟨.inl trivial,s,j,q,A⟩
   ·omega
   ·omega
 by_cases j:n.kind=3
 ·obtain⟨r,u,z⟩:=fin true false false false
  refine⟨r,u.trans ?_,fun K=>by rw[key,if_neg t,if_neg k,if_pos j];exact z K⟩
  unfold Uv NodeD.v Ha
  simp only[j,cond_true,cond_false,beq_iff_eq]
  constructor
  ·rintro⟨h | h,_,k,s,j⟩
   ·cases h
   ·exact .inr (.inr (.inl ⟨trivial,k,s,j,h⟩))
  ·rintro(⟨h,_⟩ | ⟨h | h,_⟩ | ⟨_,k,s,j,q⟩ | ⟨h,_⟩)
   ·exact absurd h (by decide)
   ·exact absurd h (by decide)
   ·exact absurd h (by decide)
   ·exact⟨.inr q,by rw[q];simp,k,s,j⟩
   ·exact absurd h (by decide)
 by_cases q:n.kind=4
 ·obtain⟨r,u,z⟩:=fin true true true false
  refine⟨r,u.trans ?_,fun K=>by rw[key,if_neg t,if_neg k,if_neg j,if_pos q];exact z K⟩
  unfold Uv NodeD.v Ha
  simp only[q,cond_true]
  constructor
  ·rintro⟨h | h,_,k,s,j⟩
   ·cases h
   ·exact .inr (.inr (.inr ⟨trivial,k,s,j,h⟩))
  ·rintro(⟨h,_⟩ | ⟨h | h,_⟩ | ⟨h,_⟩ | ⟨_,k,s,j,q⟩)
   ·exact absurd h (by decide)
   ·exact absurd h (by decide)
   ·exact absurd h (by decide)
   ·exact absurd h (by decide)
   ·exact⟨.inr q,by rw[q];simp,k,s,j⟩
 ·refine⟨false,⟨fun h=>(by cases h),?_⟩,fun K=>by rw[key,if_neg t,if_neg k,if_neg j,if_neg q]⟩
  unfold Uv NodeD.v
  rintro(⟨h,_⟩ | ⟨h,_⟩ | ⟨h,_⟩ | ⟨h,_⟩)
  ·exact absurd h t
  ·exact absurd h k
  ·exact absurd h j
  ·exact absurd h q
end
end Gx.Bl
namespace Gx.Bl
open Go Go.Proofs Gx.Cf
section
variable {R:Type}
theorem Em {α:Type} {e:α→LA} {sz:Nat} (k:∀ a,(e a).length=sz) {l:List α} {j:Nat} (h:j<l.length):drop (Int.toNat (j:Int)*sz) (l.flatMap e)=e l[j]++(l.drop (j+1)).flatMap e:=by
 rw[Az1,Be k l j h]
theorem Hv {α:Type} {e:α→LA} {sz:Nat} (j:∀ a,(e a).length=sz) (a:α) (r:LA):take sz (e a++r)=e a:=by
 rw[List.take_append_of_le_length (by rw[j];exact Az3 _),Az0 (by rw[j];exact Az3 _)]
theorem Lt {α:Type} {e:α→LA} {sz:Nat} (j:∀ a,(e a).length=sz) (a:α) (r:LA):ble sz (e a++r).length=true:=by
 rw[Az2,j];simp
theorem XI {α:Type} {e:α→LA} {sz:Nat} (j:∀ a,(e a).length=sz) (a:α):take sz (e a)=e a:=Az0 (by rw[j];exact Az3 _)
section valid
open Classical
theorem Ahn {N M:Nat} {f:Bool} {l:List NodeD} {K:Bool→O R} (t:l.length≤1000000000) (q:fit M N) (s:∀ n ∈ l,aX M 1000000000 n∧n.y.l.length<N):∀ (m j fuel:Nat),j+m=l.length→m<fuel →
  Jo N K (l.flatMap NodeD.av) l.length f fuel (l.length:Int) (j:Int)=K (decide (∀ n ∈ l.drop j,Uv n.v))
 | 0,j,fuel+1,u,_=>by
  rw[Jo];unfold Qo
  rw[H2 (by omega),cf,show drop j l=[] from A0k (by omega)]
  simp
 | m+1,j,fuel+1,u,z=>by
  have h:j<l.length:=by omega
  obtain⟨⟨A,B⟩,C⟩:=s _ (A0l h)
  obtain⟨r,k,D⟩:=ur (R:=R) (N:=N) (M:=M) (f:=f) (n:=l[j]) A C q B
  rw[Jo];unfold Qo
  rw[Gh h,ct,Aa h,ct,Em B7 h,Lt B7,ct,Hv B7,
   show((beq 0 0)&&((beq (NodeD.av l[j]).length 5)&&(beq 5 5)))=true from rfl,ct,show ble 5 (NodeD.av l[j]).length=true from rfl,ct,XI B7,D,A0d h]
  cases hr:r
  ·rw[hr] at k
   have:¬ Uv (l[j]).v:=fun e=>by have:=k.2 e;cases this
   rw[decide_eq_false (fun e=>this (e _ (A37 ..)))];rfl
  ·have:=k.1 hr
   rw[show(!true)=false from rfl,cf,wS (by omega),Ahn t q s m (j+1) fuel (by omega) (by omega)]
   congr 1
   rw[decide_eq_decide,A4k];exact⟨fun h=>by first | exact⟨this,h⟩ | exact⟨⟨this,h.1⟩,h.2⟩,fun h=>by first | exact h.2 | exact⟨h.1.2,h.2⟩⟩
theorem Anb {N M:Nat} {f:Bool} {x:LogD} {K:Bool→O R} (k:LogG M 1000000000 x) (s:fit M N) (hN:1000000000<N):∀ (m j fuel:Nat),j+m=x.cuts.l.length→m<fuel →
  Jp N K (x.cuts.l.flatMap CutD.av) x.cuts.l.length f x.av fuel (x.cuts.l.length:Int) (j:Int)=K (decide ((∀ c ∈ x.cuts.l.drop j,ku c.v)∧∀ n ∈ x.nodes.l,Uv n.v))
 | 0,j,fuel+1,t,_=>by
  rw[Jp];unfold Qp
  rw[H2 (by omega),cf,show drop j x.cuts.l=[] from A0k (by omega)]
  show Aw 5 (x.nodes.av 5 NodeD.av::_) _=_
  rw[A2]
  have:=Ahn (R:=R) (N:=N) (f:=f) (K:=K) k.nodes s (fun n hn=>⟨k.node n hn,A0s (k.node n hn).1 hN⟩) x.nodes.l.length 0 N (by omega) (A0s k.nodes hN)
  refine A12 this ?_
  congr 1
  rw[decide_eq_decide];simp
 | m+1,j,fuel+1,t,u=>by
  have h:j<x.cuts.l.length:=by omega
  have A:=k.cuts
  have g:=k.cut _ (A0l h)
  obtain⟨r,q,z⟩:=xL (R:=R) (N:=N) (f:=f) (c:=x.cuts.l[j]) g (A0s g hN)
  rw[Jp];unfold Qp
  rw[Gh h,ct,Aa h,ct,Em D2 h,Lt D2,ct,Hv D2,
   show((beq 0 0)&&((beq (CutD.av x.cuts.l[j]).length 6)&&(beq 6 6)))=true from rfl,ct,show ble 6 (CutD.av x.cuts.l[j]).length=true from rfl,ct,XI D2,z,A0d h]
  cases hr:r
  ·rw[hr] at q
   have:¬ ku (x.cuts.l[j]).v:=fun e=>by have:=q.2 e;cases this
   rw[decide_eq_false (fun e=>this (e.1 _ (A37 ..)))];rfl
  ·have:=q.1 hr
   rw[show(!true)=false from rfl,cf,wS (by omega),Anb k s hN m (j+1) fuel (by omega) (by omega)]
   congr 1
   rw[decide_eq_decide,A4k];exact⟨fun h=>by first | exact⟨this,h⟩ | exact⟨⟨this,h.1⟩,h.2⟩,fun h=>by first | exact h.2 | exact⟨h.1.2,h.2⟩⟩
def Av6 (L:LogV):Prop:=(∀ u ∈ L.uses,Atf u)∧(∀ c ∈ L.cuts,ku c)∧∀ n ∈ L.nodes,Uv n
theorem Anc {N M:Nat} {f:Bool} {x:LogD} {K:Bool→O R} (k:LogG M 1000000000 x) (q:fit M N) (hN:1000000000<N):∀ (m j fuel:Nat),j+m=x.uses.l.length→m<fuel →
  G6 N K (x.uses.l.flatMap Cc) x.uses.l.length f x.av fuel (x.uses.l.length:Int) (j:Int)=K (decide ((∀ u ∈ x.uses.l.drop j,Atf u)∧(∀ c ∈ x.cuts.l,ku c.v)∧∀ n ∈ x.nodes.l,Uv n.v))
 | 0,j,fuel+1,z,_=>by
  rw[G6];unfold Qq
  rw[H2 (by omega),cf,show drop j x.uses.l=[] from A0k (by omega)]
  show Aw 6 (x.cuts.av 6 CutD.av::_) _=_
  rw[A2]
  have:=Anb (R:=R) (N:=N) (f:=f) (K:=K) k q hN x.cuts.l.length 0 N (by omega) (A0s k.cuts hN)
  refine A12 this ?_
  congr 1
  rw[decide_eq_decide];simp
 | m+1,j,fuel+1,z,A=>by
  have h:j<x.uses.l.length:=by omega
  have B:=k.uses
  rw[G6];unfold Qq
  rw[Gh h,ct,Aa h,ct,Em Fr h,Lt Fr,ct,Hv Fr,
   show((!f)||A6 (Cc x.uses.l[j]))=true by cases f<;>rfl,ct,show(beq (Cc x.uses.l[j]).length 2&&((ble 2 2)&&(!false)))=true from rfl,ct,show setCells [(.int .i64 0),(.int .i64 0)] 0 (Cc x.uses.l[j])=Cc x.uses.l[j] from rfl,A0d h]
  show As .i64 (.int .i64 (x.uses.l[j]).1::_) _=_
  rw[Ym,Ew]
  have ud:Atf x.uses.l[j]↔C8 (x.uses.l[j]).1=true∧C8 (x.uses.l[j]).2=true:=Iff.rfl
  cases s:C8 (x.uses.l[j]).1
  ·rw[s] at ud
   rw[decide_eq_false (fun e=>by have:=(ud.1 (e.1 _ (A37 ..))).1;cases this)];rfl
  ·rw[show((!true)==false)=true from rfl,ct]
   show As .i64 (.int .i64 (x.uses.l[j]).2::_) _=_
   rw[Ym,Ew]
   cases t:C8 (x.uses.l[j]).2
   ·rw[t] at ud
    rw[decide_eq_false (fun e=>by have:=(ud.1 (e.1 _ (A37 ..))).2;cases this)];rfl
   ·have:=ud.2 ⟨s,t⟩
    rw[show(cond false true (!true):Bool)=false from rfl,cf,wS (by omega),Anc k q hN m (j+1) fuel (by omega) (by omega)]
    congr 1
    rw[decide_eq_decide,A4k];exact⟨fun h=>by first | exact⟨this,h⟩ | exact⟨⟨this,h.1⟩,h.2⟩,fun h=>by first | exact h.2 | exact⟨h.1.2,h.2⟩⟩
theorem aZ {N M:Nat} {f:Bool} {x:LogD} {K:Bool→O R} (e:LogG M 1000000000 x) (j:fit M N) (hN:1000000000<N):Yg N x.av f K=K (decide (Av6 x.v)):=by
 rw[QK];unfold AG
 show Aw 2 (x.uses.av 2 Cc::_) _=_
 rw[A2]
 have:=Anc (R:=R) (N:=N) (f:=f) (K:=K) e j hN x.uses.l.length 0 N (by omega) (A0s e.uses hN)
 refine A12 this ?_
 congr 1
 rw[decide_eq_decide]
 unfold Av6 LogD.v
 simp
end valid
def KE (K:Lu→Int→O R) (w:W):O R:=cond w.1 (K [] 8) (K w.2 0)
theorem Aqm {N:Nat} {w:W} {K:Lu→Int→O R} (e:w.2≠[]) (n:w.2.length≤1048576):cond w.1 (K [] 8) (AM N w.2.length w.1 (At w.2) fun bk=>K bk 0)=KE K w:=by
 unfold KE
 cases w.1
 ·rw[cf,cf,KN];unfold HM
  have j:0<w.2.length:=A13.2 e
  have k:((beq 5 5)&&((beq 1 1)&&(true&&((!false)&&((beq 0 0)&&((decide (0<(w.2.length:Int)))&&((decide ((w.2.length:Int)≤(((At w.2).length:Nat):Int)))&&(decide ((w.2.length:Int)≤9223372036854775807)))))))))=true:=by
   simp[At];omega
  rw[show Nat.blt 0 w.2.length=true by simpa using j,ct,k,ct,nf,VG];rfl
 ·rfl
theorem Aw9 {w:W} (h:w.2≠[]) (p:Option Lu):(Ale w p).2≠[]:=by
 cases p with
 | none=>exact h
 | some s =>
  unfold Ale
  dsimp only
  split
  ·exact h
  ·simp[h]
theorem iS:∀ (ps:List (Option Lu)) {w:W},w.2≠[]→(Rh w ps).2≠[]
 | [],_,h=>h
 | p::ps,_,h=>by rw[Gn];exact iS ps (Aw9 h p)
theorem Avd {n:NodeD} (h:Uv n.v):(n.kind=0∧C8 n.unit=true∧C8 n.hour=true)∨((n.kind=1∨n.kind=2)∧∀ p ∈ n.y.l,C8 p.i=true)∨(n.kind=3∧C8 n.unit=true)∨(n.kind=4∧C8 n.unit=true∧C8 n.hour=true∧C8 n.other=true):=by
 unfold Uv NodeD.v at h
 simp only at h
 rcases h with⟨e,j,k,_⟩ | ⟨e,_,_,_,q⟩ | ⟨e,j,_⟩ | ⟨e,j,k,s,_⟩
 ·exact .inl ⟨e,j,k⟩
 ·exact .inr (.inl ⟨e,fun p t=>(q _ (A2r t)).1⟩)
 ·exact .inr (.inr (.inl ⟨e,j⟩))
 ·exact .inr (.inr (.inr ⟨e,j,k,s⟩))
theorem Aho {N M:Nat} {f:Bool} {l:List NodeD} {K:Lu→Int→O R} (u:l.length≤1000000000) (q:fit (20*M+100) N) (hN:1000000010<N) (s:∀ n ∈ l,aX M 1000000000 n∧Uv n.v):∀ (m j fuel:Nat) (w:W),j+m=l.length→m<fuel→w.2.length≤1048576→w.2≠[] →
  Ib N K f fuel (l.flatMap NodeD.av) l.length (l.length:Int) (j:Int) w.2.length w.1 (At w.2)=KE K (Rh w ((l.drop j).flatMap fun n=>aY n.v))
 | 0,j,fuel+1,w,z,_,e,k=>by
  rw[Ib];unfold Xe
  rw[H2 (by omega),cf,show drop j l=[] from A0k (by omega)]
  exact Aqm k e
 | m+1,j,fuel+1,w,z,A,e,k=>by
  have h:j<l.length:=by omega
  obtain⟨⟨B,C⟩,D⟩:=s _ (A0l h)
  rw[Ib];unfold Xe
  rw[Gh h,ct,Aa h,ct,Em B7 h,Lt B7,ct,Hv B7,
   show((beq 0 0)&&((beq (NodeD.av l[j]).length 5)&&(beq 5 5)))=true from rfl,ct,show ble 5 (NodeD.av l[j]).length=true from rfl,ct,XI B7,wS (by omega),A0d h,A0z,Px]
  refine A12 (Avb (N:=N) (M:=M) (n:=l[j]) (f:=f) (w:=w) (K:=fun c o t=>Ib N K f fuel (l.flatMap NodeD.av) l.length (l.length:Int) ((j+1:Nat):Int) c o t) (Avd D) B (by omega) q C e) ?_
  exact Aho u q hN s m (j+1) fuel _ (by omega) (by omega) (Py _ e) (iS _ k)
theorem And {N M:Nat} {f:Bool} {x:LogD} {K:Lu→Int→O R} (e:LogG M 1000000000 x) (u:fit (20*M+100) N) (hN:1000000010<N) (q:Av6 x.v):∀ (m j fuel:Nat) (w:W),j+m=x.cuts.l.length→m<fuel→w.2.length≤1048576→w.2≠[] →
  Ic N K f x.av fuel (x.cuts.l.flatMap CutD.av) x.cuts.l.length (x.cuts.l.length:Int) (j:Int) w.2.length w.1 (At w.2)=KE K (Rh (Rh w ((x.cuts.l.drop j).flatMap fun n=>xJ n.v)) (x.nodes.l.flatMap fun n=>aY n.v))
 | 0,j,fuel+1,w,A,_,k,s=>by
  rw[Ic];unfold Xf
  rw[H2 (by omega),cf,show drop j x.cuts.l=[] from A0k (by omega)]
  show Aw 5 (x.nodes.av 5 NodeD.av::_) _=_
  rw[A2]
  have z:=e.nodes
  exact Aho z u hN (fun n hn=>⟨e.node n hn,q.2.2 _ (A2r hn)⟩) x.nodes.l.length 0 N w (by omega) (by omega) k s
 | m+1,j,fuel+1,w,A,B,k,s=>by
  have h:j<x.cuts.l.length:=by omega
  have z:=e.cuts
  have g:=e.cut _ (A0l h)
  unfold Ac6 at g
  rw[Ic];unfold Xf
  rw[Gh h,ct,Aa h,ct,Em D2 h,Lt D2,ct,Hv D2,
   show((beq 0 0)&&((beq (CutD.av x.cuts.l[j]).length 6)&&(beq 6 6)))=true from rfl,ct,show ble 6 (CutD.av x.cuts.l[j]).length=true from rfl,ct,XI D2,wS (by omega),A0d h,A0z,Px]
  refine A12 (Aw8 (N:=N) (c:=x.cuts.l[j]) (f:=f) (w:=w) (K:=fun c o t=>Ic N K f x.av fuel (x.cuts.l.flatMap CutD.av) x.cuts.l.length (x.cuts.l.length:Int) ((j+1:Nat):Int) c o t) (q.2.1 _ (A2r (A0l h))) g (by omega) k) ?_
  exact And e u hN q m (j+1) fuel _ (by omega) (by omega) (Py _ k) (iS _ s)
theorem Ane {N M:Nat} {f:Bool} {x:LogD} {K:Lu→Int→O R} (e:LogG M 1000000000 x) (z:fit (20*M+100) N) (hN:1000000010<N) (q:Av6 x.v):∀ (m j fuel:Nat) (w:W),j+m=x.uses.l.length→m<fuel→w.2.length≤1048576→w.2≠[] →
  Gc N K f x.av fuel (x.uses.l.flatMap Cc) x.uses.l.length (x.uses.l.length:Int) (j:Int) w.2.length w.1 (At w.2)=KE K (Rh (Rh (Rh w ((x.uses.l.drop j).flatMap Au8)) (x.cuts.l.flatMap fun n=>xJ n.v)) (x.nodes.l.flatMap fun n=>aY n.v))
 | 0,j,fuel+1,w,C,_,k,u=>by
  rw[Gc];unfold Xg
  rw[H2 (by omega),cf,show drop j x.uses.l=[] from A0k (by omega)]
  show Aw 6 (x.cuts.av 6 CutD.av::_) _=_
  rw[A2]
  have D:=e.cuts
  exact And e z hN q x.cuts.l.length 0 N w (by omega) (by omega) k u
 | m+1,j,fuel+1,w,C,F,k,u=>by
  have h:j<x.uses.l.length:=by omega
  have D:=e.uses
  have A:=q.1 _ (A0l h)
  rw[Gc];unfold Xg
  rw[Gh h,ct,Aa h,ct,Em Fr h,Lt Fr,ct,Hv Fr,
   show((!f)||A6 (Cc x.uses.l[j]))=true by cases f<;>rfl,ct,show(beq (Cc x.uses.l[j]).length 2&&((ble 2 2)&&(!false)))=true from rfl,ct,show setCells [(.int .i64 0),(.int .i64 0)] 0 (Cc x.uses.l[j])=Cc x.uses.l[j] from rfl,A0d h,A0z,Px,wS (by omega)]
  show As .i64 (.int .i64 (x.uses.l[j]).1::_) _=_
  rw[Ym]
  show As .i64 (.int .i64 (x.uses.l[j]).2::_) _=_
  rw[Ym]
  refine A12 (iR (N:=N) (s:=Ahc) (l:=[(x.uses.l[j]).1,(x.uses.l[j]).2]) (w:=w) (K:=fun c o t=>Gc N K f x.av fuel (x.uses.l.flatMap Cc) x.uses.l.length (x.uses.l.length:Int) ((j+1:Nat):Int) c o t) (by simp) (by simp;omega) (fun v B=>by
   simp only[Az7,A08,or_false] at B
   rcases B with rfl | rfl
   ·exact A.1
   ·exact A.2) k (by decide)) ?_
  exact Ane e z hN q m (j+1) fuel _ (by omega) (by omega) (Py _ k) (iS _ u)
theorem ut {L:LogV}:Alc L↔Av6 L∧O' L∧L.uses.length≤16384∧L.cuts.length≤256∧L.nodes.length≤4096:=by
 unfold Alc Ayk Av6 O'
 constructor
 ·rintro⟨⟨j,k,e⟩,q⟩
  exact⟨⟨j,k,fun n hn=>(lA.1 (e n hn)).1⟩,fun n hn=>(lA.1 (e n hn)).2,q⟩
 ·rintro⟨⟨j,k,e⟩,q,s⟩
  exact⟨⟨j,k,fun n hn=>lA.2 ⟨e n hn,q n hn⟩⟩,s⟩
theorem ni {n:NodeV} (h:Uv n):Ac7 n∧(n.kind=0∨n.kind=1∨n.kind=2∨n.kind=3∨n.kind=4):=by
 unfold Uv at h
 unfold Ac7
 rcases h with⟨e,_,_,_,j⟩ | ⟨e | e,_⟩ | ⟨e,_,_,_,j⟩ | ⟨e,_,_,_,j⟩
 ·exact⟨.inr (.inr j),.inl e⟩
 ·exact⟨.inl e,.inr (.inl e)⟩
 ·exact⟨.inr (.inl e),.inr (.inr (.inl e))⟩
 ·exact⟨.inr (.inr j),.inr (.inr (.inr (.inl e)))⟩
 ·exact⟨.inr (.inr j),.inr (.inr (.inr (.inr e)))⟩
theorem Att {L:LogV} (k:Av6 L):(O' L∧(T8 L).length≤1048576→Rh (false,[]) (xK L)=(false,T8 L))∧(¬ (O' L∧(T8 L).length≤1048576)→(Rh (false,[]) (xK L)).1=true):=by
 have hs:=Atm (L:=L) fun n hn=>(ni (k.2.2 n hn)).1
 have e:O' L→Il (xK L)=T8 L:=fun h=>Atn h fun n hn=>(ni (k.2.2 n hn)).2
 constructor
 ·rintro⟨j,q⟩
  rw[Am8 _ _ (hs.2 j) (by rw[e j];simpa using q),e j];rfl
 ·intro h
  refine Ahi _ _ (fun hh=>h ?_) (by simp)
  have j:=hs.1 hh.1
  refine⟨j,?_⟩
  have:=hh.2
  rw[e j] at this
  simpa using this
open Classical in
theorem VP {N M:Nat} {f:Bool} {x:LogD} (hg:LogG M 1000000000 x) (hf:fit (20*M+100) N) (hN:1000000010<N):∃ (s:Lu) (e:Int),((s=T8 x.v∧e=0∧Alc x.v∧(T8 x.v).length≤1048576)∨(s=[]∧(e==0)=false∧¬ (Alc x.v∧(T8 x.v).length≤1048576)))∧∀ K:Lu→Int→O R,Hu N x.av f K=K s e:=by
 have f1:=hf.1;have f2:=hf.2
 have b1:=hg.uses;have b2:=hg.cuts;have b3:=hg.nodes
 have l1:x.v.uses.length=x.uses.l.length:=rfl
 have l2:x.v.cuts.length=x.cuts.l.length:=A03 _
 have l3:x.v.nodes.length=x.nodes.l.length:=A03 _
 have r1:∀ F:LA→Nat→O R,Aw 2 x.av F=F (x.uses.l.flatMap Cc) x.uses.l.length:=fun F=>by
  show Aw 2 (x.uses.av 2 Cc::_) _=_
  rw[A2]
 have r2:∀ F:LA→Nat→O R,Aw 6 (drop 1 x.av) F=F (x.cuts.l.flatMap CutD.av) x.cuts.l.length:=fun F=>by
  show Aw 6 (x.cuts.av 6 CutD.av::_) _=_
  rw[A2]
 have r3:∀ F:LA→Nat→O R,Aw 5 (drop 2 x.av) F=F (x.nodes.l.flatMap NodeD.av) x.nodes.l.length:=fun F=>by
  show Aw 5 (x.nodes.av 5 NodeD.av::_) _=_
  rw[A2]
 by_cases h1:16384<x.uses.l.length
 ·refine⟨[],8,.inr ⟨rfl,rfl,fun h=>?_⟩,fun K=>?_⟩
  ·have:=h.1.2.1;omega
  ·rw[Pv];unfold Rg
   rw[r1,show(decide ((x.uses.l.length:Int)>16384)==false)=false by simp;omega];rfl
 by_cases h2:256<x.cuts.l.length
 ·refine⟨[],8,.inr ⟨rfl,rfl,fun h=>?_⟩,fun K=>?_⟩
  ·have:=h.1.2.2.1;omega
  ·rw[Pv];unfold Rg
   rw[r1,show(decide ((x.uses.l.length:Int)>16384)==false)=true by simp;omega,ct,r2,show(cond false true (decide ((x.cuts.l.length:Int)>256))==false)=false by simp;omega];rfl
 by_cases h3:4096<x.nodes.l.length
 ·refine⟨[],8,.inr ⟨rfl,rfl,fun h=>?_⟩,fun K=>?_⟩
  ·have:=h.1.2.2.2;omega
  ·rw[Pv];unfold Rg
   rw[r1,show(decide ((x.uses.l.length:Int)>16384)==false)=true by simp;omega,ct,r2,show(cond false true (decide ((x.cuts.l.length:Int)>256))==false)=true by simp;omega,ct,r3,show(cond false true (decide ((x.nodes.l.length:Int)>4096)))=true by simp;omega];rfl
 have go:∀ K:Lu→Int→O R,Hu N x.av f K=Oz N K f x.av:=fun K=>by
  rw[Pv];unfold Rg
  rw[r1,show(decide ((x.uses.l.length:Int)>16384)==false)=true by simp;omega,ct,r2,show(cond false true (decide ((x.cuts.l.length:Int)>256))==false)=true by simp;omega,ct,r3,show(cond false true (decide ((x.nodes.l.length:Int)>4096)))=false by simp;omega];rfl
 by_cases ho:Av6 x.v
 ·have hh:=Att ho
  have main:∀ K:Lu→Int→O R,Hu N x.av f K=KE K (Rh (false,[]) (xK x.v)):=fun K=>by
   rw[go];unfold Oz Xh
   rw[show ble 3 (List.length x.av)=true from rfl,ct,show take 3 x.av=x.av from rfl,aZ hg (hf.le (by omega)) (by omega),decide_eq_true ho,show(!true)=false from rfl,cf]
   simp only[r1,r2,r3]
   refine A12 (Atr (N:=N) (s:=ue) (l:=[(x.uses.l.length:Int),(x.cuts.l.length:Int),(x.nodes.l.length:Int)]) (K:=fun c o t=>Gc N K f x.av N (x.uses.l.flatMap Cc) x.uses.l.length (x.uses.l.length:Int) ((0:Nat):Int) c o t) (by simp) (by simp;omega) (fun v hv=>by
    simp only[Az7,A08,or_false] at hv
    rw[Ls]
    rcases hv with rfl | rfl | rfl<;>omega) (by decide)) ?_
   have e:xK x.v=(some ue::[(x.uses.l.length:Int),(x.cuts.l.length:Int),(x.nodes.l.length:Int)].map Pz++[qI])++(x.uses.l.flatMap Au8++(x.cuts.l.flatMap (fun n=>xJ n.v)++x.nodes.l.flatMap fun n=>aY n.v)):=by
    unfold xK Ati LogD.v
    simp only[A30,A03];rfl
   obtain⟨hd,hdd⟩:∃ hd,hd=(some ue::[(x.uses.l.length:Int),(x.cuts.l.length:Int),(x.nodes.l.length:Int)].map Pz++[qI]):=⟨_,rfl⟩
   have n0:(Rh (false,[]) hd).2≠[]:=by
    rw[hdd,A0u,Gn]
    exact iS _ (by unfold Ale;dsimp only;rw[if_neg (by decide)];decide)
   have n1:(Rh (false,[]) hd).2.length≤1048576:=Py hd (by simp)
   rw[e,←hdd,Px,Px,Px]
   exact Ane hg hf hN ho x.uses.l.length 0 N _ (by omega) (by omega) n1 n0
  by_cases hl:O' x.v∧(T8 x.v).length≤1048576
  ·refine⟨T8 x.v,0,.inl ⟨rfl,rfl,ut.2 ⟨ho,hl.1,by omega,by omega,by omega⟩,hl.2⟩,fun K=>?_⟩
   rw[main,hh.1 hl];rfl
  ·refine⟨[],8,.inr ⟨rfl,rfl,fun h=>hl ⟨(ut.1 h.1).2.1,h.2⟩⟩,fun K=>?_⟩
   rw[main];unfold KE
   rw[hh.2 hl];rfl
 ·refine⟨[],1,.inr ⟨rfl,rfl,fun h=>ho (ut.1 h.1).1⟩,fun K=>?_⟩
  rw[go];unfold Oz Xh
  rw[show ble 3 (List.length x.av)=true from rfl,ct,show take 3 x.av=x.av from rfl,aZ hg (hf.le (by omega)) (by omega),decide_eq_false ho];rfl
end
end Gx.Bl
namespace Gx
open Go Go.Proofs
section
variable {R:Type}
theorem Alh (q:Rat):∀ c ∈ D5 q,c.toNat<128:=by
 have j:=u7 (Xl (Rz q.num))
 have k:=KS (Jk q.den)
 unfold D5
 split
 ·exact j
 ·intro c e
  simp only[A0f,A01] at e
  rcases e with(e | e) | e
  ·exact j c e
  ·subst e;decide
  ·exact k c e
theorem Atu (q:Rat):(D5 q).length≤20*qm q+4:=by
 have e:=iG q.num
 have j:=KR q.den
 have k:=Akk q
 have n:=Akl q
 unfold D5
 split
 ·omega
 ·rw[Az2,Az2,A0t];omega
theorem Ali {N:Nat} {q:Rat} (j:fit (400*qm q+400) N):∃ x:RatD,x.can q∧∀ K:LA→Int→O R,Ig N (D5 q) K=if 4096<Hf (D5 q) then K [(.bool false),.nsl,.nsl] 8 else K x.av 0:=by
 have v:=j.1;have z:=j.2
 have A:=iG q.num
 have B:=KR q.den
 have C:=Akk q
 have D:=Akl q
 have k:=Atu q
 by_cases h:q.den=1
 ·have e:D5 q=V7 q.num:=by unfold D5;rw[if_pos h]
  rw[e] at k ⊢
  obtain⟨x,x1,x2⟩:=dT (R:=R) (N:=N) (s:=V7 q.num) (n:=V7 q.num) (d:=[49]) (fun K=>yh (Rz _) (by omega)) (Xl (Rz _)) (by decide) (by decide) (u7 (Xl (Rz _))) (j.le (by rw[A0t];omega))
  rw[GK,show By [49]=1 by decide] at x1
  have:mkRat q.num 1=q:=by
   have t:=A4t q
   rw[h] at t;exact t
  rw[this] at x1
  exact⟨x,x1,x2⟩
 ·have e:D5 q=V7 q.num++47::dec q.den:=by unfold D5;rw[if_neg h,A10];rfl
  have u:=Alh q
  rw[e] at k u ⊢
  obtain⟨x,x1,x2⟩:=dT (R:=R) (N:=N) (s:=V7 q.num++47::dec q.den) (n:=V7 q.num) (d:=dec q.den) (fun K=>Ak7 (Rz _) (JE _) (by omega) (by omega)) (Xl (Rz _)) (Jk _) (by rw[G0];exact q.den_pos) u (j.le (by omega))
  rw[GK,G0,A4t] at x1
  exact⟨x,x1,x2⟩
end
end Gx
namespace Gx.Bl
open Go Go.Proofs Gx.Cf
section
variable {R:Type}
theorem Aqn {w:Lu} {c:Nat}:By (w.take c)≤By w:=by
 have e:=Rn (w.take c) (w.drop c)
 rw[A2e] at e
 have:=A21 (By (w.take c)) (Nat.pos_of_ne_zero (show 10 ^ (w.drop c).length≠0 from Nat.pos_iff_ne_zero.1 (A1l (by decide))))
 omega
theorem i32 {a:Int} (h:-2147483648≤a∧a≤2147483647):wrap .i32 a=a:=by
 show(if (true&&decide (a%4294967296≥2147483648))=true then a%4294967296 - 4294967296 else a%4294967296)=a
 rw[A1n]
 by_cases e:a%4294967296≥2147483648
 ·rw[if_pos (by simpa using e)];omega
 ·rw[if_neg (by simpa using e)];omega
open Classical in
theorem Ahp {N:Nat} {w:Lu} {K:Int→Bool→O R} (ha:∀ c ∈ w,c.toNat<128) (hb:w.length≤1000000000000):∀ (m c fuel:Nat),c+m=w.length→m<fuel→(w.take c).all A9=true→By (w.take c)≤1048576 →
  G7 N K w fuel (By (w.take c):Int) (c:Int)=if (w.drop c).all A9=true∧By w≤1048576 then K (By w:Int) true else K 0 false
 | 0,c,fuel+1,hc,_,hd,hv=>by
  rw[G7];unfold Qs
  have e:w.take c=w:=Az0 (by omega)
  rw[e] at hv ⊢
  rw[H2 (by omega),cf,show drop c w=[] from A0k (by omega),if_pos ⟨rfl,hv⟩]
 | m+1,c,fuel+1,hc,hf,hd,hv=>by
  have hlt:c<w.length:=by omega
  have ha1:w[c].toNat<128:=ha _ (A0l hlt)
  rw[G7];unfold Qs
  rw[Gh hlt,ct,A0d hlt,OV hlt ha1,A1d]
  dsimp only
  rw[show((c:Int)+((1:Nat):Int))=((c+1:Nat):Int) by omega]
  by_cases h1:48≤w[c].toNat
  ·rw[show(decide (((w[c].toNat:Nat):Int)<48)==false)=true by simp;omega,ct]
   by_cases h2:w[c].toNat≤57
   ·have hd1:A9 w[c]=true:=by simp[A9];omega
    rw[show cond false true (decide (((w[c].toNat:Nat):Int)>57))=false by simp;omega,cf,hd1,A1n]
    unfold Tz
    have et:w.take (c+1)=w.take c++[w[c]]:=A02 hlt
    have ev:By (w.take (c+1))=10*By (w.take c)+(w[c].toNat - 48):=by rw[et,jd]
    have e1:wrap .i32 (((w[c].toNat:Nat):Int) - 48)=((w[c].toNat - 48:Nat):Int):=by rw[i32 (by omega)];omega
    have e2:wrap .i64 ((wrap .i64 (10*(By (w.take c):Int)))+(wrap .i64 (wrap .i32 (((w[c].toNat:Nat):Int) - 48))))=(By (w.take (c+1)):Int):=by
     rw[e1,i64 (a:=10*(By (w.take c):Int)) (by omega),i64 (a:=((w[c].toNat - 48:Nat):Int)) (by omega),i64 (by omega),ev];omega
    rw[e2,Ew]
    by_cases h3:By (w.take (c+1))≤1048576
    ·rw[show C8 (By (w.take (c+1)):Int)=true by rw[Ls];omega,show(!true)=false from rfl,cf]
     exact Ahp ha hb m (c+1) fuel (by omega) (by omega) (by rw[et,A29,hd];simp[hd1]) h3
    ·rw[show C8 (By (w.take (c+1)):Int)=false by rw[←Bool.not_eq_true,Ls];omega,show(!false)=true from rfl,ct,if_neg]
     rintro⟨_,h⟩
     have:=Aqn (w:=w) (c:=c+1)
     omega
   ·have hd1:A9 w[c]=false:=by simp[A9];omega
    rw[show cond false true (decide (((w[c].toNat:Nat):Int)>57))=true by simp;omega,ct,hd1,A4u,if_neg (by rintro⟨h,_⟩;cases h)]
  ·have hd1:A9 w[c]=false:=by simp[A9];omega
   rw[show(decide (((w[c].toNat:Nat):Int)<48)==false)=false by simp;omega,cf,hd1,A4u,if_neg (by rintro⟨h,_⟩;cases h)]
theorem a6 {N:Nat} {w:Lu} {K:Int→Bool→O R} (j:∀ c ∈ w,c.toNat<128) (k:w.length≤1000000000000) (hN:w.length<N):Rv N w K=match Ac1 w with | some v=>K v true | none=>K 0 false:=by
 have go:Nu N K w=if w.all A9=true∧By w≤1048576 then K (By w:Int) true else K 0 false:=by
  unfold Nu Y3
  have:=Ahp (R:=R) (N:=N) (K:=K) j k w.length 0 N (by omega) hN rfl (by rw[A2q];decide)
  rw[A00] at this
  refine A12 this ?_
  congr
 rw[QT];unfold AN Ac1
 cases w with
 | nil=>rfl
 | cons c r =>
  rw[show(((c::r)==([]:Lu))==false)=true from rfl,ct]
  have pl:D4 (c::r)=((c::r).all A9&&((c::r)==[48]||!(c==48))):=by
   unfold D4 fL
   rw[List.isEmpty_cons,A2c,A19,List.head?_cons]
   congr 2
  rw[pl]
  cases r with
  | nil =>
   rw[show(decide ((([c].length:Nat):Int)>1)==true)=false from rfl,cf,go]
   have:(([c]:Lu)==[48]||!(c==48))=true:=by
    by_cases e:c=48
    ·subst e;rfl
    ·simp[e]
   rw[this,A19]
   split<;>rfl
  | cons d r =>
   have:((c::d::r)==[48])=false:=by simp
   rw[show(decide ((((c::d::r).length:Nat):Int)>1)==true)=true by rw[Az5,Az5,show decide (((r.length+1+1:Nat):Int)>1)=true from decide_eq_true (by omega)];rfl,ct,show Ae 0 (c::d::r).length=true from Aa (i:=0) (by simp),ct,A52,this,A3h]
   by_cases e:c=48
   ·subst e
    rw[show(((48:UInt8).toNat:Int)==48)=true from rfl]
    rw[if_neg (by rintro⟨h,_⟩;simp at h)];rfl
   ·have n:((c.toNat:Int)==48)=false:=by
     rw[beq_eq_false_iff_ne];intro h
     apply e;apply A4q.1
     have:c.toNat=48:=by omega
     rw[this];rfl
    rw[n,show(cond false true (cond true false false):Bool)=false from rfl,cf,go,show(!(c==48))=true by simpa using e,A19]
    split<;>rfl
theorem Aqo {N:Nat} {s:Lu} (I:s.length≤1000000000) (L:s.length+10<N):∃ n d ok,(ok=true→Hl n=true∧d.all A9=true∧n.length≤s.length+1∧d.length≤s.length+1)∧∀ K:Lu→Lu→Bool→O R,T3 N s K=K n d ok:=by
 by_cases z:YJ s=true
 ·exact⟨s,[49],true,fun _=>⟨Xl z,by decide,by omega,by simp⟩,fun K=>yh z (by omega)⟩
 have hn:YJ s=false:=by simpa using z
 by_cases D:(47:UInt8) ∈ s
 ·obtain⟨a,b,rfl,u⟩:=KT D
  rw[Az2,Az5] at I L
  by_cases A:YJ a=true
  ·refine⟨a,b,D4 b,fun h=>⟨Xl A,BN h,by simp;omega,by simp;omega⟩,fun K=>?_⟩
   rw[O1];unfold Ry
   rw[Gf (by simp;omega),hn,cf,pa (by simp;omega),Y4 u]
   dsimp only
   rw[ct,Gf (by omega),A,show(true==true)=true from rfl,ct,Ii (by omega)]
   cases D4 b<;>rfl
  ·refine⟨a,b,false,fun h=>(by cases h),fun K=>?_⟩
   rw[O1];unfold Ry
   rw[Gf (by simp;omega),hn,cf,pa (by simp;omega),Y4 u]
   dsimp only
   rw[ct,Gf (by omega),show YJ a=false by simpa using A];rfl
 ·have tail:∀ (e:Bool) (q:Lu),q.length≤s.length→(e=true→q.length+1≤s.length)→∃ n d ok,(ok=true→Hl n=true∧d.all A9=true∧n.length≤s.length+1∧d.length≤s.length+1)∧∀ K:Lu→Lu→Bool→O R,
    strings_Cut N q [46] (fun d c w=>Nv N d fun r=>cond ((!r)==false) (J5 N c fun t=>cond (cond false true (!t)) (K ([]:Lu) ([]:Lu) false) (Rx N K e d c s)) (K ([]:Lu) ([]:Lu) false))=K n d ok:=by
   intro e q hq F
   by_cases G:(46:UInt8) ∈ q
   ·obtain⟨a,b,rfl,u⟩:=KT G
    rw[Az2,Az5] at hq F
    by_cases j:D4 a=true
    ·by_cases v:fL b=true
     ·have S:b.all A9=true:=by simp only[fL,A0a] at v;exact v.1
      have B:=BN j
      have k:(a++b).all A9=true:=by rw[A29,B,S];rfl
      refine⟨(if e then [45] else [])++(a++b),49::replicate b.length 48,true,fun _=>⟨?_,?_,?_,?_⟩,fun K=>?_⟩
      ·cases e
       ·show Hl (a++b)=true
        unfold Hl
        split
        ·rename_i r hr
         rw[hr,A1d,A0a] at k
         exact k.2
        ·exact k
       ·exact k
      ·rw[A1d,A05.2 (fun c T=>by rw[A49 T];rfl)];rfl
      ·cases e
       ·simp;omega
       ·have:=F rfl;simp;omega
      ·rw[Az5,A1v];omega
      ·rw[pa (by simp;omega),Y4 u]
       dsimp only
       rw[Ii (by omega),j,show((!true)==false)=true from rfl,ct,Xk (by omega),v,show(cond false true (!true):Bool)=false from rfl,cf]
       unfold Rx
       rw[ko (by omega),ct]
       cases e
       ·rw[cf,qF (by omega),ko (by rw[A1v];omega),ct];rfl
       ·rw[ct,ko (by rw[Az2];omega),ct,qF (by omega),ko (by rw[A1v];omega),ct];rfl
     ·refine⟨[],[],false,fun h=>(by cases h),fun K=>?_⟩
      rw[pa (by simp;omega),Y4 u]
      dsimp only
      rw[Ii (by omega),j,show((!true)==false)=true from rfl,ct,Xk (by omega),show fL b=false by simpa using v];rfl
    ·refine⟨[],[],false,fun h=>(by cases h),fun K=>?_⟩
     rw[pa (by simp;omega),Y4 u]
     dsimp only
     rw[Ii (by omega),show D4 a=false by simpa using j];rfl
   ·refine⟨[],[],false,fun h=>(by cases h),fun K=>?_⟩
    rw[pa (by omega),Acy G]
    dsimp only
    rw[Ii (by omega)]
    cases D4 q
    ·rfl
    ·rw[show((!true)==false)=true from rfl,ct,Xk (by simp;omega)];rfl
  have pre:∀ K:Lu→Lu→Bool→O R,T3 N s K=Df N s [45] fun q e=>strings_Cut N q [46] (fun d c w=>Nv N d fun r=>cond ((!r)==false) (J5 N c fun t=>cond (cond false true (!t)) (K ([]:Lu) ([]:Lu) false) (Rx N K e d c s)) (K ([]:Lu) ([]:Lu) false)):=fun K=>by
   rw[O1];unfold Ry
   rw[Gf (by omega),hn,cf,pa (by omega),Acy D];rfl
  by_cases j:s.head?=some 45
  ·obtain⟨r,rfl⟩:∃ r,s=45::r:=by
    cases s with
    | nil=>simp at j
    | cons c r=>simp at j;subst j;exact⟨r,rfl⟩
   obtain⟨n,d,ok,e1,C⟩:=tail true r (by simp) (fun _=>by simp)
   exact⟨n,d,ok,e1,fun K=>by rw[pre,HS];exact C K⟩
  ·obtain⟨n,d,ok,e1,C⟩:=tail false s (Az3 _) (fun h=>by cases h)
   exact⟨n,d,ok,e1,fun K=>by rw[pre,DV j];exact C K⟩
theorem Atv (a:Int) (b:Nat):qm (mkRat a b)≤max (Al a.natAbs).length (Al b).length+1:=by
 have h:=UE ⟨decide (a<0),.of (Al a.natAbs) false false,.of (Al b) false false⟩ ⟨Ad _,Ad _⟩
 have hq:RatD.q ⟨decide (a<0),.of (Al a.natAbs) false false,.of (Al b) false false⟩=mkRat a b:=by
  show mkRat (Au (decide (a<0)) (.of (Al a.natAbs) false false)) (val (Al b))=_
  rw[Qj,Ah]
 rw[hq] at h
 exact h
theorem Atw {t:Lu} (e:Hl t=true):(Al (Nx t).natAbs).length≤t.length+1:=by
 unfold Hl at e
 unfold Nx
 split at e
 ·have:=iH (Z5 e)
  rw[A4b,A0v,Az5];omega
 ·have:=iH (Z5 e)
  rw[A0v];omega
theorem Aqp {N:Nat} {s:Lu} (v:∀ c ∈ s,c.toNat<128) (F:s.length≤10000000) (t:fit (24*s.length+200) N) :
  (∃ (x:RatD) (q:Rat),x.can q∧x.m≤s.length+4∧Hf s≤4096∧∀ K:LA→Int→O R,Ig N s K=K x.av 0)∨(∃ e:Int,(e != 0)=true∧∀ K:LA→Int→O R,Ig N s K=K [(.bool false),.nsl,.nsl] e):=by
 have G:=t.1;have I:=t.2
 obtain⟨n,d,ok,B,u⟩:=Aqo (R:=R) (N:=N) (s:=s) (by omega) (by omega)
 cases j:ok
 ·refine .inr ⟨2,rfl,fun K=>?_⟩
  rw[Lr];unfold O2
  rw[u,j];rfl
 ·obtain⟨z,k,L,S⟩:=B j
  rw[j] at u
  by_cases C:0<By d
  ·obtain⟨x,x1,x2⟩:=dT (R:=R) u z k C v (t.le (by omega))
   by_cases h:4096<Hf s
   ·exact .inr ⟨8,rfl,fun K=>by rw[x2,if_pos h]⟩
   ·have T:=Atv (Nx n) (By d)
    have m1:=Atw z
    have m2:=iH (Z5 k)
    exact .inl ⟨x,_,x1,by rw[x1.m];omega,by omega,fun K=>by rw[x2,if_neg h]⟩
  ·have A:By d=0:=by omega
   by_cases h:4096<Hf s
   ·refine .inr ⟨8,rfl,fun K=>?_⟩
    rw[Lr];unfold O2
    rw[u,show(!true)=false by rfl,cf,OW v (by omega) (by omega),decide_eq_true h,ct]
   ·refine .inr ⟨5,rfl,fun K=>?_⟩
    have D:Hl d=true:=by
     unfold Hl;split
     ·rw[A1d,A0a] at k;exact absurd k.1 (by decide)
     ·exact k
    have e1:Nx d=((0:Nat):Int):=by
     unfold Nx;split
     ·rw[A1d,A0a] at k;exact absurd k.1 (by decide)
     ·rw[A]
    rw[Lr];unfold O2
    rw[u,show(!true)=false by rfl,cf,OW v (by omega) (by omega),decide_eq_false h,cf,Gx.Ew z (t.le (by omega)),Gx.Ew D (t.le (by omega)),e1,cZ];unfold qA
    rw[Ayi,Ayj,Asy,ct,Ayi,Ayj,Asy,ct]
    have e3:([(.bool (decide (((0:Nat):Int)<0))),(.imm (Ag (Al ((0:Nat):Int).natAbs)) (Al ((0:Nat):Int).natAbs).length 1 false false)]:LA)=Cb ((0:Nat):Int):=rfl
    rw[e3,u5 (t.le (by simp[Cz]))];rfl
def Alj:LA:=[(.int .i64 0),(.bool false),.nsl,.nsl]
theorem Atx {q:Rat} (h:Hf (D5 q)≤4096):qm q≤4097:=by
 have j:=iH (qJ q.num.natAbs)
 have k:=iH (qJ q.den)
 unfold D5 at h
 unfold qm
 split at h
 ·rename_i e
  rw[XE] at h
  rw[e,WZ]
  simp;omega
 ·rw[iQ,iQ,XE,Ahj] at h
  omega
theorem Alk {N:Nat} {w:Lu} (G:∀ c ∈ w,c.toNat<128) (L:w.length≤1048576) (z:fit 30000000 N) :
  (∃ (x:RatD) (p:Int×Rat),u_ p∧w=Pe p∧x.can p.2∧∀ K:LA→Bool→O R,I4 N w K=K (EntD.av ⟨p.1,x⟩) true)∨((¬ ∃ p,u_ p∧w=Pe p)∧∀ K:LA→Bool→O R,I4 N w K=K Alj false):=by
 have T:=z.1
 rcases Classical.em ((58:UInt8) ∉ w) with j | j
 ·refine .inr ⟨?_,fun K=>?_⟩
  ·rintro⟨p,_,rfl⟩
   exact j (by unfold Pe;simp)
  ·rw[DU];unfold GH
   rw[pa (by omega),Acy j];rfl
 obtain⟨l,r,rfl,hn⟩:=KT (Classical.not_not.1 j)
 have C:∀ c ∈ l,c.toNat<128:=fun c D=>G c (by simp[D])
 have F:∀ c ∈ r,c.toNat<128:=fun c D=>G c (by simp[D])
 rw[Az2,Az5] at L
 have cutw:∀ p:Int×Rat,l++58::r=Pe p→l=Ci p.1∧r=D5 p.2:=fun p e=>by
  have t:Lib.cut (l++58::r) [58]=Lib.cut (Pe p) [58]:=by rw[e]
  rw[Y4 hn,Am5] at t
  simp only[A33,and_true] at t
  exact t
 have start:∀ K:LA→Bool→O R,I4 N (l++58::r) K=match Ac1 l with | none=>K Alj false | some d=>Ig N r (fun b l=>cond ((beq 0 0)&&((beq (b.length) 3)&&(beq 3 3))) (cond ((l != 0)==false) (cond (ble 3 (b.length)) (WR N (b.take 3) false fun m=>cond ((cond false true (m==0))==false) (cond (ble 3 (b.length)) (La N (b.take 3) false fun n=>cond (cond false true (!(n==r))) (K Alj false) (cond (ble 3 (b.length)) (cond ((beq ((b.take 3).length) 3)&&(ble 4 4)) (cond ((beq 0 0)&&((beq ((setCells [(.int .i64 d),(.bool false),.nsl,.nsl] 1 (b.take 3)).length) 4)&&(beq 4 4))) (cond (ble 4 ((setCells [(.int .i64 d),(.bool false),.nsl,.nsl] 1 (b.take 3)).length)) (K ((setCells [(.int .i64 d),(.bool false),.nsl,.nsl] 1 (b.take 3)).take 4) true) none) none) none) none)) none) (K Alj false)) none) (K Alj false)) none):=fun K=>by
  rw[DU];unfold GH
  rw[pa (by simp;omega),Y4 hn]
  dsimp only
  rw[show(!true)=false from rfl,cf,a6 C (by omega) (by omega)]
  cases Ac1 l<;>rfl
 cases s:Ac1 l with
 | none =>
  refine .inr ⟨?_,fun K=>by rw[start,s]⟩
  rintro⟨p,u,e⟩
  rw[(cutw p e).1,iM.2 ⟨rfl,u.1⟩] at s
  cases s
 | some v =>
  obtain⟨v1,v2⟩:=iM.1 s
  have ok:∀ (x:RatD) (q:Rat),x.can q→x.m≤2000000→(∀ K:LA→Int→O R,Ig N r K=K x.av 0)→∀ K:LA→Bool→O R,I4 N (l++58::r) K=if q=0∨D5 q≠r then K Alj false else K (EntD.av ⟨v,x⟩) true:=fun x q A S h K=>by
   rw[start,s]
   dsimp only
   rw[h,show((beq 0 0)&&((beq (x.av.length) 3)&&(beq 3 3)))=true from rfl,ct,show(((0:Int) != 0)==false)=true from rfl,ct,OB,ct,Tn,tQ A.ok (z.le (by omega)),A.q,yx]
   by_cases k:q=0
   ·rw[decide_eq_true k,if_pos (.inl k)];rfl
   ·rw[decide_eq_false k,show((cond false true false:Bool)==false)=true from rfl,ct,ct,VI A.ok (by
     refine⟨?_,?_⟩<;>omega),A.q]
    by_cases B:D5 q=r
    ·rw[show(D5 q==r)=true by simpa using B,if_neg (by rintro(h | h);exact k h;exact h B)];rfl
    ·rw[show(D5 q==r)=false by simpa using B,if_pos (.inr B)];rfl
  by_cases hr:∃ q,r=D5 q∧Hf r≤4096
  ·obtain⟨q,rfl,I⟩:=hr
   have hq:=Atx I
   obtain⟨x,x1,x2⟩:=Ali (R:=R) (N:=N) (q:=q) (z.le (by omega))
   have h:=ok x q x1 (by rw[x1.m];omega) (fun K=>by rw[x2,if_neg (by omega)])
   by_cases k:q=0
   ·refine .inr ⟨?_,fun K=>by rw[h,if_pos (.inl k)]⟩
    rintro⟨p,u,e⟩
    exact u.2.1 (by rw[←Ahb (cutw p e).2];exact k)
   ·refine .inl ⟨x,(v,q),⟨v2,k,I⟩,by unfold Pe;rw[v1],x1,fun K=>by rw[h,if_neg (by rintro(h | h);exact k h;exact h rfl)]⟩
  ·have no:¬ ∃ p,u_ p∧l++58::r=Pe p:=by
    rintro⟨p,u,e⟩
    have:=(cutw p e).2
    exact hr ⟨p.2,this,by rw[this];exact u.2.2⟩
   refine .inr ⟨no,?_⟩
   rcases Aqp (R:=R) (N:=N) F (by omega) (z.le (by omega)) with⟨x,q,x1,S,x2,x3⟩ | ⟨e,e1,t⟩
   ·intro K
    by_cases e:D5 q=r
    ·exact absurd ⟨q,e.symm,x2⟩ hr
    ·rw[ok x q x1 (by omega) x3,if_pos (.inr e)]
   ·intro K
    rw[start,s]
    dsimp only
    rw[t,show((beq 0 0)&&((beq (List.length ([(.bool false),.nsl,.nsl]:LA)) 3)&&(beq 3 3)))=true from rfl,ct,e1];rfl
def wordsOk (ws:List Lu):Prop:=ws.length≤1048577∧∀ w ∈ ws,(∀ c ∈ w,c.toNat<128)∧w.length≤1048576
theorem wordsOk.tail {w:Lu} {ws:List Lu} (h:wordsOk (w::ws)):wordsOk ws:=⟨by have:=h.1;rw[Az5] at this;omega,fun x e=>h.2 x (A0r _ e)⟩
theorem iT {N:Nat} {ws:List Lu} {d e:Bool} {K:Nat→Bool→LA→O R} (n:wordsOk ws) (s:fit 30000000 N):∀ (m j fuel:Nat) (k:List Int),j+m=ws.length→m<fuel→k.length=j →
  F2 N K ws.length (Bq ws) d e fuel (ws.length:Int) (j:Int) (Ap (k++replicate m 0))=match Ik (ws.drop j) with | some l=>K ws.length true (Ap (k++l)) | none=>K 0 false []
 | 0,j,fuel+1,k,t,_,_=>by
  rw[F2];unfold O0
  rw[H2 (by omega),cf,show drop j ws=[] from A0k (by omega)];rfl
 | m+1,j,fuel+1,k,t,u,q=>by
  have B:=s.1
  have C:=n.1
  have h:j<ws.length:=by omega
  obtain⟨z,D⟩:=n.2 _ (A0l h)
  rw[F2];unfold O0
  rw[Gh h,ct,Aa h,ct,Az1,A0b,qG h,a6 z (by omega) (by omega),A0d h,Ik]
  cases F:Ac1 ws[j] with
  | none=>rfl
  | some v =>
   have e1:(beq 1 1&&(ble (0+j+1) (Ap (k++replicate (m+1) 0)).length&&(!false)))=true:=by
    rw[Dw,Az2,A1v,q];simp
   have A:(Ap (k++replicate (m+1) 0)).set (0+j) (.int .i64 v)=Ap ((k++[v])++replicate m 0):=by
    unfold Ap
    rw[A3j,A0g,A15,A4f _ _ (by rw[A03];omega),A03,q,A5l]
    simp
   dsimp only
   rw[show(!true)=false from rfl,cf,e1,ct,A,wS (by omega),iT n s m (j+1) fuel (k++[v]) (by omega) (by omega) (by rw[Az2,A0t,q])]
   cases Ik (ws.drop (j+1)) with
   | none=>rfl
   | some l=>simp
theorem uv {N:Nat} {ws:List Lu} {d e:Bool} {K:Nat→Bool→LA→O R} (j:wordsOk ws) (k:fit 30000000 N):Gd N (Bq ws) ws.length d e K=match Ik ws with | some l=>K ws.length true (Ap l) | none=>K 0 false []:=by
 have q:=k.1
 have s:=j.1
 rw[KO];unfold Xi
 have n:((decide (0≤(ws.length:Int)))&&((decide ((ws.length:Int)≤(ws.length:Int)))&&((decide ((ws.length:Int)≤140737488355328))&&(decide (((ws.length:Int)*((8:Nat):Int))≤140737488355328)))))=true:=by simp;omega
 rw[n,ct]
 have:=iT (R:=R) (N:=N) (ws:=ws) (d:=d) (e:=e) (K:=K) j k ws.length 0 N [] (by omega) (by omega) rfl
 rw[A00,A1o] at this
 rw[show replicate ws.length (.int .i64 0:AV)=Ap (replicate ws.length 0) by unfold Ap;rw[List.map_replicate]]
 simpa using this
theorem iU {ws:List Lu} {l:List Int} (h:Ik ws=some l):ws.length=l.length:=by rw[(Fv.1 h).1,A03]
theorem Ahq (w:Lu) (r:List Lu):take (((w::r).length - 1)*1) (drop 1 (Bq (w::r)))=Bq r:=by
 show take ((r.length+1 - 1)*1) (Bq r)=_
 rw[A0b,A28,Az0 (by rw[Jv];exact Az3 _)]
theorem Ayl (w:Lu) (r:List Lu):((decide ((0:Int)≤(1:Int)))&&((decide (1≤(((w::r).length:Nat):Int)))&&((decide ((((w::r).length:Nat):Int)≤(((w::r).length:Nat):Int)))&&(decide ((((w::r).length:Nat):Int)≤(((w::r).length:Nat):Int))))))=true:=by
 rw[Az5];simp;omega
theorem AS {N:Nat} {w:Lu} {r:List Lu} {d e:Bool} {K:Nat→Bool→LA→O R} (j:wordsOk (w::r)) (k:fit 30000000 N):Gd N (take (((w::r).length - 1)*1) (drop 1 (Bq (w::r)))) ((w::r).length - 1) d e K=match Ik r with | some l=>K l.length true (Ap l) | none=>K 0 false []:=by
 rw[Ahq,Az5,A28,uv j.tail k]
 cases h:Ik r with
 | none=>rfl
 | some l=>dsimp only;rw[iU h]
theorem Ac8 (w:Lu) (r:List Lu):Ae 0 (w::r).length=true:=Aa (i:=0) (by simp)
theorem xM {w:Lu} {r:List Lu} {F:Lu→O R}:bU (Bq (w::r)) F=F w:=qG (j:=0) (l:=w::r) (by simp)
theorem uw {N:Nat} {ws:List Lu} {e d:Bool} {K:LA→Bool→O R} (t:ws≠[]) (j:wordsOk ws) (n:fit 30000000 N):UY N (Bq ws) ws.length e d K=match xI ws with | some u=>K (Cc u) true | none=>K (Cc (0,0)) false:=by
 rw[gy];unfold XC
 by_cases k:ws.length=3
 ·match ws,k,j with
  | [w,a,b],_,j =>
   rw[show((((([w,a,b]:List Lu).length:Nat):Int) != 3)==false)=true from rfl,ct,Ac8,ct,xM]
   unfold xI
   dsimp only
   by_cases hs:w=Ahc
   ·rw[if_pos hs,show(cond false true (!(w==[117,115,101])):Bool)=false by rw[hs];rfl,cf]
    unfold GF
    rw[Ayl,ct,AS j n]
    cases hn:Ik [a,b] with
    | none=>rfl
    | some l =>
     have q:=iU hn
     match l,q with
     | [x,y],_=>rfl
   ·rw[if_neg hs,show(cond false true (!(w==[117,115,101])):Bool)=true by
     have:(w==[117,115,101])=false:=beq_eq_false_iff_ne.2 hs
     rw[this];rfl,ct];rfl
 ·have e1:((ws.length:Int) != 3)=true:=by rw[bne_iff_ne];omega
  have s:xI ws=none:=by
   unfold xI
   split
   ·exact absurd rfl k
   ·rfl
  rw[e1,s];rfl
theorem nk {N:Nat} {ws:List Lu} {e d:Bool} {K:Nat→Bool→LA→O R} (k:wordsOk ws) (s:fit 30000000 N):KP N (Bq ws) ws.length e d K=match aW ws with | some p=>K 3 true (Ap [p.1,p.2.1,p.2.2]) | none=>K 0 false []:=by
 rw[aP];unfold OO
 by_cases j:ws.length=4
 ·match ws,j,k with
  | [w,a,b,c],_,k =>
   rw[show((((([w,a,b,c]:List Lu).length:Nat):Int) != 4)==false)=true from rfl,ct,Ac8,ct,xM]
   unfold aW
   dsimp only
   by_cases hs:w=ue
   ·rw[if_pos hs,show(cond false true (!(w==[108,111,103])):Bool)=false by rw[hs];rfl,cf]
    unfold AO
    rw[Ayl,ct,AS k s]
    cases hn:Ik [a,b,c] with
    | none=>rfl
    | some l =>
     have t:=iU hn
     match l,t with
     | [x,y,z],_ =>
      dsimp only
      rw[show((!true)==false)=true from rfl,ct,show Ae 0 [x,y,z].length=true from rfl,ct]
      show As .i64 (.int .i64 x::_) _=_
      rw[Ym]
      by_cases n:x≤16384
      ·rw[show((cond false true (decide (x>16384)))==false)=true by simp;omega,ct,show Ae 1 [x,y,z].length=true from rfl,ct]
       show As .i64 (.int .i64 y::_) _=_
       rw[Ym]
       by_cases q:y≤256
       ·rw[show((cond false true (decide (y>256)))==false)=true by simp;omega,ct,show Ae 2 [x,y,z].length=true from rfl,ct]
        show As .i64 (.int .i64 z::_) _=_
        rw[Ym]
        by_cases j:z≤4096
        ·rw[show(cond false true (decide (z>4096)):Bool)=false by simp;omega,cf,if_pos ⟨n,q,j⟩];rfl
        ·rw[show(cond false true (decide (z>4096)):Bool)=true by simp;omega,ct,if_neg (fun h=>j h.2.2)]
       ·rw[show((cond false true (decide (y>256)))==false)=false by simp;omega,cf,if_neg (fun h=>q h.2.1)]
      ·rw[show((cond false true (decide (x>16384)))==false)=false by simp;omega,cf,if_neg (fun h=>n h.1)]
   ·rw[if_neg hs,show(cond false true (!(w==[108,111,103])):Bool)=true by
     have:(w==[108,111,103])=false:=beq_eq_false_iff_ne.2 hs
     rw[this];rfl,ct]
 ·have e1:((ws.length:Int) != 4)=true:=by rw[bne_iff_ne];omega
  have u:aW ws=none:=by
   unfold aW
   split
   ·exact absurd rfl j
   ·rfl
  rw[e1,u];rfl
def Ayc:LA:=[(.int .i64 0),(.int .i64 0),.nsl,(.int .i64 0),(.int .i64 0),(.int .i64 0)]
def lB (c:CutV):CutD:=⟨c.kind,c.hour,if c.kind=1 then .nil else .of c.units false false,c.least,c.unit,c.len⟩
theorem Aty {c:CutV} (h:ku c):(lB c).v=c:=by
 obtain⟨kind,j,units,least,unit,len⟩:=c
 rcases h.2 with⟨e,_⟩ | ⟨e,k,_⟩
 ·simp only at e;subst e;rfl
 ·simp only at e k;subst e k;rfl
theorem ux {N:Nat} {ws:List Lu} {e d:Bool} {K:LA→Bool→O R} (B:ws≠[]) (s:wordsOk ws) (C:fit 30000000 N):U_ N (Bq ws) ws.length e d K=match Ac4 ws with | some c=>K (lB c).av true | none=>K Ayc false:=by
 rw[gz];unfold XD
 cases ws with
 | nil=>exact absurd rfl B
 | cons w r =>
  have j:=s.1
  rw[Az5] at j
  rw[Ayl,ct,AS s C]
  unfold Ac4
  dsimp only
  cases hn:Ik r with
  | none=>rfl
  | some l =>
   have n:=iU hn
   have u:∀ b:Bool,Rw N K (Bq (w::r)) (w::r).length e d l.length (Ap l) false=if w=KU∧l.length=3 then K (lB ⟨1,l.getD 0 0,[],0,l.getD 1 0,l.getD 2 0⟩).av true else K Ayc false:=fun _=>by
    unfold Rw AP
    rw[cf,Ac8,ct,xM]
    by_cases hr:w=KU
    ·subst hr
     rw[show((KU==[114,97,109,112])==true)=true from rfl,ct]
     unfold UZ
     by_cases v:l.length=3
     ·match l,v with
      | [x,y,z],_=>rw[if_pos ⟨rfl,rfl⟩];rfl
     ·rw[if_neg (fun h=>v h.2),show(cond true ((l.length:Int)==3) false:Bool)=false by
       show((l.length:Int)==3)=false
       rw[beq_eq_false_iff_ne];omega];rfl
    ·rw[show((w==[114,97,109,112])==true)=false by
      have:(w==[114,97,109,112])=false:=beq_eq_false_iff_ne.2 hr
      rw[this];rfl,cf,if_neg (fun h=>hr h.1)];rfl
   dsimp only
   rw[show(!true)=false from rfl,cf,Ac8,ct,xM]
   by_cases q:w=DW
   ·subst q
    rw[show((DW==[99,111,118,101,114])==true)=true from rfl,ct]
    by_cases A:2≤l.length
    ·match l,A,n with
     | x::y::t,_,n =>
      rw[if_pos ⟨rfl,by simp⟩]
      rw[show(cond true (decide ((((x::y::t).length:Nat):Int)≥2)) false:Bool)=true by
       show decide ((((x::y::t).length:Nat):Int)≥2)=true
       rw[Az5,Az5];exact decide_eq_true (by omega)]
      unfold Rw AP
      rw[ct,show Ae 0 (x::y::t).length=true from Aa (i:=0) (by simp),ct]
      show As .i64 (.int .i64 x::_) _=_
      rw[Ym,show Ae 1 (x::y::t).length=true from Aa (i:=1) (by simp),ct]
      show As .i64 (.int .i64 y::_) _=_
      rw[Ym]
      have G:t.length≤1048577:=by rw[Az5,Az5] at n;omega
      have c1:((decide ((0:Int)≤(2:Int)))&&((decide (2≤(((x::y::t).length:Nat):Int)))&&((decide ((((x::y::t).length:Nat):Int)≤(((x::y::t).length:Nat):Int)))&&(decide ((((x::y::t).length:Nat):Int)≤(((x::y::t).length:Nat):Int))))))=true:=by
       rw[Az5,Az5];simp;omega
      have D:(x::y::t).length - 2=t.length:=by simp
      have F:(drop 2 (Ap (x::y::t)))=Ap t:=rfl
      rw[c1,ct,D,F,A0g,A0b,show(ble t.length 140737488355328&&ble (t.length*8) 140737488355328)=true by simp;omega,ct,show take t.length (Ap t)=Ap t from Az0 (by rw[Dw];exact Az3 _),show take t.length (Ap t)=Ap t from Az0 (by rw[Dw];exact Az3 _)]
      show K [.int .i64 0,.int .i64 x,.imm (Ap t) t.length 1 false false,.int .i64 y,.int .i64 0,.int .i64 0] true=K [.int .i64 0,.int .i64 x,.imm (t.flatMap Sh) t.length 1 false false,.int .i64 y,.int .i64 0,.int .i64 0] true
      rw[Ft]
    ·rw[if_neg (fun h=>A h.2),show(cond true (decide ((l.length:Int)≥2)) false:Bool)=false by
      show decide ((l.length:Int)≥2)=false
      exact decide_eq_false (by omega),u true,if_neg (by rintro⟨h,_⟩;exact absurd h (by decide)),if_neg (by rintro⟨h,_⟩;exact absurd h (by decide))]
   ·rw[show((w==[99,111,118,101,114])==true)=false by
     have:(w==[99,111,118,101,114])=false:=beq_eq_false_iff_ne.2 q
     rw[this];rfl,cf,u true,show(if w=DW∧2≤l.length then some (⟨0,l.getD 0 0,l.drop 2,l.getD 1 0,0,0⟩:CutV) else if w=KU∧l.length=3 then some ⟨1,l.getD 0 0,[],0,l.getD 1 0,l.getD 2 0⟩ else none)=if w=KU∧l.length=3 then some ⟨1,l.getD 0 0,[],0,l.getD 1 0,l.getD 2 0⟩ else none from if_neg (fun h=>q h.1)]
    by_cases k:w=KU∧l.length=3
    ·rw[if_pos k,if_pos k]
    ·rw[if_neg k,if_neg k]
theorem Dm {α:Type} {e:α→LA} {sz:Nat} (j:∀ a,(e a).length=sz) (l:List α):(l.flatMap e).length=l.length*sz:=by
 induction l with
 | nil=>simp
 | cons a r k=>rw[A0z,Az2,j,k,Az5,A5i,A2v]
def Ayd (es:List EntD):Sl EntD:=if es=[] then .nil else .of es false false
theorem Atz (es:List EntD):(Ayd es).l=es:=by
 unfold Ayd
 split
 ·rename_i h;rw[h];rfl
 ·rfl
def At0 (e:EntD):Prop:=e.v.can e.v.q∧e.v.m≤4097
def Ahr:LA:=[(.int .i64 0),(.int .i64 0),(.int .i64 0),(.int .i64 0),.nsl]
theorem Anf {N:Nat} {w:Lu} (n:∀ c ∈ w,c.toNat<128) (s:w.length≤1048576) (t:fit 30000000 N) :
  (∃ e:EntD,At0 e∧Aqd w=some e.p∧∀ K:LA→Bool→O R,I4 N w K=K e.av true)∨(Aqd w=none∧∀ K:LA→Bool→O R,I4 N w K=K Alj false):=by
 rcases Alk (R:=R) (N:=N) n s t with⟨x,p,k,u,j,v⟩ | ⟨z,A⟩
 ·have e:EntD.p ⟨p.1,x⟩=p:=by unfold EntD.p;rw[j.q]
  refine .inl ⟨⟨p.1,x⟩,⟨by rw[j.q];exact j,by rw[j.m];exact Atx k.2.2⟩,?_,v⟩
  rw[e];exact ua.2 ⟨u,k⟩
 ·refine .inr ⟨?_,A⟩
  unfold Aqd
  rw[dif_neg z]
theorem Ay5 (e:EntD):take 4 (setCells [(.int .i64 0),(.bool false),.nsl,.nsl] 0 (take 4 e.av))=e.av:=rfl
theorem yz {N:Nat} {ws:List Lu} {b d:Bool} {k:Int} (s:wordsOk ws) (t:fit 30000000 N):∀ (m j fuel:Nat) (n:List EntD),j+m=ws.length→m<fuel→n≠[]→n.length=j→(∀ e ∈ n,At0 e) →
  (∃ es:List EntD,(∀ e ∈ es,At0 e)∧Ut (ws.drop j)=some (es.map EntD.p)∧∀ K:LA→Bool→O R,El N K (Bq ws) ws.length b d k fuel (ws.length:Int) (j:Int) n.length (n.flatMap EntD.av)=K (NodeD.av ⟨k,0,0,0,.of (n++es) false false⟩) true) ∨
  (Ut (ws.drop j)=none∧∀ K:LA→Bool→O R,El N K (Bq ws) ws.length b d k fuel (ws.length:Int) (j:Int) n.length (n.flatMap EntD.av)=K Ahr false)
 | 0,j,fuel+1,n,C,_,D,A,B=>by
  refine .inl ⟨[],by simp,by rw[show drop j ws=[] from A0k (by omega)];rfl,fun K=>?_⟩
  rw[El];unfold Pw
  rw[H2 (by omega),cf,Az0 (by rw[Dm G9];exact Az3 _),A1y];rfl
 | m+1,j,fuel+1,n,C,F,D,A,B=>by
  have T:=t.1
  have U:=s.1
  have h:j<ws.length:=by omega
  obtain⟨G,I⟩:=s.2 _ (A0l h)
  rw[A0d h,Ut]
  rcases Anf (R:=R) (N:=N) G I t with⟨e,c1,u,L⟩ | ⟨c1,u⟩
  ·have step:∀ K:LA→Bool→O R,El N K (Bq ws) ws.length b d k (fuel+1) (ws.length:Int) (j:Int) n.length (n.flatMap EntD.av)=El N K (Bq ws) ws.length b d k fuel (ws.length:Int) ((j+1:Nat):Int) (n++[e]).length ((n++[e]).flatMap EntD.av):=fun K=>by
    rw[El];unfold Pw
    rw[Gh h,ct,Aa h,ct,Az1,A0b,qG h,L,show((beq 0 0)&&((beq (EntD.av e).length 4)&&(beq 4 4)))=true from rfl,ct,show(!true)=false from rfl,cf,show ble 4 (EntD.av e).length=true from rfl,ct,show((beq (take 4 (EntD.av e)).length 4)&&(ble 4 4))=true from rfl,ct,
     show(ble (n.length+1) 140737488355328&&ble ((n.length+1)*64) 140737488355328)=true by simp;omega,ct,Ay5,Az0 (by rw[Dm G9];exact Az3 _),wS (by omega),Az2,A1h]
    simp
   rw[u]
   rcases yz (b:=b) (d:=d) (k:=k) s t m (j+1) fuel (n++[e]) (by omega) (by omega) (by simp) (by rw[Az2,A0t,A]) (fun x q=>by
    rcases A0f.1 q with q | q
    ·exact B x q
    ·rw[A01] at q;rw[q];exact c1) with⟨es,v,z,S⟩ | ⟨v,z⟩
   ·refine .inl ⟨e::es,fun x q=>?_,by rw[z];rfl,fun K=>by rw[step,S];simp⟩
    rcases Az7.1 q with rfl | q
    ·exact c1
    ·exact v x q
   ·exact .inr ⟨by rw[v],fun K=>by rw[step,z]⟩
  ·refine .inr ⟨by rw[c1],fun K=>?_⟩
   rw[El];unfold Pw
   rw[Gh h,ct,Aa h,ct,Az1,A0b,qG h,u];rfl
theorem Ahs {N:Nat} {ws:List Lu} {b d:Bool} {k:Int} (q:wordsOk ws) (s:fit 30000000 N) :
  (∃ es:List EntD,(∀ e ∈ es,At0 e)∧Ut ws=some (es.map EntD.p)∧∀ K:LA→Bool→O R,Gl N k (Bq ws) ws.length b d K=K (NodeD.av ⟨k,0,0,0,Ayd es⟩) true) ∨
  (Ut ws=none∧∀ K:LA→Bool→O R,Gl N k (Bq ws) ws.length b d K=K Ahr false):=by
 have F:=s.1
 have z:=q.1
 have open1:∀ K:LA→Bool→O R,Gl N k (Bq ws) ws.length b d K=Ih N K (Bq ws) ws.length b d k N (ws.length:Int):=fun K=>by rw[aT];rfl
 obtain⟨n,rfl⟩:∃ n,N=n+1:=⟨N - 1,by omega⟩
 cases ws with
 | nil =>
  refine .inl ⟨[],by simp,rfl,fun K=>?_⟩
  rw[open1,Ih];rfl
 | cons w r =>
  have h:0<(w::r).length:=by simp
  obtain⟨A,B⟩:=q.2 w (by simp)
  rw[Ut]
  rcases Anf (R:=R) (N:=n+1) A B s with⟨e,c1,t,C⟩ | ⟨c1,t⟩
  ·have step:∀ K:LA→Bool→O R,Gl (n+1) k (Bq (w::r)) (w::r).length b d K=El (n+1) K (Bq (w::r)) (w::r).length b d k n ((w::r).length:Int) ((1:Nat):Int) ([e]:List EntD).length (([e]:List EntD).flatMap EntD.av):=fun K=>by
    rw[open1,Ih];unfold Xj
    rw[show decide ((0:Int)<(((w::r).length:Nat):Int))=true from decide_eq_true (by rw[Az5];omega),ct,Ac8,ct,xM,C]
    rfl
   rw[t]
   rcases yz (R:=R) (N:=n+1) (b:=b) (d:=d) (k:=k) q s r.length 1 n [e] (by rw[Az5];omega) (by rw[Az5] at z;omega) (by simp) rfl (fun x j=>by rw[A01] at j;rw[j];exact c1) with⟨es,u,v,D⟩ | ⟨u,v⟩
   ·refine .inl ⟨e::es,fun x j=>?_,?_,fun K=>by rw[step,D];unfold Ayd;rw[if_neg (by simp)];rfl⟩
    ·rcases Az7.1 j with rfl | j
     ·exact c1
     ·exact u x j
    ·have:Ut r=some (es.map EntD.p):=v
     rw[this];rfl
   ·have:Ut r=none:=u
    exact .inr ⟨by rw[this],fun K=>by rw[step,v]⟩
  ·refine .inr ⟨by rw[c1],fun K=>?_⟩
   rw[open1,Ih];unfold Xj
   rw[show decide ((0:Int)<(((w::r).length:Nat):Int))=true from decide_eq_true (by rw[Az5];omega),ct,Ac8,ct,xM,t];rfl
def At1 (n:NodeD):Prop:=n.y.l.length≤1048577∧∀ e ∈ n.y.l,At0 e
theorem Aht {N:Nat} {ws:List Lu} {e d:Bool} (Y:ws≠[]) (L:wordsOk ws) (V:fit 30000000 N) :
  (∃ n:NodeD,At1 n∧Yi ws=some n.v∧∀ K:LA→Bool→O R,O3 N (Bq ws) ws.length e d K=K n.av true)∨(Yi ws=none∧∀ K:LA→Bool→O R,O3 N (Bq ws) ws.length e d K=K Ahr false):=by
 cases ws with
 | nil=>exact absurd rfl Y
 | cons w r =>
  have A:=L.1
  rw[Az5] at A
  have elen:∀ {es:List EntD},Ut r=some (es.map EntD.p)→es.length≤1048577:=fun {es} h=>by
   have:=congrArg List.length (BO.1 h).1
   simp at this;omega
  have leaf:∀ k:Int,(∃ n:NodeD,At1 n∧(Ut r).map (⟨k,0,0,0,·⟩:List (Int×Rat)→NodeV)=some n.v∧∀ K:LA→Bool→O R,(Gl N k (take (((w::r).length - 1)*1) (drop 1 (Bq (w::r)))) ((w::r).length - 1) false d fun n y=>cond ((beq 0 0)&&((beq (n.length) 5)&&(beq 5 5))) (cond (ble 5 (n.length)) (K (n.take 5) y) none) none)=K n.av true)∨((Ut r).map (⟨k,0,0,0,·⟩:List (Int×Rat)→NodeV)=none∧∀ K:LA→Bool→O R,(Gl N k (take (((w::r).length - 1)*1) (drop 1 (Bq (w::r)))) ((w::r).length - 1) false d fun n y=>cond ((beq 0 0)&&((beq (n.length) 5)&&(beq 5 5))) (cond (ble 5 (n.length)) (K (n.take 5) y) none) none)=K Ahr false):=fun k=>by
   rw[Ahq,Az5,A28]
   rcases Ahs (R:=R) (N:=N) (b:=false) (d:=d) (k:=k) L.tail V with⟨es,S,D,d3⟩ | ⟨S,D⟩
   ·refine .inl ⟨⟨k,0,0,0,Ayd es⟩,⟨by rw[Atz];exact elen D,by rw[Atz];exact S⟩,?_,fun K=>by rw[d3];rfl⟩
    rw[D]
    unfold NodeD.v
    simp only[A5p,Atz]
   ·exact .inr ⟨by rw[S];rfl,fun K=>by rw[D];rfl⟩
  have open1:∀ K:LA→Bool→O R,O3 N (Bq (w::r)) (w::r).length e d K=(cond (w==[98,111,117,110,100]) ((Gl N 1 (take (((w::r).length - 1)*1) (drop 1 (Bq (w::r)))) ((w::r).length - 1) false d fun n y=>cond ((beq 0 0)&&((beq (n.length) 5)&&(beq 5 5))) (cond (ble 5 (n.length)) (K (n.take 5) y) none) none)) (cond (w==[102,97,114,107,97,115]) ((Gl N 2 (take (((w::r).length - 1)*1) (drop 1 (Bq (w::r)))) ((w::r).length - 1) false d fun n y=>cond ((beq 0 0)&&((beq (n.length) 5)&&(beq 5 5))) (cond (ble 5 (n.length)) (K (n.take 5) y) none) none)) (match Ik r with | none=>K Ahr false | some l=>cond ((w==[98,114,97,110,99,104])==true) (Fl N K (Bq (w::r)) (w::r).length e d l.length (Ap l) ((l.length:Int)==2)) (Fl N K (Bq (w::r)) (w::r).length e d l.length (Ap l) false)))):=fun K=>by
   rw[aU];unfold OS
   rw[Ac8,ct,xM,Ayl,ct,ct,ct,AS L V]
   cases Ik r with
   | none=>rfl
   | some l=>dsimp only;rw[show(!true)=false from rfl,cf,ct,xM];rfl
  have b1:∀ s t:Lu,s=t→(s==t)=true:=fun s t h=>by rw[h];simp
  have q:∀ s t:Lu,s≠t→(s==t)=false:=fun s t h=>beq_eq_false_iff_ne.2 h
  have bi:∀ (l:List Int) (k:Nat),l.length≠k→((l.length:Int)==(k:Int))=false:=fun l k h=>by rw[beq_eq_false_iff_ne];omega
  unfold Yi
  dsimp only
  by_cases u:w=VK
  ·rw[if_pos u]
   rcases leaf 1 with⟨n,n1,n2,n3⟩ | ⟨n1,n2⟩
   ·exact .inl ⟨n,n1,n2,fun K=>by rw[open1,b1 _ [98,111,117,110,100] u,ct,n3]⟩
   ·exact .inr ⟨n1,fun K=>by rw[open1,b1 _ [98,111,117,110,100] u,ct,n2]⟩
  rw[if_neg u]
  by_cases B:w=OX
  ·rw[if_pos B]
   rcases leaf 2 with⟨n,n1,n2,n3⟩ | ⟨n1,n2⟩
   ·exact .inl ⟨n,n1,n2,fun K=>by rw[open1,q _ [98,111,117,110,100] u,cf,b1 _ [102,97,114,107,97,115] B,ct,n3]⟩
   ·exact .inr ⟨n1,fun K=>by rw[open1,q _ [98,111,117,110,100] u,cf,b1 _ [102,97,114,107,97,115] B,ct,n2]⟩
  rw[if_neg B]
  have open2:∀ K:LA→Bool→O R,O3 N (Bq (w::r)) (w::r).length e d K=(match Ik r with | none=>K Ahr false | some l=>cond ((w==[98,114,97,110,99,104])==true) (Fl N K (Bq (w::r)) (w::r).length e d l.length (Ap l) ((l.length:Int)==2)) (Fl N K (Bq (w::r)) (w::r).length e d l.length (Ap l) false)):=fun K=>by
   rw[open1,q _ [98,111,117,110,100] u,cf,q _ [102,97,114,107,97,115] B,cf]
  cases hn:Ik r with
  | none=>exact .inr ⟨rfl,fun K=>by rw[open2,hn]⟩
  | some l =>
   dsimp only
   have T:∀ K:LA→Bool→O R,Fl N K (Bq (w::r)) (w::r).length e d l.length (Ap l) false=if w=VL∧l.length=1 then K (NodeD.av ⟨3,l.getD 0 0,0,0,.nil⟩) true else if w=Y5∧l.length=3 then K (NodeD.av ⟨4,l.getD 0 0,l.getD 2 0,l.getD 1 0,.nil⟩) true else K Ahr false:=fun K=>by
    have X:AR N K (Bq (w::r)) (w::r).length e d l.length (Ap l) false=if w=Y5∧l.length=3 then K (NodeD.av ⟨4,l.getD 0 0,l.getD 2 0,l.getD 1 0,.nil⟩) true else K Ahr false:=by
     unfold AR HQ
     rw[cf,Ac8,ct,xM]
     unfold OR
     by_cases F:w=Y5
     ·rw[b1 _ [111,114,100,101,114] F,show((true:Bool)==true)=true from rfl,ct]
      by_cases j:l.length=3
      ·rw[if_pos ⟨F,j⟩]
       match l,j with
       | [x,y,z],_=>rfl
      ·rw[if_neg (fun h=>j h.2),show(cond true ((l.length:Int)==3) false:Bool)=false from bi l 3 j];rfl
     ·rw[q _ [111,114,100,101,114] F,if_neg (fun h=>F h.1)];rfl
    unfold Fl HR
    rw[cf,Ac8,ct,xM]
    by_cases G:w=VL
    ·rw[b1 _ [112,97,116,104] G,show((true:Bool)==true)=true from rfl,ct]
     by_cases j:l.length=1
     ·rw[if_pos ⟨G,j⟩]
      match l,j with
      | [x],_=>rfl
     ·rw[if_neg (fun h=>j h.2),show(cond true ((l.length:Int)==1) false:Bool)=false from bi l 1 j]
      exact X
    ·rw[q _ [112,97,116,104] G,if_neg (fun h=>G h.1)]
     exact X
   by_cases j:w=Xm∧l.length=2
   ·rw[if_pos j]
    refine .inl ⟨⟨0,l.getD 0 0,l.getD 1 0,0,.nil⟩,⟨by simp[Sl.l],by simp[Sl.l]⟩,rfl,fun K=>?_⟩
    rw[open2,hn]
    dsimp only
    rw[b1 _ [98,114,97,110,99,104] j.1,show((true:Bool)==true)=true from rfl,ct]
    match l,j.2 with
    | [x,y],_=>rfl
   rw[if_neg j]
   have open3:∀ K:LA→Bool→O R,O3 N (Bq (w::r)) (w::r).length e d K=Fl N K (Bq (w::r)) (w::r).length e d l.length (Ap l) false:=fun K=>by
    rw[open2,hn]
    dsimp only
    by_cases U:w=Xm
    ·rw[b1 _ [98,114,97,110,99,104] U,show((true:Bool)==true)=true from rfl,ct,show((l.length:Int)==2)=false from bi l 2 (fun h=>j ⟨U,h⟩)]
    ·rw[q _ [98,114,97,110,99,104] U];rfl
   by_cases C:w=VL∧l.length=1
   ·rw[if_pos C]
    exact .inl ⟨⟨3,l.getD 0 0,0,0,.nil⟩,⟨by simp[Sl.l],by simp[Sl.l]⟩,rfl,fun K=>by rw[open3,T,if_pos C]⟩
   rw[if_neg C]
   by_cases I:w=Y5∧l.length=3
   ·rw[if_pos I]
    exact .inl ⟨⟨4,l.getD 0 0,l.getD 2 0,l.getD 1 0,.nil⟩,⟨by simp[Sl.l],by simp[Sl.l]⟩,rfl,fun K=>by rw[open3,T,if_neg C,if_pos I]⟩
   rw[if_neg I]
   exact .inr ⟨rfl,fun K=>by rw[open3,T,if_neg C,if_neg I]⟩
structure StD where
 begun:Bool
 a:Int
 b:Int
 c:Int
 us:List (Int×Int)
 cs:List CutV
 ns:List NodeD
def StD.v (s:StD):St:=⟨s.begun,s.a,s.b,s.c,⟨s.us,s.cs,s.ns.map NodeD.v⟩⟩
def StD.log (s:StD):LogD:=⟨.of s.us false false,.of (s.cs.map lB) false false,.of s.ns false false⟩
structure StOk (k:Nat) (s:StD):Prop where
 a:0≤s.a∧s.a≤1000000
 b:0≤s.b∧s.b≤1000000
 c:0≤s.c∧s.c≤1000000
 us:s.us.length+k≤2000000
 cs:s.cs.length+k≤2000000
 ns:s.ns.length+k≤2000000
 cut:∀ x ∈ s.cs,ku x∧x.units.length≤1048577
 node:∀ x ∈ s.ns,At1 x
theorem StD.log_v {s:StD} {k:Nat} (h:StOk k s):s.log.v=s.v.L:=by
 unfold StD.log StD.v LogD.v
 simp only[Sl.l,A25]
 congr 1
 have:∀ l:List CutV,(∀ x ∈ l,ku x)→List.map (CutD.v∘lB) l=l:=fun l e=>by
  induction l with
  | nil=>rfl
  | cons x r j=>rw[A0n,j fun y n=>e y (A0r _ n),Function.comp,Aty (e x (by simp))]
 exact this _ fun x q=>(h.cut x q).1
def Hm (l:List CutV):LA:=(l.map lB).flatMap CutD.av
theorem VQ {c:UInt8}:∀ {s:Lu} {w:Lu},w ∈ Cf.Zp c s→w.length≤s.length
 | [],w,h=>by rw[Cf.Zp,A01] at h;subst h;simp
 | b::r,w,h=>by
  rw[Cf.Zp] at h
  by_cases e:b=c
  ·rw[if_pos e,Az7] at h
   rcases h with rfl | h
   ·simp
   ·have:=VQ h;rw[Az5];omega
  ·rw[if_neg e] at h
   cases hs:Cf.Zp c r with
   | nil=>exact absurd hs (Cf.VJ c r)
   | cons v vs =>
    rw[hs] at h
    dsimp only at h
    rcases Az7.1 h with rfl | h
    ·have:=VQ (c:=c) (s:=r) (w:=v) (by rw[hs];simp)
     rw[Az5,Az5];omega
    ·have:=VQ (c:=c) (s:=r) (w:=w) (by rw[hs];exact A0r _ h)
     rw[Az5];omega
theorem XJ {c:UInt8}:∀ {s:Lu} {w:Lu},w ∈ Cf.Zp c s→c ∉ w
 | [],w,h=>by rw[Cf.Zp,A01] at h;subst h;simp
 | b::r,w,h=>by
  rw[Cf.Zp] at h
  by_cases e:b=c
  ·rw[if_pos e,Az7] at h
   rcases h with rfl | h
   ·simp
   ·exact XJ h
  ·rw[if_neg e] at h
   cases hs:Cf.Zp c r with
   | nil=>exact absurd hs (Cf.VJ c r)
   | cons v vs =>
    rw[hs] at h
    dsimp only at h
    rcases Az7.1 h with rfl | h
    ·intro j
     rcases Az7.1 j with rfl | j
     ·exact e rfl
     ·exact XJ (c:=c) (s:=r) (w:=v) (by rw[hs];simp) j
    ·exact XJ (c:=c) (s:=r) (w:=w) (by rw[hs];exact A0r _ h)
theorem Aqq {l:Lu} (j:∀ c ∈ l,c.toNat<128) (n:l.length≤1048576):wordsOk (Cf.Zp 32 l) :=
 ⟨by have:=Ac0 (c:=32) l;omega,fun w e=>⟨fun c k=>j c (iK e k),by have:=VQ e;omega⟩⟩
theorem Ay6 (u:Int×Int):take 2 (setCells [(.int .i64 0),(.int .i64 0)] 0 (take 2 (setCells [(.int .i64 0),(.int .i64 0)] 0 (Cc u))))=Cc u:=rfl
theorem Ay7 (c:CutD):take 6 (setCells [(.int .i64 0),(.int .i64 0),.nsl,(.int .i64 0),(.int .i64 0),(.int .i64 0)] 0 (take 6 c.av))=c.av:=rfl
theorem Ay8 (n:NodeD):take 5 (setCells [(.int .i64 0),(.int .i64 0),(.int .i64 0),(.int .i64 0),.nsl] 0 (take 5 n.av))=n.av:=rfl
theorem Ay9 {a:Int} (h:0<a∧a≤1000000):wrap .i64 (a - 1)=a - 1:=i64 (by omega)
theorem gD {N k:Nat} {s:StD} {ws:List Lu} (X:ws≠[]) (L:wordsOk ws) (T:fit 30000000 N) (hs:StOk (k+1) s) :
  (∃ F:StD,StOk k F∧ui s.v ws=some F.v∧∀ (A:Bool→Bool→Int→Int→Int→O R) (B C D:Nat→Int→LA→O R) (G:Bool→Int→Int→Int→Nat→LA→Nat→LA→Nat→LA→O R),
   (∀ bg x y z,A true bg x y z=G bg x y z s.us.length (s.us.flatMap Cc) s.cs.length (Hm s.cs) s.ns.length (s.ns.flatMap NodeD.av)) →
   (∀ n x l,B n x l=G s.begun x s.b s.c n l s.cs.length (Hm s.cs) s.ns.length (s.ns.flatMap NodeD.av)) →
   (∀ n x l,C n x l=G s.begun s.a x s.c s.us.length (s.us.flatMap Cc) n l s.ns.length (s.ns.flatMap NodeD.av)) →
   (∀ n x l,D n x l=G s.begun s.a s.b x s.us.length (s.us.flatMap Cc) s.cs.length (Hm s.cs) n l) →
   ki N (Bq ws) ws.length false true s.us.length s.cs.length s.ns.length s.begun s.a s.b s.c (s.us.flatMap Cc) (Hm s.cs) (s.ns.flatMap NodeD.av) A B C D=G F.begun F.a F.b F.c F.us.length (F.us.flatMap Cc) F.cs.length (Hm F.cs) F.ns.length (F.ns.flatMap NodeD.av)) ∨
  (ui s.v ws=none∧∀ (A:Bool→Bool→Int→Int→Int→O R) (B C D:Nat→Int→LA→O R),ki N (Bq ws) ws.length false true s.us.length s.cs.length s.ns.length s.begun s.a s.b s.c (s.us.flatMap Cc) (Hm s.cs) (s.ns.flatMap NodeD.av) A B C D=A false s.begun s.a s.b s.c):=by
 obtain⟨begun,a,b,c,us,cs,ns⟩:=s
 obtain⟨ha,hb,hc,hu,hcs,hns,q,j⟩:=hs
 simp only at ha hb hc hu hcs hns q j
 unfold ui StD.v
 dsimp only
 cases begun with
 | false =>
  rw[if_pos rfl]
  cases hh:aW ws with
  | none =>
   refine .inr ⟨rfl,fun A B C D=>?_⟩
   rw[I5];unfold T6
   rw[show(!false)=true from rfl,ct,nk L T,hh];rfl
  | some p =>
   obtain⟨x,y,z⟩:=p
   obtain⟨_,b1,b2,b3⟩:=kq.1 hh
   refine .inl ⟨⟨true,x,y,z,us,cs,ns⟩,⟨by simp only;omega,by simp only;omega,by simp only;omega,by simp only;omega,by simp only;omega,by simp only;omega,q,j⟩,rfl,fun A B C D G Y g2 g3 g4=>?_⟩
   rw[I5];unfold T6
   rw[show(!false)=true from rfl,ct,nk L T,hh]
   exact Y true x y z
 | true =>
  rw[if_neg (by simp)]
  by_cases I:0<a
  ·rw[if_pos I]
   cases hh:xI ws with
   | none =>
    refine .inr ⟨rfl,fun A B C D=>?_⟩
    rw[I5];unfold T6
    rw[show(!true)=false from rfl,cf,decide_eq_true I,ct,uw X L T,hh];rfl
   | some u =>
    refine .inl ⟨⟨true,a - 1,b,c,us++[u],cs,ns⟩,⟨by simp only;omega,hb,hc,by simp only[Az2,A0t];omega,by simp only;omega,by simp only;omega,q,j⟩,rfl,fun A B C D G Y g2 g3 g4=>?_⟩
    rw[I5];unfold T6
    rw[show(!true)=false from rfl,cf,decide_eq_true I,ct,uw X L T,hh]
    dsimp only
    rw[show((beq (Cc u).length 2)&&((ble 2 2)&&(!false)))=true from rfl,ct,show(!true)=false from rfl,cf,show ble 2 (setCells [(.int .i64 0),(.int .i64 0)] 0 (Cc u)).length=true from rfl,ct,show((beq (take 2 (setCells [(.int .i64 0),(.int .i64 0)] 0 (Cc u))).length 2)&&(ble 2 2))=true from rfl,ct,Ay6,
     show(ble (us.length+1) 140737488355328&&ble ((us.length+1)*16) 140737488355328)=true by simp;omega,ct,Az0 (by rw[Dm Fr];exact Az3 _),Ay9 ⟨I,by omega⟩,g2,Az2,A1h]
    simp
  rw[if_neg I]
  by_cases S:0<b
  ·rw[if_pos S]
   cases hh:Ac4 ws with
   | none =>
    refine .inr ⟨rfl,fun A B C D=>?_⟩
    rw[I5];unfold T6
    rw[show(!true)=false from rfl,cf,decide_eq_false I,cf,decide_eq_true S,ct,ux X L T,hh];rfl
   | some u =>
    have U:=(uf.1 hh)
    have hul:u.units.length≤1048577:=by
     rcases U.2.2 with h | h
     ·have e:=congrArg List.length U.1
      have hk:¬ u.kind=1:=by omega
      unfold pb at e
      rw[if_neg hk] at e
      simp at e
      have:=L.1
      omega
     ·rw[h.2.1];simp
    refine .inl ⟨⟨true,a,b - 1,c,us,cs++[u],ns⟩,⟨ha,by simp only;omega,hc,by simp only;omega,by simp only[Az2,A0t];omega,by simp only;omega,fun x t=>?_,j⟩,rfl,fun A B C D G Y g2 g3 g4=>?_⟩
    ·rcases A0f.1 t with t | t
     ·exact q x t
     ·rw[A01] at t;rw[t];exact⟨U.2,hul⟩
    ·have ec:Hm (cs++[u])=Hm cs++(lB u).av:=by unfold Hm;rw[A15,A1h];simp
     rw[I5];unfold T6
     rw[show(!true)=false from rfl,cf,decide_eq_false I,cf,decide_eq_true S,ct,ux X L T,hh]
     dsimp only
     rw[show((beq 0 0)&&((beq (lB u).av.length 6)&&(beq 6 6)))=true from rfl,ct,show(!true)=false from rfl,cf,show ble 6 (lB u).av.length=true from rfl,ct,show((beq (take 6 (lB u).av).length 6)&&(ble 6 6))=true from rfl,ct,Ay7,
      show(ble (cs.length+1) 140737488355328&&ble ((cs.length+1)*64) 140737488355328)=true by simp;omega,ct,Az0 (by unfold Hm;rw[Dm D2,A03];exact Az3 _),Ay9 ⟨S,by omega⟩,g3,Az2,ec]
     simp
  rw[if_neg S]
  by_cases V:0<c
  ·rw[if_pos V]
   rcases Aht (R:=R) (N:=N) (e:=false) (d:=true) X L T with⟨n,n1,n2,n3⟩ | ⟨n1,n2⟩
   ·rw[n2]
    refine .inl ⟨⟨true,a,b,c - 1,us,cs,ns++[n]⟩,⟨ha,hb,by simp only;omega,by simp only;omega,by simp only;omega,by simp only[Az2,A0t];omega,q,fun x t=>?_⟩,?_,fun A B C D G Y g2 g3 g4=>?_⟩
    ·rcases A0f.1 t with t | t
     ·exact j x t
     ·rw[A01] at t;rw[t];exact n1
    ·rw[A5p,A15];rfl
    ·rw[I5];unfold T6
     rw[show(!true)=false from rfl,cf,decide_eq_false I,cf,decide_eq_false S,cf,decide_eq_true V,ct,n3]
     rw[show((beq 0 0)&&((beq n.av.length 5)&&(beq 5 5)))=true from rfl,ct,show(!true)=false from rfl,cf,show ble 5 n.av.length=true from rfl,ct,show((beq (take 5 n.av).length 5)&&(ble 5 5))=true from rfl,ct,Ay8,
      show(ble (ns.length+1) 140737488355328&&ble ((ns.length+1)*56) 140737488355328)=true by simp;omega,ct,Az0 (by rw[Dm B7];exact Az3 _),Ay9 ⟨V,by omega⟩,g4,Az2,A1h]
     simp
   ·rw[n1]
    refine .inr ⟨rfl,fun A B C D=>?_⟩
    rw[I5];unfold T6
    rw[show(!true)=false from rfl,cf,decide_eq_false I,cf,decide_eq_false S,cf,decide_eq_true V,ct,n2];rfl
  ·rw[if_neg V]
   refine .inr ⟨rfl,fun A B C D=>?_⟩
   rw[I5];unfold T6
   rw[show(!true)=false from rfl,cf,decide_eq_false I,cf,decide_eq_false S,cf,decide_eq_false V,cf]
theorem All {N:Nat} {l:Lu} {K:Nat→LA→O R} (h:l.length≤1048576):strings_Split N l [32] K=K (Cf.Zp 32 l).length (Bq (Cf.Zp 32 l)):=by
 rw[Mp];unfold No
 rw[show(ble l.length 4294967280&&ble 1 ([32]:Lu).length)=true by simp;omega,ct,Aqc];rfl
theorem Aqr {N:Nat} {s:StD} {f g i:Nat} {l m n:LA} {K:Bool→O R}:qE N f g i s.begun s.a s.b s.c l m n K=K (uj s.v):=by
 rw[na];unfold uV uj StD.v
 dsimp only
 cases s.begun
 ·rfl
 ·rw[show((true:Bool)==true)=true from rfl,ct,A1n,A19]
  have e:∀ x:Int,(x==0)=decide (x=0):=fun x=>by rw[Bool.eq_iff_iff];simp
  rw[e,e,e];rfl
def At2:LA:=[.nsl,.nsl,.nsl]
theorem uy {N:Nat} (u:fit 30000000 N):∀ (ls:List Lu) (s:StD) (fuel:Nat) (ln:Int),ls≠[]→(∀ l ∈ ls,(10:UInt8) ∉ l∧(∀ c ∈ l,c.toNat<128)∧l.length≤1048576)→(Fq 10 ls).length≤1048576→ls.length<fuel→StOk ls.length s →
  (∃ (k:Nat) (e:StD),StOk k e∧YK s.v ls=some e.v.L∧∀ K:LA→Int→Int→O R,Bt N K fuel (Fq 10 ls) ln s.us.length s.cs.length s.ns.length s.begun s.a s.b s.c (s.us.flatMap Cc) (Hm s.cs) (s.ns.flatMap NodeD.av)=K e.log.av 0 0) ∨
  (YK s.v ls=none∧∃ (at_:Int),∀ K:LA→Int→Int→O R,Bt N K fuel (Fq 10 ls) ln s.us.length s.cs.length s.ns.length s.begun s.a s.b s.c (s.us.flatMap Cc) (Hm s.cs) (s.ns.flatMap NodeD.av)=K At2 at_ 2)
 | [l],s,fuel+1,ln,_,j,A,_,hs=>by
  rw[YK,if_pos rfl]
  by_cases n:l=[]
  ·subst n
   have step:∀ K:LA→Int→Int→O R,Bt N K (fuel+1) (Fq 10 [[]]) ln s.us.length s.cs.length s.ns.length s.begun s.a s.b s.c (s.us.flatMap Cc) (Hm s.cs) (s.ns.flatMap NodeD.av)=cond (!uj s.v) (K At2 (wrap .i64 (ln+1)) 2) (K s.log.av 0 0):=fun K=>by
    rw[Bt];unfold T7
    rw[show(!(Fq 10 [[]]==([]:Lu)))=false from rfl,cf,Aqr,Az0 (by rw[Dm Fr];exact Az3 _),Az0 (by unfold Hm;rw[Dm D2,A03];exact Az3 _),Az0 (by rw[Dm B7];exact Az3 _)]
    unfold StD.log LogD.av Hm Sl.av
    simp only[A03];rfl
   cases B:uj s.v
   ·rw[if_neg (by rintro⟨_,h⟩;cases h)]
    exact .inr ⟨rfl,_,fun K=>by rw[step,B];rfl⟩
   ·rw[if_pos ⟨rfl,rfl⟩]
    exact .inl ⟨_,s,hs,rfl,fun K=>by rw[step,B];rfl⟩
  ·rw[if_neg (fun h=>n h.1)]
   refine .inr ⟨rfl,wrap .i64 (ln+1),fun K=>?_⟩
   rw[Bt];unfold T7
   show cond (!(l==[])) _ _=_
   rw[show(l==[])=false from beq_eq_false_iff_ne.2 n,show(!false)=true from rfl,ct]
   show strings_Cut N l _ _=_
   rw[pa (by have:=(j l (by simp)).2.2;omega),Acy (j l (by simp)).1]
   rfl
 | l::v::r,s,fuel+1,ln,_,j,A,q,hs=>by
  obtain⟨l1,l2,l3⟩:=j l (by simp)
  rw[Az5] at hs q
  have ej:Fq 10 (l::v::r)=l++10::Fq 10 (v::r):=dU 10 l (by simp)
  rw[ej,Az2,Az5] at A
  rw[YK,if_neg (by simp)]
  have pre:∀ K:LA→Int→Int→O R,Bt N K (fuel+1) (Fq 10 (l::v::r)) ln s.us.length s.cs.length s.ns.length s.begun s.a s.b s.c (s.us.flatMap Cc) (Hm s.cs) (s.ns.flatMap NodeD.av) =
    ki N (Bq (Cf.Zp 32 l)) (Cf.Zp 32 l).length false true s.us.length s.cs.length s.ns.length s.begun s.a s.b s.c (s.us.flatMap Cc) (Hm s.cs) (s.ns.flatMap NodeD.av)
     (fun x y z aa ab=>cond (cond false true (!x)) (K At2 (wrap .i64 (ln+1)) 2) (Bt N K fuel (Fq 10 (v::r)) (wrap .i64 (ln+1)) s.us.length s.cs.length s.ns.length y z aa ab (s.us.flatMap Cc) (Hm s.cs) (s.ns.flatMap NodeD.av)))
     (fun ac ad ae=>Bt N K fuel (Fq 10 (v::r)) (wrap .i64 (ln+1)) ac s.cs.length s.ns.length s.begun ad s.b s.c ae (Hm s.cs) (s.ns.flatMap NodeD.av))
     (fun af ag ah=>Bt N K fuel (Fq 10 (v::r)) (wrap .i64 (ln+1)) s.us.length af s.ns.length s.begun s.a ag s.c (s.us.flatMap Cc) ah (s.ns.flatMap NodeD.av))
     (fun ai aj ak=>Bt N K fuel (Fq 10 (v::r)) (wrap .i64 (ln+1)) s.us.length s.cs.length ai s.begun s.a s.b aj (s.us.flatMap Cc) (Hm s.cs) ak):=fun K=>by
   rw[Bt];unfold T7
   have C:(l++10::Fq 10 (v::r)==([]:Lu))=false:=beq_eq_false_iff_ne.2 (by simp)
   rw[ej,C,show(!false)=true from rfl,ct,pa (by rw[Az2,Az5];omega),Y4 l1]
   dsimp only
   rw[show((!true)==false)=true from rfl,ct,All l3,A0b,Az0 (by rw[Jv];exact Az3 _)]
   rfl
  rcases gD (R:=R) (N:=N) (k:=(v::r).length) (s:=s) (Cf.VJ 32 l) (Aqq l2 l3) u hs with⟨e,o1,o2,o3⟩ | ⟨o1,o2⟩
  ·rw[o2]
   have step:∀ K:LA→Int→Int→O R,Bt N K (fuel+1) (Fq 10 (l::v::r)) ln s.us.length s.cs.length s.ns.length s.begun s.a s.b s.c (s.us.flatMap Cc) (Hm s.cs) (s.ns.flatMap NodeD.av)=Bt N K fuel (Fq 10 (v::r)) (wrap .i64 (ln+1)) e.us.length e.cs.length e.ns.length e.begun e.a e.b e.c (e.us.flatMap Cc) (Hm e.cs) (e.ns.flatMap NodeD.av):=fun K=>by
    rw[pre]
    exact o3 _ _ _ _ (fun bg x y z n1 c1 n2 D n3 F=>Bt N K fuel (Fq 10 (v::r)) (wrap .i64 (ln+1)) n1 n2 n3 bg x y z c1 D F) (fun _ _ _ _=>rfl) (fun _ _ _=>rfl) (fun _ _ _=>rfl) (fun _ _ _=>rfl)
   dsimp only
   rcases uy u (v::r) e fuel (wrap .i64 (ln+1)) (by simp) (fun x G=>j x (A0r _ G)) (by omega) (by omega) o1 with⟨k,t,t1,t2,t3⟩ | ⟨t1,at_,t2⟩
   ·exact .inl ⟨k,t,t1,t2,fun K=>by rw[step,t3]⟩
   ·exact .inr ⟨t1,at_,fun K=>by rw[step,t2]⟩
  ·rw[o1]
   refine .inr ⟨rfl,wrap .i64 (ln+1),fun K=>?_⟩
   rw[pre,o2];rfl
theorem dX {N:Nat} {s:Lu} (C:∀ c ∈ s,c.toNat<128) (A:fit 30000000 N) :
  (∃ y:LogD,LogG 4097 1048577 y∧OY s=some y.v∧∀ K:LA→Int→Int→O R,Nw N s K=K y.av 0 0) ∨
  (OY s=none∧∃ at_ e:Int,(e==0)=false∧∀ K:LA→Int→Int→O R,Nw N s K=K At2 at_ e):=by
 have I:=A.1
 unfold OY
 by_cases q:s.length≤1048576
 ·rw[if_pos q]
  have open1:∀ K:LA→Int→Int→O R,Nw N s K=Bt N K N (Fq 10 (Cf.Zp 10 s)) 0 0 0 0 false 0 0 0 [] [] []:=fun K=>by
   rw[OU];unfold KQ
   rw[show decide ((s.length:Int)>1048576)=false from decide_eq_false (by omega),cf,iJ]
  have D:=Ac0 (c:=10) s
  have u:∀ l ∈ Cf.Zp 10 s,(10:UInt8) ∉ l∧(∀ c ∈ l,c.toNat<128)∧l.length≤1048576:=fun l h=>⟨XJ h,fun c z=>C c (iK h z),by have:=VQ h;omega⟩
  rcases uy (R:=R) (N:=N) A (Cf.Zp 10 s) ⟨false,0,0,0,[],[],[]⟩ N 0 (Cf.VJ _ _) u (by rw[iJ];exact q) (by omega) ⟨by simp,by simp,by simp,by simp;omega,by simp;omega,by simp;omega,by simp,by simp⟩ with⟨k,t,t1,t2,t3⟩ | ⟨t1,at_,t2⟩
  ·have F:OY s=some t.v.L:=by unfold OY;rw[if_pos q];exact t2
   have hB:=(OZ.1 F).2.1
   refine .inl ⟨t.log,⟨?_,?_,?_,?_,?_⟩,?_,fun K=>by rw[open1];exact t3 K⟩
   ·have:=hB.2.1
    show t.us.length≤_
    have:t.us.length≤16384:=this
    omega
   ·have:=hB.2.2.1
    show(t.cs.map lB).length≤_
    rw[A03]
    have:t.cs.length≤256:=this
    omega
   ·have:=hB.2.2.2
    have j:(t.ns.map NodeD.v).length≤4096:=this
    rw[A03] at j
    show t.ns.length≤_
    omega
   ·intro x G
    obtain⟨c,z,rfl⟩:=A04.1 (show x ∈ t.cs.map lB from G)
    have j:=(t1.cut c z)
    show(lB c).v.units.length≤_
    rw[Aty j.1];exact j.2
   ·intro n hn
    have j:=t1.node n hn
    exact⟨j.1,fun e B=>⟨(j.2 e B).1.ok,(j.2 e B).2⟩⟩
   ·rw[StD.log_v t1];exact t2
  ·exact .inr ⟨t1,at_,2,rfl,fun K=>by rw[open1];exact t2 K⟩
 ·rw[if_neg q]
  refine .inr ⟨rfl,0,8,rfl,fun K=>?_⟩
  rw[OU];unfold KQ
  rw[show decide ((s.length:Int)>1048576)=true from decide_eq_true (by omega)];rfl
end
end Gx.Bl
namespace Gx.Cf
open Go Go.Proofs
section
variable {R:Type}
theorem Aqs {N:Nat} (hN:4096≤N) {c:CaseD} (g:JC c):Small c N:=by
 obtain⟨H,e,bs,ls,us,ss,ts,os,b,og,_,rfl⟩:=g
 exact yC hN b og
theorem uz {N:Nat} {v n:Int} (e:1≤n) (j:n≤4611686018427387904):∃ r:Int,0≤r∧r<n∧∀ K:Int→O R,MC N v n K=K r:=by
 obtain⟨a1,a2,a3⟩:=Ae3 v n e j
 refine⟨_,a2,a3,fun K=>?_⟩
 rw[bW];unfold pm
 rw[a1,cf]
end
end Gx.Cf
namespace Gx
open Go Go.Proofs
set_option maxRecDepth 100000
noncomputable section
variable {R:Type} (N:Nat)
def AT (N:Nat) (r0:Bool→O R) (c:LA) (a:Nat) (f g:Bool) (d:LA) (b:Nat) (h i:Bool) (k0:Int→O R) (j:Int):O R :=
 (cond (decide (j<(a:Int))) (cond (Ae j a) (As .i64 (c.drop ((j.toNat)*1)) fun l=>cond (Ae j b) (As .i64 (d.drop ((j.toNat)*1)) fun m=>cond (l != m) (r0 false) (k0 (wrap .i64 (j+1)))) none) none) (r0 true))
def Ny (r0:Bool→O R) (c:LA) (a:Nat) (f g:Bool) (d:LA) (b:Nat) (h i:Bool):Nat→Int→O R
 | 0,_=>none
 | n+1,j=>AT N r0 c a f g d b h i (Ny r0 c a f g d b h i n) j
def XK (N:Nat) (r0:Bool→O R) (q0:Int→O R) (c:LA) (a:Nat) (f g:Bool) (d:LA) (b:Nat) (h i:Bool):O R :=
 (cond ((a:Int) != (b:Int)) (r0 false) (q0 0))
def iV:=(Af fun N c a f g d b h i r0=>XK (R:=R) N r0 (Ny N r0 c a f g d b h i N) c a f g d b h i).1
theorem iW (c a f g d b h i r0):(@iV R N c a f g d b h i r0)=(XK N r0 (Ny N r0 c a f g d b h i N) c a f g d b h i):=by rw[iV,(Af _).2]
def Ahu (F:KF R):=Hh Tryz.f85 xm [] [] N F
def Ahv (c:LA) (a:Nat) (f g:Bool) (d:LA) (b:Nat) (h i:Bool) (K:St→O R):=fun j=>K ⟨[(0,(.imm c a 1 f g)),(1,(.imm d b 1 h i)),(5,(iv j))],[]⟩
theorem vA (F:KF R) (c a f g d b h i):∀ n,Ahv c a f g d b h i (Ao (Ahu N F (pz 1348) []) n)=(Ny N (A8 F) c a f g d b h i n):=D3 fun n e=>(Bn (AT N (A8 F) c a f g d b h i) e:_)
def Alm:=Bj N 85 [] xm (fun
 | [(.imm c a 1 f g),(.imm d b 1 h i)],[]=>some fun _ k=>iV N c a f g d b h i (A8 k)
 | _,_=>none) fun _ _=>by split;intro R F;exact(Bn (XK N (A8 F) · _ _ _ _ _ _ _ _) ((lW ..).trans (vA ..)):_).trans (iW ..).symm;trivial
def lC (a:LA) (b:Nat) (g c:Bool) (d:LA) (e:Nat) (h f:Bool) (r0:Bool→O R):O R :=
 (iV N a b false c d e false f fun i=>r0 i)
def iX:=(Af (@lC R)).1
theorem iY:@iX R=@lC R:=(Af _).2
def Aln:=Bj N 45 [Alm N] Bg (fun
 | [(.imm a b 1 g c),(.imm d e 1 h f)],[]=>some fun _ k=>iX N a b g c d e h f (A8 k)
 | _,_=>none) fun _ _=>by split;intro R F;dsimp only;rw[iY];kernel_rfl;trivial
def DY (r0:Bool→O R) (b:LA) (a:Nat) (h f:Bool) (c:LA) (d:Nat) (i g:Bool) (k0:Int→O R) (j:Int):O R :=
 (cond (decide (j<(a:Int))) (cond (Ae j a) (cond (ble 3 ((b.drop ((j.toNat)*3)).length)) (cond (Ae j d) (cond (ble 3 ((c.drop ((j.toNat)*3)).length)) (Ya N ((b.drop ((j.toNat)*3)).take 3) f ((c.drop ((j.toNat)*3)).take 3) g fun l=>cond (l != 0) (r0 false) (k0 (wrap .i64 (j+1)))) none) none) none) none) (r0 true))
def L7 (r0:Bool→O R) (b:LA) (a:Nat) (h f:Bool) (c:LA) (d:Nat) (i g:Bool):Nat→Int→O R
 | 0,_=>none
 | n+1,j=>DY N r0 b a h f c d i g (L7 r0 b a h f c d i g n) j
def GL (N:Nat) (r0:Bool→O R) (q0:Int→O R) (b:LA) (a:Nat) (h f:Bool) (c:LA) (d:Nat) (i g:Bool):O R :=
 (cond ((a:Int) != (d:Int)) (r0 false) (q0 0))
def DZ:=(Af fun N b a h f c d i g r0=>GL (R:=R) N r0 (L7 N r0 b a h f c d i g N) b a h f c d i g).1
theorem VR (b a h f c d i g r0):(@DZ R N b a h f c d i g r0)=(GL N r0 (L7 N r0 b a h f c d i g N) b a h f c d i g):=by rw[DZ,(Af _).2]
def iZ:N0:=[wg N]
def xN (F:KF R):=Hh Tryz.f86 xm (iZ N) [] N F
def xO (b:LA) (a:Nat) (h f:Bool) (c:LA) (d:Nat) (i g:Bool) (K:St→O R):=fun j=>K ⟨[(0,(.imm b a 3 h f)),(1,(.imm c d 3 i g)),(5,(iv j))],[]⟩
theorem lD (F:KF R) (b a h f c d i g):∀ n,xO b a h f c d i g (Ao (xN N F (pz 1348) []) n)=(L7 N (A8 F) b a h f c d i g n):=D3 fun n e=>(Bn (DY N (A8 F) b a h f c d i g) e:_)
def Ac9:=Bj N 86 (iZ N) xm (fun
 | [(.imm b a 3 h f),(.imm c d 3 i g)],[]=>some fun _ k=>DZ N b a h f c d i g (A8 k)
 | _,_=>none) fun _ _=>by split;intro R F;exact(Bn (GL N (A8 F) · _ _ _ _ _ _ _ _) ((lW ..).trans (lD ..)):_).trans (VR ..).symm;trivial
def O4 (r0:Bool→O R) (c:Bool) (a:LA) (d:Bool) (b:LA) (k1:Int→O R) (f:Int):O R :=
 (Aw 4 (a.drop 4) fun ae i=>cond (decide (f<(i:Int))) (Aw 4 (a.drop 4) fun j l=>cond (Ae f l) (As .i64 (j.drop ((f.toNat)*4)) fun m=>Aw 4 (b.drop 4) fun o p=>cond (Ae f p) (As .i64 (o.drop ((f.toNat)*4)) fun q=>cond ((m != q)==false) (Aw 4 (a.drop 4) fun g r=>cond (Ae f r) (cond (ble 3 (((g.drop ((f.toNat)*4)).drop 1).length)) (cond ((beq ((((g.drop ((f.toNat)*4)).drop 1).take 3).length) 3)&&(ble 3 3)) (Aw 4 (b.drop 4) fun h s=>cond (Ae f s) (cond (ble 3 (((h.drop ((f.toNat)*4)).drop 1).length)) (cond ((beq ((((h.drop ((f.toNat)*4)).drop 1).take 3).length) 3)&&(ble 3 3)) (DZ N ((setCells [(.bool false),.nsl,.nsl] 0 (((g.drop ((f.toNat)*4)).drop 1).take 3)).take 3) 1 false true ((setCells [(.bool false),.nsl,.nsl] 0 (((h.drop ((f.toNat)*4)).drop 1).take 3)).take 3) 1 false true fun t=>cond (cond false true (!t)) (r0 false) (k1 (wrap .i64 (f+1)))) none) none) none) none) none) none) (r0 false)) none) none) (r0 true))
def F3 (r0:Bool→O R) (c:Bool) (a:LA) (d:Bool) (b:LA):Nat→Int→O R
 | 0,_=>none
 | n+1,f=>O4 N r0 c a d b (F3 r0 c a d b n) f
def KZ (N:Nat) (r0:Bool→O R) (c:Bool) (a:LA) (d:Bool) (b:LA) (q1:Int→O R):O R :=
 (q1 0)
def Y7 (r0:Bool→O R) (c:Bool) (a:LA) (d:Bool) (b:LA):O R:=(KZ N r0 c a d b (F3 N r0 c a d b N))
def Xn (N:Nat) (r0:Bool→O R) (q0:O R) (a:LA) (c:Bool) (b:LA) (d:Bool):O R :=
 (As .i64 a fun u=>As .i64 b fun v=>cond ((u != v)==false) (As .i64 (a.drop 1) fun w=>As .i64 (b.drop 1) fun x=>cond ((cond false true (w != x))==false) (As .i64 (a.drop 2) fun y=>As .i64 (b.drop 2) fun z=>cond ((cond false true (y != z))==false) (As .i64 (a.drop 3) fun aa=>As .i64 (b.drop 3) fun ab=>cond ((cond false true (aa != ab))==false) (Aw 4 (a.drop 4) fun af ac=>Aw 4 (b.drop 4) fun ag ad=>cond (cond false true ((ac:Int) != (ad:Int))) (r0 false) q0) (r0 false)) (r0 false)) (r0 false)) (r0 false))
def Ua:=(Af fun N a c b d r0=>Xn (R:=R) N r0 (Y7 N r0 c a d b) a c b d).1
theorem K_ (a c b d r0):(@Ua R N a c b d r0)=(Xn N r0 (Y7 N r0 c a d b) a c b d):=by rw[Ua,(Af _).2]
def QX:Hints:={ H:=(hK 1 (hJ [2,3] hL (hS (hK 1 (hS (hP [2,3,5] hL) hL)) hL))) }
def VS:N0:=[Ac9 N]
def QY (F:KF R):=Hh Tryz.f46 QX (VS N) [] N F
def pc (c:Bool) (a:LA) (d:Bool) (b:LA) (K:St→O R):=fun f=>K ⟨[(2,(op 0)),(3,(op 1)),(5,(iv f))],(hq [(bP c 0 a),(bP d 0 b)])⟩
def pd (c:Bool) (a:LA) (d:Bool) (b:LA) (K:St→O R):=K ⟨[(2,(op 0)),(3,(op 1))],(hq [(bP c 0 a),(bP d 0 b)])⟩
theorem dY (F:KF R) (c a d b):∀ n,pc c a d b (Ao (QY N F (pz 1348) []) n)=(F3 N (A8 F) c a d b n):=D3 fun n e=>(Bn (O4 N (A8 F) c a d b) e:_)
theorem dZ (F:KF R) (c a d b):pd c a d b (A0 (QY N F (pz 21) []))=(Y7 N (A8 F) c a d b):=(Bn (KZ N (A8 F) c a d b) ((lW ..).trans (dY ..)):_)
def vB:=Bj N 46 (VS N) QX (fun
 | [(.pagg a c),(.pagg b d)],[]=>some fun _ k=>Ua N a c b d (A8 k)
 | _,_=>none) fun _ _=>by split;intro R F;exact(Bn (Xn N (A8 F) · _ _ _ _) ((jW ..).trans (dZ ..)):_).trans (K_ ..).symm;trivial
def AU (r0:Bool→O R) (c:Bool) (a:LA) (d:Bool) (b:LA) (k3:Int→O R) (h:Int):O R :=
 (Aw 5 (a.drop 2) fun bb q=>cond (decide (h<(q:Int))) (Aw 5 (a.drop 2) fun o r=>cond (Ae h r) (cond (ble 5 ((o.drop ((h.toNat)*5)).length)) (Aw 5 (b.drop 2) fun p s=>cond (Ae h s) (cond (ble 5 ((p.drop ((h.toNat)*5)).length)) (Ua N ((o.drop ((h.toNat)*5)).take 5) c ((p.drop ((h.toNat)*5)).take 5) d fun t=>cond (!t) (r0 false) (k3 (wrap .i64 (h+1)))) none) none) none) none) (r0 true))
def R5 (r0:Bool→O R) (c:Bool) (a:LA) (d:Bool) (b:LA):Nat→Int→O R
 | 0,_=>none
 | n+1,h=>AU N r0 c a d b (R5 r0 c a d b n) h
def AW (r0:Bool→O R) (c:Bool) (a:LA) (d:Bool) (b:LA) (k2:Int→O R) (q3:Int→O R) (f:Int):O R :=
 (Aw 6 (a.drop 1) fun bc u=>cond (decide (f<(u:Int))) (Aw 6 (a.drop 1) fun i v=>cond (Ae f v) (cond (ble 6 ((i.drop ((f.toNat)*6)).length)) (Aw 6 (b.drop 1) fun j w=>cond (Ae f w) (cond (ble 6 ((j.drop ((f.toNat)*6)).length)) (cond ((beq 0 0)&&((beq (((i.drop ((f.toNat)*6)).take 6).length) 6)&&(beq 6 6))) (cond ((beq 0 0)&&((beq (((j.drop ((f.toNat)*6)).take 6).length) 6)&&(beq 6 6))) (As .i64 ((i.drop ((f.toNat)*6)).take 6) fun x=>As .i64 ((j.drop ((f.toNat)*6)).take 6) fun y=>cond ((x != y)==false) (As .i64 (((i.drop ((f.toNat)*6)).take 6).drop 1) fun z=>As .i64 (((j.drop ((f.toNat)*6)).take 6).drop 1) fun aa=>cond ((cond false true (z != aa))==false) (As .i64 (((i.drop ((f.toNat)*6)).take 6).drop 3) fun ab=>As .i64 (((j.drop ((f.toNat)*6)).take 6).drop 3) fun ac=>cond ((cond false true (ab != ac))==false) (As .i64 (((i.drop ((f.toNat)*6)).take 6).drop 4) fun ad=>As .i64 (((j.drop ((f.toNat)*6)).take 6).drop 4) fun ae=>cond ((cond false true (ad != ae))==false) (As .i64 (((i.drop ((f.toNat)*6)).take 6).drop 5) fun af=>As .i64 (((j.drop ((f.toNat)*6)).take 6).drop 5) fun ag=>cond ((cond false true (af != ag))==false) (Aw 1 (((i.drop ((f.toNat)*6)).take 6).drop 2) fun ah ai=>Aw 1 (((j.drop ((f.toNat)*6)).take 6).drop 2) fun aj ak=>iX N ah ai false c aj ak false d fun al=>cond (cond false true (!al)) (r0 false) (k2 (wrap .i64 (f+1)))) (r0 false)) (r0 false)) (r0 false)) (r0 false)) (r0 false)) none) none) none) none) none) none) (q3 0))
def R6 (r0:Bool→O R) (c:Bool) (a:LA) (d:Bool) (b:LA):Nat→Int→O R
 | 0,_=>none
 | n+1,f=>AW N r0 c a d b (R6 r0 c a d b n) (R5 N r0 c a d b N) f
def AX (N:Nat) (r0:Bool→O R) (c:Bool) (a:LA) (d:Bool) (b:LA) (k1:Int→O R) (q2:Int→O R) (g:Int):O R :=
 (Aw 2 a fun bd am=>cond (decide (g<(am:Int))) (Aw 2 a fun l an=>cond (Ae g an) (cond (ble 2 ((l.drop ((g.toNat)*2)).length)) (cond ((!c)||(A6 ((l.drop ((g.toNat)*2)).take 2))) (Aw 2 b fun m ao=>cond (Ae g ao) (cond (ble 2 ((m.drop ((g.toNat)*2)).length)) (cond ((!d)||(A6 ((m.drop ((g.toNat)*2)).take 2))) (cond ((ble 1 2)&&((beq (((l.drop ((g.toNat)*2)).take 2).length) 2)&&((beq (((m.drop ((g.toNat)*2)).take 2).length) 2)&&(true&&(!false))))) (As .i64 ((l.drop ((g.toNat)*2)).take 2) fun ap=>As .i64 ((m.drop ((g.toNat)*2)).take 2) fun aq=>As .i64 (((l.drop ((g.toNat)*2)).take 2).drop 1) fun ar=>As .i64 (((m.drop ((g.toNat)*2)).take 2).drop 1) fun au=>cond (!((ap==aq)&&((ar==au)&&true))) (r0 false) (k1 (wrap .i64 (g+1)))) none) none) none) none) none) none) none) (q2 0))
def R7 (r0:Bool→O R) (c:Bool) (a:LA) (d:Bool) (b:LA):Nat→Int→O R
 | 0,_=>none
 | n+1,g=>AX N r0 c a d b (R7 r0 c a d b n) (R6 N r0 c a d b N) g
def i6 (N:Nat) (r0:Bool→O R) (c:Bool) (a:LA) (d:Bool) (b:LA) (q1:Int→O R):O R :=
 (q1 0)
def VT (r0:Bool→O R) (c:Bool) (a:LA) (d:Bool) (b:LA):O R:=(i6 N r0 c a d b (R7 N r0 c a d b N))
def XL (N:Nat) (r0:Bool→O R) (q0:O R) (a:LA) (c:Bool) (b:LA) (d:Bool):O R :=
 (Aw 2 a fun be av=>Aw 2 b fun bf aw=>cond (((av:Int) != (aw:Int))==false) (Aw 6 (a.drop 1) fun bg ax=>Aw 6 (b.drop 1) fun bh ay=>cond ((cond false true ((ax:Int) != (ay:Int)))==false) (Aw 5 (a.drop 2) fun bi az=>Aw 5 (b.drop 2) fun bj ba=>cond (cond false true ((az:Int) != (ba:Int))) (r0 false) q0) (r0 false)) (r0 false))
def D_:=(Af fun N a c b d r0=>XL (R:=R) N r0 (VT N r0 c a d b) a c b d).1
theorem i7 (a c b d r0):(@D_ R N a c b d r0)=(XL N r0 (VT N r0 c a d b) a c b d):=by rw[D_,(Af _).2]
def np:Hints:={ H:=(hK 1 (hJ [2,3] hL (hS (hK 1 (hS (hP [2,3,5] hL) hL)) (hS (hK 1 (hS (hP [2,3,6] hL) hL)) (hS (hK 1 (hS (hP [2,3,9] hL) hL)) hL))))) }
def vC:N0:=[Aln N,vB N]
def GM (F:KF R):=Hh Tryz.f13 np (vC N) [] N F
def Ahw (c:Bool) (a:LA) (d:Bool) (b:LA) (K:St→O R):=fun h=>K ⟨[(2,(op 0)),(3,(op 1)),(9,(iv h))],(hq [(bP c 0 a),(bP d 0 b)])⟩
def Ahx (c:Bool) (a:LA) (d:Bool) (b:LA) (K:St→O R):=fun f=>K ⟨[(2,(op 0)),(3,(op 1)),(6,(iv f))],(hq [(bP c 0 a),(bP d 0 b)])⟩
def Ahy (c:Bool) (a:LA) (d:Bool) (b:LA) (K:St→O R):=fun g=>K ⟨[(2,(op 0)),(3,(op 1)),(5,(iv g))],(hq [(bP c 0 a),(bP d 0 b)])⟩
def Ahz (c:Bool) (a:LA) (d:Bool) (b:LA) (K:St→O R):=K ⟨[(2,(op 0)),(3,(op 1))],(hq [(bP c 0 a),(bP d 0 b)])⟩
theorem vD (F:KF R) (c a d b):∀ n,Ahw c a d b (Ao (GM N F (pz 21828) []) n)=(R5 N (A8 F) c a d b n):=D3 fun n e=>(Bn (AU N (A8 F) c a d b) e:_)
theorem vE (F:KF R) (c a d b):∀ n,Ahx c a d b (Ao (GM N F (pz 5444) []) n)=(R6 N (A8 F) c a d b n):=D3 fun n e=>(Yq (AW N (A8 F) c a d b) e ((lW ..).trans (vD ..)):_)
theorem vF (F:KF R) (c a d b):∀ n,Ahy c a d b (Ao (GM N F (pz 1348) []) n)=(R7 N (A8 F) c a d b n):=D3 fun n e=>(Yq (AX N (A8 F) c a d b) e ((lW ..).trans (vE ..)):_)
theorem vG (F:KF R) (c a d b):Ahz c a d b (A0 (GM N F (pz 21) []))=(VT N (A8 F) c a d b):=(Bn (i6 N (A8 F) c a d b) ((lW ..).trans (vF ..)):_)
def Alo:=Bj N 13 (vC N) np (fun
 | [(.pagg a c),(.pagg b d)],[]=>some fun _ k=>D_ N a c b d (A8 k)
 | _,_=>none) fun _ _=>by split;intro R F;exact(Bn (XL N (A8 F) · _ _ _ _) ((jW ..).trans (vG ..)):_).trans (i7 ..).symm;trivial
def Fm (k0:Nat→Int→LA→O R) (r0:Lu→O R) (d:LA) (c:Nat) (f g:Bool) (a:Nat) (h:LA) (i:Int):O R :=
 (cond (Ae i c) (As .i64 (d.drop ((i.toNat)*1)) fun p=>MC N p (a:Int) fun b=>cond (Ae (wrap .i64 (i+1)) c) (As .i64 (d.drop (((wrap .i64 (i+1)).toNat)*1)) fun q=>MC N q 6 fun l=>cond (l==0) (cond (Ae (wrap .i64 (i+1)) c) (As .i64 (d.drop (((wrap .i64 (i+1)).toNat)*1)) fun r=>MC N (wrap .i64 (Int.tdiv r 6)) 8 fun o=>cond (Ae o 8) (cond (Ae b a) (cond ((beq 1 1)&&((ble ((0+((b.toNat)*1))+1) (h.length))&&(!false))) (k0 a (wrap .i64 (i+2)) (h.set (0+((b.toNat)*1)) (.int .u8 ((UInt8.toNat (List.getD ([32,48,45,57,97,58,47,10]:Lu) (o.toNat) 0):Nat):Int)))) none) none) none) none) (cond (l==1) (cond ((decide ((0:Int)≤(0:Int)))&&((decide (0≤b))&&((decide (b≤b))&&(decide (b≤(a:Int)))))) (cond ((decide (0≤(wrap .i64 (b+1))))&&((decide ((wrap .i64 (b+1))≤(a:Int)))&&((decide ((a:Int)≤(a:Int)))&&(decide ((a:Int)≤(a:Int)))))) (cond ((ble ((b.toNat)+(a - ((wrap .i64 (b+1)).toNat))) 140737488355328)&&(ble (((b.toNat)+(a - ((wrap .i64 (b+1)).toNat)))*1) 140737488355328)) (k0 ((b.toNat)+(a - ((wrap .i64 (b+1)).toNat))) (wrap .i64 (i+2)) ((h.take ((b.toNat)*1))++((h.drop (0+(((wrap .i64 (b+1)).toNat)*1))).take ((a - ((wrap .i64 (b+1)).toNat))*1)))) none) none) none) (cond (l==2) (cond ((decide ((0:Int)≤(0:Int)))&&((decide (0≤b))&&((decide (b≤(a:Int)))&&(decide ((a:Int)≤(a:Int)))))) (cond ((ble (0+(b.toNat)) 140737488355328)&&(ble ((0+(b.toNat))*1) 140737488355328)) (cond ((ble ((0+(b.toNat))+1) 140737488355328)&&(ble (((0+(b.toNat))+1)*1) 140737488355328)) (cond ((decide (0≤b))&&((decide (b≤(a:Int)))&&((decide ((a:Int)≤(a:Int)))&&(decide ((a:Int)≤(a:Int)))))) (cond ((ble (((0+(b.toNat))+1)+(a - (b.toNat))) 140737488355328)&&(ble ((((0+(b.toNat))+1)+(a - (b.toNat)))*1) 140737488355328)) (k0 (((0+(b.toNat))+1)+(a - (b.toNat))) (wrap .i64 (i+2)) ((take (((0+(b.toNat))+1)*1) (((h.take ((b.toNat)*1)).take ((0+(b.toNat))*1))++[(.int .u8 32)]))++((h.drop (0+((b.toNat)*1))).take ((a - (b.toNat))*1)))) none) none) none) none) none) (cond (l==3) (cond ((decide ((0:Int)≤(0:Int)))&&((decide (0≤b))&&((decide (b≤(a:Int)))&&(decide ((a:Int)≤(a:Int)))))) (cond ((ble (0+(b.toNat)) 140737488355328)&&(ble ((0+(b.toNat))*1) 140737488355328)) (cond ((ble ((0+(b.toNat))+1) 140737488355328)&&(ble (((0+(b.toNat))+1)*1) 140737488355328)) (cond ((decide (0≤b))&&((decide (b≤(a:Int)))&&((decide ((a:Int)≤(a:Int)))&&(decide ((a:Int)≤(a:Int)))))) (cond ((ble (((0+(b.toNat))+1)+(a - (b.toNat))) 140737488355328)&&(ble ((((0+(b.toNat))+1)+(a - (b.toNat)))*1) 140737488355328)) (k0 (((0+(b.toNat))+1)+(a - (b.toNat))) (wrap .i64 (i+2)) ((take (((0+(b.toNat))+1)*1) (((h.take ((b.toNat)*1)).take ((0+(b.toNat))*1))++[(.int .u8 48)]))++((h.drop (0+((b.toNat)*1))).take ((a - (b.toNat))*1)))) none) none) none) none) none) (cond (l==4) (cond ((ble (a+1) 140737488355328)&&(ble ((a+1)*1) 140737488355328)) (k0 (a+1) (wrap .i64 (i+2)) ((h.take (a*1))++[(.int .u8 10)])) none) (cond (l==5) (cond ((decide ((0:Int)≤(0:Int)))&&((decide (0≤b))&&((decide (b≤(a:Int)))&&(decide ((a:Int)≤(a:Int)))))) (k0 (b.toNat) (wrap .i64 (i+2)) h) none) (k0 a (wrap .i64 (i+2)) h))))))) none) none)
def L8 (N:Nat) (r0:Lu→O R) (d:LA) (c:Nat) (f g:Bool) (k0:Nat→Int→LA→O R) (q1:Nat→LA→Int→O R) (a:Nat) (m:Int) (h:LA):O R :=
 (cond ((decide ((wrap .i64 (m+1))<(c:Int)))==true) (cond (cond true (decide ((a:Int)>0)) false) (q1 a h m) (Option.bind (Wc (h.take (a*1))) fun s=>r0 s)) (Option.bind (Wc (h.take (a*1))) fun t=>r0 t))
def C9 (r0:Lu→O R) (d:LA) (c:Nat) (f g:Bool):Nat→Nat→Int→LA→O R
 | 0,_,_,_=>none
 | n+1,a,m,h=>L8 N r0 d c f g (C9 r0 d c f g n) (fun a h=>Fm N (C9 r0 d c f g n) r0 d c f g a h) a m h
def PA (N:Nat) (r0:Lu→O R) (q0:Nat→Int→LA→O R) (j:Lu) (d:LA) (c:Nat) (f g:Bool):O R :=
 (q0 (j.length) 0 (At j))
def K':=(Af fun N j d c f g r0=>PA (R:=R) N r0 (C9 N r0 d c f g N) j d c f g).1
theorem a7 (j d c f g r0):(@K' R N j d c f g r0)=(PA N r0 (C9 N r0 d c f g N) j d c f g):=by rw[K',(Af _).2]
def i8:Hints:={ H:=(hK 2 (hS (hK 1 (hS (hP [1,5,6] (hJ [1,5,6] hL hL)) hL)) hL)) }
def nq:N0:=[Aes N]
def i_ (F:KF R):=Hh Tryz.f14 i8 (nq N) [] N F
def Ada (d:LA) (c:Nat) (f g:Bool) (a:Nat) (h:LA) (K:St→O R):=fun i=>K ⟨[(1,(.imm d c 1 f g)),(5,(.own 300000 0 a)),(6,(iv i))],(hq [(bQ 1 h)])⟩
def ia (d:LA) (c:Nat) (f g:Bool) (K:St→O R):=fun a m h=>K ⟨[(1,(.imm d c 1 f g)),(5,(.own 300000 0 a)),(6,(iv m))],(hq [(bQ 1 h)])⟩
theorem pe (Q0) (F:KF R) (d c f g a h):Ada d c f g a h (A0 (i_ N F (pz 21569) [Q0]))=(Fm N (ia d c f g Q0) (GU F) d c f g a h):=by kernel_rfl
theorem pf (F:KF R) (d c f g):∀ n,ia d c f g (Ao (i_ N F (pz 1348) []) n)=(C9 N (GU F) d c f g n):=D3 fun n e=>(Yq (L8 N (GU F) d c f g) e (vP fun a h=>(jW ..).trans ((pe ..).trans (vO (Fm _ · _ _ _ _ _ _ _) e))):_)
def Ah0:=Bj N 14 (nq N) i8 (fun
 | [(.str j),(.imm d c 1 f g)],[]=>some fun _ k=>K' N j d c f g (GU k)
 | _,_=>none) fun _ _=>by split;intro R F;exact(Bn (PA N (GU F) · _ _ _ _ _) ((lW ..).trans (pf ..)):_).trans (a7 ..).symm;trivial
def PB (r0:Bool→O R):O R :=
 (js N 3 4 fun a=>cond ((beq (a.length) 3)&&(ble 4 4)) (cond ((beq ((setCells [(.int .i64 2),(.bool false),.nsl,.nsl] 1 a).length) 4)&&(ble 4 4)) (Hu N [.nsl,.nsl,(.imm [(.int .i64 1),(.int .i64 0),(.int .i64 0),(.int .i64 0),(.imm ((setCells [(.int .i64 0),(.bool false),.nsl,.nsl] 0 (setCells [(.int .i64 2),(.bool false),.nsl,.nsl] 1 a)).take 4) 1 4 false false)] 1 5 false true)] true fun c d=>Nw N ([108,111,103,32,48,32,48,32,49,10,98,111,117,110,100,32,50,58,51,47,52,10]:Lu) fun b e f=>cond ((beq 0 0)&&((beq (b.length) 3)&&(beq 3 3))) (cond ((c==([108,111,103,32,48,32,48,32,49,10,98,111,117,110,100,32,50,58,51,47,52,10]:Lu))==true) (cond ((cond true (d==0) false)==true) (cond ((cond true (e==0) false)==true) (cond ((cond true (f==0) false)==true) (Aw 5 (b.drop 2) fun h g=>r0 (cond true ((g:Int)==1) false)) (r0 false)) (r0 false)) (r0 false)) (r0 false)) none) none) none)
def Yl:=(Af (@PB R)).1
theorem QZ:@Yl R=@PB R:=(Af _).2
def xP:=Bj N 15 [Afn N,nW N,uY N] Bg (fun
 | [],[]=>some fun _ k=>Yl N (A8 k)
 | _,_=>none) fun _ _=>by split;intro R F;dsimp only;rw[QZ];kernel_rfl;trivial
def B8 (r0:Bool→O R) (b:LA) (a:Nat) (d c:Bool) (ab:Lu):O R :=
 (K' N ab b a false c fun ah=>Nw N ah fun ac ba ai=>cond ((beq 0 0)&&((beq (ac.length) 3)&&(beq 3 3))) (cond (ai != 0) (Yl N fun aj=>r0 aj) (cond (ble 3 (ac.length)) (Hu N (ac.take 3) false fun ak al=>Yl N fun am=>cond (am==true) (cond ((cond true (al==0) false)==true) (r0 (cond true (ah==ak) false)) (r0 false)) (r0 false)) none)) none)
def I6 (r0:Bool→O R) (b:LA) (a:Nat) (d c:Bool) (y:LA) (q3:Lu→O R):O R :=
 (cond (ble 3 (y.length)) (Hu N (y.take 3) false fun ad an=>cond (an==0) (Nw N ad fun ae ao ap=>cond ((beq 0 0)&&((beq (ae.length) 3)&&(beq 3 3))) (cond ((ap != 0)==false) (cond ((cond false true (ao != 0))==false) (cond (ble 3 (y.length)) (cond (ble 3 (ae.length)) (D_ N (y.take 3) false (ae.take 3) false fun aq=>cond (cond false true (!aq)) (r0 false) (q3 ad)) none) none) (r0 false)) (r0 false)) none) (q3 ad)) none)
def Jq (r0:Bool→O R) (b:LA) (a:Nat) (d c:Bool) (y:LA):O R:=(I6 N r0 b a d c y (B8 N r0 b a d c))
def I7 (r0:Bool→O R) (b:LA) (a:Nat) (d c:Bool) (h:LA) (i:Nat) (o e:Bool) (j:LA) (l:Nat) (p f:Bool) (m:LA) (n:Nat) (q g:Bool) (q3:Lu→O R):O R :=
 (Hu N [(.imm h i 2 false e),(.imm j l 6 false f),(.imm m n 5 false g)] (e||(f||(g||false))) fun af ar=>cond (ar==0) (Nw N af fun ag au av=>cond ((beq 0 0)&&((beq (ag.length) 3)&&(beq 3 3))) (cond ((av != 0)==false) (cond ((cond false true (au != 0))==false) (cond (ble 3 (ag.length)) (D_ N [(.imm h i 2 false e),(.imm j l 6 false f),(.imm m n 5 false g)] (e||(f||(g||false))) (ag.take 3) false fun aw=>cond (cond false true (!aw)) (r0 false) (q3 af)) none) (r0 false)) (r0 false)) none) (q3 af))
def Jr (r0:Bool→O R) (b:LA) (a:Nat) (d c:Bool) (h:LA) (i:Nat) (o e:Bool) (j:LA) (l:Nat) (p f:Bool) (m:LA) (n:Nat) (q g:Bool):O R:=(I7 N r0 b a d c h i o e j l p f m n q g (B8 N r0 b a d c))
def I8 (r0:Bool→O R) (r:LA) (s:Nat) (z t:Bool) (u:LA) (v:Nat) (aa w:Bool) (b:LA) (a:Nat) (d c x:Bool) (h:LA) (i:Nat) (o e:Bool) (j:LA) (l:Nat) (p f:Bool) (m:LA) (n:Nat) (q g:Bool) (q1:LA→O R) (q2:O R):O R :=
 (cond x (fI N r s false t fun ax=>gT N ax false u v false w fun y=>cond ((beq 0 0)&&((beq (y.length) 3)&&(beq 3 3))) (q1 y) none) q2)
def Fw (r0:Bool→O R) (r:LA) (s:Nat) (z t:Bool) (u:LA) (v:Nat) (aa w:Bool) (b:LA) (a:Nat) (d c x:Bool) (h:LA) (i:Nat) (o e:Bool) (j:LA) (l:Nat) (p f:Bool) (m:LA) (n:Nat) (q g:Bool):O R:=(I8 N r0 r s z t u v aa w b a d c x h i o e j l p f m n q g (fun y=>Jq N r0 b a d c y) (Jr N r0 b a d c h i o e j l p f m n q g))
def He (r0:Bool→O R) (q0:O R) (r:LA) (s:Nat) (z t:Bool) (u:LA) (v:Nat) (aa w:Bool) (b:LA) (a:Nat) (d c:Bool) (h:LA) (i:Nat) (o e:Bool) (j:LA) (l:Nat) (p f:Bool) (m:LA) (n:Nat) (q g x:Bool):O R :=
 (eI N r s false t u v false w fun ay=>cond ((!ay)==false) (cond ((cond false true (decide ((a:Int)>12)))==false) (Xr N [(.imm h i 2 false e),(.imm j l 6 false f),(.imm m n 5 false g)] (e||(f||(g||false))) fun az=>cond (cond false true (!az)) (r0 true) q0) (r0 true)) (r0 true))
def Im:=(Af fun N r s z t u v aa w b a d c h i o e j l p f m n q g x r0=>He (R:=R) N r0 (Fw N r0 r s z t u v aa w b a d c x h i o e j l p f m n q g) r s z t u v aa w b a d c h i o e j l p f m n q g x).1
theorem P0 (r s z t u v aa w b a d c h i o e j l p f m n q g x r0):(@Im R N r s z t u v aa w b a d c h i o e j l p f m n q g x r0)=(He N r0 (Fw N r0 r s z t u v aa w b a d c x h i o e j l p f m n q g) r s z t u v aa w b a d c h i o e j l p f m n q g x):=by rw[Im,(Af _).2]
def R8:Hints:={ H:=(hK 1 (hJ [0,1,2,4,8] hL (hJ [2,8] hL (hK 1 (hJ [2,11] hL hL))))) }
def Ub:N0:=[Ai7 N,vf N,Aok N,Apu N,nW N,uY N,Alo N,Ah0 N,xP N]
def Fx (F:KF R):=Hh Tryz.f3 R8 (Ub N) [] N F
def LB (b:LA) (a:Nat) (d c:Bool) (K:St→O R):=fun ab=>K ⟨[(2,(.imm b a 1 d c)),(11,(.str ab))],[]⟩
def LC (b:LA) (a:Nat) (d c:Bool) (y:LA) (K:St→O R):=K ⟨[(2,(.imm b a 1 d c)),(8,(op 0))],(hq [(bQ 0 y)])⟩
def LD (b:LA) (a:Nat) (d c:Bool) (h:LA) (i:Nat) (o e:Bool) (j:LA) (l:Nat) (p f:Bool) (m:LA) (n:Nat) (q g:Bool) (K:St→O R):=K ⟨[(2,(.imm b a 1 d c)),(8,(op 0))],(hq [(bN 0 [(.imm h i 2 o e),(.imm j l 6 p f),(.imm m n 5 q g)])])⟩
def LE (r:LA) (s:Nat) (z t:Bool) (u:LA) (v:Nat) (aa w:Bool) (b:LA) (a:Nat) (d c x:Bool) (h:LA) (i:Nat) (o e:Bool) (j:LA) (l:Nat) (p f:Bool) (m:LA) (n:Nat) (q g:Bool) (K:St→O R):=K ⟨[(0,(.imm r s 1 z t)),(1,(.imm u v 1 aa w)),(2,(.imm b a 1 d c)),(4,(.bool x)),(8,(op 0))],(hq [(bN 0 [(.imm h i 2 o e),(.imm j l 6 p f),(.imm m n 5 q g)])])⟩
theorem Nz (F:KF R) (b a d c):LB b a d c (A0 (Fx N F (pz 1365) []))=(B8 N (A8 F) b a d c):=by kernel_rfl
theorem EA (F:KF R) (b a d c y):LC b a d c y (A0 (Fx N F (pz 85) []))=(Jq N (A8 F) b a d c y):=(Bn (I6 N (A8 F) b a d c y) ((jW ..).trans (Nz ..)):_)
theorem EB (F:KF R) (b a d c h i o e j l p f m n q g):LD b a d c h i o e j l p f m n q g (A0 (Fx N F (pz 85) []))=(Jr N (A8 F) b a d c h i o e j l p f m n q g):=(Bn (I7 N (A8 F) b a d c h i o e j l p f m n q g) ((jW ..).trans (Nz ..)):_)
theorem EC (F:KF R) (r s z t u v aa w b a d c x h i o e j l p f m n q g):LE r s z t u v aa w b a d c x h i o e j l p f m n q g (A0 (Fx N F (pz 21) []))=(Fw N (A8 F) r s z t u v aa w b a d c x h i o e j l p f m n q g):=(Yq (I8 N (A8 F) r s z t u v aa w b a d c x h i o e j l p f m n q g) (Ai5 fun y=>(jW ..).trans (EA ..)) ((jW ..).trans (EB ..)):_)
def Uc:=Bj N 3 (Ub N) R8 (fun
 | [(.imm r s 1 z t),(.imm u v 1 aa w),(.imm b a 1 d c),(.agg [(.imm h i 2 o e),(.imm j l 6 p f),(.imm m n 5 q g)]),(.bool x)],[]=>some fun _ k=>Im N r s z t u v aa w b a d c h i o e j l p f m n q g x (A8 k)
 | _,_=>none) fun _ _=>by split;intro R F;exact(Bn (He N (A8 F) · _ _ _ _ _ _ _ _ _ _ _ _ _ _ _ _ _ _ _ _ _ _ _ _ _) ((jW ..).trans (EC ..)):_).trans (P0 ..).symm;trivial
def R9:=(Uc N).tw
theorem LF:qx Tryz.prog 3 (R9 N):=(Uc N).tok
end
end Gx
