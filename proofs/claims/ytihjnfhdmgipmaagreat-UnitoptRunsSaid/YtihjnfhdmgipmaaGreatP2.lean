/- A part of the proof; each theorem says what it holds. -/
import Derived.Shelf.Sort.Plain
import Derived.Test.YtihjnfhdmgipmaaGreatP1
set_option linter.unusedVariables false
set_option linter.defProp false
set_option linter.unusedSimpArgs false
open Nat (ble beq)
open List (take drop replicate)
open Go.IntKind (wrap)
namespace Gx
open Go Go.Proofs
set_option maxRecDepth 100000
noncomputable section
variable{R:Type}(N:Nat)
def xd(N:Nat)(a:LA)(b:Nat)(c d:Bool)(r0:O R):O R:=r0
def Aea:=(Ai (@xd R)).1
def pN:@Aea R=@xd R:=(Ai _).2
def Aig(a:LA)(b:Nat)(c d:Bool)(F:KF R):O R:=F (op 0) (hq [bN 0 [.imm a b 1 c d,iv 0]])
def Alo:=B9 N 88 [] Eh (fun
|[.imm a b 1 c d],[]=>some fun _ k=>Aea N a b c d (Aig a b c d k)
| _,_=>none) fun _ _=>by split;intro R F;dsimp only;rw[pN];kernel_rfl;trivial
def xe(N:Nat)(b a:Int)(r0:Int->O R):O R:=(cond ((wrap .u64 a)==0) none (r0 (wrap .i64 (Int.tmod (wrap .u64 b) (wrap .u64 a)))))
def Aeb:=(Ai (@xe R)).1
def pO:@Aeb R=@xe R:=(Ai _).2
def Alp:=B9 N 150 [] Eh (fun
|[.int .i64 b,.int .i64 a],[]=>some fun _ k=>Aeb N b a (Ha k)
| _,_=>none) fun _ _=>by split;intro R F;dsimp only;rw[pO];kernel_rfl;trivial
def Vo(f:Int)(c:LA)(a:Nat)(d e:Bool)(b:Int)(r0:Int->Int->O R):O R:=(cond (decide (b>=(a:Int))) (r0 0 b) (cond (Ac (wrap .i64 ((wrap .i64 (b+1)) - 1)) a) (Aq .i64 (c.drop (((wrap .i64 ((wrap .i64 (b+1)) - 1)).toNat)*1)) fun g=>Aeb N g f fun h=>r0 h (wrap .i64 (b+1))) none))
def Ag:=(Ai (@Vo R)).1
def Ur:@Ag R=@Vo R:=(Ai _).2
def mB(c:LA)(a:Nat)(d e:Bool)(F:KF R):Int->Int->O R:=fun i j=>F (iv i) [(100000,bN 0 [.imm c a 1 d e,iv j])]
def Jp:=B9 N 89 [Alp N] Eh (fun
|[.optr 100000 0,.int .i64 f],[(100000,⟨false,false,false,false,0,[.imm c a 1 d e,.int .i64 b],false,none⟩)]=>some fun _ k=>Ag N f c a d e b (mB c a d e k)
| _,_=>none) fun _ _=>by split;intro R F;dsimp only;rw[Ur];kernel_rfl;trivial
def Mr(r0:Nat->Int->LA->O R)(f g:Int)(a:LA)(b:Nat)(c d:Bool)(k0:Nat->Int->Int->LA->O R)(i:Nat)(j l:Int)(m:LA):O R:=(cond (decide (j<f)) (Ag N g a b c d l fun o p=>cond ((ble (i+1) 140737488355328)&&(ble ((i+1)*8) 140737488355328)) (k0 (i+1) (wrap .i64 (j+1)) p ((m.take (i*1))++[.int .i64 o])) none) (r0 i l m))
def Ff(r0:Nat->Int->LA->O R)(f g:Int)(a:LA)(b:Nat)(c d:Bool):Nat->Nat->Int->Int->LA->O R
|0=>fun _ _ _ _=>none
|n+1=>Mr N r0 f g a b c d (Ff r0 f g a b c d n)
def Sc(N:Nat)(r0:Nat->Int->LA->O R)(q0:Nat->Int->Int->LA->O R)(f g:Int)(a:LA)(b:Nat)(c d:Bool)(h:Int):O R:=(q0 0 0 h [])
def Fq:=(Ai fun N f g a b c d h r0=>Sc (R:=R) N r0 (Ff N r0 f g a b c d N) f g a b c d h).1
def DP(f g a b c d h r0):(@Fq R N f g a b c d h r0)=(Sc N r0 (Ff N r0 f g a b c d N) f g a b c d h):=by rw[Fq,(Ai _).2]
def HC:Hints:={H:=hK 2 (hS (hK 1 (hS (hP [0,1,2,7,8] hL) hL)) hL),nils:=[(6,1),(7,1)],modes:=[(2,1)]}
def OC:Ru:=[Jp N]
def gw(F:KF R):=J7 Tryz.f90 HC (OC N) [100000] N F
def gy(f g:Int)(a:LA)(b:Nat)(c d:Bool)(K:St->O R):=fun i j l m=>K ⟨[(0,.optr 100000 0),(1,iv f),(2,iv g),(7,A6q 0 i),(8,iv j)],[(100000,bN 0 [.imm a b 1 c d,iv l]),(300000,bQ 1 m)]⟩
def VQ(F:KF R)(f g a b c d):∀ n,gy f g a b c d (Au (gw N F (pz 1348) []) n)=(Ff N (Aaq a b c d F) f g a b c d n):=Gn fun n e=>(B5 (Mr N (Aaq a b c d F) f g a b c d) e:_)
def mC:=B9 N 90 (OC N) HC (fun
|[.optr 100000 0,.int .i64 f,.int .i64 g],[(100000,⟨false,false,false,false,0,[.imm a b 1 c d,.int .i64 h],false,none⟩)]=>some fun _ k=>Fq N f g a b c d h (Aaq a b c d k)
| _,_=>none) fun _ _=>by split;rename_i f g a b c d h;intro R F;exact(B5 (Sc N (Aaq a b c d F) · f g a b c d h) ((lW ..).trans (VQ ..)):_).trans (DP ..).symm;trivial
def pP(N:Nat)(b:Lu)(a:Int)(r0:Lu->O R):O R:=(cond ((decide (0<=(Int.tmod a 16)))&&((decide ((Int.tmod a 16)<=(wrap .i64 ((Int.tmod a 16)+1))))&&((decide ((wrap .i64 ((Int.tmod a 16)+1))<=16))&&(decide ((16:Int)<=(16:Int)))))) (cond (ble (b.length+(List.length (take (((wrap .i64 ((Int.tmod a 16)+1)).toNat) - ((Int.tmod a 16).toNat)) (drop ((Int.tmod a 16).toNat) ([48,49,50,51,52,53,54,55,56,57,97,98,99,100,101,102]:Lu))))) 140737488355328) (r0 (b++(take (((wrap .i64 ((Int.tmod a 16)+1)).toNat) - ((Int.tmod a 16).toNat)) (drop ((Int.tmod a 16).toNat) ([48,49,50,51,52,53,54,55,56,57,97,98,99,100,101,102]:Lu))))) none) none)
def KV:=(Ai (@pP R)).1
def jz:@KV R=@pP R:=(Ai _).2
def Aec(F:KF R):Lu->O R:=fun c=>F (.str c) []
def UW:=B9 N 91 [] Eh (fun
|[.str b,.int .i64 a],[]=>some fun _ k=>KV N b a (Aec k)
| _,_=>none) fun _ _=>by split;intro R F;dsimp only;rw[jz];kernel_rfl;trivial
def Vp(e:Int)(a:LA)(b:Nat)(c d:Bool)(f:Int)(r0:Nat->Int->LA->O R):O R:=(Ag N 6 a b c d f fun h g=>cond (h==5) (Ag N e a b c d g fun i j=>r0 1 j [.int .i64 i]) (r0 0 g []))
def Oz:=(Ai (@Vp R)).1
def Us:@Oz R=@Vp R:=(Ai _).2
def RK:=B9 N 151 [Jp N] { H:=hL,nils:=[(4,1)],modes:=[(2,1)] } (fun
|[.optr 100000 0,.int .i64 e],[(100000,⟨false,false,false,false,0,[.imm a b 1 c d,.int .i64 f],false,none⟩)]=>some fun _ k=>Oz N e a b c d f (Aaq a b c d k)
| _,_=>none) fun _ _=>by split;intro R F;dsimp only;rw[Us];kernel_rfl;trivial
def Vq(i e f g:Int)(a:LA)(b:Nat)(c d:Bool)(j:Int)(r0:LA->Int->O R):O R:=(KV N ([108]:Lu) i fun l=>Ag N 4 a b c d j fun m s=>Ag N 2 a b c d s fun n t=>Ag N 40 a b c d t fun h u=>Ag N 20 a b c d u fun o v=>Ag N 5 a b c d v fun w p=>cond (w==4) (Ag N 4 a b c d p fun x y=>Ag N 2 a b c d y fun z aa=>Ag N 4 a b c d aa fun ab ac=>Oz N g a b c d ac fun q ad ae=>r0 [.str l,.int .i64 e,.int .i64 f,.int .i64 (wrap .i64 (1+m)),.int .i64 (wrap .i64 (1+n)),.int .i64 (wrap .i64 ((0:Int) - x)),.int .i64 (wrap .i64 (1+z)),.int .i64 ab,.int .i64 1,.int .i64 (wrap .i64 (4+h)),.int .i64 (wrap .i64 ((wrap .i64 (4+h))+o)),.imm (ae.take (q*1)) q 1 false false] ad) (Oz N g a b c d p fun r af ag=>r0 [.str l,.int .i64 e,.int .i64 f,.int .i64 (wrap .i64 (1+m)),.int .i64 (wrap .i64 (1+n)),A6r,.int .i64 1,A6r,.int .i64 1,.int .i64 (wrap .i64 (4+h)),.int .i64 (wrap .i64 ((wrap .i64 (4+h))+o)),.imm (ag.take (r*1)) r 1 false false] af))
def Sd:=(Ai (@Vq R)).1
def Ut:@Sd R=@Vq R:=(Ai _).2
def pR:=B9 N 92 [UW N,Jp N,RK N] { H:=hL,modes:=[(3,0)],cob:=[28] } (fun
|[.optr 100000 0,.int .i64 i,.int .i64 e,.int .i64 f,.int .i64 g],[(100000,⟨false,false,false,false,0,[.imm a b 1 c d,.int .i64 j],false,none⟩)]=>some fun _ k=>Sd N i e f g a b c d j (lf a b c d k)
| _,_=>none) fun _ _=>by split;intro R F;dsimp only;rw[Ut];kernel_rfl;trivial
def Ls(r0:LA->Int->O R)(a:LA)(b:Nat)(c d:Bool)(t:Int)(g:Lu)(h f m:Int)(l:Nat)(i u v w x s p y z aa:Int)(q:Nat)(r:Int)(o ab:LA)(af ag ah ai:Int):O R:=(cond (r==2) (Ag N (wrap .i64 ((wrap .i64 (m - f))+1)) a b c d t fun ar au=>r0 [.str g,.int .i64 h,.int .i64 f,.int .i64 m,.imm (o.take (l*2)) l 2 false false,.int .i64 i,.int .i64 u,.int .i64 v,.int .i64 af,.int .i64 ag,.int .i64 w,.int .i64 x,.int .i64 s,.int .i64 p,.int .i64 ah,.int .i64 y,.int .i64 z,.int .i64 aa,.imm (ab.take (q*1)) q 1 false false,.int .i64 r,.int .i64 ai,.int .i64 (wrap .i64 (f+ar))] au) (r0 [.str g,.int .i64 h,.int .i64 f,.int .i64 m,.imm (o.take (l*2)) l 2 false false,.int .i64 i,.int .i64 u,.int .i64 v,.int .i64 af,.int .i64 ag,.int .i64 w,.int .i64 x,.int .i64 s,.int .i64 p,.int .i64 ah,.int .i64 y,.int .i64 z,.int .i64 aa,.imm (ab.take (q*1)) q 1 false false,.int .i64 r,.int .i64 ai,A6r] t))
def O0(r0:LA->Int->O R)(j:Int)(a:LA)(b:Nat)(c d:Bool)(g:Lu)(h f i:Int)(k0:Int->Int->Int->Int->Nat->LA->O R)(q1:Int->Int->Nat->Int->Int->Int->Int->Int->Int->Int->Int->Int->Nat->Int->LA->LA->Int->Int->Int->Int->O R)(aj ak al m:Int)(l:Nat)(o:LA):O R:=(cond (decide (ak>0)) (Ag N 15 a b c d al fun am av=>cond ((ble (l+1) 140737488355328)&&(ble ((l+1)*16) 140737488355328)) (Ag N 10 a b c d av fun aw ax=>k0 (wrap .i64 (aj+aw)) (wrap .i64 (ak - 1)) ax (wrap .i64 (m+(wrap .i64 (1+am)))) (l+1) ((o.take (l*2))++[.int .i64 (wrap .i64 (1+am)),.int .i64 aj])) none) (Ag N 20 a b c d al fun u ay=>Ag N 20 a b c d ay fun v az=>Ag N (wrap .i64 ((wrap .i64 (m - f))+1)) a b c d az fun an ba=>Ag N (wrap .i64 ((wrap .i64 (m - f))+1)) a b c d ba fun ao bb=>Ag N 3 a b c d bb fun w bc=>Ag N 3 a b c d bc fun x bd=>Ag N 2 a b c d bd fun s be=>Ag N 30 a b c d be fun p bf=>Ag N 30 a b c d bf fun ap bg=>Ag N 4 a b c d bg fun y bh=>Ag N 8 a b c d bh fun z bi=>Ag N 4 a b c d bi fun aa bj=>Oz N j a b c d bj fun q bk ab=>Ag N (wrap .i64 (2+s)) a b c d bk fun aq bl=>cond (Ac aq 3) (Aq .i64 (drop (0+(aq.toNat*1)) [A6r,.int .i64 2,.int .i64 1]) fun r=>Ag N 4 a b c d bl fun bm t=>cond (r==1) (q1 t m l u v w x s p y z aa q r o ab (wrap .i64 (f+an)) (wrap .i64 (f+ao)) (wrap .i64 (p+ap)) 1) (q1 t m l u v w x s p y z aa q r o ab (wrap .i64 (f+an)) (wrap .i64 (f+ao)) (wrap .i64 (p+ap)) (wrap .i64 (1+bm)))) none))
def E2(r0:LA->Int->O R)(j:Int)(a:LA)(b:Nat)(c d:Bool)(g:Lu)(h f i:Int):Nat->Int->Int->Int->Int->Nat->LA->O R
|0=>fun _ _ _ _ _ _=>none
|n+1=>O0 N r0 j a b c d g h f i (E2 r0 j a b c d g h f i n) (fun t m l u v w x s p y z aa q r o ab=>Ls N r0 a b c d t g h f m l i u v w x s p y z aa q r o ab)
def Vr(r0:LA->Int->O R)(q0:Lu->Int->Int->Int->Int->Int->Int->Int->Nat->LA->O R)(ac ad j:Int)(a:LA)(b:Nat)(c d:Bool)(ae:Int):O R:=(KV N ([117]:Lu) ac fun g=>Ag N ad a b c d ae fun h bn=>Ag N 8 a b c d bn fun f bo=>Ag N 20 a b c d bo fun i bp=>Ag N 20 a b c d bp fun bq br=>Ag N 2 a b c d br fun bs bt=>q0 g h f i (wrap .i64 (bq - 2)) (wrap .i64 (1+bs)) bt f 0 [])
def Se:=(Ai fun N ac ad j a b c d ae r0=>Vr (R:=R) N r0 (fun g h f i=>E2 N r0 j a b c d g h f i N) ac ad j a b c d ae).1
def HD(ac ad j a b c d ae r0):(@Se R N ac ad j a b c d ae r0)=(Vr N r0 (fun g h f i=>E2 N r0 j a b c d g h f i N) ac ad j a b c d ae):=by rw[Se,(Ai _).2]
def OD:Hints:={H:=hK 4 (hS (hK 1 (hS (hP [0,3,8,9,10,11] hL) hL)) (hK 8 (hJ [0,8,9] hL hL))),modes:=[(3,0)],cob:=[22]}
def RL:Ru:=[UW N,Jp N,RK N]
def OE(F:KF R):=J7 Tryz.f93 OD (RL N) [100000] N F
def mD(a:LA)(b:Nat)(c d:Bool)(t:Int)(g:Lu)(h f m:Int)(l:Nat)(i u v w x s p y z aa:Int)(q:Nat)(r:Int)(o ab:LA)(K:St->O R):=fun af ag ah ai=>K ⟨[(0,.optr 100000 0),(8,op 0),(9,op 1)],[(100000,bN 0 [.imm a b 1 c d,iv t]),(300000,bN 0 [.str ([]:Lu),iv 0,iv 0,iv 0,.nsl,iv 0,iv 0,iv 0,iv 0,iv 0,iv 0,iv 0,iv 0,iv 0,iv 0,iv 0,iv 0,iv 0,.nsl,iv 0,iv 0,iv 0]),(300001,bN 0 [.str g,iv h,iv f,iv m,A6q 2 l,iv i,iv u,iv v,iv af,iv ag,iv w,iv x,iv s,iv p,iv ah,iv y,iv z,iv aa,A6q 3 q,iv r,iv ai,iv 0]),(300002,bQ 2 o),(300003,bQ 1 ab)]⟩
def mE(j:Int)(a:LA)(b:Nat)(c d:Bool)(g:Lu)(h f i:Int)(K:St->O R):=fun aj ak al m l o=>K ⟨[(0,.optr 100000 0),(3,iv j),(8,op 0),(9,op 1),(10,iv aj),(11,iv ak)],[(100000,bN 0 [.imm a b 1 c d,iv al]),(300000,bN 0 [.str ([]:Lu),iv 0,iv 0,iv 0,.nsl,iv 0,iv 0,iv 0,iv 0,iv 0,iv 0,iv 0,iv 0,iv 0,iv 0,iv 0,iv 0,iv 0,.nsl,iv 0,iv 0,iv 0]),(300001,bN 0 [.str g,iv h,iv f,iv m,A6q 2 l,iv i,iv 0,iv 0,iv 0,iv 0,iv 0,iv 0,iv 0,iv 0,iv 0,iv 0,iv 0,iv 0,A6q 3 0,iv 0,iv 0,iv 0]),(300002,bQ 2 o),(300003,bQ 1 [])]⟩
def ZQ(F:KF R)(a b c d t g h f m l i u v w x s p y z aa q r o ab):mD a b c d t g h f m l i u v w x s p y z aa q r o ab (A2 (OE N F (pz 357913941) []))=(Ls N (lf a b c d F) a b c d t g h f m l i u v w x s p y z aa q r o ab):=by kernel_rfl
def ZR(F:KF R)(j a b c d g h f i):∀ n,mE j a b c d g h f i (Au (OE N F (pz 21828) []) n)=(E2 N (lf a b c d F) j a b c d g h f i n):=Gn fun n e=>(KH (O0 N (lf a b c d F) j a b c d g h f i) e (Ad3 fun t m l u=>An6 fun v w x s p y=>An6 fun z aa q r o ab=>(jW ..).trans (ZQ ..)):_)
def pS:=B9 N 93 (RL N) OD (fun
|[.optr 100000 0,.int .i64 ac,.int .i64 ad,.int .i64 j],[(100000,⟨false,false,false,false,0,[.imm a b 1 c d,.int .i64 ae],false,none⟩)]=>some fun _ k=>Se N ac ad j a b c d ae (lf a b c d k)
| _,_=>none) fun _ _=>by split;rename_i ac ad j a b c d ae;intro R F;exact(B5 (Vr N (lf a b c d F) · ac ad j a b c d ae) (Ad3 fun g h f i=>(lW ..).trans (ZR ..)):_).trans (HD ..).symm;trivial
def Hd(r0:LA->Int->O R)(f:Int)(a:LA)(b:Nat)(c d:Bool)(g:Lu)(h:Nat)(i:LA)(k1:Int->Int->Nat->LA->O R)(p s:Int)(o:Nat)(q:LA):O R:=(cond (decide (p<f)) (Ag N 2 a b c d s fun z u=>cond (z==1) (Ag N 8 a b c d u fun aa ab=>Ag N 8 a b c d ab fun ac ad=>cond ((ble (o+1) 140737488355328)&&(ble ((o+1)*24) 140737488355328)) (k1 (wrap .i64 (p+1)) ad (o+1) ((q.take (o*3))++[.int .i64 p,.int .i64 aa,.int .i64 ac])) none) (k1 (wrap .i64 (p+1)) u o q)) (r0 [.str g,.imm (i.take (h*1)) h 1 false false,.bool true,.imm (q.take (o*3)) o 3 false false] s))
def Eo(r0:LA->Int->O R)(f:Int)(a:LA)(b:Nat)(c d:Bool)(g:Lu)(h:Nat)(i:LA):Nat->Int->Int->Nat->LA->O R
|0=>fun _ _ _ _=>none
|n+1=>Hd N r0 f a b c d g h i (Eo r0 f a b c d g h i n)
def Kj(r0:LA->Int->O R)(f:Int)(a:LA)(b:Nat)(c d:Bool)(g:Lu)(q1:Nat->LA->Int->Int->Nat->LA->O R)(r:Int)(h:Nat)(i:LA):O R:=(Ag N 2 a b c d r fun ae v=>cond (ae==1) (q1 h i 0 v 0 []) (r0 [.str g,.imm (i.take (h*1)) h 1 false false,.bool false,.imm [] 0 3 false false] v))
def Ep(r0:LA->Int->O R)(f:Int)(a:LA)(b:Nat)(c d:Bool)(g:Lu)(r:Int)(h:Nat)(i:LA):O R:=Kj N r0 f a b c d g (fun h i=>Eo N r0 f a b c d g h i N) r h i
def H6(r0:LA->Int->O R)(q0:Lu->Int->Nat->LA->O R)(l j f:Int)(a:LA)(b:Nat)(c d:Bool)(m:Int):O R:=(KV N ([111]:Lu) l fun g=>Ag N j a b c d m fun t af=>Ag N j a b c d af fun w x=>cond ((decide (w>t))==true) (Ag N 3 a b c d x fun ag y=>cond (cond true (ag==2) false) (q0 g y 2 [.int .i64 t,.int .i64 w]) (q0 g y 1 [.int .i64 t])) (q0 g x 1 [.int .i64 t]))
def Nn:=(Ai fun N l j f a b c d m r0=>H6 (R:=R) N r0 (fun g=>Ep N r0 f a b c d g) l j f a b c d m).1
def Kk(l j f a b c d m r0):(@Nn R N l j f a b c d m r0)=(H6 N r0 (fun g=>Ep N r0 f a b c d g) l j f a b c d m):=by rw[Nn,(Ai _).2]
def DQ:Hints:={H:=hK 2 (hJ [0,3,8,9] hL (hS (hK 1 (hS (hK 2 (hS (hP [0,3,8,9,11] hL) hL)) hL)) hL)),modes:=[(3,0)],cob:=[18]}
def HE:Ru:=[UW N,Jp N]
def DR(F:KF R):=J7 Tryz.f94 DQ (HE N) [100000] N F
def cV(f:Int)(a:LA)(b:Nat)(c d:Bool)(g:Lu)(h:Nat)(i:LA)(K:St->O R):=fun p s o q=>K ⟨[(0,.optr 100000 0),(3,iv f),(8,op 0),(9,op 1),(11,iv p)],[(100000,bN 0 [.imm a b 1 c d,iv s]),(300000,bN 0 [.str ([]:Lu),.nsl,.bool false,.nsl]),(300001,bN 0 [.str g,A6q 2 h,.bool true,A6q 3 o]),(300002,bQ 1 i),(300003,bQ 3 q)]⟩
def cW(f:Int)(a:LA)(b:Nat)(c d:Bool)(g:Lu)(K:St->O R):=fun r h i=>K ⟨[(0,.optr 100000 0),(3,iv f),(8,op 0),(9,op 1)],[(100000,bN 0 [.imm a b 1 c d,iv r]),(300000,bN 0 [.str ([]:Lu),.nsl,.bool false,.nsl]),(300001,bN 0 [.str g,A6q 2 h,.bool false,A6q 3 0]),(300002,bQ 1 i),(300003,bQ 3 [])]⟩
def RM(F:KF R)(f a b c d g h i):∀ n,cV f a b c d g h i (Au (DR N F (pz 348436) []) n)=(Eo N (lf a b c d F) f a b c d g h i n):=Gn fun n e=>(B5 (Hd N (lf a b c d F) f a b c d g h i) e:_)
def RN(F:KF R)(f a b c d g):cW f a b c d g (A2 (DR N F (pz 85) []))=(Ep N (lf a b c d F) f a b c d g):=(B5 (Kj N (lf a b c d F) f a b c d g) (ld fun h i=>(lW ..).trans (RM ..)):_)
def gz:=B9 N 94 (HE N) DQ (fun
|[.optr 100000 0,.int .i64 l,.int .i64 j,.int .i64 f],[(100000,⟨false,false,false,false,0,[.imm a b 1 c d,.int .i64 m],false,none⟩)]=>some fun _ k=>Nn N l j f a b c d m (lf a b c d k)
| _,_=>none) fun _ _=>by split;rename_i l j f a b c d m;intro R F;exact(B5 (H6 N (lf a b c d F) · l j f a b c d m) (Aan fun g=>(jW ..).trans (RN ..)):_).trans (Kk ..).symm;trivial
def P9(N:Nat)(r0:Bool->O R)(c d:Int)(b:LA)(a:Nat)(f g:Bool)(k0:Int->O R)(h:Int):O R:=(cond (decide (h<(a:Int))) (cond (Ac h a) (Aq .i64 (b.drop (h.toNat*1)) fun i=>cond ((decide (i<c))==false) (cond (Ac h a) (Aq .i64 (b.drop (h.toNat*1)) fun j=>cond (cond false true (decide (j>d))) (r0 false) (k0 (wrap .i64 (h+1)))) none) (r0 false)) none) (r0 true))
def He(r0:Bool->O R)(c d:Int)(b:LA)(a:Nat)(f g:Bool):Nat->Int->O R
|0=>fun _=>none
|n+1=>P9 N r0 c d b a f g (He r0 c d b a f g n)
def Y6(N:Nat)(r0:Bool->O R)(q0:Int->O R)(c d:Int)(b:LA)(a:Nat)(f g:Bool):O R:=(q0 0)
def As:=(Ai fun N c d b a f g r0=>Y6 (R:=R) N r0 (He N r0 c d b a f g N) c d b a f g).1
def OF(c d b a f g r0):(@As R N c d b a f g r0)=(Y6 N r0 (He N r0 c d b a f g N) c d b a f g):=by rw[As,(Ai _).2]
def RO:Hints:={H:=hK 1 (hS (hK 1 (hS (hP [0,1,2,7] hL) hL)) hL)}
def pT(F:KF R):=J7 Tryz.f156 RO [] [] N F
def pU(c d:Int)(b:LA)(a:Nat)(f g:Bool)(K:St->O R):=fun h=>K ⟨[(0,iv c),(1,iv d),(2,.imm b a 1 f g),(7,iv h)],[]⟩
def cX(F:KF R)(c d b a f g):∀ n,pU c d b a f g (Au (pT N F (pz 324) []) n)=(He N (Cc F) c d b a f g n):=Gn fun n e=>(B5 (P9 N (Cc F) c d b a f g) e:_)
def Dx:=B9 N 156 [] RO (fun
|[.int .i64 c,.int .i64 d,.imm b a 1 f g],[]=>some fun _ k=>As N c d b a f g (Cc k)
| _,_=>none) fun _ _=>by split;intro R F;exact(B5 (Y6 N (Cc F) · _ _ _ _ _ _) ((lW ..).trans (cX ..)):_).trans (OF ..).symm;trivial
def Je(N:Nat)(r0:LA->O R)(b c d e:Int)(a:LA)(g:Bool):O R:=(cond g (cond ((beq 3 3)&&((ble 3 a.length)&&(!false))) (cond ((beq 1 1)&&((ble 4 ((Dd a 0 [.int .i64 b,.int .i64 c,.int .i64 d]).length))&&(!false))) (r0 ((Dd a 0 [.int .i64 b,.int .i64 c,.int .i64 d]).set 3 (.int .i64 e))) none) none) (r0 a))
def Ms(N:Nat)(r0:LA->O R)(q0:Bool->O R)(f:Bool)(b c d e:Int)(a:LA):O R:=(Aq .i64 (a.drop 3) fun h=>cond ((h==0)==true) (q0 (cond true (!f) false)) (q0 false))
def Ab:=(Ai fun N f b c d e a r0=>Ms (R:=R) N r0 (Je N r0 b c d e a) f b c d e a).1
def Wn(f b c d e a r0):(@Ab R N f b c d e a r0)=(Ms N r0 (Je N r0 b c d e a) f b c d e a):=by rw[Ab,(Ai _).2]
def X4:Hints:={H:=hJ [0,2,3,4,5,20] hL hL}
def VR(F:KF R):=J7 Tryz.f155 X4 [] [100000] N F
def VS(b c d e:Int)(a:LA)(K:St->O R):=fun g=>K ⟨[(0,.optr 100000 0),(2,iv b),(3,iv c),(4,iv d),(5,iv e),(20,.bool g)],[(100000,bQ 0 a)]⟩
def KW(F:KF R)(b c d e a):VS b c d e a (A2 (VR N F (pz 5) []))=(Je N (Ia F) b c d e a):=by kernel_rfl
def Bm:=B9 N 155 [] X4 (fun
|[.optr 100000 0,.bool f,.int .i64 b,.int .i64 c,.int .i64 d,.int .i64 e],[(100000,⟨false,false,true,false,0,a,false,none⟩)]=>some fun _ k=>Ab N f b c d e a (Ia k)
| _,_=>none) fun _ _=>by split;intro R F;exact(B5 (Ms N (Ia F) · _ _ _ _ _ _) ((jW ..).trans (KW ..)):_).trans (Wn ..).symm;trivial
def Pg(e:LA)(l:Bool)(f:LA)(a:Nat)(m g:Bool)(h i b c d:Int)(j:LA)(r0:LA->O R):O R:=(Aq .i64 e fun n=>Ab N ((a:Int)==n) b c d 4 j fun o=>As N h i f a false g fun p=>Ab N p b c d 3 o fun q=>r0 q)
def C4:=(Ai (@Pg R)).1
def Sf:@C4 R=@Pg R:=(Ai _).2
def No:=B9 N 154 [Bm N,Dx N] Eh (fun
|[.optr 100000 0,.pagg e l,.imm f a 1 m g,.int .i64 h,.int .i64 i,.int .i64 b,.int .i64 c,.int .i64 d],[(100000,⟨false,false,true,false,0,j,false,none⟩)]=>some fun _ k=>C4 N e l f a m g h i b c d j (Ia k)
| _,_=>none) fun _ _=>by split;intro R F;dsimp only;rw[Sf];kernel_rfl;trivial
def Vs(N:Nat)(r0:Nat->LA->O R)(b:Bool)(a:LA)(k0:Nat->Int->LA->O R)(d:Nat)(l:Int)(s:LA):O R:=(Bq 3 (a.drop 2) fun ay y=>cond (decide (l<(y:Int))) (Bq 3 (a.drop 2) fun z aa=>cond (Ac l aa) (ue (z.drop (l.toNat*3)) fun ab=>cond ((ble (d+1) 140737488355328)&&(ble ((d+1)*16) 140737488355328)) (k0 (d+1) (wrap .i64 (l+1)) ((s.take (d*1))++[.str ab])) none) none) (r0 d s))
def Kl(r0:Nat->LA->O R)(b:Bool)(a:LA):Nat->Nat->Int->LA->O R
|0=>fun _ _ _=>none
|n+1=>Vs N r0 b a (Kl r0 b a n)
def Vt(N:Nat)(r0:Nat->LA->O R)(b:Bool)(a:LA)(k1:Nat->Int->LA->O R)(f:Nat)(m:Int)(t:LA):O R:=(Bq 12 (a.drop 3) fun az ac=>cond (decide (m<(ac:Int))) (Bq 12 (a.drop 3) fun ad ae=>cond (Ac m ae) (ue (ad.drop (m.toNat*12)) fun af=>cond ((ble (f+1) 140737488355328)&&(ble ((f+1)*16) 140737488355328)) (k1 (f+1) (wrap .i64 (m+1)) ((t.take (f*1))++[.str af])) none) none) (r0 f t))
def Km(r0:Nat->LA->O R)(b:Bool)(a:LA):Nat->Nat->Int->LA->O R
|0=>fun _ _ _=>none
|n+1=>Vt N r0 b a (Km r0 b a n)
def Vu(N:Nat)(r0:Nat->LA->O R)(b:Bool)(a:LA)(k2:Nat->Int->LA->O R)(g:Nat)(o:Int)(u:LA):O R:=(Bq 22 (a.drop 4) fun ba ag=>cond (decide (o<(ag:Int))) (Bq 22 (a.drop 4) fun ah ai=>cond (Ac o ai) (ue (ah.drop (o.toNat*22)) fun aj=>cond ((ble (g+1) 140737488355328)&&(ble ((g+1)*16) 140737488355328)) (k2 (g+1) (wrap .i64 (o+1)) ((u.take (g*1))++[.str aj])) none) none) (r0 g u))
def Kn(r0:Nat->LA->O R)(b:Bool)(a:LA):Nat->Nat->Int->LA->O R
|0=>fun _ _ _=>none
|n+1=>Vu N r0 b a (Kn r0 b a n)
def Vv(N:Nat)(r0:Nat->LA->O R)(b:Bool)(a:LA)(k3:Nat->Int->LA->O R)(h:Nat)(p:Int)(v:LA):O R:=(Bq 9 (a.drop 5) fun bb ak=>cond (decide (p<(ak:Int))) (Bq 9 (a.drop 5) fun al am=>cond (Ac p am) (ue (al.drop (p.toNat*9)) fun an=>cond ((ble (h+1) 140737488355328)&&(ble ((h+1)*16) 140737488355328)) (k3 (h+1) (wrap .i64 (p+1)) ((v.take (h*1))++[.str an])) none) none) (r0 h v))
def Ko(r0:Nat->LA->O R)(b:Bool)(a:LA):Nat->Nat->Int->LA->O R
|0=>fun _ _ _=>none
|n+1=>Vv N r0 b a (Ko r0 b a n)
def Vw(N:Nat)(r0:Nat->LA->O R)(b:Bool)(a:LA)(k4:Nat->Int->LA->O R)(i:Nat)(q:Int)(w:LA):O R:=(Bq 5 (a.drop 6) fun bc ao=>cond (decide (q<(ao:Int))) (Bq 5 (a.drop 6) fun ap aq=>cond (Ac q aq) (ue (ap.drop (q.toNat*5)) fun ar=>cond ((ble (i+1) 140737488355328)&&(ble ((i+1)*16) 140737488355328)) (k4 (i+1) (wrap .i64 (q+1)) ((w.take (i*1))++[.str ar])) none) none) (r0 i w))
def Kp(r0:Nat->LA->O R)(b:Bool)(a:LA):Nat->Nat->Int->LA->O R
|0=>fun _ _ _=>none
|n+1=>Vw N r0 b a (Kp r0 b a n)
def Vx(N:Nat)(r0:Nat->LA->O R)(b:Bool)(a:LA)(k5:Nat->Int->LA->O R)(j:Nat)(r:Int)(x:LA):O R:=(Bq 4 (a.drop 7) fun bd au=>cond (decide (r<(au:Int))) (Bq 4 (a.drop 7) fun av aw=>cond (Ac r aw) (ue (av.drop (r.toNat*4)) fun ax=>cond ((ble (j+1) 140737488355328)&&(ble ((j+1)*16) 140737488355328)) (k5 (j+1) (wrap .i64 (r+1)) ((x.take (j*1))++[.str ax])) none) none) (r0 j x))
def Kq(r0:Nat->LA->O R)(b:Bool)(a:LA):Nat->Nat->Int->LA->O R
|0=>fun _ _ _=>none
|n+1=>Vx N r0 b a (Kq r0 b a n)
def Kr(N:Nat)(r0:Nat->LA->O R)(q0:Nat->Int->LA->O R)(q1:Nat->Int->LA->O R)(q2:Nat->Int->LA->O R)(q3:Nat->Int->LA->O R)(q4:Nat->Int->LA->O R)(q5:Nat->Int->LA->O R)(a:LA)(b:Bool)(c:Int):O R:=(cond (c==1) (q0 0 0 []) (cond (c==2) (q1 0 0 []) (cond (c==3) (q2 0 0 []) (cond (c==4) (q3 0 0 []) (cond (c==5) (q4 0 0 []) (cond (c==6) (q5 0 0 []) (r0 0 [])))))))
def H7:=(Ai fun N a b c r0=>Kr (R:=R) N r0 (Kl N r0 b a N) (Km N r0 b a N) (Kn N r0 b a N) (Ko N r0 b a N) (Kp N r0 b a N) (Kq N r0 b a N) a b c).1
def Iz(a b c r0):(@H7 R N a b c r0)=(Kr N r0 (Kl N r0 b a N) (Km N r0 b a N) (Kn N r0 b a N) (Ko N r0 b a N) (Kp N r0 b a N) (Kq N r0 b a N) a b c):=by rw[H7,(Ai _).2]
def cY:Hints:={H:=hK 2 (hS (hK 1 (hS (hK 1 (hS (hK 1 (hS (hP [2,5,6] hL) hL)) (hK 1 (hS (hK 1 (hS (hP [2,5,7] hL) hL)) (hK 1 (hS (hK 1 (hS (hP [2,5,8] hL) hL)) (hK 1 (hS (hK 1 (hS (hP [2,5,9] hL) hL)) (hK 1 (hS (hK 1 (hS (hP [2,5,10] hL) hL)) (hK 1 (hS (hK 1 (hS (hP [2,5,11] hL) hL)) hL)))))))))))) hL)) hL),nils:=[(4,1),(5,1)],modes:=[(2,1)]}
def O1(F:KF R):=J7 Tryz.f199 cY [] [] N F
def xh(b:Bool)(a:LA)(K:St->O R):=fun d l s=>K ⟨[(2,op 0),(5,A6q 1 d),(6,iv l)],hq [bP b 0 a,bQ 1 s]⟩
def xi(b:Bool)(a:LA)(K:St->O R):=fun f m t=>K ⟨[(2,op 0),(5,A6q 1 f),(7,iv m)],hq [bP b 0 a,bQ 1 t]⟩
def xj(b:Bool)(a:LA)(K:St->O R):=fun g o u=>K ⟨[(2,op 0),(5,A6q 1 g),(8,iv o)],hq [bP b 0 a,bQ 1 u]⟩
def xk(b:Bool)(a:LA)(K:St->O R):=fun h p v=>K ⟨[(2,op 0),(5,A6q 1 h),(9,iv p)],hq [bP b 0 a,bQ 1 v]⟩
def xm(b:Bool)(a:LA)(K:St->O R):=fun i q w=>K ⟨[(2,op 0),(5,A6q 1 i),(10,iv q)],hq [bP b 0 a,bQ 1 w]⟩
def xn(b:Bool)(a:LA)(K:St->O R):=fun j r x=>K ⟨[(2,op 0),(5,A6q 1 j),(11,iv r)],hq [bP b 0 a,bQ 1 x]⟩
def mF(F:KF R)(b a):∀ n,xh b a (Au (O1 N F (pz 345156) []) n)=(Kl N (Cw F) b a n):=Gn fun n e=>(B5 (Vs N (Cw F) b a) e:_)
def mG(F:KF R)(b a):∀ n,xi b a (Au (O1 N F (pz 5522756) []) n)=(Km N (Cw F) b a n):=Gn fun n e=>(B5 (Vt N (Cw F) b a) e:_)
def mH(F:KF R)(b a):∀ n,xj b a (Au (O1 N F (pz 88364356) []) n)=(Kn N (Cw F) b a n):=Gn fun n e=>(B5 (Vu N (Cw F) b a) e:_)
def mI(F:KF R)(b a):∀ n,xk b a (Au (O1 N F (pz 1413829956) []) n)=(Ko N (Cw F) b a n):=Gn fun n e=>(B5 (Vv N (Cw F) b a) e:_)
def mJ(F:KF R)(b a):∀ n,xm b a (Au (O1 N F (pz 22621279556) []) n)=(Kp N (Cw F) b a n):=Gn fun n e=>(B5 (Vw N (Cw F) b a) e:_)
def mK(F:KF R)(b a):∀ n,xn b a (Au (O1 N F (pz 361940473156) []) n)=(Kq N (Cw F) b a n):=Gn fun n e=>(B5 (Vx N (Cw F) b a) e:_)
def kA:=B9 N 199 [] cY (fun
|[.pagg a b,.int .i64 c],[]=>some fun _ k=>H7 N a b c (Cw k)
| _,_=>none) fun _ _=>by split;intro R F;exact(Awp (Kr N (Cw F) · · · · · · _ _ _) ((lW ..).trans (mF ..)) ((lW ..).trans (mG ..)) ((lW ..).trans (mH ..)) ((lW ..).trans (mI ..)) ((lW ..).trans (mJ ..)) ((lW ..).trans (mK ..)):_).trans (Iz ..).symm;trivial
def hI(N:Nat)(a:Int)(r0:Int->O R):O R:=(cond (Ac a 7) (Aq .i64 (drop (0+(a.toNat*1)) [A6r,.int .i64 32,.int .i64 64,.int .i64 16,.int .i64 8,.int .i64 8,.int .i64 64]) fun b=>r0 b) none)
def Sg:=(Ai (@hI R)).1
def cZ:@Sg R=@hI R:=(Ai _).2
def Aed:=B9 N 200 [] Eh (fun
|[.int .i64 a],[]=>some fun _ k=>Sg N a (Ha k)
| _,_=>none) fun _ _=>by split;intro R F;dsimp only;rw[cZ];kernel_rfl;trivial
def B4(r0:LA->O R)(b:Bool)(a:LA)(k0:Int->LA->O R)(d:Int)(f:LA):O R:=(cond (decide (d<=6)) (cond (ble 8 a.length) (H7 N (a.take 8) b d fun g u=>Sg N d fun h=>Ab N (decide ((g:Int)<=h)) 0 0 (wrap .i64 (d+1)) 8 f fun i=>k0 (wrap .i64 (d+1)) i) none) (r0 f))
def Bb(r0:LA->O R)(b:Bool)(a:LA):Nat->Int->LA->O R
|0=>fun _ _=>none
|n+1=>B4 N r0 b a (Bb r0 b a n)
def Ks(r0:LA->O R)(q0:Int->LA->O R)(a:LA)(b:Bool)(c:LA):O R:=(Aq .i64 a fun j=>As N 1 24 [.int .i64 j] 1 false true fun l=>Ab N l 0 0 0 3 c fun m=>cond (ble 8 a.length) (Bq 1 (a.drop 1) fun o p=>C4 N (a.take 8) b o p false b 0 1048576 0 0 1 m fun q=>Bq 3 (a.drop 2) fun v r=>As N 1 32 [.int .i64 (r:Int)] 1 false true fun s=>Ab N s 0 0 2 8 q fun t=>q0 2 t) none)
def Ic:=(Ai fun N a b c r0=>Ks (R:=R) N r0 (Bb N r0 b a N) a b c).1
def Tq(a b c r0):(@Ic R N a b c r0)=(Ks N r0 (Bb N r0 b a N) a b c):=by rw[Ic,(Ai _).2]
def Wo:Hints:={H:=hK 5 (hS (hP [0,3,4] hL) hL)}
def X5:Ru:=[Dx N,Bm N,No N,kA N,Aed N]
def RP(F:KF R):=J7 Tryz.f152 Wo (X5 N) [100000] N F
def RQ(b:Bool)(a:LA)(K:St->O R):=fun d f=>K ⟨[(0,.optr 100000 0),(3,op 0),(4,iv d)],[(100000,bQ 0 f),(300000,bP b 0 a)]⟩
def HF(F:KF R)(b a):∀ n,RQ b a (Au (RP N F (pz 5460) []) n)=(Bb N (Ia F) b a n):=Gn fun n e=>(B5 (B4 N (Ia F) b a) e:_)
def VT:=B9 N 152 (X5 N) Wo (fun
|[.optr 100000 0,.pagg a b],[(100000,⟨false,false,true,false,0,c,false,none⟩)]=>some fun _ k=>Ic N a b c (Ia k)
| _,_=>none) fun _ _=>by split;intro R F;exact(B5 (Ks N (Ia F) · _ _ _) ((lW ..).trans (HF ..)):_).trans (Tq ..).symm;trivial
def DS(N:Nat)(k1:Int->O R)(r0:Bool->O R)(a:Lu)(b:Int)(d:Bool):O R:=(cond ((!d)==true) (cond ((b==0)==false) (cond (Ac b a.length) (cond ((((UInt8.toNat (List.getD a b.toNat 0):Nat):Int) != 95)==true) (cond (Ac b a.length) (cond ((decide (((UInt8.toNat (List.getD a b.toNat 0):Nat):Int)<48))==false) (cond (Ac b a.length) (cond (cond true (cond false true (cond true (cond false true (decide (((UInt8.toNat (List.getD a b.toNat 0):Nat):Int)>57))) false)) false) (r0 false) (k1 (wrap .i64 (b+1)))) none) (r0 false)) none) (k1 (wrap .i64 (b+1)))) none) (r0 false)) (k1 (wrap .i64 (b+1))))
def Y7(N:Nat)(r0:Bool->O R)(a:Lu)(k1:Int->O R)(q2:Int->Bool->O R)(c:Int):O R:=(cond (decide (c<((a.length:Nat):Int))) (cond (Ac c a.length) (cond ((decide (((UInt8.toNat (List.getD a c.toNat 0):Nat):Int)>=97))==true) (cond (Ac c a.length) (q2 c (cond true (decide (((UInt8.toNat (List.getD a c.toNat 0):Nat):Int)<=122)) false)) none) (q2 c false)) none) (r0 true))
def Np(r0:Bool->O R)(a:Lu):Nat->Int->O R
|0=>fun _=>none
|n+1=>Y7 N r0 a (Np r0 a n) (DS N (Np r0 a n) r0 a)
def KX(N:Nat)(r0:Bool->O R)(a:Lu)(q1:Int->O R):O R:=(q1 0)
def DT(r0:Bool->O R)(a:Lu):O R:=KX N r0 a (Np N r0 a N)
def UX(N:Nat)(r0:Bool->O R)(q0:O R)(a:Lu):O R:=(cond ((decide (((a.length:Nat):Int)<1))==false) (cond ((cond false true (decide (((a.length:Nat):Int)>16)))==false) (cond (cond false true (a==([99,111,114,114,101,99,116,105,118,101]:Lu))) (r0 false) q0) (r0 false)) (r0 false))
def RR:=(Ai fun N a r0=>UX (R:=R) N r0 (DT N r0 a) a).1
def c9(a r0):(@RR R N a r0)=(UX N r0 (DT N r0 a) a):=by rw[RR,(Ai _).2]
def kC:Hints:={H:=hK 1 (hJ [0] hL (hS (hK 1 (hS (hP [0,3] (hK 1 (hS (hS (hJ [0,3,4] hL hL) hL) hL))) hL)) hL))}
def RS(F:KF R):=J7 Tryz.f201 kC [] [] N F
def Aa5(a:Lu)(K:St->O R):=fun b d=>K ⟨[(0,.str a),(3,iv b),(4,.bool d)],[]⟩
def kD(a:Lu)(K:St->O R):=fun c=>K ⟨[(0,.str a),(3,iv c)],[]⟩
def Aa6(a:Lu)(K:St->O R):=K ⟨[(0,.str a)],[]⟩
def pV Q1 (F:KF R) a:Aa5 a (A2 (RS N F (pz 1380417) [Q1]))=(DS N (kD a Q1) (Cc F) a):=by kernel_rfl
def pW(F:KF R)a:∀ n,kD a (Au (RS N F (pz 1348) []) n)=(Np N (Cc F) a n):=Gn fun n e=>(KH (Y7 N (Cc F) a) e ((jW ..).trans ((pV ..).trans (ot (DS _ · _ _) e))):_)
def pX(F:KF R)a:Aa6 a (A2 (RS N F (pz 21) []))=(DT N (Cc F) a):=(B5 (KX N (Cc F) a) ((lW ..).trans (pW ..)):_)
def Aee:=B9 N 201 [] kC (fun
|[.str a],[]=>some fun _ k=>RR N a (Cc k)
| _,_=>none) fun _ _=>by split;intro R F;exact(B5 (UX N (Cc F) · _) ((jW ..).trans (pX ..)):_).trans (c9 ..).symm;trivial
def If(r0:LA->O R)(b a:Int)(c:Nat)(d:LA)(k0:Int->LA->O R)(i:Int)(j:LA):O R:=(cond (decide (i<a)) (cond (Ac i c) (ue (d.drop (0+(i.toNat*1))) fun l=>cond (Ac a c) (ue (d.drop (0+(a.toNat*1))) fun m=>Ab N (!(l==m)) b a 0 10 j fun o=>k0 (wrap .i64 (i+1)) o) none) none) (r0 j))
def Df(r0:LA->O R)(b a:Int)(c:Nat)(d:LA):Nat->Int->LA->O R
|0=>fun _ _=>none
|n+1=>If N r0 b a c d (Df r0 b a c d n)
def Mt(r0:LA->O R)(q0:Nat->LA->Int->LA->O R)(f:LA)(g:Bool)(b a:Int)(h:LA):O R:=(cond (ble 8 f.length) (H7 N (f.take 8) g b fun c d=>cond (Ac a c) (ue (d.drop (0+(a.toNat*1))) fun p=>RR N p fun q=>Ab N q b a 0 9 h fun r=>q0 c d 0 r) none) none)
def Co:=(Ai fun N f g b a h r0=>Mt (R:=R) N r0 (fun c d=>Df N r0 b a c d N) f g b a h).1
def Wp(f g b a h r0):(@Co R N f g b a h r0)=(Mt N r0 (fun c d=>Df N r0 b a c d N) f g b a h):=by rw[Co,(Ai _).2]
def X6:Hints:={H:=hK 4 (hS (hP [0,2,3,8,9] hL) hL)}
def BD:Ru:=[kA N,Aee N,Bm N]
def VU(F:KF R):=J7 Tryz.f153 X6 (BD N) [100000] N F
def VV(b a:Int)(c:Nat)(d:LA)(K:St->O R):=fun i j=>K ⟨[(0,.optr 100000 0),(2,iv b),(3,iv a),(8,A6q 0 c),(9,iv i)],[(100000,bQ 0 j),(300000,bQ 1 d)]⟩
def KY(F:KF R)(b a c d):∀ n,VV b a c d (Au (VU N F (pz 1364) []) n)=(Df N (Ia F) b a c d n):=Gn fun n e=>(B5 (If N (Ia F) b a c d) e:_)
def Fg:=B9 N 153 (BD N) X6 (fun
|[.optr 100000 0,.pagg f g,.int .i64 b,.int .i64 a],[(100000,⟨false,false,true,false,0,h,false,none⟩)]=>some fun _ k=>Co N f g b a h (Ia k)
| _,_=>none) fun _ _=>by split;intro R F;exact(B5 (Mt N (Ia F) · _ _ _ _ _) (ld fun c d=>(lW ..).trans (KY ..)):_).trans (Wp ..).symm;trivial
def Uu(a:LA)(g:Bool)(b c d e:Int)(f:LA)(r0:LA->O R):O R:=(Bq 3 (a.drop 2) fun l h=>As N 0 (wrap .i64 ((h:Int) - 1)) [.int .i64 b] 1 false true fun i=>Ab N i c d e 12 f fun j=>r0 j)
def E3:=(Ai (@Uu R)).1
def X7:@E3 R=@Uu R:=(Ai _).2
def Mu:=B9 N 202 [Dx N,Bm N] Eh (fun
|[.optr 100000 0,.pagg a g,.int .i64 b,.int .i64 c,.int .i64 d,.int .i64 e],[(100000,⟨false,false,true,false,0,f,false,none⟩)]=>some fun _ k=>E3 N a g b c d e f (Ia k)
| _,_=>none) fun _ _=>by split;intro R F;dsimp only;rw[X7];kernel_rfl;trivial
def FR(a:LA)(b:Bool)(r0:Bool->O R):O R:=(Aq .i64 (a.drop 1) fun c=>As N 1 1048576 [.int .i64 c] 1 false true fun d=>cond (d==true) (Aq .i64 a fun e=>As N (-1048576) 1048576 [.int .i64 e] 1 false true fun f=>r0 (cond true f false)) (r0 false))
def Kt:=(Ai (@FR R)).1
def HG:@Kt R=@FR R:=(Ai _).2
def RT:=B9 N 203 [Dx N] Eh (fun
|[.pagg a b],[]=>some fun _ k=>Kt N a b (Cc k)
| _,_=>none) fun _ _=>by split;intro R F;dsimp only;rw[HG];kernel_rfl;trivial
def Nq(N:Nat)(r0:Bool->O R)(b:LA)(a:Nat)(c d:Bool)(k0:Int->O R)(f:Int):O R:=(cond (decide (f<(a:Int))) (cond (Ac f a) (Aq .i64 (b.drop (f.toNat*1)) fun g=>cond (Ac (wrap .i64 (f - 1)) a) (Aq .i64 (b.drop (((wrap .i64 (f - 1)).toNat)*1)) fun h=>cond (decide (g<=h)) (r0 false) (k0 (wrap .i64 (f+1)))) none) none) (r0 true))
def Gy(r0:Bool->O R)(b:LA)(a:Nat)(c d:Bool):Nat->Int->O R
|0=>fun _=>none
|n+1=>Nq N r0 b a c d (Gy r0 b a c d n)
def DU(N:Nat)(r0:Bool->O R)(q0:Int->O R)(b:LA)(a:Nat)(c d:Bool):O R:=(q0 1)
def Qs:=(Ai fun N b a c d r0=>DU (R:=R) N r0 (Gy N r0 b a c d N) b a c d).1
def RU(b a c d r0):(@Qs R N b a c d r0)=(DU N r0 (Gy N r0 b a c d N) b a c d):=by rw[Qs,(Ai _).2]
def XL:Hints:={H:=hK 1 (hS (hK 1 (hS (hP [0,3] hL) hL)) hL)}
def sp(F:KF R):=J7 Tryz.f206 XL [] [] N F
def su(b:LA)(a:Nat)(c d:Bool)(K:St->O R):=fun f=>K ⟨[(0,.imm b a 1 c d),(3,iv f)],[]⟩
def hZ(F:KF R)(b a c d):∀ n,su b a c d (Au (sp N F (pz 324) []) n)=(Gy N (Cc F) b a c d n):=Gn fun n e=>(B5 (Nq N (Cc F) b a c d) e:_)
def c_:=B9 N 206 [] XL (fun
|[.imm b a 1 c d],[]=>some fun _ k=>Qs N b a c d (Cc k)
| _,_=>none) fun _ _=>by split;intro R F;exact(B5 (DU N (Cc F) · _ _ _ _) ((lW ..).trans (hZ ..)):_).trans (RU ..).symm;trivial
def Sh(g:LA)(i:Bool)(a:LA)(b:Nat)(j c:Bool)(d e f:Int)(h:LA)(r0:LA->O R):O R:=(Aq .i64 g fun l=>As N 0 (wrap .i64 (l - 1)) a b false c fun m=>Ab N m d e f 3 h fun n=>Qs N a b false c fun o=>Ab N o d e f 11 n fun p=>r0 p)
def Jq:=(Ai (@Sh R)).1
def Wq:@Jq R=@Sh R:=(Ai _).2
def BE:=B9 N 204 [Dx N,Bm N,c_ N] Eh (fun
|[.optr 100000 0,.pagg g i,.imm a b 1 j c,.int .i64 d,.int .i64 e,.int .i64 f],[(100000,⟨false,false,true,false,0,h,false,none⟩)]=>some fun _ k=>Jq N g i a b j c d e f h (Ia k)
| _,_=>none) fun _ _=>by split;intro R F;dsimp only;rw[Wq];kernel_rfl;trivial
def Ph(r0:LA->O R)(a:Int)(b:Bool)(c d:LA)(i:LA):O R:=(Aq .i64 (d.drop 9) fun l=>As N 0 1048576 [.int .i64 l] 1 false true fun m=>Ab N m 2 a 6 3 i fun n=>Aq .i64 (d.drop 9) fun o=>Aq .i64 (d.drop 10) fun p=>As N o 1048576 [.int .i64 p] 1 false true fun q=>Ab N q 2 a 7 3 n fun r=>cond (ble 8 c.length) (Bq 1 (d.drop 11) fun s t=>Jq N (c.take 8) b s t false b 2 a 8 r fun u=>r0 u) none)
def Nr(r0:LA->O R)(a:Int)(b:Bool)(c d:LA)(q2:LA->O R)(g:LA):O R:=(cond (ble 2 ((d.drop 7).length)) (cond ((!b)||(A9 ((d.drop 7).take 2))) (Kt N ((d.drop 7).take 2) false fun v=>cond (v==true) (Aq .i64 (d.drop 7) fun w=>Ab N (cond true (decide (w>=0)) false) 2 a 5 3 g fun x=>q2 x) (Ab N false 2 a 5 3 g fun y=>q2 y)) none) none)
def Pi(r0:LA->O R)(a:Int)(b:Bool)(c d:LA)(g:LA):O R:=Nr N r0 a b c d (Ph N r0 a b c d) g
def Ns(r0:LA->O R)(a:Int)(b:Bool)(c:LA)(q1:LA->LA->O R)(h d:LA):O R:=(cond (ble 2 ((d.drop 5).length)) (cond ((!b)||(A9 ((d.drop 5).take 2))) (Kt N ((d.drop 5).take 2) false fun z=>cond (z==true) (Aq .i64 (d.drop 5) fun aa=>Ab N (cond true (decide (aa<=0)) false) 2 a 4 3 h fun ab=>q1 d ab) (Ab N false 2 a 4 3 h fun ac=>q1 d ac)) none) none)
def Jf(r0:LA->O R)(a:Int)(b:Bool)(c:LA)(h d:LA):O R:=Ns N r0 a b c (fun d=>Pi N r0 a b c d) h d
def Mv(r0:LA->O R)(q0:LA->LA->O R)(c:LA)(b:Bool)(a:Int)(f:LA):O R:=(Bq 12 (c.drop 3) fun e ad=>cond (Ac a ad) (cond (ble 12 ((e.drop (a.toNat*12)).length)) (cond ((beq 0 0)&&((beq (((e.drop (a.toNat*12)).take 12).length) 12)&&(beq 12 12))) (cond (ble 8 c.length) (Co N (c.take 8) b 2 a f fun ae=>cond (ble 8 c.length) (Aq .i64 (((e.drop (a.toNat*12)).take 12).drop 1) fun af=>E3 N (c.take 8) b af 2 a 1 ae fun ag=>cond (ble 8 c.length) (Aq .i64 (((e.drop (a.toNat*12)).take 12).drop 2) fun ah=>E3 N (c.take 8) b ah 2 a 2 ag fun ai=>Aq .i64 (((e.drop (a.toNat*12)).take 12).drop 1) fun aj=>Aq .i64 (((e.drop (a.toNat*12)).take 12).drop 2) fun ak=>Ab N (aj != ak) 2 a 2 1 ai fun j=>cond (ble 2 ((((e.drop (a.toNat*12)).take 12).drop 3).length)) (cond ((!b)||(A9 ((((e.drop (a.toNat*12)).take 12).drop 3).take 2))) (Kt N ((((e.drop (a.toNat*12)).take 12).drop 3).take 2) false fun al=>cond (al==true) (Aq .i64 (((e.drop (a.toNat*12)).take 12).drop 3) fun am=>Ab N (cond true (decide (am>0)) false) 2 a 3 3 j fun an=>q0 an ((e.drop (a.toNat*12)).take 12)) (Ab N false 2 a 3 3 j fun ao=>q0 ao ((e.drop (a.toNat*12)).take 12))) none) none) none) none) none) none) none) none)
def Jr:=(Ai fun N c b a f r0=>Mv (R:=R) N r0 (Jf N r0 a b c) c b a f).1
def Wr(c b a f r0):(@Jr R N c b a f r0)=(Mv N r0 (Jf N r0 a b c) c b a f):=by rw[Jr,(Ai _).2]
def X8:Hints:={H:=hK 6 (hJ [0,2,4,6,7] hL (hJ [0,2,4,6,7] hL (hJ [0,2,4,6,7] hL hL)))}
def BF:Ru:=[Fg N,Mu N,Bm N,RT N,Dx N,BE N]
def Pj(F:KF R):=J7 Tryz.f157 X8 (BF N) [100000] N F
def VW(a:Int)(b:Bool)(c d:LA)(K:St->O R):=fun i=>K ⟨[(0,.optr 100000 0),(2,iv a),(4,op 0),(6,op 1),(7,iv 2)],[(100000,bQ 0 i),(300000,bP b 0 c),(300001,bP b 0 d)]⟩
def VX(a:Int)(b:Bool)(c d:LA)(K:St->O R):=fun g=>K ⟨[(0,.optr 100000 0),(2,iv a),(4,op 0),(6,op 1),(7,iv 2)],[(100000,bQ 0 g),(300000,bP b 0 c),(300001,bP b 0 d)]⟩
def VY(a:Int)(b:Bool)(c:LA)(K:St->O R):=fun h d=>K ⟨[(0,.optr 100000 0),(2,iv a),(4,op 0),(6,op 1),(7,iv 2)],[(100000,bQ 0 h),(300000,bP b 0 c),(300001,bP b 0 d)]⟩
def KZ(F:KF R)(a b c d):VW a b c d (A2 (Pj N F (pz 349525) []))=(Ph N (Ia F) a b c d):=by kernel_rfl
def K_(F:KF R)(a b c d):VX a b c d (A2 (Pj N F (pz 87381) []))=(Pi N (Ia F) a b c d):=(B5 (Nr N (Ia F) a b c d) ((jW ..).trans (KZ ..)):_)
def LB(F:KF R)(a b c):VY a b c (A2 (Pj N F (pz 21845) []))=(Jf N (Ia F) a b c):=(B5 (Ns N (Ia F) a b c) (Aan fun d=>(jW ..).trans (K_ ..)):_)
def ZS:=B9 N 157 (BF N) X8 (fun
|[.optr 100000 0,.pagg c b,.int .i64 a],[(100000,⟨false,false,true,false,0,f,false,none⟩)]=>some fun _ k=>Jr N c b a f (Ia k)
| _,_=>none) fun _ _=>by split;intro R F;exact(B5 (Mv N (Ia F) · _ _ _ _) ((jW ..).trans (LB ..)):_).trans (Wr ..).symm;trivial
def Fr(r0:LA->O R)(b:Int)(d:LA)(c:Bool)(a:LA)(k2:Int->Int->O R)(m l:Int):O R:=(Bq 2 (a.drop 4) fun ax q=>cond ((decide (l<(q:Int)))==true) (Aq .i64 (d.drop 3) fun r=>cond (cond true (r==0) false) (Bq 2 (a.drop 4) fun s t=>cond (Ac l t) (Aq .i64 (s.drop (l.toNat*2)) fun u=>k2 (wrap .i64 (m+u)) (wrap .i64 (l+1))) none) (Aq .i64 (d.drop 3) fun v=>cond ((v != 0)==false) (Aq .i64 (a.drop 3) fun w=>Aq .i64 (a.drop 2) fun x=>Ab N (cond false true (m==(wrap .i64 (w - x)))) 3 b 4 4 d fun y=>r0 y) (Ab N true 3 b 4 4 d fun z=>r0 z))) (Aq .i64 (d.drop 3) fun aa=>cond ((aa != 0)==false) (Aq .i64 (a.drop 3) fun ab=>Aq .i64 (a.drop 2) fun ac=>Ab N (cond false true (m==(wrap .i64 (ab - ac)))) 3 b 4 4 d fun ad=>r0 ad) (Ab N true 3 b 4 4 d fun ae=>r0 ae)))
def Cz(r0:LA->O R)(b:Int)(d:LA)(c:Bool)(a:LA):Nat->Int->Int->O R
|0=>fun _ _=>none
|n+1=>Fr N r0 b d c a (Cz r0 b d c a n)
def Dy(r0:LA->O R)(b:Int)(c:Bool)(a:LA)(k1:Int->LA->O R)(q2:LA->Int->Int->O R)(i:Int)(d:LA):O R:=(Bq 2 (a.drop 4) fun ay af=>cond (decide (i<(af:Int))) (Bq 2 (a.drop 4) fun ag ah=>cond (Ac i ah) (Aq .i64 ((ag.drop (i.toNat*2)).drop 1) fun ai=>Bq 2 (a.drop 4) fun aj ak=>cond (Ac (wrap .i64 (i - 1)) ak) (Aq .i64 ((aj.drop (((wrap .i64 (i - 1)).toNat)*2)).drop 1) fun al=>Ab N (decide (ai>=al)) 3 b 4 11 d fun am=>k1 (wrap .i64 (i+1)) am) none) none) (q2 d 0 0))
def B7(r0:LA->O R)(b:Int)(c:Bool)(a:LA):Nat->Int->LA->O R
|0=>fun _ _=>none
|n+1=>Dy N r0 b c a (B7 r0 b c a n) (fun d=>Cz N r0 b d c a N)
def Fs(r0:LA->O R)(b:Int)(f:LA)(g:Nat)(c:Bool)(a:LA)(k0:Int->Int->LA->O R)(q1:Int->LA->O R)(o h:Int)(p:LA):O R:=(cond (decide (h<o)) (cond (Ac h g) (cond (ble 2 ((f.drop (h.toNat*2)).length)) (cond ((!c)||(A9 ((f.drop (h.toNat*2)).take 2))) (cond ((beq (((f.drop (h.toNat*2)).take 2).length) 2)&&((ble 2 2)&&(!false))) (Aq .i64 (setCells [A6r,A6r] 0 ((f.drop (h.toNat*2)).take 2)) fun an=>As N 1 1048576 [.int .i64 an] 1 false true fun ao=>cond (ao==true) (Aq .i64 ((setCells [A6r,A6r] 0 ((f.drop (h.toNat*2)).take 2)).drop 1) fun ap=>As N (-1048576) 1048576 [.int .i64 ap] 1 false true fun aq=>Ab N (cond true aq false) 3 b 4 3 p fun ar=>k0 o (wrap .i64 (h+1)) ar) (Ab N false 3 b 4 3 p fun au=>k0 o (wrap .i64 (h+1)) au)) none) none) none) none) (q1 1 p))
def B8(r0:LA->O R)(b:Int)(f:LA)(g:Nat)(c:Bool)(a:LA):Nat->Int->Int->LA->O R
|0=>fun _ _ _=>none
|n+1=>Fs N r0 b f g c a (B8 r0 b f g c a n) (B7 N r0 b c a N)
def Hs(r0:LA->O R)(q0:LA->Nat->Int->Int->LA->O R)(a:LA)(c:Bool)(b:Int)(j:LA):O R:=(Bq 2 (a.drop 4) fun az av=>Ab N (decide ((av:Int)<=8)) 3 b 4 8 j fun aw=>Bq 2 (a.drop 4) fun f g=>q0 f g (g:Int) 0 aw)
def D9:=(Ai fun N a c b j r0=>Hs (R:=R) N r0 (fun f g=>B8 N r0 b f g c a N) a c b j).1
def Pw(a c b j r0):(@D9 R N a c b j r0)=(Hs N r0 (fun f g=>B8 N r0 b f g c a N) a c b j):=by rw[D9,(Ai _).2]
def Rc:Hints:={H:=hK 3 (hS (hK 1 (hS (hP [0,2,4,6,21,22,23] hL) hL)) (hS (hK 1 (hS (hP [0,2,4,6,9] hL) hL)) (hK 1 (hS (hK 1 (hS (hP [0,2,4,6,10,11] hL) hL)) hL))))}
def Si:Ru:=[Bm N,Dx N]
def Js(F:KF R):=J7 Tryz.f205 Rc (Si N) [100000] N F
def HH(b:Int)(d:LA)(c:Bool)(a:LA)(K:St->O R):=fun m l=>K ⟨[(0,.optr 100000 0),(2,iv b),(4,op 0),(6,iv 3),(10,iv m),(11,iv l)],[(100000,bQ 0 d),(300000,bP c 0 a)]⟩
def HI(b:Int)(c:Bool)(a:LA)(K:St->O R):=fun i d=>K ⟨[(0,.optr 100000 0),(2,iv b),(4,op 0),(6,iv 3),(9,iv i)],[(100000,bQ 0 d),(300000,bP c 0 a)]⟩
def HJ(b:Int)(f:LA)(g:Nat)(c:Bool)(a:LA)(K:St->O R):=fun o h p=>K ⟨[(0,.optr 100000 0),(2,iv b),(4,op 0),(6,iv 3),(21,.imm f g 2 false c),(22,iv o),(23,iv h)],[(100000,bQ 0 p),(300000,bP c 0 a)]⟩
def BG(F:KF R)(b d c a):∀ n,HH b d c a (Au (Js N F (pz 349508) []) n)=(Cz N (Ia F) b d c a n):=Gn fun n e=>(B5 (Fr N (Ia F) b d c a) e:_)
def BH(F:KF R)(b c a):∀ n,HI b c a (Au (Js N F (pz 21828) []) n)=(B7 N (Ia F) b c a n):=Gn fun n e=>(KH (Dy N (Ia F) b c a) e (Aan fun d=>(lW ..).trans (BG ..)):_)
def BI(F:KF R)(b f g c a):∀ n,HJ b f g c a (Au (Js N F (pz 5444) []) n)=(B8 N (Ia F) b f g c a n):=Gn fun n e=>(KH (Fs N (Ia F) b f g c a) e ((lW ..).trans (BH ..)):_)
def LC:=B9 N 205 (Si N) Rc (fun
|[.optr 100000 0,.pagg a c,.int .i64 b],[(100000,⟨false,false,true,false,0,j,false,none⟩)]=>some fun _ k=>D9 N a c b j (Ia k)
| _,_=>none) fun _ _=>by split;intro R F;exact(B5 (Hs N (Ia F) · _ _ _ _) (ld fun f g=>(lW ..).trans (BI ..)):_).trans (Pw ..).symm;trivial
def Pk(r0:LA->O R)(a:Int)(c:Bool)(d h:LA):O R:=(Aq .i64 (d.drop 19) fun l=>cond (l==2) (Aq .i64 (d.drop 2) fun m=>Aq .i64 (d.drop 3) fun n=>Aq .i64 (d.drop 21) fun o=>As N m n [.int .i64 o] 1 false true fun p=>Ab N p 3 a 21 3 h fun q=>r0 q) (Aq .i64 (d.drop 21) fun r=>Ab N (r==0) 3 a 21 3 h fun s=>r0 s))
def Nt(r0:LA->O R)(a:Int)(c:Bool)(q1:LA->LA->O R)(g d:LA):O R:=(Aq .i64 (d.drop 20) fun t=>As N 1 48 [.int .i64 t] 1 false true fun u=>Ab N u 3 a 20 3 g fun i=>Aq .i64 (d.drop 19) fun v=>cond ((v != 1)==false) (Aq .i64 (d.drop 20) fun w=>Aq .i64 (d.drop 12) fun x=>Ab N (cond false true (decide (w<=x))) 3 a 20 3 i fun y=>q1 d y) (Ab N true 3 a 20 3 i fun z=>q1 d z))
def Jg(r0:LA->O R)(a:Int)(c:Bool)(g d:LA):O R:=Nt N r0 a c (fun d=>Pk N r0 a c d) g d
def Mw(r0:LA->O R)(q0:LA->LA->O R)(e:LA)(c:Bool)(a:Int)(f:LA):O R:=(Bq 22 (e.drop 4) fun b aa=>cond (Ac a aa) (cond (ble 22 ((b.drop (a.toNat*22)).length)) (cond ((beq 0 0)&&((beq (((b.drop (a.toNat*22)).take 22).length) 22)&&(beq 22 22))) (cond (ble 8 e.length) (Co N (e.take 8) c 3 a f fun ab=>cond (ble 8 e.length) (Aq .i64 (((b.drop (a.toNat*22)).take 22).drop 1) fun ac=>E3 N (e.take 8) c ac 3 a 1 ab fun ad=>Aq .i64 (((b.drop (a.toNat*22)).take 22).drop 2) fun ae=>As N 0 1048576 [.int .i64 ae] 1 false true fun af=>Ab N af 3 a 2 3 ad fun ag=>Aq .i64 (((b.drop (a.toNat*22)).take 22).drop 2) fun ah=>Aq .i64 (((b.drop (a.toNat*22)).take 22).drop 3) fun ai=>As N ah 1048576 [.int .i64 ai] 1 false true fun aj=>Ab N aj 3 a 3 3 ag fun ak=>cond (ble 22 (((b.drop (a.toNat*22)).take 22).length)) (D9 N (((b.drop (a.toNat*22)).take 22).take 22) c a ak fun al=>Aq .i64 (((b.drop (a.toNat*22)).take 22).drop 5) fun am=>As N 0 1048576 [.int .i64 am] 1 false true fun an=>Ab N an 3 a 5 3 al fun ao=>Aq .i64 (((b.drop (a.toNat*22)).take 22).drop 6) fun ap=>As N 0 1048576 [.int .i64 ap] 1 false true fun aq=>Ab N aq 3 a 6 3 ao fun ar=>Aq .i64 (((b.drop (a.toNat*22)).take 22).drop 7) fun au=>As N 0 1048576 [.int .i64 au] 1 false true fun av=>Ab N av 3 a 7 3 ar fun aw=>Aq .i64 (((b.drop (a.toNat*22)).take 22).drop 2) fun ax=>Aq .i64 (((b.drop (a.toNat*22)).take 22).drop 3) fun ay=>Aq .i64 (((b.drop (a.toNat*22)).take 22).drop 8) fun az=>As N ax ay [.int .i64 az] 1 false true fun ba=>Ab N ba 3 a 8 3 aw fun bb=>Aq .i64 (((b.drop (a.toNat*22)).take 22).drop 2) fun bc=>Aq .i64 (((b.drop (a.toNat*22)).take 22).drop 3) fun bd=>Aq .i64 (((b.drop (a.toNat*22)).take 22).drop 9) fun be=>As N bc bd [.int .i64 be] 1 false true fun bf=>Ab N bf 3 a 9 3 bb fun bg=>Aq .i64 (((b.drop (a.toNat*22)).take 22).drop 10) fun bh=>As N 0 24 [.int .i64 bh] 1 false true fun bi=>Ab N bi 3 a 10 3 bg fun bj=>Aq .i64 (((b.drop (a.toNat*22)).take 22).drop 11) fun bk=>As N 0 24 [.int .i64 bk] 1 false true fun bl=>Ab N bl 3 a 11 3 bj fun bm=>Aq .i64 (((b.drop (a.toNat*22)).take 22).drop 12) fun bn=>As N 0 24 [.int .i64 bn] 1 false true fun bo=>Ab N bo 3 a 12 3 bm fun bp=>Aq .i64 (((b.drop (a.toNat*22)).take 22).drop 13) fun bq=>As N 0 1048576 [.int .i64 bq] 1 false true fun br=>Ab N br 3 a 13 3 bp fun bs=>Aq .i64 (((b.drop (a.toNat*22)).take 22).drop 14) fun bt=>As N 0 1048576 [.int .i64 bt] 1 false true fun bu=>Ab N bu 3 a 14 3 bs fun bv=>Aq .i64 (((b.drop (a.toNat*22)).take 22).drop 15) fun bw=>As N 0 24 [.int .i64 bw] 1 false true fun bx=>Ab N bx 3 a 15 3 bv fun bz=>Aq .i64 (((b.drop (a.toNat*22)).take 22).drop 16) fun ca=>As N 0 1048576 [.int .i64 ca] 1 false true fun cb=>Ab N cb 3 a 16 3 bz fun cc=>Aq .i64 (((b.drop (a.toNat*22)).take 22).drop 17) fun cd=>As N 0 1048576 [.int .i64 cd] 1 false true fun ce=>Ab N ce 3 a 17 3 cc fun cf=>cond (ble 8 e.length) (Bq 1 (((b.drop (a.toNat*22)).take 22).drop 18) fun cg ch=>Jq N (e.take 8) c cg ch false c 3 a 18 cf fun ci=>Aq .i64 (((b.drop (a.toNat*22)).take 22).drop 19) fun cj=>As N 0 2 [.int .i64 cj] 1 false true fun ck=>Ab N ck 3 a 19 12 ci fun j=>Aq .i64 (((b.drop (a.toNat*22)).take 22).drop 19) fun cl=>cond ((cl != 1)==false) (Aq .i64 (((b.drop (a.toNat*22)).take 22).drop 12) fun cm=>Ab N (cond false true (decide (cm>0))) 3 a 19 16 j fun cn=>q0 cn ((b.drop (a.toNat*22)).take 22)) (Ab N true 3 a 19 16 j fun co=>q0 co ((b.drop (a.toNat*22)).take 22))) none) none) none) none) none) none) none)
def Jt:=(Ai fun N e c a f r0=>Mw (R:=R) N r0 (Jg N r0 a c) e c a f).1
def Ws(e c a f r0):(@Jt R N e c a f r0)=(Mw N r0 (Jg N r0 a c) e c a f):=by rw[Jt,(Ai _).2]
def X9:Hints:={H:=hK 22 (hJ [0,2,6,7] hL (hK 1 (hJ [0,2,6,7] hL hL)))}
def BJ:Ru:=[Fg N,Mu N,Dx N,Bm N,LC N,BE N]
def Ya(F:KF R):=J7 Tryz.f158 X9 (BJ N) [100000] N F
def VZ(a:Int)(c:Bool)(d:LA)(K:St->O R):=fun h=>K ⟨[(0,.optr 100000 0),(2,iv a),(6,op 0),(7,iv 3)],[(100000,bQ 0 h),(300000,bP c 0 d)]⟩
def V_(a:Int)(c:Bool)(K:St->O R):=fun g d=>K ⟨[(0,.optr 100000 0),(2,iv a),(6,op 0),(7,iv 3)],[(100000,bQ 0 g),(300000,bP c 0 d)]⟩
def LD(F:KF R)(a c d):VZ a c d (A2 (Ya N F (pz 1501199875790165) []))=(Pk N (Ia F) a c d):=by kernel_rfl
def LF(F:KF R)(a c):V_ a c (A2 (Ya N F (pz 93824992236885) []))=(Jg N (Ia F) a c):=(B5 (Nt N (Ia F) a c) (Aan fun d=>(jW ..).trans (LD ..)):_)
def ZT:=B9 N 158 (BJ N) X9 (fun
|[.optr 100000 0,.pagg e c,.int .i64 a],[(100000,⟨false,false,true,false,0,f,false,none⟩)]=>some fun _ k=>Jt N e c a f (Ia k)
| _,_=>none) fun _ _=>by split;intro R F;exact(B5 (Mw N (Ia F) · _ _ _ _) ((jW ..).trans (LF ..)):_).trans (Ws ..).symm;trivial
def Qt(c:LA)(d:Bool)(a:Int)(e:LA)(r0:LA->O R):O R:=(Bq 9 (c.drop 5) fun b g=>cond (Ac a g) (cond (ble 9 ((b.drop (a.toNat*9)).length)) (cond ((beq 0 0)&&((beq (((b.drop (a.toNat*9)).take 9).length) 9)&&(beq 9 9))) (cond (ble 8 c.length) (Co N (c.take 8) d 4 a e fun h=>cond (ble 8 c.length) (Aq .i64 (((b.drop (a.toNat*9)).take 9).drop 1) fun i=>E3 N (c.take 8) d i 4 a 1 h fun j=>Aq .i64 (((b.drop (a.toNat*9)).take 9).drop 2) fun l=>As N 0 1048576 [.int .i64 l] 1 false true fun m=>Ab N m 4 a 2 3 j fun n=>Aq .i64 (((b.drop (a.toNat*9)).take 9).drop 2) fun o=>Aq .i64 (((b.drop (a.toNat*9)).take 9).drop 3) fun p=>As N 0 o [.int .i64 p] 1 false true fun q=>Ab N q 4 a 3 3 n fun r=>Aq .i64 (((b.drop (a.toNat*9)).take 9).drop 2) fun s=>Aq .i64 (((b.drop (a.toNat*9)).take 9).drop 4) fun t=>As N 0 s [.int .i64 t] 1 false true fun u=>Ab N u 4 a 4 3 r fun v=>Aq .i64 (((b.drop (a.toNat*9)).take 9).drop 5) fun w=>As N 0 1048576 [.int .i64 w] 1 false true fun x=>Ab N x 4 a 5 3 v fun y=>Aq .i64 (((b.drop (a.toNat*9)).take 9).drop 6) fun z=>As N 0 1048576 [.int .i64 z] 1 false true fun aa=>Ab N aa 4 a 6 3 y fun f=>cond (ble 2 ((((b.drop (a.toNat*9)).take 9).drop 7).length)) (cond ((!d)||(A9 ((((b.drop (a.toNat*9)).take 9).drop 7).take 2))) (Kt N ((((b.drop (a.toNat*9)).take 9).drop 7).take 2) false fun ab=>cond (ab==true) (Aq .i64 (((b.drop (a.toNat*9)).take 9).drop 7) fun ac=>cond ((cond true (decide (ac>0)) false)==true) (Aq .i64 (((b.drop (a.toNat*9)).take 9).drop 7) fun ad=>Aq .i64 (((b.drop (a.toNat*9)).take 9).drop 8) fun ae=>Ab N (cond true (decide (ad<=ae)) false) 4 a 7 3 f fun af=>r0 af) (Ab N false 4 a 7 3 f fun ag=>r0 ag)) (Ab N false 4 a 7 3 f fun ah=>r0 ah)) none) none) none) none) none) none) none)
def Mx:=(Ai (@Qt R)).1
def Tr:@Mx R=@Qt R:=(Ai _).2
def WA:=B9 N 159 [Fg N,Mu N,Dx N,Bm N,RT N] Eh (fun
|[.optr 100000 0,.pagg c d,.int .i64 a],[(100000,⟨false,false,true,false,0,e,false,none⟩)]=>some fun _ k=>Mx N c d a e (Ia k)
| _,_=>none) fun _ _=>by split;intro R F;dsimp only;rw[Tr];kernel_rfl;trivial
def Uv(b:LA)(c:Bool)(a:Int)(e:LA)(r0:LA->O R):O R:=(Bq 5 (b.drop 6) fun d f=>cond (Ac a f) (cond (ble 5 ((d.drop (a.toNat*5)).length)) (cond ((beq 0 0)&&((beq (((d.drop (a.toNat*5)).take 5).length) 5)&&(beq 5 5))) (cond (ble 8 b.length) (Co N (b.take 8) c 5 a e fun g=>cond (ble 8 b.length) (Aq .i64 (((d.drop (a.toNat*5)).take 5).drop 1) fun h=>E3 N (b.take 8) c h 5 a 1 g fun i=>cond (ble 8 b.length) (Bq 1 (((d.drop (a.toNat*5)).take 5).drop 2) fun j l=>C4 N (b.take 8) c j l false c 0 1048576 5 a 2 i fun m=>cond (ble 8 b.length) (Bq 1 (((d.drop (a.toNat*5)).take 5).drop 3) fun n o=>C4 N (b.take 8) c n o false c 0 1048576 5 a 3 m fun p=>cond (ble 8 b.length) (Bq 1 (((d.drop (a.toNat*5)).take 5).drop 4) fun q r=>C4 N (b.take 8) c q r false c (-1048576) 1048576 5 a 4 p fun s=>r0 s) none) none) none) none) none) none) none) none)
def Qa:=(Ai (@Uv R)).1
def Yb:@Qa R=@Uv R:=(Ai _).2
def dA:=B9 N 160 [Fg N,Mu N,No N] Eh (fun
|[.optr 100000 0,.pagg b c,.int .i64 a],[(100000,⟨false,false,true,false,0,e,false,none⟩)]=>some fun _ k=>Qa N b c a e (Ia k)
| _,_=>none) fun _ _=>by split;intro R F;dsimp only;rw[Yb];kernel_rfl;trivial
def Gs(r0:LA->O R)(a:Int)(f:LA)(h:Nat)(b:Bool)(k2:Int->Int->LA->O R)(t l:Int)(u:LA):O R:=(cond (decide (l<t)) (cond (Ac l h) (cond (ble 3 ((f.drop (l.toNat*3)).length)) (cond ((!b)||(A9 ((f.drop (l.toNat*3)).take 3))) (cond ((beq (((f.drop (l.toNat*3)).take 3).length) 3)&&((ble 3 3)&&(!false))) (Aq .i64 ((setCells [A6r,A6r,A6r] 0 ((f.drop (l.toNat*3)).take 3)).drop 1) fun x=>Aq .i64 ((setCells [A6r,A6r,A6r] 0 ((f.drop (l.toNat*3)).take 3)).drop 2) fun y=>As N 0 1048576 [.int .i64 x,.int .i64 y] 2 false true fun z=>Ab N z 6 a 3 3 u fun aa=>k2 t (wrap .i64 (l+1)) aa) none) none) none) none) (r0 u))
def Ds(r0:LA->O R)(a:Int)(f:LA)(h:Nat)(b:Bool):Nat->Int->Int->LA->O R
|0=>fun _ _ _=>none
|n+1=>Gs N r0 a f h b (Ds r0 a f h b n)
def Gt(r0:LA->O R)(a:Int)(g:LA)(i:Nat)(b:Bool)(j c d:LA)(k1:Nat->Int->Int->LA->O R)(q2:LA->Nat->Int->Int->LA->O R)(m:Nat)(v o:Int)(r:LA):O R:=(cond (decide (o<v)) (cond (Ac o i) (cond (ble 3 ((g.drop (o.toNat*3)).length)) (cond ((!b)||(A9 ((g.drop (o.toNat*3)).take 3))) (cond ((beq (((g.drop (o.toNat*3)).take 3).length) 3)&&((ble 3 3)&&(!false))) (Aq .i64 (setCells [A6r,A6r,A6r] 0 ((g.drop (o.toNat*3)).take 3)) fun ab=>cond ((ble (m+1) 140737488355328)&&(ble ((m+1)*8) 140737488355328)) (k1 (m+1) v (wrap .i64 (o+1)) ((r.take (m*1))++[.int .i64 ab])) none) none) none) none) none) (Bq 22 (c.drop 4) fun bb ac=>As N 0 (wrap .i64 ((ac:Int) - 1)) (r.take (m*1)) m false true fun ad=>Ab N ad 6 a 3 12 j fun ae=>Qs N (r.take (m*1)) m false true fun af=>Ab N af 6 a 3 11 ae fun ag=>Bq 3 (d.drop 3) fun f h=>q2 f h (h:Int) 0 ag))
def Dt(r0:LA->O R)(a:Int)(g:LA)(i:Nat)(b:Bool)(j c d:LA):Nat->Nat->Int->Int->LA->O R
|0=>fun _ _ _ _=>none
|n+1=>Gt N r0 a g i b j c d (Dt r0 a g i b j c d n) (fun f h=>Ds N r0 a f h b N)
def Ku(r0:LA->O R)(a:Int)(b:Bool)(c:LA)(q1:LA->Nat->LA->LA->Nat->Int->Int->LA->O R)(s d:LA):O R:=(Bq 3 (d.drop 3) fun bc ah=>Ab N (decide ((ah:Int)<=16)) 6 a 3 8 s fun j=>Bq 3 (d.drop 3) fun g i=>q1 g i j d 0 (i:Int) 0 [])
def Ht(r0:LA->O R)(a:Int)(b:Bool)(c:LA)(s d:LA):O R:=Ku N r0 a b c (fun g i j d=>Dt N r0 a g i b j c d N) s d
def Jh(r0:LA->O R)(q0:LA->LA->O R)(c:LA)(b:Bool)(a:Int)(q:LA):O R:=(Bq 4 (c.drop 7) fun p ai=>cond (Ac a ai) (cond (ble 4 ((p.drop (a.toNat*4)).length)) (cond ((beq 0 0)&&((beq (((p.drop (a.toNat*4)).take 4).length) 4)&&(beq 4 4))) (cond (ble 8 c.length) (Co N (c.take 8) b 6 a q fun aj=>Bq 1 (((p.drop (a.toNat*4)).take 4).drop 1) fun bd ak=>As N 1 2 [.int .i64 (ak:Int)] 1 false true fun al=>Ab N al 6 a 1 4 aj fun am=>Bq 12 (c.drop 3) fun be an=>Bq 1 (((p.drop (a.toNat*4)).take 4).drop 1) fun ao ap=>As N 0 (wrap .i64 ((an:Int) - 1)) ao ap false b fun aq=>Ab N aq 6 a 1 12 am fun ar=>Bq 1 (((p.drop (a.toNat*4)).take 4).drop 1) fun au av=>Qs N au av false b fun aw=>Ab N aw 6 a 1 11 ar fun w=>DD (((p.drop (a.toNat*4)).take 4).drop 2) fun ax=>cond (ax==false) (Bq 3 (((p.drop (a.toNat*4)).take 4).drop 3) fun bf ay=>Ab N (cond false true ((ay:Int)==0)) 6 a 3 16 w fun az=>q0 az ((p.drop (a.toNat*4)).take 4)) (Ab N true 6 a 3 16 w fun ba=>q0 ba ((p.drop (a.toNat*4)).take 4))) none) none) none) none)
def Hf:=(Ai fun N c b a q r0=>Jh (R:=R) N r0 (Ht N r0 a b c) c b a q).1
def Sj(c b a q r0):(@Hf R N c b a q r0)=(Jh N r0 (Ht N r0 a b c) c b a q):=by rw[Hf,(Ai _).2]
def Ts:Hints:={H:=hK 6 (hJ [0,2,4,6,7] hL (hK 2 (hS (hK 1 (hS (hP [0,2,4,6,7,8,71,72,73] hL) hL)) (hK 3 (hS (hP [0,2,7,100,101,102] hL) hL))))),nils:=[(8,1)]}
def Wt:Ru:=[Fg N,Dx N,Bm N,c_ N]
def Mk(F:KF R):=J7 Tryz.f161 Ts (Wt N) [100000] N F
def PP(a:Int)(f:LA)(h:Nat)(b:Bool)(K:St->O R):=fun t l u=>K ⟨[(0,.optr 100000 0),(2,iv a),(7,iv 6),(100,.imm f h 3 false b),(101,iv t),(102,iv l)],[(100000,bQ 0 u)]⟩
def PQ(a:Int)(g:LA)(i:Nat)(b:Bool)(j c d:LA)(K:St->O R):=fun m v o r=>K ⟨[(0,.optr 100000 0),(2,iv a),(4,op 0),(6,op 1),(7,iv 6),(8,A6q 2 m),(71,.imm g i 3 false b),(72,iv v),(73,iv o)],[(100000,bQ 0 j),(300000,bP b 0 c),(300001,bP b 0 d),(300002,bQ 1 r)]⟩
def PR(a:Int)(b:Bool)(c:LA)(K:St->O R):=fun s d=>K ⟨[(0,.optr 100000 0),(2,iv a),(4,op 0),(6,op 1),(7,iv 6)],[(100000,bQ 0 s),(300000,bP b 0 c),(300001,bP b 0 d)]⟩
def FS(F:KF R)(a f h b):∀ n,PP a f h b (Au (Mk N F (pz 357913940) []) n)=(Ds N (Ia F) a f h b n):=Gn fun n e=>(B5 (Gs N (Ia F) a f h b) e:_)
def FT(F:KF R)(a g i b j c d):∀ n,PQ a g i b j c d (Au (Mk N F (pz 22369604) []) n)=(Dt N (Ia F) a g i b j c d n):=Gn fun n e=>(KH (Gt N (Ia F) a g i b j c d) e (ld fun f h=>(lW ..).trans (FS ..)):_)
def FU(F:KF R)(a b c):PR a b c (A2 (Mk N F (pz 21845) []))=(Ht N (Ia F) a b c):=(B5 (Ku N (Ia F) a b c) (Ad3 fun g i j d=>(lW ..).trans (FT ..)):_)
def RV:=B9 N 161 (Wt N) Ts (fun
|[.optr 100000 0,.pagg c b,.int .i64 a],[(100000,⟨false,false,true,false,0,q,false,none⟩)]=>some fun _ k=>Hf N c b a q (Ia k)
| _,_=>none) fun _ _=>by split;intro R F;exact(B5 (Jh N (Ia F) · _ _ _ _) ((jW ..).trans (FU ..)):_).trans (Sj ..).symm;trivial
def DV(N:Nat)(r0:Bool->O R)(b:LA)(a:Nat)(d f:Bool)(c:Int)(k0:Int->O R)(g:Int):O R:=(cond (decide (g<(a:Int))) (cond (Ac g a) (Aq .i64 (b.drop (g.toNat*1)) fun h=>cond (h==c) (r0 true) (k0 (wrap .i64 (g+1)))) none) (r0 false))
def Qu(r0:Bool->O R)(b:LA)(a:Nat)(d f:Bool)(c:Int):Nat->Int->O R
|0=>fun _=>none
|n+1=>DV N r0 b a d f c (Qu r0 b a d f c n)
def dB(N:Nat)(r0:Bool->O R)(q0:Int->O R)(b:LA)(a:Nat)(d f:Bool)(c:Int):O R:=(q0 0)
def LG:=(Ai fun N b a d f c r0=>dB (R:=R) N r0 (Qu N r0 b a d f c N) b a d f c).1
def kE(b a d f c r0):(@LG R N b a d f c r0)=(dB N r0 (Qu N r0 b a d f c N) b a d f c):=by rw[LG,(Ai _).2]
def pY:Hints:={H:=hK 1 (hS (hK 1 (hS (hP [0,1,5] hL) hL)) hL)}
def Aef(F:KF R):=J7 Tryz.f163 pY [] [] N F
def Aeg(b:LA)(a:Nat)(d f:Bool)(c:Int)(K:St->O R):=fun g=>K ⟨[(0,.imm b a 1 d f),(1,iv c),(5,iv g)],[]⟩
def sv(F:KF R)(b a d f c):∀ n,Aeg b a d f c (Au (Aef N F (pz 324) []) n)=(Qu N (Cc F) b a d f c n):=Gn fun n e=>(B5 (DV N (Cc F) b a d f c) e:_)
def h_:=B9 N 163 [] pY (fun
|[.imm b a 1 d f,.int .i64 c],[]=>some fun _ k=>LG N b a d f c (Cc k)
| _,_=>none) fun _ _=>by split;intro R F;exact(B5 (dB N (Cc F) · _ _ _ _ _) ((lW ..).trans (sv ..)):_).trans (kE ..).symm;trivial
def My(r0:Nat->LA->O R)(b:Int)(c:Bool)(a:LA)(k0:Nat->Int->LA->O R)(d:Nat)(f:Int)(g:LA):O R:=(Bq 12 (a.drop 3) fun p h=>cond (decide (f<(h:Int))) (Bq 12 (a.drop 3) fun i j=>cond (Ac f j) (Bq 1 ((i.drop (f.toNat*12)).drop 11) fun l m=>LG N l m false c b fun o=>cond (!o) (cond ((ble (d+1) 140737488355328)&&(ble ((d+1)*8) 140737488355328)) (k0 (d+1) (wrap .i64 (f+1)) ((g.take (d*1))++[.int .i64 f])) none) (k0 d (wrap .i64 (f+1)) g)) none) (r0 d g))
def Fh(r0:Nat->LA->O R)(b:Int)(c:Bool)(a:LA):Nat->Nat->Int->LA->O R
|0=>fun _ _ _=>none
|n+1=>My N r0 b c a (Fh r0 b c a n)
def Sk(N:Nat)(r0:Nat->LA->O R)(q0:Nat->Int->LA->O R)(a:LA)(c:Bool)(b:Int):O R:=(q0 0 0 [])
def Px:=(Ai fun N a c b r0=>Sk (R:=R) N r0 (Fh N r0 b c a N) a c b).1
def DW(a c b r0):(@Px R N a c b r0)=(Sk N r0 (Fh N r0 b c a N) a c b):=by rw[Px,(Ai _).2]
def HK:Hints:={H:=hK 2 (hS (hK 1 (hS (hP [1,2,5,6] hL) hL)) hL),nils:=[(4,1),(5,1)],modes:=[(2,1)]}
def OG:Ru:=[h_ N]
def iA(F:KF R):=J7 Tryz.f207 HK (OG N) [] N F
def iB(b:Int)(c:Bool)(a:LA)(K:St->O R):=fun d f g=>K ⟨[(1,iv b),(2,op 0),(5,A6q 1 d),(6,iv f)],hq [bP c 0 a,bQ 1 g]⟩
def WB(F:KF R)(b c a):∀ n,iB b c a (Au (iA N F (pz 1348) []) n)=(Fh N (Cw F) b c a n):=Gn fun n e=>(B5 (My N (Cw F) b c a) e:_)
def mL:=B9 N 207 (OG N) HK (fun
|[.pagg a c,.int .i64 b],[]=>some fun _ k=>Px N a c b (Cw k)
| _,_=>none) fun _ _=>by split;intro R F;exact(B5 (Sk N (Cw F) · _ _ _) ((lW ..).trans (WB ..)):_).trans (DW ..).symm;trivial
def Vy(N:Nat)(r0:Nat->Nat->LA->LA->O R)(b:Nat)(c:Bool)(a d:LA)(k0:Nat->Int->Int->LA->O R)(g:Nat)(i h:Int)(j:LA):O R:=(cond (decide (h<i)) (cond (Ac h b) (Aq .i64 (d.drop (0+(h.toNat*1))) fun l=>Bq 12 (a.drop 3) fun m o=>cond (Ac l o) (Aq .i64 ((m.drop (l.toNat*12)).drop 1) fun p=>Bq 12 (a.drop 3) fun q r=>cond (Ac l r) (Aq .i64 ((q.drop (l.toNat*12)).drop 2) fun s=>cond ((ble (g+1) 140737488355328)&&(ble ((g+1)*16) 140737488355328)) (k0 (g+1) i (wrap .i64 (h+1)) ((j.take (g*2))++[.int .i64 p,.int .i64 s])) none) none) none) none) (r0 g b j d))
def Kv(r0:Nat->Nat->LA->LA->O R)(b:Nat)(c:Bool)(a d:LA):Nat->Nat->Int->Int->LA->O R
|0=>fun _ _ _ _=>none
|n+1=>Vy N r0 b c a d (Kv r0 b c a d n)
def LH(r0:Nat->Nat->LA->LA->O R)(q0:Nat->LA->Nat->Int->Int->LA->O R)(a:LA)(c:Bool)(f:Int):O R:=(cond (ble 8 a.length) (Px N (a.take 8) c f fun b d=>q0 b d 0 (b:Int) 0 []) none)
def HL:=(Ai fun N a c f r0=>LH (R:=R) N r0 (fun b d=>Kv N r0 b c a d N) a c f).1
def XM(a c f r0):(@HL R N a c f r0)=(LH N r0 (fun b d=>Kv N r0 b c a d N) a c f):=by rw[HL,(Ai _).2]
def dC:Hints:={H:=hK 3 (hS (hK 1 (hS (hP [2,6,7,13,14,15] hL) hL)) hL),nils:=[(4,2),(5,1),(7,2)],modes:=[(2,2),(2,1)]}
def kF:Ru:=[mL N]
def xo(F:KF R):=J7 Tryz.f162 dC (kF N) [] N F
def Y8(F:KF R):Nat->Nat->LA->LA->O R:=fun t u v w=>F (.tup [A6q 0 t,A6q 1 u]) (hq [bQ 2 v,bQ 1 w])
def xp(b:Nat)(c:Bool)(a d:LA)(K:St->O R):=fun g i h j=>K ⟨[(2,op 0),(6,A6q 1 b),(7,A6q 2 g),(13,A6q 1 b),(14,iv i),(15,iv h)],hq [bP c 0 a,bQ 1 d,bQ 2 j]⟩
def mM(F:KF R)(b c a d):∀ n,xp b c a d (Au (xo N F (pz 5444) []) n)=(Kv N (Y8 F) b c a d n):=Gn fun n e=>(B5 (Vy N (Y8 F) b c a d) e:_)
def Aa7:=B9 N 162 (kF N) dC (fun
|[.pagg a c,.int .i64 f],[]=>some fun _ k=>HL N a c f (Y8 k)
| _,_=>none) fun _ _=>by split;intro R F;exact(B5 (LH N (Y8 F) · _ _ _) (ld fun b d=>(lW ..).trans (mM ..)):_).trans (XM ..).symm;trivial
def Qb(N:Nat)(k1:Bool->LA->O R)(r0:Nat->LA->O R)(a:LA)(b:Nat)(d c:Bool)(f:Nat)(k2:Bool->Int->Int->LA->O R)(q:Bool)(o h:Int)(i:LA):O R:=(cond (decide (h<o)) (cond (Ac h b) (cond (ble 2 ((a.drop (h.toNat*2)).length)) (cond ((!c)||(A9 ((a.drop (h.toNat*2)).take 2))) (cond ((beq (((a.drop (h.toNat*2)).take 2).length) 2)&&((ble 2 2)&&(!false))) (Aq .i64 (setCells [A6r,A6r] 0 ((a.drop (h.toNat*2)).take 2)) fun z=>cond (Ac z f) (Aq .i64 (i.drop (0+(z.toNat*1))) fun j=>Aq .i64 ((setCells [A6r,A6r] 0 ((a.drop (h.toNat*2)).take 2)).drop 1) fun aa=>cond (Ac aa f) (Aq .i64 (i.drop (0+(aa.toNat*1))) fun l=>cond (q==false) (Aq .i64 (setCells [A6r,A6r] 0 ((a.drop (h.toNat*2)).take 2)) fun ab=>cond (Ac ab f) (Aq .i64 (i.drop (0+(ab.toNat*1))) fun ad=>cond ((cond false true (ad != (Ca j l)))==false) (Aq .i64 ((setCells [A6r,A6r] 0 ((a.drop (h.toNat*2)).take 2)).drop 1) fun ac=>cond (Ac ac f) (Aq .i64 (i.drop (0+(ac.toNat*1))) fun ae=>Aq .i64 (setCells [A6r,A6r] 0 ((a.drop (h.toNat*2)).take 2)) fun r=>Aq .i64 ((setCells [A6r,A6r] 0 ((a.drop (h.toNat*2)).take 2)).drop 1) fun v=>cond (Ac r f) (cond ((beq 1 1)&&((ble ((0+(r.toNat*1))+1) i.length)&&(!false))) (cond (Ac v f) (cond ((beq 1 1)&&((ble ((0+(v.toNat*1))+1) ((i.set (0+(r.toNat*1)) (.int .i64 (Ca j l))).length))&&(!false))) (k2 (cond false true (ae != (Ca j l))) o (wrap .i64 (h+1)) ((i.set (0+(r.toNat*1)) (.int .i64 (Ca j l))).set (0+(v.toNat*1)) (.int .i64 (Ca j l)))) none) none) none) none) none) (Aq .i64 (setCells [A6r,A6r] 0 ((a.drop (h.toNat*2)).take 2)) fun s=>Aq .i64 ((setCells [A6r,A6r] 0 ((a.drop (h.toNat*2)).take 2)).drop 1) fun w=>cond (Ac s f) (cond ((beq 1 1)&&((ble ((0+(s.toNat*1))+1) i.length)&&(!false))) (cond (Ac w f) (cond ((beq 1 1)&&((ble ((0+(w.toNat*1))+1) ((i.set (0+(s.toNat*1)) (.int .i64 (Ca j l))).length))&&(!false))) (k2 true o (wrap .i64 (h+1)) ((i.set (0+(s.toNat*1)) (.int .i64 (Ca j l))).set (0+(w.toNat*1)) (.int .i64 (Ca j l)))) none) none) none) none)) none) (Aq .i64 (setCells [A6r,A6r] 0 ((a.drop (h.toNat*2)).take 2)) fun t=>Aq .i64 ((setCells [A6r,A6r] 0 ((a.drop (h.toNat*2)).take 2)).drop 1) fun x=>cond (Ac t f) (cond ((beq 1 1)&&((ble ((0+(t.toNat*1))+1) i.length)&&(!false))) (cond (Ac x f) (cond ((beq 1 1)&&((ble ((0+(x.toNat*1))+1) ((i.set (0+(t.toNat*1)) (.int .i64 (Ca j l))).length))&&(!false))) (k2 true o (wrap .i64 (h+1)) ((i.set (0+(t.toNat*1)) (.int .i64 (Ca j l))).set (0+(x.toNat*1)) (.int .i64 (Ca j l)))) none) none) none) none)) none) none) none) none) none) none) (k1 q i))
def Hg(k1:Bool->LA->O R)(r0:Nat->LA->O R)(a:LA)(b:Nat)(d c:Bool)(f:Nat):Nat->Bool->Int->Int->LA->O R
|0=>fun _ _ _ _=>none
|n+1=>Qb N k1 r0 a b d c f (Hg k1 r0 a b d c f n)
def Qc(N:Nat)(r0:Nat->LA->O R)(a:LA)(b:Nat)(d c:Bool)(f:Nat)(k1:Bool->LA->O R)(q2:Bool->Int->Int->LA->O R)(y:Bool)(u:LA):O R:=(cond y (q2 false (b:Int) 0 u) (r0 f u))
def C5(r0:Nat->LA->O R)(a:LA)(b:Nat)(d c:Bool)(f:Nat):Nat->Bool->LA->O R
|0=>fun _ _=>none
|n+1=>Qc N r0 a b d c f (C5 r0 a b d c f n) (Hg N (C5 r0 a b d c f n) r0 a b d c f N)
def Qd(N:Nat)(r0:Nat->LA->O R)(g:Int)(a:LA)(b:Nat)(d c:Bool)(k0:Nat->Int->LA->O R)(q1:Nat->Bool->LA->O R)(f:Nat)(m:Int)(p:LA):O R:=(cond (decide (m<g)) (cond (Ac m f) (cond ((beq 1 1)&&((ble ((0+(m.toNat*1))+1) p.length)&&(!false))) (k0 f (wrap .i64 (m+1)) (p.set (0+(m.toNat*1)) (.int .i64 m))) none) none) (q1 f true p))
def Hh(r0:Nat->LA->O R)(g:Int)(a:LA)(b:Nat)(d c:Bool):Nat->Nat->Int->LA->O R
|0=>fun _ _ _=>none
|n+1=>Qd N r0 g a b d c (Hh r0 g a b d c n) (fun f=>C5 N r0 a b d c f N)
def Y9(N:Nat)(r0:Nat->LA->O R)(q0:Nat->Int->LA->O R)(g:Int)(a:LA)(b:Nat)(d c:Bool):O R:=(cond ((decide (0<=g))&&((decide (g<=g))&&((decide (g<=140737488355328))&&(decide ((g*((8:Nat):Int))<=140737488355328))))) (q0 g.toNat 0 (replicate g.toNat A6r)) none)
def Rd:=(Ai fun N g a b d c r0=>Y9 (R:=R) N r0 (Hh N r0 g a b d c N) g a b d c).1
def OH(g a b d c r0):(@Rd R N g a b d c r0)=(Y9 N r0 (Hh N r0 g a b d c N) g a b d c):=by rw[Rd,(Ai _).2]
def RW:Hints:={H:=hK 2 (hS (hK 1 (hS (hP [0,1,5,6] hL) hL)) (hS (hK 1 (hS (hP [1,5,7] (hK 1 (hS (hK 2 (hS (hP [1,5,7,23,24,25] hL) hL)) hL))) hL)) hL)),nils:=[(4,1)],modes:=[(2,1)]}
def BK(F:KF R):=J7 Tryz.f209 RW [] [] N F
def pZ(a:LA)(b:Nat)(d c:Bool)(f:Nat)(K:St->O R):=fun q o h i=>K ⟨[(1,.imm a b 2 d c),(5,A6q 0 f),(7,.bool q),(23,.imm a b 2 d c),(24,iv o),(25,iv h)],hq [bQ 1 i]⟩
def BL(a:LA)(b:Nat)(d c:Bool)(f:Nat)(K:St->O R):=fun y u=>K ⟨[(1,.imm a b 2 d c),(5,A6q 0 f),(7,.bool y)],hq [bQ 1 u]⟩
def p8(g:Int)(a:LA)(b:Nat)(d c:Bool)(K:St->O R):=fun f m p=>K ⟨[(0,iv g),(1,.imm a b 2 d c),(5,A6q 0 f),(6,iv m)],hq [bQ 1 p]⟩
def dD Q1 (F:KF R) (a b d c f):∀ n,pZ a b d c f (Au (BK N F (pz 22298900) [Q1]) n)=(Hg N (BL a b d c f Q1) (Cw F) a b d c f n):=Gn fun n e=>(B5 (Qb N (BL a b d c f Q1) (Cw F) a b d c f) e:_)
def dE(F:KF R)(a b d c f):∀ n,BL a b d c f (Au (BK N F (pz 5444) []) n)=(C5 N (Cw F) a b d c f n):=Gn fun n e=>(KH (Qc N (Cw F) a b d c f) e ((lW ..).trans ((dD ..).trans (ot (Hg _ · _ _ _ _ _ _ _) e))):_)
def dF(F:KF R)(g a b d c):∀ n,p8 g a b d c (Au (BK N F (pz 1348) []) n)=(Hh N (Cw F) g a b d c n):=Gn fun n e=>(KH (Qd N (Cw F) g a b d c) e (Aan fun f=>(lW ..).trans (dE ..)):_)
def sx:=B9 N 209 [] RW (fun
|[.int .i64 g,.imm a b 2 d c],[]=>some fun _ k=>Rd N g a b d c (Cw k)
| _,_=>none) fun _ _=>by split;intro R F;exact(B5 (Y9 N (Cw F) · _ _ _ _ _) ((lW ..).trans (dF ..)):_).trans (OH ..).symm;trivial
def Vz(N:Nat)(r0:Int->O R)(b:LA)(a:Nat)(c d:Bool)(k0:Int->Int->O R)(g f:Int):O R:=(cond (decide (f<(a:Int))) (cond (Ac f a) (Aq .i64 (b.drop (f.toNat*1)) fun h=>cond (h==f) (k0 (wrap .i64 (g+1)) (wrap .i64 (f+1))) (k0 g (wrap .i64 (f+1)))) none) (r0 g))
def Kw(r0:Int->O R)(b:LA)(a:Nat)(c d:Bool):Nat->Int->Int->O R
|0=>fun _ _=>none
|n+1=>Vz N r0 b a c d (Kw r0 b a c d n)
def LI(N:Nat)(r0:Int->O R)(q0:Int->Int->O R)(b:LA)(a:Nat)(c d:Bool):O R:=(q0 0 0)
def Z8:=(Ai fun N b a c d r0=>LI (R:=R) N r0 (Kw N r0 b a c d N) b a c d).1
def XN(b a c d r0):(@Z8 R N b a c d r0)=(LI N r0 (Kw N r0 b a c d N) b a c d):=by rw[Z8,(Ai _).2]
def dG:Hints:={H:=hK 2 (hS (hK 1 (hS (hP [0,3,4] hL) hL)) hL)}
def xq(F:KF R):=J7 Tryz.f208 dG [] [] N F
def xt(b:LA)(a:Nat)(c d:Bool)(K:St->O R):=fun g f=>K ⟨[(0,.imm b a 1 c d),(3,iv g),(4,iv f)],[]⟩
def mN(F:KF R)(b a c d):∀ n,xt b a c d (Au (xq N F (pz 1348) []) n)=(Kw N (Ha F) b a c d n):=Gn fun n e=>(B5 (Vz N (Ha F) b a c d) e:_)
def Aa8:=B9 N 208 [] dG (fun
|[.imm b a 1 c d],[]=>some fun _ k=>Z8 N b a c d (Ha k)
| _,_=>none) fun _ _=>by split;intro R F;exact(B5 (LI N (Ha F) · _ _ _ _) ((lW ..).trans (mN ..)):_).trans (XN ..).symm;trivial
def Mz(r0:Bool->O R)(c:Int)(a:LA)(b:Nat)(i d:Bool)(f:LA)(g:Nat)(j h:Bool)(k0:Nat->Int->LA->O R)(m:Nat)(l:Int)(o:LA):O R:=(cond (decide (l<(b:Int))) (LG N f g false h l fun r=>cond (!r) (cond (Ac l b) (cond (ble 2 ((a.drop (l.toNat*2)).length)) (cond ((!d)||(A9 ((a.drop (l.toNat*2)).take 2))) (cond ((beq (((a.drop (l.toNat*2)).take 2).length) 2)&&(ble 2 2)) (cond ((ble (m+1) 140737488355328)&&(ble ((m+1)*16) 140737488355328)) (k0 (m+1) (wrap .i64 (l+1)) ((o.take (m*2))++((setCells [A6r,A6r] 0 ((a.drop (l.toNat*2)).take 2)).take 2))) none) none) none) none) none) (k0 m (wrap .i64 (l+1)) o)) (Rd N c (o.take (m*2)) m false true fun p s=>Z8 N (s.take (p*1)) p false true fun t=>Rd N c a b false d fun q u=>Z8 N (u.take (q*1)) q false true fun v=>r0 (decide (t>v))))
def Fi(r0:Bool->O R)(c:Int)(a:LA)(b:Nat)(i d:Bool)(f:LA)(g:Nat)(j h:Bool):Nat->Nat->Int->LA->O R
|0=>fun _ _ _=>none
|n+1=>Mz N r0 c a b i d f g j h (Fi r0 c a b i d f g j h n)
def Sm(N:Nat)(r0:Bool->O R)(q0:Nat->Int->LA->O R)(c:Int)(a:LA)(b:Nat)(i d:Bool)(f:LA)(g:Nat)(j h:Bool):O R:=(q0 0 0 [])
def Py:=(Ai fun N c a b i d f g j h r0=>Sm (R:=R) N r0 (Fi N r0 c a b i d f g j h N) c a b i d f g j h).1
def DX(c a b i d f g j h r0):(@Py R N c a b i d f g j h r0)=(Sm N r0 (Fi N r0 c a b i d f g j h N) c a b i d f g j h):=by rw[Py,(Ai _).2]
def HM:Hints:={H:=hK 2 (hS (hK 1 (hS (hP [0,1,2,7,8] hL) hL)) hL),nils:=[(7,2)]}
def OI:Ru:=[h_ N,sx N,Aa8 N]
def iC(F:KF R):=J7 Tryz.f164 HM (OI N) [] N F
def iD(c:Int)(a:LA)(b:Nat)(i d:Bool)(f:LA)(g:Nat)(j h:Bool)(K:St->O R):=fun m l o=>K ⟨[(0,iv c),(1,.imm a b 2 i d),(2,.imm f g 1 j h),(7,A6q 0 m),(8,iv l)],hq [bQ 2 o]⟩
def WC(F:KF R)(c a b i d f g j h):∀ n,iD c a b i d f g j h (Au (iC N F (pz 1348) []) n)=(Fi N (Cc F) c a b i d f g j h n):=Gn fun n e=>(B5 (Mz N (Cc F) c a b i d f g j h) e:_)
def mO:=B9 N 164 (OI N) HM (fun
|[.int .i64 c,.imm a b 2 i d,.imm f g 1 j h],[]=>some fun _ k=>Py N c a b i d f g j h (Cc k)
| _,_=>none) fun _ _=>by split;intro R F;exact(B5 (Sm N (Cc F) · _ _ _ _ _ _ _ _ _) ((lW ..).trans (WC ..)):_).trans (DX ..).symm;trivial
def Sn(k0:Int->LA->O R)(r0:LA->Int->O R)(b:Bool)(a:LA)(i:Int)(aj:LA):O R:=(cond (ble 8 a.length) (Co N (a.take 8) b 1 i aj fun ak=>cond (ble 8 a.length) (Bq 3 (a.drop 2) fun al am=>cond (Ac i am) (Bq 1 ((al.drop (i.toNat*3)).drop 1) fun an ao=>C4 N (a.take 8) b an ao false b 0 1048576 1 i 1 ak fun ap=>Bq 3 (a.drop 2) fun aq ar=>cond (Ac i ar) (Aq .i64 ((aq.drop (i.toNat*3)).drop 2) fun au=>As N 0 1048576 [.int .i64 au] 1 false true fun av=>Ab N av 1 i 2 3 ap fun aw=>k0 (wrap .i64 (i+1)) aw) none) none) none) none)
def So(k7:Int->LA->O R)(k9:Int->Int->LA->O R)(r0:LA->Int->O R)(c d:Nat)(b:Bool)(a f g:LA)(k10:Int->Int->Nat->Int->LA->LA->O R)(o l:Int)(j:Nat)(m:Int)(w x:LA):O R:=(cond (decide (m<(d:Int))) (Bq 4 (a.drop 7) fun ax ay=>cond (Ac l ay) (Bq 1 ((ax.drop (l.toNat*4)).drop 1) fun az ba=>cond (Ac m d) (Aq .i64 (g.drop (0+(m.toNat*1))) fun bb=>LG N az ba false b bb fun bc=>cond bc (cond ((ble (j+1) 140737488355328)&&(ble ((j+1)*8) 140737488355328)) (k10 o l (j+1) (wrap .i64 (m+1)) w ((x.take (j*1))++[.int .i64 m])) none) (k10 o l j (wrap .i64 (m+1)) w x)) none) none) (Bq 3 (a.drop 2) fun ce bd=>Py N (bd:Int) (f.take (c*2)) c false true (x.take (j*1)) j false true fun be=>Ab N (!be) 6 l o 13 w fun bf=>k9 o (wrap .i64 (l+1)) bf))
def I0(k7:Int->LA->O R)(k9:Int->Int->LA->O R)(r0:LA->Int->O R)(c d:Nat)(b:Bool)(a f g:LA):Nat->Int->Int->Nat->Int->LA->LA->O R
|0=>fun _ _ _ _ _ _=>none
|n+1=>So N k7 k9 r0 c d b a f g (I0 k7 k9 r0 c d b a f g n)
def V0(N:Nat)(k7:Int->LA->O R)(r0:LA->Int->O R)(c d:Nat)(b:Bool)(a f g:LA)(k9:Int->Int->LA->O R)(q10:Int->Int->Nat->Int->LA->LA->O R)(ae af:Int)(ag:LA):O R:=(Bq 4 (a.drop 7) fun cf bg=>cond (decide (af<(bg:Int))) (q10 ae af 0 0 ag []) (k7 (wrap .i64 (ae+1)) ag))
def Ig(k7:Int->LA->O R)(r0:LA->Int->O R)(c d:Nat)(b:Bool)(a f g:LA):Nat->Int->Int->LA->O R
|0=>fun _ _ _=>none
|n+1=>V0 N k7 r0 c d b a f g (Ig k7 r0 c d b a f g n) (I0 N k7 (Ig k7 r0 c d b a f g n) r0 c d b a f g N)
def FV(k7:Int->LA->O R)(r0:LA->Int->O R)(b:Bool)(a:LA)(q9:Nat->Nat->LA->LA->Int->Int->LA->O R)(p:Int)(y:LA):O R:=(cond (ble 8 a.length) (HL N (a.take 8) b p fun c d f g=>q9 c d f g p 0 y) none)
def Za(k7:Int->LA->O R)(r0:LA->Int->O R)(b:Bool)(a:LA)(p:Int)(y:LA):O R:=FV N k7 r0 b a (fun c d f g=>Ig N k7 r0 c d b a f g N) p y
def Pz(N:Nat)(r0:LA->Int->O R)(b:Bool)(a:LA)(k7:Int->LA->O R)(q8:Int->LA->O R)(ah:Int)(h:LA):O R:=(Aq .i64 a fun bh=>cond ((decide (ah<bh))==true) (Aq .i64 (h.drop 3) fun bi=>cond (cond true (bi==0) false) (q8 ah h) (cond (ble 3 h.length) (Aq .i64 (h.drop 3) fun bj=>cond ((beq ((h.take 3).length) 3)&&((ble 3 3)&&(!false))) (cond (ble 3 ((setCells [A6r,A6r,A6r] 0 (h.take 3)).length)) (r0 ((setCells [A6r,A6r,A6r] 0 (h.take 3)).take 3) bj) none) none) none)) (cond (ble 3 h.length) (Aq .i64 (h.drop 3) fun bk=>cond ((beq ((h.take 3).length) 3)&&((ble 3 3)&&(!false))) (cond (ble 3 ((setCells [A6r,A6r,A6r] 0 (h.take 3)).length)) (r0 ((setCells [A6r,A6r,A6r] 0 (h.take 3)).take 3) bk) none) none) none))
def D0(r0:LA->Int->O R)(b:Bool)(a:LA):Nat->Int->LA->O R
|0=>fun _ _=>none
|n+1=>Pz N r0 b a (D0 r0 b a n) (Za N (D0 r0 b a n) r0 b a)
def V1(r0:LA->Int->O R)(b:Bool)(a:LA)(k6:Int->LA->O R)(q7:Int->LA->O R)(z:Int)(q:LA):O R:=(Bq 4 (a.drop 7) fun cg bl=>cond ((decide (z<(bl:Int)))==true) (Aq .i64 (q.drop 3) fun bm=>cond (cond true (bm==0) false) (cond (ble 8 a.length) (Hf N (a.take 8) b z q fun bn=>k6 (wrap .i64 (z+1)) bn) none) (q7 0 q)) (q7 0 q))
def Kx(r0:LA->Int->O R)(b:Bool)(a:LA):Nat->Int->LA->O R
|0=>fun _ _=>none
|n+1=>V1 N r0 b a (Kx r0 b a n) (D0 N r0 b a N)
def V3(r0:LA->Int->O R)(b:Bool)(a:LA)(k5:Int->LA->O R)(q6:Int->LA->O R)(aa:Int)(r:LA):O R:=(Bq 5 (a.drop 6) fun ch bo=>cond ((decide (aa<(bo:Int)))==true) (Aq .i64 (r.drop 3) fun bp=>cond (cond true (bp==0) false) (cond (ble 8 a.length) (Qa N (a.take 8) b aa r fun bq=>k5 (wrap .i64 (aa+1)) bq) none) (q6 0 r)) (q6 0 r))
def Ky(r0:LA->Int->O R)(b:Bool)(a:LA):Nat->Int->LA->O R
|0=>fun _ _=>none
|n+1=>V3 N r0 b a (Ky r0 b a n) (Kx N r0 b a N)
def V4(r0:LA->Int->O R)(b:Bool)(a:LA)(k4:Int->LA->O R)(q5:Int->LA->O R)(ab:Int)(s:LA):O R:=(Bq 9 (a.drop 5) fun ci br=>cond ((decide (ab<(br:Int)))==true) (Aq .i64 (s.drop 3) fun bs=>cond (cond true (bs==0) false) (cond (ble 8 a.length) (Mx N (a.take 8) b ab s fun bt=>k4 (wrap .i64 (ab+1)) bt) none) (q5 0 s)) (q5 0 s))
def Kz(r0:LA->Int->O R)(b:Bool)(a:LA):Nat->Int->LA->O R
|0=>fun _ _=>none
|n+1=>V4 N r0 b a (Kz r0 b a n) (Ky N r0 b a N)
def V5(r0:LA->Int->O R)(b:Bool)(a:LA)(k3:Int->LA->O R)(q4:Int->LA->O R)(ac:Int)(t:LA):O R:=(Bq 22 (a.drop 4) fun cj bu=>cond ((decide (ac<(bu:Int)))==true) (Aq .i64 (t.drop 3) fun bv=>cond (cond true (bv==0) false) (cond (ble 8 a.length) (Jt N (a.take 8) b ac t fun bw=>k3 (wrap .i64 (ac+1)) bw) none) (q4 0 t)) (q4 0 t))
def K0(r0:LA->Int->O R)(b:Bool)(a:LA):Nat->Int->LA->O R
|0=>fun _ _=>none
|n+1=>V5 N r0 b a (K0 r0 b a n) (Kz N r0 b a N)
def V6(r0:LA->Int->O R)(b:Bool)(a:LA)(k2:Int->LA->O R)(q3:Int->LA->O R)(ad:Int)(u:LA):O R:=(Bq 12 (a.drop 3) fun ck bx=>cond ((decide (ad<(bx:Int)))==true) (Aq .i64 (u.drop 3) fun bz=>cond (cond true (bz==0) false) (cond (ble 8 a.length) (Jr N (a.take 8) b ad u fun ca=>k2 (wrap .i64 (ad+1)) ca) none) (q3 0 u)) (q3 0 u))
def K3(r0:LA->Int->O R)(b:Bool)(a:LA):Nat->Int->LA->O R
|0=>fun _ _=>none
|n+1=>V6 N r0 b a (K3 r0 b a n) (K0 N r0 b a N)
def V7(N:Nat)(r0:LA->Int->O R)(b:Bool)(a:LA)(k0:Int->LA->O R)(q1:Int->LA->O R)(q2:Int->LA->O R)(ai:Int)(v:LA):O R:=(Bq 3 (a.drop 2) fun cl cb=>cond ((decide (ai<(cb:Int)))==true) (Aq .i64 (v.drop 3) fun cc=>cond (cond true (cc==0) false) (q1 ai v) (q2 0 v)) (q2 0 v))
def Ih(r0:LA->Int->O R)(b:Bool)(a:LA):Nat->Int->LA->O R
|0=>fun _ _=>none
|n+1=>V7 N r0 b a (Ih r0 b a n) (Sn N (Ih r0 b a n) r0 b a) (K3 N r0 b a N)
def LJ(r0:LA->Int->O R)(q0:Int->LA->O R)(a:LA)(b:Bool):O R:=(cond (ble 8 a.length) (Ic N (a.take 8) b [A6r,A6r,A6r,A6r] fun cd=>q0 0 cd) none)
def HN:=(Ai fun N a b r0=>LJ (R:=R) N r0 (Ih N r0 b a N) a b).1
def XO(a b r0):(@HN R N a b r0)=(LJ N r0 (Ih N r0 b a N) a b):=by rw[HN,(Ai _).2]
def dH:Hints:={H:=hK 3 (hS (hK 1 (hS (hP [1,2,4,5] (hJ [1,2,4,5] hL hL)) hL)) (hS (hK 1 (hS (hP [1,2,4,6] hL) hL)) (hS (hK 1 (hS (hP [1,2,4,7] hL) hL)) (hS (hK 1 (hS (hP [1,2,4,8] hL) hL)) (hS (hK 1 (hS (hP [1,2,4,9] hL) hL)) (hS (hK 1 (hS (hP [1,2,4,10] hL) hL)) (hS (hK 1 (hS (hP [1,2,4,11] (hJ [1,2,4,11] hL (hS (hS (hK 2 (hS (hP [1,2,4,11,12,13,14] (hK 1 (hS (hS (hK 1 (hS (hK 1 (hS (hP [1,2,4,11,12,13,14,15,16] hL) hL)) hL)) hL) hL))) hL)) hL) hL))) hL)) hL))))))),nils:=[(15,1)],modes:=[(3,0),(0,0)]}
def kG:Ru:=[VT N,Fg N,No N,Dx N,Bm N,ZS N,ZT N,WA N,dA N,RV N,Aa7 N,h_ N,mO N]
def Er(F:KF R):=J7 Tryz.f95 dH (kG N) [] N F
def xu(b:Bool)(a:LA)(K:St->O R):=fun i aj=>K ⟨[(1,op 0),(2,op 1),(4,op 2),(5,iv i)],hq [bP b 0 a,bQ 0 [iv 0,iv 0,iv 0],bQ 0 aj]⟩
def sy(c d:Nat)(b:Bool)(a f g:LA)(K:St->O R):=fun o l j m w x=>K ⟨[(1,op 0),(2,op 1),(4,op 2),(11,iv o),(12,A6q 3 c),(13,A6q 4 d),(14,iv l),(15,A6q 5 j),(16,iv m)],hq [bP b 0 a,bQ 0 [iv 0,iv 0,iv 0],bQ 0 w,bQ 2 f,bQ 1 g,bQ 1 x]⟩
def LK(c d:Nat)(b:Bool)(a f g:LA)(K:St->O R):=fun ae af ag=>K ⟨[(1,op 0),(2,op 1),(4,op 2),(11,iv ae),(12,A6q 3 c),(13,A6q 4 d),(14,iv af)],hq [bP b 0 a,bQ 0 [iv 0,iv 0,iv 0],bQ 0 ag,bQ 2 f,bQ 1 g]⟩
def xv(b:Bool)(a:LA)(K:St->O R):=fun p y=>K ⟨[(1,op 0),(2,op 1),(4,op 2),(11,iv p)],hq [bP b 0 a,bQ 0 [iv 0,iv 0,iv 0],bQ 0 y]⟩
def K4(b:Bool)(a:LA)(K:St->O R):=fun ah h=>K ⟨[(1,op 0),(2,op 1),(4,op 2),(11,iv ah)],hq [bP b 0 a,bQ 0 [iv 0,iv 0,iv 0],bQ 0 h]⟩
def xw(b:Bool)(a:LA)(K:St->O R):=fun z q=>K ⟨[(1,op 0),(2,op 1),(4,op 2),(10,iv z)],hq [bP b 0 a,bQ 0 [iv 0,iv 0,iv 0],bQ 0 q]⟩
def xx(b:Bool)(a:LA)(K:St->O R):=fun aa r=>K ⟨[(1,op 0),(2,op 1),(4,op 2),(9,iv aa)],hq [bP b 0 a,bQ 0 [iv 0,iv 0,iv 0],bQ 0 r]⟩
def xy(b:Bool)(a:LA)(K:St->O R):=fun ab s=>K ⟨[(1,op 0),(2,op 1),(4,op 2),(8,iv ab)],hq [bP b 0 a,bQ 0 [iv 0,iv 0,iv 0],bQ 0 s]⟩
def xz(b:Bool)(a:LA)(K:St->O R):=fun ac t=>K ⟨[(1,op 0),(2,op 1),(4,op 2),(7,iv ac)],hq [bP b 0 a,bQ 0 [iv 0,iv 0,iv 0],bQ 0 t]⟩
def yA(b:Bool)(a:LA)(K:St->O R):=fun ad u=>K ⟨[(1,op 0),(2,op 1),(4,op 2),(6,iv ad)],hq [bP b 0 a,bQ 0 [iv 0,iv 0,iv 0],bQ 0 u]⟩
def dI(b:Bool)(a:LA)(K:St->O R):=fun ai v=>K ⟨[(1,op 0),(2,op 1),(4,op 2),(5,iv ai)],hq [bP b 0 a,bQ 0 [iv 0,iv 0,iv 0],bQ 0 v]⟩
def mP Q0 (F:KF R) (b a):xu b a (A2 (Er N F (pz 87105) [Q0]))=(Sn N (dI b a Q0) (Mp F) b a):=by kernel_rfl
def iE(Q7 Q9)(F:KF R)(c d b a f g):∀ n,sy c d b a f g (Au (Er N F (pz 24019179469541444) [Q7,Q9]) n)=(I0 N (K4 b a Q7) (LK c d b a f g Q9) (Mp F) c d b a f g n):=Gn fun n e=>(B5 (So N (K4 b a Q7) (LK c d b a f g Q9) (Mp F) c d b a f g) e:_)
def mQ Q7 (F:KF R) (c d b a f g):∀ n,LK c d b a f g (Au (Er N F (pz 366503592980) [Q7]) n)=(Ig N (K4 b a Q7) (Mp F) c d b a f g n):=Gn fun n e=>(KH (V0 N (K4 b a Q7) (Mp F) c d b a f g) e ((lW ..).trans ((iE ..).trans (ot (I0 _ _ · _ _ _ _ _ _ _ _) e))):_)
def mR Q7 (F:KF R) (b a):xv b a (A2 (Er N F (pz 357913665) [Q7]))=(Za N (K4 b a Q7) (Mp F) b a):=(B5 (FV N (K4 b a Q7) (Mp F) b a) (Ad3 fun c d f g=>(lW ..).trans (mQ ..)):_)
def mS(F:KF R)(b a):∀ n,K4 b a (Au (Er N F (pz 22369604) []) n)=(D0 N (Mp F) b a n):=Gn fun n e=>(KH (Pz N (Mp F) b a) e ((jW ..).trans ((mR ..).trans (ot (Za _ · _ _ _) e))):_)
def mT(F:KF R)(b a):∀ n,xw b a (Au (Er N F (pz 5592388) []) n)=(Kx N (Mp F) b a n):=Gn fun n e=>(KH (V1 N (Mp F) b a) e ((lW ..).trans (mS ..)):_)
def mU(F:KF R)(b a):∀ n,xx b a (Au (Er N F (pz 1398084) []) n)=(Ky N (Mp F) b a n):=Gn fun n e=>(KH (V3 N (Mp F) b a) e ((lW ..).trans (mT ..)):_)
def mV(F:KF R)(b a):∀ n,xy b a (Au (Er N F (pz 349508) []) n)=(Kz N (Mp F) b a n):=Gn fun n e=>(KH (V4 N (Mp F) b a) e ((lW ..).trans (mU ..)):_)
def mW(F:KF R)(b a):∀ n,xz b a (Au (Er N F (pz 87364) []) n)=(K0 N (Mp F) b a n):=Gn fun n e=>(KH (V5 N (Mp F) b a) e ((lW ..).trans (mV ..)):_)
def mX(F:KF R)(b a):∀ n,yA b a (Au (Er N F (pz 21828) []) n)=(K3 N (Mp F) b a n):=Gn fun n e=>(KH (V6 N (Mp F) b a) e ((lW ..).trans (mW ..)):_)
def mY(F:KF R)(b a):∀ n,dI b a (Au (Er N F (pz 5444) []) n)=(Ih N (Mp F) b a n):=Gn fun n e=>(Auu (V7 N (Mp F) b a) e ((jW ..).trans ((mP ..).trans (ot (Sn _ · _ _ _) e))) ((lW ..).trans (mX ..)):_)
def Aa9:=B9 N 95 (kG N) dH (fun
|[.pagg a b],[]=>some fun _ k=>HN N a b (Mp k)
| _,_=>none) fun _ _=>by split;intro R F;exact(B5 (LJ N (Mp F) · _ _) ((lW ..).trans (mY ..)):_).trans (XO ..).symm;trivial
def LL(k2:Int->Int->Nat->LA->O R)(r0:LA->O R)(l:Int)(a:LA)(b:Nat)(c:Bool)(h:Int)(d f:Nat)(g i:LA)(au av:Int)(w:Nat)(aw:LA):O R:=(Ag N l a b false c av fun ba bo=>Ag N (wrap .i64 (l - 1)) a b false c bo fun bp bq=>cond (l==0) none (Sd N (w:Int) ba (Int.tmod (wrap .i64 ((wrap .i64 (ba+1))+bp)) l) h a b false c bq fun bb br=>cond ((beq bb.length 12)&&(ble 12 12)) (cond ((ble (w+1) 140737488355328)&&(ble ((w+1)*120) 140737488355328)) (k2 (wrap .i64 (au - 1)) br (w+1) ((aw.take (w*12))++((setCells [.str ([]:Lu),A6r,A6r,A6r,A6r,A6r,A6r,A6r,A6r,A6r,A6r,.nsl] 0 bb).take 12))) none) none))
def LM(k7:Int->Int->Nat->LA->O R)(r0:LA->O R)(a:LA)(b:Nat)(c:Bool)(h:Int)(d f m j q s:Nat)(g i o p r t:LA)(aj ax:Int)(u:Nat)(aa:LA):O R:=(Nn N (u:Int) (m:Int) (j:Int) a b false c ax fun ab bc=>cond ((beq 0 0)&&((beq ab.length 4)&&(beq 4 4))) (cond ((ble (0+u) 140737488355328)&&(ble ((0+u)*72) 140737488355328)) (cond (ble 4 ab.length) (cond ((beq ((ab.take 4).length) 4)&&(ble 4 4)) (cond ((ble ((0+u)+1) 140737488355328)&&(ble (((0+u)+1)*72) 140737488355328)) (HN N [.int .i64 h,.imm (g.take (d*1)) d 1 false true,.imm (i.take (f*3)) f 3 false true,.imm (o.take (m*12)) m 12 false true,.imm (p.take (j*22)) j 22 false true,.imm (r.take (q*9)) q 9 false true,.imm (t.take (s*5)) s 5 false true,.imm (take (((0+u)+1)*4) (((aa.take (u*4)).take ((0+u)*4))++((setCells [.str ([]:Lu),.nsl,.bool false,.nsl] 0 (ab.take 4)).take 4))) ((0+u)+1) 4 false true] true fun bs bt=>cond ((beq bs.length 3)&&((ble 3 3)&&(!false))) (cond (bt==0) (k7 (wrap .i64 (aj - 1)) bc ((0+u)+1) (((aa.take (u*4)).take ((0+u)*4))++((setCells [.str ([]:Lu),.nsl,.bool false,.nsl] 0 (ab.take 4)).take 4))) (k7 (wrap .i64 (aj - 1)) bc u aa)) none) none) none) none) none) none)
def Wu(N:Nat)(r0:LA->O R)(a:LA)(b:Nat)(c:Bool)(h:Int)(d f m j q s:Nat)(g i o p r t:LA)(k7:Int->Int->Nat->LA->O R)(q8:Int->Int->Nat->LA->O R)(ak ay:Int)(x:Nat)(ac:LA):O R:=(cond ((decide (ak>0))==true) (cond (cond true (decide ((m:Int)>0)) false) (q8 ak ay x ac) (r0 [.int .i64 h,.imm (g.take (d*1)) d 1 false false,.imm (i.take (f*3)) f 3 false false,.imm (o.take (m*12)) m 12 false false,.imm (p.take (j*22)) j 22 false false,.imm (r.take (q*9)) q 9 false false,.imm (t.take (s*5)) s 5 false false,.imm (ac.take (x*4)) x 4 false false])) (r0 [.int .i64 h,.imm (g.take (d*1)) d 1 false false,.imm (i.take (f*3)) f 3 false false,.imm (o.take (m*12)) m 12 false false,.imm (p.take (j*22)) j 22 false false,.imm (r.take (q*9)) q 9 false false,.imm (t.take (s*5)) s 5 false false,.imm (ac.take (x*4)) x 4 false false]))
def Hi(r0:LA->O R)(a:LA)(b:Nat)(c:Bool)(h:Int)(d f m j q s:Nat)(g i o p r t:LA):Nat->Int->Int->Nat->LA->O R
|0=>fun _ _ _ _=>none
|n+1=>Wu N r0 a b c h d f m j q s g i o p r t (Hi r0 a b c h d f m j q s g i o p r t n) (LM N (Hi r0 a b c h d f m j q s g i o p r t n) r0 a b c h d f m j q s g i o p r t)
def RX(r0:LA->O R)(a:LA)(b:Nat)(c:Bool)(h:Int)(d f m j q:Nat)(g i o p r:LA)(q7:Nat->LA->Int->Int->Nat->LA->O R)(ad:Int)(s:Nat)(t:LA):O R:=(Ag N 4 a b false c ad fun bu bv=>q7 s t bu bv 0 [])
def LN(r0:LA->O R)(a:LA)(b:Nat)(c:Bool)(h:Int)(d f m j q:Nat)(g i o p r:LA)(ad:Int)(s:Nat)(t:LA):O R:=RX N r0 a b c h d f m j q g i o p r (fun s t=>Hi N r0 a b c h d f m j q s g i o p r t N) ad s t
def DY(r0:LA->O R)(l:Int)(a:LA)(b:Nat)(c:Bool)(h:Int)(d f m j:Nat)(g i o p:LA)(q6:Nat->LA->Int->Nat->LA->O R)(ae:Int)(q:Nat)(r:LA):O R:=(Ag N 3 a b false c ae fun bw bd=>cond (bw==2) (Ag N l a b false c bd fun bx bz=>Fq N h 12 a b false c bz fun be ca cb=>Fq N h 12 a b false c ca fun bf cc cd=>Fq N h 40 a b false c cc fun bg ce cf=>q6 q r ce 1 [.str ([116,48]:Lu),.int .i64 bx,.imm (cb.take (be*1)) be 1 false false,.imm (cd.take (bf*1)) bf 1 false false,.imm (cf.take (bg*1)) bg 1 false false]) (q6 q r bd 0 []))
def BM(r0:LA->O R)(l:Int)(a:LA)(b:Nat)(c:Bool)(h:Int)(d f m j:Nat)(g i o p:LA)(ae:Int)(q:Nat)(r:LA):O R:=DY N r0 l a b c h d f m j g i o p (fun q r=>LN N r0 a b c h d f m j q g i o p r) ae q r
def Wv(r0:LA->O R)(l:Int)(a:LA)(b:Nat)(c:Bool)(h:Int)(d f:Nat)(g i:LA)(k4:Int->Int->Nat->Nat->LA->LA->O R)(q5:Nat->Nat->LA->LA->Int->Nat->LA->O R)(al am:Int)(m j:Nat)(o p:LA):O R:=(cond (decide (al>0)) (Se N (j:Int) l h a b false c am fun bh cg=>cond ((beq bh.length 22)&&(ble 22 22)) (cond ((ble (j+1) 140737488355328)&&(ble ((j+1)*216) 140737488355328)) (k4 (wrap .i64 (al - 1)) cg m (j+1) o ((p.take (j*22))++((setCells [.str ([]:Lu),A6r,A6r,A6r,.nsl,A6r,A6r,A6r,A6r,A6r,A6r,A6r,A6r,A6r,A6r,A6r,A6r,A6r,.nsl,A6r,A6r,A6r] 0 bh).take 22))) none) none) (Ag N 3 a b false c am fun ch bi=>cond (ch==2) (Ag N l a b false c bi fun ci cj=>Ag N 20 a b false c cj fun az ck=>Ag N 8 a b false c ck fun cl cm=>Ag N 8 a b false c cm fun cn co=>Ag N 4 a b false c co fun cp cq=>Ag N (wrap .i64 (az+1)) a b false c cq fun cr cs=>Ag N (wrap .i64 (az+1)) a b false c cs fun ct cu=>q5 m j o p cu 1 [.str ([115,48]:Lu),.int .i64 ci,.int .i64 az,.int .i64 cr,.int .i64 ct,.int .i64 cl,.int .i64 cn,.int .i64 (wrap .i64 (1+cp)),.int .i64 4]) (q5 m j o p bi 0 [])))
def Nu(r0:LA->O R)(l:Int)(a:LA)(b:Nat)(c:Bool)(h:Int)(d f:Nat)(g i:LA):Nat->Int->Int->Nat->Nat->LA->LA->O R
|0=>fun _ _ _ _ _ _=>none
|n+1=>Wv N r0 l a b c h d f g i (Nu r0 l a b c h d f g i n) (fun m j o p=>BM N r0 l a b c h d f m j g i o p)
def Ww(r0:LA->O R)(l:Int)(a:LA)(b:Nat)(c:Bool)(h:Int)(d f:Nat)(g i:LA)(k2:Int->Int->Nat->LA->O R)(q3:Int->Int->Nat->LA->O R)(q4:Int->Int->Nat->Nat->LA->LA->O R)(an af:Int)(ag:Nat)(ah:LA):O R:=(cond ((decide (an>0))==true) (cond (cond true (decide (l>1)) false) (q3 an af ag ah) (Ag N 3 a b false c af fun cv cw=>q4 (wrap .i64 (1+cv)) cw ag 0 ah [])) (Ag N 3 a b false c af fun cx cy=>q4 (wrap .i64 (1+cx)) cy ag 0 ah []))
def Nv(r0:LA->O R)(l:Int)(a:LA)(b:Nat)(c:Bool)(h:Int)(d f:Nat)(g i:LA):Nat->Int->Int->Nat->LA->O R
|0=>fun _ _ _ _=>none
|n+1=>Ww N r0 l a b c h d f g i (Nv r0 l a b c h d f g i n) (LL N (Nv r0 l a b c h d f g i n) r0 l a b c h d f g i) (Nu N r0 l a b c h d f g i N)
def DZ(r0:LA->O R)(a:LA)(b:Nat)(c:Bool)(h:Int)(d f:Nat)(g i:LA)(k1:Int->Int->Int->Nat->LA->O R)(q2:Int->Int->Int->Nat->LA->O R)(l z ao:Int)(v:Nat)(ap:LA):O R:=(cond (decide (z<l)) (Ag N z a b false c ao fun cz da=>Sd N (v:Int) cz z h a b false c da fun bj db=>cond ((beq bj.length 12)&&(ble 12 12)) (cond ((ble (v+1) 140737488355328)&&(ble ((v+1)*120) 140737488355328)) (k1 l (wrap .i64 (z+1)) db (v+1) ((ap.take (v*12))++((setCells [.str ([]:Lu),A6r,A6r,A6r,A6r,A6r,A6r,A6r,A6r,A6r,A6r,.nsl] 0 bj).take 12))) none) none) (Ag N 5 a b false c ao fun dc dd=>q2 l dc dd v ap))
def Uw(r0:LA->O R)(a:LA)(b:Nat)(c:Bool)(h:Int)(d f:Nat)(g i:LA):Nat->Int->Int->Int->Nat->LA->O R
|0=>fun _ _ _ _ _=>none
|n+1=>DZ N r0 a b c h d f g i (Uw r0 a b c h d f g i n) (fun l=>Nv N r0 l a b c h d f g i N)
def Wx(r0:LA->O R)(a:LA)(b:Nat)(c:Bool)(d:Nat)(g:LA)(k0:Int->Int->Int->Nat->LA->O R)(q1:Int->Nat->LA->Int->Int->Int->Nat->LA->O R)(ai aq h:Int)(f:Nat)(i:LA):O R:=(cond (decide (ai>0)) (KV N ([98]:Lu) (f:Int) fun bk=>Fq N h 14 a b false c aq fun ar de bl=>Ag N 2 a b false c de fun df bm=>cond (df==1) (Ag N 200 a b false c bm fun dg dh=>cond ((ble (f+1) 140737488355328)&&(ble ((f+1)*48) 140737488355328)) (k0 (wrap .i64 (ai - 1)) dh h (f+1) ((i.take (f*3))++[.str bk,.imm (bl.take (ar*1)) ar 1 false false,.int .i64 (wrap .i64 (100+dg))])) none) (cond ((ble (f+1) 140737488355328)&&(ble ((f+1)*48) 140737488355328)) (k0 (wrap .i64 (ai - 1)) bm h (f+1) ((i.take (f*3))++[.str bk,.imm (bl.take (ar*1)) ar 1 false false,A6r])) none)) (q1 h f i (f:Int) 1 aq 0 []))
def K5(r0:LA->O R)(a:LA)(b:Nat)(c:Bool)(d:Nat)(g:LA):Nat->Int->Int->Int->Nat->LA->O R
|0=>fun _ _ _ _ _=>none
|n+1=>Wx N r0 a b c d g (K5 r0 a b c d g n) (fun h f i=>Uw N r0 a b c h d f g i N)
def dJ(r0:LA->O R)(q0:Nat->LA->Int->Int->Int->Nat->LA->O R)(a:LA)(b:Nat)(y c:Bool):O R:=(Aea N a b false c (Ag N 3 a b false c 0 fun bn di=>Fq N (wrap .i64 (1+bn)) 5 a b false c di fun d dj g=>Ag N 4 a b false c dj fun dk dl=>q0 d g (wrap .i64 (1+dk)) dl (wrap .i64 (1+bn)) 0 []))
def dK:=(Ai fun N a b y c r0=>dJ (R:=R) N r0 (fun d g=>K5 N r0 a b c d g N) a b y c).1
def kH(a b y c r0):(@dK R N a b y c r0)=(dJ N r0 (fun d g=>K5 N r0 a b c d g N) a b y c):=by rw[dK,(Ai _).2]
def p9:Hints:={H:=hK 4 (hS (hK 1 (hS (hP [2,3,4,5] hL) hL)) (hK 1 (hS (hK 1 (hS (hP [2,3,4,7,8] hL) hL)) (hS (hK 1 (hS (hP [2,3,4,7,9] (hJ [2,3,4,7,9] hL hL)) hL)) (hS (hK 1 (hS (hP [2,3,4,7,11] hL) hL)) (hJ [2,3,4,7] hL (hJ [2,3,4] hL (hS (hK 1 (hS (hP [2,3,4,13] (hJ [2,3,4,13] hL hL)) hL)) hL)))))))),modes:=[(3,0)],cob:=[23,44,192]}
def ur:Ru:=[Alo N,Jp N,mC N,UW N,pR N,pS N,gz N,Aa9 N]
def K6(F:KF R):=J7 Tryz.f40 p9 (ur N) [] N F
def Aeh(l:Int)(a:LA)(b:Nat)(c:Bool)(h:Int)(d f:Nat)(g i:LA)(K:St->O R):=fun au av w aw=>K ⟨[(2,op 0),(3,op 1),(4,op 2),(7,iv l),(9,iv au)],hq [bN 0 [iv 0,.nsl,.nsl,.nsl,.nsl,.nsl,.nsl,.nsl],bN 0 [.imm a b 1 false c,iv av],bN 0 [iv h,A6q 3 d,A6q 4 f,A6q 5 w,A6q 6 0,A6q 7 0,A6q 8 0,A6q 9 0],bQ 1 g,bQ 3 i,bQ 12 aw,bQ 22 [],bQ 9 [],bQ 5 [],bQ 4 []]⟩
def Aei(a:LA)(b:Nat)(c:Bool)(h:Int)(d f m j q s:Nat)(g i o p r t:LA)(K:St->O R):=fun aj ax u aa=>K ⟨[(2,op 0),(3,op 1),(4,op 2),(13,iv aj)],hq [bN 0 [iv 0,.nsl,.nsl,.nsl,.nsl,.nsl,.nsl,.nsl],bN 0 [.imm a b 1 false c,iv ax],bN 0 [iv h,A6q 3 d,A6q 4 f,A6q 5 m,A6q 6 j,A6q 7 q,A6q 8 s,A6q 9 u],bQ 1 g,bQ 3 i,bQ 12 o,bQ 22 p,bQ 9 r,bQ 5 t,bQ 4 aa]⟩
def p_(a:LA)(b:Nat)(c:Bool)(h:Int)(d f m j q s:Nat)(g i o p r t:LA)(K:St->O R):=fun ak ay x ac=>K ⟨[(2,op 0),(3,op 1),(4,op 2),(13,iv ak)],hq [bN 0 [iv 0,.nsl,.nsl,.nsl,.nsl,.nsl,.nsl,.nsl],bN 0 [.imm a b 1 false c,iv ay],bN 0 [iv h,A6q 3 d,A6q 4 f,A6q 5 m,A6q 6 j,A6q 7 q,A6q 8 s,A6q 9 x],bQ 1 g,bQ 3 i,bQ 12 o,bQ 22 p,bQ 9 r,bQ 5 t,bQ 4 ac]⟩
def Aej(a:LA)(b:Nat)(c:Bool)(h:Int)(d f m j q:Nat)(g i o p r:LA)(K:St->O R):=fun ad s t=>K ⟨[(2,op 0),(3,op 1),(4,op 2)],hq [bN 0 [iv 0,.nsl,.nsl,.nsl,.nsl,.nsl,.nsl,.nsl],bN 0 [.imm a b 1 false c,iv ad],bN 0 [iv h,A6q 3 d,A6q 4 f,A6q 5 m,A6q 6 j,A6q 7 q,A6q 8 s,A6q 9 0],bQ 1 g,bQ 3 i,bQ 12 o,bQ 22 p,bQ 9 r,bQ 5 t,bQ 4 []]⟩
def Aek(l:Int)(a:LA)(b:Nat)(c:Bool)(h:Int)(d f m j:Nat)(g i o p:LA)(K:St->O R):=fun ae q r=>K ⟨[(2,op 0),(3,op 1),(4,op 2),(7,iv l)],hq [bN 0 [iv 0,.nsl,.nsl,.nsl,.nsl,.nsl,.nsl,.nsl],bN 0 [.imm a b 1 false c,iv ae],bN 0 [iv h,A6q 3 d,A6q 4 f,A6q 5 m,A6q 6 j,A6q 7 q,A6q 8 0,A6q 9 0],bQ 1 g,bQ 3 i,bQ 12 o,bQ 22 p,bQ 9 r,bQ 5 [],bQ 4 []]⟩
def Ael(l:Int)(a:LA)(b:Nat)(c:Bool)(h:Int)(d f:Nat)(g i:LA)(K:St->O R):=fun al am m j o p=>K ⟨[(2,op 0),(3,op 1),(4,op 2),(7,iv l),(11,iv al)],hq [bN 0 [iv 0,.nsl,.nsl,.nsl,.nsl,.nsl,.nsl,.nsl],bN 0 [.imm a b 1 false c,iv am],bN 0 [iv h,A6q 3 d,A6q 4 f,A6q 5 m,A6q 6 j,A6q 7 0,A6q 8 0,A6q 9 0],bQ 1 g,bQ 3 i,bQ 12 o,bQ 22 p,bQ 9 [],bQ 5 [],bQ 4 []]⟩
def pd(l:Int)(a:LA)(b:Nat)(c:Bool)(h:Int)(d f:Nat)(g i:LA)(K:St->O R):=fun an af ag ah=>K ⟨[(2,op 0),(3,op 1),(4,op 2),(7,iv l),(9,iv an)],hq [bN 0 [iv 0,.nsl,.nsl,.nsl,.nsl,.nsl,.nsl,.nsl],bN 0 [.imm a b 1 false c,iv af],bN 0 [iv h,A6q 3 d,A6q 4 f,A6q 5 ag,A6q 6 0,A6q 7 0,A6q 8 0,A6q 9 0],bQ 1 g,bQ 3 i,bQ 12 ah,bQ 22 [],bQ 9 [],bQ 5 [],bQ 4 []]⟩
def Aem(a:LA)(b:Nat)(c:Bool)(h:Int)(d f:Nat)(g i:LA)(K:St->O R):=fun l z ao v ap=>K ⟨[(2,op 0),(3,op 1),(4,op 2),(7,iv l),(8,iv z)],hq [bN 0 [iv 0,.nsl,.nsl,.nsl,.nsl,.nsl,.nsl,.nsl],bN 0 [.imm a b 1 false c,iv ao],bN 0 [iv h,A6q 3 d,A6q 4 f,A6q 5 v,A6q 6 0,A6q 7 0,A6q 8 0,A6q 9 0],bQ 1 g,bQ 3 i,bQ 12 ap,bQ 22 [],bQ 9 [],bQ 5 [],bQ 4 []]⟩
def Aen(a:LA)(b:Nat)(c:Bool)(d:Nat)(g:LA)(K:St->O R):=fun ai aq h f i=>K ⟨[(2,op 0),(3,op 1),(4,op 2),(5,iv ai)],hq [bN 0 [iv 0,.nsl,.nsl,.nsl,.nsl,.nsl,.nsl,.nsl],bN 0 [.imm a b 1 false c,iv aq],bN 0 [iv h,A6q 3 d,A6q 4 f,A6q 5 0,A6q 6 0,A6q 7 0,A6q 8 0,A6q 9 0],bQ 1 g,bQ 3 i,bQ 12 [],bQ 22 [],bQ 9 [],bQ 5 [],bQ 4 []]⟩
def tA Q2 (F:KF R) (l a b c h d f g i):Aeh l a b c h d f g i (A2 (K6 N F (pz 22369345) [Q2]))=(LL N (pd l a b c h d f g i Q2) (Cl F) l a b c h d f g i):=by kernel_rfl
def tB Q7 (F:KF R) (a b c h d f m j q s g i o p r t):Aei a b c h d f m j q s g i o p r t (A2 (K6 N F (pz 5726622785) [Q7]))=(LM N (p_ a b c h d f m j q s g i o p r t Q7) (Cl F) a b c h d f m j q s g i o p r t):=by kernel_rfl
def tC(F:KF R)(a b c h d f m j q s g i o p r t):∀ n,p_ a b c h d f m j q s g i o p r t (Au (K6 N F (pz 357913924) []) n)=(Hi N (Cl F) a b c h d f m j q s g i o p r t n):=Gn fun n e=>(KH (Wu N (Cl F) a b c h d f m j q s g i o p r t) e ((jW ..).trans ((tB ..).trans (ot (LM _ · _ _ _ _ _ _ _ _ _ _ _ _ _ _ _ _ _) e))):_)
def tD(F:KF R)(a b c h d f m j q g i o p r):Aej a b c h d f m j q g i o p r (A2 (K6 N F (pz 5592405) []))=(LN N (Cl F) a b c h d f m j q g i o p r):=(B5 (RX N (Cl F) a b c h d f m j q g i o p r) (ld fun s t=>(lW ..).trans (tC ..)):_)
def tF(F:KF R)(l a b c h d f m j g i o p):Aek l a b c h d f m j g i o p (A2 (K6 N F (pz 1398101) []))=(BM N (Cl F) l a b c h d f m j g i o p):=(B5 (DY N (Cl F) l a b c h d f m j g i o p) (ld fun q r=>(jW ..).trans (tD ..)):_)
def tG(F:KF R)(l a b c h d f g i):∀ n,Ael l a b c h d f g i (Au (K6 N F (pz 5592388) []) n)=(Nu N (Cl F) l a b c h d f g i n):=Gn fun n e=>(KH (Wv N (Cl F) l a b c h d f g i) e (Ad3 fun m j o p=>(jW ..).trans (tF ..)):_)
def tH(F:KF R)(l a b c h d f g i):∀ n,pd l a b c h d f g i (Au (K6 N F (pz 1398084) []) n)=(Nv N (Cl F) l a b c h d f g i n):=Gn fun n e=>(Auu (Ww N (Cl F) l a b c h d f g i) e ((jW ..).trans ((tA ..).trans (ot (LL _ · _ _ _ _ _ _ _ _ _ _) e))) ((lW ..).trans (tG ..)):_)
def tI(F:KF R)(a b c h d f g i):∀ n,Aem a b c h d f g i (Au (K6 N F (pz 349508) []) n)=(Uw N (Cl F) a b c h d f g i n):=Gn fun n e=>(KH (DZ N (Cl F) a b c h d f g i) e (Aan fun l=>(lW ..).trans (tH ..)):_)
def tJ(F:KF R)(a b c d g):∀ n,Aen a b c d g (Au (K6 N F (pz 21828) []) n)=(K5 N (Cl F) a b c d g n):=Gn fun n e=>(KH (Wx N (Cl F) a b c d g) e (Aqx fun h f i=>(lW ..).trans (tI ..)):_)
def Aih:=B9 N 40 (ur N) p9 (fun
|[.imm a b 1 y c],[]=>some fun _ k=>dK N a b y c (Cl k)
| _,_=>none) fun _ _=>by split;intro R F;exact(B5 (dJ N (Cl F) · _ _ _ _) (ld fun d g=>(lW ..).trans (tJ ..)):_).trans (kH ..).symm;trivial
def pf(b:LA)(c:Nat)(f d:Bool)(r0:LA->Int->O R):O R:=(dK N b c false d fun e=>cond ((beq 0 0)&&((beq e.length 8)&&(beq 8 8))) (Bq 22 (e.drop 4) fun a g=>cond (Ac 0 g) (cond (ble 22 a.length) (Aq .i64 e fun h=>cond ((beq 0 0)&&((beq ((a.take 22).length) 22)&&(beq 22 22))) (cond (ble 22 ((a.take 22).length)) (r0 ((a.take 22).take 22) h) none) none) none) none) none)
def nV:=(Ai (@pf R)).1
def kI:@nV R=@pf R:=(Ai _).2
def Aii:=B9 N 12 [Aih N] { H:=hL,modes:=[(3,0),(0,0)] } (fun
|[.imm b c 1 f d],[]=>some fun _ k=>nV N b c f d (Mp k)
| _,_=>none) fun _ _=>by split;intro R F;dsimp only;rw[kI];kernel_rfl;trivial
def ZU(N:Nat)(b a:Int)(r0:Int->O R):O R:=(cond (a==0) none (cond (a==0) none (r0 (Int.tmod (wrap .i64 ((Int.tmod b a)+a)) a))))
def Mb:=(Ai (@ZU R)).1
def XP:@Mb R=@ZU R:=(Ai _).2
def RY:=B9 N 27 [] Eh (fun
|[.int .i64 b,.int .i64 a],[]=>some fun _ k=>Mb N b a (Ha k)
| _,_=>none) fun _ _=>by split;intro R F;dsimp only;rw[XP];kernel_rfl;trivial
def Sp(N:Nat)(r0:Bool->O R)(b c:Int)(d:LA)(a:Nat)(f g:Bool)(k0:Int->Int->O R)(i h:Int):O R:=(cond (decide (h<i)) (cond (Ac h a) (Aq .i64 (d.drop (h.toNat*1)) fun j=>cond ((decide (j<b))==false) (cond (cond false true (decide (j>c))) (r0 false) (k0 i (wrap .i64 (h+1)))) (r0 false)) none) (r0 true))
def I3(r0:Bool->O R)(b c:Int)(d:LA)(a:Nat)(f g:Bool):Nat->Int->Int->O R
|0=>fun _ _=>none
|n+1=>Sp N r0 b c d a f g (I3 r0 b c d a f g n)
def D_(N:Nat)(r0:Bool->O R)(q0:Int->Int->O R)(b c:Int)(d:LA)(a:Nat)(f g:Bool):O R:=(q0 (a:Int) 0)
def Dg:=(Ai fun N b c d a f g r0=>D_ (R:=R) N r0 (I3 N r0 b c d a f g N) b c d a f g).1
def RZ(b c d a f g r0):(@Dg R N b c d a f g r0)=(D_ N r0 (I3 N r0 b c d a f g N) b c d a f g):=by rw[Dg,(Ai _).2]
def XQ:Hints:={H:=hK 1 (hS (hK 1 (hS (hP [0,1,9,10,11] hL) hL)) hL)}
def tK(F:KF R):=J7 Tryz.f103 XQ [] [] N F
def tL(b c:Int)(d:LA)(a:Nat)(f g:Bool)(K:St->O R):=fun i h=>K ⟨[(0,iv b),(1,iv c),(9,.imm d a 1 f g),(10,iv i),(11,iv h)],[]⟩
def iF(F:KF R)(b c d a f g):∀ n,tL b c d a f g (Au (tK N F (pz 324) []) n)=(I3 N (Cc F) b c d a f g n):=Gn fun n e=>(B5 (Sp N (Cc F) b c d a f g) e:_)
def LO:=B9 N 103 [] XQ (fun
|[.int .i64 b,.int .i64 c,.imm d a 1 f g],[]=>some fun _ k=>Dg N b c d a f g (Cc k)
| _,_=>none) fun _ _=>by split;intro R F;exact(B5 (D_ N (Cc F) · _ _ _ _ _ _) ((lW ..).trans (iF ..)):_).trans (RZ ..).symm;trivial
def M0(r0:Nat->Nat->LA->LA->O R)(c:Int)(a b:Nat)(d:LA)(k0:Nat->Int->Int->Int->Int->LA->LA->O R)(s:Nat)(h g t f:Int)(r u:LA):O R:=(cond (decide (f<t)) (cond ((decide (0<=(wrap .i64 ((wrap .i64 (g - 1)) - f))))&&((decide ((wrap .i64 ((wrap .i64 (g - 1)) - f))<=(wrap .i64 ((wrap .i64 ((wrap .i64 ((wrap .i64 (g - 1)) - f))+h))+1))))&&((decide ((wrap .i64 ((wrap .i64 ((wrap .i64 ((wrap .i64 (g - 1)) - f))+h))+1))<=(b:Int)))&&(decide ((b:Int)<=(b:Int)))))) (Oy N (0+(((wrap .i64 ((wrap .i64 (g - 1)) - f)).toNat)*1)) (((wrap .i64 ((wrap .i64 ((wrap .i64 ((wrap .i64 (g - 1)) - f))+h))+1)).toNat) - ((wrap .i64 ((wrap .i64 (g - 1)) - f)).toNat)) (d.take (a*1)) a false true u fun w x=>cond (Ac (wrap .i64 ((wrap .i64 (g - 1)) - f)) s) (cond ((beq 1 1)&&((ble ((0+(((wrap .i64 ((wrap .i64 (g - 1)) - f)).toNat)*1))+1) r.length)&&(!false))) (k0 s h g t (wrap .i64 (f+1)) (r.set (0+(((wrap .i64 ((wrap .i64 (g - 1)) - f)).toNat)*1)) (.int .u32 w)) x) none) none) none) (cond ((decide ((0:Int)<=(0:Int)))&&((decide (0<=h))&&((decide (h<=(b:Int)))&&(decide ((b:Int)<=(b:Int)))))) (Pv N (u.take (h.toNat*1)) h.toNat false true c fun y ad z=>AT N s r fun aa=>r0 aa y r z) none))
def Ea(r0:Nat->Nat->LA->LA->O R)(c:Int)(a b:Nat)(d:LA):Nat->Nat->Int->Int->Int->Int->LA->LA->O R
|0=>fun _ _ _ _ _ _ _=>none
|n+1=>M0 N r0 c a b d (Ea r0 c a b d n)
def Ss(r0:Nat->Nat->LA->LA->O R)(q0:Int->Nat->LA->Nat->Int->Int->Int->Int->LA->LA->O R)(j:LA)(l:Nat)(p m:Bool)(i:LA)(a:Nat)(q o:Bool):O R:=(cond (Ac (wrap .i64 ((a:Int) - 1)) a) (Aq .u32 (i.drop (((wrap .i64 ((a:Int) - 1)).toNat)*1)) fun ab=>Cn N ab fun c=>Ul N i a false o c fun v d=>cond ((decide ((0:Int)<=(0:Int)))&&((decide (0<=(a:Int)))&&((decide ((a:Int)<=(v:Int)))&&(decide ((v:Int)<=(v:Int)))))) (Ul N j l false m c fun b ac=>cond ((decide (0<=(wrap .i64 ((b:Int) - (a:Int)))))&&((decide ((wrap .i64 ((b:Int) - (a:Int)))<=(wrap .i64 ((b:Int) - (a:Int)))))&&((decide ((wrap .i64 ((b:Int) - (a:Int)))<=140737488355328))&&(decide (((wrap .i64 ((b:Int) - (a:Int)))*((4:Nat):Int))<=140737488355328))))) (q0 c b d ((wrap .i64 ((b:Int) - (a:Int))).toNat) (a:Int) (wrap .i64 ((b:Int) - (a:Int))) (wrap .i64 ((b:Int) - (a:Int))) 0 (replicate ((wrap .i64 ((b:Int) - (a:Int))).toNat) (.int .u32 0)) ac) none) none) none)
def Mc:=(Ai fun N j l p m i a q o r0=>Ss (R:=R) N r0 (fun c b d=>Ea N r0 c a b d N) j l p m i a q o).1
def EA(j l p m i a q o r0):(@Mc R N j l p m i a q o r0)=(Ss N r0 (fun c b d=>Ea N r0 c a b d N) j l p m i a q o):=by rw[Mc,(Ai _).2]
def HO:Hints:={H:=hK 7 (hS (hK 1 (hS (hP [4,6,7,8,9,10,35,36] hL) hL)) hL),nils:=[(4,1),(5,1)],modes:=[(2,1),(2,1)]}
def OJ:Ru:=[Nl N,xb N,pL N,mA N,cH N]
def iG(F:KF R):=J7 Tryz.f228 HO (OJ N) [] N F
def iH(c:Int)(a b:Nat)(d:LA)(K:St->O R):=fun s h g t f r u=>K ⟨[(4,A6q 0 s),(6,iv h),(7,iv c),(8,A6q 1 a),(9,A6q 2 b),(10,iv g),(35,iv t),(36,iv f)],hq [bQ 1 r,bQ 1 d,bQ 1 u]⟩
def WD(F:KF R)(c a b d):∀ n,iH c a b d (Au (iG N F (pz 1398084) []) n)=(Ea N (jt F) c a b d n):=Gn fun n e=>(B5 (M0 N (jt F) c a b d) e:_)
def mZ:=B9 N 228 (OJ N) HO (fun
|[.imm j l 1 p m,.imm i a 1 q o],[]=>some fun _ k=>Mc N j l p m i a q o (jt k)
| _,_=>none) fun _ _=>by split;intro R F;exact(B5 (Ss N (jt F) · _ _ _ _ _ _ _ _) (Aqx fun c b d=>(lW ..).trans (WD ..)):_).trans (EA ..).symm;trivial
def ZV(h:LA)(i:Nat)(j a:Bool)(l:LA)(m:Nat)(n b:Bool)(r0:Nat->Nat->Bool->LA->LA->O R):O R:=(Cy N h i j a fun e c=>Cy N l m n b fun f d=>cond ((d:Int)==0) (r0 0 0 false [] []) (Ek N e c false a f d false b fun p=>cond (decide (p<0)) (DJ N e c false a fun q r=>r0 0 q true [] r) (cond (decide ((c:Int)<=2)) (R6 N e c false a fun o=>R6 N f d false b fun g=>cond (g==0) none (Bx N (wrap .u64 (Int.tdiv o g)) fun s t=>cond (g==0) none (Bx N (Int.tmod o g) fun u v=>r0 s u true t v))) (cond ((d:Int)==1) (cond (Ac 0 d) (Aq .u32 f fun w=>H4 N e c false a w fun x y z aa=>r0 x y true z aa) none) (Mc N e c false a f d false b fun ab ac ad ae=>r0 ab ac true ad ae)))))
def F6:=(Ai (@ZV R)).1
def XR:@F6 R=@ZV R:=(Ai _).2
def kJ:=B9 N 184 [Nj N,Ln N,UV N,gf N,H3 N,cS N,mZ N] { H:=hL,nils:=[(4,1),(5,1)],modes:=[(2,1),(2,1),(0,0)] } (fun
|[.imm h i 1 j a,.imm l m 1 n b],[]=>some fun _ k=>F6 N h i j a l m n b (ju k)
| _,_=>none) fun _ _=>by split;intro R F;dsimp only;rw[XR];kernel_rfl;trivial
def BN(r0:Nat->Bool->LA->O R)(f:LA)(d:Nat)(b:Bool)(a:Nat)(g:LA)(c:Bool)(k0:Int->Int->Int->LA->O R)(r s h:Int)(i:LA):O R:=(cond (decide (h<s)) (cond (Ac h a) (Aq .u32 (g.drop (h.toNat*1)) fun t=>cond (decide (h<(d:Int))) (cond (Ac h d) (Aq .u32 (f.drop (h.toNat*1)) fun u=>cond (Ac h a) (cond ((beq 1 1)&&((ble ((0+(h.toNat*1))+1) i.length)&&(!false))) (k0 (Int.fdiv (wrap .u64 ((wrap .u64 ((wrap .u64 t) - r)) - (wrap .u64 u))) (2 ^ 63)) s (wrap .i64 (h+1)) (i.set (0+(h.toNat*1)) (.int .u32 (wrap .u32 (wrap .u64 ((wrap .u64 ((wrap .u64 t) - r)) - (wrap .u64 u))))))) none) none) none) (cond (Ac h a) (cond ((beq 1 1)&&((ble ((0+(h.toNat*1))+1) i.length)&&(!false))) (k0 (Int.fdiv (wrap .u64 ((wrap .u64 t) - r)) (2 ^ 63)) s (wrap .i64 (h+1)) (i.set (0+(h.toNat*1)) (.int .u32 (wrap .u32 (wrap .u64 ((wrap .u64 t) - r)))))) none) none)) none) (AT N a i fun v=>r0 v true i))
def Rf(r0:Nat->Bool->LA->O R)(f:LA)(d:Nat)(b:Bool)(a:Nat)(g:LA)(c:Bool):Nat->Int->Int->Int->LA->O R
|0=>fun _ _ _ _=>none
|n+1=>BN N r0 f d b a g c (Rf r0 f d b a g c n)
def dL(r0:Nat->Bool->LA->O R)(q0:LA->Nat->Nat->LA->Int->Int->Int->LA->O R)(j:LA)(l:Nat)(m c:Bool)(o:LA)(p:Nat)(q b:Bool):O R:=(Cy N j l m c fun g a=>Cy N o p q b fun f d=>Ek N g a false c f d false b fun w=>cond (decide (w<0)) (r0 0 false []) (cond ((decide (0<=(a:Int)))&&((decide ((a:Int)<=(a:Int)))&&((decide ((a:Int)<=140737488355328))&&(decide (((a:Int)*((4:Nat):Int))<=140737488355328))))) (q0 f d a g 0 (a:Int) 0 (replicate a (.int .u32 0))) none))
def R_:=(Ai fun N j l m c o p q b r0=>dL (R:=R) N r0 (fun f d a g=>Rf N r0 f d b a g c N) j l m c o p q b).1
def ZW(j l m c o p q b r0):(@R_ R N j l m c o p q b r0)=(dL N r0 (fun f d a g=>Rf N r0 f d b a g c N) j l m c o p q b):=by rw[R_,(Ai _).2]
def uv:Hints:={H:=hK 5 (hS (hK 1 (hS (hP [1,6,7,22,23,24] hL) hL)) hL),nils:=[(4,1)],modes:=[(2,1),(0,0)]}
def Aba:Ru:=[Gr N,Ln N]
def Aij(F:KF R):=J7 Tryz.f186 uv (Aba N) [] N F
def Aik(f:LA)(d:Nat)(b:Bool)(a:Nat)(g:LA)(c:Bool)(K:St->O R):=fun r s h i=>K ⟨[(1,.imm f d 1 false b),(6,A6q 0 a),(7,.int .u64 r),(22,.imm g a 1 false c),(23,iv s),(24,iv h)],hq [bQ 1 i]⟩
def yB(F:KF R)(f d b a g c):∀ n,Aik f d b a g c (Au (Aij N F (pz 87364) []) n)=(Rf N (g_ F) f d b a g c n):=Gn fun n e=>(B5 (BN N (g_ F) f d b a g c) e:_)
def Abb:=B9 N 186 (Aba N) uv (fun
|[.imm j l 1 m c,.imm o p 1 q b],[]=>some fun _ k=>R_ N j l m c o p q b (g_ k)
| _,_=>none) fun _ _=>by split;intro R F;exact(B5 (dL N (g_ F) · _ _ _ _ _ _ _ _) (Ad3 fun f d a g=>(lW ..).trans (yB ..)):_).trans (ZW ..).symm;trivial
def SA(a:LA)(b:Nat)(i c:Bool)(d:Int)(e:LA)(f:Nat)(j g:Bool)(h:Int)(r0:Nat->LA->O R):O R:=(Bx N d fun l p=>KT N a b false c (p.take (l*1)) l false true fun m q=>Bx N h fun n r=>KT N e f false g (r.take (n*1)) n false true fun o s=>R_ N (q.take (m*1)) m false true (s.take (o*1)) o false true fun t v u=>r0 t u)
def Hj:=(Ai (@SA R)).1
def SB:@Hj R=@SA R:=(Ai _).2
def yC:=B9 N 226 [H3 N,cP N,Abb N] { H:=hL,nils:=[(8,1)],modes:=[(2,1)] } (fun
|[.imm a b 1 i c,.int .u64 d,.imm e f 1 j g,.int .u64 h],[]=>some fun _ k=>Hj N a b i c d e f j g h (Cw k)
| _,_=>none) fun _ _=>by split;intro R F;dsimp only;rw[SB];kernel_rfl;trivial
def LP(k1:LA->Nat->Bool->LA->Nat->Bool->O R)(r0:Nat->LA->O R)(k2:Int->Int->O R)(z s:Int):O R:=(cond (s != 0) (cond (s==0) none (k2 s (Int.tmod z s))) (Bx N z fun aj ak=>r0 aj ak))
def Rg(k1:LA->Nat->Bool->LA->Nat->Bool->O R)(r0:Nat->LA->O R):Nat->Int->Int->O R
|0=>fun _ _=>none
|n+1=>LP N k1 r0 (Rg k1 r0 n)
def BO(r0:Nat->LA->O R)(k1:LA->Nat->Bool->LA->Nat->Bool->O R)(q2:Int->Int->O R)(g:LA)(a:Nat)(h:Bool)(i:LA)(b:Nat)(j:Bool):O R:=(cond (decide ((b:Int)>0)) (cond (decide ((a:Int)<=2)) (R6 N g a false h fun al=>R6 N i b false j fun am=>q2 al am) (BA N g a false h i b false j fun c=>cond ((beq c.length 5)&&((ble 5 5)&&(!false))) (Aq .u64 ((setCells [.int .u64 0,.int .u64 0,.int .u64 0,.int .u64 0,.bool false] 0 c).drop 2) fun an=>cond (an==0) (F6 N g a false h i b false j fun bh ae bi bj ao=>k1 i b j (ao.take (ae*1)) ae false) (DD ((setCells [.int .u64 0,.int .u64 0,.int .u64 0,.int .u64 0,.bool false] 0 c).drop 4) fun ap=>cond ap (Aq .u64 (setCells [.int .u64 0,.int .u64 0,.int .u64 0,.int .u64 0,.bool false] 0 c) fun aq=>Aq .u64 ((setCells [.int .u64 0,.int .u64 0,.int .u64 0,.int .u64 0,.bool false] 0 c).drop 2) fun ar=>Hj N g a false h aq i b false j ar fun af au=>Aq .u64 ((setCells [.int .u64 0,.int .u64 0,.int .u64 0,.int .u64 0,.bool false] 0 c).drop 3) fun av=>Aq .u64 ((setCells [.int .u64 0,.int .u64 0,.int .u64 0,.int .u64 0,.bool false] 0 c).drop 1) fun aw=>Hj N i b false j av g a false h aw fun ag ax=>k1 (au.take (af*1)) af false (ax.take (ag*1)) ag false) (Aq .u64 ((setCells [.int .u64 0,.int .u64 0,.int .u64 0,.int .u64 0,.bool false] 0 c).drop 2) fun ay=>Aq .u64 (setCells [.int .u64 0,.int .u64 0,.int .u64 0,.int .u64 0,.bool false] 0 c) fun az=>Hj N i b false j ay g a false h az fun ah ba=>Aq .u64 ((setCells [.int .u64 0,.int .u64 0,.int .u64 0,.int .u64 0,.bool false] 0 c).drop 1) fun bb=>Aq .u64 ((setCells [.int .u64 0,.int .u64 0,.int .u64 0,.int .u64 0,.bool false] 0 c).drop 3) fun bc=>Hj N g a false h bb i b false j bc fun ai bd=>k1 (ba.take (ah*1)) ah false (bd.take (ai*1)) ai false))) none)) (DJ N g a false h fun be bf=>r0 be bf))
def Fj(r0:Nat->LA->O R):Nat->LA->Nat->Bool->LA->Nat->Bool->O R
|0=>fun _ _ _ _ _ _=>none
|n+1=>BO N r0 (Fj r0 n) (Rg N (Fj r0 n) r0 N)
def ZX(N:Nat)(r0:Nat->LA->O R)(q1:LA->Nat->Bool->LA->Nat->Bool->O R)(t:LA)(u:Nat)(v:Bool)(w:LA)(x:Nat)(y:Bool):O R:=(q1 t u v w x y)
def UY(r0:Nat->LA->O R)(t:LA)(u:Nat)(v:Bool)(w:LA)(x:Nat)(y:Bool):O R:=ZX N r0 (Fj N r0 N) t u v w x y
def nW(r0:Nat->LA->O R)(q0:LA->Nat->Bool->LA->Nat->Bool->O R)(l:LA)(m:Nat)(o d:Bool)(p:LA)(q:Nat)(r f:Bool):O R:=(Cy N l m o d fun aa ab=>Cy N p q r f fun ac ad=>Ek N aa ab false d ac ad false f fun bg=>cond (decide (bg<0)) (q0 ac ad f aa ab d) (q0 aa ab d ac ad f))
def ZY:=(Ai fun N l m o d p q r f r0=>nW (R:=R) N r0 (UY N r0) l m o d p q r f).1
def pg(l m o d p q r f r0):(@ZY R N l m o d p q r f r0)=(nW N r0 (UY N r0) l m o d p q r f):=by rw[ZY,(Ai _).2]
def uw:Hints:={H:=hK 2 (hJ [0,1] hL (hS (hS (hP [0,1] (hK 1 (hS (hS (hK 1 (hS (hK 1 (hS (hS (hP [5,6] hL) hL) hL)) hL)) hL) hL))) hL) hL)),nils:=[(0,1000001),(1,1000001)],modes:=[(2,1)]}
def Abc:Ru:=[Nj N,Ln N,gf N,xa N,kJ N,yC N,UV N,H3 N]
def iI(F:KF R):=J7 Tryz.f183 uw (Abc N) [] N F
def Ail(K:St->O R):=fun z s=>K ⟨[(5,.int .u64 z),(6,.int .u64 s)],[]⟩
def iJ(K:St->O R):=fun g a h i b j=>K ⟨[(0,.imm g a 1 false h),(1,.imm i b 1 false j)],[]⟩
def Aim(K:St->O R):=fun t u v w x y=>K ⟨[(0,.imm t u 1 false v),(1,.imm w x 1 false y)],[]⟩
def yD Q1 (F:KF R):∀ n,Ail (Au (iI N F (pz 356532496) [Q1]) n)=(Rg N (iJ Q1) (Cw F) n):=Gn fun n e=>(B5 (LP N (iJ Q1) (Cw F)) e:_)
def yE(F:KF R):∀ n,iJ (Au (iI N F (pz 1360) []) n)=(Fj N (Cw F) n):=Gn fun n e=>(KH (BO N (Cw F)) e ((lW ..).trans ((yD ..).trans (ot (Rg _ · _ _) e))):_)
def yF(F:KF R):Aim (A2 (iI N F (pz 85) []))=(UY N (Cw F)):=(B5 (ZX N (Cw F)) ((lW ..).trans (yE ..)):_)
def Alq:=B9 N 183 (Abc N) uw (fun
|[.imm l m 1 o d,.imm p q 1 r f],[]=>some fun _ k=>ZY N l m o d p q r f (Cw k)
| _,_=>none) fun _ _=>by split;intro R F;exact(B5 (nW N (Cw F) · _ _ _ _ _ _ _ _) ((jW ..).trans (yF ..)):_).trans (pg ..).symm;trivial
def ZZ(d:LA)(f:Bool)(i:LA)(j:Nat)(n l:Bool)(r0:LA->O R):O R:=(DD d fun s=>Bq 1 (d.drop 1) fun t u=>cond (beq d.length 2) (nT N [.bool s,.imm t u 1 false f] (f||false) fun m b g=>DJ N i j false l fun c h=>cond ((b:Int)==0) (r0 [.bool false,.nsl,.imm [.int .u32 1] 1 1 false false]) (ZY N (g.take (b*1)) b false true (h.take (c*1)) c false true fun a e=>cond (((a:Int) != 1)==false) (cond (Ac 0 a) (Aq .u32 e fun v=>cond (cond false true (v != 1)) (F6 N (g.take (b*1)) b false true (e.take (a*1)) a false true fun o aa ab w ac=>F6 N (h.take (c*1)) c false true (e.take (a*1)) a false true fun p ad ae x af=>r0 [.bool m,.imm (w.take (o*1)) o 1 false false,.imm (x.take (p*1)) p 1 false false]) (r0 [.bool m,.imm (g.take (b*1)) b 1 false false,.imm (h.take (c*1)) c 1 false false])) none) (F6 N (g.take (b*1)) b false true (e.take (a*1)) a false true fun q ag ah y ai=>F6 N (h.take (c*1)) c false true (e.take (a*1)) a false true fun r aj ak z al=>r0 [.bool m,.imm (y.take (q*1)) q 1 false false,.imm (z.take (r*1)) r 1 false false]))) none)
def Rh:=(Ai (@ZZ R)).1
def XS:@Rh R=@ZZ R:=(Ai _).2
def SC:=B9 N 129 [Aie N,UV N,Alq N,kJ N] { H:=hL,modes:=[(3,0)],cob:=[2] } (fun
|[.pagg d f,.imm i j 1 n l],[]=>some fun _ k=>Rh N d f i j n l (Cl k)
| _,_=>none) fun _ _=>by split;intro R F;dsimp only;rw[XS];kernel_rfl;trivial
def HP(r0:LA->O R)(c:Bool)(a:LA)(d:Bool)(b:LA):O R:=(cond (ble 3 a.length) (Nk N (a.take 3) c fun e l m n o=>cond ((beq 0 0)&&((beq e.length 2)&&(beq 2 2))) (cond (ble 3 b.length) (Nk N (b.take 3) d fun f p q r s=>cond ((beq 0 0)&&((beq f.length 2)&&(beq 2 2))) (cond (ble 2 e.length) (cond (ble 2 f.length) (RE N (e.take 2) l (f.take 2) p fun t i u=>KT N m n false o q r false s fun j v=>Rh N [.bool t,.imm (u.take (i*1)) i 1 false true] true (v.take (j*1)) j false true fun g=>cond ((beq 0 0)&&((beq g.length 3)&&(beq 3 3))) (cond (ble 3 g.length) (r0 (g.take 3)) none) none) none) none) none) none) none) none)
def UZ(r0:LA->O R)(q0:O R)(a:LA)(c:Bool)(b:LA)(d:Bool):O R:=(cond (ble 3 a.length) (Hc N (a.take 3) c fun w x y=>cond (ble 3 b.length) (Hc N (b.take 3) d fun z aa ab=>cond (y==true) (cond (cond true ab false) (J9 N (wrap .i64 (w*z)) (wrap .i64 (x*aa)) fun h=>cond ((beq 0 0)&&((beq h.length 3)&&(beq 3 3))) (cond (ble 3 h.length) (r0 (h.take 3)) none) none) q0) q0) none) none)
def Pm:=(Ai fun N a c b d r0=>UZ (R:=R) N r0 (HP N r0 c a d b) a c b d).1
def LQ(a c b d r0):(@Pm R N a c b d r0)=(UZ N r0 (HP N r0 c a d b) a c b d):=by rw[Pm,(Ai _).2]
def ux:Hints:={H:=hK 3 (hJ [2,3,4] hL hL),modes:=[(3,0)]}
def Abd:Ru:=[KO N,FQ N,AX N,pI N,cP N,SC N]
def Ain(F:KF R):=J7 Tryz.f73 ux (Abd N) [] N F
def Aio(c:Bool)(a:LA)(d:Bool)(b:LA)(K:St->O R):=K ⟨[(2,op 0),(3,op 1),(4,op 2)],hq [bP c 0 a,bP d 0 b,bN 0 [.bool false,.nsl,.nsl]]⟩
def yG(F:KF R)(c a d b):Aio c a d b (A2 (Ain N F (pz 341) []))=(HP N (Cl F) c a d b):=by kernel_rfl
def Wy:=B9 N 73 (Abd N) ux (fun
|[.pagg a c,.pagg b d],[]=>some fun _ k=>Pm N a c b d (Cl k)
| _,_=>none) fun _ _=>by split;intro R F;exact(B5 (UZ N (Cl F) · _ _ _ _) ((jW ..).trans (yG ..)):_).trans (LQ ..).symm;trivial
def ph(a:LA)(b:Bool)(r0:Int->O R):O R:=(Bq 1 (a.drop 1) fun c d=>Uj N c d false b fun e=>cond (e==0) (r0 0) (DD a fun f=>cond f (r0 (-1)) (r0 1)))
def U_:=(Ai (@ph R)).1
def kK:@U_ R=@ph R:=(Ai _).2
def uy:=B9 N 124 [cO N] Eh (fun
|[.pagg a b],[]=>some fun _ k=>U_ N a b (Ha k)
| _,_=>none) fun _ _=>by split;intro R F;dsimp only;rw[kK];kernel_rfl;trivial
def pi(a:LA)(b:Bool)(r0:Int->O R):O R:=(cond (ble 3 a.length) (Nk N (a.take 3) b fun c d f g h=>cond ((beq 0 0)&&((beq c.length 2)&&(beq 2 2))) (cond (ble 2 c.length) (U_ N (c.take 2) d fun e=>r0 e) none) none) none)
def Sw:=(Ai (@pi R)).1
def kL:@Sw R=@pi R:=(Ai _).2
def HQ:=B9 N 69 [AX N,uy N] Eh (fun
|[.pagg a b],[]=>some fun _ k=>Sw N a b (Ha k)
| _,_=>none) fun _ _=>by split;intro R F;dsimp only;rw[kL];kernel_rfl;trivial
def dM(a:LA)(b:Bool)(r0:LA->O R):O R:=(cond (ble 3 a.length) (Hc N (a.take 3) b fun e f g=>cond g (J9 N e f fun c=>cond ((beq 0 0)&&((beq c.length 3)&&(beq 3 3))) (cond (ble 3 c.length) (r0 (c.take 3)) none) none) (cond (ble 3 a.length) (Nk N (a.take 3) b fun h i j l m=>Rh N h i j l false m fun d=>cond ((beq 0 0)&&((beq d.length 3)&&(beq 3 3))) (cond (ble 3 d.length) (r0 (d.take 3)) none) none) none)) none)
def Zb:=(Ai (@dM R)).1
def SD:@Zb R=@dM R:=(Ai _).2
def iK:=B9 N 76 [KO N,FQ N,AX N,SC N] Hb (fun
|[.pagg a b],[]=>some fun _ k=>Zb N a b (Cl k)
| _,_=>none) fun _ _=>by split;intro R F;dsimp only;rw[SD];kernel_rfl;trivial
def BP(r0:Nat->LA->O R)(b:LA)(a:Nat)(d:Bool)(f:LA)(c:Nat)(g:Bool)(k1:Nat->Int->Int->Int->LA->O R)(m:Nat)(o v h:Int)(l:LA):O R:=(cond (decide (h<v)) (cond (Ac h a) (Aq .u32 (b.drop (h.toNat*1)) fun w=>cond (decide (h<(c:Int))) (cond (Ac h c) (Aq .u32 (f.drop (h.toNat*1)) fun z=>cond (Ac h m) (cond ((beq 1 1)&&((ble ((0+(h.toNat*1))+1) l.length)&&(!false))) (k1 m (Int.fdiv (wrap .u64 ((wrap .u64 (o+(wrap .u64 w)))+(wrap .u64 z))) (2 ^ 32)) v (wrap .i64 (h+1)) (l.set (0+(h.toNat*1)) (.int .u32 (wrap .u32 (wrap .u64 ((wrap .u64 (o+(wrap .u64 w)))+(wrap .u64 z))))))) none) none) none) (cond (Ac h m) (cond ((beq 1 1)&&((ble ((0+(h.toNat*1))+1) l.length)&&(!false))) (k1 m (Int.fdiv (wrap .u64 (o+(wrap .u64 w))) (2 ^ 32)) v (wrap .i64 (h+1)) (l.set (0+(h.toNat*1)) (.int .u32 (wrap .u32 (wrap .u64 (o+(wrap .u64 w))))))) none) none)) none) (cond (Ac (a:Int) m) (cond ((beq 1 1)&&((ble ((0+(a*1))+1) l.length)&&(!false))) (AT N m (l.set (0+(a*1)) (.int .u32 (wrap .u32 o))) fun ac=>r0 ac (l.set (0+(a*1)) (.int .u32 (wrap .u32 o)))) none) none))
def Ux(r0:Nat->LA->O R)(b:LA)(a:Nat)(d:Bool)(f:LA)(c:Nat)(g:Bool):Nat->Nat->Int->Int->Int->LA->O R
|0=>fun _ _ _ _ _=>none
|n+1=>BP N r0 b a d f c g (Ux r0 b a d f c g n)
def Z_(N:Nat)(r0:Nat->LA->O R)(q1:LA->Nat->Bool->LA->Nat->Bool->Nat->Int->Int->Int->LA->O R)(b:LA)(a:Nat)(d:Bool)(f:LA)(c:Nat)(g:Bool):O R:=(cond ((decide (0<=(wrap .i64 ((a:Int)+1))))&&((decide ((wrap .i64 ((a:Int)+1))<=(wrap .i64 ((a:Int)+1))))&&((decide ((wrap .i64 ((a:Int)+1))<=140737488355328))&&(decide (((wrap .i64 ((a:Int)+1))*((4:Nat):Int))<=140737488355328))))) (q1 b a d f c g ((wrap .i64 ((a:Int)+1)).toNat) 0 (a:Int) 0 (replicate ((wrap .i64 ((a:Int)+1)).toNat) (.int .u32 0))) none)
def HR(r0:Nat->LA->O R)(b:LA)(a:Nat)(d:Bool)(f:LA)(c:Nat)(g:Bool):O R:=Z_ N r0 (fun b a d f c g=>Ux N r0 b a d f c g N) b a d f c g
def dN(r0:Nat->LA->O R)(q0:LA->Nat->Bool->LA->Nat->Bool->O R)(p:LA)(q:Nat)(r i:Bool)(s:LA)(t:Nat)(u j:Bool):O R:=(Cy N p q r i fun aa x=>Cy N s t u j fun ab y=>cond (decide ((x:Int)<(y:Int))) (q0 ab y j aa x i) (q0 aa x i ab y j))
def pj:=(Ai fun N p q r i s t u j r0=>dN (R:=R) N r0 (HR N r0) p q r i s t u j).1
def Z'(p q r i s t u j r0):(@pj R N p q r i s t u j r0)=(dN N r0 (HR N r0) p q r i s t u j):=by rw[pj,(Ai _).2]
def uz:Hints:={H:=hK 2 (hJ [0,1] hL (hK 2 (hS (hK 1 (hS (hP [0,1,5,6,24,25,26] hL) hL)) hL))),nils:=[(4,1)],modes:=[(2,1)]}
def Abe:Ru:=[Gr N]
def vA(F:KF R):=J7 Tryz.f185 uz (Abe N) [] N F
def Aip(b:LA)(a:Nat)(d:Bool)(f:LA)(c:Nat)(g:Bool)(K:St->O R):=fun m o v h l=>K ⟨[(0,.imm b a 1 false d),(1,.imm f c 1 false g),(5,A6q 0 m),(6,.int .u64 o),(24,.imm b a 1 false d),(25,iv v),(26,iv h)],hq [bQ 1 l]⟩
def Aiq(K:St->O R):=fun b a d f c g=>K ⟨[(0,.imm b a 1 false d),(1,.imm f c 1 false g)],[]⟩
def yH(F:KF R)(b a d f c g):∀ n,Aip b a d f c g (Au (vA N F (pz 87364) []) n)=(Ux N (Cw F) b a d f c g n):=Gn fun n e=>(B5 (BP N (Cw F) b a d f c g) e:_)
def yI(F:KF R):Aiq (A2 (vA N F (pz 85) []))=(HR N (Cw F)):=(B5 (Z_ N (Cw F)) (An6 fun b a d f c g=>(lW ..).trans (yH ..)):_)
def Alr:=B9 N 185 (Abe N) uz (fun
|[.imm p q 1 r i,.imm s t 1 u j],[]=>some fun _ k=>pj N p q r i s t u j (Cw k)
| _,_=>none) fun _ _=>by split;intro R F;exact(B5 (dN N (Cw F) · _ _ _ _ _ _ _ _) ((jW ..).trans (yI ..)):_).trans (Z' ..).symm;trivial
def dO(a:LA)(c:Bool)(b:LA)(d:Bool)(r0:Bool->Nat->LA->O R):O R:=(DD a fun l=>DD b fun m=>cond (l==m) (DD a fun n=>Bq 1 (a.drop 1) fun o p=>Bq 1 (b.drop 1) fun q r=>pj N o p false c q r false d fun e f=>L8 N n e f fun s=>r0 s e f) (Bq 1 (a.drop 1) fun t u=>Bq 1 (b.drop 1) fun v w=>R_ N t u false c v w false d fun g x h=>cond x (DD a fun y=>L8 N y g h fun z=>r0 z g h) (Bq 1 (b.drop 1) fun aa ab=>Bq 1 (a.drop 1) fun ac ad=>R_ N aa ab false d ac ad false c fun i ag j=>DD b fun ae=>L8 N ae i j fun af=>r0 af i j)))
def pm:=(Ai (@dO R)).1
def LR:@pm R=@dO R:=(Ai _).2
def Als:=B9 N 130 [Alr N,DH N,Abb N] Eh (fun
|[.pagg a c,.pagg b d],[]=>some fun _ k=>pm N a c b d (Aoc k)
| _,_=>none) fun _ _=>by split;intro R F;dsimp only;rw[LR];kernel_rfl;trivial
def HS(r0:LA->O R)(c:Bool)(a:LA)(d:Bool)(b:LA):O R:=(cond (ble 3 a.length) (Nk N (a.take 3) c fun i x n o j=>cond ((beq 0 0)&&((beq i.length 2)&&(beq 2 2))) (cond (ble 3 b.length) (Nk N (b.take 3) d fun l y q r p=>cond ((beq 0 0)&&((beq l.length 2)&&(beq 2 2))) (Ek N n o false j q r false p fun ae=>cond (ae==0) (cond (ble 2 i.length) (cond (ble 2 l.length) (pm N (i.take 2) x (l.take 2) y fun af z ag=>Rh N [.bool af,.imm (ag.take (z*1)) z 1 false true] true n o false j fun s=>cond ((beq 0 0)&&((beq s.length 3)&&(beq 3 3))) (cond (ble 3 s.length) (r0 (s.take 3)) none) none) none) none) (cond (ble 2 i.length) (RE N (i.take 2) x [.bool false,.imm q r 1 false p] (p||false) fun ah aa ai=>cond (ble 2 l.length) (RE N (l.take 2) y [.bool false,.imm n o 1 false j] (j||false) fun aj ab ak=>pm N [.bool ah,.imm (ai.take (aa*1)) aa 1 false true] true [.bool aj,.imm (ak.take (ab*1)) ab 1 false true] true fun al ac am=>KT N n o false j q r false p fun ad an=>Rh N [.bool al,.imm (am.take (ac*1)) ac 1 false true] true (an.take (ad*1)) ad false true fun t=>cond ((beq 0 0)&&((beq t.length 3)&&(beq 3 3))) (cond (ble 3 t.length) (r0 (t.take 3)) none) none) none) none)) none) none) none) none)
def LU(r0:LA->O R)(g e h f:Int)(c:Bool)(a:LA)(d:Bool)(b:LA)(q1:O R)(m:Bool):O R:=(cond m (J9 N (wrap .i64 ((wrap .i64 (g*f))+(wrap .i64 (h*e)))) (wrap .i64 (e*f)) fun u=>cond ((beq 0 0)&&((beq u.length 3)&&(beq 3 3))) (cond (ble 3 u.length) (r0 (u.take 3)) none) none) q1)
def Ri(r0:LA->O R)(g e h f:Int)(c:Bool)(a:LA)(d:Bool)(b:LA)(m:Bool):O R:=LU N r0 g e h f c a d b (HS N r0 c a d b) m
def VA(r0:LA->O R)(q0:Int->Int->Int->Int->Bool->O R)(a:LA)(c:Bool)(b:LA)(d:Bool):O R:=(cond (ble 3 a.length) (Sw N (a.take 3) c fun ao=>cond (ao==0) (cond (ble 3 b.length) (Zb N (b.take 3) d fun v=>cond ((beq 0 0)&&((beq v.length 3)&&(beq 3 3))) (cond (ble 3 v.length) (r0 (v.take 3)) none) none) none) (cond (ble 3 b.length) (Sw N (b.take 3) d fun ap=>cond (ap==0) (cond (ble 3 a.length) (Zb N (a.take 3) c fun w=>cond ((beq 0 0)&&((beq w.length 3)&&(beq 3 3))) (cond (ble 3 w.length) (r0 (w.take 3)) none) none) none) (cond (ble 3 a.length) (Hc N (a.take 3) c fun g e aq=>cond (ble 3 b.length) (Hc N (b.take 3) d fun h f ar=>cond (aq==true) (q0 g e h f (cond true ar false)) (q0 g e h f false)) none) none)) none)) none)
def Sz:=(Ai fun N a c b d r0=>VA (R:=R) N r0 (fun g e h f=>Ri N r0 g e h f c a d b) a c b d).1
def LV(a c b d r0):(@Sz R N a c b d r0)=(VA N r0 (fun g e h f=>Ri N r0 g e h f c a d b) a c b d):=by rw[Sz,(Ai _).2]
def vB:Hints:={H:=hK 5 (hJ [2,3,4] (hJ [2,3,4,5,6,8,9,41] hL hL) hL),modes:=[(3,0)]}
def Abf:Ru:=[HQ N,iK N,KO N,FQ N,AX N,Ln N,Als N,SC N,pI N,cP N]
def vC(F:KF R):=J7 Tryz.f72 vB (Abf N) [] N F
def Air(c:Bool)(a:LA)(d:Bool)(b:LA)(K:St->O R):=K ⟨[(2,op 0),(3,op 1),(4,op 2)],hq [bP c 0 a,bP d 0 b,bN 0 [.bool false,.nsl,.nsl]]⟩
def Ais(g e h f:Int)(c:Bool)(a:LA)(d:Bool)(b:LA)(K:St->O R):=fun m=>K ⟨[(2,op 0),(3,op 1),(4,op 2),(5,iv g),(6,iv e),(8,iv h),(9,iv f),(41,.bool m)],hq [bP c 0 a,bP d 0 b,bN 0 [.bool false,.nsl,.nsl]]⟩
def yJ(F:KF R)(c a d b):Air c a d b (A2 (vC N F (pz 5461) []))=(HS N (Cl F) c a d b):=by kernel_rfl
def yK(F:KF R)(g e h f c a d b):Ais g e h f c a d b (A2 (vC N F (pz 21841) []))=(Ri N (Cl F) g e h f c a d b):=(B5 (LU N (Cl F) g e h f c a d b) ((jW ..).trans (yJ ..)):_)
def HT:=B9 N 72 (Abf N) vB (fun
|[.pagg a c,.pagg b d],[]=>some fun _ k=>Sz N a c b d (Cl k)
| _,_=>none) fun _ _=>by split;intro R F;exact(B5 (VA N (Cl F) · _ _ _ _) (Ad3 fun g e h f=>(jW ..).trans (yK ..)):_).trans (LV ..).symm;trivial
def yL(a:LA)(b:Bool)(c:LA)(d:Bool)(r0:LA->O R):O R:=(DD a fun f=>Bq 1 (a.drop 1) fun g h=>Bq 1 (a.drop 2) fun i j=>cond (beq a.length 3) (DD c fun l=>Bq 1 (c.drop 1) fun m n=>Bq 1 (c.drop 2) fun o p=>cond (beq c.length 3) (Sz N [.bool f,.imm g h 1 false b,.imm i j 1 false b] (b||(b||false)) [.bool (!l),.imm m n 1 false d,.imm o p 1 false d] (d||(d||false)) fun e=>cond ((beq 0 0)&&((beq e.length 3)&&(beq 3 3))) (cond (ble 3 e.length) (r0 (e.take 3)) none) none) none) none)
def BQ:=(Ai (@yL R)).1
def pp:@BQ R=@yL R:=(Ai _).2
def SE:=B9 N 67 [HT N] { H:=hL,modes:=[(3,0)],cob:=[2,3] } (fun
|[.pagg a b,.pagg c d],[]=>some fun _ k=>BQ N a b c d (Cl k)
| _,_=>none) fun _ _=>by split;intro R F;dsimp only;rw[pp];kernel_rfl;trivial
def S5(N:Nat)(a:Int)(r0:Bool->O R):O R:=(r0 (a != a))
def Md:=(Ai (@S5 R)).1
def S6:@Md R=@S5 R:=(Ai _).2
def OK:=B9 N 175 [] Eh (fun
|[.int .i64 a],[]=>some fun _ k=>Md N a (Cc k)
| _,_=>none) fun _ _=>by split;intro R F;dsimp only;rw[S6];kernel_rfl;trivial
def Uy(a b:Int)(r0:Int->O R):O R:=(Md N a fun d=>Md N b fun c=>cond d (cond c (r0 0) (r0 (-1))) (cond c (r0 1) (cond (decide (a<b)) (r0 (-1)) (cond (decide (a>b)) (r0 1) (r0 0)))))
def Qe:=(Ai (@Uy R)).1
def Yc:@Qe R=@Uy R:=(Ai _).2
def dP:=B9 N 114 [OK N] Eh (fun
|[.int .i64 a,.int .i64 b],[]=>some fun _ k=>Qe N a b (Ha k)
| _,_=>none) fun _ _=>by split;intro R F;dsimp only;rw[Yc];kernel_rfl;trivial
def Uz(N:Nat)(a:Int)(r0:Bool->O R):O R:=(r0 (a != a))
def Qf:=(Ai (@Uz R)).1
def Yd:@Qf R=@Uz R:=(Ai _).2
def dQ:=B9 N 177 [] Eh (fun
|[.int .i64 a],[]=>some fun _ k=>Qf N a (Cc k)
| _,_=>none) fun _ _=>by split;intro R F;dsimp only;rw[Yd];kernel_rfl;trivial
def Qv(a b:Int)(r0:Int->O R):O R:=(Qf N a fun d=>Qf N b fun c=>cond d (cond c (r0 0) (r0 (-1))) (cond c (r0 1) (cond (decide (a<b)) (r0 (-1)) (cond (decide (a>b)) (r0 1) (r0 0)))))
def M5:=(Ai (@Qv R)).1
def Tt:@M5 R=@Qv R:=(Ai _).2
def WE:=B9 N 116 [dQ N] Eh (fun
|[.int .i64 a,.int .i64 b],[]=>some fun _ k=>M5 N a b (Ha k)
| _,_=>none) fun _ _=>by split;intro R F;dsimp only;rw[Tt];kernel_rfl;trivial
def SF(a:LA)(c:Bool)(b:LA)(d:Bool)(r0:Int->O R):O R:=(cond (ble 2 a.length) (U_ N (a.take 2) c fun e=>cond (ble 2 b.length) (U_ N (b.take 2) d fun f=>cond (decide (e<f)) (r0 (-1)) (cond (decide (e>f)) (r0 1) (cond (decide (e<0)) (Bq 1 (b.drop 1) fun g h=>Bq 1 (a.drop 1) fun i j=>Ek N g h false d i j false c fun l=>r0 l) (Bq 1 (a.drop 1) fun m n=>Bq 1 (b.drop 1) fun o p=>Ek N m n false c o p false d fun q=>r0 q)))) none) none)
def LW:=(Ai (@SF R)).1
def SG:@LW R=@SF R:=(Ai _).2
def yM:=B9 N 118 [uy N,Ln N] Eh (fun
|[.pagg a c,.pagg b d],[]=>some fun _ k=>LW N a c b d (Ha k)
| _,_=>none) fun _ _=>by split;intro R F;dsimp only;rw[SG];kernel_rfl;trivial
def P0(r0:Int->O R)(c:Bool)(a:LA)(d:Bool)(b:LA):O R:=(cond (ble 3 a.length) (Nk N (a.take 3) c fun e n o p g=>cond ((beq 0 0)&&((beq e.length 2)&&(beq 2 2))) (cond (ble 3 b.length) (Nk N (b.take 3) d fun f q r s h=>cond ((beq 0 0)&&((beq f.length 2)&&(beq 2 2))) (cond (ble 2 e.length) (RE N (e.take 2) n [.bool false,.imm r s 1 false h] (h||false) fun t i u=>cond (ble 2 f.length) (RE N (f.take 2) q [.bool false,.imm o p 1 false g] (g||false) fun v j w=>LW N [.bool t,.imm (u.take (i*1)) i 1 false true] true [.bool v,.imm (w.take (j*1)) j 1 false true] true fun x=>r0 x) none) none) none) none) none) none)
def EB(r0:Int->O R)(q0:O R)(a:LA)(c:Bool)(b:LA)(d:Bool):O R:=(cond (ble 3 a.length) (Sw N (a.take 3) c fun l=>cond (ble 3 b.length) (Sw N (b.take 3) d fun m=>cond (l != m) (Qe N l m fun y=>r0 y) (cond (ble 3 a.length) (Hc N (a.take 3) c fun z aa ab=>cond (ble 3 b.length) (Hc N (b.take 3) d fun ac ad ae=>cond (ab==true) (cond (cond true ae false) (M5 N (wrap .i64 (z*ad)) (wrap .i64 (ac*aa)) fun af=>r0 af) q0) q0) none) none)) none) none)
def Nw:=(Ai fun N a c b d r0=>EB (R:=R) N r0 (P0 N r0 c a d b) a c b d).1
def SH(a c b d r0):(@Nw R N a c b d r0)=(EB N r0 (P0 N r0 c a d b) a c b d):=by rw[Nw,(Ai _).2]
def XT:Hints:={H:=hK 4 (hJ [2,3] hL hL)}
def dR:Ru:=[HQ N,dP N,KO N,WE N,AX N,pI N,yM N]
def tM(F:KF R):=J7 Tryz.f55 XT (dR N) [] N F
def tN(c:Bool)(a:LA)(d:Bool)(b:LA)(K:St->O R):=K ⟨[(2,op 0),(3,op 1)],hq [bP c 0 a,bP d 0 b]⟩
def iL(F:KF R)(c a d b):tN c a d b (A2 (tM N F (pz 1365) []))=(P0 N (Ha F) c a d b):=by kernel_rfl
def LX:=B9 N 55 (dR N) XT (fun
|[.pagg a c,.pagg b d],[]=>some fun _ k=>Nw N a c b d (Ha k)
| _,_=>none) fun _ _=>by split;intro R F;exact(B5 (EB N (Ha F) · _ _ _ _) ((jW ..).trans (iL ..)):_).trans (SH ..).symm;trivial
def FW(a b:Int)(r0:Bool->O R):O R:=(Md N a fun c=>cond (c==true) (Md N b fun d=>cond ((cond true (!d) false)==false) (r0 (cond false true (decide (a<b)))) (r0 true)) (r0 (cond false true (decide (a<b)))))
def Zc:=(Ai (@FW R)).1
def HU:@Zc R=@FW R:=(Ai _).2
def pu:=B9 N 187 [OK N] Eh (fun
|[.int .i64 a,.int .i64 b],[]=>some fun _ k=>Zc N a b (Cc k)
| _,_=>none) fun _ _=>by split;intro R F;dsimp only;rw[HU];kernel_rfl;trivial
def yN(c:LA)(d:Bool)(a:LA)(b:Bool)(r0:LA->Bool->O R):O R:=(cond (ble 3 a.length) (Sw N (a.take 3) b fun f=>cond (f==0) (r0 [.bool false,.nsl,.nsl] false) (cond (ble 3 c.length) (DD a fun g=>Bq 1 (a.drop 2) fun h i=>Bq 1 (a.drop 1) fun j l=>Pm N (c.take 3) d [.bool g,.imm h i 1 false b,.imm j l 1 false b] (b||(b||false)) fun e=>cond ((beq 0 0)&&((beq e.length 3)&&(beq 3 3))) (cond (ble 3 e.length) (r0 (e.take 3) true) none) none) none)) none)
def yO:=(Ai (@yN R)).1
def pv:@yO R=@yN R:=(Ai _).2
def Alt:=B9 N 133 [HQ N,Wy N] { H:=hL,modes:=[(3,0),(0,0)] } (fun
|[.pagg c d,.pagg a b],[]=>some fun _ k=>yO N c d a b (FP k)
| _,_=>none) fun _ _=>by split;intro R F;dsimp only;rw[pv];kernel_rfl;trivial
def Zd(N:Nat)(r0:Nat->LA->O R)(b:LA)(a:Nat)(f c:Bool)(k0:Int->O R)(d:Int):O R:=(cond ((decide (d>0))==true) (cond (Ac (wrap .i64 (d - 1)) a) (Aq .u32 (b.drop (((wrap .i64 (d - 1)).toNat)*1)) fun g=>cond (cond true (g==0) false) (k0 (wrap .i64 (d - 1))) (cond ((decide ((0:Int)<=(0:Int)))&&((decide (0<=d))&&((decide (d<=(a:Int)))&&(decide ((a:Int)<=(a:Int)))))) (cond ((!c)||(A9 (b.take (d.toNat*1)))) (cond ((ble (0+d.toNat) 140737488355328)&&(ble ((0+d.toNat)*4) 140737488355328)) (r0 (0+d.toNat) (b.take (d.toNat*1))) none) none) none)) none) (cond ((decide ((0:Int)<=(0:Int)))&&((decide (0<=d))&&((decide (d<=(a:Int)))&&(decide ((a:Int)<=(a:Int)))))) (cond ((!c)||(A9 (b.take (d.toNat*1)))) (cond ((ble (0+d.toNat) 140737488355328)&&(ble ((0+d.toNat)*4) 140737488355328)) (r0 (0+d.toNat) (b.take (d.toNat*1))) none) none) none))
def Nx(r0:Nat->LA->O R)(b:LA)(a:Nat)(f c:Bool):Nat->Int->O R
|0=>fun _=>none
|n+1=>Zd N r0 b a f c (Nx r0 b a f c n)
def HV(N:Nat)(r0:Nat->LA->O R)(q0:Int->O R)(b:LA)(a:Nat)(f c:Bool):O R:=(q0 (a:Int))
def Eb:=(Ai fun N b a f c r0=>HV (R:=R) N r0 (Nx N r0 b a f c N) b a f c).1
def LY(b a f c r0):(@Eb R N b a f c r0)=(HV N r0 (Nx N r0 b a f c N) b a f c):=by rw[Eb,(Ai _).2]
def Abg(F:KF R):=J7 Tryz.f193 js [] [] N F
def Abh(b:LA)(a:Nat)(f c:Bool)(K:St->O R):=fun d=>K ⟨[(0,.imm b a 1 f c),(3,iv d)],[]⟩
def pw(F:KF R)(b a f c):∀ n,Abh b a f c (Au (Abg N F (pz 336) []) n)=(Nx N (Cw F) b a f c n):=Gn fun n e=>(B5 (Zd N (Cw F) b a f c) e:_)
def I4:=B9 N 193 [] js (fun
|[.imm b a 1 f c],[]=>some fun _ k=>Eb N b a f c (Cw k)
| _,_=>none) fun _ _=>by split;intro R F;exact(B5 (HV N (Cw F) · _ _ _ _) ((lW ..).trans (pw ..)):_).trans (LY ..).symm;trivial
def iM(b:Bool)(c:LA)(d:Nat)(f e:Bool)(r0:LA->O R):O R:=(Eb N c d false e fun a g=>cond (b==true) (r0 [.bool (cond true (decide ((a:Int)>0)) false),.imm (g.take (a*1)) a 1 false false]) (r0 [.bool false,.imm (g.take (a*1)) a 1 false false]))
def Hk:=(Ai (@iM R)).1
def dS:@Hk R=@iM R:=(Ai _).2
def Ny:=B9 N 139 [I4 N] Hb (fun
|[.bool b,.imm c d 1 f e],[]=>some fun _ k=>Hk N b c d f e (Cl k)
| _,_=>none) fun _ _=>by split;intro R F;dsimp only;rw[dS];kernel_rfl;trivial
def iN(a:LA)(b:Bool)(r0:LA->O R):O R:=(DD a fun d=>Bq 1 (a.drop 1) fun e f=>Hk N d e f false b fun c=>cond ((beq 0 0)&&((beq c.length 2)&&(beq 2 2))) (cond (ble 2 c.length) (r0 (c.take 2)) none) none)
def HW:=(Ai (@iN R)).1
def dT:@HW R=@iN R:=(Ai _).2
def qA:=B9 N 120 [Ny N] Hb (fun
|[.pagg a b],[]=>some fun _ k=>HW N a b (Cl k)
| _,_=>none) fun _ _=>by split;intro R F;dsimp only;rw[dT];kernel_rfl;trivial
def iO(a:LA)(b:Bool)(r0:Int->O R):O R:=(cond (ble 2 a.length) (HW N (a.take 2) b fun c=>cond ((beq c.length 2)&&((ble 2 a.length)&&(!false))) (DD (setCells a 0 c) fun d=>cond d (r0 (-1)) (Bq 1 ((setCells a 0 c).drop 1) fun f e=>cond ((e:Int)==0) (r0 0) (r0 1))) none) none)
def HX:=(Ai (@iO R)).1
def dU:@HX R=@iO R:=(Ai _).2
def qB:=B9 N 60 [qA N] Eh (fun
|[.pagg a b],[]=>some fun _ k=>HX N a b (Ha k)
| _,_=>none) fun _ _=>by split;intro R F;dsimp only;rw[dU];kernel_rfl;trivial
def VB(N:Nat)(r0:LA->O R):O R:=(r0 [.bool false,.imm [] 0 1 false false,.imm [.int .u32 1] 1 1 false false])
def HY:=(Ai (@VB R)).1
def LZ:@HY R=@VB R:=(Ai _).2
def aA:=B9 N 35 [] Hb (fun
|[],[]=>some fun _ k=>HY N (Cl k)
| _,_=>none) fun _ _=>by split;intro R F;dsimp only;rw[LZ];kernel_rfl;trivial
def V8(N:Nat)(r0:Bool->O R)(c:LA)(a:Nat)(f g:Bool)(d:LA)(b:Nat)(h i:Bool)(k0:Int->O R)(j:Int):O R:=(cond (decide (j<(a:Int))) (cond (Ac j a) (Aq .u32 (c.drop (j.toNat*1)) fun l=>cond (Ac j b) (Aq .u32 (d.drop (j.toNat*1)) fun m=>cond (l != m) (r0 false) (k0 (wrap .i64 (j+1)))) none) none) (r0 true))
def K8(r0:Bool->O R)(c:LA)(a:Nat)(f g:Bool)(d:LA)(b:Nat)(h i:Bool):Nat->Int->O R
|0=>fun _=>none
|n+1=>V8 N r0 c a f g d b h i (K8 r0 c a f g d b h i n)
def L_(N:Nat)(r0:Bool->O R)(q0:Int->O R)(c:LA)(a:Nat)(f g:Bool)(d:LA)(b:Nat)(h i:Bool):O R:=(cond ((a:Int) != (b:Int)) (r0 false) (q0 0))
def HZ:=(Ai fun N c a f g d b h i r0=>L_ (R:=R) N r0 (K8 N r0 c a f g d b h i N) c a f g d b h i).1
def XU(c a f g d b h i r0):(@HZ R N c a f g d b h i r0)=(L_ N r0 (K8 N r0 c a f g d b h i N) c a f g d b h i):=by rw[HZ,(Ai _).2]
def dV:Hints:={H:=hK 2 (hS (hK 1 (hS (hP [0,1,5] hL) hL)) hL)}
def yP(F:KF R):=J7 Tryz.f135 dV [] [] N F
def yQ(c:LA)(a:Nat)(f g:Bool)(d:LA)(b:Nat)(h i:Bool)(K:St->O R):=fun j=>K ⟨[(0,.imm c a 1 f g),(1,.imm d b 1 h i),(5,iv j)],[]⟩
def m_(F:KF R)(c a f g d b h i):∀ n,yQ c a f g d b h i (Au (yP N F (pz 1348) []) n)=(K8 N (Cc F) c a f g d b h i n):=Gn fun n e=>(B5 (V8 N (Cc F) c a f g d b h i) e:_)
def Abi:=B9 N 135 [] dV (fun
|[.imm c a 1 f g,.imm d b 1 h i],[]=>some fun _ k=>HZ N c a f g d b h i (Cc k)
| _,_=>none) fun _ _=>by split;intro R F;exact(B5 (L_ N (Cc F) · _ _ _ _ _ _ _ _) ((lW ..).trans (m_ ..)):_).trans (XU ..).symm;trivial
def Fy(N:Nat)(r0:Int->Bool->O R)(a:Nat)(b:LA)(k0:Int->Int->O R)(i h:Int):O R:=(cond (decide (h>=0)) (cond (Ac h a) (Aq .u32 (b.drop (0+(h.toNat*1))) fun j=>k0 (Rb .u64 (wrap .u64 (i*2 ^ 32)) (wrap .u64 j)) (wrap .i64 (h - 1))) none) (r0 i true))
def Em(r0:Int->Bool->O R)(a:Nat)(b:LA):Nat->Int->Int->O R
|0=>fun _ _=>none
|n+1=>Fy N r0 a b (Em r0 a b n)
def EC(r0:Int->Bool->O R)(q0:Nat->LA->Int->Int->O R)(c:LA)(d:Nat)(g f:Bool):O R:=(Eb N c d false f fun a b=>cond (decide ((a:Int)>2)) (r0 0 false) (q0 a b 0 (wrap .i64 ((a:Int) - 1))))
def U0:=(Ai fun N c d g f r0=>EC (R:=R) N r0 (fun a b=>Em N r0 a b N) c d g f).1
def SI(c d g f r0):(@U0 R N c d g f r0)=(EC N r0 (fun a b=>Em N r0 a b N) c d g f):=by rw[U0,(Ai _).2]
def XV:Hints:={H:=hK 4 (hS (hK 1 (hS (hP [0,4,5] hL) hL)) hL)}
def dW:Ru:=[I4 N]
def tO(F:KF R):=J7 Tryz.f229 XV (dW N) [] N F
def tP(a:Nat)(b:LA)(K:St->O R):=fun i h=>K ⟨[(0,A6q 0 a),(4,.int .u64 i),(5,iv h)],hq [bQ 1 b]⟩
def iP(F:KF R)(a b):∀ n,tP a b (Au (tO N F (pz 21828) []) n)=(Em N (Aas F) a b n):=Gn fun n e=>(B5 (Fy N (Aas F) a b) e:_)
def yR:=B9 N 229 (dW N) XV (fun
|[.imm c d 1 g f],[]=>some fun _ k=>U0 N c d g f (Aas k)
| _,_=>none) fun _ _=>by split;intro R F;exact(B5 (EC N (Aas F) · _ _ _ _) (ld fun a b=>(lW ..).trans (iP ..)):_).trans (SI ..).symm;trivial
def Xp(a:Int)(r0:Nat->LA->O R):O R:=(Eb N [.int .u32 (wrap .u32 a),.int .u32 (wrap .u32 (Int.fdiv a (2 ^ 32)))] 2 false true fun b c=>r0 b c)
def Hl:=(Ai (@Xp R)).1
def BR:@Hl R=@Xp R:=(Ai _).2
def H_:=B9 N 140 [I4 N] Alj (fun
|[.int .u64 a],[]=>some fun _ k=>Hl N a (Cw k)
| _,_=>none) fun _ _=>by split;intro R F;dsimp only;rw[BR];kernel_rfl;trivial
def S7(N:Nat)(r0:Int->O R)(k0:Int->Int->O R)(g h:Int):O R:=(cond (decide (h>0)) (k0 (wrap .i64 (g+1)) (Int.fdiv h (2 ^ 1))) (r0 g))
def Ka(r0:Int->O R):Nat->Int->Int->O R
|0=>fun _ _=>none
|n+1=>S7 N r0 (Ka r0 n)
def H'(r0:Int->O R)(q0:Int->Int->O R)(a:LA)(b:Nat)(d c:Bool):O R:=(Eb N a b false c fun f i=>cond ((f:Int)==0) (r0 0) (cond (Ac (wrap .i64 ((f:Int) - 1)) f) (Aq .u32 (i.drop (0+(((wrap .i64 ((f:Int) - 1)).toNat)*1))) fun j=>q0 (wrap .i64 (32*(wrap .i64 ((f:Int) - 1)))) j) none))
def SK:=(Ai fun N a b d c r0=>H' (R:=R) N r0 (Ka N r0 N) a b d c).1
def MA(a b d c r0):(@SK R N a b d c r0)=(H' N r0 (Ka N r0 N) a b d c):=by rw[SK,(Ai _).2]
def kM:Hints:={H:=hK 4 (hS (hK 1 (hS (hP [3,4] hL) hL)) hL)}
def qC:Ru:=[I4 N]
def Abj(F:KF R):=J7 Tryz.f230 kM (qC N) [] N F
def Abk(K:St->O R):=fun g h=>K ⟨[(3,iv g),(4,.int .u32 h)],[]⟩
def qD(F:KF R):∀ n,Abk (Au (Abj N F (pz 21828) []) n)=(Ka N (Ha F) n):=Gn fun n e=>(B5 (S7 N (Ha F)) e:_)
def Aeo:=B9 N 230 (qC N) kM (fun
|[.imm a b 1 d c],[]=>some fun _ k=>SK N a b d c (Ha k)
| _,_=>none) fun _ _=>by split;intro R F;exact(B5 (H' N (Ha F) · _ _ _ _) ((lW ..).trans (qD ..)):_).trans (MA ..).symm;trivial
def BS(N:Nat)(k0:Nat->Int->Int->LA->O R)(r0:Nat->LA->O R)(c:LA)(a:Nat)(f g:Bool)(d:LA)(b:Nat)(h i:Bool)(j:Nat)(l:LA)(p m:Int):O R:=(cond (decide (m<(b:Int))) (cond (Ac m b) (Aq .u32 (d.drop (m.toNat*1)) fun r=>cond (Ac m j) (cond ((beq 1 1)&&((ble ((0+(m.toNat*1))+1) l.length)&&(!false))) (k0 j (Int.fdiv (wrap .u64 (p+(wrap .u64 r))) (2 ^ 32)) (wrap .i64 (m+1)) (l.set (0+(m.toNat*1)) (.int .u32 (wrap .u32 (wrap .u64 (p+(wrap .u64 r))))))) none) none) none) (cond (Ac m j) (cond ((beq 1 1)&&((ble ((0+(m.toNat*1))+1) l.length)&&(!false))) (k0 j (Int.fdiv p (2 ^ 32)) (wrap .i64 (m+1)) (l.set (0+(m.toNat*1)) (.int .u32 (wrap .u32 p)))) none) none))
def ED(r0:Nat->LA->O R)(c:LA)(a:Nat)(f g:Bool)(d:LA)(b:Nat)(h i:Bool)(k0:Nat->Int->Int->LA->O R)(q1:Nat->LA->Int->Int->O R)(j:Nat)(q o:Int)(l:LA):O R:=(cond (decide (o<(j:Int))) (cond (decide (o<(a:Int))) (cond (Ac o a) (Aq .u32 (c.drop (o.toNat*1)) fun s=>q1 j l (wrap .u64 (q+(wrap .u64 s))) o) none) (q1 j l q o)) (Eb N (l.take (j*1)) j false true fun t u=>r0 t u))
def I5(r0:Nat->LA->O R)(c:LA)(a:Nat)(f g:Bool)(d:LA)(b:Nat)(h i:Bool):Nat->Nat->Int->Int->LA->O R
|0=>fun _ _ _ _=>none
|n+1=>ED N r0 c a f g d b h i (I5 r0 c a f g d b h i n) (fun j l=>BS N (I5 r0 c a f g d b h i n) r0 c a f g d b h i j l)
def dX(N:Nat)(r0:Nat->LA->O R)(q0:Nat->Int->Int->LA->O R)(c:LA)(a:Nat)(f g:Bool)(d:LA)(b:Nat)(h i:Bool):O R:=(cond ((decide (0<=(wrap .i64 ((Mj (a:Int) (b:Int))+1))))&&((decide ((wrap .i64 ((Mj (a:Int) (b:Int))+1))<=(wrap .i64 ((Mj (a:Int) (b:Int))+1))))&&((decide ((wrap .i64 ((Mj (a:Int) (b:Int))+1))<=140737488355328))&&(decide (((wrap .i64 ((Mj (a:Int) (b:Int))+1))*((4:Nat):Int))<=140737488355328))))) (q0 ((wrap .i64 ((Mj (a:Int) (b:Int))+1)).toNat) 0 0 (replicate ((wrap .i64 ((Mj (a:Int) (b:Int))+1)).toNat) (.int .u32 0))) none)
def MB:=(Ai fun N c a f g d b h i r0=>dX (R:=R) N r0 (I5 N r0 c a f g d b h i N) c a f g d b h i).1
def kN(c a f g d b h i r0):(@MB R N c a f g d b h i r0)=(dX N r0 (I5 N r0 c a f g d b h i N) c a f g d b h i):=by rw[MB,(Ai _).2]
def qE:Hints:={H:=hK 3 (hS (hK 1 (hS (hP [0,1,5,6,7] (hK 1 (hS (hS (hJ [0,1,5,6,7] hL hL) hL) hL))) hL)) hL),nils:=[(4,1)],modes:=[(2,1)]}
def vD:Ru:=[I4 N]
def qF(F:KF R):=J7 Tryz.f141 qE (vD N) [] N F
def Aep(c:LA)(a:Nat)(f g:Bool)(d:LA)(b:Nat)(h i:Bool)(j:Nat)(l:LA)(K:St->O R):=fun p m=>K ⟨[(0,.imm c a 1 f g),(1,.imm d b 1 h i),(5,A6q 0 j),(6,.int .u64 p),(7,iv m)],hq [bQ 1 l]⟩
def qG(c:LA)(a:Nat)(f g:Bool)(d:LA)(b:Nat)(h i:Bool)(K:St->O R):=fun j q o l=>K ⟨[(0,.imm c a 1 f g),(1,.imm d b 1 h i),(5,A6q 0 j),(6,.int .u64 q),(7,iv o)],hq [bQ 1 l]⟩
def tR Q0 (F:KF R) (c a f g d b h i j l):Aep c a f g d b h i j l (A2 (qF N F (pz 5574721) [Q0]))=(BS N (qG c a f g d b h i Q0) (Cw F) c a f g d b h i j l):=by kernel_rfl
def tS(F:KF R)(c a f g d b h i):∀ n,qG c a f g d b h i (Au (qF N F (pz 5444) []) n)=(I5 N (Cw F) c a f g d b h i n):=Gn fun n e=>(KH (ED N (Cw F) c a f g d b h i) e (ld fun j l=>(jW ..).trans ((tR ..).trans (ot (BS _ · _ _ _ _ _ _ _ _ _ _ _) e))):_)
def vE:=B9 N 141 (vD N) qE (fun
|[.imm c a 1 f g,.imm d b 1 h i],[]=>some fun _ k=>MB N c a f g d b h i (Cw k)
| _,_=>none) fun _ _=>by split;intro R F;exact(B5 (dX N (Cw F) · _ _ _ _ _ _ _ _) ((lW ..).trans (tS ..)):_).trans (kN ..).symm;trivial
def qH(N:Nat)(c:LA)(b:Nat)(d e:Bool)(a:Int)(r0:Int->O R):O R:=(cond (decide ((wrap .i64 (Int.tdiv a 32))>=(b:Int))) (r0 0) (cond (Ac (wrap .i64 (Int.tdiv a 32)) b) (Aq .u32 (c.drop (((wrap .i64 (Int.tdiv a 32)).toNat)*1)) fun f=>cond (decide ((wrap .u64 (Int.tmod a 32))<0)) none (r0 (Ad1 .u32 (Int.fdiv f (2 ^ (min ((wrap .u64 (Int.tmod a 32)).toNat) 32))) 1))) none))
def nX:=(Ai (@qH R)).1
def kO:@nX R=@qH R:=(Ai _).2
def Aeq(F:KF R):Int->O R:=fun g=>F (.int .u32 g) []
def Ait:=B9 N 231 [] Eh (fun
|[.imm c b 1 d e,.int .i64 a],[]=>some fun _ k=>nX N c b d e a (Aeq k)
| _,_=>none) fun _ _=>by split;intro R F;dsimp only;rw[kO];kernel_rfl;trivial
def Qg(N:Nat)(r0:Int->O R)(a b:Nat)(c d:LA)(k0:Int->O R)(f:Int):O R:=(cond (decide (f>=0)) (cond (Ac f a) (Aq .u32 (c.drop (0+(f.toNat*1))) fun q=>cond (Ac f b) (Aq .u32 (d.drop (0+(f.toNat*1))) fun r=>cond (decide (q<r)) (r0 (-1)) (cond (Ac f a) (Aq .u32 (c.drop (0+(f.toNat*1))) fun s=>cond (Ac f b) (Aq .u32 (d.drop (0+(f.toNat*1))) fun t=>cond (decide (s>t)) (r0 1) (k0 (wrap .i64 (f - 1)))) none) none)) none) none) (r0 0))
def Hm(r0:Int->O R)(a b:Nat)(c d:LA):Nat->Int->O R
|0=>fun _=>none
|n+1=>Qg N r0 a b c d (Hm r0 a b c d n)
def Ze(r0:Int->O R)(q0:Nat->Nat->LA->LA->Int->O R)(g:LA)(h:Nat)(o i:Bool)(j:LA)(l:Nat)(p m:Bool):O R:=(Eb N g h false i fun a c=>Eb N j l false m fun b d=>cond ((a:Int) != (b:Int)) (cond (decide ((a:Int)<(b:Int))) (r0 (-1)) (r0 1)) (q0 a b c d (wrap .i64 ((a:Int) - 1))))
def Wz:=(Ai fun N g h o i j l p m r0=>Ze (R:=R) N r0 (fun a b c d=>Hm N r0 a b c d N) g h o i j l p m).1
def OL(g h o i j l p m r0):(@Wz R N g h o i j l p m r0)=(Ze N r0 (fun a b c d=>Hm N r0 a b c d N) g h o i j l p m):=by rw[Wz,(Ai _).2]
def XW:Ru:=[I4 N]
def qI(F:KF R):=J7 Tryz.f194 ui (XW N) [] N F
def qJ(a b:Nat)(c d:LA)(K:St->O R):=fun f=>K ⟨[(0,A6q 0 a),(1,A6q 1 b),(5,iv f)],hq [bQ 1 c,bQ 1 d]⟩
def dY(F:KF R)(a b c d):∀ n,qJ a b c d (Au (qI N F (pz 5444) []) n)=(Hm N (Ha F) a b c d n):=Gn fun n e=>(B5 (Qg N (Ha F) a b c d) e:_)
def tT:=B9 N 194 (XW N) ui (fun
|[.imm g h 1 o i,.imm j l 1 p m],[]=>some fun _ k=>Wz N g h o i j l p m (Ha k)
| _,_=>none) fun _ _=>by split;intro R F;exact(B5 (Ze N (Ha F) · _ _ _ _ _ _ _ _) (Ad3 fun a b c d=>(lW ..).trans (dY ..)):_).trans (OL ..).symm;trivial
def EE(N:Nat)(r0:Bool->O R)(b:Bool)(a:LA):O R:=(Aq .i64 (a.drop 20) fun i=>cond ((decide (i<1))==false) (Aq .i64 (a.drop 20) fun j=>cond (cond false true (decide (j>48))) (r0 false) (Aq .i64 (a.drop 19) fun l=>cond ((l != 1)==false) (Aq .i64 (a.drop 20) fun m=>Aq .i64 (a.drop 12) fun o=>r0 (cond false true (decide (m<=o)))) (r0 true))) (r0 false))
def MC(N:Nat)(r0:Bool->O R)(c d f g:Int)(b:Bool)(a:LA)(k0:Int->O R)(q1:O R)(h:Int):O R:=(cond (decide (h<4)) (cond (Ac h 4) (cond (beq (h.toNat*1) 0) (cond ((decide (c<0))==false) (cond (cond false true (decide (c>24))) (r0 false) (k0 (wrap .i64 (h+1)))) (r0 false)) (cond (beq (h.toNat*1) 1) (cond ((decide (d<0))==false) (cond (cond false true (decide (d>24))) (r0 false) (k0 (wrap .i64 (h+1)))) (r0 false)) (cond (beq (h.toNat*1) 2) (cond ((decide (f<0))==false) (cond (cond false true (decide (f>24))) (r0 false) (k0 (wrap .i64 (h+1)))) (r0 false)) (cond (beq (h.toNat*1) 3) (cond ((decide (g<0))==false) (cond (cond false true (decide (g>24))) (r0 false) (k0 (wrap .i64 (h+1)))) (r0 false)) none)))) none) (Aq .i64 (a.drop 19) fun p=>cond ((p != 0)==true) (Aq .i64 (a.drop 19) fun q=>cond ((cond true (q != 1) false)==true) (Aq .i64 (a.drop 19) fun r=>cond (cond true (r != 2) false) (r0 false) q1) q1) q1))
def Rj(r0:Bool->O R)(c d f g:Int)(b:Bool)(a:LA):Nat->Int->O R
|0=>fun _=>none
|n+1=>MC N r0 c d f g b a (Rj r0 c d f g b a n) (EE N r0 b a)
def VC(N:Nat)(r0:Bool->O R)(q0:Int->Int->Int->Int->Int->O R)(a:LA)(b:Bool):O R:=(Aq .i64 (a.drop 10) fun c=>Aq .i64 (a.drop 11) fun d=>Aq .i64 (a.drop 12) fun f=>Aq .i64 (a.drop 15) fun g=>q0 c d f g 0)
def SL:=(Ai fun N a b r0=>VC (R:=R) N r0 (fun c d f g=>Rj N r0 c d f g b a N) a b).1
def dZ(a b r0):(@SL R N a b r0)=(VC N r0 (fun c d f g=>Rj N r0 c d f g b a N) a b):=by rw[SL,(Ai _).2]
def kP:Hints:={H:=hK 1 (hS (hK 1 (hS (hP [1,13,14] hL) hL)) (hJ [1] hL hL))}
def kQ(F:KF R):=J7 Tryz.f104 kP [] [] N F
def Abl(b:Bool)(a:LA)(K:St->O R):=K ⟨[(1,op 0)],hq [bP b 0 a]⟩
def Abm(c d f g:Int)(b:Bool)(a:LA)(K:St->O R):=fun h=>K ⟨[(1,op 0),(13,.agg [iv c,iv d,iv f,iv g]),(14,iv h)],hq [bP b 0 a]⟩
def qK(F:KF R)(b a):Abl b a (A2 (kQ N F (pz 85) []))=(EE N (Cc F) b a):=by kernel_rfl
def qL(F:KF R)(c d f g b a):∀ n,Abm c d f g b a (Au (kQ N F (pz 324) []) n)=(Rj N (Cc F) c d f g b a n):=Gn fun n e=>(KH (MC N (Cc F) c d f g b a) e ((jW ..).trans (qK ..)):_)
def Aer:=B9 N 104 [] kP (fun
|[.pagg a b],[]=>some fun _ k=>SL N a b (Cc k)
| _,_=>none) fun _ _=>by split;intro R F;exact(B5 (VC N (Cc F) · _ _) (Ad3 fun c d f g=>(lW ..).trans (qL ..)):_).trans (dZ ..).symm;trivial
def Ji(N:Nat)(k0:Int->Int->Int->O R)(r0:Bool->O R)(b:LA)(d:Nat)(c:Bool)(f:Int)(a:LA)(j h l:Int)(i:LA):O R:=(cond ((decide (h>0))==true) (Aq .i64 (i.drop 1) fun o=>Bq 2 (a.drop 4) fun p q=>cond (Ac (wrap .i64 (h - 1)) q) (Aq .i64 ((p.drop (((wrap .i64 (h - 1)).toNat)*2)).drop 1) fun r=>cond (cond true (decide (o<r)) false) (r0 false) (Aq .i64 i fun s=>k0 (wrap .i64 (j+s)) f (wrap .i64 (l+1)))) none) (Aq .i64 i fun t=>k0 (wrap .i64 (j+t)) f (wrap .i64 (l+1))))
def Ii(r0:Bool->O R)(b:LA)(d:Nat)(c:Bool)(a:LA)(k0:Int->Int->Int->O R)(q1:Int->Int->Int->Int->LA->O R)(m f g:Int):O R:=(cond (decide (g<f)) (cond (Ac g d) (cond (ble 2 ((b.drop (g.toNat*2)).length)) (cond ((!c)||(A9 ((b.drop (g.toNat*2)).take 2))) (cond ((beq (((b.drop (g.toNat*2)).take 2).length) 2)&&((ble 2 2)&&(!false))) (Aq .i64 (setCells [A6r,A6r] 0 ((b.drop (g.toNat*2)).take 2)) fun u=>Dg N 1 1048576 [.int .i64 u] 1 false true fun v=>cond ((!v)==false) (Aq .i64 ((setCells [A6r,A6r] 0 ((b.drop (g.toNat*2)).take 2)).drop 1) fun w=>Dg N (-1048576) 1048576 [.int .i64 w] 1 false true fun x=>cond (cond false true (!x)) (r0 false) (q1 f m g g (setCells [A6r,A6r] 0 ((b.drop (g.toNat*2)).take 2)))) (r0 false)) none) none) none) none) (Aq .i64 (a.drop 3) fun y=>Aq .i64 (a.drop 2) fun z=>r0 (m==(wrap .i64 (y - z)))))
def Cq(r0:Bool->O R)(b:LA)(d:Nat)(c:Bool)(a:LA):Nat->Int->Int->Int->O R
|0=>fun _ _ _=>none
|n+1=>Ii N r0 b d c a (Cq r0 b d c a n) (fun f=>Ji N (Cq r0 b d c a n) r0 b d c f a)
def M6(N:Nat)(r0:Bool->O R)(q0:LA->Nat->Int->Int->Int->O R)(a:LA)(c:Bool):O R:=(Bq 2 (a.drop 4) fun ab aa=>cond (decide ((aa:Int)>8)) (r0 false) (Bq 2 (a.drop 4) fun b d=>q0 b d 0 (d:Int) 0))
def G1:=(Ai fun N a c r0=>M6 (R:=R) N r0 (fun b d=>Cq N r0 b d c a N) a c).1
def W0(a c r0):(@G1 R N a c r0)=(M6 N r0 (fun b d=>Cq N r0 b d c a N) a c):=by rw[G1,(Ai _).2]
def Ye:Hints:={H:=hK 3 (hS (hK 1 (hS (hP [1,3,11,12,13] (hK 2 (hS (hS (hK 1 (hJ [1,3,4,5,11,12,13] hL hL)) hL) hL))) hL)) hL)}
def BT:Ru:=[LO N]
def Yf(F:KF R):=J7 Tryz.f105 Ye (BT N) [] N F
def WF(b:LA)(d:Nat)(c:Bool)(f:Int)(a:LA)(K:St->O R):=fun j h l i=>K ⟨[(1,op 0),(3,iv j),(4,iv h),(5,op 1),(11,.imm b d 2 false c),(12,iv f),(13,iv l)],hq [bP c 0 a,bQ 0 i]⟩
def Yg(b:LA)(d:Nat)(c:Bool)(a:LA)(K:St->O R):=fun m f g=>K ⟨[(1,op 0),(3,iv m),(11,.imm b d 2 false c),(12,iv f),(13,iv g)],hq [bP c 0 a]⟩
def MD Q0 (F:KF R) (b d c f a):WF b d c f a (A2 (Yf N F (pz 89195781) [Q0]))=(Ji N (Yg b d c a Q0) (Cc F) b d c f a):=by kernel_rfl
def ME(F:KF R)(b d c a):∀ n,Yg b d c a (Au (Yf N F (pz 5444) []) n)=(Cq N (Cc F) b d c a n):=Gn fun n e=>(KH (Ii N (Cc F) b d c a) e (Aan fun f=>(jW ..).trans ((MD ..).trans (ot (Ji _ · _ _ _ _ _ _) e))):_)
def aB:=B9 N 105 (BT N) Ye (fun
|[.pagg a c],[]=>some fun _ k=>G1 N a c (Cc k)
| _,_=>none) fun _ _=>by split;intro R F;exact(B5 (M6 N (Cc F) · _ _) (ld fun b d=>(lW ..).trans (ME ..)):_).trans (W0 ..).symm;trivial
def O2(r0:Bool->O R)(b:LA)(a:Nat)(c d:Bool)(f:Int)(k0:Int->Int->O R)(h g:Int):O R:=(cond (decide (g<h)) (cond (Ac g a) (Aq .i64 (b.drop (g.toNat*1)) fun i=>Dg N 0 (wrap .i64 (f - 1)) [.int .i64 i] 1 false true fun j=>cond ((!j)==false) (cond ((decide (g>0))==true) (cond (Ac (wrap .i64 (g - 1)) a) (Aq .i64 (b.drop (((wrap .i64 (g - 1)).toNat)*1)) fun l=>cond (cond false true (cond true (decide (i<=l)) false)) (r0 false) (k0 h (wrap .i64 (g+1)))) none) (k0 h (wrap .i64 (g+1)))) (r0 false)) none) (r0 true))
def Gg(r0:Bool->O R)(b:LA)(a:Nat)(c d:Bool)(f:Int):Nat->Int->Int->O R
|0=>fun _ _=>none
|n+1=>O2 N r0 b a c d f (Gg r0 b a c d f n)
def V9(N:Nat)(r0:Bool->O R)(q0:Int->Int->O R)(b:LA)(a:Nat)(c d:Bool)(f:Int):O R:=(q0 (a:Int) 0)
def O3:=(Ai fun N b a c d f r0=>V9 (R:=R) N r0 (Gg N r0 b a c d f N) b a c d f).1
def IA(b a c d f r0):(@O3 R N b a c d f r0)=(V9 N r0 (Gg N r0 b a c d f N) b a c d f):=by rw[O3,(Ai _).2]
def OM:Hints:={H:=hK 1 (hS (hK 1 (hS (hP [0,1,7,8,9] hL) hL)) hL)}
def SM:Ru:=[LO N]
def md(F:KF R):=J7 Tryz.f106 OM (SM N) [] N F
def mf(b:LA)(a:Nat)(c d:Bool)(f:Int)(K:St->O R):=fun h g=>K ⟨[(0,.imm b a 1 c d),(1,iv f),(7,.imm b a 1 c d),(8,iv h),(9,iv g)],[]⟩
def aC(F:KF R)(b a c d f):∀ n,mf b a c d f (Au (md N F (pz 324) []) n)=(Gg N (Cc F) b a c d f n):=Gn fun n e=>(B5 (O2 N (Cc F) b a c d f) e:_)
def qM:=B9 N 106 (SM N) OM (fun
|[.imm b a 1 c d,.int .i64 f],[]=>some fun _ k=>O3 N b a c d f (Cc k)
| _,_=>none) fun _ _=>by split;intro R F;exact(B5 (V9 N (Cc F) · _ _ _ _ _) ((lW ..).trans (aC ..)):_).trans (IA ..).symm;trivial
def SN(r0:Bool->O R)(c:Int)(b:Bool)(a:LA):O R:=(Aq .i64 (a.drop 2) fun d=>Aq .i64 (a.drop 3) fun e=>Aq .i64 (a.drop 8) fun f=>Aq .i64 (a.drop 9) fun g=>Dg N d e [.int .i64 f,.int .i64 g] 2 false true fun h=>cond (!h) (r0 false) (Aq .i64 (a.drop 5) fun i=>Aq .i64 (a.drop 13) fun j=>Aq .i64 (a.drop 14) fun l=>Aq .i64 (a.drop 17) fun m=>Dg N 0 1048576 [.int .i64 i,.int .i64 j,.int .i64 l,.int .i64 m] 4 false true fun n=>cond (!n) (r0 false) (Aq .i64 (a.drop 19) fun o=>cond (o==2) (Aq .i64 (a.drop 2) fun p=>Aq .i64 (a.drop 3) fun q=>Aq .i64 (a.drop 21) fun r=>Dg N p q [.int .i64 r] 1 false true fun s=>cond (!s) (r0 false) (cond (ble 22 a.length) (G1 N (a.take 22) b fun t=>cond (t==true) (Bq 1 (a.drop 18) fun u v=>O3 N u v false b c fun w=>r0 (cond true w false)) (r0 false)) none)) (Aq .i64 (a.drop 21) fun x=>cond (x != 0) (r0 false) (cond (ble 22 a.length) (G1 N (a.take 22) b fun y=>cond (y==true) (Bq 1 (a.drop 18) fun z aa=>O3 N z aa false b c fun ab=>r0 (cond true ab false)) (r0 false)) none)))))
def MF(r0:Bool->O R)(c:Int)(b:Bool)(a:LA)(q1:O R):O R:=(Aq .i64 (a.drop 2) fun ac=>Aq .i64 (a.drop 3) fun ad=>Aq .i64 (a.drop 6) fun ae=>Aq .i64 (a.drop 7) fun af=>Aq .i64 (a.drop 16) fun ag=>Dg N 0 1048576 [.int .i64 ac,.int .i64 ad,.int .i64 ae,.int .i64 af,.int .i64 ag] 5 false true fun ah=>cond ((!ah)==false) (Aq .i64 (a.drop 2) fun ai=>Aq .i64 (a.drop 3) fun aj=>cond (cond false true (decide (ai>aj))) (r0 false) q1) (r0 false))
def EF(r0:Bool->O R)(c:Int)(b:Bool)(a:LA):O R:=MF N r0 c b a (SN N r0 c b a)
def VD(r0:Bool->O R)(q0:O R)(a:LA)(b:Bool)(c:Int):O R:=(Dg N 1 24 [.int .i64 c] 1 false true fun ak=>cond ((!ak)==false) (cond (ble 22 a.length) (SL N (a.take 22) b fun al=>cond (cond false true (!al)) (r0 false) q0) none) (r0 false))
def SO:=(Ai fun N a b c r0=>VD (R:=R) N r0 (EF N r0 c b a) a b c).1
def d6(a b c r0):(@SO R N a b c r0)=(VD N r0 (EF N r0 c b a) a b c):=by rw[SO,(Ai _).2]
def kR:Hints:={H:=hK 1 (hJ [1,2] hL (hJ [1,2] hL hL))}
def qN:Ru:=[LO N,Aer N,aB N,qM N]
def kS(F:KF R):=J7 Tryz.f48 kR (qN N) [] N F
def Abn(c:Int)(b:Bool)(a:LA)(K:St->O R):=K ⟨[(1,iv c),(2,op 0)],hq [bP b 0 a]⟩
def Abo(c:Int)(b:Bool)(a:LA)(K:St->O R):=K ⟨[(1,iv c),(2,op 0)],hq [bP b 0 a]⟩
def qO(F:KF R)(c b a):Abn c b a (A2 (kS N F (pz 85) []))=(SN N (Cc F) c b a):=by kernel_rfl
def qP(F:KF R)(c b a):Abo c b a (A2 (kS N F (pz 21) []))=(EF N (Cc F) c b a):=(B5 (MF N (Cc F) c b a) ((jW ..).trans (qO ..)):_)
def Aes:=B9 N 48 (qN N) kR (fun
|[.pagg a b,.int .i64 c],[]=>some fun _ k=>SO N a b c (Cc k)
| _,_=>none) fun _ _=>by split;intro R F;exact(B5 (VD N (Cc F) · _ _ _) ((jW ..).trans (qP ..)):_).trans (d6 ..).symm;trivial
def Hn(N:Nat)(r0:Nat->Nat->LA->Bool->LA->O R)(f:Int)(d:LA)(e:Bool)(b:LA)(g:Bool)(c:LA)(i j:Nat):O R:=(cond ((ble (i+1) 140737488355328)&&(ble ((i+1)*8) 140737488355328)) (cond (ble 3 c.length) (cond ((beq ((c.take 3).length) 3)&&(ble 3 3)) (cond ((ble (j+1) 140737488355328)&&(ble ((j+1)*56) 140737488355328)) (r0 (i+1) (j+1) ((d.take (i*1))++[.int .i64 f]) (e||(g||false)) ((b.take (j*3))++((setCells [.bool false,.nsl,.nsl] 0 (c.take 3)).take 3))) none) none) none) none)
def O4(r0:Nat->Nat->LA->Bool->LA->O R)(q0:Nat->Nat->O R)(f:Int)(c:LA)(g:Bool)(a h:Nat)(d:LA)(e:Bool)(b:LA):O R:=(cond (decide ((a:Int)>=2)) (cond (Ac (wrap .i64 ((a:Int) - 1)) h) (cond (ble 3 ((b.drop (0+(((wrap .i64 ((a:Int) - 1)).toNat)*3))).length)) (cond (Ac (wrap .i64 ((a:Int) - 2)) h) (cond (ble 3 ((b.drop (0+(((wrap .i64 ((a:Int) - 2)).toNat)*3))).length)) (BQ N ((b.drop (0+(((wrap .i64 ((a:Int) - 1)).toNat)*3))).take 3) e ((b.drop (0+(((wrap .i64 ((a:Int) - 2)).toNat)*3))).take 3) e fun n=>cond (Ac (wrap .i64 ((a:Int) - 1)) a) (Aq .i64 (d.drop (0+(((wrap .i64 ((a:Int) - 1)).toNat)*1))) fun o=>Ba N (wrap .i64 (f - o)) fun p=>Pm N n false p false fun l=>cond ((beq 0 0)&&((beq l.length 3)&&(beq 3 3))) (cond (ble 3 c.length) (cond (Ac (wrap .i64 ((a:Int) - 1)) h) (cond (ble 3 ((b.drop (0+(((wrap .i64 ((a:Int) - 1)).toNat)*3))).length)) (BQ N (c.take 3) g ((b.drop (0+(((wrap .i64 ((a:Int) - 1)).toNat)*3))).take 3) e fun q=>cond (Ac (wrap .i64 ((a:Int) - 1)) a) (Aq .i64 (d.drop (0+(((wrap .i64 ((a:Int) - 1)).toNat)*1))) fun r=>cond (Ac (wrap .i64 ((a:Int) - 2)) a) (Aq .i64 (d.drop (0+(((wrap .i64 ((a:Int) - 2)).toNat)*1))) fun s=>Ba N (wrap .i64 (r - s)) fun t=>Pm N q false t false fun m=>cond ((beq 0 0)&&((beq m.length 3)&&(beq 3 3))) (cond (ble 3 l.length) (cond (ble 3 m.length) (Nw N (l.take 3) false (m.take 3) false fun u=>cond (u==0) (cond ((decide ((0:Int)<=(0:Int)))&&((decide (0<=(wrap .i64 ((a:Int) - 1))))&&((decide ((wrap .i64 ((a:Int) - 1))<=(a:Int)))&&(decide ((a:Int)<=(a:Int)))))) (cond ((decide ((0:Int)<=(0:Int)))&&((decide (0<=(wrap .i64 ((a:Int) - 1))))&&((decide ((wrap .i64 ((a:Int) - 1))<=(h:Int)))&&(decide ((h:Int)<=(h:Int)))))) (q0 ((wrap .i64 ((a:Int) - 1)).toNat) ((wrap .i64 ((a:Int) - 1)).toNat)) none) none) (q0 a h)) none) none) none) none) none) none) none) none) none) none) none) none) none) none) (q0 a h))
def E4:=(Ai fun N f c g a h d e b r0=>O4 (R:=R) N r0 (Hn N r0 f d e b g c) f c g a h d e b).1
def Yh(f c g a h d e b r0):(@E4 R N f c g a h d e b r0)=(O4 N r0 (Hn N r0 f d e b g c) f c g a h d e b):=by rw[E4,(Ai _).2]
def EG:Ru:=[SE N,C8 N,Wy N,LX N]
def aD(F:KF R):=J7 Tryz.f123 Agk (EG N) [100000,100001,100002] N F
def aE(f:Int)(d:LA)(e:Bool)(b:LA)(g:Bool)(c:LA)(K:St->O R):=fun i j=>K ⟨[(0,.optr 100000 0),(1,iv f),(5,op 0)],[(100000,bN 0 [.own 100001 0 i,.own 100002 0 j]),(100001,bQ 1 d),(100002,bP e 3 b),(300000,bP g 0 c)]⟩
def PS(F:KF R)(f d e b g c):aE f d e b g c (A2 (aD N F (pz 85) []))=(Hn N (Alk F) f d e b g c):=by kernel_rfl
def EH:=B9 N 123 (EG N) Agk (fun
|[.optr 100000 0,.int .i64 f,.pagg c g],[(100000,⟨false,false,false,false,0,[.own 100001 0 a,.own 100002 0 h],false,none⟩),(100001,⟨false,false,true,false,1,d,false,none⟩),(100002,⟨false,false,true,e,3,b,false,none⟩)]=>some fun _ k=>E4 N f c g a h d e b (Alk k)
| _,_=>none) fun _ _=>by split;intro R F;exact(B5 (O4 N (Alk F) · _ _ _ _ _ _ _ _) ((jW ..).trans (PS ..)):_).trans (Yh ..).symm;trivial
def Jj(r0:LA->Bool->O R)(a:LA)(c:Nat)(b:Bool)(k0:Int->Int->Int->Nat->Nat->LA->LA->Bool->LA->O R)(l m d:Int)(h i:Nat)(g o:LA)(j:Bool)(p:LA):O R:=(cond (decide (d<m)) (cond (Ac d c) (cond (ble 2 ((a.drop (d.toNat*2)).length)) (cond ((!b)||(A9 ((a.drop (d.toNat*2)).take 2))) (cond ((beq (((a.drop (d.toNat*2)).take 2).length) 2)&&((ble 2 2)&&(!false))) (Aq .i64 (setCells [A6r,A6r] 0 ((a.drop (d.toNat*2)).take 2)) fun r=>cond (ble 3 g.length) (Aq .i64 (setCells [A6r,A6r] 0 ((a.drop (d.toNat*2)).take 2)) fun u=>Ba N u fun v=>Aq .i64 ((setCells [A6r,A6r] 0 ((a.drop (d.toNat*2)).take 2)).drop 1) fun w=>Ba N w fun x=>Pm N v false x false fun y=>BQ N (g.take 3) false y false fun q=>cond ((beq q.length 3)&&((ble 3 g.length)&&(!false))) (cond (ble 3 ((setCells g 0 q).length)) (E4 N (wrap .i64 (l+r)) ((setCells g 0 q).take 3) false h i o j p fun z aa ab ac ad=>k0 (wrap .i64 (l+r)) m (wrap .i64 (d+1)) z aa (setCells g 0 q) ab ac ad) none) none) none) none) none) none) none) (r0 [.imm (o.take (h*1)) h 1 false false,.imm (p.take (i*3)) i 3 false j] (j||false)))
def D5(r0:LA->Bool->O R)(a:LA)(c:Nat)(b:Bool):Nat->Int->Int->Int->Nat->Nat->LA->LA->Bool->LA->O R
|0=>fun _ _ _ _ _ _ _ _ _=>none
|n+1=>Jj N r0 a c b (D5 r0 a c b n)
def O5(r0:LA->Bool->O R)(q0:LA->Nat->Int->Int->Int->Nat->Nat->LA->LA->Bool->LA->O R)(f:LA)(b:Bool):O R:=(Aq .i64 (f.drop 2) fun ae=>Ba N 0 fun s=>cond ((beq s.length 3)&&(ble 3 3)) (Aq .i64 (f.drop 2) fun af=>Ba N 0 fun t=>cond ((beq 0 0)&&((beq t.length 3)&&(beq 3 3))) (Bq 2 (f.drop 4) fun a c=>q0 a c af (c:Int) 0 1 1 t [.int .i64 ae] false (setCells [.bool false,.nsl,.nsl] 0 s)) none) none)
def Lt:=(Ai fun N f b r0=>O5 (R:=R) N r0 (fun a c=>D5 N r0 a c b N) f b).1
def Yi(f b r0):(@Lt R N f b r0)=(O5 N r0 (fun a c=>D5 N r0 a c b N) f b):=by rw[Lt,(Ai _).2]
def BU:Hints:={H:=hK 3 (hS (hK 1 (hS (hP [2,3,4,5,18,19,20] hL) hL)) hL),modes:=[(3,0)]}
def EI:Ru:=[C8 N,Wy N,SE N,EH N]
def aF(F:KF R):=J7 Tryz.f66 BU (EI N) [] N F
def aG(a:LA)(c:Nat)(b:Bool)(K:St->O R):=fun l m d h i g o j p=>K ⟨[(2,op 0),(3,op 1),(4,iv l),(5,op 2),(18,.imm a c 2 false b),(19,iv m),(20,iv d)],hq [bN 0 [.nsl,.nsl],bN 0 [A6q 3 h,A6q 4 i],bQ 0 g,bQ 1 o,bP j 3 p]⟩
def PT(F:KF R)(a c b):∀ n,aG a c b (Au (aF N F (pz 5444) []) n)=(D5 N (ov F) a c b n):=Gn fun n e=>(B5 (Jj N (ov F) a c b) e:_)
def d7:=B9 N 66 (EI N) BU (fun
|[.pagg f b],[]=>some fun _ k=>Lt N f b (ov k)
| _,_=>none) fun _ _=>by split;intro R F;exact(B5 (O5 N (ov F) · _ _) (ld fun a c=>(lW ..).trans (PT ..)):_).trans (Yi ..).symm;trivial
def F7(N:Nat)(k0:Int->O R)(r0:Nat->LA->O R)(a:Nat)(b:LA)(k1:Int->Nat->Nat->Int->LA->O R)(c:Int)(i h:Nat)(f:Int)(g:LA):O R:=(cond (decide (f<(h:Int))) (cond (Ac f h) (Aq .i64 (g.drop (i+(f.toNat*1))) fun j=>cond (Ac (wrap .i64 (f - 1)) h) (Aq .i64 (g.drop (i+(((wrap .i64 (f - 1)).toNat)*1))) fun l=>cond (j != l) (cond (Ac f h) (Aq .i64 (g.drop (i+(f.toNat*1))) fun m=>cond (Ac c a) (cond ((beq 1 1)&&((ble ((0+(c.toNat*1))+1) g.length)&&(!false))) (k1 (wrap .i64 (c+1)) i h (wrap .i64 (f+1)) (g.set (0+(c.toNat*1)) (.int .i64 m))) none) none) none) (k1 c i h (wrap .i64 (f+1)) g)) none) none) (cond ((decide (0<=c))&&((decide (c<=(a:Int)))&&((decide ((a:Int)<=(a:Int)))&&(decide ((a:Int)<=(a:Int)))))) (cond ((decide ((0:Int)<=(0:Int)))&&((decide (0<=c))&&((decide (c<=(a:Int)))&&(decide ((a:Int)<=(a:Int)))))) (r0 c.toNat (Dd g (0+(c.toNat*1)) (replicate (a - c.toNat) A6r))) none) none))
def Bv(k0:Int->O R)(r0:Nat->LA->O R)(a:Nat)(b:LA):Nat->Int->Nat->Nat->Int->LA->O R
|0=>fun _ _ _ _ _=>none
|n+1=>F7 N k0 r0 a b (Bv k0 r0 a b n)
def F8(N:Nat)(r0:Nat->LA->O R)(a:Nat)(b:LA)(k0:Int->O R)(q1:Int->Nat->Nat->Int->LA->O R)(d:Int):O R:=(cond (decide (d<(a:Int))) (cond (Ac d a) (Aq .i64 (b.drop (0+(d.toNat*1))) fun o=>cond (Ac (wrap .i64 (d - 1)) a) (Aq .i64 (b.drop (0+(((wrap .i64 (d - 1)).toNat)*1))) fun p=>cond (o==p) (cond ((decide (0<=d))&&((decide (d<=(a:Int)))&&((decide ((a:Int)<=(a:Int)))&&(decide ((a:Int)<=(a:Int)))))) (q1 d (0+(d.toNat*1)) (a - d.toNat) 1 b) none) (k0 (wrap .i64 (d+1)))) none) none) (r0 a b))
def Bj(r0:Nat->LA->O R)(a:Nat)(b:LA):Nat->Int->O R
|0=>fun _=>none
|n+1=>F8 N r0 a b (Bj r0 a b n) (Bv N (Bj r0 a b n) r0 a b N)
def Ij(N:Nat)(r0:Nat->LA->O R)(q0:Int->O R)(a:Nat)(b:LA):O R:=(cond (decide ((a:Int)<2)) (r0 a b) (q0 1))
def Cr:=(Ai fun N a b r0=>Ij (R:=R) N r0 (Bj N r0 a b N) a b).1
def Rk(a b r0):(@Cr R N a b r0)=(Ij N r0 (Bj N r0 a b N) a b):=by rw[Cr,(Ai _).2]
def S8:Hints:={H:=hK 2 (hS (hK 1 (hS (hP [0,3] (hK 1 (hS (hS (hK 1 (hS (hK 1 (hS (hK 1 (hS (hP [0,3,4,5] hL) hL)) hL)) hL)) hL) hL))) hL)) hL),nils:=[(2,1)],modes:=[(2,1)]}
def S9(F:KF R):=J7 Tryz.f126 S8 [] [100000] N F
def Da(F:KF R):Nat->LA->O R:=fun q r=>F (.own 100000 0 q) [(100000,bQ 1 r)]
def MG(a:Nat)(b:LA)(K:St->O R):=fun c i h f g=>K ⟨[(0,.own 100000 0 a),(3,iv c),(4,.own 100000 i h),(5,iv f)],[(100000,bQ 1 g)]⟩
def La(a:Nat)(b:LA)(K:St->O R):=fun d=>K ⟨[(0,.own 100000 0 a),(3,iv d)],[(100000,bQ 1 b)]⟩
def CX Q0 (F:KF R) (a b):∀ n,MG a b (Au (S9 N F (pz 1413547076) [Q0]) n)=(Bv N (La a b Q0) (Da F) a b n):=Gn fun n e=>(B5 (F7 N (La a b Q0) (Da F) a b) e:_)
def CY(F:KF R)(a b):∀ n,La a b (Au (S9 N F (pz 1348) []) n)=(Bj N (Da F) a b n):=Gn fun n e=>(KH (F8 N (Da F) a b) e ((lW ..).trans ((CX ..).trans (ot (Bv _ · _ _ _ _) e))):_)
def Tu:=B9 N 126 [] S8 (fun
|[.own 100000 0 a],[(100000,⟨false,false,true,false,1,b,false,none⟩)]=>some fun _ k=>Cr N a b (Da k)
| _,_=>none) fun _ _=>by split;intro R F;exact(B5 (Ij N (Da F) · _ _) ((lW ..).trans (CY ..)):_).trans (Rk ..).symm;trivial
def FX(N:Nat)(a:Int)(r0:Bool->O R):O R:=(r0 (a != a))
def Zf:=(Ai (@FX R)).1
def IB:@Zf R=@FX R:=(Ai _).2
def qQ:=B9 N 188 [] Eh (fun
|[.int .i64 a],[]=>some fun _ k=>Zf N a (Cc k)
| _,_=>none) fun _ _=>by split;intro R F;dsimp only;rw[IB];kernel_rfl;trivial
def Gh(r0:Int->Bool->O R)(b:LA)(a:Nat)(d f:Bool)(c:Int)(k0:Int->Int->Int->O R)(i g h:Int):O R:=(cond (decide (g<h)) (cond (Ac (wrap .i64 (Int.fdiv (wrap .u64 (wrap .i64 (g+h))) (2 ^ 1))) a) (Aq .i64 (b.drop (((wrap .i64 (Int.fdiv (wrap .u64 (wrap .i64 (g+h))) (2 ^ 1))).toNat)*1)) fun j=>Zc N j c fun l=>cond l (k0 i (wrap .i64 ((wrap .i64 (Int.fdiv (wrap .u64 (wrap .i64 (g+h))) (2 ^ 1)))+1)) h) (k0 i g (wrap .i64 (Int.fdiv (wrap .u64 (wrap .i64 (g+h))) (2 ^ 1))))) none) (cond ((decide (g<i))==true) (cond (Ac g a) (Aq .i64 (b.drop (g.toNat*1)) fun m=>cond ((m==c)==false) (cond (Ac g a) (Aq .i64 (b.drop (g.toNat*1)) fun o=>Zf N o fun p=>cond (p==true) (Zf N c fun q=>r0 g (cond true (cond false true (cond true q false)) false)) (r0 g false)) none) (r0 g true)) none) (r0 g false)))
def Bz(r0:Int->Bool->O R)(b:LA)(a:Nat)(d f:Bool)(c:Int):Nat->Int->Int->Int->O R
|0=>fun _ _ _=>none
|n+1=>Gh N r0 b a d f c (Bz r0 b a d f c n)
def E8(N:Nat)(r0:Int->Bool->O R)(q0:Int->Int->Int->O R)(b:LA)(a:Nat)(d f:Bool)(c:Int):O R:=(q0 (a:Int) 0 (a:Int))
def Dz:=(Ai fun N b a d f c r0=>E8 (R:=R) N r0 (Bz N r0 b a d f c N) b a d f c).1
def Lv(b a d f c r0):(@Dz R N b a d f c r0)=(E8 N r0 (Bz N r0 b a d f c N) b a d f c):=by rw[Dz,(Ai _).2]
def M7:Hints:={H:=hK 3 (hS (hS (hP [0,1,6,7,8] hL) hL) hL)}
def Nz:Ru:=[pu N,qQ N]
def Zg(F:KF R):=J7 Tryz.f132 M7 (Nz N) [] N F
def Eg(F:KF R):Int->Bool->O R:=fun r s=>F (.tup [iv r,.bool s]) []
def Zh(b:LA)(a:Nat)(d f:Bool)(c:Int)(K:St->O R):=fun i g h=>K ⟨[(0,.imm b a 1 d f),(1,iv c),(6,iv i),(7,iv g),(8,iv h)],[]⟩
def U4(F:KF R)(b a d f c):∀ n,Zh b a d f c (Au (Zg N F (pz 1360) []) n)=(Bz N (Eg F) b a d f c n):=Gn fun n e=>(B5 (Gh N (Eg F) b a d f c) e:_)
def BV:=B9 N 132 (Nz N) M7 (fun
|[.imm b a 1 d f,.int .i64 c],[]=>some fun _ k=>Dz N b a d f c (Eg k)
| _,_=>none) fun _ _=>by split;intro R F;exact(B5 (E8 N (Eg F) · _ _ _ _ _) ((lW ..).trans (U4 ..)):_).trans (Lv ..).symm;trivial
def BW(b:LA)(c:Bool)(d:Int)(r0:LA->Bool->O R):O R:=(Bq 1 b fun m n=>Dz N m n false c d fun a o=>cond o (Bq 3 (b.drop 1) fun e p=>cond (Ac a p) (cond (ble 3 ((e.drop (a.toNat*3)).length)) (cond ((beq 0 0)&&((beq (((e.drop (a.toNat*3)).take 3).length) 3)&&(beq 3 3))) (cond (ble 3 (((e.drop (a.toNat*3)).take 3).length)) (r0 (((e.drop (a.toNat*3)).take 3).take 3) c) none) none) none) none) (Bq 3 (b.drop 1) fun i q=>cond (Ac a q) (cond (ble 3 ((i.drop (a.toNat*3)).length)) (Bq 3 (b.drop 1) fun j r=>cond (Ac (wrap .i64 (a - 1)) r) (cond (ble 3 ((j.drop (((wrap .i64 (a - 1)).toNat)*3)).length)) (BQ N ((i.drop (a.toNat*3)).take 3) c ((j.drop (((wrap .i64 (a - 1)).toNat)*3)).take 3) c fun f=>cond ((beq 0 0)&&((beq f.length 3)&&(beq 3 3))) (cond (ble 3 f.length) (Bq 1 b fun s t=>cond (Ac a t) (Aq .i64 (s.drop (a.toNat*1)) fun u=>Bq 1 b fun v w=>cond (Ac (wrap .i64 (a - 1)) w) (Aq .i64 (v.drop (((wrap .i64 (a - 1)).toNat)*1)) fun x=>Ba N (wrap .i64 (u - x)) fun y=>yO N (f.take 3) false y false fun g af=>cond ((beq 0 0)&&((beq g.length 3)&&(beq 3 3))) (Bq 3 (b.drop 1) fun l z=>cond (Ac (wrap .i64 (a - 1)) z) (cond (ble 3 ((l.drop (((wrap .i64 (a - 1)).toNat)*3)).length)) (cond (ble 3 g.length) (Bq 1 b fun aa ab=>cond (Ac (wrap .i64 (a - 1)) ab) (Aq .i64 (aa.drop (((wrap .i64 (a - 1)).toNat)*1)) fun ac=>Ba N (wrap .i64 (d - ac)) fun ad=>Pm N (g.take 3) false ad false fun ae=>Sz N ((l.drop (((wrap .i64 (a - 1)).toNat)*3)).take 3) c ae false fun h=>cond ((beq 0 0)&&((beq h.length 3)&&(beq 3 3))) (cond (ble 3 h.length) (r0 (h.take 3) false) none) none) none) none) none) none) none) none) none) none) none) none) none) none) none))
def Cp:=(Ai (@BW R)).1
def EJ:@Cp R=@BW R:=(Ai _).2
def Xq:=B9 N 74 [BV N,SE N,C8 N,Alt N,Wy N,HT N] Hb (fun
|[.pagg b c,.int .i64 d],[]=>some fun _ k=>Cp N b c d (ov k)
| _,_=>none) fun _ _=>by split;intro R F;dsimp only;rw[EJ];kernel_rfl;trivial
def BX(N:Nat)(k0:Int->Int->LA->O R)(r0:Nat->Bool->LA->O R)(a b:Nat)(c d f:LA)(g s:Int):O R:=(cond (Ac g a) (Aq .u32 (c.drop (0+(g.toNat*1))) fun u=>cond (decide ((wrap .u64 u)<s)) (cond (Ac g a) (cond ((beq 1 1)&&((ble ((0+(g.toNat*1))+1) f.length)&&(!false))) (k0 1 (wrap .i64 (g+1)) (f.set (0+(g.toNat*1)) (.int .u32 (wrap .u32 (wrap .u64 ((wrap .u64 ((wrap .u64 u)+4294967296)) - s)))))) none) none) (cond (Ac g a) (cond ((beq 1 1)&&((ble ((0+(g.toNat*1))+1) f.length)&&(!false))) (k0 0 (wrap .i64 (g+1)) (f.set (0+(g.toNat*1)) (.int .u32 (wrap .u32 (wrap .u64 ((wrap .u64 u) - s)))))) none) none)) none)
def EK(r0:Nat->Bool->LA->O R)(a b:Nat)(c d:LA)(k0:Int->Int->LA->O R)(q1:LA->Int->Int->O R)(t p:Int)(f:LA):O R:=(cond (decide (p<(a:Int))) (cond (decide (p<(b:Int))) (cond (Ac p b) (Aq .u32 (d.drop (0+(p.toNat*1))) fun v=>q1 f p (wrap .u64 (t+(wrap .u64 v)))) none) (q1 f p t)) (Eb N (f.take (a*1)) a false true fun w x=>r0 w true x))
def I6(r0:Nat->Bool->LA->O R)(a b:Nat)(c d:LA):Nat->Int->Int->LA->O R
|0=>fun _ _ _=>none
|n+1=>EK N r0 a b c d (I6 r0 a b c d n) (fun f=>BX N (I6 r0 a b c d n) r0 a b c d f)
def d8(r0:Nat->Bool->LA->O R)(q0:Nat->Nat->LA->LA->Int->Int->LA->O R)(h:LA)(i:Nat)(q j:Bool)(l:LA)(m:Nat)(r o:Bool):O R:=(Wz N h i false j l m false o fun y=>cond (decide (y<0)) (r0 0 false []) (Eb N h i false j fun a c=>Eb N l m false o fun b d=>cond ((decide (0<=(a:Int)))&&((decide ((a:Int)<=(a:Int)))&&((decide ((a:Int)<=140737488355328))&&(decide (((a:Int)*((4:Nat):Int))<=140737488355328))))) (q0 a b c d 0 0 (replicate a (.int .u32 0))) none))
def MH:=(Ai fun N h i q j l m r o r0=>d8 (R:=R) N r0 (fun a b c d=>I6 N r0 a b c d N) h i q j l m r o).1
def kT(h i q j l m r o r0):(@MH R N h i q j l m r o r0)=(d8 N r0 (fun a b c d=>I6 N r0 a b c d N) h i q j l m r o):=by rw[MH,(Ai _).2]
def qR:Hints:={H:=hK 5 (hS (hK 1 (hS (hP [0,1,6,7,8] (hK 1 (hS (hS (hK 1 (hJ [0,1,6,8,9] hL hL)) hL) hL))) hL)) hL),nils:=[(4,1)],modes:=[(2,1),(0,0)]}
def vF:Ru:=[tT N,I4 N]
def qS(F:KF R):=J7 Tryz.f142 qR (vF N) [] N F
def Aet(a b:Nat)(c d f:LA)(K:St->O R):=fun g s=>K ⟨[(0,A6q 0 a),(1,A6q 1 b),(6,A6q 2 a),(8,iv g),(9,.int .u64 s)],hq [bQ 1 c,bQ 1 d,bQ 1 f]⟩
def qT(a b:Nat)(c d:LA)(K:St->O R):=fun t p f=>K ⟨[(0,A6q 0 a),(1,A6q 1 b),(6,A6q 2 a),(7,.int .u64 t),(8,iv p)],hq [bQ 1 c,bQ 1 d,bQ 1 f]⟩
def tU Q0 (F:KF R) (a b c d f):Aet a b c d f (A2 (qS N F (pz 357843205) [Q0]))=(BX N (qT a b c d Q0) (g_ F) a b c d f):=by kernel_rfl
def tV(F:KF R)(a b c d):∀ n,qT a b c d (Au (qS N F (pz 87364) []) n)=(I6 N (g_ F) a b c d n):=Gn fun n e=>(KH (EK N (g_ F) a b c d) e (Aan fun f=>(jW ..).trans ((tU ..).trans (ot (BX _ · _ _ _ _ _ _) e))):_)
def vG:=B9 N 142 (vF N) qR (fun
|[.imm h i 1 q j,.imm l m 1 r o],[]=>some fun _ k=>MH N h i q j l m r o (g_ k)
| _,_=>none) fun _ _=>by split;intro R F;exact(B5 (d8 N (g_ F) · _ _ _ _ _ _ _ _) (Ad3 fun a b c d=>(lW ..).trans (tV ..)):_).trans (kT ..).symm;trivial
def Me(k1:Nat->Int->LA->LA->O R)(r0:Nat->Nat->Bool->LA->LA->O R)(b:LA)(a:Nat)(f c:Bool)(d:Nat)(h:Int)(g i:LA)(q:Nat)(s:LA):O R:=(MH N (s.take (q*1)) q false true (g.take (d*1)) d false true fun x y z=>cond y (cond (Ac (wrap .i64 (Int.tdiv h 32)) a) (Aq .u32 (i.drop (0+(((wrap .i64 (Int.tdiv h 32)).toNat)*1))) fun aa=>cond (decide ((wrap .u64 (Int.tmod h 32))<0)) none (cond (Ac (wrap .i64 (Int.tdiv h 32)) a) (cond ((beq 1 1)&&((ble ((0+(((wrap .i64 (Int.tdiv h 32)).toNat)*1))+1) i.length)&&(!false))) (k1 x (wrap .i64 (h - 1)) (i.set (0+(((wrap .i64 (Int.tdiv h 32)).toNat)*1)) (.int .u32 (Rb .u32 aa (wrap .u32 ((1:Int)*2 ^ (min ((wrap .u64 (Int.tmod h 32)).toNat) 32)))))) z) none) none)) none) (k1 q (wrap .i64 (h - 1)) i s))
def Ta(r0:Nat->Nat->Bool->LA->LA->O R)(b:LA)(a:Nat)(f c:Bool)(d:Nat)(g:LA)(k1:Nat->Int->LA->LA->O R)(q2:Int->LA->Nat->LA->O R)(j:Nat)(h:Int)(i r:LA):O R:=(cond (decide (h>=0)) (MB N (r.take (j*1)) j false true (r.take (j*1)) j false true fun u v=>nX N b a false c h fun ab=>cond (ab==1) (MB N (v.take (u*1)) u false true [.int .u32 1] 1 false true fun ac ad=>q2 h i ac ad) (q2 h i u v)) (Eb N (i.take (a*1)) a false true fun ae af=>Eb N (r.take (j*1)) j false true fun ag ah=>r0 ae ag true af ah))
def Ft(r0:Nat->Nat->Bool->LA->LA->O R)(b:LA)(a:Nat)(f c:Bool)(d:Nat)(g:LA):Nat->Nat->Int->LA->LA->O R
|0=>fun _ _ _ _=>none
|n+1=>Ta N r0 b a f c d g (Ft r0 b a f c d g n) (fun h i=>Me N (Ft r0 b a f c d g n) r0 b a f c d h g i)
def BY(r0:Nat->Nat->Bool->LA->LA->O R)(b:LA)(a:Nat)(f c:Bool)(d:Nat)(g:LA)(q1:Nat->Int->LA->LA->O R):O R:=(cond ((decide (0<=(a:Int)))&&((decide ((a:Int)<=(a:Int)))&&((decide ((a:Int)<=140737488355328))&&(decide (((a:Int)*((4:Nat):Int))<=140737488355328))))) (SK N b a false c fun ai=>q1 0 (wrap .i64 (ai - 1)) (replicate a (.int .u32 0)) []) none)
def P3(r0:Nat->Nat->Bool->LA->LA->O R)(b:LA)(a:Nat)(f c:Bool)(d:Nat)(g:LA):O R:=BY N r0 b a f c d g (Ft N r0 b a f c d g N)
def EL(r0:Nat->Nat->Bool->LA->LA->O R)(q0:Nat->LA->O R)(b:LA)(a:Nat)(f c:Bool)(l:LA)(m:Nat)(p o:Bool):O R:=(Eb N l m false o fun d g=>cond ((d:Int)==0) (r0 0 0 false [] []) (U0 N b a false c fun w aj=>U0 N (g.take (d*1)) d false true fun t ak=>cond (aj==true) (cond (cond true ak false) (cond (t==0) none (Hl N (wrap .u64 (Int.tdiv w t)) fun al am=>cond (t==0) none (Hl N (Int.tmod w t) fun an ao=>r0 al an true am ao))) (q0 d g)) (q0 d g)))
def U5:=(Ai fun N b a f c l m p o r0=>EL (R:=R) N r0 (fun d g=>P3 N r0 b a f c d g) b a f c l m p o).1
def SP(b a f c l m p o r0):(@U5 R N b a f c l m p o r0)=(EL N r0 (fun d g=>P3 N r0 b a f c d g) b a f c l m p o):=by rw[U5,(Ai _).2]
def XX:Hints:={H:=hK 4 (hJ [0,1,5] hL (hK 1 (hS (hK 1 (hS (hP [0,1,4,5,11] (hK 1 (hS (hS (hK 1 (hJ [0,1,4,5,11] hL hL)) hL) hL))) hL)) hL))),nils:=[(4,1),(5,1)],modes:=[(2,1),(2,1),(0,0)]}
def d9:Ru:=[I4 N,yR N,H_ N,Aeo N,vE N,Ait N,vG N]
def FY(F:KF R):=J7 Tryz.f190 XX (d9 N) [] N F
def tW(b:LA)(a:Nat)(f c:Bool)(d:Nat)(h:Int)(g i:LA)(K:St->O R):=fun q s=>K ⟨[(0,.imm b a 1 f c),(1,A6q 0 d),(4,A6q 1 a),(5,A6q 2 q),(11,iv h)],hq [bQ 1 g,bQ 1 i,bQ 1 s]⟩
def XY(b:LA)(a:Nat)(f c:Bool)(d:Nat)(g:LA)(K:St->O R):=fun j h i r=>K ⟨[(0,.imm b a 1 f c),(1,A6q 0 d),(4,A6q 1 a),(5,A6q 2 j),(11,iv h)],hq [bQ 1 g,bQ 1 i,bQ 1 r]⟩
def tX(b:LA)(a:Nat)(f c:Bool)(d:Nat)(g:LA)(K:St->O R):=K ⟨[(0,.imm b a 1 f c),(1,A6q 0 d),(5,A6q 1 0)],hq [bQ 1 g,bQ 1 []]⟩
def iQ Q1 (F:KF R) (b a f c d h g i):tW b a f c d h g i (A2 (FY N F (pz 1431585029) [Q1]))=(Me N (XY b a f c d g Q1) (ju F) b a f c d h g i):=by kernel_rfl
def iR(F:KF R)(b a f c d g):∀ n,XY b a f c d g (Au (FY N F (pz 349508) []) n)=(Ft N (ju F) b a f c d g n):=Gn fun n e=>(KH (Ta N (ju F) b a f c d g) e (ld fun h i=>(jW ..).trans ((iQ ..).trans (ot (Me _ · _ _ _ _ _ _ _ _ _) e))):_)
def iS(F:KF R)(b a f c d g):tX b a f c d g (A2 (FY N F (pz 1365) []))=(P3 N (ju F) b a f c d g):=(B5 (BY N (ju F) b a f c d g) ((lW ..).trans (iR ..)):_)
def d_:=B9 N 190 (d9 N) XX (fun
|[.imm b a 1 f c,.imm l m 1 p o],[]=>some fun _ k=>U5 N b a f c l m p o (ju k)
| _,_=>none) fun _ _=>by split;intro R F;exact(B5 (EL N (ju F) · _ _ _ _ _ _ _ _) (ld fun d g=>(jW ..).trans (iS ..)):_).trans (SP ..).symm;trivial
def Rl(r0:Nat->LA->O R)(k0:Nat->Nat->LA->LA->O R)(l j:Nat)(m o:LA):O R:=(cond (decide ((j:Int)>0)) (U5 N (m.take (l*1)) l false true (o.take (j*1)) j false true fun v p w x q=>k0 j p o q) (r0 l m))
def Es(r0:Nat->LA->O R):Nat->Nat->Nat->LA->LA->O R
|0=>fun _ _ _ _=>none
|n+1=>Rl N r0 (Es r0 n)
def eB(r0:Nat->LA->O R)(q0:Nat->Nat->LA->LA->O R)(a:LA)(b:Nat)(h c:Bool)(d:LA)(f:Nat)(i g:Bool):O R:=(Eb N a b false c fun r s=>Eb N d f false g fun t u=>q0 r t s u)
def eC:=(Ai fun N a b h c d f i g r0=>eB (R:=R) N r0 (Es N r0 N) a b h c d f i g).1
def kU(a b h c d f i g r0):(@eC R N a b h c d f i g r0)=(eB N r0 (Es N r0 N) a b h c d f i g):=by rw[eC,(Ai _).2]
def qU:Hints:={H:=hK 2 (hS (hS (hP [0,1] hL) hL) hL),nils:=[(4,1)],modes:=[(2,1)]}
def vH:Ru:=[I4 N,d_ N]
def Aeu(F:KF R):=J7 Tryz.f189 qU (vH N) [] N F
def Aev(K:St->O R):=fun l j m o=>K ⟨[(0,A6q 0 l),(1,A6q 1 j)],hq [bQ 1 m,bQ 1 o]⟩
def tY(F:KF R):∀ n,Aev (Au (Aeu N F (pz 336) []) n)=(Es N (Cw F) n):=Gn fun n e=>(B5 (Rl N (Cw F)) e:_)
def Aiu:=B9 N 189 (vH N) qU (fun
|[.imm a b 1 h c,.imm d f 1 i g],[]=>some fun _ k=>eC N a b h c d f i g (Cw k)
| _,_=>none) fun _ _=>by split;intro R F;exact(B5 (eB N (Cw F) · _ _ _ _ _ _ _ _) ((lW ..).trans (tY ..)):_).trans (kU ..).symm;trivial
def qV(a:LA)(b:Bool)(c:LA)(d:Bool)(r0:LA->O R):O R:=(Bq 1 (a.drop 1) fun g h=>Bq 1 (c.drop 1) fun i j=>eC N g h false b i j false d fun f l=>Hk N false (l.take (f*1)) f false true fun e=>cond ((beq 0 0)&&((beq e.length 2)&&(beq 2 2))) (cond (ble 2 e.length) (r0 (e.take 2)) none) none)
def nY:=(Ai (@qV R)).1
def kV:@nY R=@qV R:=(Ai _).2
def Aiv:=B9 N 136 [Aiu N,Ny N] Hb (fun
|[.pagg a b,.pagg c d],[]=>some fun _ k=>nY N a b c d (Cl k)
| _,_=>none) fun _ _=>by split;intro R F;dsimp only;rw[kV];kernel_rfl;trivial
def Abp(a:LA)(b:Bool)(r0:LA->O R):O R:=(Bq 1 (a.drop 1) fun d e=>Hk N false d e false b fun c=>cond ((beq 0 0)&&((beq c.length 2)&&(beq 2 2))) (cond (ble 2 c.length) (r0 (c.take 2)) none) none)
def yS:=(Ai (@Abp R)).1
def Abq:@yS R=@Abp R:=(Ai _).2
def Aiw:=B9 N 191 [Ny N] Hb (fun
|[.pagg a b],[]=>some fun _ k=>yS N a b (Cl k)
| _,_=>none) fun _ _=>by split;intro R F;dsimp only;rw[Abq];kernel_rfl;trivial
def qW(a:LA)(c:Bool)(b:LA)(d:Bool)(r0:LA->O R):O R:=(DD a fun l=>DD b fun m=>cond (l==m) (DD a fun n=>Bq 1 (a.drop 1) fun o p=>Bq 1 (b.drop 1) fun q r=>MB N o p false c q r false d fun h s=>Hk N n (s.take (h*1)) h false true fun e=>cond ((beq 0 0)&&((beq e.length 2)&&(beq 2 2))) (cond (ble 2 e.length) (r0 (e.take 2)) none) none) (Bq 1 (a.drop 1) fun t u=>Bq 1 (b.drop 1) fun v w=>MH N t u false c v w false d fun i x y=>cond x (DD a fun z=>Hk N z (y.take (i*1)) i false true fun f=>cond ((beq 0 0)&&((beq f.length 2)&&(beq 2 2))) (cond (ble 2 f.length) (r0 (f.take 2)) none) none) (Bq 1 (b.drop 1) fun aa ab=>Bq 1 (a.drop 1) fun ac ad=>MH N aa ab false d ac ad false c fun j ag ae=>DD b fun af=>Hk N af (ae.take (j*1)) j false true fun g=>cond ((beq 0 0)&&((beq g.length 2)&&(beq 2 2))) (cond (ble 2 g.length) (r0 (g.take 2)) none) none)))
def EM:=(Ai (@qW R)).1
def kW:@EM R=@qW R:=(Ai _).2
def iT:=B9 N 81 [vE N,Ny N,vG N] Hb (fun
|[.pagg a c,.pagg b d],[]=>some fun _ k=>EM N a c b d (Cl k)
| _,_=>none) fun _ _=>by split;intro R F;dsimp only;rw[kW];kernel_rfl;trivial
def MI(a:Int)(r0:LA->O R):O R:=(cond (decide (a<0)) (Hl N (wrap .u64 ((wrap .u64 (wrap .i64 ((0:Int) - (wrap .i64 (a+1)))))+1)) fun d f=>Hk N true (f.take (d*1)) d false true fun b=>cond ((beq 0 0)&&((beq b.length 2)&&(beq 2 2))) (cond (ble 2 b.length) (r0 (b.take 2)) none) none) (Hl N (wrap .u64 a) fun e g=>Hk N false (g.take (e*1)) e false true fun c=>cond ((beq 0 0)&&((beq c.length 2)&&(beq 2 2))) (cond (ble 2 c.length) (r0 (c.take 2)) none) none))
def Ik:=(Ai (@MI R)).1
def ON:@Ik R=@MI R:=(Ai _).2
def FZ:=B9 N 80 [H_ N,Ny N] Hb (fun
|[.int .i64 a],[]=>some fun _ k=>Ik N a (Cl k)
| _,_=>none) fun _ _=>by split;intro R F;dsimp only;rw[ON];kernel_rfl;trivial
def qX(a:LA)(b:Bool)(r0:LA->O R):O R:=(DD a fun d=>Bq 1 (a.drop 1) fun e f=>Hk N (!d) e f false b fun c=>cond ((beq 0 0)&&((beq c.length 2)&&(beq 2 2))) (cond (ble 2 c.length) (r0 (c.take 2)) none) none)
def EN:=(Ai (@qX R)).1
def kX:@EN R=@qX R:=(Ai _).2
def iU:=B9 N 138 [Ny N] Hb (fun
|[.pagg a b],[]=>some fun _ k=>EN N a b (Cl k)
| _,_=>none) fun _ _=>by split;intro R F;dsimp only;rw[kX];kernel_rfl;trivial
def Abr(a:LA)(c:Bool)(b:LA)(d:Bool)(r0:LA->O R):O R:=(cond (ble 2 a.length) (cond (ble 2 b.length) (EN N (b.take 2) d fun f=>EM N (a.take 2) c f false fun e=>cond ((beq 0 0)&&((beq e.length 2)&&(beq 2 2))) (cond (ble 2 e.length) (r0 (e.take 2)) none) none) none) none)
def yT:=(Ai (@Abr R)).1
def Abs:@yT R=@Abr R:=(Ai _).2
def Aix:=B9 N 192 [iU N,iT N] Hb (fun
|[.pagg a c,.pagg b d],[]=>some fun _ k=>yT N a c b d (Cl k)
| _,_=>none) fun _ _=>by split;intro R F;dsimp only;rw[Abs];kernel_rfl;trivial
def SQ(g:LA)(i:Bool)(f:LA)(h:Bool)(r0:LA->LA->Bool->O R):O R:=(Bq 1 (g.drop 1) fun m n=>Bq 1 (f.drop 1) fun o p=>U5 N m n false i o p false h fun j l q r s=>cond (!q) (r0 [.bool false,.nsl] [.bool false,.nsl] false) (DD g fun t=>DD f fun u=>Hk N (!(t==u)) (r.take (j*1)) j false true fun a=>DD g fun v=>Hk N v (s.take (l*1)) l false true fun b=>cond ((beq 0 0)&&((beq a.length 2)&&(beq 2 2))) (cond ((beq 0 0)&&((beq b.length 2)&&(beq 2 2))) (DD b fun w=>cond w (cond (ble 2 b.length) (cond (ble 2 f.length) (yS N (f.take 2) h fun x=>EM N (b.take 2) false x false fun c=>cond ((beq c.length 2)&&((ble 2 b.length)&&(!false))) (DD f fun y=>cond y (cond (ble 2 a.length) (Ik N 1 fun z=>EM N (a.take 2) false z false fun d=>cond ((beq d.length 2)&&((ble 2 a.length)&&(!false))) (cond (ble 2 ((setCells a 0 d).length)) (cond (ble 2 ((setCells b 0 c).length)) (cond ((beq (((setCells a 0 d).take 2).length) 2)&&((ble 2 ((setCells a 0 d).length))&&(!false))) (cond ((beq (((setCells b 0 c).take 2).length) 2)&&((ble 2 ((setCells b 0 c).length))&&(!false))) (cond (ble 2 ((setCells (setCells a 0 d) 0 ((setCells a 0 d).take 2)).length)) (cond (ble 2 ((setCells (setCells b 0 c) 0 ((setCells b 0 c).take 2)).length)) (r0 ((setCells (setCells a 0 d) 0 ((setCells a 0 d).take 2)).take 2) ((setCells (setCells b 0 c) 0 ((setCells b 0 c).take 2)).take 2) true) none) none) none) none) none) none) none) none) (cond (ble 2 a.length) (Ik N 1 fun aa=>yT N (a.take 2) false aa false fun e=>cond ((beq e.length 2)&&((ble 2 a.length)&&(!false))) (cond (ble 2 ((setCells a 0 e).length)) (cond (ble 2 ((setCells b 0 c).length)) (cond ((beq (((setCells a 0 e).take 2).length) 2)&&((ble 2 ((setCells a 0 e).length))&&(!false))) (cond ((beq (((setCells b 0 c).take 2).length) 2)&&((ble 2 ((setCells b 0 c).length))&&(!false))) (cond (ble 2 ((setCells (setCells a 0 e) 0 ((setCells a 0 e).take 2)).length)) (cond (ble 2 ((setCells (setCells b 0 c) 0 ((setCells b 0 c).take 2)).length)) (r0 ((setCells (setCells a 0 e) 0 ((setCells a 0 e).take 2)).take 2) ((setCells (setCells b 0 c) 0 ((setCells b 0 c).take 2)).take 2) true) none) none) none) none) none) none) none) none)) none) none) none) (cond (ble 2 a.length) (cond (ble 2 b.length) (cond ((beq ((a.take 2).length) 2)&&((ble 2 a.length)&&(!false))) (cond ((beq ((b.take 2).length) 2)&&((ble 2 b.length)&&(!false))) (cond (ble 2 ((setCells a 0 (a.take 2)).length)) (cond (ble 2 ((setCells b 0 (b.take 2)).length)) (r0 ((setCells a 0 (a.take 2)).take 2) ((setCells b 0 (b.take 2)).take 2) true) none) none) none) none) none) none)) none) none))
def BZ:=(Ai (@SQ R)).1
def SR:@BZ R=@SQ R:=(Ai _).2
def tZ(F:KF R):LA->LA->Bool->O R:=fun ab ac ad=>F (.tup [.pagg ab false,.pagg ac false,.bool ad]) []
def yU:=B9 N 137 [d_ N,Ny N,Aiw N,iT N,FZ N,Aix N] { H:=hL,modes:=[(3,0),(3,0),(0,0)] } (fun
|[.pagg g i,.pagg f h],[]=>some fun _ k=>BZ N g i f h (tZ k)
| _,_=>none) fun _ _=>by split;intro R F;dsimp only;rw[SR];kernel_rfl;trivial
def EO(r0:LA->O R)(d:Bool)(b:LA)(c:Bool)(a:LA):O R:=(cond (ble 2 b.length) (cond (ble 2 a.length) (nY N (b.take 2) d (a.take 2) c fun h=>cond ((beq 0 0)&&((beq h.length 2)&&(beq 2 2))) (cond (ble 2 b.length) (cond (ble 2 h.length) (BZ N (b.take 2) d (h.take 2) false fun e t ab=>cond ((beq 0 0)&&((beq e.length 2)&&(beq 2 2))) (cond ((beq 0 0)&&((beq t.length 2)&&(beq 2 2))) (cond (ble 2 a.length) (cond (ble 2 h.length) (BZ N (a.take 2) c (h.take 2) false fun f u ac=>cond ((beq 0 0)&&((beq f.length 2)&&(beq 2 2))) (cond ((beq 0 0)&&((beq u.length 2)&&(beq 2 2))) (DD f fun v=>cond v (cond (ble 2 e.length) (EN N (e.take 2) false fun g=>cond (ble 2 f.length) (EN N (f.take 2) false fun s=>cond ((beq g.length 2)&&((ble 2 e.length)&&(!false))) (cond ((beq s.length 2)&&((ble 2 f.length)&&(!false))) (cond (ble 2 ((setCells e 0 g).length)) (Bq 1 ((setCells f 0 s).drop 1) fun l m=>cond ((beq (((setCells e 0 g).take 2).length) 2)&&(ble 2 3)) (cond ((beq 1 1)&&(ble 3 ((setCells [.bool false,.nsl,.nsl] 0 ((setCells e 0 g).take 2)).length))) (cond ((beq 0 0)&&((beq (((setCells [.bool false,.nsl,.nsl] 0 ((setCells e 0 g).take 2)).set 2 (.imm l m 1 false false)).length) 3)&&(beq 3 3))) (cond (ble 3 (((setCells [.bool false,.nsl,.nsl] 0 ((setCells e 0 g).take 2)).set 2 (.imm l m 1 false false)).length)) (r0 (((setCells [.bool false,.nsl,.nsl] 0 ((setCells e 0 g).take 2)).set 2 (.imm l m 1 false false)).take 3)) none) none) none) none) none) none) none) none) none) (cond (ble 2 e.length) (Bq 1 (f.drop 1) fun n o=>cond ((beq ((e.take 2).length) 2)&&(ble 2 3)) (cond ((beq 1 1)&&(ble 3 ((setCells [.bool false,.nsl,.nsl] 0 (e.take 2)).length))) (cond ((beq 0 0)&&((beq (((setCells [.bool false,.nsl,.nsl] 0 (e.take 2)).set 2 (.imm n o 1 false false)).length) 3)&&(beq 3 3))) (cond (ble 3 (((setCells [.bool false,.nsl,.nsl] 0 (e.take 2)).set 2 (.imm n o 1 false false)).length)) (r0 (((setCells [.bool false,.nsl,.nsl] 0 (e.take 2)).set 2 (.imm n o 1 false false)).take 3)) none) none) none) none) none)) none) none) none) none) none) none) none) none) none) none) none)
def VE(r0:LA->O R)(q0:O R)(b:LA)(d:Bool)(a:LA)(c:Bool):O R:=(cond (ble 2 a.length) (HX N (a.take 2) c fun w=>cond (w==0) (HY N fun p=>cond ((beq 0 0)&&((beq p.length 3)&&(beq 3 3))) (cond (ble 3 p.length) (r0 (p.take 3)) none) none) (cond (ble 2 a.length) (HW N (a.take 2) c fun j=>cond ((beq 0 0)&&((beq j.length 2)&&(beq 2 2))) (DD j fun x=>cond ((!x)==true) (Bq 1 (j.drop 1) fun y z=>HZ N y z false false [.int .u32 1] 1 false true fun aa=>cond (cond true aa false) (cond (ble 2 b.length) (HW N (b.take 2) d fun i=>Bq 1 (j.drop 1) fun q r=>cond ((beq i.length 2)&&(ble 2 3)) (cond ((beq 1 1)&&(ble 3 ((setCells [.bool false,.nsl,.nsl] 0 i).length))) (cond ((beq 0 0)&&((beq (((setCells [.bool false,.nsl,.nsl] 0 i).set 2 (.imm q r 1 false false)).length) 3)&&(beq 3 3))) (cond (ble 3 (((setCells [.bool false,.nsl,.nsl] 0 i).set 2 (.imm q r 1 false false)).length)) (r0 (((setCells [.bool false,.nsl,.nsl] 0 i).set 2 (.imm q r 1 false false)).take 3)) none) none) none) none) none) q0) q0) none) none)) none)
def N0:=(Ai fun N b d a c r0=>VE (R:=R) N r0 (EO N r0 d b c a) b d a c).1
def eD(b d a c r0):(@N0 R N b d a c r0)=(VE N r0 (EO N r0 d b c a) b d a c):=by rw[N0,(Ai _).2]
def kY:Hints:={H:=hK 2 (hJ [2,3,4] hL hL),modes:=[(3,0)]}
def qY:Ru:=[qB N,aA N,qA N,Abi N,Aiv N,yU N,iU N]
def Abt(F:KF R):=J7 Tryz.f79 kY (qY N) [] N F
def Abu(d:Bool)(b:LA)(c:Bool)(a:LA)(K:St->O R):=K ⟨[(2,op 0),(3,op 1),(4,op 2)],hq [bP d 0 b,bP c 0 a,bN 0 [.bool false,.nsl,.nsl]]⟩
def qZ(F:KF R)(d b c a):Abu d b c a (A2 (Abt N F (pz 85) []))=(EO N (Cl F) d b c a):=by kernel_rfl
def U6:=B9 N 79 (qY N) kY (fun
|[.pagg b d,.pagg a c],[]=>some fun _ k=>N0 N b d a c (Cl k)
| _,_=>none) fun _ _=>by split;intro R F;exact(B5 (VE N (Cl F) · _ _ _ _) ((jW ..).trans (qZ ..)):_).trans (eD ..).symm;trivial
def iV(a:LA)(b:Bool)(r0:LA->O R):O R:=(cond (ble 2 a.length) (Bq 1 (a.drop 2) fun d e=>N0 N (a.take 2) b [.bool false,.imm d e 1 false b] (b||false) fun c=>cond ((beq 0 0)&&((beq c.length 3)&&(beq 3 3))) (cond (ble 3 c.length) (r0 (c.take 3)) none) none) none)
def Lw:=(Ai (@iV R)).1
def eF:@Lw R=@iV R:=(Ai _).2
def U7:=B9 N 61 [U6 N] Hb (fun
|[.pagg a b],[]=>some fun _ k=>Lw N a b (Cl k)
| _,_=>none) fun _ _=>by split;intro R F;dsimp only;rw[eF];kernel_rfl;trivial
def iW(a:LA)(b:Bool)(r0:Int->O R):O R:=(cond (ble 3 a.length) (Lw N (a.take 3) b fun c=>cond (ble 2 c.length) (HX N (c.take 2) false fun d=>r0 d) none) none)
def B_:=(Ai (@iW R)).1
def eH:@B_ R=@iW R:=(Ai _).2
def q_:=B9 N 25 [U7 N,qB N] Eh (fun
|[.pagg a b],[]=>some fun _ k=>B_ N a b (Ha k)
| _,_=>none) fun _ _=>by split;intro R F;dsimp only;rw[eH];kernel_rfl;trivial
def MJ(a:Int)(r0:LA->O R):O R:=(Ik N a fun c=>Ik N 1 fun d=>N0 N c false d false fun b=>cond ((beq 0 0)&&((beq b.length 3)&&(beq 3 3))) (cond (ble 3 b.length) (r0 (b.take 3)) none) none)
def Bg:=(Ai (@MJ R)).1
def OO:@Bg R=@MJ R:=(Ai _).2
def Mf:=B9 N 30 [FZ N,U6 N] Hb (fun
|[.int .i64 a],[]=>some fun _ k=>Bg N a (Cl k)
| _,_=>none) fun _ _=>by split;intro R F;dsimp only;rw[OO];kernel_rfl;trivial
def EP(N:Nat)(k0:Nat->Int->LA->O R)(r0:Nat->LA->O R)(c:LA)(b:Nat)(f g:Bool)(d:LA)(a:Nat)(h i:Bool)(j:Nat)(k1:Int->Int->Int->LA->O R)(l p m:Int)(o:LA):O R:=(cond (decide (m<(a:Int))) (cond (Ac (wrap .i64 (l+m)) j) (Aq .u32 (o.drop (0+(((wrap .i64 (l+m)).toNat)*1))) fun s=>cond (Ac l b) (Aq .u32 (c.drop (l.toNat*1)) fun t=>cond (Ac m a) (Aq .u32 (d.drop (m.toNat*1)) fun u=>cond (Ac (wrap .i64 (l+m)) j) (cond ((beq 1 1)&&((ble ((0+(((wrap .i64 (l+m)).toNat)*1))+1) o.length)&&(!false))) (k1 l (Int.fdiv (wrap .u64 (p+(wrap .u64 ((wrap .u64 s)+(wrap .u64 ((wrap .u64 t)*(wrap .u64 u))))))) (2 ^ 32)) (wrap .i64 (m+1)) (o.set (0+(((wrap .i64 (l+m)).toNat)*1)) (.int .u32 (wrap .u32 (wrap .u64 (p+(wrap .u64 ((wrap .u64 s)+(wrap .u64 ((wrap .u64 t)*(wrap .u64 u))))))))))) none) none) none) none) none) (cond (Ac (wrap .i64 (l+(a:Int))) j) (cond ((beq 1 1)&&((ble ((0+(((wrap .i64 (l+(a:Int))).toNat)*1))+1) o.length)&&(!false))) (k0 j (wrap .i64 (l+1)) (o.set (0+(((wrap .i64 (l+(a:Int))).toNat)*1)) (.int .u32 (wrap .u32 p)))) none) none))
def Qw(k0:Nat->Int->LA->O R)(r0:Nat->LA->O R)(c:LA)(b:Nat)(f g:Bool)(d:LA)(a:Nat)(h i:Bool)(j:Nat):Nat->Int->Int->Int->LA->O R
|0=>fun _ _ _ _=>none
|n+1=>EP N k0 r0 c b f g d a h i j (Qw k0 r0 c b f g d a h i j n)
def EQ(r0:Nat->LA->O R)(c:LA)(b:Nat)(f g:Bool)(d:LA)(a:Nat)(h i:Bool)(k0:Nat->Int->LA->O R)(q1:Nat->Int->Int->Int->LA->O R)(j:Nat)(q:Int)(r:LA):O R:=(cond (decide (q<(b:Int))) (q1 j q 0 0 r) (Eb N (r.take (j*1)) j false true fun v w=>r0 v w))
def Lb(r0:Nat->LA->O R)(c:LA)(b:Nat)(f g:Bool)(d:LA)(a:Nat)(h i:Bool):Nat->Nat->Int->LA->O R
|0=>fun _ _ _=>none
|n+1=>EQ N r0 c b f g d a h i (Lb r0 c b f g d a h i n) (fun j=>Qw N (Lb r0 c b f g d a h i n) r0 c b f g d a h i j N)
def eI(N:Nat)(r0:Nat->LA->O R)(q0:Nat->Int->LA->O R)(c:LA)(b:Nat)(f g:Bool)(d:LA)(a:Nat)(h i:Bool):O R:=(cond ((decide (0<=(wrap .i64 ((b:Int)+(a:Int)))))&&((decide ((wrap .i64 ((b:Int)+(a:Int)))<=(wrap .i64 ((b:Int)+(a:Int)))))&&((decide ((wrap .i64 ((b:Int)+(a:Int)))<=140737488355328))&&(decide (((wrap .i64 ((b:Int)+(a:Int)))*((4:Nat):Int))<=140737488355328))))) (q0 ((wrap .i64 ((b:Int)+(a:Int))).toNat) 0 (replicate ((wrap .i64 ((b:Int)+(a:Int))).toNat) (.int .u32 0))) none)
def eJ:=(Ai fun N c b f g d a h i r0=>eI (R:=R) N r0 (Lb N r0 c b f g d a h i N) c b f g d a h i).1
def kZ(c b f g d a h i r0):(@eJ R N c b f g d a h i r0)=(eI N r0 (Lb N r0 c b f g d a h i N) c b f g d a h i):=by rw[eJ,(Ai _).2]
def qf:Hints:={H:=hK 2 (hS (hK 1 (hS (hP [0,1,5,6] (hK 1 (hS (hS (hK 1 (hS (hK 1 (hS (hP [0,1,5,6,7,8] hL) hL)) hL)) hL) hL))) hL)) hL),nils:=[(4,1)],modes:=[(2,1)]}
def vI:Ru:=[I4 N]
def qh(F:KF R):=J7 Tryz.f143 qf (vI N) [] N F
def Aew(c:LA)(b:Nat)(f g:Bool)(d:LA)(a:Nat)(h i:Bool)(j:Nat)(K:St->O R):=fun l p m o=>K ⟨[(0,.imm c b 1 f g),(1,.imm d a 1 h i),(5,A6q 0 j),(6,iv l),(7,.int .u64 p),(8,iv m)],hq [bQ 1 o]⟩
def aH(c:LA)(b:Nat)(f g:Bool)(d:LA)(a:Nat)(h i:Bool)(K:St->O R):=fun j q r=>K ⟨[(0,.imm c b 1 f g),(1,.imm d a 1 h i),(5,A6q 0 j),(6,iv q)],hq [bQ 1 r]⟩
def t6 Q0 (F:KF R) (c b f g d a h i j):∀ n,Aew c b f g d a h i j (Au (qh N F (pz 88346692) [Q0]) n)=(Qw N (aH c b f g d a h i Q0) (Cw F) c b f g d a h i j n):=Gn fun n e=>(B5 (EP N (aH c b f g d a h i Q0) (Cw F) c b f g d a h i j) e:_)
def t7(F:KF R)(c b f g d a h i):∀ n,aH c b f g d a h i (Au (qh N F (pz 1348) []) n)=(Lb N (Cw F) c b f g d a h i n):=Gn fun n e=>(KH (EQ N (Cw F) c b f g d a h i) e (Aan fun j=>(lW ..).trans ((t6 ..).trans (ot (Qw _ · _ _ _ _ _ _ _ _ _ _ _) e))):_)
def Aiy:=B9 N 143 (vI N) qf (fun
|[.imm c b 1 f g,.imm d a 1 h i],[]=>some fun _ k=>eJ N c b f g d a h i (Cw k)
| _,_=>none) fun _ _=>by split;intro R F;exact(B5 (eI N (Cw F) · _ _ _ _ _ _ _ _) ((lW ..).trans (t7 ..)):_).trans (kZ ..).symm;trivial
def qk(a:LA)(c:Bool)(b:LA)(d:Bool)(r0:LA->O R):O R:=(DD a fun g=>DD b fun h=>Bq 1 (a.drop 1) fun i j=>Bq 1 (b.drop 1) fun l m=>eJ N i j false c l m false d fun f n=>Hk N (!(g==h)) (n.take (f*1)) f false true fun e=>cond ((beq 0 0)&&((beq e.length 2)&&(beq 2 2))) (cond (ble 2 e.length) (r0 (e.take 2)) none) none)
def Zi:=(Ai (@qk R)).1
def k8:@Zi R=@qk R:=(Ai _).2
def vJ:=B9 N 82 [Aiy N,Ny N] Hb (fun
|[.pagg a c,.pagg b d],[]=>some fun _ k=>Zi N a c b d (Cl k)
| _,_=>none) fun _ _=>by split;intro R F;dsimp only;rw[k8];kernel_rfl;trivial
def ql(a:LA)(b:Bool)(r0:LA->O R):O R:=(cond (ble 3 a.length) (Lw N (a.take 3) b fun c=>Bq 1 (c.drop 2) fun d e=>r0 [.bool false,.imm d e 1 false false]) none)
def Wa:=(Ai (@ql R)).1
def k_:@Wa R=@ql R:=(Ai _).2
def iX:=B9 N 83 [U7 N] Hb (fun
|[.pagg a b],[]=>some fun _ k=>Wa N a b (Cl k)
| _,_=>none) fun _ _=>by split;intro R F;dsimp only;rw[k_];kernel_rfl;trivial
def qq(a:LA)(c:Bool)(b:LA)(d:Bool)(r0:LA->O R):O R:=(cond (ble 3 a.length) (Lw N (a.take 3) c fun f=>cond (ble 2 f.length) (cond (ble 3 b.length) (Lw N (b.take 3) d fun g=>cond (ble 2 g.length) (Zi N (f.take 2) false (g.take 2) false fun h=>cond (ble 3 a.length) (Wa N (a.take 3) c fun i=>cond (ble 3 b.length) (Wa N (b.take 3) d fun j=>Zi N i false j false fun l=>N0 N h false l false fun e=>cond ((beq 0 0)&&((beq e.length 3)&&(beq 3 3))) (cond (ble 3 e.length) (r0 (e.take 3)) none) none) none) none) none) none) none) none)
def ER:=(Ai (@qq R)).1
def ki:@ER R=@qq R:=(Ai _).2
def vK:=B9 N 77 [U7 N,vJ N,iX N,U6 N] Hb (fun
|[.pagg a c,.pagg b d],[]=>some fun _ k=>ER N a c b d (Cl k)
| _,_=>none) fun _ _=>by split;intro R F;dsimp only;rw[ki];kernel_rfl;trivial
def qr(a:LA)(c:Bool)(b:LA)(d:Bool)(r0:LA->O R):O R:=(cond (ble 3 a.length) (Lw N (a.take 3) c fun e=>cond (ble 3 b.length) (Lw N (b.take 3) d fun f=>cond ((beq 0 0)&&((beq e.length 3)&&(beq 3 3))) (cond ((beq 0 0)&&((beq f.length 3)&&(beq 3 3))) (cond (ble 2 e.length) (cond (ble 3 b.length) (Wa N (b.take 3) d fun h=>Zi N (e.take 2) false h false fun i=>cond (ble 2 f.length) (cond (ble 3 a.length) (Wa N (a.take 3) c fun j=>Zi N (f.take 2) false j false fun l=>EM N i false l false fun m=>cond (ble 3 a.length) (Wa N (a.take 3) c fun n=>cond (ble 3 b.length) (Wa N (b.take 3) d fun o=>Zi N n false o false fun p=>N0 N m false p false fun g=>cond ((beq 0 0)&&((beq g.length 3)&&(beq 3 3))) (cond (ble 3 g.length) (r0 (g.take 3)) none) none) none) none) none) none) none) none) none) none) none) none)
def Wb:=(Ai (@qr R)).1
def kj:@Wb R=@qr R:=(Ai _).2
def IC:=B9 N 33 [U7 N,iX N,vJ N,iT N,U6 N] Hb (fun
|[.pagg a c,.pagg b d],[]=>some fun _ k=>Wb N a c b d (Cl k)
| _,_=>none) fun _ _=>by split;intro R F;dsimp only;rw[kj];kernel_rfl;trivial
def qs(a:LA)(b:Bool)(r0:LA->O R):O R:=(cond (ble 3 a.length) (Lw N (a.take 3) b fun d=>cond (ble 2 d.length) (EN N (d.take 2) false fun e=>cond (ble 3 a.length) (Wa N (a.take 3) b fun f=>N0 N e false f false fun c=>cond ((beq 0 0)&&((beq c.length 3)&&(beq 3 3))) (cond (ble 3 c.length) (r0 (c.take 3)) none) none) none) none) none)
def nZ:=(Ai (@qs R)).1
def kp:@nZ R=@qs R:=(Ai _).2
def Aiz:=B9 N 102 [U7 N,iU N,iX N,U6 N] Hb (fun
|[.pagg a b],[]=>some fun _ k=>nZ N a b (Cl k)
| _,_=>none) fun _ _=>by split;intro R F;dsimp only;rw[kp];kernel_rfl;trivial
def qu(a:LA)(c:Bool)(b:LA)(d:Bool)(r0:LA->O R):O R:=(cond (ble 3 a.length) (cond (ble 3 b.length) (nZ N (b.take 3) d fun f=>Wb N (a.take 3) c f false fun e=>cond ((beq 0 0)&&((beq e.length 3)&&(beq 3 3))) (cond (ble 3 e.length) (r0 (e.take 3)) none) none) none) none)
def Tb:=(Ai (@qu R)).1
def kq:@Tb R=@qu R:=(Ai _).2
def ID:=B9 N 47 [Aiz N,IC N] Hb (fun
|[.pagg a c,.pagg b d],[]=>some fun _ k=>Tb N a c b d (Cl k)
| _,_=>none) fun _ _=>by split;intro R F;dsimp only;rw[kq];kernel_rfl;trivial
def MK(a:LA)(c:Bool)(b:LA)(d:Bool)(r0:Int->O R):O R:=(cond (ble 3 a.length) (cond (ble 3 b.length) (Tb N (a.take 3) c (b.take 3) d fun e=>B_ N e false fun f=>r0 f) none) none)
def C6:=(Ai (@MK R)).1
def OP:@C6 R=@MK R:=(Ai _).2
def Wc:=B9 N 21 [ID N,q_ N] Eh (fun
|[.pagg a c,.pagg b d],[]=>some fun _ k=>C6 N a c b d (Ha k)
| _,_=>none) fun _ _=>by split;intro R F;dsimp only;rw[OP];kernel_rfl;trivial
def qz(a:LA)(c:Bool)(b:LA)(d:Bool)(r0:LA->O R):O R:=(cond (ble 3 a.length) (cond (ble 3 b.length) (C6 N (a.take 3) c (b.take 3) d fun g=>cond (decide (g<=0)) (cond (ble 3 a.length) (Lw N (a.take 3) c fun e=>cond ((beq 0 0)&&((beq e.length 3)&&(beq 3 3))) (cond (ble 3 e.length) (r0 (e.take 3)) none) none) none) (cond (ble 3 b.length) (Lw N (b.take 3) d fun f=>cond ((beq 0 0)&&((beq f.length 3)&&(beq 3 3))) (cond (ble 3 f.length) (r0 (f.take 3)) none) none) none)) none) none)
def eK:=(Ai (@qz R)).1
def ku:@eK R=@qz R:=(Ai _).2
def Ai0:=B9 N 134 [Wc N,U7 N] Hb (fun
|[.pagg a c,.pagg b d],[]=>some fun _ k=>eK N a c b d (Cl k)
| _,_=>none) fun _ _=>by split;intro R F;dsimp only;rw[ku];kernel_rfl;trivial
def yV(a b:Int)(r0:LA->O R):O R:=(Ik N a fun d=>Ik N b fun e=>N0 N d false e false fun c=>cond ((beq 0 0)&&((beq c.length 3)&&(beq 3 3))) (cond (ble 3 c.length) (r0 (c.take 3)) none) none)
def iY:=(Ai (@yV R)).1
def rA:@iY R=@yV R:=(Ai _).2
def Alu:=B9 N 31 [FZ N,U6 N] Hb (fun
|[.int .i64 a,.int .i64 b],[]=>some fun _ k=>iY N a b (Cl k)
| _,_=>none) fun _ _=>by split;intro R F;dsimp only;rw[rA];kernel_rfl;trivial
def yW(a:LA)(c:Bool)(b:LA)(d:Bool)(r0:LA->O R):O R:=(cond (ble 3 a.length) (cond (ble 3 b.length) (Nw N (a.take 3) c (b.take 3) d fun g=>cond (decide (g>=0)) (cond (ble 3 a.length) (Zb N (a.take 3) c fun e=>cond ((beq 0 0)&&((beq e.length 3)&&(beq 3 3))) (cond (ble 3 e.length) (r0 (e.take 3)) none) none) none) (cond (ble 3 b.length) (Zb N (b.take 3) d fun f=>cond ((beq 0 0)&&((beq f.length 3)&&(beq 3 3))) (cond (ble 3 f.length) (r0 (f.take 3)) none) none) none)) none) none)
def yX:=(Ai (@yW R)).1
def rC:@yX R=@yW R:=(Ai _).2
def Alv:=B9 N 198 [LX N,iK N] Hb (fun
|[.pagg a c,.pagg b d],[]=>some fun _ k=>yX N a c b d (Cl k)
| _,_=>none) fun _ _=>by split;intro R F;dsimp only;rw[rC];kernel_rfl;trivial
end
end Gx
namespace Go.Proofs
open Go.Shelf
open Go.RowKit Go.Lib Go.Sort
def Tryz.lays189_ren : Go.Shelf.Ren := ⟨fun|189 => 125|125 => 179|257 => 178|128 => 223|129 => 224|294 => 215|295 => 216|296 => 217|297 => 218|298 => 219|299 => 220|216 => 187|300 => 221|301 => 222|328 => 236|329 => 237|330 => 238|331 => 239|332 => 240|215 => 175|343 => 249|n => n, fun|28 => 22|3 => 3|46 => 241|0 => 0|51 => 129|53 => 202|4 => 4|183 => 263|182 => 262|131 => 195|5 => 5|9 => 9|218 => 282|222 => 286|228 => 292|229 => 174|n => n, fun|n => n⟩
def Tryz.lays189 : Go.Proofs.Lays.n189 Tryz.prog Tryz.lays189_ren := {
  mixed := by kernel_rfl
  f125 := Tryz.func179.trans (congrArg some (by kernel_rfl))
  f128 := Tryz.func223.trans (congrArg some (by kernel_rfl))
  f129 := Tryz.func224.trans (congrArg some (by kernel_rfl))
  f189 := Tryz.func125.trans (congrArg some (by kernel_rfl))
  f215 := Tryz.func175.trans (congrArg some (by kernel_rfl))
  f216 := Tryz.func187.trans (congrArg some (by kernel_rfl))
  f257 := Tryz.func178.trans (congrArg some (by kernel_rfl))
  f294 := Tryz.func215.trans (congrArg some (by kernel_rfl))
  f295 := Tryz.func216.trans (congrArg some (by kernel_rfl))
  f296 := Tryz.func217.trans (congrArg some (by kernel_rfl))
  f297 := Tryz.func218.trans (congrArg some (by kernel_rfl))
  f298 := Tryz.func219.trans (congrArg some (by kernel_rfl))
  f299 := Tryz.func220.trans (congrArg some (by kernel_rfl))
  f300 := Tryz.func221.trans (congrArg some (by kernel_rfl))
  f301 := Tryz.func222.trans (congrArg some (by kernel_rfl))
  f328 := Tryz.func236.trans (congrArg some (by kernel_rfl))
  f329 := Tryz.func237.trans (congrArg some (by kernel_rfl))
  f330 := Tryz.func238.trans (congrArg some (by kernel_rfl))
  f331 := Tryz.func239.trans (congrArg some (by kernel_rfl))
  f332 := Tryz.func240.trans (congrArg some (by kernel_rfl))
  f343 := Tryz.func249.trans (congrArg some (by kernel_rfl))
  t0 := Tryz.underlying0
  a0 := Tryz.isAgg0
  z0 := Tryz.sizeOf0
  v0 := Tryz.zeroValue0
  t3 := Tryz.underlying3
  a3 := Tryz.isAgg3
  z3 := Tryz.sizeOf3
  v3 := Tryz.zeroValue3
  t4 := Tryz.underlying4
  a4 := Tryz.isAgg4
  z4 := Tryz.sizeOf4
  v4 := Tryz.zeroValue4
  t5 := Tryz.underlying5
  a5 := Tryz.isAgg5
  z5 := Tryz.sizeOf5
  v5 := Tryz.zeroValue5
  t9 := Tryz.underlying9
  a9 := Tryz.isAgg9
  z9 := Tryz.sizeOf9
  v9 := Tryz.zeroValue9
  t28 := Tryz.underlying22
  a28 := Tryz.isAgg22
  z28 := Tryz.sizeOf22
  v28 := Tryz.zeroValue22
  t46 := Tryz.underlying241
  a46 := Tryz.isAgg241
  z46 := Tryz.sizeOf241
  v46 := Tryz.zeroValue241
  t51 := Tryz.underlying129
  a51 := Tryz.isAgg129
  z51 := Tryz.sizeOf129
  v51 := Tryz.zeroValue129
  t53 := Tryz.underlying202
  a53 := Tryz.isAgg202
  z53 := Tryz.sizeOf202
  v53 := Tryz.zeroValue202
  t131 := Tryz.underlying195
  a131 := Tryz.isAgg195
  z131 := Tryz.sizeOf195
  v131 := Tryz.zeroValue195
  t182 := Tryz.underlying262
  a182 := Tryz.isAgg262
  z182 := Tryz.sizeOf262
  v182 := Tryz.zeroValue262
  t183 := Tryz.underlying263
  a183 := Tryz.isAgg263
  z183 := Tryz.sizeOf263
  v183 := Tryz.zeroValue263
  t218 := Tryz.underlying282
  a218 := Tryz.isAgg282
  z218 := Tryz.sizeOf282
  v218 := Tryz.zeroValue282
  t222 := Tryz.underlying286
  a222 := Tryz.isAgg286
  z222 := Tryz.sizeOf286
  v222 := Tryz.zeroValue286
  t228 := Tryz.underlying292
  a228 := Tryz.isAgg292
  z228 := Tryz.sizeOf292
  v228 := Tryz.zeroValue292
  t229 := Tryz.underlying174
  a229 := Tryz.isAgg174
  z229 := Tryz.sizeOf174
  v229 := Tryz.zeroValue174 }
open Go.Sort Go.RowKit in
def Tryz.slices_Sort_int(blk off cap : Nat)(zs : List Int)(w : World)(hH : Holds (Value.int .i64) w blk off zs.toArray)(hblk : blk < w.heap.size)(hsz : zs.length < 4611686018427387904):
    Calls Tryz.prog 125 #[.slice (some ⟨blk, off, none⟩) zs.length cap] w fun e w' =>
      e = .returned (.tuple #[]) /\ ∃ n os, w' = grow (putRow (Value.int .i64) (Sort.ahead w n) blk off (zs.mergeSort fun x y => decide (x <= y)).toArray) os := Any.slices_Sort_int Tryz.lays189 blk off cap zs w hH hblk hsz
end Go.Proofs
namespace Gx
open Go
section
variable{J:Bool->Nat->Prop}{β:Ch}{h:Ay}{w w':World}
def Step.junk(S:SimH J β h w)(ho:w'.os=w.os)(ht:w'.tape=w.tape)(hu:w'.output=w.output)(hs:w.heap.size<=w'.heap.size)(G:∀ k,k<w.heap.size->w'.heap[k]?=w.heap[k]?):Step J β h w J β h w':=by
 have hz:∀ k,A1 w k<=A1 w' k:=fun k=>by
  by_cases T:k<w.heap.size
  ·simp[A1,G k T]
  ·simp[A1,Azm (Az9 T)]
 have E:Ext J β h w J β h w':=⟨fun _ _ C=>C,fun o k C=>G k (S.jlt o k C),fun b x D=>⟨x,⟨D,rfl⟩,by cases I:x.dead<;>simp⟩,fun b k o _=>hz k⟩
 refine⟨E,⟨fun o k C=>Ax9 (S.jlt o k C) hs,S.jft,S.gl.ext E,fun b x D I L=>?_,fun b x D I L=>(S.mblk b x D I L).keep rfl (fun k o hβ=>G k (Ub S D I hβ)) (fun _ _ _ _ C=>C),S.sep⟩,ho,ht,hu,hs,fun k T _=>G k T,fun k L _=>L,fun _ _ C=>.inl C⟩
 rcases S.blk b x D I L with Y|⟨k,o,cs,ty,fr,Y,h2,h3,h4,h5,h6⟩
 ·exact .inl Y
 ·exact .inr ⟨k,o,cs,ty,fr,Y,by rw[G k (Yy h2)];exact h2,h3,h4,h5.ext E,h6⟩
end
end Gx
namespace Gx
open Go Go.Proofs Go.RowKit
noncomputable section
variable{R:Type}(N:Nat)
def Ake:AV->Int
|.int _ n=>n
|_=>0
def yY:AV->Bool
|.int .i64 n=>decide (-9223372036854775808<=n)&&decide (n<=9223372036854775807)
|_=>false
def Yj(l:List Int):LA:=l.map fun n=>.int .i64 n
def ST(l:List Int):List Int:=l.mergeSort fun x y=>decide (x<=y)
def F9(_N:Nat)(n:Nat)(c:LA)(r0:LA->O R):O R:=cond (ble 1 n&&(ble n 16777216&&(c.take n).all yY)) (r0 (Yj (ST ((c.take n).map Ake))++c.drop n)) none
def Fk:=(Ai (@F9 R)).1
def Fz:@Fk R=@F9 R:=(Ai _).2
def Ec(a:LA)(h:Ay)(k:KF R):O R :=
 match a,h with
|[.own 100000 0 n],[(100000,⟨false,false,true,false,1,c,false,none⟩)]=>Fk N n c fun c'=>k (.tup []) [(100000,bQ 1 c')]
|_,_=>none
def Yk:Tw:=⟨fun {R} a h k=>@Ec R N a h k,fun {R} a h k=>by
 unfold Ec
 split
 ·rename_i n c
  rw[Fz,Fz];unfold F9;cases (ble 1 n&&(ble n 16777216&&(c.take n).all yY))<;>rfl
 ·rfl⟩
end
def Alw{x:AV}(h:yY x=true):∃ n,x=.int .i64 n/\-9223372036854775808<=n/\n<=9223372036854775807:=by
 unfold yY at h
 split at h
 ·simp at h;exact⟨_,rfl,h⟩
 ·cases h
def Abv:∀{c:LA},c.all yY=true->c=Yj (c.map Ake)
|[],_=>rfl
|x::r,h=>by
  simp only[Az3,Axr]at h
  obtain⟨n,rfl,C⟩:=Alw h.1
  have k:=Abv h.2
  simp only[Ayc,Yj,Ake];rw[show List.map (fun n=>AV.int IntKind.i64 n) (List.map Ake r)=r from k.symm]
def FDone.of{J J':Bool->Nat->Prop}{β β':Ch}{h H:Ay}{w w':World}(A:Step J β h w J' β' H w')(I:∀ k,A1 w k<=A1 w' k)(L:∀ b x,Am H b=some x->x.dead=false):FDone ⟨J,β,h,w⟩ J' β' H w' :=
 ⟨A.sim,A.os,A.tape,A.output,A.size,A.frame,A.wr,A.ext.jsub,A.jup,I,fun b x0 x T G Y=>by
  obtain⟨x',⟨D,h2⟩,C⟩:=A.ext.blk b x0 T
  change Am H b=some x at G
  rw[G]at D;simp at D;subst D
  rcases C with C|⟨C,h4,h5,h6⟩
  ·rw[Y]at C;cases C
  ·exact⟨⟨h4,h2⟩,h5,fun _=>h6 (by first | rfl | assumption),C⟩,L⟩
def Yl(N:Nat):xO Tryz.prog 125 (Yk N):=by
 intro args h res h' hh0
 have hh:Ec N args h (fun v h'=>some (v,h'))=some (res,h'):=hh0
 unfold Ec at hh
 split at hh
 ·rename_i n c
  rw[Fz,F9]at hh
  obtain⟨h1,h2⟩:=uc hh
  simp only[Axr]at h1
  obtain⟨a4,a5,a6⟩:=h1
  have a4:=A0t a4
  have a5:=A0t a5
  have a7:=Abv a6
  simp only[Az1,A4d]at h2
  obtain⟨rfl,rfl⟩:=h2
  intro J β w vs S hr
  obtain⟨u,rfl,e1⟩:=Alh hr
  have hb:Am [(100000,(⟨false,false,true,false,1,c,false,none⟩:Blk))] 100000=some ⟨false,false,true,false,1,c,false,none⟩:=rfl
  rw[Rep]at e1
  obtain⟨x,A,cap,⟨D,_⟩,rfl,hcap,e1⟩:=e1
  rw[hb]at D;simp at D;subst D
  rcases e1 with e1|⟨k,o,rfl,e1⟩
  ·omega
  rcases e1 with e1|⟨hβ,g1,g2⟩
  ·cases e1
  rcases S.blk 100000 _ hb rfl rfl with⟨hz,_⟩|⟨k',o',cs,ty,fr,Y,k1,G,k3,k4,k5,_⟩
  ·rw[hβ]at hz;cases hz
  rw[hβ]at Y;simp at Y;obtain⟨rfl,rfl⟩:=Y
  have k3:o+c.length<=cs.size:=k3
  have g2:0+n*1<=c.length:=g2
  have k4':RepCs (J false) w c (fun j=>cs[o+j]?) 0:=k4.1 rfl
  generalize hzs:(c.take n).map Ake=zs at *
  have hzl:zs.length=n:=by rw[<-hzs];simp;omega
  have hcz:∀(q:Nat) m,zs[q]?=some m->cs[o+q]?=some (.int .i64 m):=by
   intro q m hq
   have hql:=(Axw.1 hq).1
   have h9:(c.take n)[q]?=some (.int .i64 m):=by rw[a7];unfold Yj;rw[A0n,hq];rfl
   rw[A3d (by omega)]at h9
   obtain⟨v,hv,T⟩:=k4'.at h9
   rw[RepC]at T;subst T
   simpa using hv
  have hH:Go.Sort.Holds (Value.int .i64) w k (o+0) zs.toArray:=by
   intro q hq
   have hq':q<zs.length:=by simpa using hq
   refine⟨?_,?_⟩
   ·rw[show w.cell? ⟨k,o+0+q,none⟩=cs[o+0+q]? by simp[World.cell?,k1],Ayq,hcz q zs[q] (by simp[hq'])]
    simp[hq']
   ·simp only[World.frozen?,k1]
    have:=G.1.at (o+0+q) (by omega)
    cases fr;simp at this ⊢;omega
  have L:=Tryz.slices_Sort_int k (o+0) cap zs w hH (Yy k1) (by omega)
  rw[hzl,show(zs.mergeSort fun x y=>decide (x<=y))=ST zs from rfl]at L
  refine L.mono ?_
  rintro e w' ⟨rfl,q,os,rfl⟩
  have hnl:(ST zs).length=n:=by unfold ST;rw[A3w];exact hzl
  generalize ST zs=nw at *
  have O:OnlyBlk w (Go.Sort.putRow (Value.int .i64) (Go.Sort.ahead w q) k (o+0) nw.toArray) k cs (Go.Sort.putCells (Value.int .i64) (o+0) nw.toArray cs) ty fr:=by
   refine⟨k1,?_,by simp[Go.Sort.putCells],fun I hq2=>?_,?_,rfl,rfl,rfl⟩
   ·simp[Go.Sort.putRow,Go.Sort.mapBlock,Go.Sort.ahead,Azg,k1,Go.Sort.onCells]
   ·simp[Go.Sort.putRow,Go.Sort.mapBlock,Go.Sort.ahead,Azg,Ne.symm hq2]
   ·simp[Go.Sort.putRow,Go.Sort.mapBlock,Go.Sort.ahead]
  have hlen:(Yj nw++c.drop n).length=c.length:=by unfold Yj;simp;omega
  have hrc:RepCs (J false) w (Yj nw++c.drop n) (fun I=>(Go.Sort.putCells (Value.int .i64) (o+0) nw.toArray cs)[o+I]?) 0:=by
   rw[By]
   intro I x D
   rw[Ax0]
   by_cases hq2:I<n
   ·rw[A22 (by unfold Yj;simp;omega)]at D
    unfold Yj at D
    rw[A0n,Axn (by omega)]at D
    simp at D;subst D
    refine⟨.int .i64 nw[I],?_,by rw[RepC]⟩
    have:o+I<cs.size:=by omega
    simp[Go.Sort.putCells,this,hnl,hq2]
   ·rw[A2z (by unfold Yj;simp;omega)]at D
    have hx':c[I]?=some x:=by
     rw[Ayw,show(Yj nw).length=n by unfold Yj;simp;omega,show n+(I - n)=I by omega]at D;exact D
    obtain⟨v,hv,T⟩:=k4'.at hx'
    have hv:cs[o+I]?=some v:=by simpa using hv
    refine⟨v,?_,T⟩
    have hlt:=(Axw.1 hx').1
    have:o+I<cs.size:=by omega
    have hn2:¬ (o<=o+I/\o+I<o+nw.length):=by omega
    simp only[Go.Sort.putCells,Array.getElem?_mapIdx,hv,Option.map_some,List.size_toArray,Ayq,if_neg hn2]
  have A:=Step.set S hb rfl rfl hβ O (x':=bQ 1 (Yj nw++c.drop n)) rfl rfl rfl hlen ⟨fun _=>hrc,fun hp=>by cases hp⟩ rfl
  have B:=Step.junk A.sim (w':=Go.Sort.grow (Go.Sort.putRow (Value.int .i64) (Go.Sort.ahead w q) k (o+0) nw.toArray) os) rfl rfl rfl (by simp[Go.Sort.grow]) (fun G hk2=>A0r hk2)
  have hz:∀ G,A1 w G<=A1 (Go.Sort.grow (Go.Sort.putRow (Value.int .i64) (Go.Sort.ahead w q) k (o+0) nw.toArray) os) G:=fun G=>by
   by_cases hl:G<w.heap.size
   ·have e:(Go.Sort.grow (Go.Sort.putRow (Value.int .i64) (Go.Sort.ahead w q) k (o+0) nw.toArray) os).heap[G]?=(Go.Sort.putRow (Value.int .i64) (Go.Sort.ahead w q) k (o+0) nw.toArray).heap[G]?:=by
     simp only[Go.Sort.grow];exact A0r (by rw[O.size];exact hl)
    by_cases e2:G=k
    ·subst e2;rw[D3 O.old,D3 (e.trans O.new),O.sz];exact Axo _
    ·simp only[A1,e,O.other G e2];exact Axo _
   ·simp[A1,Azm (Az9 hl)]
  have C:=A.trans B (fun b G o2 _=>hz G)
  refine⟨_,J,β,rfl,FDone.of C hz (fun b x D=>?_),by rw[Rep];exact⟨[],rfl,by rw[Reps]⟩⟩
  change Am [(100000,bQ 1 (Yj nw++c.drop n))] b=some x at D
  rw[Am]at D
  cases hq:beq 100000 b<;>rw[hq]at D<;>simp[Am]at D
  subst D;rfl
 ·simp at hh
noncomputable def B'(N:Nat):=Aus (Yk N) (Yl N)
end Gx
namespace Gx
open Go
mutual
def Aug:AV->AV->Bool
|.int k n,.int k' n'=>Kc k k'&&decide (n=n')
|.bool b,.bool b'=>b==b'
|.str s,.str s'=>s==s'
|.nsl,.nsl=>true
|.imm c n s t o,.imm c' n' s' t' o'=>beq n n'&&(beq s s'&&(t==t'&&(o==o'&&mg c c')))
|.iptr c o,.iptr c' o'=>o==o'&&mg c c'
|.pagg c o,.pagg c' o'=>o==o'&&mg c c'
|.own b f n,.own b' f' n'=>beq b b'&&(beq f f'&&beq n n')
|.optr b f,.optr b' f'=>beq b b'&&beq f f'
|.agg c,.agg c'=>mg c c'
|.tup c,.tup c'=>mg c c'
|.fn f c,.fn f' c'=>beq f f'&&mg c c'
|.nilptr,.nilptr=>true
|.nilfn,.nilfn=>true
|.undef,.undef=>true
|.omap b,.omap b'=>beq b b'
|_,_=>false
def mg:List AV->List AV->Bool
|[],[]=>true
|x::r,y::q=>Aug x y&&mg r q
|_,_=>false
end
mutual
def Aex:∀ a b,Aug a b=true->a=b:=by
 intro a b h
 cases a<;>cases b<;>simp only[Aug,Axr,A3o,beq_iff_eq,Kc,decide_eq_true_eq,reduceCtorEq,Azb]at h
 case int.int=>rw[h.1,h.2]
 case bool.bool=>rw[h]
 case str.str=>rw[h]
 case nsl.nsl=>rfl
 case imm.imm=>rw[h.1,h.2.1,h.2.2.1,h.2.2.2.1,Zj _ _ h.2.2.2.2]
 case iptr.iptr=>rw[h.1,Zj _ _ h.2]
 case pagg.pagg=>rw[h.1,Zj _ _ h.2]
 case own.own=>rw[h.1,h.2.1,h.2.2]
 case optr.optr=>rw[h.1,h.2]
 case agg.agg=>rw[Zj _ _ h]
 case tup.tup=>rw[Zj _ _ h]
 case fn.fn=>rw[h.1,Zj _ _ h.2]
 case nilptr.nilptr=>rfl
 case nilfn.nilfn=>rfl
 case undef.undef=>rfl
 case omap.omap=>rw[h]
def Zj:∀ a b,mg a b=true->a=b:=by
 intro a b h
 cases a<;>cases b<;>simp only[mg,Axr,Azb]at h
 ·rfl
 ·rw[Aex _ _ h.1,Zj _ _ h.2]
end
def Auh:Option (Nat×Nat)->Option (Nat×Nat)->Bool
|none,none=>true
|some (a,b),some (c,d)=>beq a c&&beq b d
|_,_=>false
def Au1(x y:Blk):Bool:=x.dead==y.dead&&(x.sealed==y.sealed&&(x.pure==y.pure&&(x.taint==y.taint&&(beq x.sz y.sz&&(x.mp==y.mp&&(Auh x.ty y.ty&&mg x.cells y.cells))))))
def Apq:Ay->Ay->Bool
|[],[]=>true
|(i,x)::r,(j,y)::q=>beq i j&&(Au1 x y&&Apq r q)
|_,_=>false
def Aq1:∀ a b,Auh a b=true->a=b:=by
 intro a b h
 match a,b,h with
|none,none,_=>rfl
|some (a,b),some (c,d),h=>simp only[Auh,Axr,A3o]at h;rw[h.1,h.2]
|none,some _,h=>cases h
|some _,none,h=>simp[Auh]at h
def Aq2(x y:Blk)(h:Au1 x y=true):x=y:=by
 unfold Au1 at h
 simp only[Axr,A3o,beq_iff_eq]at h
 obtain⟨D,G,I,L,T,Y,k,C⟩:=h
 have:=Aq1 _ _ k;have:=Zj _ _ C
 cases x;cases y;simp_all
def Aey:∀ a b,Apq a b=true->a=b:=by
 intro a
 induction a with
|nil=>intro b h;cases b<;>simp[Apq]at h ⊢
| cons p r k =>
  intro b h
  cases b with
  |nil=>simp[Apq]at h
  |cons q s =>
   obtain⟨i,x⟩:=p;obtain⟨j,y⟩:=q
   simp only[Apq,Axr,A3o]at h
   rw[h.1,Aq2 _ _ h.2.1,k _ h.2.2]
structure Pt where
 f:Nat
 args:List AV
 h:Ay
 res:AV
 h':Ay
def Ai1(P:Program)(p:Pt):Prop:=An3 P p.f p.args p.h p.res p.h'
def vL(P:Program):List Pt->Prop
|[]=>True
|p::r=>Ai1 P p/\vL P r
def SU(f:Nat)(a:LA)(h:Ay):List Pt->Option Pt
|[]=>none
|p::r=>cond (beq p.f f&&(mg p.args a&&Apq p.h h)) (some p) (SU f a h r)
def Alx{R:Type}(k:AV->Ay->O R)(alt:O R):Option Pt->O R
|some p=>k p.res p.h'
|none=>alt
def Aq3 (l:List Pt) (f:Nat) (t:Tw):Tw:=⟨fun {R} a h k=>Alx k (t.runK a h k) (SU f a h l),fun {R} a h k=>by
 cases SU f a h l with
|none=>exact t.eq a h k
| some p=>rfl⟩
def vM{P:Program}{f:Nat}{a:LA}{h:Ay}:∀{l:List Pt},vL P l->∀{p},SU f a h l=some p->An3 P f a h p.res p.h'
|[],_,p,e=>by simp[SU]at e
| q::r,H,p,e=>by
  unfold SU at e
  cases hc:beq q.f f&&(mg q.args a&&Apq q.h h)with
  |false=>rw[hc]at e;exact vM H.2 e
  |true =>
   rw[hc]at e
   simp only[cond_true,Az1]at e
   subst e
   simp only[Axr,A3o]at hc
   have:=Zj _ _ hc.2.1;have:=Aey _ _ hc.2.2
   obtain⟨rfl,_,_⟩:=hc
   subst_vars;exact H.1
def Aod{P:Program}{l:List Pt}(H:vL P l){f:Nat}{t:Tw}(k:xO P f t):xO P f (Aq3 l f t):=by
 intro a h res h' e
 have e:Alx (fun v h'=>some (v,h')) (t.runK a h fun v h'=>some (v,h')) (SU f a h l)=some (res,h'):=e
 cases hq:SU f a h l with
|none=>rw[hq]at e;exact k a h res h' e
|some p =>
  rw[hq]at e
  simp only[Alx,Az1,A4d]at e
  obtain⟨rfl,rfl⟩:=e
  exact vM H hq
def Aq4(P:Program)(muts:Nat->List Bool)(N:Nat)(l:List Pt)(fs:List (Nat×Hints)):Nat->List (Nat×Tw)
|0=>[]
|d+1=>fs.map fun p=>(p.1,Aq3 l p.1 ⟨fun args h k=>ou P muts (Aq4 P muts N l fs d) p.2 N p.1 args h k,fun args h k=>by rw[GW,GW];exact YY ..⟩)
def Aly{P:Program}(D:P.follows .mixedOrders=true)(muts:Nat->List Bool)(N:Nat){l:List Pt}(H:vL P l)(fs:List (Nat×Hints)):∀ d,oc P (Aq4 P muts N l fs d)
|0=>trivial
| d+1=>by
  rw[Aq4]
  have key:∀(q:List (Nat×Hints)),oc P (q.map fun p=>((p.1,Aq3 l p.1 ⟨fun C h k=>ou P muts (Aq4 P muts N l fs d) p.2 N p.1 C h k,fun C h k=>by rw[GW,GW];exact YY ..⟩):Nat×Tw)):=by
   intro q
   induction q with
   |nil=>trivial
   |cons p r G =>
    refine⟨Aod H ?_,G⟩
    intro C h res h' hh
    exact QW (Aly D muts N H fs d) D ((GW ..).symm.trans hh)
  exact key fs
def Aoe(f:Nat):List (Nat×Hints)->Hints
|[]=>⟨.leaf,[],[],[],[]⟩
|p::r=>cond (beq p.1 f) p.2 (Aoe f r)
def vN(p:Pt):Option (AV×Ay)->Bool
|some (v,h)=>Aug p.res v&&Apq p.h' h
|none=>false
def Apr{P:Program}(k:P.follows .mixedOrders=true){muts:Nat->List Bool}{N:Nat}{l:List Pt}(H:vL P l){fs:List (Nat×Hints)}(d:Nat){p:Pt}
  (e:vN p (ou P muts (Aq4 P muts N l fs d) (Aoe p.f fs) N p.f p.args p.h fun v h=>some (v,h))=true):Ai1 P p:=by
 cases hq:ou P muts (Aq4 P muts N l fs d) (Aoe p.f fs) N p.f p.args p.h fun v h=>some (v,h)with
|none=>rw[hq]at e;cases e
|some q =>
  rw[hq]at e
  obtain⟨v,h⟩:=q
  simp only[vN,Axr]at e
  have:=Aex _ _ e.1;have:=Aey _ _ e.2
  subst_vars
  exact QW (Aly k muts N H fs d) k ((GW ..).symm.trans hq)
end Gx
namespace Gx
open Go Go.Proofs
def Aq5{P:Program}{p:Pt}{o:Option (AV×Ay)}(h:∀ v h',o=some (v,h')->An3 P p.f p.args p.h v h')(e:vN p o=true):Ai1 P p:=by
 cases hq:o with
|none=>rw[hq]at e;cases e
|some q =>
  rw[hq]at e
  obtain⟨v,h'⟩:=q
  simp only[vN,Axr]at e
  have k:=Aex _ _ e.1;have C:=Aey _ _ e.2
  unfold Ai1;rw[k,C]
  exact h _ _ hq
def Alz:List Int->Bool
|a::b::r=>decide (a<=b)&&Alz (b::r)
|_=>true
def Agp:∀{l:List Int},Alz l=true->l.Pairwise fun x y=>decide (x<=y)=true
|[],_=>.nil
|[a],_=>by simp
| a::b::r,h=>by
  rw[Alz,Axr,decide_eq_true_eq]at h
  have C:=Agp h.2
  refine .cons (fun t k=>?_) C
  rcases Ax7.1 k with rfl|k
  ·simpa using h.1
  ·have:=(A1v.1 C).1 t k
   simp at this ⊢;omega
def Al0(a:LA)(h:Ay):Option (AV×Ay):=match a,h with
|[.own 100000 0 n],[(100000,⟨false,false,true,false,1,c,false,none⟩)]=>cond (ble 1 n&&(ble n 16777216&&(c.take n).all yY)) (cond (Alz ((c.take n).map Ake)) (some (.tup [],[(100000,bQ 1 (Yj ((c.take n).map Ake)++c.drop n))])) none) none
|_,_=>none
def Al1(a:LA)(h:Ay)(v:AV)(h':Ay)(k:Al0 a h=some (v,h')):An3 Tryz.prog 125 a h v h':=by
 refine Yl 0 _ _ _ _ (show Ec 0 a h (fun v h'=>some (v,h'))=some (v,h')from ?_)
 unfold Al0 at k;unfold Ec
 split at k
 ·rename_i n c
  rw[Fz];unfold F9
  by_cases hc:(ble 1 n&&(ble n 16777216&&(c.take n).all yY))=true
  ·rw[hc,cond_true]at k
   show cond (ble 1 n&&(ble n 16777216&&(c.take n).all yY)) (some (AV.tup [],[(100000,bQ 1 (Yj (ST ((c.take n).map Ake))++c.drop n))])) none=some (v,h')
   rw[hc,cond_true]
   by_cases C:Alz ((c.take n).map Ake)=true
   ·rw[C,cond_true]at k
    rw[show ST ((c.take n).map Ake)=(c.take n).map Ake from List.mergeSort_of_pairwise (Agp C)]
    exact k
   ·rw[Bool.not_eq_true]at C;rw[C]at k;cases k
  ·rw[Bool.not_eq_true]at hc;rw[hc]at k;cases k
 ·cases k
def Aof{p:Pt}(k:p.f=125)(e:vN p (Al0 p.args p.h)=true):Ai1 Tryz.prog p:=Aq5 (fun v h' C=>by rw[k];exact Al1 _ _ _ _ C) e
end Gx
namespace Gx
open Go Go.Proofs
set_option maxRecDepth 100000
set_option linter.unusedVariables false
noncomputable section
def Au2:List (Nat×Hints):=[(23,{H:=hS hL (hS hL (hS hL (hS hL (hS hL (hS (hS hL (hS (hP [1,5,10,11,13,14,57,58] hL) hL)) (hS hL (hS (hS hL (hS (hP [1,10,11,13,14,82,83] (hS hL (hS hL (hS (hS (hS hL (hS hL (hS (hP [1,10,11,13,14,16,82,83,86,87,88] hL) hL))) hL) hL)))) hL)) (hS hL (hS (hS hL (hS (hP [1,10,11,13,14,19,115,116,117] hL) hL)) hL))))))))),modes:=[(3,0),(3,0),(0,0)],cob:=[5,26,27,44,45,52,53,148,149,7000024,7000029,7000034,7000040,7000050,7000055,7000064,7000077,7000078,7000079,7000087,7000107,7000116,7000140,7000153]}),(28,{H:=hL,modes:=[(0,0),(0,0),(3,0),(0,0)]}),(30,{H:=hL,modes:=[(3,0)]}),(33,{H:=hL,modes:=[(3,0)]}),(35,{H:=hL,modes:=[(3,0)]}),(41,{H:=hL,modes:=[(3,0)]}),(47,{H:=hL,modes:=[(3,0)]}),(49,{H:=hL,cob:=[4,14,15]}),(50,{H:=hS hL (hS hL (hS hL (hS hL (hS (hS hL (hS (hP [1,4,5,24,25] hL) hL)) (hS (hS hL (hS (hP [4,5,36,37] hL) hL)) (hS (hS hL (hS (hP [5,47,48] hL) hL)) hL)))))),nils:=[(2,2)],modes:=[(2,2)]}),(51,{H:=hL,modes:=[(3,0)]}),(53,{H:=hL,modes:=[(3,0)]}),(54,{H:=hS hL (hS hL (hS hL (hS (hP [0,1,2,7,8,30,31,32] hL) hL)))}),(56,{H:=hS hL (hS hL (hS (hS hL (hS (hP [0,1,2,6,7,8] hL) hL)) hL))}),(61,{H:=hL,modes:=[(3,0)]}),(66,{H:=hS hL (hS hL (hS hL (hS (hS hL (hS (hP [2,3,4,5,18,19,20] hL) hL)) hL))),modes:=[(3,0)]}),(67,{H:=hL,modes:=[(3,0)],cob:=[2,3]}),(70,{H:=hS hL (hS hL (hS (hS hL (hS (hP [0,1,3,8,9,18,19,20] hL) hL)) (hS hL (hS hL (hS hL (hS (hS hL (hS (hP [3,8,12,41,42,43] hL) hL)) hL)))))),modes:=[(3,0)]}),(71,{H:=hL,modes:=[(3,0)]}),(72,{H:=hL,modes:=[(3,0)]}),(73,{H:=hL,modes:=[(3,0)]}),(74,{H:=hL,modes:=[(3,0)]}),(75,{H:=hS hL (hS hL (hS hL (hS (hS hL (hS (hP [2,3,5,6,11,12,13] hL) hL)) hL)))}),(76,{H:=hL,modes:=[(3,0)]}),(79,{H:=hL,modes:=[(3,0)]}),(80,{H:=hL,modes:=[(3,0)]}),(81,{H:=hL,modes:=[(3,0)]}),(82,{H:=hL,modes:=[(3,0)]}),(83,{H:=hL,modes:=[(3,0)]}),(85,{H:=hL,modes:=[(3,0),(0,0)]}),(86,{H:=hS hL (hS hL (hS (hS hL (hS (hP [2,3,4,5] hL) hL)) hL)),cob:=[1000002,1000003]}),(87,{H:=hS hL (hS hL (hS hL (hS (hP [0,1,2,8,10] hL) hL)))}),(102,{H:=hL,modes:=[(3,0)]}),(103,{H:=hS hL (hS (hS hL (hS (hP [0,1,9,10,11] hL) hL)) hL)}),(104,{H:=hS hL (hS (hS hL (hS (hP [1,13,14] hL) hL)) hL)}),(105,{H:=hS hL (hS hL (hS hL (hS (hS hL (hS (hP [1,3,11,12,13] hL) hL)) hL)))}),(106,{H:=hS hL (hS (hS hL (hS (hP [0,1,7,8,9] hL) hL)) hL)}),(109,{H:=hL,nils:=[(4,2),(7,2)],modes:=[(1,2)]}),(112,{H:=hS hL (hS (hS hL (hS hL (hS hL (hS (hP [0,1,6,7,8,9] hL) hL)))) hL)}),(117,{H:=hL,nils:=[(3,1)],modes:=[(3,0),(1,1)]}),(120,{H:=hL,modes:=[(3,0)]}),(126,{H:=hS hL (hS hL (hS (hS hL (hS (hP [0,3] (hS hL (hS (hS (hS hL (hS (hS hL (hS (hS hL (hS (hP [0,3,4,5] hL) hL)) hL)) hL)) hL) hL))) hL)) hL)),nils:=[(2,1)],modes:=[(2,1)]}),(127,{H:=hS hL (hS hL (hS hL (hS hL (hS (hS (hP [0,1,4,5,6,7] hL) hL) hL)))),modes:=[(3,0)]}),(128,{H:=hS hL (hS hL (hS hL (hS (hS hL (hS (hP [0,1,5] hL) hL)) hL)))}),(132,{H:=hS hL (hS hL (hS hL (hS (hS (hP [0,1,6,7,8] hL) hL) hL)))}),(135,{H:=hS hL (hS hL (hS (hS hL (hS (hP [0,1,5] hL) hL)) hL))}),(138,{H:=hL,modes:=[(3,0)]}),(139,{H:=hL,modes:=[(3,0)]}),(140,{H:=hL,nils:=[(2,1)],modes:=[(2,1)]}),(142,{H:=hS hL (hS hL (hS hL (hS hL (hS hL (hS (hS hL (hS (hP [0,1,6,7,8] hL) hL)) hL))))),nils:=[(4,1)],modes:=[(2,1),(0,0)]}),(143,{H:=hS hL (hS hL (hS (hS hL (hS (hP [0,1,5,6] (hS hL (hS (hS (hS hL (hS (hS hL (hS (hP [0,1,5,6,7,8] hL) hL)) hL)) hL) hL))) hL)) hL)),nils:=[(4,1)],modes:=[(2,1)]}),(149,{H:=hL,modes:=[(3,0)]}),(170,{H:=hL,nils:=[(2,1)],modes:=[(2,1)]}),(180,{H:=hS hL (hS hL (hS (hS (hP [0,3] hL) hL) hL)),nils:=[(2,1)],modes:=[(2,1)]}),(193,{H:=hS hL (hS hL (hS (hS (hP [0,3] hL) hL) hL)),nils:=[(2,1)],modes:=[(2,1)]}),(194,{H:=hS hL (hS hL (hS hL (hS (hS hL (hS (hP [0,1,5] hL) hL)) hL)))}),(195,{H:=hS hL (hS (hS hL (hS (hP [0,1,2,7] hL) hL)) hL),nils:=[(6,2)],modes:=[(2,2)]}),(198,{H:=hL,modes:=[(3,0)]}),(212,{H:=hS hL (hS (hS hL (hS (hP [0,1,7,8] hL) hL)) hL)}),(214,{H:=hS hL (hS hL (hS (hS hL (hS (hP [3,6,7,8] hL) hL)) hL))}),(233,{H:=hL,modes:=[(3,0)]}),(235,{H:=hS hL (hS (hS hL (hS (hP [0,1,7,8] hL) hL)) hL)}),(247,{H:=hL,modes:=[(3,0)]}),(248,{H:=hL,modes:=[(3,0)]})]++[16,21,25,48,52,55,60,68,69,107,108,110,111,113,114,115,116,123,124,125,144,147,169,171,172,173,175,176,177,187,196,197,213].map fun f=>(f,{H:=hL})
structure PtL where
 l:List Pt
 ok:vL Tryz.prog l
def OQ(n:Nat)(c:LA):Blk:=⟨false,false,true,false,n,c,false,none⟩
def PU(s:PtL)(p:Pt)(e:vN p (ou Tryz.prog muts (Aq4 Tryz.prog muts 1000000 s.l Au2 11) (Aoe p.f Au2) 1000000 p.f p.args p.h fun v h=>some (v,h))=true):PtL:=⟨p::s.l,Apr follows s.ok _ e,s.ok⟩
def Au3(s:PtL)(p:Pt)(e:Ai1 Tryz.prog p):PtL:=⟨p::s.l,e,s.ok⟩
def pl:PtL:=⟨[],trivial⟩
def Aws:=PU pl ⟨66,[.pagg [.str [],iv 0,iv 10,iv 30,.imm [iv 20,iv 4] 1 2 false false,iv 0,iv 100,iv 100,iv 30,iv 30,iv 0,iv 0,iv 0,iv 50,iv 50,iv 0,iv 0,iv 0,.nsl,iv 0,iv 1,iv 0] false],[],.pagg [.imm [iv 10,iv 30] 2 1 false false,.imm [.bool false,.imm [] 0 1 false false,.imm [.int .u32 1] 1 1 false false,.bool true,.imm [.int .u32 80] 1 1 false false,.imm [.int .u32 1] 1 1 false false] 2 3 false false] false,[]⟩ (by kernel_rfl)
def Awt:=Au3 Aws ⟨125,[.own 100000 0 2],[(100000,OQ 1 [iv 10,iv 30])],.tup [],[(100000,OQ 1 [iv 10,iv 30])]⟩ (Aof (by kernel_rfl) (by kernel_rfl))
def Aui:Ay:=[(100000,OQ 0 [.bool false,.imm [.int .u32 5] 1 1 false false,.imm [.int .u32 1] 1 1 false false]),(100001,OQ 0 [.imm [iv 10,iv 30] 2 1 false false,.imm [.bool false,.imm [] 0 1 false false,.imm [.int .u32 1] 1 1 false false,.bool true,.imm [.int .u32 80] 1 1 false false,.imm [.int .u32 1] 1 1 false false] 2 3 false false]),(100002,OQ 0 [.bool false,.imm [] 0 1 false false,.imm [.int .u32 1] 1 1 false false]),(100003,⟨false,false,false,false,0,[.fn 68 [.optr 100002 0,.optr 100004 0,.optr 100005 0,.optr 100006 0]],false,none⟩),(100004,OQ 0 [.str [],iv 0,iv 10,iv 30,.imm [iv 20,iv 4] 1 2 false false,iv 0,iv 100,iv 100,iv 30,iv 30,iv 0,iv 0,iv 0,iv 50,iv 50,iv 0,iv 0,iv 0,.nsl,iv 0,iv 1,iv 0]),(100005,⟨false,false,false,false,0,[iv 30],false,none⟩),(100006,⟨false,false,false,false,0,[iv 10],false,none⟩)]
def Awu:=PU Awt ⟨71,[iv 10,.optr 100000 0,.optr 100001 0,.optr 100002 0,.optr 100003 0],Aui,.pagg [.bool false,.imm [.int .u32 50] 1 1 false false,.imm [.int .u32 1] 1 1 false false] false,Aui⟩ (by kernel_rfl)
def Awv:=PU Awu ⟨71,[iv 30,.optr 100000 0,.optr 100001 0,.optr 100002 0,.optr 100003 0],Aui,.pagg [.bool false,.imm [.int .u32 70] 1 1 false false,.imm [.int .u32 1] 1 1 false false] false,Aui⟩ (by kernel_rfl)
def Aww:=PU Awv ⟨75,[.pagg [.imm [iv 10,iv 30] 2 1 false false,.imm [.bool false,.imm [.int .u32 50] 1 1 false false,.imm [.int .u32 1] 1 1 false false,.bool false,.imm [.int .u32 70] 1 1 false false,.imm [.int .u32 1] 1 1 false false] 2 3 false false] false,.pagg [.bool false,.imm [] 0 1 false false,.imm [.int .u32 1] 1 1 false false] false],[],iv 30,[]⟩ (by kernel_rfl)
def Awx:=PU Aww ⟨28,[.pagg [.str [],iv 0,iv 10,iv 30,.imm [iv 20,iv 4] 1 2 false false,iv 0,iv 100,iv 100,iv 30,iv 30,iv 0,iv 0,iv 0,iv 50,iv 50,iv 0,iv 0,iv 0,.nsl,iv 0,iv 1,iv 0] false,iv 0,iv 100,.pagg [.bool false,.imm [.int .u32 5] 1 1 false false,.imm [.int .u32 1] 1 1 false false] false,.pagg [.bool false,.imm [] 0 1 false false,.imm [.int .u32 1] 1 1 false false] false],[],.tup [iv 30,iv 0,.pagg [.bool false,.imm [.int .u32 70] 1 1 false false,.imm [.int .u32 1] 1 1 false false] false,iv 0],[]⟩ (by kernel_rfl)
def Awy:=PU Awx ⟨66,[.pagg [.str [],iv 0,iv 10,iv 30,.imm [iv 20,iv 4] 1 2 false false,iv 0,iv 100,iv 100,iv 30,iv 30,iv 0,iv 0,iv 0,iv 50,iv 50,iv 0,iv 0,iv 0,.imm [] 0 1 false false,iv 0,iv 1,iv 0] false],[],.pagg [.imm [iv 10,iv 30] 2 1 false false,.imm [.bool false,.imm [] 0 1 false false,.imm [.int .u32 1] 1 1 false false,.bool true,.imm [.int .u32 80] 1 1 false false,.imm [.int .u32 1] 1 1 false false] 2 3 false false] false,[]⟩ (by kernel_rfl)
def Awz:=PU Awy ⟨149,[.iptr [.str [],iv 0,iv 10,iv 30,.imm [iv 20,iv 4] 1 2 false false,iv 0,iv 100,iv 100,iv 30,iv 30,iv 0,iv 0,iv 0,iv 50,iv 50,iv 0,iv 0,iv 0,.imm [] 0 1 false false,iv 0,iv 1,iv 0,iv 1,.imm [.bool false,.imm [.int .u32 5] 1 1 false false,.imm [.int .u32 1] 1 1 false false] 1 3 false true,.imm [.bool false,.imm [] 0 1 false false,.imm [.int .u32 1] 1 1 false false] 1 3 false true,.imm [iv 10,iv 30] 2 1 false false,.imm [.bool false,.imm [] 0 1 false false,.imm [.int .u32 1] 1 1 false false,.bool true,.imm [.int .u32 80] 1 1 false false,.imm [.int .u32 1] 1 1 false false] 2 3 false false,.imm [] 0 2 false true,.imm [] 0 2 false true,.imm [] 0 2 false true,.imm [] 0 2 false true,.imm [] 0 2 false true,.imm [] 0 2 false true,.imm [] 0 2 false true,.nsl,.nsl,.nsl,.nsl,.nsl,.nsl,.nsl,.nsl,.nsl,.nsl,.nsl,.nsl,.nsl,.nsl,.nsl,.nsl,.nsl] true,iv 0],[],.pagg [.bool false,.imm [] 0 1 false false,.imm [.int .u32 1] 1 1 false false] false,[]⟩ (by kernel_rfl)
def Aw0:=PU Awz ⟨247,[.iptr [.str [],iv 0,iv 10,iv 30,.imm [iv 20,iv 4] 1 2 false false,iv 0,iv 100,iv 100,iv 30,iv 30,iv 0,iv 0,iv 0,iv 50,iv 50,iv 0,iv 0,iv 0,.imm [] 0 1 false false,iv 0,iv 1,iv 0,iv 1,.imm [.bool false,.imm [.int .u32 5] 1 1 false false,.imm [.int .u32 1] 1 1 false false] 1 3 false true,.imm [.bool false,.imm [] 0 1 false false,.imm [.int .u32 1] 1 1 false false] 1 3 false true,.imm [iv 10,iv 30] 2 1 false false,.imm [.bool false,.imm [] 0 1 false false,.imm [.int .u32 1] 1 1 false false,.bool true,.imm [.int .u32 80] 1 1 false false,.imm [.int .u32 1] 1 1 false false] 2 3 false false,.imm [] 0 2 false true,.imm [] 0 2 false true,.imm [] 0 2 false true,.imm [] 0 2 false true,.imm [] 0 2 false true,.imm [] 0 2 false true,.imm [] 0 2 false true,.nsl,.nsl,.nsl,.nsl,.nsl,.nsl,.nsl,.nsl,.nsl,.nsl,.nsl,.nsl,.nsl,.nsl,.nsl,.nsl,.nsl] true,iv 0,iv 10],[],.pagg [.bool false,.imm [.int .u32 50] 1 1 false false,.imm [.int .u32 1] 1 1 false false] false,[]⟩ (by kernel_rfl)
def Aw1:=PU Aw0 ⟨247,[.iptr [.str [],iv 0,iv 10,iv 30,.imm [iv 20,iv 4] 1 2 false false,iv 0,iv 100,iv 100,iv 30,iv 30,iv 0,iv 0,iv 0,iv 50,iv 50,iv 0,iv 0,iv 0,.imm [] 0 1 false false,iv 0,iv 1,iv 0,iv 1,.imm [.bool false,.imm [.int .u32 5] 1 1 false false,.imm [.int .u32 1] 1 1 false false] 1 3 false true,.imm [.bool false,.imm [] 0 1 false false,.imm [.int .u32 1] 1 1 false false] 1 3 false true,.imm [iv 10,iv 30] 2 1 false false,.imm [.bool false,.imm [] 0 1 false false,.imm [.int .u32 1] 1 1 false false,.bool true,.imm [.int .u32 80] 1 1 false false,.imm [.int .u32 1] 1 1 false false] 2 3 false false,.imm [] 0 2 false true,.imm [] 0 2 false true,.imm [] 0 2 false true,.imm [] 0 2 false true,.imm [] 0 2 false true,.imm [] 0 2 false true,.imm [] 0 2 false true,.nsl,.nsl,.nsl,.nsl,.nsl,.nsl,.nsl,.nsl,.nsl,.nsl,.nsl,.nsl,.nsl,.nsl,.nsl,.nsl,.nsl] true,iv 0,iv 30],[],.pagg [.bool false,.imm [.int .u32 70] 1 1 false false,.imm [.int .u32 1] 1 1 false false] false,[]⟩ (by kernel_rfl)
def Av7:Ay:=[(100000,OQ 1 [iv 30,iv 10,iv 30]),(100001,⟨false,false,false,false,0,[.iptr [.str [],iv 0,iv 10,iv 30,.imm [iv 20,iv 4] 1 2 false false,iv 0,iv 100,iv 100,iv 30,iv 30,iv 0,iv 0,iv 0,iv 50,iv 50,iv 0,iv 0,iv 0,.imm [] 0 1 false false,iv 0,iv 1,iv 0,iv 1,.imm [.bool false,.imm [.int .u32 5] 1 1 false false,.imm [.int .u32 1] 1 1 false false] 1 3 false true,.imm [.bool false,.imm [] 0 1 false false,.imm [.int .u32 1] 1 1 false false] 1 3 false true,.imm [iv 10,iv 30] 2 1 false false,.imm [.bool false,.imm [] 0 1 false false,.imm [.int .u32 1] 1 1 false false,.bool true,.imm [.int .u32 80] 1 1 false false,.imm [.int .u32 1] 1 1 false false] 2 3 false false,.imm [] 0 2 false true,.imm [] 0 2 false true,.imm [] 0 2 false true,.imm [] 0 2 false true,.imm [] 0 2 false true,.imm [] 0 2 false true,.imm [] 0 2 false true,.nsl,.nsl,.nsl,.nsl,.nsl,.nsl,.nsl,.nsl,.nsl,.nsl,.nsl,.nsl,.nsl,.nsl,.nsl,.nsl,.nsl] true],false,none⟩),(100002,⟨false,false,false,false,0,[iv 0],false,none⟩),(100003,OQ 0 [.bool false,.imm [] 0 1 false false,.imm [.int .u32 1] 1 1 false false])]
def Au4:=PU Aw1 ⟨70,[iv 10,iv 30,.own 100000 0 3,.fn 248 [.optr 100001 0,.optr 100002 0,.optr 100003 0]],Av7,.pagg [.imm [iv 10,iv 30] 2 1 false false,.imm [.bool false,.imm [.int .u32 50] 1 1 false false,.imm [.int .u32 1] 1 1 false false,.bool false,.imm [.int .u32 70] 1 1 false false,.imm [.int .u32 1] 1 1 false false] 2 3 false false] false,Av7⟩ (by kernel_rfl)
def Av8:Ay:=[(100004,OQ 7 []),(100005,OQ 7 []),(100006,OQ 7 []),(100007,OQ 7 []),(100008,OQ 7 []),(100009,OQ 2 []),(100010,OQ 2 []),(100011,OQ 2 []),(100012,OQ 2 []),(100013,OQ 2 []),(100014,OQ 2 []),(100015,OQ 2 [])]
def Av9:Ay:=[(100000,⟨false,false,false,false,0,[.optr 100001 0,.imm [iv (-1)] 1 1 false true,.own 100002 0 2,.own 100003 0 2,.own 100004 0 0,.own 100005 0 0,.own 100006 0 0,.own 100007 0 0,.own 100008 0 0,.nsl,.nsl,.nsl,.nsl,.nsl,.nsl,.nsl,.nsl,.nsl,.nsl,.nsl,.nsl,.nsl,.nsl,.nsl,.nsl,.nsl,.nsl],false,none⟩),(100001,⟨false,false,false,false,0,[.str [],iv 0,iv 10,iv 30,.imm [iv 20,iv 4] 1 2 false false,iv 0,iv 100,iv 100,iv 30,iv 30,iv 0,iv 0,iv 0,iv 50,iv 50,iv 0,iv 0,iv 0,.imm [] 0 1 false false,iv 0,iv 1,iv 0,iv 1,.imm [.bool false,.imm [.int .u32 5] 1 1 false false,.imm [.int .u32 1] 1 1 false false] 1 3 false true,.imm [.bool false,.imm [] 0 1 false false,.imm [.int .u32 1] 1 1 false false] 1 3 false true,.imm [iv 10,iv 30] 2 1 false false,.imm [.bool false,.imm [] 0 1 false false,.imm [.int .u32 1] 1 1 false false,.bool true,.imm [.int .u32 80] 1 1 false false,.imm [.int .u32 1] 1 1 false false] 2 3 false false,.own 300000 0 1,.own 100010 0 0,.own 100011 0 0,.own 100012 0 0,.own 100013 0 0,.own 100014 0 0,.own 100015 0 0,.nsl,.nsl,.nsl,.nsl,.nsl,.nsl,.nsl,.nsl,.nsl,.nsl,.nsl,.nsl,.nsl,.nsl,.nsl,.nsl,.nsl],false,none⟩),(100002,OQ 7 [.bool true,.bool false,.imm [] 0 1 false false,.imm [.int .u32 1] 1 1 false false,iv 0,iv 0,.bool false,.bool false,.bool false,.nsl,.nsl,iv 0,iv 0,.bool false]),(100003,OQ 7 [.bool true,.bool false,.imm [] 0 1 false false,.imm [.int .u32 1] 1 1 false false,iv 0,iv 0,.bool false,.bool true,.bool false,.imm [.int .u32 20] 1 1 false false,.imm [.int .u32 1] 1 1 false false,iv 0,iv 0,.bool true]),(100004,OQ 7 []),(100005,OQ 7 []),(100006,OQ 7 []),(100007,OQ 7 []),(100008,OQ 7 []),(100010,OQ 2 []),(100011,OQ 2 []),(100012,OQ 2 []),(100013,OQ 2 []),(100014,OQ 2 []),(100015,OQ 2 []),(300000,OQ 2 [.imm [iv 10,iv 30] 2 1 false false,.imm [.bool false,.imm [.int .u32 50] 1 1 false false,.imm [.int .u32 1] 1 1 false false,.bool false,.imm [.int .u32 70] 1 1 false false,.imm [.int .u32 1] 1 1 false false] 2 3 false false])]
def Au5:=PU Au4 ⟨112,[.optr 100000 0,iv 0,.pagg [iv 2,iv 1] false,.pagg [.bool true,.bool true,.imm [.int .u32 50] 1 1 false false,.imm [.int .u32 1] 1 1 false false,iv 0,iv 0,.bool true] false],(100000,⟨false,false,false,false,0,[.optr 100001 0,.imm [iv (-1)] 1 1 false true,.own 100002 0 2,.own 100003 0 2,.own 100004 0 0,.own 100005 0 0,.own 100006 0 0,.own 100007 0 0,.own 100008 0 0,.nsl,.nsl,.nsl,.nsl,.nsl,.nsl,.nsl,.nsl,.nsl,.nsl,.nsl,.nsl,.nsl,.nsl,.nsl,.nsl,.nsl,.nsl],false,none⟩)::(100001,⟨false,false,false,false,0,[.str [],iv 0,iv 10,iv 30,.imm [iv 20,iv 4] 1 2 false false,iv 0,iv 100,iv 100,iv 30,iv 30,iv 0,iv 0,iv 0,iv 50,iv 50,iv 0,iv 0,iv 0,.imm [] 0 1 false false,iv 0,iv 1,iv 0,iv 1,.imm [.bool false,.imm [.int .u32 5] 1 1 false false,.imm [.int .u32 1] 1 1 false false] 1 3 false true,.imm [.bool false,.imm [] 0 1 false false,.imm [.int .u32 1] 1 1 false false] 1 3 false true,.imm [iv 10,iv 30] 2 1 false false,.imm [.bool false,.imm [] 0 1 false false,.imm [.int .u32 1] 1 1 false false,.bool true,.imm [.int .u32 80] 1 1 false false,.imm [.int .u32 1] 1 1 false false] 2 3 false false,.own 100009 0 0,.own 100010 0 0,.own 100011 0 0,.own 100012 0 0,.own 100013 0 0,.own 100014 0 0,.own 100015 0 0,.nsl,.nsl,.nsl,.nsl,.nsl,.nsl,.nsl,.nsl,.nsl,.nsl,.nsl,.nsl,.nsl,.nsl,.nsl,.nsl,.nsl],false,none⟩)::(100002,OQ 7 [.bool true,.bool false,.imm [] 0 1 false false,.imm [.int .u32 1] 1 1 false false,iv 0,iv 0,.bool false,.bool false,.bool false,.nsl,.nsl,iv 0,iv 0,.bool false])::(100003,OQ 7 [.bool true,.bool false,.imm [] 0 1 false false,.imm [.int .u32 1] 1 1 false false,iv 0,iv 0,.bool false,.bool false,.bool false,.nsl,.nsl,iv 0,iv 0,.bool false])::Av8,.tup [],Av9⟩ (by kernel_rfl)
def Au6:=PU Au5 ⟨54,[.optr 100000 0,iv 0,iv 0,.pagg [iv 0,iv 1] false],(100000,⟨false,false,false,false,0,[.optr 100001 0,.imm [iv (-1)] 1 1 false true,.own 100002 0 2,.own 100003 0 2,.own 100004 0 0,.own 100005 0 0,.own 100006 0 0,.own 100007 0 0,.own 100008 0 0,.nsl,.nsl,.nsl,.nsl,.nsl,.nsl,.nsl,.nsl,.nsl,.nsl,.nsl,.nsl,.nsl,.nsl,.nsl,.nsl,.nsl,.nsl],false,none⟩)::(100001,⟨false,false,false,false,0,[.str [],iv 0,iv 10,iv 30,.imm [iv 20,iv 4] 1 2 false false,iv 0,iv 100,iv 100,iv 30,iv 30,iv 0,iv 0,iv 0,iv 50,iv 50,iv 0,iv 0,iv 0,.imm [] 0 1 false false,iv 0,iv 1,iv 0,iv 1,.imm [.bool false,.imm [.int .u32 5] 1 1 false false,.imm [.int .u32 1] 1 1 false false] 1 3 false true,.imm [.bool false,.imm [] 0 1 false false,.imm [.int .u32 1] 1 1 false false] 1 3 false true,.imm [iv 10,iv 30] 2 1 false false,.imm [.bool false,.imm [] 0 1 false false,.imm [.int .u32 1] 1 1 false false,.bool true,.imm [.int .u32 80] 1 1 false false,.imm [.int .u32 1] 1 1 false false] 2 3 false false,.own 100009 0 0,.own 100010 0 0,.own 100011 0 0,.own 100012 0 0,.own 100013 0 0,.own 100014 0 0,.own 100015 0 0,.nsl,.nsl,.nsl,.nsl,.nsl,.nsl,.nsl,.nsl,.nsl,.nsl,.nsl,.nsl,.nsl,.nsl,.nsl,.nsl,.nsl],false,none⟩)::(100002,OQ 7 [.bool true,.bool false,.imm [] 0 1 false false,.imm [.int .u32 1] 1 1 false false,iv 0,iv 0,.bool false,.bool false,.bool false,.nsl,.nsl,iv 0,iv 0,.bool false])::(100003,OQ 7 [.bool false,.bool false,.nsl,.nsl,iv 0,iv 0,.bool false,.bool false,.bool false,.nsl,.nsl,iv 0,iv 0,.bool false])::Av8,.tup [],Av9⟩ (by kernel_rfl)
def Au7:=PU Au6 ⟨149,[.iptr [.str [],iv 0,iv 10,iv 30,.imm [iv 20,iv 4] 1 2 false false,iv 0,iv 100,iv 100,iv 30,iv 30,iv 0,iv 0,iv 0,iv 50,iv 50,iv 0,iv 0,iv 0,.imm [] 0 1 false false,iv 0,iv 1,iv 0,iv 1,.imm [.bool false,.imm [.int .u32 5] 1 1 false false,.imm [.int .u32 1] 1 1 false false] 1 3 false true,.imm [.bool false,.imm [] 0 1 false false,.imm [.int .u32 1] 1 1 false false] 1 3 false true,.imm [iv 10,iv 30] 2 1 false false,.imm [.bool false,.imm [] 0 1 false false,.imm [.int .u32 1] 1 1 false false,.bool true,.imm [.int .u32 80] 1 1 false false,.imm [.int .u32 1] 1 1 false false] 2 3 false false,.imm [.imm [iv 10,iv 30] 2 1 false false,.imm [.bool false,.imm [.int .u32 50] 1 1 false false,.imm [.int .u32 1] 1 1 false false,.bool false,.imm [.int .u32 70] 1 1 false false,.imm [.int .u32 1] 1 1 false false] 2 3 false false] 1 2 false true,.imm [] 0 2 false true,.imm [] 0 2 false true,.imm [] 0 2 false true,.imm [] 0 2 false true,.imm [] 0 2 false true,.imm [] 0 2 false true,.nsl,.nsl,.nsl,.nsl,.nsl,.nsl,.nsl,.nsl,.nsl,.nsl,.nsl,.nsl,.nsl,.nsl,.nsl,.nsl,.nsl] true,iv 0],[],.pagg [.bool false,.imm [] 0 1 false false,.imm [.int .u32 1] 1 1 false false] false,[]⟩ (by kernel_rfl)
def Au8:=PU Au7 ⟨23,[.pagg [.str [],iv 0,iv 10,iv 30,.imm [iv 20,iv 4] 1 2 false false,iv 0,iv 100,iv 100,iv 30,iv 30,iv 0,iv 0,iv 0,iv 50,iv 50,iv 0,iv 0,iv 0,.nsl,iv 0,iv 1,iv 0] false,iv 1,.imm [.bool false,.imm [.int .u32 5] 1 1 false false,.imm [.int .u32 1] 1 1 false false] 1 3 false true,.imm [.bool false,.imm [] 0 1 false false,.imm [.int .u32 1] 1 1 false false] 1 3 false true,.imm [iv (-1)] 1 1 false true],[],.tup [.pagg [.imm [iv 2] 1 1 false false,.imm [.bool false,.imm [.int .u32 30] 1 1 false false,.imm [.int .u32 1] 1 1 false false] 1 3 false false,.imm [.bool false,.imm [] 0 1 false false,.imm [.int .u32 1] 1 1 false false] 1 3 false false] false,.pagg [.bool false,.imm [.int .u32 20] 1 1 false false,.imm [.int .u32 1] 1 1 false false] false,iv 0],[]⟩ (by kernel_rfl)
def Au9:=PU Au8 ⟨33,[.pagg [.bool false,.imm [.int .u32 70] 1 1 false false,.imm [.int .u32 1] 1 1 false false] false,.pagg [.bool true,.imm [.int .u32 70] 1 1 false false,.imm [.int .u32 1] 1 1 false false] false],[],.pagg [.bool false,.imm [] 0 1 false false,.imm [.int .u32 1] 1 1 false false] false,[]⟩ (by kernel_rfl)
def Ava:=PU Au9 ⟨21,[.pagg [.bool false,.imm [.int .u32 70] 1 1 false false,.imm [.int .u32 1] 1 1 false false] false,.pagg [.bool false,.imm [.int .u32 70] 1 1 false false,.imm [.int .u32 1] 1 1 false false] false],[],iv 0,[]⟩ (by kernel_rfl)
def Avb:=PU Ava ⟨33,[.pagg [.bool false,.imm [.int .u32 20] 1 1 false false,.imm [.int .u32 1] 1 1 false false] false,.pagg [.bool true,.imm [.int .u32 20] 1 1 false false,.imm [.int .u32 1] 1 1 false false] false],[],.pagg [.bool false,.imm [] 0 1 false false,.imm [.int .u32 1] 1 1 false false] false,[]⟩ (by kernel_rfl)
def Aw2:=PU Avb ⟨21,[.pagg [.bool false,.imm [.int .u32 20] 1 1 false false,.imm [.int .u32 1] 1 1 false false] false,.pagg [.bool false,.imm [.int .u32 20] 1 1 false false,.imm [.int .u32 1] 1 1 false false] false],[],iv 0,[]⟩ (by kernel_rfl)
def iZ:An3 Tryz.prog 16 [] [] (.bool true) []:=Apr follows (muts:=muts) (N:=1000000) Aw2.ok (fs:=Au2) 11 (p:=⟨16,[],[],.bool true,[]⟩) (by kernel_rfl)
end
end Gx
namespace Gx
open Go Go.Proofs
noncomputable section
variable{R:Type}(N:Nat)
def eM(_N:Nat)(r0:Bool->O R):O R:=r0 true
def W1:=(Ai (@eM R)).1
def Qh:@W1 R=@eM R:=(Ai _).2
def t8:Bd Tryz.prog:=⟨16,fun
|[],[]=>some fun _ k=>W1 N fun b=>k (.bool b) []
| _,_=>none,(fun a h g e R k=>by
  split at e
  ·cases e;dsimp only;rw[Qh,Qh];rfl
  ·cases e),(fun a h g res h' e hh=>by
  split at e
  ·cases e;dsimp only at hh;rw[Qh]at hh;cases hh;exact iZ
  ·cases e)⟩
end
end Gx
namespace Gx
open Go Go.Proofs
set_option maxRecDepth 100000
noncomputable section
variable{R:Type}(N:Nat)
def Lc(N:Nat)(r0:LA->Bool->LA->O R)(b:Int)(c:Bool)(a:LA):O R:=(cond (ble 3 a.length) (cond ((beq ((a.take 3).length) 3)&&(ble 3 3)) (r0 [.int .i64 b] (c||false) ((setCells [.bool false,.nsl,.nsl] 0 (a.take 3)).take 3)) none) none)
def O6(N:Nat)(r0:LA->Bool->LA->O R)(q0:O R)(b:Int)(a:LA)(c:Bool):O R:=q0
def Gi:=(Ai fun N b a c r0=>O6 (R:=R) N r0 (Lc N r0 b c a) b a c).1
def Ym(b a c r0):(@Gi R N b a c r0)=(O6 N r0 (Lc N r0 b c a) b a c):=by rw[Gi,(Ai _).2]
def aI(F:KF R):=J7 Tryz.f123 Agk [] [100000] N F
def Qx(F:KF R):LA->Bool->LA->O R:=fun d e f=>F (.tup []) [(100000,bN 0 [A6q 0 1,A6q 1 1]),(300000,bQ 1 d),(300001,bP e 3 f)]
def aJ(b:Int)(c:Bool)(a:LA)(K:St->O R):=K ⟨[(0,.optr 100000 0),(1,iv b),(5,op 0)],[(100000,bN 0 [.nsl,.nsl]),(300000,bP c 0 a)]⟩
def PV(F:KF R)(b c a):aJ b c a (A2 (aI N F (pz 85) []))=(Lc N (Qx F) b c a):=by kernel_rfl
def eN:=B9 N 123 [] Agk (fun
|[.optr 100000 0,.int .i64 b,.pagg a c],[(100000,⟨false,false,false,false,0,[.nsl,.nsl],false,none⟩)]=>some fun _ k=>Gi N b a c (Qx k)
| _,_=>none) fun _ _=>by split;intro R F;exact(B5 (O6 N (Qx F) · _ _ _) ((jW ..).trans (PV ..)):_).trans (Ym ..).symm;trivial
def Ga:=Aut (eN N) (EH N) (Eq.refl 123)
def M8(r0:Int->O R)(g:LA)(f:Nat)(b:Bool)(a:LA)(d:Bool)(c:LA)(k1:Int->Int->Int->LA->O R)(m l h:Int)(i:LA):O R:=(cond (decide (h<l)) (cond (Ac h f) (Aq .i64 (g.drop (h.toNat*1)) fun s=>Bq 3 (a.drop 1) fun q t=>cond (Ac h t) (cond (ble 3 ((q.drop (h.toNat*3)).length)) (cond (ble 3 c.length) (Ba N s fun u=>Pm N (c.take 3) d u false fun v=>Sz N ((q.drop (h.toNat*3)).take 3) b v false fun j=>cond ((beq 0 0)&&((beq j.length 3)&&(beq 3 3))) (cond ((h==0)==false) (cond (ble 3 j.length) (cond (ble 3 i.length) (Nw N (j.take 3) false (i.take 3) false fun w=>cond (cond false true (decide (w>0))) (cond (ble 3 j.length) (cond ((beq ((j.take 3).length) 3)&&((ble 3 i.length)&&(!false))) (k1 h l (wrap .i64 (h+1)) (setCells i 0 (j.take 3))) none) none) (k1 m l (wrap .i64 (h+1)) i)) none) none) (cond (ble 3 j.length) (cond ((beq ((j.take 3).length) 3)&&((ble 3 i.length)&&(!false))) (k1 h l (wrap .i64 (h+1)) (setCells i 0 (j.take 3))) none) none)) none) none) none) none) none) (Bq 1 a fun x y=>cond (Ac m y) (Aq .i64 (x.drop (m.toNat*1)) fun z=>r0 z) none))
def G2(r0:Int->O R)(g:LA)(f:Nat)(b:Bool)(a:LA)(d:Bool)(c:LA):Nat->Int->Int->Int->LA->O R
|0=>fun _ _ _ _=>none
|n+1=>M8 N r0 g f b a d c (G2 r0 g f b a d c n)
def Tc(r0:Int->O R)(g:LA)(f:Nat)(b:Bool)(a:LA)(d:Bool)(c:LA)(k0:Int->O R)(k1:Int->Int->Int->LA->O R)(o:Int):O R:=(cond (decide (0<o)) (cond (Ac 0 f) (Aq .i64 g fun aa=>Bq 3 (a.drop 1) fun r ab=>cond (Ac 0 ab) (cond (ble 3 r.length) (cond (ble 3 c.length) (Ba N aa fun ac=>Pm N (c.take 3) d ac false fun ad=>Sz N (r.take 3) b ad false fun p=>cond ((beq 0 0)&&((beq p.length 3)&&(beq 3 3))) (cond (ble 3 p.length) (cond ((beq 0 0)&&((beq ((p.take 3).length) 3)&&(beq 3 3))) (k1 0 o 1 (p.take 3)) none) none) none) none) none) none) none) (Bq 1 a fun ae af=>cond (Ac 0 af) (Aq .i64 ae fun ag=>r0 ag) none))
def G3(r0:Int->O R)(g:LA)(f:Nat)(b:Bool)(a:LA)(d:Bool)(c:LA):Nat->Int->O R
|0=>fun _=>none
|n+1=>Tc N r0 g f b a d c (G3 r0 g f b a d c n) (G2 N r0 g f b a d c n)
def Td(N:Nat)(r0:Int->O R)(q0:LA->Nat->Int->O R)(a:LA)(b:Bool)(c:LA)(d:Bool):O R:=(Bq 1 a fun g f=>q0 g f (f:Int))
def I7:=(Ai fun N a b c d r0=>Td (R:=R) N r0 (fun g f=>G3 N r0 g f b a d c N) a b c d).1
def ES(a b c d r0):(@I7 R N a b c d r0)=(Td N r0 (fun g f=>G3 N r0 g f b a d c N) a b c d):=by rw[I7,(Ai _).2]
def IE:Hints:={H:=hK 3 (hS (hK 1 (hS (hP [2,3,5,6,11,12,13] hL) hL)) hL)}
def OR:Ru:=[C8 N,Wy N,HT N,LX N]
def IF(F:KF R):=J7 Tryz.f75 IE (OR N) [] N F
def i6(g:LA)(f:Nat)(b:Bool)(a:LA)(d:Bool)(c:LA)(K:St->O R):=fun m l h i=>K ⟨[(2,op 0),(3,op 1),(5,iv m),(6,op 2),(11,.imm g f 1 false b),(12,iv l),(13,iv h)],hq [bP b 0 a,bP d 0 c,bQ 0 i]⟩
def i7(g:LA)(f:Nat)(b:Bool)(a:LA)(d:Bool)(c:LA)(K:St->O R):=fun o=>K ⟨[(2,op 0),(3,op 1),(5,iv 0),(6,op 2),(11,.imm g f 1 false b),(12,iv o),(13,iv 0)],hq [bP b 0 a,bP d 0 c,bN 0 [.bool false,.nsl,.nsl]]⟩
def WG(F:KF R)(g f b a d c):∀ n,i6 g f b a d c (Au (IF N F (pz 5444) []) n)=(G2 N (Ha F) g f b a d c n):=Gn fun n e=>(B5 (M8 N (Ha F) g f b a d c) e:_)
def WH(F:KF R)(g f b a d c):∀ n,i7 g f b a d c (Au (IF N F (pz 5444) []) n)=(G3 N (Ha F) g f b a d c n):=Gn fun n e=>(KH (Tc N (Ha F) g f b a d c) e (WG ..):_)
def OS:=B9 N 75 (OR N) IE (fun
|[.pagg a b,.pagg c d],[]=>some fun _ k=>I7 N a b c d (Ha k)
| _,_=>none) fun _ _=>by split;intro R F;exact(B5 (Td N (Ha F) · _ _ _ _) (ld fun g f=>(lW ..).trans (WH ..)):_).trans (ES ..).symm;trivial
def Qi(r0:LA->O R)(b:Bool)(a:LA)(k0:Int->LA->LA->O R)(f:Int)(g c:LA):O R:=(Bq 2 (a.drop 4) fun ab p=>cond (decide (f<(p:Int))) (cond (ble 3 g.length) (Bq 2 (a.drop 4) fun q r=>cond (Ac f r) (Aq .i64 (q.drop (f.toNat*2)) fun s=>Bg N s fun t=>eK N (g.take 3) false t false fun i=>cond ((beq 0 0)&&((beq i.length 3)&&(beq 3 3))) (cond (ble 3 c.length) (cond (ble 3 i.length) (Bq 2 (a.drop 4) fun u v=>cond (Ac f v) (Aq .i64 ((u.drop (f.toNat*2)).drop 1) fun w=>Bg N w fun x=>ER N (i.take 3) false x false fun y=>Wb N (c.take 3) false y false fun j=>cond ((beq j.length 3)&&((ble 3 c.length)&&(!false))) (cond (ble 3 g.length) (cond (ble 3 i.length) (Tb N (g.take 3) false (i.take 3) false fun l=>cond ((beq l.length 3)&&((ble 3 g.length)&&(!false))) (k0 (wrap .i64 (f+1)) (setCells g 0 l) (setCells c 0 j)) none) none) none) none) none) none) none) none) none) none) (cond (ble 3 c.length) (cond ((beq 0 0)&&((beq ((c.take 3).length) 3)&&(beq 3 3))) (cond (ble 3 ((c.take 3).length)) (r0 ((c.take 3).take 3)) none) none) none))
def Ho(r0:LA->O R)(b:Bool)(a:LA):Nat->Int->LA->LA->O R
|0=>fun _ _ _=>none
|n+1=>Qi N r0 b a (Ho r0 b a n)
def Zk(r0:LA->O R)(q0:Int->LA->LA->O R)(a:LA)(b:Bool)(d:LA)(h:Bool):O R:=(cond (ble 3 d.length) (Aq .i64 (a.drop 2) fun z=>Bg N z fun aa=>Tb N (d.take 3) h aa false fun m=>HY N fun o=>cond ((beq 0 0)&&((beq m.length 3)&&(beq 3 3))) (cond ((beq 0 0)&&((beq o.length 3)&&(beq 3 3))) (q0 0 m o) none) none) none)
def W3:=(Ai fun N a b d h r0=>Zk (R:=R) N r0 (Ho N r0 b a N) a b d h).1
def OT(a b d h r0):(@W3 R N a b d h r0)=(Zk N r0 (Ho N r0 b a N) a b d h):=by rw[W3,(Ai _).2]
def SV:Hints:={H:=hK 2 (hS (hK 1 (hS (hP [2,4,5,6,7] hL) hL)) hL),modes:=[(3,0)]}
def XZ:Ru:=[Mf N,ID N,aA N,Ai0 N,vK N,IC N]
def rD(F:KF R):=J7 Tryz.f78 SV (XZ N) [] N F
def rE(b:Bool)(a:LA)(K:St->O R):=fun f g c=>K ⟨[(2,op 0),(4,op 1),(5,op 2),(6,op 3),(7,iv f)],hq [bP b 0 a,bN 0 [.bool false,.nsl,.nsl],bQ 0 g,bQ 0 c]⟩
def eO(F:KF R)(b a):∀ n,rE b a (Au (rD N F (pz 1348) []) n)=(Ho N (Cl F) b a n):=Gn fun n e=>(B5 (Qi N (Cl F) b a) e:_)
def t_:=B9 N 78 (XZ N) SV (fun
|[.pagg a b,.pagg d h],[]=>some fun _ k=>W3 N a b d h (Cl k)
| _,_=>none) fun _ _=>by split;intro R F;exact(B5 (Zk N (Cl F) · _ _ _ _) ((lW ..).trans (eO ..)):_).trans (OT ..).symm;trivial
def i8(c:LA)(h:Bool)(a:LA)(d:Bool)(b:LA)(e:Bool)(f:LA)(i:Bool)(g:LA)(j:Bool)(r0:LA->O R):O R:=(cond (ble 3 f.length) (cond (ble 3 a.length) (ER N (f.take 3) i (a.take 3) d fun n=>cond (ble 3 g.length) (cond (ble 3 b.length) (ER N (g.take 3) j (b.take 3) e fun o=>Wb N n false o false fun l=>cond ((beq 0 0)&&((beq l.length 3)&&(beq 3 3))) (cond (ble 3 l.length) (cond (ble 22 c.length) (cond (ble 3 a.length) (W3 N (c.take 22) h (a.take 3) d fun p=>Aq .i64 (c.drop 17) fun q=>Bg N q fun r=>cond (ble 3 b.length) (ER N r false (b.take 3) e fun s=>Wb N p false s false fun t=>Tb N (l.take 3) false t false fun m=>cond ((beq 0 0)&&((beq m.length 3)&&(beq 3 3))) (cond (ble 3 m.length) (r0 (m.take 3)) none) none) none) none) none) none) none) none) none) none) none)
def eS:=(Ai (@i8 R)).1
def eT:@eS R=@i8 R:=(Ai _).2
def Aez:=B9 N 29 [vK N,IC N,t_ N,Mf N,ID N] Hb (fun
|[.pagg c h,.pagg a d,.pagg b e,.pagg f i,.pagg g j],[]=>some fun _ k=>eS N c h a d b e f i g j (Cl k)
| _,_=>none) fun _ _=>by split;intro R F;dsimp only;rw[eT];kernel_rfl;trivial
def SW(a:LA)(b:Bool)(c d:Int)(r0:Bool->O R):O R:=(cond (ble 3 a.length) (Bg N c fun e=>C6 N (a.take 3) b e false fun f=>cond ((decide (f>=0))==true) (cond (ble 3 a.length) (Bg N d fun g=>C6 N (a.take 3) b g false fun h=>r0 (cond true (decide (h<=0)) false)) none) (r0 false)) none)
def ML:=(Ai (@SW R)).1
def SX:@ML R=@SW R:=(Ai _).2
def yZ:=B9 N 32 [Mf N,Wc N] Eh (fun
|[.pagg a b,.int .i64 c,.int .i64 d],[]=>some fun _ k=>ML N a b c d (Cc k)
| _,_=>none) fun _ _=>by split;intro R F;dsimp only;rw[SX];kernel_rfl;trivial
def F_(a:LA)(b:Bool)(c:Int)(d:LA)(e:Nat)(f g:Bool)(h:LA)(i:Nat)(j l:Bool)(r0:Lu->Int->Int->Int->LA->Nat->Int->Int->Int->Int->Int->Int->Int->Int->Int->Int->Int->Int->Int->LA->Nat->Int->Int->Int->LA->Nat->Bool->LA->Nat->Bool->LA->LA->LA->LA->LA->LA->LA->O R):O R:=(ue a fun n=>Aq .i64 (a.drop 1) fun o=>Aq .i64 (a.drop 2) fun p=>Aq .i64 (a.drop 3) fun q=>Bq 2 (a.drop 4) fun r s=>Aq .i64 (a.drop 5) fun t=>Aq .i64 (a.drop 6) fun u=>Aq .i64 (a.drop 7) fun v=>Aq .i64 (a.drop 8) fun w=>Aq .i64 (a.drop 9) fun x=>Aq .i64 (a.drop 10) fun y=>Aq .i64 (a.drop 11) fun z=>Aq .i64 (a.drop 12) fun aa=>Aq .i64 (a.drop 13) fun ab=>Aq .i64 (a.drop 14) fun ac=>Aq .i64 (a.drop 15) fun ad=>Aq .i64 (a.drop 16) fun ae=>Aq .i64 (a.drop 17) fun af=>Bq 1 (a.drop 18) fun ag ah=>Aq .i64 (a.drop 19) fun ai=>Aq .i64 (a.drop 20) fun aj=>Aq .i64 (a.drop 21) fun ak=>cond (beq a.length 22) (Lt N [.str n,.int .i64 o,.int .i64 p,.int .i64 q,.imm r s 2 false b,.int .i64 t,.int .i64 u,.int .i64 v,.int .i64 w,.int .i64 x,.int .i64 y,.int .i64 z,.int .i64 aa,.int .i64 ab,.int .i64 ac,.int .i64 ad,.int .i64 ae,.int .i64 af,.imm ag ah 1 false b,.int .i64 ai,.int .i64 aj,.int .i64 ak] (b||(b||false)) fun m al=>Bq 1 m fun am an=>Bq 3 (m.drop 1) fun ao ap=>cond ((beq m.length 2)&&(true&&(beq 2 2&&ble 27 51))) (r0 n o p q r s t u v w x y z aa ab ac ad ae af ag ah ai aj ak am an al ao ap al [] [] [] [] [] [] []) none) none)
def Zl:=(Ai (@F_ R)).1
def IG:@Zl R=@F_ R:=(Ai _).2
def mh(b:Bool)(c:Int)(d:LA)(e:Nat)(f g:Bool)(h:LA)(i:Nat)(j l:Bool)(F:KF R):Lu->Int->Int->Int->LA->Nat->Int->Int->Int->Int->Int->Int->Int->Int->Int->Int->Int->Int->Int->LA->Nat->Int->Int->Int->LA->Nat->Bool->LA->Nat->Bool->LA->LA->LA->LA->LA->LA->LA->O R:=fun aq ar au av aw ax ay az ba bb bc bd be bf bg bh bi bj bk bl bm bn bo bp bq br bs bt bu bv bw bx bz ca cb cc cd=>F (op 0) (hq [bN 0 [.str aq,iv ar,iv au,iv av,.imm aw ax 2 false b,iv ay,iv az,iv ba,iv bb,iv bc,iv bd,iv be,iv bf,iv bg,iv bh,iv bi,iv bj,iv bk,.imm bl bm 1 false b,iv bn,iv bo,iv bp,iv c,.imm d e 3 f g,.imm h i 3 j l,.imm bq br 1 false bs,.imm bt bu 3 false bv,A6q 1 0,A6q 2 0,A6q 3 0,A6q 4 0,A6q 5 0,A6q 6 0,A6q 7 0,.nsl,.nsl,.nsl,.nsl,.nsl,.nsl,.nsl,.nsl,.nsl,.nsl,.nsl,.nsl,.nsl,.nsl,.nsl,.nsl,.nsl],bQ 2 bw,bQ 2 bx,bQ 2 bz,bQ 2 ca,bQ 2 cb,bQ 2 cc,bQ 2 cd])
def rF:=B9 N 49 [d7 N] { H:=hL,cob:=[4,14,15] } (fun
|[.pagg a b,.int .i64 c,.imm d e 3 f g,.imm h i 3 j l],[]=>some fun _ k=>Zl N a b c d e f g h i j l (mh b c d e f g h i j l k)
| _,_=>none) fun _ _=>by split;intro R F;dsimp only;rw[IG];kernel_rfl;trivial
def U8(b:LA)(c:Bool)(a:Int)(r0:LA->O R):O R:=(Ba N 0 fun f=>Bq 3 (b.drop 24) fun e g=>cond (Ac a g) (cond (ble 3 ((e.drop (a.toNat*3)).length)) (Aq .i64 (b.drop 17) fun h=>Ba N h fun i=>BQ N ((e.drop (a.toNat*3)).take 3) c i false fun j=>yX N f false j false fun d=>cond ((beq 0 0)&&((beq d.length 3)&&(beq 3 3))) (cond (ble 3 d.length) (r0 (d.take 3)) none) none) none) none)
def Gj:=(Ai (@U8 R)).1
def Yn:@Gj R=@U8 R:=(Ai _).2
def Te:=B9 N 149 [C8 N,SE N,Alv N] Hb (fun
|[.iptr b c,.int .i64 a],[]=>some fun _ k=>Gj N b c a (Cl k)
| _,_=>none) fun _ _=>by split;intro R F;dsimp only;rw[Yn];kernel_rfl;trivial
def Xr(e:LA)(f:Bool)(g:Int)(a:LA)(c:Bool)(r0:LA->Bool->O R):O R:=(Gj N e f g fun b=>cond ((beq 0 0)&&((beq b.length 3)&&(beq 3 3))) (cond (ble 2 a.length) (cond (ble 3 b.length) (cond (ble 2 a.length) (Ba N 0 fun i=>I7 N (a.take 2) c i false fun d=>cond (ble 2 a.length) (cond (ble 3 b.length) (I7 N (a.take 2) c (b.take 3) false fun h=>cond ((beq ((a.take 2).length) 2)&&(ble 2 7)) (cond ((beq ((b.take 3).length) 3)&&(ble 5 ((setCells [.nsl,.nsl,.bool false,.nsl,.nsl,A6r,A6r] 0 (a.take 2)).length))) (cond ((beq 1 1)&&(ble 6 ((setCells (setCells [.nsl,.nsl,.bool false,.nsl,.nsl,A6r,A6r] 0 (a.take 2)) 2 (b.take 3)).length))) (cond ((beq 1 1)&&(ble 7 (((setCells (setCells [.nsl,.nsl,.bool false,.nsl,.nsl,A6r,A6r] 0 (a.take 2)) 2 (b.take 3)).set 5 (.int .i64 d)).length))) (cond ((beq 0 0)&&((beq ((((setCells (setCells [.nsl,.nsl,.bool false,.nsl,.nsl,A6r,A6r] 0 (a.take 2)) 2 (b.take 3)).set 5 (.int .i64 d)).set 6 (.int .i64 h)).length) 7)&&(beq 7 7))) (cond (ble 7 ((((setCells (setCells [.nsl,.nsl,.bool false,.nsl,.nsl,A6r,A6r] 0 (a.take 2)) 2 (b.take 3)).set 5 (.int .i64 d)).set 6 (.int .i64 h)).length)) (r0 ((((setCells (setCells [.nsl,.nsl,.bool false,.nsl,.nsl,A6r,A6r] 0 (a.take 2)) 2 (b.take 3)).set 5 (.int .i64 d)).set 6 (.int .i64 h)).take 7) (c||false)) none) none) none) none) none) none) none) none) none) none) none) none)
def Bw:=(Ai (@Xr R)).1
def CA:@Bw R=@Xr R:=(Ai _).2
def IH:=B9 N 146 [Te N,C8 N,OS N] Hb (fun
|[.iptr e f,.int .i64 g,.pagg a c],[]=>some fun _ k=>Bw N e f g a c (ov k)
| _,_=>none) fun _ _=>by split;intro R F;dsimp only;rw[CA];kernel_rfl;trivial
def Xs(N:Nat)(a:LA)(b:Bool)(r0:Int->O R):O R:=(Bq 1 a fun c d=>cond (Ac 0 d) (Aq .i64 c fun e=>r0 e) none)
def Ju:=(Ai (@Xs R)).1
def CB:@Ju R=@Xs R:=(Ai _).2
def U9:=B9 N 197 [] Eh (fun
|[.pagg a b],[]=>some fun _ k=>Ju N a b (Ha k)
| _,_=>none) fun _ _=>by split;intro R F;dsimp only;rw[CB];kernel_rfl;trivial
def CC(N:Nat)(a:LA)(b:Bool)(r0:Int->O R):O R:=(Bq 1 a fun d e=>Bq 1 a fun g c=>cond (Ac (wrap .i64 ((c:Int) - 1)) e) (Aq .i64 (d.drop (((wrap .i64 ((c:Int) - 1)).toNat)*1)) fun f=>r0 f) none)
def Mg:=(Ai (@CC R)).1
def ET:@Mg R=@CC R:=(Ai _).2
def Xt:=B9 N 196 [] Eh (fun
|[.pagg a b],[]=>some fun _ k=>Mg N a b (Ha k)
| _,_=>none) fun _ _=>by split;intro R F;dsimp only;rw[ET];kernel_rfl;trivial
def Tf(c:LA)(o:Bool)(b:LA)(d:Bool)(a:Int)(r0:Int->Int->O R):O R:=(Aq .i64 (c.drop 16) fun e=>Aq .i64 (c.drop 3) fun f=>Aq .i64 (c.drop 6) fun g=>Aq .i64 (b.drop 5) fun h=>Aq .i64 (b.drop 6) fun i=>cond (ble 2 b.length) (Ju N (b.take 2) d fun j=>Aq .i64 (c.drop 6) fun l=>cond (ble 2 b.length) (Mg N (b.take 2) d fun m=>Aq .i64 (c.drop 7) fun n=>cond (ble 3 ((b.drop 2).length)) (Sw N ((b.drop 2).take 3) d fun p=>cond (decide (p>0)) (Aq .i64 (c.drop 6) fun q=>r0 (Ca (Ca (Mj (Mj (Ca (Mj (wrap .i64 ((Ca (wrap .i64 (a+e)) f) - g)) h) i) j) (wrap .i64 (a - l))) m) (wrap .i64 (a+n))) (wrap .i64 ((Ca (Ca (wrap .i64 (a+e)) f) (wrap .i64 ((Ca (Ca (Mj (Mj (Ca (Mj (wrap .i64 ((Ca (wrap .i64 (a+e)) f) - g)) h) i) j) (wrap .i64 (a - l))) m) (wrap .i64 (a+n)))+q))) - a))) (r0 (Ca (Ca (Mj (Mj (Ca (Mj (wrap .i64 ((Ca (wrap .i64 (a+e)) f) - g)) h) i) j) (wrap .i64 (a - l))) m) (wrap .i64 (a+n))) 0)) none) none) none)
def Be:=(Ai (@Tf R)).1
def W4:@Be R=@Tf R:=(Ai _).2
def WI(F:KF R):Int->Int->O R:=fun r s=>F (.tup [iv r,iv s]) []
def CD:=B9 N 145 [U9 N,Xt N,HQ N] Eh (fun
|[.iptr c o,.pagg b d,.int .i64 a],[]=>some fun _ k=>Be N c o b d a (WI k)
| _,_=>none) fun _ _=>by split;intro R F;dsimp only;rw[W4];kernel_rfl;trivial
def CE(a:LA)(c:Bool)(b d:Int)(r0:LA->O R):O R:=(Bq 3 (a.drop 23) fun g h=>cond (Ac b h) (cond (ble 3 ((g.drop (b.toNat*3)).length)) (Ba N d fun i=>Pm N ((g.drop (b.toNat*3)).take 3) c i false fun e=>cond ((beq 0 0)&&((beq e.length 3)&&(beq 3 3))) (cond (ble 3 e.length) (cond (ble 2 ((a.drop 25).length)) (Cp N ((a.drop 25).take 2) c d fun j l=>Sz N (e.take 3) false j l fun m=>Aq .i64 (a.drop 5) fun n=>Ba N n fun o=>BQ N m false o false fun f=>cond ((beq 0 0)&&((beq f.length 3)&&(beq 3 3))) (cond (ble 3 f.length) (r0 (f.take 3)) none) none) none) none) none) none) none)
def P4:=(Ai (@CE R)).1
def EU:@P4 R=@CE R:=(Ai _).2
def OU:=B9 N 247 [C8 N,Wy N,Xq N,HT N,SE N] Hb (fun
|[.iptr a c,.int .i64 b,.int .i64 d],[]=>some fun _ k=>P4 N a c b d (Cl k)
| _,_=>none) fun _ _=>by split;intro R F;dsimp only;rw[EU];kernel_rfl;trivial
def Ml(h:Int)(b:LA)(c d:Bool)(a:LA)(f:Bool)(e:LA)(g:Int)(r0:LA->O R):O R:=(cond (ble 7 a.length) (Be N b c (a.take 7) d h fun l m=>cond (ble 2 e.length) (Cp N (e.take 2) f l fun n o=>cond (ble 3 ((a.drop 2).length)) (Ba N m fun p=>Pm N ((a.drop 2).take 3) d p false fun q=>Sz N n o q false fun i=>cond ((beq 0 0)&&((beq i.length 3)&&(beq 3 3))) (cond (ble 3 i.length) (P4 N b c g h fun r=>Sz N (i.take 3) false r false fun j=>cond ((beq 0 0)&&((beq j.length 3)&&(beq 3 3))) (cond (ble 3 j.length) (r0 (j.take 3)) none) none) none) none) none) none) none)
def Cd:=(Ai (@Ml R)).1
def P5:@Cd R=@Ml R:=(Ai _).2
def II(b:LA)(c d:Bool)(a:LA)(f:Bool)(e:LA)(g:Int)(F:KF R):LA->O R:=fun s=>F (.pagg s false) [(100000,bN 0 [.iptr b c]),(100001,bP d 0 a),(100002,bP f 0 e),(100003,bN 0 [iv g])]
def MM:=B9 N 246 [CD N,Xq N,C8 N,Wy N,HT N,OU N] Hb (fun
|[.int .i64 h,.optr 100000 0,.optr 100001 0,.optr 100002 0,.optr 100003 0],[(100000,⟨false,false,false,false,0,[.iptr b c],false,none⟩),(100001,⟨false,false,true,d,0,a,false,none⟩),(100002,⟨false,false,true,f,0,e,false,none⟩),(100003,⟨false,false,false,false,0,[.int .i64 g],false,none⟩)]=>some fun _ k=>Cd N h b c d a f e g (II b c d a f e g k)
| _,_=>none) fun _ _=>by split;intro R F;dsimp only;rw[P5];kernel_rfl;trivial
def OV(r0:LA->Bool->O R)(j:Nat)(i a:LA)(b c:Bool)(d:LA)(f:Bool)(g:LA)(h:Int)(l:LA)(k2:Int->Int->Nat->Nat->LA->Bool->LA->O R)(y s:Int)(v w:Nat)(z:LA)(x:Bool)(aa:LA):O R:=(cond (decide (s<y)) (cond (Ac s j) (Aq .i64 (l.drop (0+(s.toNat*1))) fun ad=>Cd N ad a b c d f g h fun af=>E4 N ad af false v w z x aa fun ag ah ai aj ak=>k2 y (wrap .i64 (s+1)) ag ah ai aj ak) none) (r0 [.imm (z.take (v*1)) v 1 false false,.imm (aa.take (w*3)) w 3 false x] (x||false)))
def N1(r0:LA->Bool->O R)(j:Nat)(i a:LA)(b c:Bool)(d:LA)(f:Bool)(g:LA)(h:Int)(l:LA):Nat->Int->Int->Nat->Nat->LA->Bool->LA->O R
|0=>fun _ _ _ _ _ _ _=>none
|n+1=>OV N r0 j i a b c d f g h l (N1 r0 j i a b c d f g h l n)
def OW(r0:LA->Bool->O R)(j:Nat)(i a:LA)(b c:Bool)(d:LA)(f:Bool)(g:LA)(h:Int)(l:LA)(k1:Int->O R)(k2:Int->Int->Nat->Nat->LA->Bool->LA->O R)(ab:Int):O R:=(cond (decide (0<ab)) (cond (Ac 0 j) (Aq .i64 l fun ae=>Cd N ae a b c d f g h fun al=>Gi N ae al false fun am an ao=>k2 ab 1 1 1 am an ao) none) (r0 [.nsl,.nsl] false))
def N2(r0:LA->Bool->O R)(j:Nat)(i a:LA)(b c:Bool)(d:LA)(f:Bool)(g:LA)(h:Int)(l:LA):Nat->Int->O R
|0=>fun _=>none
|n+1=>OW N r0 j i a b c d f g h l (N2 r0 j i a b c d f g h l n) (N1 N r0 j i a b c d f g h l n)
def Xu(r0:LA->Bool->O R)(m o:Int)(p:Nat)(i a:LA)(b c:Bool)(d:LA)(f:Bool)(g:LA)(h:Int)(k0:Nat->Int->Int->LA->O R)(q1:Nat->LA->Int->O R)(q:Nat)(t r:Int)(u:LA):O R:=(cond (decide (r<t)) (cond (Ac r p) (Aq .i64 (i.drop (0+(r.toNat*1))) fun ac=>cond ((decide (ac>m))==true) (cond (cond true (decide (ac<o)) false) (cond ((ble (q+1) 140737488355328)&&(ble ((q+1)*8) 140737488355328)) (k0 (q+1) t (wrap .i64 (r+1)) ((u.take (q*1))++[.int .i64 ac])) none) (k0 q t (wrap .i64 (r+1)) u)) (k0 q t (wrap .i64 (r+1)) u)) none) (Fk N q u fun ap=>Cr N q ap fun j l=>q1 j l (j:Int)))
def Jv(r0:LA->Bool->O R)(m o:Int)(p:Nat)(i a:LA)(b c:Bool)(d:LA)(f:Bool)(g:LA)(h:Int):Nat->Nat->Int->Int->LA->O R
|0=>fun _ _ _ _=>none
|n+1=>Xu N r0 m o p i a b c d f g h (Jv r0 m o p i a b c d f g h n) (fun j l=>N2 N r0 j i a b c d f g h l N)
def Zm(N:Nat)(r0:LA->Bool->O R)(q0:Nat->Int->Int->LA->O R)(m o:Int)(p:Nat)(i a:LA)(b c:Bool)(d:LA)(f:Bool)(g:LA)(h:Int):O R:=(q0 2 (p:Int) 0 [.int .i64 m,.int .i64 o])
def W5:=(Ai fun N m o p i a b c d f g h r0=>Zm (R:=R) N r0 (Jv N r0 m o p i a b c d f g h N) m o p i a b c d f g h).1
def OX(m o p i a b c d f g h r0):(@W5 R N m o p i a b c d f g h r0)=(Zm N r0 (Jv N r0 m o p i a b c d f g h N) m o p i a b c d f g h):=by rw[W5,(Ai _).2]
def X_:Ru:=[B' N,Tu N,MM N,Ga N]
def CF(F:KF R):=J7 Tryz.f70 Agl (X_ N) [100000,100001,100002,100003,100004] N F
def F0(i a:LA)(b c:Bool)(d:LA)(f:Bool)(g:LA)(h:Int)(F:KF R):LA->Bool->O R:=fun aq ar=>F (.pagg aq ar) [(100000,bQ 1 i),(100001,bN 0 [.iptr a b]),(100002,bP c 0 d),(100003,bP f 0 g),(100004,bN 0 [iv h])]
def rG(j:Nat)(i a:LA)(b c:Bool)(d:LA)(f:Bool)(g:LA)(h:Int)(l:LA)(K:St->O R):=fun y s v w z x aa=>K ⟨[(3,.fn 246 [.optr 100001 0,.optr 100002 0,.optr 100003 0,.optr 100004 0]),(8,op 0),(12,op 1),(41,A6q 2 j),(42,iv y),(43,iv s)],[(100000,bQ 1 i),(100001,bN 0 [.iptr a b]),(100002,bP c 0 d),(100003,bP f 0 g),(100004,bN 0 [iv h]),(300000,bN 0 [.nsl,.nsl]),(300001,bN 0 [A6q 3 v,A6q 4 w]),(300002,bQ 1 l),(300003,bQ 1 z),(300004,bP x 3 aa)]⟩
def rH(j:Nat)(i a:LA)(b c:Bool)(d:LA)(f:Bool)(g:LA)(h:Int)(l:LA)(K:St->O R):=fun ab=>K ⟨[(3,.fn 246 [.optr 100001 0,.optr 100002 0,.optr 100003 0,.optr 100004 0]),(8,op 0),(12,op 1),(41,A6q 2 j),(42,iv ab),(43,iv 0)],[(100000,bQ 1 i),(100001,bN 0 [.iptr a b]),(100002,bP c 0 d),(100003,bP f 0 g),(100004,bN 0 [iv h]),(300000,bN 0 [.nsl,.nsl]),(300001,bN 0 [.nsl,.nsl]),(300002,bQ 1 l)]⟩
def rI(m o:Int)(p:Nat)(i a:LA)(b c:Bool)(d:LA)(f:Bool)(g:LA)(h:Int)(K:St->O R):=fun q t r u=>K ⟨[(0,iv m),(1,iv o),(3,.fn 246 [.optr 100001 0,.optr 100002 0,.optr 100003 0,.optr 100004 0]),(8,op 0),(9,A6q 1 q),(18,.own 100000 0 p),(19,iv t),(20,iv r)],[(100000,bQ 1 i),(100001,bN 0 [.iptr a b]),(100002,bP c 0 d),(100003,bP f 0 g),(100004,bN 0 [iv h]),(300000,bN 0 [.nsl,.nsl]),(300001,bQ 1 u)]⟩
def eX(F:KF R)(j i a b c d f g h l):∀ n,rG j i a b c d f g h l (Au (CF N F (pz 349508) []) n)=(N1 N (F0 i a b c d f g h F) j i a b c d f g h l n):=Gn fun n e=>(B5 (OV N (F0 i a b c d f g h F) j i a b c d f g h l) e:_)
def eY(F:KF R)(j i a b c d f g h l):∀ n,rH j i a b c d f g h l (Au (CF N F (pz 349508) []) n)=(N2 N (F0 i a b c d f g h F) j i a b c d f g h l n):=Gn fun n e=>(KH (OW N (F0 i a b c d f g h F) j i a b c d f g h l) e (eX ..):_)
def eZ(F:KF R)(m o p i a b c d f g h):∀ n,rI m o p i a b c d f g h (Au (CF N F (pz 1348) []) n)=(Jv N (F0 i a b c d f g h F) m o p i a b c d f g h n):=Gn fun n e=>(KH (Xu N (F0 i a b c d f g h F) m o p i a b c d f g h) e (ld fun j l=>(lW ..).trans (eY ..)):_)
def ta:=B9 N 70 (X_ N) Agl (fun
|[.int .i64 m,.int .i64 o,.own 100000 0 p,.fn 246 [.optr 100001 0,.optr 100002 0,.optr 100003 0,.optr 100004 0]],[(100000,⟨false,false,true,false,1,i,false,none⟩),(100001,⟨false,false,false,false,0,[.iptr a b],false,none⟩),(100002,⟨false,false,true,c,0,d,false,none⟩),(100003,⟨false,false,true,f,0,g,false,none⟩),(100004,⟨false,false,false,false,0,[.int .i64 h],false,none⟩)]=>some fun _ k=>W5 N m o p i a b c d f g h (F0 i a b c d f g h k)
| _,_=>none) fun _ _=>by split;rename_i m o p i a b c d f g h;intro R F;exact(B5 (Zm N (F0 i a b c d f g h F) · m o p i a b c d f g h) ((lW ..).trans (eZ ..)):_).trans (OX ..).symm;trivial
def Il(r0:LA->Bool->O R)(i:LA)(g:Nat)(c:Bool)(a:LA)(d:Bool)(f:Int)(b:LA)(j:Bool)(h:LA)(k0:Int->Int->Nat->Int->Int->LA->LA->O R)(p q:Int)(l:Nat)(r o:Int)(m s:LA):O R:=(cond (decide (o<r)) (cond (Ac o g) (Aq .i64 (i.drop (o.toNat*1)) fun t=>Aq .i64 (m.drop 7) fun x=>Aq .i64 (m.drop 6) fun y=>Aq .i64 (m.drop 6) fun z=>Aq .i64 (m.drop 16) fun aa=>cond ((ble (l+3) 140737488355328)&&(ble ((l+3)*8) 140737488355328)) (k0 p q (l+3) r (wrap .i64 (o+1)) m ((s.take (l*1))++[.int .i64 (wrap .i64 (t - x)),.int .i64 (wrap .i64 (t+y)),.int .i64 (wrap .i64 ((wrap .i64 (t+z)) - aa))])) none) none) (W5 N p q l s a d j h c b f fun u ab=>cond ((beq 0 0)&&((beq u.length 2)&&(beq 2 2))) (cond (ble 2 u.length) (r0 (u.take 2) ab) none) none))
def Dh(r0:LA->Bool->O R)(i:LA)(g:Nat)(c:Bool)(a:LA)(d:Bool)(f:Int)(b:LA)(j:Bool)(h:LA):Nat->Int->Int->Nat->Int->Int->LA->LA->O R
|0=>fun _ _ _ _ _ _ _=>none
|n+1=>Il N r0 i g c a d f b j h (Dh r0 i g c a d f b j h n)
def M9(r0:LA->Bool->O R)(q0:LA->Nat->Bool->LA->Int->Int->Nat->Int->Int->LA->LA->O R)(a:LA)(d:Bool)(f:Int)(b:LA)(c:Bool):O R:=(cond (ble 22 a.length) (cond ((beq 0 0)&&((beq ((a.take 22).length) 22)&&(beq 22 22))) (cond (ble 2 b.length) (Bw N a d f (b.take 2) c fun h j=>cond ((beq 0 0)&&((beq h.length 7)&&(beq 7 7))) (Aq .i64 ((a.take 22).drop 2) fun ac=>cond (ble 2 b.length) (Ju N (b.take 2) c fun ad=>Aq .i64 ((a.take 22).drop 7) fun ae=>Aq .i64 ((a.take 22).drop 3) fun af=>cond (ble 2 b.length) (Mg N (b.take 2) c fun ag=>Aq .i64 ((a.take 22).drop 6) fun ah=>Aq .i64 ((a.take 22).drop 3) fun ai=>Aq .i64 ((a.take 22).drop 16) fun aj=>Aq .i64 ((a.take 22).drop 3) fun ak=>Aq .i64 ((a.take 22).drop 6) fun al=>Aq .i64 ((a.take 22).drop 7) fun am=>Bq 1 (a.drop 25) fun w v=>cond ((!d)||(A9 w)) (cond ((ble (2+v) 140737488355328)&&(ble ((2+v)*8) 140737488355328)) (Bq 1 b fun i g=>q0 i g j h (Mj ac (wrap .i64 (ad - ae))) (Ca af (wrap .i64 (ag+ah))) (2+v) (g:Int) 0 (a.take 22) ([.int .i64 (wrap .i64 (ai - aj)),.int .i64 (wrap .i64 ((wrap .i64 (ak - al)) - am))]++w)) none) none) none) none) none) none) none) none)
def Bf:=(Ai fun N a d f b c r0=>M9 (R:=R) N r0 (fun i g j h=>Dh N r0 i g c a d f b j h N) a d f b c).1
def W6(a d f b c r0):(@Bf R N a d f b c r0)=(M9 N r0 (fun i g j h=>Dh N r0 i g c a d f b j h N) a d f b c):=by rw[Bf,(Ai _).2]
def Yo:Hints:={H:=hK 5 (hS (hK 1 (hS (hP [3,4,5,6,7,8,9,10,11,59,60,61] hL) hL)) hL),modes:=[(3,0)]}
def CG:Ru:=[IH N,U9 N,Xt N,ta N]
def WJ(F:KF R):=J7 Tryz.f232 Yo (CG N) [] N F
def WK(i:LA)(g:Nat)(c:Bool)(a:LA)(d:Bool)(f:Int)(b:LA)(j:Bool)(h:LA)(K:St->O R):=fun p q l r o m s=>K ⟨[(3,op 0),(4,op 1),(5,op 2),(6,op 3),(7,op 4),(8,op 5),(9,iv p),(10,iv q),(11,A6q 6 l),(59,.imm i g 1 false c),(60,iv r),(61,iv o)],hq [bN 0 [.iptr a d],bN 0 [iv f],bP c 0 b,bN 0 [.nsl,.nsl],bP d 0 m,bP j 0 h,bQ 1 s]⟩
def MN(F:KF R)(i g c a d f b j h):∀ n,WK i g c a d f b j h (Au (WJ N F (pz 87364) []) n)=(Dh N (ov F) i g c a d f b j h n):=Gn fun n e=>(B5 (Il N (ov F) i g c a d f b j h) e:_)
def aK:=B9 N 232 (CG N) Yo (fun
|[.iptr a d,.int .i64 f,.pagg b c],[]=>some fun _ k=>Bf N a d f b c (ov k)
| _,_=>none) fun _ _=>by split;intro R F;exact(B5 (M9 N (ov F) · _ _ _ _ _) (Ad3 fun i g j h=>(lW ..).trans (MN ..)):_).trans (W6 ..).symm;trivial
def N3(N:Nat)(a:LA)(c:Bool)(b:Int)(r0:Bool->O R):O R:=(cond ((b==0)==true) (Aq .i64 (a.drop 19) fun d=>r0 (cond true (d==2) false)) (r0 false))
def Di:=(Ai (@N3 R)).1
def Rm:@Di R=@N3 R:=(Ai _).2
def Tv:=B9 N 147 [] Eh (fun
|[.iptr a c,.int .i64 b],[]=>some fun _ k=>Di N a c b (Cc k)
| _,_=>none) fun _ _=>by split;intro R F;dsimp only;rw[Rm];kernel_rfl;trivial
def Tg(a:LA)(b:Bool)(r0:LA->O R):O R:=(Aq .i64 (a.drop 21) fun d=>Ba N 0 fun c=>cond ((beq c.length 3)&&(ble 3 3)) (r0 [.imm [.int .i64 d] 1 1 false false,.imm ((setCells [.bool false,.nsl,.nsl] 0 c).take 3) 1 3 false false]) none)
def Fl:=(Ai (@Tg R)).1
def W7:@Fl R=@Tg R:=(Ai _).2
def CH:=B9 N 148 [C8 N] Hb (fun
|[.iptr a b],[]=>some fun _ k=>Fl N a b (Cl k)
| _,_=>none) fun _ _=>by split;intro R F;dsimp only;rw[W7];kernel_rfl;trivial
def N4(e:Int)(a:LA)(c:Bool)(d:Int)(b:LA)(r0:LA->O R):O R:=(Aq .i64 (a.drop 16) fun g=>Aq .i64 (a.drop 8) fun h=>P4 N a c d e fun i=>cond (ble 3 b.length) (Ba N (Ca g (wrap .i64 (h - e))) fun j=>Pm N (b.take 3) false j false fun l=>Sz N i false l false fun f=>cond ((beq 0 0)&&((beq f.length 3)&&(beq 3 3))) (cond (ble 3 f.length) (r0 (f.take 3)) none) none) none)
def Cs:=(Ai (@N4 R)).1
def Ro:@Cs R=@N4 R:=(Ai _).2
def MO(a:LA)(c:Bool)(d:Int)(b:LA)(F:KF R):LA->O R:=fun m=>F (.pagg m false) [(100000,bN 0 [.iptr a c]),(100001,bN 0 [iv d]),(100002,bQ 0 b)]
def PW:=B9 N 248 [OU N,C8 N,Wy N,HT N] Hb (fun
|[.int .i64 e,.optr 100000 0,.optr 100001 0,.optr 100002 0],[(100000,⟨false,false,false,false,0,[.iptr a c],false,none⟩),(100001,⟨false,false,false,false,0,[.int .i64 d],false,none⟩),(100002,⟨false,false,true,false,0,b,false,none⟩)]=>some fun _ k=>Cs N e a c d b (MO a c d b k)
| _,_=>none) fun _ _=>by split;intro R F;dsimp only;rw[Ro];kernel_rfl;trivial
def OY(r0:LA->Bool->O R)(g:Nat)(f a:LA)(b:Bool)(c:Int)(d h:LA)(k2:Int->Int->Nat->Nat->LA->Bool->LA->O R)(v p:Int)(s t:Nat)(w:LA)(u:Bool)(x:LA):O R:=(cond (decide (p<v)) (cond (Ac p g) (Aq .i64 (h.drop (0+(p.toNat*1))) fun aa=>Cs N aa a b c d fun ac=>E4 N aa ac false s t w u x fun ad ae af ag ah=>k2 v (wrap .i64 (p+1)) ad ae af ag ah) none) (r0 [.imm (w.take (s*1)) s 1 false false,.imm (x.take (t*3)) t 3 false u] (u||false)))
def N5(r0:LA->Bool->O R)(g:Nat)(f a:LA)(b:Bool)(c:Int)(d h:LA):Nat->Int->Int->Nat->Nat->LA->Bool->LA->O R
|0=>fun _ _ _ _ _ _ _=>none
|n+1=>OY N r0 g f a b c d h (N5 r0 g f a b c d h n)
def OZ(r0:LA->Bool->O R)(g:Nat)(f a:LA)(b:Bool)(c:Int)(d h:LA)(k1:Int->O R)(k2:Int->Int->Nat->Nat->LA->Bool->LA->O R)(y:Int):O R:=(cond (decide (0<y)) (cond (Ac 0 g) (Aq .i64 h fun ab=>Cs N ab a b c d fun ai=>Gi N ab ai false fun aj ak al=>k2 y 1 1 1 aj ak al) none) (r0 [.nsl,.nsl] false))
def N6(r0:LA->Bool->O R)(g:Nat)(f a:LA)(b:Bool)(c:Int)(d h:LA):Nat->Int->O R
|0=>fun _=>none
|n+1=>OZ N r0 g f a b c d h (N6 r0 g f a b c d h n) (N5 N r0 g f a b c d h n)
def Xv(r0:LA->Bool->O R)(i j:Int)(l:Nat)(f a:LA)(b:Bool)(c:Int)(d:LA)(k0:Nat->Int->Int->LA->O R)(q1:Nat->LA->Int->O R)(m:Nat)(q o:Int)(r:LA):O R:=(cond (decide (o<q)) (cond (Ac o l) (Aq .i64 (f.drop (0+(o.toNat*1))) fun z=>cond ((decide (z>i))==true) (cond (cond true (decide (z<j)) false) (cond ((ble (m+1) 140737488355328)&&(ble ((m+1)*8) 140737488355328)) (k0 (m+1) q (wrap .i64 (o+1)) ((r.take (m*1))++[.int .i64 z])) none) (k0 m q (wrap .i64 (o+1)) r)) (k0 m q (wrap .i64 (o+1)) r)) none) (Fk N m r fun am=>Cr N m am fun g h=>q1 g h (g:Int)))
def Jw(r0:LA->Bool->O R)(i j:Int)(l:Nat)(f a:LA)(b:Bool)(c:Int)(d:LA):Nat->Nat->Int->Int->LA->O R
|0=>fun _ _ _ _=>none
|n+1=>Xv N r0 i j l f a b c d (Jw r0 i j l f a b c d n) (fun g h=>N6 N r0 g f a b c d h N)
def Zn(N:Nat)(r0:LA->Bool->O R)(q0:Nat->Int->Int->LA->O R)(i j:Int)(l:Nat)(f a:LA)(b:Bool)(c:Int)(d:LA):O R:=(q0 2 (l:Int) 0 [.int .i64 i,.int .i64 j])
def EV:=(Ai fun N i j l f a b c d r0=>Zn (R:=R) N r0 (Jw N r0 i j l f a b c d N) i j l f a b c d).1
def O_(i j l f a b c d r0):(@EV R N i j l f a b c d r0)=(Zn N r0 (Jw N r0 i j l f a b c d N) i j l f a b c d):=by rw[EV,(Ai _).2]
def YA:Ru:=[B' N,Tu N,PW N,Ga N]
def CI(F:KF R):=J7 Tryz.f70 Agl (YA N) [100000,100001,100002,100003] N F
def F2(f a:LA)(b:Bool)(c:Int)(d:LA)(F:KF R):LA->Bool->O R:=fun an ao=>F (.pagg an ao) [(100000,bQ 1 f),(100001,bN 0 [.iptr a b]),(100002,bN 0 [iv c]),(100003,bQ 0 d)]
def rJ(g:Nat)(f a:LA)(b:Bool)(c:Int)(d h:LA)(K:St->O R):=fun v p s t w u x=>K ⟨[(3,.fn 248 [.optr 100001 0,.optr 100002 0,.optr 100003 0]),(8,op 0),(12,op 1),(41,A6q 2 g),(42,iv v),(43,iv p)],[(100000,bQ 1 f),(100001,bN 0 [.iptr a b]),(100002,bN 0 [iv c]),(100003,bQ 0 d),(300000,bN 0 [.nsl,.nsl]),(300001,bN 0 [A6q 3 s,A6q 4 t]),(300002,bQ 1 h),(300003,bQ 1 w),(300004,bP u 3 x)]⟩
def rK(g:Nat)(f a:LA)(b:Bool)(c:Int)(d h:LA)(K:St->O R):=fun y=>K ⟨[(3,.fn 248 [.optr 100001 0,.optr 100002 0,.optr 100003 0]),(8,op 0),(12,op 1),(41,A6q 2 g),(42,iv y),(43,iv 0)],[(100000,bQ 1 f),(100001,bN 0 [.iptr a b]),(100002,bN 0 [iv c]),(100003,bQ 0 d),(300000,bN 0 [.nsl,.nsl]),(300001,bN 0 [.nsl,.nsl]),(300002,bQ 1 h)]⟩
def rL(i j:Int)(l:Nat)(f a:LA)(b:Bool)(c:Int)(d:LA)(K:St->O R):=fun m q o r=>K ⟨[(0,iv i),(1,iv j),(3,.fn 248 [.optr 100001 0,.optr 100002 0,.optr 100003 0]),(8,op 0),(9,A6q 1 m),(18,.own 100000 0 l),(19,iv q),(20,iv o)],[(100000,bQ 1 f),(100001,bN 0 [.iptr a b]),(100002,bN 0 [iv c]),(100003,bQ 0 d),(300000,bN 0 [.nsl,.nsl]),(300001,bQ 1 r)]⟩
def e_(F:KF R)(g f a b c d h):∀ n,rJ g f a b c d h (Au (CI N F (pz 349508) []) n)=(N5 N (F2 f a b c d F) g f a b c d h n):=Gn fun n e=>(B5 (OY N (F2 f a b c d F) g f a b c d h) e:_)
def fA(F:KF R)(g f a b c d h):∀ n,rK g f a b c d h (Au (CI N F (pz 349508) []) n)=(N6 N (F2 f a b c d F) g f a b c d h n):=Gn fun n e=>(KH (OZ N (F2 f a b c d F) g f a b c d h) e (e_ ..):_)
def fB(F:KF R)(i j l f a b c d):∀ n,rL i j l f a b c d (Au (CI N F (pz 1348) []) n)=(Jw N (F2 f a b c d F) i j l f a b c d n):=Gn fun n e=>(KH (Xv N (F2 f a b c d F) i j l f a b c d) e (ld fun g h=>(lW ..).trans (fA ..)):_)
def tc:=B9 N 70 (YA N) Agl (fun
|[.int .i64 i,.int .i64 j,.own 100000 0 l,.fn 248 [.optr 100001 0,.optr 100002 0,.optr 100003 0]],[(100000,⟨false,false,true,false,1,f,false,none⟩),(100001,⟨false,false,false,false,0,[.iptr a b],false,none⟩),(100002,⟨false,false,false,false,0,[.int .i64 c],false,none⟩),(100003,⟨false,false,true,false,0,d,false,none⟩)]=>some fun _ k=>EV N i j l f a b c d (F2 f a b c d k)
| _,_=>none) fun _ _=>by split;rename_i i j l f a b c d;intro R F;exact(B5 (Zn N (F2 f a b c d F) · i j l f a b c d) ((lW ..).trans (fB ..)):_).trans (O_ ..).symm;trivial
def Va(a:LA)(b:Bool)(c:Int)(r0:LA->Bool->O R):O R:=(Gj N a b c fun f=>cond ((beq 0 0)&&((beq f.length 3)&&(beq 3 3))) (Aq .i64 (a.drop 8) fun h=>Aq .i64 (a.drop 16) fun i=>Bq 1 (a.drop 25) fun g d=>cond ((!b)||(A9 g)) (cond ((ble (1+d) 140737488355328)&&(ble ((1+d)*8) 140737488355328)) (Aq .i64 (a.drop 2) fun j=>Aq .i64 (a.drop 8) fun l=>EV N j l (1+d) ([.int .i64 (wrap .i64 (h - i))]++g) a b c f fun e m=>cond ((beq 0 0)&&((beq e.length 2)&&(beq 2 2))) (cond (ble 2 e.length) (r0 (e.take 2) m) none) none) none) none) none)
def Lx:=(Ai (@Va R)).1
def Yp:@Lx R=@Va R:=(Ai _).2
def fC:=B9 N 233 [Te N,tc N] Hb (fun
|[.iptr a b,.int .i64 c],[]=>some fun _ k=>Lx N a b c (ov k)
| _,_=>none) fun _ _=>by split;intro R F;dsimp only;rw[Yp];kernel_rfl;trivial
end
end Gx
