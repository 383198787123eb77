/- A part of the proof; each theorem says what it holds. -/
import Derived.Shelf.Sort.Plain
import Derived.Laws.BitsLemmas
import Derived.Test.YtihjnfhdmgipmaaGreatP2
set_option linter.unusedVariables false
set_option linter.defProp false
set_option linter.unusedSimpArgs false
open Nat (ble beq)
open List (take drop replicate)
open Go.IntKind (wrap)
namespace Gx
open Go Go.Proofs
set_option maxRecDepth 100000
noncomputable section
variable{R:Type}(N:Nat)
def Xk(N:Nat)(k0:Int->Int->LA->O R)(r0:Nat->Bool->LA->O R)(a b:Nat)(c d f:LA)(g s:Int):O R:=(cond (Ah g a) (Au .u32 (c.drop (0+(g.toNat*1))) fun u=>cond (decide ((wrap .u64 u)<s)) (cond (Ah g a) (cond ((beq 1 1)&&((ble ((0+(g.toNat*1))+1) f.length)&&(!false))) (k0 1 (wrap .i64 (g+1)) (f.set (0+(g.toNat*1)) (.int .u32 (wrap .u32 (wrap .u64 ((wrap .u64 ((wrap .u64 u)+4294967296)) - s)))))) none) none) (cond (Ah g a) (cond ((beq 1 1)&&((ble ((0+(g.toNat*1))+1) f.length)&&(!false))) (k0 0 (wrap .i64 (g+1)) (f.set (0+(g.toNat*1)) (.int .u32 (wrap .u32 (wrap .u64 ((wrap .u64 u) - s)))))) none) none)) none)
def Y2(r0:Nat->Bool->LA->O R)(a b:Nat)(c d:LA)(k0:Int->Int->LA->O R)(q1:LA->Int->Int->O R)(t p:Int)(f:LA):O R:=(cond (decide (p<(a:Int))) (cond (decide (p<(b:Int))) (cond (Ah p b) (Au .u32 (d.drop (0+(p.toNat*1))) fun v=>q1 f p (wrap .u64 (t+(wrap .u64 v)))) none) (q1 f p t)) (Dg N (f.take (a*1)) a false true fun w x=>r0 w true x))
def Hk(r0:Nat->Bool->LA->O R)(a b:Nat)(c d:LA):Nat->Int->Int->LA->O R
|0=>fun _ _ _=>none
|n+1=>Y2 N r0 a b c d (Hk r0 a b c d n) (fun f=>Xk N (Hk r0 a b c d n) r0 a b c d f)
def UU(r0:Nat->Bool->LA->O R)(q0:Nat->Nat->LA->LA->Int->Int->LA->O R)(h:LA)(i:Nat)(q j:Bool)(l:LA)(m:Nat)(r o:Bool):O R:=(Tm N h i false j l m false o fun y=>cond (decide (y<0)) (r0 0 false []) (Dg N h i false j fun a c=>Dg N l m false o fun b d=>cond ((decide (0<=(a:Int)))&&((decide ((a:Int)<=(a:Int)))&&((decide ((a:Int)<=140737488355328))&&(decide (((a:Int)*((4:Nat):Int))<=140737488355328))))) (q0 a b c d 0 0 (replicate a (.int .u32 0))) none))
def FA:=(Ak fun N h i q j l m r o r0=>UU (R:=R) N r0 (fun a b c d=>Hk N r0 a b c d N) h i q j l m r o).1
def b8(h i q j l m r o r0):(@FA R N h i q j l m r o r0)=(UU N r0 (fun a b c d=>Hk N r0 a b c d N) h i q j l m r o):=by rw[FA,(Ak _).2]
def iU:Hints:={H:=hK 5 (hS (hK 1 (hS (hP [0,1,6,7,8] (hK 1 (hS (hS (hK 1 (hJ [0,1,6,8,9] hL hL)) hL) hL))) hL)) hL),nils:=[(4,1)],modes:=[(2,1),(0,0)]}
def mN:U6:=[kY N,Hi N]
def iV(F:KF R):=L7 Tryz.f142 iU (mN N) [] N F
def uM(a b:Nat)(c d f:LA)(K:St->O R):=fun g s=>K ⟨[(0,Aqb 0 a),(1,Aqb 1 b),(6,Aqb 2 a),(8,iv g),(9,.int .u64 s)],hq [bQ 1 c,bQ 1 d,bQ 1 f]⟩
def iW(a b:Nat)(c d:LA)(K:St->O R):=fun t p f=>K ⟨[(0,Aqb 0 a),(1,Aqb 1 b),(6,Aqb 2 a),(7,.int .u64 t),(8,iv p)],hq [bQ 1 c,bQ 1 d,bQ 1 f]⟩
def ke Q0 (F:KF R) (a b c d f):uM a b c d f (Bc (iV N F (pz 357843205) [Q0]))=(Xk N (iW a b c d Q0) (XA F) a b c d f):=by kernel_rfl
def kf(F:KF R)(a b c d):∀ n,iW a b c d (As (iV N F (pz 87364) []) n)=(Hk N (XA F) a b c d n):=Gu fun n e=>(OF (Y2 N (XA F) a b c d) e (wg fun f=>(jW ..).trans ((ke ..).trans (rA (Xk _ · _ _ _ _ _ _) e))):_)
def mO:=Ce N 142 (mN N) iU (fun
|[.imm h i 1 q j,.imm l m 1 r o],[]=>some fun _ k=>FA N h i q j l m r o (XA k)
| _,_=>none) fun _ _=>by split;intro R F;exact(Cg (UU N (XA F) · _ _ _ _ _ _ _ _) (t7 fun a b c d=>(lW ..).trans (kf ..)):_).trans (b8 ..).symm;trivial
def Kh(k1:Nat->Int->LA->LA->O R)(r0:Nat->Nat->Bool->LA->LA->O R)(b:LA)(a:Nat)(f c:Bool)(d:Nat)(h:Int)(g i:LA)(q:Nat)(s:LA):O R:=(FA N (s.take (q*1)) q false true (g.take (d*1)) d false true fun x y z=>cond y (cond (Ah (wrap .i64 (Int.tdiv h 32)) a) (Au .u32 (i.drop (0+(((wrap .i64 (Int.tdiv h 32)).toNat)*1))) fun aa=>cond (decide ((wrap .u64 (Int.tmod h 32))<0)) none (cond (Ah (wrap .i64 (Int.tdiv h 32)) a) (cond ((beq 1 1)&&((ble ((0+(((wrap .i64 (Int.tdiv h 32)).toNat)*1))+1) i.length)&&(!false))) (k1 x (wrap .i64 (h - 1)) (i.set (0+(((wrap .i64 (Int.tdiv h 32)).toNat)*1)) (.int .u32 (Of .u32 aa (wrap .u32 ((1:Int)*2 ^ (min ((wrap .u64 (Int.tmod h 32)).toNat) 32)))))) z) none) none)) none) (k1 q (wrap .i64 (h - 1)) i s))
def Px(r0:Nat->Nat->Bool->LA->LA->O R)(b:LA)(a:Nat)(f c:Bool)(d:Nat)(g:LA)(k1:Nat->Int->LA->LA->O R)(q2:Int->LA->Nat->LA->O R)(j:Nat)(h:Int)(i r:LA):O R:=(cond (decide (h>=0)) (EQ N (r.take (j*1)) j false true (r.take (j*1)) j false true fun u v=>eg N b a false c h fun ab=>cond (ab==1) (EQ N (v.take (u*1)) u false true [.int .u32 1] 1 false true fun ac ad=>q2 h i ac ad) (q2 h i u v)) (Dg N (i.take (a*1)) a false true fun ae af=>Dg N (r.take (j*1)) j false true fun ag ah=>r0 ae ag true af ah))
def Em(r0:Nat->Nat->Bool->LA->LA->O R)(b:LA)(a:Nat)(f c:Bool)(d:Nat)(g:LA):Nat->Nat->Int->LA->LA->O R
|0=>fun _ _ _ _=>none
|n+1=>Px N r0 b a f c d g (Em r0 b a f c d g n) (fun h i=>Kh N (Em r0 b a f c d g n) r0 b a f c d h g i)
def Xl(r0:Nat->Nat->Bool->LA->LA->O R)(b:LA)(a:Nat)(f c:Bool)(d:Nat)(g:LA)(q1:Nat->Int->LA->LA->O R):O R:=(cond ((decide (0<=(a:Int)))&&((decide ((a:Int)<=(a:Int)))&&((decide ((a:Int)<=140737488355328))&&(decide (((a:Int)*((4:Nat):Int))<=140737488355328))))) (KD N b a false c fun ai=>q1 0 (wrap .i64 (ai - 1)) (replicate a (.int .u32 0)) []) none)
def Ni(r0:Nat->Nat->Bool->LA->LA->O R)(b:LA)(a:Nat)(f c:Bool)(d:Nat)(g:LA):O R:=Xl N r0 b a f c d g (Em N r0 b a f c d g N)
def Y3(r0:Nat->Nat->Bool->LA->LA->O R)(q0:Nat->LA->O R)(b:LA)(a:Nat)(f c:Bool)(l:LA)(m:Nat)(p o:Bool):O R:=(Dg N l m false o fun d g=>cond ((d:Int)==0) (r0 0 0 false [] []) (Rj N b a false c fun w aj=>Rj N (g.take (d*1)) d false true fun t ak=>cond (aj==true) (cond (cond true ak false) (cond (t==0) none (F4 N (wrap .u64 (Int.tdiv w t)) fun al am=>cond (t==0) none (F4 N (Int.tmod w t) fun an ao=>r0 al an true am ao))) (q0 d g)) (q0 d g)))
def Rl:=(Ak fun N b a f c l m p o r0=>Y3 (R:=R) N r0 (fun d g=>Ni N r0 b a f c d g) b a f c l m p o).1
def KP(b a f c l m p o r0):(@Rl R N b a f c l m p o r0)=(Y3 N r0 (fun d g=>Ni N r0 b a f c d g) b a f c l m p o):=by rw[Rl,(Ak _).2]
def PE:Hints:={H:=hK 4 (hJ [0,1,5] hL (hK 1 (hS (hK 1 (hS (hP [0,1,4,5,11] (hK 1 (hS (hS (hK 1 (hJ [0,1,4,5,11] hL hL)) hL) hL))) hL)) hL))),nils:=[(4,1),(5,1)],modes:=[(2,1),(2,1),(0,0)]}
def UV:U6:=[Hi N,pK N,BT N,uE N,mH N,xN N,mO N]
def Z0(F:KF R):=L7 Tryz.f190 PE (UV N) [] N F
def kg(b:LA)(a:Nat)(f c:Bool)(d:Nat)(h:Int)(g i:LA)(K:St->O R):=fun q s=>K ⟨[(0,.imm b a 1 f c),(1,Aqb 0 d),(4,Aqb 1 a),(5,Aqb 2 q),(11,iv h)],hq [bQ 1 g,bQ 1 i,bQ 1 s]⟩
def PF(b:LA)(a:Nat)(f c:Bool)(d:Nat)(g:LA)(K:St->O R):=fun j h i r=>K ⟨[(0,.imm b a 1 f c),(1,Aqb 0 d),(4,Aqb 1 a),(5,Aqb 2 j),(11,iv h)],hq [bQ 1 g,bQ 1 i,bQ 1 r]⟩
def ki(b:LA)(a:Nat)(f c:Bool)(d:Nat)(g:LA)(K:St->O R):=K ⟨[(0,.imm b a 1 f c),(1,Aqb 0 d),(5,Aqb 1 0)],hq [bQ 1 g,bQ 1 []]⟩
def YP Q1 (F:KF R) (b a f c d h g i):kg b a f c d h g i (Bc (Z0 N F (pz 1431585029) [Q1]))=(Kh N (PF b a f c d g Q1) (a8 F) b a f c d h g i):=by kernel_rfl
def YQ(F:KF R)(b a f c d g):∀ n,PF b a f c d g (As (Z0 N F (pz 349508) []) n)=(Em N (a8 F) b a f c d g n):=Gu fun n e=>(OF (Px N (a8 F) b a f c d g) e (oE fun h i=>(jW ..).trans ((YP ..).trans (rA (Kh _ · _ _ _ _ _ _ _ _ _) e))):_)
def YR(F:KF R)(b a f c d g):ki b a f c d g (Bc (Z0 N F (pz 1365) []))=(Ni N (a8 F) b a f c d g):=(Cg (Xl N (a8 F) b a f c d g) ((lW ..).trans (YQ ..)):_)
def UW:=Ce N 190 (UV N) PE (fun
|[.imm b a 1 f c,.imm l m 1 p o],[]=>some fun _ k=>Rl N b a f c l m p o (a8 k)
| _,_=>none) fun _ _=>by split;intro R F;exact(Cg (Y3 N (a8 F) · _ _ _ _ _ _ _ _) (oE fun d g=>(jW ..).trans (YR ..)):_).trans (KP ..).symm;trivial
def Ou(r0:Nat->LA->O R)(k0:Nat->Nat->LA->LA->O R)(l j:Nat)(m o:LA):O R:=(cond (decide ((j:Int)>0)) (Rl N (m.take (l*1)) l false true (o.take (j*1)) j false true fun v p w x q=>k0 j p o q) (r0 l m))
def Dt(r0:Nat->LA->O R):Nat->Nat->Nat->LA->LA->O R
|0=>fun _ _ _ _=>none
|n+1=>Ou N r0 (Dt r0 n)
def UX(r0:Nat->LA->O R)(q0:Nat->Nat->LA->LA->O R)(a:LA)(b:Nat)(h c:Bool)(d:LA)(f:Nat)(i g:Bool):O R:=(Dg N a b false c fun r s=>Dg N d f false g fun t u=>q0 r t s u)
def UY:=(Ak fun N a b h c d f i g r0=>UX (R:=R) N r0 (Dt N r0 N) a b h c d f i g).1
def b9(a b h c d f i g r0):(@UY R N a b h c d f i g r0)=(UX N r0 (Dt N r0 N) a b h c d f i g):=by rw[UY,(Ak _).2]
def iX:Hints:={H:=hK 2 (hS (hS (hP [0,1] hL) hL) hL),nils:=[(4,1)],modes:=[(2,1)]}
def mP:U6:=[Hi N,UW N]
def uN(F:KF R):=L7 Tryz.f189 iX (mP N) [] N F
def uO(K:St->O R):=fun l j m o=>K ⟨[(0,Aqb 0 l),(1,Aqb 1 j)],hq [bQ 1 m,bQ 1 o]⟩
def kj(F:KF R):∀ n,uO (As (uN N F (pz 336) []) n)=(Dt N (B9 F) n):=Gu fun n e=>(Cg (Ou N (B9 F)) e:_)
def xU:=Ce N 189 (mP N) iX (fun
|[.imm a b 1 h c,.imm d f 1 i g],[]=>some fun _ k=>UY N a b h c d f i g (B9 k)
| _,_=>none) fun _ _=>by split;intro R F;exact(Cg (UX N (B9 F) · _ _ _ _ _ _ _ _) ((lW ..).trans (kj ..)):_).trans (b9 ..).symm;trivial
def iY(a:LA)(b:Bool)(c:LA)(d:Bool)(r0:LA->O R):O R:=(Bv 1 (a.drop 1) fun g h=>Bv 1 (c.drop 1) fun i j=>UY N g h false b i j false d fun f l=>F3 N false (l.take (f*1)) f false true fun e=>cond ((beq 0 0)&&((beq e.length 2)&&(beq 2 2))) (cond (ble 2 e.length) (r0 (e.take 2)) none) none)
def ei:=(Ak (@iY R)).1
def b_:@ei R=@iY R:=(Ak _).2
def xV:=Ce N 136 [xU N,Lo N] Kl (fun
|[.pagg a b,.pagg c d],[]=>some fun _ k=>ei N a b c d (Cq k)
| _,_=>none) fun _ _=>by split;intro R F;dsimp only;rw[b_];kernel_rfl;trivial
def sC(a:LA)(b:Bool)(r0:LA->O R):O R:=(Bv 1 (a.drop 1) fun d e=>F3 N false d e false b fun c=>cond ((beq 0 0)&&((beq c.length 2)&&(beq 2 2))) (cond (ble 2 c.length) (r0 (c.take 2)) none) none)
def pR:=(Ak (@sC R)).1
def sD:@pR R=@sC R:=(Ak _).2
def xW:=Ce N 191 [Lo N] Kl (fun
|[.pagg a b],[]=>some fun _ k=>pR N a b (Cq k)
| _,_=>none) fun _ _=>by split;intro R F;dsimp only;rw[sD];kernel_rfl;trivial
def iZ(a:LA)(c:Bool)(b:LA)(d:Bool)(r0:LA->O R):O R:=(X2 a fun l=>X2 b fun m=>cond (l==m) (X2 a fun n=>Bv 1 (a.drop 1) fun o p=>Bv 1 (b.drop 1) fun q r=>EQ N o p false c q r false d fun h s=>F3 N n (s.take (h*1)) h false true fun e=>cond ((beq 0 0)&&((beq e.length 2)&&(beq 2 2))) (cond (ble 2 e.length) (r0 (e.take 2)) none) none) (Bv 1 (a.drop 1) fun t u=>Bv 1 (b.drop 1) fun v w=>FA N t u false c v w false d fun i x y=>cond x (X2 a fun z=>F3 N z (y.take (i*1)) i false true fun f=>cond ((beq 0 0)&&((beq f.length 2)&&(beq 2 2))) (cond (ble 2 f.length) (r0 (f.take 2)) none) none) (Bv 1 (b.drop 1) fun aa ab=>Bv 1 (a.drop 1) fun ac ad=>FA N aa ab false d ac ad false c fun j ag ae=>X2 b fun af=>F3 N af (ae.take (j*1)) j false true fun g=>cond ((beq 0 0)&&((beq g.length 2)&&(beq 2 2))) (cond (ble 2 g.length) (r0 (g.take 2)) none) none)))
def Y4:=(Ak (@iZ R)).1
def cA:@Y4 R=@iZ R:=(Ak _).2
def YS:=Ce N 81 [mH N,Lo N,mO N] Kl (fun
|[.pagg a c,.pagg b d],[]=>some fun _ k=>Y4 N a c b d (Cq k)
| _,_=>none) fun _ _=>by split;intro R F;dsimp only;rw[cA];kernel_rfl;trivial
def FB(a:Int)(r0:LA->O R):O R:=(cond (decide (a<0)) (F4 N (wrap .u64 ((wrap .u64 (wrap .i64 ((0:Int) - (wrap .i64 (a+1)))))+1)) fun d f=>F3 N true (f.take (d*1)) d false true fun b=>cond ((beq 0 0)&&((beq b.length 2)&&(beq 2 2))) (cond (ble 2 b.length) (r0 (b.take 2)) none) none) (F4 N (wrap .u64 a) fun e g=>F3 N false (g.take (e*1)) e false true fun c=>cond ((beq 0 0)&&((beq c.length 2)&&(beq 2 2))) (cond (ble 2 c.length) (r0 (c.take 2)) none) none))
def G7:=(Ak (@FB R)).1
def GV:@G7 R=@FB R:=(Ak _).2
def Z1:=Ce N 80 [BT N,Lo N] Kl (fun
|[.int .i64 a],[]=>some fun _ k=>G7 N a (Cq k)
| _,_=>none) fun _ _=>by split;intro R F;dsimp only;rw[GV];kernel_rfl;trivial
def i0(a:LA)(b:Bool)(r0:LA->O R):O R:=(X2 a fun d=>Bv 1 (a.drop 1) fun e f=>F3 N (!d) e f false b fun c=>cond ((beq 0 0)&&((beq c.length 2)&&(beq 2 2))) (cond (ble 2 c.length) (r0 (c.take 2)) none) none)
def Y5:=(Ak (@i0 R)).1
def cB:@Y5 R=@i0 R:=(Ak _).2
def YT:=Ce N 138 [Lo N] Kl (fun
|[.pagg a b],[]=>some fun _ k=>Y5 N a b (Cq k)
| _,_=>none) fun _ _=>by split;intro R F;dsimp only;rw[cB];kernel_rfl;trivial
def sE(a:LA)(c:Bool)(b:LA)(d:Bool)(r0:LA->O R):O R:=(cond (ble 2 a.length) (cond (ble 2 b.length) (Y5 N (b.take 2) d fun f=>Y4 N (a.take 2) c f false fun e=>cond ((beq 0 0)&&((beq e.length 2)&&(beq 2 2))) (cond (ble 2 e.length) (r0 (e.take 2)) none) none) none) none)
def pS:=(Ak (@sE R)).1
def sF:@pS R=@sE R:=(Ak _).2
def xX:=Ce N 192 [YT N,YS N] Kl (fun
|[.pagg a c,.pagg b d],[]=>some fun _ k=>pS N a c b d (Cq k)
| _,_=>none) fun _ _=>by split;intro R F;dsimp only;rw[sF];kernel_rfl;trivial
def KQ(g:LA)(i:Bool)(f:LA)(h:Bool)(r0:LA->LA->Bool->O R):O R:=(Bv 1 (g.drop 1) fun m n=>Bv 1 (f.drop 1) fun o p=>Rl N m n false i o p false h fun j l q r s=>cond (!q) (r0 [.bool false,.nsl] [.bool false,.nsl] false) (X2 g fun t=>X2 f fun u=>F3 N (!(t==u)) (r.take (j*1)) j false true fun a=>X2 g fun v=>F3 N v (s.take (l*1)) l false true fun b=>cond ((beq 0 0)&&((beq a.length 2)&&(beq 2 2))) (cond ((beq 0 0)&&((beq b.length 2)&&(beq 2 2))) (X2 b fun w=>cond w (cond (ble 2 b.length) (cond (ble 2 f.length) (pR N (f.take 2) h fun x=>Y4 N (b.take 2) false x false fun c=>cond ((beq c.length 2)&&((ble 2 b.length)&&(!false))) (X2 f fun y=>cond y (cond (ble 2 a.length) (G7 N 1 fun z=>Y4 N (a.take 2) false z false fun d=>cond ((beq d.length 2)&&((ble 2 a.length)&&(!false))) (cond (ble 2 ((setCells a 0 d).length)) (cond (ble 2 ((setCells b 0 c).length)) (cond ((beq (((setCells a 0 d).take 2).length) 2)&&((ble 2 ((setCells a 0 d).length))&&(!false))) (cond ((beq (((setCells b 0 c).take 2).length) 2)&&((ble 2 ((setCells b 0 c).length))&&(!false))) (cond (ble 2 ((setCells (setCells a 0 d) 0 ((setCells a 0 d).take 2)).length)) (cond (ble 2 ((setCells (setCells b 0 c) 0 ((setCells b 0 c).take 2)).length)) (r0 ((setCells (setCells a 0 d) 0 ((setCells a 0 d).take 2)).take 2) ((setCells (setCells b 0 c) 0 ((setCells b 0 c).take 2)).take 2) true) none) none) none) none) none) none) none) none) (cond (ble 2 a.length) (G7 N 1 fun aa=>pS N (a.take 2) false aa false fun e=>cond ((beq e.length 2)&&((ble 2 a.length)&&(!false))) (cond (ble 2 ((setCells a 0 e).length)) (cond (ble 2 ((setCells b 0 c).length)) (cond ((beq (((setCells a 0 e).take 2).length) 2)&&((ble 2 ((setCells a 0 e).length))&&(!false))) (cond ((beq (((setCells b 0 c).take 2).length) 2)&&((ble 2 ((setCells b 0 c).length))&&(!false))) (cond (ble 2 ((setCells (setCells a 0 e) 0 ((setCells a 0 e).take 2)).length)) (cond (ble 2 ((setCells (setCells b 0 c) 0 ((setCells b 0 c).take 2)).length)) (r0 ((setCells (setCells a 0 e) 0 ((setCells a 0 e).take 2)).take 2) ((setCells (setCells b 0 c) 0 ((setCells b 0 c).take 2)).take 2) true) none) none) none) none) none) none) none) none)) none) none) none) (cond (ble 2 a.length) (cond (ble 2 b.length) (cond ((beq ((a.take 2).length) 2)&&((ble 2 a.length)&&(!false))) (cond ((beq ((b.take 2).length) 2)&&((ble 2 b.length)&&(!false))) (cond (ble 2 ((setCells a 0 (a.take 2)).length)) (cond (ble 2 ((setCells b 0 (b.take 2)).length)) (r0 ((setCells a 0 (a.take 2)).take 2) ((setCells b 0 (b.take 2)).take 2) true) none) none) none) none) none) none)) none) none))
def Xm:=(Ak (@KQ R)).1
def KR:@Xm R=@KQ R:=(Ak _).2
def ko(F:KF R):LA->LA->Bool->O R:=fun ab ac ad=>F (.tup [.pagg ab false,.pagg ac false,.bool ad]) []
def pT:=Ce N 137 [UW N,Lo N,xW N,YS N,Z1 N,xX N] { H:=hL,modes:=[(3,0),(3,0),(0,0)] } (fun
|[.pagg g i,.pagg f h],[]=>some fun _ k=>Xm N g i f h (ko k)
| _,_=>none) fun _ _=>by split;intro R F;dsimp only;rw[KR];kernel_rfl;trivial
def Y6(r0:LA->O R)(d:Bool)(b:LA)(c:Bool)(a:LA):O R:=(cond (ble 2 b.length) (cond (ble 2 a.length) (ei N (b.take 2) d (a.take 2) c fun h=>cond ((beq 0 0)&&((beq h.length 2)&&(beq 2 2))) (cond (ble 2 b.length) (cond (ble 2 h.length) (Xm N (b.take 2) d (h.take 2) false fun e t ab=>cond ((beq 0 0)&&((beq e.length 2)&&(beq 2 2))) (cond ((beq 0 0)&&((beq t.length 2)&&(beq 2 2))) (cond (ble 2 a.length) (cond (ble 2 h.length) (Xm N (a.take 2) c (h.take 2) false fun f u ac=>cond ((beq 0 0)&&((beq f.length 2)&&(beq 2 2))) (cond ((beq 0 0)&&((beq u.length 2)&&(beq 2 2))) (X2 f fun v=>cond v (cond (ble 2 e.length) (Y5 N (e.take 2) false fun g=>cond (ble 2 f.length) (Y5 N (f.take 2) false fun s=>cond ((beq g.length 2)&&((ble 2 e.length)&&(!false))) (cond ((beq s.length 2)&&((ble 2 f.length)&&(!false))) (cond (ble 2 ((setCells e 0 g).length)) (Bv 1 ((setCells f 0 s).drop 1) fun l m=>cond ((beq (((setCells e 0 g).take 2).length) 2)&&(ble 2 3)) (cond ((beq 1 1)&&(ble 3 ((setCells [.bool false,.nsl,.nsl] 0 ((setCells e 0 g).take 2)).length))) (cond ((beq 0 0)&&((beq (((setCells [.bool false,.nsl,.nsl] 0 ((setCells e 0 g).take 2)).set 2 (.imm l m 1 false false)).length) 3)&&(beq 3 3))) (cond (ble 3 (((setCells [.bool false,.nsl,.nsl] 0 ((setCells e 0 g).take 2)).set 2 (.imm l m 1 false false)).length)) (r0 (((setCells [.bool false,.nsl,.nsl] 0 ((setCells e 0 g).take 2)).set 2 (.imm l m 1 false false)).take 3)) none) none) none) none) none) none) none) none) none) (cond (ble 2 e.length) (Bv 1 (f.drop 1) fun n o=>cond ((beq ((e.take 2).length) 2)&&(ble 2 3)) (cond ((beq 1 1)&&(ble 3 ((setCells [.bool false,.nsl,.nsl] 0 (e.take 2)).length))) (cond ((beq 0 0)&&((beq (((setCells [.bool false,.nsl,.nsl] 0 (e.take 2)).set 2 (.imm n o 1 false false)).length) 3)&&(beq 3 3))) (cond (ble 3 (((setCells [.bool false,.nsl,.nsl] 0 (e.take 2)).set 2 (.imm n o 1 false false)).length)) (r0 (((setCells [.bool false,.nsl,.nsl] 0 (e.take 2)).set 2 (.imm n o 1 false false)).take 3)) none) none) none) none) none)) none) none) none) none) none) none) none) none) none) none) none)
def MW(r0:LA->O R)(q0:O R)(b:LA)(d:Bool)(a:LA)(c:Bool):O R:=(cond (ble 2 a.length) (BR N (a.take 2) c fun w=>cond (w==0) (KB N fun p=>cond ((beq 0 0)&&((beq p.length 3)&&(beq 3 3))) (cond (ble 3 p.length) (r0 (p.take 3)) none) none) (cond (ble 2 a.length) (BQ N (a.take 2) c fun j=>cond ((beq 0 0)&&((beq j.length 2)&&(beq 2 2))) (X2 j fun x=>cond ((!x)==true) (Bv 1 (j.drop 1) fun y z=>BS N y z false false [.int .u32 1] 1 false true fun aa=>cond (cond true aa false) (cond (ble 2 b.length) (BQ N (b.take 2) d fun i=>Bv 1 (j.drop 1) fun q r=>cond ((beq i.length 2)&&(ble 2 3)) (cond ((beq 1 1)&&(ble 3 ((setCells [.bool false,.nsl,.nsl] 0 i).length))) (cond ((beq 0 0)&&((beq (((setCells [.bool false,.nsl,.nsl] 0 i).set 2 (.imm q r 1 false false)).length) 3)&&(beq 3 3))) (cond (ble 3 (((setCells [.bool false,.nsl,.nsl] 0 i).set 2 (.imm q r 1 false false)).length)) (r0 (((setCells [.bool false,.nsl,.nsl] 0 i).set 2 (.imm q r 1 false false)).take 3)) none) none) none) none) none) q0) q0) none) none)) none)
def Ls:=(Ak fun N b d a c r0=>MW (R:=R) N r0 (Y6 N r0 d b c a) b d a c).1
def UZ(b d a c r0):(@Ls R N b d a c r0)=(MW N r0 (Y6 N r0 d b c a) b d a c):=by rw[Ls,(Ak _).2]
def cC:Hints:={H:=hK 2 (hJ [2,3,4] hL hL),modes:=[(3,0)]}
def i7:U6:=[gr N,gt N,gq N,rf N,xV N,pT N,YT N]
def sG(F:KF R):=L7 Tryz.f79 cC (i7 N) [] N F
def sH(d:Bool)(b:LA)(c:Bool)(a:LA)(K:St->O R):=K ⟨[(2,op 0),(3,op 1),(4,op 2)],hq [bP d 0 b,bP c 0 a,bN 0 [.bool false,.nsl,.nsl]]⟩
def i8(F:KF R)(d b c a):sH d b c a (Bc (sG N F (pz 85) []))=(Y6 N (Cq F) d b c a):=by kernel_rfl
def Rm:=Ce N 79 (i7 N) cC (fun
|[.pagg b d,.pagg a c],[]=>some fun _ k=>Ls N b d a c (Cq k)
| _,_=>none) fun _ _=>by split;intro R F;exact(Cg (MW N (Cq F) · _ _ _ _) ((jW ..).trans (i8 ..)):_).trans (UZ ..).symm;trivial
def YU(a:LA)(b:Bool)(r0:LA->O R):O R:=(cond (ble 2 a.length) (Bv 1 (a.drop 2) fun d e=>Ls N (a.take 2) b [.bool false,.imm d e 1 false b] (b||false) fun c=>cond ((beq 0 0)&&((beq c.length 3)&&(beq 3 3))) (cond (ble 3 c.length) (r0 (c.take 3)) none) none) none)
def J6:=(Ak (@YU R)).1
def U_:@J6 R=@YU R:=(Ak _).2
def Rn:=Ce N 61 [Rm N] Kl (fun
|[.pagg a b],[]=>some fun _ k=>J6 N a b (Cq k)
| _,_=>none) fun _ _=>by split;intro R F;dsimp only;rw[U_];kernel_rfl;trivial
def YV(a:LA)(b:Bool)(r0:Int->O R):O R:=(cond (ble 3 a.length) (J6 N (a.take 3) b fun c=>cond (ble 2 c.length) (BR N (c.take 2) false fun d=>r0 d) none) none)
def KS:=(Ak (@YV R)).1
def VA:@KS R=@YV R:=(Ak _).2
def i9:=Ce N 25 [Rn N,gr N] Eg (fun
|[.pagg a b],[]=>some fun _ k=>KS N a b (Gv k)
| _,_=>none) fun _ _=>by split;intro R F;dsimp only;rw[VA];kernel_rfl;trivial
def FC(a:Int)(r0:LA->O R):O R:=(G7 N a fun c=>G7 N 1 fun d=>Ls N c false d false fun b=>cond ((beq 0 0)&&((beq b.length 3)&&(beq 3 3))) (cond (ble 3 b.length) (r0 (b.take 3)) none) none)
def D2:=(Ak (@FC R)).1
def GW:@D2 R=@FC R:=(Ak _).2
def S5:=Ce N 30 [Z1 N,Rm N] Kl (fun
|[.int .i64 a],[]=>some fun _ k=>D2 N a (Cq k)
| _,_=>none) fun _ _=>by split;intro R F;dsimp only;rw[GW];kernel_rfl;trivial
def Y7(N:Nat)(k0:Nat->Int->LA->O R)(r0:Nat->LA->O R)(c:LA)(b:Nat)(f g:Bool)(d:LA)(a:Nat)(h i:Bool)(j:Nat)(k1:Int->Int->Int->LA->O R)(l p m:Int)(o:LA):O R:=(cond (decide (m<(a:Int))) (cond (Ah (wrap .i64 (l+m)) j) (Au .u32 (o.drop (0+(((wrap .i64 (l+m)).toNat)*1))) fun s=>cond (Ah l b) (Au .u32 (c.drop (l.toNat*1)) fun t=>cond (Ah m a) (Au .u32 (d.drop (m.toNat*1)) fun u=>cond (Ah (wrap .i64 (l+m)) j) (cond ((beq 1 1)&&((ble ((0+(((wrap .i64 (l+m)).toNat)*1))+1) o.length)&&(!false))) (k1 l (Int.fdiv (wrap .u64 (p+(wrap .u64 ((wrap .u64 s)+(wrap .u64 ((wrap .u64 t)*(wrap .u64 u))))))) (2 ^ 32)) (wrap .i64 (m+1)) (o.set (0+(((wrap .i64 (l+m)).toNat)*1)) (.int .u32 (wrap .u32 (wrap .u64 (p+(wrap .u64 ((wrap .u64 s)+(wrap .u64 ((wrap .u64 t)*(wrap .u64 u))))))))))) none) none) none) none) none) (cond (Ah (wrap .i64 (l+(a:Int))) j) (cond ((beq 1 1)&&((ble ((0+(((wrap .i64 (l+(a:Int))).toNat)*1))+1) o.length)&&(!false))) (k0 j (wrap .i64 (l+1)) (o.set (0+(((wrap .i64 (l+(a:Int))).toNat)*1)) (.int .u32 (wrap .u32 p)))) none) none))
def N8(k0:Nat->Int->LA->O R)(r0:Nat->LA->O R)(c:LA)(b:Nat)(f g:Bool)(d:LA)(a:Nat)(h i:Bool)(j:Nat):Nat->Int->Int->Int->LA->O R
|0=>fun _ _ _ _=>none
|n+1=>Y7 N k0 r0 c b f g d a h i j (N8 k0 r0 c b f g d a h i j n)
def Y8(r0:Nat->LA->O R)(c:LA)(b:Nat)(f g:Bool)(d:LA)(a:Nat)(h i:Bool)(k0:Nat->Int->LA->O R)(q1:Nat->Int->Int->Int->LA->O R)(j:Nat)(q:Int)(r:LA):O R:=(cond (decide (q<(b:Int))) (q1 j q 0 0 r) (Dg N (r.take (j*1)) j false true fun v w=>r0 v w))
def Jg(r0:Nat->LA->O R)(c:LA)(b:Nat)(f g:Bool)(d:LA)(a:Nat)(h i:Bool):Nat->Nat->Int->LA->O R
|0=>fun _ _ _=>none
|n+1=>Y8 N r0 c b f g d a h i (Jg r0 c b f g d a h i n) (fun j=>N8 N (Jg r0 c b f g d a h i n) r0 c b f g d a h i j N)
def VB(N:Nat)(r0:Nat->LA->O R)(q0:Nat->Int->LA->O R)(c:LA)(b:Nat)(f g:Bool)(d:LA)(a:Nat)(h i:Bool):O R:=(cond ((decide (0<=(wrap .i64 ((b:Int)+(a:Int)))))&&((decide ((wrap .i64 ((b:Int)+(a:Int)))<=(wrap .i64 ((b:Int)+(a:Int)))))&&((decide ((wrap .i64 ((b:Int)+(a:Int)))<=140737488355328))&&(decide (((wrap .i64 ((b:Int)+(a:Int)))*((4:Nat):Int))<=140737488355328))))) (q0 ((wrap .i64 ((b:Int)+(a:Int))).toNat) 0 (replicate ((wrap .i64 ((b:Int)+(a:Int))).toNat) (.int .u32 0))) none)
def VC:=(Ak fun N c b f g d a h i r0=>VB (R:=R) N r0 (Jg N r0 c b f g d a h i N) c b f g d a h i).1
def cD(c b f g d a h i r0):(@VC R N c b f g d a h i r0)=(VB N r0 (Jg N r0 c b f g d a h i N) c b f g d a h i):=by rw[VC,(Ak _).2]
def i_:Hints:={H:=hK 2 (hS (hK 1 (hS (hP [0,1,5,6] (hK 1 (hS (hS (hK 1 (hS (hK 1 (hS (hP [0,1,5,6,7,8] hL) hL)) hL)) hL) hL))) hL)) hL),nils:=[(4,1)],modes:=[(2,1)]}
def mQ:U6:=[Hi N]
def ia(F:KF R):=L7 Tryz.f143 i_ (mQ N) [] N F
def uP(c:LA)(b:Nat)(f g:Bool)(d:LA)(a:Nat)(h i:Bool)(j:Nat)(K:St->O R):=fun l p m o=>K ⟨[(0,.imm c b 1 f g),(1,.imm d a 1 h i),(5,Aqb 0 j),(6,iv l),(7,.int .u64 p),(8,iv m)],hq [bQ 1 o]⟩
def RG(c:LA)(b:Nat)(f g:Bool)(d:LA)(a:Nat)(h i:Bool)(K:St->O R):=fun j q r=>K ⟨[(0,.imm c b 1 f g),(1,.imm d a 1 h i),(5,Aqb 0 j),(6,iv q)],hq [bQ 1 r]⟩
def kp Q0 (F:KF R) (c b f g d a h i j):∀ n,uP c b f g d a h i j (As (ia N F (pz 88346692) [Q0]) n)=(N8 N (RG c b f g d a h i Q0) (B9 F) c b f g d a h i j n):=Gu fun n e=>(Cg (Y7 N (RG c b f g d a h i Q0) (B9 F) c b f g d a h i j) e:_)
def kq(F:KF R)(c b f g d a h i):∀ n,RG c b f g d a h i (As (ia N F (pz 1348) []) n)=(Jg N (B9 F) c b f g d a h i n):=Gu fun n e=>(OF (Y8 N (B9 F) c b f g d a h i) e (wg fun j=>(lW ..).trans ((kp ..).trans (rA (N8 _ · _ _ _ _ _ _ _ _ _ _ _) e))):_)
def xY:=Ce N 143 (mQ N) i_ (fun
|[.imm c b 1 f g,.imm d a 1 h i],[]=>some fun _ k=>VC N c b f g d a h i (B9 k)
| _,_=>none) fun _ _=>by split;intro R F;exact(Cg (VB N (B9 F) · _ _ _ _ _ _ _ _) ((lW ..).trans (kq ..)):_).trans (cD ..).symm;trivial
def ib(a:LA)(c:Bool)(b:LA)(d:Bool)(r0:LA->O R):O R:=(X2 a fun g=>X2 b fun h=>Bv 1 (a.drop 1) fun i j=>Bv 1 (b.drop 1) fun l m=>VC N i j false c l m false d fun f n=>F3 N (!(g==h)) (n.take (f*1)) f false true fun e=>cond ((beq 0 0)&&((beq e.length 2)&&(beq 2 2))) (cond (ble 2 e.length) (r0 (e.take 2)) none) none)
def Vr:=(Ak (@ib R)).1
def cE:@Vr R=@ib R:=(Ak _).2
def mR:=Ce N 82 [xY N,Lo N] Kl (fun
|[.pagg a c,.pagg b d],[]=>some fun _ k=>Vr N a c b d (Cq k)
| _,_=>none) fun _ _=>by split;intro R F;dsimp only;rw[cE];kernel_rfl;trivial
def ig(a:LA)(b:Bool)(r0:LA->O R):O R:=(cond (ble 3 a.length) (J6 N (a.take 3) b fun c=>Bv 1 (c.drop 2) fun d e=>r0 [.bool false,.imm d e 1 false false]) none)
def S6:=(Ak (@ig R)).1
def cF:@S6 R=@ig R:=(Ak _).2
def YW:=Ce N 83 [Rn N] Kl (fun
|[.pagg a b],[]=>some fun _ k=>S6 N a b (Cq k)
| _,_=>none) fun _ _=>by split;intro R F;dsimp only;rw[cF];kernel_rfl;trivial
def ii(a:LA)(c:Bool)(b:LA)(d:Bool)(r0:LA->O R):O R:=(cond (ble 3 a.length) (J6 N (a.take 3) c fun f=>cond (ble 2 f.length) (cond (ble 3 b.length) (J6 N (b.take 3) d fun g=>cond (ble 2 g.length) (Vr N (f.take 2) false (g.take 2) false fun h=>cond (ble 3 a.length) (S6 N (a.take 3) c fun i=>cond (ble 3 b.length) (S6 N (b.take 3) d fun j=>Vr N i false j false fun l=>Ls N h false l false fun e=>cond ((beq 0 0)&&((beq e.length 3)&&(beq 3 3))) (cond (ble 3 e.length) (r0 (e.take 3)) none) none) none) none) none) none) none) none)
def Y9:=(Ak (@ii R)).1
def cG:@Y9 R=@ii R:=(Ak _).2
def mS:=Ce N 77 [Rn N,mR N,YW N,Rm N] Kl (fun
|[.pagg a c,.pagg b d],[]=>some fun _ k=>Y9 N a c b d (Cq k)
| _,_=>none) fun _ _=>by split;intro R F;dsimp only;rw[cG];kernel_rfl;trivial
def ij(a:LA)(c:Bool)(b:LA)(d:Bool)(r0:LA->O R):O R:=(cond (ble 3 a.length) (J6 N (a.take 3) c fun e=>cond (ble 3 b.length) (J6 N (b.take 3) d fun f=>cond ((beq 0 0)&&((beq e.length 3)&&(beq 3 3))) (cond ((beq 0 0)&&((beq f.length 3)&&(beq 3 3))) (cond (ble 2 e.length) (cond (ble 3 b.length) (S6 N (b.take 3) d fun h=>Vr N (e.take 2) false h false fun i=>cond (ble 2 f.length) (cond (ble 3 a.length) (S6 N (a.take 3) c fun j=>Vr N (f.take 2) false j false fun l=>Y4 N i false l false fun m=>cond (ble 3 a.length) (S6 N (a.take 3) c fun n=>cond (ble 3 b.length) (S6 N (b.take 3) d fun o=>Vr N n false o false fun p=>Ls N m false p false fun g=>cond ((beq 0 0)&&((beq g.length 3)&&(beq 3 3))) (cond (ble 3 g.length) (r0 (g.take 3)) none) none) none) none) none) none) none) none) none) none) none) none)
def Vs:=(Ak (@ij R)).1
def cH:@Vs R=@ij R:=(Ak _).2
def MX:=Ce N 33 [Rn N,YW N,mR N,YS N,Rm N] Kl (fun
|[.pagg a c,.pagg b d],[]=>some fun _ k=>Vs N a c b d (Cq k)
| _,_=>none) fun _ _=>by split;intro R F;dsimp only;rw[cH];kernel_rfl;trivial
def ik(a:LA)(b:Bool)(r0:LA->O R):O R:=(cond (ble 3 a.length) (J6 N (a.take 3) b fun d=>cond (ble 2 d.length) (Y5 N (d.take 2) false fun e=>cond (ble 3 a.length) (S6 N (a.take 3) b fun f=>Ls N e false f false fun c=>cond ((beq 0 0)&&((beq c.length 3)&&(beq 3 3))) (cond (ble 3 c.length) (r0 (c.take 3)) none) none) none) none) none)
def ek:=(Ak (@ik R)).1
def cI:@ek R=@ik R:=(Ak _).2
def xZ:=Ce N 102 [Rn N,YT N,YW N,Rm N] Kl (fun
|[.pagg a b],[]=>some fun _ k=>ek N a b (Cq k)
| _,_=>none) fun _ _=>by split;intro R F;dsimp only;rw[cI];kernel_rfl;trivial
def io(a:LA)(c:Bool)(b:LA)(d:Bool)(r0:LA->O R):O R:=(cond (ble 3 a.length) (cond (ble 3 b.length) (ek N (b.take 3) d fun f=>Vs N (a.take 3) c f false fun e=>cond ((beq 0 0)&&((beq e.length 3)&&(beq 3 3))) (cond (ble 3 e.length) (r0 (e.take 3)) none) none) none) none)
def Za:=(Ak (@io R)).1
def cJ:@Za R=@io R:=(Ak _).2
def YX:=Ce N 47 [xZ N,MX N] Kl (fun
|[.pagg a c,.pagg b d],[]=>some fun _ k=>Za N a c b d (Cq k)
| _,_=>none) fun _ _=>by split;intro R F;dsimp only;rw[cJ];kernel_rfl;trivial
def FD(a:LA)(c:Bool)(b:LA)(d:Bool)(r0:Int->O R):O R:=(cond (ble 3 a.length) (cond (ble 3 b.length) (Za N (a.take 3) c (b.take 3) d fun e=>KS N e false fun f=>r0 f) none) none)
def G8:=(Ak (@FD R)).1
def GX:@G8 R=@FD R:=(Ak _).2
def Z2:=Ce N 21 [YX N,i9 N] Eg (fun
|[.pagg a c,.pagg b d],[]=>some fun _ k=>G8 N a c b d (Gv k)
| _,_=>none) fun _ _=>by split;intro R F;dsimp only;rw[GX];kernel_rfl;trivial
def iq(a:LA)(c:Bool)(b:LA)(d:Bool)(r0:LA->O R):O R:=(cond (ble 3 a.length) (cond (ble 3 b.length) (G8 N (a.take 3) c (b.take 3) d fun g=>cond (decide (g<=0)) (cond (ble 3 a.length) (J6 N (a.take 3) c fun e=>cond ((beq 0 0)&&((beq e.length 3)&&(beq 3 3))) (cond (ble 3 e.length) (r0 (e.take 3)) none) none) none) (cond (ble 3 b.length) (J6 N (b.take 3) d fun f=>cond ((beq 0 0)&&((beq f.length 3)&&(beq 3 3))) (cond (ble 3 f.length) (r0 (f.take 3)) none) none) none)) none) none)
def VD:=(Ak (@iq R)).1
def cM:@VD R=@iq R:=(Ak _).2
def x9:=Ce N 134 [Z2 N,Rn N] Kl (fun
|[.pagg a c,.pagg b d],[]=>some fun _ k=>VD N a c b d (Cq k)
| _,_=>none) fun _ _=>by split;intro R F;dsimp only;rw[cM];kernel_rfl;trivial
def pU(a b:Int)(r0:LA->O R):O R:=(G7 N a fun d=>G7 N b fun e=>Ls N d false e false fun c=>cond ((beq 0 0)&&((beq c.length 3)&&(beq 3 3))) (cond (ble 3 c.length) (r0 (c.take 3)) none) none)
def iz:=(Ak (@pU R)).1
def jA:@iz R=@pU R:=(Ak _).2
def zR:=Ce N 31 [Z1 N,Rm N] Kl (fun
|[.int .i64 a,.int .i64 b],[]=>some fun _ k=>iz N a b (Cq k)
| _,_=>none) fun _ _=>by split;intro R F;dsimp only;rw[jA];kernel_rfl;trivial
end
end Gx
namespace Gx
open Go Go.Proofs
section
variable{R:Type}
def Aeg(a b:Nat):Qm (a:Int) (b:Int)=((max a b:Nat):Int):=by
 unfold Qm
 by_cases h:(b:Int)>(a:Int)
 ·rw[decide_eq_true h];show(b:Int)=_;omega
 ·rw[decide_eq_false h];show(a:Int)=_;omega
def mT{N:Nat}{a b:List Nat}{t o t' o':Bool}{n:Nat}(D:Ai a)(G:Ai b)(I:a.length<n)(L:b.length<n)(hn:n<=max a.length b.length+1)(B:fit n N):∀(m d fuel:Nat)(S:List Nat)(c:Nat),d+m=n->m<fuel->Ai S->S.length=n->xP S d->c<=1 ->
  val S+4294967296 ^ d*c=val (a.take d)+val (b.take d) ->
  ∀ K:Nat->LA->O R,Hj N K (Ac a) a.length t o (Ac b) b.length t' o' fuel n (c:Int) (d:Int) (Ac S)=K (An (val a+val b)).length (Ac (An (val a+val b)))
| 0,d,fuel+1,S,c,hd,_,hS,C,T,hc,V=>by
  intro K
  have Y:d=n:=by omega
  subst Y
  rw[Ahi (by omega),Ahi (by omega)]at V
  have hc0:c=0:=by
   rcases Aib c with h|h
   ·exact h
   ·exfalso
    have hc1:c=1:=by omega
    subst hc1
    obtain⟨e,rfl⟩:∃ e,d=e+1:=⟨d - 1,by omega⟩
    have x1:=A6 D
    have x2:=A6 G
    have y1:4294967296 ^ a.length<=4294967296 ^ e:=Aih (by omega) (by omega)
    have y2:4294967296 ^ b.length<=4294967296 ^ e:=Aih (by omega) (by omega)
    rw[Ahw]at V
    omega
  subst hc0
  have hv2:val S=val a+val b:=by omega
  rw[Hj];unfold Yt
  rw[K4 (Ahl _),cf,Ah1,Ahi (by rw[Bg];omega),Cu C.symm hS (by rw[C];exact B),hv2]
| m+1,d,fuel+1,S,c,hd,hfu,hS,C,T,hc,V=>by
  intro K
  have h1:=B.1;have h2:=B.2
  have ga:=Wa D d
  have gb:=Wa G d
  have step:∀ s:Nat,s=c+a.getD d 0+b.getD d 0->val (S.set d (s%4294967296))+4294967296 ^ (d+1)*(s/4294967296)=val (a.take (d+1))+val (b.take (d+1)):=by
   intro s hs
   rw[Sz T (by omega),Ot a d,Ot b d,Ahw]
   have e:=Lq (4294967296 ^ d) s
   have e2:4294967296 ^ d*s=4294967296 ^ d*c+4294967296 ^ d*a.getD d 0+4294967296 ^ d*b.getD d 0:=by rw[hs,Ahs,Ahs]
   omega
  have next:∀ s:Nat,s=c+a.getD d 0+b.getD d 0->Hj N K (Ac a) a.length t o (Ac b) b.length t' o' fuel n ((s/4294967296:Nat):Int) ((d+1:Nat):Int) (Ac (S.set d (s%4294967296)))=K (An (val a+val b)).length (Ac (An (val a+val b))):=by
   intro s hs
   exact mT D G I L hn B m (d+1) fuel (S.set d (s%4294967296)) (s/4294967296) (by omega) (by omega) (B4 hS (by omega) d) (by simpa using C) (Y0 T) (by omega) (step s hs) K
  have second:∀ w:Nat,w=c+a.getD d 0->Xf N (Hj N K (Ac a) a.length t o (Ac b) b.length t' o' fuel) K (Ac a) a.length t o (Ac b) b.length t' o' n (Ac S) (w:Int) (d:Int)=K (An (val a+val b)).length (Ac (An (val a+val b))):=by
   intro w hw
   unfold Xf
   by_cases k:d<b.length
   ·have A:b.getD d 0=b[d]:=by rw[Ahr,Ahk k];rfl
    rw[Jy k,ct,Ab k,ct,HF k,Ab (by omega),ct,lU (by omega),ct,Hb (show b[d]<18446744073709551616 by omega),AQ,Hb (show w+b[d]<18446744073709551616 by omega),XC,P',JD,wS (by omega)]
    exact next _ (by rw[hw,A])
   ·have A:b.getD d 0=0:=by rw[Ahr,Air (by omega)];rfl
    rw[K4 (by omega),cf,Ab (by omega),ct,lU (by omega),ct,XC,P',JD,wS (by omega)]
    exact next _ (by rw[hw,A];rfl)
  rw[Hj];unfold Yt
  rw[Jy (by omega),ct]
  by_cases v:d<a.length
  ·have A:a.getD d 0=a[d]:=by rw[Ahr,Ahk v];rfl
   rw[Jy v,ct,Ab v,ct,HF v,Hb (show a[d]<18446744073709551616 by omega),AQ,Hb (show c+a[d]<18446744073709551616 by omega)]
   exact second _ (by rw[A])
  ·have A:a.getD d 0=0:=by rw[Ahr,Air (by omega)];rfl
   rw[K4 (by omega),cf]
   exact second _ (by rw[A];rfl)
def YY{N:Nat}{a b:List Nat}{n m:Nat}{t o t' o':Bool}{K:Nat->LA->O R}(hn:n=a.length)(v:m=b.length)(A:Ai a)(B:Ai b)(k:fit (a.length+b.length+1) N):
  EQ N (Ac a) n t o (Ac b) m t' o' K=K (An (val a+val b)).length (Ac (An (val a+val b))):=by
 subst hn v
 have C:=k.1;have D:=k.2
 rw[bT];unfold UJ
 rw[Aeg,wS (by omega),yG (by omega),ct,Ahm,Ci]
 exact mT A B (n:=max a.length b.length+1) (by omega) (by omega) (Ahl _) (k.le (by omega)) (max a.length b.length+1) 0 N (replicate (max a.length b.length+1) 0) 0 (by omega) (by omega) (Bz _) (by simp) (Kg _) (by omega) (by rw[Dm];simp[val]) K
def mU{N:Nat}{a b:List Nat}(ha:Ai a)(hb:Ai b)(I:fit a.length N)(D:b.length<=a.length)(L:val b<=val a):∀(m d fuel:Nat)(S:List Nat)(c:Nat),d+m=a.length->m<fuel->Ai S->S.length=a.length->xP S d->c<=1 ->
  val S+val (b.take d)=val (a.take d)+4294967296 ^ d*c ->
  ∀ K:Nat->Bool->LA->O R,Hk N K a.length b.length (Ac a) (Ac b) fuel (c:Int) (d:Int) (Ac S)=K (An (val a - val b)).length true (Ac (An (val a - val b)))
| 0,d,fuel+1,S,c,hd,_,hS,G,T,hc,hv=>by
  intro K
  have V:d=a.length:=by omega
  subst V
  rw[Aic,Ahi D]at hv
  have A:=A6 hS
  rw[G]at A
  have Y:c=0:=by
   rcases Amh 0 c with h|h
   ·exfalso
    have:c=1:=by omega
    subst this
    omega
   ·omega
  subst Y
  have hv2:val S=val a - val b:=by omega
  rw[Hk];unfold Y2
  rw[K4 (Ahl _),cf,Ah1,Ahi (by rw[Bg];omega),Cu G.symm hS (by rw[G];exact I),hv2]
| m+1,d,fuel+1,S,c,hd,hfu,hS,G,T,hc,hv=>by
  intro K
  have h1:=I.1;have h2:=I.2
  have k:d<a.length:=by omega
  have ad:=Az ha k
  have gb:=Wa hb d
  have step:∀ y g c':Nat,y=c+b.getD d 0->a[d]+4294967296*c'=g+y->val (S.set d g)+val (b.take (d+1))=val (a.take (d+1))+4294967296 ^ (d+1)*c':=by
   intro y g c' C B
   rw[Sz T (by omega),Ax k,Ot b d,Ahw,Ahq]
   have e:4294967296 ^ d*(a[d]+4294967296*c')=4294967296 ^ d*(g+(c+b.getD d 0)):=by rw[B,C]
   rw[Ahs,Ahs,Ahs]at e
   omega
  have next:∀ y g c':Nat,g<4294967296->c'<=1->y=c+b.getD d 0->a[d]+4294967296*c'=g+y->Hk N K a.length b.length (Ac a) (Ac b) fuel (c':Int) ((d+1:Nat):Int) (Ac (S.set d g))=K (An (val a - val b)).length true (Ac (An (val a - val b))):=by
   intro y g c' B hc' C he
   exact mU ha hb I D L m (d+1) fuel (S.set d g) c' (by omega) (by omega) (B4 hS B d) (by simpa using G) (Y0 T) hc' (step y g c' C he) K
  have second:∀ y:Nat,y=c+b.getD d 0->Xk N (Hk N K a.length b.length (Ac a) (Ac b) fuel) K a.length b.length (Ac a) (Ac b) (Ac S) (d:Int) (y:Int)=K (An (val a - val b)).length true (Ac (An (val a - val b))):=by
   intro y C
   unfold Xk
   rw[Ab k,ct,TC k,Hb (show a[d]<18446744073709551616 by omega)]
   by_cases A:a[d]<y
   ·rw[Jy A,ct,ct,lU (by omega),ct,show((a[d]:Nat):Int)+4294967296=((a[d]+4294967296:Nat):Int) by omega,Hb (show a[d]+4294967296<18446744073709551616 by omega),XB (by omega) (by omega),vP (by omega),JD,wS (by omega)]
    exact next y (a[d]+4294967296 - y) 1 (by omega) (by omega) C (by omega)
   ·rw[K4 (by omega),cf,ct,lU (by omega),ct,XB (by omega) (by omega),vP (by omega),JD,wS (by omega)]
    exact next y (a[d] - y) 0 (by omega) (by omega) C (by omega)
  rw[Hk];unfold Y2
  rw[Jy k,ct]
  by_cases v:d<b.length
  ·have B:b.getD d 0=b[d]:=by rw[Ahr,Ahk v];rfl
   rw[Jy v,ct,Ab v,ct,TC v,Hb (show b[d]<18446744073709551616 by omega),AQ,Hb (show c+b[d]<18446744073709551616 by omega)]
   exact second _ (by rw[B])
  ·have B:b.getD d 0=0:=by rw[Ahr,Air (by omega)];rfl
   rw[K4 (by omega),cf]
   exact second _ (by rw[B];rfl)
def YZ{N:Nat}{a b:List Nat}{n m:Nat}{t o t' o':Bool}{K:Nat->Bool->LA->O R}(hn:n=a.length)(D:m=b.length)(A:Ai a)(B:Ai b)(v:fit (a.length+b.length) N):
  FA N (Ac a) n t o (Ac b) m t' o' K=if val b<=val a then K (An (val a - val b)).length true (Ac (An (val a - val b)))else K 0 false []:=by
 subst hn D
 have G:=v.1;have I:=v.2
 have la:=(A9 A).2
 have lb:=(A9 B).2
 rw[b8];unfold UU
 dsimp only
 rw[xT rfl rfl A B v]
 by_cases k:val b<=val a
 ·have C:=Bh k
  rw[if_pos k,show decide (Gg (val a) (val b)<0)=false by(unfold Gg;rw[if_neg (by omega)];split<;>rfl),cf,Cu rfl A (v.le (by omega)),Cu rfl B (v.le (by omega)),yG (by omega),ct,Ci]
  have:=mU (R:=R) (N:=N) (a:=An (val a)) (b:=An (val b)) (Ad _) (Ad _) (v.le (by omega)) C (by rw[Aj,Aj];exact k) (An (val a)).length 0 N (replicate (An (val a)).length 0) 0 (by omega) (by omega) (Bz _) (by simp) (Kg _) (by omega) (by rw[Dm];simp[val]) K
  rw[Aj,Aj]at this
  exact this
 ·rw[if_neg k,show decide (Gg (val a) (val b)<0)=true by(unfold Gg;rw[if_pos (by omega)];rfl),ct]
def vX{N:Nat}{x y:List Nat}{c d c' d':Bool}{f:Nat}(Y:Ai x)(hy:Ai y)(D:f<x.length)(hs:x.length+y.length<=1000000000000):∀(m l fuel:Nat)(S:List Nat)(p:Nat)(v:Nat),l+m=y.length->m<fuel->Ai S->S.length=x.length+y.length->xP S (f+y.length)->p<4294967296 ->
  val S+4294967296 ^ (f+l)*p=v+4294967296 ^ f*(x[f]*val (y.take l)) ->
  ∃ S',Ai S'/\S'.length=x.length+y.length/\val S'=v+4294967296 ^ f*(x[f]*val y)/\∀(B:Nat->Int->LA->O R)(K:Nat->LA->O R),N8 N B K (Ac x) x.length c d (Ac y) y.length c' d' (x.length+y.length) fuel (f:Int) (p:Int) (l:Int) (Ac S)=B (x.length+y.length) ((f+1:Nat):Int) (Ac S')
|0,l,fuel+1,S,p,v,hl,_,hS,k,I,G,L=>by
  have T:l=y.length:=by omega
  subst T
  rw[Aic]at L
  refine⟨S.set (f+y.length) p,B4 hS G _,by simpa using k,by rw[Sz I (by omega),L],fun B K=>?_⟩
  rw[N8];unfold Y7
  rw[K4 (Ahl _),cf,wA (by omega),Ab (by omega),ct,lU (by omega),ct,vP G,JD,wS (by omega)]
| m+1,l,fuel+1,S,p,v,hl,hfu,hS,k,I,G,L=>by
  have A:l<y.length:=by omega
  have yl:=Az hy A
  have hq:=Az Y D
  have hi:f+l<S.length:=by omega
  have sl:=Az hS hi
  have hw:=rq G hq yl sl
  have V:x[f]*y[l]<18446744073709551616:=by omega
  generalize C:p+(x[f]*y[l]+S[f+l])=s at *
  have hset:=UP (v:=s%4294967296) hi
  have key:val (S.set (f+l) (s%4294967296))+4294967296 ^ (f+(l+1))*(s/4294967296)=v+4294967296 ^ f*(x[f]*val (y.take (l+1))):=by
   rw[Ax A,<-Ai1 f l 1,Ahw]
   have e:=Lq (4294967296 ^ (f+l)) s
   have e2:4294967296 ^ (f+l)*s=4294967296 ^ (f+l)*p+(4294967296 ^ (f+l)*(x[f]*y[l])+4294967296 ^ (f+l)*S[f+l]):=by rw[<-C,Ahs,Ahs]
   have e3:4294967296 ^ f*(x[f]*(val (y.take l)+4294967296 ^ l*y[l]))=4294967296 ^ f*(x[f]*val (y.take l))+4294967296 ^ (f+l)*(x[f]*y[l]):=by
    rw[Ahs,Ahs,Ais]
    congr 1
    rw[Ahq];congr 1
    rw[<-Ahq,<-Ahq,Ahn x[f]]
   omega
  obtain⟨S',q1,q2,q3,q4⟩:=vX (N:=N) (c:=c) (d:=d) (c':=c') (d':=d') Y hy D hs m (l+1) fuel (S.set (f+l) (s%4294967296)) (s/4294967296) v (by omega) (by omega) (B4 hS (by omega) _) (by simpa using k) (fun j hj hk=>by
   rw[Ak9,if_neg (by omega)];exact I j (by simpa using hj) hk) (by omega) key
  refine⟨S',q1,q2,q3,fun B K=>?_⟩
  rw[N8];unfold Y7
  rw[Jy A,ct,wA (by omega),Ab (by omega),ct,TC hi,Ab D,ct,HF D,Ab A,ct,HF A,ct,lU hi,ct,Hb (show x[f]<18446744073709551616 by omega),Hb (show y[l]<18446744073709551616 by omega),Hb (show S[f+l]<18446744073709551616 by omega),gA,Hb V,AQ,Ako S[f+l],Hb (by omega),AQ,C,Hb hw,XC,P',JD,wS (by omega)]
  exact q4 B K
def sI{N:Nat}{x y:List Nat}{c d c' d':Bool}(G:Ai x)(I:Ai y)(k:fit (x.length+y.length) N):∀(m f fuel:Nat)(S:List Nat),f+m=x.length->m<fuel->Ai S->S.length=x.length+y.length ->
  val S=val (x.take f)*val y ->
  ∀ K:Nat->LA->O R,Jg N K (Ac x) x.length c d (Ac y) y.length c' d' fuel (x.length+y.length) (f:Int) (Ac S)=K (An (val x*val y)).length (Ac (An (val x*val y)))
|0,f,fuel+1,S,V,_,hS,v,D=>by
  intro K
  have L:f=x.length:=by omega
  subst L
  rw[Aic]at D
  rw[Jg];unfold Y8
  rw[K4 (Ahl _),cf,Ah1,Ahi (by rw[Bg];omega),Cu v.symm hS (by rw[v];exact k),D]
| m+1,f,fuel+1,S,V,Y,hS,v,D=>by
  intro K
  have h1:=k.1;have h2:=k.2
  have B:f<x.length:=by omega
  have T:=A6 (Bw G f)
  rw[Ah3,Aia (by omega)]at T
  have b2:=A6 I
  have A:val S<4294967296 ^ (f+y.length):=by
   rw[D,Ais];exact Ait T b2
  have C:val (x.take (f+1))*val y=val S+4294967296 ^ f*(x[f]*val y):=by
   rw[Ax B,Ahv,D,Ahq]
  obtain⟨S1,p1,p2,p3,p4⟩:=vX (R:=R) (N:=N) (x:=x) (y:=y) (c:=c) (d:=d) (c':=c') (d':=d') (f:=f) G I B (by omega) y.length 0 N S 0 (val S) (by omega) (by omega) hS v (zG A) (by omega) (by simp[val])
  rw[Jg];unfold Y8
  rw[Jy B,ct]
  have:=p4 (Jg N K (Ac x) x.length c d (Ac y) y.length c' d' fuel) K
  simp only[Aj2]at this
  dsimp only
  rw[this]
  exact sI G I k m (f+1) fuel S1 (by omega) (by omega) p1 p2 (by rw[p3,C]) K
def x_{N:Nat}{a b:List Nat}{n m:Nat}{t o t' o':Bool}{K:Nat->LA->O R}(hn:n=a.length)(v:m=b.length)(A:Ai a)(B:Ai b)(k:fit (a.length+b.length) N):
  VC N (Ac a) n t o (Ac b) m t' o' K=K (An (val a*val b)).length (Ac (An (val a*val b))):=by
 subst hn v
 have C:=k.1;have D:=k.2
 rw[cD];unfold VB
 rw[wA (by omega),yG (by omega),ct,Ahm,Ci]
 exact sI A B k a.length 0 N (replicate (a.length+b.length) 0) (by omega) (by omega) (Bz _) (by simp) (by rw[Dm];simp[val]) K
def jB{N:Nat}:∀(k fuel n v:Nat),v<2 ^ k->k<fuel->n+k<=1000000000000->∃ b:Nat,b<=k/\v<2 ^ b/\(v≠0->2 ^ b<=2*v)/\(v=0->b=0)/\∀ K:Int->O R,Ic N K fuel (n:Int) (v:Int)=K ((n+b:Nat):Int)
|0,fuel+1,n,v,B,_,_=>by
  have A:v=0:=by simpa using B
  subst A
  refine⟨0,by omega,by simp,fun h=>absurd rfl h,fun _=>rfl,fun K=>?_⟩
  rw[Ic];unfold Pu
  rw[show decide (((0:Nat):Int)>0)=false by rfl,cf];rfl
| k+1,fuel+1,n,v,B,I,hn=>by
  by_cases A:v=0
  ·subst A
   refine⟨0,by omega,by simp,fun h=>absurd rfl h,fun _=>rfl,fun K=>?_⟩
   rw[Ic];unfold Pu
   rw[show decide (((0:Nat):Int)>0)=false by rfl,cf];rfl
  ·obtain⟨b,L,T,b3,D,G⟩:=jB (N:=N) k fuel (n+1) (v/2) (by rw[Ahw]at B;omega) (by omega) (by omega)
   refine⟨b+1,by omega,by rw[Ahw];omega,fun _=>?_,fun h=>absurd h A,fun K=>?_⟩
   ·by_cases C:v/2=0
    ·rw[D C];simp;omega
    ·have:=b3 C;rw[Ahw];omega
   ·rw[Ic];unfold Pu
    rw[show decide ((v:Int)>0)=true by rw[decide_eq_true_eq];omega,ct,wS (by omega),O5 v 1,show v/2 ^ 1=v/2 by rfl,G]
    congr 2;omega
def uQ{N:Nat}{a:List Nat}{n:Nat}{t o:Bool}(hn:n=a.length)(C:Ai a)(B:fit a.length N):∃ nb:Nat,nb<=32*a.length/\val a<2 ^ nb/\(val a≠0->2 ^ nb<=2*val a)/\(val a=0->nb=0)/\∀ K:Int->O R,KD N (Ac a) n t o K=K (nb:Int):=by
 have h1:=B.1;have h2:=B.2
 have la:=(A9 C).2
 by_cases A:val a=0
 ·refine⟨0,by omega,by rw[A];simp,fun h=>absurd A h,fun _=>rfl,fun K=>?_⟩
  rw[EP];unfold BU
  rw[Cu hn C B,A,Dd];rfl
 ·have I:(An (val a)).length≠0:=fun h=>A (Bb.1 h)
  obtain⟨k,D⟩:∃ k,(An (val a)).length=k+1:=⟨(An (val a)).length - 1,by omega⟩
  have top:=Az (Ad (val a)) (show k<(An (val a)).length by omega)
  have v:(An (val a))[k]'(by omega)≠0:=by
   have:=fy (val a) (P_ A)
   rw[Akv]at this
   simp only[D,An3]at this
   exact this
  have tf:=BY D
  have tl:=E_ (Ad (val a)) D
  rw[Aj]at tf tl
  obtain⟨b,b1,L,b3,b4,T⟩:=jB (R:=R) (N:=N) 32 N (32*k) ((An (val a))[k]'(by omega)) (by exact top) (by omega) (by omega)
  have G:(2:Nat) ^ (32*k+b)=4294967296 ^ k*2 ^ b:=by rw[Ais,Aop]
  refine⟨32*k+b,by omega,?_,fun _=>?_,fun h=>absurd h A,fun K=>?_⟩
  ·rw[G]
   have:((An (val a))[k]'(by omega)+1)*4294967296 ^ k<=2 ^ b*4294967296 ^ k:=Ahp _ L
   rw[Ahn (2 ^ b)]at this;omega
  ·rw[G]
   have:=Ah7 (4294967296 ^ k) (b3 v)
   rw[Ajl]at this
   omega
  ·rw[EP];unfold BU
   have V:wrap .i64 ((((An (val a)).length:Nat):Int) - 1)=(k:Int):=by rw[i64 (by omega)];omega
   have Y:wrap .i64 ((32:Int)*(k:Int))=((32*k:Nat):Int):=by rw[i64 (by omega)];omega
   rw[Cu hn C B,k_ I,cf,V,Ab (by omega),ct,TC (by omega),Y]
   exact T K
def sJ{a:List Nat}{j:Nat}(h:j<a.length):val a=val (a.take j)+4294967296 ^ j*(a[j]+4294967296*val (a.drop (j+1))):=by
 have:=N1 (a.take j) (a.drop j)
 rw[Aj1,Ah3,Aia (by omega),KM h]at this
 exact this
def Y_(j k:Nat):(2:Nat) ^ (32*j+k)=4294967296 ^ j*2 ^ k:=by rw[Ais,Aop]
def Aa4{a:List Nat}{j k:Nat}(v:Ai a)(h:j<a.length)(C:k<32):val a/2 ^ (32*j+k)%2=a[j]/2 ^ k%2:=by
 have tl:=A6 (Bw v j)
 rw[Ah3,Aia (by omega)]at tl
 have hP:0<4294967296 ^ j:=Ai5 (by omega)
 have A:0<2 ^ k:=Ai5 (by omega)
 rw[Y_,<-Alv,sJ h,Aj9 _ _ hP,Aiw tl,Ah0]
 have e:4294967296=2 ^ k*(2*2 ^ (31 - k)):=by rw[<-Nat.pow_succ',<-Ais,show k+(31 - k+1)=32 by omega]
 have B:4294967296*val (a.drop (j+1))=2 ^ k*(2*(2 ^ (31 - k)*val (a.drop (j+1)))):=by
  rw[<-Ahq 2,<-Ahq,<-e]
 rw[B,Aj9 _ _ A,Ams]
def xa{N:Nat}{a:List Nat}{n:Nat}{t o:Bool}{i:Nat}{K:Int->O R}(hn:n=a.length)(B:Ai a)(hi:i<32*a.length)(hs:a.length<=1000000000):eg N (Ac a) n t o (i:Int) K=K ((val a/2 ^ i%2:Nat):Int):=by
 subst hn
 have v:i/32<a.length:=by omega
 have aj:=Az B v
 rw[bU];unfold hZ
 have C:wrap .i64 (Int.tdiv (i:Int) 32)=((i/32:Nat):Int):=by rw[show(32:Int)=((32:Nat):Int) by rfl,PD,i64 (by omega)]
 have D:wrap .u64 (Int.tmod (i:Int) 32)=((i%32:Nat):Int):=by rw[show(32:Int)=((32:Nat):Int) by rfl,KL,Hb (by omega)]
 rw[C,D,show decide (((i/32:Nat):Int)>=(a.length:Int))=false by rw[decide_eq_false_iff_not];omega,cf,Ab v,ct,HF v,show decide (((i%32:Nat):Int)<0)=false by rw[decide_eq_false_iff_not];omega,cf,Ahm,Aia (by omega),O5]
 have A:a[i/32]/2 ^ (i%32)<4294967296:=Aik (Ajg _ _) aj
 have e:=t6 (k:=.u32) rfl (a:=a[i/32]/2 ^ (i%32)) (b:=1) A (by decide)
 rw[show(1:Int)=((1:Nat):Int) by rfl,e,Nat.and_one_is_mod]
 have:=Aa4 B v (k:=i%32) (by omega)
 rw[Aix]at this
 rw[this]
def zS{Q:List Nat}{j k:Nat}(hQ:Ai Q)(h:j<Q.length)(B:k<32)(v:2 ^ (32*j+k+1)∣val Q):2 ^ (k+1)∣Q[j]:=by
 have tl:=A6 (Bw hQ j)
 rw[Ah3,Aia (by omega)]at tl
 have hP:0<4294967296 ^ j:=Ai5 (by omega)
 rw[Ai1,Y_,sJ h]at v
 have A:val (Q.take j)=0:=by
  have x1:4294967296 ^ j∣val (Q.take j):=(Al2 (Amv _ _)).1 (Nat.dvd_trans (Amv _ _) v)
  exact Nat.eq_zero_of_dvd_of_lt x1 tl
 rw[A,Ah0]at v
 have x2:=Nat.dvd_of_mul_dvd_mul_left hP v
 have x3:2 ^ (k+1)∣4294967296*val (Q.drop (j+1)):=Nat.dvd_trans ⟨2 ^ (31 - k),by rw[<-Ais,show k+1+(31 - k)=32 by omega]⟩ (Amv _ _)
 exact(Al2 x3).1 x2
def ZA{N:Nat}{a b:List Nat}{t o:Bool}{B:Nat}(ha:Ai a)(G:b=An B)(hB:0<B)(D:fit (a.length+2*b.length+4) N):∀(i fuel:Nat)(Q:List Nat)(r:Nat),i<fuel->i<=32*a.length->Ai Q->Q.length=a.length->r=val a/2 ^ i%B->val Q=val a/2 ^ i/B*2 ^ i ->
  ∀ K:Nat->Nat->Bool->LA->LA->O R,Em N K (Ac a) a.length t o b.length (Ac b) fuel (An r).length ((i:Int) - 1) (Ac Q) (Ac (An r))=K (An (val a/B)).length (An (val a%B)).length true (Ac (An (val a/B))) (Ac (An (val a%B)))
| 0,fuel+1,Q,r,_,_,hQ,Y,hr,I=>by
  intro K
  rw[Alw,Aon]at hr I
  rw[Ah1]at I
  have lr:(An r).length<=b.length:=by
   rw[G];apply Bh;rw[hr];exact Am9 (Ajf _ hB)
  rw[Em];unfold Px
  rw[show decide ((((0:Nat):Int) - 1)>=0)=false by rfl,cf,Ah1,Ahi (by rw[Bg];omega),Cu Y.symm hQ (by rw[Y];exact D.le (by omega)),Ah1,Ahi (by rw[Bg];omega),Cu rfl (Ad _) (D.le (by omega)),Aj,I,hr]
| i+1,fuel+1,Q,r,hfu,hi,hQ,Y,hr,I=>by
  intro K
  have h1:=D.1;have h2:=D.2
  have hrB:r<B:=by rw[hr];exact Ajf _ hB
  have lr:(An r).length<=b.length:=by rw[G];exact Bh (Am9 hrB)
  have C:val a/2 ^ i=2*(val a/2 ^ (i+1))+val a/2 ^ i%2:=by
   have:=Aix (val a/2 ^ i) 2
   rw[Alv,<-Ahw]at this
   exact this.symm
  have hdm:=Aix (val a/2 ^ (i+1)) B
  have hb2:val a/2 ^ i%2<2:=Ajf _ (by omega)
  generalize hH:val a/2 ^ (i+1)=H at *
  generalize hbit:val a/2 ^ i%2=bt at *
  have A:val a/2 ^ i=B*(2*(H/B))+(2*r+bt):=by
   rw[C,hr,Ajl];omega
  clear hr hdm C
  have hj:i/32<Q.length:=by omega
  have qj:=Az hQ hj
  have hdvd:2 ^ (32*(i/32)+i%32+1)∣val Q:=by rw[Aix,I];exact Nat.dvd_mul_left _ _
  have L:=zS hQ hj (Ajf _ (by omega)) hdvd
  have hpw:2 ^ i=4294967296 ^ (i/32)*2 ^ (i%32):=by rw[<-Y_,Aix]
  have hpk:2 ^ (i%32+1)<=4294967296:=(Aih (by omega) (show i%32+1<=32 by omega):2 ^ (i%32+1)<=2 ^ 32)
  have hor:Of .u32 ((Q[i/32]:Nat):Int) (wrap .u32 ((1:Int)*2 ^ (min (Int.toNat ((i%32:Nat):Int)) 32)))=((Q[i/32]+2 ^ (i%32):Nat):Int)/\Q[i/32]+2 ^ (i%32)<4294967296:=by
   obtain⟨c,hc⟩:=L
   have hpos:0<2 ^ (i%32):=Ai5 (by omega)
   have hlt:Q[i/32]+2 ^ (i%32)<4294967296:=by
    obtain⟨w,hw⟩:∃ w,4294967296=2 ^ (i%32+1)*w:=⟨2 ^ (31 - i%32),by rw[<-Ais,show i%32+1+(31 - i%32)=32 by omega]⟩
    have x1:c<w:=by rw[hc,hw]at qj;exact Aj0 qj
    have x2:=Ah7 (2 ^ (i%32+1)) (show c+1<=w from x1)
    rw[Ahs,<-hw,<-hc,Ah1,Ahw]at x2
    omega
   refine⟨?_,hlt⟩
   rw[Ahm,Aia (by omega),Int.one_mul,show(2:Int) ^ (i%32)=((2 ^ (i%32):Nat):Int) by simp,vP (by rw[Ahw]at hpk;omega),l8 (k:=.u32) rfl qj (by show 2 ^ (i%32)<4294967296;rw[Ahw]at hpk;omega)]
   congr 1
   have e:Q[i/32]=c*2 ^ (i%32+1):=by rw[hc,Ahn]
   rw[e];exact XD (by rw[Ahw];omega)
  have w1:wrap .i64 (Int.tdiv (i:Int) 32)=((i/32:Nat):Int):=by rw[show(32:Int)=((32:Nat):Int) by rfl,PD,i64 (by omega)]
  have w2:wrap .u64 (Int.tmod (i:Int) 32)=((i%32:Nat):Int):=by rw[show(32:Int)=((32:Nat):Int) by rfl,KL,Hb (by omega)]
  have l2:(An (2*r+bt)).length<=b.length+1:=by
   apply Ch
   have x1:=A6 (Ad B)
   rw[Aj,<-G]at x1
   rw[Ahw];omega
  have second:Kh N (Em N K (Ac a) a.length t o b.length (Ac b) fuel) K (Ac a) a.length t o b.length (i:Int) (Ac b) (Ac Q) (An (2*r+bt)).length (Ac (An (2*r+bt)))=K (An (val a/B)).length (An (val a%B)).length true (Ac (An (val a/B))) (Ac (An (val a%B))):=by
   unfold Kh
   have lb:Ai b:=by rw[G];exact Ad _
   have vb:val b=B:=by rw[G,Aj]
   rw[Ah1,Ah1,Ahi (by rw[Bg];omega),Ahi (by rw[Bg];omega),YZ rfl rfl (Ad _) lb (D.le (by omega)),Aj,vb]
   by_cases hge:B<=2*r+bt
   ·have T:val a/2 ^ i/B=2*(H/B)+1:=by
     rw[A,show B*(2*(H/B))+(2*r+bt)=B*(2*(H/B)+1)+(2*r+bt - B) by rw[Ahs];omega,Alg hB,Aiw (show 2*r+bt - B<B by omega),Aiq]
    have V:val a/2 ^ i%B=2*r+bt - B:=by
     rw[A,show B*(2*(H/B))+(2*r+bt)=B*(2*(H/B)+1)+(2*r+bt - B) by rw[Ahs];omega,Al9,Aig (by omega)]
    rw[if_pos hge,ct,w1,w2,Ab (by omega),ct,TC hj,show decide (((i%32:Nat):Int)<0)=false by rw[decide_eq_false_iff_not];omega,cf,ct,lU hj,ct,hor.1,JD,i64 (by omega)]
    refine ZA ha G hB D i fuel (Q.set (i/32) (Q[i/32]+2 ^ (i%32))) (2*r+bt - B) (by omega) (by omega) (B4 hQ hor.2 _) (by simpa using Y) V.symm ?_ K
    have x1:=UP (v:=Q[i/32]+2 ^ (i%32)) hj
    rw[Ahs,<-hpw]at x1
    rw[T,Ahv,Amy,Ahn 2,Ahq,Ahn 2,<-Ahw,<-I]
    omega
   ·have T:val a/2 ^ i/B=2*(H/B):=by rw[A,Alg hB,Aiw (show 2*r+bt<B by omega),Aiq]
    have V:val a/2 ^ i%B=2*r+bt:=by rw[A,Al9,Aig (by omega)]
    rw[if_neg hge,cf,i64 (by omega)]
    refine ZA ha G hB D i fuel Q (2*r+bt) (by omega) (by omega) hQ Y V.symm ?_ K
    rw[T,Ahn 2,Ahq,Ahn 2,<-Ahw,<-I]
  rw[Em];unfold Px
  rw[show(((i+1:Nat):Int) - 1)=(i:Int) by omega,show decide ((i:Int)>=0)=true by rw[decide_eq_true_eq];omega,ct,Ah1,Ahi (by rw[Bg];omega),YY rfl rfl (Ad _) (Ad _) (D.le (by omega)),Aj,xa rfl ha (by omega) (by omega),hbit]
  have l3:(An (r+r)).length<=b.length+1:=by
   apply Ch
   have x1:=A6 (Ad B)
   rw[Aj,<-G]at x1
   rw[Ahw];omega
  rcases(show bt=0\/bt=1 by omega)with rfl|rfl
  ·rw[show(((0:Nat):Int)==1)=false by rfl,cf]
   rw[show 2*r+0=r+r by omega]at second
   exact second
  ·rw[show(((1:Nat):Int)==1)=true by rfl,ct,Ah1,Ahi (by rw[Bg];omega)]
   have:=YY (R:=R) (N:=N) (a:=An (r+r)) (b:=[1]) (n:=(An (r+r)).length) (m:=1) (t:=false) (o:=true) (t':=false) (o':=true) (K:=fun af ag=>Kh N (Em N K (Ac a) a.length t o b.length (Ac b) fuel) K (Ac a) a.length t o b.length (i:Int) (Ac b) (Ac Q) af ag) rfl rfl (Ad _) (by intro x hx;simp at hx;omega) (D.le (by simp;omega))
   rw[Aj,show val [1]=1 by rfl,show r+r+1=2*r+1 by omega]at this
   exact this.trans second
def FE{N:Nat}{a b:List Nat}{n m:Nat}{t o t' o':Bool}{K:Nat->Nat->Bool->LA->LA->O R}(hn:n=a.length)(Y:m=b.length)(G:Ai a)(T:Ai b)(C:val b≠0)(A:fit (a.length+2*b.length+4) N):
  Rl N (Ac a) n t o (Ac b) m t' o' K=K (An (val a/val b)).length (An (val a%val b)).length true (Ac (An (val a/val b))) (Ac (An (val a%val b))):=by
 have h1:=A.1;have h2:=A.2
 have lb:=(A9 T).2
 have I:(An (val b)).length≠0:=fun h=>C (Bb.1 h)
 rw[KP];unfold Y3
 dsimp only
 have long:Ni N K (Ac a) n t o (An (val b)).length (Ac (An (val b)))=K (An (val a/val b)).length (An (val a%val b)).length true (Ac (An (val a/val b))) (Ac (An (val a%val b))):=by
  obtain⟨nb,n1,n2,n3,n4,n5⟩:=uQ (R:=R) (N:=N) (a:=a) (n:=n) (t:=false) (o:=o) hn G (A.le (by omega))
  unfold Ni Xl
  rw[n5,hn,yG (by omega),ct,Ci,i64 (by omega)]
  have V:val a/2 ^ nb=0:=Aiw n2
  have:=ZA (R:=R) (N:=N) (a:=a) (b:=An (val b)) (t:=t) (o:=o) (B:=val b) G rfl (by omega) (A.le (by omega)) nb N (replicate a.length 0) 0 (by omega) n1 (Bz _) (by simp) (by rw[V];simp) (by rw[V,Dm];simp) K
  exact this
 rw[Cu Y T (A.le (by omega)),k_ I,cf,E' hn G (A.le (by omega)),Ah1,Ahi (by rw[Bg];exact Ahl _)]
 by_cases v:val a<18446744073709551616
 ·rw[if_pos v,E' rfl (Ad _) (A.le (by omega)),Aj]
  by_cases k:val b<18446744073709551616
  ·have D:val a/val b<18446744073709551616:=Aik (Ajg _ _) v
   have L:val a%val b<18446744073709551616:=Aik (Nat.mod_le _ _) v
   rw[if_pos k,show((true:Bool)==true)=true by rfl,ct,rP,ct,k_ C,cf,PD,Hb D,Y1 D (by omega),cf,KL,Y1 L (by omega)]
  ·rw[if_neg k,show((true:Bool)==true)=true by rfl,ct,rP,cf,long]
 ·rw[if_neg v,E' rfl (Ad _) (A.le (by omega)),Aj]
  by_cases k:val b<18446744073709551616
  ·rw[if_pos k,show((false:Bool)==true)=false by rfl,cf,long]
  ·rw[if_neg k,show((false:Bool)==true)=false by rfl,cf,long]
def xb{N:Nat}:∀(k fuel A B:Nat),k<fuel->A*B<2 ^ k->B<A->fit (3*(An A).length+4) N->∀ K:Nat->LA->O R,Dt N K fuel (An A).length (An B).length (Ac (An A)) (Ac (An B))=K (An (Nat.gcd A B)).length (Ac (An (Nat.gcd A B))):=by
 have base:∀(fuel A:Nat)(K:Nat->LA->O R),Dt N K (fuel+1) (An A).length (An 0).length (Ac (An A)) (Ac (An 0))=K (An (Nat.gcd A 0)).length (Ac (An (Nat.gcd A 0))):=by
  intro fuel A K
  rw[Dt];unfold Ou
  rw[Dd,show decide (((([]:List Nat).length:Nat):Int)>0)=false by decide,cf,Ajs]
 intro k
 induction k with
| zero =>
  intro fuel A B G v C D K
  obtain⟨fuel,rfl⟩:∃ F,fuel=F+1:=⟨fuel - 1,by omega⟩
  have I:B=0:=by
   rcases Aib B with h|h
   ·exact h
   ·have h3:=Ah7 A (show 1<=B by omega)
    rw[Alw]at v;omega
  subst I
  exact base fuel A K
|succ k L =>
  intro fuel A B G v C D K
  have h1:=D.1;have h2:=D.2
  obtain⟨fuel,rfl⟩:∃ F,fuel=F+1:=⟨fuel - 1,by omega⟩
  rcases Aib B with h|h
  ·subst h;exact base fuel A K
  have T:=Bh (Am9 C)
  have V:(An B).length≠0:=fun Y=>by have:=Bb.1 Y;omega
  have hm:=Ajf A h
  have hh:=KO (show 1<=B by omega) (Am9 C)
  have:=L fuel B (A%B) (by omega) (by rw[Ahw]at v;omega) hm (D.le (by omega)) K
  have hg:Nat.gcd B (A%B)=Nat.gcd A B:=by rw[Ai7,<-Amw,Ai7]
  rw[hg]at this
  rw[Dt];unfold Ou
  rw[show decide ((((An B).length:Nat):Int)>0)=true by rw[decide_eq_true_eq];omega,ct,Ah1,Ah1,Ahi (by rw[Bg];exact Ahl _),Ahi (by rw[Bg];exact Ahl _),FE rfl rfl (Ad _) (Ad _) (by rw[Aj];omega) (D.le (by omega)),Aj,Aj]
  exact this
def xc{N:Nat}{a b:List Nat}{n m:Nat}{t o t' o':Bool}{K:Nat->LA->O R}(hn:n=a.length)(G:m=b.length)(A:Ai a)(B:Ai b)(v:fit (3*(a.length+b.length)+4) N):
  UY N (Ac a) n t o (Ac b) m t' o' K=K (An (Nat.gcd (val a) (val b))).length (Ac (An (Nat.gcd (val a) (val b)))):=by
 have V:=v.1;have Y:=v.2
 have la:=(A9 A).2
 have lb:=(A9 B).2
 have C:val a*val b<2 ^ (32*(a.length+b.length)):=by rw[<-sA];exact Ait (A6 A) (A6 B)
 rw[b9];unfold UX
 rw[Cu hn A (v.le (by omega)),Cu G B (v.le (by omega))]
 obtain⟨F,hF⟩:∃ F,N=F+1:=⟨N - 1,by omega⟩
 rcases Aib (val b)with h|h
 ·rw[h,Dd,Ajs,hF,Dt];unfold Ou
  rw[show decide (((([]:List Nat).length:Nat):Int)>0)=false by decide,cf]
 ·have D:=Ajf (val a) h
  have I:(An (val b)).length≠0:=fun L=>by have:=Bb.1 L;omega
  have k:val b*(val a%val b)<2 ^ (32*(a.length+b.length)):=by
   have:val b*(val a%val b)<=val b*val a:=Ah7 _ (Nat.mod_le _ _)
   rw[Ahn (val b) (val a)]at this;omega
  have:=xb (R:=R) (N:=N) (32*(a.length+b.length)) F (val b) (val a%val b) (by omega) k D (v.le (by omega)) K
  have T:Nat.gcd (val b) (val a%val b)=Nat.gcd (val a) (val b):=by rw[Ai7,<-Amw,Ai7]
  rw[T]at this
  have e:Dt N K (F+1) (An (val a)).length (An (val b)).length (Ac (An (val a))) (Ac (An (val b)))=Dt N K F (An (val b)).length (An (val a%val b)).length (Ac (An (val b))) (Ac (An (val a%val b))):=by
   rw[Dt];unfold Ou
   rw[show decide ((((An (val b)).length:Nat):Int)>0)=true by rw[decide_eq_true_eq];omega,ct,Ah1,Ah1,Ahi (by rw[Bg];exact Ahl _),Ahi (by rw[Bg];exact Ahl _),FE rfl rfl (Ad _) (Ad _) (by rw[Aj];omega) (v.le (by omega)),Aj,Aj]
  conv=>lhs;rw[show(Dt N K N)=Dt N K (F+1) by rw[<-hF]]
  rw[e];exact this
inductive LS where
|nil
|of (l:List Nat) (t o:Bool)
def LS.l:LS->List Nat
|.nil=>[]
|.of l _ _=>l
def LS.av:LS->AV
|.nil=>.nsl
|.of l t o=>.imm (Ac l) l.length 1 t o
def jC{s:LS}{r:LA}{f:LA->Nat->O R}:Bv 1 (s.av::r) f=f (Ac s.l) s.l.length:=by cases s<;>simp[Bv,LS.av,LS.l,wJ,Ac]
def Aci{b:Bool}{r:LA}{f:Bool->O R}:X2 (.bool b::r) f=f b:=by simp[X2,asBool]
def H8(neg:Bool)(s:LS):LA:=[.bool neg,s.av]
def At(neg:Bool)(s:LS):Int:=if neg then -(val s.l:Int)else(val s.l:Int)
def B8(neg:Bool)(s:LS):(At neg s).natAbs=val s.l:=by unfold At;cases neg<;>simp
def Py{neg:Bool}{s:LS}{f:Bool->O R}:X2 (H8 neg s) f=f neg:=Aci
def M6{neg:Bool}{s:LS}{f:LA->Nat->O R}:Bv 1 (drop 1 (H8 neg s)) f=f (Ac s.l) s.l.length:=by rw[H8,Aiu,Aid,jC]
def Lt{N:Nat}{c:Bool}{a:Nat}{b:LA}{K:Bool->O R}:Kb N c a b K=K (c&&decide (0<a)):=by
 rw[OG];unfold QC
 cases c<;>simp
def Wb{z:Int}{c:Bool}{m:Nat}(h:z=if c then -(m:Int)else(m:Int)):(c&&decide (0<(An m).length))=decide (z<0)/\z.natAbs=m:=by
 have A:z.natAbs=m:=by rw[h];cases c<;>simp
 refine⟨?_,A⟩
 by_cases v:m=0
 ·subst v;rw[h,Dd];cases c<;>simp
 ·have:0<(An m).length:=by
   rcases Aib (An m).length with k|k
   ·exact absurd (Bb.1 k) v
   ·exact k
  rw[h];cases c<;>simp[this]<;>omega
def ku{N:Nat}{v:Int}(D:-9223372036854775808<=v/\v<=9223372036854775807)(hN:4<=N):∃ S,Ai S/\val S=v.natAbs/\∀ K:Bool->Nat->LA->O R,DG N v K=K (decide (v<0)) (An v.natAbs).length (Ac S):=by
 have B:v.natAbs<18446744073709551616:=by omega
 obtain⟨S,s1,s2,A⟩:=Jf (R:=R) (N:=N) B hN
 refine⟨S,s1,s2,fun K=>?_⟩
 rw[IU];unfold IT
 by_cases h:v<0
 ·have e:wrap .u64 ((0:Int) - wrap .u64 v)=(v.natAbs:Int):=by rw[QA,QA];omega
  rw[decide_eq_true h,ct,e,A,Lt]
  have C:v.natAbs≠0:=by omega
  have:0<(An v.natAbs).length:=by
   rcases Aib (An v.natAbs).length with k|k
   ·exact absurd (Bb.1 k) C
   ·exact k
  simp[this]
 ·have e:wrap .u64 v=(v.natAbs:Int):=by rw[QA];omega
  rw[decide_eq_false h,cf,e,A,Lt];rfl
def RH{N:Nat}{neg:Bool}{s:LS}{o:Bool}{K:Int->O R}(hs:Ai s.l)(k:fit s.l.length N):MO N (H8 neg s) o K=K (At neg s).sign:=by
 rw[bO];unfold gf
 rw[M6,iO rfl hs k]
 unfold At
 by_cases h:val s.l=0
 ·rw[h,V9,show((0:Int)==0)=true by rfl,ct];cases neg<;>rfl
 ·have:Gg (val s.l) 0=1:=by unfold Gg;rw[if_neg (by omega),if_pos (by omega)]
  rw[this,show((1:Int)==0)=false by rfl,cf,Py]
  cases neg
  ·rw[cf];simp only[Ajr,if_false]
   congr 1
   rw[Ai4];omega
  ·rw[ct];simp only[if_true]
   congr 1
   rw[Aii];omega
def BZ{N:Nat}{n1 n2:Bool}{s1 s2:LS}{o1 o2:Bool}(v:Ai s1.l)(A:Ai s2.l)(B:fit (s1.l.length+s2.l.length) N):∃ S,Ai S/\val S=(At n1 s1*At n2 s2).natAbs/\∀ K:Bool->Nat->LA->O R,JA N (H8 n1 s1) o1 (H8 n2 s2) o2 K=K (decide (At n1 s1*At n2 s2<0)) (An (At n1 s1*At n2 s2).natAbs).length (Ac S):=by
 obtain⟨S,a1,a2,a3⟩:=KK (R:=R) (N:=N) (a:=s1.l) (b:=s2.l) (t:=false) (o:=o1) (t':=false) (o':=o2) rfl rfl v A B
 have C:At n1 s1*At n2 s2=if (!(n1==n2))then -((val s1.l*val s2.l:Nat):Int)else((val s1.l*val s2.l:Nat):Int):=by
  unfold At;cases n1<;>cases n2<;>simp[Aom,Int.neg_mul]
 obtain⟨c1,k⟩:=Wb C
 refine⟨S,a1,by rw[a2,k],fun K=>?_⟩
 rw[gG];unfold oP
 rw[Py,Py,M6,M6,a3,Lt,c1,k]
def mV{N:Nat}{n1 n2:Bool}{s1 s2:LS}{o1 o2:Bool}(B:Ai s1.l)(C:Ai s2.l)(D:fit (s1.l.length+s2.l.length+1) N):∃ S,Ai S/\val S=(At n1 s1+At n2 s2).natAbs/\∀ K:Bool->Nat->LA->O R,gi N (H8 n1 s1) o1 (H8 n2 s2) o2 K=K (decide (At n1 s1+At n2 s2<0)) (An (At n1 s1+At n2 s2).natAbs).length (Ac S):=by
 by_cases hn:n1=n2
 ·subst hn
  obtain⟨S,a1,a2,a3⟩:=zE (R:=R) (N:=N) (a:=s1.l) (b:=s2.l) (t:=false) (o:=o1) (t':=false) (o':=o2) rfl rfl B C D
  have v:At n1 s1+At n1 s2=if n1 then -((val s1.l+val s2.l:Nat):Int)else((val s1.l+val s2.l:Nat):Int):=by
   unfold At;cases n1<;>simp;omega
  obtain⟨c1,k⟩:=Wb v
  refine⟨S,a1,by rw[a2,k],fun K=>?_⟩
  rw[EJ];unfold TY
  rw[Py,Py,show(n1==n1)=true by simp,ct,Py,M6,M6,a3,Lt,c1,k]
 ·have A:(n1==n2)=false:=by simp[hn]
  by_cases G:val s2.l<=val s1.l
  ·obtain⟨S,a1,a2,a3⟩:=iR (R:=R) (N:=N) (a:=s1.l) (b:=s2.l) (t:=false) (o:=o1) (t':=false) (o':=o2) rfl rfl B C (D.le (by omega)) G
   have v:At n1 s1+At n2 s2=if n1 then -((val s1.l - val s2.l:Nat):Int)else((val s1.l - val s2.l:Nat):Int):=by
    unfold At;cases n1<;>cases n2<;>simp at hn ⊢<;>omega
   obtain⟨c1,k⟩:=Wb v
   refine⟨S,a1,by rw[a2,k],fun K=>?_⟩
   rw[EJ];unfold TY
   rw[Py,Py,A,cf,M6,M6,a3,ct,Py,Lt,c1,k]
  ·obtain⟨S,a1,a2,a3⟩:=iR (R:=R) (N:=N) (a:=s2.l) (b:=s1.l) (t:=false) (o:=o2) (t':=false) (o':=o1) rfl rfl C B (D.le (by omega)) (by omega)
   have v:At n1 s1+At n2 s2=if n2 then -((val s2.l - val s1.l:Nat):Int)else((val s2.l - val s1.l:Nat):Int):=by
    unfold At;cases n1<;>cases n2<;>simp at hn ⊢<;>omega
   obtain⟨c1,k⟩:=Wb v
   refine⟨S,a1,by rw[a2,k],fun K=>?_⟩
   rw[EJ];unfold TY
   rw[Py,Py,A,cf,M6,M6,zF rfl rfl B C (D.le (by omega)) (by omega),cf,M6,M6,a3,Py,Lt,c1,k]
def uR{N:Nat}{n1:Bool}{s1:LS}{o1:Bool}{K:Bool->Nat->LA->O R}(k:Ai s1.l)(v:fit s1.l.length N):eZ N (H8 n1 s1) o1 K=K (decide (At n1 s1<0)) (An (At n1 s1).natAbs).length (Ac (An (At n1 s1).natAbs)):=by
 obtain⟨c1,A⟩:=Wb (z:=At n1 s1) (c:=n1) (m:=val s1.l) (by unfold At;cases n1<;>simp)
 rw[bC];unfold gJ
 rw[Py,M6,MV rfl k v,Lt,c1,A]
def VE(x y:Int):Int:=if x<y then -1 else if y<x then 1 else 0
def zT(x y:Nat):VE (x:Int) (y:Int)=Gg x y:=by unfold VE Gg;simp
def zU(x y:Nat):VE (-(x:Int)) (-(y:Int))=Gg y x:=by
 unfold VE Gg
 by_cases h:y<x
 ·rw[if_pos (by omega),if_pos h]
 ·rw[if_neg (by omega),if_neg h]
  by_cases k:x<y
  ·rw[if_pos (by omega),if_pos k]
  ·rw[if_neg (by omega),if_neg k]
def kv{N:Nat}{n1 n2:Bool}{s1 s2:LS}{o1 o2:Bool}{K:Int->O R}(A:Ai s1.l)(B:Ai s2.l)(v:fit (s1.l.length+s2.l.length) N):EM N (H8 n1 s1) o1 (H8 n2 s2) o2 K=K (VE (At n1 s1) (At n2 s2)):=by
 rw[J_];unfold JZ
 have l2:∀ n s,take 2 (H8 n s)=H8 n s:=fun n s=>rfl
 have l3:∀ n s,ble 2 (List.length (H8 n s))=true:=fun n s=>rfl
 rw[l2,l2,l3,l3,ct,RH A (v.le (by omega)),ct,RH B (v.le (by omega))]
 have sg:∀ z:Int,z.sign=if z<0 then -1 else if 0<z then 1 else 0:=by
  intro z
  rcases Ak1 z 0 with h|h|h
  ·rw[Aii h,if_pos h]
  ·subst h;rfl
  ·rw[Ai4 h,if_neg (by omega),if_pos h]
 by_cases c1:(At n1 s1).sign<(At n2 s2).sign
 ·rw[decide_eq_true c1,ct]
  rw[sg,sg]at c1
  unfold VE;rw[if_pos]
  split at c1<;>split at c1<;>(try split at c1)<;>(try split at c1)<;>omega
 ·rw[decide_eq_false c1,cf]
  by_cases k:(At n1 s1).sign>(At n2 s2).sign
  ·rw[decide_eq_true k,ct]
   rw[sg,sg]at k
   unfold VE;rw[if_neg,if_pos]
   ·split at k<;>split at k<;>(try split at k)<;>(try split at k)<;>omega
   ·split at k<;>split at k<;>(try split at k)<;>(try split at k)<;>omega
  ·rw[decide_eq_false k,cf]
   have I:(At n1 s1).sign=(At n2 s2).sign:=by omega
   by_cases c3:(At n1 s1).sign<0
   ·rw[decide_eq_true c3,ct,M6,M6,Oq rfl rfl B A (v.le (by omega))]
    have C:At n1 s1<0:=by rw[sg]at c3;split at c3;assumption;split at c3<;>omega
    have D:At n2 s2<0:=by rw[I,sg]at c3;split at c3;assumption;split at c3<;>omega
    have e1:At n1 s1=-(val s1.l:Int):=by unfold At at C ⊢;cases n1<;>simp at C ⊢;omega
    have G:At n2 s2=-(val s2.l:Int):=by unfold At at D ⊢;cases n2<;>simp at D ⊢;omega
    rw[e1,G,zU]
   ·rw[decide_eq_false c3,cf,M6,M6,Oq rfl rfl A B (v.le (by omega))]
    have C:0<=At n1 s1:=by
     apply Int.not_lt.1;intro h;rw[Aii h]at c3;omega
    have D:0<=At n2 s2:=by
     apply Int.not_lt.1;intro h;rw[I,Aii h]at c3;omega
    have e1:At n1 s1=(val s1.l:Int):=by have:=B8 n1 s1;omega
    have G:At n2 s2=(val s2.l:Int):=by have:=B8 n2 s2;omega
    rw[e1,G,zT]
def jD(z:Int)(d:Nat)(A:d≠0):(mkRat z d).num.natAbs=z.natAbs/Nat.gcd z.natAbs d/\((mkRat z d).num<0↔z<0)/\(mkRat z d).den=d/Nat.gcd z.natAbs d:=by
 have C:0<Nat.gcd z.natAbs d:=Aks _ (by omega)
 rw[An0,Anx,if_neg A,if_neg A,Ai7 d]
 have k:((Nat.gcd z.natAbs d:Nat):Int)∣z:=Int.dvd_natAbs.1 (Int.natCast_dvd_natCast.2 (Aj5 _ _))
 obtain⟨c,B⟩:=k
 have D:z.natAbs.gcd d=Nat.gcd z.natAbs d:=rfl
 generalize Nat.gcd z.natAbs d=g at *
 refine⟨?_,?_,rfl⟩
 ·rw[B,Akr _ (by omega),Ajw,Ah5,Am5 _ C]
 ·rw[B,Akr _ (by omega)]
  constructor
  ·intro h;exact Int.mul_neg_of_pos_of_neg (by omega) h
  ·intro h;rcases Int.lt_or_le c 0 with v|v
   ·exact v
   ·have:=Amm (show(0:Int)<=g by omega) v;omega
structure RatD where
 neg:Bool
 ns:LS
 ds:LS
def RatD.av(x:RatD):LA:=[.bool x.neg,x.ns.av,x.ds.av]
def RatD.ok(x:RatD):Prop:=Ai x.ns.l/\Ai x.ds.l
def RatD.m(x:RatD):Nat:=max x.ns.l.length x.ds.l.length
def RatD.q(x:RatD):Rat:=mkRat (At x.neg x.ns) (val x.ds.l)
def RatD.can(x:RatD)(q:Rat):Prop:=x.neg=decide (q.num<0)/\x.ns.l=An q.num.natAbs/\x.ds.l=An q.den
def qm(q:Rat):Nat:=max (An q.num.natAbs).length (An q.den).length
def RatD.can.ok{x:RatD}{q:Rat}(h:x.can q):x.ok:=⟨by rw[h.2.1];exact Ad _,by rw[h.2.2];exact Ad _⟩
def RatD.can.m{x:RatD}{q:Rat}(h:x.can q):x.m=qm q:=by unfold RatD.m qm;rw[h.2.1,h.2.2]
def RatD.can.q{x:RatD}{q:Rat}(h:x.can q):x.q=q:=by
 unfold RatD.q At
 rw[h.1,h.2.1,h.2.2,Aj,Aj]
 have:(if decide (q.num<0)=true then -(q.num.natAbs:Int)else(q.num.natAbs:Int))=q.num:=by
  by_cases k:q.num<0
  ·rw[if_pos (by simpa using k)];omega
  ·rw[if_neg (by simpa using k)];omega
 rw[this,Rat.mkRat_self]
def Adg{x:RatD}{f:Bool->O R}:X2 x.av f=f x.neg:=Aci
def xd{x:RatD}{f:LA->Nat->O R}:Bv 1 (drop 1 x.av) f=f (Ac x.ns.l) x.ns.l.length:=by rw[RatD.av,Aiu,Aid,jC]
def eQ{x:RatD}{f:LA->Nat->O R}:Bv 1 (drop 2 x.av) f=f (Ac x.ds.l) x.ds.l.length:=by rw[RatD.av,Aiu,Aiu,Aid,jC]
def H9(x:RatD):ble 3 (List.length x.av)=true:=rfl
def Dl(x:RatD):take 3 x.av=x.av:=rfl
def Acj(x:RatD):take 2 x.av=H8 x.neg x.ns:=rfl
def Aeh(x:RatD):beq (List.length x.av) 3=true:=rfl
def PG(n:Bool)(s:LS):((beq 0 0)&&((beq (List.length (H8 n s)) 2)&&(beq 2 2)))=true:=rfl
def RI(n:Bool)(s:LS):ble 2 (List.length (H8 n s))=true:=rfl
def kc(n:Bool)(s:LS):take 2 (H8 n s)=H8 n s:=rfl
def zV:([.int .u32 1]:LA)=Ac [1]:=rfl
def xe:Ai [1]:=by intro x k;simp at k;omega
def Vt:An 1=[1]:=by rw[DD (by omega)];simp[Dd]
def Du{v:Nat}{S:List Nat}(k:Ai S)(A:val S=v):take ((An v).length*1) (Ac S)=Ac (An v):=by rw[<-A,Kd k]
def xh(neg:Bool)(l:List Nat)(t o:Bool):([.bool neg,.imm (Ac l) l.length 1 t o]:LA)=H8 neg (.of l t o):=rfl
def Hv{z:Int}{t o:Bool}:At (decide (z<0)) (.of (An z.natAbs) t o)=z:=by
 unfold At LS.l;rw[Aj]
 by_cases h:z<0
 ·rw[if_pos (by simpa using h)];omega
 ·rw[if_neg (by simpa using h)];omega
def kw{N:Nat}{v:Int}(k:-9223372036854775808<=v/\v<=9223372036854775807)(hN:4<=N):∃ d:RatD,d.can (v:Rat)/\∀ K:LA->O R,Ca N v K=K d.av:=by
 obtain⟨S,s1,s2,A⟩:=ku (R:=R) (N:=N) k hN
 refine⟨⟨decide (v<0),.of (An v.natAbs) false false,.of (An 1) false false⟩,⟨rfl,rfl,rfl⟩,fun K=>?_⟩
 rw[IW];unfold IV
 rw[A,Du s1 s2,Vt];rfl
def Lv{N:Nat}{x:RatD}{o:Bool}(v:x.ok)(C:fit x.m N):∃(neg:Bool)(s:LS)(l:List Nat)(o1 o2:Bool),Ai s.l/\Ai l/\val l≠0/\s.l.length<=x.m/\l.length<=max x.m 1/\mkRat (At neg s) (val l)=x.q/\∀ K:LA->Bool->LA->Nat->Bool->O R,Lb N x.av o K=K (H8 neg s) o1 (Ac l) l.length o2:=by
 have A:x.ns.l.length<=x.m:=Akl _ _
 have k:x.ds.l.length<=x.m:=Akw _ _
 by_cases B:val x.ds.l=0
 ·refine⟨false,.nil,[1],false,false,Qu,xe,by decide,by simp[LS.l],by simp;omega,?_,fun K=>?_⟩
  ·unfold RatD.q;rw[B];simp[At,LS.l,val]
  ·rw[DK];unfold MG
   rw[eQ,iO rfl v.2 (C.le k),B,V9];rfl
 ·refine⟨x.neg,x.ns,x.ds.l,o,o,v.1,v.2,B,A,by omega,rfl,fun K=>?_⟩
  have:Gg (val x.ds.l) 0=1:=by unfold Gg;rw[if_neg (by omega),if_pos (by omega)]
  rw[DK];unfold MG
  rw[eQ,iO rfl v.2 (C.le k),this,show((1:Int)==0)=false by rfl,cf,show ble 2 (List.length x.av)=true by rfl,ct,eQ,Acj,PG,ct,RI,ct,kc]
def Aei(z:Int)(d:Nat)(v:d≠0):(mkRat z d).num.sign=z.sign:=by
 obtain⟨B,A,_⟩:=jD z d v
 rcases Ak1 z 0 with h|h|h
 ·rw[Aii h,Aii (A.2 h)]
 ·subst h;simp
 ·have hn:¬ (mkRat z d).num<0:=fun k=>by have:=A.1 k;omega
  have C:(mkRat z d).num≠0:=fun k=>by
   have:mkRat z d=0:=Ali.1 k
   rw[Rat.mkRat_eq_zero v]at this;omega
  rw[Ai4 h,Ai4 (by omega)]
def Jh{N:Nat}{x:RatD}{o:Bool}{K:Int->O R}(v:x.ok)(k:fit x.m N):Vh N x.av o K=K x.q.num.sign:=by
 obtain⟨neg,s,l,o1,o2,A,I,B,C,L,D,G⟩:=Lv (R:=R) (o:=o) v k
 rw[bR];unfold gg
 rw[H9,ct,Dl,G,PG,ct,RI,ct,kc,RH A (k.le C),<-D,Aei _ _ B]
def Hl{N:Nat}{x:RatD}{o:Bool}(v:x.ok)(A:fit x.m N):(∃(n:Int)(d:Nat),-2147483648<n/\n<2147483648/\0<d/\d<2147483648/\mkRat n d=x.q/\∀ K:Int->Int->Bool->O R,Fu N x.av o K=K n (d:Int) true)\/(∀ K:Int->Int->Bool->O R,Fu N x.av o K=K 0 0 false):=by
 have B:x.ns.l.length<=x.m:=Akl _ _
 have k:x.ds.l.length<=x.m:=Akw _ _
 by_cases L:val x.ns.l<2147483648
 ·by_cases I:val x.ds.l<2147483648
  ·left
   have e:∀ K:Int->Int->Bool->O R,Fu N x.av o K=Er N K (val x.ns.l:Int) (val x.ds.l:Int) o x.av false:=by
    intro K
    rw[U9];unfold V7
    rw[xd,Lr rfl v.1 (A.le B),if_pos (by omega),eQ,Lr rfl v.2 (A.le k),if_pos (by omega)]
    rw[show((!true)==false)=true by rfl,ct,show((cond false true (!true))==false)=true by rfl,ct,show decide (((val x.ns.l:Nat):Int)>=2147483648)=false by rw[decide_eq_false_iff_not];omega,show((cond false true false)==false)=true by rfl,ct,show decide (((val x.ds.l:Nat):Int)>=2147483648)=false by rw[decide_eq_false_iff_not];omega]
    rfl
   by_cases D:val x.ds.l=0
   ·refine⟨0,1,by omega,by omega,by omega,by omega,by unfold RatD.q;rw[D];simp,fun K=>?_⟩
    rw[e];unfold Er
    rw[cf,Agb D,ct];rfl
   ·have hn:=B8 x.neg x.ns
    refine⟨At x.neg x.ns,val x.ds.l,by omega,by omega,by omega,I,rfl,fun K=>?_⟩
    rw[e];unfold Er
    rw[cf,k_ D,cf,Adg,i64 (a:=((val x.ns.l:Nat):Int)) (by omega),i64 (a:=((val x.ds.l:Nat):Int)) (by omega)]
    unfold At
    cases x.neg
    ·rfl
    ·rw[ct,i64 (by omega),Int.zero_sub];rfl
  ·right
   intro K
   rw[U9];unfold V7
   rw[xd,Lr rfl v.1 (A.le B),if_pos (by omega),eQ,Lr rfl v.2 (A.le k),show((!true)==false)=true by rfl]
   by_cases C:val x.ds.l<18446744073709551616
   ·rw[if_pos C,ct,show((cond false true (!true))==false)=true by rfl,ct,show decide (((val x.ns.l:Nat):Int)>=2147483648)=false by rw[decide_eq_false_iff_not];omega,show((cond false true false)==false)=true by rfl,ct,show decide (((val x.ds.l:Nat):Int)>=2147483648)=true by rw[decide_eq_true_eq];omega]
    unfold Er;rfl
   ·rw[if_neg C,ct,show((cond false true (!false))==false)=false by rfl,cf]
    unfold Er;rfl
 ·right
  intro K
  rw[U9];unfold V7
  rw[xd,Lr rfl v.1 (A.le B)]
  by_cases C:val x.ns.l<18446744073709551616
  ·rw[if_pos C,eQ,Lr rfl v.2 (A.le k),show((!true)==false)=true by rfl,show decide (((val x.ns.l:Nat):Int)>=2147483648)=true by rw[decide_eq_true_eq];omega]
   by_cases G:val x.ds.l<18446744073709551616
   ·rw[if_pos G,ct,show((cond false true (!true))==false)=true by rfl,ct]
    unfold Er;rfl
   ·rw[if_neg G,ct,show((cond false true (!false))==false)=false by rfl,cf]
    unfold Er;rfl
  ·rw[if_neg C,eQ,Lr rfl v.2 (A.le k),show((!false)==false)=false by rfl]
   split<;>(rw[cf];unfold Er;rfl)
def mW{N:Nat}{a b c:Nat}{s:Int}(hN:4<=N)(I:a<18446744073709551616)(hb:b<9223372036854775808)(L:0<c)(T:c∣a):∀(k fuel x y:Nat),k<fuel->x*y<2 ^ k->y<=x->Nat.gcd x y=c->∃ d:RatD,d.neg=decide (s<0)/\d.ns.l=An (a/c)/\d.ds.l=An (b/c)/\∀ K:LA->O R,Cj N K s (b:Int) (a:Int) fuel (x:Int) (y:Int)=K d.av:=by
 have base:∀(fuel:Nat),∃ d:RatD,d.neg=decide (s<0)/\d.ns.l=An (a/c)/\d.ds.l=An (b/c)/\∀ K:LA->O R,Cj N K s (b:Int) (a:Int) (fuel+1) (c:Int) ((0:Nat):Int)=K d.av:=by
  intro fuel
  have D:a/c<18446744073709551616:=Aik (Ajg _ _) I
  have G:b/c<18446744073709551616:=Aik (Ajg _ _) (by omega)
  obtain⟨S1,s1,s2,V⟩:=Jf (R:=R) (N:=N) D hN
  obtain⟨S2,t1,t2,t3⟩:=Jf (R:=R) (N:=N) G hN
  refine⟨⟨decide (s<0),.of (An (a/c)) false false,.of (An (b/c)) false false⟩,rfl,rfl,rfl,fun K=>?_⟩
  rw[Cj];unfold Js
  rw[show(((0:Nat):Int) != 0)=false by rfl,cf,k_ (by omega),cf,PD,Hb D,V,cf,Hb (show b<18446744073709551616 by omega),PD,Hb G,t3,Du s1 s2,Du t1 t2];rfl
 intro k
 induction k with
| zero =>
  intro fuel x y Y v B A
  obtain⟨fuel,rfl⟩:∃ F,fuel=F+1:=⟨fuel - 1,by omega⟩
  have hy:y=0:=by
   rcases Aib y with h|h
   ·exact h
   ·have h3:=Ah7 x (show 1<=y by omega)
    rw[Alw]at v;omega
  subst hy
  rw[Ajs]at A;subst A
  exact base fuel
| succ k ih =>
  intro fuel x y Y v B A
  obtain⟨fuel,rfl⟩:∃ F,fuel=F+1:=⟨fuel - 1,by omega⟩
  rcases Aib y with h|h
  ·subst h;rw[Ajs]at A;subst A;exact base fuel
  ·have hh:=KO (show 1<=y by omega) B
   have hm:=Ajf x h
   have C:Nat.gcd y (x%y)=Nat.gcd x y:=by rw[Ai7,<-Amw,Ai7]
   obtain⟨d,d1,d2,d3,d4⟩:=ih fuel y (x%y) (by omega) (by rw[Ahw]at v;omega) (by omega) (by rw[C,A])
   refine⟨d,d1,d2,d3,fun K=>?_⟩
   rw[Cj];unfold Js
   rw[show((y:Int) != 0)=true by rw[bne_iff_ne];omega,ct,k_ (by omega),cf,KL]
   exact d4 K
def Z3{N:Nat}{s:Int}{b:Nat}(hs:-9223372036854775808<=s/\s<=9223372036854775807)(B:0<b)(T:b<9223372036854775808)(hN:1000<=N):∃ d:RatD,d.can (mkRat s b)/\∀ K:LA->O R,Ib N s (b:Int) K=K d.av:=by
 obtain⟨m1,m2,m3⟩:=jD s b (by omega)
 have k:∀ d:RatD,d.neg=decide (s<0)->d.ns.l=An (s.natAbs/Nat.gcd s.natAbs b)->d.ds.l=An (b/Nat.gcd s.natAbs b)->d.can (mkRat s b):=by
  intro d V Y h3
  exact⟨by rw[V];congr 1;exact propext m2.symm,by rw[Y,m1],by rw[h3,m3]⟩
 have A:s.natAbs<18446744073709551616:=by omega
 have start:∀ K:LA->O R,Ib N s (b:Int) K=Cj N K s (b:Int) (s.natAbs:Int) N (b:Int) (s.natAbs:Int):=by
  intro K
  rw[GC];unfold Va O7 T1
  dsimp only
  by_cases h:s<0
  ·have e:wrap .u64 ((0:Int) - wrap .u64 s)=(s.natAbs:Int):=by rw[QA,QA];omega
   rw[decide_eq_true h,ct,e,Hb (by omega)]
  ·have e:wrap .u64 s=(s.natAbs:Int):=by rw[QA];omega
   rw[decide_eq_false h,cf,e,Hb (by omega)]
 have v:0<Nat.gcd s.natAbs b:=Aks _ B
 by_cases C:s.natAbs<=b
 ·obtain⟨d,D,G,I,L⟩:=mW (R:=R) (N:=N) (a:=s.natAbs) (b:=b) (c:=Nat.gcd s.natAbs b) (s:=s) (by omega) A T v (Aj5 _ _) 128 N b s.natAbs (by omega) (by
   have:=Ait (show b<18446744073709551616 by omega) A;exact this) C (Ai7 _ _)
  exact⟨d,k d D G I,fun K=>by rw[start,L]⟩
 ·obtain⟨F,hF⟩:∃ F,N=F+1:=⟨N - 1,by omega⟩
  obtain⟨d,D,G,I,L⟩:=mW (R:=R) (N:=N) (a:=s.natAbs) (b:=b) (c:=Nat.gcd s.natAbs b) (s:=s) (by omega) A T v (Aj5 _ _) 128 F s.natAbs (b%s.natAbs) (by omega) (by
   rw[Aig (by omega)]
   have:=Ait A (show b<18446744073709551616 by omega);exact this) (by rw[Aig (by omega)];omega) (by rw[Aig (by omega)])
  refine⟨d,k d D G I,fun K=>?_⟩
  rw[start,<-L K]
  conv=>lhs;rw[show(Cj N K s (b:Int) (s.natAbs:Int) N)=Cj N K s (b:Int) (s.natAbs:Int) (F+1) by rw[<-hF]]
  rw[Cj];unfold Js
  rw[show((s.natAbs:Int) != 0)=true by rw[bne_iff_ne];omega,ct,k_ (by omega),cf,KL]
def Aa5{S:List Nat}{g:Nat}(A:Ai S)(B:val S=g)(v:(An g).length=1){f:Int->O R}:Au .u32 (Ac S) f=f (g:Int):=by
 have C:=(A9 A).2
 rw[B,v]at C
 have k:=rQ A
 rw[B,v]at k
 obtain⟨a,D⟩:∃ a,An g=[a]:=by
  match h:An g,v with
  |[a],_=>exact⟨a,rfl⟩
 have G:a=g:=by have:=Aj g;rw[D]at this;simpa[val]using this
 rw[D,G]at k
 match S,C,k with
|x::r,_,k =>
  simp at k;subst k
  rw[V6,Av]
def Zb{N:Nat}{neg:Bool}{s:LS}{l:List Nat}{n:Nat}{o t o':Bool}(hn:n=l.length)(hs:Ai s.l)(hl:Ai l)(C:val l≠0)(A:fit (2*(s.l.length+l.length)+8) N):
  ∃ d:RatD,d.can (mkRat (At neg s) (val l))/\∀ K:LA->O R,Ol N (H8 neg s) o (Ac l) n t o' K=K d.av:=by
 obtain⟨m1,m2,m3⟩:=jD (At neg s) (val l) C
 have D:=B8 neg s
 have ls:=(A9 hs).2
 have ll:=(A9 hl).2
 generalize hz:At neg s=z at *
 have start:∀ K:LA->O R,Ol N (H8 neg s) o (Ac l) n t o' K=cond ((((An z.natAbs).length:Nat):Int)==(0:Int)) (K [.bool false,.nsl,.imm [.int .u32 1] 1 1 false false]) (QW N (Ac (An z.natAbs)) (An z.natAbs).length false true (Ac (An (val l))) (An (val l)).length false true fun f g=>cond (((f:Int) != (1:Int))==false) (cond (Ah (0:Int) f) (Au .u32 g fun y=>cond (cond false true (y != (1:Int))) (Ev N (Ac (An z.natAbs)) (An z.natAbs).length false true (take (f*1) g) f false true fun p ae af z2 ag=>Ev N (Ac (An (val l))) (An (val l)).length false true (take (f*1) g) f false true fun q ah ai aa aj=>K [.bool (decide (z<0)),.imm (take (p*1) z2) p 1 false false,.imm (take (q*1) aa) q 1 false false]) (K [.bool (decide (z<0)),.imm (Ac (An z.natAbs)) (An z.natAbs).length 1 false false,.imm (Ac (An (val l))) (An (val l)).length 1 false false])) none) (Ev N (Ac (An z.natAbs)) (An z.natAbs).length false true (take (f*1) g) f false true fun r ak al ab am=>Ev N (Ac (An (val l))) (An (val l)).length false true (take (f*1) g) f false true fun s an ao ac ap=>K [.bool (decide (z<0)),.imm (take (r*1) ab) r 1 false false,.imm (take (s*1) ac) s 1 false false])):=by
  intro K
  rw[OY];unfold QX
  have tk:∀ v:Nat,take ((An v).length*1) (Ac (An v))=Ac (An v):=fun v=>Du (Ad _) (Aj v)
  rw[Py,M6,show beq (List.length (H8 neg s)) 2=true by rfl,ct,xh,uR (s1:=.of s.l false o) hs (A.le (by simp[LS.l];omega)),show At neg (.of s.l false o)=z by rw[<-hz];rfl,MV hn hl (A.le (by omega)),tk,tk]
 by_cases h0:z=0
 ·refine⟨⟨false,.nil,.of [1] false false⟩,?_,fun K=>?_⟩
  ·rw[h0];simp only[Rat.zero_mkRat]
   exact⟨rfl,rfl,Vt.symm⟩
  ·rw[start,h0];rfl
 ·have I:z.natAbs≠0:=by omega
  have B:(An z.natAbs).length≠0:=fun h=>I (Bb.1 h)
  have hg0:0<Nat.gcd z.natAbs (val l):=Aks _ (by omega)
  have lz:(An z.natAbs).length<=s.l.length:=by rw[D];exact ls
  obtain⟨G,g1,L,g3⟩:=zP (R:=R) (N:=N) (a:=An z.natAbs) (b:=An (val l)) (t:=false) (o:=true) (t':=false) (o':=true) rfl rfl (Ad _) (Ad _) (A.le (by omega))
  rw[Aj,Aj]at L g3
  have lg:(An (Nat.gcd z.natAbs (val l))).length<=l.length:=Aje (Bh (Nat.gcd_le_right _ (by omega))) ll
  obtain⟨Q1,R1,a1,a2,a3,a4,a5⟩:=KN (R:=R) (N:=N) (a:=An z.natAbs) (b:=An (Nat.gcd z.natAbs (val l))) (t:=false) (o:=true) (t':=false) (o':=true) rfl rfl (Ad _) (Ad _) (by rw[Aj];omega) (A.le (by omega))
  obtain⟨Q2,R2,b1,T,b3,b4,V⟩:=KN (R:=R) (N:=N) (a:=An (val l)) (b:=An (Nat.gcd z.natAbs (val l))) (t:=false) (o:=true) (t':=false) (o':=true) rfl rfl (Ad _) (Ad _) (by rw[Aj];omega) (A.le (by omega))
  rw[Aj,Aj]at a2 a5 T V
  have Y:decide (z<0)=decide ((mkRat z (val l)).num<0):=by congr 1;exact propext m2.symm
  refine⟨⟨decide (z<0),.of (An (z.natAbs/Nat.gcd z.natAbs (val l))) false false,.of (An (val l/Nat.gcd z.natAbs (val l))) false false⟩,⟨Y,by rw[m1];rfl,by rw[m3];rfl⟩,fun K=>?_⟩
  rw[start,k_ B,cf,g3,Du g1 L]
  by_cases k:(An (Nat.gcd z.natAbs (val l))).length=1
  ·rw[show(((((An (Nat.gcd z.natAbs (val l))).length:Nat):Int) != (1:Int))==false)=true by rw[k];rfl,ct,show Ah 0 (An (Nat.gcd z.natAbs (val l))).length=true by rw[k];rfl,ct,Aa5 g1 L k]
   by_cases he:Nat.gcd z.natAbs (val l)=1
   ·rw[he,show(cond false true (((1:Nat):Int) != 1))=false by rfl,cf,Aon,Aon];rfl
   ·rw[show(cond false true (((Nat.gcd z.natAbs (val l):Nat):Int) != 1))=true by(show(((Nat.gcd z.natAbs (val l):Nat):Int) != 1)=true;rw[bne_iff_ne];omega),ct,a5,V,Du a1 a2,Du b1 T];rfl
  ·rw[show(((((An (Nat.gcd z.natAbs (val l))).length:Nat):Int) != (1:Int))==false)=false by(rw[show((((An (Nat.gcd z.natAbs (val l))).length:Nat):Int) != (1:Int))=true by rw[bne_iff_ne];omega];rfl),cf,a5,V,Du a1 a2,Du b1 T];rfl
def RK{N:Nat}{x:RatD}{o:Bool}(A:x.ok)(k:fit (4*x.m+10) N):∃ d:RatD,d.can x.q/\∀ K:LA->O R,MQ N x.av o K=K d.av:=by
 have T:=k.1
 rcases Hl (R:=R) (N:=N) (o:=o) A (k.le (by omega))with⟨n,d,n1,n2,B,V,e,hK⟩|hK
 ·obtain⟨c,c1,v⟩:=Z3 (R:=R) (N:=N) (s:=n) (b:=d) (by omega) B (by omega) (by omega)
  rw[e]at c1
  refine⟨c,c1,fun K=>?_⟩
  rw[JY];unfold TW
  rw[H9,ct,Dl,hK,ct,v];rfl
 ·obtain⟨neg,s,l,o1,o2,C,D,G,Y,p5,I,L⟩:=Lv (R:=R) (N:=N) (o:=o) A (k.le (by omega))
  obtain⟨c,c1,v⟩:=Zb (R:=R) (N:=N) (neg:=neg) (s:=s) (l:=l) (n:=l.length) (o:=o1) (t:=false) (o':=o2) rfl C D G (k.le (by omega))
  rw[I]at c1
  refine⟨c,c1,fun K=>?_⟩
  rw[JY];unfold TW
  rw[H9,ct,Dl,hK,cf,ct,L,v];rfl
def Z4(x y:Rat):Int:=if x<y then -1 else if y<x then 1 else 0
def vY{d:Nat}(h:0<d):(0:Rat)<(d:Rat):=Amc.2 h
def mX{a c:Int}{b d:Nat}(k:0<b)(v:0<d):mkRat a b<mkRat c d↔a*d<c*b:=by
 rw[Al5,Al5,Rat.div_lt_iff (vY k)]
 have e:(c:Rat)/(d:Rat)*(b:Rat)=(c*b:Rat)/(d:Rat):=by rw[Ak7,Ak7,Anz,Anz,Rat.mul_comm (d:Rat)⁻¹]
 rw[e,Rat.lt_div_iff (vY v)]
 have e1:(a:Rat)*(d:Rat)=((a*d:Int):Rat):=by rw[Amb];rfl
 have A:(c:Rat)*(b:Rat)=((c*b:Int):Rat):=by rw[Amb];rfl
 rw[e1,A,Aky]
def vZ{a c:Int}{b d:Nat}(k:0<b)(v:0<d):Z4 (mkRat a b) (mkRat c d)=VE (a*d) (c*b):=by
 unfold Z4 VE
 by_cases h:a*d<c*b
 ·rw[if_pos h,if_pos ((mX k v).2 h)]
 ·rw[if_neg h,if_neg (fun B=>h ((mX k v).1 B))]
  by_cases A:c*b<a*d
  ·rw[if_pos A,if_pos ((mX v k).2 A)]
  ·rw[if_neg A,if_neg (fun B=>A ((mX v k).1 B))]
def sK{N:Nat}{a b:Int}{K:Int->O R}:Nt N a b K=K (VE a b):=by
 rw[Uj];unfold Rh
 simp only[Ps];unfold Pr
 rw[show(a != a)=false by simp,show(b != b)=false by simp]
 dsimp only
 rw[cf,cf]
 unfold VE
 by_cases h:a<b
 ·rw[decide_eq_true h,ct,if_pos h]
 ·rw[decide_eq_false h,cf,if_neg h]
  by_cases k:b<a
  ·rw[decide_eq_true (show a>b from k),ct,if_pos k]
  ·rw[decide_eq_false (show ¬ a>b from k),cf,if_neg k]
def ky{N:Nat}{a b:Int}{K:Int->O R}:Kx N a b K=K (VE a b):=by
 rw[Qb];unfold N6
 simp only[Uk];unfold Ri
 rw[show(a != a)=false by simp,show(b != b)=false by simp]
 dsimp only
 rw[cf,cf]
 unfold VE
 by_cases h:a<b
 ·rw[decide_eq_true h,ct,if_pos h]
 ·rw[decide_eq_false h,cf,if_neg h]
  by_cases k:b<a
  ·rw[decide_eq_true (show a>b from k),ct,if_pos k]
  ·rw[decide_eq_false (show ¬ a>b from k),cf,if_neg k]
def zW{p q:Rat}(h:p.num.sign<q.num.sign):p<q:=by
 rw[Rat.lt_iff]
 have A:=p.den_pos;have hq:=q.den_pos
 rcases Ak1 p.num 0 with k|k|k
 ·rcases Int.lt_or_le q.num 0 with v|v
  ·rw[Aii k,Aii v]at h;omega
  ·have x1:p.num*q.den<0:=Int.mul_neg_of_neg_of_pos k (by omega)
   have x2:0<=q.num*p.den:=Amm v (by omega)
   omega
 ·rw[k]at h ⊢
  have:0<q.num:=by simpa using h
  have x2:0<q.num*p.den:=Int.mul_pos this (by omega)
  rw[Int.zero_mul];exact x2
 ·rw[Ai4 k]at h
  have:=Int.sign_trichotomy q.num
  omega
def FF{a b:Int}(v:-2147483648<a/\a<2147483648)(A:-2147483648<b/\b<2147483648):-4611686018427387904<a*b/\a*b<4611686018427387904:=by
 have k:a.natAbs*b.natAbs<=2147483647*2147483647:=Ajh (by omega) (by omega)
 rw[<-Ajw]at k
 omega
def kz{N:Nat}{x y:RatD}{o o':Bool}{K:Int->O R}(I:x.ok)(C:y.ok)(k:fit (4*(x.m+y.m)+10) N):N7 N x.av o y.av o' K=K (Z4 x.q y.q):=by
 have h1:=k.1
 rw[KA];unfold Yr
 rw[H9,ct,Dl,Jh I (k.le (by omega)),H9,ct,Dl,Jh C (k.le (by omega))]
 by_cases hs:x.q.num.sign=y.q.num.sign
 ·rw[show(x.q.num.sign != y.q.num.sign)=false by simp[hs],cf,ct]
  have gen:Ng N K o x.av o' y.av=K (Z4 x.q y.q):=by
   obtain⟨n1,s1,l1,a1,D,T,V,p3,p4,p5,p6,p7⟩:=Lv (R:=R) (N:=N) (o:=o) I (k.le (by omega))
   obtain⟨n2,s2,l2,a2,G,Y,q2,q3,q4,q5,q6,q7⟩:=Lv (R:=R) (N:=N) (o:=o') C (k.le (by omega))
   obtain⟨S1,t1,t2,t3⟩:=BZ (R:=R) (N:=N) (n1:=n1) (n2:=false) (s1:=s1) (s2:=.of l2 false G) (o1:=a1) (o2:=(G||false)) T q2 (k.le (show s1.l.length+l2.length<=_ by omega))
   obtain⟨S2,u1,u2,u3⟩:=BZ (R:=R) (N:=N) (n1:=n2) (n2:=false) (s1:=s2) (s2:=.of l1 false D) (o1:=a2) (o2:=(D||false)) Y V (k.le (show s2.l.length+l1.length<=_ by omega))
   have v1:At false (.of l2 false G)=(val l2:Int):=rfl
   have v2:At false (.of l1 false D)=(val l1:Int):=rfl
   rw[v1]at t2 t3;rw[v2]at u2 u3
   have l1':(An (At n1 s1*(val l2:Int)).natAbs).length<=x.m+max y.m 1:=Aje (Ch (by
    rw[Ajw,B8,Ah5,Ais]
    exact Ait (Ah6 (A6 T) (Aih (by omega) p4)) (Ah6 (A6 q2) (Aih (by omega) q5)))) (Ahl _)
   have l2':(An (At n2 s2*(val l1:Int)).natAbs).length<=y.m+max x.m 1:=Aje (Ch (by
    rw[Ajw,B8,Ah5,Ais]
    exact Ait (Ah6 (A6 Y) (Aih (by omega) q4)) (Ah6 (A6 V) (Aih (by omega) p5)))) (Ahl _)
   unfold Ng
   rw[H9,ct,Dl,p7,PG,ct,H9,ct,Dl,q7,PG,ct,RI,ct,kc,xh,t3,RI,ct,kc,xh,u3,Du t1 t2,Du u1 u2,xh,xh,kv (s1:=.of (An (At n1 s1*(val l2:Int)).natAbs) false true) (s2:=.of (An (At n2 s2*(val l1:Int)).natAbs) false true) (Ad _) (Ad _) (k.le (show(An (At n1 s1*(val l2:Int)).natAbs).length+(An (At n2 s2*(val l1:Int)).natAbs).length<=_ by omega)),Hv,Hv,<-p6,<-q6,vZ (by omega) (by omega)]
  rcases Hl (R:=R) (N:=N) (o:=o) I (k.le (by omega))with⟨n,d,n1,n2,d1,d2,e,hK⟩|hK
  ·rcases Hl (R:=R) (N:=N) (o:=o') C (k.le (by omega))with⟨n',d',v,A,B,L,e',hK'⟩|hK'
   ·have D:=FF (a:=n) (b:=(d':Int)) ⟨n1,n2⟩ (by omega)
    have G:=FF (a:=n') (b:=(d:Int)) ⟨v,A⟩ (by omega)
    rw[hK,ct,hK',show((true:Bool)==true)=true by rfl,ct,rP,ct,ky,i64 (by omega),i64 (by omega),<-e,<-e',vZ d1 B]
   ·rw[hK,ct,hK',show((true:Bool)==true)=true by rfl,ct,rP,cf,gen]
  ·rcases Hl (R:=R) (N:=N) (o:=o') C (k.le (by omega))with⟨n',d',v,A,B,L,e',hK'⟩|hK'
   ·rw[hK,ct,hK',show((false:Bool)==true)=false by rfl,cf,gen]
   ·rw[hK,ct,hK',show((false:Bool)==true)=false by rfl,cf,gen]
 ·rw[show(x.q.num.sign != y.q.num.sign)=true by simp[hs],ct,sK]
  congr 1
  unfold VE Z4
  by_cases h:x.q.num.sign<y.q.num.sign
  ·rw[if_pos h,if_pos (zW h)]
  ·have h2:y.q.num.sign<x.q.num.sign:=by omega
   have:=zW h2
   rw[if_neg h,if_pos h2,if_neg (fun hh=>absurd (Amj this) (Amp.2 hh)),if_pos this]
def sL{q:Rat}(h:q.num.sign=0):q=0:=Ali.1 (Amr.1 h)
def H6{a b:Int}{k l:Nat}(v:a.natAbs<4294967296 ^ k)(A:b.natAbs<4294967296 ^ l):(a*b).natAbs<4294967296 ^ (k+l):=by rw[Ajw,Ais];exact Ait v A
def VF{a b:Int}{k:Nat}(v:a.natAbs<4294967296 ^ k)(A:b.natAbs<4294967296 ^ k):(a+b).natAbs<4294967296 ^ (k+1):=by rw[Ahw];omega
def F7{k l:Nat}(h:k<=l):4294967296 ^ k<=4294967296 ^ l:=Aih (by omega) h
def zX{v k:Nat}(h:(An v).length<=k):v<4294967296 ^ k:=by
 have:=A6 (Ad v);rw[Aj]at this
 exact Ah6 this (F7 h)
def sM(p r:Int)(d:Nat)(k:d≠0):mkRat (p+r) d=mkRat p d+mkRat r d:=by
 rw[Amg _ _ k k,<-Int.add_mul]
 exact(Rat.mkRat_mul_right k).symm
def Aa6{N:Nat}{x y:RatD}{o o':Bool}(hx:x.ok)(hy:y.ok)(v:fit (8*(x.m+y.m)+40) N):∃ d:RatD,d.can (x.q+y.q)/\∀ K:LA->O R,BN N K o x.av o' y.av=K d.av:=by
 obtain⟨n1,s1,l1,a1,B,I,A,D,p4,p5,V,Y⟩:=Lv (R:=R) (N:=N) (o:=o) hx (v.le (by omega))
 obtain⟨n2,s2,l2,a2,G,L,C,q3,q4,q5,q6,q7⟩:=Lv (R:=R) (N:=N) (o:=o') hy (v.le (by omega))
 have zl1:(At n1 s1).natAbs<4294967296 ^ x.m:=by rw[B8];exact Ah6 (A6 I) (F7 p4)
 have zl2:(At n2 s2).natAbs<4294967296 ^ y.m:=by rw[B8];exact Ah6 (A6 L) (F7 q4)
 have dl1:((val l1:Nat):Int).natAbs<4294967296 ^ (x.m+1):=by rw[Ah5];exact Ah6 (A6 A) (F7 (by omega))
 have dl2:((val l2:Nat):Int).natAbs<4294967296 ^ (y.m+1):=by rw[Ah5];exact Ah6 (A6 C) (F7 (by omega))
 by_cases he:val l1=val l2
 ·obtain⟨S,t1,t2,t3⟩:=mV (R:=R) (N:=N) (n1:=n1) (n2:=n2) (s1:=s1) (s2:=s2) (o1:=a1) (o2:=a2) I L (v.le (by omega))
  have lz:(An (At n1 s1+At n2 s2).natAbs).length<=x.m+y.m+1:=Ch (VF (k:=x.m+y.m) (Ah6 zl1 (F7 (by omega))) (Ah6 zl2 (F7 (by omega))))
  obtain⟨c,c1,T⟩:=Zb (R:=R) (N:=N) (neg:=decide (At n1 s1+At n2 s2<0)) (s:=.of (An (At n1 s1+At n2 s2).natAbs) false true) (l:=l1) (n:=l1.length) (o:=true) (t:=false) (o':=B) rfl (Ad _) A D (v.le (show 2*((An (At n1 s1+At n2 s2).natAbs).length+l1.length)+8<=_ by omega))
  rw[Hv,sM _ _ _ D,V]at c1
  rw[show mkRat (At n2 s2) (val l1)=y.q by rw[he,q6]]at c1
  refine⟨c,c1,fun K=>?_⟩
  unfold BN
  rw[H9,ct,Dl,Y,PG,ct,H9,ct,Dl,q7,PG,ct,Oq rfl rfl A C (v.le (by omega)),he,V9,show((0:Int)==0)=true by rfl,ct,RI,ct,RI,ct,kc,kc,t3,Du t1 t2,xh,T];rfl
 ·obtain⟨S1,t1,t2,t3⟩:=BZ (R:=R) (N:=N) (n1:=n1) (n2:=false) (s1:=s1) (s2:=.of l2 false G) (o1:=a1) (o2:=(G||false)) I C (v.le (show s1.l.length+l2.length<=_ by omega))
  obtain⟨S2,u1,u2,u3⟩:=BZ (R:=R) (N:=N) (n1:=n2) (n2:=false) (s1:=s2) (s2:=.of l1 false B) (o1:=a2) (o2:=(B||false)) L A (v.le (show s2.l.length+l1.length<=_ by omega))
  rw[show At false (.of l2 false G)=(val l2:Int) by rfl]at t2 t3
  rw[show At false (.of l1 false B)=(val l1:Int) by rfl]at u2 u3
  have z1:=H6 zl1 dl2
  have z2:=H6 zl2 dl1
  have L1:=Ch z1
  have L2:=Ch z2
  obtain⟨S3,w1,w2,w3⟩:=mV (R:=R) (N:=N) (n1:=decide (At n1 s1*(val l2:Int)<0)) (n2:=decide (At n2 s2*(val l1:Int)<0)) (s1:=.of (An (At n1 s1*(val l2:Int)).natAbs) false true) (s2:=.of (An (At n2 s2*(val l1:Int)).natAbs) false true) (o1:=true) (o2:=true) (Ad _) (Ad _) (v.le (show(An (At n1 s1*(val l2:Int)).natAbs).length+(An (At n2 s2*(val l1:Int)).natAbs).length+1<=_ by omega))
  rw[Hv,Hv]at w2 w3
  obtain⟨S4,v1,v2,v3⟩:=KK (R:=R) (N:=N) (a:=l1) (b:=l2) (t:=false) (o:=B) (t':=false) (o':=G) rfl rfl A C (v.le (by omega))
  have z3:=VF (k:=x.m+y.m+1) (Ah6 z1 (F7 (by omega))) (Ah6 z2 (F7 (by omega)))
  have L3:=Ch z3
  have z4:val l1*val l2<4294967296 ^ (x.m+1+(y.m+1)):=by
   have:=H6 dl1 dl2;rw[Ajw,Ah5,Ah5]at this;exact this
  have L4:=Ch z4
  obtain⟨c,c1,T⟩:=Zb (R:=R) (N:=N) (neg:=decide (At n1 s1*(val l2:Int)+At n2 s2*(val l1:Int)<0)) (s:=.of (An (At n1 s1*(val l2:Int)+At n2 s2*(val l1:Int)).natAbs) false true) (l:=An (val l1*val l2)) (n:=(An (val l1*val l2)).length) (o:=true) (t:=false) (o':=true) rfl (Ad _) (Ad _) (by rw[Aj];exact Ama D q3) (v.le (show 2*((An (At n1 s1*(val l2:Int)+At n2 s2*(val l1:Int)).natAbs).length+(An (val l1*val l2)).length)+8<=_ by omega))
  rw[Hv,Aj,<-Amg _ _ D q3,V,q6]at c1
  refine⟨c,c1,fun K=>?_⟩
  unfold BN
  have hc:(Gg (val l1) (val l2)==0)=false:=by
   rw[beq_eq_false_iff_ne];unfold Gg;split
   ·omega
   ·rw[if_pos (by omega)];omega
  rw[H9,ct,Dl,Y,PG,ct,H9,ct,Dl,q7,PG,ct,Oq rfl rfl A C (v.le (by omega)),hc,cf,RI,ct,kc,xh,t3,RI,ct,kc,xh,u3,Du t1 t2,Du u1 u2,xh,xh,w3,v3,Du w1 w2,Du v1 v2,xh,T];rfl
def mY{N:Nat}{x y:RatD}{o o':Bool}(A:x.ok)(B:y.ok)(k:fit (8*(x.m+y.m)+40) N):∃ d:RatD,d.can (x.q+y.q)/\∀ K:LA->O R,T3 N x.av o y.av o' K=K d.av:=by
 have h1:=k.1
 by_cases T:x.q.num.sign=0
 ·obtain⟨c,c1,v⟩:=RK (R:=R) (N:=N) (o:=o') B (k.le (by omega))
  refine⟨c,by rw[sL T,Aod];exact c1,fun K=>?_⟩
  rw[EL];unfold MR
  rw[H9,ct,Dl,Jh A (k.le (by omega)),T,show((0:Int)==0)=true by rfl,ct,H9,ct,Dl,v];rfl
 ·have C:(x.q.num.sign==0)=false:=by rw[beq_eq_false_iff_ne];exact T
  by_cases V:y.q.num.sign=0
  ·obtain⟨c,c1,v⟩:=RK (R:=R) (N:=N) (o:=o) A (k.le (by omega))
   refine⟨c,by rw[sL V,Ana];exact c1,fun K=>?_⟩
   rw[EL];unfold MR
   rw[H9,ct,Dl,Jh A (k.le (by omega)),C,cf,H9,ct,Dl,Jh B (k.le (by omega)),V,show((0:Int)==0)=true by rfl,ct,ct,v];rfl
  ·have Y:(y.q.num.sign==0)=false:=by rw[beq_eq_false_iff_ne];exact V
   have start:∀ K:LA->O R,T3 N x.av o y.av o' K=Fu N x.av o (fun g e aw=>Fu N y.av o' fun i f ax=>cond (aw==true) (Om N K g e i f o x.av o' y.av (cond true ax false)) (Om N K g e i f o x.av o' y.av false)):=by
    intro K
    rw[EL];unfold MR
    rw[H9,ct,Dl,Jh A (k.le (by omega)),C,cf,H9,ct,Dl,Jh B (k.le (by omega)),Y,cf,ct];rfl
   have gen:∃ d:RatD,d.can (x.q+y.q)/\∀(K:LA->O R)(g e i f:Int),Om N K g e i f o x.av o' y.av false=K d.av:=by
    obtain⟨c,c1,v⟩:=Aa6 (R:=R) (N:=N) (o:=o) (o':=o') A B k
    exact⟨c,c1,fun K g e i f=>by unfold Om EK;rw[cf,v]⟩
   rcases Hl (R:=R) (N:=N) (o:=o) A (k.le (by omega))with⟨n,d,n1,n2,d1,d2,e,hK⟩|hK
   ·rcases Hl (R:=R) (N:=N) (o:=o') B (k.le (by omega))with⟨L,d',D,G,I,d2',e',hK'⟩|hK'
    ·have b1:=FF (a:=n) (b:=(d':Int)) ⟨n1,n2⟩ (by omega)
     have b2:=FF (a:=L) (b:=(d:Int)) ⟨D,G⟩ (by omega)
     have b3:=FF (a:=(d:Int)) (b:=(d':Int)) (by omega) (by omega)
     have b4:((d*d':Nat):Int)=(d:Int)*(d':Int):=by simp
     obtain⟨c,c1,v⟩:=Z3 (R:=R) (N:=N) (s:=n*d'+L*d) (b:=d*d') (by omega) (Amx d1 I) (by omega) (by omega)
     rw[<-Amg _ _ (by omega) (by omega),e,e']at c1
     refine⟨c,c1,fun K=>?_⟩
     rw[start,hK,hK',show((true:Bool)==true)=true by rfl,ct,rP]
     unfold Om EK
     rw[ct,i64 (a:=n*(d':Int)) (by omega),i64 (a:=L*(d:Int)) (by omega),i64 (by omega),i64 (by omega),<-b4,v];rfl
    ·obtain⟨c,c1,v⟩:=gen
     refine⟨c,c1,fun K=>?_⟩
     rw[start,hK,hK',show((true:Bool)==true)=true by rfl,ct,rP,v]
   ·obtain⟨c,c1,v⟩:=gen
    refine⟨c,c1,fun K=>?_⟩
    rw[start,hK]
    rcases Hl (R:=R) (N:=N) (o:=o') B (k.le (by omega))with⟨L,d',D,G,I,d2',e',hK'⟩|hK'
    ·rw[hK',show((false:Bool)==true)=false by rfl,cf,v]
    ·rw[hK',show((false:Bool)==true)=false by rfl,cf,v]
def sN(n:Bool)(s:LS):At (!n) s=-At n s:=by unfold At;cases n<;>simp
def mZ{N:Nat}{x y:RatD}{o o':Bool}(k:x.ok)(v:y.ok)(A:fit (8*(x.m+y.m)+40) N):∃ d:RatD,d.can (x.q - y.q)/\∀ K:LA->O R,Zx N x.av o y.av o' K=K d.av:=by
 obtain⟨c,c1,B⟩:=mY (R:=R) (N:=N) (x:=⟨x.neg,.of x.ns.l false o,.of x.ds.l false o⟩) (y:=⟨!y.neg,.of y.ns.l false o',.of y.ds.l false o'⟩) (o:=(o||(o||false))) (o':=(o'||(o'||false))) k v A
 have e1:RatD.q ⟨x.neg,.of x.ns.l false o,.of x.ds.l false o⟩=x.q:=rfl
 have C:RatD.q ⟨!y.neg,.of y.ns.l false o',.of y.ds.l false o'⟩=-y.q:=by
  show mkRat (At (!y.neg) (.of y.ns.l false o')) (val y.ds.l)=_
  rw[sN,<-Rat.neg_mkRat];rfl
 rw[e1,C,<-Alo]at c1
 refine⟨c,c1,fun K=>?_⟩
 rw[gj];unfold pE
 rw[Adg,xd,eQ,Aeh,ct,Adg,xd,eQ,Aeh,ct]
 exact(B _).trans rfl
def Aa7{N:Nat}{x y:RatD}{o o':Bool}(D:x.ok)(G:y.ok)(k:fit (8*(x.m+y.m)+40) N):∃ d:RatD,d.can (x.q*y.q)/\∀ K:LA->O R,BK N K o x.av o' y.av=K d.av:=by
 obtain⟨n1,s1,l1,a1,I,v,A,L,T,p5,V,Y⟩:=Lv (R:=R) (N:=N) (o:=o) D (k.le (by omega))
 obtain⟨n2,s2,l2,a2,b2,B,C,q3,q4,q5,q6,q7⟩:=Lv (R:=R) (N:=N) (o:=o') G (k.le (by omega))
 have zl1:(At n1 s1).natAbs<4294967296 ^ x.m:=by rw[B8];exact Ah6 (A6 v) (F7 T)
 have zl2:(At n2 s2).natAbs<4294967296 ^ y.m:=by rw[B8];exact Ah6 (A6 B) (F7 q4)
 have dl1:((val l1:Nat):Int).natAbs<4294967296 ^ (x.m+1):=by rw[Ah5];exact Ah6 (A6 A) (F7 (by omega))
 have dl2:((val l2:Nat):Int).natAbs<4294967296 ^ (y.m+1):=by rw[Ah5];exact Ah6 (A6 C) (F7 (by omega))
 obtain⟨S1,t1,t2,t3⟩:=BZ (R:=R) (N:=N) (n1:=n1) (n2:=n2) (s1:=s1) (s2:=s2) (o1:=a1) (o2:=a2) v B (k.le (by omega))
 have L1:=Ch (H6 zl1 zl2)
 obtain⟨S4,v1,v2,v3⟩:=KK (R:=R) (N:=N) (a:=l1) (b:=l2) (t:=false) (o:=I) (t':=false) (o':=b2) rfl rfl A C (k.le (by omega))
 have z4:val l1*val l2<4294967296 ^ (x.m+1+(y.m+1)):=by
  have:=H6 dl1 dl2;rw[Ajw,Ah5,Ah5]at this;exact this
 have L4:=Ch z4
 obtain⟨c,c1,c2⟩:=Zb (R:=R) (N:=N) (neg:=decide (At n1 s1*At n2 s2<0)) (s:=.of (An (At n1 s1*At n2 s2).natAbs) false true) (l:=An (val l1*val l2)) (n:=(An (val l1*val l2)).length) (o:=true) (t:=false) (o':=true) rfl (Ad _) (Ad _) (by rw[Aj];exact Ama L q3) (k.le (show 2*((An (At n1 s1*At n2 s2).natAbs).length+(An (val l1*val l2)).length)+8<=_ by omega))
 rw[Hv,Aj,<-Ant,V,q6]at c1
 refine⟨c,c1,fun K=>?_⟩
 unfold BK
 rw[H9,ct,Dl,Y,PG,ct,H9,ct,Dl,q7,PG,ct,RI,ct,RI,ct,kc,kc,t3,v3,Du t1 t2,Du v1 v2,xh,c2];rfl
def ZB{N:Nat}{x y:RatD}{o o':Bool}(L:x.ok)(C:y.ok)(k:fit (8*(x.m+y.m)+40) N):∃ d:RatD,d.can (x.q*y.q)/\∀ K:LA->O R,N5 N x.av o y.av o' K=K d.av:=by
 have h1:=k.1
 obtain⟨g,T,D⟩:=Aa7 (R:=R) (N:=N) (o:=o) (o':=o') L C k
 rcases Hl (R:=R) (N:=N) (o:=o) L (k.le (by omega))with⟨n,d,n1,n2,V,d2,e,hK⟩|hK
 ·rcases Hl (R:=R) (N:=N) (o:=o') C (k.le (by omega))with⟨G,d',v,A,B,I,e',hK'⟩|hK'
  ·have b1:=FF (a:=n) (b:=G) ⟨n1,n2⟩ ⟨v,A⟩
   have b3:=FF (a:=(d:Int)) (b:=(d':Int)) (by omega) (by omega)
   have Y:((d*d':Nat):Int)=(d:Int)*(d':Int):=by simp
   obtain⟨c,c1,c2⟩:=Z3 (R:=R) (N:=N) (s:=n*G) (b:=d*d') (by omega) (Amx V B) (by omega) (by omega)
   rw[<-Ant,e,e']at c1
   refine⟨c,c1,fun K=>?_⟩
   rw[EI];unfold MN
   rw[H9,ct,Dl,hK,H9,ct,Dl,hK',show((true:Bool)==true)=true by rfl,ct,rP,ct,i64 (by omega),i64 (by omega),<-Y,c2];rfl
  ·refine⟨g,T,fun K=>?_⟩
   rw[EI];unfold MN
   rw[H9,ct,Dl,hK,H9,ct,Dl,hK',show((true:Bool)==true)=true by rfl,ct,rP,cf,D]
 ·refine⟨g,T,fun K=>?_⟩
  rw[EI];unfold MN
  rcases Hl (R:=R) (N:=N) (o:=o') C (k.le (by omega))with⟨G,d',v,A,B,I,e',hK'⟩|hK'
  ·rw[H9,ct,Dl,hK,H9,ct,Dl,hK',show((false:Bool)==true)=false by rfl,cf,D]
  ·rw[H9,ct,Dl,hK,H9,ct,Dl,hK',show((false:Bool)==true)=false by rfl,cf,D]
def pV{a b:Rat}:Z4 a b<=0↔a<=b:=by
 unfold Z4
 by_cases h:a<b
 ·rw[if_pos h];exact⟨fun _=>Amj h,fun _=>by omega⟩
 ·rw[if_neg h]
  by_cases k:b<a
  ·rw[if_pos k];exact⟨fun v=>by omega,fun v=>absurd v (Amp.2 k)⟩
  ·rw[if_neg k];exact⟨fun _=>Amq.1 k,fun _=>by omega⟩
def Fd(z:Int):LA:=H8 (decide (z<0)) (.of (An z.natAbs) false false)
def VG(z:Int)(K:LA->O R):(cond ((beq 0 0)&&((beq (List.length (Fd z)) 2)&&(beq 2 2))) (cond (ble 2 (List.length (Fd z))) (K (take 2 (Fd z))) none) none)=K (Fd z):=rfl
def Ag4(z:Int):take 2 (Fd z)=Fd z:=rfl
def Afl(z:Int):beq (List.length (Fd z)) 2=true:=rfl
def Aam(v:Nat):take ((An v).length*1) (Ac (An v))=Ac (An v):=Du (Ad _) (Aj v)
def F8{N:Nat}{neg:Bool}{l:List Nat}{n:Nat}{t o:Bool}{K:LA->O R}(hn:n=l.length)(k:Ai l)(v:fit l.length N):F3 N neg (Ac l) n t o K=K (Fd (if neg then -(val l:Int)else(val l:Int))):=by
 obtain⟨c1,A⟩:=Wb (z:=if neg then -(val l:Int)else(val l:Int)) (c:=neg) (m:=val l) rfl
 rw[UD];unfold YG
 rw[Cu hn k v,Aam]
 unfold Fd
 rw[<-c1,A]
 cases neg
 ·rfl
 ·rw[show((true:Bool)==true)=true by rfl,ct,rP];simp[H8,LS.av]
def S7{N:Nat}{v:Int}{K:LA->O R}(A:-9223372036854775808<=v/\v<=9223372036854775807)(hN:2000<=N):G7 N v K=K (Fd v):=by
 have k:v.natAbs<18446744073709551616:=by omega
 have B:=Vp k
 rw[GV];unfold FB
 by_cases h:v<0
 ·have e:wrap .u64 (wrap .u64 (wrap .i64 ((0:Int) - wrap .i64 (v+1)))+1)=(v.natAbs:Int):=by
   rw[i64 (a:=v+1) (by omega),i64 (by omega),QA,QA];omega
  rw[decide_eq_true h,ct,e,Y1 k (by omega),Aam,F8 rfl (Ad _) ⟨by omega,by omega⟩,Aj]
  have:(if true=true then -(v.natAbs:Int)else(v.natAbs:Int))=v:=by rw[if_pos rfl];omega
  rw[this];exact VG _ _
 ·have e:wrap .u64 v=(v.natAbs:Int):=by rw[QA];omega
  rw[decide_eq_false h,cf,e,Y1 k (by omega),Aam,F8 rfl (Ad _) ⟨by omega,by omega⟩,Aj]
  have:(if false=true then -(v.natAbs:Int)else(v.natAbs:Int))=v:=by rw[if_neg (by decide)];omega
  rw[this];exact VG _ _
def RL{N:Nat}{n:Bool}{s:LS}{o:Bool}{K:LA->O R}(hs:Ai s.l)(k:fit s.l.length N):BQ N (H8 n s) o K=K (Fd (At n s)):=by
 rw[UE];unfold YH
 rw[Py,M6,F8 rfl hs k];exact VG _ _
def jE{N:Nat}{n:Bool}{s:LS}{o:Bool}{K:Int->O R}(hs:Ai s.l)(k:fit s.l.length N):BR N (H8 n s) o K=K (At n s).sign:=by
 rw[UF];unfold YI
 rw[RI,ct,kc,RL hs k,Afl,show(true&&(true&&(!false)))=true by rfl,ct]
 have e:setCells (H8 n s) 0 (Fd (At n s))=Fd (At n s):=rfl
 rw[e]
 generalize At n s=z
 unfold Fd
 rw[Py]
 rcases Ak1 z 0 with h|h|h
 ·rw[decide_eq_true h,ct,Aii h]
 ·subst h;rfl
 ·rw[decide_eq_false (by omega),cf,M6]
  have:(An z.natAbs).length≠0:=fun v=>by have:=Bb.1 v;omega
  simp only[LS.l]
  rw[k_ this,cf,Ai4 h]
def xi{N:Nat}{n:Bool}{s:LS}{o:Bool}{K:LA->O R}(hs:Ai s.l)(k:fit s.l.length N):Y5 N (H8 n s) o K=K (Fd (-At n s)):=by
 rw[cB];unfold i0
 rw[Py,M6,F8 rfl hs k,<-sN];exact VG _ _
def uS{N:Nat}{n1 n2:Bool}{s1 s2:LS}{o1 o2:Bool}{K:LA->O R}(k:Ai s1.l)(v:Ai s2.l)(A:fit (s1.l.length+s2.l.length) N):Vr N (H8 n1 s1) o1 (H8 n2 s2) o2 K=K (Fd (At n1 s1*At n2 s2)):=by
 have B:(An (val s1.l*val s2.l)).length<=s1.l.length+s2.l.length:=Ch (by rw[Ais];exact Ait (A6 k) (A6 v))
 rw[cE];unfold ib
 rw[Py,Py,M6,M6,x_ rfl rfl k v A,Aam,F8 rfl (Ad _) (A.le B),Aj]
 have C:At n1 s1*At n2 s2=if (!(n1==n2))then -((val s1.l*val s2.l:Nat):Int)else((val s1.l*val s2.l:Nat):Int):=by
  unfold At;cases n1<;>cases n2<;>simp[Aom,Int.neg_mul]
 rw[<-C];exact VG _ _
def uT{N:Nat}{n1 n2:Bool}{s1 s2:LS}{o1 o2:Bool}{K:LA->O R}(C:Ai s1.l)(D:Ai s2.l)(k:fit (s1.l.length+s2.l.length+1) N):Y4 N (H8 n1 s1) o1 (H8 n2 s2) o2 K=K (Fd (At n1 s1+At n2 s2)):=by
 have v1:=A6 C
 have v2:=A6 D
 have G:=F7 (show s1.l.length<=s1.l.length+s2.l.length by omega)
 have I:=F7 (show s2.l.length<=s1.l.length+s2.l.length by omega)
 rw[cA];unfold iZ
 rw[Py,Py]
 by_cases hn:n1=n2
 ·subst hn
  have v:(An (val s1.l+val s2.l)).length<=s1.l.length+s2.l.length+1:=Ch (by rw[Ahw];omega)
  have A:At n1 s1+At n1 s2=if n1 then -((val s1.l+val s2.l:Nat):Int)else((val s1.l+val s2.l:Nat):Int):=by
   unfold At;cases n1<;>simp;omega
  rw[show(n1==n1)=true by simp,ct,Py,M6,M6,YY rfl rfl C D k,Aam,F8 rfl (Ad _) (k.le v),Aj,<-A];exact VG _ _
 ·rw[show(n1==n2)=false by simp[hn],cf,M6,M6,YZ rfl rfl C D (k.le (by omega))]
  by_cases B:val s2.l<=val s1.l
  ·have v:(An (val s1.l - val s2.l)).length<=s1.l.length+s2.l.length+1:=Ch (by rw[Ahw];omega)
   have A:At n1 s1+At n2 s2=if n1 then -((val s1.l - val s2.l:Nat):Int)else((val s1.l - val s2.l:Nat):Int):=by
    unfold At;cases n1<;>cases n2<;>simp at hn ⊢<;>omega
   rw[if_pos B,ct,Py,Aam,F8 rfl (Ad _) (k.le v),Aj,<-A];exact VG _ _
  ·have v:(An (val s2.l - val s1.l)).length<=s1.l.length+s2.l.length+1:=Ch (by rw[Ahw];omega)
   have A:At n1 s1+At n2 s2=if n2 then -((val s2.l - val s1.l:Nat):Int)else((val s2.l - val s1.l:Nat):Int):=by
    unfold At;cases n1<;>cases n2<;>simp at hn ⊢<;>omega
   rw[if_neg B,cf,M6,M6,YZ rfl rfl D C (k.le (by omega)),if_pos (by omega),Py,Aam,F8 rfl (Ad _) (k.le v),Aj,<-A];exact VG _ _
def xj{N:Nat}{n1 n2:Bool}{s1 s2:LS}{o1 o2:Bool}{K:LA->O R}(k:Ai s1.l)(v:Ai s2.l)(A:fit (3*(s1.l.length+s2.l.length)+4) N):ei N (H8 n1 s1) o1 (H8 n2 s2) o2 K=K (Fd ((Nat.gcd (At n1 s1).natAbs (At n2 s2).natAbs:Nat):Int)):=by
 have B:(An (Nat.gcd (val s1.l) (val s2.l))).length<=s1.l.length+s2.l.length:=by
  rcases Aib (val s1.l)with h|h
  ·rw[h,Nat.gcd_zero_left];have:=(A9 v).2;omega
  ·have:=Bh (Nat.gcd_le_left (val s2.l) h);have:=(A9 k).2;omega
 rw[b_];unfold iY
 rw[M6,M6,xc rfl rfl k v A,Aam,F8 rfl (Ad _) (A.le (by omega)),Aj,B8,B8];exact VG _ _
def KT{N:Nat}{n1:Bool}{s1:LS}{g:Nat}{o1 o2:Bool}{K:LA->LA->Bool->O R}(A:Ai s1.l)(C:0<g)(B:g∣val s1.l)(v:fit (s1.l.length+2*(An g).length+4) N):Xm N (H8 n1 s1) o1 (Fd (g:Int)) o2 K=K (Fd (At n1 s1/(g:Int))) (Fd 0) true:=by
 have k:Fd (g:Int)=H8 false (.of (An g) false false):=by
  unfold Fd;rw[decide_eq_false (by omega),Ah5]
 have hq:(An (val s1.l/g)).length<=s1.l.length:=Aje (Bh (Ajg _ _)) (A9 A).2
 rw[k,KR];unfold KQ
 rw[M6,M6,show(LS.of (An g) false false).l=An g by rfl]
 rw[FE rfl rfl A (Ad _) (by rw[Aj];omega) v,Aj,Nat.mod_eq_zero_of_dvd B,show(!true)=false by rfl,cf,Py,Py,Aam,F8 rfl (Ad _) (v.le (by omega)),Py,Aam,F8 rfl (Ad _) (v.le (by simp[Dd])),Aj,Aj]
 have D:(if n1=true then -((0:Nat):Int)else((0:Nat):Int))=0:=by cases n1<;>rfl
 have e1:(if (!(n1==false))=true then -((val s1.l/g:Nat):Int)else((val s1.l/g:Nat):Int))=At n1 s1/(g:Int):=by
  obtain⟨c,k⟩:=B
  have G:val s1.l/g=c:=by rw[k,Am5 _ C]
  rw[G];unfold At;rw[k]
  cases n1
  ·simp;rw[Akr _ (by omega)]
  ·simp only[Bool.true_beq,Ajn,if_true]
   rw[show -((g*c:Nat):Int)=(g:Int)*(-(c:Int)) by rw[Aom];simp,Akr _ (by omega)]
 rw[D,e1]
 generalize At n1 s1/(g:Int)=q
 have r0:∀(f:Bool->O R),X2 (Fd 0) f=f false:=fun f=>Py
 rw[show((beq 0 0)&&((beq (List.length (Fd q)) 2)&&(beq 2 2)))=true by rfl,ct,show((beq 0 0)&&((beq (List.length (Fd 0)) 2)&&(beq 2 2)))=true by rfl,ct,r0,cf]
 rfl
def en(q:Rat):RatD:=⟨decide (q.num<0),.of (An q.num.natAbs) false false,.of (An q.den) false false⟩
def cq(q:Rat):LA:=(en q).av
def eo(q:Rat):(en q).can q:=⟨rfl,rfl,rfl⟩
def Ack(q:Rat):(en q).q=q:=(eo q).q
def zY(q:Rat):(en q).ok:=(eo q).ok
def Acl(q:Rat):(en q).m=qm q:=(eo q).m
def PH(q:Rat)(K:LA->O R):(cond ((beq 0 0)&&((beq (List.length (cq q)) 3)&&(beq 3 3))) (cond (ble 3 (List.length (cq q))) (K (take 3 (cq q))) none) none)=K (cq q):=rfl
def m_(q:Rat):ble 2 (List.length (cq q))=true:=rfl
def ZC(q:Rat):take 2 (cq q)=Fd q.num:=rfl
def Aa8:cq 0=[.bool false,.imm [] 0 1 false false,.imm [.int .u32 1] 1 1 false false]:=by
 have e:cq 0=[.bool false,.imm (Ac (An 0)) (An 0).length 1 false false,.imm (Ac (An 1)) (An 1).length 1 false false]:=rfl
 rw[e,Vt];rfl
def jF{N:Nat}{K:LA->O R}:KB N K=K (cq 0):=by
 rw[UG];unfold YJ
 rw[Aa8]
def Afm{N:Nat}{z:Int}{o:Bool}{K:LA->O R}(k:fit (An z.natAbs).length N):Y5 N (Fd z) o K=K (Fd (-z)):=by
 have:=xi (R:=R) (N:=N) (n:=decide (z<0)) (s:=.of (An z.natAbs) false false) (o:=o) (K:=K) (Ad _) k
 rw[Hv]at this;exact this
def Aej{N:Nat}{z:Int}{o:Bool}{K:Int->O R}(k:fit (An z.natAbs).length N):BR N (Fd z) o K=K z.sign:=by
 have:=jE (R:=R) (N:=N) (n:=decide (z<0)) (s:=.of (An z.natAbs) false false) (o:=o) (K:=K) (Ad _) k
 rw[Hv]at this;exact this
def zZ{N:Nat}{z w:Int}{o o':Bool}{K:LA->O R}(k:fit ((An z.natAbs).length+(An w.natAbs).length) N):Vr N (Fd z) o (Fd w) o' K=K (Fd (z*w)):=by
 have:=uS (R:=R) (N:=N) (n1:=decide (z<0)) (s1:=.of (An z.natAbs) false false) (n2:=decide (w<0)) (s2:=.of (An w.natAbs) false false) (o1:=o) (o2:=o') (K:=K) (Ad _) (Ad _) k
 rw[Hv,Hv]at this;exact this
def Afn{N:Nat}{z w:Int}{o o':Bool}{K:LA->O R}(k:fit ((An z.natAbs).length+(An w.natAbs).length+1) N):Y4 N (Fd z) o (Fd w) o' K=K (Fd (z+w)):=by
 have:=uT (R:=R) (N:=N) (n1:=decide (z<0)) (s1:=.of (An z.natAbs) false false) (n2:=decide (w<0)) (s2:=.of (An w.natAbs) false false) (o1:=o) (o2:=o') (K:=K) (Ad _) (Ad _) k
 rw[Hv,Hv]at this;exact this
def pW(z:Int):mkRat z 1=(z:Rat):=by
 apply Rat.ext
 ·rw[An0,if_neg (by decide),Nat.gcd_one_left];simp
 ·rw[Anx,if_neg (by decide),Nat.gcd_one_left];simp
def Aa9(z:Int)(w:Nat)(k:w≠0):(mkRat z w).num=z/((Nat.gcd z.natAbs w:Nat):Int)/\(mkRat z w).den=w/Nat.gcd z.natAbs w:=by
 refine⟨?_,?_⟩
 ·rw[An0,if_neg k,Ai7 w]
 ·rw[Anx,if_neg k,Ai7 w]
def cN{N:Nat}{n1 n2:Bool}{s1 s2:LS}{o1 o2:Bool}{K:LA->O R}(G:Ai s1.l)(B:Ai s2.l)(hpos:0<=At n2 s2)(v:fit (4*(s1.l.length+s2.l.length)+10) N):Ls N (H8 n1 s1) o1 (H8 n2 s2) o2 K=K (cq (mkRat (At n1 s1) (At n2 s2).natAbs)):=by
 have A:=B8 n2 s2
 have C:=B8 n1 s1
 rw[UZ];unfold MW
 rw[RI,ct,kc,jE B (v.le (by omega))]
 by_cases h0:At n2 s2=0
 ·rw[h0,show((0:Int).sign==0)=true by rfl,ct,jF]
  rw[show(0:Int).natAbs=0 by rfl,Rat.mkRat_zero];exact PH _ _
 ·have hw:(At n2 s2).natAbs≠0:=by omega
  have I:((At n2 s2).sign==0)=false:=by rw[Ai4 (by omega)];rfl
  rw[I,cf,ct,RL B (v.le (by omega)),show((beq 0 0)&&((beq (List.length (Fd (At n2 s2))) 2)&&(beq 2 2)))=true by rfl,ct]
  have rb:∀(z:Int)(f:Bool->O R),X2 (Fd z) f=f (decide (z<0)):=fun z f=>Py
  have rl:∀(z:Int)(f:LA->Nat->O R),Bv 1 (drop 1 (Fd z)) f=f (Ac (An z.natAbs)) (An z.natAbs).length:=fun z f=>M6
  have l2:=(A9 B).2
  have l1:=(A9 G).2
  rw[rb,decide_eq_false (by omega),show((!false)==true)=true by rfl,ct,rl,zV,zQ (a:=An (At n2 s2).natAbs) (b:=[1]) (m:=1) rfl rfl (v.le (by rw[A];omega)),rP]
  by_cases k:(At n2 s2).natAbs=1
  ·rw[k,Vt,show decide (([1]:List Nat)=[1])=true by decide,ct,RI,ct,kc,RL G (v.le (by omega)),rl,k,Vt]
   rw[pW]
   have e2:cq ((At n1 s1:Int):Rat)=[.bool (decide (At n1 s1<0)),.imm (Ac (An (At n1 s1).natAbs)) (An (At n1 s1).natAbs).length 1 false false,.imm (Ac [1]) 1 1 false false]:=by
    unfold cq en RatD.av LS.av
    rw[Rat.num_intCast,Rat.den_intCast,Vt];rfl
   rw[e2];rfl
  ·have L:decide (An (At n2 s2).natAbs=[1])=false:=by
    rw[decide_eq_false_iff_not];intro hh
    have:=congrArg val hh
    rw[Aj]at this;simp[val]at this;omega
   rw[L,cf]
   unfold Y6
   have D:0<Nat.gcd (At n1 s1).natAbs (At n2 s2).natAbs:=Aks _ (by omega)
   have hgl:(An (Nat.gcd (At n1 s1).natAbs (At n2 s2).natAbs)).length<=s2.l.length:=Aje (Bh (Nat.gcd_le_right _ (by omega))) (by rw[A];exact l2)
   have T:Nat.gcd (At n1 s1).natAbs (At n2 s2).natAbs∣val s1.l:=by rw[<-C];exact Aj5 _ _
   have V:Nat.gcd (At n1 s1).natAbs (At n2 s2).natAbs∣val s2.l:=by rw[<-A];exact Ak2 _ _
   obtain⟨q1,q2⟩:=Aa9 (At n1 s1) (At n2 s2).natAbs hw
   rw[RI,ct,RI,ct,kc,kc,xj G B (v.le (by omega))]
   generalize hgd:Nat.gcd (At n1 s1).natAbs (At n2 s2).natAbs=g at *
   rw[show((beq 0 0)&&((beq (List.length (Fd (g:Int))) 2)&&(beq 2 2)))=true by rfl,ct,ct,show ble 2 (List.length (Fd (g:Int)))=true by rfl,ct,Ag4,KT G D T (v.le (by omega))]
   rw[show ∀ z:Int,((beq 0 0)&&((beq (List.length (Fd z)) 2)&&(beq 2 2)))=true from fun z=>rfl,ct,show((beq 0 0)&&((beq (List.length (Fd 0)) 2)&&(beq 2 2)))=true by rfl,ct,ct,KT B D V (v.le (by omega))]
   have Y:At n2 s2/(g:Int)=(((At n2 s2).natAbs/g:Nat):Int):=by
    rw[show At n2 s2=(((At n2 s2).natAbs:Nat):Int) by omega];rfl
   rw[show ∀ z:Int,((beq 0 0)&&((beq (List.length (Fd z)) 2)&&(beq 2 2)))=true from fun z=>rfl,ct,ct,rb,Y,decide_eq_false (by omega),cf,show ∀ z:Int,ble 2 (List.length (Fd z))=true from fun z=>rfl,ct,rl,Ah5,<-q2]
   rw[<-q1];rfl
def sO{N:Nat}{z w:Int}{o o':Bool}{K:LA->O R}(k:0<=w)(v:fit (4*((An z.natAbs).length+(An w.natAbs).length)+10) N):Ls N (Fd z) o (Fd w) o' K=K (cq (mkRat z w.natAbs)):=by
 have:=cN (R:=R) (N:=N) (n1:=decide (z<0)) (s1:=.of (An z.natAbs) false false) (n2:=decide (w<0)) (s2:=.of (An w.natAbs) false false) (o1:=o) (o2:=o') (K:=K) (Ad _) (Ad _) (by rw[Hv];exact k) v
 rw[Hv,Hv]at this;exact this
def G9{N:Nat}{x:RatD}{o:Bool}{K:LA->O R}(k:x.ok)(v:fit (8*x.m+10) N):J6 N x.av o K=K (cq x.q):=by
 have m1:x.ns.l.length<=x.m:=Akl _ _
 have m2:x.ds.l.length<=x.m:=Akw _ _
 rw[U_];unfold YU
 rw[show ble 2 (List.length x.av)=true by rfl,ct,eQ,Acj,xh,cN (s2:=.of x.ds.l false o) k.1 k.2 (by unfold At;simp) (v.le (show 4*(x.ns.l.length+x.ds.l.length)+10<=_ by omega))]
 have:mkRat (At x.neg x.ns) (At false (.of x.ds.l false o)).natAbs=x.q:=by rw[B8];rfl
 rw[this];exact PH _ _
def Ro{N:Nat}{x:RatD}{o:Bool}{K:LA->O R}(k:x.ok)(v:fit (8*x.m+10) N):S6 N x.av o K=K (Fd (x.q.den:Int)):=by
 rw[cF];unfold ig
 rw[H9,ct,Dl,G9 k v]
 have:=eQ (R:=R) (x:=en x.q) (f:=fun e f=>K [.bool false,.imm e f 1 false false])
 refine this.trans ?_
 unfold Fd;rw[decide_eq_false (by omega),Ah5];rfl
def PI(x:RatD)(k:x.ok):qm x.q<=x.m+1:=by
 have m1:x.ns.l.length<=x.m:=Akl _ _
 have m2:x.ds.l.length<=x.m:=Akw _ _
 unfold qm
 by_cases h:val x.ds.l=0
 ·have:x.q=0:=by unfold RatD.q;rw[h,Rat.mkRat_zero]
  rw[this,Rat.zero_num,Rat.zero_den,Vt];simp[Dd]
 ·obtain⟨a1,_,a3⟩:=jD (At x.neg x.ns) (val x.ds.l) h
  have v:x.q.num.natAbs<=val x.ns.l:=by show(mkRat _ _).num.natAbs<=_;rw[a1,B8];exact Ajg _ _
  have A:x.q.den<=val x.ds.l:=by show(mkRat _ _).den<=_;rw[a3];exact Ajg _ _
  have c1:=Aje (Bh v) (A9 k.1).2
  have B:=Aje (Bh A) (A9 k.2).2
  omega
def v8(z:Int)(d:Nat)(k:Nat)(v:z.natAbs<4294967296 ^ k)(A:d<4294967296 ^ k)(B:d≠0):qm (mkRat z d)<=k:=by
 obtain⟨a1,_,a3⟩:=jD z d B
 unfold qm
 have C:(mkRat z d).num.natAbs<=z.natAbs:=by rw[a1];exact Ajg _ _
 have D:(mkRat z d).den<=d:=by rw[a3];exact Ajg _ _
 have c1:=Ch (Aik C v)
 have G:=Ch (Aik D A)
 omega
def KU(q:Rat):q.num.natAbs<4294967296 ^ qm q:=zX (Akl _ _)
def Z5(q:Rat):q.den<4294967296 ^ qm q:=zX (Akw _ _)
def Rp(a b:Rat):qm (a+b)<=qm a+qm b+1:=by
 rw[Rat.add_def']
 have da:(a.den:Int).natAbs<4294967296 ^ qm a:=by rw[Ah5];exact Z5 a
 have db:(b.den:Int).natAbs<4294967296 ^ qm b:=by rw[Ah5];exact Z5 b
 refine v8 _ _ _ ?_ ?_ (Ama a.den_nz b.den_nz)
 ·refine VF (H6 (KU a) db) ?_
  have:=H6 (KU b) da
  rwa [Ako (qm b)]at this
 ·rw[Ahw,Ais]
  have:=Ait (Z5 a) (Z5 b)
  omega
def Kj(a b:Rat):qm (a*b)<=qm a+qm b:=by
 rw[Rat.mul_def']
 refine v8 _ _ _ (H6 (KU a) (KU b)) ?_ (Ama a.den_nz b.den_nz)
 rw[Ais];exact Ait (Z5 a) (Z5 b)
def pX(a:Rat):qm (-a)=qm a:=by unfold qm;rw[Rat.neg_num,Rat.neg_den,Int.natAbs_neg]
def T5(a b:Rat):qm (a - b)<=qm a+qm b+1:=by rw[Alo,<-pX b];exact Rp _ _
def Adh{v:Int}(h:v.natAbs<18446744073709551616):qm (v:Rat)<=2:=by
 unfold qm;rw[Rat.num_intCast,Rat.den_intCast,Vt]
 have:=Vp h
 simp;omega
def Ag5{a:Int}{b:Nat}:mkRat a (b:Int).natAbs=mkRat a b:=by rw[Ah5]
def uU{N:Nat}{x:RatD}{o:Bool}{K:LA->O R}(v:x.ok)(k:fit (16*x.m+40) N):ek N x.av o K=K (cq (-x.q)):=by
 have hq:=PI x v
 have A:(An x.q.num.natAbs).length<=qm x.q:=Akl _ _
 have B:(An x.q.den).length<=qm x.q:=Akw _ _
 rw[cI];unfold ik
 rw[H9,ct,Dl,G9 v (k.le (by omega)),m_,ct,ZC,Afm (k.le (show(An x.q.num.natAbs).length<=_ by omega)),ct,Ro v (k.le (by omega)),sO (by omega) (k.le (show 4*((An (-x.q.num).natAbs).length+(An (x.q.den:Int).natAbs).length)+10<=_ by rw[Int.natAbs_neg,Ah5];omega)),Ag5]
 have:mkRat (-x.q.num) x.q.den=-x.q:=by rw[<-Rat.neg_mkRat,Rat.mkRat_self]
 rw[this];exact PH _ _
def jG{N:Nat}{x y:RatD}{o o':Bool}{K:LA->O R}(A:x.ok)(B:y.ok)(v:fit (16*(x.m+y.m)+80) N):Vs N x.av o y.av o' K=K (cq (x.q+y.q)):=by
 have C:=PI x A
 have D:=PI y B
 have x1:=KU x.q
 have x2:(x.q.den:Int).natAbs<4294967296 ^ qm x.q:=by rw[Ah5];exact Z5 _
 have y1:=KU y.q
 have y2:(y.q.den:Int).natAbs<4294967296 ^ qm y.q:=by rw[Ah5];exact Z5 _
 have L1:=Ch x1
 have L2:=Ch x2
 have L3:=Ch y1
 have L4:=Ch y2
 have z1:=H6 x1 y2
 have z2:=H6 y1 x2
 have z3:=VF (k:=qm x.q+qm y.q) z1 (by rwa [Ako])
 have z4:=H6 x2 y2
 have M1:=Ch z1
 have M2:=Ch z2
 have M3:=Ch z3
 have M4:=Ch z4
 rw[cH];unfold ij
 rw[H9,ct,Dl,G9 A (v.le (by omega)),H9,ct,Dl,G9 B (v.le (by omega)),show ∀ q,((beq 0 0)&&((beq (List.length (cq q)) 3)&&(beq 3 3)))=true from fun q=>rfl,ct,show ∀ q,((beq 0 0)&&((beq (List.length (cq q)) 3)&&(beq 3 3)))=true from fun q=>rfl,ct,m_,ct,ct,Ro B (v.le (by omega)),ZC,zZ (v.le (show(An x.q.num.natAbs).length+(An (y.q.den:Int).natAbs).length<=_ by omega)),m_,ct,ct,Ro A (v.le (by omega)),ZC,zZ (v.le (show(An y.q.num.natAbs).length+(An (x.q.den:Int).natAbs).length<=_ by omega)),Afn (v.le (show(An (x.q.num*(y.q.den:Int)).natAbs).length+(An (y.q.num*(x.q.den:Int)).natAbs).length+1<=_ by omega)),ct,Ro A (v.le (by omega)),ct,Ro B (v.le (by omega)),zZ (v.le (show(An (x.q.den:Int).natAbs).length+(An (y.q.den:Int).natAbs).length<=_ by omega)),sO (Amm (by omega) (by omega)) (v.le (show 4*((An (x.q.num*(y.q.den:Int)+y.q.num*(x.q.den:Int)).natAbs).length+(An ((x.q.den:Int)*(y.q.den:Int)).natAbs).length)+10<=_ by omega))]
 have:mkRat (x.q.num*(y.q.den:Int)+y.q.num*(x.q.den:Int)) ((x.q.den:Int)*(y.q.den:Int)).natAbs=x.q+y.q:=by
  rw[Rat.add_def',Ajw,Ah5,Ah5]
 rw[this];exact PH _ _
def jH{N:Nat}{x y:RatD}{o o':Bool}{K:LA->O R}(A:x.ok)(k:y.ok)(v:fit (16*(x.m+y.m)+100) N):Za N x.av o y.av o' K=K (cq (x.q - y.q)):=by
 have B:=PI y k
 rw[cJ];unfold io
 rw[H9,ct,H9,ct,Dl,Dl,uU k (v.le (by omega))]
 have:=jG (R:=R) (N:=N) (x:=x) (y:=en (-y.q)) (o:=o) (o':=false) (K:=fun e=>cond ((beq 0 0)&&((beq (List.length e) 3)&&(beq 3 3))) (cond (ble 3 (List.length e)) (K (take 3 e)) none) none) A (zY _) (v.le (by rw[Acl,pX];omega))
 rw[Ack,<-Alo]at this
 exact this.trans (PH _ _)
def cO{N:Nat}{x:RatD}{o:Bool}{K:Int->O R}(k:x.ok)(v:fit (8*x.m+10) N):KS N x.av o K=K x.q.num.sign:=by
 have hq:=PI x k
 have A:(An x.q.num.natAbs).length<=qm x.q:=Akl _ _
 rw[VA];unfold YV
 rw[H9,ct,Dl,G9 k v,m_,ct,ZC,Aej (v.le (show(An x.q.num.natAbs).length<=_ by omega))]
def z6(a b:Rat):(a - b).num.sign=Z4 a b:=by
 unfold Z4
 by_cases h:a<b
 ·rw[if_pos h]
  have k:a - b<0:=by grind
  have:(a - b).num<0:=by
   apply Int.not_le.1;intro v
   exact absurd (Anp.1 v) (Amp.2 k)
  exact Aii this
 ·rw[if_neg h]
  by_cases v:b<a
  ·rw[if_pos v]
   have k:0<a - b:=by grind
   have B:0<=(a - b).num:=Anp.2 (Amj k)
   have C:(a - b).num≠0:=fun A=>by
    have:=Ali.1 A
    rw[this]at k;exact absurd k Rat.lt_irrefl
   exact Ai4 (by omega)
  ·rw[if_neg v]
   have:a=b:=Alh (Amq.1 v) (Amq.1 h)
   rw[this,Alx];rfl
def KV{N:Nat}{x y:RatD}{o o':Bool}{K:Int->O R}(k:x.ok)(v:y.ok)(A:fit (16*(x.m+y.m)+100) N):G8 N x.av o y.av o' K=K (Z4 x.q y.q):=by
 have B:=PI x k
 have C:=PI y v
 have hs:=T5 x.q y.q
 rw[GX];unfold FD
 rw[H9,ct,H9,ct,Dl,Dl,jH k v A]
 have:=cO (R:=R) (N:=N) (x:=en (x.q - y.q)) (o:=false) (K:=fun g=>K g) (zY _) (A.le (by rw[Acl];omega))
 rw[Ack,z6]at this
 exact this
def uV{N:Nat}{x y:RatD}{o o':Bool}{K:LA->O R}(v:x.ok)(A:y.ok)(k:fit (16*(x.m+y.m)+80) N):Y9 N x.av o y.av o' K=K (cq (x.q*y.q)):=by
 have B:=PI x v
 have C:=PI y A
 have x1:=KU x.q
 have x2:(x.q.den:Int).natAbs<4294967296 ^ qm x.q:=by rw[Ah5];exact Z5 _
 have y1:=KU y.q
 have y2:(y.q.den:Int).natAbs<4294967296 ^ qm y.q:=by rw[Ah5];exact Z5 _
 have L1:=Ch x1
 have L2:=Ch x2
 have L3:=Ch y1
 have L4:=Ch y2
 have M1:=Ch (H6 x1 y1)
 have M4:=Ch (H6 x2 y2)
 rw[cG];unfold ii
 rw[H9,ct,Dl,G9 v (k.le (by omega)),m_,ct,H9,ct,Dl,G9 A (k.le (by omega)),m_,ct,ZC,ZC,zZ (k.le (show(An x.q.num.natAbs).length+(An y.q.num.natAbs).length<=_ by omega)),ct,Ro v (k.le (by omega)),ct,Ro A (k.le (by omega)),zZ (k.le (show(An (x.q.den:Int).natAbs).length+(An (y.q.den:Int).natAbs).length<=_ by omega)),sO (Amm (by omega) (by omega)) (k.le (show 4*((An (x.q.num*y.q.num).natAbs).length+(An ((x.q.den:Int)*(y.q.den:Int)).natAbs).length)+10<=_ by omega))]
 have:mkRat (x.q.num*y.q.num) ((x.q.den:Int)*(y.q.den:Int)).natAbs=x.q*y.q:=by
  rw[Rat.mul_def',Ajw,Ah5,Ah5]
 rw[this];exact PH _ _
def jI{N:Nat}{v:Int}{K:LA->O R}(k:-9223372036854775808<=v/\v<=9223372036854775807)(hN:4000<=N):D2 N v K=K (cq (v:Rat)):=by
 have A:=Vp (show v.natAbs<18446744073709551616 by omega)
 rw[GW];unfold FC
 rw[S7 k (by omega),S7 (by omega) (by omega),sO (by omega) ⟨show 100*(4*((An v.natAbs).length+(An (1:Int).natAbs).length)+10)+1000<=N by(rw[show(1:Int).natAbs=1 by rfl,Vt];simp;omega),show 4*((An v.natAbs).length+(An (1:Int).natAbs).length)+10<=1000000000 by(rw[show(1:Int).natAbs=1 by rfl,Vt];simp;omega)⟩]
 have:mkRat v (1:Int).natAbs=(v:Rat):=pW v
 rw[this];exact PH _ _
def sP{N:Nat}{v w:Int}{K:LA->O R}(k:-9223372036854775808<=v/\v<=9223372036854775807)(B:0<=w/\w<=9223372036854775807)(hN:4000<=N):iz N v w K=K (cq (mkRat v w.natAbs)):=by
 have C:=Vp (show v.natAbs<18446744073709551616 by omega)
 have A:=Vp (show w.natAbs<18446744073709551616 by omega)
 rw[jA];unfold pU
 rw[S7 k (by omega),S7 (by omega) (by omega),sO (by omega) ⟨show 100*(4*((An v.natAbs).length+(An w.natAbs).length)+10)+1000<=N by omega,show 4*((An v.natAbs).length+(An w.natAbs).length)+10<=1000000000 by omega⟩]
 exact PH _ _
def uW{N:Nat}{x y:RatD}{o o':Bool}{K:LA->O R}(v:x.ok)(A:y.ok)(k:fit (16*(x.m+y.m)+100) N):VD N x.av o y.av o' K=K (cq (if x.q<=y.q then x.q else y.q)):=by
 rw[cM];unfold iq
 rw[H9,ct,H9,ct,Dl,Dl,KV v A k]
 by_cases h:x.q<=y.q
 ·rw[decide_eq_true (pV.2 h),ct,ct,G9 v (k.le (by omega)),if_pos h];exact PH _ _
 ·rw[decide_eq_false (fun B=>h (pV.1 B)),cf,ct,G9 A (k.le (by omega)),if_neg h];exact PH _ _
end
end Gx
namespace Go.Proofs
open Go.Shelf
open Go.RowKit Go.Lib Go.Sort
def Tryz.lays189_ren : Go.Shelf.Ren := ⟨fun|189 => 125|125 => 179|257 => 178|128 => 223|129 => 224|294 => 215|295 => 216|296 => 217|297 => 218|298 => 219|299 => 220|216 => 187|300 => 221|301 => 222|328 => 236|329 => 237|330 => 238|331 => 239|332 => 240|215 => 175|343 => 249|n => n, fun|28 => 22|3 => 3|46 => 241|0 => 0|51 => 129|53 => 202|4 => 4|183 => 263|182 => 262|131 => 195|5 => 5|9 => 9|218 => 282|222 => 286|228 => 292|229 => 174|n => n, fun|n => n⟩
def Tryz.lays189 : Go.Proofs.Lays.n189 Tryz.prog Tryz.lays189_ren := {
  mixed := by kernel_rfl
  f125 := Tryz.func179.trans (congrArg some (by kernel_rfl))
  f128 := Tryz.func223.trans (congrArg some (by kernel_rfl))
  f129 := Tryz.func224.trans (congrArg some (by kernel_rfl))
  f189 := Tryz.func125.trans (congrArg some (by kernel_rfl))
  f215 := Tryz.func175.trans (congrArg some (by kernel_rfl))
  f216 := Tryz.func187.trans (congrArg some (by kernel_rfl))
  f257 := Tryz.func178.trans (congrArg some (by kernel_rfl))
  f294 := Tryz.func215.trans (congrArg some (by kernel_rfl))
  f295 := Tryz.func216.trans (congrArg some (by kernel_rfl))
  f296 := Tryz.func217.trans (congrArg some (by kernel_rfl))
  f297 := Tryz.func218.trans (congrArg some (by kernel_rfl))
  f298 := Tryz.func219.trans (congrArg some (by kernel_rfl))
  f299 := Tryz.func220.trans (congrArg some (by kernel_rfl))
  f300 := Tryz.func221.trans (congrArg some (by kernel_rfl))
  f301 := Tryz.func222.trans (congrArg some (by kernel_rfl))
  f328 := Tryz.func236.trans (congrArg some (by kernel_rfl))
  f329 := Tryz.func237.trans (congrArg some (by kernel_rfl))
  f330 := Tryz.func238.trans (congrArg some (by kernel_rfl))
  f331 := Tryz.func239.trans (congrArg some (by kernel_rfl))
  f332 := Tryz.func240.trans (congrArg some (by kernel_rfl))
  f343 := Tryz.func249.trans (congrArg some (by kernel_rfl))
  t0 := Tryz.underlying0
  a0 := Tryz.isAgg0
  z0 := Tryz.sizeOf0
  v0 := Tryz.zeroValue0
  t3 := Tryz.underlying3
  a3 := Tryz.isAgg3
  z3 := Tryz.sizeOf3
  v3 := Tryz.zeroValue3
  t4 := Tryz.underlying4
  a4 := Tryz.isAgg4
  z4 := Tryz.sizeOf4
  v4 := Tryz.zeroValue4
  t5 := Tryz.underlying5
  a5 := Tryz.isAgg5
  z5 := Tryz.sizeOf5
  v5 := Tryz.zeroValue5
  t9 := Tryz.underlying9
  a9 := Tryz.isAgg9
  z9 := Tryz.sizeOf9
  v9 := Tryz.zeroValue9
  t28 := Tryz.underlying22
  a28 := Tryz.isAgg22
  z28 := Tryz.sizeOf22
  v28 := Tryz.zeroValue22
  t46 := Tryz.underlying241
  a46 := Tryz.isAgg241
  z46 := Tryz.sizeOf241
  v46 := Tryz.zeroValue241
  t51 := Tryz.underlying129
  a51 := Tryz.isAgg129
  z51 := Tryz.sizeOf129
  v51 := Tryz.zeroValue129
  t53 := Tryz.underlying202
  a53 := Tryz.isAgg202
  z53 := Tryz.sizeOf202
  v53 := Tryz.zeroValue202
  t131 := Tryz.underlying195
  a131 := Tryz.isAgg195
  z131 := Tryz.sizeOf195
  v131 := Tryz.zeroValue195
  t182 := Tryz.underlying262
  a182 := Tryz.isAgg262
  z182 := Tryz.sizeOf262
  v182 := Tryz.zeroValue262
  t183 := Tryz.underlying263
  a183 := Tryz.isAgg263
  z183 := Tryz.sizeOf263
  v183 := Tryz.zeroValue263
  t218 := Tryz.underlying282
  a218 := Tryz.isAgg282
  z218 := Tryz.sizeOf282
  v218 := Tryz.zeroValue282
  t222 := Tryz.underlying286
  a222 := Tryz.isAgg286
  z222 := Tryz.sizeOf286
  v222 := Tryz.zeroValue286
  t228 := Tryz.underlying292
  a228 := Tryz.isAgg292
  z228 := Tryz.sizeOf292
  v228 := Tryz.zeroValue292
  t229 := Tryz.underlying174
  a229 := Tryz.isAgg174
  z229 := Tryz.sizeOf174
  v229 := Tryz.zeroValue174 }
open Go.Sort Go.RowKit in
def Tryz.slices_Sort_int(blk off cap : Nat)(zs : List Int)(w : World)(hH : Holds (Value.int .i64) w blk off zs.toArray)(hblk : blk < w.heap.size)(hsz : zs.length < 4611686018427387904):
    Calls Tryz.prog 125 #[.slice (some ⟨blk, off, none⟩) zs.length cap] w fun e w' =>
      e = .returned (.tuple #[]) /\ ∃ n os, w' = grow (putRow (Value.int .i64) (Sort.ahead w n) blk off (zs.mergeSort fun x y => decide (x <= y)).toArray) os := Any.slices_Sort_int Tryz.lays189 blk off cap zs w hH hblk hsz
end Go.Proofs
namespace Gx
open Go
section
variable{J:Bool->Nat->Prop}{β:Bx}{h:Aw}{w w':World}
def Step.junk(S:SimH J β h w)(T:w'.os=w.os)(V:w'.tape=w.tape)(Y:w'.output=w.output)(hs:w.heap.size<=w'.heap.size)(B:∀ k,k<w.heap.size->w'.heap[k]?=w.heap[k]?):Step J β h w J β h w':=by
 have hz:∀ k,Ay w k<=Ay w' k:=fun k=>by
  by_cases G:k<w.heap.size
  ·simp[Ay,B k G]
  ·simp[Ay,Ajc (Aju G)]
 have E:Ext J β h w J β h w':=⟨fun _ _ v=>v,fun o k v=>B k (S.jlt o k v),fun b x A=>⟨x,⟨A,rfl⟩,by cases C:x.dead<;>simp⟩,fun b k o _=>hz k⟩
 refine⟨E,⟨fun o k v=>Ah6 (S.jlt o k v) hs,S.jft,S.gl.ext E,fun b x A C D=>?_,fun b x A C D=>(S.mblk b x A C D).keep rfl (fun k o hβ=>B k (Qp S A C hβ)) (fun _ _ _ _ v=>v),S.sep⟩,T,V,Y,hs,fun k G _=>B k G,fun k D _=>D,fun _ _ v=>.inl v⟩
 rcases S.blk b x A C D with I|⟨k,o,cs,ty,fr,I,L,h3,h4,h5,h6⟩
 ·exact .inl I
 ·exact .inr ⟨k,o,cs,ty,fr,I,by rw[B k (Uz L)];exact L,h3,h4,h5.ext E,h6⟩
end
end Gx
namespace Gx
open Go Go.Proofs Go.RowKit
noncomputable section
variable{R:Type}(N:Nat)
def yH:AV->Int
|.int _ n=>n
|_=>0
def pY:AV->Bool
|.int .i64 n=>decide (-9223372036854775808<=n)&&decide (n<=9223372036854775807)
|_=>false
def Us(l:List Int):LA:=l.map fun n=>.int .i64 n
def KW(l:List Int):List Int:=l.mergeSort fun x y=>decide (x<=y)
def Ey(_N:Nat)(n:Nat)(c:LA)(r0:LA->O R):O R:=cond (ble 1 n&&(ble n 16777216&&(c.take n).all pY)) (r0 (Us (KW ((c.take n).map yH))++c.drop n)) none
def H7:=(Ak (@Ey R)).1
def Et:@H7 R=@Ey R:=(Ak _).2
def Di(a:LA)(h:Aw)(k:KF R):O R :=
 match a,h with
|[.own 100000 0 n],[(100000,⟨false,false,true,false,1,c,false,none⟩)]=>H7 N n c fun c'=>k (.tup []) [(100000,bQ 1 c')]
|_,_=>none
def Ut:Tw:=⟨fun {R} a h k=>@Di R N a h k,fun {R} a h k=>by
 unfold Di
 split
 ·rename_i n c
  rw[Et,Et];unfold Ey;cases (ble 1 n&&(ble n 16777216&&(c.take n).all pY))<;>rfl
 ·rfl⟩
end
def z7{x:AV}(h:pY x=true):∃ n,x=.int .i64 n/\-9223372036854775808<=n/\n<=9223372036854775807:=by
 unfold pY at h
 split at h
 ·simp at h;exact⟨_,rfl,h⟩
 ·cases h
def sQ:∀{c:LA},c.all pY=true->c=Us (c.map yH)
|[],_=>rfl
|x::r,h=>by
  simp only[Aji,Aho]at h
  obtain⟨n,rfl,v⟩:=z7 h.1
  have k:=sQ h.2
  simp only[Ah9,Us,yH];rw[show List.map (fun n=>AV.int IntKind.i64 n) (List.map yH r)=r from k.symm]
def FDone.of{J J':Bool->Nat->Prop}{β β':Bx}{h H:Aw}{w w':World}(A:Step J β h w J' β' H w')(D:∀ k,Ay w k<=Ay w' k)(G:∀ b x,Al H b=some x->x.dead=false):FDone ⟨J,β,h,w⟩ J' β' H w' :=
 ⟨A.sim,A.os,A.tape,A.output,A.size,A.frame,A.wr,A.ext.jsub,A.jup,D,fun b x0 x I C L=>by
  obtain⟨x',⟨B,T⟩,v⟩:=A.ext.blk b x0 I
  change Al H b=some x at C
  rw[C]at B;simp at B;subst B
  rcases v with v|⟨v,V,Y,h6⟩
  ·rw[L]at v;cases v
  ·exact⟨⟨V,T⟩,Y,fun _=>h6 (by first | rfl | assumption),v⟩,G⟩
def Uu(N:Nat):oC Tryz.prog 125 (Ut N):=by
 intro args h res h' hh0
 have hh:Di N args h (fun v h'=>some (v,h'))=some (res,h'):=hh0
 unfold Di at hh
 split at hh
 ·rename_i n c
  rw[Et,Ey]at hh
  obtain⟨h1,h2⟩:=uc hh
  simp only[Aho]at h1
  obtain⟨a4,a5,a6⟩:=h1
  have a4:=Al1 a4
  have a5:=Al1 a5
  have a7:=sQ a6
  simp only[Ajm,Anw]at h2
  obtain⟨rfl,rfl⟩:=h2
  intro J β w vs S hr
  obtain⟨u,rfl,e1⟩:=yk hr
  have hb:Al [(100000,(⟨false,false,true,false,1,c,false,none⟩:Blk))] 100000=some ⟨false,false,true,false,1,c,false,none⟩:=rfl
  rw[Rep]at e1
  obtain⟨x,A,cap,⟨D,_⟩,rfl,hcap,e1⟩:=e1
  rw[hb]at D;simp at D;subst D
  rcases e1 with e1|⟨k,o,rfl,e1⟩
  ·omega
  rcases e1 with e1|⟨hβ,g1,g2⟩
  ·cases e1
  rcases S.blk 100000 _ hb rfl rfl with⟨hz,_⟩|⟨k',o',cs,ty,fr,V,k1,G,k3,k4,k5,_⟩
  ·rw[hβ]at hz;cases hz
  rw[hβ]at V;simp at V;obtain⟨rfl,rfl⟩:=V
  have k3:o+c.length<=cs.size:=k3
  have g2:0+n*1<=c.length:=g2
  have k4':RepCs (J false) w c (fun j=>cs[o+j]?) 0:=k4.1 rfl
  generalize hzs:(c.take n).map yH=zs at *
  have hzl:zs.length=n:=by rw[<-hzs];simp;omega
  have hcz:∀(q:Nat) m,zs[q]?=some m->cs[o+q]?=some (.int .i64 m):=by
   intro q m hq
   have hql:=(Ahx.1 hq).1
   have h9:(c.take n)[q]?=some (.int .i64 m):=by rw[a7];unfold Us;rw[Akd,hq];rfl
   rw[Ale (by omega)]at h9
   obtain⟨v,hv,T⟩:=k4'.at h9
   rw[RepC]at T;subst T
   simpa using hv
  have hH:Go.Sort.Holds (Value.int .i64) w k (o+0) zs.toArray:=by
   intro q hq
   have hq':q<zs.length:=by simpa using hq
   refine⟨?_,?_⟩
   ·rw[show w.cell? ⟨k,o+0+q,none⟩=cs[o+0+q]? by simp[World.cell?,k1],Aiq,hcz q zs[q] (by simp[hq'])]
    simp[hq']
   ·simp only[World.frozen?,k1]
    have:=G.1.at (o+0+q) (by omega)
    cases fr;simp at this ⊢;omega
  have L:=Tryz.slices_Sort_int k (o+0) cap zs w hH (Uz k1) (by omega)
  rw[hzl,show(zs.mergeSort fun x y=>decide (x<=y))=KW zs from rfl]at L
  refine L.mono ?_
  rintro e w' ⟨rfl,q,os,rfl⟩
  have hnl:(KW zs).length=n:=by unfold KW;rw[Ang];exact hzl
  generalize KW zs=nw at *
  have O:OnlyBlk w (Go.Sort.putRow (Value.int .i64) (Go.Sort.ahead w q) k (o+0) nw.toArray) k cs (Go.Sort.putCells (Value.int .i64) (o+0) nw.toArray cs) ty fr:=by
   refine⟨k1,?_,by simp[Go.Sort.putCells],fun I Y=>?_,?_,rfl,rfl,rfl⟩
   ·simp[Go.Sort.putRow,Go.Sort.mapBlock,Go.Sort.ahead,Ai6,k1,Go.Sort.onCells]
   ·simp[Go.Sort.putRow,Go.Sort.mapBlock,Go.Sort.ahead,Ai6,Ne.symm Y]
   ·simp[Go.Sort.putRow,Go.Sort.mapBlock,Go.Sort.ahead]
  have hlen:(Us nw++c.drop n).length=c.length:=by unfold Us;simp;omega
  have hrc:RepCs (J false) w (Us nw++c.drop n) (fun I=>(Go.Sort.putCells (Value.int .i64) (o+0) nw.toArray cs)[o+I]?) 0:=by
   rw[Bn]
   intro I x D
   rw[Ah0]
   by_cases Y:I<n
   ·rw[Ala (by unfold Us;simp;omega)]at D
    unfold Us at D
    rw[Akd,Ahk (by omega)]at D
    simp at D;subst D
    refine⟨.int .i64 nw[I],?_,by rw[RepC]⟩
    have:o+I<cs.size:=by omega
    simp[Go.Sort.putCells,this,hnl,Y]
   ·rw[Ak3 (by unfold Us;simp;omega)]at D
    have hx':c[I]?=some x:=by
     rw[Ain,show(Us nw).length=n by unfold Us;simp;omega,show n+(I - n)=I by omega]at D;exact D
    obtain⟨v,hv,T⟩:=k4'.at hx'
    have hv:cs[o+I]?=some v:=by simpa using hv
    refine⟨v,?_,T⟩
    have hlt:=(Ahx.1 hx').1
    have:o+I<cs.size:=by omega
    have hn2:¬ (o<=o+I/\o+I<o+nw.length):=by omega
    simp only[Go.Sort.putCells,Array.getElem?_mapIdx,hv,Option.map_some,List.size_toArray,Aiq,if_neg hn2]
  have A:=Step.set S hb rfl rfl hβ O (x':=bQ 1 (Us nw++c.drop n)) rfl rfl rfl hlen ⟨fun _=>hrc,fun hp=>by cases hp⟩ rfl
  have B:=Step.junk A.sim (w':=Go.Sort.grow (Go.Sort.putRow (Value.int .i64) (Go.Sort.ahead w q) k (o+0) nw.toArray) os) rfl rfl rfl (by simp[Go.Sort.grow]) (fun G hk2=>Aki hk2)
  have hz:∀ G,Ay w G<=Ay (Go.Sort.grow (Go.Sort.putRow (Value.int .i64) (Go.Sort.ahead w q) k (o+0) nw.toArray) os) G:=fun G=>by
   by_cases hl:G<w.heap.size
   ·have e:(Go.Sort.grow (Go.Sort.putRow (Value.int .i64) (Go.Sort.ahead w q) k (o+0) nw.toArray) os).heap[G]?=(Go.Sort.putRow (Value.int .i64) (Go.Sort.ahead w q) k (o+0) nw.toArray).heap[G]?:=by
     simp only[Go.Sort.grow];exact Aki (by rw[O.size];exact hl)
    by_cases e2:G=k
    ·subst e2;rw[C9 O.old,C9 (e.trans O.new),O.sz];exact Ahl _
    ·simp only[Ay,e,O.other G e2];exact Ahl _
   ·simp[Ay,Ajc (Aju hl)]
  have C:=A.trans B (fun b G o2 _=>hz G)
  refine⟨_,J,β,rfl,FDone.of C hz (fun b x D=>?_),by rw[Rep];exact⟨[],rfl,by rw[Reps]⟩⟩
  change Al [(100000,bQ 1 (Us nw++c.drop n))] b=some x at D
  rw[Al]at D
  cases hq:beq 100000 b<;>rw[hq]at D<;>simp[Al]at D
  subst D;rfl
 ·simp at hh
noncomputable def RM(N:Nat):=Afd (Ut N) (Uu N)
end Gx
namespace Gx
open Go
mutual
def Ae5:AV->AV->Bool
|.int k n,.int k' n'=>Ih k k'&&decide (n=n')
|.bool b,.bool b'=>b==b'
|.str s,.str s'=>s==s'
|.nsl,.nsl=>true
|.imm c n s t o,.imm c' n' s' t' o'=>beq n n'&&(beq s s'&&(t==t'&&(o==o'&&eR c c')))
|.iptr c o,.iptr c' o'=>o==o'&&eR c c'
|.pagg c o,.pagg c' o'=>o==o'&&eR c c'
|.own b f n,.own b' f' n'=>beq b b'&&(beq f f'&&beq n n')
|.optr b f,.optr b' f'=>beq b b'&&beq f f'
|.agg c,.agg c'=>eR c c'
|.tup c,.tup c'=>eR c c'
|.fn f c,.fn f' c'=>beq f f'&&eR c c'
|.nilptr,.nilptr=>true
|.nilfn,.nilfn=>true
|.undef,.undef=>true
|.omap b,.omap b'=>beq b b'
|_,_=>false
def eR:List AV->List AV->Bool
|[],[]=>true
|x::r,y::q=>Ae5 x y&&eR r q
|_,_=>false
end
mutual
def uX:∀ a b,Ae5 a b=true->a=b:=by
 intro a b h
 cases a<;>cases b<;>simp only[Ae5,Aho,Am8,beq_iff_eq,Ih,decide_eq_true_eq,reduceCtorEq,Ajr]at h
 case int.int=>rw[h.1,h.2]
 case bool.bool=>rw[h]
 case str.str=>rw[h]
 case nsl.nsl=>rfl
 case imm.imm=>rw[h.1,h.2.1,h.2.2.1,h.2.2.2.1,Vu _ _ h.2.2.2.2]
 case iptr.iptr=>rw[h.1,Vu _ _ h.2]
 case pagg.pagg=>rw[h.1,Vu _ _ h.2]
 case own.own=>rw[h.1,h.2.1,h.2.2]
 case optr.optr=>rw[h.1,h.2]
 case agg.agg=>rw[Vu _ _ h]
 case tup.tup=>rw[Vu _ _ h]
 case fn.fn=>rw[h.1,Vu _ _ h.2]
 case nilptr.nilptr=>rfl
 case nilfn.nilfn=>rfl
 case undef.undef=>rfl
 case omap.omap=>rw[h]
def Vu:∀ a b,eR a b=true->a=b:=by
 intro a b h
 cases a<;>cases b<;>simp only[eR,Aho,Ajr]at h
 ·rfl
 ·rw[uX _ _ h.1,Vu _ _ h.2]
end
def Ae6:Option (Nat×Nat)->Option (Nat×Nat)->Bool
|none,none=>true
|some (a,b),some (c,d)=>beq a c&&beq b d
|_,_=>false
def Afo(x y:Blk):Bool:=x.dead==y.dead&&(x.sealed==y.sealed&&(x.pure==y.pure&&(x.taint==y.taint&&(beq x.sz y.sz&&(x.mp==y.mp&&(Ae6 x.ty y.ty&&eR x.cells y.cells))))))
def Acm:Aw->Aw->Bool
|[],[]=>true
|(i,x)::r,(j,y)::q=>beq i j&&(Afo x y&&Acm r q)
|_,_=>false
def Adi:∀ a b,Ae6 a b=true->a=b:=by
 intro a b h
 match a,b,h with
|none,none,_=>rfl
|some (a,b),some (c,d),h=>simp only[Ae6,Aho,Am8]at h;rw[h.1,h.2]
|none,some _,h=>cases h
|some _,none,h=>simp[Ae6]at h
def Adj(x y:Blk)(h:Afo x y=true):x=y:=by
 unfold Afo at h
 simp only[Aho,Am8,beq_iff_eq]at h
 obtain⟨A,B,C,D,G,I,k,v⟩:=h
 have:=Adi _ _ k;have:=Vu _ _ v
 cases x;cases y;simp_all
def uY:∀ a b,Acm a b=true->a=b:=by
 intro a
 induction a with
|nil=>intro b h;cases b<;>simp[Acm]at h ⊢
| cons p r k =>
  intro b h
  cases b with
  |nil=>simp[Acm]at h
  |cons q s =>
   obtain⟨i,x⟩:=p;obtain⟨j,y⟩:=q
   simp only[Acm,Aho,Am8]at h
   rw[h.1,Adj _ _ h.2.1,k _ h.2.2]
structure Pt where
 f:Nat
 args:List AV
 h:Aw
 res:AV
 h':Aw
def xk(P:Program)(p:Pt):Prop:=Aar P p.f p.args p.h p.res p.h'
def md(P:Program):List Pt->Prop
|[]=>True
|p::r=>xk P p/\md P r
def KX(f:Nat)(a:LA)(h:Aw):List Pt->Option Pt
|[]=>none
|p::r=>cond (beq p.f f&&(eR p.args a&&Acm p.h h)) (some p) (KX f a h r)
def z8{R:Type}(k:AV->Aw->O R)(alt:O R):Option Pt->O R
|some p=>k p.res p.h'
|none=>alt
def Adk (l:List Pt) (f:Nat) (t:Tw):Tw:=⟨fun {R} a h k=>z8 k (t.runK a h k) (KX f a h l),fun {R} a h k=>by
 cases KX f a h l with
|none=>exact t.eq a h k
| some p=>rfl⟩
def mf{P:Program}{f:Nat}{a:LA}{h:Aw}:∀{l:List Pt},md P l->∀{p},KX f a h l=some p->Aar P f a h p.res p.h'
|[],_,p,e=>by simp[KX]at e
| q::r,H,p,e=>by
  unfold KX at e
  cases k:beq q.f f&&(eR q.args a&&Acm q.h h)with
  |false=>rw[k]at e;exact mf H.2 e
  |true =>
   rw[k]at e
   simp only[cond_true,Ajm]at e
   subst e
   simp only[Aho,Am8]at k
   have:=Vu _ _ k.2.1;have:=uY _ _ k.2.2
   obtain⟨rfl,_,_⟩:=k
   subst_vars;exact H.1
def Aba{P:Program}{l:List Pt}(H:md P l){f:Nat}{t:Tw}(k:oC P f t):oC P f (Adk l f t):=by
 intro a h res h' e
 have e:z8 (fun v h'=>some (v,h')) (t.runK a h fun v h'=>some (v,h')) (KX f a h l)=some (res,h'):=e
 cases hq:KX f a h l with
|none=>rw[hq]at e;exact k a h res h' e
|some p =>
  rw[hq]at e
  simp only[z8,Ajm,Anw]at e
  obtain⟨rfl,rfl⟩:=e
  exact mf H hq
def Adl(P:Program)(muts:Nat->List Bool)(N:Nat)(l:List Pt)(fs:List (Nat×Hints)):Nat->List (Nat×Tw)
|0=>[]
|d+1=>fs.map fun p=>(p.1,Adk l p.1 ⟨fun args h k=>fu P muts (Adl P muts N l fs d) p.2 N p.1 args h k,fun args h k=>by rw[AP,AP];exact PZ ..⟩)
def z_{P:Program}(A:P.follows .mixedOrders=true)(muts:Nat->List Bool)(N:Nat){l:List Pt}(H:md P l)(fs:List (Nat×Hints)):∀ d,fg P (Adl P muts N l fs d)
|0=>trivial
| d+1=>by
  rw[Adl]
  have key:∀(q:List (Nat×Hints)),fg P (q.map fun p=>((p.1,Adk l p.1 ⟨fun v h k=>fu P muts (Adl P muts N l fs d) p.2 N p.1 v h k,fun v h k=>by rw[AP,AP];exact PZ ..⟩):Nat×Tw)):=by
   intro q
   induction q with
   |nil=>trivial
   |cons p r B =>
    refine⟨Aba H ?_,B⟩
    intro v h res h' C
    exact IS (z_ A muts N H fs d) A ((AP ..).symm.trans C)
  exact key fs
def Abb(f:Nat):List (Nat×Hints)->Hints
|[]=>⟨.leaf,[],[],[],[]⟩
|p::r=>cond (beq p.1 f) p.2 (Abb f r)
def mg(p:Pt):Option (AV×Aw)->Bool
|some (v,h)=>Ae5 p.res v&&Acm p.h' h
|none=>false
def Acn{P:Program}(k:P.follows .mixedOrders=true){muts:Nat->List Bool}{N:Nat}{l:List Pt}(H:md P l){fs:List (Nat×Hints)}(d:Nat){p:Pt}
  (e:mg p (fu P muts (Adl P muts N l fs d) (Abb p.f fs) N p.f p.args p.h fun v h=>some (v,h))=true):xk P p:=by
 cases hq:fu P muts (Adl P muts N l fs d) (Abb p.f fs) N p.f p.args p.h fun v h=>some (v,h)with
|none=>rw[hq]at e;cases e
|some q =>
  rw[hq]at e
  obtain⟨v,h⟩:=q
  simp only[mg,Aho]at e
  have:=uX _ _ e.1;have:=uY _ _ e.2
  subst_vars
  exact IS (z_ k muts N H fs d) k ((AP ..).symm.trans hq)
end Gx
namespace Gx
open Go Go.Proofs
def Adm{P:Program}{p:Pt}{o:Option (AV×Aw)}(h:∀ v h',o=some (v,h')->Aar P p.f p.args p.h v h')(e:mg p o=true):xk P p:=by
 cases hq:o with
|none=>rw[hq]at e;cases e
|some q =>
  rw[hq]at e
  obtain⟨v,h'⟩:=q
  simp only[mg,Aho]at e
  have k:=uX _ _ e.1;have A:=uY _ _ e.2
  unfold xk;rw[k,A]
  exact h _ _ hq
def za:List Int->Bool
|a::b::r=>decide (a<=b)&&za (b::r)
|_=>true
def v_:∀{l:List Int},za l=true->l.Pairwise fun x y=>decide (x<=y)=true
|[],_=>.nil
|[a],_=>by simp
| a::b::r,h=>by
  rw[za,Aho,decide_eq_true_eq]at h
  have v:=v_ h.2
  refine .cons (fun t k=>?_) v
  rcases Ah4.1 k with rfl|k
  ·simpa using h.1
  ·have:=(All.1 v).1 t k
   simp at this ⊢;omega
def zb(a:LA)(h:Aw):Option (AV×Aw):=match a,h with
|[.own 100000 0 n],[(100000,⟨false,false,true,false,1,c,false,none⟩)]=>cond (ble 1 n&&(ble n 16777216&&(c.take n).all pY)) (cond (za ((c.take n).map yH)) (some (.tup [],[(100000,bQ 1 (Us ((c.take n).map yH)++c.drop n))])) none) none
|_,_=>none
def zc(a:LA)(h:Aw)(v:AV)(h':Aw)(k:zb a h=some (v,h')):Aar Tryz.prog 125 a h v h':=by
 refine Uu 0 _ _ _ _ (show Di 0 a h (fun v h'=>some (v,h'))=some (v,h')from ?_)
 unfold zb at k;unfold Di
 split at k
 ·rename_i n c
  rw[Et];unfold Ey
  cases A:(ble 1 n&&(ble n 16777216&&(c.take n).all pY))with
  |false=>rw[A]at k;cases k
  | true =>
   rw[A,cond_true]at k
   show some (AV.tup [],[(100000,bQ 1 (Us (KW ((c.take n).map yH))++c.drop n))])=some (v,h')
   cases B:za ((c.take n).map yH)with
   |false=>rw[B]at k;cases k
   |true =>
    rw[B,cond_true]at k
    rw[show KW ((c.take n).map yH)=(c.take n).map yH from List.mergeSort_of_pairwise (v_ B)]
    exact k
 ·cases k
def Abc{p:Pt}(k:p.f=125)(e:mg p (zb p.args p.h)=true):xk Tryz.prog p:=Adm (fun v h' A=>by rw[k];exact zc _ _ _ _ A) e
end Gx
namespace Gx
open Go Go.Proofs
set_option maxRecDepth 100000
set_option linter.unusedVariables false
noncomputable section
def Afp:List (Nat×Hints):=[(23,{H:=hS hL (hS hL (hS hL (hS hL (hS hL (hS (hS hL (hS (hP [1,5,10,11,13,14,57,58] hL) hL)) (hS hL (hS (hS hL (hS (hP [1,10,11,13,14,82,83] (hS hL (hS hL (hS (hS (hS hL (hS hL (hS (hP [1,10,11,13,14,16,82,83,86,87,88] hL) hL))) hL) hL)))) hL)) (hS hL (hS (hS hL (hS (hP [1,10,11,13,14,19,115,116,117] hL) hL)) hL))))))))),modes:=[(3,0),(3,0),(0,0)],cob:=[5,26,27,44,45,52,53,148,149,7000024,7000029,7000034,7000040,7000050,7000055,7000064,7000077,7000078,7000079,7000087,7000107,7000116,7000140,7000153]}),(28,{H:=hL,modes:=[(0,0),(0,0),(3,0),(0,0)]}),(30,{H:=hL,modes:=[(3,0)]}),(33,{H:=hL,modes:=[(3,0)]}),(35,{H:=hL,modes:=[(3,0)]}),(41,{H:=hL,modes:=[(3,0)]}),(47,{H:=hL,modes:=[(3,0)]}),(49,{H:=hL,cob:=[4,14,15]}),(50,{H:=hS hL (hS hL (hS hL (hS hL (hS (hS hL (hS (hP [1,4,5,24,25] hL) hL)) (hS (hS hL (hS (hP [4,5,36,37] hL) hL)) (hS (hS hL (hS (hP [5,47,48] hL) hL)) hL)))))),nils:=[(2,2)],modes:=[(2,2)]}),(51,{H:=hL,modes:=[(3,0)]}),(53,{H:=hL,modes:=[(3,0)]}),(54,{H:=hS hL (hS hL (hS hL (hS (hP [0,1,2,7,8,30,31,32] hL) hL)))}),(56,{H:=hS hL (hS hL (hS (hS hL (hS (hP [0,1,2,6,7,8] hL) hL)) hL))}),(61,{H:=hL,modes:=[(3,0)]}),(66,{H:=hS hL (hS hL (hS hL (hS (hS hL (hS (hP [2,3,4,5,18,19,20] hL) hL)) hL))),modes:=[(3,0)]}),(67,{H:=hL,modes:=[(3,0)],cob:=[2,3]}),(70,{H:=hS hL (hS hL (hS (hS hL (hS (hP [0,1,3,8,9,18,19,20] hL) hL)) (hS hL (hS hL (hS hL (hS (hS hL (hS (hP [3,8,12,41,42,43] hL) hL)) hL)))))),modes:=[(3,0)]}),(71,{H:=hL,modes:=[(3,0)]}),(72,{H:=hL,modes:=[(3,0)]}),(73,{H:=hL,modes:=[(3,0)]}),(74,{H:=hL,modes:=[(3,0)]}),(75,{H:=hS hL (hS hL (hS hL (hS (hS hL (hS (hP [2,3,5,6,11,12,13] hL) hL)) hL)))}),(76,{H:=hL,modes:=[(3,0)]}),(79,{H:=hL,modes:=[(3,0)]}),(80,{H:=hL,modes:=[(3,0)]}),(81,{H:=hL,modes:=[(3,0)]}),(82,{H:=hL,modes:=[(3,0)]}),(83,{H:=hL,modes:=[(3,0)]}),(85,{H:=hL,modes:=[(3,0),(0,0)]}),(86,{H:=hS hL (hS hL (hS (hS hL (hS (hP [2,3,4,5] hL) hL)) hL))}),(87,{H:=hS hL (hS hL (hS hL (hS (hP [0,1,2,8,10] hL) hL)))}),(102,{H:=hL,modes:=[(3,0)]}),(103,{H:=hS hL (hS (hS hL (hS (hP [0,1,9,10,11] hL) hL)) hL)}),(104,{H:=hS hL (hS (hS hL (hS (hP [1,13,14] hL) hL)) hL)}),(105,{H:=hS hL (hS hL (hS hL (hS (hS hL (hS (hP [1,3,11,12,13] hL) hL)) hL)))}),(106,{H:=hS hL (hS (hS hL (hS (hP [0,1,7,8,9] hL) hL)) hL)}),(109,{H:=hL,nils:=[(4,2),(7,2)],modes:=[(1,2)]}),(112,{H:=hS hL (hS (hS hL (hS hL (hS hL (hS (hP [0,1,6,7,8,9] hL) hL)))) hL)}),(117,{H:=hL,nils:=[(3,1)],modes:=[(3,0),(1,1)]}),(120,{H:=hL,modes:=[(3,0)]}),(126,{H:=hS hL (hS hL (hS (hS hL (hS (hP [0,3] (hS hL (hS (hS (hS hL (hS (hS hL (hS (hS hL (hS (hP [0,3,4,5] hL) hL)) hL)) hL)) hL) hL))) hL)) hL)),nils:=[(2,1)],modes:=[(2,1)]}),(127,{H:=hS hL (hS hL (hS hL (hS hL (hS (hS (hP [0,1,4,5,6,7] hL) hL) hL)))),modes:=[(3,0)]}),(128,{H:=hS hL (hS hL (hS hL (hS (hS hL (hS (hP [0,1,5] hL) hL)) hL)))}),(132,{H:=hS hL (hS hL (hS hL (hS (hS (hP [0,1,6,7,8] hL) hL) hL)))}),(135,{H:=hS hL (hS hL (hS (hS hL (hS (hP [0,1,5] hL) hL)) hL))}),(138,{H:=hL,modes:=[(3,0)]}),(139,{H:=hL,modes:=[(3,0)]}),(140,{H:=hL,nils:=[(2,1)],modes:=[(2,1)]}),(142,{H:=hS hL (hS hL (hS hL (hS hL (hS hL (hS (hS hL (hS (hP [0,1,6,7,8] hL) hL)) hL))))),nils:=[(4,1)],modes:=[(2,1),(0,0)]}),(143,{H:=hS hL (hS hL (hS (hS hL (hS (hP [0,1,5,6] (hS hL (hS (hS (hS hL (hS (hS hL (hS (hP [0,1,5,6,7,8] hL) hL)) hL)) hL) hL))) hL)) hL)),nils:=[(4,1)],modes:=[(2,1)]}),(149,{H:=hL,modes:=[(3,0)]}),(170,{H:=hL,nils:=[(2,1)],modes:=[(2,1)]}),(180,{H:=hS hL (hS hL (hS (hS (hP [0,3] hL) hL) hL)),nils:=[(2,1)],modes:=[(2,1)]}),(193,{H:=hS hL (hS hL (hS (hS (hP [0,3] hL) hL) hL)),nils:=[(2,1)],modes:=[(2,1)]}),(194,{H:=hS hL (hS hL (hS hL (hS (hS hL (hS (hP [0,1,5] hL) hL)) hL)))}),(195,{H:=hS hL (hS (hS hL (hS (hP [0,1,2,7] hL) hL)) hL),nils:=[(6,2)],modes:=[(2,2)]}),(198,{H:=hL,modes:=[(3,0)]}),(212,{H:=hS hL (hS (hS hL (hS (hP [0,1,7,8] hL) hL)) hL)}),(214,{H:=hS hL (hS hL (hS (hS hL (hS (hP [3,6,7,8] hL) hL)) hL))}),(233,{H:=hL,modes:=[(3,0)]}),(235,{H:=hS hL (hS (hS hL (hS (hP [0,1,7,8] hL) hL)) hL)}),(247,{H:=hL,modes:=[(3,0)]}),(248,{H:=hL,modes:=[(3,0)]})]++[16,21,25,48,52,55,60,68,69,107,108,110,111,113,114,115,116,123,124,125,144,147,169,171,172,173,175,176,177,187,196,197,213].map fun f=>(f,{H:=hL})
structure PtL where
 l:List Pt
 ok:md Tryz.prog l
def Tp(n:Nat)(c:LA):Blk:=⟨false,false,true,false,n,c,false,none⟩
def HM(s:PtL)(p:Pt)(e:mg p (fu Tryz.prog muts (Adl Tryz.prog muts 1000000 s.l Afp 11) (Abb p.f Afp) 1000000 p.f p.args p.h fun v h=>some (v,h))=true):PtL:=⟨p::s.l,Acn follows s.ok _ e,s.ok⟩
def Afq(s:PtL)(p:Pt)(e:xk Tryz.prog p):PtL:=⟨p::s.l,e,s.ok⟩
def pl:PtL:=⟨[],trivial⟩
def Ag6:=HM pl ⟨66,[.pagg [.str [],iv 0,iv 10,iv 30,.imm [iv 20,iv 4] 1 2 false false,iv 0,iv 100,iv 100,iv 30,iv 30,iv 0,iv 0,iv 0,iv 50,iv 50,iv 0,iv 0,iv 0,.nsl,iv 0,iv 1,iv 0] false],[],.pagg [.imm [iv 10,iv 30] 2 1 false false,.imm [.bool false,.imm [] 0 1 false false,.imm [.int .u32 1] 1 1 false false,.bool true,.imm [.int .u32 80] 1 1 false false,.imm [.int .u32 1] 1 1 false false] 2 3 false false] false,[]⟩ (by kernel_rfl)
def Ag7:=Afq Ag6 ⟨125,[.own 100000 0 2],[(100000,Tp 1 [iv 10,iv 30])],.tup [],[(100000,Tp 1 [iv 10,iv 30])]⟩ (Abc (by kernel_rfl) (by kernel_rfl))
def Ae7:Aw:=[(100000,Tp 0 [.bool false,.imm [.int .u32 5] 1 1 false false,.imm [.int .u32 1] 1 1 false false]),(100001,Tp 0 [.imm [iv 10,iv 30] 2 1 false false,.imm [.bool false,.imm [] 0 1 false false,.imm [.int .u32 1] 1 1 false false,.bool true,.imm [.int .u32 80] 1 1 false false,.imm [.int .u32 1] 1 1 false false] 2 3 false false]),(100002,Tp 0 [.bool false,.imm [] 0 1 false false,.imm [.int .u32 1] 1 1 false false]),(100003,⟨false,false,false,false,0,[.fn 68 [.optr 100002 0,.optr 100004 0,.optr 100005 0,.optr 100006 0]],false,none⟩),(100004,Tp 0 [.str [],iv 0,iv 10,iv 30,.imm [iv 20,iv 4] 1 2 false false,iv 0,iv 100,iv 100,iv 30,iv 30,iv 0,iv 0,iv 0,iv 50,iv 50,iv 0,iv 0,iv 0,.nsl,iv 0,iv 1,iv 0]),(100005,⟨false,false,false,false,0,[iv 30],false,none⟩),(100006,⟨false,false,false,false,0,[iv 10],false,none⟩)]
def Ag8:=HM Ag7 ⟨71,[iv 10,.optr 100000 0,.optr 100001 0,.optr 100002 0,.optr 100003 0],Ae7,.pagg [.bool false,.imm [.int .u32 50] 1 1 false false,.imm [.int .u32 1] 1 1 false false] false,Ae7⟩ (by kernel_rfl)
def Ag9:=HM Ag8 ⟨71,[iv 30,.optr 100000 0,.optr 100001 0,.optr 100002 0,.optr 100003 0],Ae7,.pagg [.bool false,.imm [.int .u32 70] 1 1 false false,.imm [.int .u32 1] 1 1 false false] false,Ae7⟩ (by kernel_rfl)
def Aha:=HM Ag9 ⟨75,[.pagg [.imm [iv 10,iv 30] 2 1 false false,.imm [.bool false,.imm [.int .u32 50] 1 1 false false,.imm [.int .u32 1] 1 1 false false,.bool false,.imm [.int .u32 70] 1 1 false false,.imm [.int .u32 1] 1 1 false false] 2 3 false false] false,.pagg [.bool false,.imm [] 0 1 false false,.imm [.int .u32 1] 1 1 false false] false],[],iv 30,[]⟩ (by kernel_rfl)
def Ahb:=HM Aha ⟨28,[.pagg [.str [],iv 0,iv 10,iv 30,.imm [iv 20,iv 4] 1 2 false false,iv 0,iv 100,iv 100,iv 30,iv 30,iv 0,iv 0,iv 0,iv 50,iv 50,iv 0,iv 0,iv 0,.nsl,iv 0,iv 1,iv 0] false,iv 0,iv 100,.pagg [.bool false,.imm [.int .u32 5] 1 1 false false,.imm [.int .u32 1] 1 1 false false] false,.pagg [.bool false,.imm [] 0 1 false false,.imm [.int .u32 1] 1 1 false false] false],[],.tup [iv 30,iv 0,.pagg [.bool false,.imm [.int .u32 70] 1 1 false false,.imm [.int .u32 1] 1 1 false false] false,iv 0],[]⟩ (by kernel_rfl)
def Ahc:=HM Ahb ⟨66,[.pagg [.str [],iv 0,iv 10,iv 30,.imm [iv 20,iv 4] 1 2 false false,iv 0,iv 100,iv 100,iv 30,iv 30,iv 0,iv 0,iv 0,iv 50,iv 50,iv 0,iv 0,iv 0,.imm [] 0 1 false false,iv 0,iv 1,iv 0] false],[],.pagg [.imm [iv 10,iv 30] 2 1 false false,.imm [.bool false,.imm [] 0 1 false false,.imm [.int .u32 1] 1 1 false false,.bool true,.imm [.int .u32 80] 1 1 false false,.imm [.int .u32 1] 1 1 false false] 2 3 false false] false,[]⟩ (by kernel_rfl)
def Agc:Aw:=[(100002,Tp 2 []),(100003,Tp 2 []),(100004,Tp 2 []),(100005,Tp 2 []),(100006,Tp 2 []),(100007,Tp 2 [])]
def Ad5:Aw:=(100000,⟨false,false,false,false,0,[.str [],iv 0,iv 10,iv 30,.imm [iv 20,iv 4] 1 2 false false,iv 0,iv 100,iv 100,iv 30,iv 30,iv 0,iv 0,iv 0,iv 50,iv 50,iv 0,iv 0,iv 0,.imm [] 0 1 false false,iv 0,iv 1,iv 0,iv 1,.imm [.bool false,.imm [.int .u32 5] 1 1 false false,.imm [.int .u32 1] 1 1 false false] 1 3 false true,.imm [.bool false,.imm [] 0 1 false false,.imm [.int .u32 1] 1 1 false false] 1 3 false true,.imm [iv 10,iv 30] 2 1 false false,.imm [.bool false,.imm [] 0 1 false false,.imm [.int .u32 1] 1 1 false false,.bool true,.imm [.int .u32 80] 1 1 false false,.imm [.int .u32 1] 1 1 false false] 2 3 false false,.own 100001 0 0,.own 100002 0 0,.own 100003 0 0,.own 100004 0 0,.own 100005 0 0,.own 100006 0 0,.own 100007 0 0,.nsl,.nsl,.nsl,.nsl,.nsl,.nsl,.nsl,.nsl,.nsl,.nsl,.nsl,.nsl,.nsl,.nsl,.nsl,.nsl,.nsl],false,none⟩)::(100001,Tp 2 [])::Agc
def Ahd:=HM Ahc ⟨149,[.optr 100000 0,iv 0],Ad5,.pagg [.bool false,.imm [] 0 1 false false,.imm [.int .u32 1] 1 1 false false] false,Ad5⟩ (by kernel_rfl)
def Ahe:=HM Ahd ⟨247,[.optr 100000 0,iv 0,iv 10],Ad5,.pagg [.bool false,.imm [.int .u32 50] 1 1 false false,.imm [.int .u32 1] 1 1 false false] false,Ad5⟩ (by kernel_rfl)
def Ahf:=HM Ahe ⟨247,[.optr 100000 0,iv 0,iv 30],Ad5,.pagg [.bool false,.imm [.int .u32 70] 1 1 false false,.imm [.int .u32 1] 1 1 false false] false,Ad5⟩ (by kernel_rfl)
def Agd:Aw:=[(100000,Tp 1 [iv 30,iv 10,iv 30]),(100001,⟨false,false,false,false,0,[.optr 100004 0],false,none⟩),(100002,⟨false,false,false,false,0,[iv 0],false,none⟩),(100003,Tp 0 [.bool false,.imm [] 0 1 false false,.imm [.int .u32 1] 1 1 false false]),(100004,⟨false,false,false,false,0,[.str [],iv 0,iv 10,iv 30,.imm [iv 20,iv 4] 1 2 false false,iv 0,iv 100,iv 100,iv 30,iv 30,iv 0,iv 0,iv 0,iv 50,iv 50,iv 0,iv 0,iv 0,.imm [] 0 1 false false,iv 0,iv 1,iv 0,iv 1,.imm [.bool false,.imm [.int .u32 5] 1 1 false false,.imm [.int .u32 1] 1 1 false false] 1 3 false true,.imm [.bool false,.imm [] 0 1 false false,.imm [.int .u32 1] 1 1 false false] 1 3 false true,.imm [iv 10,iv 30] 2 1 false false,.imm [.bool false,.imm [] 0 1 false false,.imm [.int .u32 1] 1 1 false false,.bool true,.imm [.int .u32 80] 1 1 false false,.imm [.int .u32 1] 1 1 false false] 2 3 false false,.own 100005 0 0,.own 100006 0 0,.own 100007 0 0,.own 100008 0 0,.own 100009 0 0,.own 100010 0 0,.own 100011 0 0,.nsl,.nsl,.nsl,.nsl,.nsl,.nsl,.nsl,.nsl,.nsl,.nsl,.nsl,.nsl,.nsl,.nsl,.nsl,.nsl,.nsl],false,none⟩),(100005,Tp 2 []),(100006,Tp 2 []),(100007,Tp 2 []),(100008,Tp 2 []),(100009,Tp 2 []),(100010,Tp 2 []),(100011,Tp 2 [])]
def Afr:=HM Ahf ⟨70,[iv 10,iv 30,.own 100000 0 3,.fn 248 [.optr 100001 0,.optr 100002 0,.optr 100003 0]],Agd,.pagg [.imm [iv 10,iv 30] 2 1 false false,.imm [.bool false,.imm [.int .u32 50] 1 1 false false,.imm [.int .u32 1] 1 1 false false,.bool false,.imm [.int .u32 70] 1 1 false false,.imm [.int .u32 1] 1 1 false false] 2 3 false false] false,Agd⟩ (by kernel_rfl)
def Age:Aw:=[(100004,Tp 7 []),(100005,Tp 7 []),(100006,Tp 7 []),(100007,Tp 7 []),(100008,Tp 7 []),(100009,Tp 2 []),(100010,Tp 2 []),(100011,Tp 2 []),(100012,Tp 2 []),(100013,Tp 2 []),(100014,Tp 2 []),(100015,Tp 2 [])]
def Agf:Aw:=[(100000,⟨false,false,false,false,0,[.optr 100001 0,.imm [iv (-1)] 1 1 false true,.own 100002 0 2,.own 100003 0 2,.own 100004 0 0,.own 100005 0 0,.own 100006 0 0,.own 100007 0 0,.own 100008 0 0,.nsl,.nsl,.nsl,.nsl,.nsl,.nsl,.nsl,.nsl,.nsl,.nsl,.nsl,.nsl,.nsl,.nsl,.nsl,.nsl,.nsl,.nsl],false,none⟩),(100001,⟨false,false,false,false,0,[.str [],iv 0,iv 10,iv 30,.imm [iv 20,iv 4] 1 2 false false,iv 0,iv 100,iv 100,iv 30,iv 30,iv 0,iv 0,iv 0,iv 50,iv 50,iv 0,iv 0,iv 0,.imm [] 0 1 false false,iv 0,iv 1,iv 0,iv 1,.imm [.bool false,.imm [.int .u32 5] 1 1 false false,.imm [.int .u32 1] 1 1 false false] 1 3 false true,.imm [.bool false,.imm [] 0 1 false false,.imm [.int .u32 1] 1 1 false false] 1 3 false true,.imm [iv 10,iv 30] 2 1 false false,.imm [.bool false,.imm [] 0 1 false false,.imm [.int .u32 1] 1 1 false false,.bool true,.imm [.int .u32 80] 1 1 false false,.imm [.int .u32 1] 1 1 false false] 2 3 false false,.own 300000 0 1,.own 100010 0 0,.own 100011 0 0,.own 100012 0 0,.own 100013 0 0,.own 100014 0 0,.own 100015 0 0,.nsl,.nsl,.nsl,.nsl,.nsl,.nsl,.nsl,.nsl,.nsl,.nsl,.nsl,.nsl,.nsl,.nsl,.nsl,.nsl,.nsl],false,none⟩),(100002,Tp 7 [.bool true,.bool false,.imm [] 0 1 false false,.imm [.int .u32 1] 1 1 false false,iv 0,iv 0,.bool false,.bool false,.bool false,.nsl,.nsl,iv 0,iv 0,.bool false]),(100003,Tp 7 [.bool true,.bool false,.imm [] 0 1 false false,.imm [.int .u32 1] 1 1 false false,iv 0,iv 0,.bool false,.bool true,.bool false,.imm [.int .u32 20] 1 1 false false,.imm [.int .u32 1] 1 1 false false,iv 0,iv 0,.bool true]),(100004,Tp 7 []),(100005,Tp 7 []),(100006,Tp 7 []),(100007,Tp 7 []),(100008,Tp 7 []),(100010,Tp 2 []),(100011,Tp 2 []),(100012,Tp 2 []),(100013,Tp 2 []),(100014,Tp 2 []),(100015,Tp 2 []),(300000,Tp 2 [.imm [iv 10,iv 30] 2 1 false false,.imm [.bool false,.imm [.int .u32 50] 1 1 false false,.imm [.int .u32 1] 1 1 false false,.bool false,.imm [.int .u32 70] 1 1 false false,.imm [.int .u32 1] 1 1 false false] 2 3 false false])]
def Afs:=HM Afr ⟨112,[.optr 100000 0,iv 0,.pagg [iv 2,iv 1] false,.pagg [.bool true,.bool true,.imm [.int .u32 50] 1 1 false false,.imm [.int .u32 1] 1 1 false false,iv 0,iv 0,.bool true] false],(100000,⟨false,false,false,false,0,[.optr 100001 0,.imm [iv (-1)] 1 1 false true,.own 100002 0 2,.own 100003 0 2,.own 100004 0 0,.own 100005 0 0,.own 100006 0 0,.own 100007 0 0,.own 100008 0 0,.nsl,.nsl,.nsl,.nsl,.nsl,.nsl,.nsl,.nsl,.nsl,.nsl,.nsl,.nsl,.nsl,.nsl,.nsl,.nsl,.nsl,.nsl],false,none⟩)::(100001,⟨false,false,false,false,0,[.str [],iv 0,iv 10,iv 30,.imm [iv 20,iv 4] 1 2 false false,iv 0,iv 100,iv 100,iv 30,iv 30,iv 0,iv 0,iv 0,iv 50,iv 50,iv 0,iv 0,iv 0,.imm [] 0 1 false false,iv 0,iv 1,iv 0,iv 1,.imm [.bool false,.imm [.int .u32 5] 1 1 false false,.imm [.int .u32 1] 1 1 false false] 1 3 false true,.imm [.bool false,.imm [] 0 1 false false,.imm [.int .u32 1] 1 1 false false] 1 3 false true,.imm [iv 10,iv 30] 2 1 false false,.imm [.bool false,.imm [] 0 1 false false,.imm [.int .u32 1] 1 1 false false,.bool true,.imm [.int .u32 80] 1 1 false false,.imm [.int .u32 1] 1 1 false false] 2 3 false false,.own 100009 0 0,.own 100010 0 0,.own 100011 0 0,.own 100012 0 0,.own 100013 0 0,.own 100014 0 0,.own 100015 0 0,.nsl,.nsl,.nsl,.nsl,.nsl,.nsl,.nsl,.nsl,.nsl,.nsl,.nsl,.nsl,.nsl,.nsl,.nsl,.nsl,.nsl],false,none⟩)::(100002,Tp 7 [.bool true,.bool false,.imm [] 0 1 false false,.imm [.int .u32 1] 1 1 false false,iv 0,iv 0,.bool false,.bool false,.bool false,.nsl,.nsl,iv 0,iv 0,.bool false])::(100003,Tp 7 [.bool true,.bool false,.imm [] 0 1 false false,.imm [.int .u32 1] 1 1 false false,iv 0,iv 0,.bool false,.bool false,.bool false,.nsl,.nsl,iv 0,iv 0,.bool false])::Age,.tup [],Agf⟩ (by kernel_rfl)
def Aft:=HM Afs ⟨54,[.optr 100000 0,iv 0,iv 0,.pagg [iv 0,iv 1] false],(100000,⟨false,false,false,false,0,[.optr 100001 0,.imm [iv (-1)] 1 1 false true,.own 100002 0 2,.own 100003 0 2,.own 100004 0 0,.own 100005 0 0,.own 100006 0 0,.own 100007 0 0,.own 100008 0 0,.nsl,.nsl,.nsl,.nsl,.nsl,.nsl,.nsl,.nsl,.nsl,.nsl,.nsl,.nsl,.nsl,.nsl,.nsl,.nsl,.nsl,.nsl],false,none⟩)::(100001,⟨false,false,false,false,0,[.str [],iv 0,iv 10,iv 30,.imm [iv 20,iv 4] 1 2 false false,iv 0,iv 100,iv 100,iv 30,iv 30,iv 0,iv 0,iv 0,iv 50,iv 50,iv 0,iv 0,iv 0,.imm [] 0 1 false false,iv 0,iv 1,iv 0,iv 1,.imm [.bool false,.imm [.int .u32 5] 1 1 false false,.imm [.int .u32 1] 1 1 false false] 1 3 false true,.imm [.bool false,.imm [] 0 1 false false,.imm [.int .u32 1] 1 1 false false] 1 3 false true,.imm [iv 10,iv 30] 2 1 false false,.imm [.bool false,.imm [] 0 1 false false,.imm [.int .u32 1] 1 1 false false,.bool true,.imm [.int .u32 80] 1 1 false false,.imm [.int .u32 1] 1 1 false false] 2 3 false false,.own 100009 0 0,.own 100010 0 0,.own 100011 0 0,.own 100012 0 0,.own 100013 0 0,.own 100014 0 0,.own 100015 0 0,.nsl,.nsl,.nsl,.nsl,.nsl,.nsl,.nsl,.nsl,.nsl,.nsl,.nsl,.nsl,.nsl,.nsl,.nsl,.nsl,.nsl],false,none⟩)::(100002,Tp 7 [.bool true,.bool false,.imm [] 0 1 false false,.imm [.int .u32 1] 1 1 false false,iv 0,iv 0,.bool false,.bool false,.bool false,.nsl,.nsl,iv 0,iv 0,.bool false])::(100003,Tp 7 [.bool false,.bool false,.nsl,.nsl,iv 0,iv 0,.bool false,.bool false,.bool false,.nsl,.nsl,iv 0,iv 0,.bool false])::Age,.tup [],Agf⟩ (by kernel_rfl)
def Agg:Aw:=(100000,⟨false,false,false,false,0,[.str [],iv 0,iv 10,iv 30,.imm [iv 20,iv 4] 1 2 false false,iv 0,iv 100,iv 100,iv 30,iv 30,iv 0,iv 0,iv 0,iv 50,iv 50,iv 0,iv 0,iv 0,.imm [] 0 1 false false,iv 0,iv 1,iv 0,iv 1,.imm [.bool false,.imm [.int .u32 5] 1 1 false false,.imm [.int .u32 1] 1 1 false false] 1 3 false true,.imm [.bool false,.imm [] 0 1 false false,.imm [.int .u32 1] 1 1 false false] 1 3 false true,.imm [iv 10,iv 30] 2 1 false false,.imm [.bool false,.imm [] 0 1 false false,.imm [.int .u32 1] 1 1 false false,.bool true,.imm [.int .u32 80] 1 1 false false,.imm [.int .u32 1] 1 1 false false] 2 3 false false,.own 100001 0 1,.own 100002 0 0,.own 100003 0 0,.own 100004 0 0,.own 100005 0 0,.own 100006 0 0,.own 100007 0 0,.nsl,.nsl,.nsl,.nsl,.nsl,.nsl,.nsl,.nsl,.nsl,.nsl,.nsl,.nsl,.nsl,.nsl,.nsl,.nsl,.nsl],false,none⟩)::(100001,Tp 2 [.imm [iv 10,iv 30] 2 1 false false,.imm [.bool false,.imm [.int .u32 50] 1 1 false false,.imm [.int .u32 1] 1 1 false false,.bool false,.imm [.int .u32 70] 1 1 false false,.imm [.int .u32 1] 1 1 false false] 2 3 false false])::Agc
def Afu:=HM Aft ⟨149,[.optr 100000 0,iv 0],Agg,.pagg [.bool false,.imm [] 0 1 false false,.imm [.int .u32 1] 1 1 false false] false,Agg⟩ (by kernel_rfl)
def Afv:=HM Afu ⟨23,[.pagg [.str [],iv 0,iv 10,iv 30,.imm [iv 20,iv 4] 1 2 false false,iv 0,iv 100,iv 100,iv 30,iv 30,iv 0,iv 0,iv 0,iv 50,iv 50,iv 0,iv 0,iv 0,.nsl,iv 0,iv 1,iv 0] false,iv 1,.imm [.bool false,.imm [.int .u32 5] 1 1 false false,.imm [.int .u32 1] 1 1 false false] 1 3 false true,.imm [.bool false,.imm [] 0 1 false false,.imm [.int .u32 1] 1 1 false false] 1 3 false true,.imm [iv (-1)] 1 1 false true],[],.tup [.pagg [.imm [iv 2] 1 1 false false,.imm [.bool false,.imm [.int .u32 30] 1 1 false false,.imm [.int .u32 1] 1 1 false false] 1 3 false false,.imm [.bool false,.imm [] 0 1 false false,.imm [.int .u32 1] 1 1 false false] 1 3 false false] false,.pagg [.bool false,.imm [.int .u32 20] 1 1 false false,.imm [.int .u32 1] 1 1 false false] false,iv 0],[]⟩ (by kernel_rfl)
def Afw:=HM Afv ⟨33,[.pagg [.bool false,.imm [.int .u32 70] 1 1 false false,.imm [.int .u32 1] 1 1 false false] false,.pagg [.bool true,.imm [.int .u32 70] 1 1 false false,.imm [.int .u32 1] 1 1 false false] false],[],.pagg [.bool false,.imm [] 0 1 false false,.imm [.int .u32 1] 1 1 false false] false,[]⟩ (by kernel_rfl)
def Afx:=HM Afw ⟨21,[.pagg [.bool false,.imm [.int .u32 70] 1 1 false false,.imm [.int .u32 1] 1 1 false false] false,.pagg [.bool false,.imm [.int .u32 70] 1 1 false false,.imm [.int .u32 1] 1 1 false false] false],[],iv 0,[]⟩ (by kernel_rfl)
def Afy:=HM Afx ⟨33,[.pagg [.bool false,.imm [.int .u32 20] 1 1 false false,.imm [.int .u32 1] 1 1 false false] false,.pagg [.bool true,.imm [.int .u32 20] 1 1 false false,.imm [.int .u32 1] 1 1 false false] false],[],.pagg [.bool false,.imm [] 0 1 false false,.imm [.int .u32 1] 1 1 false false] false,[]⟩ (by kernel_rfl)
def Ahg:=HM Afy ⟨21,[.pagg [.bool false,.imm [.int .u32 20] 1 1 false false,.imm [.int .u32 1] 1 1 false false] false,.pagg [.bool false,.imm [.int .u32 20] 1 1 false false,.imm [.int .u32 1] 1 1 false false] false],[],iv 0,[]⟩ (by kernel_rfl)
def ZD:Aar Tryz.prog 16 [] [] (.bool true) []:=Acn follows (muts:=muts) (N:=1000000) Ahg.ok (fs:=Afp) 11 (p:=⟨16,[],[],.bool true,[]⟩) (by kernel_rfl)
end
end Gx
namespace Gx
open Go Go.Proofs
noncomputable section
variable{R:Type}(N:Nat)
def VH(_N:Nat)(r0:Bool->O R):O R:=r0 true
def Zc:=(Ak (@VH R)).1
def Nw:@Zc R=@VH R:=(Ak _).2
def lA:Bd Tryz.prog:=⟨16,fun
|[],[]=>some fun _ k=>Zc N fun b=>k (.bool b) []
| _,_=>none,(fun a h g e R k=>by
  split at e
  ·cases e;dsimp only;rw[Nw,Nw];rfl
  ·cases e),(fun a h g res h' e hh=>by
  split at e
  ·cases e;dsimp only at hh;rw[Nw]at hh;cases hh;exact ZD
  ·cases e)⟩
end
end Gx
namespace Gx
open Go Go.Proofs
set_option maxRecDepth 100000
noncomputable section
variable{R:Type}(N:Nat)
def FG(i:Int)(d:Bool)(b:LA)(e:Bool)(c a:LA)(j:Bool)(f:LA)(g h:Int)(r0:LA->O R):O R:=(cond (ble 3 b.length) (Ca N i fun n=>N5 N (b.take 3) d n false fun o=>cond (ble 2 c.length) (Nh N (c.take 2) e i fun p q=>T3 N o false p q fun l=>cond ((beq 0 0)&&((beq l.length 3)&&(beq 3 3))) (cond (ble 3 l.length) (cond (ble 3 a.length) (To N i a true f true g h fun r=>Ca N r fun s=>N5 N (a.take 3) false s false fun t=>T3 N (l.take 3) false t false fun m=>cond ((beq 0 0)&&((beq m.length 3)&&(beq 3 3))) (cond (ble 3 m.length) (r0 (m.take 3)) none) none) none) none) none) none) none)
def If:=(Ak (@FG R)).1
def GY:@If R=@FG R:=(Ak _).2
def jJ(d:Bool)(b:LA)(e:Bool)(c a:LA)(j:Bool)(f:LA)(g h:Int)(F:KF R):LA->O R:=fun u=>F (.pagg u false) [(100000,bP d 0 b),(100001,bP e 0 c),(100002,bQ 0 a),(100003,bN 0 [.fn 68 [.optr 100002 0,.optr 100004 0,.optr 100005 0,.optr 100006 0]]),(100004,bP j 0 f),(100005,bN 0 [iv g]),(100006,bN 0 [iv h])]
def lB:=Ce N 71 [Me N,BL N,GS N,TZ N,PC N] Kl (fun
|[.int .i64 i,.optr 100000 0,.optr 100001 0,.optr 100002 0,.optr 100003 0],[(100000,⟨false,false,true,d,0,b,false,none⟩),(100001,⟨false,false,true,e,0,c,false,none⟩),(100002,⟨false,false,true,false,0,a,false,none⟩),(100003,⟨false,false,false,false,0,[.fn 68 [.optr 100002 0,.optr 100004 0,.optr 100005 0,.optr 100006 0]],false,none⟩),(100004,⟨false,false,true,j,0,f,false,none⟩),(100005,⟨false,false,false,false,0,[.int .i64 g],false,none⟩),(100006,⟨false,false,false,false,0,[.int .i64 h],false,none⟩)]=>some fun _ k=>If N i d b e c a j f g h (jJ d b e c a j f g h k)
| _,_=>none) fun _ _=>by split;intro R F;dsimp only;rw[GY];kernel_rfl;trivial
def Ji(N:Nat)(r0:LA->Bool->LA->O R)(b:Int)(c:Bool)(a:LA):O R:=(cond (ble 3 a.length) (cond ((beq ((a.take 3).length) 3)&&(ble 3 3)) (r0 [.int .i64 b] (c||false) ((setCells [.bool false,.nsl,.nsl] 0 (a.take 3)).take 3)) none) none)
def Mr(N:Nat)(r0:LA->Bool->LA->O R)(q0:O R)(b:Int)(a:LA)(c:Bool):O R:=q0
def J7:=(Ak fun N b a c r0=>Mr (R:=R) N r0 (Ji N r0 b c a) b a c).1
def Uv(b a c r0):(@J7 R N b a c r0)=(Mr N r0 (Ji N r0 b c a) b a c):=by rw[J7,(Ak _).2]
def RN(F:KF R):=L7 Tryz.f123 vN [] [100000] N F
def N9(F:KF R):LA->Bool->LA->O R:=fun d e f=>F (.tup []) [(100000,bN 0 [Aqb 0 1,Aqb 1 1]),(300000,bQ 1 d),(300001,bP e 3 f)]
def RO(b:Int)(c:Bool)(a:LA)(K:St->O R):=K ⟨[(0,.optr 100000 0),(1,iv b),(5,op 0)],[(100000,bN 0 [.nsl,.nsl]),(300000,bP c 0 a)]⟩
def HN(F:KF R)(b c a):RO b c a (Bc (RN N F (pz 85) []))=(Ji N (N9 F) b c a):=by kernel_rfl
def VI:=Ce N 123 [] vN (fun
|[.optr 100000 0,.int .i64 b,.pagg a c],[(100000,⟨false,false,false,false,0,[.nsl,.nsl],false,none⟩)]=>some fun _ k=>J7 N b a c (N9 k)
| _,_=>none) fun _ _=>by split;intro R F;exact(Cg (Mr N (N9 F) · _ _ _) ((jW ..).trans (HN ..)):_).trans (Uv ..).symm;trivial
def Vv(r0:LA->Bool->O R)(m:Nat)(l:LA)(a:Bool)(b:LA)(c:Bool)(d f:LA)(g:Bool)(h:LA)(i j:Int)(o:LA)(k2:Int->Int->Nat->Nat->LA->Bool->LA->O R)(aa u:Int)(x y:Nat)(ab:LA)(z:Bool)(ac:LA):O R:=(cond (decide (u<aa)) (cond (Ah u m) (Au .i64 (o.drop (0+(u.toNat*1))) fun af=>If N af a b c d f g h i j fun ah=>Gs N af ah false x y ab z ac fun ai aj ak al am=>k2 aa (wrap .i64 (u+1)) ai aj ak al am) none) (r0 [.imm (ab.take (x*1)) x 1 false false,.imm (ac.take (y*3)) y 3 false z] (z||false)))
def Ov(r0:LA->Bool->O R)(m:Nat)(l:LA)(a:Bool)(b:LA)(c:Bool)(d f:LA)(g:Bool)(h:LA)(i j:Int)(o:LA):Nat->Int->Int->Nat->Nat->LA->Bool->LA->O R
|0=>fun _ _ _ _ _ _ _=>none
|n+1=>Vv N r0 m l a b c d f g h i j o (Ov r0 m l a b c d f g h i j o n)
def FH(r0:LA->Bool->O R)(m:Nat)(l:LA)(a:Bool)(b:LA)(c:Bool)(d f:LA)(g:Bool)(h:LA)(i j:Int)(o:LA)(k1:Int->O R)(k2:Int->Int->Nat->Nat->LA->Bool->LA->O R)(ad:Int):O R:=(cond (decide (0<ad)) (cond (Ah 0 m) (Au .i64 o fun ag=>If N ag a b c d f g h i j fun an=>J7 N ag an false fun ao ap aq=>k2 ad 1 1 1 ao ap aq) none) (r0 [.nsl,.nsl] false))
def Ow(r0:LA->Bool->O R)(m:Nat)(l:LA)(a:Bool)(b:LA)(c:Bool)(d f:LA)(g:Bool)(h:LA)(i j:Int)(o:LA):Nat->Int->O R
|0=>fun _=>none
|n+1=>FH N r0 m l a b c d f g h i j o (Ow r0 m l a b c d f g h i j o n) (Ov N r0 m l a b c d f g h i j o n)
def Vw(r0:LA->Bool->O R)(p q:Int)(r:Nat)(l:LA)(a:Bool)(b:LA)(c:Bool)(d f:LA)(g:Bool)(h:LA)(i j:Int)(k0:Nat->Int->Int->LA->O R)(q1:Nat->LA->Int->O R)(s:Nat)(v t:Int)(w:LA):O R:=(cond (decide (t<v)) (cond (Ah t r) (Au .i64 (l.drop (0+(t.toNat*1))) fun ae=>cond ((decide (ae>p))==true) (cond (cond true (decide (ae<q)) false) (cond ((ble (s+1) 140737488355328)&&(ble ((s+1)*8) 140737488355328)) (k0 (s+1) v (wrap .i64 (t+1)) ((w.take (s*1))++[.int .i64 ae])) none) (k0 s v (wrap .i64 (t+1)) w)) (k0 s v (wrap .i64 (t+1)) w)) none) (H7 N s w fun ar=>Dw N s ar fun m o=>q1 m o (m:Int)))
def Lw(r0:LA->Bool->O R)(p q:Int)(r:Nat)(l:LA)(a:Bool)(b:LA)(c:Bool)(d f:LA)(g:Bool)(h:LA)(i j:Int):Nat->Nat->Int->Int->LA->O R
|0=>fun _ _ _ _=>none
|n+1=>Vw N r0 p q r l a b c d f g h i j (Lw r0 p q r l a b c d f g h i j n) (fun m o=>Ow N r0 m l a b c d f g h i j o N)
def MY(N:Nat)(r0:LA->Bool->O R)(q0:Nat->Int->Int->LA->O R)(p q:Int)(r:Nat)(l:LA)(a:Bool)(b:LA)(c:Bool)(d f:LA)(g:Bool)(h:LA)(i j:Int):O R:=(q0 2 (r:Int) 0 [.int .i64 p,.int .i64 q])
def KY:=(Ak fun N p q r l a b c d f g h i j r0=>MY (R:=R) N r0 (Lw N r0 p q r l a b c d f g h i j N) p q r l a b c d f g h i j).1
def VJ(p q r l a b c d f g h i j r0):(@KY R N p q r l a b c d f g h i j r0)=(MY N r0 (Lw N r0 p q r l a b c d f g h i j N) p q r l a b c d f g h i j):=by rw[KY,(Ak _).2]
def cP:Hints:={H:=hK 2 (hS (hK 1 (hS (hP [0,1,3,8,9,18,19,20] hL) hL)) (hK 3 (hS (hK 1 (hS (hP [3,8,12,41,42,43] hL) hL)) hL))),modes:=[(3,0)]}
def Ms:=Afe (VI N) (Yx N) (Eq.refl 123)
def jK:U6:=[RM N,HL N,lB N,Ms N]
def KZ(F:KF R):=L7 Tryz.f70 cP (jK N) [100000,100001,100002,100003,100004,100005,100006,100007] N F
def Ig(l:LA)(a:Bool)(b:LA)(c:Bool)(d f:LA)(g:Bool)(h:LA)(i j:Int)(F:KF R):LA->Bool->O R:=fun au av=>F (.pagg au av) [(100000,bQ 1 l),(100001,bP a 0 b),(100002,bP c 0 d),(100003,bQ 0 f),(100004,bN 0 [.fn 68 [.optr 100003 0,.optr 100005 0,.optr 100006 0,.optr 100007 0]]),(100005,bP g 0 h),(100006,bN 0 [iv i]),(100007,bN 0 [iv j])]
def sR(m:Nat)(l:LA)(a:Bool)(b:LA)(c:Bool)(d f:LA)(g:Bool)(h:LA)(i j:Int)(o:LA)(K:St->O R):=fun aa u x y ab z ac=>K ⟨[(3,.fn 71 [.optr 100001 0,.optr 100002 0,.optr 100003 0,.optr 100004 0]),(8,op 0),(12,op 1),(41,Aqb 2 m),(42,iv aa),(43,iv u)],[(100000,bQ 1 l),(100001,bP a 0 b),(100002,bP c 0 d),(100003,bQ 0 f),(100004,bN 0 [.fn 68 [.optr 100003 0,.optr 100005 0,.optr 100006 0,.optr 100007 0]]),(100005,bP g 0 h),(100006,bN 0 [iv i]),(100007,bN 0 [iv j]),(300000,bN 0 [.nsl,.nsl]),(300001,bN 0 [Aqb 3 x,Aqb 4 y]),(300002,bQ 1 o),(300003,bQ 1 ab),(300004,bP z 3 ac)]⟩
def sS(m:Nat)(l:LA)(a:Bool)(b:LA)(c:Bool)(d f:LA)(g:Bool)(h:LA)(i j:Int)(o:LA)(K:St->O R):=fun ad=>K ⟨[(3,.fn 71 [.optr 100001 0,.optr 100002 0,.optr 100003 0,.optr 100004 0]),(8,op 0),(12,op 1),(41,Aqb 2 m),(42,iv ad),(43,iv 0)],[(100000,bQ 1 l),(100001,bP a 0 b),(100002,bP c 0 d),(100003,bQ 0 f),(100004,bN 0 [.fn 68 [.optr 100003 0,.optr 100005 0,.optr 100006 0,.optr 100007 0]]),(100005,bP g 0 h),(100006,bN 0 [iv i]),(100007,bN 0 [iv j]),(300000,bN 0 [.nsl,.nsl]),(300001,bN 0 [.nsl,.nsl]),(300002,bQ 1 o)]⟩
def sT(p q:Int)(r:Nat)(l:LA)(a:Bool)(b:LA)(c:Bool)(d f:LA)(g:Bool)(h:LA)(i j:Int)(K:St->O R):=fun s v t w=>K ⟨[(0,iv p),(1,iv q),(3,.fn 71 [.optr 100001 0,.optr 100002 0,.optr 100003 0,.optr 100004 0]),(8,op 0),(9,Aqb 1 s),(18,.own 100000 0 r),(19,iv v),(20,iv t)],[(100000,bQ 1 l),(100001,bP a 0 b),(100002,bP c 0 d),(100003,bQ 0 f),(100004,bN 0 [.fn 68 [.optr 100003 0,.optr 100005 0,.optr 100006 0,.optr 100007 0]]),(100005,bP g 0 h),(100006,bN 0 [iv i]),(100007,bN 0 [iv j]),(300000,bN 0 [.nsl,.nsl]),(300001,bQ 1 w)]⟩
def jL(F:KF R)(m l a b c d f g h i j o):∀ n,sR m l a b c d f g h i j o (As (KZ N F (pz 349508) []) n)=(Ov N (Ig l a b c d f g h i j F) m l a b c d f g h i j o n):=Gu fun n e=>(Cg (Vv N (Ig l a b c d f g h i j F) m l a b c d f g h i j o) e:_)
def jM(F:KF R)(m l a b c d f g h i j o):∀ n,sS m l a b c d f g h i j o (As (KZ N F (pz 349508) []) n)=(Ow N (Ig l a b c d f g h i j F) m l a b c d f g h i j o n):=Gu fun n e=>(OF (FH N (Ig l a b c d f g h i j F) m l a b c d f g h i j o) e (jL ..):_)
def jN(F:KF R)(p q r l a b c d f g h i j):∀ n,sT p q r l a b c d f g h i j (As (KZ N F (pz 1348) []) n)=(Lw N (Ig l a b c d f g h i j F) p q r l a b c d f g h i j n):=Gu fun n e=>(OF (Vw N (Ig l a b c d f g h i j F) p q r l a b c d f g h i j) e (oE fun m o=>(lW ..).trans (jM ..)):_)
def uZ:=Ce N 70 (jK N) cP (fun
|[.int .i64 p,.int .i64 q,.own 100000 0 r,.fn 71 [.optr 100001 0,.optr 100002 0,.optr 100003 0,.optr 100004 0]],[(100000,⟨false,false,true,false,1,l,false,none⟩),(100001,⟨false,false,true,a,0,b,false,none⟩),(100002,⟨false,false,true,c,0,d,false,none⟩),(100003,⟨false,false,true,false,0,f,false,none⟩),(100004,⟨false,false,false,false,0,[.fn 68 [.optr 100003 0,.optr 100005 0,.optr 100006 0,.optr 100007 0]],false,none⟩),(100005,⟨false,false,true,g,0,h,false,none⟩),(100006,⟨false,false,false,false,0,[.int .i64 i],false,none⟩),(100007,⟨false,false,false,false,0,[.int .i64 j],false,none⟩)]=>some fun _ k=>KY N p q r l a b c d f g h i j (Ig l a b c d f g h i j k)
| _,_=>none) fun _ _=>by split;rename_i p q r l a b c d f g h i j;intro R F;exact(Cg (MY N (Ig l a b c d f g h i j F) · p q r l a b c d f g h i j) ((lW ..).trans (jN ..)):_).trans (VJ ..).symm;trivial
def K0(r0:Int->O R)(g:LA)(f:Nat)(b:Bool)(a:LA)(d:Bool)(c:LA)(k1:Int->Int->Int->LA->O R)(m l h:Int)(i:LA):O R:=(cond (decide (h<l)) (cond (Ah h f) (Au .i64 (g.drop (h.toNat*1)) fun s=>Bv 3 (a.drop 1) fun q t=>cond (Ah h t) (cond (ble 3 ((q.drop (h.toNat*3)).length)) (cond (ble 3 c.length) (Ca N s fun u=>N5 N (c.take 3) d u false fun v=>T3 N ((q.drop (h.toNat*3)).take 3) b v false fun j=>cond ((beq 0 0)&&((beq j.length 3)&&(beq 3 3))) (cond ((h==0)==false) (cond (ble 3 j.length) (cond (ble 3 i.length) (N7 N (j.take 3) false (i.take 3) false fun w=>cond (cond false true (decide (w>0))) (cond (ble 3 j.length) (cond ((beq ((j.take 3).length) 3)&&((ble 3 i.length)&&(!false))) (k1 h l (wrap .i64 (h+1)) (setCells i 0 (j.take 3))) none) none) (k1 m l (wrap .i64 (h+1)) i)) none) none) (cond (ble 3 j.length) (cond ((beq ((j.take 3).length) 3)&&((ble 3 i.length)&&(!false))) (k1 h l (wrap .i64 (h+1)) (setCells i 0 (j.take 3))) none) none)) none) none) none) none) none) (Bv 1 a fun x y=>cond (Ah m y) (Au .i64 (x.drop (m.toNat*1)) fun z=>r0 z) none))
def Fl(r0:Int->O R)(g:LA)(f:Nat)(b:Bool)(a:LA)(d:Bool)(c:LA):Nat->Int->Int->Int->LA->O R
|0=>fun _ _ _ _=>none
|n+1=>K0 N r0 g f b a d c (Fl r0 g f b a d c n)
def Pz(r0:Int->O R)(g:LA)(f:Nat)(b:Bool)(a:LA)(d:Bool)(c:LA)(k0:Int->O R)(k1:Int->Int->Int->LA->O R)(o:Int):O R:=(cond (decide (0<o)) (cond (Ah 0 f) (Au .i64 g fun aa=>Bv 3 (a.drop 1) fun r ab=>cond (Ah 0 ab) (cond (ble 3 r.length) (cond (ble 3 c.length) (Ca N aa fun ac=>N5 N (c.take 3) d ac false fun ad=>T3 N (r.take 3) b ad false fun p=>cond ((beq 0 0)&&((beq p.length 3)&&(beq 3 3))) (cond (ble 3 p.length) (cond ((beq 0 0)&&((beq ((p.take 3).length) 3)&&(beq 3 3))) (k1 0 o 1 (p.take 3)) none) none) none) none) none) none) none) (Bv 1 a fun ae af=>cond (Ah 0 af) (Au .i64 ae fun ag=>r0 ag) none))
def Fm(r0:Int->O R)(g:LA)(f:Nat)(b:Bool)(a:LA)(d:Bool)(c:LA):Nat->Int->O R
|0=>fun _=>none
|n+1=>Pz N r0 g f b a d c (Fm r0 g f b a d c n) (Fl N r0 g f b a d c n)
def P0(N:Nat)(r0:Int->O R)(q0:LA->Nat->Int->O R)(a:LA)(b:Bool)(c:LA)(d:Bool):O R:=(Bv 1 a fun g f=>q0 g f (f:Int))
def Nj:=(Ak fun N a b c d r0=>P0 (R:=R) N r0 (fun g f=>Fm N r0 g f b a d c N) a b c d).1
def Zd(a b c d r0):(@Nj R N a b c d r0)=(P0 N r0 (fun g f=>Fm N r0 g f b a d c N) a b c d):=by rw[Nj,(Ak _).2]
def B_:Hints:={H:=hK 3 (hS (hK 1 (hS (hP [2,3,5,6,11,12,13] hL) hL)) hL)}
def GZ:U6:=[Me N,BL N,TZ N,UC N]
def B'(F:KF R):=L7 Tryz.f75 B_ (GZ N) [] N F
def ZE(g:LA)(f:Nat)(b:Bool)(a:LA)(d:Bool)(c:LA)(K:St->O R):=fun m l h i=>K ⟨[(2,op 0),(3,op 1),(5,iv m),(6,op 2),(11,.imm g f 1 false b),(12,iv l),(13,iv h)],hq [bP b 0 a,bP d 0 c,bQ 0 i]⟩
def ZF(g:LA)(f:Nat)(b:Bool)(a:LA)(d:Bool)(c:LA)(K:St->O R):=fun o=>K ⟨[(2,op 0),(3,op 1),(5,iv 0),(6,op 2),(11,.imm g f 1 false b),(12,iv o),(13,iv 0)],hq [bP b 0 a,bP d 0 c,bN 0 [.bool false,.nsl,.nsl]]⟩
def NV(F:KF R)(g f b a d c):∀ n,ZE g f b a d c (As (B' N F (pz 5444) []) n)=(Fl N (Gv F) g f b a d c n):=Gu fun n e=>(Cg (K0 N (Gv F) g f b a d c) e:_)
def NW(F:KF R)(g f b a d c):∀ n,ZF g f b a d c (As (B' N F (pz 5444) []) n)=(Fm N (Gv F) g f b a d c n):=Gu fun n e=>(OF (Pz N (Gv F) g f b a d c) e (NV ..):_)
def eS:=Ce N 75 (GZ N) B_ (fun
|[.pagg a b,.pagg c d],[]=>some fun _ k=>Nj N a b c d (Gv k)
| _,_=>none) fun _ _=>by split;intro R F;exact(Cg (P0 N (Gv F) · _ _ _ _) (oE fun g f=>(lW ..).trans (NW ..)):_).trans (Zd ..).symm;trivial
def jO(a:LA)(d:Bool)(b c:Int)(i:LA)(j:Bool)(h:LA)(l:Bool)(r0:Int->Int->LA->Int->O R):O R:=(cond (ble 22 a.length) (KI N (a.take 22) d 24 fun u=>cond (!u) (r0 0 0 [.bool false,.nsl,.nsl] 1) (Au .i64 (a.drop 2) fun e=>Au .i64 (a.drop 3) fun f=>cond (decide ((Qm b e)>(E2 c f))) (r0 0 0 [.bool false,.nsl,.nsl] 7) (cond (ble 22 a.length) (J3 N (a.take 22) d fun m r=>cond ((beq 0 0)&&((beq m.length 2)&&(beq 2 2))) (cond (ble 3 h.length) (Au .i64 (a.drop 17) fun v=>Ca N v fun w=>Zx N (h.take 3) l w false fun n=>cond ((beq 0 0)&&((beq n.length 3)&&(beq 3 3))) (Au .i64 (a.drop 16) fun x=>Bv 1 m fun s o=>cond ((!r)||(A4 s)) (cond ((ble (2+o) 140737488355328)&&(ble ((2+o)*8) 140737488355328)) (Au .i64 (a.drop 2) fun y=>Au .i64 (a.drop 16) fun z=>KY N (Qm y (wrap .i64 ((Qm b e) - z))) (E2 c f) (2+o) ([.int .i64 (Qm b e),.int .i64 (wrap .i64 ((E2 c f) - x))]++s) j i r m n d a (E2 c f) (Qm b e) fun g t=>cond ((beq 0 0)&&((beq g.length 2)&&(beq 2 2))) (cond (ble 2 g.length) (Ca N 0 fun aa=>Nj N (g.take 2) t aa false fun p=>To N p n true a true (E2 c f) (Qm b e) fun ab=>cond (ble 2 g.length) (Nh N (g.take 2) t p fun ac ad=>MQ N ac ad fun q=>cond ((beq 0 0)&&((beq q.length 3)&&(beq 3 3))) (cond (ble 3 q.length) (r0 p ab (q.take 3) 0) none) none) none) none) none) none) none) none) none) none) none))) none)
def ew:=(Ak (@jO R)).1
def cQ:@ew R=@jO R:=(Ak _).2
def u_(F:KF R):Int->Int->LA->Int->O R:=fun ae af ag ah=>F (.tup [iv ae,iv af,.pagg ag false,iv ah]) []
def xm:=Ce N 28 [uI N,UN N,Me N,T_ N,uZ N,eS N,PC N,GS N,mB N] { H:=hL,modes:=[(0,0),(0,0),(3,0),(0,0)] } (fun
|[.pagg a d,.int .i64 b,.int .i64 c,.pagg i j,.pagg h l],[]=>some fun _ k=>ew N a d b c i j h l (u_ k)
| _,_=>none) fun _ _=>by split;intro R F;dsimp only;rw[cQ];kernel_rfl;trivial
def Nx(r0:LA->O R)(b:Bool)(a:LA)(k0:Int->LA->LA->O R)(f:Int)(g c:LA):O R:=(Bv 2 (a.drop 4) fun ab p=>cond (decide (f<(p:Int))) (cond (ble 3 g.length) (Bv 2 (a.drop 4) fun q r=>cond (Ah f r) (Au .i64 (q.drop (f.toNat*2)) fun s=>D2 N s fun t=>VD N (g.take 3) false t false fun i=>cond ((beq 0 0)&&((beq i.length 3)&&(beq 3 3))) (cond (ble 3 c.length) (cond (ble 3 i.length) (Bv 2 (a.drop 4) fun u v=>cond (Ah f v) (Au .i64 ((u.drop (f.toNat*2)).drop 1) fun w=>D2 N w fun x=>Y9 N (i.take 3) false x false fun y=>Vs N (c.take 3) false y false fun j=>cond ((beq j.length 3)&&((ble 3 c.length)&&(!false))) (cond (ble 3 g.length) (cond (ble 3 i.length) (Za N (g.take 3) false (i.take 3) false fun l=>cond ((beq l.length 3)&&((ble 3 g.length)&&(!false))) (k0 (wrap .i64 (f+1)) (setCells g 0 l) (setCells c 0 j)) none) none) none) none) none) none) none) none) none) none) (cond (ble 3 c.length) (cond ((beq 0 0)&&((beq ((c.take 3).length) 3)&&(beq 3 3))) (cond (ble 3 ((c.take 3).length)) (r0 ((c.take 3).take 3)) none) none) none))
def F9(r0:LA->O R)(b:Bool)(a:LA):Nat->Int->LA->LA->O R
|0=>fun _ _ _=>none
|n+1=>Nx N r0 b a (F9 r0 b a n)
def Vx(r0:LA->O R)(q0:Int->LA->LA->O R)(a:LA)(b:Bool)(d:LA)(h:Bool):O R:=(cond (ble 3 d.length) (Au .i64 (a.drop 2) fun z=>D2 N z fun aa=>Za N (d.take 3) h aa false fun m=>KB N fun o=>cond ((beq 0 0)&&((beq m.length 3)&&(beq 3 3))) (cond ((beq 0 0)&&((beq o.length 3)&&(beq 3 3))) (q0 0 m o) none) none) none)
def Tq:=(Ak fun N a b d h r0=>Vx (R:=R) N r0 (F9 N r0 b a N) a b d h).1
def G_(a b d h r0):(@Tq R N a b d h r0)=(Vx N r0 (F9 N r0 b a N) a b d h):=by rw[Tq,(Ak _).2]
def K_:Hints:={H:=hK 2 (hS (hK 1 (hS (hP [2,4,5,6,7] hL) hL)) hL),modes:=[(3,0)]}
def PJ:U6:=[S5 N,YX N,gt N,x9 N,mS N,MX N]
def jP(F:KF R):=L7 Tryz.f78 K_ (PJ N) [] N F
def jQ(b:Bool)(a:LA)(K:St->O R):=fun f g c=>K ⟨[(2,op 0),(4,op 1),(5,op 2),(6,op 3),(7,iv f)],hq [bP b 0 a,bN 0 [.bool false,.nsl,.nsl],bQ 0 g,bQ 0 c]⟩
def VK(F:KF R)(b a):∀ n,jQ b a (As (jP N F (pz 1348) []) n)=(F9 N (Cq F) b a n):=Gu fun n e=>(Cg (Nx N (Cq F) b a) e:_)
def lC:=Ce N 78 (PJ N) K_ (fun
|[.pagg a b,.pagg d h],[]=>some fun _ k=>Tq N a b d h (Cq k)
| _,_=>none) fun _ _=>by split;intro R F;exact(Cg (Vx N (Cq F) · _ _ _ _) ((lW ..).trans (VK ..)):_).trans (G_ ..).symm;trivial
def ZG(c:LA)(h:Bool)(a:LA)(d:Bool)(b:LA)(e:Bool)(f:LA)(i:Bool)(g:LA)(j:Bool)(r0:LA->O R):O R:=(cond (ble 3 f.length) (cond (ble 3 a.length) (Y9 N (f.take 3) i (a.take 3) d fun n=>cond (ble 3 g.length) (cond (ble 3 b.length) (Y9 N (g.take 3) j (b.take 3) e fun o=>Vs N n false o false fun l=>cond ((beq 0 0)&&((beq l.length 3)&&(beq 3 3))) (cond (ble 3 l.length) (cond (ble 22 c.length) (cond (ble 3 a.length) (Tq N (c.take 22) h (a.take 3) d fun p=>Au .i64 (c.drop 17) fun q=>D2 N q fun r=>cond (ble 3 b.length) (Y9 N r false (b.take 3) e fun s=>Vs N p false s false fun t=>Za N (l.take 3) false t false fun m=>cond ((beq 0 0)&&((beq m.length 3)&&(beq 3 3))) (cond (ble 3 m.length) (r0 (m.take 3)) none) none) none) none) none) none) none) none) none) none) none)
def LB:=(Ak (@ZG R)).1
def VL:@LB R=@ZG R:=(Ak _).2
def ua:=Ce N 29 [mS N,MX N,lC N,S5 N,YX N] Kl (fun
|[.pagg c h,.pagg a d,.pagg b e,.pagg f i,.pagg g j],[]=>some fun _ k=>LB N c h a d b e f i g j (Cq k)
| _,_=>none) fun _ _=>by split;intro R F;dsimp only;rw[VL];kernel_rfl;trivial
def LC(a:LA)(b:Bool)(c d:Int)(r0:Bool->O R):O R:=(cond (ble 3 a.length) (D2 N c fun e=>G8 N (a.take 3) b e false fun f=>cond ((decide (f>=0))==true) (cond (ble 3 a.length) (D2 N d fun g=>G8 N (a.take 3) b g false fun h=>r0 (cond true (decide (h<=0)) false)) none) (r0 false)) none)
def FI:=(Ak (@LC R)).1
def LD:@FI R=@LC R:=(Ak _).2
def pZ:=Ce N 32 [S5 N,Z2 N] Eg (fun
|[.pagg a b,.int .i64 c,.int .i64 d],[]=>some fun _ k=>FI N a b c d (Cm k)
| _,_=>none) fun _ _=>by split;intro R F;dsimp only;rw[LD];kernel_rfl;trivial
def Gd(r0:Bool->O R)(q r ah ai:Int)(f:Bool)(g:LA)(h:Nat)(s a:Bool)(i:LA)(j:Nat)(t b l:Bool)(m:LA)(n:Nat)(u c:Bool)(o:LA)(p:Nat)(v d:Bool)(e w:LA):O R:=(Au .i64 (e.drop 2) fun ap=>Au .i64 (e.drop 3) fun aq=>Au .i64 (e.drop 2) fun ar=>Rf N q (wrap .i64 ((wrap .i64 (3*(wrap .i64 (aq - ar))))+1)) fun au=>iz N (wrap .i64 ((wrap .i64 (3*ap))+au)) 3 fun al=>cond ((beq 0 0)&&((beq al.length 3)&&(beq 3 3))) (Au .i64 (e.drop 16) fun av=>Rf N r (wrap .i64 ((wrap .i64 (3*av))+1)) fun aw=>iz N aw 3 fun am=>cond ((beq 0 0)&&((beq am.length 3)&&(beq 3 3))) (cond (ble 3 al.length) (cond (ble 3 am.length) (Vs N (al.take 3) false (am.take 3) false fun ax=>FI N ax false ah ai fun ay=>cond (!ay) (r0 true) (cond (ble 22 e.length) (cond (ble 3 al.length) (cond (ble 3 am.length) (LB N (e.take 22) false (al.take 3) false (am.take 3) false [.bool f,.imm g h 1 false a,.imm i j 1 false b] (a||(b||false)) [.bool l,.imm m n 1 false c,.imm o p 1 false d] (c||(d||false)) fun az=>cond (ble 3 w.length) (G8 N az false (w.take 3) false fun ba=>r0 (decide (ba<=0))) none) none) none) none)) none) none) none) none)
def Fe(r0:Bool->O R)(q r ab x af:Int)(f:Bool)(g:LA)(h:Nat)(s a:Bool)(i:LA)(j:Nat)(t b l:Bool)(m:LA)(n:Nat)(u c:Bool)(o:LA)(p:Nat)(v d:Bool)(e w:LA)(q3:Int->Int->O R)(ah ai:Int):O R:=(cond (af != 0) (cond ((ab==0)==true) (cond ((cond true (x==0) false)==true) (cond (ble 3 w.length) (KS N (w.take 3) false fun bb=>r0 (cond true (bb==0) false)) none) (r0 false)) (r0 false)) (Au .i64 (e.drop 2) fun bc=>cond ((decide (ab<bc))==false) (cond ((cond false true (decide (x<0)))==false) (Au .i64 (e.drop 16) fun bd=>cond ((cond false true (decide (x>bd)))==false) (cond ((cond false true (decide ((wrap .i64 (ab+x))<ah)))==false) (cond ((cond false true (decide ((wrap .i64 (ab+x))>ai)))==false) (cond (ble 3 w.length) (cond (ble 22 e.length) (D2 N ab fun be=>D2 N x fun bf=>LB N (e.take 22) false be false bf false [.bool f,.imm g h 1 false a,.imm i j 1 false b] (a||(b||false)) [.bool l,.imm m n 1 false c,.imm o p 1 false d] (c||(d||false)) fun bg=>G8 N (w.take 3) false bg false fun bh=>cond (cond false true (bh != 0)) (r0 false) (q3 ah ai)) none) none) (r0 false)) (r0 false)) (r0 false)) (r0 false)) (r0 false)))
def Cz(r0:Bool->O R)(q r ab x af:Int)(f:Bool)(g:LA)(h:Nat)(s a:Bool)(i:LA)(j:Nat)(t b l:Bool)(m:LA)(n:Nat)(u c:Bool)(o:LA)(p:Nat)(v d:Bool)(e w:LA)(ah ai:Int):O R:=Fe N r0 q r ab x af f g h s a i j t b l m n u c o p v d e w (fun ah ai=>Gd N r0 q r ah ai f g h s a i j t b l m n u c o p v d e w) ah ai
def Jj(r0:Bool->O R)(q r:Int)(f:Bool)(g:LA)(h:Nat)(s a:Bool)(i:LA)(j:Nat)(t b l:Bool)(m:LA)(n:Nat)(u c:Bool)(o:LA)(p:Nat)(v d:Bool)(e:LA)(q2:Int->Int->Int->LA->Int->Int->O R)(aj ak:Int):O R:=(cond (ble 22 e.length) (ew N (e.take 22) false aj ak [.bool f,.imm g h 1 false a,.imm i j 1 false b] (a||(b||false)) [.bool l,.imm m n 1 false c,.imm o p 1 false d] (c||(d||false)) fun ab x w af=>cond ((beq 0 0)&&((beq w.length 3)&&(beq 3 3))) (Au .i64 (e.drop 2) fun an=>Au .i64 (e.drop 3) fun ao=>Zc N fun bi=>cond ((!bi)==false) (cond ((cond false true (!((af==0)==(decide ((Qm aj an)<=(E2 ak ao))))))==false) (cond ((af != 0)==true) (cond (cond false true (cond true (af != 7) false)) (r0 false) (q2 ab x af w (Qm aj an) (E2 ak ao))) (q2 ab x af w (Qm aj an) (E2 ak ao))) (r0 false)) (r0 false)) none) none)
def D5(r0:Bool->O R)(q r:Int)(f:Bool)(g:LA)(h:Nat)(s a:Bool)(i:LA)(j:Nat)(t b l:Bool)(m:LA)(n:Nat)(u c:Bool)(o:LA)(p:Nat)(v d:Bool)(e:LA)(aj ak:Int):O R:=Jj N r0 q r f g h s a i j t b l m n u c o p v d e (fun ab x af w=>Cz N r0 q r ab x af f g h s a i j t b l m n u c o p v d e w) aj ak
def Jk(r0:Bool->O R)(ac:LA)(y:Nat)(ag ad:Bool)(z aa q r:Int)(ae f:Bool)(g:LA)(h:Nat)(s a:Bool)(i:LA)(j:Nat)(t b l:Bool)(m:LA)(n:Nat)(u c:Bool)(o:LA)(p:Nat)(v d:Bool)(q1:LA->Int->Int->O R):O R:=(ee N ac y false ad fun e bs=>cond ((beq 0 0)&&((beq e.length 22)&&(beq 22 22))) (cond ae (Au .i64 (e.drop 2) fun bj=>Au .i64 (e.drop 3) fun bk=>Au .i64 (e.drop 2) fun bl=>Rf N z (wrap .i64 ((wrap .i64 (bk - bl))+6)) fun bm=>Au .i64 (e.drop 2) fun bn=>Au .i64 (e.drop 3) fun bo=>Au .i64 (e.drop 2) fun bp=>Rf N aa (wrap .i64 ((wrap .i64 (bo - bp))+6)) fun bq=>q1 e (wrap .i64 ((wrap .i64 (bj - 3))+bm)) (wrap .i64 ((wrap .i64 (bn - 3))+bq))) (q1 e z aa)) none)
def Ge(r0:Bool->O R)(ac:LA)(y:Nat)(ag ad:Bool)(z aa q r:Int)(ae f:Bool)(g:LA)(h:Nat)(s a:Bool)(i:LA)(j:Nat)(t b l:Bool)(m:LA)(n:Nat)(u c:Bool)(o:LA)(p:Nat)(v d:Bool):O R:=Jk N r0 ac y ag ad z aa q r ae f g h s a i j t b l m n u c o p v d fun e=>D5 N r0 q r f g h s a i j t b l m n u c o p v d e
def Hw(r0:Bool->O R)(q0:O R)(ac:LA)(y:Nat)(ag ad:Bool)(z aa:Int)(f:Bool)(g:LA)(h:Nat)(s a:Bool)(i:LA)(j:Nat)(t b l:Bool)(m:LA)(n:Nat)(u c:Bool)(o:LA)(p:Nat)(v d:Bool)(q r:Int)(ae:Bool):O R:=(cond ((decide ((y:Int)>200))==false) (gM N [.bool f,.imm g h 1 s a,.imm i j 1 t b,.bool l,.imm m n 1 u c,.imm o p 1 v d] 2 false true fun br=>cond (cond false true (!br)) (r0 true) q0) (r0 true))
def Jl:=(Ak fun N ac y ag ad z aa f g h s a i j t b l m n u c o p v d q r ae r0=>Hw (R:=R) N r0 (Ge N r0 ac y ag ad z aa q r ae f g h s a i j t b l m n u c o p v d) ac y ag ad z aa f g h s a i j t b l m n u c o p v d q r ae).1
def P3(ac y ag ad z aa f g h s a i j t b l m n u c o p v d q r ae r0):(@Jl R N ac y ag ad z aa f g h s a i j t b l m n u c o p v d q r ae r0)=(Hw N r0 (Ge N r0 ac y ag ad z aa q r ae f g h s a i j t b l m n u c o p v d) ac y ag ad z aa f g h s a i j t b l m n u c o p v d q r ae):=by rw[Jl,(Ak _).2]
def Qc:Hints:={H:=hK 1 (hJ [0,1,2,5,6,7,11,12] hL (hK 1 (hJ [1,2,5,6,11,12,17] hL (hK 2 (hJ [5,6,11,12,17,19,20,21,22,23,24] hL (hK 1 (hJ [5,6,11,12,17,21,23,24] hL hL)))))))}
def Tr:U6:=[yx N,xB N,rW N,xm N,lA N,i9 N,S5 N,ua N,Z2 N,zR N,MX N,pZ N]
def Gf(F:KF R):=L7 Tryz.f5 Qc (Tr N) [] N F
def HO(q r ah ai:Int)(f:Bool)(g:LA)(h:Nat)(s a:Bool)(i:LA)(j:Nat)(t b l:Bool)(m:LA)(n:Nat)(u c:Bool)(o:LA)(p:Nat)(v d:Bool)(e w:LA)(K:St->O R):=K ⟨[(5,iv q),(6,iv r),(11,op 0),(12,op 1),(17,op 2),(21,op 3),(23,iv ah),(24,iv ai)],hq [bN 0 [.bool f,.imm g h 1 s a,.imm i j 1 t b],bN 0 [.bool l,.imm m n 1 u c,.imm o p 1 v d],bQ 0 e,bQ 0 w]⟩
def HP(q r ab x af:Int)(f:Bool)(g:LA)(h:Nat)(s a:Bool)(i:LA)(j:Nat)(t b l:Bool)(m:LA)(n:Nat)(u c:Bool)(o:LA)(p:Nat)(v d:Bool)(e w:LA)(K:St->O R):=fun ah ai=>K ⟨[(5,iv q),(6,iv r),(11,op 0),(12,op 1),(17,op 2),(19,iv ab),(20,iv x),(21,op 3),(22,iv af),(23,iv ah),(24,iv ai)],hq [bN 0 [.bool f,.imm g h 1 s a,.imm i j 1 t b],bN 0 [.bool l,.imm m n 1 u c,.imm o p 1 v d],bQ 0 e,bQ 0 w]⟩
def HQ(q r:Int)(f:Bool)(g:LA)(h:Nat)(s a:Bool)(i:LA)(j:Nat)(t b l:Bool)(m:LA)(n:Nat)(u c:Bool)(o:LA)(p:Nat)(v d:Bool)(e:LA)(K:St->O R):=fun aj ak=>K ⟨[(1,iv aj),(2,iv ak),(5,iv q),(6,iv r),(11,op 0),(12,op 1),(17,op 2)],hq [bN 0 [.bool f,.imm g h 1 s a,.imm i j 1 t b],bN 0 [.bool l,.imm m n 1 u c,.imm o p 1 v d],bQ 0 e]⟩
def HR(ac:LA)(y:Nat)(ag ad:Bool)(z aa q r:Int)(ae f:Bool)(g:LA)(h:Nat)(s a:Bool)(i:LA)(j:Nat)(t b l:Bool)(m:LA)(n:Nat)(u c:Bool)(o:LA)(p:Nat)(v d:Bool)(K:St->O R):=K ⟨[(0,.imm ac y 1 ag ad),(1,iv z),(2,iv aa),(5,iv q),(6,iv r),(7,.bool ae),(11,op 0),(12,op 1)],hq [bN 0 [.bool f,.imm g h 1 s a,.imm i j 1 t b],bN 0 [.bool l,.imm m n 1 u c,.imm o p 1 v d]]⟩
def Z6(F:KF R)(q r ah ai f g h s a i j t b l m n u c o p v d e w):HO q r ah ai f g h s a i j t b l m n u c o p v d e w (Bc (Gf N F (pz 349525) []))=(Gd N (Cm F) q r ah ai f g h s a i j t b l m n u c o p v d e w):=by kernel_rfl
def Z7(F:KF R)(q r ab x af f g h s a i j t b l m n u c o p v d e w):HP q r ab x af f g h s a i j t b l m n u c o p v d e w (Bc (Gf N F (pz 21845) []))=(Cz N (Cm F) q r ab x af f g h s a i j t b l m n u c o p v d e w):=(Cg (Fe N (Cm F) q r ab x af f g h s a i j t b l m n u c o p v d e w) (oE fun ah ai=>(jW ..).trans (Z6 ..)):_)
def Z8(F:KF R)(q r f g h s a i j t b l m n u c o p v d e):HQ q r f g h s a i j t b l m n u c o p v d e (Bc (Gf N F (pz 341) []))=(D5 N (Cm F) q r f g h s a i j t b l m n u c o p v d e):=(Cg (Jj N (Cm F) q r f g h s a i j t b l m n u c o p v d e) (t7 fun ab x af w=>(jW ..).trans (Z7 ..)):_)
def Z9(F:KF R)(ac y ag ad z aa q r ae f g h s a i j t b l m n u c o p v d):HR ac y ag ad z aa q r ae f g h s a i j t b l m n u c o p v d (Bc (Gf N F (pz 21) []))=(Ge N (Cm F) ac y ag ad z aa q r ae f g h s a i j t b l m n u c o p v d):=(Cg (Jk N (Cm F) ac y ag ad z aa q r ae f g h s a i j t b l m n u c o p v d) (wg fun e=>(jW ..).trans (Z8 ..)):_)
def Ts:=Ce N 5 (Tr N) Qc (fun
|[.imm ac y 1 ag ad,.int .i64 z,.int .i64 aa,.agg [.bool f,.imm g h 1 s a,.imm i j 1 t b],.agg [.bool l,.imm m n 1 u c,.imm o p 1 v d],.int .i64 q,.int .i64 r,.bool ae],[]=>some fun _ k=>Jl N ac y ag ad z aa f g h s a i j t b l m n u c o p v d q r ae (Cm k)
| _,_=>none) fun _ _=>by split;intro R F;exact(Cg (Hw N (Cm F) · _ _ _ _ _ _ _ _ _ _ _ _ _ _ _ _ _ _ _ _ _ _ _ _ _ _ _) ((jW ..).trans (Z9 ..)):_).trans (P3 ..).symm;trivial
def Qd:=(Ts N).tw
def HS:oC Tryz.prog 5 (Qd N):=(Ts N).tok
end
end Gx
namespace Gx
open Go Go.Proofs
section
variable{R:Type}
def LF(x:RatD):take 3 x.av=x.av:=rfl
def b3(x:RatD):ble 3 (List.length x.av)=true:=rfl
def c3(x:RatD):((beq 0 0)&&((beq (List.length x.av) 3)&&(beq 3 3)))=true:=rfl
def Ae8(x:RatD):((beq (List.length x.av) 3)&&(true&&(!false)))=true:=rfl
def Abd(x y:RatD):setCells x.av 0 y.av=y.av:=rfl
section
variable{N:Nat}{X:O R}{K:LA->O R}{x y:RatD}{o o':Bool}{p q:Rat}
def jR(k:x.can p)(v:y.can q)(B:fit (8*(qm p+qm q)+40) N)(h:∀ d:RatD,d.can (p+q)->K d.av=X):T3 N x.av o y.av o' K=X:=by
 obtain⟨d,A,e⟩:=mY (R:=R) (N:=N) (o:=o) (o':=o') k.ok v.ok (by rw[k.m,v.m];exact B)
 rw[e];exact h d (by rw[k.q,v.q]at A;exact A)
def p8(k:x.can p)(v:y.can q)(B:fit (8*(qm p+qm q)+40) N)(h:∀ d:RatD,d.can (p - q)->K d.av=X):Zx N x.av o y.av o' K=X:=by
 obtain⟨d,A,e⟩:=mZ (R:=R) (N:=N) (o:=o) (o':=o') k.ok v.ok (by rw[k.m,v.m];exact B)
 rw[e];exact h d (by rw[k.q,v.q]at A;exact A)
def ZH(k:x.can p)(v:y.can q)(B:fit (8*(qm p+qm q)+40) N)(h:∀ d:RatD,d.can (p*q)->K d.av=X):N5 N x.av o y.av o' K=X:=by
 obtain⟨d,A,e⟩:=ZB (R:=R) (N:=N) (o:=o) (o':=o') k.ok v.ok (by rw[k.m,v.m];exact B)
 rw[e];exact h d (by rw[k.q,v.q]at A;exact A)
def K3{v:Int}(k:-9223372036854775808<=v/\v<=9223372036854775807)(hN:4<=N)(h:∀ d:RatD,d.can (v:Rat)->K d.av=X):Ca N v K=X:=by
 obtain⟨d,A,e⟩:=kw (R:=R) (N:=N) k hN
 rw[e];exact h d A
end
def Abe{q:Rat}:decide (q.num.sign<=0)=decide (q<=0):=by
 have e:q<=0↔q.num<=0:=by
  rw[Ani,<-Anp,Alo,Aod,Rat.neg_num];omega
 rw[decide_eq_decide,e]
 rcases Ak1 q.num 0 with h|h|h
 ·rw[Aii h];omega
 ·rw[h];simp
 ·rw[Ai4 h];omega
def qi{v:Int}(h:-9223372036854775808<=v/\v<=9223372036854775807):qm (v:Rat)<=2:=Adh (by omega)
def Dv:Rat->List SegD->Rat
|_,[]=>0
|Fi,s::r=>if Fi<=0 then 0 else(s.price:Rat)*(if Fi<=(s.width:Rat)then Fi else(s.width:Rat))+Dv (Fi - (if Fi<=(s.width:Rat)then Fi else(s.width:Rat))) r
def Ad6(l:List SegD):Prop:=∀ s∈l,-1048576<=s.width/\s.width<=1048576/\-1048576<=s.price/\s.price<=1048576
def RatD.is(x:RatD)(q:Rat)(m:Nat):Prop:=x.ok/\x.q=q/\x.m<=m
def RatD.can.is{x:RatD}{q:Rat}{m:Nat}(h:x.can q)(k:qm q<=m):x.is q m:=⟨h.ok,h.q,by rw[h.m];exact k⟩
def Abf:RatD:=⟨false,.nil,.nil⟩
def p9{m:Nat}:Abf.is 0 m:=by
 refine⟨⟨?_,?_⟩,?_,?_⟩
 ·intro x k;simp[Abf,LS.l]at k
 ·intro x k;simp[Abf,LS.l]at k
 ·simp[Abf,RatD.q,LS.l,At,val]
 ·simp[Abf,RatD.m,LS.l]
def RatD.is.qm{x:RatD}{q:Rat}{m:Nat}(h:x.is q m):qm q<=m+1:=by
 have:=PI x h.1
 rw[h.2.1]at this;have:=h.2.2;omega
section
variable{N:Nat}{X:O R}{K:LA->O R}{K':Int->O R}{x y:RatD}{o o':Bool}{p q:Rat}{m n:Nat}
def Abg(k:x.is p m)(v:y.is q n)(B:fit (8*(m+n)+40) N)(h:∀ d:RatD,d.can (p - q)->K d.av=X):Zx N x.av o y.av o' K=X:=by
 obtain⟨d,A,e⟩:=mZ (R:=R) (N:=N) (o:=o) (o':=o') k.1 v.1 (B.le (by have:=k.2.2;have:=v.2.2;omega))
 rw[e];exact h d (by rw[k.2.1,v.2.1]at A;exact A)
def Aek(k:x.is p m)(v:y.is q n)(A:fit (4*(m+n)+10) N):N7 N x.av o y.av o' K'=K' (Z4 p q):=by rw[kz k.1 v.1 (A.le (by have:=k.2.2;have:=v.2.2;omega)),k.2.1,v.2.1]
def Abh(k:x.is p m)(v:y.is q n)(A:fit (16*(m+n)+100) N):G8 N x.av o y.av o' K'=K' (Z4 p q):=by rw[KV k.1 v.1 (A.le (by have:=k.2.2;have:=v.2.2;omega)),k.2.1,v.2.1]
def Adn(k:x.is p m)(v:y.is q n)(A:fit (16*(m+n)+100) N):Za N x.av o y.av o' K=K (en (p - q)).av:=by rw[jH k.1 v.1 (A.le (by have:=k.2.2;have:=v.2.2;omega)),k.2.1,v.2.1];rfl
def Abi(k:x.is p m)(v:y.is q n)(A:fit (16*(m+n)+80) N):Vs N x.av o y.av o' K=K (en (p+q)).av:=by rw[jG k.1 v.1 (A.le (by have:=k.2.2;have:=v.2.2;omega)),k.2.1,v.2.1];rfl
def Abj(k:x.is p m)(v:y.is q n)(A:fit (16*(m+n)+80) N):Y9 N x.av o y.av o' K=K (en (p*q)).av:=by rw[uV k.1 v.1 (A.le (by have:=k.2.2;have:=v.2.2;omega)),k.2.1,v.2.1];rfl
def Afz(k:x.is p m)(v:y.is q n)(A:fit (16*(m+n)+100) N):VD N x.av o y.av o' K=K (en (if p<=q then p else q)).av:=by rw[uW k.1 v.1 (A.le (by have:=k.2.2;have:=v.2.2;omega)),k.2.1,v.2.1];rfl
def cR{v:Int}(k:-9223372036854775808<=v/\v<=9223372036854775807)(hN:4000<=N):D2 N v K=K (en (v:Rat)).av:=jI k hN
end
def Lx{q:Rat}{m:Nat}(h:qm q<=m):(en q).is q m:=(eo q).is h
def Ael{v:Int}(h:-9223372036854775808<=v/\v<=9223372036854775807):(en (v:Rat)).is v 2:=Lx (qi h)
def Ado{p q:Rat}:decide (Z4 p q>=0)=decide (q<=p):=by
 rw[decide_eq_decide];unfold Z4
 by_cases h:p<q
 ·rw[if_pos h];simp[Amp.2 h]
 ·rw[if_neg h];have:=Amq.1 h;simp only[this,iff_true];split<;>omega
def zd{p q:Rat}:decide (Z4 p q<=0)=decide (p<=q):=by rw[decide_eq_decide];exact pV
def Af0(p:Rat)(lo hi:Int):Bool:=decide ((lo:Rat)<=p)&&decide (p<=(hi:Rat))
def sU{N:Nat}{K:Bool->O R}{x:RatD}{p:Rat}{m:Nat}{o:Bool}{lo hi:Int}(k:x.is p m)(v:-9223372036854775808<=lo/\lo<=9223372036854775807)(A:-9223372036854775808<=hi/\hi<=9223372036854775807)(B:fit (16*(m+2)+100) N)(hN:4000<=N):FI N x.av o lo hi K=K (Af0 p lo hi):=by
 rw[LD];unfold LC
 rw[b3,ct,LF,cR v hN,Abh k (Ael v) B,Ado,cR A hN,Abh k (Ael A) B,zd]
 unfold Af0;cases decide ((lo:Rat)<=p)<;>rfl
end
end Gx
namespace Gx
open Go Go.Proofs
section
variable{R:Type}
def PK:Rat->List SegD->Rat
|_,[]=>0
|Fi,s::r=>(if Fi<=(s.width:Rat)then Fi else(s.width:Rat))*(s.price:Rat)+PK (Fi - (if Fi<=(s.width:Rat)then Fi else(s.width:Rat))) r
def jS:∀{l:List SegD},(∀ s∈l,0<=s.width)->PK 0 l=0
|[],_=>rfl
| s::r,h=>by
  have k:(0:Rat)<=(s.width:Rat):=by
   have:=h s (by simp);exact_mod_cast this
  rw[PK,if_pos k,Rat.zero_mul,Alx,jS fun s hs=>h s (by simp[hs]),Ana]
def sV:∀{l:List SegD}{p:Rat},(∀ s∈l,0<=s.width)->0<=p->PK p l=Dv p l
|[],_,_,_=>rfl
| s::r,p,h,v=>by
  have A:(0:Rat)<=(s.width:Rat):=by
   have:=h s (by simp);exact_mod_cast this
  rw[Dv]
  by_cases k:p<=0
  ·have:p=0:=Alh k v
   subst this
   rw[if_pos Akb,jS h]
  ·rw[if_neg k,PK,Rat.mul_comm,sV (fun s hs=>h s (by simp[hs]))]
   split
   ·rw[Alx];exact Akb
   ·rename_i hn
    exact(Ani _ _).1 (Amj (Amp.1 hn))
def ze{N:Nat}{K:LA->O R}{u:UnitD}{d:Bool}{A:Nat}(hl:Ad6 u.segs.l)(h8:u.segs.l.length<=8)(hA:2<=A)(D:fit (200*A+12000) N)(hN:4000<=N):∀(m j fuel:Nat)(p q:Rat),j+m=u.segs.l.length->m<fuel->qm p<=A+3*j->qm q<=2+j*(A+31) ->
  F9 N K d u.av fuel (j:Int) (en p).av (en q).av=K (en (q+PK p (u.segs.l.drop j))).av:=by
 intro m
 induction m with
|zero =>
  intro j fuel p q hj G _ _
  obtain⟨fuel,rfl⟩:∃ k,fuel=k+1:=⟨fuel - 1,by omega⟩
  rw[F9];unfold Nx
  rw[u4,K4 (by omega),cf,Gh (l:=u.segs.l) (by omega),PK,Ana];rfl
| succ m ih =>
  intro j fuel p q hj G hp hq
  obtain⟨fuel,rfl⟩:∃ k,fuel=k+1:=⟨fuel - 1,by omega⟩
  rw[F9];unfold Nx
  have h:j<u.segs.l.length:=by omega
  have I:j<=8:=by omega
  have hr:=hl u.segs.l[j] (Ahu h)
  have hjA:j*(A+31)<=8*(A+31):=Ahp _ I
  rw[u4,Jy h,ct]
  simp only[b3,LF,ct,u4]
  rw[Ab h,ct,pL h,Av,cR (by omega) hN]
  have L:=qi (v:=u.segs.l[j].width) (by omega)
  have T:=qi (v:=u.segs.l[j].price) (by omega)
  rw[Afz (Lx hp) (Lx L) (D.le (by omega))]
  rw[Eh h,PK]
  generalize C:(if p<=(u.segs.l[j].width:Rat)then p else(u.segs.l[j].width:Rat))=part
  have B:qm part<=A+3*j:=by rw[<-C];split<;>omega
  simp only[b3,LF,c3,ct]
  rw[show ∀ r:LA,drop 1 ((AV.int .i64 u.segs.l[j].width)::(AV.int .i64 u.segs.l[j].price)::r)=(AV.int .i64 u.segs.l[j].price)::r from fun _=>rfl,Av,cR (by omega) hN]
  rw[Abj (Lx B) (Lx T) (D.le (by omega))]
  have V:qm (part*(u.segs.l[j].price:Rat))<=2+(A+3*j):=by have:=Kj part (u.segs.l[j].price:Rat);omega
  rw[Abi (Lx hq) (Lx V) (D.le (by omega))]
  rw[Ae8,ct,Adn (Lx hp) (Lx B) (D.le (by omega)),Ae8,ct,Abd,Abd,wS (by omega)]
  have Y:qm (q+part*(u.segs.l[j].price:Rat))<=2+(j+1)*(A+31):=by
   have:=Rp q (part*(u.segs.l[j].price:Rat))
   rw[Ahv];omega
  have hqs:qm (p - part)<=A+3*(j+1):=by
   rw[<-C]
   split
   ·rw[Alx]
    have:qm ((0:Int):Rat)<=2:=qi (by omega)
    have e:((0:Int):Rat)=0:=rfl
    rw[e]at this;omega
   ·have:=T5 p (u.segs.l[j].width:Rat);omega
  rw[ih (j+1) fuel _ _ (by omega) (by omega) hqs Y,Rat.add_assoc]
def p_{N:Nat}{K:LA->O R}{u:UnitD}{x:RatD}{o o':Bool}{p:Rat}{m:Nat}(B:x.is p m)(C:Ad6 u.segs.l)(D:u.segs.l.length<=8)(G:-1048576<=u.min/\u.min<=1048576)(k:fit (200*(m+8)+12000) N)(hN:4000<=N):
  Tq N u.av o x.av o' K=K (en (PK (p - (u.min:Rat)) u.segs.l)).av:=by
 rw[G_];unfold Vx
 rw[b3,ct,LF,u2,cR (by omega) hN,Adn B (Ael (by omega)) (k.le (by omega)),jF,c3,ct,show cq 0=(en 0).av from rfl,c3,ct]
 have hq:qm (p - (u.min:Rat))<=m+4:=by have:=T5 p (u.min:Rat);have:=B.qm;have:=qi (v:=u.min) (by omega);omega
 have I:qm (0:Rat)<=2:=qi (v:=0) (by omega)
 have:=ze (K:=K) (d:=o) (A:=m+4) C D (by omega) (k.le (by omega)) hN u.segs.l.length 0 N (p - (u.min:Rat)) 0 (by omega) (by have:=k.1;omega) (by omega) (by omega)
 rw[Aid,Aod]at this
 exact this
def Rq{u:UnitD}{h:Int}(k:H5 u h=true):(0<=u.min/\u.min<=1048576)/\(0<=u.max/\u.max<=1048576)/\u.min<=u.max:=by
 simp only[H5,Aho,G6,decide_eq_true_eq]at k
 exact⟨k.2.2.1,k.2.2.2.1,k.2.2.2.2.2.2.2.1⟩
def Jm{u:UnitD}{h:Int}(k:H5 u h=true):u.segs.l.length<=8/\Dh (-1048576) u.segs.l=true/\K5 u.segs.l=u.max - u.min:=by
 simp only[H5,Aho]at k
 have:=k.2.2.2.2.2.2.2.2.2.2.2.2.2.2.2.1
 simpa[iM]using this
def ex:∀{l:List SegD}{p:Int},Dh p l=true->(∀ s∈l,1<=s.width/\s.width<=1048576/\-1048576<=s.price/\s.price<=1048576)
|[],_,_,_,hs=>by simp at hs
|a::r,p,h,s,hs=>by
  simp only[Dh,Aho,G6,decide_eq_true_eq]at h
  rcases Ah4.1 hs with rfl|hs
  ·omega
  ·exact ex h.2.2.2 s hs
def CA{u:UnitD}{h:Int}(k:H5 u h=true):Ad6 u.segs.l:=fun s hs=>by have:=ex (Jm k).2.1 s hs;omega
def VM{A:Nat}:∀(l:List SegD)(p:Rat),Ad6 l->2<=A->qm p<=A->qm (Dv p l)<=2+l.length*(A+3*l.length+31)
|[],p,_,_,_=>by
  have:qm (0:Rat)<=2:=qi (v:=0) (by omega)
  rw[Dv];simpa using this
| s::r,p,hs,hA,T=>by
  have hr:=hs s (by simp)
  have G:=qi (v:=s.width) (by omega)
  have I:=qi (v:=s.price) (by omega)
  have V:qm (0:Rat)<=2:=qi (v:=0) (by omega)
  rw[Dv]
  split
  ·omega
  ·generalize k:(if p<=(s.width:Rat)then p else(s.width:Rat))=part
   have C:qm part<=A:=by rw[<-k];split<;>omega
   have B:qm (p - part)<=A+3:=by
    rw[<-k];split
    ·rw[Alx];omega
    ·have:=T5 p (s.width:Rat);omega
   have L:=VM (A:=A+3) r (p - part) (fun s D=>hs s (by simp[D])) (by omega) B
   have Y:=Kj (s.price:Rat) part
   have h3:=Rp ((s.price:Rat)*part) (Dv (p - part) r)
   rw[Ah8]
   have:A+3+3*r.length+31=A+3*(r.length+1)+31:=by omega
   rw[this]at L
   rw[Ahv];omega
end
end Gx
namespace Gx
open Go Go.Proofs
def zf:Rat->List SegD->Bool×Rat
|_,[]=>(false,0)
|t,s::r=>cond (decide (0<=t)&&decide (t<(s.width:Rat))) (true,(s.price:Rat)) (zf (t - (s.width:Rat)) r)
def xn:Rat->List SegD->Bool×Rat
|_,[]=>(false,0)
|t,s::r=>cond (decide (0<t)&&decide (t<=(s.width:Rat))) (true,(s.price:Rat)) (xn (t - (s.width:Rat)) r)
def Aem(l:List SegD):Prop:=∀ s∈l,(0:Rat)<(s.width:Rat)
def zg:∀{l:List SegD}{t:Rat},Aem l->t<=0->(xn t l).1=false
|[],_,_,_=>rfl
|s::r,t,h,k=>by
  rw[xn,decide_eq_false (by grind),Amk,cond_false]
  exact zg (fun s hs=>h s (by simp[hs])) (by have:=h s (by simp);grind)
def jT(a b:Int):((a+b:Int):Rat)=(a:Rat)+(b:Rat):=Akz a b
def vd{p:Int}{l:List SegD}(h:Dh p l=true):Aem l:=fun s hs=>by
 have:=ex h s hs
 have k:(0:Int)<s.width:=by omega
 exact Rat.intCast_pos.2 k
def Ze{p:Int}{s:SegD}{r:List SegD}(h:Dh p (s::r)=true):(p:Rat)<=(s.price:Rat)/\Dh s.price r=true/\(0:Rat)<(s.width:Rat):=by
 have k:=vd h s (by simp)
 simp only[Dh,Aho,decide_eq_true_eq]at h
 exact⟨Akf.2 h.2.2.1,h.2.2.2,k⟩
def Zf{w:Rat}{s:SegD}{r:List SegD}{t:Rat}(v:w=(s.width:Rat))(A:0<=t)(B:t<=w):Dv t (s::r)=(s.price:Rat)*t:=by
 subst v
 rw[Dv]
 by_cases k:t<=0
 ·have:t=0:=Alh k A
  subst this;simp
 ·rw[if_neg k,if_pos B,Alx]
  have:Dv 0 r=0:=by cases r with
   |nil=>rfl
   |cons a b=>rw[Dv,if_pos Akb]
  rw[this,Ana]
def FJ{s:SegD}{r:List SegD}{t:Rat}(A:(0:Rat)<(s.width:Rat))(v:(s.width:Rat)<=t):Dv t (s::r)=(s.price:Rat)*(s.width:Rat)+Dv (t - (s.width:Rat)) r:=by
 rw[Dv,if_neg (by grind)]
 by_cases k:t<=(s.width:Rat)
 ·have:t=(s.width:Rat):=Alh k v
  rw[if_pos k,this]
 ·rw[if_neg k]
def mh(l:List SegD):Dv 0 l=0:=by cases l with
|nil=>rfl
|cons a b=>rw[Dv,if_pos Akb]
def ve:∀{l:List SegD}{p:Int}{t:Rat},Dh p l=true->0<=t->t<=(K5 l:Rat)->(p:Rat)*t<=Dv t l
|[],p,t,_,k,v=>by
  have:t=0:=Alh (by simpa[K5]using v) k
  subst this;simp[Dv]
| s::r,p,t,h,k,v=>by
  obtain⟨A,hr,B⟩:=Ze h
  by_cases C:t<=(s.width:Rat)
  ·rw[Zf rfl k C];exact Akx A k
  ·have D:(s.width:Rat)<=t:=by grind
   rw[FJ B D]
   rw[K5,jT]at v
   have G:=ve hr (t:=t - (s.width:Rat)) (by grind) (by grind)
   have:=Akx A k
   grind
def Aco:∀{l:List SegD}{p:Int}{t:Rat},Dh p l=true->(zf t l).1=true->(p:Rat)<=(zf t l).2
|[],_,_,_,h=>by cases h
| s::r,p,t,h,k=>by
  obtain⟨A,hr,B⟩:=Ze h
  rw[zf]at k ⊢
  cases v:(decide (0<=t)&&decide (t<(s.width:Rat)))with
  |true=>rw[v]at k;simpa using A
  |false =>
   rw[v]at k
   have:=Aco hr k
   simp only[cond_false]
   grind
def Acp:∀{l:List SegD}{p:Int}{t:Rat},Dh p l=true->(xn t l).1=true->(p:Rat)<=(xn t l).2
|[],_,_,_,h=>by cases h
| s::r,p,t,h,k=>by
  obtain⟨A,hr,B⟩:=Ze h
  rw[xn]at k ⊢
  cases v:(decide (0<t)&&decide (t<=(s.width:Rat)))with
  |true=>rw[v]at k;simpa using A
  |false =>
   rw[v]at k
   have:=Acp hr k
   simp only[cond_false]
   grind
def sW:∀{l:List SegD}{p:Int}{t s:Rat},Dh p l=true->0<=t->t<s->s<=(K5 l:Rat)->(zf t l).1=true/\(zf t l).2*(s - t)<=Dv s l - Dv t l
|[],p,t,s,_,k,D,v=>by simp[K5]at v;grind
| a::r,p,t,s,h,k,D,v=>by
  obtain⟨I,hr,A⟩:=Ze h
  rw[K5,jT]at v
  rw[zf]
  by_cases B:t<(a.width:Rat)
  ·rw[decide_eq_true k,decide_eq_true B]
   refine⟨rfl,?_⟩
   show(a.price:Rat)*(s - t)<=_
   rw[Zf rfl k (Amj B)]
   by_cases G:s<=(a.width:Rat)
   ·rw[Zf rfl (by grind) G];grind
   ·rw[FJ A (by grind)]
    have:=ve hr (t:=s - (a.width:Rat)) (by grind) (by grind)
    grind
  ·rw[decide_eq_false B,Als,cond_false,FJ A (show(a.width:Rat)<=t by grind),FJ A (show(a.width:Rat)<=s by grind)]
   have C:=sW hr (t:=t - (a.width:Rat)) (s:=s - (a.width:Rat)) (by grind) (by grind) (by grind)
   exact⟨C.1,by have:=C.2;grind⟩
def jU:∀{l:List SegD}{p:Int}{t s:Rat},Dh p l=true->0<=s->s<t->t<=(K5 l:Rat)->(xn t l).1=true/\(xn t l).2*(s - t)<=Dv s l - Dv t l
|[],p,t,s,_,v,D,A=>by simp[K5]at A;grind
| a::r,p,t,s,h,v,D,A=>by
  obtain⟨V,hr,C⟩:=Ze h
  rw[K5,jT]at A
  rw[xn]
  by_cases B:t<=(a.width:Rat)
  ·rw[decide_eq_true (show 0<t by grind),decide_eq_true B]
   refine⟨rfl,?_⟩
   show(a.price:Rat)*(s - t)<=_
   rw[Zf rfl (by grind) B,Zf rfl v (by grind)];grind
  ·rw[decide_eq_false B,Als,cond_false,FJ C (show(a.width:Rat)<=t by grind)]
   by_cases G:(a.width:Rat)<=s
   ·rw[FJ C G]
    have k:=jU hr (t:=t - (a.width:Rat)) (s:=s - (a.width:Rat)) (by grind) (by grind) (by grind)
    exact⟨k.1,by have:=k.2;grind⟩
   ·have I:s<=(a.width:Rat):=by grind
    rw[Zf rfl v I]
    have k:=jU hr (t:=t - (a.width:Rat)) (s:=0) Akb (by grind) (by grind)
    refine⟨k.1,?_⟩
    have L:=Acp hr k.1
    have Y:=Akx L (show 0<=(a.width:Rat) - s by grind)
    have T:=k.2
    rw[mh]at T
    grind
def Acq:∀{l:List SegD}{p:Int}{t:Rat},Dh p l=true->(xn t l).1=true->(zf t l).1=true->(xn t l).2<=(zf t l).2
|[],_,_,_,h,_=>by cases h
| a::r,p,t,h,k,A=>by
  obtain⟨C,hr,D⟩:=Ze h
  rw[xn]at k ⊢
  rw[zf]at A ⊢
  by_cases B:t<(a.width:Rat)
  ·by_cases v:0<t
   ·rw[decide_eq_true v,decide_eq_true (show t<=(a.width:Rat) by grind),decide_eq_true (show 0<=t by grind),decide_eq_true B]
    exact Akb
   ·exfalso
    rw[decide_eq_false v,Amk,cond_false,zg (vd hr) (by grind)]at k;cases k
  ·rw[decide_eq_false B,Als,cond_false]at A ⊢
   by_cases v:t<=(a.width:Rat)
   ·rw[decide_eq_true (show 0<t by grind),decide_eq_true v]
    exact Aco hr A
   ·rw[decide_eq_false v,Als,cond_false]at k ⊢
    exact Acq hr k A
end Gx
namespace Gx.Uo
open Go Go.Proofs
def xo{l:List SegD}{p:Int}(h:Dh p l=true):Conc (fun t=>-Dv t l) 0 (K5 l:Rat):=by
 have key:∀ x z s:Rat,0<=x->x<=(K5 l:Rat)->0<=z->z<=(K5 l:Rat)->0<=s->s<=1->x<z->(1 - s)*-Dv x l+s*-Dv z l<=-Dv ((1 - s)*x+s*z) l:=fun x z s v B C A G I T=>by
  by_cases V:s=0
  ·subst V;rw[show(1 - (0:Rat))*x+0*z=x by grind];grind
  by_cases e1:s=1
  ·subst e1;rw[show(1 - (1:Rat))*x+1*z=z by grind];grind
  have Y:0<s:=by grind
  have s1:0<1 - s:=by grind
  have L:0<z - x:=by grind
  have a1:0<s*(z - x):=Rat.mul_pos Y L
  have a2:0<(1 - s)*(z - x):=Rat.mul_pos s1 L
  generalize D:(1 - s)*x+s*z=m
  have m1:x<m:=by grind
  have m2:m<z:=by grind
  obtain⟨b1,b2⟩:=sW h (t:=m) (s:=z) (by grind) m2 A
  obtain⟨c1,c2⟩:=jU h (t:=m) (s:=x) v m1 (by grind)
  have lh:=Acq h c1 b1
  generalize (zf m l).2=g at *
  generalize (xn m l).2=k at *
  have d1:=ml lh (show 0<=m - x by grind)
  have d2:g*(x - m)<=Dv x l - Dv m l:=by grind
  have d3:=ml d2 (show 0<=1 - s by grind)
  have d4:=ml b2 (show 0<=s by grind)
  have d5:(1 - s)*(g*(x - m))+s*(g*(z - m))=0:=by rw[<-D];grind
  grind
 intro x z s v B C A G I
 by_cases e:x<z
 ·exact key x z s v B C A G I e
 ·by_cases e2:z<x
  ·have:=key z x (1 - s) C A v B (by grind) (by grind) e2
   rw[show(1 - (1 - s))*z+(1 - s)*x=(1 - s)*x+s*z by grind]at this
   show(1 - s)*-Dv x l+s*-Dv z l<=-Dv ((1 - s)*x+s*z) l
   grind
  ·have:x=z:=by grind
   subst this
   show(1 - s)*-Dv x l+s*-Dv x l<=-Dv ((1 - s)*x+s*x) l
   rw[show(1 - s)*x+s*x=x by grind];grind
def Conc.shift{f:F1}{a b c:Rat}(h:Conc f a b):Conc (fun x=>f (x - c)) (a+c) (b+c):=fun x z s A B C D k v=>by
 have:=h (x - c) (z - c) s (by grind) (by grind) (by grind) (by grind) k v
 rw[show(1 - s)*(x - c)+s*(z - c)=(1 - s)*x+s*z - c by grind]at this
 exact this
def jV(mn:Int)(l:List SegD):F1:=fun x=>-Dv (x - mn) l
def xp:List SegD->Int->Rat->Uw->Uw
|[],_,_,L=>L
|s::r,x,v,L=>xp r (x+s.width) (v - s.width*s.price) (CK L (x+s.width) (v - s.width*s.price))
def zh{f:F1}{a:Int}:∀(r:List SegD)(p x:Int)(v:Rat)(L:Uw),Dh p r=true->Upto f L a x->(∀ t:Rat,0<=t->t<=(K5 r:Rat)->f (x+t)=v - Dv t r)->Upto f (xp r x v L) a (x+K5 r)
|[],_,x,_,L,_,u,_=>by rw[xp,K5,Int.add_zero];exact u
| s::r,p,x,v,L,h,u,A=>by
  obtain⟨_,k,B⟩:=Ze h
  have D:0<s.width:=Aky.1 B
  have sw:(K5 (s::r):Rat)=(s.width:Rat)+(K5 r:Rat):=by rw[K5,Akz]
  have sr:(0:Rat)<=(K5 r:Rat):=by
   have:∀(r:List SegD)(p:Int),Dh p r=true->(0:Rat)<=(K5 r:Rat):=by
    intro r
    induction r with
    |nil=>intro _ _;exact Akb
    |cons a r G =>
     intro p h
     obtain⟨_,k,B⟩:=Ze h
     have:=G _ k
     rw[K5,Akz];grind
   exact this r _ k
  have fw:f ((x+s.width:Int):Rat)=v - s.width*s.price:=by
   rw[Akz,A _ (by grind) (by grind),Zf rfl (by grind) Akb];grind
  have u2:=u.add (x:=x+s.width) (by omega) ⟨-(s.price:Rat),v+s.price*x,fun t I C=>by
   rw[Akz]at C
   have:=A (t - x) (by grind) (by grind)
   rw[Zf (w:=s.width) rfl (by grind) (by grind)]at this
   rw[show(x:Rat)+(t - x)=t by grind]at this
   rw[this];grind⟩
  rw[fw]at u2
  have:=zh r s.price (x+s.width) (v - s.width*s.price) _ k u2 fun t I C=>by
   have:=A (s.width+t) (by grind) (by grind)
   rw[FJ B (by grind),show(s.width:Rat)+t - s.width=t by grind]at this
   rw[Akz,show(x:Rat)+s.width+t=x+(s.width+t) by grind,this];grind
  rw[xp,K5,show x+(s.width+K5 r)=x+s.width+K5 r by omega]
  exact this
def xq{mn mx p:Int}{l:List SegD}(h:Dh p l=true)(hs:K5 l=mx - mn):Upto (jV mn l) (xp l mn 0 [(mn,0)]) mn mx/\Conc (jV mn l) mn mx:=by
 have z:jV mn l mn=0:=by unfold jV;rw[show(mn:Rat) - mn=0 by grind,mh];grind
 constructor
 ·have u0:Upto (jV mn l) [(mn,0)] mn mn:=by
   have:=Cv.one (jV mn l) mn
   rw[z]at this
   exact⟨this,rfl,rfl⟩
  have:=zh l p mn 0 [(mn,0)] h u0 fun t _ _=>by unfold jV;rw[show(mn:Rat)+t - mn=t by grind];grind
  rwa [hs,show mn+(mx - mn)=mx by omega]at this
 ·have:=(xo h).shift (c:=mn)
  rw[hs,Ai8,show((mx:Rat) - mn)+mn=mx by grind,show(0:Rat)+mn=mn by grind]at this
  exact this
end Gx.Uo
namespace Gx.Uo
def xr(w:Rat)(rs lo hi:Int)(x:Rat):Rat:=if 0<w then mn rs (hi - x)else mx 0 (lo - x)
def jf(w:Rat)(rs lo hi x:Int):Int:=if 0<w then V_ rs (hi - x)else Xx 0 (lo - x)
def zi{w:Rat}{rs lo hi x:Int}:((jf w rs lo hi x:Int):Rat)=xr w rs lo hi x:=by
 unfold jf xr
 split
 ·rw[Agk,Ai8]
 ·rw[Af4,Ai8];rfl
def sX(e w:Rat)(C:F1)(rs lo hi:Int):F1:=fun x=>e*x+C x+w*xr w rs lo hi x
def Adp{e w:Rat}{C:F1}{cL:Uw}{mi k rs lo hi:Int}(u:Upto C cL mi k){p q:Int}(A:mi<=p)(pq:p<=q)(B:q<=k)(v:∀ t∈[lo,hi - rs]++cL.map (·.1),t<=p\/q<=t):Lin (sX e w C rs lo hi) p q:=by
 have l1:=(Lin.of e 0 p q).add (u.cv.between (by rw[u.fst];exact Nm A) (Nm pq) (by rw[u.lst];exact Nm B) fun z D=>(v z.1 (by simp;exact .inr (.inr ⟨_,D⟩))).imp Nm Nm)
 have l2:Lin (xr w rs lo hi) p q:=by
  by_cases G:0<w
  ·rcases v (hi - rs) (by simp)with h|h
   ·have:=Nm h;rw[Ai8]at this
    exact(Lin.of (-1) hi p q).congr fun x x1 x2=>by unfold xr mn;grind
   ·have:=Nm h;rw[Ai8]at this
    exact(Lin.of 0 rs p q).congr fun x x1 x2=>by unfold xr mn;grind
  ·rcases v lo (by simp)with h|h
   ·have:=Nm h
    exact(Lin.of 0 0 p q).congr fun x x1 x2=>by unfold xr mx;grind
   ·have:=Nm h
    exact(Lin.of (-1) lo p q).congr fun x x1 x2=>by unfold xr mx;grind
 exact(l1.add (Lin.smul w l2)).congr fun x _ _=>by unfold sX;grind
def Acr{e w:Rat}{C:F1}{cL:Uw}{mi k rs lo hi:Int}(u:Upto C cL mi k)(A:mi<=lo)(B:lo<=hi)(D:hi<=k)(G:0<=rs):Upto (sX e w C rs lo hi) (RU (sX e w C rs lo hi) (NA (Xx mi (lo - rs)) hi ([lo,hi - rs]++cL.map (·.1)))) (Xx mi (lo - rs)) hi:=by
 have a:Xx mi (lo - rs)<=hi/\mi<=Xx mi (lo - rs):=by unfold Xx;split<;>omega
 exact(uv a.1).built a.1 fun p q I pq L v=>Adp u (by omega) pq (by omega) v
def Abk{e w:Rat}{C:F1}{L:Uw}{mi rs lo hi:Int}(u:Upto (sX e w C rs lo hi) L (Xx mi (lo - rs)) hi){a b:Rat}(a0:(mi:Rat)<=a)(v:0<=b)(A:b<=rs)(t0:(lo:Rat)<=a+b)(t1:a+b<=hi):e*a+C a+w*b<=sX e w C rs lo hi (RV 0 L:Int):=by
 have k:((Xx mi (lo - rs):Int):Rat)<=a:=by rw[Af4,Ai8];unfold mx;grind
 have:=(u.pk 0).2.2 a k (by grind)
 have B:w*b<=w*xr w rs lo hi a:=by
  by_cases D:0<w
  ·refine ml ?_ (by grind)
   unfold xr mn;grind
  ·have:-w*xr w rs lo hi a<=-w*b:=ml (by unfold xr mx;grind) (by grind)
   grind
 have e1:sX e w C rs lo hi a=e*a+C a+w*xr w rs lo hi a:=rfl
 grind
def Aen{w:Rat}{mi rs lo hi x:Int}(k:0<=rs)(v:lo<=hi)(x0:Xx mi (lo - rs)<=x)(x1:x<=hi):mi<=x/\0<=jf w rs lo hi x/\jf w rs lo hi x<=rs/\lo<=x+jf w rs lo hi x/\x+jf w rs lo hi x<=hi:=by
 have a:mi<=Xx mi (lo - rs)/\lo - rs<=Xx mi (lo - rs):=by unfold Xx;split<;>omega
 unfold jf V_ Xx
 split<;>split<;>omega
end Gx.Uo
namespace Gx
open Go Go.Proofs
section
variable{R:Type}
def zj(x:RatD):Bool:=decide (x.ns.l.length<=4)&&decide (x.ds.l.length<=4)
def Abl(l:List RatD):Bool:=decide (l.length<=30)&&l.all zj
def jX{l:List RatD}{j:Nat}(h:j<l.length):drop ((Int.toNat (j:Int))*3) (l.flatMap RatD.av)=l[j].av++(l.drop (j+1)).flatMap RatD.av:=by rw[Ahm,A7 (e:=RatD.av) (sz:=3) (fun _=>rfl) _ _ h]
def Aeo{x:RatD}{r:LA}{f:LA->Nat->O R}:Bv 1 (drop 1 (x.av++r)) f=f (Ac x.ns.l) x.ns.l.length:=by rw[show drop 1 (x.av++r)=x.ns.av::x.ds.av::r from rfl,jC]
def Aep{x:RatD}{r:LA}{f:LA->Nat->O R}:Bv 1 (drop 2 (x.av++r)) f=f (Ac x.ds.l) x.ds.l.length:=by rw[show drop 2 (x.av++r)=x.ds.av::r from rfl,jC]
def sY{N:Nat}{l:List RatD}{d e:Bool}{K:Bool->O R}(A:l.length<=1000):∀(m j fuel:Nat),j+m=l.length->m<fuel ->
  Q6 N K (l.flatMap RatD.av) l.length d e fuel (j:Int)=K ((l.drop j).all zj)
|0,j,fuel+1,B,_=>by
  rw[Q6];unfold DO
  rw[K4 (by omega),cf,Gh (by omega),Ak8]
| m+1,j,fuel+1,B,C=>by
  rw[Q6];unfold DO
  have h:j<l.length:=by omega
  rw[Jy h,ct,Ab h,ct,jX h,Aeo,ct,Aep,wS (by omega),sY A m (j+1) fuel (by omega) (by omega),Eh h,Aji]
  generalize (drop (j+1) l).all zj=t
  unfold zj
  by_cases k:l[j].ns.l.length<=4
  ·rw[show(decide ((l[j].ns.l.length:Int)>4)==false)=true by simp;omega,ct,decide_eq_true k]
   by_cases v:l[j].ds.l.length<=4
   ·rw[show decide ((l[j].ds.l.length:Int)>4)=false by simp;omega,Afh,cf,decide_eq_true v];cases t<;>rfl
   ·rw[show decide ((l[j].ds.l.length:Int)>4)=true by simp;omega,decide_eq_false v];cases t<;>rfl
  ·rw[show(decide ((l[j].ns.l.length:Int)>4)==false)=false by simp;omega,cf,decide_eq_false k];rfl
def zk{N:Nat}{l:List RatD}{n:Nat}{d e:Bool}{K:Bool->O R}(hn:n=l.length)(hN:1000<=N):gM N (l.flatMap RatD.av) n d e K=K (Abl l):=by
 subst hn
 rw[gN];unfold e_ Abl
 by_cases h:l.length<=30
 ·rw[show decide ((l.length:Int)>30)=false by simp;omega,cf,decide_eq_true h,Al6]
  have:=sY (N:=N) (l:=l) (d:=d) (e:=e) (K:=K) (by omega) l.length 0 N (by omega) (by omega)
  rw[Aid]at this;exact this
 ·rw[show decide ((l.length:Int)>30)=true by simp;omega,ct,decide_eq_false h];rfl
end
end Gx
namespace Gx.Uo
open Go Go.Proofs
section
variable{R:Type}{N:Nat}{X:O R}
def VOk(V:List RatD)(L:Uw):Prop:=V.length=L.length/\∀ i (h:i<V.length) (h':i<L.length),V[i].can L[i].2
def Jn(L:Uw):List Int:=L.map (·.1)
structure PB(M:Nat)(L:Uw):Prop where
 x:∀ p∈L,-10000000<=p.1/\p.1<=10000000
 q:∀ p∈L,qm p.2<=M
 n:L.length<=30000000
def sZ{n k:Nat}(h:k<=n)(hn:n<=1000000000000):wrap .i64 ((n:Int) - (k:Int))=((n - k:Nat):Int):=by rw[Bi _ (by omega)];omega
def Adq{l:List Int}{j:Nat}(h:j<l.length){f:Int->O R}:Au .i64 (drop (0+((Int.toNat (j:Int))*1)) (Ap l)) f=f l[j]:=by rw[Ah0];exact J5 h
def Agh{V:List RatD}{j:Nat}(h:j<V.length):take 3 (drop (0+(Int.toNat (j:Int))*3) (V.flatMap RatD.av))=V[j].av:=by rw[Ah0,jX h];rfl
def Aeq{V:List RatD}{j:Nat}(h:j<V.length):ble 3 (drop (0+(Int.toNat (j:Int))*3) (V.flatMap RatD.av)).length=true:=by rw[Ah0,jX h];rfl
def zl{p q:Rat}:(Z4 p q==0)=decide (p=q):=by
 rw[Akk,beq_iff_eq,decide_eq_true_eq]
 unfold Z4
 constructor
 ·intro h;split at h
  ·cases h
  ·split at h
   ·cases h
   ·grind
 ·rintro rfl;simp[Rat.lt_irrefl]
def Adr{V:List RatD}{n:Nat}(h:n<=V.length):(V.flatMap RatD.av).take (n*3)=(V.take n).flatMap RatD.av:=by
 induction V generalizing n with
|nil=>simp
| cons a r k =>
  cases n with
  |zero=>simp
  |succ n =>
   rw[Aie,Alc,Aie,List.take_append,show(n+1)*3 - a.av.length=n*3 by show(n+1)*3 - 3=_;omega,k (by simpa using h),Ahi (by show 3<=_;omega)]
def Acs(V:List RatD):(V.flatMap RatD.av).length=V.length*3:=by
 induction V with
|nil=>rfl
|cons a r k=>rw[Aie,Ahy,k,Ah8];show 3+_=_;omega
def VOk.snoc{V:List RatD}{L:Uw}(h:VOk V L){d:RatD}{x:Int}{v:Rat}(k:d.can v):VOk (V++[d]) (L++[(x,v)]):=by
 refine⟨by simp[h.1],fun i A B=>?_⟩
 by_cases hi:i<V.length
 ·rw[Aif hi,Aif (by rw[<-h.1];exact hi)];exact h.2 i hi _
 ·have:i=V.length:=by simp at A;omega
  subst this
  rw[Ajz (by omega),Ajz (by rw[h.1];omega)]
  simpa using k
def VOk.take{V:List RatD}{L:Uw}(h:VOk V L)(n:Nat):VOk (V.take n) (L.take n):=by
 refine⟨by rw[Ah3,Ah3,h.1],fun i k v=>?_⟩
 rw[Ah3]at k v
 rw[Ajj,Ajj];exact h.2 i (by omega) (by omega)
def YN{K:Nat->Nat->LA->Bool->LA->O R}{x:Int}{v:Rat}{d:RatD}{g e:Bool}{L:Uw}{V:List RatD}{n:Nat}(hV:VOk V L)(k:d.can v)(hn:n<=L.length)(B:L.length<=30000000)
  (h:∀ V',VOk V' (L.take n++[(x,v)])->K (L.take n++[(x,v)]).length (L.take n++[(x,v)]).length (Ap (Jn (L.take n++[(x,v)]))) (e||(g||false)) (V'.flatMap RatD.av)=X) :
  F6 N K x (Ap (Jn L)) e (V.flatMap RatD.av) g d.av n n=X:=by
 have hV1:=hV.1
 unfold F6
 rw[show ble (n+1) 140737488355328=true by rw[Aj4];omega,show ble ((n+1)*8) 140737488355328=true by rw[Aj4];omega,show ble ((n+1)*56) 140737488355328=true by rw[Aj4];omega]
 show K (n+1) (n+1) ((Ap (Jn L)).take (n*1)++[.int .i64 x]) (e||(g||false)) ((V.flatMap RatD.av).take (n*3)++d.av)=X
 have:=h (V.take n++[d]) ((hV.take n).snoc k)
 have e1:(L.take n++[(x,v)]).length=n+1:=by rw[Ahy,Ah3];simp;omega
 have A:Ap (Jn (L.take n++[(x,v)]))=(Ap (Jn L)).take (n*1)++[.int .i64 x]:=by
  unfold Jn Ap;simp[Anv]
 have e3:(V.take n++[d]).flatMap RatD.av=(V.flatMap RatD.av).take (n*3)++d.av:=by
  rw[Ame,Adr (by omega)];simp
 rw[e1,A,e3]at this
 exact this
def Acu{K:Nat->Nat->LA->Bool->LA->O R}{x:Int}{v:Rat}{d:RatD}{g e:Bool}{L:Uw}{V:List RatD}{M:Nat}(hV:VOk V L)(B:d.can v)(hP:PB M L)(hv:qm v<=M)(hx:-10000000<=x/\x<=10000000)(A:fit (100*M+1000) N)
  (h:∀ V',VOk V' (CK L x v)->K (CK L x v).length (CK L x v).length (Ap (Jn (CK L x v))) (e||(g||false)) (V'.flatMap RatD.av)=X) :
  Gs N x d.av g L.length L.length (Ap (Jn L)) e (V.flatMap RatD.av) K=X:=by
 have C:=hP.n;have hV1:=hV.1
 rw[Uq];unfold Mp
 by_cases T:2<=L.length
 ·have i1:L.length - 1<L.length:=by omega
  have i2:L.length - 2<L.length:=by omega
  have xl:(Jn L).length=L.length:=Ajx ..
  have x1:(Jn L)[L.length - 1]'(by omega)=L[L.length - 1].1:=Aj3 ..
  have x2:(Jn L)[L.length - 2]'(by omega)=L[L.length - 2].1:=Aj3 ..
  have b1:=hP.x _ (Ahu i1);have b2:=hP.x _ (Ahu i2)
  have q1:=hP.q _ (Ahu i1);have q2:=hP.q _ (Ahu i2)
  have c1:=hV.2 (L.length - 1) (by omega) i1;have Y:=hV.2 (L.length - 2) (by omega) i2
  have w1:wrap .i64 ((L.length:Int) - 1)=((L.length - 1:Nat):Int):=sZ (k:=1) (by omega) (by omega)
  have w2:wrap .i64 ((L.length:Int) - 2)=((L.length - 2:Nat):Int):=sZ (k:=2) (by omega) (by omega)
  have wx:wrap .i64 (x - L[L.length - 1].1)=x - L[L.length - 1].1:=Bi _ (by omega)
  have wy:wrap .i64 (L[L.length - 1].1 - L[L.length - 2].1)=L[L.length - 1].1 - L[L.length - 2].1:=Bi _ (by omega)
  rw[decide_eq_true (show((L.length:Int)>=2) by omega),ct,w1,w2,Ab i1,ct,Ab i2,ct,Aeq (by omega),ct,Aeq (by omega),ct,Agh (by omega),Agh (by omega)]
  have s1:=T5 L[L.length - 1].2 L[L.length - 2].2
  have s2:=T5 v L[L.length - 1].2
  have t1:=qi (v:=x - L[L.length - 1].1) (by omega)
  have t2:=qi (v:=L[L.length - 1].1 - L[L.length - 2].1) (by omega)
  have m1:=Kj (L[L.length - 1].2 - L[L.length - 2].2) ((x - L[L.length - 1].1:Int):Rat)
  have m2:=Kj (v - L[L.length - 1].2) ((L[L.length - 1].1 - L[L.length - 2].1:Int):Rat)
  refine p8 c1 Y (A.le (by omega)) fun a ha=>?_
  rw[Adq (by omega),x1,wx]
  refine K3 (by omega) (by have:=A.1;omega) fun b hb=>?_
  refine ZH ha hb (A.le (by omega)) fun c hc=>?_
  rw[c3,ct,LF,b3,ct]
  refine p8 B c1 (A.le (by omega)) fun a' D=>?_
  rw[Adq (by omega),x1,ct,Adq (by omega),x2,wy]
  refine K3 (by omega) (by have:=A.1;omega) fun b' G=>?_
  refine ZH D G (A.le (by omega)) fun c' I=>?_
  rw[c3,ct,b3,ct,b3,ct,LF,LF,Aek (hc.is (m:=2*M+100) (by omega)) (I.is (m:=2*M+100) (by omega)) (A.le (by omega)),zl]
  have ea:su L x v=decide ((L[L.length - 1].2 - L[L.length - 2].2)*((x - L[L.length - 1].1:Int):Rat)=(v - L[L.length - 1].2)*((L[L.length - 1].1 - L[L.length - 2].1:Int):Rat)):=by
   unfold su;rw[dif_pos T,Ai8,Ai8];rfl
  rw[<-ea]
  unfold CK at h
  cases hA:su L x v with
  |true =>
   rw[hA]at h
   rw[ct,decide_eq_true (show(0:Int)<=0 by omega),decide_eq_true (show(0:Int)<=((L.length - 1:Nat):Int) by omega),decide_eq_true (show((L.length - 1:Nat):Int)<=(L.length:Int) by omega),decide_eq_true (show(L.length:Int)<=(L.length:Int) by omega)]
   rw[show(if true=true then L.take (L.length - 1)else L)=L.take (L.length - 1)from rfl]at h
   exact YN (N:=N) (n:=L.length - 1) hV B (by omega) C h
  |false =>
   rw[hA]at h
   rw[cf]
   rw[show(if false=true then L.take (L.length - 1)else L)=L from rfl]at h
   refine YN (N:=N) hV B (Ahl _) C ?_
   rw[Aic];exact h
 ·rw[decide_eq_false (show ¬ ((L.length:Int)>=2) by omega),cf]
  refine YN (N:=N) hV B (Ahl _) C ?_
  have:CK L x v=L.take L.length++[(x,v)]:=by
   unfold CK su;rw[dif_neg T];simp
  rw[<-this];exact h
def mj(L:Uw)(V:List RatD)(j:Bool):LA:=[.imm (Ap (Jn L)) L.length 1 false false,.imm (V.flatMap RatD.av) L.length 3 false j]
def VN(L:Uw)(x:Int)(v:Rat):(CK L x v).length<=L.length+1:=by unfold CK;split<;>simp<;>omega
def s5{L:Uw}{x:Int}{v:Rat}{p:Int×Rat}(h:p∈CK L x v):p∈L\/p=(x,v):=by
 unfold CK at h
 rcases Ahz.1 h with h|h
 ·left;split at h
  ·exact Ak4 h
  ·exact h
 ·right;simpa using h
def PB.add{M:Nat}{L:Uw}{x:Int}{v:Rat}(h:PB M L)(B:qm v<=M)(C:-10000000<=x/\x<=10000000)(hn:L.length<30000000):PB M (CK L x v):=by
 refine⟨fun p k=>?_,fun p k=>?_,by have:=VN L x v;omega⟩
 ·rcases s5 k with A|rfl
  ·exact h.x _ A
  ·exact C
 ·rcases s5 k with A|rfl
  ·exact h.q _ A
  ·exact B
def CB(l:List Int):(Ap l).length=l.length:=by unfold Ap;simp
def zm(L:Uw):(Ap (Jn L)).take (L.length*1)=Ap (Jn L):=Ahi (by rw[CB];unfold Jn;simp)
def zn{L:Uw}{V:List RatD}(h:VOk V L):(V.flatMap RatD.av).take (L.length*3)=V.flatMap RatD.av:=Ahi (by rw[Acs,h.1];omega)
def Abm{w p:Int}(h:-1048576<=w/\w<=1048576/\-1048576<=p/\p<=1048576):-1099511627776<=w*p/\w*p<=1099511627776:=by
 have k:=Ajw w p
 have v:w.natAbs*p.natAbs<=1048576*1048576:=Ajh (by omega) (by omega)
 omega
def vf{K:LA->Bool->O R}{u:UnitD}{M:Nat}(D:Ad6 u.segs.l)(I:u.segs.l.length<=8)(hM:2<=M)(B:fit (100*M+1000) N):∀(m j fuel:Nat)(x c:Int)(L:Uw)(V:List RatD)(d:RatD),j+m=u.segs.l.length->m<fuel->d.can (c:Rat)->VOk V L->PB M L->L.length<=j+1 ->
  -1048576*((j:Int)+1)<=x->x<=1048576*((j:Int)+1)->-2000000000000*(j:Int)<=c->c<=2000000000000*(j:Int) ->
  (∀ V',VOk V' (xp (u.segs.l.drop j) x c L)->PB M (xp (u.segs.l.drop j) x c L)->K (mj (xp (u.segs.l.drop j) x c L) V' false) false=X) ->
  Db N K (u.segs.l.flatMap SegD.av) u.segs.l.length false fuel x (u.segs.l.length:Int) (j:Int) L.length L.length d.av (Ap (Jn L)) false (V.flatMap RatD.av)=X
|0,j,fuel+1,x,c,L,V,d,T,_,G,hV,hP,hL,_,_,_,_,h=>by
  rw[Db];unfold Hu
  rw[K4 (by omega),cf,zm,zn hV]
  have:=h V
  rw[Gh (by omega),xp]at this
  exact this hV hP
|m+1,j,fuel+1,x,c,L,V,d,T,Y,G,hV,hP,hL,x1,x2,c1,c2,h=>by
  rw[Db];unfold Hu
  have k:j<u.segs.l.length:=by omega
  have hr:=D u.segs.l[j] (Ahu k)
  rw[Jy k,ct,Ab k,ct,pL k]
  have p0:take 2 ((AV.int .i64 u.segs.l[j].width)::(AV.int .i64 u.segs.l[j].price)::(u.segs.l.drop (j+1)).flatMap SegD.av)=[.int .i64 u.segs.l[j].width,.int .i64 u.segs.l[j].price]:=rfl
  rw[p0,show ble 2 (List.length ((AV.int .i64 u.segs.l[j].width)::(AV.int .i64 u.segs.l[j].price)::(u.segs.l.drop (j+1)).flatMap SegD.av))=true by simp,ct]
  rw[show((!false)||A4 [AV.int .i64 u.segs.l[j].width,.int .i64 u.segs.l[j].price])=true from rfl,ct]
  rw[show((beq (List.length [AV.int .i64 u.segs.l[j].width,.int .i64 u.segs.l[j].price]) 2)&&((ble 2 2)&&(!false)))=true from rfl,ct]
  rw[pM,b3,ct,pM]
  simp only[pN]
  have iw:=qi (v:=u.segs.l[j].width) (by omega)
  have ip:=qi (v:=u.segs.l[j].price) (by omega)
  have hp:=Abm hr
  have ic:=qi (v:=c) (by omega)
  have m1:=Kj (u.segs.l[j].width:Rat) (u.segs.l[j].price:Rat)
  refine K3 (by omega) (by have:=B.1;omega) fun a ha=>?_
  refine K3 (by omega) (by have:=B.1;omega) fun b hb=>?_
  refine ZH ha hb (B.le (by omega)) fun e he=>?_
  rw[LF]
  refine p8 G he (B.le (by omega)) fun d' A=>?_
  rw[<-Amb,<-Ai8]at A
  rw[Ae8,ct,Abd,b3,ct,LF,Bi _ (by omega),wS (by omega)]
  have C:qm ((c - u.segs.l[j].width*u.segs.l[j].price:Int):Rat)<=M:=Aje (qi (by omega)) hM
  refine Acu hV A hP C (by omega) B fun V' hV'=>?_
  refine vf D I hM B m (j+1) fuel _ _ _ V' d' (by omega) (by omega) A hV' (hP.add C (by omega) (by omega)) (by have:=VN L (x+u.segs.l[j].width) ((c - u.segs.l[j].width*u.segs.l[j].price:Int):Rat);omega) (by omega) (by omega) (by omega) (by omega) fun V2 h1 h2=>?_
  have:=h V2
  rw[Eh k,xp,<-Amb,<-Ai8]at this
  exact this h1 h2
def mo(u:UnitD):Uw:=xp u.segs.l u.min 0 [(u.min,0)]
def Aer{K:LA->Bool->O R}{u:UnitD}{M:Nat}(C:Ad6 u.segs.l)(D:u.segs.l.length<=8)(L:-1048576<=u.min/\u.min<=1048576)(hM:2<=M)(v:fit (100*M+1000) N)
  (h:∀ V,VOk V (mo u)->PB M (mo u)->K (mj (mo u) V false) false=X):J3 N u.av false K=X:=by
 rw[Ur];unfold Mq
 rw[u2]
 refine K3 (by omega) (by have:=v.1;omega) fun a G=>?_
 rw[show(beq (List.length a.av) 3&&ble 3 3)=true from rfl,ct,u2]
 refine K3 (by omega) (by have:=v.1;omega) fun b I=>?_
 rw[c3,ct,u4]
 have z2:qm ((0:Int):Rat)<=2:=qi (by omega)
 refine vf C D hM v u.segs.l.length 0 N u.min 0 [(u.min,((0:Int):Rat))] [a] b (by omega) (by have:=v.1;omega) I ⟨rfl,fun i A B=>?_⟩ ⟨fun p k=>?_,fun p k=>?_,by simp⟩ (by simp) (by omega) (by omega) (by omega) (by omega) fun V A B=>?_
 ·have:i=0:=by simp at A;omega
  subst this;exact G
 ·simp at k;subst k;show -10000000<=u.min/\u.min<=10000000;omega
 ·simp at k;subst k;show qm ((0:Int):Rat)<=M;omega
 ·rw[Aid]at A B;exact h V A B
def Ads{K:LA->O R}{ys:List Int}(B:1<=ys.length)(C:ys.length<=16777216)(hr:∀ t∈ys,-9223372036854775808<=t/\t<=9223372036854775807)(h:K (Ap (KW ys))=X):H7 N ys.length (Ap ys) K=X:=by
 rw[Et];unfold Ey
 have e1:(Ap ys).take ys.length=Ap ys:=Ahi (by rw[CB];omega)
 have k:(Ap ys).drop ys.length=[]:=Aim (by rw[CB];omega)
 have e3:(Ap ys).all pY=true:=by
  rw[Aku];unfold Ap;intro x v
  obtain⟨t,A,rfl⟩:=Aio.1 v
  have:=hr t A
  show(decide _&&decide _)=true
  rw[decide_eq_true this.1,decide_eq_true this.2];rfl
 have e4:(Ap ys).map yH=ys:=by unfold Ap;rw[Akn];exact List.map_id _
 rw[e1,k,e3,e4,show ble 1 ys.length=true by rw[Aj4];omega,show ble ys.length 16777216=true by rw[Aj4];omega]
 rw[Aiy];exact h
def zo(ys:List Int):(KW ys).Pairwise (·<=·):=by
 have:=List.pairwise_mergeSort (le:=fun x y:Int=>decide (x<=y)) (fun a b c k v=>by simp at *;omega) (fun a b=>by simp;omega) ys
 exact this.imp fun h=>by simpa using h
def xt{ys:List Int}{t:Int}:t∈KW ys↔t∈ys:=List.mem_mergeSort
def ZI{ys:List Int}:(KW ys).length=ys.length:=Ang _
def Ae9{l:List Int}{j:Nat}(h:j<l.length){f:Int->O R}:Au .i64 (drop j (Ap l)) f=f l[j]:=by
 have:=Adq (R:=R) h (f:=f)
 rwa [Ahm,Ah0,Ah1]at this
def Asc.of{P:List Int}(h:P.Pairwise (·<·)):Asc P:=fun i hi=>Ai2.1 h i (i+1) (by omega) hi (by omega)
def Af1{K:Nat->LA->O R}{Q:Int->O R}{b:LA}{xs:List Int}(hs:xs.Pairwise (·<=·))(hN:xs.length<=30000000)
  (h:∀ P Fi,Asc P->(∀ t,t∈P↔t∈xs)->P.length<=xs.length->K P.length (Ap P++Fi)=X) {i:Nat} (hi:i<xs.length):∀(m f fuel:Nat)(P G:List Int),i+f+m=xs.length->m<fuel->1<=f->P.Pairwise (·<·)->(∀ t,t∈P↔t∈xs.take (i+f))->P.length<=i+f - 1->G.length=xs.length->G.take P.length=P->G.drop (i+f - 1)=xs.drop (i+f - 1) ->
  Bl N Q K xs.length b fuel (P.length:Int) i (xs.length - i) (f:Int) (Ap G)=X
|0,f,fuel+1,P,G,T,_,B,v,k,V,hG,hGt,hGd=>by
  rw[Bl];unfold Ew
  rw[K4 (by omega),cf,decide_eq_true (show(0:Int)<=P.length by omega),decide_eq_true (show(P.length:Int)<=(xs.length:Nat) by omega),decide_eq_true (show(xs.length:Int)<=(xs.length:Nat) by omega),decide_eq_true (show(0:Int)<=0 by omega)]
  show K P.length (C8 (Ap G) (0+P.length*1) _)=X
  unfold C8
  rw[Ah0,Ah1,Akc,show(Ap G).take P.length=Ap P by unfold Ap;rw[<-Anv,hGt]]
  refine h P _ (Asc.of v) (fun t=>?_) (by omega)
  rw[k t,Ahi (by omega)]
| m+1,f,fuel+1,P,G,T,Y,B,v,k,V,hG,hGt,hGd=>by
  rw[Bl];unfold Ew
  have C:G[i+f]'(by omega)=xs[i+f]:=by
   have:=congrArg (fun l=>l[1]?) hGd
   simp only[Ain]at this
   rw[show i+f - 1+1=i+f by omega,Ahk (by omega),Ahk (by omega)]at this
   exact Anb this
  have g0:G[i+f - 1]'(by omega)=xs[i+f - 1]:=by
   have:=congrArg (fun l=>l[0]?) hGd
   simp only[Ain]at this
   rw[Aiq,Ahk (by omega),Ahk (by omega)]at this
   exact Anb this
  have e0:wrap .i64 ((f:Int) - 1)=((f - 1:Nat):Int):=sZ B (by omega)
  have D:G.drop (i+(f+1) - 1)=xs.drop (i+(f+1) - 1):=by
   have:=congrArg (drop 1) hGd
   rw[List.drop_drop,List.drop_drop]at this
   rwa [show i+f - 1+1=i+(f+1) - 1 by omega]at this
  have tk:xs.take (i+(f+1))=xs.take (i+f)++[xs[i+f]]:=by rw[<-Ai1,Ah2 (by omega)]
  rw[Jy (by omega),ct,Ab (by omega),ct,Ahm,Ah1,Ae9 (by omega),e0,Ab (by omega),ct,Ahm,Ah1,show i+(f - 1)=i+f - 1 by omega,Ae9 (by omega),C,g0]
  have le1:xs[i+f - 1]<=xs[i+f]:=Ai2.1 hs _ _ (by omega) (by omega) (by omega)
  by_cases A:xs[i+f]=xs[i+f - 1]
  ·rw[show(xs[i+f] != xs[i+f - 1])=false by rw[A];simp,cf,wS (by omega)]
   refine Af1 hs hN h hi m (f+1) fuel P G (by omega) (by omega) (by omega) v (fun t=>?_) (by omega) hG hGt D
   rw[tk,k t,Ahz,Alk]
   constructor
   ·exact .inl
   ·rintro(h|rfl)
    ·exact h
    ·rw[A];exact Akj.2 ⟨i+f - 1,by omega,rfl⟩
  ·rw[show(xs[i+f] != xs[i+f - 1])=true by simp[A],ct,Ab (by omega),Ae9 (by omega),C,ct,CB,Ah0,Ahm,Ah1,show(beq 1 1&&(ble (P.length+1) G.length&&!false))=true by
    rw[show ble (P.length+1) G.length=true by rw[Aj4];omega];rfl,ct,wS (by omega),wS (by omega)]
   have es:(Ap G).set P.length (.int .i64 xs[i+f])=Ap (G.set P.length xs[i+f]):=by unfold Ap;rw[An9]
   have I:(P++[xs[i+f]]).length=P.length+1:=by simp
   rw[es,<-I]
   refine Af1 hs hN h hi m (f+1) fuel (P++[xs[i+f]]) _ (by omega) (by omega) (by omega) ?_ (fun t=>?_) (by omega) (by simpa using hG) ?_ ?_
   ·rw[Ak5]
    refine⟨v,by simp,fun t ht y L=>?_⟩
    rw[Alk]at L;subst L
    obtain⟨j,hj,rfl⟩:=Akj.1 ((k t).1 ht)
    by_cases ej:j=i+f - 1
    ·subst ej;omega
    ·have:=Ai2.1 hs j (i+f - 1) (by omega) (by omega) (by omega);omega
   ·rw[tk,Ahz,Ahz,k t]
   ·rw[I,List.take_set,Ah2 (by omega),hGt,Alz _ _ (Ahl _),Aoa];rfl
   ·rw[Anr (by omega)];exact D
def Agi{K:Nat->LA->O R}{xs:List Int}(hs:xs.Pairwise (·<=·))(hN:xs.length<=30000000)(hNN:40000000<=N)
  (h:∀ P Fi,Asc P->(∀ t,t∈P↔t∈xs)->P.length<=xs.length->K P.length (Ap P++Fi)=X):∀(m d fuel:Nat),d+m=xs.length->m<fuel->1<=d->(xs.take d).Pairwise (·<·) ->
  Ba N K xs.length (Ap xs) fuel (d:Int)=X
|0,d,fuel+1,D,_,A,k=>by
  rw[Ba];unfold Ex
  rw[K4 (by omega),cf]
  have:=h xs [] (Asc.of (by rwa [Ahi (by omega)]at k)) (fun t=>Iff.rfl) (Ahl _)
  rwa [Aiy]at this
| m+1,d,fuel+1,D,G,A,k=>by
  rw[Ba];unfold Ex
  have I:wrap .i64 ((d:Int) - 1)=((d - 1:Nat):Int):=sZ A (by omega)
  rw[Jy (by omega),ct,Ab (by omega),ct,Adq (by omega),I,Ab (by omega),ct,Adq (by omega)]
  have le1:xs[d - 1]<=xs[d]:=Ai2.1 hs _ _ (by omega) (by omega) (by omega)
  by_cases v:xs[d]=xs[d - 1]
  ·rw[show(xs[d]==xs[d - 1])=true by simp[v],ct,decide_eq_true (show(0:Int)<=(d:Int) by omega),decide_eq_true (show(d:Int)<=(xs.length:Int) by omega),decide_eq_true (show(xs.length:Int)<=(xs.length:Int) by omega)]
   show Bl N _ K xs.length (Ap xs) N (d:Int) (0+d*1) (xs.length - d) ((1:Nat):Int) (Ap xs)=X
   rw[Ah0,Ah1]
   have B:(xs.take d).length=d:=by rw[Ah3];omega
   have:=Af1 (N:=N) (Q:=Ba N K xs.length (Ap xs) fuel) (b:=Ap xs) hs hN h (i:=d) (by omega) m 1 N (xs.take d) xs (by omega) (by omega) (Ahl _) k (fun t=>by
    rw[Ah2 (by omega),Ahz,Alk]
    constructor
    ·exact .inl
    ·rintro(h|rfl)
     ·exact h
     ·rw[v];exact Akj.2 ⟨d - 1,by omega,rfl⟩) (by omega) rfl (by rw[B]) rfl
   rw[B]at this;exact this
  ·rw[show(xs[d]==xs[d - 1])=false by simp[v],cf,wS (by omega)]
   refine Agi hs hN hNN h m (d+1) fuel (by omega) (by omega) (by omega) ?_
   rw[Ah2 (by omega),Ak5]
   refine⟨k,by simp,fun t L y C=>?_⟩
   rw[Alk]at C;subst C
   obtain⟨j,T,rfl⟩:=Akj.1 L
   by_cases ej:j=d - 1
   ·subst ej;omega
   ·have:=Ai2.1 hs j (d - 1) (by omega) (by omega) (by omega);omega
def xu{K:Nat->LA->O R}{xs:List Int}(hs:xs.Pairwise (·<=·))(k:2<=xs.length)(hN:xs.length<=30000000)(hNN:40000000<=N)
  (h:∀ P Fi,Asc P->(∀ t,t∈P↔t∈xs)->P.length<=xs.length->K P.length (Ap P++Fi)=X):Dw N xs.length (Ap xs) K=X:=by
 rw[Oo];unfold G4
 rw[decide_eq_false (by omega),cf]
 refine Agi hs hN hNN h (xs.length - 1) 1 N (by omega) (by omega) (by omega) ?_
 match xs,k with
|a::r,_=>simp
end
end Gx.Uo
namespace Gx
open Go Go.Proofs
section
variable{R:Type}
def Abn(q:Rat):q*(q.den:Rat)=(q.num:Rat):=by
 have v:(q.den:Rat)≠0:=by
  have:=q.den_pos
  exact Aoc (Amc.2 this)
 have k:q=(q.num:Rat)/((q.den:Int):Rat):=by rw[<-Rat.divInt_eq_div,Rat.num_divInt_den]
 have A:((q.den:Int):Rat)=(q.den:Rat):=rfl
 rw[A]at k
 calc q*(q.den:Rat)=(q.num:Rat)/(q.den:Rat)*(q.den:Rat):=by rw[<-k]
  _=q.num:=Rat.div_mul_cancel v
end
end Gx
namespace Gx.Uo
open Go Go.Proofs
section
variable{R:Type}{N:Nat}{X:O R}
def Aes{y:RatD}{q:Rat}(h:y.can q)(C:q≠0):(⟨y.neg,y.ds,y.ns⟩:RatD).q=q⁻¹:=by
 have D:=q.den_pos
 have hn:q.num≠0:=fun e=>C (Ali.1 e)
 have G:=Abn q
 have hdR:(q.den:Rat)≠0:=Aoc (Amc.2 D)
 have e1:(⟨y.neg,y.ds,y.ns⟩:RatD).q=mkRat (if q.num<0 then -(q.den:Int)else(q.den:Int)) q.num.natAbs:=by
  show mkRat (At y.neg y.ds) (val y.ns.l)=_
  unfold At
  rw[h.1,h.2.1,h.2.2,Aj,Aj]
  by_cases v:q.num<0
  ·rw[decide_eq_true v,if_pos v,if_pos rfl]
  ·rw[decide_eq_false v,if_neg v,if_neg (by simp)]
 have k:(q.num.natAbs:Rat)≠0:=Aoc (Amc.2 (by omega))
 have I:mkRat (if q.num<0 then -(q.den:Int)else(q.den:Int)) q.num.natAbs*q=1:=by
  rw[Al5]
  by_cases v:q.num<0
  ·rw[if_pos v]
   have e3:(q.num.natAbs:Rat)=-(q.num:Rat):=by
    have B:(q.num.natAbs:Int)=-q.num:=by omega
    have A:((q.num.natAbs:Int):Rat)=((-q.num:Int):Rat):=by rw[B]
    rw[Rat.intCast_neg]at A
    exact A
   have e4:((-(q.den:Int):Int):Rat)=-(q.den:Rat):=by rw[Rat.intCast_neg];rfl
   rw[e4]
   rw[e3]at k ⊢
   rw[Ak7]
   have:=Aln _ k
   grind
  ·rw[if_neg v]
   have e3:(q.num.natAbs:Rat)=(q.num:Rat):=by
    have B:(q.num.natAbs:Int)=q.num:=by omega
    have A:((q.num.natAbs:Int):Rat)=(q.num:Rat):=by rw[B]
    exact A
   have e4:(((q.den:Int):Int):Rat)=(q.den:Rat):=rfl
   rw[e4]
   rw[e3]at k ⊢
   rw[Ak7]
   have:=Aln _ k
   grind
 rw[e1]
 have:=Aln q C
 grind
def Adt{K:LA->Bool->O R}{x y:RatD}{p q:Rat}{o:Bool}(A:x.can p)(k:y.can q)(D:q≠0)(G:fit (8*(qm p+qm q)+40) N)(h:∀ d:RatD,d.can (p/q)->K d.av true=X):pH N x.av o y.av false K=X:=by
 let v:RatD:=⟨y.neg,.of y.ds.l false false,.of y.ns.l false false⟩
 have B:v.m=qm q:=by rw[<-k.m];show max _ _=max _ _;exact Nat.max_comm _ _
 have C:v.q=q⁻¹:=Aes k D
 obtain⟨d,I,L⟩:=ZB (R:=R) (N:=N) (x:=x) (y:=v) (o:=o) (o':=(false||(false||false))) A.ok ⟨k.ok.2,k.ok.1⟩ (by rw[B,A.m];exact G)
 rw[C,A.q,<-Ak7]at I
 have hs:(q.num.sign==0)=false:=by
  rw[beq_eq_false_iff_ne];intro e
  exact D (Ali.1 (Amr.1 e))
 rw[gn];unfold pG
 rw[b3,ct,LF,Jh k.ok (G.le (by rw[k.m];omega)),k.q,hs,cf,b3,ct,LF]
 show X2 y.av _=_
 have T:∀ f:Bool->O R,X2 y.av f=f y.neg:=fun f=>rfl
 rw[T,eQ,xd]
 have e:([.bool y.neg,.imm (Ac y.ds.l) y.ds.l.length 1 false false,.imm (Ac y.ns.l) y.ns.l.length 1 false false]:LA)=v.av:=rfl
 rw[e,L];exact h d I
def Aet{a b:Int}{r0:Bool->O R}:Vi N a b r0=r0 (decide (a<b)):=by
 rw[BO];unfold Zy
 rw[Ps];unfold Pr
 rw[show(a != a)=false by simp];rfl
def pa{xs:List Int}{c:Int}{f g:Bool}{r0:Int->Bool->O R}(hs:xs.Pairwise (·<·))(hl:xs.length<=30000000)(T:∀ p (h:p<xs.length),xs[p]=c->r0 (p:Int) true=X)(I:∀ p:Nat,p<=xs.length->(∀ k (h:k<xs.length),k<p->xs[k]<c)->(∀ k (h:k<xs.length),p<=k->c<xs[k])->r0 (p:Int) false=X):
  ∀(fuel b i:Nat),b<=i->i<=xs.length->i - b<fuel->(∀ k (h:k<xs.length),k<b->xs[k]<c)->(∀ k (h:k<xs.length),i<=k->c<=xs[k]) ->
   Bo N r0 (Ap xs) xs.length f g c fuel (xs.length:Int) (b:Int) (i:Int)=X
|0,_,_,_,_,h,_,_=>by omega
| fuel+1,b,i,hbi,B,hfu,a1,a2=>by
  have mono:=Ai2.1 hs
  rw[Bo];unfold E6
  by_cases V:b<i
  ·have hw:wrap .i64 (Int.fdiv (wrap .u64 (wrap .i64 ((b:Int)+(i:Int)))) (2 ^ 1))=(((b+i)/2:Nat):Int):=by
    have e1:wrap .i64 ((b:Int)+(i:Int))=((b+i:Nat):Int):=by rw[Bi _ (by omega)];omega
    have e2:wrap .u64 ((b+i:Nat):Int)=((b+i:Nat):Int):=wrap_u64 _ (by omega)
    have e3:Int.fdiv ((b+i:Nat):Int) (2 ^ 1)=(((b+i)/2:Nat):Int):=by
     rw[Aml _ (by decide)];rfl
    rw[e1,e2,e3,Bi _ (by omega)]
   have L:(b+i)/2<xs.length:=by omega
   rw[Jy V,ct,hw,Ab L,ct,J5 L,Aet,wS (by omega)]
   by_cases A:xs[(b+i)/2]<c
   ·rw[decide_eq_true A,ct]
    refine pa hs hl T I fuel ((b+i)/2+1) i (by omega) B (by omega) (fun k G C=>?_) a2
    by_cases D:k=(b+i)/2
    ·subst D;exact A
    ·exact Int.lt_trans (mono k _ G L (by omega)) A
   ·rw[decide_eq_false A,cf]
    refine pa hs hl T I fuel b ((b+i)/2) (by omega) (by omega) (by omega) a1 (fun k G C=>?_)
    by_cases D:k=(b+i)/2
    ·subst D;omega
    ·have:=mono ((b+i)/2) k L G (by omega);omega
  ·have Y:b=i:=by omega
   subst Y
   rw[K4 (by omega),cf]
   by_cases v:b<xs.length
   ·rw[Jy v,show(true==true)=true from rfl,ct,Ab v,ct,J5 v]
    by_cases A:xs[b]=c
    ·rw[show((xs[b]==c)==false)=false by simp[A],cf];exact T b v A
    ·rw[show((xs[b]==c)==false)=true by simp[A],ct,ct,J5 v,BW]
     unfold Zz
     rw[show(xs[b] != xs[b])=false by simp]
     show r0 (b:Int) false=X
     refine I b B a1 fun k G C=>?_
     have:=a2 b v (Ahl _)
     by_cases e:k=b
     ·subst e;omega
     ·have:=mono b k v G (by omega);omega
   ·rw[K4 (by omega),show(false==true)=false from rfl,cf]
    exact I b B a1 fun k G C=>by omega
def Af2{xs:List Int}{c:Int}{n:Nat}{f g:Bool}{r0:Int->Bool->O R}(hs:xs.Pairwise (·<·))(hn:n=xs.length)(A:xs.length<=30000000)(hN:40000000<=N)(v:∀ p (h:p<xs.length),xs[p]=c->r0 (p:Int) true=X)(B:∀ p:Nat,p<=xs.length->(∀ k (h:k<xs.length),k<p->xs[k]<c)->(∀ k (h:k<xs.length),p<=k->c<xs[k])->r0 (p:Int) false=X):C5 N (Ap xs) n f g c r0=X:=by
 subst hn
 rw[J4];unfold D3
 exact pa hs A v B N 0 xs.length (Alr _) (Ahl _) (by omega) (fun k _ h=>by omega) (fun k v C=>by omega)
def Aeu{f:F1}{L:Uw}(c:Cv f L):(Jn L).Pairwise (·<·):=by
 rw[Ai2]
 intro i j hi v k
 unfold Jn at *
 rw[Aj3,Aj3]
 have A:j<L.length:=by simpa using v
 have:=c.lt i (by omega)
 have:=c.mono j (i+1) k A
 omega
def Adu{a:Rat}{v:Int}(h:0<v)(k:v<=9223372036854775807):qm (a/(v:Rat))<=qm a+2:=by
 have e:((v:Int):Rat)⁻¹=mkRat 1 v.toNat:=by
  rw[Al5,Ak7,show((v.toNat:Nat):Rat)=((v:Int):Rat)from congrArg (fun z:Int=>(z:Rat)) (show(v.toNat:Int)=v by omega)]
  show _=(1:Rat)*_
  rw[Rat.one_mul]
 rw[Ak7,e]
 have A:=Kj a (mkRat 1 v.toNat)
 have k:=v8 1 v.toNat 2 (by decide) (by omega) (by omega)
 omega
def zp{L:Uw}{V:List RatD}{j:Bool}{f:LA->Nat->O R}:Bv 1 (mj L V j) f=f (Ap (Jn L)) L.length:=rfl
def Abo{L:Uw}{V:List RatD}{j:Bool}{f:LA->Nat->O R}:Bv 3 (drop 1 (mj L V j)) f=f (V.flatMap RatD.av) L.length:=rfl
def Aev{V:List RatD}{j:Nat}(h:j<V.length):take 3 (drop ((Int.toNat (j:Int))*3) (V.flatMap RatD.av))=V[j].av:=by rw[jX h];rfl
def Abp{V:List RatD}{j:Nat}(h:j<V.length):ble 3 (drop ((Int.toNat (j:Int))*3) (V.flatMap RatD.av)).length=true:=by rw[jX h];rfl
def zq{K:LA->Bool->O R}{f:F1}{L:Uw}{V:List RatD}{M:Nat}{x:Int}{j c:Bool}(hV:VOk V L)(hP:PB M L)(B:Cv f L)(h0:(L[0]'(B.ne)).1<=x)(h1:x<=(L[L.length - 1]'(by have:=B.ne;omega)).1)(G:fit (100*M+1000) N)(hNN:40000000<=N)
  (h:∀(d:RatD)(o:Bool),d.can (f x)->K d.av o=X):Nh N (mj L V j) c x K=X:=by
 have Y:=B.ne
 have I:=hP.n;have hV1:=hV.1
 have xl:(Jn L).length=L.length:=Ajx ..
 have xg:∀ i (hi:i<L.length),(Jn L)[i]'(by omega)=L[i].1:=fun i hi=>Aj3 ..
 rw[Yz];unfold Xj
 rw[zp]
 refine Af2 (Aeu B) xl.symm (by omega) hNN (fun p C T=>?_) (fun p C a1 a2=>?_)
 ·rw[xl]at C
  rw[xg p C]at T
  rw[ct,Abo,Ab C,ct,Abp (by omega),ct,Aev (by omega),c3,ct,b3,ct,LF]
  have:=hV.2 p (by omega) C
  rw[<-B.val p C,T]at this
  exact h _ _ this
 ·rw[xl]at C
  have hp0:0<p:=by
   refine Nat.pos_of_ne_zero fun e=>?_
   have:=a2 0 (by omega) (by omega);rw[xg 0 Y]at this;omega
  have A:p<L.length:=by
   refine Al3 fun e=>?_
   have:=a1 (L.length - 1) (by omega) (by omega);rw[xg _ (by omega)]at this;omega
  have q1:=hP.q _ (Ahu A);have q0:=hP.q _ (Ahu (show p - 1<L.length by omega))
  have b1:=hP.x _ (Ahu A);have b0:=hP.x _ (Ahu (show p - 1<L.length by omega))
  have l1:=a2 p (by omega) (Ahl _);have l0:=a1 (p - 1) (by omega) (by omega)
  rw[xg _ (by omega)]at l1 l0
  have w1:wrap .i64 ((p:Int) - 1)=((p - 1:Nat):Int):=sZ (k:=1) (by omega) (by omega)
  have wx:wrap .i64 (L[p].1 - L[p - 1].1)=L[p].1 - L[p - 1].1:=Bi _ (by omega)
  have wy:wrap .i64 (x - L[p - 1].1)=x - L[p - 1].1:=Bi _ (by omega)
  have s1:=T5 L[p].2 L[p - 1].2
  have t1:=qi (v:=L[p].1 - L[p - 1].1) (by omega)
  have t2:=qi (v:=x - L[p - 1].1) (by omega)
  have D:((L[p].1 - L[p - 1].1:Int):Rat)≠0:=by
   intro e
   have e2:((L[p].1 - L[p - 1].1:Int):Rat)=((0:Int):Rat):=e
   have:=Rat.intCast_inj.1 e2;omega
  have m1:=Adu (a:=L[p].2 - L[p - 1].2) (v:=L[p].1 - L[p - 1].1) (by omega) (by omega)
  have m2:=Kj ((L[p].2 - L[p - 1].2)/((L[p].1 - L[p - 1].1:Int):Rat)) ((x - L[p - 1].1:Int):Rat)
  simp only[Abo,zp]
  rw[cf,Ab A,ct,Abp (by omega),ct,w1,Ab (by omega),ct,Abp (by omega),ct,Aev (by omega),Aev (by omega)]
  refine p8 (hV.2 p (by omega) A) (hV.2 (p - 1) (by omega) (by omega)) (G.le (by omega)) fun a ha=>?_
  rw[c3,ct,b3,ct,ct,J5 (by omega),ct,J5 (by omega),xg _ A,xg _ (by omega),wx]
  refine K3 (by omega) (by have:=G.1;omega) fun b hb=>?_
  rw[LF]
  refine Adt ha hb D (G.le (by omega)) fun e he=>?_
  rw[c3,ct,ct,ct,b3,ct,ct,J5 (by omega),xg _ (by omega),wy]
  refine K3 (by omega) (by have:=G.1;omega) fun b' hb'=>?_
  rw[LF]
  refine ZH he hb' (G.le (by omega)) fun g hg=>?_
  refine jR (hV.2 (p - 1) (by omega) (by omega)) hg (G.le (by omega)) fun r hr=>?_
  rw[c3,ct,b3,ct,LF]
  refine h r _ ?_
  have e1:=B.val p A;have e0:=B.val (p - 1) (by omega)
  obtain⟨m,q,I⟩:=B.lin (p - 1) (by omega)
  have ep:p - 1+1=p:=by omega
  simp only[ep]at I
  have k1:=eV l1;have k0:=eV l0
  have f1:=I L[p].1 (by grind) Akb
  have f0:=I L[p - 1].1 Akb (by grind)
  have fx:=I x (by grind) (by grind)
  rw[<-e1,<-e0,f1,f0]at hr
  rw[fx]
  rw[Ai8]at D
  rw[Ai8,Ai8,show m*(L[p].1:Rat)+q - (m*L[p - 1].1+q)=m*(L[p].1 - L[p - 1].1) by grind,show m*((L[p].1:Rat) - L[p - 1].1)/(L[p].1 - L[p - 1].1)=m by rw[Ak7,Anz,Aln _ D,Rat.mul_one]]at hr
  rwa [show m*(L[p - 1].1:Rat)+q+m*(x - L[p - 1].1)=m*x+q by grind]at hr
def vg{K:LA->O R}{x y:RatD}{p q:Rat}{m n:Nat}{o o':Bool}(k:x.is p m)(v:y.is q n)(B:fit (8*(m+n)+40) N)(h:∀ d:RatD,d.can (p*q)->K d.av=X):N5 N x.av o y.av o' K=X:=by
 obtain⟨d,A,e⟩:=ZB (R:=R) (N:=N) (o:=o) (o':=o') k.1 v.1 (B.le (by have:=k.2.2;have:=v.2.2;omega))
 rw[e];exact h d (by rw[k.2.1,v.2.1]at A;exact A)
def Abq{w:Rat}:decide (w.num.sign>0)=decide (0<w):=by
 have:=Abe (q:=w)
 rw[decide_eq_decide]at this ⊢
 rw[<-Amp,<-this];omega
def ey(a b:Int):E2 a b=V_ a b:=by
 unfold E2 V_
 by_cases h:b<a
 ·rw[decide_eq_true h,if_neg (by omega)];rfl
 ·rw[decide_eq_false h,if_pos (by omega)];rfl
def VO(a b:Int):Qm a b=Xx a b:=by
 unfold Qm Xx
 by_cases h:b>a
 ·rw[decide_eq_true h,if_pos (by omega)];rfl
 ·rw[decide_eq_false h]
  by_cases k:a<=b
  ·rw[if_pos k];show a=b;omega
  ·rw[if_neg k];rfl
def Aew{K:Int->O R}{c hi lo:Int}{d:RatD}{u:UnitD}{w:Rat}{m:Nat}{e g:Bool}(k:d.is w m)(v:fit m N)(A:-10000000<=c/\c<=10000000)(B:-10000000<=hi/\hi<=10000000)(C:-10000000<=lo/\lo<=10000000):
  To N c d.av e u.av g hi lo K=K (jf w u.reserve lo hi c):=by
 rw[GU];unfold EW
 rw[b3,ct,LF,Jh k.1 (v.le k.2.2),k.2.1,Abq,Ad3,Bi _ (by omega),Bi _ (by omega),ey,VO]
 unfold jf
 by_cases h:0<w
 ·rw[decide_eq_true h,ct,if_pos h]
 ·rw[decide_eq_false h,cf,if_neg h]
def Aex{K:LA->O R}{x hi lo:Int}{E W:RatD}{e w:Rat}{u:UnitD}{C:F1}{L:Uw}{V:List RatD}{M:Nat}{o1 o2 o3 j:Bool}{mi A:Int}(hE:E.is e M)(hW:W.is w M)(hV:VOk V L)(hP:PB M L)(B:Upto C L mi A)(x0:mi<=x)(x1:x<=A)(hr:0<=u.reserve/\u.reserve<=1048576)(hx:0<=x/\x<=1048576)(h2:0<=hi/\hi<=1048576)(h3:0<=lo/\lo<=1048576)(hC:qm (C x)<=M)(hM:2<=M)(k:fit (200*M+2000) N)(hNN:40000000<=N)
  (h:∀ d:RatD,d.can (sX e w C u.reserve lo hi x)->K d.av=X):If N x o1 E.av o2 (mj L V j) W.av o3 u.av hi lo K=X:=by
 rw[GY];unfold FG
 rw[b3,ct,LF]
 have ix:=qi (v:=x) (by omega)
 refine K3 (by omega) (by omega) fun a Y=>?_
 refine vg hE (Y.is ix) (k.le (by omega)) fun b hb=>?_
 rw[show ble 2 (List.length (mj L V j))=true from rfl,ct,show take 2 (mj L V j)=mj L V j from rfl]
 have qe:=hE.qm;have qw:=hW.qm
 have m1:=Kj e (x:Rat)
 refine zq hV hP B.cv (by rw[B.fst];exact x0) (by rw[B.lst];exact x1) (k.le (by omega)) hNN fun c o D=>?_
 refine jR hb D (k.le (by omega)) fun d hd=>?_
 rw[c3,ct,b3,ct,b3,ct,LF,LF,Aew hW (k.le (by omega)) (by omega) (by omega) (by omega)]
 have hs:-2000000<=jf w u.reserve lo hi x/\jf w u.reserve lo hi x<=2000000:=by
  unfold jf V_ Xx;split<;>split<;>omega
 have is:=qi (v:=jf w u.reserve lo hi x) (by omega)
 have m2:=Kj w ((jf w u.reserve lo hi x:Int):Rat)
 have m3:=Rp (e*x) (C x)
 refine K3 (by omega) (by omega) fun r G=>?_
 refine vg hW (G.is is) (k.le (by omega)) fun s I=>?_
 refine jR hd I (k.le (by omega)) fun t T=>?_
 rw[c3,ct,b3,ct,LF]
 rw[zi]at T
 exact h t T
end
end Gx.Uo
namespace Gx.Uo
open Go Go.Proofs
section
variable{R:Type}{N:Nat}{X:O R}
def Abr{K:LA->Bool->LA->O R}{x:Int}{d:RatD}{v:Rat}(k:d.can v)(h:K (Ap [x]) false ([d].flatMap RatD.av)=X):J7 N x d.av false K=X:=by
 rw[Uv];unfold Mr Ji
 exact h
def zr{f:F1}{xs:List Int}{k:Nat}(h:k<xs.length):RU f (xs.take (k+1))=CK (RU f (xs.take k)) xs[k] (f xs[k]):=by unfold RU;rw[Ah2 h,List.foldl_append];rfl
def Agj{l:List Int}{r:LA}{j:Nat}(h:j<l.length){f:Int->O R}:Au .i64 (drop (0+((Int.toNat (j:Int))*1)) (Ap l++r)) f=f l[j]:=by
 rw[Ah0,Ahm,Ah1,List.drop_append_of_le_length (by rw[CB];omega)]
 unfold Ap
 rw[<-List.map_drop,Eh h];rfl
section
variable{r0:LA->Bool->O R}{F:F1}{M:Nat}{p q:Int}{l a':LA}{a c g:Bool}{b d f h:LA}{i j:Int}
def s6{xs:List Int}{Fi:LA}(C:∀ x∈xs,0<=x/\x<=1048576)(hn:xs.length<=20000000)(v:∀ x∈xs,∀ K':LA->O R,(∀ d:RatD,d.can (F x)->K' d.av=X)->If N x a b c d f g h i j K'=X)(A:∀ x∈xs,qm (F x)<=M)(D:fit (100*M+1000) N)
  (hX:∀ V,VOk V (RU F xs)->PB M (RU F xs)->r0 (mj (RU F xs) V false) false=X):∀(m u fuel:Nat)(V:List RatD),u+m=xs.length->m<fuel->VOk V (RU F (xs.take u))->PB M (RU F (xs.take u))->(RU F (xs.take u)).length<=u ->
  Ov N r0 xs.length l a b c d f g h i j (Ap xs++Fi) fuel (xs.length:Int) (u:Int) (RU F (xs.take u)).length (RU F (xs.take u)).length (Ap (Jn (RU F (xs.take u)))) false (V.flatMap RatD.av)=X
|0,u,fuel+1,V,G,_,hV,hP,I=>by
  rw[Ov];unfold Vv
  rw[Ahi (by omega)]at hV hP ⊢
  rw[K4 (by omega),cf,zm,zn hV]
  exact hX V hV hP
|m+1,u,fuel+1,V,G,L,hV,hP,I=>by
  rw[Ov];unfold Vv
  have k:u<xs.length:=by omega
  have B:=Ahu k
  rw[Jy k,ct,Ab k,ct,Agj k,wS (by omega)]
  refine v _ B _ fun d' T=>?_
  have Y:=C _ B
  have hq:=A _ B
  refine Acu hV T hP hq (by omega) D fun V' hV'=>?_
  have e:=zr (f:=F) k
  rw[<-e]at hV' ⊢
  refine s6 C hn v A D hX m (u+1) fuel V' (by omega) (by omega) hV' ?_ ?_
  ·rw[e];exact hP.add hq (by omega) (by omega)
  ·rw[e];have:=VN (RU F (xs.take u)) xs[u] (F xs[u]);omega
def Aey{xs:List Int}{Fi:LA}(C:0<xs.length)(G:∀ x∈xs,0<=x/\x<=1048576)(hn:xs.length<=20000000)(v:∀ x∈xs,∀ K':LA->O R,(∀ d:RatD,d.can (F x)->K' d.av=X)->If N x a b c d f g h i j K'=X)(A:∀ x∈xs,qm (F x)<=M)(L:fit (100*M+1000) N)(hNN:40000000<=N)
  (hX:∀ V,VOk V (RU F xs)->PB M (RU F xs)->r0 (mj (RU F xs) V false) false=X):Ow N r0 xs.length l a b c d f g h i j (Ap xs++Fi) N (xs.length:Int)=X:=by
 obtain⟨n,rfl⟩:∃ k,N=k+1:=⟨N - 1,by omega⟩
 rw[Ow];unfold FH
 have D:=Ahu C
 have Y:=G _ D
 have hq:=A _ D
 rw[show decide ((0:Int)<(xs.length:Int))=true by simp;omega,ct,show Ah 0 xs.length=true from Ab (i:=0) C,ct,show ∀ K:Int->O R,Au .i64 (Ap xs++Fi) K=K xs[0]from fun K=>Agj (j:=0) C]
 refine v _ D _ fun d' I=>Abr I ?_
 have e:RU F (xs.take 1)=[(xs[0],F xs[0])]:=by
  cases xs with
  |nil=>simp at C
  |cons x r=>rfl
 have:=s6 (l:=l) (Fi:=Fi) (r0:=r0) G hn v A L hX (xs.length - 1) 1 n [d'] (by omega) (by omega) (by
  rw[e];refine⟨rfl,fun i T h2=>?_⟩
  have:i=0:=by simp at T;omega
  subst this;exact I) (by
  rw[e];refine⟨fun z B=>?_,fun z B=>?_,by simp⟩
  ·simp at B;subst B;show -10000000<=xs[0]/\xs[0]<=10000000;omega
  ·simp at B;subst B;exact hq) (by rw[e];simp)
 rw[e]at this
 exact this
def HT(p q t:Int):Bool:=decide (p<t)&&decide (t<q)
def MZ{cs:List Int}(hn:cs.length<=10000000):∀(m t fuel:Nat)(ys:List Int),t+m=cs.length->m<fuel->ys.length<=t+2 ->
  (Lw N r0 p q cs.length (Ap cs) a b c d f g h i j fuel ys.length (cs.length:Int) (t:Int) (Ap ys)=X↔(H7 N (ys++(cs.drop t).filter (HT p q)).length (Ap (ys++(cs.drop t).filter (HT p q))) fun ar=>Dw N (ys++(cs.drop t).filter (HT p q)).length ar fun m o=>Ow N r0 m (Ap cs) a b c d f g h i j o N (m:Int))=X)
|0,t,fuel+1,ys,B,_,_=>by
  rw[Lw];unfold Vw
  rw[K4 (by omega),cf,Gh (by omega),List.filter_nil,Aiy]
| m+1,t,fuel+1,ys,B,C,G=>by
  rw[Lw];unfold Vw
  have k:t<cs.length:=by omega
  rw[Jy k,ct,Ab k,ct,Adq k,wS (by omega),Eh k,Akh]
  by_cases v:p<cs[t]
  ·rw[show(decide (cs[t]>p)==true)=true by simp[v],ct]
   by_cases A:cs[t]<q
   ·rw[decide_eq_true A,rP,ct,show HT p q cs[t]=true by unfold HT;rw[decide_eq_true v,decide_eq_true A];rfl,if_pos rfl,show(ble (ys.length+1) 140737488355328&&ble ((ys.length+1)*8) 140737488355328)=true by
     rw[show ble (ys.length+1) 140737488355328=true by rw[Aj4];omega,show ble ((ys.length+1)*8) 140737488355328=true by rw[Aj4];omega];rfl,ct]
    have e1:(Ap ys).take (ys.length*1)++[.int .i64 cs[t]]=Ap (ys++[cs[t]]):=by
     rw[Ahi (by rw[CB];omega)];unfold Ap;simp
    have D:(ys++[cs[t]]).length=ys.length+1:=by simp
    rw[e1,<-D,show ys++cs[t]::List.filter (HT p q) (drop (t+1) cs)=(ys++[cs[t]])++List.filter (HT p q) (drop (t+1) cs) by simp]
    exact MZ hn m (t+1) fuel (ys++[cs[t]]) (by omega) (by omega) (by omega)
   ·rw[decide_eq_false A,rP,cf,show HT p q cs[t]=false by unfold HT;rw[decide_eq_false A];simp]
    exact MZ hn m (t+1) fuel ys (by omega) (by omega) (by omega)
  ·rw[show(decide (cs[t]>p)==true)=false by simp[v],cf,show HT p q cs[t]=false by unfold HT;rw[decide_eq_false v];rfl]
   exact MZ hn m (t+1) fuel ys (by omega) (by omega) (by omega)
def zt{lo hi:Int}{cs:List Int}:(NA lo hi cs).length<=(hi - lo+1).toNat:=by
 unfold NA
 exact Aje (Anf _ _) (by simp)
def Abs{cs:List Int}(A:p<=q)(T:0<=p)(hq:q<=1048576)(hn:cs.length<=10000000)(B:∀ x,p<=x->x<=q->∀ K':LA->O R,(∀ d:RatD,d.can (F x)->K' d.av=X)->If N x a b c d f g h i j K'=X)(D:∀ x:Int,p<=x->x<=q->qm (F x)<=M)(G:fit (100*M+1000) N)(hNN:40000000<=N)
  (hX:∀ V,VOk V (RU F (NA p q cs))->PB M (RU F (NA p q cs))->r0 (mj (RU F (NA p q cs)) V false) false=X):KY N p q cs.length (Ap cs) a b c d f g h i j r0=X:=by
 rw[VJ];unfold MY
 refine(MZ (r0:=r0) (p:=p) (q:=q) (cs:=cs) hn cs.length 0 N [p,q] (by omega) (by omega) (by simp)).2 ?_
 rw[Aid]
 have fl:∀ t,t∈cs.filter (HT p q)↔t∈cs/\p<t/\t<q:=fun t=>by
  rw[Ajp];unfold HT;simp
 have ln:([p,q]++cs.filter (HT p q)).length<=10000002:=by
  have:=Anf (HT p q) cs
  rw[Ahy];simp;omega
 have l2:2<=([p,q]++cs.filter (HT p q)).length:=by rw[Ahy];simp
 have mem:∀ t,t∈[p,q]++cs.filter (HT p q)↔t=p\/t=q\/(t∈cs/\p<t/\t<q):=fun t=>by
  rw[Ahz,fl];simp[or_assoc]
 generalize [p,q]++cs.filter (HT p q)=ys at *
 refine Ads (by omega) (by omega) (fun t I=>?_) ?_
 ·rcases(mem t).1 I with h|h|h<;>omega
 rw[<-ZI (ys:=ys)]
 refine xu (zo ys) (by rw[ZI];omega) (by rw[ZI];omega) hNN fun P Fi hP L _=>?_
 have C:=uv (cs:=cs) A
 have e:P=NA p q cs:=Asc.eq hP C.asc fun t=>by rw[L t,xt,mem t,C.mem t]
 subst e
 have k:∀ x∈NA p q cs,p<=x/\x<=q:=fun x v=>C.all A v
 exact Aey (C.ends A).1 (fun x v=>by have:=k x v;omega) (by have:=zt (lo:=p) (hi:=q) (cs:=cs);omega) (fun x v=>B x (k x v).1 (k x v).2) (fun x v=>D x (k x v).1 (k x v).2) G hNN hX
end
end
end Gx.Uo
namespace Gx.Uo
open Go Go.Proofs
section
variable{R:Type}{N:Nat}{X:O R}
def Abt{p q:Rat}:decide (Z4 p q>0)=decide (q<p):=by
 rw[decide_eq_decide];unfold Z4
 by_cases h:p<q
 ·rw[if_pos h];simp;grind
 ·rw[if_neg h];split
  ·simp;grind
  ·simp;grind
def ZJ{K:Int->O R}{L:Uw}{V:List RatD}{M:Nat}{s:RatD}{sq:Rat}{o o' j:Bool}(hs:s.can sq)(D:qm sq<=2)(hV:VOk V L)(hP:PB M L)(C:fit (200*M+1000) N):∀(n k fuel m:Nat)(b:RatD)(bv:Rat)(G:m<L.length),k+n=L.length->n<fuel->1<=k->b.can bv->qm bv<=M+10 ->
  Fl N K (Ap (Jn L)) L.length o (mj L V j) o' s.av fuel (m:Int) (L.length:Int) (k:Int) b.av=K (pk sq (L.drop k) L[m].1 bv)
|0,k,fuel+1,m,b,bv,G,hk,_,_,I,hq=>by
  have hl:=hP.n;have hV1:=hV.1
  have xl:(Jn L).length=L.length:=Ajx ..
  rw[Fl];unfold K0
  rw[K4 (by omega),cf,zp,Ab G,ct,J5 (by omega),Gh (by omega),pk]
  exact congrArg K (Aj3 ..)
| n+1,k,fuel+1,m,b,bv,G,hk,hfu,hk1,I,hq=>by
  have hl:=hP.n;have hV1:=hV.1
  have xl:(Jn L).length=L.length:=Ajx ..
  have xg:∀ i (hi:i<L.length),(Jn L)[i]'(by omega)=L[i].1:=fun i hi=>Aj3 ..
  rw[Fl];unfold K0
  have A:k<L.length:=by omega
  have bx:=hP.x _ (Ahu A);have bq:=hP.q _ (Ahu A)
  have ix:=qi (v:=L[k].1) (by omega)
  have m1:=Kj sq (L[k].1:Rat)
  have m2:=Rp L[k].2 (sq*(L[k].1:Rat))
  rw[Jy A,ct,Ab A,ct,J5 (by omega),Abo,Ab A,ct,Abp (by omega),ct,b3,ct,xg _ A]
  refine K3 (by omega) (by have:=C.1;omega) fun a ha=>?_
  rw[LF]
  refine ZH hs ha (C.le (by omega)) fun c hc=>?_
  rw[Aev (by omega)]
  refine jR (hV.2 k (by omega) A) hc (C.le (by omega)) fun d T=>?_
  rw[c3,ct,show(((k:Int)==0)==false)=true by simp;omega,ct,b3,ct,b3,ct,LF,LF,Aek (T.is (m:=M+10) (by omega)) (I.is (m:=M+10) (by omega)) (C.le (by omega)),show(cond false true (decide (Z4 (L[k].2+sq*(L[k].1:Rat)) bv>0)))=decide (bv<L[k].2+sq*(L[k].1:Rat))from Abt,Eh A,wS (by omega)]
  rw[show ∀(x:Int)(v:Rat)(r:Uw)(Y:Int)(mm:Rat),pk sq ((x,v)::r) Y mm=if mm<v+sq*x then pk sq r x (v+sq*x)else pk sq r Y mm from fun _ _ _ _ _=>rfl]
  by_cases B:bv<L[k].2+sq*(L[k].1:Rat)
  ·rw[decide_eq_true B,ct,ct,Ae8,ct,if_pos B,Abd]
   exact ZJ hs D hV hP C n (k+1) fuel k d _ A (by omega) (by omega) (by omega) T (by omega)
  ·rw[decide_eq_false B,cf,if_neg B]
   exact ZJ hs D hV hP C n (k+1) fuel m b bv G (by omega) (by omega) (by omega) I hq
def Adv{K:Int->O R}{L:Uw}{V:List RatD}{M:Nat}{s:RatD}{sq:Rat}{o o' j:Bool}(A:0<L.length)(hs:s.can sq)(B:qm sq<=2)(hV:VOk V L)(hP:PB M L)(C:fit (200*M+1000) N)(hNN:40000000<=N):Nj N (mj L V j) o s.av o' K=K (RV sq L):=by
 rw[Zd];unfold P0
 have T:=hP.n;have hV1:=hV.1
 have xl:(Jn L).length=L.length:=Ajx ..
 obtain⟨n,rfl⟩:∃ k,N=k+1:=⟨N - 1,by omega⟩
 have bx:=hP.x _ (Ahu A);have bq:=hP.q _ (Ahu A)
 have ix:=qi (v:=L[0].1) (by omega)
 have m1:=Kj sq (L[0].1:Rat)
 have m2:=Rp L[0].2 (sq*(L[0].1:Rat))
 rw[zp]
 show Fm (n+1) K (Ap (Jn L)) L.length o (mj L V j) o' s.av (n+1) (L.length:Int)=_
 rw[Fm];unfold Pz
 rw[show decide ((0:Int)<(L.length:Int))=true by simp;omega,ct,show Ah 0 L.length=true from Ab (i:=0) A,ct,show ∀ K:Int->O R,Au .i64 (Ap (Jn L)) K=K ((Jn L)[0]'(by omega))from fun K=>Ae9 (j:=0) (by omega),Abo,show Ah 0 L.length=true from Ab (i:=0) A,ct,show ble 3 (V.flatMap RatD.av).length=true by rw[Acs,Aj4];omega,ct,b3,ct,show(Jn L)[0]'(by omega)=L[0].1 from Aj3 ..]
 refine K3 (by omega) (by omega) fun a D=>?_
 rw[LF]
 refine ZH hs D (C.le (by omega)) fun c G=>?_
 rw[show take 3 (V.flatMap RatD.av)=(V[0]'(by omega)).av from Aev (j:=0) (by omega)]
 refine jR (hV.2 0 (by omega) A) G (C.le (by omega)) fun d I=>?_
 rw[c3,ct,b3,ct,LF,c3,ct]
 have:=ZJ (K:=K) (o:=o) (o':=o') (j:=j) hs B hV hP C (L.length - 1) 1 n 0 d _ A (by omega) (by omega) (by omega) I (by omega)
 have e:RV sq L=pk sq (L.drop 1) L[0].1 (L[0].2+sq*(L[0].1:Rat)):=by
  match L,A with
  |(x,v)::r,_=>rfl
 rw[e]
 exact this
def LG{u:UnitD}{h:Int}(k:H5 u h=true):(0<=u.reserve/\u.reserve<=1048576)/\(0<=u.reservePrice/\u.reservePrice<=1048576):=by
 simp only[H5,Aho,G6,decide_eq_true_eq]at k
 omega
def cU(u:UnitD):F1:=jV u.min u.segs.l
def Acv{u:UnitD}(k:H5 u 24=true):Upto (cU u) (mo u) u.min u.max:=(xq (Jm k).2.1 (Jm k).2.2).1
def Acw{u:UnitD}(k:H5 u 24=true){x:Int}(B:u.min<=x/\x<=u.max):qm (cU u x)<=500:=by
 have C:=Rq k
 have hs:=Jm k
 have i1:=qi (v:=x) (by omega);have i2:=qi (v:=u.min) (by omega)
 have s1:=T5 (x:Rat) (u.min:Rat)
 have:=VM (A:=5) u.segs.l ((x:Rat) - u.min) (CA k) (by omega) (by omega)
 have D:u.segs.l.length*(5+3*u.segs.l.length+31)<=8*(5+24+31):=Ajh hs.1 (by omega)
 unfold cU jV
 rw[pX];omega
def hL(u:UnitD)(e w:Rat)(lo hi:Int):Uw:=RU (sX e w (cU u) u.reserve lo hi) (NA (Xx u.min (lo - u.reserve)) hi ([lo,hi - u.reserve]++Jn (mo u)))
def vh:∀(l:List SegD)(x:Int)(v:Rat)(L:Uw),(xp l x v L).length<=L.length+l.length
|[],_,_,L=>Ahl _
|s::r,x,v,L=>by
  rw[xp]
  have:=vh r (x+s.width) (v - s.width*s.price) (CK L (x+s.width) (v - s.width*s.price))
  have:=VN L (x+s.width) (v - s.width*s.price)
  rw[Ah8];omega
def Abu{K:Int->Int->LA->Int->O R}{u:UnitD}{b c:Int}{E W:RatD}{e B:Rat}{o1 o2:Bool}(C:H5 u 24=true)(ha:u.away.l.length<=1)(hE:E.is e 100)(hW:W.is B 100)(A:fit 1000000 N)
  (h7:V_ c u.max<Xx b u.min->K 0 0 Abf.av 7=X)
  (Y:Xx b u.min<=V_ c u.max->∀ d:RatD,d.can (sX e (B - u.reservePrice) (cU u) u.reserve (Xx b u.min) (V_ c u.max) (RV 0 (hL u e (B - u.reservePrice) (Xx b u.min) (V_ c u.max)):Int))->K (RV 0 (hL u e (B - u.reservePrice) (Xx b u.min) (V_ c u.max))) (jf (B - u.reservePrice) u.reserve (Xx b u.min) (V_ c u.max) (RV 0 (hL u e (B - u.reservePrice) (Xx b u.min) (V_ c u.max)))) d.av 0=X) :
  ew N u.av false b c E.av o1 W.av o2 K=X:=by
 have hm:=Rq C
 have hs:=Jm C
 have hr:=LG C
 have hN:100001000<=N:=by have:=A.1;omega
 rw[cQ];unfold jO
 rw[iJ,ct,RE,k8 (by omega) (by omega) (by omega),C,show(!true)=false from rfl,cf,u2,u3,VO,ey]
 by_cases G:V_ c u.max<Xx b u.min
 ·rw[decide_eq_true (show Xx b u.min>V_ c u.max from G),ct];exact h7 G
 have I:Xx b u.min<=V_ c u.max:=by omega
 have Y:=Y I
 rw[decide_eq_false (show ¬ Xx b u.min>V_ c u.max by omega),cf,ct]
 have b1:u.min<=Xx b u.min:=by unfold Xx;split<;>omega
 have b2:V_ c u.max<=u.max:=by unfold V_;split<;>omega
 generalize Xx b u.min=lo at *
 generalize V_ c u.max=hi at *
 refine Aer (M:=500) (CA C) hs.1 (by omega) (by omega) (A.le (by omega)) fun V hV hP=>?_
 rw[show((beq 0 0)&&((beq (List.length (mj (mo u) V false)) 2)&&(beq 2 2)))=true from rfl,ct,b3,ct,Afi]
 have ip:=qi (v:=u.reservePrice) (by omega)
 refine K3 (by omega) (by omega) fun p hp=>?_
 rw[LF]
 refine Abg hW (hp.is ip) (A.le (by omega)) fun n hn=>?_
 rw[c3,ct,Ad3,zp,show((!false)||A4 (Ap (Jn (mo u))))=true from rfl,ct]
 have hl:=hP.n
 rw[show(ble (2+(mo u).length) 140737488355328&&ble ((2+(mo u).length)*8) 140737488355328)=true by
  rw[show ble (2+(mo u).length) 140737488355328=true by rw[Aj4];omega,show ble ((2+(mo u).length)*8) 140737488355328=true by rw[Aj4];omega];rfl,ct,u2,Ad3,Bi (lo - u.reserve) (by omega),Bi (hi - u.reserve) (by omega),VO]
 have ec:([.int .i64 lo,.int .i64 (hi - u.reserve)]:LA)++Ap (Jn (mo u))=Ap ([lo,hi - u.reserve]++Jn (mo u)):=by unfold Ap;simp
 have el:2+(mo u).length=([lo,hi - u.reserve]++Jn (mo u)).length:=by unfold Jn;simp;omega
 rw[ec,el]
 have up:=Acv C
 have qw:=hW.qm;have qe:=hE.qm
 have q1:=T5 B (u.reservePrice:Rat)
 unfold hL at Y
 generalize B - (u.reservePrice:Rat)=w at *
 have a1:u.min<=Xx u.min (lo - u.reserve)/\Xx u.min (lo - u.reserve)<=hi:=by unfold Xx;split<;>omega
 have k:=Acr (e:=e) (w:=w) up b1 I b2 hr.1.1
 rw[show [lo,hi - u.reserve]++(mo u).map (·.1)=[lo,hi - u.reserve]++Jn (mo u)from rfl]at k
 generalize [lo,hi - u.reserve]++Jn (mo u)=cs at *
 generalize hpl:Xx u.min (lo - u.reserve)=pl at *
 have hq:∀ x:Int,pl<=x->x<=hi->qm (sX e w (cU u) u.reserve lo hi x)<=1500:=fun x x0 x1=>by
  have i1:=qi (v:=x) (by omega)
  have hs:-2000000<=jf w u.reserve lo hi x/\jf w u.reserve lo hi x<=2000000:=by
   unfold jf V_ Xx;split<;>split<;>omega
  have i2:=qi (v:=jf w u.reserve lo hi x) (by omega)
  have i3:=Acw C (x:=x) (by omega)
  have m1:=Kj e (x:Rat)
  have m2:=Kj w ((jf w u.reserve lo hi x:Int):Rat)
  have m3:=Rp (e*x) (cU u x)
  have m4:=Rp (e*x+cU u x) (w*((jf w u.reserve lo hi x:Int):Rat))
  rw[zi]at m2 m4 i2
  unfold sX;omega
 refine Abs (F:=sX e w (cU u) u.reserve lo hi) (M:=1500) a1.2 (by omega) (by omega) ?_ (fun x x0 x1 K' hK=>?_) hq (A.le (by omega)) (by omega) fun V' hV' hP'=>?_
 ·rw[<-el];have:(mo u).length<=1+u.segs.l.length:=vh _ _ _ _
  omega
 ·exact Aex (M:=500) ⟨hE.1,hE.2.1,by have:=hE.2.2;omega⟩ (hn.is (by omega)) hV hP up (by omega) (by omega) hr.1 (by omega) (by omega) (by omega) (Acw C (by omega)) (by omega) (A.le (by omega)) (by omega) hK
 generalize hB:RU (sX e w (cU u) u.reserve lo hi) (NA pl hi cs)=L at *
 rw[show((beq 0 0)&&((beq (List.length (mj L V' false)) 2)&&(beq 2 2)))=true from rfl,ct,show ble 2 (List.length (mj L V' false))=true from rfl,ct,show take 2 (mj L V' false)=mj L V' false from rfl]
 refine K3 (by omega) (by omega) fun z hz=>?_
 rw[Adv k.cv.ne hz (qi (by omega)) hV' hP' (A.le (by omega)) (by omega)]
 have pk:=(k.pk 0).2.1
 rw[show((0:Int):Rat)=0 from rfl]
 rw[Aew (hn.is (m:=500) (by omega)) (A.le (by omega)) (by omega) (by omega) (by omega),ct]
 refine zq hV' hP' k.cv (by rw[k.fst];exact pk.1) (by rw[k.lst];exact pk.2) (A.le (by omega)) (by omega) fun v o D=>?_
 have qv:=hq _ pk.1 pk.2
 obtain⟨r,T,hr2⟩:=RK (R:=R) (N:=N) (o:=o) D.ok (A.le (by rw[D.m];omega))
 rw[hr2,c3,ct,b3,ct,LF]
 rw[D.q]at T
 exact Y r T
end
end Gx.Uo
namespace Gx.Cf
open Go Go.Proofs
inductive Sl(α:Type)where
|nil
|of (l:List α) (t o:Bool)
def Sl.l{α:Type}:Sl α->List α
|.nil=>[]
|.of l _ _=>l
def Sl.av{α:Type}(sz:Nat)(e:α->LA):Sl α->AV
|.nil=>.nsl
|.of l t o=>.imm (l.flatMap e) l.length sz t o
def Xv(n:Int):LA:=[.int .i64 n]
def Ap(l:List Int):LA:=l.map fun n=>.int .i64 n
def Fk:∀ l:List Int,l.flatMap Xv=Ap l
|[]=>rfl
|a::r=>by rw[Aie,Fk r];rfl
def G5(l:List Int):(Ap l).length=l.length:=by simp[Ap]
def cS(l m:List Int):Ap l++Ap m=Ap (l++m):=by simp[Ap]
structure FracD where
 num:Int
 den:Int
structure BusD where
 name:List UInt8
 demand:Sl Int
 shed:Int
structure LineD where
 name:List UInt8
 fr:Int
 tl:Int
 re:FracD
 smin:FracD
 smax:FracD
 limit:Int
 emer:Int
 away:Sl Int
structure SegD where
 width:Int
 price:Int
structure UnitD where
 name:List UInt8
 bus:Int
 min:Int
 max:Int
 segs:Sl SegD
 noLoad:Int
 rampUp:Int
 rampDown:Int
 startRamp:Int
 stopRamp:Int
 upTime:Int
 downTime:Int
 startTime:Int
 hotCost:Int
 coldCost:Int
 hotHours:Int
 reserve:Int
 reservePrice:Int
 away:Sl Int
 state:Int
 hours:Int
 output:Int
structure StoreD where
 name:List UInt8
 bus:Int
 capacity:Int
 initial:Int
 final:Int
 charge:Int
 discharge:Int
 eff:FracD
structure TieD where
 name:List UInt8
 bus:Int
 imp:Sl Int
 exp:Sl Int
 price:Sl Int
structure MoveD where
 unit:Int
 up:Int
 down:Int
structure OutD where
 name:List UInt8
 lines:Sl Int
 corr:Bool
 moves:Sl MoveD
structure CaseD where
 hours:Int
 reserve:Sl Int
 buses:Sl BusD
 lines:Sl LineD
 units:Sl UnitD
 stores:Sl StoreD
 ties:Sl TieD
 outs:Sl OutD
def BusD.av(b:BusD):LA:=[.str b.name,b.demand.av 1 Xv,.int .i64 b.shed]
def LineD.av(b:LineD):LA:=[.str b.name,.int .i64 b.fr,.int .i64 b.tl,.int .i64 b.re.num,.int .i64 b.re.den,.int .i64 b.smin.num,.int .i64 b.smin.den,.int .i64 b.smax.num,.int .i64 b.smax.den,.int .i64 b.limit,.int .i64 b.emer,b.away.av 1 Xv]
def SegD.av(s:SegD):LA:=[.int .i64 s.width,.int .i64 s.price]
def UnitD.av(u:UnitD):LA:=[.str u.name,.int .i64 u.bus,.int .i64 u.min,.int .i64 u.max,u.segs.av 2 SegD.av,.int .i64 u.noLoad,.int .i64 u.rampUp,.int .i64 u.rampDown,.int .i64 u.startRamp,.int .i64 u.stopRamp,.int .i64 u.upTime,.int .i64 u.downTime,.int .i64 u.startTime,.int .i64 u.hotCost,.int .i64 u.coldCost,.int .i64 u.hotHours,.int .i64 u.reserve,.int .i64 u.reservePrice,u.away.av 1 Xv,.int .i64 u.state,.int .i64 u.hours,.int .i64 u.output]
def StoreD.av(s:StoreD):LA:=[.str s.name,.int .i64 s.bus,.int .i64 s.capacity,.int .i64 s.initial,.int .i64 s.final,.int .i64 s.charge,.int .i64 s.discharge,.int .i64 s.eff.num,.int .i64 s.eff.den]
def TieD.av(t:TieD):LA:=[.str t.name,.int .i64 t.bus,t.imp.av 1 Xv,t.exp.av 1 Xv,t.price.av 1 Xv]
def MoveD.av(m:MoveD):LA:=[.int .i64 m.unit,.int .i64 m.up,.int .i64 m.down]
def OutD.av(o:OutD):LA:=[.str o.name,o.lines.av 1 Xv,.bool o.corr,o.moves.av 3 MoveD.av]
def CaseD.av(c:CaseD):LA:=[.int .i64 c.hours,c.reserve.av 1 Xv,c.buses.av 3 BusD.av,c.lines.av 12 LineD.av,c.units.av 22 UnitD.av,c.stores.av 9 StoreD.av,c.ties.av 5 TieD.av,c.outs.av 4 OutD.av]
section
variable{R:Type}
def H4{α:Type}{sz:Nat}{e:α->LA}{s:Sl α}{r:LA}{f:LA->Nat->O R}:Bv sz (s.av sz e::r) f=f (s.l.flatMap e) s.l.length:=by cases s<;>simp[Bv,Sl.av,Sl.l,wJ]
def Xn{s:Lu}{r:LA}{f:Lu->O R}:pn (.str s::r) f=f s:=by simp[pn,ZU]
def zu{b:Bool}{r:LA}{f:Bool->O R}:X2 (.bool b::r) f=f b:=by simp[X2,asBool]
def Dx(a b:Nat):ble a b=decide (a<=b):=by
  cases h:ble a b with
  |true=>simp at h;simp[h]
  | false => have : ¬ a <= b := fun k => by rw [Nat.ble_eq_true_of_le k] at h; cases h
             simp[this]
def pb(a b:Nat):beq a b=decide (a=b):=by
  cases h:beq a b with
  |true=>have:=Aht h;simp[this]
  | false => have : a ≠ b := fun e => by subst e; rw [Nat.beq_refl] at h; cases h
             simp[this]
def ct(x y:O R):cond true x y=x:=rfl
def cf(x y:O R):cond false x y=y:=rfl
def A7{α:Type}{e:α->LA}{sz:Nat}(k:∀ a,(e a).length=sz):∀(l:List α)(j:Nat)(h:j<l.length),drop (j*sz) (l.flatMap e)=e l[j]++(l.drop (j+1)).flatMap e
|a::r,0,_=>by simp
|a::r,j+1,h=>by
  have:=A7 k r j (by simpa using h)
  rw[Aie,Am1,k,show(j+1)*sz - sz=j*sz by rw[Ahv];omega,Aim (by rw[k,Ahv];omega)]
  simpa using this
def KJ{l:List Int}{i:Nat}(h:i<l.length){f:Int->O R}:Au .i64 (drop i (Ap l)) f=f l[i]:=by rw[Ap,Aip (by simpa using h)];simp[Av]
abbrev Hm:=Option ((Int×Int×Int)×{e:Int // e≠0})
def nd(p:Hm)(ok:Bool)(w:Int×Int×Int)(e:{e:Int // e≠0}):Hm:=match p with
|some x=>some x
|none=>cond ok none (some (w,e))
def FK(p:Hm)(w:Int×Int×Int)(e:{e:Int // e≠0}):nd p true w e=p:=by cases p<;>rfl
def Abv(x:(Int×Int×Int)×{e:Int // e≠0})(ok:Bool)(w:Int×Int×Int)(e:{e:Int // e≠0}):nd (some x) ok w e=some x:=rfl
def s7(p:Hm)(a b:Bool)(w:Int×Int×Int)(e:{e:Int // e≠0}):nd (nd p a w e) b w e=nd p (a&&b) w e:=by cases p<;>cases a<;>cases b<;>rfl
def zw(p:Hm)(k i:Int):LA:=match p with
|none=>[.int .i64 k,.int .i64 i,.int .i64 0,.int .i64 0]
|some ((a,b,f),e)=>[.int .i64 a,.int .i64 b,.int .i64 f,.int .i64 e.1]
def D7(lo hi n:Int):Bool:=decide (lo<=n)&&decide (n<=hi)
end
end Gx.Cf
namespace Gx.Cf
open Go Go.Proofs
section
variable{R:Type}
def Oa(n N:Nat):Prop:=n<N/\n<4611686018427387904
def D6{j:Nat}(h:j<4611686018427387904):wrap .i64 ((j:Int)+1)=((j+1:Nat):Int):=by rw[Bi _ (by omega)];omega
def jY{l:List Int}{j:Nat}(h:j<l.length){f:Int->O R}:Au .i64 (drop ((Int.toNat (j:Int))*1) (Ap l)) f=f l[j]:=by rw[Ahm,Ah1,KJ h]
def Jy{j n:Nat}(h:j<n):decide ((j:Int)<(n:Int))=true:=by simp;omega
def K4{j n:Nat}(h:n<=j):decide ((j:Int)<(n:Int))=false:=by simp;omega
def Eh{α:Type}{l:List α}{j:Nat}(h:j<l.length):l.drop j=l[j]::l.drop (j+1):=Aip h
def Gh{α:Type}{l:List α}{j:Nat}(h:l.length<=j):l.drop j=[]:=Aim h
def CC{N:Nat}{lo hi:Int}{l:List Int}{t o:Bool}{K:Bool->O R}(hs:l.length<4611686018427387904):∀(m j fuel:Nat),j+m=l.length->m<fuel ->
  Fw N K lo hi (Ap l) l.length t o fuel (j:Int)=K ((l.drop j).all (D7 lo hi))
|0,j,fuel+1,A,_=>by
  rw[Fw];unfold No
  rw[K4 (by omega),cf,Gh (by omega)];rfl
| m+1,j,fuel+1,A,C=>by
  rw[Fw];unfold No
  have h:j<l.length:=by omega
  rw[Jy h,ct,Ab h,ct,jY h,ct,jY h,D6 (by omega),CC hs m (j+1) fuel (by omega) (by omega),Eh h,Aji]
  unfold D7
  by_cases k:l[j]<lo
  ·have:¬ lo<=l[j]:=by omega
   simp[k,this]
  ·have:lo<=l[j]:=by omega
   by_cases v:l[j]>hi
   ·have:¬ l[j]<=hi:=by omega
    simp[k,v,this]
   ·have B:l[j]<=hi:=by omega
    simp[k,v,this,B]
def Fn{N:Nat}{lo hi:Int}{l:List Int}{n:Nat}{t o:Bool}{K:Bool->O R}(hn:n=l.length)(hs:Oa l.length N):Aq N lo hi (Ap l) n t o K=K (l.all (D7 lo hi)):=by
 subst hn
 rw[GK];unfold Vc
 have:=CC (R:=R) (N:=N) (lo:=lo) (hi:=hi) (t:=t) (o:=o) (K:=K) hs.2 l.length 0 N (by omega) hs.1
 simpa using this
def C7{N:Nat}{lo hi a:Int}{t o:Bool}{K:Bool->O R}(hN:8<=N):Aq N lo hi [.int .i64 a] 1 t o K=K (D7 lo hi a):=by
 have:=Fn (R:=R) (N:=N) (lo:=lo) (hi:=hi) (l:=[a]) (t:=t) (o:=o) (K:=K) rfl ⟨by simp;omega,by simp⟩
 simpa[Ap]using this
def eT{N:Nat}{lo hi a b:Int}{t o:Bool}{K:Bool->O R}(hN:8<=N):Aq N lo hi [.int .i64 a,.int .i64 b] 2 t o K=K (D7 lo hi a&&D7 lo hi b):=by
 have:=Fn (R:=R) (N:=N) (lo:=lo) (hi:=hi) (l:=[a,b]) (t:=t) (o:=o) (K:=K) rfl ⟨by simp;omega,by simp⟩
 simpa[Ap]using this
def asc:List Int->Bool
|a::b::r=>decide (a<b)&&asc (b::r)
|_=>true
def CD(a b:Int)(r:List Int):asc (a::b::r)=(decide (a<b)&&asc (b::r)):=by rw[asc]
def VP(a:Int):asc [a]=true:=by rw[asc];intros;simp_all
def pc:asc []=true:=by rw[asc];intros;simp_all
def jZ{j:Nat}(h:j+1<4611686018427387904):wrap .i64 (((j+1:Nat):Int) - 1)=(j:Int):=by rw[Bi _ (by omega)];omega
def G'{N:Nat}{l:List Int}{t o:Bool}{K:Bool->O R}(hs:l.length<4611686018427387904):∀(m j fuel:Nat),j+1+m=l.length->m<fuel ->
  Fg N K (Ap l) l.length t o fuel ((j+1:Nat):Int)=K (asc (l.drop j))
|0,j,fuel+1,v,_=>by
  rw[Fg];unfold Lh
  rw[K4 (by omega),cf,Eh (by omega),Gh (by omega),VP]
| m+1,j,fuel+1,v,A=>by
  rw[Fg];unfold Lh
  have h:j+1<l.length:=by omega
  have h':j<l.length:=by omega
  rw[Jy h,ct,Ab h,ct,jY h,jZ (by omega),Ab h',ct,jY h',D6 (by omega),G' hs m (j+1) fuel (by omega) (by omega),Eh h',Eh h,CD]
  by_cases k:l[j+1]<=l[j]
  ·have:¬ l[j]<l[j+1]:=by omega
   simp[k,this]
  ·have:l[j]<l[j+1]:=by omega
   simp[k,this]
def T6{N:Nat}{l:List Int}{n:Nat}{t o:Bool}{K:Bool->O R}(hn:n=l.length)(hs:Oa l.length N):N2 N (Ap l) n t o K=K (asc l):=by
 subst hn
 rw[JO];unfold Yj
 rcases l with _|⟨a,r⟩
 ·have hN:=hs.1
  rcases N with _|N
  ·simp at hN
  ·rw[Fg];unfold Lh;simp[pc]
 ·have:=G' (R:=R) (N:=N) (t:=t) (o:=o) (K:=K) hs.2 r.length 0 N (by simp;omega) (by have:=hs.1;simp at this;omega)
  simpa using this
def VQ{N:Nat}{v:Int}{l:List Int}{t o:Bool}{K:Bool->O R}(hs:l.length<4611686018427387904):∀(m j fuel:Nat),j+m=l.length->m<fuel ->
  N4 N K (Ap l) l.length t o v fuel (j:Int)=K ((l.drop j).contains v)
|0,j,fuel+1,k,_=>by
  rw[N4];unfold Yk
  rw[K4 (by omega),cf,Gh (by omega)];rfl
|m+1,j,fuel+1,k,A=>by
  rw[N4];unfold Yk
  have h:j<l.length:=by omega
  rw[Jy h,ct,Ab h,ct,jY h,D6 (by omega),VQ hs m (j+1) fuel (by omega) (by omega),Eh h,List.contains_cons,BEq.comm]
  cases B:v==l[j]<;>simp
def FL{N:Nat}{v:Int}{l:List Int}{n:Nat}{t o:Bool}{K:Bool->O R}(hn:n=l.length)(hs:Oa l.length N):DZ N (Ap l) n t o v K=K (l.contains v):=by
 subst hn
 rw[bH];unfold TL
 have:=VQ (R:=R) (N:=N) (v:=v) (t:=t) (o:=o) (K:=K) hs.2 l.length 0 N (by omega) hs.1
 simpa using this
end
end Gx.Cf
