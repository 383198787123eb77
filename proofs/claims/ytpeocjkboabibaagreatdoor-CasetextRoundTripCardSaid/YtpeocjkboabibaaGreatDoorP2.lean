/- A part of the proof; each theorem says what it holds. -/
import Derived.Shelf.Strings.Repeat
import Derived.Shelf.Strings.Split
import Derived.Shelf.Strings.Cut
import Derived.Shelf.Strconv.AtoiAll
import Derived.Shelf.Strconv.Itoa3
import Derived.Shelf.LaysM
import Derived.Shelf.LaysC
import Derived.Lib.RepeatB
import Derived.OwnWalk
import Derived.OneCell
import Derived.Laws.OwnMore
import Derived.Laws.AppendOwnNone
import Derived.Test.YtpeocjkboabibaaGreatDoorP1
set_option linter.unusedVariables false
set_option linter.defProp false
set_option linter.unusedSimpArgs false
open Nat (ble beq)
open List (take drop replicate)
open Go.IntKind (wrap)
namespace Gx
open Go Go.Proofs
set_option maxRecDepth 100000
noncomputable section
variable{R:Type}(N:Nat)
def IJ(N:Nat)(r0:Nat->LA->O R)(b:LA)(a:Nat)(f c:Bool)(k0:Int->O R)(d:Int):O R:=(cond ((decide (d>0))==true) (cond (Ac (wrap .i64 (d - 1)) a) (Ax .u32 (b.drop (((wrap .i64 (d - 1)).toNat)*1)) fun g=>cond (cond true (g==0) false) (k0 (wrap .i64 (d - 1))) (cond ((decide ((0:Int)<=(0:Int)))&&((decide (0<=d))&&((decide (d<=(a:Int)))&&(decide ((a:Int)<=(a:Int)))))) (cond ((!c)||(A0 (b.take (d.toNat*1)))) (cond ((ble (0+d.toNat) 140737488355328)&&(ble ((0+d.toNat)*4) 140737488355328)) (r0 (0+d.toNat) (b.take (d.toNat*1))) none) none) none)) none) (cond ((decide ((0:Int)<=(0:Int)))&&((decide (0<=d))&&((decide (d<=(a:Int)))&&(decide ((a:Int)<=(a:Int)))))) (cond ((!c)||(A0 (b.take (d.toNat*1)))) (cond ((ble (0+d.toNat) 140737488355328)&&(ble ((0+d.toNat)*4) 140737488355328)) (r0 (0+d.toNat) (b.take (d.toNat*1))) none) none) none))
def Tb(r0:Nat->LA->O R)(b:LA)(a:Nat)(f c:Bool):Nat->Int->O R
|0=>fun _=>none
|n+1=>IJ N r0 b a f c (Tb r0 b a f c n)
def TF(N:Nat)(r0:Nat->LA->O R)(q0:Int->O R)(b:LA)(a:Nat)(f c:Bool):O R:=(q0 (a:Int))
def In:=(Ad fun N b a f c r0=>TF (R:=R) N r0 (Tb N r0 b a f c N) b a f c).1
def WI(b a f c r0):(@In R N b a f c r0)=(TF N r0 (Tb N r0 b a f c N) b a f c):=by rw[In,(Ad _).2]
def Ain(F:KF R):=K8 Tryz.f161 rx [] [] N F
def Aio(b:LA)(a:Nat)(f c:Bool)(K:St->O R):=fun d=>K ⟨[(0,.imm b a 1 f c),(3,iv d)],[]⟩
def wc(F:KF R)(b a f c):∀ n,Aio b a f c (Al (Ain N F (pz 336) []) n)=(Tb N (Gb F) b a f c n):=Dt fun n e=>(Cj (IJ N (Gb F) b a f c) e:_)
def Tc:=Cr N 161 [] rx (fun
|[.imm b a 1 f c],[]=>some fun _ k=>In N b a f c (Gb k)
| _,_=>none) fun _ _=>by split;intro R F;exact(Cj (TF N (Gb F) · _ _ _ _) ((lW ..).trans (wc ..)):_).trans (WI ..).symm;trivial
def GD(a:Int)(r0:Nat->LA->O R):O R:=(In N [.int .u32 (wrap .u32 a),.int .u32 (wrap .u32 (Int.fdiv a (2 ^ 32)))] 2 false true fun b c=>r0 b c)
def Kh:=(Ad (@GD R)).1
def LF:@Kh R=@GD R:=(Ad _).2
def TG:=Cr N 145 [Tc N] Ah8 (fun
|[.int .u64 a],[]=>some fun _ k=>Kh N a (Gb k)
| _,_=>none) fun _ _=>by split;intro R F;dsimp only;rw[LF];kernel_rfl;trivial
def pv(b:Bool)(c:LA)(d:Nat)(f e:Bool)(r0:LA->O R):O R:=(In N c d false e fun a g=>cond (b==true) (r0 [.bool (cond true (decide ((a:Int)>0)) false),.imm (g.take (a*1)) a 1 false false]) (r0 [.bool false,.imm (g.take (a*1)) a 1 false false]))
def TH:=(Ad (@pv R)).1
def mY:@TH R=@pv R:=(Ad _).2
def wd:=Cr N 144 [Tc N] Ah9 (fun
|[.bool b,.imm c d 1 f e],[]=>some fun _ k=>TH N b c d f e (Sr k)
| _,_=>none) fun _ _=>by split;intro R F;dsimp only;rw[mY];kernel_rfl;trivial
def WJ(a:Int)(r0:LA->O R):O R:=(cond (decide (a<0)) (Kh N (wrap .u64 ((wrap .u64 (wrap .i64 ((0:Int) - (wrap .i64 (a+1)))))+1)) fun d f=>TH N true (f.take (d*1)) d false true fun b=>cond ((beq 0 0)&&((beq b.length 2)&&(beq 2 2))) (cond (ble 2 b.length) (r0 (b.take 2)) none) none) (Kh N (wrap .u64 a) fun e g=>TH N false (g.take (e*1)) e false true fun c=>cond ((beq 0 0)&&((beq c.length 2)&&(beq 2 2))) (cond (ble 2 c.length) (r0 (c.take 2)) none) none))
def EL:=(Ad (@WJ R)).1
def ZL:@EL R=@WJ R:=(Ad _).2
def z_:=Cr N 131 [TG N,wd N] Ah9 (fun
|[.int .i64 a],[]=>some fun _ k=>EL N a (Sr k)
| _,_=>none) fun _ _=>by split;intro R F;dsimp only;rw[ZL];kernel_rfl;trivial
def pw(a:LA)(b:Bool)(r0:LA->O R):O R:=(QY a fun d=>A5 1 (a.drop 1) fun e f=>TH N d e f false b fun c=>cond ((beq 0 0)&&((beq c.length 2)&&(beq 2 2))) (cond (ble 2 c.length) (r0 (c.take 2)) none) none)
def mZ:=(Ad (@pw R)).1
def m0:@mZ R=@pw R:=(Ad _).2
def Amy:=Cr N 142 [wd N] Ah9 (fun
|[.pagg a b],[]=>some fun _ k=>mZ N a b (Sr k)
| _,_=>none) fun _ _=>by split;intro R F;dsimp only;rw[m0];kernel_rfl;trivial
def Io(N:Nat)(r0:Int->Bool->O R)(a:Nat)(b:LA)(k0:Int->Int->O R)(i h:Int):O R:=(cond (decide (h>=0)) (cond (Ac h a) (Ax .u32 (b.drop (0+(h.toNat*1))) fun j=>k0 (rt .u64 (wrap .u64 (i*2 ^ 32)) (wrap .u64 j)) (wrap .i64 (h - 1))) none) (r0 i true))
def Gf(r0:Int->Bool->O R)(a:Nat)(b:LA):Nat->Int->Int->O R
|0=>fun _ _=>none
|n+1=>Io N r0 a b (Gf r0 a b n)
def OS(r0:Int->Bool->O R)(q0:Nat->LA->Int->Int->O R)(c:LA)(d:Nat)(g f:Bool):O R:=(In N c d false f fun a b=>cond (decide ((a:Int)>2)) (r0 0 false) (q0 a b 0 (wrap .i64 ((a:Int) - 1))))
def O4:=(Ad fun N c d g f r0=>OS (R:=R) N r0 (fun a b=>Gf N r0 a b N) c d g f).1
def dD(c d g f r0):(@O4 R N c d g f r0)=(OS N r0 (fun a b=>Gf N r0 a b N) c d g f):=by rw[O4,(Ad _).2]
def jS:Hints:={H:=hK 4 (hS (hK 1 (hS (hP [0,4,5] hL) hL)) hL)}
def m7:Vx:=[Tc N]
def za(F:KF R):=K8 Tryz.f160 jS (m7 N) [] N F
def zb(a:Nat)(b:LA)(K:St->O R):=fun i h=>K ⟨[(0,Bby 0 a),(4,.int .u64 i),(5,iv h)],hq [bQ 1 b]⟩
def qA(F:KF R)(a b):∀ n,zb a b (Al (za N F (pz 21828) []) n)=(Gf N (Aic F) a b n):=Dt fun n e=>(Cj (Io N (Aic F) a b) e:_)
def m8:=Cr N 160 (m7 N) jS (fun
|[.imm c d 1 g f],[]=>some fun _ k=>O4 N c d g f (Aic k)
| _,_=>none) fun _ _=>by split;intro R F;exact(Cj (OS N (Aic F) · _ _ _ _) (CJ fun a b=>(lW ..).trans (qA ..)):_).trans (dD ..).symm;trivial
def Yt(N:Nat)(r0:Int->O R)(k0:Int->Int->O R)(g h:Int):O R:=(cond (decide (h>0)) (k0 (wrap .i64 (g+1)) (Int.fdiv h (2 ^ 1))) (r0 g))
def Og(r0:Int->O R):Nat->Int->Int->O R
|0=>fun _ _=>none
|n+1=>Yt N r0 (Og r0 n)
def TI(r0:Int->O R)(q0:Int->Int->O R)(a:LA)(b:Nat)(d c:Bool):O R:=(In N a b false c fun f i=>cond ((f:Int)==0) (r0 0) (cond (Ac (wrap .i64 ((f:Int) - 1)) f) (Ax .u32 (i.drop (0+(((wrap .i64 ((f:Int) - 1)).toNat)*1))) fun j=>q0 (wrap .i64 (32*(wrap .i64 ((f:Int) - 1)))) j) none))
def dE:=(Ad fun N a b d c r0=>TI (R:=R) N r0 (Og N r0 N) a b d c).1
def WK(a b d c r0):(@dE R N a b d c r0)=(TI N r0 (Og N r0 N) a b d c):=by rw[dE,(Ad _).2]
def sG:Hints:={H:=hK 4 (hS (hK 1 (hS (hP [3,4] hL) hL)) hL)}
def wg:Vx:=[Tc N]
def Aip(F:KF R):=K8 Tryz.f190 sG (wg N) [] N F
def Aiq(K:St->O R):=fun g h=>K ⟨[(3,iv g),(4,.int .u32 h)],[]⟩
def wh(F:KF R):∀ n,Aiq (Al (Aip N F (pz 21828) []) n)=(Og N (C5 F) n):=Dt fun n e=>(Cj (Yt N (C5 F)) e:_)
def Amz:=Cr N 190 (wg N) sG (fun
|[.imm a b 1 d c],[]=>some fun _ k=>dE N a b d c (C5 k)
| _,_=>none) fun _ _=>by split;intro R F;exact(Cj (TI N (C5 F) · _ _ _ _) ((lW ..).trans (wh ..)):_).trans (WK ..).symm;trivial
def LG(N:Nat)(k0:Nat->Int->Int->LA->O R)(r0:Nat->LA->O R)(c:LA)(a:Nat)(f g:Bool)(d:LA)(b:Nat)(h i:Bool)(j:Nat)(l:LA)(p m:Int):O R:=(cond (decide (m<(b:Int))) (cond (Ac m b) (Ax .u32 (d.drop (m.toNat*1)) fun r=>cond (Ac m j) (cond ((beq 1 1)&&((ble ((0+(m.toNat*1))+1) l.length)&&(!false))) (k0 j (Int.fdiv (wrap .u64 (p+(wrap .u64 r))) (2 ^ 32)) (wrap .i64 (m+1)) (l.set (0+(m.toNat*1)) (.int .u32 (wrap .u32 (wrap .u64 (p+(wrap .u64 r))))))) none) none) none) (cond (Ac m j) (cond ((beq 1 1)&&((ble ((0+(m.toNat*1))+1) l.length)&&(!false))) (k0 j (Int.fdiv p (2 ^ 32)) (wrap .i64 (m+1)) (l.set (0+(m.toNat*1)) (.int .u32 (wrap .u32 p)))) none) none))
def OT(r0:Nat->LA->O R)(c:LA)(a:Nat)(f g:Bool)(d:LA)(b:Nat)(h i:Bool)(k0:Nat->Int->Int->LA->O R)(q1:Nat->LA->Int->Int->O R)(j:Nat)(q o:Int)(l:LA):O R:=(cond (decide (o<(j:Int))) (cond (decide (o<(a:Int))) (cond (Ac o a) (Ax .u32 (c.drop (o.toNat*1)) fun s=>q1 j l (wrap .u64 (q+(wrap .u64 s))) o) none) (q1 j l q o)) (In N (l.take (j*1)) j false true fun t u=>r0 t u))
def M0(r0:Nat->LA->O R)(c:LA)(a:Nat)(f g:Bool)(d:LA)(b:Nat)(h i:Bool):Nat->Nat->Int->Int->LA->O R
|0=>fun _ _ _ _=>none
|n+1=>OT N r0 c a f g d b h i (M0 r0 c a f g d b h i n) (fun j l=>LG N (M0 r0 c a f g d b h i n) r0 c a f g d b h i j l)
def m9(N:Nat)(r0:Nat->LA->O R)(q0:Nat->Int->Int->LA->O R)(c:LA)(a:Nat)(f g:Bool)(d:LA)(b:Nat)(h i:Bool):O R:=(cond ((decide (0<=(wrap .i64 ((tX (a:Int) (b:Int))+1))))&&((decide ((wrap .i64 ((tX (a:Int) (b:Int))+1))<=(wrap .i64 ((tX (a:Int) (b:Int))+1))))&&((decide ((wrap .i64 ((tX (a:Int) (b:Int))+1))<=140737488355328))&&(decide (((wrap .i64 ((tX (a:Int) (b:Int))+1))*((4:Nat):Int))<=140737488355328))))) (q0 ((wrap .i64 ((tX (a:Int) (b:Int))+1)).toNat) 0 0 (replicate ((wrap .i64 ((tX (a:Int) (b:Int))+1)).toNat) (.int .u32 0))) none)
def fx:=(Ad fun N c a f g d b h i r0=>m9 (R:=R) N r0 (M0 N r0 c a f g d b h i N) c a f g d b h i).1
def sH(c a f g d b h i r0):(@fx R N c a f g d b h i r0)=(m9 N r0 (M0 N r0 c a f g d b h i N) c a f g d b h i):=by rw[fx,(Ad _).2]
def wi:Hints:={H:=hK 3 (hS (hK 1 (hS (hP [0,1,5,6,7] (hK 1 (hS (hS (hJ [0,1,5,6,7] hL hL) hL) hL))) hL)) hL),nils:=[(4,1)],modes:=[(2,1)]}
def Abs:Vx:=[Tc N]
def wj(F:KF R):=K8 Tryz.f191 wi (Abs N) [] N F
def Am0(c:LA)(a:Nat)(f g:Bool)(d:LA)(b:Nat)(h i:Bool)(j:Nat)(l:LA)(K:St->O R):=fun p m=>K ⟨[(0,.imm c a 1 f g),(1,.imm d b 1 h i),(5,Bby 0 j),(6,.int .u64 p),(7,iv m)],hq [bQ 1 l]⟩
def wk(c:LA)(a:Nat)(f g:Bool)(d:LA)(b:Nat)(h i:Bool)(K:St->O R):=fun j q o l=>K ⟨[(0,.imm c a 1 f g),(1,.imm d b 1 h i),(5,Bby 0 j),(6,.int .u64 q),(7,iv o)],hq [bQ 1 l]⟩
def zc Q0 (F:KF R) (c a f g d b h i j l):Am0 c a f g d b h i j l (By (wj N F (pz 5574721) [Q0]))=(LG N (wk c a f g d b h i Q0) (Gb F) c a f g d b h i j l):=by kernel_rfl
def zd(F:KF R)(c a f g d b h i):∀ n,wk c a f g d b h i (Al (wj N F (pz 5444) []) n)=(M0 N (Gb F) c a f g d b h i n):=Dt fun n e=>(Sq (OT N (Gb F) c a f g d b h i) e (CJ fun j l=>(jW ..).trans ((zc ..).trans (jK (LG _ · _ _ _ _ _ _ _ _ _ _ _) e))):_)
def Ara:=Cr N 191 (Abs N) wi (fun
|[.imm c a 1 f g,.imm d b 1 h i],[]=>some fun _ k=>fx N c a f g d b h i (Gb k)
| _,_=>none) fun _ _=>by split;intro R F;exact(Cj (m9 N (Gb F) · _ _ _ _ _ _ _ _) ((lW ..).trans (zd ..)):_).trans (sH ..).symm;trivial
def wl(N:Nat)(c:LA)(b:Nat)(d e:Bool)(a:Int)(r0:Int->O R):O R:=(cond (decide ((wrap .i64 (Int.tdiv a 32))>=(b:Int))) (r0 0) (cond (Ac (wrap .i64 (Int.tdiv a 32)) b) (Ax .u32 (c.drop (((wrap .i64 (Int.tdiv a 32)).toNat)*1)) fun f=>cond (decide ((wrap .u64 (Int.tmod a 32))<0)) none (r0 (Ami .u32 (Int.fdiv f (2 ^ (min ((wrap .u64 (Int.tmod a 32)).toNat) 32))) 1))) none))
def uy:=(Ad (@wl R)).1
def sI:@uy R=@wl R:=(Ad _).2
def Am1(F:KF R):Int->O R:=fun g=>F (.int .u32 g) []
def Arb:=Cr N 192 [] Cp (fun
|[.imm c b 1 d e,.int .i64 a],[]=>some fun _ k=>uy N c b d e a (Am1 k)
| _,_=>none) fun _ _=>by split;intro R F;dsimp only;rw[sI];kernel_rfl;trivial
def Wr(N:Nat)(r0:Int->O R)(a b:Nat)(c d:LA)(k0:Int->O R)(f:Int):O R:=(cond (decide (f>=0)) (cond (Ac f a) (Ax .u32 (c.drop (0+(f.toNat*1))) fun q=>cond (Ac f b) (Ax .u32 (d.drop (0+(f.toNat*1))) fun r=>cond (decide (q<r)) (r0 (-1)) (cond (Ac f a) (Ax .u32 (c.drop (0+(f.toNat*1))) fun s=>cond (Ac f b) (Ax .u32 (d.drop (0+(f.toNat*1))) fun t=>cond (decide (s>t)) (r0 1) (k0 (wrap .i64 (f - 1)))) none) none)) none) none) (r0 0))
def Ki(r0:Int->O R)(a b:Nat)(c d:LA):Nat->Int->O R
|0=>fun _=>none
|n+1=>Wr N r0 a b c d (Ki r0 a b c d n)
def IK(r0:Int->O R)(q0:Nat->Nat->LA->LA->Int->O R)(g:LA)(h:Nat)(o i:Bool)(j:LA)(l:Nat)(p m:Bool):O R:=(In N g h false i fun a c=>In N j l false m fun b d=>cond ((a:Int) != (b:Int)) (cond (decide ((a:Int)<(b:Int))) (r0 (-1)) (r0 1)) (q0 a b c d (wrap .i64 ((a:Int) - 1))))
def EM:=(Ad fun N g h o i j l p m r0=>IK (R:=R) N r0 (fun a b c d=>Ki N r0 a b c d N) g h o i j l p m).1
def ZM(g h o i j l p m r0):(@EM R N g h o i j l p m r0)=(IK N r0 (fun a b c d=>Ki N r0 a b c d N) g h o i j l p m):=by rw[EM,(Ad _).2]
def jT:Vx:=[Tc N]
def wm(F:KF R):=K8 Tryz.f218 Abm (jT N) [] N F
def wo(a b:Nat)(c d:LA)(K:St->O R):=fun f=>K ⟨[(0,Bby 0 a),(1,Bby 1 b),(5,iv f)],hq [bQ 1 c,bQ 1 d]⟩
def m_(F:KF R)(a b c d):∀ n,wo a b c d (Al (wm N F (pz 5444) []) n)=(Ki N (C5 F) a b c d n):=Dt fun n e=>(Cj (Wr N (C5 F) a b c d) e:_)
def ze:=Cr N 218 (jT N) Abm (fun
|[.imm g h 1 o i,.imm j l 1 p m],[]=>some fun _ k=>EM N g h o i j l p m (C5 k)
| _,_=>none) fun _ _=>by split;intro R F;exact(Cj (IK N (C5 F) · _ _ _ _ _ _ _ _) (Abl fun a b c d=>(lW ..).trans (m_ ..)):_).trans (ZM ..).symm;trivial
def LH(N:Nat)(k0:Int->Int->LA->O R)(r0:Nat->Bool->LA->O R)(a b:Nat)(c d f:LA)(g s:Int):O R:=(cond (Ac g a) (Ax .u32 (c.drop (0+(g.toNat*1))) fun u=>cond (decide ((wrap .u64 u)<s)) (cond (Ac g a) (cond ((beq 1 1)&&((ble ((0+(g.toNat*1))+1) f.length)&&(!false))) (k0 1 (wrap .i64 (g+1)) (f.set (0+(g.toNat*1)) (.int .u32 (wrap .u32 (wrap .u64 ((wrap .u64 ((wrap .u64 u)+4294967296)) - s)))))) none) none) (cond (Ac g a) (cond ((beq 1 1)&&((ble ((0+(g.toNat*1))+1) f.length)&&(!false))) (k0 0 (wrap .i64 (g+1)) (f.set (0+(g.toNat*1)) (.int .u32 (wrap .u32 (wrap .u64 ((wrap .u64 u) - s)))))) none) none)) none)
def OU(r0:Nat->Bool->LA->O R)(a b:Nat)(c d:LA)(k0:Int->Int->LA->O R)(q1:LA->Int->Int->O R)(t p:Int)(f:LA):O R:=(cond (decide (p<(a:Int))) (cond (decide (p<(b:Int))) (cond (Ac p b) (Ax .u32 (d.drop (0+(p.toNat*1))) fun v=>q1 f p (wrap .u64 (t+(wrap .u64 v)))) none) (q1 f p t)) (In N (f.take (a*1)) a false true fun w x=>r0 w true x))
def M1(r0:Nat->Bool->LA->O R)(a b:Nat)(c d:LA):Nat->Int->Int->LA->O R
|0=>fun _ _ _=>none
|n+1=>OU N r0 a b c d (M1 r0 a b c d n) (fun f=>LH N (M1 r0 a b c d n) r0 a b c d f)
def mb(r0:Nat->Bool->LA->O R)(q0:Nat->Nat->LA->LA->Int->Int->LA->O R)(h:LA)(i:Nat)(q j:Bool)(l:LA)(m:Nat)(r o:Bool):O R:=(EM N h i false j l m false o fun y=>cond (decide (y<0)) (r0 0 false []) (In N h i false j fun a c=>In N l m false o fun b d=>cond ((decide (0<=(a:Int)))&&((decide ((a:Int)<=(a:Int)))&&((decide ((a:Int)<=140737488355328))&&(decide (((a:Int)*((4:Nat):Int))<=140737488355328))))) (q0 a b c d 0 0 (replicate a (.int .u32 0))) none))
def mf:=(Ad fun N h i q j l m r o r0=>mb (R:=R) N r0 (fun a b c d=>M1 N r0 a b c d N) h i q j l m r o).1
def sJ(h i q j l m r o r0):(@mf R N h i q j l m r o r0)=(mb N r0 (fun a b c d=>M1 N r0 a b c d N) h i q j l m r o):=by rw[mf,(Ad _).2]
def wq:Hints:={H:=hK 5 (hS (hK 1 (hS (hP [0,1,6,7,8] (hK 1 (hS (hS (hK 1 (hJ [0,1,6,8,9] hL hL)) hL) hL))) hL)) hL),nils:=[(4,1)],modes:=[(2,1),(0,0)]}
def Abt:Vx:=[ze N,Tc N]
def wt(F:KF R):=K8 Tryz.f193 wq (Abt N) [] N F
def Am2(a b:Nat)(c d f:LA)(K:St->O R):=fun g s=>K ⟨[(0,Bby 0 a),(1,Bby 1 b),(6,Bby 2 a),(8,iv g),(9,.int .u64 s)],hq [bQ 1 c,bQ 1 d,bQ 1 f]⟩
def wu(a b:Nat)(c d:LA)(K:St->O R):=fun t p f=>K ⟨[(0,Bby 0 a),(1,Bby 1 b),(6,Bby 2 a),(7,.int .u64 t),(8,iv p)],hq [bQ 1 c,bQ 1 d,bQ 1 f]⟩
def zf Q0 (F:KF R) (a b c d f):Am2 a b c d f (By (wt N F (pz 357843205) [Q0]))=(LH N (wu a b c d Q0) (mG F) a b c d f):=by kernel_rfl
def zg(F:KF R)(a b c d):∀ n,wu a b c d (Al (wt N F (pz 87364) []) n)=(M1 N (mG F) a b c d n):=Dt fun n e=>(Sq (OU N (mG F) a b c d) e (Awo fun f=>(jW ..).trans ((zf ..).trans (jK (LH _ · _ _ _ _ _ _) e))):_)
def Arc:=Cr N 193 (Abt N) wq (fun
|[.imm h i 1 q j,.imm l m 1 r o],[]=>some fun _ k=>mf N h i q j l m r o (mG k)
| _,_=>none) fun _ _=>by split;intro R F;exact(Cj (mb N (mG F) · _ _ _ _ _ _ _ _) (Abl fun a b c d=>(lW ..).trans (zg ..)):_).trans (sJ ..).symm;trivial
def Qy(k1:Nat->Int->LA->LA->O R)(r0:Nat->Nat->Bool->LA->LA->O R)(b:LA)(a:Nat)(f c:Bool)(d:Nat)(h:Int)(g i:LA)(q:Nat)(s:LA):O R:=(mf N (s.take (q*1)) q false true (g.take (d*1)) d false true fun x y z=>cond y (cond (Ac (wrap .i64 (Int.tdiv h 32)) a) (Ax .u32 (i.drop (0+(((wrap .i64 (Int.tdiv h 32)).toNat)*1))) fun aa=>cond (decide ((wrap .u64 (Int.tmod h 32))<0)) none (cond (Ac (wrap .i64 (Int.tdiv h 32)) a) (cond ((beq 1 1)&&((ble ((0+(((wrap .i64 (Int.tdiv h 32)).toNat)*1))+1) i.length)&&(!false))) (k1 x (wrap .i64 (h - 1)) (i.set (0+(((wrap .i64 (Int.tdiv h 32)).toNat)*1)) (.int .u32 (rt .u32 aa (wrap .u32 ((1:Int)*2 ^ (min ((wrap .u64 (Int.tmod h 32)).toNat) 32)))))) z) none) none)) none) (k1 q (wrap .i64 (h - 1)) i s))
def Yu(r0:Nat->Nat->Bool->LA->LA->O R)(b:LA)(a:Nat)(f c:Bool)(d:Nat)(g:LA)(k1:Nat->Int->LA->LA->O R)(q2:Int->LA->Nat->LA->O R)(j:Nat)(h:Int)(i r:LA):O R:=(cond (decide (h>=0)) (fx N (r.take (j*1)) j false true (r.take (j*1)) j false true fun u v=>uy N b a false c h fun ab=>cond (ab==1) (fx N (v.take (u*1)) u false true [.int .u32 1] 1 false true fun ac ad=>q2 h i ac ad) (q2 h i u v)) (In N (i.take (a*1)) a false true fun ae af=>In N (r.take (j*1)) j false true fun ag ah=>r0 ae ag true af ah))
def Ii(r0:Nat->Nat->Bool->LA->LA->O R)(b:LA)(a:Nat)(f c:Bool)(d:Nat)(g:LA):Nat->Nat->Int->LA->LA->O R
|0=>fun _ _ _ _=>none
|n+1=>Yu N r0 b a f c d g (Ii r0 b a f c d g n) (fun h i=>Qy N (Ii r0 b a f c d g n) r0 b a f c d h g i)
def LI(r0:Nat->Nat->Bool->LA->LA->O R)(b:LA)(a:Nat)(f c:Bool)(d:Nat)(g:LA)(q1:Nat->Int->LA->LA->O R):O R:=(cond ((decide (0<=(a:Int)))&&((decide ((a:Int)<=(a:Int)))&&((decide ((a:Int)<=140737488355328))&&(decide (((a:Int)*((4:Nat):Int))<=140737488355328))))) (dE N b a false c fun ai=>q1 0 (wrap .i64 (ai - 1)) (replicate a (.int .u32 0)) []) none)
def V5(r0:Nat->Nat->Bool->LA->LA->O R)(b:LA)(a:Nat)(f c:Bool)(d:Nat)(g:LA):O R:=LI N r0 b a f c d g (Ii N r0 b a f c d g N)
def OV(r0:Nat->Nat->Bool->LA->LA->O R)(q0:Nat->LA->O R)(b:LA)(a:Nat)(f c:Bool)(l:LA)(m:Nat)(p o:Bool):O R:=(In N l m false o fun d g=>cond ((d:Int)==0) (r0 0 0 false [] []) (O4 N b a false c fun w aj=>O4 N (g.take (d*1)) d false true fun t ak=>cond (aj==true) (cond (cond true ak false) (cond (t==0) none (Kh N (wrap .u64 (Int.tdiv w t)) fun al am=>cond (t==0) none (Kh N (Int.tmod w t) fun an ao=>r0 al an true am ao))) (q0 d g)) (q0 d g)))
def Xe:=(Ad fun N b a f c l m p o r0=>OV (R:=R) N r0 (fun d g=>V5 N r0 b a f c d g) b a f c l m p o).1
def dF(b a f c l m p o r0):(@Xe R N b a f c l m p o r0)=(OV N r0 (fun d g=>V5 N r0 b a f c d g) b a f c l m p o):=by rw[Xe,(Ad _).2]
def jU:Hints:={H:=hK 4 (hJ [0,1,5] hL (hK 1 (hS (hK 1 (hS (hP [0,1,4,5,11] (hK 1 (hS (hS (hK 1 (hJ [0,1,4,5,11] hL hL)) hL) hL))) hL)) hL))),nils:=[(4,1),(5,1)],modes:=[(2,1),(2,1),(0,0)]}
def mg:Vx:=[Tc N,m8 N,TG N,Amz N,Ara N,Arb N,Arc N]
def RE(F:KF R):=K8 Tryz.f159 jU (mg N) [] N F
def M2(F:KF R):Nat->Nat->Bool->LA->LA->O R:=fun ap aq ar au av=>F (.tup [Bby 0 ap,Bby 1 aq,.bool ar]) (hq [bQ 1 au,bQ 1 av])
def zh(b:LA)(a:Nat)(f c:Bool)(d:Nat)(h:Int)(g i:LA)(K:St->O R):=fun q s=>K ⟨[(0,.imm b a 1 f c),(1,Bby 0 d),(4,Bby 1 a),(5,Bby 2 q),(11,iv h)],hq [bQ 1 g,bQ 1 i,bQ 1 s]⟩
def jV(b:LA)(a:Nat)(f c:Bool)(d:Nat)(g:LA)(K:St->O R):=fun j h i r=>K ⟨[(0,.imm b a 1 f c),(1,Bby 0 d),(4,Bby 1 a),(5,Bby 2 j),(11,iv h)],hq [bQ 1 g,bQ 1 i,bQ 1 r]⟩
def zi(b:LA)(a:Nat)(f c:Bool)(d:Nat)(g:LA)(K:St->O R):=K ⟨[(0,.imm b a 1 f c),(1,Bby 0 d),(5,Bby 1 0)],hq [bQ 1 g,bQ 1 []]⟩
def qB Q1 (F:KF R) (b a f c d h g i):zh b a f c d h g i (By (RE N F (pz 1431585029) [Q1]))=(Qy N (jV b a f c d g Q1) (M2 F) b a f c d h g i):=by kernel_rfl
def qC(F:KF R)(b a f c d g):∀ n,jV b a f c d g (Al (RE N F (pz 349508) []) n)=(Ii N (M2 F) b a f c d g n):=Dt fun n e=>(Sq (Yu N (M2 F) b a f c d g) e (CJ fun h i=>(jW ..).trans ((qB ..).trans (jK (Qy _ · _ _ _ _ _ _ _ _ _) e))):_)
def qD(F:KF R)(b a f c d g):zi b a f c d g (By (RE N F (pz 1365) []))=(V5 N (M2 F) b a f c d g):=(Cj (LI N (M2 F) b a f c d g) ((lW ..).trans (qC ..)):_)
def Aes:=Cr N 159 (mg N) jU (fun
|[.imm b a 1 f c,.imm l m 1 p o],[]=>some fun _ k=>Xe N b a f c l m p o (M2 k)
| _,_=>none) fun _ _=>by split;intro R F;exact(Cj (OV N (M2 F) · _ _ _ _ _ _ _ _) (CJ fun d g=>(jW ..).trans (qD ..)):_).trans (dF ..).symm;trivial
def WL(N:Nat)(r0:Nat->O R)(a:Nat)(b:LA)(k0:Int->O R)(c:Int):O R:=(cond ((decide (c>0))==true) (cond (Ac (wrap .i64 (c - 1)) a) (Ax .u32 (b.drop (0+(((wrap .i64 (c - 1)).toNat)*1))) fun d=>cond (cond true (d==0) false) (k0 (wrap .i64 (c - 1))) (cond ((decide ((0:Int)<=(0:Int)))&&((decide (0<=c))&&((decide (c<=(a:Int)))&&(decide ((a:Int)<=(a:Int)))))) (r0 c.toNat) none)) none) (cond ((decide ((0:Int)<=(0:Int)))&&((decide (0<=c))&&((decide (c<=(a:Int)))&&(decide ((a:Int)<=(a:Int)))))) (r0 c.toNat) none))
def BC(r0:Nat->O R)(a:Nat)(b:LA):Nat->Int->O R
|0=>fun _=>none
|n+1=>WL N r0 a b (BC r0 a b n)
def mh(N:Nat)(r0:Nat->O R)(q0:Int->O R)(a:Nat)(b:LA):O R:=(q0 (a:Int))
def dG:=(Ad fun N a b r0=>mh (R:=R) N r0 (BC N r0 a b N) a b).1
def kU(a b r0):(@dG R N a b r0)=(mh N r0 (BC N r0 a b N) a b):=by rw[dG,(Ad _).2]
def Ard(F:KF R):=K8 Tryz.f212 rx [] [100000] N F
def fy(b:LA)(F:KF R):Nat->O R:=fun f=>F (.own 100000 0 f) [(100000,bQ 1 b)]
def Are(a:Nat)(b:LA)(K:St->O R):=fun c=>K ⟨[(0,.own 100000 0 a),(3,iv c)],[(100000,bQ 1 b)]⟩
def Aet(F:KF R)(a b):∀ n,Are a b (Al (Ard N F (pz 336) []) n)=(BC N (fy b F) a b n):=Dt fun n e=>(Cj (WL N (fy b F) a b) e:_)
def Air:=Cr N 212 [] rx (fun
|[.own 100000 0 a],[(100000,⟨false,false,true,false,1,b,false,none⟩)]=>some fun _ k=>dG N a b (fy b k)
| _,_=>none) fun _ _=>by split;rename_i a b;intro R F;exact(Cj (mh N (fy b F) · a b) ((lW ..).trans (Aet ..)):_).trans (kU ..).symm;trivial
def LJ(a:Int)(r0:Nat->LA->O R):O R:=(dG N 2 [.int .u32 (wrap .u32 a),.int .u32 (wrap .u32 (Int.fdiv a (2 ^ 32)))] fun b=>r0 b [.int .u32 (wrap .u32 a),.int .u32 (wrap .u32 (Int.fdiv a (2 ^ 32)))])
def M3:=(Ad (@LJ R)).1
def OW:@M3 R=@LJ R:=(Ad _).2
def ZN:=Cr N 197 [Air N] Ah8 (fun
|[.int .u64 a],[]=>some fun _ k=>M3 N a (Gb k)
| _,_=>none) fun _ _=>by split;intro R F;dsimp only;rw[OW];kernel_rfl;trivial
def kV(N:Nat)(c:Bool)(a:Nat)(b:LA)(r0:Bool->O R):O R:=(cond (c==true) (r0 (cond true (decide ((a:Int)>0)) false)) (r0 false))
def Qz:=(Ad (@kV R)).1
def jX:@Qz R=@kV R:=(Ad _).2
def Aeu(a:Nat)(b:LA)(F:KF R):Bool->O R:=fun d=>F (.agg [.bool d,.own 100000 0 a]) [(100000,bQ 1 b)]
def OX:=Cr N 196 [] Cp (fun
|[.bool c,.own 100000 0 a],[(100000,⟨false,false,true,false,1,b,false,none⟩)]=>some fun _ k=>Qz N c a b (Aeu a b k)
| _,_=>none) fun _ _=>by split;intro R F;dsimp only;rw[jX];kernel_rfl;trivial
def dH(a:Int)(r0:Bool->Nat->LA->O R):O R:=(cond (decide (a<0)) (M3 N (wrap .u64 ((0:Int) - (wrap .u64 a))) fun b c=>Qz N true b c fun f=>r0 f b c) (M3 N (wrap .u64 a) fun d e=>Qz N false d e fun g=>r0 g d e))
def O5:=(Ad (@dH R)).1
def dI:@O5 R=@dH R:=(Ad _).2
def WM:=Cr N 164 [ZN N,OX N] Cp (fun
|[.int .i64 a],[]=>some fun _ k=>O5 N a (Aia k)
| _,_=>none) fun _ _=>by split;intro R F;dsimp only;rw[dI];kernel_rfl;trivial
def CQ(N:Nat)(r0:LA->Nat->O R)(c:LA)(a:Nat)(d b:Bool)(k0:Int->O R)(f:Int):O R:=(cond ((decide (f>0))==true) (cond (Ac (wrap .i64 (f - 1)) a) (Ax .u32 (c.drop (((wrap .i64 (f - 1)).toNat)*1)) fun g=>cond (cond true (g==0) false) (k0 (wrap .i64 (f - 1))) (cond ((decide ((0:Int)<=(0:Int)))&&((decide (0<=f))&&((decide (f<=(a:Int)))&&(decide ((a:Int)<=(a:Int)))))) (r0 (c.take (f.toNat*1)) f.toNat) none)) none) (cond ((decide ((0:Int)<=(0:Int)))&&((decide (0<=f))&&((decide (f<=(a:Int)))&&(decide ((a:Int)<=(a:Int)))))) (r0 (c.take (f.toNat*1)) f.toNat) none))
def O6(r0:LA->Nat->O R)(c:LA)(a:Nat)(d b:Bool):Nat->Int->O R
|0=>fun _=>none
|n+1=>CQ N r0 c a d b (O6 r0 c a d b n)
def WN(N:Nat)(r0:LA->Nat->O R)(q0:Int->O R)(c:LA)(a:Nat)(d b:Bool):O R:=(q0 (a:Int))
def Hm:=(Ad fun N c a d b r0=>WN (R:=R) N r0 (O6 N r0 c a d b N) c a d b).1
def jY(c a d b r0):(@Hm R N c a d b r0)=(WN N r0 (O6 N r0 c a d b N) c a d b):=by rw[Hm,(Ad _).2]
def Aev(F:KF R):=K8 Tryz.f212 rx [] [] N F
def IL(b:Bool)(F:KF R):LA->Nat->O R:=fun h i=>F (.imm h i 1 false b) []
def Aew(c:LA)(a:Nat)(d b:Bool)(K:St->O R):=fun f=>K ⟨[(0,.imm c a 1 d b),(3,iv f)],[]⟩
def tu(F:KF R)(c a d b):∀ n,Aew c a d b (Al (Aev N F (pz 336) []) n)=(O6 N (IL b F) c a d b n):=Dt fun n e=>(Cj (CQ N (IL b F) c a d b) e:_)
def EN:=Cr N 212 [] rx (fun
|[.imm c a 1 d b],[]=>some fun _ k=>Hm N c a d b (IL b k)
| _,_=>none) fun _ _=>by split;rename_i c a d b;intro R F;exact(Cj (WN N (IL b F) · c a d b) ((lW ..).trans (tu ..)):_).trans (jY ..).symm;trivial
def WO(N:Nat)(k1:Nat->Int->Int->LA->O R)(r0:Nat->LA->O R)(f:LA)(a:Nat)(c:Bool)(i:Nat)(h l:Int)(g:LA)(b:Nat)(d:Bool)(j:Int)(k2:Int->Int->Int->LA->O R)(w x m:Int)(u:LA):O R:=(cond (decide (m<x)) (cond (Ac m a) (Ax .u32 (f.drop (m.toNat*1)) fun y=>cond (Ac (wrap .i64 (h+m)) i) (Ax .u32 (u.drop (0+(((wrap .i64 (h+m)).toNat)*1))) fun z=>cond (Ac (wrap .i64 (h+m)) i) (cond ((beq 1 1)&&((ble ((0+(((wrap .i64 (h+m)).toNat)*1))+1) u.length)&&(!false))) (k2 (Int.fdiv (wrap .u64 (w+(wrap .u64 ((wrap .u64 ((wrap .u64 l)*(wrap .u64 y)))+(wrap .u64 z))))) (2 ^ 32)) x (wrap .i64 (m+1)) (u.set (0+(((wrap .i64 (h+m)).toNat)*1)) (.int .u32 (wrap .u32 (wrap .u64 (w+(wrap .u64 ((wrap .u64 ((wrap .u64 l)*(wrap .u64 y)))+(wrap .u64 z))))))))) none) none) none) none) (cond (Ac (wrap .i64 (h+(a:Int))) i) (cond ((beq 1 1)&&((ble ((0+(((wrap .i64 (h+(a:Int))).toNat)*1))+1) u.length)&&(!false))) (k1 i j (wrap .i64 (h+1)) (u.set (0+(((wrap .i64 (h+(a:Int))).toNat)*1)) (.int .u32 (wrap .u32 w)))) none) none))
def BD(k1:Nat->Int->Int->LA->O R)(r0:Nat->LA->O R)(f:LA)(a:Nat)(c:Bool)(i:Nat)(h l:Int)(g:LA)(b:Nat)(d:Bool)(j:Int):Nat->Int->Int->Int->LA->O R
|0=>fun _ _ _ _=>none
|n+1=>WO N k1 r0 f a c i h l g b d j (BD k1 r0 f a c i h l g b d j n)
def LK(r0:Nat->LA->O R)(f:LA)(a:Nat)(c:Bool)(g:LA)(b:Nat)(d:Bool)(k1:Nat->Int->Int->LA->O R)(q2:Nat->Int->Int->Int->Int->Int->Int->LA->O R)(i:Nat)(j h:Int)(v:LA):O R:=(cond (decide (h<j)) (cond (Ac h b) (Ax .u32 (g.drop (h.toNat*1)) fun l=>cond (l==0) (k1 i j (wrap .i64 (h+1)) v) (q2 i h l j 0 (a:Int) 0 v)) none) (dG N i v fun aa=>r0 aa v))
def Uj(r0:Nat->LA->O R)(f:LA)(a:Nat)(c:Bool)(g:LA)(b:Nat)(d:Bool):Nat->Nat->Int->Int->LA->O R
|0=>fun _ _ _ _=>none
|n+1=>LK N r0 f a c g b d (Uj r0 f a c g b d n) (fun i h l j=>BD N (Uj r0 f a c g b d n) r0 f a c i h l g b d j N)
def kW(N:Nat)(r0:Nat->LA->O R)(g:LA)(b:Nat)(d:Bool)(f:LA)(a:Nat)(c:Bool)(q1:Nat->Int->Int->LA->O R):O R:=(cond ((decide (0<=(wrap .i64 ((b:Int)+(a:Int)))))&&((decide ((wrap .i64 ((b:Int)+(a:Int)))<=(wrap .i64 ((b:Int)+(a:Int)))))&&((decide ((wrap .i64 ((b:Int)+(a:Int)))<=140737488355328))&&(decide (((wrap .i64 ((b:Int)+(a:Int)))*((4:Nat):Int))<=140737488355328))))) (q1 ((wrap .i64 ((b:Int)+(a:Int))).toNat) (b:Int) 0 (replicate ((wrap .i64 ((b:Int)+(a:Int))).toNat) (.int .u32 0))) none)
def gA(r0:Nat->LA->O R)(g:LA)(b:Nat)(d:Bool)(f:LA)(a:Nat)(c:Bool):O R:=kW N r0 g b d f a c (Uj N r0 f a c g b d N)
def gC(r0:Nat->LA->O R)(q0:LA->Nat->LA->Nat->O R)(o:LA)(p:Nat)(q d:Bool)(r:LA)(s:Nat)(t c:Bool):O R:=(Hm N o p q d fun g b=>Hm N r s t c fun f a=>cond (((b:Int)==0)==false) (cond (cond false true ((a:Int)==0)) (r0 0 []) (q0 g b f a)) (r0 0 []))
def wv:=(Ad fun N o p q d r s t c r0=>gC (R:=R) N r0 (fun g b f a=>gA N r0 g b d f a c) o p q d r s t c).1
def WP(o p q d r s t c r0):(@wv R N o p q d r s t c r0)=(gC N r0 (fun g b f a=>gA N r0 g b d f a c) o p q d r s t c):=by rw[wv,(Ad _).2]
def Abu:Hints:={H:=hK 2 (hJ [0,1] hL (hK 1 (hS (hK 1 (hS (hP [1,5,29,30,31] (hK 2 (hS (hS (hK 3 (hS (hK 1 (hS (hP [1,5,6,7,8,29,30,31,38,39,40] hL) hL)) hL)) hL) hL))) hL)) hL))),nils:=[(4,1)],modes:=[(2,1)]}
def O7:=A0x (EN N) (Air N) (Eq.refl 212)
def Ais:Vx:=[O7 N]
def qE(F:KF R):=K8 Tryz.f185 Abu (Ais N) [] N F
def Arf(f:LA)(a:Nat)(c:Bool)(i:Nat)(h l:Int)(g:LA)(b:Nat)(d:Bool)(j:Int)(K:St->O R):=fun w x m u=>K ⟨[(1,.imm f a 1 false c),(5,Bby 0 i),(6,iv h),(7,.int .u32 l),(8,.int .u64 w),(29,.imm g b 1 false d),(30,iv j),(31,iv h),(38,.imm f a 1 false c),(39,iv x),(40,iv m)],hq [bQ 1 u]⟩
def qF(f:LA)(a:Nat)(c:Bool)(g:LA)(b:Nat)(d:Bool)(K:St->O R):=fun i j h v=>K ⟨[(1,.imm f a 1 false c),(5,Bby 0 i),(29,.imm g b 1 false d),(30,iv j),(31,iv h)],hq [bQ 1 v]⟩
def Arg(g:LA)(b:Nat)(d:Bool)(f:LA)(a:Nat)(c:Bool)(K:St->O R):=K ⟨[(0,.imm g b 1 false d),(1,.imm f a 1 false c)],[]⟩
def Aex Q1 (F:KF R) (f a c i h l g b d j):∀ n,Arf f a c i h l g b d j (Al (qE N F (pz 91553596740) [Q1]) n)=(BD N (qF f a c g b d Q1) (Gb F) f a c i h l g b d j n):=Dt fun n e=>(Cj (WO N (qF f a c g b d Q1) (Gb F) f a c i h l g b d j) e:_)
def Aey(F:KF R)(f a c g b d):∀ n,qF f a c g b d (Al (qE N F (pz 21828) []) n)=(Uj N (Gb F) f a c g b d n):=Dt fun n e=>(Sq (LK N (Gb F) f a c g b d) e (Abl fun i h l j=>(lW ..).trans ((Aex ..).trans (jK (BD _ · _ _ _ _ _ _ _ _ _ _ _ _) e))):_)
def Aez(F:KF R)(g b d f a c):Arg g b d f a c (By (qE N F (pz 85) []))=(gA N (Gb F) g b d f a c):=(Cj (kW N (Gb F) g b d f a c) ((lW ..).trans (Aey ..)):_)
def Aui:=Cr N 185 (Ais N) Abu (fun
|[.imm o p 1 q d,.imm r s 1 t c],[]=>some fun _ k=>wv N o p q d r s t c (Gb k)
| _,_=>none) fun _ _=>by split;intro R F;exact(Cj (gC N (Gb F) · _ _ _ _ _ _ _ _) (Abl fun g b f a=>(jW ..).trans (Aez ..)):_).trans (WP ..).symm;trivial
def Ae0(a:LA)(c:Bool)(b:LA)(d:Bool)(r0:Bool->Nat->LA->O R):O R:=(QY a fun g=>QY b fun h=>A5 1 (a.drop 1) fun i j=>A5 1 (b.drop 1) fun l m=>wv N i j false c l m false d fun e f=>Qz N (!(g==h)) e f fun n=>r0 n e f)
def dJ:=(Ad (@Ae0 R)).1
def ww:@dJ R=@Ae0 R:=(Ad _).2
def Ait:=Cr N 168 [Aui N,OX N] Cp (fun
|[.pagg a c,.pagg b d],[]=>some fun _ k=>dJ N a c b d (Aia k)
| _,_=>none) fun _ _=>by split;intro R F;dsimp only;rw[ww];kernel_rfl;trivial
def wx(c:LA)(d:Nat)(e b:Bool)(r0:Nat->LA->O R):O R:=(Hm N c d e b fun f a=>cond ((decide (0<=(a:Int)))&&((decide ((a:Int)<=(a:Int)))&&((decide ((a:Int)<=140737488355328))&&(decide (((a:Int)*((4:Nat):Int))<=140737488355328))))) (cond ((!b)||(A0 f)) (r0 a (Gh (replicate a (.int .u32 0)) 0 (f.take ((min a a)*1)))) none) none)
def uz:=(Ad (@wx R)).1
def sK:@uz R=@wx R:=(Ad _).2
def Arh:=Cr N 202 [EN N] Ah8 (fun
|[.imm c d 1 e b],[]=>some fun _ k=>uz N c d e b (Gb k)
| _,_=>none) fun _ _=>by split;intro R F;dsimp only;rw[sK];kernel_rfl;trivial
def Ae1(a:LA)(b:Bool)(r0:Bool->Nat->LA->O R):O R:=(QY a fun e=>A5 1 (a.drop 1) fun f g=>uz N f g false b fun c d=>Qz N (!e) c d fun h=>r0 h c d)
def qG:=(Ad (@Ae1 R)).1
def wy:@qG R=@Ae1 R:=(Ad _).2
def Aiu:=Cr N 169 [Arh N,OX N] Cp (fun
|[.pagg a b],[]=>some fun _ k=>qG N a b (Aia k)
| _,_=>none) fun _ _=>by split;intro R F;dsimp only;rw[wy];kernel_rfl;trivial
def LL(r0:Nat->LA->O R)(b:LA)(a:Nat)(d:Bool)(f:LA)(c:Nat)(g:Bool)(k1:Nat->Int->Int->Int->LA->O R)(m:Nat)(o v h:Int)(l:LA):O R:=(cond (decide (h<v)) (cond (Ac h a) (Ax .u32 (b.drop (h.toNat*1)) fun w=>cond (decide (h<(c:Int))) (cond (Ac h c) (Ax .u32 (f.drop (h.toNat*1)) fun z=>cond (Ac h m) (cond ((beq 1 1)&&((ble ((0+(h.toNat*1))+1) l.length)&&(!false))) (k1 m (Int.fdiv (wrap .u64 ((wrap .u64 (o+(wrap .u64 w)))+(wrap .u64 z))) (2 ^ 32)) v (wrap .i64 (h+1)) (l.set (0+(h.toNat*1)) (.int .u32 (wrap .u32 (wrap .u64 ((wrap .u64 (o+(wrap .u64 w)))+(wrap .u64 z))))))) none) none) none) (cond (Ac h m) (cond ((beq 1 1)&&((ble ((0+(h.toNat*1))+1) l.length)&&(!false))) (k1 m (Int.fdiv (wrap .u64 (o+(wrap .u64 w))) (2 ^ 32)) v (wrap .i64 (h+1)) (l.set (0+(h.toNat*1)) (.int .u32 (wrap .u32 (wrap .u64 (o+(wrap .u64 w))))))) none) none)) none) (cond (Ac (a:Int) m) (cond ((beq 1 1)&&((ble ((0+(a*1))+1) l.length)&&(!false))) (dG N m (l.set (0+(a*1)) (.int .u32 (wrap .u32 o))) fun ac=>r0 ac (l.set (0+(a*1)) (.int .u32 (wrap .u32 o)))) none) none))
def BE(r0:Nat->LA->O R)(b:LA)(a:Nat)(d:Bool)(f:LA)(c:Nat)(g:Bool):Nat->Nat->Int->Int->Int->LA->O R
|0=>fun _ _ _ _ _=>none
|n+1=>LL N r0 b a d f c g (BE r0 b a d f c g n)
def kX(N:Nat)(r0:Nat->LA->O R)(q1:LA->Nat->Bool->LA->Nat->Bool->Nat->Int->Int->Int->LA->O R)(b:LA)(a:Nat)(d:Bool)(f:LA)(c:Nat)(g:Bool):O R:=(cond ((decide (0<=(wrap .i64 ((a:Int)+1))))&&((decide ((wrap .i64 ((a:Int)+1))<=(wrap .i64 ((a:Int)+1))))&&((decide ((wrap .i64 ((a:Int)+1))<=140737488355328))&&(decide (((wrap .i64 ((a:Int)+1))*((4:Nat):Int))<=140737488355328))))) (q1 b a d f c g ((wrap .i64 ((a:Int)+1)).toNat) 0 (a:Int) 0 (replicate ((wrap .i64 ((a:Int)+1)).toNat) (.int .u32 0))) none)
def TJ(r0:Nat->LA->O R)(b:LA)(a:Nat)(d:Bool)(f:LA)(c:Nat)(g:Bool):O R:=kX N r0 (fun b a d f c g=>BE N r0 b a d f c g N) b a d f c g
def mj(r0:Nat->LA->O R)(q0:LA->Nat->Bool->LA->Nat->Bool->O R)(p:LA)(q:Nat)(r i:Bool)(s:LA)(t:Nat)(u j:Bool):O R:=(Hm N p q r i fun aa x=>Hm N s t u j fun ab y=>cond (decide ((x:Int)<(y:Int))) (q0 ab y j aa x i) (q0 aa x i ab y j))
def wz:=(Ad fun N p q r i s t u j r0=>mj (R:=R) N r0 (TJ N r0) p q r i s t u j).1
def kY(p q r i s t u j r0):(@wz R N p q r i s t u j r0)=(mj N r0 (TJ N r0) p q r i s t u j):=by rw[wz,(Ad _).2]
def Abv:Hints:={H:=hK 2 (hJ [0,1] hL (hK 2 (hS (hK 1 (hS (hP [0,1,5,6,24,25,26] hL) hL)) hL))),nils:=[(4,1)],modes:=[(2,1)]}
def Aiv:Vx:=[O7 N]
def Abw(F:KF R):=K8 Tryz.f200 Abv (Aiv N) [] N F
def Ari(b:LA)(a:Nat)(d:Bool)(f:LA)(c:Nat)(g:Bool)(K:St->O R):=fun m o v h l=>K ⟨[(0,.imm b a 1 false d),(1,.imm f c 1 false g),(5,Bby 0 m),(6,.int .u64 o),(24,.imm b a 1 false d),(25,iv v),(26,iv h)],hq [bQ 1 l]⟩
def Arj(K:St->O R):=fun b a d f c g=>K ⟨[(0,.imm b a 1 false d),(1,.imm f c 1 false g)],[]⟩
def Ae2(F:KF R)(b a d f c g):∀ n,Ari b a d f c g (Al (Abw N F (pz 87364) []) n)=(BE N (Gb F) b a d f c g n):=Dt fun n e=>(Cj (LL N (Gb F) b a d f c g) e:_)
def Ae3(F:KF R):Arj (By (Abw N F (pz 85) []))=(TJ N (Gb F)):=(Cj (kX N (Gb F)) (A10 fun b a d f c g=>(lW ..).trans (Ae2 ..)):_)
def Auj:=Cr N 200 (Aiv N) Abv (fun
|[.imm p q 1 r i,.imm s t 1 u j],[]=>some fun _ k=>wz N p q r i s t u j (Gb k)
| _,_=>none) fun _ _=>by split;intro R F;exact(Cj (mj N (Gb F) · _ _ _ _ _ _ _ _) ((jW ..).trans (Ae3 ..)):_).trans (kY ..).symm;trivial
def Ru(N:Nat)(r0:Int->O R)(f:LA)(a:Nat)(b:Bool)(g:LA)(c:Nat)(d:Bool)(k0:Int->O R)(h:Int):O R:=(cond (decide (h>=0)) (cond (Ac h a) (Ax .u32 (f.drop (h.toNat*1)) fun q=>cond (Ac h c) (Ax .u32 (g.drop (h.toNat*1)) fun r=>cond (decide (q<r)) (r0 (-1)) (cond (Ac h a) (Ax .u32 (f.drop (h.toNat*1)) fun s=>cond (Ac h c) (Ax .u32 (g.drop (h.toNat*1)) fun t=>cond (decide (s>t)) (r0 1) (k0 (wrap .i64 (h - 1)))) none) none)) none) none) (r0 0))
def Hn(r0:Int->O R)(f:LA)(a:Nat)(b:Bool)(g:LA)(c:Nat)(d:Bool):Nat->Int->O R
|0=>fun _=>none
|n+1=>Ru N r0 f a b g c d (Hn r0 f a b g c d n)
def Yv(r0:Int->O R)(q0:LA->Nat->LA->Nat->Int->O R)(i:LA)(j:Nat)(l b:Bool)(m:LA)(o:Nat)(p d:Bool):O R:=(Hm N i j l b fun f a=>Hm N m o p d fun g c=>cond ((a:Int) != (c:Int)) (cond (decide ((a:Int)<(c:Int))) (r0 (-1)) (r0 1)) (q0 f a g c (wrap .i64 ((a:Int) - 1))))
def V6:=(Ad fun N i j l b m o p d r0=>Yv (R:=R) N r0 (fun f a g c=>Hn N r0 f a b g c d N) i j l b m o p d).1
def OY(i j l b m o p d r0):(@V6 R N i j l b m o p d r0)=(Yv N r0 (fun f a g c=>Hn N r0 f a b g c d N) i j l b m o p d):=by rw[V6,(Ad _).2]
def ZO:Vx:=[EN N]
def qH(F:KF R):=K8 Tryz.f207 Abm (ZO N) [] N F
def qI(f:LA)(a:Nat)(b:Bool)(g:LA)(c:Nat)(d:Bool)(K:St->O R):=fun h=>K ⟨[(0,.imm f a 1 false b),(1,.imm g c 1 false d),(5,iv h)],[]⟩
def iH(F:KF R)(f a b g c d):∀ n,qI f a b g c d (Al (qH N F (pz 5444) []) n)=(Hn N (C5 F) f a b g c d n):=Dt fun n e=>(Cj (Ru N (C5 F) f a b g c d) e:_)
def tv:=Cr N 207 (ZO N) Abm (fun
|[.imm i j 1 l b,.imm m o 1 p d],[]=>some fun _ k=>V6 N i j l b m o p d (C5 k)
| _,_=>none) fun _ _=>by split;intro R F;exact(Cj (Yv N (C5 F) · _ _ _ _ _ _ _ _) (Abl fun f a g c=>(lW ..).trans (iH ..)):_).trans (OY ..).symm;trivial
def LM(r0:Nat->Bool->LA->O R)(f:LA)(d:Nat)(b:Bool)(a:Nat)(g:LA)(c:Bool)(k0:Int->Int->Int->LA->O R)(r s h:Int)(i:LA):O R:=(cond (decide (h<s)) (cond (Ac h a) (Ax .u32 (g.drop (h.toNat*1)) fun t=>cond (decide (h<(d:Int))) (cond (Ac h d) (Ax .u32 (f.drop (h.toNat*1)) fun u=>cond (Ac h a) (cond ((beq 1 1)&&((ble ((0+(h.toNat*1))+1) i.length)&&(!false))) (k0 (Int.fdiv (wrap .u64 ((wrap .u64 ((wrap .u64 t) - r)) - (wrap .u64 u))) (2 ^ 63)) s (wrap .i64 (h+1)) (i.set (0+(h.toNat*1)) (.int .u32 (wrap .u32 (wrap .u64 ((wrap .u64 ((wrap .u64 t) - r)) - (wrap .u64 u))))))) none) none) none) (cond (Ac h a) (cond ((beq 1 1)&&((ble ((0+(h.toNat*1))+1) i.length)&&(!false))) (k0 (Int.fdiv (wrap .u64 ((wrap .u64 t) - r)) (2 ^ 63)) s (wrap .i64 (h+1)) (i.set (0+(h.toNat*1)) (.int .u32 (wrap .u32 (wrap .u64 ((wrap .u64 t) - r)))))) none) none)) none) (dG N a i fun v=>r0 v true i))
def Xv(r0:Nat->Bool->LA->O R)(f:LA)(d:Nat)(b:Bool)(a:Nat)(g:LA)(c:Bool):Nat->Int->Int->Int->LA->O R
|0=>fun _ _ _ _=>none
|n+1=>LM N r0 f d b a g c (Xv r0 f d b a g c n)
def mm(r0:Nat->Bool->LA->O R)(q0:LA->Nat->Nat->LA->Int->Int->Int->LA->O R)(j:LA)(l:Nat)(m c:Bool)(o:LA)(p:Nat)(q b:Bool):O R:=(Hm N j l m c fun g a=>Hm N o p q b fun f d=>V6 N g a false c f d false b fun w=>cond (decide (w<0)) (r0 0 false []) (cond ((decide (0<=(a:Int)))&&((decide ((a:Int)<=(a:Int)))&&((decide ((a:Int)<=140737488355328))&&(decide (((a:Int)*((4:Nat):Int))<=140737488355328))))) (q0 f d a g 0 (a:Int) 0 (replicate a (.int .u32 0))) none))
def kZ:=(Ad fun N j l m c o p q b r0=>mm (R:=R) N r0 (fun f d a g=>Xv N r0 f d b a g c N) j l m c o p q b).1
def k_(j l m c o p q b r0):(@kZ R N j l m c o p q b r0)=(mm N r0 (fun f d a g=>Xv N r0 f d b a g c N) j l m c o p q b):=by rw[kZ,(Ad _).2]
def Abx:Hints:={H:=hK 5 (hS (hK 1 (hS (hP [1,6,7,22,23,24] hL) hL)) hL),nils:=[(4,1)],modes:=[(2,1),(0,0)]}
def Aiw:Vx:=[O7 N,tv N]
def Ark(F:KF R):=K8 Tryz.f201 Abx (Aiw N) [] N F
def Arl(f:LA)(d:Nat)(b:Bool)(a:Nat)(g:LA)(c:Bool)(K:St->O R):=fun r s h i=>K ⟨[(1,.imm f d 1 false b),(6,Bby 0 a),(7,.int .u64 r),(22,.imm g a 1 false c),(23,iv s),(24,iv h)],hq [bQ 1 i]⟩
def Ae4(F:KF R)(f d b a g c):∀ n,Arl f d b a g c (Al (Ark N F (pz 87364) []) n)=(Xv N (mG F) f d b a g c n):=Dt fun n e=>(Cj (LM N (mG F) f d b a g c) e:_)
def Auk:=Cr N 201 (Aiw N) Abx (fun
|[.imm j l 1 m c,.imm o p 1 q b],[]=>some fun _ k=>kZ N j l m c o p q b (mG k)
| _,_=>none) fun _ _=>by split;intro R F;exact(Cj (mm N (mG F) · _ _ _ _ _ _ _ _) (Abl fun f d a g=>(lW ..).trans (Ae4 ..)):_).trans (k_ ..).symm;trivial
def mo(a:LA)(c:Bool)(b:LA)(d:Bool)(r0:Bool->Nat->LA->O R):O R:=(QY a fun l=>QY b fun m=>cond (l==m) (QY a fun n=>A5 1 (a.drop 1) fun o p=>A5 1 (b.drop 1) fun q r=>wz N o p false c q r false d fun e f=>Qz N n e f fun s=>r0 s e f) (A5 1 (a.drop 1) fun t u=>A5 1 (b.drop 1) fun v w=>kZ N t u false c v w false d fun g x h=>cond x (QY a fun y=>Qz N y g h fun z=>r0 z g h) (A5 1 (b.drop 1) fun aa ab=>A5 1 (a.drop 1) fun ac ad=>kZ N aa ab false d ac ad false c fun i ag j=>QY b fun ae=>Qz N ae i j fun af=>r0 af i j)))
def Ae5:=(Ad (@mo R)).1
def WQ:@Ae5 R=@mo R:=(Ad _).2
def Aul:=Cr N 167 [Auj N,OX N,Auk N] Cp (fun
|[.pagg a c,.pagg b d],[]=>some fun _ k=>Ae5 N a c b d (Aia k)
| _,_=>none) fun _ _=>by split;intro R F;dsimp only;rw[WQ];kernel_rfl;trivial
def dK(a:Int)(r0:LA->O R):O R:=(O5 N a fun c b d=>r0 [.bool c,.imm (d.take (b*1)) b 1 false false,.imm [.int .u32 1] 1 1 false false])
def WR:=(Ad (@dK R)).1
def dL:@WR R=@dK R:=(Ad _).2
def Ae6:=Cr N 150 [WM N] Ah9 (fun
|[.int .i64 a],[]=>some fun _ k=>WR N a (Sr k)
| _,_=>none) fun _ _=>by split;intro R F;dsimp only;rw[dL];kernel_rfl;trivial
def jZ(N:Nat)(r0:LA->O R)(k0:O R):O R:=(r0 [])
def Yw(r0:LA->O R):Nat->O R
|0=>none
|n+1=>jZ N r0 (Yw r0 n)
def WS(N:Nat)(r0:LA->O R)(q0:O R):O R:=q0
def TK:=(Ad fun N r0=>WS (R:=R) N r0 (Yw N r0 N)).1
def j0 r0:(@TK R N r0)=(WS N r0 (Yw N r0 N)):=by rw[TK,(Ad _).2]
def Ae7(F:KF R):=K8 Tryz.f212 rx [] [] N F
def IM(F:KF R):LA->O R:=fun a=>F (Bby 0 0) (hq [bQ 1 a])
def Ae8(K:St->O R):=K ⟨[(0,.nsl),(3,iv 0)],[]⟩
def tz(F:KF R):∀ n,Ae8 (Al (Ae7 N F (pz 336) []) n)=(Yw N (IM F) n):=Dt fun n e=>(Cj (jZ N (IM F)) e:_)
def Aix:=Cr N 212 [] rx (fun
|[.nsl],[]=>some fun _ k=>TK N (IM k)
| _,_=>none) fun _ _=>by split;intro R F;exact(Cj (WS N (IM F)) ((lW ..).trans (tz ..)):_).trans (j0 ..).symm;trivial
def LN(N:Nat)(r0:Int->O R)(c:LA)(a:Nat)(b:Bool)(d:LA)(k0:Int->O R)(f:Int):O R:=(cond (decide (f>=0)) (cond (Ac f a) (Ax .u32 (c.drop (f.toNat*1)) fun j=>cond (Ac f 0) (Ax .u32 (d.drop (0+(f.toNat*1))) fun l=>cond (decide (j<l)) (r0 (-1)) (cond (Ac f a) (Ax .u32 (c.drop (f.toNat*1)) fun m=>cond (Ac f 0) (Ax .u32 (d.drop (0+(f.toNat*1))) fun o=>cond (decide (m>o)) (r0 1) (k0 (wrap .i64 (f - 1)))) none) none)) none) none) (r0 0))
def V7(r0:Int->O R)(c:LA)(a:Nat)(b:Bool)(d:LA):Nat->Int->O R
|0=>fun _=>none
|n+1=>LN N r0 c a b d (V7 r0 c a b d n)
def OZ(r0:Int->O R)(q0:LA->Nat->LA->Int->O R)(g:LA)(h:Nat)(i b:Bool):O R:=(Hm N g h i b fun c a=>TK N fun d=>cond ((a:Int) != 0) (cond (decide ((a:Int)<0)) (r0 (-1)) (r0 1)) (q0 c a d (wrap .i64 ((a:Int) - 1))))
def BF:=(Ad fun N g h i b r0=>OZ (R:=R) N r0 (fun c a d=>V7 N r0 c a b d N) g h i b).1
def dM(g h i b r0):(@BF R N g h i b r0)=(OZ N r0 (fun c a d=>V7 N r0 c a b d N) g h i b):=by rw[BF,(Ad _).2]
def N':=A0x (EN N) (Aix N) (Eq.refl 212)
def mq:Vx:=[N' N]
def zj(F:KF R):=K8 Tryz.f207 Abm (mq N) [] N F
def zk(c:LA)(a:Nat)(b:Bool)(d:LA)(K:St->O R):=fun f=>K ⟨[(0,.imm c a 1 false b),(1,Bby 0 0),(5,iv f)],hq [bQ 1 d]⟩
def qJ(F:KF R)(c a b d):∀ n,zk c a b d (Al (zj N F (pz 5444) []) n)=(V7 N (C5 F) c a b d n):=Dt fun n e=>(Cj (LN N (C5 F) c a b d) e:_)
def mt:=Cr N 207 (mq N) Abm (fun
|[.imm g h 1 i b,.nsl],[]=>some fun _ k=>BF N g h i b (C5 k)
| _,_=>none) fun _ _=>by split;intro R F;exact(Cj (OZ N (C5 F) · _ _ _ _) (Aw0 fun c a d=>(lW ..).trans (qJ ..)):_).trans (dM ..).symm;trivial
def gE(a:LA)(b:Bool)(r0:LA->Bool->LA->Nat->Bool->O R):O R:=(A5 1 (a.drop 2) fun c d=>BF N c d false b fun e=>cond (e==0) (r0 [.bool false,.nsl] false [.int .u32 1] 1 false) (cond (ble 2 a.length) (A5 1 (a.drop 2) fun f g=>cond ((beq 0 0)&&((beq ((a.take 2).length) 2)&&(beq 2 2))) (cond (ble 2 ((a.take 2).length)) (r0 ((a.take 2).take 2) b f g b) none) none) none))
def mu:=(Ad (@gE R)).1
def WT:@mu R=@gE R:=(Ad _).2
def Aiy(F:KF R):LA->Bool->LA->Nat->Bool->O R:=fun h i j l m=>F (.tup [.pagg h i,.imm j l 1 false m]) []
def Am3:=Cr N 174 [mt N] { H:=hL,nils:=[(3,1)],modes:=[(3,0),(1,1)] } (fun
|[.pagg a b],[]=>some fun _ k=>mu N a b (Aiy k)
| _,_=>none) fun _ _=>by split;intro R F;dsimp only;rw[WT];kernel_rfl;trivial
def xA(a:LA)(b:Bool)(r0:Int->O R):O R:=(A5 1 (a.drop 1) fun c d=>BF N c d false b fun e=>cond (e==0) (r0 0) (QY a fun f=>cond f (r0 (-1)) (r0 1)))
def gF:=(Ad (@xA R)).1
def sL:@gF R=@xA R:=(Ad _).2
def Aby:=Cr N 203 [mt N] Cp (fun
|[.pagg a b],[]=>some fun _ k=>gF N a b (C5 k)
| _,_=>none) fun _ _=>by split;intro R F;dsimp only;rw[sL];kernel_rfl;trivial
def xB(a:LA)(b:Bool)(r0:Int->O R):O R:=(cond (ble 3 a.length) (mu N (a.take 3) b fun c d f g h=>cond ((beq 0 0)&&((beq c.length 2)&&(beq 2 2))) (cond (ble 2 c.length) (gF N (c.take 2) d fun e=>r0 e) none) none) none)
def mv:=(Ad (@xB R)).1
def sM:@mv R=@xB R:=(Ad _).2
def Arm:=Cr N 170 [Am3 N,Aby N] Cp (fun
|[.pagg a b],[]=>some fun _ k=>mv N a b (C5 k)
| _,_=>none) fun _ _=>by split;intro R F;dsimp only;rw[sM];kernel_rfl;trivial
def LO(N:Nat)(a:Int)(r0:Bool->O R):O R:=(r0 (a != a))
def CS:=(Ad (@LO R)).1
def O_:@CS R=@LO R:=(Ad _).2
def uA:=Cr N 204 [] Cp (fun
|[.int .i64 a],[]=>some fun _ k=>CS N a (Bk k)
| _,_=>none) fun _ _=>by split;intro R F;dsimp only;rw[O_];kernel_rfl;trivial
def BG(a b:Int)(r0:Int->O R):O R:=(CS N a fun d=>CS N b fun c=>cond d (cond c (r0 0) (r0 (-1))) (cond c (r0 1) (cond (decide (a<b)) (r0 (-1)) (cond (decide (a>b)) (r0 1) (r0 0)))))
def Ws:=(Ad (@BG R)).1
def G':@Ws R=@BG R:=(Ad _).2
def mw:=Cr N 171 [uA N] Cp (fun
|[.int .i64 a,.int .i64 b],[]=>some fun _ k=>Ws N a b (C5 k)
| _,_=>none) fun _ _=>by split;intro R F;dsimp only;rw[G'];kernel_rfl;trivial
end
end Gx
namespace Gx
open Go Go.Proofs
section
variable{R:Type}
def fit(k N:Nat):Prop:=100*k+1000<=N/\k<=1000000000
def fit.le{j k N:Nat}(h:fit k N)(d:j<=k):fit j N:=⟨by have:=h.1;omega,by have:=h.2;omega⟩
def ct(x y:O R):cond true x y=x:=rfl
def cf(x y:O R):cond false x y=y:=rfl
def Azl(x y:Bool):cond true x y=x:=rfl
def A4i(x y:Bool):cond false x y=y:=rfl
def Azm(c:Nat):((decide (((c+1:Nat):Int)>(0:Int)))==true)=true:=by simp
def Er{j n:Nat}(h:j<n):decide ((j:Int)<(n:Int))=true:=by simp;omega
def Fk{j n:Nat}(h:n<=j):decide ((j:Int)<(n:Int))=false:=by simp;omega
def wS{j:Nat}(h:j<=1000000000000):wrap .i64 ((j:Int)+1)=((j+1:Nat):Int):=by rw[i64 (by omega)];omega
def wP{j:Nat}(h:j<=1000000000000):wrap .i64 (((j+1:Nat):Int) - 1)=(j:Int):=by rw[i64 (by omega)];omega
def wA{j k:Nat}(h:j+k<=1000000000000):wrap .i64 ((j:Int)+(k:Int))=((j+k:Nat):Int):=by rw[i64 (by omega)];omega
def Ae9{l:List Nat}{j:Nat}(h:j<l.length){f:Int->O R}:Ax .u32 (drop ((Int.toNat (j:Int))*1) (A2 l)) f=f (l[j]:Nat):=by rw[A45,A5m,Aug h]
def qK{l:List Nat}{j:Nat}(h:j<l.length){f:Int->O R}:Ax .u32 (drop (0+((Int.toNat (j:Int))*1)) (A2 l)) f=f (l[j]:Nat):=by rw[A5j,Ae9 h]
def A0p{c a:Nat}(h:c<=a):((decide ((0:Int)<=(0:Int)))&&((decide ((0:Int)<=(c:Int)))&&((decide ((c:Int)<=(a:Int)))&&(decide ((a:Int)<=(a:Int))))))=true:=by simp;omega
def Azn{n:Nat}(h:n<=1000000000000):((decide ((0:Int)<=(n:Int)))&&((decide ((n:Int)<=(n:Int)))&&((decide ((n:Int)<=(140737488355328:Int)))&&(decide (((n:Int)*((4:Nat):Int))<=(140737488355328:Int))))))=true:=by simp;omega
def Apf{x:Nat}{m:List Nat}(h:x<m.length):((beq 1 1)&&((ble ((0+((Int.toNat (x:Int))*1))+1) (List.length (A2 m)))&&(!false)))=true:=by rw[F5,A45];simp;omega
def xC{x v:Nat}{m:List Nat}:List.set (A2 m) (0+((Int.toNat (x:Int))*1)) (.int .u32 (v:Int))=A2 (m.set x v):=by rw[A45,A5m,A5j,Ail]
def Aum{l:List Nat}(h:A7 l):l.take (Bj (val l)).length=Bj (val l):=by
 obtain⟨d,e⟩:=Iy h
 rw[congrArg (take (Bj (val l)).length) d,A9w]
def Arn{l:List Nat}(h:A7 l):take ((Bj (val l)).length*1) (A2 l)=A2 (Bj (val l)):=by rw[A5m,fv,Aum h]
def Dh{l:List Nat}{c:Nat}(h:c<l.length):val (l.take (c+1))=val (l.take c)+4294967296 ^ c*l[c]:=by rw[A5z h,Amv,A58,A6g (by omega)]
def Afa{l:List Nat}{c:Nat}(d:A7 l)(h:c<l.length)(e:l[c]≠0):Bj (val (l.take (c+1)))=l.take (c+1):=by
 apply Azj (O2 d _)
 intro f
 rw[A89]
 simp only[A58,A6g (show c+1<=l.length by omega),Baa,List.getElem_take]
 exact e
def xD{N:Nat}{l:List Nat}{K:Nat->O R}(e:A7 l)(hs:l.length<=1000000000000):∀(c fuel:Nat),c<=l.length->c<fuel ->
  BC N K l.length (A2 l) fuel (c:Int)=K (Bj (val (l.take c))).length
|0,fuel+1,f,_=>by
  rw[BC];unfold WL
  rw[show decide (((0:Nat):Int)>0)=false by simp]
  rw[show((false:Bool)==true)=false by rfl,cf,A0p (by omega),ct,A45];rfl
| c+1,fuel+1,f,j=>by
  rw[BC];unfold WL
  rw[Azm,ct,wP (by omega),Aa (by omega),ct,qK (by omega),Azl,A0p (by omega),ct,xD e hs c fuel (by omega) (by omega),A45]
  by_cases d:l[c]=0
  ·rw[Dh (by omega),d];simp
  ·rw[Afa e (by omega) d,A58,A6g f]
   rw[show(((l[c]:Nat):Int)==0)=false by simp;exact d,cf]
def xE{N:Nat}{l:List Nat}{n:Nat}{K:Nat->O R}(hn:n=l.length)(e:A7 l)(d:fit l.length N):dG N n (A2 l) K=K (Bj (val l)).length:=by
 subst hn
 have f:=d.1;have j:=d.2
 rw[kU];unfold mh
 rw[xD e (by omega) l.length N (A49 _) (by omega),A6c]
def Abz{N:Nat}{l:List Nat}{t o:Bool}{K:LA->Nat->O R}(e:A7 l)(hs:l.length<=1000000000000):∀(c fuel:Nat),c<=l.length->c<fuel ->
  O6 N K (A2 l) l.length t o fuel (c:Int)=K (A2 (Bj (val (l.take c)))) (Bj (val (l.take c))).length
|0,fuel+1,f,_=>by
  rw[O6];unfold CQ
  rw[show decide (((0:Nat):Int)>0)=false by simp]
  rw[show((false:Bool)==true)=false by rfl,cf,A0p (by omega),ct,A45];rfl
| c+1,fuel+1,f,j=>by
  rw[O6];unfold CQ
  rw[Azm,ct,wP (by omega),Aa (by omega),ct,Ae9 (by omega),Azl,A0p (by omega),ct,Abz e hs c fuel (by omega) (by omega),A45,A5m,fv]
  by_cases d:l[c]=0
  ·rw[Dh (by omega),d];simp
  ·rw[Afa e (by omega) d,A58,A6g f]
   rw[show(((l[c]:Nat):Int)==0)=false by simp;exact d,cf]
def Em{N:Nat}{l:List Nat}{n:Nat}{t o:Bool}{K:LA->Nat->O R}(hn:n=l.length)(e:A7 l)(d:fit l.length N):Hm N (A2 l) n t o K=K (A2 (Bj (val l))) (Bj (val l)).length:=by
 subst hn
 have f:=d.1;have j:=d.2
 rw[jY];unfold WN
 rw[Abz e (by omega) l.length N (A49 _) (by omega),A6c]
def Aro{N:Nat}{K:LA->O R}(hN:1<=N):TK N K=K []:=by
 rw[j0];unfold WS
 cases N with
|zero=>omega
|succ N=>rw[Yw];rfl
end
end Gx
namespace Gx.Cf
open Go Go.Proofs
section
variable{R:Type}
def mz(names:List Lu)(k i:Int)(s:Lu)(p:Mu):Mu:=nd (nd p (A9 s) (k,i,0) ⟨9,by decide⟩) (names.all fun x=>!(x==s)) (k,i,0) ⟨10,by decide⟩
def Kj(a:BusD):a.av.length=3:=rfl
def D9(a:LineD):a.av.length=12:=rfl
def Gw(a:UnitD):a.av.length=22:=rfl
def I8(a:StoreD):a.av.length=9:=rfl
def Hf(a:TieD):a.av.length=5:=rfl
def Ip(a:OutD):a.av.length=4:=rfl
structure Small(c:CaseD)(N:Nat):Prop where
 n64:64<=N
 res:Xc c.reserve.l.length N
 bus:Xc c.buses.l.length N
 lin:Xc c.lines.l.length N
 uni:Xc c.units.l.length N
 sto:Xc c.stores.l.length N
 tie:Xc c.ties.l.length N
 out:Xc c.outs.l.length N
 dem:∀ b∈c.buses.l,Xc b.demand.l.length N
 law:∀ b∈c.lines.l,Xc b.away.l.length N
 seg:∀ b∈c.units.l,Xc b.segs.l.length N
 uaw:∀ b∈c.units.l,Xc b.away.l.length N
 tim:∀ b∈c.ties.l,Xc b.imp.l.length N
 tex:∀ b∈c.ties.l,Xc b.exp.l.length N
 tpr:∀ b∈c.ties.l,Xc b.price.l.length N
 oli:∀ b∈c.outs.l,Xc b.lines.l.length N
 omo:∀ b∈c.outs.l,Xc b.moves.l.length N
 omb:∀ b∈c.outs.l,b.moves.l.length<8796093022208
 top:c.buses.l.length<=1000000/\c.lines.l.length<=1000000/\c.units.l.length<=1000000/\c.stores.l.length<=1000000/\c.ties.l.length<=1000000/\c.outs.l.length<=1000000
def Iz{α:Type}(f:Nat->α->Mu->Mu):List α->Nat->Mu->Mu
|[],_,p=>p
|a::r,j,p=>Iz f r (j+1) (f j a p)
def Td{α:Type}{f:Nat->α->Mu->Mu}{x:(Int×Int×Int)×{e:Int // e≠0}}(d:∀ j a,f j a (some x)=some x):∀(l:List α)(j:Nat),Iz f l j (some x)=some x
|[],_=>rfl
|a::r,j=>by rw[Iz,d];exact Td d r (j+1)
abbrev e1:{e:Int // e≠0}:=⟨1,by decide⟩
abbrev e3:{e:Int // e≠0}:=⟨3,by decide⟩
abbrev e4:{e:Int // e≠0}:=⟨4,by decide⟩
abbrev e8:{e:Int // e≠0}:=⟨8,by decide⟩
abbrev Azo:{e:Int // e≠0}:=⟨11,by decide⟩
abbrev Arp:{e:Int // e≠0}:=⟨12,by decide⟩
abbrev A4j:{e:Int // e≠0}:=⟨13,by decide⟩
abbrev A1q:{e:Int // e≠0}:=⟨16,by decide⟩
def Am4(c:CaseD)(p:Mu):Mu :=
 let p:=nd p (G6 1 24 c.hours) (0,0,0) e3
 let p:=Abp c.hours c.reserve.l 0 1048576 (0,0,1) p
 let p:=nd p (G6 1 32 (c.buses.l.length:Int)) (0,0,2) e8
 let p:=nd p (decide ((c.lines.l.length:Int)<=64)) (0,0,3) e8
 let p:=nd p (decide ((c.units.l.length:Int)<=16)) (0,0,4) e8
 let p:=nd p (decide ((c.stores.l.length:Int)<=8)) (0,0,5) e8
 let p:=nd p (decide ((c.ties.l.length:Int)<=8)) (0,0,6) e8
 nd p (decide ((c.outs.l.length:Int)<=64)) (0,0,7) e8
def Aw8(c:CaseD)(j:Nat)(b:BusD)(p:Mu):Mu :=
 let p:=mz ((c.buses.l.map (·.name)).take j) 1 j b.name p
 let p:=Abp c.hours b.demand.l 0 1048576 (1,j,1) p
 nd p (G6 0 1048576 b.shed) (1,j,2) e3
def Ab0(c:CaseD)(j:Nat)(x:LineD)(p:Mu):Mu :=
 let p:=mz ((c.lines.l.map (·.name)).take j) 2 j x.name p
 let p:=nd p (sE c x.fr) (2,j,1) Arp
 let p:=nd p (sE c x.tl) (2,j,2) Arp
 let p:=nd p (x.tl != x.fr) (2,j,2) e1
 let p:=nd p (O1 x.re&&decide (x.re.num>0)) (2,j,3) e3
 let p:=nd p (O1 x.smin&&decide (x.smin.num<=0)) (2,j,4) e3
 let p:=nd p (O1 x.smax&&decide (x.smax.num>=0)) (2,j,5) e3
 let p:=nd p (G6 0 1048576 x.limit) (2,j,6) e3
 let p:=nd p (G6 x.limit 1048576 x.emer) (2,j,7) e3
 w_ c.hours x.away.l (2,j,8) p
def xF(c:CaseD)(j:Nat)(x:StoreD)(p:Mu):Mu :=
 let p:=mz ((c.stores.l.map (·.name)).take j) 4 j x.name p
 let p:=nd p (sE c x.bus) (4,j,1) Arp
 let p:=nd p (G6 0 1048576 x.capacity) (4,j,2) e3
 let p:=nd p (G6 0 x.capacity x.initial) (4,j,3) e3
 let p:=nd p (G6 0 x.capacity x.final) (4,j,4) e3
 let p:=nd p (G6 0 1048576 x.charge) (4,j,5) e3
 let p:=nd p (G6 0 1048576 x.discharge) (4,j,6) e3
 nd p (O1 x.eff&&(decide (x.eff.num>0)&&decide (x.eff.num<=x.eff.den))) (4,j,7) e3
def Aw9(c:CaseD)(j:Nat)(x:TieD)(p:Mu):Mu :=
 let p:=mz ((c.ties.l.map (·.name)).take j) 5 j x.name p
 let p:=nd p (sE c x.bus) (5,j,1) Arp
 let p:=Abp c.hours x.imp.l 0 1048576 (5,j,2) p
 let p:=Abp c.hours x.exp.l 0 1048576 (5,j,3) p
 Abp c.hours x.price.l (-1048576) 1048576 (5,j,4) p
def LQ(a:SegD):a.av.length=2:=rfl
def Uk(a:MoveD):a.av.length=3:=rfl
def nA(s:SegD):Bool:=G6 1 1048576 s.width&&G6 (-1048576) 1048576 s.price
def kc(a:Int):List SegD->Int
|[]=>a
|s::r=>kc (wrap .i64 (a+s.width)) r
def ke:List SegD->Bool
|a::b::r=>decide (b.price>=a.price)&&ke (b::r)
|_=>true
def WU(a b:SegD)(r:List SegD):ke (a::b::r)=(decide (b.price>=a.price)&&ke (b::r)):=by rw[ke]
def xG(a:SegD):ke [a]=true:=by rw[ke];intros;simp_all
def Aiz:ke []=true:=by rw[ke];intros;simp_all
def Aun(u:UnitD)(j:Nat)(p:Mu):Mu :=
 let p:=nd p (decide ((u.segs.l.length:Int)<=8)) (3,j,4) e8
 let p:=nd p (u.segs.l.all nA) (3,j,4) e3
 let p:=nd p (ke u.segs.l) (3,j,4) Azo
 nd p (kc 0 u.segs.l==wrap .i64 (u.max - u.min)) (3,j,4) e4
def dN{u:UnitD}{f:LA->Nat->O R}:A5 2 (drop 4 u.av) f=f (u.segs.l.flatMap SegD.av) u.segs.l.length:=by simp[UnitD.av,A6]
def Ayr{u:UnitD}{f:Int->O R}:Ax .i64 (drop 3 u.av) f=f u.max:=by simp[UnitD.av,C1]
def Ays{u:UnitD}{f:Int->O R}:Ax .i64 (drop 2 u.av) f=f u.min:=by simp[UnitD.av,C1]
def Ab1{l:List SegD}{j:Nat}(h:j<l.length){f:Int->O R}:Ax .i64 (drop 1 (drop ((Int.toNat (j:Int))*2) (l.flatMap SegD.av))) f=f l[j].price:=by rw[A45,Bt LQ _ _ h];simp[SegD.av,C1]
def Arq{l:List SegD}{j:Nat}(h:j<l.length){f:Int->O R}:Ax .i64 (drop ((Int.toNat (j:Int))*2) (l.flatMap SegD.av)) f=f l[j].width:=by rw[A45,Bt LQ _ _ h];simp[SegD.av,C1]
def Ai0(c:CaseD)(j:Nat)(u:UnitD)(p:Mu):Mu :=
 let p:=mz ((c.units.l.map (·.name)).take j) 3 j u.name p
 let p:=nd p (sE c u.bus) (3,j,1) Arp
 let p:=nd p (G6 0 1048576 u.min) (3,j,2) e3
 let p:=nd p (G6 u.min 1048576 u.max) (3,j,3) e3
 let p:=Aun u j p
 let p:=nd p (G6 0 1048576 u.noLoad) (3,j,5) e3
 let p:=nd p (G6 0 1048576 u.rampUp) (3,j,6) e3
 let p:=nd p (G6 0 1048576 u.rampDown) (3,j,7) e3
 let p:=nd p (G6 u.min u.max u.startRamp) (3,j,8) e3
 let p:=nd p (G6 u.min u.max u.stopRamp) (3,j,9) e3
 let p:=nd p (G6 0 24 u.upTime) (3,j,10) e3
 let p:=nd p (G6 0 24 u.downTime) (3,j,11) e3
 let p:=nd p (G6 0 24 u.startTime) (3,j,12) e3
 let p:=nd p (G6 0 1048576 u.hotCost) (3,j,13) e3
 let p:=nd p (G6 0 1048576 u.coldCost) (3,j,14) e3
 let p:=nd p (G6 0 24 u.hotHours) (3,j,15) e3
 let p:=nd p (G6 0 1048576 u.reserve) (3,j,16) e3
 let p:=nd p (G6 0 1048576 u.reservePrice) (3,j,17) e3
 let p:=w_ c.hours u.away.l (3,j,18) p
 let p:=nd p (G6 0 2 u.state) (3,j,19) Arp
 let p:=nd p (u.state != 1||u.startTime != 0) (3,j,19) A1q
 let p:=nd p (G6 1 48 u.hours) (3,j,20) e3
 let p:=nd p (u.state != 1||decide (u.hours<=u.startTime)) (3,j,20) e3
 cond (u.state==2) (nd p (G6 u.min u.max u.output) (3,j,21) e3) (nd p (G6 0 0 u.output) (3,j,21) e3)
def Axa(c:CaseD)(m:MoveD):Bool:=decide (0<=m.unit)&&decide (m.unit<(c.units.l.length:Int))
def Ai1(m:MoveD):Bool:=G6 0 1048576 m.up&&G6 0 1048576 m.down
def Am5(c:CaseD)(o:OutD)(j:Nat)(p:Mu):Mu :=
 let p:=nd p ((o.moves.l.length:Int)==0||o.corr) (6,j,3) A1q
 let p:=nd p (decide ((o.moves.l.length:Int)<=16)) (6,j,3) e8
 let p:=nd p (o.moves.l.all (Axa c)) (6,j,3) Arp
 let p:=nd p (zK (o.moves.l.map (·.unit))) (6,j,3) Azo
 nd p (o.moves.l.all Ai1) (6,j,3) e3
def Apr{u:OutD}{f:LA->Nat->O R}:A5 3 (drop 3 u.av) f=f (u.moves.l.flatMap MoveD.av) u.moves.l.length:=by simp[OutD.av,A6]
def Azp{u:OutD}{f:Bool->O R}:QY (drop 2 u.av) f=f u.corr:=by simp[OutD.av,At6]
def Arr(c:CaseD)(j:Nat)(x:OutD)(p:Mu):Mu :=
 let p:=mz ((c.outs.l.map (·.name)).take j) 6 j x.name p
 let p:=nd p ((x.lines.l.length:Int)==1||(x.lines.l.length:Int)==2) (6,j,1) e4
 let p:=nd p (x.lines.l.all fun n=>decide (0<=n)&&decide (n<(c.lines.l.length:Int))) (6,j,1) Arp
 let p:=nd p (zK x.lines.l) (6,j,1) Azo
 Am5 c x j p
def qL{c:CaseD}{j:Nat}{x:OutD}{y:(Int×Int×Int)×{e:Int // e≠0}}:Arr c j x (some y)=some y:=rfl
def Axb{u:OutD}{f:LA->Nat->O R}:A5 1 (drop 1 u.av) f=f (A4 u.lines.l) u.lines.l.length:=by simp[OutD.av,A6,Bn]
def Au(l:List Lu):LA:=l.map fun s=>.str s
def Xw(l:List Lu):(Au l).length=l.length:=by simp[Au]
def Gn{l:List Lu}{i:Nat}(h:i<l.length){f:Lu->O R}:Gv (drop i (Au l)) f=f l[i]:=by rw[Au,A6m (by simpa using h)];simp[KP]
def Cs{c:CaseD}:take 8 c.av=c.av:=rfl
def Fl{c:CaseD}:ble 8 (List.length c.av)=true:=rfl
def TL{N:Nat}{c:CaseD}{o:Bool}{K:Nat->LA->O R}(e:c.buses.l.length<=1000000):∀(m j fuel:Nat),j+m=c.buses.l.length->m<fuel ->
  H8 N K o c.av fuel j (j:Int) (Au ((c.buses.l.take j).map (·.name)))=K c.buses.l.length (Au (c.buses.l.map (·.name)))
|0,j,fuel+1,k,_=>by
  rw[H8];unfold Qr
  have d:j=c.buses.l.length:=by omega
  rw[Ca,Fk (by omega),cf,A44 (by omega),d]
| m+1,j,fuel+1,k,t=>by
  rw[H8];unfold Qr
  have h:j<c.buses.l.length:=by omega
  have n:(ble (j+1) 140737488355328&&ble ((j+1)*16) 140737488355328)=true:=by rw[G5,G5];simp;omega
  have q:take (j*1) (Au ((c.buses.l.take j).map (·.name)))++[.str c.buses.l[j].name]=Au ((c.buses.l.take (j+1)).map (·.name)):=by
   rw[A44 (by simp[Xw];omega),A5z h,A6t];simp[Au]
  have s:∀ f:Lu->O R,Gv (drop (j*3) (List.flatMap BusD.av c.buses.l)) f=f c.buses.l[j].name:=fun f=>by rw[Bt Kj _ _ h];simp[BusD.av,KP]
  rw[Ca,Er h,ct,Ca,Aa h,ct,A45,s,n,ct,q,G9 (by omega),TL e m (j+1) fuel (by omega) (by omega)]
def O'{N:Nat}{c:CaseD}{o:Bool}{K:Nat->LA->O R}(hs:Small c N):Hh N c.av o 1 K=K (c.buses.l.map (·.name)).length (Au (c.buses.l.map (·.name))):=by
 rw[Ju];unfold Mv
 have:=TL (R:=R) (N:=N) (c:=c) (o:=o) (K:=K) hs.top.1 c.buses.l.length 0 N (by omega) hs.bus.1
 simpa[Au]using this
def TM{N:Nat}{c:CaseD}{o:Bool}{K:Nat->LA->O R}(e:c.lines.l.length<=1000000):∀(m j fuel:Nat),j+m=c.lines.l.length->m<fuel ->
  H9 N K o c.av fuel j (j:Int) (Au ((c.lines.l.take j).map (·.name)))=K c.lines.l.length (Au (c.lines.l.map (·.name)))
|0,j,fuel+1,k,_=>by
  rw[H9];unfold Qs
  have d:j=c.lines.l.length:=by omega
  rw[Ef,Fk (by omega),cf,A44 (by omega),d]
| m+1,j,fuel+1,k,t=>by
  rw[H9];unfold Qs
  have h:j<c.lines.l.length:=by omega
  have n:(ble (j+1) 140737488355328&&ble ((j+1)*16) 140737488355328)=true:=by rw[G5,G5];simp;omega
  have q:take (j*1) (Au ((c.lines.l.take j).map (·.name)))++[.str c.lines.l[j].name]=Au ((c.lines.l.take (j+1)).map (·.name)):=by
   rw[A44 (by simp[Xw];omega),A5z h,A6t];simp[Au]
  have s:∀ f:Lu->O R,Gv (drop (j*12) (List.flatMap LineD.av c.lines.l)) f=f c.lines.l[j].name:=fun f=>by rw[Bt D9 _ _ h];simp[LineD.av,KP]
  rw[Ef,Er h,ct,Ef,Aa h,ct,A45,s,n,ct,q,G9 (by omega),TM e m (j+1) fuel (by omega) (by omega)]
def EO{N:Nat}{c:CaseD}{o:Bool}{K:Nat->LA->O R}(hs:Small c N):Hh N c.av o 2 K=K (c.lines.l.map (·.name)).length (Au (c.lines.l.map (·.name))):=by
 rw[Ju];unfold Mv
 have:=TM (R:=R) (N:=N) (c:=c) (o:=o) (K:=K) hs.top.2.1 c.lines.l.length 0 N (by omega) hs.lin.1
 simpa[Au]using this
def TN{N:Nat}{c:CaseD}{o:Bool}{K:Nat->LA->O R}(e:c.units.l.length<=1000000):∀(m j fuel:Nat),j+m=c.units.l.length->m<fuel ->
  Ia N K o c.av fuel j (j:Int) (Au ((c.units.l.take j).map (·.name)))=K c.units.l.length (Au (c.units.l.map (·.name)))
|0,j,fuel+1,k,_=>by
  rw[Ia];unfold Qt
  have d:j=c.units.l.length:=by omega
  rw[F2,Fk (by omega),cf,A44 (by omega),d]
| m+1,j,fuel+1,k,t=>by
  rw[Ia];unfold Qt
  have h:j<c.units.l.length:=by omega
  have n:(ble (j+1) 140737488355328&&ble ((j+1)*16) 140737488355328)=true:=by rw[G5,G5];simp;omega
  have q:take (j*1) (Au ((c.units.l.take j).map (·.name)))++[.str c.units.l[j].name]=Au ((c.units.l.take (j+1)).map (·.name)):=by
   rw[A44 (by simp[Xw];omega),A5z h,A6t];simp[Au]
  have s:∀ f:Lu->O R,Gv (drop (j*22) (List.flatMap UnitD.av c.units.l)) f=f c.units.l[j].name:=fun f=>by rw[Bt Gw _ _ h];simp[UnitD.av,KP]
  rw[F2,Er h,ct,F2,Aa h,ct,A45,s,n,ct,q,G9 (by omega),TN e m (j+1) fuel (by omega) (by omega)]
def EP{N:Nat}{c:CaseD}{o:Bool}{K:Nat->LA->O R}(hs:Small c N):Hh N c.av o 3 K=K (c.units.l.map (·.name)).length (Au (c.units.l.map (·.name))):=by
 rw[Ju];unfold Mv
 have:=TN (R:=R) (N:=N) (c:=c) (o:=o) (K:=K) hs.top.2.2.1 c.units.l.length 0 N (by omega) hs.uni.1
 simpa[Au]using this
def PA{N:Nat}{c:CaseD}{o:Bool}{K:Nat->LA->O R}(e:c.stores.l.length<=1000000):∀(m j fuel:Nat),j+m=c.stores.l.length->m<fuel ->
  Ib N K o c.av fuel j (j:Int) (Au ((c.stores.l.take j).map (·.name)))=K c.stores.l.length (Au (c.stores.l.map (·.name)))
|0,j,fuel+1,k,_=>by
  rw[Ib];unfold Qu
  have d:j=c.stores.l.length:=by omega
  rw[Hl,Fk (by omega),cf,A44 (by omega),d]
| m+1,j,fuel+1,k,t=>by
  rw[Ib];unfold Qu
  have h:j<c.stores.l.length:=by omega
  have n:(ble (j+1) 140737488355328&&ble ((j+1)*16) 140737488355328)=true:=by rw[G5,G5];simp;omega
  have q:take (j*1) (Au ((c.stores.l.take j).map (·.name)))++[.str c.stores.l[j].name]=Au ((c.stores.l.take (j+1)).map (·.name)):=by
   rw[A44 (by simp[Xw];omega),A5z h,A6t];simp[Au]
  have s:∀ f:Lu->O R,Gv (drop (j*9) (List.flatMap StoreD.av c.stores.l)) f=f c.stores.l[j].name:=fun f=>by rw[Bt I8 _ _ h];simp[StoreD.av,KP]
  rw[Hl,Er h,ct,Hl,Aa h,ct,A45,s,n,ct,q,G9 (by omega),PA e m (j+1) fuel (by omega) (by omega)]
def Yx{N:Nat}{c:CaseD}{o:Bool}{K:Nat->LA->O R}(hs:Small c N):Hh N c.av o 4 K=K (c.stores.l.map (·.name)).length (Au (c.stores.l.map (·.name))):=by
 rw[Ju];unfold Mv
 have:=PA (R:=R) (N:=N) (c:=c) (o:=o) (K:=K) hs.top.2.2.2.1 c.stores.l.length 0 N (by omega) hs.sto.1
 simpa[Au]using this
def ZP{N:Nat}{c:CaseD}{o:Bool}{K:Nat->LA->O R}(e:c.ties.l.length<=1000000):∀(m j fuel:Nat),j+m=c.ties.l.length->m<fuel ->
  Ic N K o c.av fuel j (j:Int) (Au ((c.ties.l.take j).map (·.name)))=K c.ties.l.length (Au (c.ties.l.map (·.name)))
|0,j,fuel+1,k,_=>by
  rw[Ic];unfold Qv
  have d:j=c.ties.l.length:=by omega
  rw[Lm,Fk (by omega),cf,A44 (by omega),d]
| m+1,j,fuel+1,k,t=>by
  rw[Ic];unfold Qv
  have h:j<c.ties.l.length:=by omega
  have n:(ble (j+1) 140737488355328&&ble ((j+1)*16) 140737488355328)=true:=by rw[G5,G5];simp;omega
  have q:take (j*1) (Au ((c.ties.l.take j).map (·.name)))++[.str c.ties.l[j].name]=Au ((c.ties.l.take (j+1)).map (·.name)):=by
   rw[A44 (by simp[Xw];omega),A5z h,A6t];simp[Au]
  have s:∀ f:Lu->O R,Gv (drop (j*5) (List.flatMap TieD.av c.ties.l)) f=f c.ties.l[j].name:=fun f=>by rw[Bt Hf _ _ h];simp[TieD.av,KP]
  rw[Lm,Er h,ct,Lm,Aa h,ct,A45,s,n,ct,q,G9 (by omega),ZP e m (j+1) fuel (by omega) (by omega)]
def LR{N:Nat}{c:CaseD}{o:Bool}{K:Nat->LA->O R}(hs:Small c N):Hh N c.av o 5 K=K (c.ties.l.map (·.name)).length (Au (c.ties.l.map (·.name))):=by
 rw[Ju];unfold Mv
 have:=ZP (R:=R) (N:=N) (c:=c) (o:=o) (K:=K) hs.top.2.2.2.2.1 c.ties.l.length 0 N (by omega) hs.tie.1
 simpa[Au]using this
def ZQ{N:Nat}{c:CaseD}{o:Bool}{K:Nat->LA->O R}(e:c.outs.l.length<=1000000):∀(m j fuel:Nat),j+m=c.outs.l.length->m<fuel ->
  If N K o c.av fuel j (j:Int) (Au ((c.outs.l.take j).map (·.name)))=K c.outs.l.length (Au (c.outs.l.map (·.name)))
|0,j,fuel+1,k,_=>by
  rw[If];unfold Qw
  have d:j=c.outs.l.length:=by omega
  rw[Ix,Fk (by omega),cf,A44 (by omega),d]
| m+1,j,fuel+1,k,t=>by
  rw[If];unfold Qw
  have h:j<c.outs.l.length:=by omega
  have n:(ble (j+1) 140737488355328&&ble ((j+1)*16) 140737488355328)=true:=by rw[G5,G5];simp;omega
  have q:take (j*1) (Au ((c.outs.l.take j).map (·.name)))++[.str c.outs.l[j].name]=Au ((c.outs.l.take (j+1)).map (·.name)):=by
   rw[A44 (by simp[Xw];omega),A5z h,A6t];simp[Au]
  have s:∀ f:Lu->O R,Gv (drop (j*4) (List.flatMap OutD.av c.outs.l)) f=f c.outs.l[j].name:=fun f=>by rw[Bt Ip _ _ h];simp[OutD.av,KP]
  rw[Ix,Er h,ct,Ix,Aa h,ct,A45,s,n,ct,q,G9 (by omega),ZQ e m (j+1) fuel (by omega) (by omega)]
def LU{N:Nat}{c:CaseD}{o:Bool}{K:Nat->LA->O R}(hs:Small c N):Hh N c.av o 6 K=K (c.outs.l.map (·.name)).length (Au (c.outs.l.map (·.name))):=by
 rw[Ju];unfold Mv
 have:=ZQ (R:=R) (N:=N) (c:=c) (o:=o) (K:=K) hs.top.2.2.2.2.2 c.outs.l.length 0 N (by omega) hs.out.1
 simpa[Au]using this
def Z9{N:Nat}{L:List Lu}{k:Int}{n:Nat}{K:LA->O R}(hn:n<L.length)(hs:n<4611686018427387904):∀(m j fuel:Nat)(p:Mu),j+m=n->m<fuel ->
  Et N K k (n:Int) L.length (Au L) fuel (j:Int) (Ea p)=K (Ea (nd p (((L.take n).drop j).all fun x=>!(x==L[n])) (k,n,0) ⟨10,by decide⟩))
|0,j,fuel+1,p,d,_=>by
  rw[Et];unfold Ll
  rw[Fk (by omega),cf,Va (l:=L.take n) (by simp;omega),A55,VQ]
|m+1,j,fuel+1,p,d,q=>by
  rw[Et];unfold Ll
  have h:j<L.length:=by omega
  have f:j<(L.take n).length:=by simp;omega
  rw[Er (by omega),ct,Aa h,ct,A45,A5j,A5m,Gn h,Aa hn,ct,A45,A5j,A5m,Gn hn,Af (by decide),G9 (by omega),Z9 hn hs m (j+1) fuel _ (by omega) (by omega),N6 f,A5s,Aid]
  have e:(L.take n)[j]=L[j]:=by simp
  rw[e]
def Fe{N:Nat}{c:CaseD}{L:List Lu}{o:Bool}{p:Mu}{k:Int}{n:Nat}{K:LA->O R}(hN:64<=N)(hL:∀ K:Nat->LA->O R,Hh N c.av o k K=K L.length (Au L))(hn:n<L.length)(hs:Xc n N):
  Du N c.av o k (n:Int) (Ea p) K=K (Ea (mz (L.take n) k n L[n] p)):=by
 rw[ED];unfold Rn
 rw[Cs,Fl,ct,hL,Aa hn,ct,A45,A5j,A5m,Gn hn,jQ hN,Af (by decide)]
 have:=Z9 (R:=R) (N:=N) (L:=L) (k:=k) (n:=n) (K:=K) hn hs.2 n 0 N (nd p (A9 L[n]) (k,n,0) ⟨9,by decide⟩) (by omega) hs.1
 simpa[mz]using this
def WV {N fuel:Nat} {c:CaseD} {o:Bool} {p:Mu} {K:LA->O R} (hs:Small c N):B7 N K o c.av (fuel+6) 2 (Ea p)=K (Ea
  (nd (nd (nd (nd (nd p (decide ((c.lines.l.length:Int)<=64)) (0,0,3) e8) (decide ((c.units.l.length:Int)<=16)) (0,0,4) e8) (decide ((c.stores.l.length:Int)<=8)) (0,0,5) e8) (decide ((c.ties.l.length:Int)<=8)) (0,0,6) e8) (decide ((c.outs.l.length:Int)<=64)) (0,0,7) e8)):=by
 have most:∀(k:Nat)(n:Int)(K:Int->O R),k<7->([0,32,64,16,8,8,64]:List Int)[k]?=some n->Sw N (k:Int) K=K n:=by
  intro k n K d f
  rw[VT];unfold fj
  rw[Aa d,ct]
  have e:[.int .i64 (0:Int),.int .i64 (32:Int),.int .i64 (64:Int),.int .i64 (16:Int),.int .i64 (8:Int),.int .i64 (8:Int),.int .i64 (64:Int)]=A4 [0,32,64,16,8,8,64]:=rfl
  rw[e,A45,A5j,A5m,wG (by simpa using d)]
  rw[A46 (by simpa using d)]at f
  simp only[A7l]at f
  rw[f]
 have m2:∀ K:Int->O R,Sw N 2 K=K 64:=fun K=>most 2 64 K (by omega) rfl
 have m3:∀ K:Int->O R,Sw N 3 K=K 16:=fun K=>most 3 16 K (by omega) rfl
 have m4:∀ K:Int->O R,Sw N 4 K=K 8:=fun K=>most 4 8 K (by omega) rfl
 have m5:∀ K:Int->O R,Sw N 5 K=K 8:=fun K=>most 5 8 K (by omega) rfl
 have m6:∀ K:Int->O R,Sw N 6 K=K 64:=fun K=>most 6 64 K (by omega) rfl
 have w2:wrap .i64 (2+1)=3:=rfl
 have w3:wrap .i64 (3+1)=4:=rfl
 have j:wrap .i64 (4+1)=5:=rfl
 have m:wrap .i64 (5+1)=6:=rfl
 have q:wrap .i64 (6+1)=7:=rfl
 rw[B7];unfold C6
 rw[show decide ((2:Int)<=6)=true from rfl,ct,Fl,ct,Cs,EO hs,m2,Af (by decide),w2]
 rw[B7];unfold C6
 rw[show decide ((3:Int)<=6)=true from rfl,ct,Fl,ct,Cs,EP hs,m3,Af (by decide),w3]
 rw[B7];unfold C6
 rw[show decide ((4:Int)<=6)=true from rfl,ct,Fl,ct,Cs,Yx hs,m4,Af (by decide),j]
 rw[B7];unfold C6
 rw[show decide ((5:Int)<=6)=true from rfl,ct,Fl,ct,Cs,LR hs,m5,Af (by decide),m]
 rw[B7];unfold C6
 rw[show decide ((6:Int)<=6)=true from rfl,ct,Fl,ct,Cs,LU hs,m6,Af (by decide),q]
 rw[B7];unfold C6
 rw[show decide ((7:Int)<=6)=false from rfl,cf]
 simp only[A48]
def WW{N:Nat}{c:CaseD}{o:Bool}{p:Mu}{K:LA->O R}(hs:Small c N):Lk N c.av o (Ea p) K=K (Ea (Am4 c p)):=by
 have hN:=hs.n64
 rw[Z5];unfold Ow
 have:=fun p=>WV (fuel:=N - 6) (o:=o) (p:=p) (K:=K) hs
 rw[show N - 6+6=N by omega]at this
 simp only[Es,Fn (show 8<=N by omega),Af (show(3:Int)≠0 by decide),Af (show(8:Int)≠0 by decide),Fl,ct,Cs,K_,Ca,F3 rfl hs.res,this]
 rfl
end
end Gx.Cf
namespace Go.Proofs
open Go.Shelf Go.RowKit
open Go.RowKit
def Tryz.laysM171_ren : Go.Shelf.Ren := ⟨fun|171 => 129|243 => 141|246 => 158|283 => 186|284 => 187|285 => 188|286 => 189|129 => 214|317 => 213|318 => 215|319 => 216|320 => 217|337 => 236|338 => 237|n => n, fun|3 => 3|9 => 9|2 => 2|4 => 4|171 => 239|0 => 0|53 => 98|37 => 23|5 => 5|173 => 242|212 => 254|51 => 185|20 => 20|213 => 255|46 => 180|232 => 294|233 => 295|n => n, fun|17 => 1|18 => 4|19 => 5|n => n⟩
def Tryz.laysM171 : Go.Proofs.LaysM.n171 Tryz.prog Tryz.laysM171_ren := {
  mixed := by kernel_rfl
  f129 := Tryz.func214.trans (congrArg some (by kernel_rfl))
  f171 := Tryz.func129.trans (congrArg some (by kernel_rfl))
  f243 := Tryz.func141.trans (congrArg some (by kernel_rfl))
  f246 := Tryz.func158.trans (congrArg some (by kernel_rfl))
  f283 := Tryz.func186.trans (congrArg some (by kernel_rfl))
  f284 := Tryz.func187.trans (congrArg some (by kernel_rfl))
  f285 := Tryz.func188.trans (congrArg some (by kernel_rfl))
  f286 := Tryz.func189.trans (congrArg some (by kernel_rfl))
  f317 := Tryz.func213.trans (congrArg some (by kernel_rfl))
  f318 := Tryz.func215.trans (congrArg some (by kernel_rfl))
  f319 := Tryz.func216.trans (congrArg some (by kernel_rfl))
  f320 := Tryz.func217.trans (congrArg some (by kernel_rfl))
  f337 := Tryz.func236.trans (congrArg some (by kernel_rfl))
  f338 := Tryz.func237.trans (congrArg some (by kernel_rfl))
  t0 := Tryz.underlying0
  a0 := Tryz.isAgg0
  z0 := Tryz.sizeOf0
  v0 := Tryz.zeroValue0
  t2 := Tryz.underlying2
  a2 := Tryz.isAgg2
  z2 := Tryz.sizeOf2
  v2 := Tryz.zeroValue2
  t3 := Tryz.underlying3
  a3 := Tryz.isAgg3
  z3 := Tryz.sizeOf3
  v3 := Tryz.zeroValue3
  t4 := Tryz.underlying4
  a4 := Tryz.isAgg4
  z4 := Tryz.sizeOf4
  v4 := Tryz.zeroValue4
  t5 := Tryz.underlying5
  a5 := Tryz.isAgg5
  z5 := Tryz.sizeOf5
  v5 := Tryz.zeroValue5
  t9 := Tryz.underlying9
  a9 := Tryz.isAgg9
  z9 := Tryz.sizeOf9
  v9 := Tryz.zeroValue9
  t20 := Tryz.underlying20
  a20 := Tryz.isAgg20
  z20 := Tryz.sizeOf20
  v20 := Tryz.zeroValue20
  t37 := Tryz.underlying23
  a37 := Tryz.isAgg23
  z37 := Tryz.sizeOf23
  v37 := Tryz.zeroValue23
  t46 := Tryz.underlying180
  a46 := Tryz.isAgg180
  z46 := Tryz.sizeOf180
  v46 := Tryz.zeroValue180
  t51 := Tryz.underlying185
  a51 := Tryz.isAgg185
  z51 := Tryz.sizeOf185
  v51 := Tryz.zeroValue185
  t53 := Tryz.underlying98
  a53 := Tryz.isAgg98
  z53 := Tryz.sizeOf98
  v53 := Tryz.zeroValue98
  t171 := Tryz.underlying239
  a171 := Tryz.isAgg239
  z171 := Tryz.sizeOf239
  v171 := Tryz.zeroValue239
  t173 := Tryz.underlying242
  a173 := Tryz.isAgg242
  z173 := Tryz.sizeOf242
  v173 := Tryz.zeroValue242
  t212 := Tryz.underlying254
  a212 := Tryz.isAgg254
  z212 := Tryz.sizeOf254
  v212 := Tryz.zeroValue254
  t213 := Tryz.underlying255
  a213 := Tryz.isAgg255
  z213 := Tryz.sizeOf255
  t232 := Tryz.underlying294
  a232 := Tryz.isAgg294
  z232 := Tryz.sizeOf294
  v232 := Tryz.zeroValue294
  t233 := Tryz.underlying295
  a233 := Tryz.isAgg295
  z233 := Tryz.sizeOf295
  v233 := Tryz.zeroValue295
  g17 := by kernel_rfl
  g18 := by kernel_rfl
  g19 := by kernel_rfl
  i0 := by kernel_rfl
  i2 := by kernel_rfl
  i3 := by kernel_rfl
  i4 := by kernel_rfl
  i5 := by kernel_rfl
  i9 := by kernel_rfl
  i20 := by kernel_rfl
  i37 := by kernel_rfl
  i46 := by kernel_rfl
  i51 := by kernel_rfl
  i53 := by kernel_rfl
  i171 := by kernel_rfl
  i173 := by kernel_rfl
  i212 := by kernel_rfl
  i232 := by kernel_rfl
  i233 := by kernel_rfl
  m17 := by kernel_rfl
  m18 := by kernel_rfl
  m19 := by kernel_rfl }
def Tryz.laysC172_ren : Go.Shelf.Ren := ⟨fun|172 => 166|244 => 198|245 => 199|247 => 220|279 => 221|280 => 222|281 => 223|282 => 224|287 => 238|316 => 239|171 => 129|205 => 240|321 => 250|322 => 251|243 => 141|246 => 158|283 => 186|284 => 187|285 => 188|286 => 189|129 => 214|317 => 213|318 => 215|319 => 216|320 => 217|337 => 236|338 => 237|n => n, fun|9 => 9|3 => 3|75 => 213|76 => 214|4 => 4|5 => 5|167 => 258|37 => 23|0 => 0|85 => 259|2 => 2|168 => 261|53 => 98|175 => 280|46 => 180|210 => 284|127 => 293|145 => 299|143 => 297|21 => 21|171 => 239|173 => 242|212 => 254|51 => 185|20 => 20|213 => 255|232 => 294|233 => 295|80 => 278|n => n, fun|15 => 2|16 => 3|17 => 1|18 => 4|19 => 5|n => n⟩
def Tryz.laysC172 : Go.Proofs.LaysC.n172 Tryz.prog Tryz.laysC172_ren := {
  mixed := by kernel_rfl
  f129 := Tryz.func214.trans (congrArg some (by kernel_rfl))
  f171 := Tryz.func129.trans (congrArg some (by kernel_rfl))
  f172 := Tryz.func166.trans (congrArg some (by kernel_rfl))
  f205 := Tryz.func240.trans (congrArg some (by kernel_rfl))
  f243 := Tryz.func141.trans (congrArg some (by kernel_rfl))
  f244 := Tryz.func198.trans (congrArg some (by kernel_rfl))
  f245 := Tryz.func199.trans (congrArg some (by kernel_rfl))
  f246 := Tryz.func158.trans (congrArg some (by kernel_rfl))
  f247 := Tryz.func220.trans (congrArg some (by kernel_rfl))
  f279 := Tryz.func221.trans (congrArg some (by kernel_rfl))
  f280 := Tryz.func222.trans (congrArg some (by kernel_rfl))
  f281 := Tryz.func223.trans (congrArg some (by kernel_rfl))
  f282 := Tryz.func224.trans (congrArg some (by kernel_rfl))
  f283 := Tryz.func186.trans (congrArg some (by kernel_rfl))
  f284 := Tryz.func187.trans (congrArg some (by kernel_rfl))
  f285 := Tryz.func188.trans (congrArg some (by kernel_rfl))
  f286 := Tryz.func189.trans (congrArg some (by kernel_rfl))
  f287 := Tryz.func238.trans (congrArg some (by kernel_rfl))
  f316 := Tryz.func239.trans (congrArg some (by kernel_rfl))
  f317 := Tryz.func213.trans (congrArg some (by kernel_rfl))
  f318 := Tryz.func215.trans (congrArg some (by kernel_rfl))
  f319 := Tryz.func216.trans (congrArg some (by kernel_rfl))
  f320 := Tryz.func217.trans (congrArg some (by kernel_rfl))
  f321 := Tryz.func250.trans (congrArg some (by kernel_rfl))
  f322 := Tryz.func251.trans (congrArg some (by kernel_rfl))
  f337 := Tryz.func236.trans (congrArg some (by kernel_rfl))
  f338 := Tryz.func237.trans (congrArg some (by kernel_rfl))
  t0 := Tryz.underlying0
  a0 := Tryz.isAgg0
  z0 := Tryz.sizeOf0
  v0 := Tryz.zeroValue0
  t2 := Tryz.underlying2
  a2 := Tryz.isAgg2
  z2 := Tryz.sizeOf2
  v2 := Tryz.zeroValue2
  t3 := Tryz.underlying3
  a3 := Tryz.isAgg3
  z3 := Tryz.sizeOf3
  v3 := Tryz.zeroValue3
  t4 := Tryz.underlying4
  a4 := Tryz.isAgg4
  z4 := Tryz.sizeOf4
  v4 := Tryz.zeroValue4
  t5 := Tryz.underlying5
  a5 := Tryz.isAgg5
  z5 := Tryz.sizeOf5
  v5 := Tryz.zeroValue5
  t9 := Tryz.underlying9
  a9 := Tryz.isAgg9
  z9 := Tryz.sizeOf9
  v9 := Tryz.zeroValue9
  t20 := Tryz.underlying20
  a20 := Tryz.isAgg20
  z20 := Tryz.sizeOf20
  v20 := Tryz.zeroValue20
  t21 := Tryz.underlying21
  a21 := Tryz.isAgg21
  z21 := Tryz.sizeOf21
  v21 := Tryz.zeroValue21
  t37 := Tryz.underlying23
  a37 := Tryz.isAgg23
  z37 := Tryz.sizeOf23
  v37 := Tryz.zeroValue23
  t46 := Tryz.underlying180
  a46 := Tryz.isAgg180
  z46 := Tryz.sizeOf180
  v46 := Tryz.zeroValue180
  t51 := Tryz.underlying185
  a51 := Tryz.isAgg185
  z51 := Tryz.sizeOf185
  v51 := Tryz.zeroValue185
  t53 := Tryz.underlying98
  a53 := Tryz.isAgg98
  z53 := Tryz.sizeOf98
  v53 := Tryz.zeroValue98
  t75 := Tryz.underlying213
  a75 := Tryz.isAgg213
  z75 := Tryz.sizeOf213
  v75 := Tryz.zeroValue213
  t76 := Tryz.underlying214
  a76 := Tryz.isAgg214
  z76 := Tryz.sizeOf214
  v76 := Tryz.zeroValue214
  t85 := Tryz.underlying259
  a85 := Tryz.isAgg259
  z85 := Tryz.sizeOf259
  v85 := Tryz.zeroValue259
  t127 := Tryz.underlying293
  a127 := Tryz.isAgg293
  z127 := Tryz.sizeOf293
  v127 := Tryz.zeroValue293
  t143 := Tryz.underlying297
  a143 := Tryz.isAgg297
  z143 := Tryz.sizeOf297
  v143 := Tryz.zeroValue297
  t145 := Tryz.underlying299
  a145 := Tryz.isAgg299
  z145 := Tryz.sizeOf299
  v145 := Tryz.zeroValue299
  t167 := Tryz.underlying258
  a167 := Tryz.isAgg258
  z167 := Tryz.sizeOf258
  v167 := Tryz.zeroValue258
  t168 := Tryz.underlying261
  a168 := Tryz.isAgg261
  z168 := Tryz.sizeOf261
  v168 := Tryz.zeroValue261
  t171 := Tryz.underlying239
  a171 := Tryz.isAgg239
  z171 := Tryz.sizeOf239
  v171 := Tryz.zeroValue239
  t173 := Tryz.underlying242
  a173 := Tryz.isAgg242
  z173 := Tryz.sizeOf242
  v173 := Tryz.zeroValue242
  t175 := Tryz.underlying280
  a175 := Tryz.isAgg280
  z175 := Tryz.sizeOf280
  v175 := Tryz.zeroValue280
  t210 := Tryz.underlying284
  a210 := Tryz.isAgg284
  z210 := Tryz.sizeOf284
  v210 := Tryz.zeroValue284
  t212 := Tryz.underlying254
  a212 := Tryz.isAgg254
  z212 := Tryz.sizeOf254
  v212 := Tryz.zeroValue254
  t213 := Tryz.underlying255
  a213 := Tryz.isAgg255
  z213 := Tryz.sizeOf255
  t232 := Tryz.underlying294
  a232 := Tryz.isAgg294
  z232 := Tryz.sizeOf294
  v232 := Tryz.zeroValue294
  t233 := Tryz.underlying295
  a233 := Tryz.isAgg295
  z233 := Tryz.sizeOf295
  v233 := Tryz.zeroValue295
  g15 := by kernel_rfl
  g16 := by kernel_rfl
  g17 := by kernel_rfl
  g18 := by kernel_rfl
  g19 := by kernel_rfl
  t80 := Tryz.underlying278
  a80 := Tryz.isAgg278
  z80 := Tryz.sizeOf278
  v80 := Tryz.zeroValue278
  i0 := by kernel_rfl
  i2 := by kernel_rfl
  i3 := by kernel_rfl
  i4 := by kernel_rfl
  i5 := by kernel_rfl
  i9 := by kernel_rfl
  i20 := by kernel_rfl
  i21 := by kernel_rfl
  i37 := by kernel_rfl
  i46 := by kernel_rfl
  i51 := by kernel_rfl
  i53 := by kernel_rfl
  i75 := by kernel_rfl
  i76 := by kernel_rfl
  i80 := by kernel_rfl
  i85 := by kernel_rfl
  i127 := by kernel_rfl
  i143 := by kernel_rfl
  i145 := by kernel_rfl
  i167 := by kernel_rfl
  i168 := by kernel_rfl
  i171 := by kernel_rfl
  i173 := by kernel_rfl
  i175 := by kernel_rfl
  i210 := by kernel_rfl
  i212 := by kernel_rfl
  i232 := by kernel_rfl
  i233 := by kernel_rfl
  m15 := by kernel_rfl
  m16 := by kernel_rfl
  m17 := by kernel_rfl
  m18 := by kernel_rfl
  m19 := by kernel_rfl
  c0 := by kernel_rfl
  c2 := by kernel_rfl
  c3 := by kernel_rfl
  c4 := by kernel_rfl
  c5 := by kernel_rfl
  c9 := by kernel_rfl
  c20 := by kernel_rfl
  c21 := by kernel_rfl
  c37 := by kernel_rfl
  c46 := by kernel_rfl
  c51 := by kernel_rfl
  c53 := by kernel_rfl
  c75 := by kernel_rfl
  c76 := by kernel_rfl
  c80 := by kernel_rfl
  c85 := by kernel_rfl
  c127 := by kernel_rfl
  c143 := by kernel_rfl
  c145 := by kernel_rfl
  c167 := by kernel_rfl
  c168 := by kernel_rfl
  c171 := by kernel_rfl
  c173 := by kernel_rfl
  c175 := by kernel_rfl
  c210 := by kernel_rfl
  c212 := by kernel_rfl
  c213 := by kernel_rfl
  c232 := by kernel_rfl
  c233 := by kernel_rfl }
def Tryz.lays145_ren : Go.Shelf.Ren := ⟨fun|145 => 21|220 => 52|219 => 104|217 => 105|225 => 132|224 => 133|267 => 134|266 => 135|314 => 146|n => n, fun|9 => 9|4 => 4|59 => 63|3 => 3|5 => 5|46 => 180|146 => 194|51 => 185|n => n, fun|1 => 0|n => n⟩
def Tryz.lays145 : Go.Proofs.Lays.n145 Tryz.prog Tryz.lays145_ren := {
  mixed := by kernel_rfl
  f145 := Tryz.func21.trans (congrArg some (by kernel_rfl))
  f217 := Tryz.func105.trans (congrArg some (by kernel_rfl))
  f219 := Tryz.func104.trans (congrArg some (by kernel_rfl))
  f220 := Tryz.func52.trans (congrArg some (by kernel_rfl))
  f224 := Tryz.func133.trans (congrArg some (by kernel_rfl))
  f225 := Tryz.func132.trans (congrArg some (by kernel_rfl))
  f266 := Tryz.func135.trans (congrArg some (by kernel_rfl))
  f267 := Tryz.func134.trans (congrArg some (by kernel_rfl))
  f314 := Tryz.func146.trans (congrArg some (by kernel_rfl))
  t3 := Tryz.underlying3
  a3 := Tryz.isAgg3
  z3 := Tryz.sizeOf3
  v3 := Tryz.zeroValue3
  t4 := Tryz.underlying4
  a4 := Tryz.isAgg4
  z4 := Tryz.sizeOf4
  v4 := Tryz.zeroValue4
  t5 := Tryz.underlying5
  a5 := Tryz.isAgg5
  z5 := Tryz.sizeOf5
  v5 := Tryz.zeroValue5
  t9 := Tryz.underlying9
  a9 := Tryz.isAgg9
  z9 := Tryz.sizeOf9
  v9 := Tryz.zeroValue9
  t46 := Tryz.underlying180
  a46 := Tryz.isAgg180
  z46 := Tryz.sizeOf180
  v46 := Tryz.zeroValue180
  t51 := Tryz.underlying185
  a51 := Tryz.isAgg185
  z51 := Tryz.sizeOf185
  v51 := Tryz.zeroValue185
  t59 := Tryz.underlying63
  a59 := Tryz.isAgg63
  z59 := Tryz.sizeOf63
  v59 := Tryz.zeroValue63
  t146 := Tryz.underlying194
  a146 := Tryz.isAgg194
  z146 := Tryz.sizeOf194
  v146 := Tryz.zeroValue194
  g1 := by kernel_rfl }
def Tryz.lays105_ren : Go.Shelf.Ren := ⟨fun|105 => 211|212 => 230|99 => 231|165 => 232|166 => 233|170 => 234|169 => 235|263 => 246|264 => 247|206 => 219|240 => 248|241 => 249|276 => 254|277 => 255|n => n, fun|9 => 9|3 => 3|4 => 4|20 => 20|0 => 0|46 => 180|109 => 272|5 => 5|72 => 276|76 => 214|51 => 185|146 => 194|53 => 98|148 => 291|70 => 274|37 => 23|75 => 213|127 => 293|164 => 301|80 => 278|n => n, fun|n => n⟩
def Tryz.lays105 : Go.Proofs.Lays.n105 Tryz.prog Tryz.lays105_ren := {
  mixed := by kernel_rfl
  f99 := Tryz.func231.trans (congrArg some (by kernel_rfl))
  f105 := Tryz.func211.trans (congrArg some (by kernel_rfl))
  f165 := Tryz.func232.trans (congrArg some (by kernel_rfl))
  f166 := Tryz.func233.trans (congrArg some (by kernel_rfl))
  f169 := Tryz.func235.trans (congrArg some (by kernel_rfl))
  f170 := Tryz.func234.trans (congrArg some (by kernel_rfl))
  f206 := Tryz.func219.trans (congrArg some (by kernel_rfl))
  f212 := Tryz.func230.trans (congrArg some (by kernel_rfl))
  f240 := Tryz.func248.trans (congrArg some (by kernel_rfl))
  f241 := Tryz.func249.trans (congrArg some (by kernel_rfl))
  f263 := Tryz.func246.trans (congrArg some (by kernel_rfl))
  f264 := Tryz.func247.trans (congrArg some (by kernel_rfl))
  f276 := Tryz.func254.trans (congrArg some (by kernel_rfl))
  f277 := Tryz.func255.trans (congrArg some (by kernel_rfl))
  t0 := Tryz.underlying0
  a0 := Tryz.isAgg0
  z0 := Tryz.sizeOf0
  v0 := Tryz.zeroValue0
  t3 := Tryz.underlying3
  a3 := Tryz.isAgg3
  z3 := Tryz.sizeOf3
  v3 := Tryz.zeroValue3
  t4 := Tryz.underlying4
  a4 := Tryz.isAgg4
  z4 := Tryz.sizeOf4
  v4 := Tryz.zeroValue4
  t5 := Tryz.underlying5
  a5 := Tryz.isAgg5
  z5 := Tryz.sizeOf5
  v5 := Tryz.zeroValue5
  t9 := Tryz.underlying9
  a9 := Tryz.isAgg9
  z9 := Tryz.sizeOf9
  v9 := Tryz.zeroValue9
  t20 := Tryz.underlying20
  a20 := Tryz.isAgg20
  z20 := Tryz.sizeOf20
  v20 := Tryz.zeroValue20
  t37 := Tryz.underlying23
  a37 := Tryz.isAgg23
  z37 := Tryz.sizeOf23
  v37 := Tryz.zeroValue23
  t46 := Tryz.underlying180
  a46 := Tryz.isAgg180
  z46 := Tryz.sizeOf180
  v46 := Tryz.zeroValue180
  t51 := Tryz.underlying185
  a51 := Tryz.isAgg185
  z51 := Tryz.sizeOf185
  v51 := Tryz.zeroValue185
  t53 := Tryz.underlying98
  a53 := Tryz.isAgg98
  z53 := Tryz.sizeOf98
  v53 := Tryz.zeroValue98
  t70 := Tryz.underlying274
  a70 := Tryz.isAgg274
  z70 := Tryz.sizeOf274
  v70 := Tryz.zeroValue274
  t72 := Tryz.underlying276
  a72 := Tryz.isAgg276
  z72 := Tryz.sizeOf276
  v72 := Tryz.zeroValue276
  t75 := Tryz.underlying213
  a75 := Tryz.isAgg213
  z75 := Tryz.sizeOf213
  v75 := Tryz.zeroValue213
  t76 := Tryz.underlying214
  a76 := Tryz.isAgg214
  z76 := Tryz.sizeOf214
  v76 := Tryz.zeroValue214
  t109 := Tryz.underlying272
  a109 := Tryz.isAgg272
  z109 := Tryz.sizeOf272
  v109 := Tryz.zeroValue272
  t127 := Tryz.underlying293
  a127 := Tryz.isAgg293
  z127 := Tryz.sizeOf293
  v127 := Tryz.zeroValue293
  t146 := Tryz.underlying194
  a146 := Tryz.isAgg194
  z146 := Tryz.sizeOf194
  v146 := Tryz.zeroValue194
  t148 := Tryz.underlying291
  a148 := Tryz.isAgg291
  z148 := Tryz.sizeOf291
  v148 := Tryz.zeroValue291
  t164 := Tryz.underlying301
  a164 := Tryz.isAgg301
  z164 := Tryz.sizeOf301
  v164 := Tryz.zeroValue301 }
def Tryz.Builder_Extra_105 : Builder.Extra Tryz.prog Tryz.lays105_ren := {
  sizeBuilder := by kernel_rfl
  liesBuilder := by kernel_rfl
  t5 := Tryz.underlying5
  a5 := Tryz.isAgg5
  z5 := Tryz.sizeOf5
  v5 := Tryz.zeroValue5
  infoByte := by kernel_rfl
  cellsByte := by kernel_rfl
  sizeByte := by kernel_rfl
  neB5 := by decide }
end Go.Proofs
namespace Gx
open Go Go.Proofs Go.RowKit
noncomputable section
variable{R:Type}(N:Nat)
def Ul(_N:Nat)(s t:Lu)(r0:Lu->Lu->Bool->O R):O R:=cond (ble s.length 4294967280) (r0 (Lib.cut s t).1 (Lib.cut s t).2.1 (Lib.cut s t).2.2) none
def strings_Cut:=(Ad (@Ul R)).1
def Qi:@strings_Cut R=@Ul R:=(Ad _).2
def Lf(a:LA)(h:A8)(k:KF R):O R :=
 match a,h with
|[.str s,.str t],[]=>strings_Cut N s t fun x y b=>k (.tup [.str x,.str y,.bool b]) []
|_,_=>none
def dO:Tw:=⟨fun {R} a h k=>@Lf R N a h k,fun {R} a h k=>by
 unfold Lf
 split
 ·rw[Qi,Qi];unfold Ul;cases ble _ 4294967280<;>rfl
 ·rfl⟩
def Qj(_N:Nat)(s:Lu)(c:Int)(r0:Lu->O R):O R:=cond (decide (0<=c)&&(decide (c<=9223372036854775807)&&decide ((s.length:Int)*c<=140737488355328))) (r0 (Lib.repeatL s c.toNat)) none
def strings_Repeat:=(Ad (@Qj R)).1
def O8:@strings_Repeat R=@Qj R:=(Ad _).2
def Ho(a:LA)(h:A8)(k:KF R):O R :=
 match a,h with
|[.str s,.int .i64 c],[]=>strings_Repeat N s c fun x=>k (.str x) []
|_,_=>none
def PB:Tw:=⟨fun {R} a h k=>@Ho R N a h k,fun {R} a h k=>by
 unfold Ho
 split
 ·rename_i s c
  rw[O8,O8];unfold Qj;cases (decide (0<=c)&&(decide (c<=9223372036854775807)&&decide ((s.length:Int)*c<=140737488355328)))<;>rfl
 ·rfl⟩
def V8(_N:Nat)(n:Int)(r0:Lu->O R):O R:=cond (decide (-9223372036854775808<=n)&&decide (n<=9223372036854775807)) (r0 (Lib.itoa n)) none
def strconv_Itoa:=(Ad (@V8 R)).1
def Um:@strconv_Itoa R=@V8 R:=(Ad _).2
def Un(a:LA)(h:A8)(k:KF R):O R :=
 match a,h with
|[.int .i64 n],[]=>strconv_Itoa N n fun x=>k (.str x) []
|_,_=>none
def ZR:Tw:=⟨fun {R} a h k=>@Un R N a h k,fun {R} a h k=>by
 unfold Un
 split
 ·rename_i n
  rw[Um,Um];unfold V8;cases (decide (-9223372036854775808<=n)&&decide (n<=9223372036854775807))<;>rfl
 ·rfl⟩
def Q5(_N:Nat)(s:Lu)(r0:Int->O R):O R:=cond (ble s.length 9223372036854775806) (match Lib.atoiAll s with|.ok v=>r0 v|_=>none) none
def IN:=(Ad (@Q5 R)).1
def N8:@IN R=@Q5 R:=(Ad _).2
def Jz(a:LA)(h:A8)(k:KF R):O R :=
 match a,h with
|[.str s],[]=>IN N s fun x=>k (.tup [.int .i64 x,.undef]) []
|_,_=>none
def ZS:Tw:=⟨fun {R} a h k=>@Jz R N a h k,fun {R} a h k=>by
 unfold Jz
 split
 ·rw[N8,N8];unfold Q5;cases ble _ 9223372036854775806
  ·rfl
  ·cases Lib.atoiAll _<;>rfl
 ·rfl⟩
end
def Ai2(w:World)(n:Nat):Below w.heap.size w (w.drewN n):=⟨rfl,rfl,rfl,A49 _,fun _ _=>rfl⟩
def dP(N:Nat):pe Tryz.prog 21 (dO N):=by
 intro d h res h' j
 have f:Lf N d h (fun v h'=>some (v,h'))=some (res,h'):=j
 unfold Lf at f
 split at f
 ·rename_i s t
  rw[Qi,Ul]at f
  obtain⟨q,k⟩:=uc f
  simp at q k
  obtain⟨rfl,rfl⟩:=k
  refine SM fun J β w vs G hr=>?_
  obtain⟨u,v,rfl,e1,l⟩:=wB hr
  simp only[Rep]at e1 l;subst e1 l
  obtain⟨m,x⟩:=G.int (g:=0) (by decide)
  refine(Any.strings_Cut Tryz.lays145 ⟨⟨s⟩⟩ ⟨⟨t⟩⟩ m w (show s.length<4294967281 by omega) x).mono ?_
  rintro e w' ⟨rfl,n,rfl⟩
  refine⟨_,rfl,Ai2 w n,fun J β w=>?_⟩
  rw[Rep]
  exact⟨_,rfl,by simp[Reps,Rep]⟩
 ·cases f
def PC(N:Nat):pe Tryz.prog 211 (PB N):=by
 intro d h res h' j
 have f:Ho N d h (fun v h'=>some (v,h'))=some (res,h'):=j
 unfold Ho at f
 split at f
 ·rename_i s c
  rw[O8,Qj]at f
  obtain⟨k,m⟩:=uc f
  simp only[A47,decide_eq_true_eq]at k
  simp at m
  obtain⟨rfl,rfl⟩:=m
  refine SM fun J β w vs G hr=>?_
  obtain⟨u,v,rfl,e1,q⟩:=wB hr
  simp only[Rep]at e1 q;subst e1 q
  obtain⟨n,rfl⟩:∃ n:Nat,c=n:=⟨c.toNat,by omega⟩
  by_cases t:s.length=0
  ·have hs:s=[]:=List.eq_nil_of_length_eq_zero t
   subst hs
   have hn:n<=9223372036854775807:=by have:=k.2.1;omega
   ·refine(Any.strings_Repeat Tryz.lays105 Tryz.Builder_Extra_105 ⟨⟨[]⟩⟩ n w hn (by show 0*n<=_;omega)).mono ?_
    rintro e w' ⟨rfl,l⟩
    exact⟨_,rfl,l,fun J β w=>by rw[Rep];rfl⟩
  ·have x:s.length*n<=140737488355328:=by have:=k.2.2;rw[<-Int.natCast_mul]at this;omega
   have y:n<=s.length*n:=Nat.le_mul_of_pos_left n (by omega)
   refine(Any.strings_Repeat Tryz.lays105 Tryz.Builder_Extra_105 ⟨⟨s⟩⟩ n w (by omega) x).mono ?_
   rintro e w' ⟨rfl,l⟩
   exact⟨_,rfl,l,fun J β w=>by rw[Rep];rfl⟩
 ·cases f
def uB(N:Nat):pe Tryz.prog 129 (ZR N):=by
 intro d h res h' j
 have f:Un N d h (fun v h'=>some (v,h'))=some (res,h'):=j
 unfold Un at f
 split at f
 ·rename_i n
  rw[Um,V8]at f
  obtain⟨l,m⟩:=uc f
  simp only[A47,decide_eq_true_eq]at l
  simp at m
  obtain⟨rfl,rfl⟩:=m
  refine SM fun J β w vs G hr=>?_
  obtain⟨u,rfl,e1⟩:=vz hr
  rw[Rep]at e1;subst e1
  refine(Any.strconv_Itoa Tryz.laysM171 n l.1 l.2 w (G.tab (g:=1) (by simp[Apb,Lib.pow10Tab]) (by kernel_rfl))).mono ?_
  rintro e w' ⟨rfl,k,os,rfl⟩
  refine⟨_,rfl,⟨rfl,rfl,rfl,by simp[Go.Sort.grow],fun i hi=>?_⟩,fun J β w=>by rw[Rep]⟩
  show(w.heap++os)[i]?=_
  rw[A79 hi]
 ·cases f
def strconv_Atoi_ok(N:Nat):pe Tryz.prog 166 (ZS N):=by
 intro d h res h' k
 have f:Jz N d h (fun v h'=>some (v,h'))=some (res,h'):=k
 unfold Jz at f
 split at f
 ·rename_i s
  rw[N8,Q5]at f
  obtain⟨l,j⟩:=uc f
  simp at l
  split at j
  ·rename_i v m
   simp at j
   obtain⟨rfl,rfl⟩:=j
   refine SM fun J β w vs G hr=>?_
   obtain⟨u,rfl,e1⟩:=vz hr
   rw[Rep]at e1;subst e1
   refine(Any.strconv_Atoi_ok Tryz.laysC172 ⟨⟨s⟩⟩ l v m w).mono ?_
   rintro e w' ⟨rfl,n⟩
   refine⟨_,rfl,?_,fun J β w=>by rw[Rep];exact⟨_,rfl,by rw[Reps];exact⟨_,_,rfl,by rw[Rep],by rw[Reps];exact⟨_,_,rfl,by rw[Rep];trivial,by rw[Reps]⟩⟩⟩⟩
   rcases n with rfl|⟨t,rfl⟩
   ·exact Below.refl _ _
   ·exact Lib.bytesWorld_below _ _ _
  ·cases j
 ·cases f
noncomputable def RF(N:Nat):=Atx (dO N) (dP N)
noncomputable def qM(N:Nat):=Atx (PB N) (PC N)
noncomputable def dQ(N:Nat):=Atx (ZR N) (uB N)
noncomputable def xH(N:Nat):=Atx (ZS N) (strconv_Atoi_ok N)
end Gx
namespace Gx
open Go
mutual
def A1r:AV->AV->Bool
|.int k n,.int k' n'=>Vd k k'&&decide (n=n')
|.bool b,.bool b'=>b==b'
|.str s,.str s'=>s==s'
|.nsl,.nsl=>true
|.imm c n s t o,.imm c' n' s' t' o'=>beq n n'&&(beq s s'&&(t==t'&&(o==o'&&uC c c')))
|.iptr c o,.iptr c' o'=>o==o'&&uC c c'
|.pagg c o,.pagg c' o'=>o==o'&&uC c c'
|.own b f n,.own b' f' n'=>beq b b'&&(beq f f'&&beq n n')
|.optr b f,.optr b' f'=>beq b b'&&beq f f'
|.agg c,.agg c'=>uC c c'
|.tup c,.tup c'=>uC c c'
|.fn f c,.fn f' c'=>beq f f'&&uC c c'
|.nilptr,.nilptr=>true
|.nilfn,.nilfn=>true
|.undef,.undef=>true
|.omap b,.omap b'=>beq b b'
|_,_=>false
def uC:List AV->List AV->Bool
|[],[]=>true
|x::r,y::q=>A1r x y&&uC r q
|_,_=>false
end
mutual
def Am6:∀ a b,A1r a b=true->a=b:=by
 intro a b h
 cases a<;>cases b<;>simp only[A1r,A47,A9h,beq_iff_eq,Vd,decide_eq_true_eq,reduceCtorEq,A7q]at h
 case int.int=>rw[h.1,h.2]
 case bool.bool=>rw[h]
 case str.str=>rw[h]
 case nsl.nsl=>rfl
 case imm.imm=>rw[h.1,h.2.1,h.2.2.1,h.2.2.2.1,IP _ _ h.2.2.2.2]
 case iptr.iptr=>rw[h.1,IP _ _ h.2]
 case pagg.pagg=>rw[h.1,IP _ _ h.2]
 case own.own=>rw[h.1,h.2.1,h.2.2]
 case optr.optr=>rw[h.1,h.2]
 case agg.agg=>rw[IP _ _ h]
 case tup.tup=>rw[IP _ _ h]
 case fn.fn=>rw[h.1,IP _ _ h.2]
 case nilptr.nilptr=>rfl
 case nilfn.nilfn=>rfl
 case undef.undef=>rfl
 case omap.omap=>rw[h]
def IP:∀ a b,uC a b=true->a=b:=by
 intro a b h
 cases a<;>cases b<;>simp only[uC,A47,A7q]at h
 ·rfl
 ·rw[Am6 _ _ h.1,IP _ _ h.2]
end
def A1s:Option (Nat×Nat)->Option (Nat×Nat)->Bool
|none,none=>true
|some (a,b),some (c,d)=>beq a c&&beq b d
|_,_=>false
def A19(x y:Blk):Bool:=x.dead==y.dead&&(x.sealed==y.sealed&&(x.pure==y.pure&&(x.taint==y.taint&&(beq x.sz y.sz&&(x.mp==y.mp&&(A1s x.ty y.ty&&uC x.cells y.cells))))))
def Ayt:A8->A8->Bool
|[],[]=>true
|(i,x)::r,(j,y)::q=>beq i j&&(A19 x y&&Ayt r q)
|_,_=>false
def Azq:∀ a b,A1s a b=true->a=b:=by
 intro a b h
 match a,b,h with
|none,none,_=>rfl
|some (a,b),some (c,d),h=>simp only[A1s,A47,A9h]at h;rw[h.1,h.2]
|none,some _,h=>cases h
|some _,none,h=>simp[A1s]at h
def Azr(x y:Blk)(h:A19 x y=true):x=y:=by
 unfold A19 at h
 simp only[A47,A9h,beq_iff_eq]at h
 obtain⟨f,j,k,l,m,n,d,e⟩:=h
 have:=Azq _ _ d;have:=IP _ _ e
 cases x;cases y;simp_all
def Am7:∀ a b,Ayt a b=true->a=b:=by
 intro a
 induction a with
|nil=>intro b h;cases b<;>simp[Ayt]at h ⊢
| cons p r d =>
  intro b h
  cases b with
  |nil=>simp[Ayt]at h
  |cons q s =>
   obtain⟨i,x⟩:=p;obtain⟨j,y⟩:=q
   simp only[Ayt,A47,A9h]at h
   rw[h.1,Azr _ _ h.2.1,d _ h.2.2]
structure Pt where
 f:Nat
 args:List AV
 h:A8
 res:AV
 h':A8
def Afb(P:Program)(p:Pt):Prop:=Aqy P p.f p.args p.h p.res p.h'
def Ab2(P:Program):List Pt->Prop
|[]=>True
|p::r=>Afb P p/\Ab2 P r
def dR(f:Nat)(a:LA)(h:A8):List Pt->Option Pt
|[]=>none
|p::r=>cond (beq p.f f&&(uC p.args a&&Ayt p.h h)) (some p) (dR f a h r)
def Auo{R:Type}(k:AV->A8->O R)(alt:O R):Option Pt->O R
|some p=>k p.res p.h'
|none=>alt
def Azs (l:List Pt) (f:Nat) (t:Tw):Tw:=⟨fun {R} a h k=>Auo k (t.runK a h k) (dR f a h l),fun {R} a h k=>by
 cases dR f a h l with
|none=>exact t.eq a h k
| some p=>rfl⟩
def Ab3{P:Program}{f:Nat}{a:LA}{h:A8}:∀{l:List Pt},Ab2 P l->∀{p},dR f a h l=some p->Aqy P f a h p.res p.h'
|[],_,p,e=>by simp[dR]at e
| q::r,H,p,e=>by
  unfold dR at e
  cases d:beq q.f f&&(uC q.args a&&Ayt q.h h)with
  |false=>rw[d]at e;exact Ab3 H.2 e
  |true =>
   rw[d]at e
   simp only[cond_true,A7l]at e
   subst e
   simp only[A47,A9h]at d
   have:=IP _ _ d.2.1;have:=Am7 _ _ d.2.2
   obtain⟨rfl,_,_⟩:=d
   subst_vars;exact H.1
def Axc{P:Program}{l:List Pt}(H:Ab2 P l){f:Nat}{t:Tw}(d:pe P f t):pe P f (Azs l f t):=by
 intro a h res h' e
 have e:Auo (fun v h'=>some (v,h')) (t.runK a h fun v h'=>some (v,h')) (dR f a h l)=some (res,h'):=e
 cases hq:dR f a h l with
|none=>rw[hq]at e;exact d a h res h' e
|some p =>
  rw[hq]at e
  simp only[Auo,A7l,Prod.mk.injEq]at e
  obtain⟨rfl,rfl⟩:=e
  exact Ab3 H hq
def Azt(P:Program)(muts:Nat->List Bool)(N:Nat)(l:List Pt)(fs:List (Nat×Hints)):Nat->List (Nat×Tw)
|0=>[]
|d+1=>fs.map fun p=>(p.1,Azs l p.1 ⟨fun args h k=>wC P muts (Azt P muts N l fs d) p.2 N p.1 args h k,fun args h k=>by rw[SN,SN];exact kI ..⟩)
def Aup{P:Program}(f:P.follows .mixedOrders=true)(muts:Nat->List Bool)(N:Nat){l:List Pt}(H:Ab2 P l)(fs:List (Nat×Hints)):∀ d,vm P (Azt P muts N l fs d)
|0=>trivial
| d+1=>by
  rw[Azt]
  have key:∀(q:List (Nat×Hints)),vm P (q.map fun p=>((p.1,Azs l p.1 ⟨fun e h k=>wC P muts (Azt P muts N l fs d) p.2 N p.1 e h k,fun e h k=>by rw[SN,SN];exact kI ..⟩):Nat×Tw)):=by
   intro q
   induction q with
   |nil=>trivial
   |cons p r j =>
    refine⟨Axc H ?_,j⟩
    intro e h res h' m
    exact cG (Aup f muts N H fs d) f ((SN ..).symm.trans m)
  exact key fs
def Axd(f:Nat):List (Nat×Hints)->Hints
|[]=>⟨.leaf,[],[],[],[]⟩
|p::r=>cond (beq p.1 f) p.2 (Axd f r)
def nC(p:Pt):Option (AV×A8)->Bool
|some (v,h)=>A1r p.res v&&Ayt p.h' h
|none=>false
def Ayu{P:Program}(j:P.follows .mixedOrders=true){muts:Nat->List Bool}{N:Nat}{l:List Pt}(H:Ab2 P l){fs:List (Nat×Hints)}(d:Nat){p:Pt}
  (e:nC p (wC P muts (Azt P muts N l fs d) (Axd p.f fs) N p.f p.args p.h fun v h=>some (v,h))=true):Afb P p:=by
 cases hq:wC P muts (Azt P muts N l fs d) (Axd p.f fs) N p.f p.args p.h fun v h=>some (v,h)with
|none=>rw[hq]at e;cases e
|some q =>
  rw[hq]at e
  obtain⟨v,h⟩:=q
  simp only[nC,A47]at e
  have:=Am6 _ _ e.1;have:=Am7 _ _ e.2
  subst_vars
  exact cG (Aup j muts N H fs d) j ((SN ..).symm.trans hq)
end Gx
namespace Gx
open Go Go.Proofs Go.RowKit
noncomputable section
variable{R:Type}(N:Nat)
def C2(_N:Nat)(s:Lu)(c:Int)(r0:Int->O R):O R:=r0 (Lib.indexByte s c.toNat.toUInt8)
def Hp:=(Ad (@C2 R)).1
def Cl:@Hp R=@C2 R:=(Ad _).2
def Bz(a:LA)(h:A8)(k:KF R):O R :=
 match a,h with
|[.str s,.int .u8 c],[]=>Hp N s c fun x=>k (.int .i64 x) []
|_,_=>none
def Kz:Tw:=⟨fun {R} a h k=>@Bz R N a h k,fun {R} a h k=>by
 unfold Bz
 split
 ·rw[Cl,Cl];rfl
 ·rfl⟩
end
def K0(N:Nat):pe Tryz.prog 105 (Kz N):=by
 intro f h res h' j
 have d:Bz N f h (fun v h'=>some (v,h'))=some (res,h'):=j
 unfold Bz at d
 split at d
 ·rename_i s c
  rw[Cl,C2]at d
  simp at d
  obtain⟨rfl,rfl⟩:=d
  refine SM fun J β w vs G hr=>?_
  obtain⟨u,v,rfl,e1,k⟩:=wB hr
  simp only[Rep]at e1 k;subst e1 k
  refine(Any.stringslite_IndexByte {Tryz.lays145 with} ⟨⟨s⟩⟩ c w).mono ?_
  rintro e w' ⟨rfl,rfl⟩
  exact⟨_,rfl,Below.refl _ _,fun J β w=>by rw[Rep]⟩
 ·cases d
noncomputable def Yy(N:Nat):=Atx (Kz N) (K0 N)
end Gx
namespace Gx
open Go Go.Proofs
def Afc{P:Program}{p:Pt}{o:Option (AV×A8)}(h:∀ v h',o=some (v,h')->Aqy P p.f p.args p.h v h')(e:nC p o=true):Afb P p:=by
 cases hq:o with
|none=>rw[hq]at e;cases e
|some q =>
  rw[hq]at e
  obtain⟨v,h'⟩:=q
  simp only[nC,A47]at e
  have d:=Am6 _ _ e.1;have j:=Am7 _ _ e.2
  unfold Afb;rw[d,j]
  exact h _ _ hq
def Azu(a:LA)(h:A8):Option (AV×A8):=match a,h with
|[.str s,.str t],[]=>Ul 0 s t fun x y b=>some (.tup [.str x,.str y,.bool b],[])
|_,_=>none
def Axe(a:LA)(h:A8)(v:AV)(h':A8)(d:Azu a h=some (v,h')):Aqy Tryz.prog 21 a h v h':=by
 refine dP 0 _ _ _ _ (show Lf 0 a h (fun v h'=>some (v,h'))=some (v,h')from ?_)
 unfold Azu at d;unfold Lf
 split at d
 ·rw[Qi];exact d
 ·cases d
def dS{p:Pt}(d:p.f=21)(e:nC p (Azu p.args p.h)=true):Afb Tryz.prog p:=Afc (fun v h' j=>by rw[d];exact Axe _ _ _ _ j) e
def Auq(a:LA)(h:A8):Option (AV×A8):=match a,h with
|[.str s],[]=>Q5 0 s fun x=>some (.tup [.int .i64 x,.undef],[])
|_,_=>none
def Aur(a:LA)(h:A8)(v:AV)(h':A8)(d:Auq a h=some (v,h')):Aqy Tryz.prog 166 a h v h':=by
 refine strconv_Atoi_ok 0 _ _ _ _ (show Jz 0 a h (fun v h'=>some (v,h'))=some (v,h')from ?_)
 unfold Auq at d;unfold Jz
 split at d
 ·rw[N8];exact d
 ·cases d
def gG{p:Pt}(d:p.f=166)(e:nC p (Auq p.args p.h)=true):Afb Tryz.prog p:=Afc (fun v h' j=>by rw[d];exact Aur _ _ _ _ j) e
def Afd(a:LA)(h:A8):Option (AV×A8):=match a,h with
|[.str s,.int .i64 c],[]=>Qj 0 s c fun x=>some (.str x,[])
|_,_=>none
def Am8(a:LA)(h:A8)(v:AV)(h':A8)(d:Afd a h=some (v,h')):Aqy Tryz.prog 211 a h v h':=by
 refine PC 0 _ _ _ _ (show Ho 0 a h (fun v h'=>some (v,h'))=some (v,h')from ?_)
 unfold Afd at d;unfold Ho
 split at d
 ·rw[O8];exact d
 ·cases d
def Ars{p:Pt}(d:p.f=211)(e:nC p (Afd p.args p.h)=true):Afb Tryz.prog p:=Afc (fun v h' j=>by rw[d];exact Am8 _ _ _ _ j) e
def Am9(a:LA)(h:A8):Option (AV×A8):=match a,h with
|[.str s,.int .u8 c],[]=>C2 0 s c fun x=>some (.int .i64 x,[])
|_,_=>none
def Art(a:LA)(h:A8)(v:AV)(h':A8)(d:Am9 a h=some (v,h')):Aqy Tryz.prog 105 a h v h':=by
 refine K0 0 _ _ _ _ (show Bz 0 a h (fun v h'=>some (v,h'))=some (v,h')from ?_)
 unfold Am9 at d;unfold Bz
 split at d
 ·rw[Cl];exact d
 ·cases d
def TO{p:Pt}(d:p.f=105)(e:nC p (Am9 p.args p.h)=true):Afb Tryz.prog p:=Afc (fun v h' j=>by rw[d];exact Art _ _ _ _ j) e
end Gx
namespace Gx
open Go Go.Proofs
set_option maxRecDepth 100000
set_option linter.unusedVariables false
noncomputable section
def A2a:List (Nat×Hints):=[(11,{H:=hS hL (hS hL (hS hL (hS hL (hS (hS hL (hS (hP [0,2,5,6,7] hL) hL)) hL)))),modes:=[(3,0),(0,0),(0,0)],cob:=[13]}),(20,{H:=hS hL (hS hL (hS (hS hL (hS (hP [0,1,5] hL) hL)) hL))}),(22,{H:=hL,nils:=[(2,1)],modes:=[(2,1)]}),(24,{H:=hL,free:=[100001,100002,100003,100004,100005,100006,100007,100008,100009,100010,100011,100012,100013,100014,100015,100016,100017]}),(54,{H:=hS hL (hS hL (hS hL (hS (hS hL (hS (hP [0,1,5,6,14] hL) hL)) (hS hL (hS hL (hS (hS hL (hS (hP [0,9,47,48,49] hL) hL)) hL)))))),nils:=[(4,1)],modes:=[(2,1)]}),(60,{H:=hS hL (hS hL (hS (hS hL (hS (hP [1,5,10,11] hL) hL)) hL)),nils:=[(4,1),(5,1)],modes:=[(2,1)]}),(62,{H:=hL,free:=[100001,100002,100003,100004,100005,100006,100007,100008,100009,100010,100011,100012,100013,100014,100015,100016,100017],cob:=[2]}),(63,{H:=hL,free:=[100001,100002,100003,100004,100005,100006,100007,100008,100009,100010,100011,100012,100013,100014,100015,100016,100017],cob:=[2]}),(86,{H:=hS hL (hS hL (hS (hS hL (hS (hP [0,28,29] hL) hL)) hL))}),(106,{H:=hL,cob:=[4000020]}),(108,{H:=hL,free:=[100001,100002,100003,100004,100005,100006,100007,100008,100009,100010,100011,100012,100013,100014,100015,100016,100017]}),(111,{H:=hL,modes:=[(3,0)]}),(112,{H:=hS hL (hS hL (hS (hS (hP [0,1,5] hL) hL) hL)),nils:=[(4,1),(5,1)],modes:=[(2,1)]}),(128,{H:=hS hL (hS (hS hL (hS (hP [0,1,7,8] hL) hL)) hL)}),(136,{H:=hL,modes:=[(3,0),(0,0)]}),(137,{H:=hS hL (hS hL (hS hL (hS hL (hS hL (hS hL (hS (hS hL (hS (hP [1,5,35,36,37] hL) hL)) hL))))))}),(138,{H:=hL,modes:=[(3,0),(3,0),(0,0)]}),(148,{H:=hS hL (hS hL (hS (hS hL (hS (hP [3,7] hL) hL)) hL))}),(149,{H:=hS hL (hS hL (hS hL (hS hL (hS (hS (hP [0,2,3,4,5] hL) hL) hL)))),modes:=[(3,0)]}),(150,{H:=hL,modes:=[(3,0)]}),(152,{H:=hL,modes:=[(3,0)],cob:=[1]}),(153,{H:=hL,modes:=[(3,0)]}),(154,{H:=hS hL (hS hL (hS (hS (hP [0,3] hL) hL) (hS (hS (hP [0,3] hL) hL) hL)))}),(155,{H:=hL,modes:=[(3,0),(0,0)]}),(156,{H:=hS hL (hS hL (hS hL (hS hL (hS (hS hL (hS (hP [2,3,7,8,26,27,28] hL) hL)) hL)))),modes:=[(3,0),(3,0),(0,0)]}),(157,{H:=hL,modes:=[(3,0)]}),(165,{H:=hS hL (hS hL (hS (hS (hP [1,2,4,5] hL) hL) hL))}),(174,{H:=hL,nils:=[(3,1)],modes:=[(3,0),(1,1)]}),(176,{H:=hS hL (hS hL (hS hL (hS hL (hS (hS (hP [0,1,4,5,6,7] hL) hL) hL)))),modes:=[(3,0)]}),(179,{H:=hL,modes:=[(3,0),(0,0)],cob:=[2,3]}),(180,{H:=hS hL (hS hL (hS hL (hS (hS hL (hS (hP [0,4,5,6,7,8] hL) hL)) hL))),nils:=[(2,2),(4,2)],modes:=[(2,2),(0,0)]}),(181,{H:=hL,modes:=[(3,0),(3,0),(0,0)]}),(183,{H:=hL,modes:=[(3,0)]}),(184,{H:=hL,modes:=[(3,0)]}),(185,{H:=hS hL (hS hL (hS hL (hS hL (hS (hS hL (hS (hP [1,5,29,30,31] (hS hL (hS hL (hS (hS (hS hL (hS hL (hS hL (hS (hS hL (hS (hP [1,5,6,7,8,29,30,31,38,39,40] hL) hL)) hL)))) hL) hL)))) hL)) hL)))),nils:=[(4,1)],modes:=[(2,1)]}),(195,{H:=hS hL (hS (hS hL (hS (hP [0,6] hL) hL)) hL)}),(197,{H:=hL,nils:=[(2,1)],modes:=[(2,1)]}),(200,{H:=hS hL (hS hL (hS hL (hS hL (hS hL (hS (hS hL (hS (hP [0,1,5,6,24,25,26] hL) hL)) hL))))),nils:=[(4,1)],modes:=[(2,1)]}),(202,{H:=hL,nils:=[(2,1)],modes:=[(2,1)]}),(207,{H:=hS hL (hS hL (hS hL (hS (hS hL (hS (hP [0,1,5] hL) hL)) hL)))}),(212,{H:=hS hL (hS hL (hS (hS (hP [0,3] hL) hL) hL)),nils:=[(2,1)],modes:=[(2,1)]}),(225,{H:=hS hL (hS hL (hS (hS hL (hS (hP [3,6,7,8] hL) hL)) hL))})]++[10,21,23,25,53,55,56,57,58,59,61,68,87,105,107,109,110,113,139,147,151,162,163,164,166,167,168,169,170,171,172,173,178,194,196,203,204,205,206,211,219].map fun f=>(f,{H:=hL})
structure PtL where
 l:List Pt
 ok:Ab2 Tryz.prog l
def K4(n:Nat)(c:LA):Blk:=⟨false,false,true,false,n,c,false,none⟩
def Vl(s:PtL)(p:Pt)(e:nC p (wC Tryz.prog muts (Azt Tryz.prog muts 1000000 s.l A2a 9) (Axd p.f A2a) 1000000 p.f p.args p.h fun v h=>some (v,h))=true):PtL:=⟨p::s.l,Ayu follows s.ok _ e,s.ok⟩
def RG(s:PtL)(p:Pt)(e:Afb Tryz.prog p):PtL:=⟨p::s.l,e,s.ok⟩
def pl:PtL:=⟨[],trivial⟩
def A4k:=RG pl ⟨21,[.str [99,97,115,101,32,50,32,114,101,115,101,114,118,101,32,48,32,48,10,98,117,115,32,97,32,100,101,109,97,110,100,32,49,48,77,87,32,48,46,48,50,71,87,32,115,104,101,100,32,48,10],.str [10]],[],.tup [.str [99,97,115,101,32,50,32,114,101,115,101,114,118,101,32,48,32,48],.str [98,117,115,32,97,32,100,101,109,97,110,100,32,49,48,77,87,32,48,46,48,50,71,87,32,115,104,101,100,32,48,10],.bool true],[]⟩ (dS (by kernel_rfl) (by kernel_rfl))
def A4l:=RG A4k ⟨105,[.str [99,97,115,101,32,50,32,114,101,115,101,114,118,101,32,48,32,48],.int .u8 35],[],iv (-1),[]⟩ (TO (by kernel_rfl) (by kernel_rfl))
def A4m:=Vl A4l ⟨165,[.pagg [.bool false,.imm [.int .u32 10] 1 1 false true] true,iv 9],[],.agg [.bool false,.own 300000 0 1],[(300000,K4 1 [.int .u32 1000000000,.int .u32 0])]⟩ (by kernel_rfl)
def A4n:=RG A4m ⟨166,[.str [50]],[],.tup [iv 2,.undef],[]⟩ (gG (by kernel_rfl) (by kernel_rfl))
def A4o:=Vl A4n ⟨149,[.str [50]],[],.pagg [.bool false,.imm [.int .u32 2] 1 1 false false] false,[]⟩ (by kernel_rfl)
def A4p:=Vl A4o ⟨151,[.pagg [.bool false,.imm [.int .u32 2] 1 1 false false,.imm [.int .u32 1] 1 1 false false] false,.pagg [.bool false,.imm [.int .u32 1073741824] 1 1 false false,.imm [.int .u32 1] 1 1 false false] false],[],iv (-1),[]⟩ (by kernel_rfl)
def A4q:=Vl A4p ⟨137,[.pagg [.bool false,.imm [.int .u32 2] 1 1 false false,.imm [.int .u32 1] 1 1 false false] false],[],.tup [iv 2,.bool true],[]⟩ (by kernel_rfl)
def A4r:=RG A4q ⟨166,[.str [48]],[],.tup [iv 0,.undef],[]⟩ (gG (by kernel_rfl) (by kernel_rfl))
def A4s:=Vl A4r ⟨149,[.str [48]],[],.pagg [.bool false,.imm [] 0 1 false false] false,[]⟩ (by kernel_rfl)
def A4t:=RG A4s ⟨166,[.str [49]],[],.tup [iv 1,.undef],[]⟩ (gG (by kernel_rfl) (by kernel_rfl))
def A2b:=Vl A4t ⟨149,[.str [49]],[],.pagg [.bool false,.imm [.int .u32 1] 1 1 false false] false,[]⟩ (by kernel_rfl)
def A2c:=Vl A2b ⟨155,[.str [48]],[],.tup [.pagg [.bool false,.imm [] 0 1 false false,.imm [.int .u32 1] 1 1 false false] false,iv 0],[]⟩ (by kernel_rfl)
def A2d:=Vl A2c ⟨137,[.pagg [.bool false,.imm [] 0 1 false false,.imm [.int .u32 1] 1 1 false false] false],[],.tup [iv 0,.bool true],[]⟩ (by kernel_rfl)
def A33:A8:=[(100011,K4 1 []),(100012,K4 1 []),(100013,K4 1 []),(100014,K4 1 []),(100015,K4 1 [])]
def A2e:A8:=(100003,K4 3 [])::(100004,K4 12 [])::(100005,K4 22 [])::(100006,K4 9 [])::(100007,K4 5 [])::(100008,K4 4 [])::(100009,K4 1 [])::(100010,K4 1 [])::A33
def A34:A8:=(100002,K4 1 [])::A2e
def A2f:=Vl A2d ⟨24,[.optr 100000 0],(100000,⟨false,false,false,false,0,[.own 100001 0 5,iv 0,iv 0,iv 0,.own 100002 0 0,.own 100003 0 0,.own 100004 0 0,.own 100005 0 0,.own 100006 0 0,.own 100007 0 0,.own 100008 0 0,.bool false,.own 100009 0 0,.own 100010 0 0,.own 100011 0 0,.own 100012 0 0,.own 100013 0 0,.own 100014 0 0,.own 100015 0 0],false,none⟩)::(100001,K4 1 [.str [99,97,115,101],.str [50],.str [114,101,115,101,114,118,101],.str [48],.str [48]])::A34,.tup [],[(100000,⟨false,false,false,false,0,[.own 300000 0 5,iv 5,iv 0,iv 2,.own 300015 0 2,.own 300002 0 0,.own 300003 0 0,.own 300004 0 0,.own 300005 0 0,.own 300006 0 0,.own 300007 0 0,.bool true,.own 300008 0 0,.own 300009 0 0,.own 300010 0 0,.own 300011 0 0,.own 300012 0 0,.own 300013 0 0,.own 300014 0 0],false,none⟩),(300000,K4 1 [.str [99,97,115,101],.str [50],.str [114,101,115,101,114,118,101],.str [48],.str [48]]),(300001,K4 1 []),(300002,K4 3 []),(300003,K4 12 []),(300004,K4 22 []),(300005,K4 9 []),(300006,K4 5 []),(300007,K4 4 []),(300008,K4 1 []),(300009,K4 1 []),(300010,K4 1 []),(300011,K4 1 []),(300012,K4 1 []),(300013,K4 1 []),(300014,K4 1 []),(300015,K4 1 [iv 0,iv 0])]⟩ (by kernel_rfl)
def A2g:=RG A2f ⟨21,[.str [98,117,115,32,97,32,100,101,109,97,110,100,32,49,48,77,87,32,48,46,48,50,71,87,32,115,104,101,100,32,48,10],.str [10]],[],.tup [.str [98,117,115,32,97,32,100,101,109,97,110,100,32,49,48,77,87,32,48,46,48,50,71,87,32,115,104,101,100,32,48],.str [],.bool true],[]⟩ (dS (by kernel_rfl) (by kernel_rfl))
def A2h:=RG A2g ⟨105,[.str [98,117,115,32,97,32,100,101,109,97,110,100,32,49,48,77,87,32,48,46,48,50,71,87,32,115,104,101,100,32,48],.int .u8 35],[],iv (-1),[]⟩ (TO (by kernel_rfl) (by kernel_rfl))
def A2i:=Vl A2h ⟨54,[.str [98,117,115,32,97,32,100,101,109,97,110,100,32,49,48,77,87,32,48,46,48,50,71,87,32,115,104,101,100,32,48],.fn 55 []],[],.own 300000 0 7,[(300000,K4 1 [.str [98,117,115],.str [97],.str [100,101,109,97,110,100],.str [49,48,77,87],.str [48,46,48,50,71,87],.str [115,104,101,100],.str [48]])]⟩ (by kernel_rfl)
def A2j:=RG A2i ⟨166,[.str [49,48]],[],.tup [iv 10,.undef],[]⟩ (gG (by kernel_rfl) (by kernel_rfl))
def A2k:=Vl A2j ⟨149,[.str [49,48]],[],.pagg [.bool false,.imm [.int .u32 10] 1 1 false false] false,[]⟩ (by kernel_rfl)
def A2l:=Vl A2k ⟨155,[.str [49,48]],[],.tup [.pagg [.bool false,.imm [.int .u32 10] 1 1 false false,.imm [.int .u32 1] 1 1 false false] false,iv 0],[]⟩ (by kernel_rfl)
def A2m:=Vl A2l ⟨184,[.pagg [iv 1,iv 1] false],[],.pagg [.bool false,.imm [.int .u32 1] 1 1 false false,.imm [.int .u32 1] 1 1 false false] false,[]⟩ (by kernel_rfl)
def A2n:=Vl A2m ⟨156,[.str [77,87]],[],.tup [.pagg [.bool false,.imm [.int .u32 1] 1 1 false false,.imm [.int .u32 1] 1 1 false false] false,.pagg [iv 1,iv 0,iv 0,iv 0] false,iv 0],[]⟩ (by kernel_rfl)
def A2o:=Vl A2n ⟨151,[.pagg [.bool false,.imm [.int .u32 10] 1 1 false false,.imm [.int .u32 1] 1 1 false false] false,.pagg [.bool false,.imm [.int .u32 1073741824] 1 1 false false,.imm [.int .u32 1] 1 1 false false] false],[],iv (-1),[]⟩ (by kernel_rfl)
def A2p:=Vl A2o ⟨137,[.pagg [.bool false,.imm [.int .u32 10] 1 1 false false,.imm [.int .u32 1] 1 1 false false] false],[],.tup [iv 10,.bool true],[]⟩ (by kernel_rfl)
def A2q:A8:=(100001,K4 1 [.str [98,117,115],.str [97],.str [100,101,109,97,110,100],.str [49,48,77,87],.str [48,46,48,50,71,87],.str [115,104,101,100],.str [48]])::(100002,K4 1 [iv 0,iv 0])::(100003,K4 3 [])::(100004,K4 12 [])::(100005,K4 22 [])::(100006,K4 9 [])::(100007,K4 5 [])::(100008,K4 4 [])::(100009,K4 1 [])::(100010,K4 1 [.str [97]])::A33
def A35:A8:=(100000,⟨false,false,false,false,0,[.own 100001 0 7,iv 4,iv 0,iv 2,.own 100002 0 2,.own 100003 0 0,.own 100004 0 0,.own 100005 0 0,.own 100006 0 0,.own 100007 0 0,.own 100008 0 0,.bool true,.own 100009 0 0,.own 100010 0 1,.own 100011 0 0,.own 100012 0 0,.own 100013 0 0,.own 100014 0 0,.own 100015 0 0],false,none⟩)::A2q
def A2r:=Vl A2p ⟨107,[.optr 100000 0,.pagg [iv 1,iv 0,iv 0,iv 0] false],(100000,⟨false,false,false,false,0,[.own 100001 0 7,iv 3,iv 0,iv 2,.own 100002 0 2,.own 100003 0 0,.own 100004 0 0,.own 100005 0 0,.own 100006 0 0,.own 100007 0 0,.own 100008 0 0,.bool true,.own 100009 0 0,.own 100010 0 1,.own 100011 0 0,.own 100012 0 0,.own 100013 0 0,.own 100014 0 0,.own 100015 0 0],false,none⟩)::A2q,iv 10,A35⟩ (by kernel_rfl)
def A2s:=RG A2r ⟨21,[.str [48,46,48,50],.str [47]],[],.tup [.str [48,46,48,50],.str [],.bool false],[]⟩ (dS (by kernel_rfl) (by kernel_rfl))
def A2t:=RG A2s ⟨21,[.str [48,46,48,50],.str [46]],[],.tup [.str [48],.str [48,50],.bool true],[]⟩ (dS (by kernel_rfl) (by kernel_rfl))
def A2u:=RG A2t ⟨211,[.str [48],iv 2],[],.str [48,48],[]⟩ (Ars (by kernel_rfl) (by kernel_rfl))
def A2v:=RG A2u ⟨166,[.str [48,48,50]],[],.tup [iv 2,.undef],[]⟩ (gG (by kernel_rfl) (by kernel_rfl))
def A2w:=Vl A2v ⟨149,[.str [48,48,50]],[],.pagg [.bool false,.imm [.int .u32 2] 1 1 false false] false,[]⟩ (by kernel_rfl)
def A2x:=RG A2w ⟨166,[.str [49,48,48]],[],.tup [iv 100,.undef],[]⟩ (gG (by kernel_rfl) (by kernel_rfl))
def A2y:=Vl A2x ⟨149,[.str [49,48,48]],[],.pagg [.bool false,.imm [.int .u32 100] 1 1 false false] false,[]⟩ (by kernel_rfl)
def A2z:=Vl A2y ⟨155,[.str [48,46,48,50]],[],.tup [.pagg [.bool false,.imm [.int .u32 1] 1 1 false false,.imm [.int .u32 50] 1 1 false false] false,iv 0],[]⟩ (by kernel_rfl)
def A20:=Vl A2z ⟨184,[.pagg [iv 1000,iv 1] false],[],.pagg [.bool false,.imm [.int .u32 1000] 1 1 false false,.imm [.int .u32 1] 1 1 false false] false,[]⟩ (by kernel_rfl)
def A21:=Vl A20 ⟨156,[.str [71,87]],[],.tup [.pagg [.bool false,.imm [.int .u32 1000] 1 1 false false,.imm [.int .u32 1] 1 1 false false] false,.pagg [iv 1,iv 0,iv 0,iv 0] false,iv 0],[]⟩ (by kernel_rfl)
def A22:=Vl A21 ⟨151,[.pagg [.bool false,.imm [.int .u32 20] 1 1 false false,.imm [.int .u32 1] 1 1 false false] false,.pagg [.bool false,.imm [.int .u32 1073741824] 1 1 false false,.imm [.int .u32 1] 1 1 false false] false],[],iv (-1),[]⟩ (by kernel_rfl)
def A23:=Vl A22 ⟨137,[.pagg [.bool false,.imm [.int .u32 20] 1 1 false false,.imm [.int .u32 1] 1 1 false false] false],[],.tup [iv 20,.bool true],[]⟩ (by kernel_rfl)
def A24:=Vl A23 ⟨107,[.optr 100000 0,.pagg [iv 1,iv 0,iv 0,iv 0] false],A35,iv 20,(100000,⟨false,false,false,false,0,[.own 100001 0 7,iv 5,iv 0,iv 2,.own 100002 0 2,.own 100003 0 0,.own 100004 0 0,.own 100005 0 0,.own 100006 0 0,.own 100007 0 0,.own 100008 0 0,.bool true,.own 100009 0 0,.own 100010 0 1,.own 100011 0 0,.own 100012 0 0,.own 100013 0 0,.own 100014 0 0,.own 100015 0 0],false,none⟩)::A2q⟩ (by kernel_rfl)
def A36:A8:=[(300011,K4 1 []),(300012,K4 1 []),(300013,K4 1 []),(300014,K4 1 [])]
def A25:=Vl A24 ⟨62,[.optr 100000 0],(100000,⟨false,false,false,false,0,[.own 100001 0 7,iv 1,iv 0,iv 2,.own 100002 0 2,.own 100003 0 0,.own 100004 0 0,.own 100005 0 0,.own 100006 0 0,.own 100007 0 0,.own 100008 0 0,.bool true,.own 100009 0 0,.own 100010 0 0,.own 100011 0 0,.own 100012 0 0,.own 100013 0 0,.own 100014 0 0,.own 100015 0 0],false,none⟩)::(100001,K4 1 [.str [98,117,115],.str [97],.str [100,101,109,97,110,100],.str [49,48,77,87],.str [48,46,48,50,71,87],.str [115,104,101,100],.str [48]])::(100002,K4 1 [iv 0,iv 0])::A2e,.tup [],(100000,⟨false,false,false,false,0,[.own 300000 0 7,iv 7,iv 0,iv 2,.own 300001 0 2,.own 300002 0 1,.own 300003 0 0,.own 300004 0 0,.own 300005 0 0,.own 300006 0 0,.own 300007 0 0,.bool true,.own 300008 0 0,.own 300009 0 1,.own 300010 0 0,.own 300011 0 0,.own 300012 0 0,.own 300013 0 0,.own 300014 0 0],false,none⟩)::(300000,K4 1 [.str [98,117,115],.str [97],.str [100,101,109,97,110,100],.str [49,48,77,87],.str [48,46,48,50,71,87],.str [115,104,101,100],.str [48]])::(300001,K4 1 [iv 0,iv 0])::(300002,K4 3 [.str [97],.imm [iv 10,iv 20] 2 1 false false,iv 0])::(300003,K4 12 [])::(300004,K4 22 [])::(300005,K4 9 [])::(300006,K4 5 [])::(300007,K4 4 [])::(300008,K4 1 [])::(300009,K4 1 [.str [97]])::(300010,K4 1 [])::A36⟩ (by kernel_rfl)
def A26:=RG A25 ⟨21,[.str [],.str [10]],[],.tup [.str [],.str [],.bool false],[]⟩ (dS (by kernel_rfl) (by kernel_rfl))
def A27:=RG A26 ⟨105,[.str [],.int .u8 35],[],iv (-1),[]⟩ (TO (by kernel_rfl) (by kernel_rfl))
def A28:=Vl A27 ⟨11,[.str [99,97,115,101,32,50,32,114,101,115,101,114,118,101,32,48,32,48,10,98,117,115,32,97,32,100,101,109,97,110,100,32,49,48,77,87,32,48,46,48,50,71,87,32,115,104,101,100,32,48,10]],[],.tup [.pagg [iv 2,.imm [iv 0,iv 0] 2 1 false false,.imm [.str [97],.imm [iv 10,iv 20] 2 1 false false,iv 0] 1 3 false false,.imm [] 0 12 false false,.imm [] 0 22 false false,.imm [] 0 9 false false,.imm [] 0 5 false false,.imm [] 0 4 false false] false,iv 0,iv 0],[]⟩ (by kernel_rfl)
def A29:=RG A28 ⟨21,[.str [99,97,115,101,32,49,32,114,101,115,101,114,118,101,32,48,10,108,105,110,101,32,108,32,97,32,98,32,120,32,49,32,115,104,105,102,116,32,48,32,48,32,108,105,109,105,116,32,49,32,49,32,97,119,97,121],.str [10]],[],.tup [.str [99,97,115,101,32,49,32,114,101,115,101,114,118,101,32,48],.str [108,105,110,101,32,108,32,97,32,98,32,120,32,49,32,115,104,105,102,116,32,48,32,48,32,108,105,109,105,116,32,49,32,49,32,97,119,97,121],.bool true],[]⟩ (dS (by kernel_rfl) (by kernel_rfl))
def A3a:=RG A29 ⟨105,[.str [99,97,115,101,32,49,32,114,101,115,101,114,118,101,32,48],.int .u8 35],[],iv (-1),[]⟩ (TO (by kernel_rfl) (by kernel_rfl))
def A3b:=Vl A3a ⟨151,[.pagg [.bool false,.imm [.int .u32 1] 1 1 false false,.imm [.int .u32 1] 1 1 false false] false,.pagg [.bool false,.imm [.int .u32 1073741824] 1 1 false false,.imm [.int .u32 1] 1 1 false false] false],[],iv (-1),[]⟩ (by kernel_rfl)
def A3c:=Vl A3b ⟨137,[.pagg [.bool false,.imm [.int .u32 1] 1 1 false false,.imm [.int .u32 1] 1 1 false false] false],[],.tup [iv 1,.bool true],[]⟩ (by kernel_rfl)
def A3d:=Vl A3c ⟨24,[.optr 100000 0],(100000,⟨false,false,false,false,0,[.own 100001 0 4,iv 0,iv 0,iv 0,.own 100002 0 0,.own 100003 0 0,.own 100004 0 0,.own 100005 0 0,.own 100006 0 0,.own 100007 0 0,.own 100008 0 0,.bool false,.own 100009 0 0,.own 100010 0 0,.own 100011 0 0,.own 100012 0 0,.own 100013 0 0,.own 100014 0 0,.own 100015 0 0],false,none⟩)::(100001,K4 1 [.str [99,97,115,101],.str [49],.str [114,101,115,101,114,118,101],.str [48]])::A34,.tup [],[(100000,⟨false,false,false,false,0,[.own 300000 0 4,iv 4,iv 0,iv 1,.own 300015 0 1,.own 300002 0 0,.own 300003 0 0,.own 300004 0 0,.own 300005 0 0,.own 300006 0 0,.own 300007 0 0,.bool true,.own 300008 0 0,.own 300009 0 0,.own 300010 0 0,.own 300011 0 0,.own 300012 0 0,.own 300013 0 0,.own 300014 0 0],false,none⟩),(300000,K4 1 [.str [99,97,115,101],.str [49],.str [114,101,115,101,114,118,101],.str [48]]),(300001,K4 1 []),(300002,K4 3 []),(300003,K4 12 []),(300004,K4 22 []),(300005,K4 9 []),(300006,K4 5 []),(300007,K4 4 []),(300008,K4 1 []),(300009,K4 1 []),(300010,K4 1 []),(300011,K4 1 []),(300012,K4 1 []),(300013,K4 1 []),(300014,K4 1 []),(300015,K4 1 [iv 0])]⟩ (by kernel_rfl)
def A3e:=RG A3d ⟨21,[.str [108,105,110,101,32,108,32,97,32,98,32,120,32,49,32,115,104,105,102,116,32,48,32,48,32,108,105,109,105,116,32,49,32,49,32,97,119,97,121],.str [10]],[],.tup [.str [108,105,110,101,32,108,32,97,32,98,32,120,32,49,32,115,104,105,102,116,32,48,32,48,32,108,105,109,105,116,32,49,32,49,32,97,119,97,121],.str [],.bool false],[]⟩ (dS (by kernel_rfl) (by kernel_rfl))
def A3f:=RG A3e ⟨105,[.str [108,105,110,101,32,108,32,97,32,98,32,120,32,49,32,115,104,105,102,116,32,48,32,48,32,108,105,109,105,116,32,49,32,49,32,97,119,97,121],.int .u8 35],[],iv (-1),[]⟩ (TO (by kernel_rfl) (by kernel_rfl))
def A3g:=Vl A3f ⟨54,[.str [108,105,110,101,32,108,32,97,32,98,32,120,32,49,32,115,104,105,102,116,32,48,32,48,32,108,105,109,105,116,32,49,32,49,32,97,119,97,121],.fn 55 []],[],.own 300000 0 13,[(300000,K4 1 [.str [108,105,110,101],.str [108],.str [97],.str [98],.str [120],.str [49],.str [115,104,105,102,116],.str [48],.str [48],.str [108,105,109,105,116],.str [49],.str [49],.str [97,119,97,121]])]⟩ (by kernel_rfl)
def A3h:=Vl A3g ⟨63,[.optr 100000 0],(100000,⟨false,false,false,false,0,[.own 100001 0 13,iv 1,iv 0,iv 1,.own 100002 0 1,.own 100003 0 0,.own 100004 0 0,.own 100005 0 0,.own 100006 0 0,.own 100007 0 0,.own 100008 0 0,.bool true,.own 100009 0 0,.own 100010 0 0,.own 100011 0 0,.own 100012 0 0,.own 100013 0 0,.own 100014 0 0,.own 100015 0 0],false,none⟩)::(100001,K4 1 [.str [108,105,110,101],.str [108],.str [97],.str [98],.str [120],.str [49],.str [115,104,105,102,116],.str [48],.str [48],.str [108,105,109,105,116],.str [49],.str [49],.str [97,119,97,121]])::(100002,K4 1 [iv 0])::A2e,.tup [],(100000,⟨false,false,false,false,0,[.own 300000 0 13,iv 3,iv 12,iv 1,.own 300001 0 1,.own 300002 0 0,.own 300003 0 1,.own 300004 0 0,.own 300005 0 0,.own 300006 0 0,.own 300007 0 0,.bool true,.own 300008 0 0,.own 300009 0 0,.own 300010 0 1,.own 300011 0 0,.own 300012 0 0,.own 300013 0 0,.own 300014 0 0],false,none⟩)::(300000,K4 1 [.str [108,105,110,101],.str [108],.str [97],.str [98],.str [120],.str [49],.str [115,104,105,102,116],.str [48],.str [48],.str [108,105,109,105,116],.str [49],.str [49],.str [97,119,97,121]])::(300001,K4 1 [iv 0])::(300002,K4 3 [])::(300003,K4 12 [.str [108],iv 0,iv 0,iv 0,iv 0,iv 0,iv 0,iv 0,iv 0,iv 0,iv 0,.imm [] 0 1 false false])::(300004,K4 22 [])::(300005,K4 9 [])::(300006,K4 5 [])::(300007,K4 4 [])::(300008,K4 1 [])::(300009,K4 1 [])::(300010,K4 1 [.str [108]])::A36⟩ (by kernel_rfl)
def A3i:=Vl A3h ⟨11,[.str [99,97,115,101,32,49,32,114,101,115,101,114,118,101,32,48,10,108,105,110,101,32,108,32,97,32,98,32,120,32,49,32,115,104,105,102,116,32,48,32,48,32,108,105,109,105,116,32,49,32,49,32,97,119,97,121]],[],.tup [.pagg [iv 0,.nsl,.nsl,.nsl,.nsl,.nsl,.nsl,.nsl] false,iv 2,iv 12],[]⟩ (by kernel_rfl)
def A3j:=RG A3i ⟨21,[.str [98,117,115,32,97],.str [10]],[],.tup [.str [98,117,115,32,97],.str [],.bool false],[]⟩ (dS (by kernel_rfl) (by kernel_rfl))
def A4u:=RG A3j ⟨105,[.str [98,117,115,32,97],.int .u8 35],[],iv (-1),[]⟩ (TO (by kernel_rfl) (by kernel_rfl))
def qN:Aqy Tryz.prog 10 [] [] (.bool true) []:=Ayu follows (muts:=muts) (N:=1000000) A4u.ok (fs:=A2a) 9 (p:=⟨10,[],[],.bool true,[]⟩) (by kernel_rfl)
end
end Gx
namespace Gx
open Go Go.Proofs
noncomputable section
variable{R:Type}(N:Nat)
def WX(_N:Nat)(r0:Bool->O R):O R:=r0 true
def PD:=(Ad (@WX R)).1
def Wt:@PD R=@WX R:=(Ad _).2
def zl:Bd Tryz.prog:=⟨10,fun
|[],[]=>some fun _ k=>PD N fun b=>k (.bool b) []
| _,_=>none,(fun a h g e R k=>by
  split at e
  ·cases e;dsimp only;rw[Wt,Wt];rfl
  ·cases e),(fun a h g res h' e hh=>by
  split at e
  ·cases e;dsimp only at hh;rw[Wt]at hh;cases hh;exact qN
  ·cases e)⟩
end
end Gx
namespace Gx
open Go Go.Proofs
set_option maxRecDepth 100000
noncomputable section
variable{R:Type}(N:Nat)
def Yz(k0:Int->LA->O R)(r0:LA->Int->O R)(b:Bool)(a:LA)(i:Int)(aj:LA):O R:=(cond (ble 8 a.length) (Du N (a.take 8) b 1 i aj fun ak=>cond (ble 8 a.length) (A5 3 (a.drop 2) fun al am=>cond (Ac i am) (A5 1 ((al.drop (i.toNat*3)).drop 1) fun an ao=>Ed N (a.take 8) b an ao false b 0 1048576 1 i 1 ak fun ap=>A5 3 (a.drop 2) fun aq ar=>cond (Ac i ar) (Ax .i64 ((aq.drop (i.toNat*3)).drop 2) fun au=>Ay N 0 1048576 [.int .i64 au] 1 false true fun av=>Ab N av 1 i 2 3 ap fun aw=>k0 (wrap .i64 (i+1)) aw) none) none) none) none)
def Y0(k7:Int->LA->O R)(k9:Int->Int->LA->O R)(r0:LA->Int->O R)(c d:Nat)(b:Bool)(a f g:LA)(k10:Int->Int->Nat->Int->LA->LA->O R)(o l:Int)(j:Nat)(m:Int)(w x:LA):O R:=(cond (decide (m<(d:Int))) (A5 4 (a.drop 7) fun ax ay=>cond (Ac l ay) (A5 1 ((ax.drop (l.toNat*4)).drop 1) fun az ba=>cond (Ac m d) (Ax .i64 (g.drop (0+(m.toNat*1))) fun bb=>WA N az ba false b bb fun bc=>cond bc (cond ((ble (j+1) 140737488355328)&&(ble ((j+1)*8) 140737488355328)) (k10 o l (j+1) (wrap .i64 (m+1)) w ((x.take (j*1))++[.int .i64 m])) none) (k10 o l j (wrap .i64 (m+1)) w x)) none) none) (A5 3 (a.drop 2) fun ce bd=>V3 N (bd:Int) (f.take (c*2)) c false true (x.take (j*1)) j false true fun be=>Ab N (!be) 6 l o 13 w fun bf=>k9 o (wrap .i64 (l+1)) bf))
def M4(k7:Int->LA->O R)(k9:Int->Int->LA->O R)(r0:LA->Int->O R)(c d:Nat)(b:Bool)(a f g:LA):Nat->Int->Int->Nat->Int->LA->LA->O R
|0=>fun _ _ _ _ _ _=>none
|n+1=>Y0 N k7 k9 r0 c d b a f g (M4 k7 k9 r0 c d b a f g n)
def CT(N:Nat)(k7:Int->LA->O R)(r0:LA->Int->O R)(c d:Nat)(b:Bool)(a f g:LA)(k9:Int->Int->LA->O R)(q10:Int->Int->Nat->Int->LA->LA->O R)(ae af:Int)(ag:LA):O R:=(A5 4 (a.drop 7) fun cf bg=>cond (decide (af<(bg:Int))) (q10 ae af 0 0 ag []) (k7 (wrap .i64 (ae+1)) ag))
def Lp(k7:Int->LA->O R)(r0:LA->Int->O R)(c d:Nat)(b:Bool)(a f g:LA):Nat->Int->Int->LA->O R
|0=>fun _ _ _=>none
|n+1=>CT N k7 r0 c d b a f g (Lp k7 r0 c d b a f g n) (M4 N k7 (Lp k7 r0 c d b a f g n) r0 c d b a f g N)
def RH(k7:Int->LA->O R)(r0:LA->Int->O R)(b:Bool)(a:LA)(q9:Nat->Nat->LA->LA->Int->Int->LA->O R)(p:Int)(y:LA):O R:=(cond (ble 8 a.length) (SZ N (a.take 8) b p fun c d f g=>q9 c d f g p 0 y) none)
def IQ(k7:Int->LA->O R)(r0:LA->Int->O R)(b:Bool)(a:LA)(p:Int)(y:LA):O R:=RH N k7 r0 b a (fun c d f g=>Lp N k7 r0 c d b a f g N) p y
def V9(N:Nat)(r0:LA->Int->O R)(b:Bool)(a:LA)(k7:Int->LA->O R)(q8:Int->LA->O R)(ah:Int)(h:LA):O R:=(Ax .i64 a fun bh=>cond ((decide (ah<bh))==true) (Ax .i64 (h.drop 3) fun bi=>cond (cond true (bi==0) false) (q8 ah h) (cond (ble 3 h.length) (Ax .i64 (h.drop 3) fun bj=>cond ((beq ((h.take 3).length) 3)&&((ble 3 3)&&(!false))) (cond (ble 3 ((setCells [Bbz,Bbz,Bbz] 0 (h.take 3)).length)) (r0 ((setCells [Bbz,Bbz,Bbz] 0 (h.take 3)).take 3) bj) none) none) none)) (cond (ble 3 h.length) (Ax .i64 (h.drop 3) fun bk=>cond ((beq ((h.take 3).length) 3)&&((ble 3 3)&&(!false))) (cond (ble 3 ((setCells [Bbz,Bbz,Bbz] 0 (h.take 3)).length)) (r0 ((setCells [Bbz,Bbz,Bbz] 0 (h.take 3)).take 3) bk) none) none) none))
def Fr(r0:LA->Int->O R)(b:Bool)(a:LA):Nat->Int->LA->O R
|0=>fun _ _=>none
|n+1=>V9 N r0 b a (Fr r0 b a n) (IQ N (Fr r0 b a n) r0 b a)
def CU(r0:LA->Int->O R)(b:Bool)(a:LA)(k6:Int->LA->O R)(q7:Int->LA->O R)(z:Int)(q:LA):O R:=(A5 4 (a.drop 7) fun cg bl=>cond ((decide (z<(bl:Int)))==true) (Ax .i64 (q.drop 3) fun bm=>cond (cond true (bm==0) false) (cond (ble 8 a.length) (Kc N (a.take 8) b z q fun bn=>k6 (wrap .i64 (z+1)) bn) none) (q7 0 q)) (q7 0 q))
def O9(r0:LA->Int->O R)(b:Bool)(a:LA):Nat->Int->LA->O R
|0=>fun _ _=>none
|n+1=>CU N r0 b a (O9 r0 b a n) (Fr N r0 b a N)
def CV(r0:LA->Int->O R)(b:Bool)(a:LA)(k5:Int->LA->O R)(q6:Int->LA->O R)(aa:Int)(r:LA):O R:=(A5 5 (a.drop 6) fun ch bo=>cond ((decide (aa<(bo:Int)))==true) (Ax .i64 (r.drop 3) fun bp=>cond (cond true (bp==0) false) (cond (ble 8 a.length) (Wm N (a.take 8) b aa r fun bq=>k5 (wrap .i64 (aa+1)) bq) none) (q6 0 r)) (q6 0 r))
def Pa(r0:LA->Int->O R)(b:Bool)(a:LA):Nat->Int->LA->O R
|0=>fun _ _=>none
|n+1=>CV N r0 b a (Pa r0 b a n) (O9 N r0 b a N)
def CW(r0:LA->Int->O R)(b:Bool)(a:LA)(k4:Int->LA->O R)(q5:Int->LA->O R)(ab:Int)(s:LA):O R:=(A5 9 (a.drop 5) fun ci br=>cond ((decide (ab<(br:Int)))==true) (Ax .i64 (s.drop 3) fun bs=>cond (cond true (bs==0) false) (cond (ble 8 a.length) (Rr N (a.take 8) b ab s fun bt=>k4 (wrap .i64 (ab+1)) bt) none) (q5 0 s)) (q5 0 s))
def Pb(r0:LA->Int->O R)(b:Bool)(a:LA):Nat->Int->LA->O R
|0=>fun _ _=>none
|n+1=>CW N r0 b a (Pb r0 b a n) (Pa N r0 b a N)
def CX(r0:LA->Int->O R)(b:Bool)(a:LA)(k3:Int->LA->O R)(q4:Int->LA->O R)(ac:Int)(t:LA):O R:=(A5 22 (a.drop 4) fun cj bu=>cond ((decide (ac<(bu:Int)))==true) (Ax .i64 (t.drop 3) fun bv=>cond (cond true (bv==0) false) (cond (ble 8 a.length) (N5 N (a.take 8) b ac t fun bw=>k3 (wrap .i64 (ac+1)) bw) none) (q4 0 t)) (q4 0 t))
def Pc(r0:LA->Int->O R)(b:Bool)(a:LA):Nat->Int->LA->O R
|0=>fun _ _=>none
|n+1=>CX N r0 b a (Pc r0 b a n) (Pb N r0 b a N)
def CY(r0:LA->Int->O R)(b:Bool)(a:LA)(k2:Int->LA->O R)(q3:Int->LA->O R)(ad:Int)(u:LA):O R:=(A5 12 (a.drop 3) fun ck bx=>cond ((decide (ad<(bx:Int)))==true) (Ax .i64 (u.drop 3) fun bz=>cond (cond true (bz==0) false) (cond (ble 8 a.length) (N3 N (a.take 8) b ad u fun ca=>k2 (wrap .i64 (ad+1)) ca) none) (q3 0 u)) (q3 0 u))
def Pd(r0:LA->Int->O R)(b:Bool)(a:LA):Nat->Int->LA->O R
|0=>fun _ _=>none
|n+1=>CY N r0 b a (Pd r0 b a n) (Pc N r0 b a N)
def CZ(N:Nat)(r0:LA->Int->O R)(b:Bool)(a:LA)(k0:Int->LA->O R)(q1:Int->LA->O R)(q2:Int->LA->O R)(ai:Int)(v:LA):O R:=(A5 3 (a.drop 2) fun cl cb=>cond ((decide (ai<(cb:Int)))==true) (Ax .i64 (v.drop 3) fun cc=>cond (cond true (cc==0) false) (q1 ai v) (q2 0 v)) (q2 0 v))
def Lq(r0:LA->Int->O R)(b:Bool)(a:LA):Nat->Int->LA->O R
|0=>fun _ _=>none
|n+1=>CZ N r0 b a (Lq r0 b a n) (Yz N (Lq r0 b a n) r0 b a) (Pd N r0 b a N)
def WY(r0:LA->Int->O R)(q0:Int->LA->O R)(a:LA)(b:Bool):O R:=(cond (ble 8 a.length) (Lk N (a.take 8) b [Bbz,Bbz,Bbz,Bbz] fun cd=>q0 0 cd) none)
def TP:=(Ad fun N a b r0=>WY (R:=R) N r0 (Lq N r0 b a N) a b).1
def j1(a b r0):(@TP R N a b r0)=(WY N r0 (Lq N r0 b a N) a b):=by rw[TP,(Ad _).2]
def nD:Hints:={H:=hK 3 (hS (hK 1 (hS (hP [1,2,4,5] (hJ [1,2,4,5] hL hL)) hL)) (hS (hK 1 (hS (hP [1,2,4,6] hL) hL)) (hS (hK 1 (hS (hP [1,2,4,7] hL) hL)) (hS (hK 1 (hS (hP [1,2,4,8] hL) hL)) (hS (hK 1 (hS (hP [1,2,4,9] hL) hL)) (hS (hK 1 (hS (hP [1,2,4,10] hL) hL)) (hS (hK 1 (hS (hP [1,2,4,11] (hJ [1,2,4,11] hL (hS (hS (hK 2 (hS (hP [1,2,4,11,12,13,14] (hK 1 (hS (hS (hK 1 (hS (hK 1 (hS (hP [1,2,4,11,12,13,14,15,16] hL) hL)) hL)) hL) hL))) hL)) hL) hL))) hL)) hL))))))),nils:=[(15,1)],modes:=[(3,0),(0,0)]}
def sN:Vx:=[hG N,Hi N,Sv N,Fi N,Ck N,kL N,kM N,iE N,mO N,dB N,Aig N,pk N,tp N]
def Gp(F:KF R):=K8 Tryz.f39 nD (sN N) [] N F
def Afe(b:Bool)(a:LA)(K:St->O R):=fun i aj=>K ⟨[(1,op 0),(2,op 1),(4,op 2),(5,iv i)],hq [bP b 0 a,bQ 0 [iv 0,iv 0,iv 0],bQ 0 aj]⟩
def zm(c d:Nat)(b:Bool)(a f g:LA)(K:St->O R):=fun o l j m w x=>K ⟨[(1,op 0),(2,op 1),(4,op 2),(11,iv o),(12,Bby 3 c),(13,Bby 4 d),(14,iv l),(15,Bby 5 j),(16,iv m)],hq [bP b 0 a,bQ 0 [iv 0,iv 0,iv 0],bQ 0 w,bQ 2 f,bQ 1 g,bQ 1 x]⟩
def WZ(c d:Nat)(b:Bool)(a f g:LA)(K:St->O R):=fun ae af ag=>K ⟨[(1,op 0),(2,op 1),(4,op 2),(11,iv ae),(12,Bby 3 c),(13,Bby 4 d),(14,iv af)],hq [bP b 0 a,bQ 0 [iv 0,iv 0,iv 0],bQ 0 ag,bQ 2 f,bQ 1 g]⟩
def Aff(b:Bool)(a:LA)(K:St->O R):=fun p y=>K ⟨[(1,op 0),(2,op 1),(4,op 2),(11,iv p)],hq [bP b 0 a,bQ 0 [iv 0,iv 0,iv 0],bQ 0 y]⟩
def Pe(b:Bool)(a:LA)(K:St->O R):=fun ah h=>K ⟨[(1,op 0),(2,op 1),(4,op 2),(11,iv ah)],hq [bP b 0 a,bQ 0 [iv 0,iv 0,iv 0],bQ 0 h]⟩
def Afg(b:Bool)(a:LA)(K:St->O R):=fun z q=>K ⟨[(1,op 0),(2,op 1),(4,op 2),(10,iv z)],hq [bP b 0 a,bQ 0 [iv 0,iv 0,iv 0],bQ 0 q]⟩
def Afh(b:Bool)(a:LA)(K:St->O R):=fun aa r=>K ⟨[(1,op 0),(2,op 1),(4,op 2),(9,iv aa)],hq [bP b 0 a,bQ 0 [iv 0,iv 0,iv 0],bQ 0 r]⟩
def Afi(b:Bool)(a:LA)(K:St->O R):=fun ab s=>K ⟨[(1,op 0),(2,op 1),(4,op 2),(8,iv ab)],hq [bP b 0 a,bQ 0 [iv 0,iv 0,iv 0],bQ 0 s]⟩
def Afj(b:Bool)(a:LA)(K:St->O R):=fun ac t=>K ⟨[(1,op 0),(2,op 1),(4,op 2),(7,iv ac)],hq [bP b 0 a,bQ 0 [iv 0,iv 0,iv 0],bQ 0 t]⟩
def Afk(b:Bool)(a:LA)(K:St->O R):=fun ad u=>K ⟨[(1,op 0),(2,op 1),(4,op 2),(6,iv ad)],hq [bP b 0 a,bQ 0 [iv 0,iv 0,iv 0],bQ 0 u]⟩
def nE(b:Bool)(a:LA)(K:St->O R):=fun ai v=>K ⟨[(1,op 0),(2,op 1),(4,op 2),(5,iv ai)],hq [bP b 0 a,bQ 0 [iv 0,iv 0,iv 0],bQ 0 v]⟩
def uD Q0 (F:KF R) (b a):Afe b a (By (Gp N F (pz 87105) [Q0]))=(Yz N (nE b a Q0) (Qd F) b a):=by kernel_rfl
def qO(Q7 Q9)(F:KF R)(c d b a f g):∀ n,zm c d b a f g (Al (Gp N F (pz 24019179469541444) [Q7,Q9]) n)=(M4 N (Pe b a Q7) (WZ c d b a f g Q9) (Qd F) c d b a f g n):=Dt fun n e=>(Cj (Y0 N (Pe b a Q7) (WZ c d b a f g Q9) (Qd F) c d b a f g) e:_)
def uE Q7 (F:KF R) (c d b a f g):∀ n,WZ c d b a f g (Al (Gp N F (pz 366503592980) [Q7]) n)=(Lp N (Pe b a Q7) (Qd F) c d b a f g n):=Dt fun n e=>(Sq (CT N (Pe b a Q7) (Qd F) c d b a f g) e ((lW ..).trans ((qO ..).trans (jK (M4 _ _ · _ _ _ _ _ _ _ _) e))):_)
def uF Q7 (F:KF R) (b a):Aff b a (By (Gp N F (pz 357913665) [Q7]))=(IQ N (Pe b a Q7) (Qd F) b a):=(Cj (RH N (Pe b a Q7) (Qd F) b a) (Abl fun c d f g=>(lW ..).trans (uE ..)):_)
def uG(F:KF R)(b a):∀ n,Pe b a (Al (Gp N F (pz 22369604) []) n)=(Fr N (Qd F) b a n):=Dt fun n e=>(Sq (V9 N (Qd F) b a) e ((jW ..).trans ((uF ..).trans (jK (IQ _ · _ _ _) e))):_)
def uH(F:KF R)(b a):∀ n,Afg b a (Al (Gp N F (pz 5592388) []) n)=(O9 N (Qd F) b a n):=Dt fun n e=>(Sq (CU N (Qd F) b a) e ((lW ..).trans (uG ..)):_)
def uI(F:KF R)(b a):∀ n,Afh b a (Al (Gp N F (pz 1398084) []) n)=(Pa N (Qd F) b a n):=Dt fun n e=>(Sq (CV N (Qd F) b a) e ((lW ..).trans (uH ..)):_)
def uJ(F:KF R)(b a):∀ n,Afi b a (Al (Gp N F (pz 349508) []) n)=(Pb N (Qd F) b a n):=Dt fun n e=>(Sq (CW N (Qd F) b a) e ((lW ..).trans (uI ..)):_)
def uK(F:KF R)(b a):∀ n,Afj b a (Al (Gp N F (pz 87364) []) n)=(Pc N (Qd F) b a n):=Dt fun n e=>(Sq (CX N (Qd F) b a) e ((lW ..).trans (uJ ..)):_)
def uL(F:KF R)(b a):∀ n,Afk b a (Al (Gp N F (pz 21828) []) n)=(Pd N (Qd F) b a n):=Dt fun n e=>(Sq (CY N (Qd F) b a) e ((lW ..).trans (uK ..)):_)
def uM(F:KF R)(b a):∀ n,nE b a (Al (Gp N F (pz 5444) []) n)=(Lq N (Qd F) b a n):=Dt fun n e=>(A11 (CZ N (Qd F) b a) e ((jW ..).trans ((uD ..).trans (jK (Yz _ · _ _ _) e))) ((lW ..).trans (uL ..)):_)
def Ai3:=Cr N 39 (sN N) nD (fun
|[.pagg a b],[]=>some fun _ k=>TP N a b (Qd k)
| _,_=>none) fun _ _=>by split;intro R F;exact(Cj (WY N (Qd F) · _ _) ((lW ..).trans (uM ..)):_).trans (j1 ..).symm;trivial
def W_(k2:Int->Int->Nat->LA->O R)(r0:LA->O R)(l:Int)(a:LA)(b:Nat)(c:Bool)(h:Int)(d f:Nat)(g i:LA)(au av:Int)(w:Nat)(aw:LA):O R:=(Ag N l a b false c av fun ba bo=>Ag N (wrap .i64 (l - 1)) a b false c bo fun bp bq=>cond (l==0) none (Yk N (w:Int) ba (Int.tmod (wrap .i64 ((wrap .i64 (ba+1))+bp)) l) h a b false c bq fun bb br=>cond ((beq bb.length 12)&&(ble 12 12)) (cond ((ble (w+1) 140737488355328)&&(ble ((w+1)*120) 140737488355328)) (k2 (wrap .i64 (au - 1)) br (w+1) ((aw.take (w*12))++((setCells [.str ([]:Lu),Bbz,Bbz,Bbz,Bbz,Bbz,Bbz,Bbz,Bbz,Bbz,Bbz,.nsl] 0 bb).take 12))) none) none))
def XA(k7:Int->Int->Nat->LA->O R)(r0:LA->O R)(a:LA)(b:Nat)(c:Bool)(h:Int)(d f m j q s:Nat)(g i o p r t:LA)(aj ax:Int)(u:Nat)(aa:LA):O R:=(Su N (u:Int) (m:Int) (j:Int) a b false c ax fun ab bc=>cond ((beq 0 0)&&((beq ab.length 4)&&(beq 4 4))) (cond ((ble (0+u) 140737488355328)&&(ble ((0+u)*72) 140737488355328)) (cond (ble 4 ab.length) (cond ((beq ((ab.take 4).length) 4)&&(ble 4 4)) (cond ((ble ((0+u)+1) 140737488355328)&&(ble (((0+u)+1)*72) 140737488355328)) (TP N [.int .i64 h,.imm (g.take (d*1)) d 1 false true,.imm (i.take (f*3)) f 3 false true,.imm (o.take (m*12)) m 12 false true,.imm (p.take (j*22)) j 22 false true,.imm (r.take (q*9)) q 9 false true,.imm (t.take (s*5)) s 5 false true,.imm (take (((0+u)+1)*4) (((aa.take (u*4)).take ((0+u)*4))++((setCells [.str ([]:Lu),.nsl,.bool false,.nsl] 0 (ab.take 4)).take 4))) ((0+u)+1) 4 false true] true fun bs bt=>cond ((beq bs.length 3)&&((ble 3 3)&&(!false))) (cond (bt==0) (k7 (wrap .i64 (aj - 1)) bc ((0+u)+1) (((aa.take (u*4)).take ((0+u)*4))++((setCells [.str ([]:Lu),.nsl,.bool false,.nsl] 0 (ab.take 4)).take 4))) (k7 (wrap .i64 (aj - 1)) bc u aa)) none) none) none) none) none) none)
def EQ(N:Nat)(r0:LA->O R)(a:LA)(b:Nat)(c:Bool)(h:Int)(d f m j q s:Nat)(g i o p r t:LA)(k7:Int->Int->Nat->LA->O R)(q8:Int->Int->Nat->LA->O R)(ak ay:Int)(x:Nat)(ac:LA):O R:=(cond ((decide (ak>0))==true) (cond (cond true (decide ((m:Int)>0)) false) (q8 ak ay x ac) (r0 [.int .i64 h,.imm (g.take (d*1)) d 1 false false,.imm (i.take (f*3)) f 3 false false,.imm (o.take (m*12)) m 12 false false,.imm (p.take (j*22)) j 22 false false,.imm (r.take (q*9)) q 9 false false,.imm (t.take (s*5)) s 5 false false,.imm (ac.take (x*4)) x 4 false false])) (r0 [.int .i64 h,.imm (g.take (d*1)) d 1 false false,.imm (i.take (f*3)) f 3 false false,.imm (o.take (m*12)) m 12 false false,.imm (p.take (j*22)) j 22 false false,.imm (r.take (q*9)) q 9 false false,.imm (t.take (s*5)) s 5 false false,.imm (ac.take (x*4)) x 4 false false]))
def Kk(r0:LA->O R)(a:LA)(b:Nat)(c:Bool)(h:Int)(d f m j q s:Nat)(g i o p r t:LA):Nat->Int->Int->Nat->LA->O R
|0=>fun _ _ _ _=>none
|n+1=>EQ N r0 a b c h d f m j q s g i o p r t (Kk r0 a b c h d f m j q s g i o p r t n) (XA N (Kk r0 a b c h d f m j q s g i o p r t n) r0 a b c h d f m j q s g i o p r t)
def dT(r0:LA->O R)(a:LA)(b:Nat)(c:Bool)(h:Int)(d f m j q:Nat)(g i o p r:LA)(q7:Nat->LA->Int->Int->Nat->LA->O R)(ad:Int)(s:Nat)(t:LA):O R:=(Ag N 4 a b false c ad fun bu bv=>q7 s t bu bv 0 [])
def XB(r0:LA->O R)(a:LA)(b:Nat)(c:Bool)(h:Int)(d f m j q:Nat)(g i o p r:LA)(ad:Int)(s:Nat)(t:LA):O R:=dT N r0 a b c h d f m j q g i o p r (fun s t=>Kk N r0 a b c h d f m j q s g i o p r t N) ad s t
def PE(r0:LA->O R)(l:Int)(a:LA)(b:Nat)(c:Bool)(h:Int)(d f m j:Nat)(g i o p:LA)(q6:Nat->LA->Int->Nat->LA->O R)(ae:Int)(q:Nat)(r:LA):O R:=(Ag N 3 a b false c ae fun bw bd=>cond (bw==2) (Ag N l a b false c bd fun bx bz=>H7 N h 12 a b false c bz fun be ca cb=>H7 N h 12 a b false c ca fun bf cc cd=>H7 N h 40 a b false c cc fun bg ce cf=>q6 q r ce 1 [.str ([116,48]:Lu),.int .i64 bx,.imm (cb.take (be*1)) be 1 false false,.imm (cd.take (bf*1)) bf 1 false false,.imm (cf.take (bg*1)) bg 1 false false]) (q6 q r bd 0 []))
def LV(r0:LA->O R)(l:Int)(a:LA)(b:Nat)(c:Bool)(h:Int)(d f m j:Nat)(g i o p:LA)(ae:Int)(q:Nat)(r:LA):O R:=PE N r0 l a b c h d f m j g i o p (fun q r=>XB N r0 a b c h d f m j q g i o p r) ae q r
def ER(r0:LA->O R)(l:Int)(a:LA)(b:Nat)(c:Bool)(h:Int)(d f:Nat)(g i:LA)(k4:Int->Int->Nat->Nat->LA->LA->O R)(q5:Nat->Nat->LA->LA->Int->Nat->LA->O R)(al am:Int)(m j:Nat)(o p:LA):O R:=(cond (decide (al>0)) (Yl N (j:Int) l h a b false c am fun bh cg=>cond ((beq bh.length 22)&&(ble 22 22)) (cond ((ble (j+1) 140737488355328)&&(ble ((j+1)*216) 140737488355328)) (k4 (wrap .i64 (al - 1)) cg m (j+1) o ((p.take (j*22))++((setCells [.str ([]:Lu),Bbz,Bbz,Bbz,.nsl,Bbz,Bbz,Bbz,Bbz,Bbz,Bbz,Bbz,Bbz,Bbz,Bbz,Bbz,Bbz,Bbz,.nsl,Bbz,Bbz,Bbz] 0 bh).take 22))) none) none) (Ag N 3 a b false c am fun ch bi=>cond (ch==2) (Ag N l a b false c bi fun ci cj=>Ag N 20 a b false c cj fun az ck=>Ag N 8 a b false c ck fun cl cm=>Ag N 8 a b false c cm fun cn co=>Ag N 4 a b false c co fun cp cq=>Ag N (wrap .i64 (az+1)) a b false c cq fun cr cs=>Ag N (wrap .i64 (az+1)) a b false c cs fun ct cu=>q5 m j o p cu 1 [.str ([115,48]:Lu),.int .i64 ci,.int .i64 az,.int .i64 cr,.int .i64 ct,.int .i64 cl,.int .i64 cn,.int .i64 (wrap .i64 (1+cp)),.int .i64 4]) (q5 m j o p bi 0 [])))
def Te(r0:LA->O R)(l:Int)(a:LA)(b:Nat)(c:Bool)(h:Int)(d f:Nat)(g i:LA):Nat->Int->Int->Nat->Nat->LA->LA->O R
|0=>fun _ _ _ _ _ _=>none
|n+1=>ER N r0 l a b c h d f g i (Te r0 l a b c h d f g i n) (fun m j o p=>LV N r0 l a b c h d f m j g i o p)
def ES(r0:LA->O R)(l:Int)(a:LA)(b:Nat)(c:Bool)(h:Int)(d f:Nat)(g i:LA)(k2:Int->Int->Nat->LA->O R)(q3:Int->Int->Nat->LA->O R)(q4:Int->Int->Nat->Nat->LA->LA->O R)(an af:Int)(ag:Nat)(ah:LA):O R:=(cond ((decide (an>0))==true) (cond (cond true (decide (l>1)) false) (q3 an af ag ah) (Ag N 3 a b false c af fun cv cw=>q4 (wrap .i64 (1+cv)) cw ag 0 ah [])) (Ag N 3 a b false c af fun cx cy=>q4 (wrap .i64 (1+cx)) cy ag 0 ah []))
def Tf(r0:LA->O R)(l:Int)(a:LA)(b:Nat)(c:Bool)(h:Int)(d f:Nat)(g i:LA):Nat->Int->Int->Nat->LA->O R
|0=>fun _ _ _ _=>none
|n+1=>ES N r0 l a b c h d f g i (Tf r0 l a b c h d f g i n) (W_ N (Tf r0 l a b c h d f g i n) r0 l a b c h d f g i) (Te N r0 l a b c h d f g i N)
def PF(r0:LA->O R)(a:LA)(b:Nat)(c:Bool)(h:Int)(d f:Nat)(g i:LA)(k1:Int->Int->Int->Nat->LA->O R)(q2:Int->Int->Int->Nat->LA->O R)(l z ao:Int)(v:Nat)(ap:LA):O R:=(cond (decide (z<l)) (Ag N z a b false c ao fun cz da=>Yk N (v:Int) cz z h a b false c da fun bj db=>cond ((beq bj.length 12)&&(ble 12 12)) (cond ((ble (v+1) 140737488355328)&&(ble ((v+1)*120) 140737488355328)) (k1 l (wrap .i64 (z+1)) db (v+1) ((ap.take (v*12))++((setCells [.str ([]:Lu),Bbz,Bbz,Bbz,Bbz,Bbz,Bbz,Bbz,Bbz,Bbz,Bbz,.nsl] 0 bj).take 12))) none) none) (Ag N 5 a b false c ao fun dc dd=>q2 l dc dd v ap))
def BH(r0:LA->O R)(a:LA)(b:Nat)(c:Bool)(h:Int)(d f:Nat)(g i:LA):Nat->Int->Int->Int->Nat->LA->O R
|0=>fun _ _ _ _ _=>none
|n+1=>PF N r0 a b c h d f g i (BH r0 a b c h d f g i n) (fun l=>Tf N r0 l a b c h d f g i N)
def ET(r0:LA->O R)(a:LA)(b:Nat)(c:Bool)(d:Nat)(g:LA)(k0:Int->Int->Int->Nat->LA->O R)(q1:Int->Nat->LA->Int->Int->Int->Nat->LA->O R)(ai aq h:Int)(f:Nat)(i:LA):O R:=(cond (decide (ai>0)) (VR N ([98]:Lu) (f:Int) fun bk=>H7 N h 14 a b false c aq fun ar de bl=>Ag N 2 a b false c de fun df bm=>cond (df==1) (Ag N 200 a b false c bm fun dg dh=>cond ((ble (f+1) 140737488355328)&&(ble ((f+1)*48) 140737488355328)) (k0 (wrap .i64 (ai - 1)) dh h (f+1) ((i.take (f*3))++[.str bk,.imm (bl.take (ar*1)) ar 1 false false,.int .i64 (wrap .i64 (100+dg))])) none) (cond ((ble (f+1) 140737488355328)&&(ble ((f+1)*48) 140737488355328)) (k0 (wrap .i64 (ai - 1)) bm h (f+1) ((i.take (f*3))++[.str bk,.imm (bl.take (ar*1)) ar 1 false false,Bbz])) none)) (q1 h f i (f:Int) 1 aq 0 []))
def Pf(r0:LA->O R)(a:LA)(b:Nat)(c:Bool)(d:Nat)(g:LA):Nat->Int->Int->Int->Nat->LA->O R
|0=>fun _ _ _ _ _=>none
|n+1=>ET N r0 a b c d g (Pf r0 a b c d g n) (fun h f i=>BH N r0 a b c h d f g i N)
def nF(r0:LA->O R)(q0:Nat->LA->Int->Int->Int->Nat->LA->O R)(a:LA)(b:Nat)(y c:Bool):O R:=(Amn N a b false c (Ag N 3 a b false c 0 fun bn di=>H7 N (wrap .i64 (1+bn)) 5 a b false c di fun d dj g=>Ag N 4 a b false c dj fun dk dl=>q0 d g (wrap .i64 (1+dk)) dl (wrap .i64 (1+bn)) 0 []))
def IR:=(Ad fun N a b y c r0=>nF (R:=R) N r0 (fun d g=>Pf N r0 a b c d g N) a b y c).1
def sO(a b y c r0):(@IR R N a b y c r0)=(nF N r0 (fun d g=>Pf N r0 a b c d g N) a b y c):=by rw[IR,(Ad _).2]
def xI:Hints:={H:=hK 4 (hS (hK 1 (hS (hP [2,3,4,5] hL) hL)) (hK 1 (hS (hK 1 (hS (hP [2,3,4,7,8] hL) hL)) (hS (hK 1 (hS (hP [2,3,4,7,9] (hJ [2,3,4,7,9] hL hL)) hL)) (hS (hK 1 (hS (hP [2,3,4,7,11] hL) hL)) (hJ [2,3,4,7] hL (hJ [2,3,4] hL (hS (hK 1 (hS (hP [2,3,4,13] (hJ [2,3,4,13] hL hL)) hL)) hL)))))))),modes:=[(3,0)],cob:=[23,44,192]}
def Ab4:Vx:=[At8 N,N1 N,t6 N,fi N,wK N,wL N,pi N,Ai3 N]
def Pg(F:KF R):=K8 Tryz.f13 xI (Ab4 N) [] N F
def Ana(l:Int)(a:LA)(b:Nat)(c:Bool)(h:Int)(d f:Nat)(g i:LA)(K:St->O R):=fun au av w aw=>K ⟨[(2,op 0),(3,op 1),(4,op 2),(7,iv l),(9,iv au)],hq [bN 0 [iv 0,.nsl,.nsl,.nsl,.nsl,.nsl,.nsl,.nsl],bN 0 [.imm a b 1 false c,iv av],bN 0 [iv h,Bby 3 d,Bby 4 f,Bby 5 w,Bby 6 0,Bby 7 0,Bby 8 0,Bby 9 0],bQ 1 g,bQ 3 i,bQ 12 aw,bQ 22 [],bQ 9 [],bQ 5 [],bQ 4 []]⟩
def Anb(a:LA)(b:Nat)(c:Bool)(h:Int)(d f m j q s:Nat)(g i o p r t:LA)(K:St->O R):=fun aj ax u aa=>K ⟨[(2,op 0),(3,op 1),(4,op 2),(13,iv aj)],hq [bN 0 [iv 0,.nsl,.nsl,.nsl,.nsl,.nsl,.nsl,.nsl],bN 0 [.imm a b 1 false c,iv ax],bN 0 [iv h,Bby 3 d,Bby 4 f,Bby 5 m,Bby 6 j,Bby 7 q,Bby 8 s,Bby 9 u],bQ 1 g,bQ 3 i,bQ 12 o,bQ 22 p,bQ 9 r,bQ 5 t,bQ 4 aa]⟩
def xJ(a:LA)(b:Nat)(c:Bool)(h:Int)(d f m j q s:Nat)(g i o p r t:LA)(K:St->O R):=fun ak ay x ac=>K ⟨[(2,op 0),(3,op 1),(4,op 2),(13,iv ak)],hq [bN 0 [iv 0,.nsl,.nsl,.nsl,.nsl,.nsl,.nsl,.nsl],bN 0 [.imm a b 1 false c,iv ay],bN 0 [iv h,Bby 3 d,Bby 4 f,Bby 5 m,Bby 6 j,Bby 7 q,Bby 8 s,Bby 9 x],bQ 1 g,bQ 3 i,bQ 12 o,bQ 22 p,bQ 9 r,bQ 5 t,bQ 4 ac]⟩
def Anc(a:LA)(b:Nat)(c:Bool)(h:Int)(d f m j q:Nat)(g i o p r:LA)(K:St->O R):=fun ad s t=>K ⟨[(2,op 0),(3,op 1),(4,op 2)],hq [bN 0 [iv 0,.nsl,.nsl,.nsl,.nsl,.nsl,.nsl,.nsl],bN 0 [.imm a b 1 false c,iv ad],bN 0 [iv h,Bby 3 d,Bby 4 f,Bby 5 m,Bby 6 j,Bby 7 q,Bby 8 s,Bby 9 0],bQ 1 g,bQ 3 i,bQ 12 o,bQ 22 p,bQ 9 r,bQ 5 t,bQ 4 []]⟩
def Ane(l:Int)(a:LA)(b:Nat)(c:Bool)(h:Int)(d f m j:Nat)(g i o p:LA)(K:St->O R):=fun ae q r=>K ⟨[(2,op 0),(3,op 1),(4,op 2),(7,iv l)],hq [bN 0 [iv 0,.nsl,.nsl,.nsl,.nsl,.nsl,.nsl,.nsl],bN 0 [.imm a b 1 false c,iv ae],bN 0 [iv h,Bby 3 d,Bby 4 f,Bby 5 m,Bby 6 j,Bby 7 q,Bby 8 0,Bby 9 0],bQ 1 g,bQ 3 i,bQ 12 o,bQ 22 p,bQ 9 r,bQ 5 [],bQ 4 []]⟩
def Anf(l:Int)(a:LA)(b:Nat)(c:Bool)(h:Int)(d f:Nat)(g i:LA)(K:St->O R):=fun al am m j o p=>K ⟨[(2,op 0),(3,op 1),(4,op 2),(7,iv l),(11,iv al)],hq [bN 0 [iv 0,.nsl,.nsl,.nsl,.nsl,.nsl,.nsl,.nsl],bN 0 [.imm a b 1 false c,iv am],bN 0 [iv h,Bby 3 d,Bby 4 f,Bby 5 m,Bby 6 j,Bby 7 0,Bby 8 0,Bby 9 0],bQ 1 g,bQ 3 i,bQ 12 o,bQ 22 p,bQ 9 [],bQ 5 [],bQ 4 []]⟩
def xK(l:Int)(a:LA)(b:Nat)(c:Bool)(h:Int)(d f:Nat)(g i:LA)(K:St->O R):=fun an af ag ah=>K ⟨[(2,op 0),(3,op 1),(4,op 2),(7,iv l),(9,iv an)],hq [bN 0 [iv 0,.nsl,.nsl,.nsl,.nsl,.nsl,.nsl,.nsl],bN 0 [.imm a b 1 false c,iv af],bN 0 [iv h,Bby 3 d,Bby 4 f,Bby 5 ag,Bby 6 0,Bby 7 0,Bby 8 0,Bby 9 0],bQ 1 g,bQ 3 i,bQ 12 ah,bQ 22 [],bQ 9 [],bQ 5 [],bQ 4 []]⟩
def Ang(a:LA)(b:Nat)(c:Bool)(h:Int)(d f:Nat)(g i:LA)(K:St->O R):=fun l z ao v ap=>K ⟨[(2,op 0),(3,op 1),(4,op 2),(7,iv l),(8,iv z)],hq [bN 0 [iv 0,.nsl,.nsl,.nsl,.nsl,.nsl,.nsl,.nsl],bN 0 [.imm a b 1 false c,iv ao],bN 0 [iv h,Bby 3 d,Bby 4 f,Bby 5 v,Bby 6 0,Bby 7 0,Bby 8 0,Bby 9 0],bQ 1 g,bQ 3 i,bQ 12 ap,bQ 22 [],bQ 9 [],bQ 5 [],bQ 4 []]⟩
def Anh(a:LA)(b:Nat)(c:Bool)(d:Nat)(g:LA)(K:St->O R):=fun ai aq h f i=>K ⟨[(2,op 0),(3,op 1),(4,op 2),(5,iv ai)],hq [bN 0 [iv 0,.nsl,.nsl,.nsl,.nsl,.nsl,.nsl,.nsl],bN 0 [.imm a b 1 false c,iv aq],bN 0 [iv h,Bby 3 d,Bby 4 f,Bby 5 0,Bby 6 0,Bby 7 0,Bby 8 0,Bby 9 0],bQ 1 g,bQ 3 i,bQ 12 [],bQ 22 [],bQ 9 [],bQ 5 [],bQ 4 []]⟩
def zn Q2 (F:KF R) (l a b c h d f g i):Ana l a b c h d f g i (By (Pg N F (pz 22369345) [Q2]))=(W_ N (xK l a b c h d f g i Q2) (Sr F) l a b c h d f g i):=by kernel_rfl
def zo Q7 (F:KF R) (a b c h d f m j q s g i o p r t):Anb a b c h d f m j q s g i o p r t (By (Pg N F (pz 5726622785) [Q7]))=(XA N (xJ a b c h d f m j q s g i o p r t Q7) (Sr F) a b c h d f m j q s g i o p r t):=by kernel_rfl
def zp(F:KF R)(a b c h d f m j q s g i o p r t):∀ n,xJ a b c h d f m j q s g i o p r t (Al (Pg N F (pz 357913924) []) n)=(Kk N (Sr F) a b c h d f m j q s g i o p r t n):=Dt fun n e=>(Sq (EQ N (Sr F) a b c h d f m j q s g i o p r t) e ((jW ..).trans ((zo ..).trans (jK (XA _ · _ _ _ _ _ _ _ _ _ _ _ _ _ _ _ _ _) e))):_)
def zq(F:KF R)(a b c h d f m j q g i o p r):Anc a b c h d f m j q g i o p r (By (Pg N F (pz 5592405) []))=(XB N (Sr F) a b c h d f m j q g i o p r):=(Cj (dT N (Sr F) a b c h d f m j q g i o p r) (CJ fun s t=>(lW ..).trans (zp ..)):_)
def zr(F:KF R)(l a b c h d f m j g i o p):Ane l a b c h d f m j g i o p (By (Pg N F (pz 1398101) []))=(LV N (Sr F) l a b c h d f m j g i o p):=(Cj (PE N (Sr F) l a b c h d f m j g i o p) (CJ fun q r=>(jW ..).trans (zq ..)):_)
def zt(F:KF R)(l a b c h d f g i):∀ n,Anf l a b c h d f g i (Al (Pg N F (pz 5592388) []) n)=(Te N (Sr F) l a b c h d f g i n):=Dt fun n e=>(Sq (ER N (Sr F) l a b c h d f g i) e (Abl fun m j o p=>(jW ..).trans (zr ..)):_)
def zu(F:KF R)(l a b c h d f g i):∀ n,xK l a b c h d f g i (Al (Pg N F (pz 1398084) []) n)=(Tf N (Sr F) l a b c h d f g i n):=Dt fun n e=>(A11 (ES N (Sr F) l a b c h d f g i) e ((jW ..).trans ((zn ..).trans (jK (W_ _ · _ _ _ _ _ _ _ _ _ _) e))) ((lW ..).trans (zt ..)):_)
def zw(F:KF R)(a b c h d f g i):∀ n,Ang a b c h d f g i (Al (Pg N F (pz 349508) []) n)=(BH N (Sr F) a b c h d f g i n):=Dt fun n e=>(Sq (PF N (Sr F) a b c h d f g i) e (Awo fun l=>(lW ..).trans (zu ..)):_)
def zx(F:KF R)(a b c d g):∀ n,Anh a b c d g (Al (Pg N F (pz 21828) []) n)=(Pf N (Sr F) a b c d g n):=Dt fun n e=>(Sq (ET N (Sr F) a b c d g) e (Aw0 fun h f i=>(lW ..).trans (zw ..)):_)
def Ab5:=Cr N 13 (Ab4 N) xI (fun
|[.imm a b 1 y c],[]=>some fun _ k=>IR N a b y c (Sr k)
| _,_=>none) fun _ _=>by split;intro R F;exact(Cj (nF N (Sr F) · _ _ _ _) (CJ fun d g=>(lW ..).trans (zx ..)):_).trans (sO ..).symm;trivial
def Y1(N:Nat)(r0:Bool->O R)(c:LA)(g:Nat)(b:Bool)(a:LA)(k1:Bool->Int->Int->O R)(m:Bool)(j h:Int):O R:=(cond (decide (h<j)) (cond (Ac h g) (cond (ble 5 ((c.drop (h.toNat*5)).length)) (cond ((beq 0 0)&&((beq (((c.drop (h.toNat*5)).take 5).length) 5)&&(beq 5 5))) (cond (m==true) (A5 1 (((c.drop (h.toNat*5)).take 5).drop 2) fun z p=>Ax .i64 a fun q=>cond ((cond true ((p:Int)==q) false)==true) (A5 1 (((c.drop (h.toNat*5)).take 5).drop 3) fun aa r=>Ax .i64 a fun s=>cond ((cond true ((r:Int)==s) false)==true) (A5 1 (((c.drop (h.toNat*5)).take 5).drop 4) fun ab t=>Ax .i64 a fun u=>k1 (cond true ((t:Int)==u) false) j (wrap .i64 (h+1))) (k1 false j (wrap .i64 (h+1)))) (k1 false j (wrap .i64 (h+1)))) (k1 false j (wrap .i64 (h+1)))) none) none) none) (r0 m))
def Q6(r0:Bool->O R)(c:LA)(g:Nat)(b:Bool)(a:LA):Nat->Bool->Int->Int->O R
|0=>fun _ _ _=>none
|n+1=>Y1 N r0 c g b a (Q6 r0 c g b a n)
def Y2(N:Nat)(r0:Bool->O R)(d:LA)(f:Nat)(b:Bool)(a:LA)(k0:Bool->Int->Int->O R)(q1:LA->Nat->Bool->Int->Int->O R)(o:Bool)(l i:Int):O R:=(cond (decide (i<l)) (cond (Ac i f) (cond (ble 3 ((d.drop (i.toNat*3)).length)) (cond ((beq 0 0)&&((beq (((d.drop (i.toNat*3)).take 3).length) 3)&&(beq 3 3))) (cond (o==true) (A5 1 (((d.drop (i.toNat*3)).take 3).drop 1) fun ac v=>Ax .i64 a fun w=>k0 (cond true ((v:Int)==w) false) l (wrap .i64 (i+1))) (k0 false l (wrap .i64 (i+1)))) none) none) none) (A5 5 (a.drop 6) fun c g=>q1 c g o (g:Int) 0))
def M5(r0:Bool->O R)(d:LA)(f:Nat)(b:Bool)(a:LA):Nat->Bool->Int->Int->O R
|0=>fun _ _ _=>none
|n+1=>Y2 N r0 d f b a (M5 r0 d f b a n) (fun c g=>Q6 N r0 c g b a N)
def PG(N:Nat)(r0:Bool->O R)(q0:LA->Nat->Bool->Int->Int->O R)(a:LA)(b:Bool):O R:=(A5 1 (a.drop 1) fun ad x=>Ax .i64 a fun y=>A5 3 (a.drop 2) fun d f=>q0 d f ((x:Int)==y) (f:Int) 0)
def LW:=(Ad fun N a b r0=>PG (R:=R) N r0 (fun d f=>M5 N r0 d f b a N) a b).1
def dU(a b r0):(@LW R N a b r0)=(PG N r0 (fun d f=>M5 N r0 d f b a N) a b):=by rw[LW,(Ad _).2]
def j2:Hints:={H:=hK 2 (hS (hK 1 (hS (hP [1,3,15,16,17] hL) hL)) (hS (hK 1 (hS (hP [1,3,32,33,34] hL) hL)) hL))}
def j3(F:KF R):=K8 Tryz.f47 j2 [] [] N F
def zy(c:LA)(g:Nat)(b:Bool)(a:LA)(K:St->O R):=fun m j h=>K ⟨[(1,op 0),(3,.bool m),(32,.imm c g 5 false b),(33,iv j),(34,iv h)],hq [bP b 0 a]⟩
def Aaa(d:LA)(f:Nat)(b:Bool)(a:LA)(K:St->O R):=fun o l i=>K ⟨[(1,op 0),(3,.bool o),(15,.imm d f 3 false b),(16,iv l),(17,iv i)],hq [bP b 0 a]⟩
def qP(F:KF R)(c g b a):∀ n,zy c g b a (Al (j3 N F (pz 5444) []) n)=(Q6 N (Bk F) c g b a n):=Dt fun n e=>(Cj (Y1 N (Bk F) c g b a) e:_)
def qQ(F:KF R)(d f b a):∀ n,Aaa d f b a (Al (j3 N F (pz 1348) []) n)=(M5 N (Bk F) d f b a n):=Dt fun n e=>(Sq (Y2 N (Bk F) d f b a) e (CJ fun c g=>(lW ..).trans (qP ..)):_)
def Afl:=Cr N 47 [] j2 (fun
|[.pagg a b],[]=>some fun _ k=>LW N a b (Bk k)
| _,_=>none) fun _ _=>by split;intro R F;exact(Cj (PG N (Bk F) · _ _) (CJ fun d f=>(lW ..).trans (qQ ..)):_).trans (dU ..).symm;trivial
def Y3(N:Nat)(r0:Int->O R)(b:LA)(a:Nat)(d f:Bool)(c:Lu)(k0:Int->O R)(g:Int):O R:=(cond (decide (g<(a:Int))) (cond (Ac g a) (Gv (b.drop (g.toNat*1)) fun h=>cond (h==c) (r0 g) (k0 (wrap .i64 (g+1)))) none) (r0 (-1)))
def Oh(r0:Int->O R)(b:LA)(a:Nat)(d f:Bool)(c:Lu):Nat->Int->O R
|0=>fun _=>none
|n+1=>Y3 N r0 b a d f c (Oh r0 b a d f c n)
def gH(N:Nat)(r0:Int->O R)(q0:Int->O R)(b:LA)(a:Nat)(d f:Bool)(c:Lu):O R:=(q0 0)
def nG:=(Ad fun N b a d f c r0=>gH (R:=R) N r0 (Oh N r0 b a d f c N) b a d f c).1
def nH(b a d f c r0):(@nG R N b a d f c r0)=(gH N r0 (Oh N r0 b a d f c N) b a d f c):=by rw[nG,(Ad _).2]
def sP:Hints:={H:=hK 1 (hS (hK 1 (hS (hP [0,1,5] hL) hL)) hL)}
def Ai4(F:KF R):=K8 Tryz.f49 sP [] [] N F
def Ai5(b:LA)(a:Nat)(d f:Bool)(c:Lu)(K:St->O R):=fun g=>K ⟨[(0,.imm b a 1 d f),(1,.str c),(5,iv g)],[]⟩
def xL(F:KF R)(b a d f c):∀ n,Ai5 b a d f c (Al (Ai4 N F (pz 324) []) n)=(Oh N (C5 F) b a d f c n):=Dt fun n e=>(Cj (Y3 N (C5 F) b a d f c) e:_)
def Ani:=Cr N 49 [] sP (fun
|[.imm b a 1 d f,.str c],[]=>some fun _ k=>nG N b a d f c (C5 k)
| _,_=>none) fun _ _=>by split;intro R F;exact(Cj (gH N (C5 F) · _ _ _ _ _) ((lW ..).trans (xL ..)):_).trans (nH ..).symm;trivial
def Afm(N:Nat)(a b:Int)(r0:Bool->O R):O R:=(cond ((decide (a>=0))==true) (r0 (cond true (decide (a<b)) false)) (r0 false))
def LX:=(Ad (@Afm R)).1
def xM:@LX R=@Afm R:=(Ad _).2
def Aus:=Cr N 97 [] Cp (fun
|[.int .i64 a,.int .i64 b],[]=>some fun _ k=>LX N a b (Bk k)
| _,_=>none) fun _ _=>by split;intro R F;dsimp only;rw[xM];kernel_rfl;trivial
def C_(k4:Bool->Int->Int->O R)(r0:Bool->O R)(d:LA)(f:Nat)(a:Bool)(g:Int)(i:LA)(p:Nat)(b:LA)(k6:Bool->Int->Int->Int->O R)(al:Bool)(ae af x:Int):O R:=(cond (decide (x<af)) (cond (Ac x p) (cond (ble 3 ((i.drop (x.toNat*3)).length)) (cond ((!a)||(A0 ((i.drop (x.toNat*3)).take 3))) (cond ((beq (((i.drop (x.toNat*3)).take 3).length) 3)&&((ble 3 3)&&(!false))) (cond (al==true) (Ax .i64 (setCells [Bbz,Bbz,Bbz] 0 ((i.drop (x.toNat*3)).take 3)) fun au=>A5 22 (b.drop 4) fun bn av=>LX N au (av:Int) fun aw=>k6 (cond true aw false) ae af (wrap .i64 (x+1))) (k6 false ae af (wrap .i64 (x+1)))) none) none) none) none) (k4 al g (wrap .i64 (ae+1))))
def Uo(k4:Bool->Int->Int->O R)(r0:Bool->O R)(d:LA)(f:Nat)(a:Bool)(g:Int)(i:LA)(p:Nat)(b:LA):Nat->Bool->Int->Int->Int->O R
|0=>fun _ _ _ _=>none
|n+1=>C_ N k4 r0 d f a g i p b (Uo k4 r0 d f a g i p b n)
def C'(k4:Bool->Int->Int->O R)(r0:Bool->O R)(d:LA)(f:Nat)(a:Bool)(g:Int)(u:LA)(q:Nat)(b:LA)(k5:Bool->Int->Int->Int->LA->O R)(q6:LA->Nat->Bool->Int->Int->Int->O R)(am:Bool)(ag ah ab:Int)(ai:LA):O R:=(cond (decide (ab<ah)) (cond (Ac ab q) (Ax .i64 (u.drop (ab.toNat*1)) fun ax=>cond (am==true) (A5 12 (b.drop 3) fun bo ay=>LX N ax (ay:Int) fun az=>k5 (cond true az false) ag ah (wrap .i64 (ab+1)) ai) (k5 false ag ah (wrap .i64 (ab+1)) ai)) none) (A5 3 (ai.drop 3) fun i p=>q6 i p am ag (p:Int) 0))
def Ph(k4:Bool->Int->Int->O R)(r0:Bool->O R)(d:LA)(f:Nat)(a:Bool)(g:Int)(u:LA)(q:Nat)(b:LA):Nat->Bool->Int->Int->Int->LA->O R
|0=>fun _ _ _ _ _=>none
|n+1=>C' N k4 r0 d f a g u q b (Ph k4 r0 d f a g u q b n) (fun i p=>Uo N k4 r0 d f a g i p b N)
def DA(N:Nat)(r0:Bool->O R)(d:LA)(f:Nat)(a:Bool)(b:LA)(k4:Bool->Int->Int->O R)(q5:Int->LA->Nat->Bool->Int->Int->Int->LA->O R)(an:Bool)(g y:Int):O R:=(cond (decide (y<g)) (cond (Ac y f) (cond (ble 4 ((d.drop (y.toNat*4)).length)) (cond ((beq 0 0)&&((beq (((d.drop (y.toNat*4)).take 4).length) 4)&&(beq 4 4))) (A5 1 (((d.drop (y.toNat*4)).take 4).drop 1) fun u q=>q5 g u q an y (q:Int) 0 ((d.drop (y.toNat*4)).take 4)) none) none) none) (r0 an))
def Jn(r0:Bool->O R)(d:LA)(f:Nat)(a:Bool)(b:LA):Nat->Bool->Int->Int->O R
|0=>fun _ _ _=>none
|n+1=>DA N r0 d f a b (Jn r0 d f a b n) (fun g u q=>Ph N (Jn r0 d f a b n) r0 d f a g u q b N)
def DB(r0:Bool->O R)(c:Int)(m:LA)(r:Nat)(a:Bool)(b:LA)(k3:Bool->Int->Int->O R)(q4:LA->Nat->Bool->Int->Int->O R)(ao:Bool)(aj z:Int):O R:=(cond (decide (z<aj)) (cond (Ac z r) (cond (ble 5 ((m.drop (z.toNat*5)).length)) (cond ((beq 0 0)&&((beq (((m.drop (z.toNat*5)).take 5).length) 5)&&(beq 5 5))) (cond (ao==true) (Ax .i64 (((m.drop (z.toNat*5)).take 5).drop 1) fun ba=>LX N ba c fun bb=>k3 (cond true bb false) aj (wrap .i64 (z+1))) (k3 false aj (wrap .i64 (z+1)))) none) none) none) (A5 4 (b.drop 7) fun d f=>q4 d f ao (f:Int) 0))
def Lr(r0:Bool->O R)(c:Int)(m:LA)(r:Nat)(a:Bool)(b:LA):Nat->Bool->Int->Int->O R
|0=>fun _ _ _=>none
|n+1=>DB N r0 c m r a b (Lr r0 c m r a b n) (fun d f=>Jn N r0 d f a b N)
def DC(r0:Bool->O R)(c:Int)(o:LA)(s:Nat)(a:Bool)(b:LA)(k2:Bool->Int->Int->O R)(q3:LA->Nat->Bool->Int->Int->O R)(ap:Bool)(ak aa:Int):O R:=(cond (decide (aa<ak)) (cond (Ac aa s) (cond (ble 9 ((o.drop (aa.toNat*9)).length)) (cond ((beq 0 0)&&((beq (((o.drop (aa.toNat*9)).take 9).length) 9)&&(beq 9 9))) (cond (ap==true) (Ax .i64 (((o.drop (aa.toNat*9)).take 9).drop 1) fun bc=>LX N bc c fun bd=>k2 (cond true bd false) ak (wrap .i64 (aa+1))) (k2 false ak (wrap .i64 (aa+1)))) none) none) none) (A5 5 (b.drop 6) fun m r=>q3 m r ap (r:Int) 0))
def Ls(r0:Bool->O R)(c:Int)(o:LA)(s:Nat)(a:Bool)(b:LA):Nat->Bool->Int->Int->O R
|0=>fun _ _ _=>none
|n+1=>DC N r0 c o s a b (Ls r0 c o s a b n) (fun m r=>Lr N r0 c m r a b N)
def DD(r0:Bool->O R)(c:Int)(j:LA)(t:Nat)(a:Bool)(b:LA)(k1:Bool->Int->Int->O R)(q2:LA->Nat->Bool->Int->Int->O R)(aq:Bool)(ac v:Int):O R:=(cond (decide (v<ac)) (cond (Ac v t) (cond (ble 22 ((j.drop (v.toNat*22)).length)) (cond ((beq 0 0)&&((beq (((j.drop (v.toNat*22)).take 22).length) 22)&&(beq 22 22))) (cond (aq==true) (Ax .i64 (((j.drop (v.toNat*22)).take 22).drop 1) fun be=>LX N be c fun bf=>cond ((cond true bf false)==true) (Ax .i64 (((j.drop (v.toNat*22)).take 22).drop 19) fun bg=>LX N bg 3 fun bh=>k1 (cond true bh false) ac (wrap .i64 (v+1))) (k1 false ac (wrap .i64 (v+1)))) (k1 false ac (wrap .i64 (v+1)))) none) none) none) (A5 9 (b.drop 5) fun o s=>q2 o s aq (s:Int) 0))
def Lt(r0:Bool->O R)(c:Int)(j:LA)(t:Nat)(a:Bool)(b:LA):Nat->Bool->Int->Int->O R
|0=>fun _ _ _=>none
|n+1=>DD N r0 c j t a b (Lt r0 c j t a b n) (fun o s=>Ls N r0 c o s a b N)
def DE(r0:Bool->O R)(h:LA)(l:Nat)(a:Bool)(b:LA)(k0:Int->Bool->Int->Int->O R)(q1:Int->LA->Nat->Bool->Int->Int->O R)(c:Int)(ar:Bool)(ad w:Int):O R:=(cond (decide (w<ad)) (cond (Ac w l) (cond (ble 12 ((h.drop (w.toNat*12)).length)) (cond ((beq 0 0)&&((beq (((h.drop (w.toNat*12)).take 12).length) 12)&&(beq 12 12))) (cond (ar==true) (Ax .i64 (((h.drop (w.toNat*12)).take 12).drop 1) fun bi=>LX N bi c fun bj=>cond ((cond true bj false)==true) (Ax .i64 (((h.drop (w.toNat*12)).take 12).drop 2) fun bk=>LX N bk c fun bl=>k0 c (cond true bl false) ad (wrap .i64 (w+1))) (k0 c false ad (wrap .i64 (w+1)))) (k0 c false ad (wrap .i64 (w+1)))) none) none) none) (A5 22 (b.drop 4) fun j t=>q1 c j t ar (t:Int) 0))
def Pi(r0:Bool->O R)(h:LA)(l:Nat)(a:Bool)(b:LA):Nat->Int->Bool->Int->Int->O R
|0=>fun _ _ _ _=>none
|n+1=>DE N r0 h l a b (Pi r0 h l a b n) (fun c j t=>Lt N r0 c j t a b N)
def XC(N:Nat)(r0:Bool->O R)(q0:LA->Nat->Int->Bool->Int->Int->O R)(b:LA)(a:Bool):O R:=(A5 3 (b.drop 2) fun bp bm=>A5 12 (b.drop 3) fun h l=>q0 h l (bm:Int) true (l:Int) 0)
def JW:=(Ad fun N b a r0=>XC (R:=R) N r0 (fun h l=>Pi N r0 h l a b N) b a).1
def j4(b a r0):(@JW R N b a r0)=(XC N r0 (fun h l=>Pi N r0 h l a b N) b a):=by rw[JW,(Ad _).2]
def nI:Hints:={H:=hK 2 (hS (hK 1 (hS (hP [1,3,4,23,24,25] hL) hL)) (hS (hK 1 (hS (hP [1,3,4,44,45,46] hL) hL)) (hS (hK 1 (hS (hP [1,3,4,64,65,66] hL) hL)) (hS (hK 1 (hS (hP [1,3,4,79,80,81] hL) hL)) (hS (hK 1 (hS (hP [1,4,94,95,96] (hK 2 (hS (hS (hK 1 (hS (hK 1 (hS (hP [1,4,14,94,95,96,101,102,103] hL) hL)) (hK 1 (hS (hP [1,4,94,95,96,117,118,119] hL) hL)))) hL) hL))) hL)) hL)))))}
def sQ:Vx:=[Aus N]
def Pj(F:KF R):=K8 Tryz.f50 nI (sQ N) [] N F
def Afn(d:LA)(f:Nat)(a:Bool)(g:Int)(i:LA)(p:Nat)(b:LA)(K:St->O R):=fun al ae af x=>K ⟨[(1,op 0),(4,.bool al),(94,.imm d f 4 false a),(95,iv g),(96,iv ae),(117,.imm i p 3 false a),(118,iv af),(119,iv x)],hq [bP a 0 b]⟩
def Afo(d:LA)(f:Nat)(a:Bool)(g:Int)(u:LA)(q:Nat)(b:LA)(K:St->O R):=fun am ag ah ab ai=>K ⟨[(1,op 0),(4,.bool am),(14,op 1),(94,.imm d f 4 false a),(95,iv g),(96,iv ag),(101,.imm u q 1 false a),(102,iv ah),(103,iv ab)],hq [bP a 0 b,bP a 0 ai]⟩
def Y4(d:LA)(f:Nat)(a:Bool)(b:LA)(K:St->O R):=fun an g y=>K ⟨[(1,op 0),(4,.bool an),(94,.imm d f 4 false a),(95,iv g),(96,iv y)],hq [bP a 0 b]⟩
def Afp(c:Int)(m:LA)(r:Nat)(a:Bool)(b:LA)(K:St->O R):=fun ao aj z=>K ⟨[(1,op 0),(3,iv c),(4,.bool ao),(79,.imm m r 5 false a),(80,iv aj),(81,iv z)],hq [bP a 0 b]⟩
def Afq(c:Int)(o:LA)(s:Nat)(a:Bool)(b:LA)(K:St->O R):=fun ap ak aa=>K ⟨[(1,op 0),(3,iv c),(4,.bool ap),(64,.imm o s 9 false a),(65,iv ak),(66,iv aa)],hq [bP a 0 b]⟩
def Afr(c:Int)(j:LA)(t:Nat)(a:Bool)(b:LA)(K:St->O R):=fun aq ac v=>K ⟨[(1,op 0),(3,iv c),(4,.bool aq),(44,.imm j t 22 false a),(45,iv ac),(46,iv v)],hq [bP a 0 b]⟩
def Afs(h:LA)(l:Nat)(a:Bool)(b:LA)(K:St->O R):=fun c ar ad w=>K ⟨[(1,op 0),(3,iv c),(4,.bool ar),(23,.imm h l 12 false a),(24,iv ad),(25,iv w)],hq [bP a 0 b]⟩
def uN Q4 (F:KF R) (d f a g i p b):∀ n,Afn d f a g i p b (Al (Pj N F (pz 91621445716) [Q4]) n)=(Uo N (Y4 d f a b Q4) (Bk F) d f a g i p b n):=Dt fun n e=>(Cj (C_ N (Y4 d f a b Q4) (Bk F) d f a g i p b) e:_)
def uO Q4 (F:KF R) (d f a g u q b):∀ n,Afo d f a g u q b (Al (Pj N F (pz 91621445700) [Q4]) n)=(Ph N (Y4 d f a b Q4) (Bk F) d f a g u q b n):=Dt fun n e=>(Sq (C' N (Y4 d f a b Q4) (Bk F) d f a g u q b) e (CJ fun i p=>(lW ..).trans (uN ..)):_)
def uP(F:KF R)(d f a b):∀ n,Y4 d f a b (Al (Pj N F (pz 349508) []) n)=(Jn N (Bk F) d f a b n):=Dt fun n e=>(Sq (DA N (Bk F) d f a b) e (Aw0 fun g u q=>(lW ..).trans ((uO ..).trans (jK (Ph _ · _ _ _ _ _ _ _ _ _) e))):_)
def uQ(F:KF R)(c m r a b):∀ n,Afp c m r a b (Al (Pj N F (pz 87364) []) n)=(Lr N (Bk F) c m r a b n):=Dt fun n e=>(Sq (DB N (Bk F) c m r a b) e (CJ fun d f=>(lW ..).trans (uP ..)):_)
def uR(F:KF R)(c o s a b):∀ n,Afq c o s a b (Al (Pj N F (pz 21828) []) n)=(Ls N (Bk F) c o s a b n):=Dt fun n e=>(Sq (DC N (Bk F) c o s a b) e (CJ fun m r=>(lW ..).trans (uQ ..)):_)
def uS(F:KF R)(c j t a b):∀ n,Afr c j t a b (Al (Pj N F (pz 5444) []) n)=(Lt N (Bk F) c j t a b n):=Dt fun n e=>(Sq (DD N (Bk F) c j t a b) e (CJ fun o s=>(lW ..).trans (uR ..)):_)
def uT(F:KF R)(h l a b):∀ n,Afs h l a b (Al (Pj N F (pz 1348) []) n)=(Pi N (Bk F) h l a b n):=Dt fun n e=>(Sq (DE N (Bk F) h l a b) e (Aw0 fun c j t=>(lW ..).trans (uS ..)):_)
def Ai6:=Cr N 50 (sQ N) nI (fun
|[.pagg b a],[]=>some fun _ k=>JW N b a (Bk k)
| _,_=>none) fun _ _=>by split;intro R F;exact(Cj (XC N (Bk F) · _ _) (CJ fun h l=>(lW ..).trans (uT ..)):_).trans (j4 ..).symm;trivial
def LY(r0:Lu->O R)(a:LA)(b:Nat)(d c:Bool)(k1:Nat->Lu->LA->O R)(i:Nat)(h:Lu)(j:LA):O R:=(Xe N (j.take (i*1)) i false true [.int .u32 10] 1 false true fun l m u q r=>O4 N (r.take (m*1)) m false true fun f v=>cond ((decide (0<=f))&&((decide (f<=(wrap .u64 (f+1))))&&((decide ((wrap .u64 (f+1))<=10))&&(decide ((10:Int)<=(10:Int)))))) (cond (ble ((List.length (take (((wrap .u64 (f+1)).toNat) - f.toNat) (drop f.toNat ([48,49,50,51,52,53,54,55,56,57]:Lu))))+h.length) 140737488355328) (cond ((l:Int)==0) (r0 ((take (((wrap .u64 (f+1)).toNat) - f.toNat) (drop f.toNat ([48,49,50,51,52,53,54,55,56,57]:Lu)))++h)) (k1 l ((take (((wrap .u64 (f+1)).toNat) - f.toNat) (drop f.toNat ([48,49,50,51,52,53,54,55,56,57]:Lu)))++h) q)) none) none)
def Wa(r0:Lu->O R)(a:LA)(b:Nat)(d c:Bool):Nat->Nat->Lu->LA->O R
|0=>fun _ _ _=>none
|n+1=>LY N r0 a b d c (Wa r0 a b d c n)
def LZ(r0:Lu->O R)(a:LA)(b:Nat)(d c:Bool)(k0:O R)(k1:Nat->Lu->LA->O R):O R:=(Xe N a b false c [.int .u32 10] 1 false true fun o p w s t=>O4 N (t.take (p*1)) p false true fun g x=>cond ((decide (0<=g))&&((decide (g<=(wrap .u64 (g+1))))&&((decide ((wrap .u64 (g+1))<=10))&&(decide ((10:Int)<=(10:Int)))))) (cond (ble (List.length (take (((wrap .u64 (g+1)).toNat) - g.toNat) (drop g.toNat ([48,49,50,51,52,53,54,55,56,57]:Lu)))) 140737488355328) (cond ((o:Int)==0) (r0 ((take (((wrap .u64 (g+1)).toNat) - g.toNat) (drop g.toNat ([48,49,50,51,52,53,54,55,56,57]:Lu)))++([]:Lu))) (k1 o ((take (((wrap .u64 (g+1)).toNat) - g.toNat) (drop g.toNat ([48,49,50,51,52,53,54,55,56,57]:Lu)))++([]:Lu)) s)) none) none)
def Wb(r0:Lu->O R)(a:LA)(b:Nat)(d c:Bool):Nat->O R
|0=>none
|n+1=>LZ N r0 a b d c (Wb r0 a b d c n) (Wa N r0 a b d c n)
def PH(N:Nat)(r0:Lu->O R)(q0:O R)(a:LA)(b:Nat)(d c:Bool):O R:=q0
def BI:=(Ad fun N a b d c r0=>PH (R:=R) N r0 (Wb N r0 a b d c N) a b d c).1
def dV(a b d c r0):(@BI R N a b d c r0)=(PH N r0 (Wb N r0 a b d c N) a b d c):=by rw[BI,(Ad _).2]
def j5:Hints:={H:=hK 2 (hS (hP [0,3] hL) hL)}
def nK:Vx:=[Aes N,m8 N]
def j6(F:KF R):=K8 Tryz.f143 j5 (nK N) [] N F
def Aab(a:LA)(b:Nat)(d c:Bool)(K:St->O R):=fun i h j=>K ⟨[(0,Bby 0 i),(3,.str h)],hq [bQ 1 j]⟩
def Aac(a:LA)(b:Nat)(d c:Bool)(K:St->O R):=K ⟨[(0,.imm a b 1 d c),(3,.str ([]:Lu))],[]⟩
def qR(F:KF R)(a b d c):∀ n,Aab a b d c (Al (j6 N F (pz 84) []) n)=(Wa N (mF F) a b d c n):=Dt fun n e=>(Cj (LY N (mF F) a b d c) e:_)
def qS(F:KF R)(a b d c):∀ n,Aac a b d c (Al (j6 N F (pz 84) []) n)=(Wb N (mF F) a b d c n):=Dt fun n e=>(Sq (LZ N (mF F) a b d c) e (qR ..):_)
def Aft:=Cr N 143 (nK N) j5 (fun
|[.imm a b 1 d c],[]=>some fun _ k=>BI N a b d c (mF k)
| _,_=>none) fun _ _=>by split;intro R F;exact(Cj (PH N (mF F) · _ _ _ _) ((lW ..).trans (qS ..)):_).trans (dV ..).symm;trivial
def L_(a:LA)(b:Bool)(r0:Lu->O R):O R:=(cond (ble 2 a.length) (mZ N (a.take 2) b fun c=>cond ((beq c.length 2)&&((ble 2 a.length)&&(!false))) (QY (setCells a 0 c) fun e=>cond e (A5 1 ((setCells a 0 c).drop 1) fun f g=>BI N f g false (b||false) fun d=>cond (ble (1+d.length) 140737488355328) (r0 (([45]:Lu)++d)) none) (A5 1 ((setCells a 0 c).drop 1) fun h i=>BI N h i false (b||false) fun j=>r0 j)) none) none)
def Wc:=(Ad (@L_ R)).1
def PI:@Wc R=@L_ R:=(Ad _).2
def uU:=Cr N 130 [Amy N,Aft N] Cp (fun
|[.pagg a b],[]=>some fun _ k=>Wc N a b (mF k)
| _,_=>none) fun _ _=>by split;intro R F;dsimp only;rw[PI];kernel_rfl;trivial
def Kl(k0:Int->Lu->Bool->O R)(r0:Lu->Bool->O R)(b:LA)(a:Nat)(c d:Bool)(f:Lu)(g:Bool)(j:Int)(l:Lu)(o:Bool):O R:=(cond (Ac j a) (Ax .i64 (b.drop (j.toNat*1)) fun q=>EL N q fun r=>Wc N r false fun p=>cond (ble (1+p.length) 140737488355328) (cond (ble (l.length+(List.length (([32]:Lu)++p))) 140737488355328) (k0 (wrap .i64 (j+1)) (l++(([32]:Lu)++p)) o) none) none) none)
def Nn(N:Nat)(r0:Lu->Bool->O R)(b:LA)(a:Nat)(c d:Bool)(f:Lu)(g:Bool)(k0:Int->Lu->Bool->O R)(q1:Int->Lu->Bool->O R)(h:Int)(i:Lu)(m:Bool):O R:=(cond (decide (h<(a:Int))) (cond (m==false) (cond (Ac h a) (Ax .i64 (b.drop (h.toNat*1)) fun s=>cond ((cond false true (decide (s<(-1073741824))))==false) (cond (Ac h a) (Ax .i64 (b.drop (h.toNat*1)) fun t=>q1 h i (cond false true (decide (t>1073741824)))) none) (q1 h i true)) none) (q1 h i true)) (r0 i m))
def Dm(r0:Lu->Bool->O R)(b:LA)(a:Nat)(c d:Bool)(f:Lu)(g:Bool):Nat->Int->Lu->Bool->O R
|0=>fun _ _ _=>none
|n+1=>Nn N r0 b a c d f g (Dm r0 b a c d f g n) (Kl N (Dm r0 b a c d f g n) r0 b a c d f g)
def Up(N:Nat)(r0:Lu->Bool->O R)(q0:Int->Lu->Bool->O R)(b:LA)(a:Nat)(c d:Bool)(f:Lu)(g:Bool):O R:=(q0 0 f g)
def Ak:=(Ad fun N b a c d f g r0=>Up (R:=R) N r0 (Dm N r0 b a c d f g N) b a c d f g).1
def HA(b a c d f g r0):(@Ak R N b a c d f g r0)=(Up N r0 (Dm N r0 b a c d f g N) b a c d f g):=by rw[Ak,(Ad _).2]
def MA:Hints:={H:=hK 1 (hS (hP [0,1,4] (hK 1 (hS (hS (hJ [0,1,4] hL hL) hL) hL))) hL)}
def PJ:Vx:=[z_ N,uU N]
def MB(F:KF R):=K8 Tryz.f98 MA (PJ N) [100000] N F
def kf(b:LA)(a:Nat)(c d:Bool)(f:Lu)(g:Bool)(K:St->O R):=fun j l o=>K ⟨[(0,.optr 100000 0),(1,.imm b a 1 c d),(4,iv j)],[(100000,bN 0 [.str l,.bool o])]⟩
def MC(b:LA)(a:Nat)(c d:Bool)(f:Lu)(g:Bool)(K:St->O R):=fun h i m=>K ⟨[(0,.optr 100000 0),(1,.imm b a 1 c d),(4,iv h)],[(100000,bN 0 [.str i,.bool m])]⟩
def aK Q0 (F:KF R) (b a c d f g):kf b a c d f g (By (MB N F (pz 20545) [Q0]))=(Kl N (MC b a c d f g Q0) (Ss F) b a c d f g):=by kernel_rfl
def aL(F:KF R)(b a c d f g):∀ n,MC b a c d f g (Al (MB N F (pz 20) []) n)=(Dm N (Ss F) b a c d f g n):=Dt fun n e=>(Sq (Nn N (Ss F) b a c d f g) e ((jW ..).trans ((aK ..).trans (jK (Kl _ · _ _ _ _ _ _ _) e))):_)
def Lv:=Cr N 98 (PJ N) MA (fun
|[.optr 100000 0,.imm b a 1 c d],[(100000,⟨false,false,false,false,0,[.str f,.bool g],false,none⟩)]=>some fun _ k=>Ak N b a c d f g (Ss k)
| _,_=>none) fun _ _=>by split;intro R F;exact(Cj (Up N (Ss F) · _ _ _ _ _ _) ((lW ..).trans (aL ..)):_).trans (HA ..).symm;trivial
def No(N:Nat)(r0:Lu->O R)(c:LA)(b:Nat)(d f a:Bool)(k0:Int->Lu->O R)(h:Int)(i:Lu):O R:=(cond (decide (h<(b:Int))) (cond (Ac h b) (Gv (c.drop (h.toNat*1)) fun j=>cond (ble (1+j.length) 140737488355328) (cond (ble (i.length+(List.length (([32]:Lu)++j))) 140737488355328) (k0 (wrap .i64 (h+1)) (i++(([32]:Lu)++j))) none) none) none) (r0 i))
def Fv(r0:Lu->O R)(c:LA)(b:Nat)(d f a:Bool):Nat->Int->Lu->O R
|0=>fun _ _=>none
|n+1=>No N r0 c b d f a (Fv r0 c b d f a n)
def Uq(N:Nat)(r0:Lu->O R)(q0:Int->Lu->O R)(c:LA)(b:Nat)(d f:Bool)(g:Lu)(a:Bool):O R:=(q0 0 g)
def Aw:=(Ad fun N c b d f g a r0=>Uq (R:=R) N r0 (Fv N r0 c b d f a N) c b d f g a).1
def HB(c b d f g a r0):(@Aw R N c b d f g a r0)=(Uq N r0 (Fv N r0 c b d f a N) c b d f g a):=by rw[Aw,(Ad _).2]
def MD:Hints:={H:=hK 1 (hS (hP [0,1,4] hL) hL)}
def kg(F:KF R):=K8 Tryz.f99 MD [] [100000] N F
def Pk(a:Bool)(F:KF R):Lu->O R:=fun l=>F (.tup []) [(100000,bN 0 [.str l,.bool a])]
def ki(c:LA)(b:Nat)(d f a:Bool)(K:St->O R):=fun h i=>K ⟨[(0,.optr 100000 0),(1,.imm c b 1 d f),(4,iv h)],[(100000,bN 0 [.str i,.bool a])]⟩
def aM(F:KF R)(c b d f a):∀ n,ki c b d f a (Al (kg N F (pz 20) []) n)=(Fv N (Pk a F) c b d f a n):=Dt fun n e=>(Cj (No N (Pk a F) c b d f a) e:_)
def Rv:=Cr N 99 [] MD (fun
|[.optr 100000 0,.imm c b 1 d f],[(100000,⟨false,false,false,false,0,[.str g,.bool a],false,none⟩)]=>some fun _ k=>Aw N c b d f g a (Pk a k)
| _,_=>none) fun _ _=>by split;rename_i c b d f g a;intro R F;exact(Cj (Uq N (Pk a F) · c b d f g a) ((lW ..).trans (aM ..)):_).trans (HB ..).symm;trivial
def Jf(k0:Int->Lu->Bool->O R)(r0:Lu->Bool->O R)(b:LA)(a:Nat)(c d:Bool)(f:Lu)(g:Bool)(j:Int)(p:Lu)(q:Bool):O R:=(cond (Ac j a) (Ax .i64 (b.drop (j.toNat*2)) fun r=>Ak N [.int .i64 r] 1 false true p q fun h s=>cond (Ac j a) (Ax .i64 ((b.drop (j.toNat*2)).drop 1) fun t=>Ak N [.int .i64 t] 1 false true h s fun i u=>cond (ble (h.length+1) 140737488355328) (cond ((decide (0<=(wrap .i64 (((h.length:Nat):Int)+1))))&&((decide ((wrap .i64 (((h.length:Nat):Int)+1))<=((i.length:Nat):Int)))&&((decide (((i.length:Nat):Int)<=((i.length:Nat):Int)))&&(decide (((i.length:Nat):Int)<=((i.length:Nat):Int)))))) (cond (ble ((List.length (h++([47]:Lu)))+(List.length (take (i.length - ((wrap .i64 (((h.length:Nat):Int)+1)).toNat)) (drop ((wrap .i64 (((h.length:Nat):Int)+1)).toNat) i)))) 140737488355328) (k0 (wrap .i64 (j+1)) ((h++([47]:Lu))++(take (i.length - ((wrap .i64 (((h.length:Nat):Int)+1)).toNat)) (drop ((wrap .i64 (((h.length:Nat):Int)+1)).toNat) i))) u) none) none) none) none) none)
def Lw(N:Nat)(r0:Lu->Bool->O R)(b:LA)(a:Nat)(c d:Bool)(f:Lu)(g:Bool)(k0:Int->Lu->Bool->O R)(q1:Int->Lu->Bool->O R)(l:Int)(m:Lu)(o:Bool):O R:=(cond (decide (l<(a:Int))) (cond (o==false) (cond (Ac l a) (Ax .i64 ((b.drop (l.toNat*2)).drop 1) fun v=>q1 l m (cond false true (decide (v<1)))) none) (q1 l m true)) (r0 m o))
def C7(r0:Lu->Bool->O R)(b:LA)(a:Nat)(c d:Bool)(f:Lu)(g:Bool):Nat->Int->Lu->Bool->O R
|0=>fun _ _ _=>none
|n+1=>Lw N r0 b a c d f g (C7 r0 b a c d f g n) (Jf N (C7 r0 b a c d f g n) r0 b a c d f g)
def Rw(N:Nat)(r0:Lu->Bool->O R)(q0:Int->Lu->Bool->O R)(b:LA)(a:Nat)(c d:Bool)(f:Lu)(g:Bool):O R:=(q0 0 f g)
def Dv:=(Ad fun N b a c d f g r0=>Rw (R:=R) N r0 (C7 N r0 b a c d f g N) b a c d f g).1
def EU(b a c d f g r0):(@Dv R N b a c d f g r0)=(Rw N r0 (C7 N r0 b a c d f g N) b a c d f g):=by rw[Dv,(Ad _).2]
def HC:Hints:={H:=hK 1 (hS (hP [0,1,4] (hK 1 (hS (hS (hJ [0,1,4] hL hL) hL) hL))) hL)}
def ME:Vx:=[Lv N]
def HD(F:KF R):=K8 Tryz.f102 HC (ME N) [100000] N F
def iI(b:LA)(a:Nat)(c d:Bool)(f:Lu)(g:Bool)(K:St->O R):=fun j p q=>K ⟨[(0,.optr 100000 0),(1,.imm b a 2 c d),(4,iv j)],[(100000,bN 0 [.str p,.bool q])]⟩
def HE(b:LA)(a:Nat)(c d:Bool)(f:Lu)(g:Bool)(K:St->O R):=fun l m o=>K ⟨[(0,.optr 100000 0),(1,.imm b a 2 c d),(4,iv l)],[(100000,bN 0 [.str m,.bool o])]⟩
def XD Q0 (F:KF R) (b a c d f g):iI b a c d f g (By (HD N F (pz 20545) [Q0]))=(Jf N (HE b a c d f g Q0) (Ss F) b a c d f g):=by kernel_rfl
def XE(F:KF R)(b a c d f g):∀ n,HE b a c d f g (Al (HD N F (pz 20) []) n)=(C7 N (Ss F) b a c d f g n):=Dt fun n e=>(Sq (Lw N (Ss F) b a c d f g) e ((jW ..).trans ((XD ..).trans (jK (Jf _ · _ _ _ _ _ _ _) e))):_)
def MF:=Cr N 102 (ME N) HC (fun
|[.optr 100000 0,.imm b a 2 c d],[(100000,⟨false,false,false,false,0,[.str f,.bool g],false,none⟩)]=>some fun _ k=>Dv N b a c d f g (Ss k)
| _,_=>none) fun _ _=>by split;intro R F;exact(Cj (Rw N (Ss F) · _ _ _ _ _ _) ((lW ..).trans (XE ..)):_).trans (EU ..).symm;trivial
def Y5(c:LA)(f:Bool)(a:LA)(b:Bool)(d:Lu)(e:Bool)(r0:Lu->Bool->O R):O R:=(cond (ble (d.length+4) 140737488355328) (Gv a fun n=>A5 3 (c.drop 2) fun o p=>Ax .i64 (a.drop 1) fun g=>cond (Ac g p) (Gv (o.drop (g.toNat*3)) fun q=>A5 3 (c.drop 2) fun r s=>Ax .i64 (a.drop 2) fun h=>cond (Ac h s) (Gv (r.drop (h.toNat*3)) fun t=>Aw N [.str n,.str q,.str t,.str ([120]:Lu)] 4 false true (d++([108,105,110,101]:Lu)) e fun u=>cond (ble 2 ((a.drop 3).length)) (cond ((!b)||(A0 ((a.drop 3).take 2))) (cond ((beq (((a.drop 3).take 2).length) 2)&&(ble 2 2)) (Dv N ((setCells [Bbz,Bbz] 0 ((a.drop 3).take 2)).take 2) 1 false true u e fun v i=>Aw N [.str ([115,104,105,102,116]:Lu)] 1 false true v i fun w=>cond (ble 2 ((a.drop 5).length)) (cond ((!b)||(A0 ((a.drop 5).take 2))) (cond (ble 2 ((a.drop 7).length)) (cond ((!b)||(A0 ((a.drop 7).take 2))) (cond ((beq (((a.drop 5).take 2).length) 2)&&(ble 2 4)) (cond ((beq (((a.drop 7).take 2).length) 2)&&(ble 4 ((setCells [Bbz,Bbz,Bbz,Bbz] 0 ((a.drop 5).take 2)).length))) (Dv N ((setCells (setCells [Bbz,Bbz,Bbz,Bbz] 0 ((a.drop 5).take 2)) 2 ((a.drop 7).take 2)).take 4) 2 false true w i fun x j=>Aw N [.str ([108,105,109,105,116]:Lu)] 1 false true x j fun y=>Ax .i64 (a.drop 9) fun z=>Ax .i64 (a.drop 10) fun aa=>Ak N [.int .i64 z,.int .i64 aa] 2 false true y j fun ab l=>Aw N [.str ([97,119,97,121]:Lu)] 1 false true ab l fun ac=>A5 1 (a.drop 11) fun ad ae=>Ak N ad ae false b ac l fun m af=>cond (ble (m.length+1) 140737488355328) (r0 (m++([10]:Lu)) af) none) none) none) none) none) none) none) none) none) none) none) none) none)
def Ur:=(Ad (@Y5 R)).1
def EV:@Ur R=@Y5 R:=(Ad _).2
def kj:=Cr N 100 [Rv N,MF N,Lv N] Cp (fun
|[.optr 100000 0,.pagg c f,.pagg a b],[(100000,⟨false,false,false,false,0,[.str d,.bool e],false,none⟩)]=>some fun _ k=>Ur N c f a b d e (Ss k)
| _,_=>none) fun _ _=>by split;intro R F;dsimp only;rw[EV];kernel_rfl;trivial
def Lx(r0:Lu->Bool->O R)(b:Bool)(a:LA)(k0:Int->Lu->Bool->O R)(f:Int)(j:Lu)(i:Bool):O R:=(A5 2 (a.drop 4) fun cg z=>cond (decide (f<(z:Int))) (A5 2 (a.drop 4) fun aa ab=>cond (Ac f ab) (Ax .i64 (aa.drop (f.toNat*2)) fun ac=>A5 2 (a.drop 4) fun ad ae=>cond (Ac f ae) (Ax .i64 ((ad.drop (f.toNat*2)).drop 1) fun af=>Ak N [.int .i64 ac,.int .i64 af] 2 false true j i fun ag ah=>k0 (wrap .i64 (f+1)) ag ah) none) none) (Aw N [.str ([110,111,108,111,97,100]:Lu)] 1 false true j i fun ai=>Ax .i64 (a.drop 5) fun aj=>Ak N [.int .i64 aj] 1 false true ai i fun ak l=>Aw N [.str ([114,97,109,112]:Lu)] 1 false true ak l fun al=>Ax .i64 (a.drop 6) fun am=>Ax .i64 (a.drop 7) fun an=>Ak N [.int .i64 am,.int .i64 an] 2 false true al l fun ao m=>Aw N [.str ([115,116,97,114,116]:Lu)] 1 false true ao m fun ap=>Ax .i64 (a.drop 8) fun aq=>Ak N [.int .i64 aq] 1 false true ap m fun ar o=>Aw N [.str ([115,116,111,112]:Lu)] 1 false true ar o fun au=>Ax .i64 (a.drop 9) fun av=>Ak N [.int .i64 av] 1 false true au o fun aw p=>Aw N [.str ([116,105,109,101,115]:Lu)] 1 false true aw p fun ax=>Ax .i64 (a.drop 10) fun ay=>Ax .i64 (a.drop 11) fun az=>Ax .i64 (a.drop 12) fun ba=>Ak N [.int .i64 ay,.int .i64 az,.int .i64 ba] 3 false true ax p fun bb q=>Aw N [.str ([99,111,115,116]:Lu)] 1 false true bb q fun bc=>Ax .i64 (a.drop 13) fun bd=>Ax .i64 (a.drop 14) fun be=>Ax .i64 (a.drop 15) fun bf=>Ak N [.int .i64 bd,.int .i64 be,.int .i64 bf] 3 false true bc q fun bg r=>Aw N [.str ([114,101,115,101,114,118,101]:Lu)] 1 false true bg r fun bh=>Ax .i64 (a.drop 16) fun bi=>Ax .i64 (a.drop 17) fun bj=>Ak N [.int .i64 bi,.int .i64 bj] 2 false true bh r fun bk s=>Aw N [.str ([97,119,97,121]:Lu)] 1 false true bk s fun bl=>A5 1 (a.drop 18) fun bm bn=>Ak N bm bn false b bl s fun bo t=>Ax .i64 (a.drop 19) fun u=>cond (Ac u 3) (Gv (drop (0+(u.toNat*1)) [.str ([111,102,102]:Lu),.str ([115,116,97,114,116,105,110,103]:Lu),.str ([111,110]:Lu)]) fun bp=>Aw N [.str ([115,116,97,116,101]:Lu),.str bp] 2 false true bo t fun bq=>Ax .i64 (a.drop 20) fun br=>Ax .i64 (a.drop 21) fun bs=>Ak N [.int .i64 br,.int .i64 bs] 2 false true bq t fun v bt=>cond (ble (v.length+1) 140737488355328) (r0 (v++([10]:Lu)) bt) none) none))
def Dx(r0:Lu->Bool->O R)(b:Bool)(a:LA):Nat->Int->Lu->Bool->O R
|0=>fun _ _ _=>none
|n+1=>Lx N r0 b a (Dx r0 b a n)
def Rx(r0:Lu->Bool->O R)(q0:Int->Lu->Bool->O R)(g:LA)(h:Bool)(a:LA)(b:Bool)(c:Lu)(d:Bool):O R:=(cond (ble (c.length+4) 140737488355328) (Gv a fun bu=>A5 3 (g.drop 2) fun bv bw=>Ax .i64 (a.drop 1) fun w=>cond (Ac w bw) (Gv (bv.drop (w.toNat*3)) fun bx=>Aw N [.str bu,.str bx,.str ([109,105,110]:Lu)] 3 false true (c++([117,110,105,116]:Lu)) d fun bz=>Ax .i64 (a.drop 2) fun ca=>Ak N [.int .i64 ca] 1 false true bz d fun cb x=>Aw N [.str ([109,97,120]:Lu)] 1 false true cb x fun cc=>Ax .i64 (a.drop 3) fun cd=>Ak N [.int .i64 cd] 1 false true cc x fun ce y=>Aw N [.str ([115,101,103,109,101,110,116,115]:Lu)] 1 false true ce y fun cf=>q0 0 cf y) none) none)
def N9:=(Ad fun N g h a b c d r0=>Rx (R:=R) N r0 (Dx N r0 b a N) g h a b c d).1
def EW(g h a b c d r0):(@N9 R N g h a b c d r0)=(Rx N r0 (Dx N r0 b a N) g h a b c d):=by rw[N9,(Ad _).2]
def HF:Hints:={H:=hK 7 (hS (hK 1 (hS (hP [0,5,6] hL) hL)) hL)}
def MG:Vx:=[Rv N,Lv N]
def iJ(F:KF R):=K8 Tryz.f101 HF (MG N) [100000] N F
def iK(b:Bool)(a:LA)(K:St->O R):=fun f j i=>K ⟨[(0,.optr 100000 0),(5,op 0),(6,iv f)],[(100000,bN 0 [.str j,.bool i]),(300000,bP b 0 a)]⟩
def XF(F:KF R)(b a):∀ n,iK b a (Al (iJ N F (pz 1398084) []) n)=(Dx N (Ss F) b a n):=Dt fun n e=>(Cj (Lx N (Ss F) b a) e:_)
def ko:=Cr N 101 (MG N) HF (fun
|[.optr 100000 0,.pagg g h,.pagg a b],[(100000,⟨false,false,false,false,0,[.str c,.bool d],false,none⟩)]=>some fun _ k=>N9 N g h a b c d (Ss k)
| _,_=>none) fun _ _=>by split;intro R F;exact(Cj (Rx N (Ss F) · _ _ _ _ _ _) ((lW ..).trans (XF ..)):_).trans (EW ..).symm;trivial
def Jo(r0:Lu->Bool->O R)(d:Bool)(c:LA)(f:Bool)(a:LA)(b:Bool)(k1:Int->Lu->Bool->O R)(g:Int)(l:Lu)(m:Bool):O R:=(A5 3 (a.drop 3) fun aq q=>cond (decide (g<(q:Int))) (A5 22 (c.drop 4) fun r s=>A5 3 (a.drop 3) fun t u=>cond (Ac g u) (Ax .i64 (t.drop (g.toNat*3)) fun o=>cond (Ac o s) (Gv (r.drop (o.toNat*22)) fun v=>Aw N [.str v] 1 false true l m fun w=>A5 3 (a.drop 3) fun x y=>cond (Ac g y) (Ax .i64 ((x.drop (g.toNat*3)).drop 1) fun z=>A5 3 (a.drop 3) fun aa ab=>cond (Ac g ab) (Ax .i64 ((aa.drop (g.toNat*3)).drop 2) fun ac=>Ak N [.int .i64 z,.int .i64 ac] 2 false true w m fun ad ae=>k1 (wrap .i64 (g+1)) ad ae) none) none) none) none) (cond (ble (l.length+1) 140737488355328) (r0 (l++([10]:Lu)) m) none))
def Ff(r0:Lu->Bool->O R)(d:Bool)(c:LA)(f:Bool)(a:LA)(b:Bool):Nat->Int->Lu->Bool->O R
|0=>fun _ _ _=>none
|n+1=>Jo N r0 d c f a b (Ff r0 d c f a b n)
def Jp(r0:Lu->Bool->O R)(b d:Bool)(c:LA)(f:Bool)(a:LA)(k0:Int->Lu->O R)(q1:Int->Lu->Bool->O R)(i:Int)(j:Lu):O R:=(A5 1 (a.drop 1) fun ar af=>cond (decide (i<(af:Int))) (A5 12 (c.drop 3) fun ag ah=>A5 1 (a.drop 1) fun ai aj=>cond (Ac i aj) (Ax .i64 (ai.drop (i.toNat*1)) fun p=>cond (Ac p ah) (Gv (ag.drop (p.toNat*12)) fun ak=>Aw N [.str ak] 1 false true j b fun al=>k0 (wrap .i64 (i+1)) al) none) none) (QY (a.drop 2) fun am=>cond am (Aw N [.str ([99,111,114,114,101,99,116,105,118,101]:Lu)] 1 false true j b fun an=>q1 0 an b) (cond (ble (j.length+1) 140737488355328) (r0 (j++([10]:Lu)) b) none)))
def D2(r0:Lu->Bool->O R)(b d:Bool)(c:LA)(f:Bool)(a:LA):Nat->Int->Lu->O R
|0=>fun _ _=>none
|n+1=>Jp N r0 b d c f a (D2 r0 b d c f a n) (Ff N r0 d c f a b N)
def Np(r0:Lu->Bool->O R)(q0:Int->Lu->O R)(c:LA)(d:Bool)(a:LA)(f:Bool)(h:Lu)(b:Bool):O R:=(cond (ble (h.length+6) 140737488355328) (Gv a fun ao=>Aw N [.str ao,.str ([108,105,110,101,115]:Lu)] 2 false true (h++([111,117,116,97,103,101]:Lu)) b fun ap=>q0 0 ap) none)
def Km:=(Ad fun N c d a f h b r0=>Np (R:=R) N r0 (D2 N r0 b d c f a N) c d a f h b).1
def Y6(c d a f h b r0):(@Km R N c d a f h b r0)=(Np N r0 (D2 N r0 b d c f a N) c d a f h b):=by rw[Km,(Ad _).2]
def AA:Hints:={H:=hK 3 (hS (hK 1 (hS (hP [0,4,5,6] hL) hL)) (hS (hK 1 (hS (hK 2 (hS (hP [0,4,5,7] hL) hL)) hL)) hL))}
def EX:Vx:=[Rv N,Lv N]
def AB(F:KF R):=K8 Tryz.f103 AA (EX N) [100000] N F
def aN(d:Bool)(c:LA)(f:Bool)(a:LA)(b:Bool)(K:St->O R):=fun g l m=>K ⟨[(0,.optr 100000 0),(4,op 0),(5,op 1),(7,iv g)],[(100000,bN 0 [.str l,.bool m]),(300000,bP d 0 c),(300001,bP f 0 a)]⟩
def aO(b d:Bool)(c:LA)(f:Bool)(a:LA)(K:St->O R):=fun i j=>K ⟨[(0,.optr 100000 0),(4,op 0),(5,op 1),(6,iv i)],[(100000,bN 0 [.str j,.bool b]),(300000,bP d 0 c),(300001,bP f 0 a)]⟩
def RI(F:KF R)(d c f a b):∀ n,aN d c f a b (Al (AB N F (pz 1397012) []) n)=(Ff N (Ss F) d c f a b n):=Dt fun n e=>(Cj (Jo N (Ss F) d c f a b) e:_)
def RK(F:KF R)(b d c f a):∀ n,aO b d c f a (Al (AB N F (pz 5444) []) n)=(D2 N (Ss F) b d c f a n):=Dt fun n e=>(Sq (Jp N (Ss F) b d c f a) e ((lW ..).trans (RI ..)):_)
def dW:=Cr N 103 (EX N) AA (fun
|[.optr 100000 0,.pagg c d,.pagg a f],[(100000,⟨false,false,false,false,0,[.str h,.bool b],false,none⟩)]=>some fun _ k=>Km N c d a f h b (Ss k)
| _,_=>none) fun _ _=>by split;intro R F;exact(Cj (Np N (Ss F) · _ _ _ _ _ _) ((lW ..).trans (RK ..)):_).trans (Y6 ..).symm;trivial
def Ly(r0:Lu->Bool->O R)(g:LA)(m:Nat)(a:Bool)(b:LA)(k5:Int->Int->Lu->Bool->O R)(af u:Int)(ag:Lu)(ah:Bool):O R:=(cond (decide (u<af)) (cond (Ac u m) (cond (ble 4 ((g.drop (u.toNat*4)).length)) (cond ((beq 0 0)&&((beq (((g.drop (u.toNat*4)).take 4).length) 4)&&(beq 4 4))) (cond (ble 8 b.length) (cond (ble 4 (((g.drop (u.toNat*4)).take 4).length)) (Km N (b.take 8) a (((g.drop (u.toNat*4)).take 4).take 4) a ag ah fun bg bh=>k5 af (wrap .i64 (u+1)) bg bh) none) none) none) none) none) (r0 ag ah))
def Gy(r0:Lu->Bool->O R)(g:LA)(m:Nat)(a:Bool)(b:LA):Nat->Int->Int->Lu->Bool->O R
|0=>fun _ _ _ _=>none
|n+1=>Ly N r0 g m a b (Gy r0 g m a b n)
def Lz(r0:Lu->Bool->O R)(d:LA)(o:Nat)(a:Bool)(b:LA)(k4:Int->Int->Lu->Bool->O R)(q5:LA->Nat->Int->Int->Lu->Bool->O R)(ai s:Int)(z:Lu)(aa:Bool):O R:=(cond (decide (s<ai)) (cond (Ac s o) (cond (ble 5 ((d.drop (s.toNat*5)).length)) (cond ((beq 0 0)&&((beq (((d.drop (s.toNat*5)).take 5).length) 5)&&(beq 5 5))) (cond (ble (z.length+3) 140737488355328) (Gv ((d.drop (s.toNat*5)).take 5) fun bi=>A5 3 (b.drop 2) fun bj bk=>Ax .i64 (((d.drop (s.toNat*5)).take 5).drop 1) fun ar=>cond (Ac ar bk) (Gv (bj.drop (ar.toNat*3)) fun bl=>Aw N [.str bi,.str bl,.str ([105,109,112,111,114,116]:Lu)] 3 false true (z++([116,105,101]:Lu)) aa fun bm=>A5 1 (((d.drop (s.toNat*5)).take 5).drop 2) fun bn bo=>Ak N bn bo false a bm aa fun bp au=>Aw N [.str ([101,120,112,111,114,116]:Lu)] 1 false true bp au fun bq=>A5 1 (((d.drop (s.toNat*5)).take 5).drop 3) fun br bs=>Ak N br bs false a bq au fun bt av=>Aw N [.str ([112,114,105,99,101]:Lu)] 1 false true bt av fun bu=>A5 1 (((d.drop (s.toNat*5)).take 5).drop 4) fun bv bw=>Ak N bv bw false a bu av fun aw bx=>cond (ble (aw.length+1) 140737488355328) (k4 ai (wrap .i64 (s+1)) (aw++([10]:Lu)) bx) none) none) none) none) none) none) (A5 4 (b.drop 7) fun g m=>q5 g m (m:Int) 0 z aa))
def Eu(r0:Lu->Bool->O R)(d:LA)(o:Nat)(a:Bool)(b:LA):Nat->Int->Int->Lu->Bool->O R
|0=>fun _ _ _ _=>none
|n+1=>Lz N r0 d o a b (Eu r0 d o a b n) (fun g m=>Gy N r0 g m a b N)
def L0(r0:Lu->Bool->O R)(c:LA)(p:Nat)(a:Bool)(b:LA)(k3:Int->Int->Lu->Bool->O R)(q4:LA->Nat->Int->Int->Lu->Bool->O R)(aj h:Int)(ab:Lu)(ac:Bool):O R:=(cond (decide (h<aj)) (cond (Ac h p) (cond (ble 9 ((c.drop (h.toNat*9)).length)) (cond ((beq 0 0)&&((beq (((c.drop (h.toNat*9)).take 9).length) 9)&&(beq 9 9))) (cond (ble (ab.length+5) 140737488355328) (Gv ((c.drop (h.toNat*9)).take 9) fun bz=>A5 3 (b.drop 2) fun ca cb=>Ax .i64 (((c.drop (h.toNat*9)).take 9).drop 1) fun ax=>cond (Ac ax cb) (Gv (ca.drop (ax.toNat*3)) fun cc=>Aw N [.str bz,.str cc,.str ([99,97,112,97,99,105,116,121]:Lu)] 3 false true (ab++([115,116,111,114,101]:Lu)) ac fun cd=>Ax .i64 (((c.drop (h.toNat*9)).take 9).drop 2) fun ce=>Ak N [.int .i64 ce] 1 false true cd ac fun cf ay=>Aw N [.str ([108,101,118,101,108]:Lu)] 1 false true cf ay fun cg=>Ax .i64 (((c.drop (h.toNat*9)).take 9).drop 3) fun ch=>Ax .i64 (((c.drop (h.toNat*9)).take 9).drop 4) fun ci=>Ak N [.int .i64 ch,.int .i64 ci] 2 false true cg ay fun cj az=>Aw N [.str ([114,97,116,101]:Lu)] 1 false true cj az fun ck=>Ax .i64 (((c.drop (h.toNat*9)).take 9).drop 5) fun cl=>Ax .i64 (((c.drop (h.toNat*9)).take 9).drop 6) fun cm=>Ak N [.int .i64 cl,.int .i64 cm] 2 false true ck az fun cn ba=>Aw N [.str ([101,102,102,105,99,105,101,110,99,121]:Lu)] 1 false true cn ba fun co=>cond (ble 2 ((((c.drop (h.toNat*9)).take 9).drop 7).length)) (cond ((!a)||(A0 ((((c.drop (h.toNat*9)).take 9).drop 7).take 2))) (cond ((beq (((((c.drop (h.toNat*9)).take 9).drop 7).take 2).length) 2)&&(ble 2 2)) (Dv N ((setCells [Bbz,Bbz] 0 ((((c.drop (h.toNat*9)).take 9).drop 7).take 2)).take 2) 1 false true co ba fun bb cp=>cond (ble (bb.length+1) 140737488355328) (k3 aj (wrap .i64 (h+1)) (bb++([10]:Lu)) cp) none) none) none) none) none) none) none) none) none) (A5 5 (b.drop 6) fun d o=>q4 d o (o:Int) 0 ab ac))
def Ev(r0:Lu->Bool->O R)(c:LA)(p:Nat)(a:Bool)(b:LA):Nat->Int->Int->Lu->Bool->O R
|0=>fun _ _ _ _=>none
|n+1=>L0 N r0 c p a b (Ev r0 c p a b n) (fun d o=>Eu N r0 d o a b N)
def L8(r0:Lu->Bool->O R)(i:LA)(q:Nat)(a:Bool)(b:LA)(k2:Int->Int->Lu->Bool->O R)(q3:LA->Nat->Int->Int->Lu->Bool->O R)(ak v:Int)(al:Lu)(am:Bool):O R:=(cond (decide (v<ak)) (cond (Ac v q) (cond (ble 22 ((i.drop (v.toNat*22)).length)) (cond ((beq 0 0)&&((beq (((i.drop (v.toNat*22)).take 22).length) 22)&&(beq 22 22))) (cond (ble 8 b.length) (cond (ble 22 (((i.drop (v.toNat*22)).take 22).length)) (N9 N (b.take 8) a (((i.drop (v.toNat*22)).take 22).take 22) a al am fun cq cr=>k2 ak (wrap .i64 (v+1)) cq cr) none) none) none) none) none) (A5 9 (b.drop 5) fun c p=>q3 c p (p:Int) 0 al am))
def Gz(r0:Lu->Bool->O R)(i:LA)(q:Nat)(a:Bool)(b:LA):Nat->Int->Int->Lu->Bool->O R
|0=>fun _ _ _ _=>none
|n+1=>L8 N r0 i q a b (Gz r0 i q a b n) (fun c p=>Ev N r0 c p a b N)
def L9(r0:Lu->Bool->O R)(j:LA)(r:Nat)(a:Bool)(b:LA)(k1:Int->Int->Lu->Bool->O R)(q2:LA->Nat->Int->Int->Lu->Bool->O R)(an w:Int)(ao:Lu)(ap:Bool):O R:=(cond (decide (w<an)) (cond (Ac w r) (cond (ble 12 ((j.drop (w.toNat*12)).length)) (cond ((beq 0 0)&&((beq (((j.drop (w.toNat*12)).take 12).length) 12)&&(beq 12 12))) (cond (ble 8 b.length) (cond (ble 12 (((j.drop (w.toNat*12)).take 12).length)) (Ur N (b.take 8) a (((j.drop (w.toNat*12)).take 12).take 12) a ao ap fun cs ct=>k1 an (wrap .i64 (w+1)) cs ct) none) none) none) none) none) (A5 22 (b.drop 4) fun i q=>q2 i q (q:Int) 0 ao ap))
def G0(r0:Lu->Bool->O R)(j:LA)(r:Nat)(a:Bool)(b:LA):Nat->Int->Int->Lu->Bool->O R
|0=>fun _ _ _ _=>none
|n+1=>L9 N r0 j r a b (G0 r0 j r a b n) (fun i q=>Gz N r0 i q a b N)
def Ma(r0:Lu->Bool->O R)(f:LA)(l:Nat)(a:Bool)(b:LA)(k0:Int->Int->Lu->Bool->O R)(q1:LA->Nat->Int->Int->Lu->Bool->O R)(aq t:Int)(ad:Lu)(ae:Bool):O R:=(cond (decide (t<aq)) (cond (Ac t l) (cond (ble 3 ((f.drop (t.toNat*3)).length)) (cond ((beq 0 0)&&((beq (((f.drop (t.toNat*3)).take 3).length) 3)&&(beq 3 3))) (cond (ble (ad.length+3) 140737488355328) (Gv ((f.drop (t.toNat*3)).take 3) fun cu=>Aw N [.str cu,.str ([100,101,109,97,110,100]:Lu)] 2 false true (ad++([98,117,115]:Lu)) ae fun cv=>A5 1 (((f.drop (t.toNat*3)).take 3).drop 1) fun cw cx=>Ak N cw cx false a cv ae fun cy bc=>Aw N [.str ([115,104,101,100]:Lu)] 1 false true cy bc fun cz=>Ax .i64 (((f.drop (t.toNat*3)).take 3).drop 2) fun da=>Ak N [.int .i64 da] 1 false true cz bc fun bd db=>cond (ble (bd.length+1) 140737488355328) (k0 aq (wrap .i64 (t+1)) (bd++([10]:Lu)) db) none) none) none) none) none) (A5 12 (b.drop 3) fun j r=>q1 j r (r:Int) 0 ad ae))
def Dy(r0:Lu->Bool->O R)(f:LA)(l:Nat)(a:Bool)(b:LA):Nat->Int->Int->Lu->Bool->O R
|0=>fun _ _ _ _=>none
|n+1=>Ma N r0 f l a b (Dy r0 f l a b n) (fun j r=>G0 N r0 j r a b N)
def Ry(r0:Lu->Bool->O R)(q0:LA->Nat->Int->Int->Lu->Bool->O R)(b:LA)(a:Bool)(x:Lu)(y:Bool):O R:=(cond (ble (x.length+4) 140737488355328) (Ax .i64 b fun dc=>Ak N [.int .i64 dc] 1 false true (x++([99,97,115,101]:Lu)) y fun dd be=>Aw N [.str ([114,101,115,101,114,118,101]:Lu)] 1 false true dd be fun de=>A5 1 (b.drop 1) fun df dg=>Ak N df dg false a de be fun bf dh=>cond (ble (bf.length+1) 140737488355328) (A5 3 (b.drop 2) fun f l=>q0 f l (l:Int) 0 (bf++([10]:Lu)) dh) none) none)
def J3:=(Ad fun N b a x y r0=>Ry (R:=R) N r0 (fun f l=>Dy N r0 f l a b N) b a x y).1
def EY(b a x y r0):(@J3 R N b a x y r0)=(Ry N r0 (fun f l=>Dy N r0 f l a b N) b a x y):=by rw[J3,(Ad _).2]
def HG:Hints:={H:=hK 6 (hS (hK 1 (hS (hP [0,3,43,44,45] hL) hL)) (hS (hK 1 (hS (hP [0,3,82,83,84] hL) hL)) (hS (hK 1 (hS (hP [0,3,94,95,96] hL) hL)) (hS (hK 1 (hS (hP [0,3,106,107,108] hL) hL)) (hS (hK 1 (hS (hP [0,3,173,174,175] hL) hL)) (hK 1 (hS (hP [0,3,225,226,227] hL) hL)))))))}
def MH:Vx:=[Lv N,Rv N,kj N,ko N,MF N,dW N]
def G1(F:KF R):=K8 Tryz.f51 HG (MH N) [100000] N F
def iL(g:LA)(m:Nat)(a:Bool)(b:LA)(K:St->O R):=fun af u ag ah=>K ⟨[(0,.optr 100000 0),(3,op 0),(225,.imm g m 4 false a),(226,iv af),(227,iv u)],[(100000,bN 0 [.str ag,.bool ah]),(300000,bP a 0 b)]⟩
def iM(d:LA)(o:Nat)(a:Bool)(b:LA)(K:St->O R):=fun ai s z aa=>K ⟨[(0,.optr 100000 0),(3,op 0),(173,.imm d o 5 false a),(174,iv ai),(175,iv s)],[(100000,bN 0 [.str z,.bool aa]),(300000,bP a 0 b)]⟩
def iN(c:LA)(p:Nat)(a:Bool)(b:LA)(K:St->O R):=fun aj h ab ac=>K ⟨[(0,.optr 100000 0),(3,op 0),(106,.imm c p 9 false a),(107,iv aj),(108,iv h)],[(100000,bN 0 [.str ab,.bool ac]),(300000,bP a 0 b)]⟩
def iO(i:LA)(q:Nat)(a:Bool)(b:LA)(K:St->O R):=fun ak v al am=>K ⟨[(0,.optr 100000 0),(3,op 0),(94,.imm i q 22 false a),(95,iv ak),(96,iv v)],[(100000,bN 0 [.str al,.bool am]),(300000,bP a 0 b)]⟩
def iP(j:LA)(r:Nat)(a:Bool)(b:LA)(K:St->O R):=fun an w ao ap=>K ⟨[(0,.optr 100000 0),(3,op 0),(82,.imm j r 12 false a),(83,iv an),(84,iv w)],[(100000,bN 0 [.str ao,.bool ap]),(300000,bP a 0 b)]⟩
def iQ(f:LA)(l:Nat)(a:Bool)(b:LA)(K:St->O R):=fun aq t ad ae=>K ⟨[(0,.optr 100000 0),(3,op 0),(43,.imm f l 3 false a),(44,iv aq),(45,iv t)],[(100000,bN 0 [.str ad,.bool ae]),(300000,bP a 0 b)]⟩
def XG(F:KF R)(g m a b):∀ n,iL g m a b (Al (G1 N F (pz 89478484) []) n)=(Gy N (Ss F) g m a b n):=Dt fun n e=>(Cj (Ly N (Ss F) g m a b) e:_)
def XH(F:KF R)(d o a b):∀ n,iM d o a b (Al (G1 N F (pz 89478468) []) n)=(Eu N (Ss F) d o a b n):=Dt fun n e=>(Sq (Lz N (Ss F) d o a b) e (CJ fun g m=>(lW ..).trans (XG ..)):_)
def XI(F:KF R)(c p a b):∀ n,iN c p a b (Al (G1 N F (pz 22369604) []) n)=(Ev N (Ss F) c p a b n):=Dt fun n e=>(Sq (L0 N (Ss F) c p a b) e (CJ fun d o=>(lW ..).trans (XH ..)):_)
def XJ(F:KF R)(i q a b):∀ n,iO i q a b (Al (G1 N F (pz 5592388) []) n)=(Gz N (Ss F) i q a b n):=Dt fun n e=>(Sq (L8 N (Ss F) i q a b) e (CJ fun c p=>(lW ..).trans (XI ..)):_)
def XK(F:KF R)(j r a b):∀ n,iP j r a b (Al (G1 N F (pz 1398084) []) n)=(G0 N (Ss F) j r a b n):=Dt fun n e=>(Sq (L9 N (Ss F) j r a b) e (CJ fun i q=>(lW ..).trans (XJ ..)):_)
def XL(F:KF R)(f l a b):∀ n,iQ f l a b (Al (G1 N F (pz 349508) []) n)=(Dy N (Ss F) f l a b n):=Dt fun n e=>(Sq (Ma N (Ss F) f l a b) e (CJ fun j r=>(lW ..).trans (XK ..)):_)
def kp:=Cr N 51 (MH N) HG (fun
|[.optr 100000 0,.pagg b a],[(100000,⟨false,false,false,false,0,[.str x,.bool y],false,none⟩)]=>some fun _ k=>J3 N b a x y (Ss k)
| _,_=>none) fun _ _=>by split;intro R F;exact(Cj (Ry N (Ss F) · _ _ _ _) (CJ fun f l=>(lW ..).trans (XL ..)):_).trans (EY ..).symm;trivial
def Y7(k2:Bool->Int->O R)(r0:Lu->Int->O R)(c:Nat)(b:Bool)(a f:LA)(k3:Bool->Int->Int->O R)(p:Bool)(l h:Int):O R:=(cond (decide (h<(c:Int))) (cond (Ac h c) (Gv (f.drop (0+(h.toNat*1))) fun s=>ST N s fun t=>cond (!t) (r0 ([]:Lu) 9) (cond (p==false) (cond ((decide ((0:Int)<=(0:Int)))&&((decide (0<=h))&&((decide (h<=(c:Int)))&&(decide ((c:Int)<=(c:Int)))))) (cond (Ac h c) (Gv (f.drop (0+(h.toNat*1))) fun u=>nG N (f.take (h.toNat*1)) h.toNat false true u fun v=>k3 (cond false true (decide (v>=0))) l (wrap .i64 (h+1))) none) none) (k3 true l (wrap .i64 (h+1))))) none) (k2 p (wrap .i64 (l+1))))
def M6(k2:Bool->Int->O R)(r0:Lu->Int->O R)(c:Nat)(b:Bool)(a f:LA):Nat->Bool->Int->Int->O R
|0=>fun _ _ _=>none
|n+1=>Y7 N k2 r0 c b a f (M6 k2 r0 c b a f n)
def Y8(r0:Lu->Int->O R)(d:LA)(g:Nat)(b:Bool)(a:LA)(k4:Int->Int->O R)(m i:Int):O R:=(cond (decide (i<m)) (cond (Ac i g) (cond (ble 4 ((d.drop (i.toNat*4)).length)) (cond ((beq 0 0)&&((beq (((d.drop (i.toNat*4)).take 4).length) 4)&&(beq 4 4))) (QY (((d.drop (i.toNat*4)).take 4).drop 2) fun w=>cond ((!w)==true) (A5 3 (((d.drop (i.toNat*4)).take 4).drop 3) fun af x=>cond (cond true (decide ((x:Int)>0)) false) (r0 ([]:Lu) 16) (k4 m (wrap .i64 (i+1)))) (k4 m (wrap .i64 (i+1)))) none) none) none) (cond (ble 8 a.length) (J3 N (a.take 8) b ([]:Lu) false fun r y=>cond y (r0 ([]:Lu) 3) (cond (decide (((r.length:Nat):Int)>1048576)) (r0 ([]:Lu) 8) (r0 r 0))) none))
def M7(r0:Lu->Int->O R)(d:LA)(g:Nat)(b:Bool)(a:LA):Nat->Int->Int->O R
|0=>fun _ _=>none
|n+1=>Y8 N r0 d g b a (M7 r0 d g b a n)
def Y9(r0:Lu->Int->O R)(b:Bool)(a:LA)(k2:Bool->Int->O R)(q3:Nat->LA->Bool->Int->Int->O R)(q4:LA->Nat->Int->Int->O R)(q:Bool)(o:Int):O R:=(cond (decide (o<=6)) (cond (ble 8 a.length) (Hh N (a.take 8) b o fun c f=>q3 c f q o 0) none) (cond q (r0 ([]:Lu) 10) (cond (ble 8 a.length) (JW N (a.take 8) b fun z=>cond (!z) (r0 ([]:Lu) 12) (A5 4 (a.drop 7) fun d g=>q4 d g (g:Int) 0)) none)))
def M8(r0:Lu->Int->O R)(b:Bool)(a:LA):Nat->Bool->Int->O R
|0=>fun _ _=>none
|n+1=>Y9 N r0 b a (M8 r0 b a n) (fun c f=>M6 N (M8 r0 b a n) r0 c b a f N) (fun d g=>M7 N r0 d g b a N)
def MI(r0:Lu->Int->O R)(b:Bool)(a:LA)(q2:Bool->Int->O R):O R:=(cond (ble 8 a.length) (LW N (a.take 8) b fun aa=>cond (!aa) (r0 ([]:Lu) 4) (q2 false 1)) none)
def DF(r0:Lu->Int->O R)(b:Bool)(a:LA):O R:=MI N r0 b a (M8 N r0 b a N)
def Za(r0:Lu->Int->O R)(b:Bool)(a:LA)(k0:Int->O R)(q1:O R)(j:Int):O R:=(cond (decide (j<=6)) (cond (ble 8 a.length) (Hh N (a.take 8) b j fun ab ag=>Sw N j fun ac=>cond (decide ((ab:Int)>ac)) (r0 ([]:Lu) 8) (k0 (wrap .i64 (j+1)))) none) (Ax .i64 a fun ad=>cond ((decide (ad<1))==false) (Ax .i64 a fun ae=>cond (cond false true (decide (ae>24))) (r0 ([]:Lu) 3) q1) (r0 ([]:Lu) 3)))
def M9(r0:Lu->Int->O R)(b:Bool)(a:LA):Nat->Int->O R
|0=>fun _=>none
|n+1=>Za N r0 b a (M9 r0 b a n) (DF N r0 b a)
def PK(N:Nat)(r0:Lu->Int->O R)(q0:Int->O R)(a:LA)(b:Bool):O R:=(q0 1)
def MJ:=(Ad fun N a b r0=>PK (R:=R) N r0 (M9 N r0 b a N) a b).1
def dX(a b r0):(@MJ R N a b r0)=(PK N r0 (M9 N r0 b a N) a b):=by rw[MJ,(Ad _).2]
def j7:Hints:={H:=hK 1 (hS (hK 1 (hS (hP [1,4] hL) hL)) (hJ [1] hL (hK 2 (hS (hK 1 (hS (hP [1,5,6] (hK 1 (hS (hS (hK 2 (hS (hP [1,5,6,7,8] hL) hL)) hL) hL))) hL)) (hK 2 (hS (hK 1 (hS (hP [1,70,71,72] hL) hL)) hL))))))}
def nM:Vx:=[cY N,wQ N,Afl N,Ai6 N,wV N,Ani N,kp N]
def Wd(F:KF R):=K8 Tryz.f18 j7 (nM N) [] N F
def Aad(c:Nat)(b:Bool)(a f:LA)(K:St->O R):=fun p l h=>K ⟨[(1,op 0),(5,.bool p),(6,iv l),(7,Bby 1 c),(8,iv h)],hq [bP b 0 a,bQ 1 f]⟩
def Aae(d:LA)(g:Nat)(b:Bool)(a:LA)(K:St->O R):=fun m i=>K ⟨[(1,op 0),(70,.imm d g 4 false b),(71,iv m),(72,iv i)],hq [bP b 0 a]⟩
def RL(b:Bool)(a:LA)(K:St->O R):=fun q o=>K ⟨[(1,op 0),(5,.bool q),(6,iv o)],hq [bP b 0 a]⟩
def Aaf(b:Bool)(a:LA)(K:St->O R):=K ⟨[(1,op 0)],hq [bP b 0 a]⟩
def Aag(b:Bool)(a:LA)(K:St->O R):=fun j=>K ⟨[(1,op 0),(4,iv j)],hq [bP b 0 a]⟩
def qT Q2 (F:KF R) (c b a f):∀ n,Aad c b a f (Al (Wd N F (pz 1431372820) [Q2]) n)=(M6 N (RL b a Q2) (Z4 F) c b a f n):=Dt fun n e=>(Cj (Y7 N (RL b a Q2) (Z4 F) c b a f) e:_)
def qU(F:KF R)(d g b a):∀ n,Aae d g b a (Al (Wd N F (pz 5592388) []) n)=(M7 N (Z4 F) d g b a n):=Dt fun n e=>(Cj (Y8 N (Z4 F) d g b a) e:_)
def qV(F:KF R)(b a):∀ n,RL b a (Al (Wd N F (pz 87364) []) n)=(M8 N (Z4 F) b a n):=Dt fun n e=>(A11 (Y9 N (Z4 F) b a) e (CJ fun c f=>(lW ..).trans ((qT ..).trans (jK (M6 _ · _ _ _ _ _ _) e))) (CJ fun d g=>(lW ..).trans (qU ..)):_)
def qW(F:KF R)(b a):Aaf b a (By (Wd N F (pz 85) []))=(DF N (Z4 F) b a):=(Cj (MI N (Z4 F) b a) ((lW ..).trans (qV ..)):_)
def qX(F:KF R)(b a):∀ n,Aag b a (Al (Wd N F (pz 324) []) n)=(M9 N (Z4 F) b a n):=Dt fun n e=>(Sq (Za N (Z4 F) b a) e ((jW ..).trans (qW ..)):_)
def Afu:=Cr N 18 (nM N) j7 (fun
|[.pagg a b],[]=>some fun _ k=>MJ N a b (Z4 k)
| _,_=>none) fun _ _=>by split;intro R F;exact(Cj (PK N (Z4 F) · _ _) ((lW ..).trans (qX ..)):_).trans (dX ..).symm;trivial
def dY(a:LA)(b:Nat)(d c:Bool)(r0:Lu->O R):O R:=(IR N a b false c fun e=>MJ N e false fun f g=>r0 f)
def MK:=(Ad (@dY R)).1
def dZ:@MK R=@dY R:=(Ad _).2
def Afv:=Cr N 8 [Ab5 N,Afu N] Cp (fun
|[.imm a b 1 d c],[]=>some fun _ k=>MK N a b d c (mF k)
| _,_=>none) fun _ _=>by split;intro R F;dsimp only;rw[dZ];kernel_rfl;trivial
def Xf(a:Lu)(b:Int)(r0:Int->O R):O R:=(Hp N a b fun c=>r0 c)
def Zb:=(Ad (@Xf R)).1
def AC:@Zb R=@Xf R:=(Ad _).2
def iR:=Cr N 53 [Yy N] Cp (fun
|[.str a,.int .u8 b],[]=>some fun _ k=>Zb N a b (C5 k)
| _,_=>none) fun _ _=>by split;intro R F;dsimp only;rw[AC];kernel_rfl;trivial
def RM(N:Nat)(a:Int)(r0:Bool->O R):O R:=(cond ((a==32)==false) (cond ((cond false true (a==9))==false) (r0 (cond false true (a==13))) (r0 true)) (r0 true))
def IS:=(Ad (@RM R)).1
def TQ:@IS R=@RM R:=(Ad _).2
def xN:=Cr N 55 [] Cp (fun
|[.int .i32 a],[]=>some fun _ k=>IS N a (Bk k)
| _,_=>none) fun _ _=>by split;intro R F;dsimp only;rw[TQ];kernel_rfl;trivial
def Jq(N:Nat)(r0:Nat->LA->O R)(a:Lu)(b:Nat)(c:LA)(k2:Int->Int->LA->O R)(l g:Int)(j:LA):O R:=(cond (decide (g<l)) (cond (Ac g b) (cond (ble 2 ((c.drop (0+(g.toNat*2))).length)) (cond ((beq (((c.drop (0+(g.toNat*2))).take 2).length) 2)&&((ble 2 2)&&(!false))) (Ax .i64 (setCells [Bbz,Bbz] 0 ((c.drop (0+(g.toNat*2))).take 2)) fun m=>Ax .i64 ((setCells [Bbz,Bbz] 0 ((c.drop (0+(g.toNat*2))).take 2)).drop 1) fun o=>cond ((decide (0<=m))&&((decide (m<=o))&&((decide (o<=((a.length:Nat):Int)))&&(decide (((a.length:Nat):Int)<=((a.length:Nat):Int)))))) (cond (Ac g b) (cond ((beq 1 1)&&((ble ((0+(g.toNat*1))+1) j.length)&&(!false))) (k2 l (wrap .i64 (g+1)) (j.set (0+(g.toNat*1)) (.str (take (o.toNat - m.toNat) (drop m.toNat a))))) none) none) none) none) none) none) (r0 b j))
def Fg(r0:Nat->LA->O R)(a:Lu)(b:Nat)(c:LA):Nat->Int->Int->LA->O R
|0=>fun _ _ _=>none
|n+1=>Jq N r0 a b c (Fg r0 a b c n)
def Pl(N:Nat)(r0:Nat->LA->O R)(a:Lu)(q2:Nat->LA->Int->Int->LA->O R)(b:Nat)(c:LA):O R:=(cond ((decide (0<=(b:Int)))&&((decide ((b:Int)<=(b:Int)))&&((decide ((b:Int)<=140737488355328))&&(decide (((b:Int)*((16:Nat):Int))<=140737488355328))))) (q2 b c (b:Int) 0 (replicate b (.str ([]:Lu)))) none)
def Kw(r0:Nat->LA->O R)(a:Lu)(b:Nat)(c:LA):O R:=Pl N r0 a (fun b c=>Fg N r0 a b c N) b c
def Jr(r0:Nat->LA->O R)(a:Lu)(k0:Nat->Int->LA->Int->O R)(q1:Nat->LA->O R)(d:Nat)(h:Int)(i:LA)(f:Int):O R:=(cond (decide (f<((a.length:Nat):Int))) (IS N (((FX a f).1:Nat):Int) fun p=>cond p (cond (decide (h>=0)) (cond ((ble (d+1) 140737488355328)&&(ble ((d+1)*16) 140737488355328)) (k0 (d+1) (Ad6 .i64 (-1) h) ((i.take (d*2))++[.int .i64 h,.int .i64 f]) (f+(((FX a f).2:Nat):Int))) none) (k0 d h i (f+(((FX a f).2:Nat):Int)))) (cond (decide (h<0)) (k0 d f i (f+(((FX a f).2:Nat):Int))) (k0 d h i (f+(((FX a f).2:Nat):Int))))) (cond (decide (h>=0)) (cond ((ble (d+1) 140737488355328)&&(ble ((d+1)*16) 140737488355328)) (q1 (d+1) ((i.take (d*2))++[.int .i64 h,.int .i64 ((a.length:Nat):Int)])) none) (q1 d i)))
def D3(r0:Nat->LA->O R)(a:Lu):Nat->Nat->Int->LA->Int->O R
|0=>fun _ _ _ _=>none
|n+1=>Jr N r0 a (D3 r0 a n) (Kw N r0 a)
def Nq(N:Nat)(r0:Nat->LA->O R)(q0:Nat->Int->LA->Int->O R)(a:Lu):O R:=(q0 0 (-1) [] 0)
def Hq:=(Ad fun N a r0=>Nq (R:=R) N r0 (D3 N r0 a N) a).1
def Zc(a r0):(@Hq R N a r0)=(Nq N r0 (D3 N r0 a N) a):=by rw[Hq,(Ad _).2]
def AD:Hints:={H:=hK 3 (hS (hK 1 (hS (hP [0,1,5,6,14] hL) hL)) (hJ [0,5] hL (hK 1 (hS (hK 1 (hS (hP [0,9,47,48,49] hL) hL)) hL)))),nils:=[(4,1)],modes:=[(2,1)]}
def EZ:Vx:=[xN N]
def Re(F:KF R):=K8 Tryz.f54 AD (EZ N) [] N F
def aP(a:Lu)(b:Nat)(c:LA)(K:St->O R):=fun l g j=>K ⟨[(0,.str a),(9,Bby 0 b),(47,Bby 1 b),(48,iv l),(49,iv g)],hq [bQ 1 j,bQ 2 c]⟩
def aQ(a:Lu)(K:St->O R):=fun b c=>K ⟨[(0,.str a),(5,Bby 0 b)],hq [bQ 2 c]⟩
def aR(a:Lu)(K:St->O R):=fun d h i f=>K ⟨[(0,.str a),(1,.fn 55 []),(5,Bby 0 d),(6,iv h),(14,.omap 300001)],hq [bQ 2 i,⟨false,false,true,false,1,[.str a,iv f],true,none⟩]⟩
def RN(F:KF R)(a b c):∀ n,aP a b c (Al (Re N F (pz 349508) []) n)=(Fg N (Gb F) a b c n):=Dt fun n e=>(Cj (Jq N (Gb F) a b c) e:_)
def RO(F:KF R)a:aQ a (By (Re N F (pz 1365) []))=(Kw N (Gb F) a):=(Cj (Pl N (Gb F) a) (CJ fun b c=>(lW ..).trans (RN ..)):_)
def RP(F:KF R)a:∀ n,aR a (Al (Re N F (pz 5444) []) n)=(D3 N (Gb F) a n):=Dt fun n e=>(Sq (Jr N (Gb F) a) e ((jW ..).trans (RO ..)):_)
def d5:=Cr N 54 (EZ N) AD (fun
|[.str a,.fn 55 []],[]=>some fun _ k=>Hq N a (Gb k)
| _,_=>none) fun _ _=>by split;intro R F;exact(Cj (Nq N (Gb F) · _) ((lW ..).trans (RP ..)):_).trans (Zc ..).symm;trivial
def qY(a:Lu)(r0:Nat->LA->O R):O R:=(Zb N a 35 fun b=>cond (decide (b>=0)) (cond ((decide ((0:Int)<=(0:Int)))&&((decide (0<=b))&&((decide (b<=((a.length:Nat):Int)))&&(decide (((a.length:Nat):Int)<=((a.length:Nat):Int)))))) (Hq N (take b.toNat a) fun c d=>r0 c d) none) (Hq N a fun e f=>r0 e f))
def nN:=(Ad (@qY R)).1
def nP:@nN R=@qY R:=(Ad _).2
def Anj:=Cr N 22 [iR N,d5 N] Ah8 (fun
|[.str a],[]=>some fun _ k=>nN N a (Gb k)
| _,_=>none) fun _ _=>by split;intro R F;dsimp only;rw[nP];kernel_rfl;trivial
def d6(N:Nat)(s:RB)(r0:Bool->O R):O R:=(r0 (s.er==0))
def Na:=(Ad (@d6 R)).1
def PL:@Na R=@d6 R:=(Ad _).2
def ZT:=Cr N 25 [] Cp (VP fun
|[.optr 100000 0],s=>some fun _ k=>Na N s (At2 s k)
| _,_=>none) (aF fun _ s=>by split;intro R F;dsimp only;rw[PL];kernel_rfl;trivial)
def Zd(s:RB)(r0:Bool->O R):O R:=(Na N s fun a=>cond (a==true) (r0 (cond true (decide (s.nx<(s.nw:Int))) false)) (r0 false))
def Gg:=(Ad (@Zd R)).1
def Ze:@Gg R=@Zd R:=(Ad _).2
def Qk:=Cr N 23 [ZT N] Cp (VP fun
|[.optr 100000 0],s=>some fun _ k=>Gg N s (At2 s k)
| _,_=>none) (aF fun _ s=>by split;intro R F;dsimp only;rw[Ze];kernel_rfl;trivial)
def d7(N:Nat)(a:Int)(s:RB)(r0:Int->O R):O R:=(cond (s.er==0) (r0 a) (r0 s.er))
def Av:=(Ad (@d7 R)).1
def nQ:@Av R=@d7 R:=(Ad _).2
def Bu:=Cr N 57 [] Cp (VP fun
|[.optr 100000 0,.int .i64 a],s=>some fun _ k=>Av N a s (Ayo s k)
| _,_=>none) (aF fun _ s=>by split;intro R F;dsimp only;rw[nQ];kernel_rfl;trivial)
def ML(s:RB)(r0:Lu->Bool->Int->Int->O R):O R:=(Gg N s fun a=>cond (!a) (Av N 2 s fun b=>r0 ([]:Lu) false s.nx b) (cond (Ac (wrap .i64 ((wrap .i64 (s.nx+1)) - 1)) s.nw) (Gv (s.cw.drop (0+(((wrap .i64 ((wrap .i64 (s.nx+1)) - 1)).toNat)*1))) fun c=>r0 c true (wrap .i64 (s.nx+1)) s.er) none))
def Cb:=(Ad (@ML R)).1
def PM:@Cb R=@ML R:=(Ad _).2
def qZ(s:RB)(F:KF R):Lu->Bool->Int->Int->O R:=fun d e f g=>F (.tup [.str d,.bool e]) [(100000,bN 0 [.own 100001 0 s.nw,iv f,iv g,iv s.th,.own 100002 0 s.nR,.own 100003 0 s.nB,.own 100004 0 s.nL,.own 100005 0 s.nU,.own 100006 0 s.nS,.own 100007 0 s.nT,.own 100008 0 s.nO,.bool s.bg,.own 100009 0 s.zA,.own 100010 0 s.zB,.own 100011 0 s.zC,.own 100012 0 s.zD,.own 100013 0 s.zE,.own 100014 0 s.zF,.own 100015 0 s.zG]),(100001,bQ 1 s.cw),(100002,bQ 1 s.cR),(100003,bQ 3 s.cB),(100004,bQ 12 s.cL),(100005,bQ 22 s.cU),(100006,bQ 9 s.cS),(100007,bQ 5 s.cT),(100008,bQ 4 s.cO),(100009,bQ 1 s.yA),(100010,bQ 1 s.yB),(100011,bQ 1 s.yC),(100012,bQ 1 s.yD),(100013,bQ 1 s.yE),(100014,bQ 1 s.yF),(100015,bQ 1 s.yG)]
def Cc:=Cr N 56 [Qk N,Bu N] Cp (VP fun
|[.optr 100000 0],s=>some fun _ k=>Cb N s (qZ s k)
| _,_=>none) (aF fun _ s=>by split;intro R F;dsimp only;rw[PM];kernel_rfl;trivial)
def Eb(N:Nat)(a b:Lu)(r0:Bool->O R):O R:=(cond ((decide (((a.length:Nat):Int)>=((b.length:Nat):Int)))==true) (cond ((decide ((0:Int)<=(0:Int)))&&((decide (0<=((b.length:Nat):Int)))&&((decide (((b.length:Nat):Int)<=((a.length:Nat):Int)))&&(decide (((a.length:Nat):Int)<=((a.length:Nat):Int)))))) (r0 (cond true ((take b.length a)==b) false)) none) (r0 false))
def Hr:=(Ad (@Eb R)).1
def Fw:@Hr R=@Eb R:=(Ad _).2
def Zf:=Cr N 219 [] Cp (fun
|[.str a,.str b],[]=>some fun _ k=>Hr N a b (Bk k)
| _,_=>none) fun _ _=>by split;intro R F;dsimp only;rw[Fw];kernel_rfl;trivial
def Oi(N:Nat)(r0:Int->O R)(b:LA)(a:Nat)(c d:Bool)(k0:Int->Int->Int->O R)(g h f:Int):O R:=(cond (decide (f<h)) (cond (Ac f a) (Ax .u32 (b.drop (f.toNat*1)) fun i=>cond (decide ((wrap .i64 (32*f))<0)) none (k0 (rt .u64 g (wrap .u64 ((wrap .u64 i)*2 ^ (min ((wrap .i64 (32*f)).toNat) 64)))) h (wrap .i64 (f+1)))) none) (r0 g))
def Nb(r0:Int->O R)(b:LA)(a:Nat)(c d:Bool):Nat->Int->Int->Int->O R
|0=>fun _ _ _=>none
|n+1=>Oi N r0 b a c d (Nb r0 b a c d n)
def nV(N:Nat)(r0:Int->O R)(q0:Int->Int->Int->O R)(b:LA)(a:Nat)(c d:Bool):O R:=(q0 0 (a:Int) 0)
def nW:=(Ad fun N b a c d r0=>nV (R:=R) N r0 (Nb N r0 b a c d N) b a c d).1
def sR(b a c d r0):(@nW R N b a c d r0)=(nV N r0 (Nb N r0 b a c d N) b a c d):=by rw[nW,(Ad _).2]
def xO:Hints:={H:=hK 2 (hS (hK 1 (hS (hP [3,6,7,8] hL) hL)) hL)}
def Ank(F:KF R):=K8 Tryz.f225 xO [] [] N F
def XM(F:KF R):Int->O R:=fun j=>F (.int .u64 j) []
def Anl(b:LA)(a:Nat)(c d:Bool)(K:St->O R):=fun g h f=>K ⟨[(3,.int .u64 g),(6,.imm b a 1 c d),(7,iv h),(8,iv f)],[]⟩
def Aah(F:KF R)(b a c d):∀ n,Anl b a c d (Al (Ank N F (pz 1348) []) n)=(Nb N (XM F) b a c d n):=Dt fun n e=>(Cj (Oi N (XM F) b a c d) e:_)
def Aru:=Cr N 225 [] xO (fun
|[.imm b a 1 c d],[]=>some fun _ k=>nW N b a c d (XM k)
| _,_=>none) fun _ _=>by split;intro R F;exact(Cj (nV N (XM F) · _ _ _ _) ((lW ..).trans (Aah ..)):_).trans (sR ..).symm;trivial
def kq(b:LA)(c:Nat)(d a:Bool)(r0:Int->Bool->O R):O R:=(Hm N b c d a fun f e=>cond (decide ((e:Int)>2)) (r0 0 false) (nW N f e false a fun g=>r0 g true))
def TR:=(Ad (@kq R)).1
def j8:@TR R=@kq R:=(Ad _).2
def Ai7:=Cr N 205 [EN N,Aru N] Cp (fun
|[.imm b c 1 d a],[]=>some fun _ k=>TR N b c d a (Aic k)
| _,_=>none) fun _ _=>by split;intro R F;dsimp only;rw[j8];kernel_rfl;trivial
def E_(N:Nat)(r0:Int->Int->Bool->O R)(b a:Int)(d:Bool)(c:LA)(e:Bool):O R:=(cond e (r0 0 0 false) (cond (a==0) (r0 0 1 true) (QY c fun f=>cond f (r0 (wrap .i64 ((0:Int) - (wrap .i64 b))) (wrap .i64 a) true) (r0 (wrap .i64 b) (wrap .i64 a) true))))
def gI(r0:Int->Int->Bool->O R)(q0:Int->Int->Bool->O R)(c:LA)(d:Bool):O R:=(A5 1 (c.drop 1) fun g h=>TR N g h false d fun b i=>A5 1 (c.drop 2) fun j l=>TR N j l false d fun a m=>cond ((!i)==false) (cond ((cond false true (!m))==false) (cond ((cond false true (decide (b>=2147483648)))==false) (q0 b a (cond false true (decide (a>=2147483648)))) (q0 b a true)) (q0 b a true)) (q0 b a true))
def MM:=(Ad fun N c d r0=>gI (R:=R) N r0 (fun b a=>E_ N r0 b a d c) c d).1
def nX(c d r0):(@MM R N c d r0)=(gI N r0 (fun b a=>E_ N r0 b a d c) c d):=by rw[MM,(Ad _).2]
def sS:Hints:={H:=hK 3 (hS (hS (hJ [1,5,6,21] hL hL) hL) hL)}
def xP:Vx:=[Ai7 N]
def Ai8(F:KF R):=K8 Tryz.f172 sS (xP N) [] N F
def d8(F:KF R):Int->Int->Bool->O R:=fun n o p=>F (.tup [iv n,iv o,.bool p]) []
def Ai9(b a:Int)(d:Bool)(c:LA)(K:St->O R):=fun e=>K ⟨[(1,op 0),(5,.int .u64 b),(6,.int .u64 a),(21,.bool e)],hq [bP d 0 c]⟩
def xQ(F:KF R)(b a d c):Ai9 b a d c (By (Ai8 N F (pz 5441) []))=(E_ N (d8 F) b a d c):=by kernel_rfl
def xR:=Cr N 172 (xP N) sS (fun
|[.pagg c d],[]=>some fun _ k=>MM N c d (d8 k)
| _,_=>none) fun _ _=>by split;intro R F;exact(Cj (gI N (d8 F) · _ _) (CJ fun b a=>(jW ..).trans (xQ ..)):_).trans (nX ..).symm;trivial
def BJ(N:Nat)(a:Int)(r0:Bool->O R):O R:=(r0 (a != a))
def Wu:=(Ad (@BJ R)).1
def HH:@Wu R=@BJ R:=(Ad _).2
def nY:=Cr N 206 [] Cp (fun
|[.int .i64 a],[]=>some fun _ k=>Wu N a (Bk k)
| _,_=>none) fun _ _=>by split;intro R F;dsimp only;rw[HH];kernel_rfl;trivial
def Xg(a b:Int)(r0:Int->O R):O R:=(Wu N a fun d=>Wu N b fun c=>cond d (cond c (r0 0) (r0 (-1))) (cond c (r0 1) (cond (decide (a<b)) (r0 (-1)) (cond (decide (a>b)) (r0 1) (r0 0)))))
def Rz:=(Ad (@Xg R)).1
def AE:@Rz R=@Xg R:=(Ad _).2
def iS:=Cr N 173 [nY N] Cp (fun
|[.int .i64 a,.int .i64 b],[]=>some fun _ k=>Rz N a b (C5 k)
| _,_=>none) fun _ _=>by split;intro R F;dsimp only;rw[AE];kernel_rfl;trivial
def RQ(N:Nat)(r0:Int->O R)(c:Bool)(a:LA)(d:Bool)(b:LA):O R:=(cond (ble 3 a.length) none none)
def PN(r0:Int->O R)(q0:O R)(a:LA)(c:Bool)(b:LA)(d:Bool):O R:=(cond (ble 3 a.length) (mv N (a.take 3) c fun e=>cond (ble 3 b.length) (mv N (b.take 3) d fun f=>cond (e != f) (Ws N e f fun g=>r0 g) (cond (ble 3 a.length) (MM N (a.take 3) c fun h i j=>cond (ble 3 b.length) (MM N (b.take 3) d fun l m n=>cond (j==true) (cond (cond true n false) (Rz N (wrap .i64 (h*m)) (wrap .i64 (l*i)) fun o=>r0 o) q0) q0) none) none)) none) none)
def BK:=(Ad fun N a c b d r0=>PN (R:=R) N r0 (RQ N r0 c a d b) a c b d).1
def d9(a c b d r0):(@BK R N a c b d r0)=(PN N r0 (RQ N r0 c a d b) a c b d):=by rw[BK,(Ad _).2]
def j9:Hints:={H:=hK 4 (hJ [2,3] hL hL)}
def nZ:Vx:=[Arm N,mw N,xR N,iS N]
def Aai(F:KF R):=K8 Tryz.f151 j9 (nZ N) [] N F
def Aaj(c:Bool)(a:LA)(d:Bool)(b:LA)(K:St->O R):=K ⟨[(2,op 0),(3,op 1)],hq [bP c 0 a,bP d 0 b]⟩
def q_(F:KF R)(c a d b):Aaj c a d b (By (Aai N F (pz 1365) []))=(RQ N (C5 F) c a d b):=by kernel_rfl
def Afw:=Cr N 151 (nZ N) j9 (fun
|[.pagg a c,.pagg b d],[]=>some fun _ k=>BK N a c b d (C5 k)
| _,_=>none) fun _ _=>by split;intro R F;exact(Cj (PN N (C5 F) · _ _ _ _) ((jW ..).trans (q_ ..)):_).trans (d9 ..).symm;trivial
def Ql(r0:LA->O R)(a b c:Int)(k1:Int->Int->O R)(d f:Int):O R:=(cond (f != 0) (cond (f==0) none (k1 f (Int.tmod d f))) (cond (d==0) none (M3 N (wrap .u64 (Int.tdiv c d)) fun g i=>cond (d==0) none (M3 N (wrap .u64 (Int.tdiv (wrap .u64 b) d)) fun h j=>r0 [.bool (decide (a<0)),.imm (i.take (g*1)) g 1 false false,.imm (j.take (h*1)) h 1 false false]))))
def Eg(r0:LA->O R)(a b c:Int):Nat->Int->Int->O R
|0=>fun _ _=>none
|n+1=>Ql N r0 a b c (Eg r0 a b c n)
def GF(N:Nat)(r0:LA->O R)(a b:Int)(q1:Int->Int->Int->O R)(c:Int):O R:=(q1 c (wrap .u64 b) c)
def Zg(r0:LA->O R)(a b:Int)(c:Int):O R:=GF N r0 a b (fun c=>Eg N r0 a b c N) c
def IT(N:Nat)(r0:LA->O R)(q0:Int->O R)(a b:Int):O R:=(cond (decide (a<0)) (q0 (wrap .u64 ((0:Int) - (wrap .u64 a)))) (q0 (wrap .u64 a)))
def Xx:=(Ad fun N a b r0=>IT (R:=R) N r0 (Zg N r0 a b) a b).1
def ZU(a b r0):(@Xx R N a b r0)=(IT N r0 (Zg N r0 a b) a b):=by rw[Xx,(Ad _).2]
def d_:Hints:={H:=hK 2 (hJ [0,1,4,5] hL (hK 1 (hS (hS (hP [0,1,4,5,6,7] hL) hL) hL))),modes:=[(3,0)]}
def j_:Vx:=[ZN N]
def eA(F:KF R):=K8 Tryz.f176 d_ (j_ N) [] N F
def xS(a b c:Int)(K:St->O R):=fun d f=>K ⟨[(0,iv a),(1,iv b),(4,op 0),(5,.int .u64 c),(6,.int .u64 d),(7,.int .u64 f)],hq [bN 0 [.bool false,.nsl,.nsl]]⟩
def xT(a b:Int)(K:St->O R):=fun c=>K ⟨[(0,iv a),(1,iv b),(4,op 0),(5,.int .u64 c)],hq [bN 0 [.bool false,.nsl,.nsl]]⟩
def n0(F:KF R)(a b c):∀ n,xS a b c (Al (eA N F (pz 5456) []) n)=(Eg N (Sr F) a b c n):=Dt fun n e=>(Cj (Ql N (Sr F) a b c) e:_)
def n_(F:KF R)(a b):xT a b (By (eA N F (pz 85) []))=(Zg N (Sr F) a b):=(Cj (GF N (Sr F) a b) (Awo fun c=>(lW ..).trans (n0 ..)):_)
def Aak:=Cr N 176 (j_ N) d_ (fun
|[.int .i64 a,.int .i64 b],[]=>some fun _ k=>Xx N a b (Sr k)
| _,_=>none) fun _ _=>by split;intro R F;exact(Cj (IT N (Sr F) · _ _) ((jW ..).trans (n_ ..)):_).trans (ZU ..).symm;trivial
def xU(a:LA)(b:Bool)(r0:LA->O R):O R:=(cond (ble 3 a.length) (MM N (a.take 3) b fun d e f=>cond f (Xx N d e fun c=>cond ((beq 0 0)&&((beq c.length 3)&&(beq 3 3))) (cond (ble 3 c.length) (r0 (c.take 3)) none) none) (cond (ble 3 a.length) none none)) none)
def gJ:=(Ad (@xU R)).1
def sT:@gJ R=@xU R:=(Ad _).2
def qa:=Cr N 153 [xR N,Aak N] Ah9 (fun
|[.pagg a b],[]=>some fun _ k=>gJ N a b (Sr k)
| _,_=>none) fun _ _=>by split;intro R F;dsimp only;rw[sT];kernel_rfl;trivial
def Afx(c:LA)(d:Bool)(r0:LA->O R):O R:=(QY c fun g=>A5 1 (c.drop 1) fun h i=>A5 1 (c.drop 2) fun j l=>cond (beq c.length 3) (gJ N [.bool g,.imm h i 1 false d,.imm j l 1 false d] (d||(d||false)) fun a=>cond ((beq 0 0)&&((beq a.length 3)&&(beq 3 3))) (cond (ble 2 a.length) (qG N (a.take 2) false fun e b f=>cond ((beq 2 2)&&((ble 2 a.length)&&(!false))) (cond (ble 3 ((Gh a 0 [.bool e,.imm (f.take (b*1)) b 1 false false]).length)) (cond ((beq 0 0)&&((beq (((Gh a 0 [.bool e,.imm (f.take (b*1)) b 1 false false]).take 3).length) 3)&&(beq 3 3))) (cond (ble 3 (((Gh a 0 [.bool e,.imm (f.take (b*1)) b 1 false false]).take 3).length)) (r0 (((Gh a 0 [.bool e,.imm (f.take (b*1)) b 1 false false]).take 3).take 3)) none) none) none) none) none) none) none)
def Afy:=(Ad (@Afx R)).1
def xV:@Afy R=@Afx R:=(Ad _).2
def Aut:=Cr N 152 [qa N,Aiu N] { H:=hL,modes:=[(3,0)],cob:=[1] } (fun
|[.pagg c d],[]=>some fun _ k=>Afy N c d (Sr k)
| _,_=>none) fun _ _=>by split;intro R F;dsimp only;rw[xV];kernel_rfl;trivial
def Afz(b:LA)(d:Bool)(c:LA)(a:Bool)(r0:LA->Bool->O R):O R:=(QY b fun i=>A5 1 (b.drop 1) fun j l=>cond (beq b.length 2) (QY c fun f=>A5 1 (c.drop 1) fun g h=>cond (beq c.length 2) (gF N [.bool f,.imm g h 1 false a] (a||false) fun m=>cond (m==0) (r0 [.bool false,.nsl,.nsl] false) (gJ N [.bool (!(i==f)),.imm j l 1 false d,.imm g h 1 false a] (d||(a||false)) fun e=>cond ((beq 0 0)&&((beq e.length 3)&&(beq 3 3))) (cond (ble 3 e.length) (r0 (e.take 3) true) none) none)) none) none)
def Af0:=(Ad (@Afz R)).1
def xW:@Af0 R=@Afz R:=(Ad _).2
def Arv(F:KF R):LA->Bool->O R:=fun n o=>F (.tup [.pagg n false,.bool o]) []
def Auu:=Cr N 179 [Aby N,qa N] { H:=hL,modes:=[(3,0),(0,0)],cob:=[2,3] } (fun
|[.pagg b d,.pagg c a],[]=>some fun _ k=>Af0 N b d c a (Arv k)
| _,_=>none) fun _ _=>by split;intro R F;dsimp only;rw[xW];kernel_rfl;trivial
def Ec(a b:Lu)(r0:Lu->Bool->O R):O R:=(Hr N a b fun c=>cond (!c) (r0 a false) (cond ((decide (0<=((b.length:Nat):Int)))&&((decide (((b.length:Nat):Int)<=((a.length:Nat):Int)))&&((decide (((a.length:Nat):Int)<=((a.length:Nat):Int)))&&(decide (((a.length:Nat):Int)<=((a.length:Nat):Int)))))) (r0 (take (a.length - b.length) (drop b.length a)) true) none))
def Hs:=(Ad (@Ec R)).1
def Fx:@Hs R=@Ec R:=(Ad _).2
def Zh:=Cr N 194 [Zf N] Cp (fun
|[.str a,.str b],[]=>some fun _ k=>Hs N a b (Ayp k)
| _,_=>none) fun _ _=>by split;intro R F;dsimp only;rw[Fx];kernel_rfl;trivial
def Pm(a b:Lu)(r0:Lu->Bool->O R):O R:=(Hs N a b fun c d=>r0 c d)
def Gq:=(Ad (@Pm R)).1
def Rf:@Gq R=@Pm R:=(Ad _).2
def Vm:=Cr N 162 [Zh N] Cp (fun
|[.str a,.str b],[]=>some fun _ k=>Gq N a b (Ayp k)
| _,_=>none) fun _ _=>by split;intro R F;dsimp only;rw[Rf];kernel_rfl;trivial
def Wv(N:Nat)(r0:Bool->O R)(a:Lu)(k0:Int->O R)(b:Int):O R:=(cond (decide (b<((a.length:Nat):Int))) (cond ((decide ((((FX a b).1:Nat):Int)<48))==false) (cond (cond false true (decide ((((FX a b).1:Nat):Int)>57))) (r0 false) (k0 (b+(((FX a b).2:Nat):Int)))) (r0 false)) (r0 (!(a==([]:Lu)))))
def Kn(r0:Bool->O R)(a:Lu):Nat->Int->O R
|0=>fun _=>none
|n+1=>Wv N r0 a (Kn r0 a n)
def IU(N:Nat)(r0:Bool->O R)(q0:Int->O R)(a:Lu):O R:=(q0 0)
def Xy:=(Ad fun N a r0=>IU (R:=R) N r0 (Kn N r0 a N) a).1
def ZV(a r0):(@Xy R N a r0)=(IU N r0 (Kn N r0 a N) a):=by rw[Xy,(Ad _).2]
def eC:Hints:={H:=hK 1 (hS (hK 1 (hS (hP [0,6] hL) hL)) hL)}
def xX(F:KF R):=K8 Tryz.f195 eC [] [] N F
def xY(a:Lu)(K:St->O R):=fun b=>K ⟨[(0,.str a),(6,.omap 300000)],hq [⟨false,false,true,false,1,[.str a,iv b],true,none⟩]⟩
def na(F:KF R)a:∀ n,xY a (Al (xX N F (pz 324) []) n)=(Kn N (Bk F) a n):=Dt fun n e=>(Cj (Wv N (Bk F) a) e:_)
def ja:=Cr N 195 [] eC (fun
|[.str a],[]=>some fun _ k=>Xy N a (Bk k)
| _,_=>none) fun _ _=>by split;intro R F;exact(Cj (IU N (Bk F) · _) ((lW ..).trans (na ..)):_).trans (ZV ..).symm;trivial
def eD(a:Lu)(r0:Bool->O R):O R:=(Xy N a fun b=>cond (b==true) (cond ((a==([48]:Lu))==false) (cond (Ac 0 a.length) (r0 (cond true (cond false true (((UInt8.toNat (List.getD a 0 0):Nat):Int) != 48)) false)) none) (r0 true)) (r0 false))
def BL:=(Ad (@eD R)).1
def eE:@BL R=@eD R:=(Ad _).2
def nc:=Cr N 163 [ja N] Cp (fun
|[.str a],[]=>some fun _ k=>BL N a (Bk k)
| _,_=>none) fun _ _=>by split;intro R F;dsimp only;rw[eE];kernel_rfl;trivial
def XN(a:Lu)(r0:Bool->O R):O R:=(Gq N a ([45]:Lu) fun b c=>BL N b fun d=>cond (d==true) (cond (c==true) (r0 (cond true (!(cond true (b==([48]:Lu)) false)) false)) (r0 true)) (r0 false))
def Xz:=(Ad (@XN R)).1
def ZW:@Xz R=@XN R:=(Ad _).2
def jb:=Cr N 147 [Vm N,nc N] Cp (fun
|[.str a],[]=>some fun _ k=>Xz N a (Bk k)
| _,_=>none) fun _ _=>by split;intro R F;dsimp only;rw[ZW];kernel_rfl;trivial
def Zi(N:Nat)(r0:Bool->O R)(a:Lu)(k0:Int->Int->O R)(c b:Int):O R:=(cond (decide (b<((a.length:Nat):Int))) (cond ((decide ((((FX a b).1:Nat):Int)>=48))==true) (cond (cond true (decide ((((FX a b).1:Nat):Int)<=57)) false) (k0 (wrap .i64 (c+1)) (b+(((FX a b).2:Nat):Int))) (k0 c (b+(((FX a b).2:Nat):Int)))) (k0 c (b+(((FX a b).2:Nat):Int)))) (r0 (decide (c>4096))))
def Nc(r0:Bool->O R)(a:Lu):Nat->Int->Int->O R
|0=>fun _ _=>none
|n+1=>Zi N r0 a (Nc r0 a n)
def PO(N:Nat)(r0:Bool->O R)(q0:Int->Int->O R)(a:Lu):O R:=(q0 0 0)
def BM:=(Ad fun N a r0=>PO (R:=R) N r0 (Nc N r0 a N) a).1
def eF(a r0):(@BM R N a r0)=(PO N r0 (Nc N r0 a N) a):=by rw[BM,(Ad _).2]
def jc:Hints:={H:=hK 2 (hS (hK 1 (hS (hP [3,7] hL) hL)) hL)}
def Aal(F:KF R):=K8 Tryz.f148 jc [] [] N F
def Aam(a:Lu)(K:St->O R):=fun c b=>K ⟨[(3,iv c),(7,.omap 300000)],hq [⟨false,false,true,false,1,[.str a,iv b],true,none⟩]⟩
def qb(F:KF R)a:∀ n,Aam a (Al (Aal N F (pz 1348) []) n)=(Nc N (Bk F) a n):=Dt fun n e=>(Cj (Zi N (Bk F) a) e:_)
def nf:=Cr N 148 [] jc (fun
|[.str a],[]=>some fun _ k=>BM N a (Bk k)
| _,_=>none) fun _ _=>by split;intro R F;exact(Cj (PO N (Bk F) · _) ((lW ..).trans (qb ..)):_).trans (eF ..).symm;trivial
def Us(r0:Bool->Nat->LA->O R)(k0:Int->Bool->LA->Bool->Nat->LA->O R)(c:Int)(b:Bool)(a:LA)(i:Bool)(h:Nat)(j:LA):O R:=(cond (decide (c>0)) (cond ((Int.tmod c 2)==1) (cond (ble 2 a.length) (dJ N [.bool i,.imm (j.take (h*1)) h 1 false true] true (a.take 2) b fun l m o=>cond (decide (c>1)) (cond (ble 2 a.length) (cond (ble 2 a.length) (dJ N (a.take 2) b (a.take 2) b fun r p s=>cond ((beq 2 2)&&((ble 2 a.length)&&(!false))) (k0 (wrap .i64 (Int.tdiv c 2)) (b||false) (Gh a 0 [.bool r,.imm (s.take (p*1)) p 1 false false]) l m o) none) none) none) (k0 (wrap .i64 (Int.tdiv c 2)) b a l m o)) none) (cond (decide (c>1)) (cond (ble 2 a.length) (cond (ble 2 a.length) (dJ N (a.take 2) b (a.take 2) b fun t q u=>cond ((beq 2 2)&&((ble 2 a.length)&&(!false))) (k0 (wrap .i64 (Int.tdiv c 2)) (b||false) (Gh a 0 [.bool t,.imm (u.take (q*1)) q 1 false false]) i h j) none) none) none) (k0 (wrap .i64 (Int.tdiv c 2)) b a i h j))) (r0 i h j))
def Mb(r0:Bool->Nat->LA->O R):Nat->Int->Bool->LA->Bool->Nat->LA->O R
|0=>fun _ _ _ _ _ _=>none
|n+1=>Us N r0 (Mb r0 n)
def gK(r0:Bool->Nat->LA->O R)(q0:Int->Bool->LA->Bool->Nat->LA->O R)(d:LA)(f:Bool)(g:Int):O R:=(O5 N 1 fun v w x=>q0 g f d v w x)
def eG:=(Ad fun N d f g r0=>gK (R:=R) N r0 (Mb N r0 N) d f g).1
def ng(d f g r0):(@eG R N d f g r0)=(gK N r0 (Mb N r0 N) d f g):=by rw[eG,(Ad _).2]
def sU:Hints:={H:=hK 2 (hS (hS (hP [1,2,4,5] hL) hL) hL)}
def xZ:Vx:=[WM N,Ait N]
def Aja(F:KF R):=K8 Tryz.f165 sU (xZ N) [] N F
def Ajb(K:St->O R):=fun c b a i h j=>K ⟨[(1,iv c),(2,op 0),(4,op 1),(5,op 2)],hq [bP b 0 a,bN 0 [.bool false,.nsl],bN 0 [.bool i,Bby 3 h],bQ 1 j]⟩
def x4(F:KF R):∀ n,Ajb (Al (Aja N F (pz 336) []) n)=(Mb N (Aia F) n):=Dt fun n e=>(Cj (Us N (Aia F)) e:_)
def Anm:=Cr N 165 (xZ N) sU (fun
|[.pagg d f,.int .i64 g],[]=>some fun _ k=>eG N d f g (Aia k)
| _,_=>none) fun _ _=>by split;intro R F;exact(Cj (gK N (Aia F) · _ _ _) ((lW ..).trans (x4 ..)):_).trans (ng ..).symm;trivial
def Zj(k0:Lu->Bool->Nat->LA->O R)(r0:LA->O R)(b c:Bool)(a:Nat)(d:LA)(f:Lu)(g:Int)(p:Bool)(o:Nat)(q:LA):O R:=(cond ((decide ((0:Int)<=(0:Int)))&&((decide (0<=g))&&((decide (g<=((f.length:Nat):Int)))&&(decide (((f.length:Nat):Int)<=((f.length:Nat):Int)))))) (IN N (take g.toNat f) fun v=>dJ N [.bool p,.imm (q.take (o*1)) o 1 false true] true [.bool c,.imm (d.take (a*1)) a 1 false true] true fun w r x=>O5 N v fun y s z=>Ae5 N [.bool w,.imm (x.take (r*1)) r 1 false true] true [.bool y,.imm (z.take (s*1)) s 1 false true] true fun aa ab ac=>cond ((decide (0<=g))&&((decide (g<=((f.length:Nat):Int)))&&((decide (((f.length:Nat):Int)<=((f.length:Nat):Int)))&&(decide (((f.length:Nat):Int)<=((f.length:Nat):Int)))))) (k0 (take (f.length - g.toNat) (drop g.toNat f)) aa ab ac) none) none)
def RR(r0:LA->O R)(b c:Bool)(a:Nat)(d:LA)(k0:Lu->Bool->Nat->LA->O R)(q1:Lu->Int->Bool->Nat->LA->O R)(j:Lu)(l:Bool)(h:Nat)(m:LA):O R:=(cond (!(j==([]:Lu))) (cond ((Int.tmod ((j.length:Nat):Int) 9)==0) (q1 j 9 l h m) (q1 j (Int.tmod ((j.length:Nat):Int) 9) l h m)) (cond b (qG N [.bool l,.imm (m.take (h*1)) h 1 false true] true fun ad t ae=>r0 [.bool ad,.imm (ae.take (t*1)) t 1 false false]) (r0 [.bool l,.imm (m.take (h*1)) h 1 false false])))
def Mc(r0:LA->O R)(b c:Bool)(a:Nat)(d:LA):Nat->Lu->Bool->Nat->LA->O R
|0=>fun _ _ _ _=>none
|n+1=>RR N r0 b c a d (Mc r0 b c a d n) (Zj N (Mc r0 b c a d n) r0 b c a d)
def XO(r0:LA->O R)(q0:Bool->Bool->Nat->LA->Lu->Bool->Nat->LA->O R)(i:Lu):O R:=(Gq N i ([45]:Lu) fun af b=>O5 N 0 fun ag ah ai=>O5 N 10 fun aj u ak=>eG N [.bool aj,.imm (ak.take (u*1)) u 1 false true] true 9 fun c a d=>q0 b c a d af ag ah ai)
def BN:=(Ad fun N i r0=>XO (R:=R) N r0 (fun b c a d=>Mc N r0 b c a d N) i).1
def jd(i r0):(@BN R N i r0)=(XO N r0 (fun b c a d=>Mc N r0 b c a d N) i):=by rw[BN,(Ad _).2]
def nh:Hints:={H:=hK 4 (hS (hS (hP [0,2,3,4,5] (hK 1 (hS (hK 1 (hJ [0,2,3,4,5,6] hL hL)) hL))) hL) hL),modes:=[(3,0)]}
def sV:Vx:=[Vm N,WM N,Anm N,Aiu N,xH N,Ait N,Aul N]
def ni(F:KF R):=K8 Tryz.f149 nh (sV N) [] N F
def Af1(b c:Bool)(a:Nat)(d:LA)(K:St->O R):=fun f g p o q=>K ⟨[(0,.str f),(2,op 0),(3,.bool b),(4,op 1),(5,op 2),(6,iv g)],hq [bN 0 [.bool false,.nsl],bN 0 [.bool p,Bby 3 o],bN 0 [.bool c,Bby 4 a],bQ 1 q,bQ 1 d]⟩
def nk(b c:Bool)(a:Nat)(d:LA)(K:St->O R):=fun j l h m=>K ⟨[(0,.str j),(2,op 0),(3,.bool b),(4,op 1),(5,op 2)],hq [bN 0 [.bool false,.nsl],bN 0 [.bool l,Bby 3 h],bN 0 [.bool c,Bby 4 a],bQ 1 m,bQ 1 d]⟩
def uV Q0 (F:KF R) (b c a d):Af1 b c a d (By (ni N F (pz 5587013) [Q0]))=(Zj N (nk b c a d Q0) (Sr F) b c a d):=by kernel_rfl
def uW(F:KF R)(b c a d):∀ n,nk b c a d (Al (ni N F (pz 5456) []) n)=(Mc N (Sr F) b c a d n):=Dt fun n e=>(Sq (RR N (Sr F) b c a d) e ((jW ..).trans ((uV ..).trans (jK (Zj _ · _ _ _ _ _) e))):_)
def sW:=Cr N 149 (sV N) nh (fun
|[.str i],[]=>some fun _ k=>BN N i (Sr k)
| _,_=>none) fun _ _=>by split;intro R F;exact(Cj (XO N (Sr F) · _) (Abl fun b c a d=>(lW ..).trans (uW ..)):_).trans (jd ..).symm;trivial
def XP(a:Lu)(r0:LA->Int->O R):O R:=(Xz N a fun c=>cond (!c) (r0 [.bool false,.nsl] 2) (BM N a fun d=>cond d (r0 [.bool false,.nsl] 8) (BN N a fun b=>cond ((beq 0 0)&&((beq b.length 2)&&(beq 2 2))) (cond (ble 2 b.length) (r0 (b.take 2) 0) none) none)))
def PP:=(Ad (@XP R)).1
def ZX:@PP R=@XP R:=(Ad _).2
def Aan:=Cr N 136 [jb N,nf N,sW N] { H:=hL,modes:=[(3,0),(0,0)] } (fun
|[.str a],[]=>some fun _ k=>PP N a (Qd k)
| _,_=>none) fun _ _=>by split;intro R F;dsimp only;rw[ZX];kernel_rfl;trivial
def IV(N:Nat)(r0:Int->Bool->O R)(g:LA)(f:Nat)(d:Bool)(c:LA)(k2:Int->Int->Int->O R)(j l h:Int):O R:=(cond (decide (h<l)) (cond (Ac h f) (Ax .u32 (g.drop (h.toNat*1)) fun o=>k2 (wrap .i64 o) l (wrap .i64 (h+1))) none) (QY c fun p=>cond p (r0 (wrap .i64 ((0:Int) - j)) true) (r0 j true)))
def Tg(r0:Int->Bool->O R)(g:LA)(f:Nat)(d:Bool)(c:LA):Nat->Int->Int->Int->O R
|0=>fun _ _ _=>none
|n+1=>IV N r0 g f d c (Tg r0 g f d c n)
def XQ(N:Nat)(r0:Int->Bool->O R)(q2:LA->Nat->Bool->LA->Int->Int->Int->O R)(d:Bool)(c:LA):O R:=(A5 1 (c.drop 1) fun g f=>q2 g f d c 0 (f:Int) 0)
def PQ(r0:Int->Bool->O R)(d:Bool)(c:LA):O R:=XQ N r0 (fun g f d c=>Tg N r0 g f d c N) d c
def XR(r0:Int->Bool->O R)(b:Bool)(a:LA)(q1:Bool->LA->O R):O R:=(cond (ble 3 a.length) (gJ N (a.take 3) b fun m=>cond ((beq m.length 3)&&((ble 3 a.length)&&(!false))) (A5 1 ((setCells a 0 m).drop 2) fun z q=>cond (((q:Int) != 1)==false) (A5 1 ((setCells a 0 m).drop 2) fun r s=>cond (Ac 0 s) (Ax .u32 r fun t=>cond (cond false true (t != 1)) (r0 0 false) (q1 (b||false) (setCells a 0 m))) none) (r0 0 false)) none) none)
def PR(r0:Int->Bool->O R)(b:Bool)(a:LA):O R:=XR N r0 b a (PQ N r0)
def gM(r0:Int->Bool->O R)(q0:O R)(a:LA)(b:Bool):O R:=(WR N 1073741824 fun i=>cond ((beq 0 0)&&((beq i.length 3)&&(beq 3 3))) (cond (ble 3 a.length) (cond (ble 3 i.length) (BK N (a.take 3) b (i.take 3) false fun u=>cond ((decide (u>0))==false) (cond (ble 3 a.length) (cond (ble 3 i.length) (Afy N (i.take 3) false fun v=>BK N (a.take 3) b v false fun w=>cond (cond false true (decide (w<0))) (r0 0 false) q0) none) none) (r0 0 false)) none) none) none)
def MN:=(Ad fun N a b r0=>gM (R:=R) N r0 (PR N r0 b a) a b).1
def nn(a b r0):(@MN R N a b r0)=(gM N r0 (PR N r0 b a) a b):=by rw[MN,(Ad _).2]
def sX:Hints:={H:=hK 2 (hJ [1] hL (hK 1 (hJ [1] hL (hK 1 (hS (hK 1 (hS (hP [1,5,35,36,37] hL) hL)) hL)))))}
def x5:Vx:=[Ae6 N,Afw N,Aut N,qa N]
def eH(F:KF R):=K8 Tryz.f137 sX (x5 N) [] N F
def Oj(F:KF R):Int->Bool->O R:=fun x y=>F (.tup [iv x,.bool y]) []
def Ajc(g:LA)(f:Nat)(d:Bool)(c:LA)(K:St->O R):=fun j l h=>K ⟨[(1,op 0),(5,iv j),(35,.imm g f 1 false d),(36,iv l),(37,iv h)],hq [bP d 0 c]⟩
def Ajd(K:St->O R):=fun d c=>K ⟨[(1,op 0)],hq [bP d 0 c]⟩
def Aje(b:Bool)(a:LA)(K:St->O R):=K ⟨[(1,op 0)],hq [bP b 0 a]⟩
def x6(F:KF R)(g f d c):∀ n,Ajc g f d c (Al (eH N F (pz 349508) []) n)=(Tg N (Oj F) g f d c n):=Dt fun n e=>(Cj (IV N (Oj F) g f d c) e:_)
def x7(F:KF R):Ajd (By (eH N F (pz 1365) []))=(PQ N (Oj F)):=(Cj (XQ N (Oj F)) (Abl fun g f d c=>(lW ..).trans (x6 ..)):_)
def x8(F:KF R)(b a):Aje b a (By (eH N F (pz 85) []))=(PR N (Oj F) b a):=(Cj (XR N (Oj F) b a) ((jW ..).trans (x7 ..)):_)
def x9:=Cr N 137 (x5 N) sX (fun
|[.pagg a b],[]=>some fun _ k=>MN N a b (Oj k)
| _,_=>none) fun _ _=>by split;intro R F;exact(Cj (gM N (Oj F) · _ _) ((jW ..).trans (x8 ..)):_).trans (nn ..).symm;trivial
def x_(b:Lu)(r0:Int->Bool->Int->O R):O R:=(PP N b fun a c=>cond ((beq 0 0)&&((beq a.length 2)&&(beq 2 2))) (cond (c==0) (cond (ble 2 a.length) (cond ((beq ((a.take 2).length) 2)&&(ble 2 3)) (cond ((beq 1 1)&&(ble 3 ((setCells [.bool false,.nsl,.nsl] 0 (a.take 2)).length))) (MN N ((setCells [.bool false,.nsl,.nsl] 0 (a.take 2)).set 2 (.imm [.int .u32 1] 1 1 false false)) false fun d e=>r0 d e 0) none) none) none) (cond (c==2) (r0 0 false c) (r0 0 false 0))) none)
def PS:=(Ad (@x_ R)).1
def sY:@PS R=@x_ R:=(Ad _).2
def Ann(F:KF R):Int->Bool->Int->O R:=fun f g h=>F (.tup [iv f,.bool g,iv h]) []
def Ab6:=Cr N 106 [Aan N,x9 N] { H:=hL,cob:=[4000020] } (fun
|[.str b],[]=>some fun _ k=>PS N b (Ann k)
| _,_=>none) fun _ _=>by split;intro R F;dsimp only;rw[sY];kernel_rfl;trivial
def BO(c d:Int)(s:RB)(r0:Int->Int->Int->O R):O R:=(Cb N s fun g h a b=>cond (!h) (r0 0 a b) (PS N g fun e i f=>cond (f != 0) (Av N f {s with nx:=a,er:=b} (fun j=>r0 0 a j)) (cond ((!i)==false) (cond ((cond false true (decide (e<c)))==false) (cond (cond false true (decide (e>d))) (Av N 3 {s with nx:=a,er:=b} (fun l=>r0 0 a l)) (r0 e a b)) (Av N 3 {s with nx:=a,er:=b} (fun m=>r0 0 a m))) (Av N 3 {s with nx:=a,er:=b} (fun n=>r0 0 a n)))))
def Qm:=(Ad (@BO R)).1
def HI:@Qm R=@BO R:=(Ad _).2
def PT:=Cr N 58 [Cc N,Ab6 N,Bu N] Cp (VP fun
|[.optr 100000 0,.int .i64 c,.int .i64 d],s=>some fun _ k=>Qm N c d s (gv s k)
| _,_=>none) (aF fun _ s=>by split;intro R F;dsimp only;rw[HI];kernel_rfl;trivial)
def GG(b:Lu)(s:RB)(r0:Int->Int->O R):O R:=(Cb N s fun d e a c=>cond (e==true) (cond (cond true (!(d==b)) false) (Av N 2 {s with nx:=a,er:=c} (fun f=>r0 a f)) (r0 a c)) (r0 a c))
def Ao:=(Ad (@GG R)).1
def MO:@Ao R=@GG R:=(Ad _).2
def np(s:RB)(F:KF R):Int->Int->O R:=fun g h=>F (.tup []) [(100000,bN 0 [.own 100001 0 s.nw,iv g,iv h,iv s.th,.own 100002 0 s.nR,.own 100003 0 s.nB,.own 100004 0 s.nL,.own 100005 0 s.nU,.own 100006 0 s.nS,.own 100007 0 s.nT,.own 100008 0 s.nO,.bool s.bg,.own 100009 0 s.zA,.own 100010 0 s.zB,.own 100011 0 s.zC,.own 100012 0 s.zD,.own 100013 0 s.zE,.own 100014 0 s.zF,.own 100015 0 s.zG]),(100001,bQ 1 s.cw),(100002,bQ 1 s.cR),(100003,bQ 3 s.cB),(100004,bQ 12 s.cL),(100005,bQ 22 s.cU),(100006,bQ 9 s.cS),(100007,bQ 5 s.cT),(100008,bQ 4 s.cO),(100009,bQ 1 s.yA),(100010,bQ 1 s.yB),(100011,bQ 1 s.yC),(100012,bQ 1 s.yD),(100013,bQ 1 s.yE),(100014,bQ 1 s.yF),(100015,bQ 1 s.yG)]
def Ht:=Cr N 59 [Cc N,Bu N] Cp (VP fun
|[.optr 100000 0,.str b],s=>some fun _ k=>Ao N b s (np s k)
| _,_=>none) (aF fun _ s=>by split;intro R F;dsimp only;rw[MO];kernel_rfl;trivial)
def RS(N:Nat)(r0:Int->O R)(a:Lu)(k1:Int->O R)(c:Int):O R:=(cond ((decide (c>0))==true) (cond (Ac (wrap .i64 (c - 1)) a.length) (cond (cond true (((UInt8.toNat (List.getD a ((wrap .i64 (c - 1)).toNat) 0):Nat):Int)==47) false) (k1 (wrap .i64 (c - 1))) (r0 c)) none) (r0 c))
def Ut(r0:Int->O R)(a:Lu):Nat->Int->O R
|0=>fun _=>none
|n+1=>RS N r0 a (Ut r0 a n)
def DG(N:Nat)(r0:Int->O R)(a:Lu)(k0:Int->O R)(q1:Int->O R)(b:Int):O R:=(cond ((decide (b<((a.length:Nat):Int)))==true) (cond (Ac b a.length) (cond ((decide (((UInt8.toNat (List.getD a b.toNat 0):Nat):Int)>=48))==true) (cond (Ac b a.length) (cond ((cond true (decide (((UInt8.toNat (List.getD a b.toNat 0):Nat):Int)<=57)) false)==false) (cond (Ac b a.length) (cond ((cond false true (((UInt8.toNat (List.getD a b.toNat 0):Nat):Int)==45))==false) (cond (Ac b a.length) (cond ((cond false true (((UInt8.toNat (List.getD a b.toNat 0):Nat):Int)==46))==false) (cond (Ac b a.length) (cond (cond true (cond false true (((UInt8.toNat (List.getD a b.toNat 0):Nat):Int)==47)) false) (k0 (wrap .i64 (b+1))) (q1 b)) none) (k0 (wrap .i64 (b+1)))) none) (k0 (wrap .i64 (b+1)))) none) (k0 (wrap .i64 (b+1)))) none) (cond (Ac b a.length) (cond ((cond false true (((UInt8.toNat (List.getD a b.toNat 0):Nat):Int)==45))==false) (cond (Ac b a.length) (cond ((cond false true (((UInt8.toNat (List.getD a b.toNat 0):Nat):Int)==46))==false) (cond (Ac b a.length) (cond (cond true (cond false true (((UInt8.toNat (List.getD a b.toNat 0):Nat):Int)==47)) false) (k0 (wrap .i64 (b+1))) (q1 b)) none) (k0 (wrap .i64 (b+1)))) none) (k0 (wrap .i64 (b+1)))) none)) none) (q1 b))
def Ij(r0:Int->O R)(a:Lu):Nat->Int->O R
|0=>fun _=>none
|n+1=>DG N r0 a (Ij r0 a n) (Ut N r0 a N)
def XS(N:Nat)(r0:Int->O R)(q0:Int->O R)(a:Lu):O R:=(q0 0)
def TS:=(Ad fun N a r0=>XS (R:=R) N r0 (Ij N r0 a N) a).1
def je(a r0):(@TS R N a r0)=(XS N r0 (Ij N r0 a N) a):=by rw[TS,(Ad _).2]
def nq:Hints:={H:=hK 2 (hS (hS (hP [0,3] hL) hL) (hS (hS (hP [0,3] hL) hL) hL))}
def nr(F:KF R):=K8 Tryz.f154 nq [] [] N F
def Af2(a:Lu)(K:St->O R):=fun c=>K ⟨[(0,.str a),(3,iv c)],[]⟩
def Af3(a:Lu)(K:St->O R):=fun b=>K ⟨[(0,.str a),(3,iv b)],[]⟩
def uX(F:KF R)a:∀ n,Af2 a (Al (nr N F (pz 1360) []) n)=(Ut N (C5 F) a n):=Dt fun n e=>(Cj (RS N (C5 F) a) e:_)
def uY(F:KF R)a:∀ n,Af3 a (Al (nr N F (pz 336) []) n)=(Ij N (C5 F) a n):=Dt fun n e=>(Sq (DG N (C5 F) a) e ((lW ..).trans (uX ..)):_)
def Ajf:=Cr N 154 [] nq (fun
|[.str a],[]=>some fun _ k=>TS N a (C5 k)
| _,_=>none) fun _ _=>by split;intro R F;exact(Cj (XS N (C5 F) · _) ((lW ..).trans (uY ..)):_).trans (je ..).symm;trivial
def eI(r0:Lu->Lu->Bool->O R)(d:Bool)(c a b:Lu):O R:=(cond (ble (c.length+a.length) 140737488355328) (cond d (cond (ble (1+(List.length (c++a))) 140737488355328) (strings_Repeat N ([48]:Lu) ((a.length:Nat):Int) fun g=>cond (ble (1+g.length) 140737488355328) (r0 (([45]:Lu)++(c++a)) (([49]:Lu)++g) true) none) none) (strings_Repeat N ([48]:Lu) ((a.length:Nat):Int) fun h=>cond (ble (1+h.length) 140737488355328) (r0 (c++a) (([49]:Lu)++h) true) none)) none)
def gN(r0:Lu->Lu->Bool->O R)(q0:Bool->Lu->Lu->O R)(b:Lu):O R:=(Xz N b fun i=>cond i (r0 b ([49]:Lu) true) (strings_Cut N b ([47]:Lu) fun e f j=>cond j (Xz N e fun l=>cond (l==true) (BL N f fun m=>r0 e f (cond true m false)) (r0 e f false)) (Gq N b ([45]:Lu) fun n d=>strings_Cut N n ([46]:Lu) fun c a t=>BL N c fun o=>cond ((!o)==false) (Xy N a fun p=>cond (cond false true (!p)) (r0 ([]:Lu) ([]:Lu) false) (q0 d c a)) (r0 ([]:Lu) ([]:Lu) false))))
def eJ:=(Ad fun N b r0=>gN (R:=R) N r0 (fun d c a=>eI N r0 d c a b) b).1
def nv(b r0):(@eJ R N b r0)=(gN N r0 (fun d c a=>eI N r0 d c a b) b):=by rw[eJ,(Ad _).2]
def sZ:Hints:={H:=hK 5 (hJ [6,7,8] hL hL)}
def xa:Vx:=[jb N,RF N,nc N,Vm N,ja N,qM N]
def Ajg(F:KF R):=K8 Tryz.f178 sZ (xa N) [] N F
def eK(F:KF R):Lu->Lu->Bool->O R:=fun q r s=>F (.tup [.str q,.str r,.bool s]) []
def Ajh(d:Bool)(c a b:Lu)(K:St->O R):=K ⟨[(6,.bool d),(7,.str c),(8,.str a)],[]⟩
def xb(F:KF R)(d c a b):Ajh d c a b (By (Ajg N F (pz 5461) []))=(eI N (eK F) d c a b):=by kernel_rfl
def Ano:=Cr N 178 (xa N) sZ (fun
|[.str b],[]=>some fun _ k=>eJ N b (eK k)
| _,_=>none) fun _ _=>by split;intro R F;exact(Cj (gN N (eK F) · _) (Aw0 fun d c a=>(jW ..).trans (xb ..)):_).trans (nv ..).symm;trivial
def XT(b:Lu)(r0:LA->Int->O R):O R:=(eJ N b fun c d e=>cond (!e) (r0 [.bool false,.nsl,.nsl] 2) (BM N b fun f=>cond f (r0 [.bool false,.nsl,.nsl] 8) (BN N c fun g=>BN N d fun h=>Af0 N g false h false fun a i=>cond ((beq 0 0)&&((beq a.length 3)&&(beq 3 3))) (cond (!i) (r0 [.bool false,.nsl,.nsl] 5) (cond (ble 3 a.length) (cond ((beq 0 0)&&((beq ((a.take 3).length) 3)&&(beq 3 3))) (cond (ble 3 ((a.take 3).length)) (r0 ((a.take 3).take 3) 0) none) none) none)) none)))
def PU:=(Ad (@XT R)).1
def ZY:@PU R=@XT R:=(Ad _).2
def Aao:=Cr N 155 [Ano N,nf N,sW N,Auu N] { H:=hL,modes:=[(3,0),(0,0)] } (fun
|[.str b],[]=>some fun _ k=>PU N b (Qd k)
| _,_=>none) fun _ _=>by split;intro R F;dsimp only;rw[ZY];kernel_rfl;trivial
def eM(N:Nat)(r0:LA->LA->Int->O R)(c:LA)(d:Lu):O R:=none
def gP(r0:LA->LA->Int->O R)(q0:LA->Lu->O R)(a:Lu):O R:=(TS N a fun b=>cond ((decide ((0:Int)<=(0:Int)))&&((decide (0<=b))&&((decide (b<=((a.length:Nat):Int)))&&(decide (((a.length:Nat):Int)<=((a.length:Nat):Int)))))) (PU N (take b.toNat a) fun c e=>cond ((beq 0 0)&&((beq c.length 3)&&(beq 3 3))) (cond (e != 0) (r0 [.bool false,.nsl,.nsl] [Bbz,Bbz,Bbz,Bbz] e) (cond ((decide (0<=b))&&((decide (b<=((a.length:Nat):Int)))&&((decide (((a.length:Nat):Int)<=((a.length:Nat):Int)))&&(decide (((a.length:Nat):Int)<=((a.length:Nat):Int)))))) (cond ((take (a.length - b.toNat) (drop b.toNat a))==([]:Lu)) (cond (ble 3 c.length) (cond ((beq 0 0)&&((beq ((c.take 3).length) 3)&&(beq 3 3))) (cond (ble 3 ((c.take 3).length)) (r0 ((c.take 3).take 3) [Bbz,Bbz,Bbz,Bbz] 0) none) none) none) (cond ((take (a.length - b.toNat) (drop b.toNat a))==([32]:Lu)) (r0 [.bool false,.nsl,.nsl] [Bbz,Bbz,Bbz,Bbz] 2) (cond (Ac 0 (List.length (take (a.length - b.toNat) (drop b.toNat a)))) (cond (((UInt8.toNat (List.getD (take (a.length - b.toNat) (drop b.toNat a)) 0 0):Nat):Int)==32) (cond ((decide ((0:Int)<=(1:Int)))&&((decide (1<=(((List.length (take (a.length - b.toNat) (drop b.toNat a))):Nat):Int)))&&((decide ((((List.length (take (a.length - b.toNat) (drop b.toNat a))):Nat):Int)<=(((List.length (take (a.length - b.toNat) (drop b.toNat a))):Nat):Int)))&&(decide ((((List.length (take (a.length - b.toNat) (drop b.toNat a))):Nat):Int)<=(((List.length (take (a.length - b.toNat) (drop b.toNat a))):Nat):Int)))))) (q0 c (take ((List.length (take (a.length - b.toNat) (drop b.toNat a))) - 1) (drop 1 (take (a.length - b.toNat) (drop b.toNat a))))) none) (q0 c (take (a.length - b.toNat) (drop b.toNat a)))) none))) none)) none) none)
def TT:=(Ad fun N a r0=>gP (R:=R) N r0 (fun c=>eM N r0 c) a).1
def ny(a r0):(@TT R N a r0)=(gP N r0 (fun c=>eM N r0 c) a):=by rw[TT,(Ad _).2]
def s6:Hints:={H:=hK 7 (hJ [2,3,6,8] hL hL),modes:=[(3,0),(3,0),(0,0)]}
def xc:Vx:=[Ajf N,Aao N]
def Aji(F:KF R):=K8 Tryz.f138 s6 (xc N) [] N F
def eN(F:KF R):LA->LA->Int->O R:=fun f g h=>F (.tup [.pagg f false,.pagg g false,iv h]) []
def Ajj(c:LA)(K:St->O R):=fun d=>K ⟨[(2,op 0),(3,op 1),(6,op 2),(8,.str d)],hq [bN 0 [.bool false,.nsl,.nsl],bQ 0 [iv 0,iv 0,iv 0,iv 0],bQ 0 c]⟩
def xd(F:KF R)c:Ajj c (By (Aji N F (pz 87381) []))=(eM N (eN F) c):=by kernel_rfl
def Anp:=Cr N 138 (xc N) s6 (fun
|[.str a],[]=>some fun _ k=>TT N a (eN k)
| _,_=>none) fun _ _=>by split;intro R F;exact(Cj (gP N (eN F) · _) (Awo fun c=>(jW ..).trans (xd ..)):_).trans (ny ..).symm;trivial
def Jg(r0:Int->Int->Int->O R)(s:RB)(a c:Int)(d:LA):O R:=(cond (ble 3 d.length) (MN N (d.take 3) false fun i j=>cond (!j) (Av N 3 {s with nx:=a,er:=c} (fun l=>r0 0 a l)) (r0 i a c)) none)
def R2(r0:Int->Int->Int->O R)(q0:Int->Int->LA->O R)(b:LA)(f:Bool)(s:RB):O R:=(Cb N s fun g m a c=>cond (!m) (r0 0 a c) (TT N g fun d e h=>cond ((beq 0 0)&&((beq d.length 3)&&(beq 3 3))) (cond ((beq e.length 4)&&((ble 4 4)&&(!false))) (cond (h != 0) (Av N h {s with nx:=a,er:=c} (fun n=>r0 0 a n)) (cond (Ac (wrap .i64 (((g.length:Nat):Int) - 1)) g.length) (cond ((decide (((UInt8.toNat (List.getD g ((wrap .i64 (((g.length:Nat):Int) - 1)).toNat) 0):Nat):Int)<48))==false) (cond ((cond false true (decide (((UInt8.toNat (List.getD g ((wrap .i64 (((g.length:Nat):Int) - 1)).toNat) 0):Nat):Int)>57)))==true) (cond (ble 4 ((setCells [Bbz,Bbz,Bbz,Bbz] 0 e).length)) (cond (ble 4 b.length) (cond ((!f)||(A0 (b.take 4))) (cond ((ble 1 4)&&((beq (((setCells [Bbz,Bbz,Bbz,Bbz] 0 e).take 4).length) 4)&&((beq ((b.take 4).length) 4)&&(true&&(!false))))) (Ax .i64 ((setCells [Bbz,Bbz,Bbz,Bbz] 0 e).take 4) fun o=>Ax .i64 (b.take 4) fun p=>Ax .i64 (((setCells [Bbz,Bbz,Bbz,Bbz] 0 e).take 4).drop 1) fun q=>Ax .i64 ((b.take 4).drop 1) fun r=>Ax .i64 (((setCells [Bbz,Bbz,Bbz,Bbz] 0 e).take 4).drop 2) fun t=>Ax .i64 ((b.take 4).drop 2) fun u=>Ax .i64 (((setCells [Bbz,Bbz,Bbz,Bbz] 0 e).take 4).drop 3) fun v=>Ax .i64 ((b.take 4).drop 3) fun w=>cond (cond true (!((o==p)&&((q==r)&&((t==u)&&((v==w)&&true))))) false) (Av N 15 {s with nx:=a,er:=c} (fun x=>r0 0 a x)) (q0 a c d)) none) none) none) none) (q0 a c d)) (cond (ble 4 ((setCells [Bbz,Bbz,Bbz,Bbz] 0 e).length)) (cond (ble 4 b.length) (cond ((!f)||(A0 (b.take 4))) (cond ((ble 1 4)&&((beq (((setCells [Bbz,Bbz,Bbz,Bbz] 0 e).take 4).length) 4)&&((beq ((b.take 4).length) 4)&&(true&&(!false))))) (Ax .i64 ((setCells [Bbz,Bbz,Bbz,Bbz] 0 e).take 4) fun y=>Ax .i64 (b.take 4) fun z=>Ax .i64 (((setCells [Bbz,Bbz,Bbz,Bbz] 0 e).take 4).drop 1) fun aa=>Ax .i64 ((b.take 4).drop 1) fun ab=>Ax .i64 (((setCells [Bbz,Bbz,Bbz,Bbz] 0 e).take 4).drop 2) fun ac=>Ax .i64 ((b.take 4).drop 2) fun ad=>Ax .i64 (((setCells [Bbz,Bbz,Bbz,Bbz] 0 e).take 4).drop 3) fun ae=>Ax .i64 ((b.take 4).drop 3) fun af=>cond (cond true (!((y==z)&&((aa==ab)&&((ac==ad)&&((ae==af)&&true))))) false) (Av N 15 {s with nx:=a,er:=c} (fun ag=>r0 0 a ag)) (q0 a c d)) none) none) none) none)) none)) none) none))
def Dw:=(Ad fun N b f s r0=>R2 (R:=R) N r0 (fun a c d=>Jg N r0 s a c d) b f s).1
def E'(b f s r0):(@Dw R N b f s r0)=(R2 N r0 (fun a c d=>Jg N r0 s a c d) b f s):=by rw[Dw,(Ad _).2]
def HJ:Hints:={H:=hK 5 (hJ [0,7] hL hL)}
def MP:Vx:=[Cc N,Anp N,Bu N,x9 N]
def iT(F:KF R):=K8 Tryz.f107 HJ (MP N) [100000,100001,100002,100003,100004,100005,100006,100007,100008,100009,100010,100011,100012,100013,100014,100015] N F
def iU(s:RB)(a c:Int)(d:LA)(K:St->O R):=K ⟨[(0,.optr 100000 0),(7,op 0)],[(100000,bN 0 [.own 100001 0 s.nw,iv a,iv c,iv s.th,.own 100002 0 s.nR,.own 100003 0 s.nB,.own 100004 0 s.nL,.own 100005 0 s.nU,.own 100006 0 s.nS,.own 100007 0 s.nT,.own 100008 0 s.nO,.bool s.bg,.own 100009 0 s.zA,.own 100010 0 s.zB,.own 100011 0 s.zC,.own 100012 0 s.zD,.own 100013 0 s.zE,.own 100014 0 s.zF,.own 100015 0 s.zG]),(100001,bQ 1 s.cw),(100002,bQ 1 s.cR),(100003,bQ 3 s.cB),(100004,bQ 12 s.cL),(100005,bQ 22 s.cU),(100006,bQ 9 s.cS),(100007,bQ 5 s.cT),(100008,bQ 4 s.cO),(100009,bQ 1 s.yA),(100010,bQ 1 s.yB),(100011,bQ 1 s.yC),(100012,bQ 1 s.yD),(100013,bQ 1 s.yE),(100014,bQ 1 s.yF),(100015,bQ 1 s.yG),(300000,bQ 0 d)]⟩
def XU(F:KF R)(s a c d):iU s a c d (By (iT N F (pz 5461) []))=(Jg N (gv s F) s a c d):=by kernel_rfl
def Hu:=Cr N 107 (MP N) HJ (VP fun
|[.optr 100000 0,.pagg b f],s=>some fun _ k=>Dw N b f s (gv s k)
| _,_=>none) (aF fun _ s=>by split;rename_i b f;intro R F;exact(Cj (R2 N (gv s F) · b f s) (Aw0 fun a c d=>(jW ..).trans (XU ..)):_).trans (E' ..).symm;trivial)
def GH(s:RB)(r0:Int->Int->Int->O R):O R:=(Dw N [.int .i64 1,Bbz,Bbz,Bbz] false s fun a b c=>r0 a b c)
def Bg:=(Ad (@GH R)).1
def MQ:@Bg R=@GH R:=(Ad _).2
def Oa:=Cr N 61 [Hu N] Cp (VP fun
|[.optr 100000 0],s=>some fun _ k=>Bg N s (gv s k)
| _,_=>none) (aF fun _ s=>by split;intro R F;dsimp only;rw[MQ];kernel_rfl;trivial)
def Md(r0:Nat->Int->Int->LA->O R)(s:RB)(k0:Nat->Int->Int->Int->LA->O R)(a:Nat)(b c d:Int)(f:LA):O R:=(cond (decide (b<s.th)) (Bg N {s with nx:=c,er:=d} (fun g h i=>cond ((ble (a+1) 140737488355328)&&(ble ((a+1)*8) 140737488355328)) (k0 (a+1) (wrap .i64 (b+1)) h i ((f.take (a*1))++[.int .i64 g])) none)) (r0 a c d f))
def Dz(r0:Nat->Int->Int->LA->O R)(s:RB):Nat->Nat->Int->Int->Int->LA->O R
|0=>fun _ _ _ _ _=>none
|n+1=>Md N r0 s (Dz r0 s n)
def R3(N:Nat)(r0:Nat->Int->Int->LA->O R)(q0:Nat->Int->Int->Int->LA->O R)(s:RB):O R:=(q0 0 0 s.nx s.er [])
def De:=(Ad fun N s r0=>R3 (R:=R) N r0 (Dz N r0 s N) s).1
def FA(s r0):(@De R N s r0)=(R3 N r0 (Dz N r0 s N) s):=by rw[De,(Ad _).2]
def HK:Hints:={H:=hK 2 (hS (hK 1 (hS (hP [1,5,10,11] hL) hL)) hL),nils:=[(4,1),(5,1)],modes:=[(2,1)]}
def MR:Vx:=[Oa N]
def iV(F:KF R):=K8 Tryz.f60 HK (MR N) [100000,100001,100002,100003,100004,100005,100006,100007,100008,100009,100010,100011,100012,100013,100014,100015] N F
def iW(s:RB)(K:St->O R):=fun a b c d f=>K ⟨[(1,.fn 1000061 [.optr 100000 0]),(5,Bby 0 a),(10,iv s.th),(11,iv b)],[(100000,bN 0 [.own 100001 0 s.nw,iv c,iv d,iv s.th,.own 100002 0 s.nR,.own 100003 0 s.nB,.own 100004 0 s.nL,.own 100005 0 s.nU,.own 100006 0 s.nS,.own 100007 0 s.nT,.own 100008 0 s.nO,.bool s.bg,.own 100009 0 s.zA,.own 100010 0 s.zB,.own 100011 0 s.zC,.own 100012 0 s.zD,.own 100013 0 s.zE,.own 100014 0 s.zF,.own 100015 0 s.zG]),(100001,bQ 1 s.cw),(100002,bQ 1 s.cR),(100003,bQ 3 s.cB),(100004,bQ 12 s.cL),(100005,bQ 22 s.cU),(100006,bQ 9 s.cS),(100007,bQ 5 s.cT),(100008,bQ 4 s.cO),(100009,bQ 1 s.yA),(100010,bQ 1 s.yB),(100011,bQ 1 s.yC),(100012,bQ 1 s.yD),(100013,bQ 1 s.yE),(100014,bQ 1 s.yF),(100015,bQ 1 s.yG),(300000,bQ 1 f)]⟩
def XV(F:KF R)s:∀ n,iW s (Al (iV N F (pz 1348) []) n)=(Dz N (ZA s F) s n):=Dt fun n e=>(Cj (Md N (ZA s F) s) e:_)
def Xh:=Cr N 60 (MR N) HK (VP fun
|[.optr 100000 0,.fn 1000061 [.optr 100000 0]],s=>some fun _ k=>De N s (ZA s k)
| _,_=>none) (aF fun _ s=>by split;intro R F;exact(Cj (R3 N (ZA s F) · s) ((lW ..).trans (XV ..)):_).trans (FA ..).symm;trivial)
def RT(s:RB)(r0:Int->O R):O R:=(Gg N s fun a=>cond a (Av N 2 s fun b=>r0 b) (r0 s.er))
def Gr:=(Ad (@RT R)).1
def TU:@Gr R=@RT R:=(Ad _).2
def xe:=Cr N 68 [Qk N,Bu N] Cp (VP fun
|[.optr 100000 0],s=>some fun _ k=>Gr N s (Ayo s k)
| _,_=>none) (aF fun _ s=>by split;intro R F;dsimp only;rw[TU];kernel_rfl;trivial)
def PV(N:Nat)(r0:Bool->O R)(a:Lu)(k1:Int->Int->O R)(c b:Int):O R:=(cond (decide (b<c)) (cond (Ac b a.length) (cond ((decide (((UInt8.toNat (List.getD a b.toNat 0):Nat):Int)<97))==false) (cond ((cond false true (decide (((UInt8.toNat (List.getD a b.toNat 0):Nat):Int)>122)))==true) (cond ((decide (((UInt8.toNat (List.getD a b.toNat 0):Nat):Int)<48))==false) (cond ((cond true (cond false true (decide (((UInt8.toNat (List.getD a b.toNat 0):Nat):Int)>57))) false)==true) (cond (cond true (((UInt8.toNat (List.getD a b.toNat 0):Nat):Int) != 95) false) (r0 false) (k1 c (wrap .i64 (b+1)))) (k1 c (wrap .i64 (b+1)))) (cond (cond true (((UInt8.toNat (List.getD a b.toNat 0):Nat):Int) != 95) false) (r0 false) (k1 c (wrap .i64 (b+1))))) (k1 c (wrap .i64 (b+1)))) (cond ((decide (((UInt8.toNat (List.getD a b.toNat 0):Nat):Int)<48))==false) (cond ((cond true (cond false true (decide (((UInt8.toNat (List.getD a b.toNat 0):Nat):Int)>57))) false)==true) (cond (cond true (((UInt8.toNat (List.getD a b.toNat 0):Nat):Int) != 95) false) (r0 false) (k1 c (wrap .i64 (b+1)))) (k1 c (wrap .i64 (b+1)))) (cond (cond true (((UInt8.toNat (List.getD a b.toNat 0):Nat):Int) != 95) false) (r0 false) (k1 c (wrap .i64 (b+1)))))) none) (r0 true))
def BP(r0:Bool->O R)(a:Lu):Nat->Int->Int->O R
|0=>fun _ _=>none
|n+1=>PV N r0 a (BP r0 a n)
def eO(N:Nat)(r0:Bool->O R)(a:Lu)(q1:Int->Int->O R):O R:=(q1 ((a.length:Nat):Int) 0)
def XW(r0:Bool->O R)(a:Lu):O R:=eO N r0 a (BP N r0 a N)
def nz(N:Nat)(r0:Bool->O R)(q0:O R)(a:Lu):O R:=(cond ((decide (((a.length:Nat):Int)<1))==false) (cond ((cond false true (decide (((a.length:Nat):Int)>16)))==false) (cond ((cond false true (a==([99,111,114,114,101,99,116,105,118,101]:Lu)))==false) (cond (Ac 0 a.length) (cond ((cond false true (decide (((UInt8.toNat (List.getD a 0 0):Nat):Int)<97)))==false) (cond (Ac 0 a.length) (cond (cond false true (decide (((UInt8.toNat (List.getD a 0 0):Nat):Int)>122))) (r0 false) q0) none) (r0 false)) none) (r0 false)) (r0 false)) (r0 false))
def Me:=(Ad fun N a r0=>nz (R:=R) N r0 (XW N r0 a) a).1
def s7(a r0):(@Me R N a r0)=(nz N r0 (XW N r0 a) a):=by rw[Me,(Ad _).2]
def xg:Hints:={H:=hK 1 (hJ [0] hL (hS (hK 1 (hS (hP [0,28,29] hL) hL)) hL))}
def xh(F:KF R):=K8 Tryz.f86 xg [] [] N F
def Anq(a:Lu)(K:St->O R):=fun c b=>K ⟨[(0,.str a),(28,iv c),(29,iv b)],[]⟩
def Anr(a:Lu)(K:St->O R):=K ⟨[(0,.str a)],[]⟩
def Aap(F:KF R)a:∀ n,Anq a (Al (xh N F (pz 1348) []) n)=(BP N (Bk F) a n):=Dt fun n e=>(Cj (PV N (Bk F) a) e:_)
def Aaq(F:KF R)a:Anr a (By (xh N F (pz 21) []))=(XW N (Bk F) a):=(Cj (eO N (Bk F) a) ((lW ..).trans (Aap ..)):_)
def BQ:=Cr N 86 [] xg (fun
|[.str a],[]=>some fun _ k=>Me N a (Bk k)
| _,_=>none) fun _ _=>by split;intro R F;exact(Cj (nz N (Bk F) · _) ((jW ..).trans (Aaq ..)):_).trans (s7 ..).symm;trivial
def Bv(N:Nat)(r0:Int->O R)(b:LA)(a:Nat)(d f:Bool)(c:Lu)(k0:Int->Int->O R)(h g:Int):O R:=(cond (decide (g<h)) (cond (Ac g a) (Gv (b.drop (g.toNat*1)) fun i=>cond (c==i) (r0 g) (k0 h (wrap .i64 (g+1)))) none) (r0 (-1)))
def Bb(r0:Int->O R)(b:LA)(a:Nat)(d f:Bool)(c:Lu):Nat->Int->Int->O R
|0=>fun _ _=>none
|n+1=>Bv N r0 b a d f c (Bb r0 b a d f c n)
def Dr(N:Nat)(r0:Int->O R)(q0:Int->Int->O R)(b:LA)(a:Nat)(d f:Bool)(c:Lu):O R:=(q0 (a:Int) 0)
def Bh:=(Ad fun N b a d f c r0=>Dr (R:=R) N r0 (Bb N r0 b a d f c N) b a d f c).1
def Hb(b a d f c r0):(@Bh R N b a d f c r0)=(Dr N r0 (Bb N r0 b a d f c N) b a d f c):=by rw[Bh,(Ad _).2]
def Ob:Hints:={H:=hK 1 (hS (hK 1 (hS (hP [0,1,7,8] hL) hL)) hL)}
def BR(F:KF R):=K8 Tryz.f128 Ob [] [] N F
def BS(b:LA)(a:Nat)(d f:Bool)(c:Lu)(K:St->O R):=fun h g=>K ⟨[(0,.imm b a 1 d f),(1,.str c),(7,iv h),(8,iv g)],[]⟩
def Yc(F:KF R)(b a d f c):∀ n,BS b a d f c (Al (BR N F (pz 324) []) n)=(Bb N (C5 F) b a d f c n):=Dt fun n e=>(Cj (Bv N (C5 F) b a d f c) e:_)
def E9:=Cr N 128 [] Ob (fun
|[.imm b a 1 d f,.str c],[]=>some fun _ k=>Bh N b a d f c (C5 k)
| _,_=>none) fun _ _=>by split;intro R F;exact(Cj (Dr N (C5 F) · _ _ _ _ _) ((lW ..).trans (Yc ..)):_).trans (Hb ..).symm;trivial
def Hc(a:LA)(b:Nat)(e c:Bool)(d:Lu)(r0:Bool->O R):O R:=(Bh N a b false c d fun f=>r0 (decide (f>=0)))
def Am:=(Ad (@Hc R)).1
def Ko:@Am R=@Hc R:=(Ad _).2
def Bs:=Cr N 87 [E9 N] Cp (fun
|[.imm a b 1 e c,.str d],[]=>some fun _ k=>Am N a b e c d (Bk k)
| _,_=>none) fun _ _=>by split;intro R F;dsimp only;rw[Ko];kernel_rfl;trivial
def Ajk(N:Nat)(a:Int)(r0:Int->O R):O R:=(cond (a==1) (r0 32) (cond (a==2) (r0 64) (cond (a==3) (r0 16) (cond (a==4) (r0 8) (cond (a==5) (r0 8) (r0 64))))))
def PW:=(Ad (@Ajk R)).1
def Th:@PW R=@Ajk R:=(Ad _).2
def JX:=Cr N 139 [] Cp (fun
|[.int .i64 a],[]=>some fun _ k=>PW N a (C5 k)
| _,_=>none) fun _ _=>by split;intro R F;dsimp only;rw[Th];kernel_rfl;trivial
def GI(s:RB)(r0:Int->Int->O R)(r1:Lu->Int->Int->Nat->LA->O R):O R:=(Cb N s fun c d a b=>cond (!d) (r0 a b) (Me N c fun e=>cond (!e) (Av N 9 {s with nx:=a,er:=b} (fun f=>r0 a f)) (Am N (s.yB.take (s.zB*1)) s.zB false true c fun g=>cond g (Av N 10 {s with nx:=a,er:=b} (fun h=>r0 a h)) (PW N 1 fun i=>cond (decide ((s.zB:Int)>=i)) (Av N 8 {s with nx:=a,er:=b} (fun j=>r0 a j)) (cond ((ble (s.zB+1) 140737488355328)&&(ble ((s.zB+1)*16) 140737488355328)) (r1 c a b (s.zB+1) ((s.yB.take (s.zB*1))++[.str c])) none)))))
def Zk:=(Ad (@GI R)).1
def MS:@Zk R=@GI R:=(Ad _).2
def oA(s:RB)(F:KF R):Lu->Int->Int->Nat->LA->O R:=fun l m n o p=>F (.str l) [(100000,bN 0 [Bby 0 s.nw,iv m,iv n,iv s.th,Bby 1 s.nR,Bby 2 s.nB,Bby 3 s.nL,Bby 4 s.nU,Bby 5 s.nS,Bby 6 s.nT,Bby 7 s.nO,.bool s.bg,Bby 8 s.zA,.own 300014 0 o,Bby 9 s.zC,.own 300010 0 s.zD,.own 300011 0 s.zE,.own 300012 0 s.zF,.own 300013 0 s.zG]),(300000,bQ 1 s.cw),(300001,bQ 1 s.cR),(300002,bQ 3 s.cB),(300003,bQ 12 s.cL),(300004,bQ 22 s.cU),(300005,bQ 9 s.cS),(300006,bQ 5 s.cT),(300007,bQ 4 s.cO),(300008,bQ 1 s.yA),(300009,bQ 1 s.yC),(300010,bQ 1 s.yD),(300011,bQ 1 s.yE),(300012,bQ 1 s.yF),(300013,bQ 1 s.yG),(300014,bQ 1 p)]
def qc:=Cr N 108 [Cc N,BQ N,Bu N,Bs N,JX N] wD (VP fun
|[.optr 100000 0,.int .i64 1],s=>some fun _ k=>Zk N s (At1 s k) (oA s k)
| _,_=>none) (aF fun _ s=>by split;intro R F;dsimp only;rw[MS];kernel_rfl;trivial)
def GJ(s:RB)(r0:Int->Int->Int->O R):O R:=(Dw N [.int .i64 (-1),.int .i64 (-1),.int .i64 1,Bbz] false s fun a b c=>r0 a b c)
def Iq:=(Ad (@GJ R)).1
def MT:@Iq R=@GJ R:=(Ad _).2
def BT:=Cr N 109 [Hu N] Cp (VP fun
|[.optr 100000 0],s=>some fun _ k=>Iq N s (gv s k)
| _,_=>none) (aF fun _ s=>by split;intro R F;dsimp only;rw[MT];kernel_rfl;trivial)
def MU(s:RB)(r0:Int->Int->Nat->Nat->LA->LA->O R):O R:=(Zk N s (fun e f=>Ao N ([100,101,109,97,110,100]:Lu) {s with nx:=e,er:=f} (fun g h=>De N {s with nx:=g,er:=h} (fun c i j l=>Ao N ([115,104,101,100]:Lu) {s with nx:=i,er:=j} (fun m n=>Iq N {s with nx:=m,er:=n} (fun o p q=>cond ((ble (s.nB+1) 140737488355328)&&(ble ((s.nB+1)*48) 140737488355328)) (r0 p q (s.nB+1) s.zB ((s.cB.take (s.nB*3))++[.str ([]:Lu),.imm (l.take (c*1)) c 1 false false,.int .i64 o]) s.yB) none))))) fun r t u a b=>Ao N ([100,101,109,97,110,100]:Lu) {s with nx:=t,er:=u,zB:=a,yB:=b} (fun v w=>De N {s with nx:=v,er:=w,zB:=a,yB:=b} (fun d x y z=>Ao N ([115,104,101,100]:Lu) {s with nx:=x,er:=y,zB:=a,yB:=b} (fun aa ab=>Iq N {s with nx:=aa,er:=ab,zB:=a,yB:=b} (fun ac ad ae=>cond ((ble (s.nB+1) 140737488355328)&&(ble ((s.nB+1)*48) 140737488355328)) (r0 ad ae (s.nB+1) a ((s.cB.take (s.nB*3))++[.str r,.imm (z.take (d*1)) d 1 false false,.int .i64 ac]) b) none)))))
def DH:=(Ad (@MU R)).1
def PX:@DH R=@MU R:=(Ad _).2
def qd(s:RB)(F:KF R):Int->Int->Nat->Nat->LA->LA->O R:=fun af ag ah ai aj ak=>F (.tup []) [(100000,bN 0 [Bby 0 s.nw,iv af,iv ag,iv s.th,Bby 1 s.nR,Bby 2 ah,Bby 3 s.nL,Bby 4 s.nU,Bby 5 s.nS,Bby 6 s.nT,Bby 7 s.nO,.bool s.bg,Bby 8 s.zA,Bby 9 ai,.own 300010 0 s.zC,.own 300011 0 s.zD,.own 300012 0 s.zE,.own 300013 0 s.zF,.own 300014 0 s.zG]),(300000,bQ 1 s.cw),(300001,bQ 1 s.cR),(300002,bQ 3 aj),(300003,bQ 12 s.cL),(300004,bQ 22 s.cU),(300005,bQ 9 s.cS),(300006,bQ 5 s.cT),(300007,bQ 4 s.cO),(300008,bQ 1 s.yA),(300009,bQ 1 ak),(300010,bQ 1 s.yC),(300011,bQ 1 s.yD),(300012,bQ 1 s.yE),(300013,bQ 1 s.yF),(300014,bQ 1 s.yG)]
def uZ:=Cr N 62 [qc N,Ht N,Xh N,BT N] Apm (VP fun
|[.optr 100000 0],s=>some fun _ k=>DH N s (qd s k)
| _,_=>none) (aF fun _ s=>by split;intro R F;dsimp only;rw[PX];kernel_rfl;trivial)
def Xi(s:RB)(r0:Int->Int->O R)(r1:Lu->Int->Int->Nat->LA->O R):O R:=(Cb N s fun c d a b=>cond (!d) (r0 a b) (Me N c fun e=>cond (!e) (Av N 9 {s with nx:=a,er:=b} (fun f=>r0 a f)) (Am N (s.yC.take (s.zC*1)) s.zC false true c fun g=>cond g (Av N 10 {s with nx:=a,er:=b} (fun h=>r0 a h)) (PW N 2 fun i=>cond (decide ((s.zC:Int)>=i)) (Av N 8 {s with nx:=a,er:=b} (fun j=>r0 a j)) (cond ((ble (s.zC+1) 140737488355328)&&(ble ((s.zC+1)*16) 140737488355328)) (r1 c a b (s.zC+1) ((s.yC.take (s.zC*1))++[.str c])) none)))))
def R4:=(Ad (@Xi R)).1
def AF:@R4 R=@Xi R:=(Ad _).2
def eP(s:RB)(F:KF R):Lu->Int->Int->Nat->LA->O R:=fun l m n o p=>F (.str l) [(100000,bN 0 [Bby 0 s.nw,iv m,iv n,iv s.th,Bby 1 s.nR,Bby 2 s.nB,Bby 3 s.nL,Bby 4 s.nU,Bby 5 s.nS,Bby 6 s.nT,Bby 7 s.nO,.bool s.bg,Bby 8 s.zA,Bby 9 s.zB,.own 300014 0 o,.own 300010 0 s.zD,.own 300011 0 s.zE,.own 300012 0 s.zF,.own 300013 0 s.zG]),(300000,bQ 1 s.cw),(300001,bQ 1 s.cR),(300002,bQ 3 s.cB),(300003,bQ 12 s.cL),(300004,bQ 22 s.cU),(300005,bQ 9 s.cS),(300006,bQ 5 s.cT),(300007,bQ 4 s.cO),(300008,bQ 1 s.yA),(300009,bQ 1 s.yB),(300010,bQ 1 s.yD),(300011,bQ 1 s.yE),(300012,bQ 1 s.yF),(300013,bQ 1 s.yG),(300014,bQ 1 p)]
def iX:=Cr N 108 [Cc N,BQ N,Bu N,Bs N,JX N] wD (VP fun
|[.optr 100000 0,.int .i64 2],s=>some fun _ k=>R4 N s (At1 s k) (eP s k)
| _,_=>none) (aF fun _ s=>by split;intro R F;dsimp only;rw[AF];kernel_rfl;trivial)
def BU(s:RB)(r0:Int->Int->Int->O R):O R:=(Cb N s fun d e a b=>cond (!e) (r0 0 a b) (Bh N (s.yB.take (s.zB*1)) s.zB false true d fun c=>cond (decide (c<0)) (Av N 12 {s with nx:=a,er:=b} (fun f=>r0 0 a f)) (r0 c a b)))
def Cu:=(Ad (@BU R)).1
def HL:@Cu R=@BU R:=(Ad _).2
def R5:=Cr N 110 [Cc N,E9 N,Bu N] Cp (VP fun
|[.optr 100000 0,.int .i64 1],s=>some fun _ k=>Cu N s (gv s k)
| _,_=>none) (aF fun _ s=>by split;intro R F;dsimp only;rw[HL];kernel_rfl;trivial)
def Mf(r0:LA->Int->Int->O R)(c:Int)(d:Bool)(e:Int)(f:Bool)(s:RB)(a b:Int):O R:=(cond ((!d)==false) (cond ((cond false true (!f))==false) (cond (cond false true (decide (e<1))) (Av N 3 {s with nx:=a,er:=b} (fun i=>r0 [Bbz,Bbz] a i)) (r0 [.int .i64 c,.int .i64 e] a b)) (Av N 3 {s with nx:=a,er:=b} (fun j=>r0 [Bbz,Bbz] a j))) (Av N 3 {s with nx:=a,er:=b} (fun l=>r0 [Bbz,Bbz] a l)))
def Rg(r0:LA->Int->Int->O R)(c:Int)(d:Bool)(s:RB)(a b:Int)(q1:Int->Bool->O R)(g:Lu):O R:=(PS N g fun e f m=>cond ((m != 0)==false) (cond (Ac 0 g.length) (cond (cond false true (((UInt8.toNat (List.getD g 0 0):Nat):Int)==45)) (Av N 2 {s with nx:=a,er:=b} (fun n=>r0 [Bbz,Bbz] a n)) (q1 e f)) none) (Av N 2 {s with nx:=a,er:=b} (fun o=>r0 [Bbz,Bbz] a o)))
def Ir(r0:LA->Int->Int->O R)(c:Int)(d:Bool)(s:RB)(a b:Int)(g:Lu):O R:=Rg N r0 c d s a b (fun e f=>Mf N r0 c d e f s a b) g
def Pn(r0:LA->Int->Int->O R)(q0:Int->Bool->Int->Int->Lu->O R)(s:RB):O R:=(Cb N s fun p q a b=>cond (!q) (r0 [Bbz,Bbz] a b) (strings_Cut N p ([47]:Lu) fun r t u=>PS N r fun c d h=>cond (h != 0) (Av N h {s with nx:=a,er:=b} (fun v=>r0 [Bbz,Bbz] a v)) (cond (!u) (q0 c d a b ([49]:Lu)) (q0 c d a b t))))
def Ci:=(Ad fun N s r0=>Pn (R:=R) N r0 (fun c d a b=>Ir N r0 c d s a b) s).1
def AG(s r0):(@Ci R N s r0)=(Pn N r0 (fun c d a b=>Ir N r0 c d s a b) s):=by rw[Ci,(Ad _).2]
def FB:Hints:={H:=hK 6 (hJ [0,2,6,8,9] hL (hK 1 (hJ [0,2,8,9,11,12] hL hL))),modes:=[(3,0)]}
def HM:Vx:=[Cc N,RF N,Ab6 N,Bu N]
def FC(F:KF R):=K8 Tryz.f111 FB (HM N) [100000,100001,100002,100003,100004,100005,100006,100007,100008,100009,100010,100011,100012,100013,100014,100015] N F
def Is(s:RB)(F:KF R):LA->Int->Int->O R:=fun w x y=>F (.pagg w false) [(100000,bN 0 [.own 100001 0 s.nw,iv x,iv y,iv s.th,.own 100002 0 s.nR,.own 100003 0 s.nB,.own 100004 0 s.nL,.own 100005 0 s.nU,.own 100006 0 s.nS,.own 100007 0 s.nT,.own 100008 0 s.nO,.bool s.bg,.own 100009 0 s.zA,.own 100010 0 s.zB,.own 100011 0 s.zC,.own 100012 0 s.zD,.own 100013 0 s.zE,.own 100014 0 s.zF,.own 100015 0 s.zG]),(100001,bQ 1 s.cw),(100002,bQ 1 s.cR),(100003,bQ 3 s.cB),(100004,bQ 12 s.cL),(100005,bQ 22 s.cU),(100006,bQ 9 s.cS),(100007,bQ 5 s.cT),(100008,bQ 4 s.cO),(100009,bQ 1 s.yA),(100010,bQ 1 s.yB),(100011,bQ 1 s.yC),(100012,bQ 1 s.yD),(100013,bQ 1 s.yE),(100014,bQ 1 s.yF),(100015,bQ 1 s.yG)]
def eQ(c:Int)(d:Bool)(e:Int)(f:Bool)(s:RB)(a b:Int)(K:St->O R):=K ⟨[(0,.optr 100000 0),(2,op 0),(8,iv c),(9,.bool d),(11,iv e),(12,.bool f)],[(100000,bN 0 [.own 100001 0 s.nw,iv a,iv b,iv s.th,.own 100002 0 s.nR,.own 100003 0 s.nB,.own 100004 0 s.nL,.own 100005 0 s.nU,.own 100006 0 s.nS,.own 100007 0 s.nT,.own 100008 0 s.nO,.bool s.bg,.own 100009 0 s.zA,.own 100010 0 s.zB,.own 100011 0 s.zC,.own 100012 0 s.zD,.own 100013 0 s.zE,.own 100014 0 s.zF,.own 100015 0 s.zG]),(100001,bQ 1 s.cw),(100002,bQ 1 s.cR),(100003,bQ 3 s.cB),(100004,bQ 12 s.cL),(100005,bQ 22 s.cU),(100006,bQ 9 s.cS),(100007,bQ 5 s.cT),(100008,bQ 4 s.cO),(100009,bQ 1 s.yA),(100010,bQ 1 s.yB),(100011,bQ 1 s.yC),(100012,bQ 1 s.yD),(100013,bQ 1 s.yE),(100014,bQ 1 s.yF),(100015,bQ 1 s.yG),(300000,bQ 0 [iv 0,iv 0])]⟩
def eR(c:Int)(d:Bool)(s:RB)(a b:Int)(K:St->O R):=fun g=>K ⟨[(0,.optr 100000 0),(2,op 0),(6,.str g),(8,iv c),(9,.bool d)],[(100000,bN 0 [.own 100001 0 s.nw,iv a,iv b,iv s.th,.own 100002 0 s.nR,.own 100003 0 s.nB,.own 100004 0 s.nL,.own 100005 0 s.nU,.own 100006 0 s.nS,.own 100007 0 s.nT,.own 100008 0 s.nO,.bool s.bg,.own 100009 0 s.zA,.own 100010 0 s.zB,.own 100011 0 s.zC,.own 100012 0 s.zD,.own 100013 0 s.zE,.own 100014 0 s.zF,.own 100015 0 s.zG]),(100001,bQ 1 s.cw),(100002,bQ 1 s.cR),(100003,bQ 3 s.cB),(100004,bQ 12 s.cL),(100005,bQ 22 s.cU),(100006,bQ 9 s.cS),(100007,bQ 5 s.cT),(100008,bQ 4 s.cO),(100009,bQ 1 s.yA),(100010,bQ 1 s.yB),(100011,bQ 1 s.yC),(100012,bQ 1 s.yD),(100013,bQ 1 s.yE),(100014,bQ 1 s.yF),(100015,bQ 1 s.yG),(300000,bQ 0 [iv 0,iv 0])]⟩
def TV(F:KF R)(c d e f s a b):eQ c d e f s a b (By (FC N F (pz 349525) []))=(Mf N (Is s F) c d e f s a b):=by kernel_rfl
def TW(F:KF R)(c d s a b):eR c d s a b (By (FC N F (pz 21845) []))=(Ir N (Is s F) c d s a b):=(Cj (Rg N (Is s F) c d s a b) (CJ fun e f=>(jW ..).trans (TV ..)):_)
def HN:=Cr N 111 (HM N) FB (VP fun
|[.optr 100000 0],s=>some fun _ k=>Ci N s (Is s k)
| _,_=>none) (aF fun _ s=>by split;intro R F;exact(Cj (Pn N (Is s F) · s) (Abl fun c d a b=>(jW ..).trans (TW ..)):_).trans (AG ..).symm;trivial)
def R6(a:Lu)(s:RB)(r0:Bool->O R):O R:=(Gg N s fun b=>cond (b==true) (cond (Ac s.nx s.nw) (Gv (s.cw.drop (0+(s.nx.toNat*1))) fun c=>r0 (cond true (!(c==a)) false)) none) (r0 false))
def Hv:=(Ad (@R6 R)).1
def Ti:@Hv R=@R6 R:=(Ad _).2
def Xj:=Cr N 113 [Qk N] Cp (VP fun
|[.optr 100000 0,.str a],s=>some fun _ k=>Hv N a s (At2 s k)
| _,_=>none) (aF fun _ s=>by split;intro R F;dsimp only;rw[Ti];kernel_rfl;trivial)
def MV(s:RB)(r0:Int->Int->Int->O R):O R:=(Qm N (-1073741824) 1073741824 s fun a b c=>r0 a b c)
def DI:=(Ad (@MV R)).1
def PY:@DI R=@MV R:=(Ad _).2
def u3:=Cr N 140 [PT N] Cp (VP fun
|[.optr 100000 0],s=>some fun _ k=>DI N s (gv s k)
| _,_=>none) (aF fun _ s=>by split;intro R F;dsimp only;rw[PY];kernel_rfl;trivial)
def Po(r0:Nat->Int->Int->LA->O R)(a:Lu)(s:RB)(k0:Nat->Int->Int->LA->O R)(b:Nat)(c d:Int)(f:LA):O R:=(Hv N a {s with nx:=c,er:=d} (fun g=>cond g (DI N {s with nx:=c,er:=d} (fun h i j=>cond ((ble (b+1) 140737488355328)&&(ble ((b+1)*8) 140737488355328)) (k0 (b+1) i j ((f.take (b*1))++[.int .i64 h])) none)) (r0 b c d f)))
def Gs(r0:Nat->Int->Int->LA->O R)(a:Lu)(s:RB):Nat->Nat->Int->Int->LA->O R
|0=>fun _ _ _ _=>none
|n+1=>Po N r0 a s (Gs r0 a s n)
def Ww(N:Nat)(r0:Nat->Int->Int->LA->O R)(q0:Nat->Int->Int->LA->O R)(a:Lu)(s:RB):O R:=(q0 0 s.nx s.er [])
def Kp:=(Ad fun N a s r0=>Ww (R:=R) N r0 (Gs N r0 a s N) a s).1
def MW(a s r0):(@Kp R N a s r0)=(Ww N r0 (Gs N r0 a s N) a s):=by rw[Kp,(Ad _).2]
def PZ:Hints:={H:=hK 2 (hS (hS (hP [0,1,5] hL) hL) hL),nils:=[(4,1),(5,1)],modes:=[(2,1)]}
def TX:Vx:=[Xj N,u3 N]
def oB(F:KF R):=K8 Tryz.f112 PZ (TX N) [100000,100001,100002,100003,100004,100005,100006,100007,100008,100009,100010,100011,100012,100013,100014,100015] N F
def oC(a:Lu)(s:RB)(K:St->O R):=fun b c d f=>K ⟨[(0,.optr 100000 0),(1,.str a),(5,Bby 0 b)],[(100000,bN 0 [.own 100001 0 s.nw,iv c,iv d,iv s.th,.own 100002 0 s.nR,.own 100003 0 s.nB,.own 100004 0 s.nL,.own 100005 0 s.nU,.own 100006 0 s.nS,.own 100007 0 s.nT,.own 100008 0 s.nO,.bool s.bg,.own 100009 0 s.zA,.own 100010 0 s.zB,.own 100011 0 s.zC,.own 100012 0 s.zD,.own 100013 0 s.zE,.own 100014 0 s.zF,.own 100015 0 s.zG]),(100001,bQ 1 s.cw),(100002,bQ 1 s.cR),(100003,bQ 3 s.cB),(100004,bQ 12 s.cL),(100005,bQ 22 s.cU),(100006,bQ 9 s.cS),(100007,bQ 5 s.cT),(100008,bQ 4 s.cO),(100009,bQ 1 s.yA),(100010,bQ 1 s.yB),(100011,bQ 1 s.yC),(100012,bQ 1 s.yD),(100013,bQ 1 s.yE),(100014,bQ 1 s.yF),(100015,bQ 1 s.yG),(300000,bQ 1 f)]⟩
def eS(F:KF R)(a s):∀ n,oC a s (Al (oB N F (pz 336) []) n)=(Gs N (ZA s F) a s n):=Dt fun n e=>(Cj (Po N (ZA s F) a s) e:_)
def TY:=Cr N 112 (TX N) PZ (VP fun
|[.optr 100000 0,.str a],s=>some fun _ k=>Kp N a s (ZA s k)
| _,_=>none) (aF fun _ s=>by split;rename_i a;intro R F;exact(Cj (Ww N (ZA s F) · a s) ((lW ..).trans (eS ..)):_).trans (MW ..).symm;trivial)
def GK(s:RB)(r0:Int->Int->Nat->Nat->LA->LA->O R):O R:=(R4 N s (fun x y=>Cu N {s with nx:=x,er:=y} (fun e z aa=>Cu N {s with nx:=z,er:=aa} (fun f ab ac=>Ao N ([120]:Lu) {s with nx:=ab,er:=ac} (fun ad ae=>Ci N {s with nx:=ad,er:=ae} (fun c af ag=>cond ((beq c.length 2)&&((ble 5 12)&&(!false))) (Ao N ([115,104,105,102,116]:Lu) {s with nx:=af,er:=ag} (fun ah ai=>Ci N {s with nx:=ah,er:=ai} (fun g aj ak=>cond ((beq g.length 2)&&((ble 7 ((setCells [.str ([]:Lu),.int .i64 e,.int .i64 f,Bbz,Bbz,Bbz,Bbz,Bbz,Bbz,Bbz,Bbz,.nsl] 3 c).length))&&(!false))) (Ci N {s with nx:=aj,er:=ak} (fun m al am=>cond ((beq m.length 2)&&((ble 9 ((setCells (setCells [.str ([]:Lu),.int .i64 e,.int .i64 f,Bbz,Bbz,Bbz,Bbz,Bbz,Bbz,Bbz,Bbz,.nsl] 3 c) 5 g).length))&&(!false))) (Ao N ([108,105,109,105,116]:Lu) {s with nx:=al,er:=am} (fun an ao=>Bg N {s with nx:=an,er:=ao} (fun q ap aq=>cond ((beq 1 1)&&((ble 10 ((setCells (setCells (setCells [.str ([]:Lu),.int .i64 e,.int .i64 f,Bbz,Bbz,Bbz,Bbz,Bbz,Bbz,Bbz,Bbz,.nsl] 3 c) 5 g) 7 m).length))&&(!false))) (Bg N {s with nx:=ap,er:=aq} (fun t ar au=>cond ((beq 1 1)&&((ble 11 (((setCells (setCells (setCells [.str ([]:Lu),.int .i64 e,.int .i64 f,Bbz,Bbz,Bbz,Bbz,Bbz,Bbz,Bbz,Bbz,.nsl] 3 c) 5 g) 7 m).set 9 (.int .i64 q)).length))&&(!false))) (Ao N ([97,119,97,121]:Lu) {s with nx:=ar,er:=au} (fun av aw=>Kp N ([]:Lu) {s with nx:=av,er:=aw} (fun o ax ay v=>cond ((beq 1 1)&&((ble 12 ((((setCells (setCells (setCells [.str ([]:Lu),.int .i64 e,.int .i64 f,Bbz,Bbz,Bbz,Bbz,Bbz,Bbz,Bbz,Bbz,.nsl] 3 c) 5 g) 7 m).set 9 (.int .i64 q)).set 10 (.int .i64 t)).length))&&(!false))) (cond (ble 12 (((((setCells (setCells (setCells [.str ([]:Lu),.int .i64 e,.int .i64 f,Bbz,Bbz,Bbz,Bbz,Bbz,Bbz,Bbz,Bbz,.nsl] 3 c) 5 g) 7 m).set 9 (.int .i64 q)).set 10 (.int .i64 t)).set 11 (.imm (v.take (o*1)) o 1 false false)).length)) (cond ((beq ((((((setCells (setCells (setCells [.str ([]:Lu),.int .i64 e,.int .i64 f,Bbz,Bbz,Bbz,Bbz,Bbz,Bbz,Bbz,Bbz,.nsl] 3 c) 5 g) 7 m).set 9 (.int .i64 q)).set 10 (.int .i64 t)).set 11 (.imm (v.take (o*1)) o 1 false false)).take 12).length) 12)&&(ble 12 12)) (cond ((ble (s.nL+1) 140737488355328)&&(ble ((s.nL+1)*120) 140737488355328)) (r0 ax ay (s.nL+1) s.zC ((s.cL.take (s.nL*12))++((setCells [.str ([]:Lu),Bbz,Bbz,Bbz,Bbz,Bbz,Bbz,Bbz,Bbz,Bbz,Bbz,.nsl] 0 (((((setCells (setCells (setCells [.str ([]:Lu),.int .i64 e,.int .i64 f,Bbz,Bbz,Bbz,Bbz,Bbz,Bbz,Bbz,Bbz,.nsl] 3 c) 5 g) 7 m).set 9 (.int .i64 q)).set 10 (.int .i64 t)).set 11 (.imm (v.take (o*1)) o 1 false false)).take 12)).take 12)) s.yC) none) none) none) none))) none)) none))) none)) none))) none))))) fun h az ba a b=>Cu N {s with nx:=az,er:=ba,zC:=a,yC:=b} (fun i bb bc=>Cu N {s with nx:=bb,er:=bc,zC:=a,yC:=b} (fun j bd be=>Ao N ([120]:Lu) {s with nx:=bd,er:=be,zC:=a,yC:=b} (fun bf bh=>Ci N {s with nx:=bf,er:=bh,zC:=a,yC:=b} (fun d bi bj=>cond ((beq d.length 2)&&((ble 5 12)&&(!false))) (Ao N ([115,104,105,102,116]:Lu) {s with nx:=bi,er:=bj,zC:=a,yC:=b} (fun bk bl=>Ci N {s with nx:=bk,er:=bl,zC:=a,yC:=b} (fun l bm bn=>cond ((beq l.length 2)&&((ble 7 ((setCells [.str h,.int .i64 i,.int .i64 j,Bbz,Bbz,Bbz,Bbz,Bbz,Bbz,Bbz,Bbz,.nsl] 3 d).length))&&(!false))) (Ci N {s with nx:=bm,er:=bn,zC:=a,yC:=b} (fun n bo bp=>cond ((beq n.length 2)&&((ble 9 ((setCells (setCells [.str h,.int .i64 i,.int .i64 j,Bbz,Bbz,Bbz,Bbz,Bbz,Bbz,Bbz,Bbz,.nsl] 3 d) 5 l).length))&&(!false))) (Ao N ([108,105,109,105,116]:Lu) {s with nx:=bo,er:=bp,zC:=a,yC:=b} (fun bq br=>Bg N {s with nx:=bq,er:=br,zC:=a,yC:=b} (fun r bs bt=>cond ((beq 1 1)&&((ble 10 ((setCells (setCells (setCells [.str h,.int .i64 i,.int .i64 j,Bbz,Bbz,Bbz,Bbz,Bbz,Bbz,Bbz,Bbz,.nsl] 3 d) 5 l) 7 n).length))&&(!false))) (Bg N {s with nx:=bs,er:=bt,zC:=a,yC:=b} (fun u bu bv=>cond ((beq 1 1)&&((ble 11 (((setCells (setCells (setCells [.str h,.int .i64 i,.int .i64 j,Bbz,Bbz,Bbz,Bbz,Bbz,Bbz,Bbz,Bbz,.nsl] 3 d) 5 l) 7 n).set 9 (.int .i64 r)).length))&&(!false))) (Ao N ([97,119,97,121]:Lu) {s with nx:=bu,er:=bv,zC:=a,yC:=b} (fun bw bx=>Kp N ([]:Lu) {s with nx:=bw,er:=bx,zC:=a,yC:=b} (fun p bz ca w=>cond ((beq 1 1)&&((ble 12 ((((setCells (setCells (setCells [.str h,.int .i64 i,.int .i64 j,Bbz,Bbz,Bbz,Bbz,Bbz,Bbz,Bbz,Bbz,.nsl] 3 d) 5 l) 7 n).set 9 (.int .i64 r)).set 10 (.int .i64 u)).length))&&(!false))) (cond (ble 12 (((((setCells (setCells (setCells [.str h,.int .i64 i,.int .i64 j,Bbz,Bbz,Bbz,Bbz,Bbz,Bbz,Bbz,Bbz,.nsl] 3 d) 5 l) 7 n).set 9 (.int .i64 r)).set 10 (.int .i64 u)).set 11 (.imm (w.take (p*1)) p 1 false false)).length)) (cond ((beq ((((((setCells (setCells (setCells [.str h,.int .i64 i,.int .i64 j,Bbz,Bbz,Bbz,Bbz,Bbz,Bbz,Bbz,Bbz,.nsl] 3 d) 5 l) 7 n).set 9 (.int .i64 r)).set 10 (.int .i64 u)).set 11 (.imm (w.take (p*1)) p 1 false false)).take 12).length) 12)&&(ble 12 12)) (cond ((ble (s.nL+1) 140737488355328)&&(ble ((s.nL+1)*120) 140737488355328)) (r0 bz ca (s.nL+1) a ((s.cL.take (s.nL*12))++((setCells [.str ([]:Lu),Bbz,Bbz,Bbz,Bbz,Bbz,Bbz,Bbz,Bbz,Bbz,Bbz,.nsl] 0 (((((setCells (setCells (setCells [.str h,.int .i64 i,.int .i64 j,Bbz,Bbz,Bbz,Bbz,Bbz,Bbz,Bbz,Bbz,.nsl] 3 d) 5 l) 7 n).set 9 (.int .i64 r)).set 10 (.int .i64 u)).set 11 (.imm (w.take (p*1)) p 1 false false)).take 12)).take 12)) b) none) none) none) none))) none)) none))) none)) none))) none)))))
def Zl:=(Ad (@GK R)).1
def MX:@Zl R=@GK R:=(Ad _).2
def oD(s:RB)(F:KF R):Int->Int->Nat->Nat->LA->LA->O R:=fun cb cc cd ce cf cg=>F (.tup []) [(100000,bN 0 [Bby 0 s.nw,iv cb,iv cc,iv s.th,Bby 1 s.nR,Bby 2 s.nB,Bby 3 cd,Bby 4 s.nU,Bby 5 s.nS,Bby 6 s.nT,Bby 7 s.nO,.bool s.bg,Bby 8 s.zA,Bby 9 s.zB,.own 300010 0 ce,.own 300011 0 s.zD,.own 300012 0 s.zE,.own 300013 0 s.zF,.own 300014 0 s.zG]),(300000,bQ 1 s.cw),(300001,bQ 1 s.cR),(300002,bQ 3 s.cB),(300003,bQ 12 cf),(300004,bQ 22 s.cU),(300005,bQ 9 s.cS),(300006,bQ 5 s.cT),(300007,bQ 4 s.cO),(300008,bQ 1 s.yA),(300009,bQ 1 s.yB),(300010,bQ 1 cg),(300011,bQ 1 s.yD),(300012,bQ 1 s.yE),(300013,bQ 1 s.yF),(300014,bQ 1 s.yG)]
def qe:=Cr N 63 [iX N,R5 N,Ht N,HN N,Oa N,TY N] Apm (VP fun
|[.optr 100000 0],s=>some fun _ k=>Zl N s (oD s k)
| _,_=>none) (aF fun _ s=>by split;intro R F;dsimp only;rw[MX];kernel_rfl;trivial)
end
end Gx
