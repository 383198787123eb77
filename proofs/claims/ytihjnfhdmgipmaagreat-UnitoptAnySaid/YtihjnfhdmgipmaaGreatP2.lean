/- A part of the proof; each theorem says what it holds. -/
import Derived.Test.YtihjnfhdmgipmaaGreatP1
set_option linter.unusedVariables false
set_option linter.defProp false
set_option linter.unusedSimpArgs false
open Nat (ble beq)
open List (take drop replicate)
open Go.IntKind (wrap)
namespace Gx
open Go Go.Proofs
set_option maxRecDepth 100000
noncomputable section
variable{R:Type}(N:Nat)
def Lw(r0:Nat->Nat->LA->LA->O R)(c:Int)(a b:Nat)(d:LA)(k0:Nat->Int->Int->Int->Int->LA->LA->O R)(s:Nat)(h g t f:Int)(r u:LA):O R:=(cond (decide (f<t)) (cond ((decide (0<=(wrap .i64 ((wrap .i64 (g - 1)) - f))))&&((decide ((wrap .i64 ((wrap .i64 (g - 1)) - f))<=(wrap .i64 ((wrap .i64 ((wrap .i64 ((wrap .i64 (g - 1)) - f))+h))+1))))&&((decide ((wrap .i64 ((wrap .i64 ((wrap .i64 ((wrap .i64 (g - 1)) - f))+h))+1))<=(b:Int)))&&(decide ((b:Int)<=(b:Int)))))) (No N (0+(((wrap .i64 ((wrap .i64 (g - 1)) - f)).toNat)*1)) (((wrap .i64 ((wrap .i64 ((wrap .i64 ((wrap .i64 (g - 1)) - f))+h))+1)).toNat) - ((wrap .i64 ((wrap .i64 (g - 1)) - f)).toNat)) (d.take (a*1)) a false true u fun w x=>cond (Ab (wrap .i64 ((wrap .i64 (g - 1)) - f)) s) (cond ((beq 1 1)&&((ble ((0+(((wrap .i64 ((wrap .i64 (g - 1)) - f)).toNat)*1))+1) r.length)&&(!false))) (k0 s h g t (wrap .i64 (f+1)) (r.set (0+(((wrap .i64 ((wrap .i64 (g - 1)) - f)).toNat)*1)) (.int .u32 w)) x) none) none) none) (cond ((decide ((0:Int)<=(0:Int)))&&((decide (0<=h))&&((decide (h<=(b:Int)))&&(decide ((b:Int)<=(b:Int)))))) (O3 N (u.take (h.toNat*1)) h.toNat false true c fun y ad z=>Zv N s r fun aa=>r0 aa y r z) none))
def D7(r0:Nat->Nat->LA->LA->O R)(c:Int)(a b:Nat)(d:LA):Nat->Nat->Int->Int->Int->Int->LA->LA->O R
|0=>fun _ _ _ _ _ _ _=>none
|n+1=>Lw N r0 c a b d (D7 r0 c a b d n)
def Rd(r0:Nat->Nat->LA->LA->O R)(q0:Int->Nat->LA->Nat->Int->Int->Int->Int->LA->LA->O R)(j:LA)(l:Nat)(p m:Bool)(i:LA)(a:Nat)(q o:Bool):O R:=(cond (Ab (wrap .i64 ((a:Int) - 1)) a) (Aj .u32 (i.drop (((wrap .i64 ((a:Int) - 1)).toNat)*1)) fun ab=>Cx N ab fun c=>Tu N i a false o c fun v d=>cond ((decide ((0:Int)<=(0:Int)))&&((decide (0<=(a:Int)))&&((decide ((a:Int)<=(v:Int)))&&(decide ((v:Int)<=(v:Int)))))) (Tu N j l false m c fun b ac=>cond ((decide (0<=(wrap .i64 ((b:Int) - (a:Int)))))&&((decide ((wrap .i64 ((b:Int) - (a:Int)))<=(wrap .i64 ((b:Int) - (a:Int)))))&&((decide ((wrap .i64 ((b:Int) - (a:Int)))<=140737488355328))&&(decide (((wrap .i64 ((b:Int) - (a:Int)))*((4:Nat):Int))<=140737488355328))))) (q0 c b d ((wrap .i64 ((b:Int) - (a:Int))).toNat) (a:Int) (wrap .i64 ((b:Int) - (a:Int))) (wrap .i64 ((b:Int) - (a:Int))) 0 (replicate ((wrap .i64 ((b:Int) - (a:Int))).toNat) (.int .u32 0)) ac) none) none) none)
def Ld:=(shut fun N j l p m i a q o r0=>Rd (R:=R) N r0 (fun c b d=>D7 N r0 c a b d N) j l p m i a q o).1
def CU(j l p m i a q o r0):(@Ld R N j l p m i a q o r0)=(Rd N r0 (fun c b d=>D7 N r0 c a b d N) j l p m i a q o):=by rw[Ld,(shut _).2]
def GV:Hints:={H:=hK 7 (hS (hK 1 (hS (hP [4,6,7,8,9,10,35,36] hL) hL)) hL),nils:=[(4,1),(5,1)],modes:=[(2,1),(2,1)]}
def NR:Oe:=[Mi N,zl N,rX N,oP N,cT N]
def jC(F:KF R):=Iv Tryz.f228 GV (NR N) [] N F
def jD(c:Int)(a b:Nat)(d:LA)(K:St->O R):=fun s h g t f r u=>K ⟨[(4,Bbq 0 s),(6,iv h),(7,iv c),(8,Bbq 1 a),(9,Bbq 2 b),(10,iv g),(35,iv t),(36,iv f)],hq [bQ 1 r,bQ 1 d,bQ 1 u]⟩
def VQ(F:KF R)(c a b d):∀ n,jD c a b d (Ao (jC N F (pz 1398084) []) n)=(D7 N (l7 F) c a b d n):=Gu fun n e=>(B6 (Lw N (l7 F) c a b d) e:_)
def oQ:=Cc N 228 (NR N) GV (fun
|[.imm j l 1 p m,.imm i a 1 q o],[]=>some fun _ k=>Ld N j l p m i a q o (l7 k)
| _,_=>none) fun _ _=>by split;intro R F;exact(B6 (Rd N (l7 F) · _ _ _ _ _ _ _ _) (Axh fun c b d=>(lW ..).trans (VQ ..)):_).trans (CU ..).symm;trivial
def ZK(h:LA)(i:Nat)(j a:Bool)(l:LA)(m:Nat)(n b:Bool)(r0:Nat->Nat->Bool->LA->LA->O R):O R:=(C6 N h i j a fun e c=>C6 N l m n b fun f d=>cond ((d:Int)==0) (r0 0 0 false [] []) (Ej N e c false a f d false b fun p=>cond (decide (p<0)) (CN N e c false a fun q r=>r0 0 q true [] r) (cond (decide ((c:Int)<=2)) (Q6 N e c false a fun o=>Q6 N f d false b fun g=>cond (g==0) none (B7 N (wrap .u64 (Int.tdiv o g)) fun s t=>cond (g==0) none (B7 N (Int.tmod o g) fun u v=>r0 s u true t v))) (cond ((d:Int)==1) (cond (Ab 0 d) (Aj .u32 f fun w=>Ho N e c false a w fun x y z aa=>r0 x y true z aa) none) (Ld N e c false a f d false b fun ab ac ad ae=>r0 ab ac true ad ae)))))
def Fm:=(shut (@ZK R)).1
def XF:@Fm R=@ZK R:=(shut _).2
def mD:=Cc N 184 [Mg N,Kq N,UR N,iV N,Hn N,c9 N,oQ N] { H:=hL,nils:=[(4,1),(5,1)],modes:=[(2,1),(2,1),(0,0)] } (fun
|[.imm h i 1 j a,.imm l m 1 n b],[]=>some fun _ k=>Fm N h i j a l m n b (l8 k)
| _,_=>none) fun _ _=>by split;intro R F;dsimp only;rw[XF];kernel_rfl;trivial
def Z5(r0:Nat->Bool->LA->O R)(f:LA)(d:Nat)(b:Bool)(a:Nat)(g:LA)(c:Bool)(k0:Int->Int->Int->LA->O R)(r s h:Int)(i:LA):O R:=(cond (decide (h<s)) (cond (Ab h a) (Aj .u32 (g.drop (h.toNat*1)) fun t=>cond (decide (h<(d:Int))) (cond (Ab h d) (Aj .u32 (f.drop (h.toNat*1)) fun u=>cond (Ab h a) (cond ((beq 1 1)&&((ble ((0+(h.toNat*1))+1) i.length)&&(!false))) (k0 (Int.fdiv (wrap .u64 ((wrap .u64 ((wrap .u64 t) - r)) - (wrap .u64 u))) (2 ^ 63)) s (wrap .i64 (h+1)) (i.set (0+(h.toNat*1)) (.int .u32 (wrap .u32 (wrap .u64 ((wrap .u64 ((wrap .u64 t) - r)) - (wrap .u64 u))))))) none) none) none) (cond (Ab h a) (cond ((beq 1 1)&&((ble ((0+(h.toNat*1))+1) i.length)&&(!false))) (k0 (Int.fdiv (wrap .u64 ((wrap .u64 t) - r)) (2 ^ 63)) s (wrap .i64 (h+1)) (i.set (0+(h.toNat*1)) (.int .u32 (wrap .u32 (wrap .u64 ((wrap .u64 t) - r)))))) none) none)) none) (Zv N a i fun v=>r0 v true i))
def Qh(r0:Nat->Bool->LA->O R)(f:LA)(d:Nat)(b:Bool)(a:Nat)(g:LA)(c:Bool):Nat->Int->Int->Int->LA->O R
|0=>fun _ _ _ _=>none
|n+1=>Z5 N r0 f d b a g c (Qh r0 f d b a g c n)
def dA(r0:Nat->Bool->LA->O R)(q0:LA->Nat->Nat->LA->Int->Int->Int->LA->O R)(j:LA)(l:Nat)(m c:Bool)(o:LA)(p:Nat)(q b:Bool):O R:=(C6 N j l m c fun g a=>C6 N o p q b fun f d=>Ej N g a false c f d false b fun w=>cond (decide (w<0)) (r0 0 false []) (cond ((decide (0<=(a:Int)))&&((decide ((a:Int)<=(a:Int)))&&((decide ((a:Int)<=140737488355328))&&(decide (((a:Int)*((4:Nat):Int))<=140737488355328))))) (q0 f d a g 0 (a:Int) 0 (replicate a (.int .u32 0))) none))
def QV:=(shut fun N j l m c o p q b r0=>dA (R:=R) N r0 (fun f d a g=>Qh N r0 f d b a g c N) j l m c o p q b).1
def ZL(j l m c o p q b r0):(@QV R N j l m c o p q b r0)=(dA N r0 (fun f d a g=>Qh N r0 f d b a g c N) j l m c o p q b):=by rw[QV,(shut _).2]
def xc:Hints:={H:=hK 5 (hS (hK 1 (hS (hP [1,6,7,22,23,24] hL) hL)) hL),nils:=[(4,1)],modes:=[(2,1),(0,0)]}
def Ad1:Oe:=[Gf N,Kq N]
def Amo(F:KF R):=Iv Tryz.f186 xc (Ad1 N) [] N F
def Amp(f:LA)(d:Nat)(b:Bool)(a:Nat)(g:LA)(c:Bool)(K:St->O R):=fun r s h i=>K ⟨[(1,.imm f d 1 false b),(6,Bbq 0 a),(7,.int .u64 r),(22,.imm g a 1 false c),(23,iv s),(24,iv h)],hq [bQ 1 i]⟩
def zn(F:KF R)(f d b a g c):∀ n,Amp f d b a g c (Ao (Amo N F (pz 87364) []) n)=(Qh N (iN F) f d b a g c n):=Gu fun n e=>(B6 (Z5 N (iN F) f d b a g c) e:_)
def Ad2:=Cc N 186 (Ad1 N) xc (fun
|[.imm j l 1 m c,.imm o p 1 q b],[]=>some fun _ k=>QV N j l m c o p q b (iN k)
| _,_=>none) fun _ _=>by split;intro R F;exact(B6 (dA N (iN F) · _ _ _ _ _ _ _ _) (Aoq fun f d a g=>(lW ..).trans (zn ..)):_).trans (ZL ..).symm;trivial
def QW(a:LA)(b:Nat)(i c:Bool)(d:Int)(e:LA)(f:Nat)(j g:Bool)(h:Int)(r0:Nat->LA->O R):O R:=(B7 N d fun l p=>JM N a b false c (p.take (l*1)) l false true fun m q=>B7 N h fun n r=>JM N e f false g (r.take (n*1)) n false true fun o s=>QV N (q.take (m*1)) m false true (s.take (o*1)) o false true fun t v u=>r0 t u)
def G6:=(shut (@QW R)).1
def QX:@G6 R=@QW R:=(shut _).2
def zo:=Cc N 226 [Hn N,c6 N,Ad2 N] { H:=hL,nils:=[(8,1)],modes:=[(2,1)] } (fun
|[.imm a b 1 i c,.int .u64 d,.imm e f 1 j g,.int .u64 h],[]=>some fun _ k=>G6 N a b i c d e f j g h (Ge k)
| _,_=>none) fun _ _=>by split;intro R F;dsimp only;rw[QX];kernel_rfl;trivial
def JO(k1:LA->Nat->Bool->LA->Nat->Bool->O R)(r0:Nat->LA->O R)(k2:Int->Int->O R)(z s:Int):O R:=(cond (s != 0) (cond (s==0) none (k2 s (Int.tmod z s))) (B7 N z fun aj ak=>r0 aj ak))
def Qi(k1:LA->Nat->Bool->LA->Nat->Bool->O R)(r0:Nat->LA->O R):Nat->Int->Int->O R
|0=>fun _ _=>none
|n+1=>JO N k1 r0 (Qi k1 r0 n)
def Z6(r0:Nat->LA->O R)(k1:LA->Nat->Bool->LA->Nat->Bool->O R)(q2:Int->Int->O R)(g:LA)(a:Nat)(h:Bool)(i:LA)(b:Nat)(j:Bool):O R:=(cond (decide ((b:Int)>0)) (cond (decide ((a:Int)<=2)) (Q6 N g a false h fun al=>Q6 N i b false j fun am=>q2 al am) (Z2 N g a false h i b false j fun c=>cond ((beq c.length 5)&&((ble 5 5)&&(!false))) (Aj .u64 ((setCells [.int .u64 0,.int .u64 0,.int .u64 0,.int .u64 0,.bool false] 0 c).drop 2) fun an=>cond (an==0) (Fm N g a false h i b false j fun bh ae bi bj ao=>k1 i b j (ao.take (ae*1)) ae false) (Wg ((setCells [.int .u64 0,.int .u64 0,.int .u64 0,.int .u64 0,.bool false] 0 c).drop 4) fun ap=>cond ap (Aj .u64 (setCells [.int .u64 0,.int .u64 0,.int .u64 0,.int .u64 0,.bool false] 0 c) fun aq=>Aj .u64 ((setCells [.int .u64 0,.int .u64 0,.int .u64 0,.int .u64 0,.bool false] 0 c).drop 2) fun ar=>G6 N g a false h aq i b false j ar fun af au=>Aj .u64 ((setCells [.int .u64 0,.int .u64 0,.int .u64 0,.int .u64 0,.bool false] 0 c).drop 3) fun av=>Aj .u64 ((setCells [.int .u64 0,.int .u64 0,.int .u64 0,.int .u64 0,.bool false] 0 c).drop 1) fun aw=>G6 N i b false j av g a false h aw fun ag ax=>k1 (au.take (af*1)) af false (ax.take (ag*1)) ag false) (Aj .u64 ((setCells [.int .u64 0,.int .u64 0,.int .u64 0,.int .u64 0,.bool false] 0 c).drop 2) fun ay=>Aj .u64 (setCells [.int .u64 0,.int .u64 0,.int .u64 0,.int .u64 0,.bool false] 0 c) fun az=>G6 N i b false j ay g a false h az fun ah ba=>Aj .u64 ((setCells [.int .u64 0,.int .u64 0,.int .u64 0,.int .u64 0,.bool false] 0 c).drop 1) fun bb=>Aj .u64 ((setCells [.int .u64 0,.int .u64 0,.int .u64 0,.int .u64 0,.bool false] 0 c).drop 3) fun bc=>G6 N g a false h bb i b false j bc fun ai bd=>k1 (ba.take (ah*1)) ah false (bd.take (ai*1)) ai false))) none)) (CN N g a false h fun be bf=>r0 be bf))
def E5(r0:Nat->LA->O R):Nat->LA->Nat->Bool->LA->Nat->Bool->O R
|0=>fun _ _ _ _ _ _=>none
|n+1=>Z6 N r0 (E5 r0 n) (Qi N (E5 r0 n) r0 N)
def ZM(N:Nat)(r0:Nat->LA->O R)(q1:LA->Nat->Bool->LA->Nat->Bool->O R)(t:LA)(u:Nat)(v:Bool)(w:LA)(x:Nat)(y:Bool):O R:=(q1 t u v w x y)
def US(r0:Nat->LA->O R)(t:LA)(u:Nat)(v:Bool)(w:LA)(x:Nat)(y:Bool):O R:=ZM N r0 (E5 N r0 N) t u v w x y
def pR(r0:Nat->LA->O R)(q0:LA->Nat->Bool->LA->Nat->Bool->O R)(l:LA)(m:Nat)(o d:Bool)(p:LA)(q:Nat)(r f:Bool):O R:=(C6 N l m o d fun aa ab=>C6 N p q r f fun ac ad=>Ej N aa ab false d ac ad false f fun bg=>cond (decide (bg<0)) (q0 ac ad f aa ab d) (q0 aa ab d ac ad f))
def ZN:=(shut fun N l m o d p q r f r0=>pR (R:=R) N r0 (US N r0) l m o d p q r f).1
def rZ(l m o d p q r f r0):(@ZN R N l m o d p q r f r0)=(pR N r0 (US N r0) l m o d p q r f):=by rw[ZN,(shut _).2]
def xd:Hints:={H:=hK 2 (hJ [0,1] hL (hS (hS (hP [0,1] (hK 1 (hS (hS (hK 1 (hS (hK 1 (hS (hS (hP [5,6] hL) hL) hL)) hL)) hL) hL))) hL) hL)),nils:=[(0,1000001),(1,1000001)],modes:=[(2,1)]}
def Ad3:Oe:=[Mg N,Kq N,iV N,zk N,mD N,zo N,UR N,Hn N]
def jE(F:KF R):=Iv Tryz.f183 xd (Ad3 N) [] N F
def Amq(K:St->O R):=fun z s=>K ⟨[(5,.int .u64 z),(6,.int .u64 s)],[]⟩
def jF(K:St->O R):=fun g a h i b j=>K ⟨[(0,.imm g a 1 false h),(1,.imm i b 1 false j)],[]⟩
def Amr(K:St->O R):=fun t u v w x y=>K ⟨[(0,.imm t u 1 false v),(1,.imm w x 1 false y)],[]⟩
def zp Q1 (F:KF R):∀ n,Amq (Ao (jE N F (pz 356532496) [Q1]) n)=(Qi N (jF Q1) (Ge F) n):=Gu fun n e=>(B6 (JO N (jF Q1) (Ge F)) e:_)
def zq(F:KF R):∀ n,jF (Ao (jE N F (pz 1360) []) n)=(E5 N (Ge F) n):=Gu fun n e=>(QH (Z6 N (Ge F)) e ((lW ..).trans ((zp ..).trans (xP (Qi _ · _ _) e))):_)
def zr(F:KF R):Amr (A1 (jE N F (pz 85) []))=(US N (Ge F)):=(B6 (ZM N (Ge F)) ((lW ..).trans (zq ..)):_)
def Ap1:=Cc N 183 (Ad3 N) xd (fun
|[.imm l m 1 o d,.imm p q 1 r f],[]=>some fun _ k=>ZN N l m o d p q r f (Ge k)
| _,_=>none) fun _ _=>by split;intro R F;exact(B6 (pR N (Ge F) · _ _ _ _ _ _ _ _) ((jW ..).trans (zr ..)):_).trans (rZ ..).symm;trivial
def ZO(d:LA)(f:Bool)(i:LA)(j:Nat)(n l:Bool)(r0:LA->O R):O R:=(Wg d fun s=>Dd 1 (d.drop 1) fun t u=>cond (beq d.length 2) (pQ N [.bool s,.imm t u 1 false f] (f||false) fun m b g=>CN N i j false l fun c h=>cond ((b:Int)==0) (r0 [.bool false,.nsl,.imm [.int .u32 1] 1 1 false false]) (ZN N (g.take (b*1)) b false true (h.take (c*1)) c false true fun a e=>cond (((a:Int) != 1)==false) (cond (Ab 0 a) (Aj .u32 e fun v=>cond (cond false true (v != 1)) (Fm N (g.take (b*1)) b false true (e.take (a*1)) a false true fun o aa ab w ac=>Fm N (h.take (c*1)) c false true (e.take (a*1)) a false true fun p ad ae x af=>r0 [.bool m,.imm (w.take (o*1)) o 1 false false,.imm (x.take (p*1)) p 1 false false]) (r0 [.bool m,.imm (g.take (b*1)) b 1 false false,.imm (h.take (c*1)) c 1 false false])) none) (Fm N (g.take (b*1)) b false true (e.take (a*1)) a false true fun q ag ah y ai=>Fm N (h.take (c*1)) c false true (e.take (a*1)) a false true fun r aj ak z al=>r0 [.bool m,.imm (y.take (q*1)) q 1 false false,.imm (z.take (r*1)) r 1 false false]))) none)
def Qj:=(shut (@ZO R)).1
def XG:@Qj R=@ZO R:=(shut _).2
def QY:=Cc N 129 [Amm N,UR N,Ap1 N,mD N] { H:=hL,modes:=[(3,0)],cob:=[2] } (fun
|[.pagg d f,.imm i j 1 n l],[]=>some fun _ k=>Qj N d f i j n l (Dx k)
| _,_=>none) fun _ _=>by split;intro R F;dsimp only;rw[XG];kernel_rfl;trivial
def GW(r0:LA->O R)(c:Bool)(a:LA)(d:Bool)(b:LA):O R:=(cond (ble 3 a.length) (Mh N (a.take 3) c fun e l m n o=>cond ((beq 0 0)&&((beq e.length 2)&&(beq 2 2))) (cond (ble 3 b.length) (Mh N (b.take 3) d fun f p q r s=>cond ((beq 0 0)&&((beq f.length 2)&&(beq 2 2))) (cond (ble 2 e.length) (cond (ble 2 f.length) (QR N (e.take 2) l (f.take 2) p fun t i u=>JM N m n false o q r false s fun j v=>Qj N [.bool t,.imm (u.take (i*1)) i 1 false true] true (v.take (j*1)) j false true fun g=>cond ((beq 0 0)&&((beq g.length 3)&&(beq 3 3))) (cond (ble 3 g.length) (r0 (g.take 3)) none) none) none) none) none) none) none) none)
def UT(r0:LA->O R)(q0:O R)(a:LA)(c:Bool)(b:LA)(d:Bool):O R:=(cond (ble 3 a.length) (G5 N (a.take 3) c fun w x y=>cond (ble 3 b.length) (G5 N (b.take 3) d fun z aa ab=>cond (y==true) (cond (cond true ab false) (Jv N (wrap .i64 (w*z)) (wrap .i64 (x*aa)) fun h=>cond ((beq 0 0)&&((beq h.length 3)&&(beq 3 3))) (cond (ble 3 h.length) (r0 (h.take 3)) none) none) q0) q0) none) none)
def Oj:=(shut fun N a c b d r0=>UT (R:=R) N r0 (GW N r0 c a d b) a c b d).1
def JP(a c b d r0):(@Oj R N a c b d r0)=(UT N r0 (GW N r0 c a d b) a c b d):=by rw[Oj,(shut _).2]
def xe:Hints:={H:=hK 3 (hJ [2,3,4] hL hL),modes:=[(3,0)]}
def Ad4:Oe:=[JI N,FI N,Zy N,rU N,c6 N,QY N]
def Ams(F:KF R):=Iv Tryz.f73 xe (Ad4 N) [] N F
def Amt(c:Bool)(a:LA)(d:Bool)(b:LA)(K:St->O R):=K ⟨[(2,op 0),(3,op 1),(4,op 2)],hq [bP c 0 a,bP d 0 b,bN 0 [.bool false,.nsl,.nsl]]⟩
def zt(F:KF R)(c a d b):Amt c a d b (A1 (Ams N F (pz 341) []))=(GW N (Dx F) c a d b):=by kernel_rfl
def Vm:=Cc N 73 (Ad4 N) xe (fun
|[.pagg a c,.pagg b d],[]=>some fun _ k=>Oj N a c b d (Dx k)
| _,_=>none) fun _ _=>by split;intro R F;exact(B6 (UT N (Dx F) · _ _ _ _) ((jW ..).trans (zt ..)):_).trans (JP ..).symm;trivial
def r7(a:LA)(b:Bool)(r0:Int->O R):O R:=(Dd 1 (a.drop 1) fun c d=>Ts N c d false b fun e=>cond (e==0) (r0 0) (Wg a fun f=>cond f (r0 (-1)) (r0 1)))
def UU:=(shut (@r7 R)).1
def mE:@UU R=@r7 R:=(shut _).2
def xh:=Cc N 124 [cZ N] D5 (fun
|[.pagg a b],[]=>some fun _ k=>UU N a b (Ee k)
| _,_=>none) fun _ _=>by split;intro R F;dsimp only;rw[mE];kernel_rfl;trivial
def r8(a:LA)(b:Bool)(r0:Int->O R):O R:=(cond (ble 3 a.length) (Mh N (a.take 3) b fun c d f g h=>cond ((beq 0 0)&&((beq c.length 2)&&(beq 2 2))) (cond (ble 2 c.length) (UU N (c.take 2) d fun e=>r0 e) none) none) none)
def Rf:=(shut (@r8 R)).1
def mF:@Rf R=@r8 R:=(shut _).2
def GX:=Cc N 69 [Zy N,xh N] D5 (fun
|[.pagg a b],[]=>some fun _ k=>Rf N a b (Ee k)
| _,_=>none) fun _ _=>by split;intro R F;dsimp only;rw[mF];kernel_rfl;trivial
def dB(a:LA)(b:Bool)(r0:LA->O R):O R:=(cond (ble 3 a.length) (G5 N (a.take 3) b fun e f g=>cond g (Jv N e f fun c=>cond ((beq 0 0)&&((beq c.length 3)&&(beq 3 3))) (cond (ble 3 c.length) (r0 (c.take 3)) none) none) (cond (ble 3 a.length) (Mh N (a.take 3) b fun h i j l m=>Qj N h i j l false m fun d=>cond ((beq 0 0)&&((beq d.length 3)&&(beq 3 3))) (cond (ble 3 d.length) (r0 (d.take 3)) none) none) none)) none)
def JQ:=(shut (@dB R)).1
def QZ:@JQ R=@dB R:=(shut _).2
def xi:=Cc N 76 [JI N,FI N,Zy N,QY N] G3 (fun
|[.pagg a b],[]=>some fun _ k=>JQ N a b (Dx k)
| _,_=>none) fun _ _=>by split;intro R F;dsimp only;rw[QZ];kernel_rfl;trivial
def Z7(r0:Nat->LA->O R)(b:LA)(a:Nat)(d:Bool)(f:LA)(c:Nat)(g:Bool)(k1:Nat->Int->Int->Int->LA->O R)(m:Nat)(o v h:Int)(l:LA):O R:=(cond (decide (h<v)) (cond (Ab h a) (Aj .u32 (b.drop (h.toNat*1)) fun w=>cond (decide (h<(c:Int))) (cond (Ab h c) (Aj .u32 (f.drop (h.toNat*1)) fun z=>cond (Ab h m) (cond ((beq 1 1)&&((ble ((0+(h.toNat*1))+1) l.length)&&(!false))) (k1 m (Int.fdiv (wrap .u64 ((wrap .u64 (o+(wrap .u64 w)))+(wrap .u64 z))) (2 ^ 32)) v (wrap .i64 (h+1)) (l.set (0+(h.toNat*1)) (.int .u32 (wrap .u32 (wrap .u64 ((wrap .u64 (o+(wrap .u64 w)))+(wrap .u64 z))))))) none) none) none) (cond (Ab h m) (cond ((beq 1 1)&&((ble ((0+(h.toNat*1))+1) l.length)&&(!false))) (k1 m (Int.fdiv (wrap .u64 (o+(wrap .u64 w))) (2 ^ 32)) v (wrap .i64 (h+1)) (l.set (0+(h.toNat*1)) (.int .u32 (wrap .u32 (wrap .u64 (o+(wrap .u64 w))))))) none) none)) none) (cond (Ab (a:Int) m) (cond ((beq 1 1)&&((ble ((0+(a*1))+1) l.length)&&(!false))) (Zv N m (l.set (0+(a*1)) (.int .u32 (wrap .u32 o))) fun ac=>r0 ac (l.set (0+(a*1)) (.int .u32 (wrap .u32 o)))) none) none))
def Tz(r0:Nat->LA->O R)(b:LA)(a:Nat)(d:Bool)(f:LA)(c:Nat)(g:Bool):Nat->Nat->Int->Int->Int->LA->O R
|0=>fun _ _ _ _ _=>none
|n+1=>Z7 N r0 b a d f c g (Tz r0 b a d f c g n)
def ZP(N:Nat)(r0:Nat->LA->O R)(q1:LA->Nat->Bool->LA->Nat->Bool->Nat->Int->Int->Int->LA->O R)(b:LA)(a:Nat)(d:Bool)(f:LA)(c:Nat)(g:Bool):O R:=(cond ((decide (0<=(wrap .i64 ((a:Int)+1))))&&((decide ((wrap .i64 ((a:Int)+1))<=(wrap .i64 ((a:Int)+1))))&&((decide ((wrap .i64 ((a:Int)+1))<=140737488355328))&&(decide (((wrap .i64 ((a:Int)+1))*((4:Nat):Int))<=140737488355328))))) (q1 b a d f c g ((wrap .i64 ((a:Int)+1)).toNat) 0 (a:Int) 0 (replicate ((wrap .i64 ((a:Int)+1)).toNat) (.int .u32 0))) none)
def GY(r0:Nat->LA->O R)(b:LA)(a:Nat)(d:Bool)(f:LA)(c:Nat)(g:Bool):O R:=ZP N r0 (fun b a d f c g=>Tz N r0 b a d f c g N) b a d f c g
def dC(r0:Nat->LA->O R)(q0:LA->Nat->Bool->LA->Nat->Bool->O R)(p:LA)(q:Nat)(r i:Bool)(s:LA)(t:Nat)(u j:Bool):O R:=(C6 N p q r i fun aa x=>C6 N s t u j fun ab y=>cond (decide ((x:Int)<(y:Int))) (q0 ab y j aa x i) (q0 aa x i ab y j))
def r9:=(shut fun N p q r i s t u j r0=>dC (R:=R) N r0 (GY N r0) p q r i s t u j).1
def ZQ(p q r i s t u j r0):(@r9 R N p q r i s t u j r0)=(dC N r0 (GY N r0) p q r i s t u j):=by rw[r9,(shut _).2]
def xj:Hints:={H:=hK 2 (hJ [0,1] hL (hK 2 (hS (hK 1 (hS (hP [0,1,5,6,24,25,26] hL) hL)) hL))),nils:=[(4,1)],modes:=[(2,1)]}
def Ad5:Oe:=[Gf N]
def xk(F:KF R):=Iv Tryz.f185 xj (Ad5 N) [] N F
def Amu(b:LA)(a:Nat)(d:Bool)(f:LA)(c:Nat)(g:Bool)(K:St->O R):=fun m o v h l=>K ⟨[(0,.imm b a 1 false d),(1,.imm f c 1 false g),(5,Bbq 0 m),(6,.int .u64 o),(24,.imm b a 1 false d),(25,iv v),(26,iv h)],hq [bQ 1 l]⟩
def Amv(K:St->O R):=fun b a d f c g=>K ⟨[(0,.imm b a 1 false d),(1,.imm f c 1 false g)],[]⟩
def zu(F:KF R)(b a d f c g):∀ n,Amu b a d f c g (Ao (xk N F (pz 87364) []) n)=(Tz N (Ge F) b a d f c g n):=Gu fun n e=>(B6 (Z7 N (Ge F) b a d f c g) e:_)
def zw(F:KF R):Amv (A1 (xk N F (pz 85) []))=(GY N (Ge F)):=(B6 (ZP N (Ge F)) (Api fun b a d f c g=>(lW ..).trans (zu ..)):_)
def Ap2:=Cc N 185 (Ad5 N) xj (fun
|[.imm p q 1 r i,.imm s t 1 u j],[]=>some fun _ k=>r9 N p q r i s t u j (Ge k)
| _,_=>none) fun _ _=>by split;intro R F;exact(B6 (dC N (Ge F) · _ _ _ _ _ _ _ _) ((jW ..).trans (zw ..)):_).trans (ZQ ..).symm;trivial
def dD(a:LA)(c:Bool)(b:LA)(d:Bool)(r0:Bool->Nat->LA->O R):O R:=(Wg a fun l=>Wg b fun m=>cond (l==m) (Wg a fun n=>Dd 1 (a.drop 1) fun o p=>Dd 1 (b.drop 1) fun q r=>r9 N o p false c q r false d fun e f=>La N n e f fun s=>r0 s e f) (Dd 1 (a.drop 1) fun t u=>Dd 1 (b.drop 1) fun v w=>QV N t u false c v w false d fun g x h=>cond x (Wg a fun y=>La N y g h fun z=>r0 z g h) (Dd 1 (b.drop 1) fun aa ab=>Dd 1 (a.drop 1) fun ac ad=>QV N aa ab false d ac ad false c fun i ag j=>Wg b fun ae=>La N ae i j fun af=>r0 af i j)))
def r_:=(shut (@dD R)).1
def JR:@r_ R=@dD R:=(shut _).2
def Ap3:=Cc N 130 [Ap2 N,CL N,Ad2 N] D5 (fun
|[.pagg a c,.pagg b d],[]=>some fun _ k=>r_ N a c b d (As3 k)
| _,_=>none) fun _ _=>by split;intro R F;dsimp only;rw[JR];kernel_rfl;trivial
def GZ(r0:LA->O R)(c:Bool)(a:LA)(d:Bool)(b:LA):O R:=(cond (ble 3 a.length) (Mh N (a.take 3) c fun i x n o j=>cond ((beq 0 0)&&((beq i.length 2)&&(beq 2 2))) (cond (ble 3 b.length) (Mh N (b.take 3) d fun l y q r p=>cond ((beq 0 0)&&((beq l.length 2)&&(beq 2 2))) (Ej N n o false j q r false p fun ae=>cond (ae==0) (cond (ble 2 i.length) (cond (ble 2 l.length) (r_ N (i.take 2) x (l.take 2) y fun af z ag=>Qj N [.bool af,.imm (ag.take (z*1)) z 1 false true] true n o false j fun s=>cond ((beq 0 0)&&((beq s.length 3)&&(beq 3 3))) (cond (ble 3 s.length) (r0 (s.take 3)) none) none) none) none) (cond (ble 2 i.length) (QR N (i.take 2) x [.bool false,.imm q r 1 false p] (p||false) fun ah aa ai=>cond (ble 2 l.length) (QR N (l.take 2) y [.bool false,.imm n o 1 false j] (j||false) fun aj ab ak=>r_ N [.bool ah,.imm (ai.take (aa*1)) aa 1 false true] true [.bool aj,.imm (ak.take (ab*1)) ab 1 false true] true fun al ac am=>JM N n o false j q r false p fun ad an=>Qj N [.bool al,.imm (am.take (ac*1)) ac 1 false true] true (an.take (ad*1)) ad false true fun t=>cond ((beq 0 0)&&((beq t.length 3)&&(beq 3 3))) (cond (ble 3 t.length) (r0 (t.take 3)) none) none) none) none)) none) none) none) none)
def JT(r0:LA->O R)(g e h f:Int)(c:Bool)(a:LA)(d:Bool)(b:LA)(q1:O R)(m:Bool):O R:=(cond m (Jv N (wrap .i64 ((wrap .i64 (g*f))+(wrap .i64 (h*e)))) (wrap .i64 (e*f)) fun u=>cond ((beq 0 0)&&((beq u.length 3)&&(beq 3 3))) (cond (ble 3 u.length) (r0 (u.take 3)) none) none) q1)
def Qk(r0:LA->O R)(g e h f:Int)(c:Bool)(a:LA)(d:Bool)(b:LA)(m:Bool):O R:=JT N r0 g e h f c a d b (GZ N r0 c a d b) m
def UV(r0:LA->O R)(q0:Int->Int->Int->Int->Bool->O R)(a:LA)(c:Bool)(b:LA)(d:Bool):O R:=(cond (ble 3 a.length) (Rf N (a.take 3) c fun ao=>cond (ao==0) (cond (ble 3 b.length) (JQ N (b.take 3) d fun v=>cond ((beq 0 0)&&((beq v.length 3)&&(beq 3 3))) (cond (ble 3 v.length) (r0 (v.take 3)) none) none) none) (cond (ble 3 b.length) (Rf N (b.take 3) d fun ap=>cond (ap==0) (cond (ble 3 a.length) (JQ N (a.take 3) c fun w=>cond ((beq 0 0)&&((beq w.length 3)&&(beq 3 3))) (cond (ble 3 w.length) (r0 (w.take 3)) none) none) none) (cond (ble 3 a.length) (G5 N (a.take 3) c fun g e aq=>cond (ble 3 b.length) (G5 N (b.take 3) d fun h f ar=>cond (aq==true) (q0 g e h f (cond true ar false)) (q0 g e h f false)) none) none)) none)) none)
def Pv:=(shut fun N a c b d r0=>UV (R:=R) N r0 (fun g e h f=>Qk N r0 g e h f c a d b) a c b d).1
def JU(a c b d r0):(@Pv R N a c b d r0)=(UV N r0 (fun g e h f=>Qk N r0 g e h f c a d b) a c b d):=by rw[Pv,(shut _).2]
def xm:Hints:={H:=hK 5 (hJ [2,3,4] (hJ [2,3,4,5,6,8,9,41] hL hL) hL),modes:=[(3,0)]}
def Ad6:Oe:=[GX N,xi N,JI N,FI N,Zy N,Kq N,Ap3 N,QY N,rU N,c6 N]
def xn(F:KF R):=Iv Tryz.f72 xm (Ad6 N) [] N F
def Amw(c:Bool)(a:LA)(d:Bool)(b:LA)(K:St->O R):=K ⟨[(2,op 0),(3,op 1),(4,op 2)],hq [bP c 0 a,bP d 0 b,bN 0 [.bool false,.nsl,.nsl]]⟩
def Amx(g e h f:Int)(c:Bool)(a:LA)(d:Bool)(b:LA)(K:St->O R):=fun m=>K ⟨[(2,op 0),(3,op 1),(4,op 2),(5,iv g),(6,iv e),(8,iv h),(9,iv f),(41,.bool m)],hq [bP c 0 a,bP d 0 b,bN 0 [.bool false,.nsl,.nsl]]⟩
def zx(F:KF R)(c a d b):Amw c a d b (A1 (xn N F (pz 5461) []))=(GZ N (Dx F) c a d b):=by kernel_rfl
def zy(F:KF R)(g e h f c a d b):Amx g e h f c a d b (A1 (xn N F (pz 21841) []))=(Qk N (Dx F) g e h f c a d b):=(B6 (JT N (Dx F) g e h f c a d b) ((jW ..).trans (zx ..)):_)
def Z8:=Cc N 72 (Ad6 N) xm (fun
|[.pagg a c,.pagg b d],[]=>some fun _ k=>Pv N a c b d (Dx k)
| _,_=>none) fun _ _=>by split;intro R F;exact(B6 (UV N (Dx F) · _ _ _ _) (Aoq fun g e h f=>(jW ..).trans (zy ..)):_).trans (JU ..).symm;trivial
def Aaa(a:LA)(b:Bool)(c:LA)(d:Bool)(r0:LA->O R):O R:=(Wg a fun f=>Dd 1 (a.drop 1) fun g h=>Dd 1 (a.drop 2) fun i j=>cond (beq a.length 3) (Wg c fun l=>Dd 1 (c.drop 1) fun m n=>Dd 1 (c.drop 2) fun o p=>cond (beq c.length 3) (Pv N [.bool f,.imm g h 1 false b,.imm i j 1 false b] (b||(b||false)) [.bool (!l),.imm m n 1 false d,.imm o p 1 false d] (d||(d||false)) fun e=>cond ((beq 0 0)&&((beq e.length 3)&&(beq 3 3))) (cond (ble 3 e.length) (r0 (e.take 3)) none) none) none) none)
def Wn:=(shut (@Aaa R)).1
def ra:@Wn R=@Aaa R:=(shut _).2
def G_:=Cc N 67 [Z8 N] { H:=hL,modes:=[(3,0)],cob:=[2,3] } (fun
|[.pagg a b,.pagg c d],[]=>some fun _ k=>Wn N a b c d (Dx k)
| _,_=>none) fun _ _=>by split;intro R F;dsimp only;rw[ra];kernel_rfl;trivial
def Rg(N:Nat)(a:Int)(r0:Bool->O R):O R:=(r0 (a != a))
def Le:=(shut (@Rg R)).1
def Rh:@Le R=@Rg R:=(shut _).2
def NS:=Cc N 175 [] D5 (fun
|[.int .i64 a],[]=>some fun _ k=>Le N a (Bu k)
| _,_=>none) fun _ _=>by split;intro R F;dsimp only;rw[Rh];kernel_rfl;trivial
def T0(a b:Int)(r0:Int->O R):O R:=(Le N a fun d=>Le N b fun c=>cond d (cond c (r0 0) (r0 (-1))) (cond c (r0 1) (cond (decide (a<b)) (r0 (-1)) (cond (decide (a>b)) (r0 1) (r0 0)))))
def Pb:=(shut (@T0 R)).1
def W6:@Pb R=@T0 R:=(shut _).2
def dE:=Cc N 114 [NS N] D5 (fun
|[.int .i64 a,.int .i64 b],[]=>some fun _ k=>Pb N a b (Ee k)
| _,_=>none) fun _ _=>by split;intro R F;dsimp only;rw[W6];kernel_rfl;trivial
def T1(N:Nat)(a:Int)(r0:Bool->O R):O R:=(r0 (a != a))
def Pd:=(shut (@T1 R)).1
def W7:@Pd R=@T1 R:=(shut _).2
def dF:=Cc N 177 [] D5 (fun
|[.int .i64 a],[]=>some fun _ k=>Pd N a (Bu k)
| _,_=>none) fun _ _=>by split;intro R F;dsimp only;rw[W7];kernel_rfl;trivial
def Pw(a b:Int)(r0:Int->O R):O R:=(Pd N a fun d=>Pd N b fun c=>cond d (cond c (r0 0) (r0 (-1))) (cond c (r0 1) (cond (decide (a<b)) (r0 (-1)) (cond (decide (a>b)) (r0 1) (r0 0)))))
def Lx:=(shut (@Pw R)).1
def S6:@Lx R=@Pw R:=(shut _).2
def VR:=Cc N 116 [dF N] D5 (fun
|[.int .i64 a,.int .i64 b],[]=>some fun _ k=>Lx N a b (Ee k)
| _,_=>none) fun _ _=>by split;intro R F;dsimp only;rw[S6];kernel_rfl;trivial
def Q_(a:LA)(c:Bool)(b:LA)(d:Bool)(r0:Int->O R):O R:=(cond (ble 2 a.length) (UU N (a.take 2) c fun e=>cond (ble 2 b.length) (UU N (b.take 2) d fun f=>cond (decide (e<f)) (r0 (-1)) (cond (decide (e>f)) (r0 1) (cond (decide (e<0)) (Dd 1 (b.drop 1) fun g h=>Dd 1 (a.drop 1) fun i j=>Ej N g h false d i j false c fun l=>r0 l) (Dd 1 (a.drop 1) fun m n=>Dd 1 (b.drop 1) fun o p=>Ej N m n false c o p false d fun q=>r0 q)))) none) none)
def JV:=(shut (@Q_ R)).1
def Q':@JV R=@Q_ R:=(shut _).2
def Aab:=Cc N 118 [xh N,Kq N] D5 (fun
|[.pagg a c,.pagg b d],[]=>some fun _ k=>JV N a c b d (Ee k)
| _,_=>none) fun _ _=>by split;intro R F;dsimp only;rw[Q'];kernel_rfl;trivial
def O4(r0:Int->O R)(c:Bool)(a:LA)(d:Bool)(b:LA):O R:=(cond (ble 3 a.length) (Mh N (a.take 3) c fun e n o p g=>cond ((beq 0 0)&&((beq e.length 2)&&(beq 2 2))) (cond (ble 3 b.length) (Mh N (b.take 3) d fun f q r s h=>cond ((beq 0 0)&&((beq f.length 2)&&(beq 2 2))) (cond (ble 2 e.length) (QR N (e.take 2) n [.bool false,.imm r s 1 false h] (h||false) fun t i u=>cond (ble 2 f.length) (QR N (f.take 2) q [.bool false,.imm o p 1 false g] (g||false) fun v j w=>JV N [.bool t,.imm (u.take (i*1)) i 1 false true] true [.bool v,.imm (w.take (j*1)) j 1 false true] true fun x=>r0 x) none) none) none) none) none) none)
def CV(r0:Int->O R)(q0:O R)(a:LA)(c:Bool)(b:LA)(d:Bool):O R:=(cond (ble 3 a.length) (Rf N (a.take 3) c fun l=>cond (ble 3 b.length) (Rf N (b.take 3) d fun m=>cond (l != m) (Pb N l m fun y=>r0 y) (cond (ble 3 a.length) (G5 N (a.take 3) c fun z aa ab=>cond (ble 3 b.length) (G5 N (b.take 3) d fun ac ad ae=>cond (ab==true) (cond (cond true ae false) (Lx N (wrap .i64 (z*ad)) (wrap .i64 (ac*aa)) fun af=>r0 af) q0) q0) none) none)) none) none)
def Ih:=(shut fun N a c b d r0=>CV (R:=R) N r0 (O4 N r0 c a d b) a c b d).1
def RA(a c b d r0):(@Ih R N a c b d r0)=(CV N r0 (O4 N r0 c a d b) a c b d):=by rw[Ih,(shut _).2]
def XH:Hints:={H:=hK 4 (hJ [2,3] hL hL)}
def dG:Oe:=[GX N,dE N,JI N,VR N,Zy N,rU N,Aab N]
def vX(F:KF R):=Iv Tryz.f55 XH (dG N) [] N F
def vY(c:Bool)(a:LA)(d:Bool)(b:LA)(K:St->O R):=K ⟨[(2,op 0),(3,op 1)],hq [bP c 0 a,bP d 0 b]⟩
def jG(F:KF R)(c a d b):vY c a d b (A1 (vX N F (pz 1365) []))=(O4 N (Ee F) c a d b):=by kernel_rfl
def Ri:=Cc N 55 (dG N) XH (fun
|[.pagg a c,.pagg b d],[]=>some fun _ k=>Ih N a c b d (Ee k)
| _,_=>none) fun _ _=>by split;intro R F;exact(B6 (CV N (Ee F) · _ _ _ _) ((jW ..).trans (jG ..)):_).trans (RA ..).symm;trivial
def Aac(a:LA)(c:Bool)(b:LA)(d:Bool)(r0:LA->O R):O R:=(cond (ble 3 a.length) (cond (ble 3 b.length) (Ih N (a.take 3) c (b.take 3) d fun g=>cond (decide (g>=0)) (cond (ble 3 a.length) (JQ N (a.take 3) c fun e=>cond ((beq 0 0)&&((beq e.length 3)&&(beq 3 3))) (cond (ble 3 e.length) (r0 (e.take 3)) none) none) none) (cond (ble 3 b.length) (JQ N (b.take 3) d fun f=>cond ((beq 0 0)&&((beq f.length 3)&&(beq 3 3))) (cond (ble 3 f.length) (r0 (f.take 3)) none) none) none)) none) none)
def Aad:=(shut (@Aac R)).1
def rg:@Aad R=@Aac R:=(shut _).2
def Ap4:=Cc N 198 [Ri N,xi N] G3 (fun
|[.pagg a c,.pagg b d],[]=>some fun _ k=>Aad N a c b d (Dx k)
| _,_=>none) fun _ _=>by split;intro R F;dsimp only;rw[rg];kernel_rfl;trivial
def FJ(a b:Int)(r0:Bool->O R):O R:=(Le N a fun c=>cond (c==true) (Le N b fun d=>cond ((cond true (!d) false)==false) (r0 (cond false true (decide (a<b)))) (r0 true)) (r0 (cond false true (decide (a<b)))))
def X6:=(shut (@FJ R)).1
def G':@X6 R=@FJ R:=(shut _).2
def ri:=Cc N 187 [NS N] D5 (fun
|[.int .i64 a,.int .i64 b],[]=>some fun _ k=>X6 N a b (Bu k)
| _,_=>none) fun _ _=>by split;intro R F;dsimp only;rw[G'];kernel_rfl;trivial
def Aae(c:LA)(d:Bool)(a:LA)(b:Bool)(r0:LA->Bool->O R):O R:=(cond (ble 3 a.length) (Rf N (a.take 3) b fun f=>cond (f==0) (r0 [.bool false,.nsl,.nsl] false) (cond (ble 3 c.length) (Wg a fun g=>Dd 1 (a.drop 2) fun h i=>Dd 1 (a.drop 1) fun j l=>Oj N (c.take 3) d [.bool g,.imm h i 1 false b,.imm j l 1 false b] (b||(b||false)) fun e=>cond ((beq 0 0)&&((beq e.length 3)&&(beq 3 3))) (cond (ble 3 e.length) (r0 (e.take 3) true) none) none) none)) none)
def Aaf:=(shut (@Aae R)).1
def rj:@Aaf R=@Aae R:=(shut _).2
def Ap5:=Cc N 133 [GX N,Vm N] { H:=hL,modes:=[(3,0),(0,0)] } (fun
|[.pagg c d,.pagg a b],[]=>some fun _ k=>Aaf N c d a b (zY k)
| _,_=>none) fun _ _=>by split;intro R F;dsimp only;rw[rj];kernel_rfl;trivial
def X7(N:Nat)(r0:Nat->LA->O R)(b:LA)(a:Nat)(f c:Bool)(k0:Int->O R)(d:Int):O R:=(cond ((decide (d>0))==true) (cond (Ab (wrap .i64 (d - 1)) a) (Aj .u32 (b.drop (((wrap .i64 (d - 1)).toNat)*1)) fun g=>cond (cond true (g==0) false) (k0 (wrap .i64 (d - 1))) (cond ((decide ((0:Int)<=(0:Int)))&&((decide (0<=d))&&((decide (d<=(a:Int)))&&(decide ((a:Int)<=(a:Int)))))) (cond ((!c)||(Bb (b.take (d.toNat*1)))) (cond ((ble (0+d.toNat) 140737488355328)&&(ble ((0+d.toNat)*4) 140737488355328)) (r0 (0+d.toNat) (b.take (d.toNat*1))) none) none) none)) none) (cond ((decide ((0:Int)<=(0:Int)))&&((decide (0<=d))&&((decide (d<=(a:Int)))&&(decide ((a:Int)<=(a:Int)))))) (cond ((!c)||(Bb (b.take (d.toNat*1)))) (cond ((ble (0+d.toNat) 140737488355328)&&(ble ((0+d.toNat)*4) 140737488355328)) (r0 (0+d.toNat) (b.take (d.toNat*1))) none) none) none))
def Ml(r0:Nat->LA->O R)(b:LA)(a:Nat)(f c:Bool):Nat->Int->O R
|0=>fun _=>none
|n+1=>X7 N r0 b a f c (Ml r0 b a f c n)
def HA(N:Nat)(r0:Nat->LA->O R)(q0:Int->O R)(b:LA)(a:Nat)(f c:Bool):O R:=(q0 (a:Int))
def D8:=(shut fun N b a f c r0=>HA (R:=R) N r0 (Ml N r0 b a f c N) b a f c).1
def JW(b a f c r0):(@D8 R N b a f c r0)=(HA N r0 (Ml N r0 b a f c N) b a f c):=by rw[D8,(shut _).2]
def Ad7(F:KF R):=Iv Tryz.f193 l6 [] [] N F
def Ad8(b:LA)(a:Nat)(f c:Bool)(K:St->O R):=fun d=>K ⟨[(0,.imm b a 1 f c),(3,iv d)],[]⟩
def rm(F:KF R)(b a f c):∀ n,Ad8 b a f c (Ao (Ad7 N F (pz 336) []) n)=(Ml N (Ge F) b a f c n):=Gu fun n e=>(B6 (X7 N (Ge F) b a f c) e:_)
def Ii:=Cc N 193 [] l6 (fun
|[.imm b a 1 f c],[]=>some fun _ k=>D8 N b a f c (Ge k)
| _,_=>none) fun _ _=>by split;intro R F;exact(B6 (HA N (Ge F) · _ _ _ _) ((lW ..).trans (rm ..)):_).trans (JW ..).symm;trivial
def jH(b:Bool)(c:LA)(d:Nat)(f e:Bool)(r0:LA->O R):O R:=(D8 N c d false e fun a g=>cond (b==true) (r0 [.bool (cond true (decide ((a:Int)>0)) false),.imm (g.take (a*1)) a 1 false false]) (r0 [.bool false,.imm (g.take (a*1)) a 1 false false]))
def G7:=(shut (@jH R)).1
def dH:@G7 R=@jH R:=(shut _).2
def Mm:=Cc N 139 [Ii N] G3 (fun
|[.bool b,.imm c d 1 f e],[]=>some fun _ k=>G7 N b c d f e (Dx k)
| _,_=>none) fun _ _=>by split;intro R F;dsimp only;rw[dH];kernel_rfl;trivial
def jI(a:LA)(b:Bool)(r0:LA->O R):O R:=(Wg a fun d=>Dd 1 (a.drop 1) fun e f=>G7 N d e f false b fun c=>cond ((beq 0 0)&&((beq c.length 2)&&(beq 2 2))) (cond (ble 2 c.length) (r0 (c.take 2)) none) none)
def HB:=(shut (@jI R)).1
def dI:@HB R=@jI R:=(shut _).2
def rn:=Cc N 120 [Mm N] G3 (fun
|[.pagg a b],[]=>some fun _ k=>HB N a b (Dx k)
| _,_=>none) fun _ _=>by split;intro R F;dsimp only;rw[dI];kernel_rfl;trivial
def jJ(a:LA)(b:Bool)(r0:Int->O R):O R:=(cond (ble 2 a.length) (HB N (a.take 2) b fun c=>cond ((beq c.length 2)&&((ble 2 a.length)&&(!false))) (Wg (setCells a 0 c) fun d=>cond d (r0 (-1)) (Dd 1 ((setCells a 0 c).drop 1) fun f e=>cond ((e:Int)==0) (r0 0) (r0 1))) none) none)
def HC:=(shut (@jJ R)).1
def dJ:@HC R=@jJ R:=(shut _).2
def ro:=Cc N 60 [rn N] D5 (fun
|[.pagg a b],[]=>some fun _ k=>HC N a b (Ee k)
| _,_=>none) fun _ _=>by split;intro R F;dsimp only;rw[dJ];kernel_rfl;trivial
def jK(N:Nat)(r0:LA->O R):O R:=(r0 [.bool false,.imm [] 0 1 false false,.imm [.int .u32 1] 1 1 false false])
def HD:=(shut (@jK R)).1
def dK:@HD R=@jK R:=(shut _).2
def ZR:=Cc N 35 [] G3 (fun
|[],[]=>some fun _ k=>HD N (Dx k)
| _,_=>none) fun _ _=>by split;intro R F;dsimp only;rw[dK];kernel_rfl;trivial
def Uw(N:Nat)(r0:Bool->O R)(c:LA)(a:Nat)(f g:Bool)(d:LA)(b:Nat)(h i:Bool)(k0:Int->O R)(j:Int):O R:=(cond (decide (j<(a:Int))) (cond (Ab j a) (Aj .u32 (c.drop (j.toNat*1)) fun l=>cond (Ab j b) (Aj .u32 (d.drop (j.toNat*1)) fun m=>cond (l != m) (r0 false) (k0 (wrap .i64 (j+1)))) none) none) (r0 true))
def J6(r0:Bool->O R)(c:LA)(a:Nat)(f g:Bool)(d:LA)(b:Nat)(h i:Bool):Nat->Int->O R
|0=>fun _=>none
|n+1=>Uw N r0 c a f g d b h i (J6 r0 c a f g d b h i n)
def JX(N:Nat)(r0:Bool->O R)(q0:Int->O R)(c:LA)(a:Nat)(f g:Bool)(d:LA)(b:Nat)(h i:Bool):O R:=(cond ((a:Int) != (b:Int)) (r0 false) (q0 0))
def HE:=(shut fun N c a f g d b h i r0=>JX (R:=R) N r0 (J6 N r0 c a f g d b h i N) c a f g d b h i).1
def XI(c a f g d b h i r0):(@HE R N c a f g d b h i r0)=(JX N r0 (J6 N r0 c a f g d b h i N) c a f g d b h i):=by rw[HE,(shut _).2]
def dL:Hints:={H:=hK 2 (hS (hK 1 (hS (hP [0,1,5] hL) hL)) hL)}
def Aag(F:KF R):=Iv Tryz.f135 dL [] [] N F
def Aah(c:LA)(a:Nat)(f g:Bool)(d:LA)(b:Nat)(h i:Bool)(K:St->O R):=fun j=>K ⟨[(0,.imm c a 1 f g),(1,.imm d b 1 h i),(5,iv j)],[]⟩
def oR(F:KF R)(c a f g d b h i):∀ n,Aah c a f g d b h i (Ao (Aag N F (pz 1348) []) n)=(J6 N (Bu F) c a f g d b h i n):=Gu fun n e=>(B6 (Uw N (Bu F) c a f g d b h i) e:_)
def Ad9:=Cc N 135 [] dL (fun
|[.imm c a 1 f g,.imm d b 1 h i],[]=>some fun _ k=>HE N c a f g d b h i (Bu k)
| _,_=>none) fun _ _=>by split;intro R F;exact(B6 (JX N (Bu F) · _ _ _ _ _ _ _ _) ((lW ..).trans (oR ..)):_).trans (XI ..).symm;trivial
def Ff(N:Nat)(r0:Int->Bool->O R)(a:Nat)(b:LA)(k0:Int->Int->O R)(i h:Int):O R:=(cond (decide (h>=0)) (cond (Ab h a) (Aj .u32 (b.drop (0+(h.toNat*1))) fun j=>k0 (Qe .u64 (wrap .u64 (i*2 ^ 32)) (wrap .u64 j)) (wrap .i64 (h - 1))) none) (r0 i true))
def El(r0:Int->Bool->O R)(a:Nat)(b:LA):Nat->Int->Int->O R
|0=>fun _ _=>none
|n+1=>Ff N r0 a b (El r0 a b n)
def CW(r0:Int->Bool->O R)(q0:Nat->LA->Int->Int->O R)(c:LA)(d:Nat)(g f:Bool):O R:=(D8 N c d false f fun a b=>cond (decide ((a:Int)>2)) (r0 0 false) (q0 a b 0 (wrap .i64 ((a:Int) - 1))))
def T2:=(shut fun N c d g f r0=>CW (R:=R) N r0 (fun a b=>El N r0 a b N) c d g f).1
def RC(c d g f r0):(@T2 R N c d g f r0)=(CW N r0 (fun a b=>El N r0 a b N) c d g f):=by rw[T2,(shut _).2]
def XJ:Hints:={H:=hK 4 (hS (hK 1 (hS (hP [0,4,5] hL) hL)) hL)}
def dM:Oe:=[Ii N]
def vZ(F:KF R):=Iv Tryz.f229 XJ (dM N) [] N F
def v_(a:Nat)(b:LA)(K:St->O R):=fun i h=>K ⟨[(0,Bbq 0 a),(4,.int .u64 i),(5,iv h)],hq [bQ 1 b]⟩
def jL(F:KF R)(a b):∀ n,v_ a b (Ao (vZ N F (pz 21828) []) n)=(El N (Adb F) a b n):=Gu fun n e=>(B6 (Ff N (Adb F) a b) e:_)
def Aai:=Cc N 229 (dM N) XJ (fun
|[.imm c d 1 g f],[]=>some fun _ k=>T2 N c d g f (Adb k)
| _,_=>none) fun _ _=>by split;intro R F;exact(B6 (CW N (Adb F) · _ _ _ _) (rD fun a b=>(lW ..).trans (jL ..)):_).trans (RC ..).symm;trivial
def Wo(a:Int)(r0:Nat->LA->O R):O R:=(D8 N [.int .u32 (wrap .u32 a),.int .u32 (wrap .u32 (Int.fdiv a (2 ^ 32)))] 2 false true fun b c=>r0 b c)
def G8:=(shut (@Wo R)).1
def Z9:@G8 R=@Wo R:=(shut _).2
def HF:=Cc N 140 [Ii N] Apm (fun
|[.int .u64 a],[]=>some fun _ k=>G8 N a (Ge k)
| _,_=>none) fun _ _=>by split;intro R F;dsimp only;rw[Z9];kernel_rfl;trivial
def Rj(N:Nat)(r0:Int->O R)(k0:Int->Int->O R)(g h:Int):O R:=(cond (decide (h>0)) (k0 (wrap .i64 (g+1)) (Int.fdiv h (2 ^ 1))) (r0 g))
def Jw(r0:Int->O R):Nat->Int->Int->O R
|0=>fun _ _=>none
|n+1=>Rj N r0 (Jw r0 n)
def HG(r0:Int->O R)(q0:Int->Int->O R)(a:LA)(b:Nat)(d c:Bool):O R:=(D8 N a b false c fun f i=>cond ((f:Int)==0) (r0 0) (cond (Ab (wrap .i64 ((f:Int) - 1)) f) (Aj .u32 (i.drop (0+(((wrap .i64 ((f:Int) - 1)).toNat)*1))) fun j=>q0 (wrap .i64 (32*(wrap .i64 ((f:Int) - 1)))) j) none))
def RD:=(shut fun N a b d c r0=>HG (R:=R) N r0 (Jw N r0 N) a b d c).1
def JY(a b d c r0):(@RD R N a b d c r0)=(HG N r0 (Jw N r0 N) a b d c):=by rw[RD,(shut _).2]
def mG:Hints:={H:=hK 4 (hS (hK 1 (hS (hP [3,4] hL) hL)) hL)}
def rr:Oe:=[Ii N]
def Aea(F:KF R):=Iv Tryz.f230 mG (rr N) [] N F
def Aeb(K:St->O R):=fun g h=>K ⟨[(3,iv g),(4,.int .u32 h)],[]⟩
def rt(F:KF R):∀ n,Aeb (Ao (Aea N F (pz 21828) []) n)=(Jw N (Ee F) n):=Gu fun n e=>(B6 (Rj N (Ee F)) e:_)
def Ah8:=Cc N 230 (rr N) mG (fun
|[.imm a b 1 d c],[]=>some fun _ k=>RD N a b d c (Ee k)
| _,_=>none) fun _ _=>by split;intro R F;exact(B6 (HG N (Ee F) · _ _ _ _) ((lW ..).trans (rt ..)):_).trans (JY ..).symm;trivial
def AA(N:Nat)(k0:Nat->Int->Int->LA->O R)(r0:Nat->LA->O R)(c:LA)(a:Nat)(f g:Bool)(d:LA)(b:Nat)(h i:Bool)(j:Nat)(l:LA)(p m:Int):O R:=(cond (decide (m<(b:Int))) (cond (Ab m b) (Aj .u32 (d.drop (m.toNat*1)) fun r=>cond (Ab m j) (cond ((beq 1 1)&&((ble ((0+(m.toNat*1))+1) l.length)&&(!false))) (k0 j (Int.fdiv (wrap .u64 (p+(wrap .u64 r))) (2 ^ 32)) (wrap .i64 (m+1)) (l.set (0+(m.toNat*1)) (.int .u32 (wrap .u32 (wrap .u64 (p+(wrap .u64 r))))))) none) none) none) (cond (Ab m j) (cond ((beq 1 1)&&((ble ((0+(m.toNat*1))+1) l.length)&&(!false))) (k0 j (Int.fdiv p (2 ^ 32)) (wrap .i64 (m+1)) (l.set (0+(m.toNat*1)) (.int .u32 (wrap .u32 p)))) none) none))
def CX(r0:Nat->LA->O R)(c:LA)(a:Nat)(f g:Bool)(d:LA)(b:Nat)(h i:Bool)(k0:Nat->Int->Int->LA->O R)(q1:Nat->LA->Int->Int->O R)(j:Nat)(q o:Int)(l:LA):O R:=(cond (decide (o<(j:Int))) (cond (decide (o<(a:Int))) (cond (Ab o a) (Aj .u32 (c.drop (o.toNat*1)) fun s=>q1 j l (wrap .u64 (q+(wrap .u64 s))) o) none) (q1 j l q o)) (D8 N (l.take (j*1)) j false true fun t u=>r0 t u))
def Ij(r0:Nat->LA->O R)(c:LA)(a:Nat)(f g:Bool)(d:LA)(b:Nat)(h i:Bool):Nat->Nat->Int->Int->LA->O R
|0=>fun _ _ _ _=>none
|n+1=>CX N r0 c a f g d b h i (Ij r0 c a f g d b h i n) (fun j l=>AA N (Ij r0 c a f g d b h i n) r0 c a f g d b h i j l)
def dN(N:Nat)(r0:Nat->LA->O R)(q0:Nat->Int->Int->LA->O R)(c:LA)(a:Nat)(f g:Bool)(d:LA)(b:Nat)(h i:Bool):O R:=(cond ((decide (0<=(wrap .i64 ((Fc (a:Int) (b:Int))+1))))&&((decide ((wrap .i64 ((Fc (a:Int) (b:Int))+1))<=(wrap .i64 ((Fc (a:Int) (b:Int))+1))))&&((decide ((wrap .i64 ((Fc (a:Int) (b:Int))+1))<=140737488355328))&&(decide (((wrap .i64 ((Fc (a:Int) (b:Int))+1))*((4:Nat):Int))<=140737488355328))))) (q0 ((wrap .i64 ((Fc (a:Int) (b:Int))+1)).toNat) 0 0 (replicate ((wrap .i64 ((Fc (a:Int) (b:Int))+1)).toNat) (.int .u32 0))) none)
def JZ:=(shut fun N c a f g d b h i r0=>dN (R:=R) N r0 (Ij N r0 c a f g d b h i N) c a f g d b h i).1
def mH(c a f g d b h i r0):(@JZ R N c a f g d b h i r0)=(dN N r0 (Ij N r0 c a f g d b h i N) c a f g d b h i):=by rw[JZ,(shut _).2]
def rx:Hints:={H:=hK 3 (hS (hK 1 (hS (hP [0,1,5,6,7] (hK 1 (hS (hS (hJ [0,1,5,6,7] hL hL) hL) hL))) hL)) hL),nils:=[(4,1)],modes:=[(2,1)]}
def xo:Oe:=[Ii N]
def ry(F:KF R):=Iv Tryz.f141 rx (xo N) [] N F
def Ah9(c:LA)(a:Nat)(f g:Bool)(d:LA)(b:Nat)(h i:Bool)(j:Nat)(l:LA)(K:St->O R):=fun p m=>K ⟨[(0,.imm c a 1 f g),(1,.imm d b 1 h i),(5,Bbq 0 j),(6,.int .u64 p),(7,iv m)],hq [bQ 1 l]⟩
def sA(c:LA)(a:Nat)(f g:Bool)(d:LA)(b:Nat)(h i:Bool)(K:St->O R):=fun j q o l=>K ⟨[(0,.imm c a 1 f g),(1,.imm d b 1 h i),(5,Bbq 0 j),(6,.int .u64 q),(7,iv o)],hq [bQ 1 l]⟩
def va Q0 (F:KF R) (c a f g d b h i j l):Ah9 c a f g d b h i j l (A1 (ry N F (pz 5574721) [Q0]))=(AA N (sA c a f g d b h i Q0) (Ge F) c a f g d b h i j l):=by kernel_rfl
def vd(F:KF R)(c a f g d b h i):∀ n,sA c a f g d b h i (Ao (ry N F (pz 5444) []) n)=(Ij N (Ge F) c a f g d b h i n):=Gu fun n e=>(QH (CX N (Ge F) c a f g d b h i) e (rD fun j l=>(jW ..).trans ((va ..).trans (xP (AA _ · _ _ _ _ _ _ _ _ _ _ _) e))):_)
def xp:=Cc N 141 (xo N) rx (fun
|[.imm c a 1 f g,.imm d b 1 h i],[]=>some fun _ k=>JZ N c a f g d b h i (Ge k)
| _,_=>none) fun _ _=>by split;intro R F;exact(B6 (dN N (Ge F) · _ _ _ _ _ _ _ _) ((lW ..).trans (vd ..)):_).trans (mH ..).symm;trivial
def sB(N:Nat)(c:LA)(b:Nat)(d e:Bool)(a:Int)(r0:Int->O R):O R:=(cond (decide ((wrap .i64 (Int.tdiv a 32))>=(b:Int))) (r0 0) (cond (Ab (wrap .i64 (Int.tdiv a 32)) b) (Aj .u32 (c.drop (((wrap .i64 (Int.tdiv a 32)).toNat)*1)) fun f=>cond (decide ((wrap .u64 (Int.tmod a 32))<0)) none (r0 (Ahq .u32 (Int.fdiv f (2 ^ (min ((wrap .u64 (Int.tmod a 32)).toNat) 32))) 1))) none))
def pS:=(shut (@sB R)).1
def mI:@pS R=@sB R:=(shut _).2
def Aia(F:KF R):Int->O R:=fun g=>F (.int .u32 g) []
def Amy:=Cc N 231 [] D5 (fun
|[.imm c b 1 d e,.int .i64 a],[]=>some fun _ k=>pS N c b d e a (Aia k)
| _,_=>none) fun _ _=>by split;intro R F;dsimp only;rw[mI];kernel_rfl;trivial
def J_(N:Nat)(r0:Bool->O R)(b:LA)(a:Nat)(c d:Bool)(k0:Int->O R)(f:Int):O R:=(cond (decide (f<(a:Int))) (cond (Ab f a) (Dd 1 ((b.drop (f.toNat*3)).drop 1) fun i g=>cond ((decide ((g:Int)>4))==false) (cond (Ab f a) (Dd 1 ((b.drop (f.toNat*3)).drop 2) fun j h=>cond (cond false true (decide ((h:Int)>4))) (r0 false) (k0 (wrap .i64 (f+1)))) none) (r0 false)) none) (r0 true))
def T3(r0:Bool->O R)(b:LA)(a:Nat)(c d:Bool):Nat->Int->O R
|0=>fun _=>none
|n+1=>J_ N r0 b a c d (T3 r0 b a c d n)
def pT(N:Nat)(r0:Bool->O R)(q0:Int->O R)(b:LA)(a:Nat)(c d:Bool):O R:=(cond (decide ((a:Int)>30)) (r0 false) (q0 0))
def RF:=(shut fun N b a c d r0=>pT (R:=R) N r0 (T3 N r0 b a c d N) b a c d).1
def sC(b a c d r0):(@RF R N b a c d r0)=(pT N r0 (T3 N r0 b a c d N) b a c d):=by rw[RF,(shut _).2]
def xq:Hints:={H:=hK 2 (hS (hK 1 (hS (hP [0,3] hL) hL)) hL)}
def Amz(F:KF R):=Iv Tryz.f22 xq [] [] N F
def Am0(b:LA)(a:Nat)(c d:Bool)(K:St->O R):=fun f=>K ⟨[(0,.imm b a 3 c d),(3,iv f)],[]⟩
def Aaj(F:KF R)(b a c d):∀ n,Am0 b a c d (Ao (Amz N F (pz 1348) []) n)=(T3 N (Bu F) b a c d n):=Gu fun n e=>(B6 (J_ N (Bu F) b a c d) e:_)
def Ap6:=Cc N 22 [] xq (fun
|[.imm b a 3 c d],[]=>some fun _ k=>RF N b a c d (Bu k)
| _,_=>none) fun _ _=>by split;intro R F;exact(B6 (pT N (Bu F) · _ _ _ _) ((lW ..).trans (Aaj ..)):_).trans (sC ..).symm;trivial
def Rk(N:Nat)(r0:Bool->O R)(b c:Int)(d:LA)(a:Nat)(f g:Bool)(k0:Int->Int->O R)(i h:Int):O R:=(cond (decide (h<i)) (cond (Ab h a) (Aj .i64 (d.drop (h.toNat*1)) fun j=>cond ((decide (j<b))==false) (cond (cond false true (decide (j>c))) (r0 false) (k0 i (wrap .i64 (h+1)))) (r0 false)) none) (r0 true))
def Ik(r0:Bool->O R)(b c:Int)(d:LA)(a:Nat)(f g:Bool):Nat->Int->Int->O R
|0=>fun _ _=>none
|n+1=>Rk N r0 b c d a f g (Ik r0 b c d a f g n)
def CY(N:Nat)(r0:Bool->O R)(q0:Int->Int->O R)(b c:Int)(d:LA)(a:Nat)(f g:Bool):O R:=(q0 (a:Int) 0)
def Dl:=(shut fun N b c d a f g r0=>CY (R:=R) N r0 (Ik N r0 b c d a f g N) b c d a f g).1
def RG(b c d a f g r0):(@Dl R N b c d a f g r0)=(CY N r0 (Ik N r0 b c d a f g N) b c d a f g):=by rw[Dl,(shut _).2]
def XK:Hints:={H:=hK 1 (hS (hK 1 (hS (hP [0,1,9,10,11] hL) hL)) hL)}
def ve(F:KF R):=Iv Tryz.f103 XK [] [] N F
def vf(b c:Int)(d:LA)(a:Nat)(f g:Bool)(K:St->O R):=fun i h=>K ⟨[(0,iv b),(1,iv c),(9,.imm d a 1 f g),(10,iv i),(11,iv h)],[]⟩
def jM(F:KF R)(b c d a f g):∀ n,vf b c d a f g (Ao (ve N F (pz 324) []) n)=(Ik N (Bu F) b c d a f g n):=Gu fun n e=>(B6 (Rk N (Bu F) b c d a f g) e:_)
def KA:=Cc N 103 [] XK (fun
|[.int .i64 b,.int .i64 c,.imm d a 1 f g],[]=>some fun _ k=>Dl N b c d a f g (Bu k)
| _,_=>none) fun _ _=>by split;intro R F;exact(B6 (CY N (Bu F) · _ _ _ _ _ _) ((lW ..).trans (jM ..)):_).trans (RG ..).symm;trivial
def CZ(N:Nat)(r0:Bool->O R)(b:Bool)(a:LA):O R:=(Aj .i64 (a.drop 20) fun i=>cond ((decide (i<1))==false) (Aj .i64 (a.drop 20) fun j=>cond (cond false true (decide (j>48))) (r0 false) (Aj .i64 (a.drop 19) fun l=>cond ((l != 1)==false) (Aj .i64 (a.drop 20) fun m=>Aj .i64 (a.drop 12) fun o=>r0 (cond false true (decide (m<=o)))) (r0 true))) (r0 false))
def KB(N:Nat)(r0:Bool->O R)(c d f g:Int)(b:Bool)(a:LA)(k0:Int->O R)(q1:O R)(h:Int):O R:=(cond (decide (h<4)) (cond (Ab h 4) (cond (beq (h.toNat*1) 0) (cond ((decide (c<0))==false) (cond (cond false true (decide (c>24))) (r0 false) (k0 (wrap .i64 (h+1)))) (r0 false)) (cond (beq (h.toNat*1) 1) (cond ((decide (d<0))==false) (cond (cond false true (decide (d>24))) (r0 false) (k0 (wrap .i64 (h+1)))) (r0 false)) (cond (beq (h.toNat*1) 2) (cond ((decide (f<0))==false) (cond (cond false true (decide (f>24))) (r0 false) (k0 (wrap .i64 (h+1)))) (r0 false)) (cond (beq (h.toNat*1) 3) (cond ((decide (g<0))==false) (cond (cond false true (decide (g>24))) (r0 false) (k0 (wrap .i64 (h+1)))) (r0 false)) none)))) none) (Aj .i64 (a.drop 19) fun p=>cond ((p != 0)==true) (Aj .i64 (a.drop 19) fun q=>cond ((cond true (q != 1) false)==true) (Aj .i64 (a.drop 19) fun r=>cond (cond true (r != 2) false) (r0 false) q1) q1) q1))
def Ql(r0:Bool->O R)(c d f g:Int)(b:Bool)(a:LA):Nat->Int->O R
|0=>fun _=>none
|n+1=>KB N r0 c d f g b a (Ql r0 c d f g b a n) (CZ N r0 b a)
def UW(N:Nat)(r0:Bool->O R)(q0:Int->Int->Int->Int->Int->O R)(a:LA)(b:Bool):O R:=(Aj .i64 (a.drop 10) fun c=>Aj .i64 (a.drop 11) fun d=>Aj .i64 (a.drop 12) fun f=>Aj .i64 (a.drop 15) fun g=>q0 c d f g 0)
def Rl:=(shut fun N a b r0=>UW (R:=R) N r0 (fun c d f g=>Ql N r0 c d f g b a N) a b).1
def dO(a b r0):(@Rl R N a b r0)=(UW N r0 (fun c d f g=>Ql N r0 c d f g b a N) a b):=by rw[Rl,(shut _).2]
def mJ:Hints:={H:=hK 1 (hS (hK 1 (hS (hP [1,13,14] hL) hL)) (hJ [1] hL hL))}
def mK(F:KF R):=Iv Tryz.f104 mJ [] [] N F
def Aec(b:Bool)(a:LA)(K:St->O R):=K ⟨[(1,op 0)],hq [bP b 0 a]⟩
def Aed(c d f g:Int)(b:Bool)(a:LA)(K:St->O R):=fun h=>K ⟨[(1,op 0),(13,.agg [iv c,iv d,iv f,iv g]),(14,iv h)],hq [bP b 0 a]⟩
def sD(F:KF R)(b a):Aec b a (A1 (mK N F (pz 85) []))=(CZ N (Bu F) b a):=by kernel_rfl
def sE(F:KF R)(c d f g b a):∀ n,Aed c d f g b a (Ao (mK N F (pz 324) []) n)=(Ql N (Bu F) c d f g b a n):=Gu fun n e=>(QH (KB N (Bu F) c d f g b a) e ((jW ..).trans (sD ..)):_)
def AB:=Cc N 104 [] mJ (fun
|[.pagg a b],[]=>some fun _ k=>Rl N a b (Bu k)
| _,_=>none) fun _ _=>by split;intro R F;exact(B6 (UW N (Bu F) · _ _) (Aoq fun c d f g=>(lW ..).trans (sE ..)):_).trans (dO ..).symm;trivial
def Ix(N:Nat)(k0:Int->Int->Int->O R)(r0:Bool->O R)(b:LA)(d:Nat)(c:Bool)(f:Int)(a:LA)(j h l:Int)(i:LA):O R:=(cond ((decide (h>0))==true) (Aj .i64 (i.drop 1) fun o=>Dd 2 (a.drop 4) fun p q=>cond (Ab (wrap .i64 (h - 1)) q) (Aj .i64 ((p.drop (((wrap .i64 (h - 1)).toNat)*2)).drop 1) fun r=>cond (cond true (decide (o<r)) false) (r0 false) (Aj .i64 i fun s=>k0 (wrap .i64 (j+s)) f (wrap .i64 (l+1)))) none) (Aj .i64 i fun t=>k0 (wrap .i64 (j+t)) f (wrap .i64 (l+1))))
def Hx(r0:Bool->O R)(b:LA)(d:Nat)(c:Bool)(a:LA)(k0:Int->Int->Int->O R)(q1:Int->Int->Int->Int->LA->O R)(m f g:Int):O R:=(cond (decide (g<f)) (cond (Ab g d) (cond (ble 2 ((b.drop (g.toNat*2)).length)) (cond ((!c)||(Bb ((b.drop (g.toNat*2)).take 2))) (cond ((beq (((b.drop (g.toNat*2)).take 2).length) 2)&&((ble 2 2)&&(!false))) (Aj .i64 (setCells [Bbr,Bbr] 0 ((b.drop (g.toNat*2)).take 2)) fun u=>Dl N 1 1048576 [.int .i64 u] 1 false true fun v=>cond ((!v)==false) (Aj .i64 ((setCells [Bbr,Bbr] 0 ((b.drop (g.toNat*2)).take 2)).drop 1) fun w=>Dl N (-1048576) 1048576 [.int .i64 w] 1 false true fun x=>cond (cond false true (!x)) (r0 false) (q1 f m g g (setCells [Bbr,Bbr] 0 ((b.drop (g.toNat*2)).take 2)))) (r0 false)) none) none) none) none) (Aj .i64 (a.drop 3) fun y=>Aj .i64 (a.drop 2) fun z=>r0 (m==(wrap .i64 (y - z)))))
def Cy(r0:Bool->O R)(b:LA)(d:Nat)(c:Bool)(a:LA):Nat->Int->Int->Int->O R
|0=>fun _ _ _=>none
|n+1=>Hx N r0 b d c a (Cy r0 b d c a n) (fun f=>Ix N (Cy r0 b d c a n) r0 b d c f a)
def Ly(N:Nat)(r0:Bool->O R)(q0:LA->Nat->Int->Int->Int->O R)(a:LA)(c:Bool):O R:=(Dd 2 (a.drop 4) fun ab aa=>cond (decide ((aa:Int)>8)) (r0 false) (Dd 2 (a.drop 4) fun b d=>q0 b d 0 (d:Int) 0))
def Gr:=(shut fun N a c r0=>Ly (R:=R) N r0 (fun b d=>Cy N r0 b d c a N) a c).1
def Vn(a c r0):(@Gr R N a c r0)=(Ly N r0 (fun b d=>Cy N r0 b d c a N) a c):=by rw[Gr,(shut _).2]
def W8:Hints:={H:=hK 3 (hS (hK 1 (hS (hP [1,3,11,12,13] (hK 2 (hS (hS (hK 1 (hJ [1,3,4,5,11,12,13] hL hL)) hL) hL))) hL)) hL)}
def AC:Oe:=[KA N]
def W9(F:KF R):=Iv Tryz.f105 W8 (AC N) [] N F
def VS(b:LA)(d:Nat)(c:Bool)(f:Int)(a:LA)(K:St->O R):=fun j h l i=>K ⟨[(1,op 0),(3,iv j),(4,iv h),(5,op 1),(11,.imm b d 2 false c),(12,iv f),(13,iv l)],hq [bP c 0 a,bQ 0 i]⟩
def Xa(b:LA)(d:Nat)(c:Bool)(a:LA)(K:St->O R):=fun m f g=>K ⟨[(1,op 0),(3,iv m),(11,.imm b d 2 false c),(12,iv f),(13,iv g)],hq [bP c 0 a]⟩
def KC Q0 (F:KF R) (b d c f a):VS b d c f a (A1 (W9 N F (pz 89195781) [Q0]))=(Ix N (Xa b d c a Q0) (Bu F) b d c f a):=by kernel_rfl
def KD(F:KF R)(b d c a):∀ n,Xa b d c a (Ao (W9 N F (pz 5444) []) n)=(Cy N (Bu F) b d c a n):=Gu fun n e=>(QH (Hx N (Bu F) b d c a) e (vQ fun f=>(jW ..).trans ((KC ..).trans (xP (Ix _ · _ _ _ _ _ _) e))):_)
def ZS:=Cc N 105 (AC N) W8 (fun
|[.pagg a c],[]=>some fun _ k=>Gr N a c (Bu k)
| _,_=>none) fun _ _=>by split;intro R F;exact(B6 (Ly N (Bu F) · _ _) (rD fun b d=>(lW ..).trans (KD ..)):_).trans (Vn ..).symm;trivial
def Np(r0:Bool->O R)(b:LA)(a:Nat)(c d:Bool)(f:Int)(k0:Int->Int->O R)(h g:Int):O R:=(cond (decide (g<h)) (cond (Ab g a) (Aj .i64 (b.drop (g.toNat*1)) fun i=>Dl N 0 (wrap .i64 (f - 1)) [.int .i64 i] 1 false true fun j=>cond ((!j)==false) (cond ((decide (g>0))==true) (cond (Ab (wrap .i64 (g - 1)) a) (Aj .i64 (b.drop (((wrap .i64 (g - 1)).toNat)*1)) fun l=>cond (cond false true (cond true (decide (i<=l)) false)) (r0 false) (k0 h (wrap .i64 (g+1)))) none) (k0 h (wrap .i64 (g+1)))) (r0 false)) none) (r0 true))
def Fx(r0:Bool->O R)(b:LA)(a:Nat)(c d:Bool)(f:Int):Nat->Int->Int->O R
|0=>fun _ _=>none
|n+1=>Np N r0 b a c d f (Fx r0 b a c d f n)
def Ux(N:Nat)(r0:Bool->O R)(q0:Int->Int->O R)(b:LA)(a:Nat)(c d:Bool)(f:Int):O R:=(q0 (a:Int) 0)
def Nq:=(shut fun N b a c d f r0=>Ux (R:=R) N r0 (Fx N r0 b a c d f N) b a c d f).1
def HH(b a c d f r0):(@Nq R N b a c d f r0)=(Ux N r0 (Fx N r0 b a c d f N) b a c d f):=by rw[Nq,(shut _).2]
def NT:Hints:={H:=hK 1 (hS (hK 1 (hS (hP [0,1,7,8,9] hL) hL)) hL)}
def RH:Oe:=[KA N]
def oS(F:KF R):=Iv Tryz.f106 NT (RH N) [] N F
def oT(b:LA)(a:Nat)(c d:Bool)(f:Int)(K:St->O R):=fun h g=>K ⟨[(0,.imm b a 1 c d),(1,iv f),(7,.imm b a 1 c d),(8,iv h),(9,iv g)],[]⟩
def ZT(F:KF R)(b a c d f):∀ n,oT b a c d f (Ao (oS N F (pz 324) []) n)=(Fx N (Bu F) b a c d f n):=Gu fun n e=>(B6 (Np N (Bu F) b a c d f) e:_)
def sF:=Cc N 106 (RH N) NT (fun
|[.imm b a 1 c d,.int .i64 f],[]=>some fun _ k=>Nq N b a c d f (Bu k)
| _,_=>none) fun _ _=>by split;intro R F;exact(B6 (Ux N (Bu F) · _ _ _ _ _) ((lW ..).trans (ZT ..)):_).trans (HH ..).symm;trivial
def RK(r0:Bool->O R)(c:Int)(b:Bool)(a:LA):O R:=(Aj .i64 (a.drop 2) fun d=>Aj .i64 (a.drop 3) fun e=>Aj .i64 (a.drop 8) fun f=>Aj .i64 (a.drop 9) fun g=>Dl N d e [.int .i64 f,.int .i64 g] 2 false true fun h=>cond (!h) (r0 false) (Aj .i64 (a.drop 5) fun i=>Aj .i64 (a.drop 13) fun j=>Aj .i64 (a.drop 14) fun l=>Aj .i64 (a.drop 17) fun m=>Dl N 0 1048576 [.int .i64 i,.int .i64 j,.int .i64 l,.int .i64 m] 4 false true fun n=>cond (!n) (r0 false) (Aj .i64 (a.drop 19) fun o=>cond (o==2) (Aj .i64 (a.drop 2) fun p=>Aj .i64 (a.drop 3) fun q=>Aj .i64 (a.drop 21) fun r=>Dl N p q [.int .i64 r] 1 false true fun s=>cond (!s) (r0 false) (cond (ble 22 a.length) (Gr N (a.take 22) b fun t=>cond (t==true) (Dd 1 (a.drop 18) fun u v=>Nq N u v false b c fun w=>r0 (cond true w false)) (r0 false)) none)) (Aj .i64 (a.drop 21) fun x=>cond (x != 0) (r0 false) (cond (ble 22 a.length) (Gr N (a.take 22) b fun y=>cond (y==true) (Dd 1 (a.drop 18) fun z aa=>Nq N z aa false b c fun ab=>r0 (cond true ab false)) (r0 false)) none)))))
def KE(r0:Bool->O R)(c:Int)(b:Bool)(a:LA)(q1:O R):O R:=(Aj .i64 (a.drop 2) fun ac=>Aj .i64 (a.drop 3) fun ad=>Aj .i64 (a.drop 6) fun ae=>Aj .i64 (a.drop 7) fun af=>Aj .i64 (a.drop 16) fun ag=>Dl N 0 1048576 [.int .i64 ac,.int .i64 ad,.int .i64 ae,.int .i64 af,.int .i64 ag] 5 false true fun ah=>cond ((!ah)==false) (Aj .i64 (a.drop 2) fun ai=>Aj .i64 (a.drop 3) fun aj=>cond (cond false true (decide (ai>aj))) (r0 false) q1) (r0 false))
def C_(r0:Bool->O R)(c:Int)(b:Bool)(a:LA):O R:=KE N r0 c b a (RK N r0 c b a)
def UX(r0:Bool->O R)(q0:O R)(a:LA)(b:Bool)(c:Int):O R:=(Dl N 1 24 [.int .i64 c] 1 false true fun ak=>cond ((!ak)==false) (cond (ble 22 a.length) (Rl N (a.take 22) b fun al=>cond (cond false true (!al)) (r0 false) q0) none) (r0 false))
def RL:=(shut fun N a b c r0=>UX (R:=R) N r0 (C_ N r0 c b a) a b c).1
def dP(a b c r0):(@RL R N a b c r0)=(UX N r0 (C_ N r0 c b a) a b c):=by rw[RL,(shut _).2]
def mL:Hints:={H:=hK 1 (hJ [1,2] hL (hJ [1,2] hL hL))}
def sG:Oe:=[KA N,AB N,ZS N,sF N]
def mM(F:KF R):=Iv Tryz.f48 mL (sG N) [] N F
def Aee(c:Int)(b:Bool)(a:LA)(K:St->O R):=K ⟨[(1,iv c),(2,op 0)],hq [bP b 0 a]⟩
def Aef(c:Int)(b:Bool)(a:LA)(K:St->O R):=K ⟨[(1,iv c),(2,op 0)],hq [bP b 0 a]⟩
def sH(F:KF R)(c b a):Aee c b a (A1 (mM N F (pz 85) []))=(RK N (Bu F) c b a):=by kernel_rfl
def sI(F:KF R)(c b a):Aef c b a (A1 (mM N F (pz 21) []))=(C_ N (Bu F) c b a):=(B6 (KE N (Bu F) c b a) ((jW ..).trans (sH ..)):_)
def Aib:=Cc N 48 (sG N) mL (fun
|[.pagg a b,.int .i64 c],[]=>some fun _ k=>RL N a b c (Bu k)
| _,_=>none) fun _ _=>by split;intro R F;exact(B6 (UX N (Bu F) · _ _ _) ((jW ..).trans (sI ..)):_).trans (dP ..).symm;trivial
def G9(N:Nat)(r0:Nat->Nat->LA->Bool->LA->O R)(f:Int)(d:LA)(e:Bool)(b:LA)(g:Bool)(c:LA)(i j:Nat):O R:=(cond ((ble (i+1) 140737488355328)&&(ble ((i+1)*8) 140737488355328)) (cond (ble 3 c.length) (cond ((beq ((c.take 3).length) 3)&&(ble 3 3)) (cond ((ble (j+1) 140737488355328)&&(ble ((j+1)*56) 140737488355328)) (r0 (i+1) (j+1) ((d.take (i*1))++[.int .i64 f]) (e||(g||false)) ((b.take (j*3))++((setCells [.bool false,.nsl,.nsl] 0 (c.take 3)).take 3))) none) none) none) none)
def Nr(r0:Nat->Nat->LA->Bool->LA->O R)(q0:Nat->Nat->O R)(f:Int)(c:LA)(g:Bool)(a h:Nat)(d:LA)(e:Bool)(b:LA):O R:=(cond (decide ((a:Int)>=2)) (cond (Ab (wrap .i64 ((a:Int) - 1)) h) (cond (ble 3 ((b.drop (0+(((wrap .i64 ((a:Int) - 1)).toNat)*3))).length)) (cond (Ab (wrap .i64 ((a:Int) - 2)) h) (cond (ble 3 ((b.drop (0+(((wrap .i64 ((a:Int) - 2)).toNat)*3))).length)) (Wn N ((b.drop (0+(((wrap .i64 ((a:Int) - 1)).toNat)*3))).take 3) e ((b.drop (0+(((wrap .i64 ((a:Int) - 2)).toNat)*3))).take 3) e fun n=>cond (Ab (wrap .i64 ((a:Int) - 1)) a) (Aj .i64 (d.drop (0+(((wrap .i64 ((a:Int) - 1)).toNat)*1))) fun o=>A7 N (wrap .i64 (f - o)) fun p=>Oj N n false p false fun l=>cond ((beq 0 0)&&((beq l.length 3)&&(beq 3 3))) (cond (ble 3 c.length) (cond (Ab (wrap .i64 ((a:Int) - 1)) h) (cond (ble 3 ((b.drop (0+(((wrap .i64 ((a:Int) - 1)).toNat)*3))).length)) (Wn N (c.take 3) g ((b.drop (0+(((wrap .i64 ((a:Int) - 1)).toNat)*3))).take 3) e fun q=>cond (Ab (wrap .i64 ((a:Int) - 1)) a) (Aj .i64 (d.drop (0+(((wrap .i64 ((a:Int) - 1)).toNat)*1))) fun r=>cond (Ab (wrap .i64 ((a:Int) - 2)) a) (Aj .i64 (d.drop (0+(((wrap .i64 ((a:Int) - 2)).toNat)*1))) fun s=>A7 N (wrap .i64 (r - s)) fun t=>Oj N q false t false fun m=>cond ((beq 0 0)&&((beq m.length 3)&&(beq 3 3))) (cond (ble 3 l.length) (cond (ble 3 m.length) (Ih N (l.take 3) false (m.take 3) false fun u=>cond (u==0) (cond ((decide ((0:Int)<=(0:Int)))&&((decide (0<=(wrap .i64 ((a:Int) - 1))))&&((decide ((wrap .i64 ((a:Int) - 1))<=(a:Int)))&&(decide ((a:Int)<=(a:Int)))))) (cond ((decide ((0:Int)<=(0:Int)))&&((decide (0<=(wrap .i64 ((a:Int) - 1))))&&((decide ((wrap .i64 ((a:Int) - 1))<=(h:Int)))&&(decide ((h:Int)<=(h:Int)))))) (q0 ((wrap .i64 ((a:Int) - 1)).toNat) ((wrap .i64 ((a:Int) - 1)).toNat)) none) none) (q0 a h)) none) none) none) none) none) none) none) none) none) none) none) none) none) none) (q0 a h))
def Ex:=(shut fun N f c g a h d e b r0=>Nr (R:=R) N r0 (G9 N r0 f d e b g c) f c g a h d e b).1
def Xb(f c g a h d e b r0):(@Ex R N f c g a h d e b r0)=(Nr N r0 (G9 N r0 f d e b g c) f c g a h d e b):=by rw[Ex,(shut _).2]
def AD:Hints:={H:=hK 2 (hJ [0,1,5] hL hL)}
def DA:Oe:=[G_ N,Cp N,Vm N,Ri N]
def ZU(F:KF R):=Iv Tryz.f123 AD (DA N) [100000,100001,100002] N F
def Px(F:KF R):Nat->Nat->LA->Bool->LA->O R:=fun v w x y z=>F (.tup []) [(100000,bN 0 [Bbq 0 v,Bbq 1 w]),(300000,bQ 1 x),(300001,bP y 3 z)]
def ZV(f:Int)(d:LA)(e:Bool)(b:LA)(g:Bool)(c:LA)(K:St->O R):=fun i j=>K ⟨[(0,.optr 100000 0),(1,iv f),(5,op 0)],[(100000,bN 0 [.own 100001 0 i,.own 100002 0 j]),(100001,bQ 1 d),(100002,bP e 3 b),(300000,bP g 0 c)]⟩
def OZ(F:KF R)(f d e b g c):ZV f d e b g c (A1 (ZU N F (pz 85) []))=(G9 N (Px F) f d e b g c):=by kernel_rfl
def DB:=Cc N 123 (DA N) AD (fun
|[.optr 100000 0,.int .i64 f,.pagg c g],[(100000,⟨false,false,false,false,0,[.own 100001 0 a,.own 100002 0 h],false,none⟩),(100001,⟨false,false,true,false,1,d,false,none⟩),(100002,⟨false,false,true,e,3,b,false,none⟩)]=>some fun _ k=>Ex N f c g a h d e b (Px k)
| _,_=>none) fun _ _=>by split;intro R F;exact(B6 (Nr N (Px F) · _ _ _ _ _ _ _ _) ((jW ..).trans (OZ ..)):_).trans (Xb ..).symm;trivial
def Iy(r0:LA->Bool->O R)(a:LA)(c:Nat)(b:Bool)(k0:Int->Int->Int->Nat->Nat->LA->LA->Bool->LA->O R)(l m d:Int)(h i:Nat)(g o:LA)(j:Bool)(p:LA):O R:=(cond (decide (d<m)) (cond (Ab d c) (cond (ble 2 ((a.drop (d.toNat*2)).length)) (cond ((!b)||(Bb ((a.drop (d.toNat*2)).take 2))) (cond ((beq (((a.drop (d.toNat*2)).take 2).length) 2)&&((ble 2 2)&&(!false))) (Aj .i64 (setCells [Bbr,Bbr] 0 ((a.drop (d.toNat*2)).take 2)) fun r=>cond (ble 3 g.length) (Aj .i64 (setCells [Bbr,Bbr] 0 ((a.drop (d.toNat*2)).take 2)) fun u=>A7 N u fun v=>Aj .i64 ((setCells [Bbr,Bbr] 0 ((a.drop (d.toNat*2)).take 2)).drop 1) fun w=>A7 N w fun x=>Oj N v false x false fun y=>Wn N (g.take 3) false y false fun q=>cond ((beq q.length 3)&&((ble 3 g.length)&&(!false))) (cond (ble 3 ((setCells g 0 q).length)) (Ex N (wrap .i64 (l+r)) ((setCells g 0 q).take 3) false h i o j p fun z aa ab ac ad=>k0 (wrap .i64 (l+r)) m (wrap .i64 (d+1)) z aa (setCells g 0 q) ab ac ad) none) none) none) none) none) none) none) (r0 [.imm (o.take (h*1)) h 1 false false,.imm (p.take (i*3)) i 3 false j] (j||false)))
def D4(r0:LA->Bool->O R)(a:LA)(c:Nat)(b:Bool):Nat->Int->Int->Int->Nat->Nat->LA->LA->Bool->LA->O R
|0=>fun _ _ _ _ _ _ _ _ _=>none
|n+1=>Iy N r0 a c b (D4 r0 a c b n)
def Ns(r0:LA->Bool->O R)(q0:LA->Nat->Int->Int->Int->Nat->Nat->LA->LA->Bool->LA->O R)(f:LA)(b:Bool):O R:=(Aj .i64 (f.drop 2) fun ae=>A7 N 0 fun s=>cond ((beq s.length 3)&&(ble 3 3)) (Aj .i64 (f.drop 2) fun af=>A7 N 0 fun t=>cond ((beq 0 0)&&((beq t.length 3)&&(beq 3 3))) (Dd 2 (f.drop 4) fun a c=>q0 a c af (c:Int) 0 1 1 t [.int .i64 ae] false (setCells [.bool false,.nsl,.nsl] 0 s)) none) none)
def Kv:=(shut fun N f b r0=>Ns (R:=R) N r0 (fun a c=>D4 N r0 a c b N) f b).1
def Xc(f b r0):(@Kv R N f b r0)=(Ns N r0 (fun a c=>D4 N r0 a c b N) f b):=by rw[Kv,(shut _).2]
def AE:Hints:={H:=hK 3 (hS (hK 1 (hS (hP [2,3,4,5,18,19,20] hL) hL)) hL),modes:=[(3,0)]}
def DC:Oe:=[Cp N,Vm N,G_ N,DB N]
def ZW(F:KF R):=Iv Tryz.f66 AE (DC N) [] N F
def ZX(a:LA)(c:Nat)(b:Bool)(K:St->O R):=fun l m d h i g o j p=>K ⟨[(2,op 0),(3,op 1),(4,iv l),(5,op 2),(18,.imm a c 2 false b),(19,iv m),(20,iv d)],hq [bN 0 [.nsl,.nsl],bN 0 [Bbq 3 h,Bbq 4 i],bQ 0 g,bQ 1 o,bP j 3 p]⟩
def O_(F:KF R)(a c b):∀ n,ZX a c b (Ao (ZW N F (pz 5444) []) n)=(D4 N (rF F) a c b n):=Gu fun n e=>(B6 (Iy N (rF F) a c b) e:_)
def dQ:=Cc N 66 (DC N) AE (fun
|[.pagg f b],[]=>some fun _ k=>Kv N f b (rF k)
| _,_=>none) fun _ _=>by split;intro R F;exact(B6 (Ns N (rF F) · _ _) (rD fun a c=>(lW ..).trans (O_ ..)):_).trans (Xc ..).symm;trivial
def FK(a:LA)(b:Bool)(c:Int)(d:LA)(e:Nat)(f g:Bool)(h:LA)(i:Nat)(j l:Bool)(r0:RB->O R):O R:=(Aze a fun n=>Aj .i64 (a.drop 1) fun o=>Aj .i64 (a.drop 2) fun p=>Aj .i64 (a.drop 3) fun q=>Dd 2 (a.drop 4) fun r s=>Aj .i64 (a.drop 5) fun t=>Aj .i64 (a.drop 6) fun u=>Aj .i64 (a.drop 7) fun v=>Aj .i64 (a.drop 8) fun w=>Aj .i64 (a.drop 9) fun x=>Aj .i64 (a.drop 10) fun y=>Aj .i64 (a.drop 11) fun z=>Aj .i64 (a.drop 12) fun aa=>Aj .i64 (a.drop 13) fun ab=>Aj .i64 (a.drop 14) fun ac=>Aj .i64 (a.drop 15) fun ad=>Aj .i64 (a.drop 16) fun ae=>Aj .i64 (a.drop 17) fun af=>Dd 1 (a.drop 18) fun ag ah=>Aj .i64 (a.drop 19) fun ai=>Aj .i64 (a.drop 20) fun aj=>Aj .i64 (a.drop 21) fun ak=>cond (beq a.length 22) (Kv N (Avw b n o p q r s t u v w x y z aa ab ac ad ae af ag ah ai aj ak) (b||(b||false)) fun m al=>Dd 1 m fun am an=>Dd 3 (m.drop 1) fun ao ap=>cond ((beq m.length 2)&&(true&&(beq 2 2&&ble 27 51))) (r0 (RB.mk n o p q r s false b t u v w x y z aa ab ac ad ae af ag ah false b ai aj ak c d e f g h i j l am an false al ao ap false al 0 0 0 0 0 0 [] [] [] [] [] [])) none) none)
def X8:=(shut (@FK R)).1
def HI:@X8 R=@FK R:=(shut _).2
def oU(F:KF R):RB->O R:=fun zs=>F (op 0) (hq [bN 0 (Zt 300000 zs),bQ 2 zs.ka,bQ 2 zs.kb,bQ 2 zs.kc,bQ 2 zs.kd,bQ 2 zs.ke,bQ 2 zs.kf])
def sJ:=Cc N 49 [dQ N] { H:=hL,cob:=[4,14,15] } (fun
|[.pagg a b,.int .i64 c,.imm d e 3 f g,.imm h i 3 j l],[]=>some fun _ k=>X8 N a b c d e f g h i j l (oU k)
| _,_=>none) fun _ _=>by split;intro R F;dsimp only;rw[HI];kernel_rfl;trivial
def sK(a:LA)(b:Bool)(r0:Int->Int->O R):O R:=(cond (ble 22 a.length) (Rl N (a.take 22) b fun c=>cond (!c) (r0 0 0) (Aj .i64 (a.drop 11) fun d=>Aj .i64 (a.drop 15) fun e=>Aj .i64 (a.drop 10) fun f=>r0 (Fc (Fc d (wrap .i64 (e+1))) 1) (Fc f 1))) none)
def KG:=(shut (@sK R)).1
def mN:@KG R=@sK R:=(shut _).2
def UY:=Cc N 107 [AB N] D5 (fun
|[.pagg a b],[]=>some fun _ k=>KG N a b (zX k)
| _,_=>none) fun _ _=>by split;intro R F;dsimp only;rw[mN];kernel_rfl;trivial
def Uy(N:Nat)(r0:Nat->LA->O R)(a:Int)(k2:Nat->Int->LA->O R)(g:Nat)(j:Int)(o:LA):O R:=(cond (decide (j<a)) (cond ((ble (g+1) 140737488355328)&&(ble ((g+1)*16) 140737488355328)) (k2 (g+1) (wrap .i64 (j+1)) ((o.take (g*2))++[.int .i64 2,.int .i64 (wrap .i64 (j+1))])) none) (r0 g o))
def Nt(r0:Nat->LA->O R)(a:Int):Nat->Nat->Int->LA->O R
|0=>fun _ _ _=>none
|n+1=>Uy N r0 a (Nt r0 a n)
def Uz(N:Nat)(r0:Nat->LA->O R)(a f:Int)(k1:Nat->Int->LA->O R)(q2:Nat->Int->LA->O R)(h:Nat)(l:Int)(p:LA):O R:=(cond (decide (l<f)) (cond ((ble (h+1) 140737488355328)&&(ble ((h+1)*16) 140737488355328)) (k1 (h+1) (wrap .i64 (l+1)) ((p.take (h*2))++[.int .i64 1,.int .i64 (wrap .i64 (l+1))])) none) (q2 h 0 p))
def Nu(r0:Nat->LA->O R)(a f:Int):Nat->Nat->Int->LA->O R
|0=>fun _ _ _=>none
|n+1=>Uz N r0 a f (Nu r0 a f n) (Nt N r0 a N)
def U0(N:Nat)(r0:Nat->LA->O R)(a d:Int)(c:Bool)(b:LA)(k0:Nat->Int->LA->O R)(q1:Int->Nat->Int->LA->O R)(i:Nat)(m:Int)(q:LA):O R:=(cond (decide (m<d)) (cond ((ble (i+1) 140737488355328)&&(ble ((i+1)*16) 140737488355328)) (k0 (i+1) (wrap .i64 (m+1)) ((q.take (i*2))++[Bbr,.int .i64 (wrap .i64 (m+1))])) none) (Aj .i64 (b.drop 12) fun f=>q1 f i 0 q))
def J7(r0:Nat->LA->O R)(a d:Int)(c:Bool)(b:LA):Nat->Nat->Int->LA->O R
|0=>fun _ _ _=>none
|n+1=>U0 N r0 a d c b (J7 r0 a d c b n) (fun f=>Nu N r0 a f N)
def KH(r0:Nat->LA->O R)(q0:Int->Int->Nat->Int->LA->O R)(b:LA)(c:Bool):O R:=(cond (ble 22 b.length) (Rl N (b.take 22) c fun s=>cond (!s) (r0 0 []) (cond (ble 22 b.length) (KG N (b.take 22) c fun d a=>Aj .i64 (b.drop 12) fun r=>cond ((decide ((0:Int)<=(0:Int)))&&((decide (0<=(wrap .i64 ((wrap .i64 (d+r))+a))))&&((decide ((wrap .i64 ((wrap .i64 (d+r))+a))<=140737488355328))&&(decide (((wrap .i64 ((wrap .i64 (d+r))+a))*((16:Nat):Int))<=140737488355328))))) (q0 a d 0 0 []) none) none)) none)
def HJ:=(shut fun N b c r0=>KH (R:=R) N r0 (fun a d=>J7 N r0 a d c b N) b c).1
def XL(b c r0):(@HJ R N b c r0)=(KH N r0 (fun a d=>J7 N r0 a d c b N) b c):=by rw[HJ,(shut _).2]
def dR:Hints:={H:=hK 4 (hS (hK 1 (hS (hP [1,4,5,24,25] hL) hL)) (hS (hK 1 (hS (hP [4,5,36,37] hL) hL)) (hS (hK 1 (hS (hP [5,47,48] hL) hL)) hL))),nils:=[(2,2)],modes:=[(2,2)]}
def mO:Oe:=[AB N,UY N]
def KI(F:KF R):=Iv Tryz.f50 dR (mO N) [] N F
def Aak(a:Int)(K:St->O R):=fun g j o=>K ⟨[(5,Bbq 0 g),(47,iv a),(48,iv j)],hq [bQ 2 o]⟩
def Aal(a f:Int)(K:St->O R):=fun h l p=>K ⟨[(4,iv a),(5,Bbq 0 h),(36,iv f),(37,iv l)],hq [bQ 2 p]⟩
def Aam(a d:Int)(c:Bool)(b:LA)(K:St->O R):=fun i m q=>K ⟨[(1,op 0),(4,iv a),(5,Bbq 1 i),(24,iv d),(25,iv m)],hq [bP c 0 b,bQ 2 q]⟩
def oV(F:KF R)a:∀ n,Aak a (Ao (KI N F (pz 349508) []) n)=(Nt N (QI F) a n):=Gu fun n e=>(B6 (Uy N (QI F) a) e:_)
def oW(F:KF R)(a f):∀ n,Aal a f (Ao (KI N F (pz 87364) []) n)=(Nu N (QI F) a f n):=Gu fun n e=>(QH (Uz N (QI F) a f) e ((lW ..).trans (oV ..)):_)
def oX(F:KF R)(a d c b):∀ n,Aam a d c b (Ao (KI N F (pz 21828) []) n)=(J7 N (QI F) a d c b n):=Gu fun n e=>(QH (U0 N (QI F) a d c b) e (vQ fun f=>(lW ..).trans (oW ..)):_)
def Aeg:=Cc N 50 (mO N) dR (fun
|[.pagg b c],[]=>some fun _ k=>HJ N b c (QI k)
| _,_=>none) fun _ _=>by split;intro R F;exact(B6 (KH N (QI F) · _ _) (rD fun a d=>(lW ..).trans (oX ..)):_).trans (XL ..).symm;trivial
def RM(a:LA)(c:Bool)(r0:LA->O R):O R:=(cond (ble 22 a.length) (Rl N (a.take 22) c fun e=>cond (!e) (r0 [Bbr,Bbr]) (cond (ble 22 a.length) (KG N (a.take 22) c fun f g=>Aj .i64 (a.drop 19) fun b=>Aj .i64 (a.drop 20) fun d=>cond (b==0) (r0 [.int .i64 b,.int .i64 (Cn d f)]) (cond (b==2) (r0 [.int .i64 b,.int .i64 (Cn d g)]) (r0 [.int .i64 b,.int .i64 d]))) none)) none)
def KJ:=(shut (@RM R)).1
def RN:@KJ R=@RM R:=(shut _).2
def Aan:=Cc N 53 [AB N,UY N] G3 (fun
|[.pagg a c],[]=>some fun _ k=>KJ N a c (Dx k)
| _,_=>none) fun _ _=>by split;intro R F;dsimp only;rw[RN];kernel_rfl;trivial
def Rm(N:Nat)(r0:Int->O R)(e f:Int)(c:Bool)(b:LA)(d:Bool)(a:LA)(h:Bool):O R:=(cond h (Aj .i64 (a.drop 1) fun i=>r0 (wrap .i64 ((wrap .i64 (e+i)) - 1))) (Aj .i64 a fun j=>cond ((j==2)==true) (Aj .i64 (a.drop 1) fun l=>cond (cond true (decide (l<=f)) false) (Aj .i64 (b.drop 12) fun m=>Aj .i64 (a.drop 1) fun n=>r0 (wrap .i64 ((wrap .i64 ((wrap .i64 (e+m))+n)) - 1))) (r0 (-1))) (r0 (-1))))
def Pe(N:Nat)(r0:Int->O R)(e f:Int)(c:Bool)(b:LA)(d:Bool)(a:LA)(q2:Bool->O R)(g:Bool):O R:=(cond g (Aj .i64 (a.drop 1) fun o=>r0 (wrap .i64 (o - 1))) (Aj .i64 a fun p=>cond ((p==1)==true) (Aj .i64 (a.drop 1) fun q=>Aj .i64 (b.drop 12) fun r=>q2 (cond true (decide (q<=r)) false)) (q2 false)))
def Ro(r0:Int->O R)(e f:Int)(c:Bool)(b:LA)(d:Bool)(a:LA)(g:Bool):O R:=Pe N r0 e f c b d a (Rm N r0 e f c b d a) g
def Pf(r0:Int->O R)(c:Bool)(b:LA)(d:Bool)(a:LA)(q1:Int->Int->Bool->O R):O R:=(cond (ble 22 b.length) (KG N (b.take 22) c fun e f=>Aj .i64 a fun s=>cond ((s==0)==true) (Aj .i64 (a.drop 1) fun t=>q1 e f (cond true (decide (t<=e)) false)) (q1 e f false)) none)
def Mn(r0:Int->O R)(c:Bool)(b:LA)(d:Bool)(a:LA):O R:=Pf N r0 c b d a fun e f=>Ro N r0 e f c b d a
def Rp(r0:Int->O R)(q0:O R)(b:LA)(c:Bool)(a:LA)(d:Bool):O R:=(cond (ble 22 b.length) (Rl N (b.take 22) c fun u=>cond ((!u)==false) (Aj .i64 (a.drop 1) fun v=>cond (cond false true (decide (v<1))) (r0 (-1)) q0) (r0 (-1))) none)
def Hy:=(shut fun N b c a d r0=>Rp (R:=R) N r0 (Mn N r0 c b d a) b c a d).1
def Wp(b c a d r0):(@Hy R N b c a d r0)=(Rp N r0 (Mn N r0 c b d a) b c a d):=by rw[Hy,(shut _).2]
def RO:Hints:={H:=hK 1 (hJ [2,3] hL (hK 1 (hS (hS (hJ [2,3,5,6,20] hL (hK 1 (hJ [2,3,5,6,33] hL hL))) hL) hL)))}
def XM:Oe:=[AB N,UY N]
def AF(F:KF R):=Iv Tryz.f52 RO (XM N) [] N F
def sL(e f:Int)(c:Bool)(b:LA)(d:Bool)(a:LA)(K:St->O R):=fun h=>K ⟨[(2,op 0),(3,op 1),(5,iv e),(6,iv f),(33,.bool h)],hq [bP c 0 b,bP d 0 a]⟩
def sM(e f:Int)(c:Bool)(b:LA)(d:Bool)(a:LA)(K:St->O R):=fun g=>K ⟨[(2,op 0),(3,op 1),(5,iv e),(6,iv f),(20,.bool g)],hq [bP c 0 b,bP d 0 a]⟩
def sN(c:Bool)(b:LA)(d:Bool)(a:LA)(K:St->O R):=K ⟨[(2,op 0),(3,op 1)],hq [bP c 0 b,bP d 0 a]⟩
def dS(F:KF R)(e f c b d a):sL e f c b d a (A1 (AF N F (pz 87061) []))=(Rm N (Ee F) e f c b d a):=by kernel_rfl
def dT(F:KF R)(e f c b d a):sM e f c b d a (A1 (AF N F (pz 5441) []))=(Ro N (Ee F) e f c b d a):=(B6 (Pe N (Ee F) e f c b d a) ((jW ..).trans (dS ..)):_)
def dU(F:KF R)(c b d a):sN c b d a (A1 (AF N F (pz 21) []))=(Mn N (Ee F) c b d a):=(B6 (Pf N (Ee F) c b d a) (rD fun e f=>(jW ..).trans (dT ..)):_)
def FL:=Cc N 52 (XM N) RO (fun
|[.pagg b c,.pagg a d],[]=>some fun _ k=>Hy N b c a d (Ee k)
| _,_=>none) fun _ _=>by split;intro R F;exact(B6 (Rp N (Ee F) · _ _ _ _) ((jW ..).trans (dU ..)):_).trans (Wp ..).symm;trivial
def Aao(N:Nat)(a b c:Int)(r0:Bool->O R):O R:=(cond ((decide (a>=b))==true) (r0 (cond true (decide (a<=c)) false)) (r0 false))
def J8:=(shut (@Aao R)).1
def sO:@J8 R=@Aao R:=(shut _).2
def Aeh:=Cc N 57 [] D5 (fun
|[.int .i64 a,.int .i64 b,.int .i64 c],[]=>some fun _ k=>J8 N a b c (Bu k)
| _,_=>none) fun _ _=>by split;intro R F;dsimp only;rw[sO];kernel_rfl;trivial
def X9(N:Nat)(r0:Bool->O R)(b:Bool)(a:LA):O R:=(Aj .i64 (a.drop 19) fun c=>cond ((c != 0)==true) (Aj .i64 (a.drop 19) fun d=>cond ((cond true (d != 1) false)==true) (Aj .i64 (a.drop 19) fun e=>cond ((cond true (e != 2) false)==false) (Aj .i64 (a.drop 20) fun f=>cond ((cond false true (decide (f<1)))==false) (Aj .i64 (a.drop 20) fun g=>cond (cond false true (decide (g>48))) (r0 false) (Aj .i64 (a.drop 19) fun h=>cond ((h != 1)==false) (Aj .i64 (a.drop 20) fun i=>Aj .i64 (a.drop 12) fun j=>r0 (cond false true (decide (i<=j)))) (r0 true))) (r0 false)) (r0 false)) (Aj .i64 (a.drop 20) fun l=>cond ((cond false true (decide (l<1)))==false) (Aj .i64 (a.drop 20) fun m=>cond (cond false true (decide (m>48))) (r0 false) (Aj .i64 (a.drop 19) fun n=>cond ((n != 1)==false) (Aj .i64 (a.drop 20) fun o=>Aj .i64 (a.drop 12) fun p=>r0 (cond false true (decide (o<=p)))) (r0 true))) (r0 false))) (Aj .i64 (a.drop 20) fun q=>cond ((cond false true (decide (q<1)))==false) (Aj .i64 (a.drop 20) fun r=>cond (cond false true (decide (r>48))) (r0 false) (Aj .i64 (a.drop 19) fun s=>cond ((s != 1)==false) (Aj .i64 (a.drop 20) fun t=>Aj .i64 (a.drop 12) fun u=>r0 (cond false true (decide (t<=u)))) (r0 true))) (r0 false)))
def KK(N:Nat)(r0:Bool->O R)(q0:O R)(a:LA)(b:Bool):O R:=(Aj .i64 (a.drop 10) fun v=>cond ((decide (v<0))==false) (Aj .i64 (a.drop 10) fun w=>cond ((cond false true (decide (w>24)))==false) (Aj .i64 (a.drop 11) fun x=>cond ((cond false true (decide (x<0)))==false) (Aj .i64 (a.drop 11) fun y=>cond ((cond false true (decide (y>24)))==false) (Aj .i64 (a.drop 12) fun z=>cond ((cond false true (decide (z<0)))==false) (Aj .i64 (a.drop 12) fun aa=>cond ((cond false true (decide (aa>24)))==false) (Aj .i64 (a.drop 15) fun ab=>cond ((cond false true (decide (ab<0)))==false) (Aj .i64 (a.drop 15) fun ac=>cond (cond false true (decide (ac>24))) (r0 false) q0) (r0 false)) (r0 false)) (r0 false)) (r0 false)) (r0 false)) (r0 false)) (r0 false))
def Lf:=(shut fun N a b r0=>KK (R:=R) N r0 (X9 N r0 b a) a b).1
def XN(a b r0):(@Lf R N a b r0)=(KK N r0 (X9 N r0 b a) a b):=by rw[Lf,(shut _).2]
def dV:Hints:={H:=hK 1 (hJ [1] hL hL)}
def Aap(F:KF R):=Iv Tryz.f58 dV [] [] N F
def Aaq(b:Bool)(a:LA)(K:St->O R):=K ⟨[(1,op 0)],hq [bP b 0 a]⟩
def oY(F:KF R)(b a):Aaq b a (A1 (Aap N F (pz 21) []))=(X9 N (Bu F) b a):=by kernel_rfl
def Qm:=Cc N 58 [] dV (fun
|[.pagg a b],[]=>some fun _ k=>Lf N a b (Bu k)
| _,_=>none) fun _ _=>by split;intro R F;exact(B6 (KK N (Bu F) · _ _) ((jW ..).trans (oY ..)):_).trans (XN ..).symm;trivial
def Nv(r0:Bool->O R)(b:Bool)(a:LA)(k0:Int->Int->O R)(f c:Int):O R:=(Dd 2 (a.drop 4) fun z g=>cond (decide (c<(g:Int))) (Dd 2 (a.drop 4) fun d h=>cond (Ab c h) (cond (ble 2 ((d.drop (c.toNat*2)).length)) (cond ((!b)||(Bb ((d.drop (c.toNat*2)).take 2))) (cond ((beq (((d.drop (c.toNat*2)).take 2).length) 2)&&((ble 2 2)&&(!false))) (Aj .i64 (setCells [Bbr,Bbr] 0 ((d.drop (c.toNat*2)).take 2)) fun i=>J8 N i 1 1048576 fun j=>cond ((!j)==false) (Aj .i64 ((setCells [Bbr,Bbr] 0 ((d.drop (c.toNat*2)).take 2)).drop 1) fun l=>J8 N l (-1048576) 1048576 fun m=>cond ((cond false true (!m))==false) (cond ((decide (c>0))==true) (Aj .i64 ((setCells [Bbr,Bbr] 0 ((d.drop (c.toNat*2)).take 2)).drop 1) fun o=>Dd 2 (a.drop 4) fun p q=>cond (Ab (wrap .i64 (c - 1)) q) (Aj .i64 ((p.drop (((wrap .i64 (c - 1)).toNat)*2)).drop 1) fun r=>cond ((cond false true (cond true (decide (o<r)) false))==false) (Aj .i64 (setCells [Bbr,Bbr] 0 ((d.drop (c.toNat*2)).take 2)) fun s=>cond (cond false true (decide (s>f))) (r0 false) (Aj .i64 (setCells [Bbr,Bbr] 0 ((d.drop (c.toNat*2)).take 2)) fun t=>k0 (wrap .i64 (f - t)) (wrap .i64 (c+1)))) (r0 false)) none) (Aj .i64 (setCells [Bbr,Bbr] 0 ((d.drop (c.toNat*2)).take 2)) fun u=>cond (cond false true (decide (u>f))) (r0 false) (Aj .i64 (setCells [Bbr,Bbr] 0 ((d.drop (c.toNat*2)).take 2)) fun v=>k0 (wrap .i64 (f - v)) (wrap .i64 (c+1))))) (r0 false)) (r0 false)) none) none) none) none) (r0 (f==0)))
def Ey(r0:Bool->O R)(b:Bool)(a:LA):Nat->Int->Int->O R
|0=>fun _ _=>none
|n+1=>Nv N r0 b a (Ey r0 b a n)
def U4(N:Nat)(r0:Bool->O R)(q0:Int->Int->O R)(a:LA)(b:Bool):O R:=(Dd 2 (a.drop 4) fun aa w=>cond (decide ((w:Int)>8)) (r0 false) (Aj .i64 (a.drop 3) fun x=>Aj .i64 (a.drop 2) fun y=>q0 (wrap .i64 (x - y)) 0))
def Rq:=(shut fun N a b r0=>U4 (R:=R) N r0 (Ey N r0 b a N) a b).1
def HK(a b r0):(@Rq R N a b r0)=(U4 N r0 (Ey N r0 b a N) a b):=by rw[Rq,(shut _).2]
def NU:Hints:={H:=hK 3 (hS (hK 1 (hS (hP [1,3,4] hL) hL)) hL)}
def RP:Oe:=[Aeh N]
def oZ(F:KF R):=Iv Tryz.f59 NU (RP N) [] N F
def o5(b:Bool)(a:LA)(K:St->O R):=fun f c=>K ⟨[(1,op 0),(3,iv f),(4,iv c)],hq [bP b 0 a]⟩
def ZY(F:KF R)(b a):∀ n,o5 b a (Ao (oZ N F (pz 5444) []) n)=(Ey N (Bu F) b a n):=Gu fun n e=>(B6 (Nv N (Bu F) b a) e:_)
def sP:=Cc N 59 (RP N) NU (fun
|[.pagg a b],[]=>some fun _ k=>Rq N a b (Bu k)
| _,_=>none) fun _ _=>by split;intro R F;exact(B6 (U4 N (Bu F) · _ _) ((lW ..).trans (ZY ..)):_).trans (HK ..).symm;trivial
def U5(r0:Bool->O R)(b:Int)(c:Bool)(a:LA)(k3:Int->O R)(d:Int):O R:=(Dd 1 (a.drop 18) fun be f=>cond (decide (d<(f:Int))) (Dd 1 (a.drop 18) fun g h=>cond (Ab d h) (Aj .i64 (g.drop (d.toNat*1)) fun i=>J8 N i 0 (wrap .i64 (b - 1)) fun j=>cond ((!j)==false) (cond ((decide (d>0))==true) (Dd 1 (a.drop 18) fun l m=>cond (Ab d m) (Aj .i64 (l.drop (d.toNat*1)) fun o=>Dd 1 (a.drop 18) fun p q=>cond (Ab (wrap .i64 (d - 1)) q) (Aj .i64 (p.drop (((wrap .i64 (d - 1)).toNat)*1)) fun r=>cond (cond false true (cond true (decide (o<=r)) false)) (r0 false) (k3 (wrap .i64 (d+1)))) none) none) (k3 (wrap .i64 (d+1)))) (r0 false)) none) (Aj .i64 (a.drop 19) fun s=>cond (s==2) (Aj .i64 (a.drop 21) fun t=>Aj .i64 (a.drop 2) fun u=>Aj .i64 (a.drop 3) fun v=>J8 N t u v fun w=>r0 w) (Aj .i64 (a.drop 21) fun x=>r0 (x==0))))
def Nw(r0:Bool->O R)(b:Int)(c:Bool)(a:LA):Nat->Int->O R
|0=>fun _=>none
|n+1=>U5 N r0 b c a (Nw r0 b c a n)
def FM(N:Nat)(r0:Bool->O R)(b:Int)(c:Bool)(a:LA)(q3:Int->O R):O R:=(q3 0)
def KL(r0:Bool->O R)(b:Int)(c:Bool)(a:LA):O R:=FM N r0 b c a (Nw N r0 b c a N)
def FN(r0:Bool->O R)(b:Int)(c:Bool)(a:LA)(q2:O R):O R:=(Aj .i64 (a.drop 5) fun y=>J8 N y 0 1048576 fun z=>cond ((!z)==false) (Aj .i64 (a.drop 13) fun aa=>J8 N aa 0 1048576 fun ab=>cond ((cond false true (!ab))==false) (Aj .i64 (a.drop 14) fun ac=>J8 N ac 0 1048576 fun ad=>cond ((cond false true (!ad))==false) (Aj .i64 (a.drop 17) fun ae=>J8 N ae 0 1048576 fun af=>cond (cond false true (!af)) (r0 false) q2) (r0 false)) (r0 false)) (r0 false))
def KM(r0:Bool->O R)(b:Int)(c:Bool)(a:LA):O R:=FN N r0 b c a (KL N r0 b c a)
def FO(r0:Bool->O R)(b:Int)(c:Bool)(a:LA)(q1:O R):O R:=(Aj .i64 (a.drop 6) fun ag=>J8 N ag 0 1048576 fun ah=>cond ((!ah)==false) (Aj .i64 (a.drop 7) fun ai=>J8 N ai 0 1048576 fun aj=>cond ((cond false true (!aj))==false) (Aj .i64 (a.drop 16) fun ak=>J8 N ak 0 1048576 fun al=>cond ((cond false true (!al))==false) (Aj .i64 (a.drop 8) fun am=>Aj .i64 (a.drop 2) fun an=>Aj .i64 (a.drop 3) fun ao=>J8 N am an ao fun ap=>cond ((cond false true (!ap))==false) (Aj .i64 (a.drop 9) fun aq=>Aj .i64 (a.drop 2) fun ar=>Aj .i64 (a.drop 3) fun au=>J8 N aq ar au fun av=>cond (cond false true (!av)) (r0 false) q1) (r0 false)) (r0 false)) (r0 false)) (r0 false))
def Ya(r0:Bool->O R)(b:Int)(c:Bool)(a:LA):O R:=FO N r0 b c a (KM N r0 b c a)
def KO(r0:Bool->O R)(q0:O R)(a:LA)(c:Bool)(b:Int):O R:=(J8 N b 1 24 fun aw=>cond ((!aw)==false) (cond (ble 22 a.length) (Lf N (a.take 22) c fun ax=>cond ((cond false true (!ax))==false) (Aj .i64 (a.drop 2) fun ay=>J8 N ay 0 1048576 fun az=>cond ((cond false true (!az))==false) (Aj .i64 (a.drop 3) fun ba=>Aj .i64 (a.drop 2) fun bb=>J8 N ba bb 1048576 fun bc=>cond ((cond false true (!bc))==false) (cond (ble 22 a.length) (Rq N (a.take 22) c fun bd=>cond (cond false true (!bd)) (r0 false) q0) none) (r0 false)) (r0 false)) (r0 false)) none) (r0 false))
def Qn:=(shut fun N a c b r0=>KO (R:=R) N r0 (Ya N r0 b c a) a c b).1
def XO(a c b r0):(@Qn R N a c b r0)=(KO N r0 (Ya N r0 b c a) a c b):=by rw[Qn,(shut _).2]
def dW:Hints:={H:=hK 1 (hJ [1,2] hL (hJ [1,2] hL (hJ [1,2] hL (hS (hK 1 (hS (hP [1,2,5] hL) hL)) hL))))}
def mP:Oe:=[Aeh N,Qm N,sP N]
def Yb(F:KF R):=Iv Tryz.f24 dW (mP N) [] N F
def Aar(b:Int)(c:Bool)(a:LA)(K:St->O R):=fun d=>K ⟨[(1,iv b),(2,op 0),(5,iv d)],hq [bP c 0 a]⟩
def Aas(b:Int)(c:Bool)(a:LA)(K:St->O R):=K ⟨[(1,iv b),(2,op 0)],hq [bP c 0 a]⟩
def Aat(b:Int)(c:Bool)(a:LA)(K:St->O R):=K ⟨[(1,iv b),(2,op 0)],hq [bP c 0 a]⟩
def Aau(b:Int)(c:Bool)(a:LA)(K:St->O R):=K ⟨[(1,iv b),(2,op 0)],hq [bP c 0 a]⟩
def o6(F:KF R)(b c a):∀ n,Aar b c a (Ao (Yb N F (pz 21828) []) n)=(Nw N (Bu F) b c a n):=Gu fun n e=>(B6 (U5 N (Bu F) b c a) e:_)
def o7(F:KF R)(b c a):Aas b c a (A1 (Yb N F (pz 341) []))=(KL N (Bu F) b c a):=(B6 (FM N (Bu F) b c a) ((lW ..).trans (o6 ..)):_)
def o8(F:KF R)(b c a):Aat b c a (A1 (Yb N F (pz 85) []))=(KM N (Bu F) b c a):=(B6 (FN N (Bu F) b c a) ((jW ..).trans (o7 ..)):_)
def o9(F:KF R)(b c a):Aau b c a (A1 (Yb N F (pz 21) []))=(Ya N (Bu F) b c a):=(B6 (FO N (Bu F) b c a) ((jW ..).trans (o8 ..)):_)
def DD:=Cc N 24 (mP N) dW (fun
|[.pagg a c,.int .i64 b],[]=>some fun _ k=>Qn N a c b (Bu k)
| _,_=>none) fun _ _=>by split;intro R F;exact(B6 (KO N (Bu F) · _ _ _) ((jW ..).trans (o9 ..)):_).trans (XO ..).symm;trivial
def jN(a:LA)(b:Bool)(r0:Int->Int->O R):O R:=(cond (ble 22 a.length) (Lf N (a.take 22) b fun c=>cond (!c) (r0 0 0) (Aj .i64 (a.drop 11) fun d=>Aj .i64 (a.drop 15) fun e=>Aj .i64 (a.drop 10) fun f=>r0 (Fc (Fc d (wrap .i64 (e+1))) 1) (Fc f 1))) none)
def HL:=(shut (@jN R)).1
def dX:@HL R=@jN R:=(shut _).2
def ZZ:=Cc N 121 [Qm N] D5 (fun
|[.pagg a b],[]=>some fun _ k=>HL N a b (zX k)
| _,_=>none) fun _ _=>by split;intro R F;dsimp only;rw[dX];kernel_rfl;trivial
def KP(a:LA)(b:Bool)(r0:LA->O R):O R:=(cond (ble 22 a.length) (Lf N (a.take 22) b fun d=>cond (!d) (r0 [Bbr,Bbr]) (cond (ble 22 a.length) (HL N (a.take 22) b fun e f=>Aj .i64 (a.drop 19) fun c=>cond (c==0) (Aj .i64 (a.drop 20) fun g=>r0 [Bbr,.int .i64 (Cn g e)]) (cond (c==2) (Aj .i64 (a.drop 20) fun h=>r0 [.int .i64 2,.int .i64 (Cn h f)]) (Aj .i64 (a.drop 20) fun i=>r0 [.int .i64 1,.int .i64 i]))) none)) none)
def Mo:=(shut (@KP R)).1
def NV:@Mo R=@KP R:=(shut _).2
def U6:=Cc N 62 [Qm N,ZZ N] G3 (fun
|[.pagg a b],[]=>some fun _ k=>Mo N a b (Dx k)
| _,_=>none) fun _ _=>by split;intro R F;dsimp only;rw[NV];kernel_rfl;trivial
def NW(N:Nat)(r0:Int->LA->O R)(b:Bool)(a:LA)(k0:LA->O R)(c:LA):O R:=(r0 0 [])
def Rr(r0:Int->LA->O R)(b:Bool)(a:LA):Nat->LA->O R
|0=>fun _=>none
|n+1=>NW N r0 b a (Rr r0 b a n)
def KQ(r0:Int->LA->O R)(q0:LA->O R)(a:LA)(b:Bool):O R:=(cond (ble 22 a.length) (Lf N (a.take 22) b fun f=>cond (!f) (r0 1 []) (cond (ble 22 a.length) (Mo N (a.take 22) b fun d=>cond ((beq d.length 2)&&((ble 2 2)&&(!false))) (q0 (setCells [Bbr,Bbr] 0 d)) none) none)) none)
def DE:=(shut fun N a b r0=>KQ (R:=R) N r0 (Rr N r0 b a N) a b).1
def o_(a b r0):(@DE R N a b r0)=(KQ N r0 (Rr N r0 b a N) a b):=by rw[DE,(shut _).2]
def RQ:Hints:={H:=hK 4 (hS (hK 1 (hS (hP [1,2,7,8,9] hL) hL)) hL),nils:=[(4,2),(7,2)],modes:=[(2,2),(0,0),(0,0)]}
def XP:Oe:=[Qm N,U6 N]
def sQ(F:KF R):=Iv Tryz.f97 RQ (XP N) [] N F
def Rs(F:KF R):Int->LA->O R:=fun g h=>F (.tup [Bbq 0 0,iv 0,iv g]) (hq [bQ 2 h])
def sR(b:Bool)(a:LA)(K:St->O R):=fun c=>K ⟨[(1,.nsl),(2,op 0),(7,Bbq 1 0),(8,op 2),(9,iv 0)],hq [bP b 0 a,bQ 2 [],bQ 0 c]⟩
def dY(F:KF R)(b a):∀ n,sR b a (Ao (sQ N F (pz 21828) []) n)=(Rr N (Rs F) b a n):=Gu fun n e=>(B6 (NW N (Rs F) b a) e:_)
def vg:=Cc N 97 (XP N) RQ (fun
|[.pagg a b,.nsl],[]=>some fun _ k=>DE N a b (Rs k)
| _,_=>none) fun _ _=>by split;intro R F;exact(B6 (KQ N (Rs F) · _ _) ((lW ..).trans (dY ..)):_).trans (o_ ..).symm;trivial
def Xd(N:Nat)(r0:Nat->Int->LA->O R)(d:Nat)(b:Bool)(a f:LA)(k2:Int->O R)(g:Int):O R:=(cond (decide (g>0)) none (r0 d 0 f))
def Py(r0:Nat->Int->LA->O R)(d:Nat)(b:Bool)(a f:LA):Nat->Int->O R
|0=>fun _=>none
|n+1=>Xd N r0 d b a f (Py r0 d b a f n)
def Xe(N:Nat)(r0:Nat->Int->LA->O R)(c:Int)(b:Bool)(a:LA)(k1:Nat->LA->O R)(q2:Nat->LA->Int->O R)(d:Nat)(f:LA):O R:=(cond (decide (0<c)) none (q2 d f (wrap .i64 (c - 1))))
def Pz(r0:Nat->Int->LA->O R)(c:Int)(b:Bool)(a:LA):Nat->Nat->LA->O R
|0=>fun _ _=>none
|n+1=>Xe N r0 c b a (Pz r0 c b a n) (fun d f=>Py N r0 d b a f N)
def Xf(N:Nat)(r0:Nat->Int->LA->O R)(c:Int)(b:Bool)(a:LA)(q1:Nat->LA->O R):O R:=(cond ((decide (0<=c))&&((decide (c<=c))&&((decide (c<=140737488355328))&&(decide ((c*((16:Nat):Int))<=140737488355328))))) (q1 c.toNat (List.flatten (replicate c.toNat ([Bbr,Bbr]:LA)))) none)
def P0(r0:Nat->Int->LA->O R)(c:Int)(b:Bool)(a:LA):O R:=Xf N r0 c b a (Pz N r0 c b a N)
def T4(r0:Nat->Int->LA->O R)(q0:O R)(a:LA)(b:Bool)(c:Int):O R:=(cond (ble 22 a.length) (Qn N (a.take 22) b c fun h=>cond (!h) (r0 0 1 []) (cond (0 != c) (r0 0 4 []) (cond (ble 22 a.length) (DE N (a.take 22) b fun i l=>cond (i != 0) (r0 0 16 []) (Aj .i64 (a.drop 19) fun j=>cond ((j==2)==true) none q0)) none))) none)
def Pg:=(shut fun N a b c r0=>T4 (R:=R) N r0 (P0 N r0 c b a) a b c).1
def VT(a b c r0):(@Pg R N a b c r0)=(T4 N r0 (P0 N r0 c b a) a b c):=by rw[Pg,(shut _).2]
def AG:Hints:={H:=hK 4 (hJ [1,2,3] hL (hK 1 (hS (hK 1 (hS (hP [1,2,3,11,12] hL) hL)) (hS (hK 1 (hS (hP [2,3,11,13] (hK 1 (hS (hS (hJ [2,3,11,13,139] hL hL) hL) hL))) hL)) hL)))),nils:=[(6,2)],modes:=[(2,2),(0,0)]}
def DF:Oe:=[DD N,vg N]
def P3(F:KF R):=Iv Tryz.f96 AG (DF N) [] N F
def Z_(d:Nat)(b:Bool)(a f:LA)(K:St->O R):=fun g=>K ⟨[(2,.nsl),(3,op 0),(11,Bbq 1 d),(13,iv g)],hq [bP b 0 a,bQ 2 f]⟩
def Z'(c:Int)(b:Bool)(a:LA)(K:St->O R):=fun d f=>K ⟨[(1,iv c),(2,.nsl),(3,op 0),(11,Bbq 1 d),(12,iv 0)],hq [bP b 0 a,bQ 2 f]⟩
def aA(c:Int)(b:Bool)(a:LA)(K:St->O R):=K ⟨[(1,iv c),(2,.nsl),(3,op 0)],hq [bP b 0 a]⟩
def O'(F:KF R)(d b a f):∀ n,Z_ d b a f (Ao (P3 N F (pz 1398084) []) n)=(Py N (Qg F) d b a f n):=Gu fun n e=>(B6 (Xd N (Qg F) d b a f) e:_)
def PA(F:KF R)(c b a):∀ n,Z' c b a (Ao (P3 N F (pz 349508) []) n)=(Pz N (Qg F) c b a n):=Gu fun n e=>(QH (Xe N (Qg F) c b a) e (rD fun d f=>(lW ..).trans (O' ..)):_)
def PC(F:KF R)(c b a):aA c b a (A1 (P3 N F (pz 1365) []))=(P0 N (Qg F) c b a):=(B6 (Xf N (Qg F) c b a) ((lW ..).trans (PA ..)):_)
def dZ:=Cc N 96 (DF N) AG (fun
|[.pagg a b,.int .i64 c,.nsl],[]=>some fun _ k=>Pg N a b c (Qg k)
| _,_=>none) fun _ _=>by split;intro R F;exact(B6 (T4 N (Qg F) · _ _ _) ((jW ..).trans (PC ..)):_).trans (VT ..).symm;trivial
def Rt(N:Nat)(r0:Nat->LA->O R)(a:Int)(k2:Nat->Int->LA->O R)(f:Nat)(i:Int)(m:LA):O R:=(cond (decide (i<=a)) (cond ((ble (f+1) 140737488355328)&&(ble ((f+1)*16) 140737488355328)) (k2 (f+1) (wrap .i64 (i+1)) ((m.take (f*2))++[.int .i64 2,.int .i64 i])) none) (r0 f m))
def Lg(r0:Nat->LA->O R)(a:Int):Nat->Nat->Int->LA->O R
|0=>fun _ _ _=>none
|n+1=>Rt N r0 a (Lg r0 a n)
def Ru(N:Nat)(r0:Nat->LA->O R)(a:Int)(c:Bool)(b:LA)(k1:Nat->Int->LA->O R)(q2:Nat->Int->LA->O R)(g:Nat)(j:Int)(o:LA):O R:=(Aj .i64 (b.drop 12) fun q=>cond (decide (j<=q)) (cond ((ble (g+1) 140737488355328)&&(ble ((g+1)*16) 140737488355328)) (k1 (g+1) (wrap .i64 (j+1)) ((o.take (g*2))++[.int .i64 1,.int .i64 j])) none) (q2 g 1 o))
def Lh(r0:Nat->LA->O R)(a:Int)(c:Bool)(b:LA):Nat->Nat->Int->LA->O R
|0=>fun _ _ _=>none
|n+1=>Ru N r0 a c b (Lh r0 a c b n) (Lg N r0 a N)
def Rv(N:Nat)(r0:Nat->LA->O R)(d a:Int)(c:Bool)(b:LA)(k0:Nat->Int->LA->O R)(q1:Nat->Int->LA->O R)(h:Nat)(l:Int)(p:LA):O R:=(cond (decide (l<=d)) (cond ((ble (h+1) 140737488355328)&&(ble ((h+1)*16) 140737488355328)) (k0 (h+1) (wrap .i64 (l+1)) ((p.take (h*2))++[Bbr,.int .i64 l])) none) (q1 h 1 p))
def Il(r0:Nat->LA->O R)(d a:Int)(c:Bool)(b:LA):Nat->Nat->Int->LA->O R
|0=>fun _ _ _=>none
|n+1=>Rv N r0 d a c b (Il r0 d a c b n) (Lh N r0 a c b N)
def DG(r0:Nat->LA->O R)(q0:Int->Int->Nat->Int->LA->O R)(b:LA)(c:Bool):O R:=(cond (ble 22 b.length) (HL N (b.take 22) c fun d a=>cond (ble 22 b.length) (Lf N (b.take 22) c fun r=>cond (!r) (r0 0 []) (q0 d a 0 1 [])) none) none)
def AH:=(shut fun N b c r0=>DG (R:=R) N r0 (fun d a=>Il N r0 d a c b N) b c).1
def RR(b c r0):(@AH R N b c r0)=(DG N r0 (fun d a=>Il N r0 d a c b N) b c):=by rw[AH,(shut _).2]
def XQ:Hints:={H:=hK 4 (hS (hK 1 (hS (hP [1,3,4,5,6] hL) hL)) (hS (hK 1 (hS (hP [1,3,5,7] hL) hL)) (hS (hK 1 (hS (hP [3,5,8] hL) hL)) hL))),nils:=[(2,2),(3,2)],modes:=[(2,2)]}
def d6:Oe:=[ZZ N,Qm N]
def FP(F:KF R):=Iv Tryz.f234 XQ (d6 N) [] N F
def vh(a:Int)(K:St->O R):=fun f i m=>K ⟨[(3,Bbq 0 f),(5,iv a),(8,iv i)],hq [bQ 2 m]⟩
def vj(a:Int)(c:Bool)(b:LA)(K:St->O R):=fun g j o=>K ⟨[(1,op 0),(3,Bbq 1 g),(5,iv a),(7,iv j)],hq [bP c 0 b,bQ 2 o]⟩
def vk(d a:Int)(c:Bool)(b:LA)(K:St->O R):=fun h l p=>K ⟨[(1,op 0),(3,Bbq 1 h),(4,iv d),(5,iv a),(6,iv l)],hq [bP c 0 b,bQ 2 p]⟩
def jO(F:KF R)a:∀ n,vh a (Ao (FP N F (pz 349508) []) n)=(Lg N (QI F) a n):=Gu fun n e=>(B6 (Rt N (QI F) a) e:_)
def jP(F:KF R)(a c b):∀ n,vj a c b (Ao (FP N F (pz 87364) []) n)=(Lh N (QI F) a c b n):=Gu fun n e=>(QH (Ru N (QI F) a c b) e ((lW ..).trans (jO ..)):_)
def jQ(F:KF R)(d a c b):∀ n,vk d a c b (Ao (FP N F (pz 21828) []) n)=(Il N (QI F) d a c b n):=Gu fun n e=>(QH (Rv N (QI F) d a c b) e ((lW ..).trans (jP ..)):_)
def Aav:=Cc N 234 (d6 N) XQ (fun
|[.pagg b c],[]=>some fun _ k=>AH N b c (QI k)
| _,_=>none) fun _ _=>by split;intro R F;exact(B6 (DG N (QI F) · _ _) (rD fun d a=>(lW ..).trans (jQ ..)):_).trans (RR ..).symm;trivial
def Nx(N:Nat)(r0:Int->O R)(d:Nat)(b:Bool)(a c:LA)(k0:Int->O R)(f:Int):O R:=(cond (decide (f<(d:Int))) (cond (Ab f d) (cond (ble 2 ((c.drop (0+(f.toNat*2))).length)) (cond (ble 2 a.length) (cond ((!b)||(Bb (a.take 2))) (cond ((ble 1 2)&&((beq (((c.drop (0+(f.toNat*2))).take 2).length) 2)&&((beq ((a.take 2).length) 2)&&(true&&(!false))))) (Aj .i64 ((c.drop (0+(f.toNat*2))).take 2) fun i=>Aj .i64 (a.take 2) fun j=>Aj .i64 (((c.drop (0+(f.toNat*2))).take 2).drop 1) fun l=>Aj .i64 ((a.take 2).drop 1) fun m=>cond ((i==j)&&((l==m)&&true)) (r0 f) (k0 (wrap .i64 (f+1)))) none) none) none) none) none) (r0 (-1)))
def Fy(r0:Int->O R)(d:Nat)(b:Bool)(a c:LA):Nat->Int->O R
|0=>fun _=>none
|n+1=>Nx N r0 d b a c (Fy r0 d b a c n)
def U7(r0:Int->O R)(q0:Nat->LA->Int->O R)(g:LA)(h:Bool)(a:LA)(b:Bool):O R:=(cond (ble 22 g.length) (AH N (g.take 22) h fun d c=>q0 d c 0) none)
def Yc:=(shut fun N g h a b r0=>U7 (R:=R) N r0 (fun d c=>Fy N r0 d b a c N) g h a b).1
def HM(g h a b r0):(@Yc R N g h a b r0)=(U7 N r0 (fun d c=>Fy N r0 d b a c N) g h a b):=by rw[Yc,(shut _).2]
def NX:Hints:={H:=hK 2 (hS (hK 1 (hS (hP [3,5,6] hL) hL)) hL)}
def RS:Oe:=[Aav N]
def oi(F:KF R):=Iv Tryz.f210 NX (RS N) [] N F
def ol(d:Nat)(b:Bool)(a c:LA)(K:St->O R):=fun f=>K ⟨[(3,op 0),(5,Bbq 1 d),(6,iv f)],hq [bP b 0 a,bQ 2 c]⟩
def aB(F:KF R)(d b a c):∀ n,ol d b a c (Ao (oi N F (pz 1348) []) n)=(Fy N (Ee F) d b a c n):=Gu fun n e=>(B6 (Nx N (Ee F) d b a c) e:_)
def sS:=Cc N 210 (RS N) NX (fun
|[.pagg g h,.pagg a b],[]=>some fun _ k=>Yc N g h a b (Ee k)
| _,_=>none) fun _ _=>by split;intro R F;exact(B6 (U7 N (Ee F) · _ _ _ _) (rD fun d c=>(lW ..).trans (aB ..)):_).trans (HM ..).symm;trivial
def Aaw(b:LA)(c:Bool)(a:LA)(d:Bool)(r0:Bool->O R):O R:=(cond (ble 22 b.length) (cond (ble 2 a.length) (cond ((!d)||(Bb (a.take 2))) (Yc N (b.take 22) c (a.take 2) false fun e=>r0 (decide (e>=0))) none) none) none)
def Aax:=(shut (@Aaw R)).1
def sU:@Aax R=@Aaw R:=(shut _).2
def Ap7:=Cc N 166 [sS N] D5 (fun
|[.pagg b c,.pagg a d],[]=>some fun _ k=>Aax N b c a d (Bu k)
| _,_=>none) fun _ _=>by split;intro R F;dsimp only;rw[sU];kernel_rfl;trivial
def jR(b:LA)(c:Bool)(a:LA)(d:Bool)(r0:Nat->LA->O R):O R:=(cond (ble 22 b.length) (cond (ble 2 a.length) (cond ((!d)||(Bb (a.take 2))) (Aax N (b.take 22) c (a.take 2) false fun j=>cond (!j) (r0 0 []) (cond (ble 22 b.length) (HL N (b.take 22) c fun e g=>Aj .i64 a fun h=>cond (h==0) (Aj .i64 (a.drop 1) fun f=>Aj .i64 (a.drop 1) fun l=>Aj .i64 (b.drop 11) fun m=>cond (decide (l<m)) (r0 1 [Bbr,.int .i64 (Cn (wrap .i64 (f+1)) e)]) (Aj .i64 (b.drop 12) fun n=>cond (decide (n>0)) (r0 2 [Bbr,.int .i64 (Cn (wrap .i64 (f+1)) e),.int .i64 1,.int .i64 1]) (r0 2 [Bbr,.int .i64 (Cn (wrap .i64 (f+1)) e),.int .i64 2,.int .i64 1]))) (cond (h==1) (Aj .i64 (a.drop 1) fun o=>Aj .i64 (b.drop 12) fun p=>cond (decide (o<p)) (Aj .i64 (a.drop 1) fun q=>r0 1 [.int .i64 1,.int .i64 (wrap .i64 (q+1))]) (r0 1 [.int .i64 2,.int .i64 1])) (Aj .i64 (a.drop 1) fun i=>Aj .i64 (a.drop 1) fun r=>Aj .i64 (b.drop 10) fun s=>cond (decide (r>=s)) (r0 2 [Bbr,.int .i64 1,.int .i64 2,.int .i64 (Cn (wrap .i64 (i+1)) g)]) (r0 1 [.int .i64 2,.int .i64 (Cn (wrap .i64 (i+1)) g)])))) none)) none) none) none)
def RT:=(shut (@jR R)).1
def d7:@RT R=@jR R:=(shut _).2
def sV:=Cc N 98 [Ap7 N,ZZ N] { H:=hL,nils:=[(4,2)],modes:=[(2,2)] } (fun
|[.pagg b c,.pagg a d],[]=>some fun _ k=>RT N b c a d (QI k)
| _,_=>none) fun _ _=>by split;intro R F;dsimp only;rw[d7];kernel_rfl;trivial
def KS(N:Nat)(r0:Bool->O R)(b:LA)(a:Nat)(d f:Bool)(c:Int)(k0:Int->O R)(g:Int):O R:=(cond (decide (g<(a:Int))) (cond (Ab g a) (Aj .i64 (b.drop (g.toNat*1)) fun h=>cond (h==c) (r0 true) (k0 (wrap .i64 (g+1)))) none) (r0 false))
def T5(r0:Bool->O R)(b:LA)(a:Nat)(d f:Bool)(c:Int):Nat->Int->O R
|0=>fun _=>none
|n+1=>KS N r0 b a d f c (T5 r0 b a d f c n)
def pU(N:Nat)(r0:Bool->O R)(q0:Int->O R)(b:LA)(a:Nat)(d f:Bool)(c:Int):O R:=(q0 0)
def jS:=(shut fun N b a d f c r0=>pU (R:=R) N r0 (T5 N r0 b a d f c N) b a d f c).1
def sW(b a d f c r0):(@jS R N b a d f c r0)=(pU N r0 (T5 N r0 b a d f c N) b a d f c):=by rw[jS,(shut _).2]
def xt:Hints:={H:=hK 1 (hS (hK 1 (hS (hP [0,1,5] hL) hL)) hL)}
def Am1(F:KF R):=Iv Tryz.f167 xt [] [] N F
def Am2(b:LA)(a:Nat)(d f:Bool)(c:Int)(K:St->O R):=fun g=>K ⟨[(0,.imm b a 1 d f),(1,iv c),(5,iv g)],[]⟩
def Aay(F:KF R)(b a d f c):∀ n,Am2 b a d f c (Ao (Am1 N F (pz 324) []) n)=(T5 N (Bu F) b a d f c n):=Gu fun n e=>(B6 (KS N (Bu F) b a d f c) e:_)
def Ap8:=Cc N 167 [] xt (fun
|[.imm b a 1 d f,.int .i64 c],[]=>some fun _ k=>jS N b a d f c (Bu k)
| _,_=>none) fun _ _=>by split;intro R F;exact(B6 (pU N (Bu F) · _ _ _ _ _) ((lW ..).trans (Aay ..)):_).trans (sW ..).symm;trivial
def KT(b:LA)(c:Bool)(d a:Int)(r0:Bool->O R):O R:=(cond ((a==0)==false) (cond ((a==1)==false) (cond ((cond false true (a==2))==true) (Dd 1 (b.drop 18) fun e f=>jS N e f false c d fun g=>r0 (cond false true (cond true (!g) false))) (r0 false)) (Dd 1 (b.drop 18) fun h i=>jS N h i false c d fun j=>r0 (cond false true (cond true (!j) false)))) (r0 true))
def DH:=(shut (@KT R)).1
def NY:@DH R=@KT R:=(shut _).2
def vm:=Cc N 99 [Ap8 N] D5 (fun
|[.pagg b c,.int .i64 d,.int .i64 a],[]=>some fun _ k=>DH N b c d a (Bu k)
| _,_=>none) fun _ _=>by split;intro R F;dsimp only;rw[NY];kernel_rfl;trivial
def Yd(r0:LA->Bool->O R)(f b:Int)(g:Nat)(c:Bool)(a d:LA)(k0:Int->O R)(h:Int):O R:=(cond (decide (h<(g:Int))) (cond (Ab h g) (Aj .i64 (d.drop (0+(h.toNat*2))) fun l=>cond ((l==b)==true) (cond (ble 22 a.length) (DH N (a.take 22) c f b fun m=>cond (cond true m false) (cond (Ab h g) (cond (ble 2 ((d.drop (0+(h.toNat*2))).length)) (cond ((beq (((d.drop (0+(h.toNat*2))).take 2).length) 2)&&((ble 2 2)&&(!false))) (cond (ble 2 ((setCells [Bbr,Bbr] 0 ((d.drop (0+(h.toNat*2))).take 2)).length)) (r0 ((setCells [Bbr,Bbr] 0 ((d.drop (0+(h.toNat*2))).take 2)).take 2) true) none) none) none) none) (k0 (wrap .i64 (h+1)))) none) (k0 (wrap .i64 (h+1)))) none) (r0 [Bbr,Bbr] false))
def Mp(r0:LA->Bool->O R)(f b:Int)(g:Nat)(c:Bool)(a d:LA):Nat->Int->O R
|0=>fun _=>none
|n+1=>Yd N r0 f b g c a d (Mp r0 f b g c a d n)
def UZ(r0:LA->Bool->O R)(q0:Nat->LA->Int->O R)(a:LA)(c:Bool)(f:Int)(i:LA)(j:Bool)(b:Int):O R:=(cond (ble 22 a.length) (cond (ble 2 i.length) (cond ((!j)||(Bb (i.take 2))) (RT N (a.take 22) c (i.take 2) false fun g d=>q0 g d 0) none) none) none)
def HN:=(shut fun N a c f i j b r0=>UZ (R:=R) N r0 (fun g d=>Mp N r0 f b g c a d N) a c f i j b).1
def d8(a c f i j b r0):(@HN R N a c f i j b r0)=(UZ N r0 (fun g d=>Mp N r0 f b g c a d N) a c f i j b):=by rw[HN,(shut _).2]
def mQ:Hints:={H:=hK 2 (hS (hK 1 (hS (hP [1,3,4,8,10,11] hL) hL)) hL),modes:=[(3,0),(0,0)]}
def sX:Oe:=[sV N,vm N]
def Aei(F:KF R):=Iv Tryz.f63 mQ (sX N) [] N F
def Aej(f b:Int)(g:Nat)(c:Bool)(a d:LA)(K:St->O R):=fun h=>K ⟨[(1,iv f),(3,iv b),(4,op 0),(8,op 1),(10,Bbq 2 g),(11,iv h)],hq [bP c 0 a,bQ 0 [iv 0,iv 0],bQ 2 d]⟩
def sY(F:KF R)(f b g c a d):∀ n,Aej f b g c a d (Ao (Aei N F (pz 1348) []) n)=(Mp N (zY F) f b g c a d n):=Gu fun n e=>(B6 (Yd N (zY F) f b g c a d) e:_)
def sZ:=Cc N 63 (sX N) mQ (fun
|[.pagg a c,.int .i64 f,.pagg i j,.int .i64 b],[]=>some fun _ k=>HN N a c f i j b (zY k)
| _,_=>none) fun _ _=>by split;intro R F;exact(B6 (UZ N (zY F) · _ _ _ _ _ _) (rD fun g d=>(lW ..).trans (sY ..)):_).trans (d8 ..).symm;trivial
def Ye(r0:Nat->Int->Int->LA->O R)(d:LA)(b:Nat)(f g c:Bool)(a:LA)(k0:Nat->Int->LA->LA->O R)(i:Nat)(h:Int)(m l:LA):O R:=(cond (decide (h<(b:Int))) (cond (ble 22 a.length) (cond (ble 2 l.length) (cond (Ab h b) (Aj .i64 (d.drop (h.toNat*1)) fun p=>HN N (a.take 22) c h (l.take 2) false p fun j q=>cond ((beq j.length 2)&&((ble 2 2)&&(!false))) (cond (!q) (r0 0 h 16 []) (cond (ble 2 ((setCells [Bbr,Bbr] 0 j).length)) (cond ((beq (((setCells [Bbr,Bbr] 0 j).take 2).length) 2)&&(ble 2 2)) (cond ((ble (i+1) 140737488355328)&&(ble ((i+1)*16) 140737488355328)) (cond (ble 2 ((setCells [Bbr,Bbr] 0 j).length)) (cond ((beq (((setCells [Bbr,Bbr] 0 j).take 2).length) 2)&&((ble 2 l.length)&&(!false))) (k0 (i+1) (wrap .i64 (h+1)) ((m.take (i*2))++((setCells [Bbr,Bbr] 0 ((setCells [Bbr,Bbr] 0 j).take 2)).take 2)) (setCells l 0 ((setCells [Bbr,Bbr] 0 j).take 2))) none) none) none) none) none)) none) none) none) none) (r0 i (b:Int) 0 m))
def Mq(r0:Nat->Int->Int->LA->O R)(d:LA)(b:Nat)(f g c:Bool)(a:LA):Nat->Nat->Int->LA->LA->O R
|0=>fun _ _ _ _=>none
|n+1=>Ye N r0 d b f g c a (Mq r0 d b f g c a n)
def U_(r0:Nat->Int->Int->LA->O R)(q0:Nat->Int->LA->LA->O R)(a:LA)(c:Bool)(d:LA)(b:Nat)(f g:Bool):O R:=(cond (ble 22 a.length) (Lf N (a.take 22) c fun r=>cond (!r) (r0 0 0 1 []) (cond (ble 22 a.length) (Mo N (a.take 22) c fun o=>cond ((beq o.length 2)&&((ble 2 2)&&(!false))) (q0 0 0 [] (setCells [Bbr,Bbr] 0 o)) none) none)) none)
def Vo:=(shut fun N a c d b f g r0=>U_ (R:=R) N r0 (Mq N r0 d b f g c a N) a c d b f g).1
def d9(a c d b f g r0):(@Vo R N a c d b f g r0)=(U_ N r0 (Mq N r0 d b f g c a N) a c d b f g):=by rw[Vo,(shut _).2]
def mR:Hints:={H:=hK 4 (hS (hK 1 (hS (hP [1,2,7,8,9] hL) hL)) hL),nils:=[(4,2),(7,2)],modes:=[(2,2),(0,0),(0,0)]}
def s5:Oe:=[Qm N,U6 N,sZ N]
def Aek(F:KF R):=Iv Tryz.f97 mR (s5 N) [] N F
def DI(F:KF R):Nat->Int->Int->LA->O R:=fun s t u v=>F (.tup [Bbq 0 s,iv t,iv u]) (hq [bQ 2 v])
def Ael(d:LA)(b:Nat)(f g c:Bool)(a:LA)(K:St->O R):=fun i h m l=>K ⟨[(1,.imm d b 1 f g),(2,op 0),(7,Bbq 1 i),(8,op 2),(9,iv h)],hq [bP c 0 a,bQ 2 m,bQ 0 l]⟩
def s6(F:KF R)(d b f g c a):∀ n,Ael d b f g c a (Ao (Aek N F (pz 21828) []) n)=(Mq N (DI F) d b f g c a n):=Gu fun n e=>(B6 (Ye N (DI F) d b f g c a) e:_)
def KU:=Cc N 97 (s5 N) mR (fun
|[.pagg a c,.imm d b 1 f g],[]=>some fun _ k=>Vo N a c d b f g (DI k)
| _,_=>none) fun _ _=>by split;intro R F;exact(B6 (U_ N (DI F) · _ _ _ _ _ _) ((lW ..).trans (s6 ..)):_).trans (d9 ..).symm;trivial
end
end Gx
namespace Gx
open Go Go.Proofs
inductive Sl(α:Type)where
|nil
|of (l:List α) (t o:Bool)
def Sl.l{α:Type}:Sl α->List α
|.nil=>[]
|.of l _ _=>l
def Sl.av{α:Type}(sz:Nat)(e:α->LA):Sl α->AV
|.nil=>.nsl
|.of l t o=>.imm (l.flatMap e) l.length sz t o
def Am3(n:Int):LA:=[.int .i64 n]
def Am(l:List Int):LA:=l.map fun n=>.int .i64 n
def Ny:∀ l:List Int,l.flatMap Am3=Am l
|[]=>rfl
|a::r=>by rw[A3r,Ny r];rfl
structure SegD where
 width:Int
 price:Int
structure UnitD where
 name:List UInt8
 bus:Int
 min:Int
 max:Int
 segs:Sl SegD
 noLoad:Int
 rampUp:Int
 rampDown:Int
 startRamp:Int
 stopRamp:Int
 upTime:Int
 downTime:Int
 startTime:Int
 hotCost:Int
 coldCost:Int
 hotHours:Int
 reserve:Int
 reservePrice:Int
 away:Sl Int
 state:Int
 hours:Int
 output:Int
def SegD.av(s:SegD):LA:=[.int .i64 s.width,.int .i64 s.price]
def UnitD.av(u:UnitD):LA:=[.str u.name,.int .i64 u.bus,.int .i64 u.min,.int .i64 u.max,u.segs.av 2 SegD.av,.int .i64 u.noLoad,.int .i64 u.rampUp,.int .i64 u.rampDown,.int .i64 u.startRamp,.int .i64 u.stopRamp,.int .i64 u.upTime,.int .i64 u.downTime,.int .i64 u.startTime,.int .i64 u.hotCost,.int .i64 u.coldCost,.int .i64 u.hotHours,.int .i64 u.reserve,.int .i64 u.reservePrice,u.away.av 1 Am3,.int .i64 u.state,.int .i64 u.hours,.int .i64 u.output]
section
variable{R:Type}
def s7{α:Type}{sz:Nat}{e:α->LA}{s:Sl α}{r:LA}{f:LA->Nat->O R}:Dd sz (s.av sz e::r) f=f (s.l.flatMap e) s.l.length:=by cases s<;>simp[Dd,Sl.av,Sl.l,Aow]
def Y4{α:Type}{e:α->LA}{sz:Nat}(k:∀ a,(e a).length=sz):∀(l:List α)(j:Nat)(h:j<l.length),drop (j*sz) (l.flatMap e)=e l[j]++(l.drop (j+1)).flatMap e
|a::r,0,_=>by simp
|a::r,j+1,h=>by
  have:=Y4 k r j (by simpa using h)
  rw[A3r,A7m,k,show(j+1)*sz - sz=j*sz by rw[A23];omega,A3v (by rw[k,A23];omega)]
  simpa using this
def RU{l:List Int}{i:Nat}(h:i<l.length){f:Int->O R}:Aj .i64 (drop i (Am l)) f=f l[i]:=by rw[Am,A4g (by simpa using h)];simp[Aw]
def Bh{l:List Int}{i:Nat}(h:i<l.length){f:Int->O R}:Aj .i64 (drop ((Int.toNat (i:Int))*1) (Am l)) f=f l[i]:=by rw[A2u,A3g,RU h]
def Fg{α:Type}{l:List α}{j:Nat}(h:j<l.length):l.drop j=l[j]::l.drop (j+1):=A4g h
def Jx{α:Type}{l:List α}{j:Nat}(h:l.length<=j):l.drop j=[]:=A3v h
def cK{α:Type}(K:α->O R)(c:Bool)(a b:α):cond c (K a) (K b)=K (cond c a b):=by cases c<;>rfl
def Cj(u:UnitD):take 22 u.av=u.av:=rfl
def Ef(u:UnitD):ble 22 (List.length u.av)=true:=rfl
def u2{u:UnitD}{f:Int->O R}:Aj .i64 (drop 2 u.av) f=f u.min:=Aw
def u3{u:UnitD}{f:Int->O R}:Aj .i64 (drop 3 u.av) f=f u.max:=Aw
def u5{u:UnitD}{f:Int->O R}:Aj .i64 (drop 5 u.av) f=f u.noLoad:=Aw
def u6{u:UnitD}{f:Int->O R}:Aj .i64 (drop 6 u.av) f=f u.rampUp:=Aw
def u7{u:UnitD}{f:Int->O R}:Aj .i64 (drop 7 u.av) f=f u.rampDown:=Aw
def u8{u:UnitD}{f:Int->O R}:Aj .i64 (drop 8 u.av) f=f u.startRamp:=Aw
def u9{u:UnitD}{f:Int->O R}:Aj .i64 (drop 9 u.av) f=f u.stopRamp:=Aw
def Aun{u:UnitD}{f:Int->O R}:Aj .i64 (drop 10 u.av) f=f u.upTime:=Aw
def As7{u:UnitD}{f:Int->O R}:Aj .i64 (drop 11 u.av) f=f u.downTime:=Aw
def Am4{u:UnitD}{f:Int->O R}:Aj .i64 (drop 12 u.av) f=f u.startTime:=Aw
def Axk{u:UnitD}{f:Int->O R}:Aj .i64 (drop 13 u.av) f=f u.hotCost:=Aw
def Axl{u:UnitD}{f:Int->O R}:Aj .i64 (drop 14 u.av) f=f u.coldCost:=Aw
def Auo{u:UnitD}{f:Int->O R}:Aj .i64 (drop 15 u.av) f=f u.hotHours:=Aw
def Av0{u:UnitD}{f:Int->O R}:Aj .i64 (drop 16 u.av) f=f u.reserve:=Aw
def Ax6{u:UnitD}{f:Int->O R}:Aj .i64 (drop 17 u.av) f=f u.reservePrice:=Aw
def Am5{u:UnitD}{f:Int->O R}:Aj .i64 (drop 19 u.av) f=f u.state:=Aw
def Axm{u:UnitD}{f:Int->O R}:Aj .i64 (drop 20 u.av) f=f u.hours:=Aw
def Av1{u:UnitD}{f:Int->O R}:Aj .i64 (drop 21 u.av) f=f u.output:=Aw
def u4{u:UnitD}{f:LA->Nat->O R}:Dd 2 (drop 4 u.av) f=f (u.segs.l.flatMap SegD.av) u.segs.l.length:=s7
def Ass{u:UnitD}{f:LA->Nat->O R}:Dd 1 (drop 18 u.av) f=f (Am u.away.l) u.away.l.length:=by rw[<-Ny];exact s7
def Im(lo hi x:Int):Bool:=decide (lo<=x)&&decide (x<=hi)
def d_{N:Nat}{b c:Int}{e f:Bool}{K:Bool->O R}(l:List Int)(hs:l.length<=1000000000000):∀(m j k:Nat),j+m=l.length->m<k ->
  Ik N K b c (Am l) l.length e f k (l.length:Int) (j:Int)=K ((l.drop j).all (Im b c))
|0,j,k+1,D,_=>by
  rw[Ik];unfold Rk
  rw[Rc (by omega),cf,Jx (by omega),List.all_nil]
|m+1,j,k+1,D,G=>by
  rw[Ik];unfold Rk
  have h:j<l.length:=by omega
  rw[Ox h,ct,Aa h,ct,Bh h,wS (by omega),d_ l hs m (j+1) k (by omega) (by omega),Fg h,A8m]
  simp only[cK];congr 1
  generalize (drop (j+1) l).all (Im b c)=t
  rw[A4s];cases t<;>simp[Im]<;>omega
def Yf{N:Nat}{b c:Int}{e f:Bool}{K:Bool->O R}(l:List Int)(n:Nat)(k:n=l.length)(hN:l.length<N)(hs:l.length<=1000000000000):Dl N b c (Am l) n e f K=K (l.all (Im b c)):=by
 subst k
 rw[RG];unfold CY
 have:=d_ (N:=N) (b:=b) (c:=c) (e:=e) (f:=f) (K:=K) l hs l.length 0 N (by omega) hN
 simpa using this
def VA{N:Nat}{a b c:Int}{K:Bool->O R}:J8 N a b c K=K (Im b c a):=by
 rw[sO];unfold Aao
 simp only[cK];congr 1
 rw[A4s];simp[Im]
def Bg(u:UnitD):Bool:=Im 0 24 u.upTime&&(Im 0 24 u.downTime&&(Im 0 24 u.startTime&&(Im 0 24 u.hotHours&&((u.state==0||(u.state==1||u.state==2))&&(Im 1 48 u.hours&&(!(u.state==1)||decide (u.hours<=u.startTime)))))))
def jT{N:Nat}{u:UnitD}{b:Bool}{K:Bool->O R}:CZ N K b u.av=K (Im 1 48 u.hours&&(!(u.state==1)||decide (u.hours<=u.startTime))):=by
 unfold CZ
 simp only[Axm,Am5,Am4,cK];congr 1
 rw[A4s];simp[Im];omega
def jU{N n:Nat}{u:UnitD}{d e f g:Int}{b:Bool}{K:Bool->O R}:Ql N K d e f g b u.av (n+5) 0 =
  K (Im 0 24 d&&(Im 0 24 e&&(Im 0 24 f&&(Im 0 24 g&&((u.state==0||(u.state==1||u.state==2))&&(Im 1 48 u.hours&&(!(u.state==1)||decide (u.hours<=u.startTime)))))))):=by
 have a1:wrap .i64 ((0:Int)+1)=1:=by decide
 have a2:wrap .i64 ((1:Int)+1)=2:=by decide
 have a3:wrap .i64 ((2:Int)+1)=3:=by decide
 have a4:wrap .i64 ((3:Int)+1)=4:=by decide
 simp only[Ql,KB,jT,a1,a2,a3,a4,Am5]
 simp[Ab,cK];congr 1
 generalize (decide (u.hours<=u.startTime))=t
 generalize Im 1 48 u.hours=s
 by_cases k:u.state=0<;>by_cases D:u.state=1<;>by_cases G:u.state=2<;>first|omega|skip
 all_goals (rw[A4s];cases s<;>cases t<;>simp[Im,k,D,G]<;>omega)
def Li{N:Nat}{u:UnitD}{b:Bool}{K:Bool->O R}(hN:64<=N):Rl N u.av b K=K (Bg u):=by
 rw[dO];unfold UW
 obtain⟨n,rfl⟩:∃ n,N=n+5:=⟨N - 5,by omega⟩
 simp only[Aun,As7,Am4,Auo,jU];rfl
end
end Gx
namespace Gx
open Go Go.Proofs
section
variable{R:Type}
def Mr{N:Nat}{u:UnitD}{b:Bool}{K:Bool->O R}:Lf N u.av b K=K (Bg u):=by
 rw[XN];unfold KK X9
 simp only[Aun,As7,Am4,Auo,Am5,Axm]
 simp[cK];congr 1
 unfold Bg
 by_cases k:u.state=0<;>by_cases D:u.state=1<;>by_cases G:u.state=2<;>first|omega|skip
 all_goals (rw[A4s];simp[Im,k,D,G]<;>omega)
def Ax7{N:Nat}{b c x:Int}{e f:Bool}{K:Bool->O R}(hN:64<=N):Dl N b c [.int .i64 x] 1 e f K=K (Im b c x):=by
 have:=Yf (N:=N) (b:=b) (c:=c) (e:=e) (f:=f) (K:=K) [x] 1 rfl (by simp;omega) (by simp)
 simpa[Am]using this
def A1x{N:Nat}{b c x y:Int}{e f:Bool}{K:Bool->O R}(hN:64<=N):Dl N b c [.int .i64 x,.int .i64 y] 2 e f K=K (Im b c x&&Im b c y):=by
 have:=Yf (N:=N) (b:=b) (c:=c) (e:=e) (f:=f) (K:=K) [x,y] 2 rfl (by simp;omega) (by simp)
 simpa[Am]using this
def A1y{N:Nat}{b c x y z w:Int}{e f:Bool}{K:Bool->O R}(hN:64<=N):Dl N b c [.int .i64 x,.int .i64 y,.int .i64 z,.int .i64 w] 4 e f K=K (Im b c x&&(Im b c y&&(Im b c z&&Im b c w))):=by
 have:=Yf (N:=N) (b:=b) (c:=c) (e:=e) (f:=f) (K:=K) [x,y,z,w] 4 rfl (by simp;omega) (by simp)
 simpa[Am]using this
def A1z{N:Nat}{b c x y z w v:Int}{e f:Bool}{K:Bool->O R}(hN:64<=N):Dl N b c [.int .i64 x,.int .i64 y,.int .i64 z,.int .i64 w,.int .i64 v] 5 e f K=K (Im b c x&&(Im b c y&&(Im b c z&&(Im b c w&&Im b c v)))):=by
 have:=Yf (N:=N) (b:=b) (c:=c) (e:=e) (f:=f) (K:=K) [x,y,z,w,v] 5 rfl (by simp;omega) (by simp)
 simpa[Am]using this
def Hz(p:Int):List SegD->Bool
|[]=>true
|s::r=>Im 1 1048576 s.width&&(Im (-1048576) 1048576 s.price&&(decide (p<=s.price)&&Hz s.price r))
def Kw:List SegD->Int
|[]=>0
|s::r=>s.width+Kw r
def mS(l:List SegD):Nat->Int
|0=>-1048576
|j+1=>((l[j]?).map (·.price)).getD 0
def KV{l:List SegD}{j:Nat}(h:j<l.length):mS l (j+1)=l[j].price:=by simp[mS,h]
def jV{l:List SegD}{j:Nat}(h:j<l.length):drop ((Int.toNat (j:Int))*2) (l.flatMap SegD.av)=(.int .i64 l[j].width)::(.int .i64 l[j].price)::(l.drop (j+1)).flatMap SegD.av:=by rw[A2u,Y4 (e:=SegD.av) (sz:=2) (fun _=>rfl) _ _ h];rfl
def s9{x y:Int}{f:Int->O R}:Aj .i64 (setCells [Bbr,Bbr] 0 [.int .i64 x,.int .i64 y]) f=f x:=rfl
def pV{x y:Int}{f:Int->O R}:Aj .i64 (drop 1 (setCells [Bbr,Bbr] 0 [.int .i64 x,.int .i64 y])) f=f y:=rfl
def mT:∀{l:List SegD}{p:Int},Hz p l=true->0<=Kw l
|[],_,_=>by simp[Kw]
|s::r,p,h=>by
  simp[Hz,Im]at h
  have:=mT h.2.2.2
  simp[Kw];omega
def Akk{N:Nat}{u:UnitD}{b:Bool}{K:Bool->O R}(hN:64<=N)(L:0<=u.min/\u.min<=1048576)(T:0<=u.max/\u.max<=1048576)(Y:u.segs.l.length<=8):∀(m j k:Nat)(g:Int),j+m=u.segs.l.length->m<k->(0<=g/\g<=1048576*(j:Int)) ->
  Cy N K (u.segs.l.flatMap SegD.av) u.segs.l.length b u.av k g (u.segs.l.length:Int) (j:Int)=K (Hz (mS u.segs.l j) (u.segs.l.drop j)&&(g+Kw (u.segs.l.drop j)==u.max - u.min))
|0,j,k+1,g,hj,_,_=>by
  rw[Cy];unfold Hx
  rw[Rc (by omega),cf,u3,u2,i64 (by omega),Jx (l:=u.segs.l) (by omega)]
  simp[Hz,Kw]
| m+1,j,k+1,g,hj,hf,hg=>by
  rw[Cy];unfold Hx
  have h:j<u.segs.l.length:=by omega
  rw[Ox h,ct,Aa h,ct,jV h]
  have p0:take 2 ((AV.int .i64 u.segs.l[j].width)::(AV.int .i64 u.segs.l[j].price)::(u.segs.l.drop (j+1)).flatMap SegD.av)=[.int .i64 u.segs.l[j].width,.int .i64 u.segs.l[j].price]:=rfl
  rw[p0,show ble 2 (List.length ((AV.int .i64 u.segs.l[j].width)::(AV.int .i64 u.segs.l[j].price)::(u.segs.l.drop (j+1)).flatMap SegD.av))=true by simp,ct]
  rw[show((!b)||Bb [AV.int .i64 u.segs.l[j].width,.int .i64 u.segs.l[j].price])=true by cases b<;>rfl,ct]
  rw[show((beq (List.length [AV.int .i64 u.segs.l[j].width,.int .i64 u.segs.l[j].price]) 2)&&((ble 2 2)&&(!false)))=true from rfl,ct,s9,pV,Ax7 hN]
  simp only[Ax7 hN]
  rw[Fg h,Hz,Kw]
  cases hw:Im 1 1048576 u.segs.l[j].width with
  |false=>simp
  | true =>
   cases I:Im (-1048576) 1048576 u.segs.l[j].price with
   |false=>simp
   | true =>
    simp only[Im,A2y,decide_eq_true_eq]at hw I
    have step:=Akk (b:=b) (K:=K) hN L T Y m (j+1) k (g+u.segs.l[j].width) (by omega) (by omega) (by omega)
    rw[KV h]at step
    have e1:wrap .i64 (g+u.segs.l[j].width)=g+u.segs.l[j].width:=i64 (by omega)
    have e2:wrap .i64 ((j:Int)+1)=((j+1:Nat):Int):=wS (by omega)
    unfold Ix
    simp only[u4,pV,s9,e1,e2,step]
    rcases j with _|j
    ·simp[mS,I.1,A9l]
    ·have D:j<u.segs.l.length:=by omega
     rw[wP (by omega),Aa D,ct,jV D,Ah7,ct]
     rw[show ∀ r:LA,drop 1 ((AV.int .i64 u.segs.l[j].width)::(AV.int .i64 u.segs.l[j].price)::r)=(AV.int .i64 u.segs.l[j].price)::r from fun _=>rfl,Aw,KV D]
     simp only[A5b,beq_self_eq_true,cK,A9l,A5s]
     simp only[cond_true,cond_false]
     congr 1
     by_cases G:u.segs.l[j+1].price<u.segs.l[j].price
     ·simp[G,show ¬ u.segs.l[j].price<=u.segs.l[j+1].price by omega]
     ·simp[G,show u.segs.l[j].price<=u.segs.l[j+1].price by omega]
def mU(u:UnitD):Bool:=decide (u.segs.l.length<=8)&&(Hz (-1048576) u.segs.l&&(Kw u.segs.l==u.max - u.min))
def As8{N:Nat}{u:UnitD}{b:Bool}{K:Bool->O R}(hN:64<=N)(D:0<=u.min/\u.min<=1048576)(G:0<=u.max/\u.max<=1048576):Gr N u.av b K=K (mU u):=by
 rw[Vn];unfold Ly
 rw[u4]
 by_cases k:u.segs.l.length<=8
 ·rw[show decide ((u.segs.l.length:Int)>8)=false by simp;omega,cf,u4]
  have:=Akk (b:=b) (K:=K) hN D G k u.segs.l.length 0 N 0 (by omega) (by omega) (by omega)
  simpa[mU,k,mS]using this
 ·rw[show decide ((u.segs.l.length:Int)>8)=true by simp;omega,ct]
  simp[mU,k]
def Akl{N:Nat}{u:UnitD}{b:Bool}{K:Bool->O R}(T:u.segs.l.length<=8):∀(m j k:Nat)(d:Int),j+m=u.segs.l.length->m<k->(0<=d/\d<=1048576) ->
  Ey N K b u.av k d (j:Int)=K (Hz (mS u.segs.l j) (u.segs.l.drop j)&&(Kw (u.segs.l.drop j)==d))
|0,j,k+1,d,Y,_,_=>by
  rw[Ey];unfold Nv
  rw[u4,Rc (by omega),cf,Jx (l:=u.segs.l) (by omega)]
  congr 1
  rw[A4s];simp[Hz,Kw];omega
| m+1,j,k+1,d,Y,hf,hd=>by
  rw[Ey];unfold Nv
  have h:j<u.segs.l.length:=by omega
  rw[u4,Ox h,ct,u4,Aa h,ct,jV h]
  have p0:take 2 ((AV.int .i64 u.segs.l[j].width)::(AV.int .i64 u.segs.l[j].price)::(u.segs.l.drop (j+1)).flatMap SegD.av)=[.int .i64 u.segs.l[j].width,.int .i64 u.segs.l[j].price]:=rfl
  rw[p0,show ble 2 (List.length ((AV.int .i64 u.segs.l[j].width)::(AV.int .i64 u.segs.l[j].price)::(u.segs.l.drop (j+1)).flatMap SegD.av))=true by simp,ct]
  rw[show((!b)||Bb [AV.int .i64 u.segs.l[j].width,.int .i64 u.segs.l[j].price])=true by cases b<;>rfl,ct]
  rw[show((beq (List.length [AV.int .i64 u.segs.l[j].width,.int .i64 u.segs.l[j].price]) 2)&&((ble 2 2)&&(!false)))=true from rfl,ct]
  simp only[s9,pV,VA,u4]
  rw[Fg h,Hz,Kw]
  cases hw:Im 1 1048576 u.segs.l[j].width with
  |false=>simp
  | true =>
   cases L:Im (-1048576) 1048576 u.segs.l[j].price with
   |false=>simp
   | true =>
    simp only[Im,A2y,decide_eq_true_eq]at hw L
    have e2:wrap .i64 ((j:Int)+1)=((j+1:Nat):Int):=wS (by omega)
    have key:(cond (cond false true (decide (u.segs.l[j].width>d))) (K false) (Ey N K b u.av k (wrap .i64 (d - u.segs.l[j].width)) (wrap .i64 ((j:Int)+1))))=K (Hz u.segs.l[j].price (u.segs.l.drop (j+1))&&(u.segs.l[j].width+Kw (u.segs.l.drop (j+1))==d)):=by
     by_cases G:u.segs.l[j].width>d
     ·rw[show decide (u.segs.l[j].width>d)=true by simpa using G]
      simp only[cond_true,cond_false]
      congr 1
      cases hs:Hz u.segs.l[j].price (u.segs.l.drop (j+1))with
      |false=>rfl
      |true =>
       have:=mT hs
       symm;simp;omega
     ·rw[show decide (u.segs.l[j].width>d)=false by simpa using G]
      simp only[cond_false]
      have e1:wrap .i64 (d - u.segs.l[j].width)=d - u.segs.l[j].width:=i64 (by omega)
      rw[e1,e2,Akl T m (j+1) k _ (by omega) (by omega) (by omega),KV h]
      congr 1
      rw[A4s];simp;omega
    rw[key]
    rcases j with _|j
    ·simp[mS,L.1]
    ·have D:j<u.segs.l.length:=by omega
     rw[wP (by omega),Aa D,ct,jV D,Ah7,ct]
     rw[show ∀ r:LA,drop 1 ((AV.int .i64 u.segs.l[j].width)::(AV.int .i64 u.segs.l[j].price)::r)=(AV.int .i64 u.segs.l[j].price)::r from fun _=>rfl,Aw,KV D]
     by_cases I:u.segs.l[j+1].price<u.segs.l[j].price
     ·simp[I,show ¬ u.segs.l[j].price<=u.segs.l[j+1].price by omega]
     ·simp[I,show u.segs.l[j].price<=u.segs.l[j+1].price by omega]
def As9{N:Nat}{u:UnitD}{b:Bool}{K:Bool->O R}(hN:64<=N)(D:0<=u.min/\u.min<=u.max)(G:u.max<=1048576):Rq N u.av b K=K (mU u):=by
 rw[HK];unfold U4
 rw[u4]
 by_cases k:u.segs.l.length<=8
 ·rw[show decide ((u.segs.l.length:Int)>8)=false by simp;omega,cf,u3,u2,i64 (by omega)]
  have:=Akl (b:=b) (N:=N) (K:=K) k u.segs.l.length 0 N (u.max - u.min) (by omega) (by omega) (by omega)
  simpa[mU,k,mS]using this
 ·rw[show decide ((u.segs.l.length:Int)>8)=true by simp;omega,ct]
  simp[mU,k]
def KW(hi p:Int):List Int->Bool
|[]=>true
|x::r=>Im 0 hi x&&(decide (p<x)&&KW hi x r)
def mV(l:List Int):Nat->Int
|0=>-1
|j+1=>(l[j]?).getD 0
def KX{l:List Int}{j:Nat}(h:j<l.length):mV l (j+1)=l[j]:=by simp[mV,h]
def Akm{N:Nat}{l:List Int}{e e':Bool}{f hi:Int}{K:Bool->O R}(hN:64<=N)(L:l.length<=1000000000000)(I:wrap .i64 (f - 1)=hi):∀(m j k:Nat),j+m=l.length->m<k ->
  Fx N K (Am l) l.length e e' f k (l.length:Int) (j:Int)=K (KW hi (mV l j) (l.drop j))
|0,j,k+1,T,_=>by
  rw[Fx];unfold Np
  rw[Rc (by omega),cf,Jx (l:=l) (by omega),KW]
| m+1,j,k+1,T,Y=>by
  rw[Fx];unfold Np
  have h:j<l.length:=by omega
  rw[Ox h,ct,Aa h,ct,Bh h,Ax7 hN,I,wS (by omega),Akm hN L I m (j+1) k (by omega) (by omega),Fg h,KW,KX h]
  cases hw:Im 0 hi l[j]with
  |false=>simp
  | true =>
   simp only[Im,A2y,decide_eq_true_eq]at hw
   rcases j with _|j
   ·simp[mV,show(-1:Int)<l[0] by omega]
   ·have D:j<l.length:=by omega
    rw[wP (by omega),Aa D,ct,Bh D,Ah7,ct,KX D]
    by_cases G:l[j]<l[j+1]
    ·simp[G,show ¬ l[j+1]<=l[j] by omega]
    ·simp[G,show l[j+1]<=l[j] by omega]
def Ata{N:Nat}{l:List Int}{n:Nat}{e e':Bool}{f hi:Int}{K:Bool->O R}(hN:64<=N)(D:l.length<=1000000000000)(k:l.length<N)(G:n=l.length)(I:wrap .i64 (f - 1)=hi):Nq N (Am l) n e e' f K=K (KW hi (-1) l):=by
 subst G
 rw[HH];unfold Ux
 have:=Akm (N:=N) (e:=e) (e':=e') (K:=K) hN D I l.length 0 N (by omega) k
 simpa[mV]using this
def Am6(u:UnitD):Bool:=cond (u.state==2) (Im u.min u.max u.output) (u.output==0)
def Aem{N:Nat}{u:UnitD}{c:Bool}{f hi:Int}{K:Bool->O R}(L:u.away.l.length<=1000000000000)(I:wrap .i64 (f - 1)=hi):∀(m j k:Nat),j+m=u.away.l.length->m<k ->
  Nw N K f c u.av k (j:Int)=K (KW hi (mV u.away.l j) (u.away.l.drop j)&&Am6 u)
|0,j,k+1,T,_=>by
  rw[Nw];unfold U5
  rw[Ass,Rc (by omega),cf,Jx (l:=u.away.l) (by omega),KW]
  simp only[Am5,Av1,u2,u3,VA,cK];rfl
| m+1,j,k+1,T,Y=>by
  rw[Nw];unfold U5
  have h:j<u.away.l.length:=by omega
  rw[Ass,Ox h,ct,Ass,Aa h,ct,Bh h,VA,I,wS (by omega),Aem L I m (j+1) k (by omega) (by omega),Fg h,KW,KX h]
  cases hw:Im 0 hi u.away.l[j]with
  |false=>simp
  | true =>
   simp only[Im,A2y,decide_eq_true_eq]at hw
   rcases j with _|j
   ·simp[mV,show(-1:Int)<u.away.l[0] by omega]
   ·have D:j<u.away.l.length:=by omega
    rw[Ass,Aa h,ct,Bh h,Ass,wP (by omega),Aa D,ct,Bh D,Ah7,ct,KX D]
    by_cases G:u.away.l[j]<u.away.l[j+1]
    ·simp[G,show ¬ u.away.l[j+1]<=u.away.l[j] by omega]
    ·simp[G,show u.away.l[j+1]<=u.away.l[j] by omega]
def A4(u:UnitD)(hours:Int):Bool :=
 Im 1 24 hours&&(Bg u&&(Im 0 1048576 u.min&&(Im 0 1048576 u.max&&(Im 0 1048576 u.rampUp&&(Im 0 1048576 u.rampDown&&(Im 0 1048576 u.reserve&&(decide (u.min<=u.max)&&(Im u.min u.max u.startRamp&&(Im u.min u.max u.stopRamp &&
 (Im 0 1048576 u.noLoad&&(Im 0 1048576 u.hotCost&&(Im 0 1048576 u.coldCost&&(Im 0 1048576 u.reservePrice&&(Am6 u&&(mU u&&KW (hours - 1) (-1) u.away.l)))))))))))))))
def vq{N:Nat}{u:UnitD}{b:Bool}{k:Int}{K:Bool->O R}(hN:64<=N)(L:u.away.l.length<=1000000000000)(D:u.away.l.length<N):RL N u.av b k K=K (A4 u k):=by
 rw[dP];unfold UX
 rw[Ax7 hN]
 unfold A4
 cases T:Im 1 24 k with
|false=>simp
| true =>
  have hh:1<=k/\k<=24:=by simpa[Im]using T
  rw[Cj,Ef,ct,Li hN]
  cases Bg u with
  |false=>simp
  | true =>
   unfold C_ KE
   simp only[u2,u3,u6,u7,Av0,A1z hN]
   cases G:Im 0 1048576 u.min with
   |false=>simp
   | true =>
    cases I:Im 0 1048576 u.max with
    |false=>simp
    |true =>
     unfold RK
     simp only[Im,A2y,decide_eq_true_eq]at G I
     simp only[u2,u3,u5,u8,u9,Axk,Axl,Ax6,Am5,Av1,Ass,Cj,Ef,A1x hN,A1y hN,Ax7 hN,ct,As8 hN G I,Ata hN L D rfl (i64 (a:=k - 1) (by omega))]
     simp[cK];congr 1
     unfold Am6
     by_cases hs:u.state=2
     ·rw[A4s];simp[hs];grind
     ·rw[A4s];simp[hs];grind
def Ja{N:Nat}{u:UnitD}{b:Bool}{k:Int}{K:Bool->O R}(hN:64<=N)(hl:u.away.l.length<=1000000000000)(G:u.away.l.length<N):Qn N u.av b k K=K (A4 u k):=by
 rw[XO];unfold KO
 rw[VA]
 unfold A4
 cases h0:Im 1 24 k with
|false=>simp
| true =>
  have hh:1<=k/\k<=24:=by simpa[Im]using h0
  rw[Cj,Ef,ct,Mr]
  cases Bg u with
  |false=>simp
  | true =>
   simp only[u2,u3,VA]
   cases T:Im 0 1048576 u.min with
   |false=>simp
   | true =>
    simp only[Im,A2y,decide_eq_true_eq]at T
    by_cases I:u.min<=u.max/\u.max<=1048576
    ·have L:Im 0 1048576 u.max=true:=by simp[Im];omega
     have D:Im u.min 1048576 u.max=true:=by simp[Im];omega
     unfold Ya FO KM FN KL FM
     have Y:=Aem (u:=u) (N:=N) (c:=b) (K:=K) hl (i64 (a:=k - 1) (by omega)) u.away.l.length 0 N (by omega) G
     simp only[mV,A3m,A8n]at Y
     simp only[u2,u3,u5,u6,u7,u8,u9,Axk,Axl,Av0,Ax6,VA,ct,Y,As9 hN ⟨T.1,I.1⟩ I.2,L,D]
     simp[cK,I.1];congr 1
     rw[A4s];simp;grind
    ·have D:Im u.min 1048576 u.max=false:=by simp[Im];omega
     simp only[D]
     have:(Im 0 1048576 u.max&&decide (u.min<=u.max))=false:=by simp[Im];omega
     simp;congr 1;symm
     cases h3:Im 0 1048576 u.max with
     |false=>rfl
     |true =>
      rw[h3]at this
      simp at this
      simp;intro _ _ _ h5;omega
def Atb{j:Nat}(h:j<=1000000000000):((ble (j+1) 140737488355328)&&(ble ((j+1)*16) 140737488355328))=true:=by rw[A2y,A3p,A3p];omega
def Hj(x y:Nat):Int:=if x<y then -1 else if y<x then 1 else 0
def Y5(x:Nat):Hj x x=0:=by unfold Hj;simp
def KY{a b:Nat}(h:(Ak a).length<(Ak b).length):a<b:=A7q fun k=>by have:=By k;omega
def pW{u w p q P:Nat}(k:u<P)(D:w<P)(h:p<q):u+P*p<w+P*q:=by
 have:P*(p+1)<=P*q:=A3f _ h
 rw[A21]at this
 omega
def xu{N:Nat}{x y:List Nat}{t u:Bool}{K:Int->O R}(I:Af x)(L:Af y)(hs:x.length<=1000000000000)(Y:x.length=y.length):∀(i k:Nat),i<=x.length->i<k ->
  E3 N K (Ad x) x.length t (Ad y) y.length u k ((i:Int) - 1)=K (Hj (val (x.take i)) (val (y.take i)))
|0,k+1,_,_=>by
  rw[E3];unfold Lv
  rw[show decide ((((0:Nat):Int) - 1)>=0)=false by simp,cf]
  simp[Y5]
| i+1,k+1,hi,hf=>by
  rw[E3];unfold Lv
  rw[show(((i+1:Nat):Int) - 1)=(i:Int) by omega,show decide ((i:Int)>=0)=true by simp,ct,Aa (by omega),ct,OY (by omega),Aa (by omega),ct,OY (by omega),ct,OY (by omega),ct,OY (by omega),i64 (by omega),
   xu I L hs Y i k (by omega) (by omega),Ax (by omega),Ax (by omega)]
  have D:=Bi (Co I i)
  have G:=Bi (Co L i)
  rw[A3b,A3h (by omega)]at D G
  by_cases c1:x[i]<y[i]
  ·have:=pW D G c1
   rw[show decide (((x[i]:Nat):Int)<((y[i]:Nat):Int))=true by simp;exact c1,ct]
   unfold Hj;rw[if_pos this]
  ·by_cases T:y[i]<x[i]
   ·have:=pW G D T
    rw[show decide (((x[i]:Nat):Int)<((y[i]:Nat):Int))=false by simp;omega,cf,show decide (((x[i]:Nat):Int)>((y[i]:Nat):Int))=true by simp;exact T,ct]
    unfold Hj;rw[if_neg (by omega),if_pos this]
   ·have:x[i]=y[i]:=by omega
    rw[show decide (((x[i]:Nat):Int)<((y[i]:Nat):Int))=false by simp;omega,cf,show decide (((x[i]:Nat):Int)>((y[i]:Nat):Int))=false by simp;omega,cf,this]
    unfold Hj
    congr 1
    by_cases a1:val (x.take i)<val (y.take i)
    ·rw[if_pos a1,if_pos (by omega)]
    ·by_cases a2:val (y.take i)<val (x.take i)
     ·rw[if_neg a1,if_pos a2,if_neg (by omega),if_pos (by omega)]
     ·rw[if_neg a1,if_neg a2,if_neg (by omega),if_neg (by omega)]
def Qo{N:Nat}{a b:List Nat}{n m:Nat}{t o t' o':Bool}{K:Int->O R}(L:n=a.length)(T:m=b.length)(D:Af a)(G:Af b)(k:fit (a.length+b.length) N):
  Ej N (Ad a) n t o (Ad b) m t' o' K=K (Hj (val a) (val b)):=by
 subst L T
 have h1:=k.1;have h2:=k.2
 rw[CO];unfold Q9
 dsimp only
 rw[Bz rfl D (k.le (by omega)),Bz rfl G (k.le (by omega))]
 have la:=(Bm D).2
 have lb:=(Bm G).2
 by_cases I:(Ak (val a)).length=(Ak (val b)).length
 ·rw[show((((Ak (val a)).length:Nat):Int) != (((Ak (val b)).length:Nat):Int))=false by simp;omega,cf,i64 (by omega),xu (Ac _) (Ac _) (by omega) I _ N (A2s _) (by omega),A3l,I,A3l,Ae,Ae]
 ·rw[show((((Ak (val a)).length:Nat):Int) != (((Ak (val b)).length:Nat):Int))=true by simp;omega,ct]
  by_cases Y:(Ak (val a)).length<(Ak (val b)).length
  ·have:=KY Y
   rw[show decide ((((Ak (val a)).length:Nat):Int)<(((Ak (val b)).length:Nat):Int))=true by simp;omega,ct]
   unfold Hj;rw[if_pos this]
  ·have:=KY (show(Ak (val b)).length<(Ak (val a)).length by omega)
   rw[show decide ((((Ak (val a)).length:Nat):Int)<(((Ak (val b)).length:Nat):Int))=false by simp;omega,cf]
   unfold Hj;rw[if_neg (by omega),if_pos this]
def s_{N:Nat}{a:List Nat}{n:Nat}{t o:Bool}{K:Int->O R}(G:n=a.length)(I:Af a)(k:fit a.length N):Ts N (Ad a) n t o K=K (Hj (val a) 0):=by
 subst G
 have L:=k.1;have T:=k.2
 rw[QQ];unfold CM
 dsimp only
 rw[Bz rfl I k,Amn (by omega)]
 by_cases D:val a=0
 ·rw[D,D6,Y5]
  cases N with
  |zero=>omega
  |succ N =>
   rw[O2];unfold Zx
   rw[i64 (by simp)];simp
 ·have Y:(Ak (val a)).length≠0:=fun h=>D (Br.1 h)
  rw[show((((Ak (val a)).length:Nat):Int) != (0:Int))=true by simp;exact fun h=>D (rL.1 h),ct]
  rw[show decide ((((Ak (val a)).length:Nat):Int)<(0:Int))=false by simp,cf]
  unfold Hj;rw[if_neg (by omega),if_pos (by omega)]
def eA:∀{S:List Nat}{d v:Nat}(h:d<S.length),val (S.set d v)+4294967296 ^ d*S[d]=val S+4294967296 ^ d*v
|x::r,0,v,_=>by simp[val];omega
|x::r,d+1,v,h=>by
  have k:=eA (S:=r) (d:=d) (v:=v) (by simpa using h)
  simp only[A9q,val,A7a,A25]
  have e1:∀ y,4294967296 ^ d*4294967296*y=4294967296*(4294967296 ^ d*y):=fun y=>by rw[A2w (4294967296 ^ d),A20]
  rw[e1,e1]
  omega
def Qp(b:List Nat)(d:Nat):val (b.take (d+1))=val (b.take d)+4294967296 ^ d*b.getD d 0:=by
 by_cases h:d<b.length
 ·rw[Ax h,A2z,A2r h];rfl
 ·rw[A2t (by omega),A2t (by omega),A2z,A31 (by omega)];simp
def Ms(P s:Nat):P*(s%4294967296)+P*4294967296*(s/4294967296)=P*s:=by rw[A20,<-A21,A6c,A4c]
def Am7(S:List Nat)(d:Nat):Prop:=∀ j (h:j<S.length),d<=j->S[j]=0
def DJ{S:List Nat}{d v:Nat}(h:Am7 S d):Am7 (S.set d v) (d+1):=fun j k D=>by
 rw[A58]
 rw[if_neg (by omega)]
 exact h j (by simpa using k) (by omega)
def Lj(n:Nat):Am7 (replicate n 0) 0:=fun j k _=>by simp
def U8{S:List Nat}{d v:Nat}(h:Am7 S d)(k:d<S.length):val (S.set d v)=val S+4294967296 ^ d*v:=by
 have:=eA (v:=v) k
 rw[h d k (A2s _)]at this;simpa using this
def A07{a:Nat}(h:a<=1000000000000):wrap .i64 ((a:Int)+(1:Int))=((a+1:Nat):Int):=wS h
def Ax8{x:Nat}{m:List Nat}(h:x<m.length):((beq 1 1)&&((ble ((0+(x*1))+1) (List.length (Ad m)))&&(!false)))=true:=by rw[Bx];simp;omega
def Aup{x v:Nat}{m:List Nat}:List.set (Ad m) (0+(x*1)) (.int .u32 (v:Int))=Ad (m.set x v):=by rw[A3g,A22,cR]
def sa{N:Nat}{a b:List Nat}{t u:Bool}(ha:Af a)(hb:Af b)(I:fit (a.length+1) N)(L:b.length<=a.length):∀(m d k:Nat)(S:List Nat)(c:Nat),d+m=a.length->m<k->Af S->S.length=a.length+1->Am7 S d->c<=1 ->
  val S+4294967296 ^ d*c=val (a.take d)+val (b.take d) ->
  ∃ S',Af S'/\S'.length=a.length+1/\val S'=val a+val b/\∀ K:Nat->LA->O R,Tz N K (Ad a) a.length t (Ad b) b.length u k (a.length+1) (c:Int) (a.length:Int) (d:Int) (Ad S)=K (Ak (val a+val b)).length (Ad S')
| 0,d,k+1,S,c,hd,_,hS,T,Y,hc,hv=>by
  have h1:=I.1;have h2:=I.2
  have hd':d=a.length:=by omega
  subst hd'
  have hv2:val (S.set a.length c)=val a+val b:=by
   rw[U8 Y (by omega),hv,A3l,A2t L]
  have hl2:=Cw hS (show c<4294967296 by omega) a.length
  refine⟨S.set a.length c,hl2,by simpa using T,hv2,fun K=>?_⟩
  rw[Tz];unfold Z7
  rw[Rc (A2s _),cf,Aa (by omega),ct,Ax8 (by omega),ct,Aki (by omega),Aup,GU (by simp;omega) hl2 (by simp only[List.length_set,T];exact I),hv2]
| m+1,d,k+1,S,c,hd,hfu,hS,T,Y,hc,hv=>by
  have h1:=I.1;have h2:=I.2
  have D:d<a.length:=by omega
  have ad:=A3 ha D
  have step:∀ s:Nat,s<8589934592->s=c+a[d]+b.getD d 0->val (S.set d (s%4294967296))+4294967296 ^ (d+1)*(s/4294967296)=val (a.take (d+1))+val (b.take (d+1)):=by
   intro s _ hs
   rw[U8 Y (by omega),Ax D,Qp b d,A25]
   have e:=Ms (4294967296 ^ d) s
   have e2:4294967296 ^ d*s=4294967296 ^ d*c+4294967296 ^ d*a[d]+4294967296 ^ d*b.getD d 0:=by rw[hs,A21,A21]
   omega
  by_cases G:d<b.length
  ·have bd:=A3 hb G
   have hg:b.getD d 0=b[d]:=by rw[A2z,A2r G];rfl
   obtain⟨S',q1,q2,q3,q4⟩:=sa (t:=t) (u:=u) ha hb I L m (d+1) k (S.set d ((c+a[d]+b[d])%4294967296)) ((c+a[d]+b[d])/4294967296) (by omega) (by omega) (Cw hS (by omega) d) (by simpa using T) (DJ Y) (by omega) (step _ (by omega) (by rw[hg]))
   refine⟨S',q1,q2,q3,fun K=>?_⟩
   rw[Tz];unfold Z7
   rw[Ox D,ct,Aa D,ct,OY D,Ox G,ct,Aa G,ct,OY G,Aa (by omega),ct,pN (by omega),ct,Ib (by omega),Ib (by omega),GN,Ib (by omega),GN,Ib (by omega),iT,YW,QU,wS (by omega)]
   exact q4 K
  ·have hg:b.getD d 0=0:=by rw[A2z,A31 (by omega)];rfl
   obtain⟨S',q1,q2,q3,q4⟩:=sa (t:=t) (u:=u) ha hb I L m (d+1) k (S.set d ((c+a[d])%4294967296)) ((c+a[d])/4294967296) (by omega) (by omega) (Cw hS (by omega) d) (by simpa using T) (DJ Y) (by omega) (step _ (by omega) (by rw[hg];rfl))
   refine⟨S',q1,q2,q3,fun K=>?_⟩
   rw[Tz];unfold Z7
   rw[Ox D,ct,Aa D,ct,OY D,Rc (by omega),cf,Aa (by omega),ct,pN (by omega),ct,Ib (by omega),GN,Ib (by omega),iT,YW,QU,wS (by omega)]
   exact q4 K
def jX{N:Nat}{a b:List Nat}{t u:Bool}(G:Af a)(I:Af b)(k:fit (a.length+1) N)(D:b.length<=a.length):
  ∃ S',Af S'/\val S'=val a+val b/\∀ K:Nat->LA->O R,GY N K (Ad a) a.length t (Ad b) b.length u=K (Ak (val a+val b)).length (Ad S'):=by
 have h1:=k.1;have h2:=k.2
 obtain⟨S',L,_,T,Y⟩:=sa (R:=R) (t:=t) (u:=u) G I k D a.length 0 N (replicate (a.length+1) 0) 0 (by omega) (by omega) (Cu _) (by simp) (Lj _) (by omega) (by rw[Ei];simp[val])
 refine⟨S',L,T,fun K=>?_⟩
 unfold GY ZP
 rw[A07 (by omega),Aos (by omega),ct,A2u,C8]
 exact Y K
def Ap9{N:Nat}{a b:List Nat}{n m:Nat}{t o t' o':Bool}(Y:n=a.length)(hm:m=b.length)(G:Af a)(I:Af b)(k:fit (a.length+b.length+1) N):
  ∃ S',Af S'/\val S'=val a+val b/\∀ K:Nat->LA->O R,r9 N (Ad a) n t o (Ad b) m t' o' K=K (Ak (val a+val b)).length (Ad S'):=by
 subst Y hm
 have la:=(Bm G).2
 have lb:=(Bm I).2
 by_cases hl:(Ak (val a)).length<(Ak (val b)).length
 ·obtain⟨S',L,D,T⟩:=jX (R:=R) (N:=N) (a:=Ak (val b)) (b:=Ak (val a)) (t:=o') (u:=o) (Ac _) (Ac _) (k.le (by omega)) (by omega)
  rw[Ae,Ae,A6c]at D
  refine⟨S',L,D,fun K=>?_⟩
  rw[ZQ];unfold dC
  rw[Bz rfl G (k.le (by omega)),Bz rfl I (k.le (by omega)),Ox hl,ct,T,Ae,Ae,A6c (val b)]
 ·obtain⟨S',L,D,T⟩:=jX (R:=R) (N:=N) (a:=Ak (val a)) (b:=Ak (val b)) (t:=o) (u:=o') (Ac _) (Ac _) (k.le (by omega)) (by omega)
  rw[Ae,Ae]at D
  refine⟨S',L,D,fun K=>?_⟩
  rw[ZQ];unfold dC
  rw[Bz rfl G (k.le (by omega)),Bz rfl I (k.le (by omega)),Rc (by omega),cf,T,Ae,Ae]
def VB{x y:Nat}(k:x<4294967296)(D:y<=4294967296):∃ d c:Nat,d<4294967296/\c<=1/\x+4294967296*c=d+y/\wrap .u32 (wrap .u64 ((x:Int) - (y:Int)))=(d:Int)/\Int.fdiv (wrap .u64 ((x:Int) - (y:Int))) (2 ^ 63)=(c:Int):=by
 by_cases h:y<=x
 ·refine⟨x - y,0,by omega,by omega,by omega,?_,?_⟩
  ·rw[iS (by omega) h,Aki (by omega)]
  ·rw[iS (by omega) h,Ax5,A4a (by omega)]
 ·refine⟨x+4294967296 - y,1,by omega,by omega,by omega,?_,?_⟩
  ·rw[Apz (by omega) (by omega),YW];congr 1;omega
  ·rw[Apz (by omega) (by omega),Ax5];congr 1;omega
def Atc{x c w:Nat}(k:x<4294967296)(hc:c<=1)(D:w<4294967296):wrap .u64 ((wrap .u64 ((x:Int) - (c:Int))) - (w:Int))=wrap .u64 ((x:Int) - ((c+w:Nat):Int)):=by rw[YX,YX,YX];omega
def sb{N:Nat}{a b:List Nat}{t u:Bool}(ha:Af a)(hb:Af b)(T:fit a.length N)(I:b.length<=a.length)(Y:val b<=val a):∀(m d k:Nat)(S:List Nat)(c:Nat),d+m=a.length->m<k->Af S->S.length=a.length->Am7 S d->c<=1 ->
  val S+val (b.take d)=val (a.take d)+4294967296 ^ d*c ->
  ∃ S',Af S'/\val S'=val a - val b/\∀ K:Nat->Bool->LA->O R,Qh N K (Ad b) b.length t a.length (Ad a) u k (c:Int) (a.length:Int) (d:Int) (Ad S)=K (Ak (val a - val b)).length true (Ad S')
| 0,d,k+1,S,c,hd,_,hS,L,hz,hc,hv=>by
  have hd':d=a.length:=by omega
  subst hd'
  rw[A3l,A2t I]at hv
  have hlt:=Bi hS
  rw[L]at hlt
  have hc0:c=0:=by
   rcases A78 0 c with h|h
   ·exfalso
    have:c=1:=by omega
    subst this
    omega
   ·omega
  subst hc0
  have hv2:val S=val a - val b:=by omega
  refine⟨S,hS,hv2,fun K=>?_⟩
  rw[Qh];unfold Z5
  rw[Rc (A2s _),cf,GU L.symm hS (by rw[L];exact T),hv2]
| m+1,d,k+1,S,c,hd,hfu,hS,L,hz,hc,hv=>by
  have h1:=T.1;have h2:=T.2
  have D:d<a.length:=by omega
  have ad:=A3 ha D
  have step:∀ y g c':Nat,y=c+b.getD d 0->a[d]+4294967296*c'=g+y->val (S.set d g)+val (b.take (d+1))=val (a.take (d+1))+4294967296 ^ (d+1)*c':=by
   intro y g c' hy hg
   rw[U8 hz (by omega),Ax D,Qp b d,A25,A20]
   have e:4294967296 ^ d*(a[d]+4294967296*c')=4294967296 ^ d*(g+(c+b.getD d 0)):=by rw[hg,hy]
   rw[A21,A21,A21]at e
   omega
  by_cases G:d<b.length
  ·have bd:=A3 hb G
   have hg:b.getD d 0=b[d]:=by rw[A2z,A2r G];rfl
   obtain⟨g,c',g1,g2,g3,g4,g5⟩:=VB ad (show c+b[d]<=4294967296 by omega)
   obtain⟨S',q1,q3,q4⟩:=sb (t:=t) (u:=u) ha hb T I Y m (d+1) k (S.set d g) c' (by omega) (by omega) (Cw hS g1 d) (by simpa using L) (DJ hz) g2 (step _ _ _ (by rw[hg]) g3)
   refine⟨S',q1,q3,fun K=>?_⟩
   rw[Qh];unfold Z5
   rw[Ox D,ct,Aa D,ct,OY D,Ox G,ct,Aa G,ct,OY G,ct,pN (by omega),ct,Ib (show a[d]<18446744073709551616 by omega),Ib (show b[d]<18446744073709551616 by omega),Atc ad hc bd,g4,g5,QU,wS (by omega)]
   exact q4 K
  ·have hg:b.getD d 0=0:=by rw[A2z,A31 (by omega)];rfl
   obtain⟨g,c',g1,g2,g3,g4,g5⟩:=VB ad (show c<=4294967296 by omega)
   obtain⟨S',q1,q3,q4⟩:=sb (t:=t) (u:=u) ha hb T I Y m (d+1) k (S.set d g) c' (by omega) (by omega) (Cw hS g1 d) (by simpa using L) (DJ hz) g2 (step _ _ _ (by rw[hg];rfl) g3)
   refine⟨S',q1,q3,fun K=>?_⟩
   rw[Qh];unfold Z5
   rw[Ox D,ct,Aa D,ct,OY D,Rc (by omega),cf,ct,pN (by omega),ct,Ib (show a[d]<18446744073709551616 by omega),g4,g5,QU,wS (by omega)]
   exact q4 K
def se{N:Nat}{a b:List Nat}{n m:Nat}{t o t' o':Bool}(Y:n=a.length)(hm:m=b.length)(I:Af a)(L:Af b)(k:fit (a.length+b.length) N)(D:val b<=val a):
  ∃ S',Af S'/\val S'=val a - val b/\∀ K:Nat->Bool->LA->O R,QV N (Ad a) n t o (Ad b) m t' o' K=K (Ak (val a - val b)).length true (Ad S'):=by
 subst Y hm
 have h1:=k.1;have h2:=k.2
 have la:=(Bm I).2
 have lb:=(Bm L).2
 have G:=By D
 obtain⟨S',q1,T,q3⟩:=sb (R:=R) (N:=N) (a:=Ak (val a)) (b:=Ak (val b)) (t:=o') (u:=o) (Ac _) (Ac _) (k.le (by omega)) G (by rw[Ae,Ae];exact D) (Ak (val a)).length 0 N (replicate (Ak (val a)).length 0) 0 (by omega) (by omega) (Cu _) (by simp) (Lj _) (by omega) (by rw[Ei];simp[val])
 rw[Ae,Ae]at T
 refine⟨S',q1,T,fun K=>?_⟩
 rw[ZL];unfold dA
 dsimp only
 rw[Bz rfl I (k.le (by omega)),Bz rfl L (k.le (by omega)),Qo rfl rfl (Ac _) (Ac _) (k.le (by omega)),Ae,Ae]
 have:decide (Hj (val a) (val b)<0)=false:=by unfold Hj;split<;>(try split)<;>simp<;>omega
 rw[this,cf,Aos (by omega),ct,C8]
 have:=q3 K
 rw[Ae,Ae]at this
 exact this
def Aqa{N:Nat}{a b:List Nat}{n m:Nat}{t o t' o':Bool}{K:Nat->Bool->LA->O R}(L:n=a.length)(T:m=b.length)(G:Af a)(I:Af b)(k:fit (a.length+b.length) N)(D:val a<val b):
  QV N (Ad a) n t o (Ad b) m t' o' K=K 0 false []:=by
 subst L T
 have la:=(Bm G).2
 have lb:=(Bm I).2
 rw[ZL];unfold dA
 dsimp only
 rw[Bz rfl G (k.le (by omega)),Bz rfl I (k.le (by omega)),Qo rfl rfl (Ac _) (Ac _) (k.le (by omega)),Ae,Ae]
 have:decide (Hj (val a) (val b)<0)=true:=by unfold Hj;rw[if_pos D];rfl
 rw[this,ct]
def vr{n:Nat}(h:n≠0):((n:Int)==(0:Int))=false:=by rw[beq_eq_false_iff_ne];omega
def A08{n:Nat}(h:n=0):((n:Int)==(0:Int))=true:=by subst h;rfl
def Aic:∀{S:List Nat}{j:Nat}(h:j<S.length),4294967296 ^ j*S[j]<=val S
|x::r,0,_=>by simp[val]
|x::r,j+1,h=>by
  have:=Aic (S:=r) (j:=j) (by simpa using h)
  simp only[A7a,val,A25]
  rw[A2w (4294967296 ^ j),A20]
  omega
def Aqb{S:List Nat}{k:Nat}(h:val S<4294967296 ^ k):Am7 S k:=fun j G I=>by
 have L:=Aic G
 have T:4294967296 ^ k<=4294967296 ^ j:=A3t (by omega) I
 rcases A3j S[j]with D|D
 ·exact D
 ·have:=A67 (4294967296 ^ j) D
  omega
def Aen{p q y s:Nat}(k:p<4294967296)(hq:q<4294967296)(D:y<4294967296)(hs:s<4294967296):p+(q*y+s)<18446744073709551616:=by
 have:q*y<=4294967295*4294967295:=A46 (by omega) (by omega)
 omega
def Aqc{N:Nat}{x y:List Nat}{c d:Bool}{f q J:Nat}(hy:Af y)(hq:q<4294967296)(hf:f<x.length)(hs:x.length+y.length<=1000000000000):∀(m l k:Nat)(S:List Nat)(p:Nat)(v:Nat),l+m=y.length->m<k->Af S->S.length=x.length+y.length->Am7 S (f+y.length)->p<4294967296 ->
  val S+4294967296 ^ (f+l)*p=v+4294967296 ^ f*(q*val (y.take l)) ->
  ∃ S',Af S'/\S'.length=x.length+y.length/\val S'=v+4294967296 ^ f*(q*val y)/\∀(I:Nat->Int->Int->LA->O R)(K:Nat->LA->O R),Tt N I K (Ad y) y.length d (x.length+y.length) (f:Int) (q:Int) (Ad x) x.length c (J:Int) k (p:Int) (y.length:Int) (l:Int) (Ad S)=I (x.length+y.length) J ((f+1:Nat):Int) (Ad S')
|0,l,k+1,S,p,v,hl,_,hS,D,Y,T,hv=>by
  have hl':l=y.length:=by omega
  subst hl'
  rw[A3l]at hv
  refine⟨S.set (f+y.length) p,Cw hS T _,by simpa using D,by rw[U8 Y (by omega),hv],fun I K=>?_⟩
  rw[Tt];unfold JL
  rw[Rc (A2s _),cf,wA (by omega),Aa (by omega),ct,pN (by omega),ct,Aki T,QU,wS (by omega)]
| m+1,l,k+1,S,p,v,hl,hfu,hS,D,Y,T,hv=>by
  have G:l<y.length:=by omega
  have yl:=A3 hy G
  have hi:f+l<S.length:=by omega
  have sl:=A3 hS hi
  have hw:=Aen T hq yl sl
  have hqy:q*y[l]<18446744073709551616:=by omega
  generalize L:p+(q*y[l]+S[f+l])=s at *
  have hset:=eA (v:=s%4294967296) hi
  have key:val (S.set (f+l) (s%4294967296))+4294967296 ^ (f+(l+1))*(s/4294967296)=v+4294967296 ^ f*(q*val (y.take (l+1))):=by
   rw[Ax G,<-A4d f l 1,A25]
   have e:=Ms (4294967296 ^ (f+l)) s
   have e2:4294967296 ^ (f+l)*s=4294967296 ^ (f+l)*p+(4294967296 ^ (f+l)*(q*y[l])+4294967296 ^ (f+l)*S[f+l]):=by rw[<-L,A21,A21]
   have e3:4294967296 ^ f*(q*(val (y.take l)+4294967296 ^ l*y[l]))=4294967296 ^ f*(q*val (y.take l))+4294967296 ^ (f+l)*(q*y[l]):=by
    rw[A21,A21,A32]
    congr 1
    rw[A20];congr 1
    rw[<-A20,<-A20,A2w q]
   omega
  obtain⟨S',q1,q2,q3,q4⟩:=Aqc (N:=N) (x:=x) (c:=c) (d:=d) (J:=J) hy hq hf hs m (l+1) k (S.set (f+l) (s%4294967296)) (s/4294967296) v (by omega) (by omega) (Cw hS (by omega) _) (by simpa using D) (fun j hj hk=>by
   rw[A58,if_neg (by omega)];exact Y j (by simpa using hj) hk) (by omega) key
  refine⟨S',q1,q2,q3,fun I K=>?_⟩
  rw[Tt];unfold JL
  rw[Ox G,ct,Aa G,ct,OY G,wA (by omega),Aa (by omega),ct,c_ hi,ct,pN hi,ct,Ib (show q<18446744073709551616 by omega),Ib (show y[l]<18446744073709551616 by omega),Ib (show S[f+l]<18446744073709551616 by omega),rN,Ib hqy,GN,Ib (by omega),GN,L,Ib hw,iT,YW,QU,wS (by omega)]
  exact q4 I K
def Aaz{N:Nat}{x y:List Nat}{c d:Bool}(hx:Af x)(hy:Af y)(G:fit (x.length+y.length) N):∀(m f k:Nat)(S:List Nat),f+m=x.length->m<k->Af S->S.length=x.length+y.length ->
  val S=val (x.take f)*val y ->
  ∃ S',Af S'/\val S'=val x*val y/\∀ K:Nat->LA->O R,Nk N K (Ad y) y.length d (Ad x) x.length c k (x.length+y.length) (x.length:Int) (f:Int) (Ad S)=K (Ak (val x*val y)).length (Ad S')
|0,f,k+1,S,hf,_,hS,I,Y=>by
  have hf':f=x.length:=by omega
  subst hf'
  rw[A3l]at Y
  refine⟨S,hS,Y,fun K=>?_⟩
  rw[Nk];unfold Zz
  rw[Rc (A2s _),cf,GU I.symm hS (by rw[I];exact G),Y]
| m+1,f,k+1,S,hf,hfu,hS,I,Y=>by
  have h1:=G.1;have h2:=G.2
  have D:f<x.length:=by omega
  have xf:=A3 hx D
  have b1:=Bi (Co hx f)
  rw[A3b,A3h (by omega)]at b1
  have b2:=Bi hy
  have T:val S<4294967296 ^ (f+y.length):=by
   rw[Y,A32];exact A33 b1 b2
  have L:val (x.take (f+1))*val y=val S+4294967296 ^ f*(x[f]*val y):=by
   rw[Ax D,A23,Y,A20]
  by_cases h0:x[f]=0
  ·obtain⟨S',q1,q2,q3⟩:=Aaz (c:=c) (d:=d) hx hy G m (f+1) k S (by omega) (by omega) hS I (by rw[L,h0];simp)
   refine⟨S',q1,q2,fun K=>?_⟩
   rw[Nk];unfold Zz
   rw[Ox D,ct,Aa D,ct,OY D,show(((x[f]:Nat):Int)==0)=true by simp[h0],ct,wS (by omega)]
   exact q3 K
  ·obtain⟨S1,p1,p2,p3,p4⟩:=Aqc (R:=R) (N:=N) (x:=x) (y:=y) (c:=c) (d:=d) (f:=f) (q:=x[f]) (J:=x.length) hy xf D (by omega) y.length 0 N S 0 (val S) (by omega) (by omega) hS I (Aqb T) (by omega) (by simp[val])
   obtain⟨S',q1,q2,q3⟩:=Aaz (c:=c) (d:=d) hx hy G m (f+1) k S1 (by omega) (by omega) p1 p2 (by rw[p3,L])
   refine⟨S',q1,q2,fun K=>?_⟩
   rw[Nk];unfold Zz
   rw[Ox D,ct,Aa D,ct,OY D,show(((x[f]:Nat):Int)==0)=false by simp;exact h0,cf]
   have:=p4 (Nk N K (Ad y) y.length d (Ad x) x.length c k) K
   simp only[A8n]at this
   dsimp only
   rw[this]
   exact q3 K
def RV{N:Nat}{a b:List Nat}{n m:Nat}{t o t' o':Bool}(Y:n=a.length)(hm:m=b.length)(I:Af a)(L:Af b)(k:fit (a.length+b.length) N):
  ∃ S',Af S'/\val S'=val a*val b/\∀ K:Nat->LA->O R,JM N (Ad a) n t o (Ad b) m t' o' K=K (Ak (val a*val b)).length (Ad S'):=by
 subst Y hm
 have h1:=k.1;have h2:=k.2
 have la:=(Bm I).2
 have lb:=(Bm L).2
 by_cases D:val a=0
 ·refine⟨[],Tp,by rw[D];simp[val],fun K=>?_⟩
  rw[JN];unfold UQ
  dsimp only
  rw[Bz rfl I (k.le (by omega)),Bz rfl L (k.le (by omega)),D,A7d,D6];rfl
 ·by_cases G:val b=0
  ·refine⟨[],Tp,by rw[G];simp[val],fun K=>?_⟩
   rw[JN];unfold UQ
   dsimp only
   rw[Bz rfl I (k.le (by omega)),Bz rfl L (k.le (by omega)),G,Nat.mul_zero,D6]
   cases ((((Ak (val a)).length:Nat):Int)==0)<;>rfl
  ·obtain⟨S',q1,T,q3⟩:=Aaz (R:=R) (N:=N) (x:=Ak (val a)) (y:=Ak (val b)) (c:=o) (d:=o') (Ac _) (Ac _) (k.le (by omega)) (Ak (val a)).length 0 N (replicate ((Ak (val a)).length+(Ak (val b)).length) 0) (by omega) (by omega) (Cu _) (by simp) (by rw[Ei];simp[val])
   rw[Ae,Ae]at T
   refine⟨S',q1,T,fun K=>?_⟩
   rw[JN];unfold UQ
   dsimp only
   have n1:(Ak (val a)).length≠0:=fun h=>D (Br.1 h)
   have n2:(Ak (val b)).length≠0:=fun h=>G (Br.1 h)
   rw[Bz rfl I (k.le (by omega)),Bz rfl L (k.le (by omega)),vr n1,show((false:Bool)==false)=true by rfl,ct,Axj,vr n2,cf]
   unfold UP ZA
   rw[wA (by omega),Aos (by omega),ct,A2u,C8]
   have:=q3 K
   rw[Ae,Ae]at this
   exact this
def eB{v:Nat}(h:(Ak v).length<=2):v<18446744073709551616:=by
 have:=Bi (Ac v)
 rw[Ae]at this
 have k:4294967296 ^ (Ak v).length<=4294967296 ^ 2:=A3t (by omega) h
 omega
def KZ{v:Nat}(h:v<18446744073709551616):(Ak v).length<=2:=C7 (by simpa using h)
def HO{N:Nat}{l:List Nat}{n:Nat}{t o:Bool}{K:Int->O R}(D:n=l.length)(k:Af l)(G:l.length<=2)(hN:4<=N):Q6 N (Ad l) n t o K=K (val l:Int):=by
 subst D
 obtain⟨M,rfl⟩:∃ M,N=M+4:=⟨N - 4,by omega⟩
 rw[l_];unfold cV
 match l,k,G with
|[],_,_ =>
  rw[If];unfold Ju
  simp[val]
|[x],k,_ =>
  have I:=(Dk.1 k).1
  rw[If];unfold Ju
  simp only[A3a,A5f,Int.toNat_zero,A7d,A3m,Y1,Aw]
  rw[show decide ((0:Int)<((0+1:Nat):Int))=true by decide,ct,show Ab 0 (0+1)=true by decide,ct,show wrap .i64 ((32:Int)*0)=0 by decide,show decide ((0:Int)<0)=false by decide,cf]
  rw[If];unfold Ju
  rw[show wrap .i64 ((0:Int)+1)=1 by decide,show decide ((1:Int)<((0+1:Nat):Int))=false by decide,cf]
  have e:wrap .u64 ((wrap .u64 (x:Int))*2 ^ (min (Int.toNat 0) 64))=(x:Int):=by rw[Ib (by omega)];simp;exact Ib (by omega)
  rw[e,show(0:Int)=((0:Nat):Int) by rfl,Ah4 (by omega) (by omega)]
  simp[val]
| [x,y],k,_ =>
  have I:=(Dk.1 k).1
  have T:=(Dk.1 (Dk.1 k).2).1
  rw[If];unfold Ju
  simp only[A3a,A5f,Int.toNat_zero,A7d,A3m,Y1,Aw]
  rw[show decide ((0:Int)<((0+1+1:Nat):Int))=true by decide,ct,show Ab 0 (0+1+1)=true by decide,ct,show wrap .i64 ((32:Int)*0)=0 by decide,show decide ((0:Int)<0)=false by decide,cf]
  rw[If];unfold Ju
  rw[show wrap .i64 ((0:Int)+1)=1 by decide,show decide ((1:Int)<((0+1+1:Nat):Int))=true by decide,ct,show Ab 1 (0+1+1)=true by decide,ct,show wrap .i64 ((32:Int)*1)=32 by decide,show decide ((32:Int)<0)=false by decide]
  simp only[show Int.toNat 1*1=1 by rfl,A56,A3m,Aw,cf]
  rw[If];unfold Ju
  rw[show wrap .i64 ((1:Int)+1)=2 by decide,show decide ((2:Int)<((0+1+1:Nat):Int))=false by decide,cf]
  have e:wrap .u64 ((wrap .u64 (x:Int))*2 ^ (min (Int.toNat 0) 64))=(x:Int):=by rw[Ib (by omega)];simp;exact Ib (by omega)
  have L:wrap .u64 ((wrap .u64 (y:Int))*2 ^ (min (Int.toNat 32) 64))=((y*2 ^ 32:Nat):Int):=by
   rw[Ib (by omega),show(2:Int) ^ (min (Int.toNat 32) 64)=((2 ^ 32:Nat):Int) by rfl,rN,Ib (by omega)]
  rw[e,L,show(0:Int)=((0:Nat):Int) by rfl,Ah4 (by omega) (by omega),Ah4 (by simp;omega) (by omega),Nat.zero_or,A95,iU (by omega)]
  congr 1;simp only[val];omega
def J9{N:Nat}{v:Nat}(G:v<18446744073709551616)(hN:4<=N):∃ S,Af S/\val S=v/\∀ K:Nat->LA->O R,B7 N (v:Int) K=K (Ak v).length (Ad S):=by
 have D:Af [v%4294967296,v/4294967296]:=Dk.2 ⟨by omega,Dk.2 ⟨by omega,Tp⟩⟩
 have k:val [v%4294967296,v/4294967296]=v:=by simp[val];omega
 refine⟨_,D,k,fun K=>?_⟩
 rw[CK];unfold Zw
 rw[YW,iT,Aki (show v/4294967296<4294967296 by omega)]
 have:=rY (R:=R) (N:=N) (l:=[v%4294967296,v/4294967296]) (K:=fun c=>K c (Ad [v%4294967296,v/4294967296])) D (by simp) 2 N (by simp) (by omega)
 rw[show [v%4294967296,v/4294967296].take 2=[v%4294967296,v/4294967296] by rfl,k]at this
 rw[YY];unfold cS
 exact this
def Mt{N:Nat}{l:List Nat}{n:Nat}{t o:Bool}{K:Int->Bool->O R}(D:n=l.length)(G:Af l)(k:fit l.length N):GO N (Ad l) n t o K=if val l<18446744073709551616 then K (val l:Int) true else K 0 false:=by
 have L:=k.1
 rw[WX];unfold Y_
 rw[Bz D G k]
 by_cases h:val l<18446744073709551616
 ·have:=KZ h
  rw[if_pos h,show decide ((((Ak (val l)).length:Nat):Int)>2)=false by simp;omega,cf,HO rfl (Ac _) this (by omega),Ae]
 ·have:¬ (Ak (val l)).length<=2:=fun I=>h (eB I)
  rw[if_neg h,show decide ((((Ak (val l)).length:Nat):Int)>2)=true by simp;omega,ct]
def VC{N:Nat}{l:List Nat}{n:Nat}{t o:Bool}{K:Nat->LA->O R}(G:n=l.length)(D:Af l)(k:fit l.length N):CN N (Ad l) n t o K=K (Ak (val l)).length (Ad (Ak (val l))):=by
 have I:=k.1;have L:=k.2
 have:=(Bm D).2
 rw[mB];unfold rV
 rw[Bz G D k,Aos (by omega),ct,CJ,A68,ct]
 congr 1
 unfold D2
 rw[Nat.min_self,A3g,A9e,A5z,A2t (by rw[Bx];exact A2s _),A3v (by simp[Bx]),A4x]
def A10:Lu:=[0,1,2,2,3,3,3,3,4,4,4,4,4,4,4,4,5,5,5,5,5,5,5,5,5,5,5,5,5,5,5,5,6,6,6,6,6,6,6,6,6,6,6,6,6,6,6,6,6,6,6,6,6,6,6,6,6,6,6,6,6,6,6,6,7,7,7,7,7,7,7,7,7,7,7,7,7,7,7,7,7,7,7,7,7,7,7,7,7,7,7,7,7,7,7,7,7,7,7,7,7,7,7,7,7,7,7,7,7,7,7,7,7,7,7,7,7,7,7,7,7,7,7,7,7,7,7,7,8,8,8,8,8,8,8,8,8,8,8,8,8,8,8,8,8,8,8,8,8,8,8,8,8,8,8,8,8,8,8,8,8,8,8,8,8,8,8,8,8,8,8,8,8,8,8,8,8,8,8,8,8,8,8,8,8,8,8,8,8,8,8,8,8,8,8,8,8,8,8,8,8,8,8,8,8,8,8,8,8,8,8,8,8,8,8,8,8,8,8,8,8,8,8,8,8,8,8,8,8,8,8,8,8,8,8,8,8,8,8,8,8,8,8,8,8,8,8,8,8,8,8,8,8,8,8,8]
def Atd:∀ i:Fin 256,0<i.1->2 ^ (A10.getD i.1 0).toNat<=2*i.1/\i.1<2 ^ (A10.getD i.1 0).toNat:=by decide +kernel
def sf{k y x m:Nat}(h:2 ^ k<=2*y/\y<2 ^ k)(D:y=x/2 ^ m):2 ^ (k+m)<=2*x/\x<2 ^ (k+m):=by
 have G:0<2 ^ m:=A4l (by omega)
 have I:x<2 ^ m*(y+1):=by rw[D];have:=A4c x (2 ^ m);have:=A4r x G;rw[A21];omega
 have L:2 ^ m*y<=x:=by rw[D];exact Nat.mul_div_le x _
 have T:2 ^ m*(y+1)<=2 ^ m*2 ^ k:=A3f _ h.2
 have Y:2 ^ m*2 ^ k<=2 ^ m*(2*y):=A3f _ h.1
 rw[A32,A2w (2 ^ k)]
 have h5:2 ^ m*(2*y)=2*(2 ^ m*y):=by rw[A45]
 omega
def Auq{a:Nat}(h:a<256):wrap .u8 (a:Int)=(a:Int):=by rw[wrap_u8];congr 1;omega
def Aur{N:Nat}{a b:Nat}{K:Int->O R}(T:0<a)(Y:a<65536)(hb:b<=16):∃ k:Nat,2 ^ k<=2*a/\a<2 ^ k/\k<=16/\E4 N K (a:Int) (b:Int)=K ((b+k:Nat):Int):=by
 have small:∀ i:Nat,0<i->i<256->∃ k:Nat,(2 ^ k<=2*i/\i<2 ^ k)/\k<=8/\(A10.getD i 0).toNat=k:=by
  intro i hi D
  have:=Atd ⟨i,D⟩ hi
  refine⟨_,this,?_,rfl⟩
  rcases A78 8 (A10.getD i 0).toNat with h|h
  ·have L:=this.1
   have h4:2 ^ 9<=2 ^ (A10.getD i 0).toNat:=A3t (by omega) h
   simp only at L
   omega
  ·exact h
 by_cases h:a>=256
 ·obtain⟨k,p1,p2,G⟩:=small (a/256) (by omega) (by omega)
  have I:=sf (m:=8) p1 (show a/256=a/2 ^ 8 by rfl)
  refine⟨k+8,I.1,I.2,by omega,?_⟩
  unfold E4
  rw[show decide ((a:Int)>=256)=true by simp;omega,ct,Q5 a 8,show a/2 ^ 8=a/256 by rfl,Auq (by omega),Aa (by omega),ct,A2u]
  change K (wrap .i64 (wrap .i64 ((b:Int)+8)+wrap .i64 (((A10.getD (a/256) 0).toNat:Nat):Int)))=_
  rw[G,i64 (a:=(b:Int)+8) (by omega),i64 (a:=(k:Int)) (by omega),i64 (by omega)]
  congr 1;omega
 ·obtain⟨k,p1,p2,G⟩:=small a (by omega) (by omega)
  refine⟨k,p1.1,p1.2,by omega,?_⟩
  unfold E4
  rw[show decide ((a:Int)>=256)=false by simp;omega,cf,Auq (by omega),Aa (by omega),ct,A2u]
  change K (wrap .i64 ((b:Int)+wrap .i64 (((A10.getD a 0).toNat:Nat):Int)))=_
  rw[G,i64 (a:=(k:Int)) (by omega),i64 (by omega)]
  congr 1
def Aid{N:Nat}{c:Nat}{K:Int->O R}(L:0<c)(T:c<4294967296):∃ k:Nat,2 ^ k<=2*c/\c<2 ^ k/\k<=32/\Kr N (c:Int) K=K (k:Int):=by
 rw[W4];unfold Nl
 by_cases h:c>=65536
 ·obtain⟨k,p1,p2,I,D⟩:=Aur (R:=R) (N:=N) (a:=c/65536) (b:=16) (K:=K) (by omega) (by omega) (by omega)
  have G:=sf (m:=16) ⟨p1,p2⟩ (show c/65536=c/2 ^ 16 by rfl)
  refine⟨k+16,G.1,G.2,by omega,?_⟩
  rw[show decide ((c:Int)>=65536)=true by simp;omega,ct,Q5 c 16,show c/2 ^ 16=c/65536 by rfl]
  rw[A6c k];exact D
 ·obtain⟨k,p1,p2,I,D⟩:=Aur (R:=R) (N:=N) (a:=c) (b:=0) (K:=K) (by omega) (by omega) (by omega)
  refine⟨k,p1,p2,by omega,?_⟩
  rw[show decide ((c:Int)>=65536)=false by simp;omega,cf]
  rw[A22]at D;exact D
def Akn{N:Nat}{c:Nat}(L:0<c)(T:c<4294967296):∃ s:Nat,s<=31/\2147483648<=c*2 ^ s/\c*2 ^ s<4294967296/\∀ K:Int->O R,Cx N (c:Int) K=K (s:Int):=by
 have key:∀ K:Int->O R,∃ s:Nat,(s<=31/\2147483648<=c*2 ^ s/\c*2 ^ s<4294967296)/\Cx N (c:Int) K=K (s:Int):=by
  intro K
  rw[Ks];unfold Hl
  obtain⟨k,p1,p2,p3,Y⟩:=Aid (R:=R) (N:=N) (K:=fun c=>K (wrap .i64 ((32:Int) - c))) L T
  have e:2 ^ k*2 ^ (32 - k)=4294967296:=by rw[<-A32,show k+(32 - k)=32 by omega]
  have hk:1<=k:=by
   rcases A3j k with h|h
   ·subst h;simp at p2;omega
   ·exact h
  refine⟨32 - k,⟨by omega,?_,?_⟩,?_⟩
  ·have:=A2x (2 ^ (32 - k)) p1
   rw[e,A20]at this;omega
  ·have:=(A5n (show 0<2 ^ (32 - k)from A4l (by omega))).2 p2
   rw[e]at this;exact this
  ·rw[Y,i64 (by omega)];congr 1;omega
 obtain⟨s,hs,_⟩:=key fun _=>none
 refine⟨s,hs.1,hs.2.1,hs.2.2,fun K=>?_⟩
 obtain⟨D,hs',e⟩:=key K
 have:D=s:=by
  rcases Nat.lt_trichotomy s D with h|h|h
  ·exfalso
   have G:2 ^ (s+1)<=2 ^ D:=A3t (by omega) h
   have I:=A3f c G
   rw[A25,<-A20]at I
   omega
  ·exact h.symm
  ·exfalso
   have G:2 ^ (D+1)<=2 ^ s:=A3t (by omega) h
   have I:=A3f c G
   rw[A25,<-A20]at I
   omega
 rw[e,this]
def Aa0{s:Nat}(h:s<=31):2 ^ s<=2147483648:=A3t (n:=2) (by omega) h
def Aqd{x c s:Nat}(D:x<4294967296)(hc:c<2 ^ s)(hs:s<=31):Qe .u64 (c:Int) (wrap .u64 ((wrap .u64 (x:Int))*2 ^ (min (Int.toNat (s:Int)) 64)))=((x*2 ^ s+c:Nat):Int)/\x*2 ^ s+c<4294967296*2 ^ s:=by
 have G:=Aa0 hs
 have I:x*2 ^ s<=4294967295*2 ^ s:=A2x _ (by omega)
 have k:(x+1)*2 ^ s<=4294967296*2 ^ s:=A2x _ (by omega)
 rw[A23]at k
 refine⟨?_,by omega⟩
 rw[Ib (by omega),A2u,A3h (by omega),show(2:Int) ^ s=((2 ^ s:Nat):Int) by simp,rN,Ib (by omega),Ah4 (by omega) (by omega),A95,iU hc]
def eD{N:Nat}{a:List Nat}{t o:Bool}{s:Nat}(ha:Af a)(hs:s<=31)(I:a.length<=1000000000000):∀(m d k:Nat)(S:List Nat)(c:Nat),d+m=a.length->m<k->Af S->S.length=a.length+1->Am7 S d->c<2 ^ s ->
  val S+4294967296 ^ d*c=val (a.take d)*2 ^ s ->
  ∃ S',Af S'/\S'.length=a.length+1/\val S'=val a*2 ^ s/\∀ K:Nat->LA->O R,Ig N K (Ad a) a.length t o (s:Int) k (a.length+1) (c:Int) (a.length:Int) (d:Int) (Ad S)=K (a.length+1) (Ad S')
|0,d,k+1,S,c,hd,_,hS,L,G,hc,T=>by
  have Y:d=a.length:=by omega
  subst Y
  have hp:=Aa0 hs
  rw[A3l]at T
  refine⟨S.set a.length c,Cw hS (by omega) _,by simpa using L,by rw[U8 G (by omega),T],fun K=>?_⟩
  rw[Ig];unfold Ra
  rw[Rc (A2s _),cf,Aa (by omega),ct,Ax8 (by omega),ct,Aki (by omega),Aup]
| m+1,d,k+1,S,c,hd,hfu,hS,L,G,hc,T=>by
  have D:d<a.length:=by omega
  have ad:=A3 ha D
  obtain⟨w1,w2⟩:=Aqd ad hc hs
  generalize hsd:a[d]*2 ^ s+c=w at *
  have hpos:0<2 ^ s:=A4l (by omega)
  have key:val (S.set d (w%4294967296))+4294967296 ^ (d+1)*(w/4294967296)=val (a.take (d+1))*2 ^ s:=by
   rw[U8 G (by omega),Ax D,A25,A23,A20 _ a[d]]
   have e:=Ms (4294967296 ^ d) w
   have e2:4294967296 ^ d*w=4294967296 ^ d*(a[d]*2 ^ s)+4294967296 ^ d*c:=by rw[<-hsd,A21]
   omega
  obtain⟨S',q1,q2,q3,q4⟩:=eD (t:=t) (o:=o) ha hs I m (d+1) k (S.set d (w%4294967296)) (w/4294967296) (by omega) (by omega) (Cw hS (by omega) d) (by simpa using L) (DJ G) (A52 w2) key
  refine⟨S',q1,q2,q3,fun K=>?_⟩
  rw[Ig];unfold Ra
  rw[Ox D,ct,Aa D,ct,OY D,show decide ((s:Int)<0)=false by simp,cf,Aa (by omega),ct,pN (by omega),ct,w1,iT,YW,QU,wS (by omega)]
  exact q4 K
def eE{N:Nat}{a:List Nat}{n:Nat}{t o:Bool}{s:Nat}(D:n=a.length)(G:Af a)(hs:s<=31)(k:fit a.length N):
  ∃ S',Af S'/\S'.length=a.length+1/\val S'=val a*2 ^ s/\∀ K:Nat->LA->O R,Tu N (Ad a) n t o (s:Int) K=K (a.length+1) (Ad S'):=by
 subst D
 have h1:=k.1;have h2:=k.2
 obtain⟨S',I,L,T,Y⟩:=eD (R:=R) (N:=N) (t:=t) (o:=o) G hs (by omega) a.length 0 N (replicate (a.length+1) 0) 0 (by omega) (by omega) (Cu _) (by simp) (Lj _) (A4l (by omega)) (by rw[Ei];simp[val])
 refine⟨S',I,L,T,fun K=>?_⟩
 rw[QT];unfold CT
 rw[A07 (by omega),Aos (by omega),ct,A2u,C8]
 exact Y K
def Aus{P U Q:List Nat}{i:Nat}(h:i<U.length){f:Int->O R}:Aj .u32 (drop (P.length+((Int.toNat (i:Int))*1)) (Ad (P++(U++Q)))) f=f (U[i]:Nat):=by
 rw[A2u,A3g,Adq (by simp;omega)]
 congr 2
 rw[A43 (by omega)]
 simp only[A8r]
 rw[A3q h]
def Ax9{P U Q:List Nat}{i:Nat}(h:i<U.length):((beq 1 1)&&((ble ((P.length+((Int.toNat (i:Int))*1))+1) (List.length (Ad (P++(U++Q)))))&&(!false)))=true:=by rw[Bx,A2u];simp;omega
def Aqe{P U Q:List Nat}{i v:Nat}(h:i<U.length):List.set (Ad (P++(U++Q))) (P.length+((Int.toNat (i:Int))*1)) (.int .u32 (v:Int))=Ad (P++(U.set i v++Q)):=by rw[A2u,A3g,cR,A88 _ _ (by omega),A8r,List.set_append_left _ _ h]
def Az2{P U Q:List Nat}{i:Nat}(h:i<U.length){f:Int->O R}:Aj .u32 (drop (P.length+(i*1)) (Ad (P++(U++Q)))) f=f (U[i]:Nat):=by have:=Aus (R:=R) (P:=P) (Q:=Q) (f:=f) h;rw[A2u]at this;exact this
def eF{X:List Nat}{p g:Nat}(h:p<X.length):val ((X.set p g).take (p+1))=val (X.take p)+4294967296 ^ p*g:=by rw[Ax (by simpa using h),A84,List.take_set_of_le (A2s _)]
def HP{X:List Nat}{n:Nat}(h:X.length=n+1):val X=val (X.take n)+4294967296 ^ n*X[n]:=by
 have:=Ax (l:=X) (c:=n) (by omega)
 rwa [A2t (by omega)]at this
def Ako{D:Nat}(h:1<=D)(k:D<18446744073709551616):wrap .u64 ((D:Int) - 1)=((D - 1:Nat):Int):=by rw[YX];omega
def Ate{D y t:Nat}(hD:D<4294967296)(k:y<4294967296)(G:t<=4294967296):D*y+t<18446744073709551616/\(D*y+t)/4294967296+1<=4294967296:=by
 have:D*y<=4294967295*4294967295:=A46 (by omega) (by omega)
 omega
def Akp{N:Nat}{P Q X v:List Nat}{n D:Nat}{f g:Bool}(hv:Af v)(hn:v.length=n)(hX:Af X)(hXl:X.length=n+1)(hs:n<=1000000000000)(hD:D<4294967296)(hD1:1<=D){r:Nat}(hr:val X+val v=4294967296 ^ (n+1)+r)(hrv:r<4294967296 ^ n):
  ∀(m o k:Nat)(Y:List Nat)(c:Nat),o+m=n->m<k->Af Y->Y.length=n+1->(∀ j (h1:j<Y.length) (h2:j<X.length),o<=j->Y[j]=X[j])->c<=1->val (Y.take o)+4294967296 ^ o*c=val (X.take o)+val (v.take o) ->
  ∃ Y',Af Y'/\Y'.length=n+1/\val Y'=r/\∀ K:Int->LA->O R,Hp N K P.length (n+1) (n:Int) (D:Int) (Ad v) n f g k (c:Int) (n:Int) (o:Int) (Ad (P++(Y++Q)))=K ((D - 1:Nat):Int) (Ad (P++(Y'++Q)))
| 0,o,k+1,Y,c,ho,_,hY,hYl,I,hc,L=>by
  have ho':o=n:=by omega
  subst ho'
  rw[show v.take o=v by rw[<-hn];exact A3l]at L
  have e1:=HP hXl
  have eq:val (Y.take o)+4294967296 ^ o*(X[o]+c)=4294967296 ^ o*4294967296+r:=by
   rw[A21,<-A25];omega
  have yt:=Bi (Co hY o)
  rw[A3b,A3h (by omega)]at yt
  have hP:0<4294967296 ^ o:=A4l (by omega)
  have hw:X[o]+c=4294967296:=by
   have h1:(val (Y.take o)+4294967296 ^ o*(X[o]+c))/4294967296 ^ o=X[o]+c:=by rw[A5m _ _ hP,A4a yt,A22]
   have h2:(4294967296 ^ o*4294967296+r)/4294967296 ^ o=4294967296:=by rw[A6y hP,A4a hrv,A30]
   rw[<-h1,eq,h2]
  have hyr:val (Y.take o)=r:=by rw[hw]at eq;omega
  have T:Y[o]=X[o]:=I o (by omega) (by omega) (A2s _)
  have hl2:(Y.set o 0).length=o+1:=by simpa using hYl
  refine⟨Y.set o 0,Cw hY (by omega) o,hl2,?_,fun K=>?_⟩
  ·have:=eF (X:=Y) (p:=o) (g:=0) (by omega)
   rw[A2t (by omega),hyr]at this;simpa using this
  ·rw[Hp];unfold Nn
   have hXo:=A3 hX (show o<X.length by omega)
   rw[Rc (A2s _),cf,Aa (by omega),ct,Aus (by omega),ct,Ax9 (by omega),ct,T,Aki (show c<4294967296 by omega),GN,hw,YW,Aqe (by omega),Ako hD1 (by omega),Aki (by omega)]
| m+1,o,k+1,Y,c,ho,hfu,hY,hYl,I,hc,L=>by
  have hon:o<n:=by omega
  have hov:o<v.length:=by omega
  have vo:=A3 hv hov
  have G:o<Y.length:=by omega
  have yo:=A3 hY G
  have T:Y[o]=X[o]:=I o (by omega) (by omega) (A2s _)
  have hs1:c+(Y[o]+v[o])<18446744073709551616:=by omega
  have hs2:(c+(Y[o]+v[o]))/4294967296<=1:=by omega
  generalize hsd:c+(Y[o]+v[o])=s at *
  have key:val ((Y.set o (s%4294967296)).take (o+1))+4294967296 ^ (o+1)*(s/4294967296)=val (X.take (o+1))+val (v.take (o+1)):=by
   rw[eF G,Ax (l:=X) (by omega),Ax hov,A25]
   have e:=Ms (4294967296 ^ o) s
   have e2:4294967296 ^ o*s=4294967296 ^ o*c+(4294967296 ^ o*X[o]+4294967296 ^ o*v[o]):=by rw[<-hsd,A21,A21,T]
   omega
  obtain⟨Y',q1,q2,q3,q4⟩:=Akp (N:=N) (P:=P) (Q:=Q) (f:=f) (g:=g) hv hn hX hXl hs hD hD1 hr hrv m (o+1) k (Y.set o (s%4294967296)) (s/4294967296) (by omega) (by omega) (Cw hY (by omega) o) (by simpa using hYl) (fun j h1 h2 hj=>by rw[A58,if_neg (by omega)];exact I j (by simpa using h1) h2 (by omega)) hs2 key
  refine⟨Y',q1,q2,q3,fun K=>?_⟩
  rw[Hp];unfold Nn
  rw[Ox hon,ct,Aa hon,ct,OY hov,Aa (by omega),ct,Aus G,ct,Ax9 G,ct,Ib (show v[o]<18446744073709551616 by omega),Ib (show Y[o]<18446744073709551616 by omega),GN,Ib (by omega),GN,hsd,Ib hs1,iT,YW,Aqe G,wS (by omega)]
  exact q4 K
def Aqf{N:Nat}{P Q U v:List Nat}{n D:Nat}{f g:Bool}(hv:Af v)(hn:v.length=n)(hU:Af U)(hUl:U.length=n+1)(hs:n<=1000000000000)(hN:n+2<N)(hD:D<4294967296)(hv0:0<val v)(hq1:val U/val v<=D)(hq2:D<=val U/val v+1):
  ∀(m p k:Nat)(X:List Nat)(t:Nat),p+m=n->m<k->Af X->X.length=n+1->(∀ j (h1:j<X.length) (h2:j<U.length),p<=j->X[j]=U[j])->t<=4294967296->val (X.take p)+D*val (v.take p)=val (U.take p)+4294967296 ^ p*t ->
  ∃ X',Af X'/\X'.length=n+1/\val X'=val U%val v/\∀ K:Int->LA->O R,Fw N K P.length (n+1) (Ad v) n f g (n:Int) (D:Int) k (t:Int) (n:Int) (p:Int) (Ad (P++(X++Q)))=K ((val U/val v:Nat):Int) (Ad (P++(X'++Q)))
| 0,p,k+1,X,t,hp,_,hX,hXl,G,ht,T=>by
  have hp':p=n:=by omega
  subst hp'
  rw[show v.take p=v by rw[<-hn];exact A3l]at T
  have hXp:X[p]=U[p]:=G p (by omega) (by omega) (A2s _)
  have up:=A3 hU (show p<U.length by omega)
  obtain⟨d,c,g1,g2,g3,g4,g5⟩:=VB up ht
  have I:(X.set p d).length=p+1:=by simpa using hXl
  have hX2:=Cw hX g1 p
  have hv2:val (X.set p d)=val (X.take p)+4294967296 ^ p*d:=by
   have:=eF (X:=X) (p:=p) (g:=d) (by omega)
   rwa [A2t (by omega)]at this
  have eU:=HP hUl
  have main:val (X.set p d)+D*val v=val U+4294967296 ^ (p+1)*c:=by
   have e:4294967296 ^ p*(U[p]+4294967296*c)=4294967296 ^ p*(d+t):=by rw[g3]
   rw[A21,A21,<-A20]at e
   rw[hv2,eU,A25];omega
  have hlt:=Bi hX2
  rw[I]at hlt
  have hdm:=A4c (val U) (val v)
  have hmod:=A4r (val U) hv0
  have vlt:=Bi hv
  rw[hn]at vlt
  by_cases hc:c=0
  ·subst hc
   have hDq:D=val U/val v:=by
    have:D<=val U/val v:=by rw[A6j hv0];omega
    omega
   refine⟨X.set p d,hX2,I,?_,fun K=>?_⟩
   ·rw[hDq,A2w]at main;omega
   ·rw[Fw];unfold I9
    rw[Rc (A2s _),cf,Aa (by omega),ct,Aus (by omega),ct,Ax9 (by omega),ct,hXp,Ib (show U[p]<18446744073709551616 by omega),g4,g5,show(((0:Nat):Int)==0)=true by rfl,ct,Aki hD,Aqe (by omega),hDq]
  ·have hc1:c=1:=by omega
   subst hc1
   have hDq:D=val U/val v+1:=by
    have:¬ D<=val U/val v:=fun h=>by
     have:=A3f (val v) h
     rw[A2w]at this
     omega
    omega
   have hr:val (X.set p d)+val v=4294967296 ^ (p+1)+val U%val v:=by
    rw[hDq,A23,A2w (val U/val v)]at main;omega
   obtain⟨Y',q1,q2,q3,q4⟩:=Akp (R:=R) (N:=N) (P:=P) (Q:=Q) (f:=f) (g:=g) (X:=X.set p d) hv hn hX2 I hs hD (by rw[hDq];exact Nat.le_add_left 1 _) hr (by omega) p 0 N (X.set p d) 0 (by omega) (by omega) hX2 I (fun _ _ _ _=>rfl) (by omega) (by simp[val])
   refine⟨Y',q1,q2,q3,fun K=>?_⟩
   rw[Fw];unfold I9
   rw[Rc (A2s _),cf,Aa (by omega),ct,Aus (by omega),ct,Ax9 (by omega),ct,hXp,Ib (show U[p]<18446744073709551616 by omega),g4,g5,show(((1:Nat):Int)==0)=false by rfl,cf,Aqe (by omega)]
   have:=q4 K
   rw[show D - 1=val U/val v by rw[hDq];rfl]at this
   exact this
| m+1,p,k+1,X,t,hp,hfu,hX,hXl,G,ht,T=>by
  have hpn:p<n:=by omega
  have hpv:p<v.length:=by omega
  have vp:=A3 hv hpv
  have L:p<X.length:=by omega
  have hXp:X[p]=U[p]:=G p (by omega) (by omega) (A2s _)
  have up:=A3 hU (show p<U.length by omega)
  obtain⟨hw1,hw2⟩:=Ate hD vp ht
  have hDv:D*v[p]<18446744073709551616:=by omega
  generalize hpp:D*v[p]+t=w at *
  obtain⟨d,c,g1,g2,g3,g4,g5⟩:=VB up (show w%4294967296<=4294967296 by omega)
  have key:val ((X.set p d).take (p+1))+D*val (v.take (p+1))=val (U.take (p+1))+4294967296 ^ (p+1)*(w/4294967296+c):=by
   rw[eF L,Ax hpv,Ax (l:=U) (by omega),A25]
   have e:=Ms (4294967296 ^ p) w
   have e2:4294967296 ^ p*w=4294967296 ^ p*(D*v[p])+4294967296 ^ p*t:=by rw[<-hpp,A21]
   have e3:4294967296 ^ p*(U[p]+4294967296*c)=4294967296 ^ p*(d+w%4294967296):=by rw[g3]
   rw[A21,A21,<-A20]at e3
   have e4:D*(val (v.take p)+4294967296 ^ p*v[p])=D*val (v.take p)+4294967296 ^ p*(D*v[p]):=by rw[A21,A45]
   rw[e4,A21]
   omega
  obtain⟨X',q1,q2,q3,q4⟩:=Aqf (N:=N) (P:=P) (Q:=Q) (f:=f) (g:=g) hv hn hU hUl hs hN hD hv0 hq1 hq2 m (p+1) k (X.set p d) (w/4294967296+c) (by omega) (by omega) (Cw hX g1 p) (by simpa using hXl) (fun j h1 h2 hj=>by rw[A58,if_neg (by omega)];exact G j (by simpa using h1) h2 (by omega)) (by omega) key
  refine⟨X',q1,q2,q3,fun K=>?_⟩
  rw[Fw];unfold I9
  rw[Ox hpn,ct,Aa hpn,ct,OY hpv,Aa (by omega),ct,Aus L,ct,Ax9 L,ct,hXp,Ib (show v[p]<18446744073709551616 by omega),rN,Ib hDv,GN,hpp,Ib hw1,YW,Ib (show w%4294967296<18446744073709551616 by omega),Ib (show U[p]<18446744073709551616 by omega),g4,g5,iT,GN,Ib (by omega),Aqe L,wS (by omega)]
  exact q4 K
def XR(a b:Nat):Int.tdiv (a:Int) (b:Int)=((a/b:Nat):Int):=rfl
def RW(a b:Nat):Int.tmod (a:Int) (b:Int)=((a%b:Nat):Int):=rfl
def Aut{l:Nat}(h:l<4294967296):((Int.fdiv (l:Int) (2 ^ 32)) != (0:Int))=false:=by rw[iT,A4a h];rfl
def Auu{l:Nat}(h:4294967296<=l):((Int.fdiv (l:Int) (2 ^ 32)) != (0:Int))=true:=by
 have k:l/4294967296≠0:=by omega
 rw[iT];rw[bne_iff_ne];omega
def Av2{a b:Nat}(k:a<4294967296)(D:b<4294967296):Qe .u64 (wrap .u64 ((a:Int)*2 ^ 32)) (b:Int)=((a*4294967296+b:Nat):Int):=by rw[show(2:Int) ^ 32=((2 ^ 32:Nat):Int) by rfl,rN,Ib (by omega),Ah4 (by omega) (by omega),iU (by omega)]
def Av3{B l v1 v2 m u2:Nat}(h:m*B+u2<l*v2):(l*v1+m)*B+u2<l*(v1*B+v2):=by rw[A23,A21,<-A20 l v1];omega
def Av4{B l v1 v2 m u2:Nat}(h:l*v2<=m*B+u2):l*(v1*B+v2)<=(l*v1+m)*B+u2:=by rw[A23,A21,<-A20 l v1];omega
def Av5{B u0 u1 u2 v1 v2:Nat}(k:v2<B)(h:(u0*B+u1)*B+u2<(v1*B+v2+1)*B):u0*B+u1<v1*B+B:=by
 have:u0*B+u1<v1*B+v2+1:=A6q (A3x (Nat.le_add_right _ u2) h)
 omega
def Axn(P x:Nat):P*4294967296*x=P*(x*4294967296):=by rw[A20,A2w 4294967296]
def Aqg{N:Nat}{P Q U v:List Nat}{n:Nat}{f g:Bool}{K:Int->LA->O R}(hn:v.length=n+2)(hv:Af v)(hU:Af U)(hUl:U.length=n+3)(hs:n<=1000000000000){v1 v2 u2 top:Nat}
  (e1:v[n+1]'(by omega)=v1) (e2:v[n]'(by omega)=v2) (e3:U[n]'(by omega)=u2) (hv1:2147483648<=v1) (htop:top<v1*4294967296+4294967296)
  (hV:(v1*4294967296+v2)*4294967296 ^ n<=val v) (hV':val v<(v1*4294967296+v2+1)*4294967296 ^ n) (hUU:(top*4294967296+u2)*4294967296 ^ n<=val U) (hUU':val U<(top*4294967296+u2+1)*4294967296 ^ n) (hq:val U/val v<4294967296) :
  ∀(k G l m:Nat),k<G->4294967296<=m+k*2147483648->m<4294967296->l*v1+m=top->val U/val v<=l->∃ D,D<4294967296/\val U/val v<=D/\D<=val U/val v+1 /\
   Ew N K P.length (n+3) (Ad v) (n+2) f g (Ad (P++(U++Q))) G ((n+2:Nat):Int) (l:Int) (m:Int)=Ev N K P.length (n+3) (Ad v) (n+2) f g ((n+2:Nat):Int) (Ad (P++(U++Q))) (D:Int):=by
 have b1:=A3 hv (show n+1<v.length by omega)
 have b2:=A3 hv (show n<v.length by omega)
 have b3:=A3 hU (show n<U.length by omega)
 rw[e1]at b1;rw[e2]at b2;rw[e3]at b3
 have hP:0<4294967296 ^ n:=A4l (by omega)
 have hv0:0<val v:=A3e (A8i (by omega) hP) hV
 intro k
 induction k with
|zero=>intro G l m _ h1 h2;omega
| succ k ih =>
  intro G l m hf hm hm2 htm hql
  obtain⟨G,rfl⟩:∃ F,G=F+1:=⟨G - 1,by omega⟩
  generalize hqq:val U/val v=q at *
  have wi1:wrap .i64 (((n+2:Nat):Int) - 1)=((n+1:Nat):Int):=by rw[i64 (by omega)];omega
  have wi2:wrap .i64 (((n+2:Nat):Int) - 2)=(n:Int):=by rw[i64 (by omega)];omega
  have lower:q<l->l<18446744073709551616->∃ D,D<4294967296/\q<=D/\D<=q+1 /\
    Kt N (Ew N K P.length (n+3) (Ad v) (n+2) f g (Ad (P++(U++Q))) G) K P.length (n+3) (Ad v) (n+2) f g ((n+2:Nat):Int) (l:Int) (m:Int) (Ad (P++(U++Q)))=Ev N K P.length (n+3) (Ad v) (n+2) f g ((n+2:Nat):Int) (Ad (P++(U++Q))) (D:Int):=by
   intro hlt I
   have Y:(l - 1)*v1+(m+v1)=top:=by
    have:l*v1=(l - 1)*v1+v1:=by
     obtain⟨l',rfl⟩:∃ l',l=l'+1:=⟨l - 1,by omega⟩
     rw[A23];simp
    omega
   unfold Kt Tx
   rw[wi1,Aa (by omega),ct,OY (show n+1<v.length by omega),e1,Ib (show v1<18446744073709551616 by omega),GN,Ib (show m+v1<18446744073709551616 by omega),Ako (by omega) I]
   by_cases hbig:4294967296<=m+v1
   ·have hDB:l - 1<4294967296:=by
     apply A7q;intro hge
     have:=A2x v1 hge
     rw[A2w 4294967296]at this
     omega
    have L:(l - 1)*(v1*4294967296+v2)<=top*4294967296+u2:=by
     have x1:(l - 1)*v2<=4294967295*4294967295:=A46 (by omega) (by omega)
     rw[<-Y,A23,A21,<-A20]
     omega
    have T:=x_ hV' hUU L (by omega) hv0
    rw[hqq]at T
    exact⟨l - 1,hDB,by omega,T,by rw[Auu hbig,ct]⟩
   ·obtain⟨D,d1,d2,d3,d4⟩:=ih G (l - 1) (m+v1) (by omega) (by omega) (by omega) Y (by omega)
    exact⟨D,d1,d2,d3,by rw[Aut (by omega),cf,d4]⟩
  rw[Ew];unfold Ty
  by_cases hlB:l<4294967296
  ·rw[Aut hlB,show((false:Bool)==false)=true by rfl,ct,wi2,Aa (by omega),ct,OY (show n<v.length by omega),Aa (by omega),ct,Aus (show n<U.length by omega),Axj,e2,e3,Ib (show v2<18446744073709551616 by omega),Ib (show u2<18446744073709551616 by omega),rN]
   have x1:l*v2<=4294967295*4294967295:=A46 (by omega) (by omega)
   rw[Ib (show l*v2<18446744073709551616 by omega),Av2 hm2 b3]
   by_cases hgt:m*4294967296+u2<l*v2
   ·rw[show decide (((l*v2:Nat):Int)>((m*4294967296+u2:Nat):Int))=true by rw[decide_eq_true_eq];omega,ct]
    have hup:val U/val v<l:=x9 hV hUU' (by rw[<-htm];exact Av3 hgt) hv0
    rw[hqq]at hup
    exact lower hup (by omega)
   ·rw[show decide (((l*v2:Nat):Int)>((m*4294967296+u2:Nat):Int))=false by rw[decide_eq_false_iff_not];omega,cf]
    have L:l*(v1*4294967296+v2)<=top*4294967296+u2:=by
     rw[<-htm];exact Av4 (A5k hgt)
    have T:=x_ hV' hUU L (by omega) hv0
    rw[hqq]at T
    exact⟨l,hlB,hql,T,rfl⟩
  ·rw[Auu (by omega),show((true:Bool)==false)=false by rfl,cf]
   have I:l<18446744073709551616:=by
    have:l*2147483648<=l*v1:=A3f _ hv1
    omega
   exact lower (by omega) I
def si{N:Nat}{P Q U v:List Nat}{n:Nat}{f g:Bool}(hn:v.length=n+2)(T:Af v)(hU:Af U)(hUl:U.length=n+3)(hs:n<=1000000000)(hN:n+8<N)(hv1:2147483648<=v[n+1]'(by omega))(hlt:val U<val v*4294967296):
  ∃ U',Af U'/\U'.length=n+3/\val U'=val U%val v/\∀ K:Int->LA->O R,No N P.length (n+3) (Ad v) (n+2) f g (Ad (P++(U++Q))) K=K ((val U/val v:Nat):Int) (Ad (P++(U'++Q))):=by
 have b1:=A3 T (show n+1<v.length by omega)
 have b2:=A3 T (show n<v.length by omega)
 have b3:=A3 hU (show n<U.length by omega)
 have b4:=A3 hU (show n+1<U.length by omega)
 have b5:=A3 hU (show n+2<U.length by omega)
 have hP:0<4294967296 ^ n:=A4l (by omega)
 have vv:val v=val (v.take n)+4294967296 ^ n*(v[n+1]'(by omega)*4294967296+v[n]'(by omega)):=by
  have k:=Ax (l:=v) (c:=n+1) (by omega)
  have G:=Ax (l:=v) (c:=n) (by omega)
  rw[A2t (by omega)]at k
  rw[k,G,A25,A21,A20,A2w 4294967296 v[n+1]];omega
 have uu:val U=val (U.take n)+4294967296 ^ n*((U[n+2]'(by omega)*4294967296+U[n+1]'(by omega))*4294967296+U[n]'(by omega)):=by
  have h0:=Ax (l:=U) (c:=n+2) (by omega)
  have k:=Ax (l:=U) (c:=n+1) (by omega)
  have G:=Ax (l:=U) (c:=n) (by omega)
  rw[A2t (by omega)]at h0
  have x1:4294967296 ^ (n+2)*U[n+2]=4294967296 ^ n*(U[n+2]*4294967296*4294967296):=by rw[A25 (n:=4294967296) (m:=n+1),A25,Axn,Axn]
  have x2:4294967296 ^ (n+1)*U[n+1]=4294967296 ^ n*(U[n+1]*4294967296):=by rw[A25,Axn]
  rw[h0,k,G,x1,x2,A23,A21,A21];omega
 have tv:=Bi (Co T n)
 have tu:=Bi (Co hU n)
 rw[A3b,A3h (by omega)]at tv tu
 generalize e1:v[n+1]'(by omega)=v1 at *
 generalize e2:v[n]'(by omega)=v2 at *
 generalize e3:U[n]'(by omega)=u2 at *
 generalize e4:U[n+1]'(by omega)=u1 at *
 generalize e5:U[n+2]'(by omega)=u0 at *
 have Y:0<val v:=by
  have:0<4294967296 ^ n*(v1*4294967296+v2):=A8i hP (by omega)
  omega
 have hV:(v1*4294967296+v2)*4294967296 ^ n<=val v:=by rw[A2w];omega
 have hV':val v<(v1*4294967296+v2+1)*4294967296 ^ n:=by rw[A2w,A21];omega
 have hUU:((u0*4294967296+u1)*4294967296+u2)*4294967296 ^ n<=val U:=by rw[A2w];omega
 have hUU':val U<((u0*4294967296+u1)*4294967296+u2+1)*4294967296 ^ n:=by rw[A2w,A21];omega
 have hq:val U/val v<4294967296:=A52 hlt
 have I:u0*4294967296+u1<v1*4294967296+4294967296:=by
  have k:((u0*4294967296+u1)*4294967296+u2)*4294967296 ^ n<(v1*4294967296+v2+1)*4294967296 ^ n*4294967296:=by
   have:=(A5n (show 0<4294967296 by omega)).2 hV'
   omega
  rw[A63]at k
  exact Av5 b2 (A6q k)
 obtain⟨top,htp⟩:∃ top,u0*4294967296+u1=top:=⟨_,rfl⟩
 rw[htp]at hUU hUU' I
 have hdm:=A4c top v1
 have hmod:=A4r top (show 0<v1 by omega)
 have hq0:val U/val v<=top/v1:=by
  have k:val U/val v<top/v1+1:=by
   apply x9 hV hUU' _ Y
   have G:top<v1*(top/v1+1):=by rw[A21];omega
   have h3:(top+1)*4294967296<=v1*(top/v1+1)*4294967296:=A2x _ G
   rw[A21,<-A20,A2w _ v1]
   omega
  omega
 have key:∀ K:Int->LA->O R,∃ D,D<4294967296/\val U/val v<=D/\D<=val U/val v+1/\No N P.length (n+3) (Ad v) (n+2) f g (Ad (P++(U++Q))) K=Ev N K P.length (n+3) (Ad v) (n+2) f g ((n+2:Nat):Int) (Ad (P++(U++Q))) (D:Int):=by
  intro K
  obtain⟨D,d1,d2,d3,L⟩:=Aqg (R:=R) (N:=N) (P:=P) (Q:=Q) (f:=f) (g:=g) (K:=K) hn T hU hUl (by omega) e1 e2 e3 hv1 I hV hV' hUU hUU' hq 2 N (top/v1) (top%v1) (by omega) (by omega) (by omega) (by rw[A2w];exact hdm) hq0
  refine⟨D,d1,d2,d3,?_⟩
  rw[<-L,GR];unfold Uv
  have wi1:wrap .i64 (((n+2:Nat):Int) - 1)=((n+1:Nat):Int):=by rw[i64 (by omega)];omega
  rw[Aa (by omega),ct,Az2 (show n+2<U.length by omega),wi1,Aa (by omega),ct,Aus (show n+1<U.length by omega),Aa (by omega),ct,OY (show n+1<v.length by omega),e1,e4,e5,Ib (show v1<18446744073709551616 by omega),vr (by omega),cf,ct,OY (show n+1<v.length by omega),e1,Ib (show v1<18446744073709551616 by omega),vr (by omega),cf,Ib (show u0<18446744073709551616 by omega),Ib (show u1<18446744073709551616 by omega),Av2 b5 b4,htp,XR,RW,Ib (show top/v1<18446744073709551616 from A3x (A4t _ _) (by omega))]
 have fin:∀ D,D<4294967296->val U/val v<=D->D<=val U/val v+1->∃ U',Af U'/\U'.length=n+3/\val U'=val U%val v/\∀ K:Int->LA->O R,Ev N K P.length (n+3) (Ad v) (n+2) f g ((n+2:Nat):Int) (Ad (P++(U++Q))) (D:Int)=K ((val U/val v:Nat):Int) (Ad (P++(U'++Q))):=by
  intro D d1 d2 d3
  obtain⟨X',q1,q2,q3,q4⟩:=Aqf (R:=R) (N:=N) (P:=P) (Q:=Q) (U:=U) (v:=v) (n:=n+2) (D:=D) (f:=f) (g:=g) T hn hU hUl (by omega) (by omega) d1 Y d2 d3 (n+2) 0 N U 0 (by omega) (by omega) hU hUl (fun _ _ _ _=>rfl) (by omega) (by simp[val])
  exact⟨X',q1,q2,q3,fun K=>by unfold Ev Tv;exact q4 K⟩
 by_cases hz:val U/val v+1<4294967296
 ·obtain⟨U1,a1,a2,a3,a4⟩:=fin (val U/val v) hq (A2s _) (by omega)
  obtain⟨U2,c1,c2,c3,c4⟩:=fin (val U/val v+1) hz (by omega) (A2s _)
  have:U1=U2:=by
   have k:=(Bm a1).1;have G:=(Bm c1).1
   rw[a3]at k;rw[c3]at G;rw[k,G,a2,c2]
  subst this
  refine⟨U1,a1,a2,a3,fun K=>?_⟩
  obtain⟨D,d1,d2,d3,L⟩:=key K
  have:D=val U/val v\/D=val U/val v+1:=by
   generalize val U/val v=q at *;omega
  rcases this with rfl|rfl
  ·rw[L,a4 K]
  ·rw[L,c4 K]
 ·obtain⟨U1,a1,a2,a3,a4⟩:=fin (val U/val v) hq (A2s _) (by omega)
  refine⟨U1,a1,a2,a3,fun K=>?_⟩
  obtain⟨D,d1,d2,d3,L⟩:=key K
  have:D=val U/val v:=by
   generalize val U/val v=q at *;omega
  subst this
  rw[L,a4 K]
def RX{l:List Nat}{d:Nat}(h:d<l.length):val (l.drop d)=l[d]+4294967296*val (l.drop (d+1)):=by rw[A4g h,val]
def Aeo{S:List Nat}{d v:Nat}(h:d<S.length):(S.set d v).drop d=v::S.drop (d+1):=by rw[A4g (by simpa using h),A84,A9h (by omega)]
def mW{N:Nat}{a:List Nat}{t o:Bool}{b:Nat}(ha:Af a)(G:0<b)(hb:b<4294967296)(I:fit a.length N):∀(c k:Nat)(S:List Nat)(r:Nat),c<k->c<=a.length->Af S->S.length=a.length->r<b->val (S.drop c)*b+r=val (a.drop c) ->
  ∃ S' S2,Af S'/\val S'=val a/b/\Af S2/\val S2=val a%b/\∀ K:Nat->Nat->LA->LA->O R,D3 N K (Ad a) a.length t o (b:Int) k (r:Int) ((c:Int) - 1) (Ad S)=K (Ak (val a/b)).length (Ak (val a%b)).length (Ad S') (Ad S2)
| 0,k+1,S,r,_,_,hS,Y,hr,L=>by
  have h1:=I.1
  rw[A3m,A3m]at L
  have hq:val a/b=val S:=by
   rw[<-L,A2w,A6y G,A4a hr,A30]
  have hm:val a%b=r:=by rw[<-L,A2w,A7z,A3s hr]
  obtain⟨S2,s1,s2,s3⟩:=J9 (R:=R) (N:=N) (v:=r) (by omega) (by omega)
  refine⟨S,S2,hS,hq.symm,s1,by rw[hm,s2],fun K=>?_⟩
  rw[D3];unfold Iw
  rw[show decide ((((0:Nat):Int) - 1)>=0)=false by simp,cf,GU Y.symm hS (by rw[Y];exact I),s3,hq,hm]
| c+1,k+1,S,r,hfu,hc,hS,Y,hr,L=>by
  have h1:=I.1;have h2:=I.2
  have D:c<a.length:=by omega
  have ac:=A3 ha D
  have hrB:r<4294967296:=by omega
  have hw:r*4294967296+a[c]<b*4294967296:=by
   have:(r+1)*4294967296<=b*4294967296:=A2x _ hr
   rw[A23]at this;omega
  have hw2:r*4294967296+a[c]<18446744073709551616:=by omega
  obtain⟨w,T⟩:∃ w,r*4294967296+a[c]=w:=⟨_,rfl⟩
  rw[T]at hw hw2
  have hqB:w/b<4294967296:=A52 hw
  have hdm:=A4c w b
  obtain⟨S',S2,q1,q2,q3,q4,q5⟩:=mW (t:=t) (o:=o) ha G hb I c k (S.set c (w/b)) (w%b) (by omega) (by omega) (Cw hS hqB c) (by simpa using Y) (A4r _ G) (by
   rw[Aeo (by omega),val,RX D,A23,A20,<-L,A21,A2w (w/b)]
   omega)
  refine⟨S',S2,q1,q2,q3,q4,fun K=>?_⟩
  rw[D3];unfold Iw
  rw[show(((c+1:Nat):Int) - 1)=(c:Int) by omega,show decide ((c:Int)>=0)=true by simp,ct,Aa D,ct,OY D,Ib (show b<18446744073709551616 by omega),vr (by omega),cf,ct,pN (by omega),ct,cf,Ib (show a[c]<18446744073709551616 by omega),Av2 hrB ac,T,XR,RW,Ib (show w/b<18446744073709551616 by omega),Aki hqB,QU,i64 (by omega)]
  exact q5 K
def Aep{N:Nat}{a:List Nat}{n:Nat}{t o:Bool}{b:Nat}(G:n=a.length)(I:Af a)(k:0<b)(L:b<4294967296)(D:fit a.length N):
  ∃ S' S2,Af S'/\val S'=val a/b/\Af S2/\val S2=val a%b/\∀ K:Nat->Nat->LA->LA->O R,Ho N (Ad a) n t o (b:Int) K=K (Ak (val a/b)).length (Ak (val a%b)).length (Ad S') (Ad S2):=by
 subst G
 have h1:=D.1;have h2:=D.2
 obtain⟨S',S2,T,Y,q3,q4,q5⟩:=mW (R:=R) (t:=t) (o:=o) I k L D a.length N (replicate a.length 0) 0 (by omega) (A2s _) (Cu _) (by simp) k (by rw[A3v (by simp),A3v (by simp)];simp[val])
 refine⟨S',S2,T,Y,q3,q4,fun K=>?_⟩
 rw[W5];unfold Nm
 rw[Aos (by omega),ct,i64 (by omega),C8]
 exact q5 K
def Aqh{x V s:Nat}(I:x<4294967296)(hs:s<=31):(x+4294967296*V)/2 ^ s=(x+4294967296*(V%4294967296))/2 ^ s%4294967296+4294967296*(V/2 ^ s):=by
 have k:0<2 ^ s:=A4l (by omega)
 have G:2 ^ s∣4294967296:=⟨2 ^ (32 - s),by rw[<-A32,show s+(32 - s)=32 by omega]⟩
 have key:∀ W,(x+4294967296*W)/2 ^ s=(x+4294967296*(W%2 ^ s))/2 ^ s+4294967296*(W/2 ^ s):=by
  intro W
  have e:x+4294967296*W=x+4294967296*(W%2 ^ s)+2 ^ s*(4294967296*(W/2 ^ s)):=by
   have h:=A4c W (2 ^ s)
   have:4294967296*W=4294967296*(2 ^ s*(W/2 ^ s)+W%2 ^ s):=by rw[h]
   rw[this,A21,A45];omega
  rw[e,A5m _ _ k]
 have D:(x+4294967296*(V%2 ^ s))/2 ^ s<4294967296:=by
  rw[A7i k]
  have:V%2 ^ s+1<=2 ^ s:=A4r _ k
  have:=A3f 4294967296 this
  rw[A21]at this
  omega
 rw[key V,key (V%4294967296),Nat.mod_mod_of_dvd _ G,A8e,A3s D]
def Atf:∀{l:List Nat},Af l->val l%4294967296=l.getD 0 0
|[],_=>rfl
|x::r,h=>by
  have:=(Dk.1 h).1
  simp[val];omega
def Aeq{N:Nat}{a:List Nat}{o:Bool}{s:Nat}(T:Af a)(hs:s<=31)(Y:fit a.length N):∀(m d k:Nat)(S:List Nat),d+m=a.length->m<k->Af S->S.length=a.length->Am7 S d->val S+4294967296 ^ d*(val (a.drop d)/2 ^ s)=val a/2 ^ s ->
  ∃ S',Af S'/\val S'=val a/2 ^ s/\∀ K:Nat->Bool->LA->O R,De N K o k (Ad a) a.length (s:Int) a.length (Ad a) a.length (a.length:Int) (d:Int) (Ad S)=K (Ak (val a/2 ^ s)).length true (Ad S')
|0,d,k+1,S,hd,_,hS,hl,hz,I=>by
  have hd':d=a.length:=by omega
  subst hd'
  rw[List.drop_length]at I
  simp[val]at I
  refine⟨S,hS,I,fun K=>?_⟩
  rw[De];unfold Hw
  rw[Rc (A2s _),cf,GU hl.symm hS (by rw[hl];exact Y),I]
| m+1,d,k+1,S,hd,hfu,hS,hl,hz,I=>by
  have h1:=Y.1;have h2:=Y.2
  have D:d<a.length:=by omega
  have ad:=A3 T D
  have step:=Aqh (V:=val (a.drop (d+1))) ad hs
  rw[Atf (JE T _),<-RX D]at step
  have hg:(a.drop (d+1)).getD 0 0=a.getD (d+1) 0:=by simp[A2z,A3z]
  rw[hg]at step
  have go:∀ w,(a[d]+4294967296*a.getD (d+1) 0)/2 ^ s=w->∃ S',Af S'/\val S'=val a/2 ^ s/\∀ K:Nat->Bool->LA->O R,De N K o k (Ad a) a.length (s:Int) a.length (Ad a) a.length (a.length:Int) ((d+1:Nat):Int) (Ad (S.set d (w%4294967296)))=K (Ak (val a/2 ^ s)).length true (Ad S'):=by
   intro w hw
   refine Aeq (o:=o) T hs Y m (d+1) k (S.set d (w%4294967296)) (by omega) (by omega) (Cw hS (by omega) d) (by simpa using hl) (DJ hz) ?_
   rw[U8 hz (by omega),<-I,step,hw,A25,A21,A20];omega
  by_cases L:d+1<a.length
  ·have an:=A3 T L
   have G:a.getD (d+1) 0=a[d+1]:=by rw[A2z,A2r L];rfl
   rw[G]at go
   obtain⟨S',q1,q2,q3⟩:=go _ rfl
   refine⟨S',q1,q2,fun K=>?_⟩
   rw[De];unfold Hw
   have e:Qe .u64 ((a[d]:Nat):Int) (wrap .u64 (((a[d+1]:Nat):Int)*2 ^ 32))=((a[d]+4294967296*a[d+1]:Nat):Int):=by
    rw[show(2:Int) ^ 32=((2 ^ 32:Nat):Int) by rfl,rN,Ib (by omega),Ah4 (by omega) (by omega),A95,iU (by omega)]
    congr 1;omega
   rw[Ox D,ct,Aa D,ct,OY D,wS (by omega),Ox L,ct,Aa L,ct,OY L,show decide ((s:Int)<0)=false by simp,cf,ct,pN (by omega),ct,Ib (show a[d]<18446744073709551616 by omega),Ib (show a[d+1]<18446744073709551616 by omega),e,A2u s,A3h (by omega),Q5,YW,QU]
   exact q3 K
  ·have G:a.getD (d+1) 0=0:=by rw[A2z,A31 (by omega)];rfl
   rw[G,Nat.mul_zero,A30]at go
   obtain⟨S',q1,q2,q3⟩:=go _ rfl
   refine⟨S',q1,q2,fun K=>?_⟩
   rw[De];unfold Hw
   rw[Ox D,ct,Aa D,ct,OY D,wS (by omega),Rc (by omega),cf,show decide ((s:Int)<0)=false by simp,cf,ct,pN (by omega),ct,Ib (show a[d]<18446744073709551616 by omega),A2u s,A3h (by omega),Q5,YW,QU]
   exact q3 K
def Aqi{N:Nat}{a:List Nat}{n:Nat}{t o:Bool}{s:Nat}(I:n=a.length)(D:Af a)(hs:s<=31)(k:fit a.length N):
  ∃ S',Af S'/\val S'=val a/2 ^ s/\∀ K:Nat->Bool->LA->O R,O3 N (Ad a) n t o (s:Int) K=K (Ak (val a/2 ^ s)).length true (Ad S'):=by
 have h1:=k.1;have h2:=k.2
 have la:=(Bm D).2
 have L:wrap .i64 (Int.tdiv (s:Int) 32)=((0:Nat):Int):=by
  rw[show(32:Int)=((32:Nat):Int) by rfl,XR,A4a (by omega)];decide
 have e1:Int.tmod (s:Int) 32=(s:Int):=by rw[show(32:Int)=((32:Nat):Int) by rfl,RW,A3s (by omega)]
 by_cases G:val a=0
 ·refine⟨[],Tp,by rw[G];simp[val],fun K=>?_⟩
  rw[Rb];unfold Mj
  rw[show decide ((s:Int)<0)=false by simp,cf,Bz I D k,G,L,Nat.zero_div,D6];rfl
 ·obtain⟨S',Y,T,q3⟩:=Aeq (R:=R) (o:=o) (a:=Ak (val a)) (Ac _) hs (k.le la) (Ak (val a)).length 0 N (replicate (Ak (val a)).length 0) (by omega) (by omega) (Cu _) (by simp) (Lj _) (by rw[Ei];simp)
  rw[Ae]at T
  refine⟨S',Y,T,fun K=>?_⟩
  rw[Rb];unfold Mj
  have hne:(Ak (val a)).length≠0:=fun h=>G (Br.1 h)
  rw[show decide ((s:Int)<0)=false by simp,cf,Bz I D k,L,e1,show decide (((0:Nat):Int)>=(((Ak (val a)).length:Nat):Int))=false by rw[decide_eq_false_iff_not];omega,cf]
  have c1:((decide ((0:Int)<=((0:Nat):Int)))&&((decide (((0:Nat):Int)<=(((Ak (val a)).length:Nat):Int)))&&((decide ((((Ak (val a)).length:Nat):Int)<=(((Ak (val a)).length:Nat):Int)))&&(decide ((((Ak (val a)).length:Nat):Int)<=(((Ak (val a)).length:Nat):Int))))))=true:=by simp
  rw[c1,ct,A2u,Nat.sub_zero,Aos (by omega),ct,A7d,A3m,A3g,Tq,A3l,C8]
  have:=q3 K
  rw[Ae]at this
  exact this
def K_{S:List Nat}{k:Nat}(h:val S<4294967296 ^ k):val (S.take k)=val S:=by
 by_cases I:k<=S.length
 ·have D:=Pu (S.take k) (S.drop k)
  rw[A5i,A3b,A3h I]at D
  rcases A3j (val (S.drop k))with G|G
  ·rw[G]at D;simpa using D.symm
  ·have:=A67 (4294967296 ^ k) G
   omega
 ·rw[A2t (by omega)]
def LB{S:List Nat}{n:Nat}(hS:Af S)(h:S.length=n+1):val S<(S[n]+1)*4294967296 ^ n:=by
 have D:=HP h
 have k:=Bi (Co hS n)
 rw[A3b,A3h (by omega)]at k
 rw[A23,A2w S[n]];omega
def A11{a b c:Nat}(k:a<=b)(D:b<=c):((decide ((0:Int)<=(a:Int)))&&((decide ((a:Int)<=(b:Int)))&&((decide ((b:Int)<=(c:Int)))&&(decide ((c:Int)<=(c:Int))))))=true:=by simp;omega
def xv{N:Nat}{v u0 Sv:List Nat}{n D s:Nat}(hn:v.length=n+2)(hv:Af v)(hv1:2147483648<=v[n+1]'(by omega))(hSv:take ((n+2)*1) (Ad Sv)=Ad v)(hu:Af u0)(hul:u0.length=D+(n+2))(hs:s<=31)(Y:fit (D+n+4) N):
  ∀(j k c:Nat)(W q:List Nat),j<k->c+j=D->Af W->W.length=u0.length->Af q->q.length=D->W.take j=u0.take j->val (W.drop j)<val v->val (q.drop j)*val v+val (W.drop j)=val (u0.drop j) ->
  ∃ Sq Sr,Af Sq/\val Sq=val u0/val v/\Af Sr/\val Sr=val u0%val v/2 ^ s/\∀ K:Nat->Nat->LA->LA->O R,D7 N K (s:Int) (n+2) u0.length (Ad Sv) k D ((n+2:Nat):Int) (D:Int) (D:Int) (c:Int) (Ad q) (Ad W)=K (Ak (val u0/val v)).length (Ak (val u0%val v/2 ^ s)).length (Ad Sq) (Ad Sr)
|0,k+1,c,W,q,_,hc,hW,hWl,hq,L,htk,hr,I=>by
  have h1:=Y.1;have h2:=Y.2
  simp only[A3m]at I hr
  have hv0:0<val v:=by omega
  have vlt:=Bi hv
  rw[hn]at vlt
  have hq2:val u0/val v=val q:=by rw[<-I,A2w,A6y hv0,A4a hr,A30]
  have hm:val u0%val v=val W:=by rw[<-I,A2w,A7z,A3s hr]
  have ht:val (W.take (n+2))=val W:=K_ (by omega)
  have htl:(W.take (n+2)).length=n+2:=by rw[A3b];omega
  obtain⟨S',q1,q3,q4⟩:=Aqi (R:=R) (N:=N) (a:=W.take (n+2)) (n:=n+2) (t:=false) (o:=true) (s:=s) htl.symm (Co hW _) hs (Y.le (by rw[htl];omega))
  rw[ht,<-hm]at q3 q4
  refine⟨q,S',hq,hq2.symm,q1,q3,fun K=>?_⟩
  have hcD:c=D:=by omega
  subst hcD
  rw[D7];unfold Lw
  rw[Rc (A2s _),cf,Aum (by omega),ct,A2u,A3g,Tq,q4,GU L.symm hq (by rw[L];exact Y.le (by omega)),<-hq2]
| j+1,k+1,c,W,q,hfu,hc,hW,hWl,hq,L,htk,hr,I=>by
  have h1:=Y.1;have h2:=Y.2
  have vlt:=Bi hv
  rw[hn]at vlt
  have hjW:j<W.length:=by omega
  have hju:j<u0.length:=by omega
  have hjq:j<q.length:=by omega
  have hWj:W[j]=u0[j]:=by
   have:=congrArg (fun l=>l[j]?) htk
   simp only[A6w (show j<j+1 by omega),A2r hjW,A2r hju]at this
   exact A72 this
  have wj:=A3 hW hjW
  have eW:=RX hjW
  have eu:=RX hju
  have hUl:((W.drop j).take (n+3)).length=n+3:=by rw[A3b,A8p];omega
  have G:val (W.drop j)<val v*4294967296:=by rw[eW];omega
  have hB:val (W.drop j)<4294967296 ^ (n+3):=by
   have:=(A5n (show 0<4294967296 by omega)).2 vlt
   rw[<-A25]at this;exact Nat.lt_trans G this
  have hU:val ((W.drop j).take (n+3))=val (W.drop j):=K_ hB
  have T:W=W.take j++((W.drop j).take (n+3)++(W.drop j).drop (n+3)):=by rw[A5i,A5i]
  have hPl:(W.take j).length=j:=by rw[A3b];omega
  obtain⟨U',u1,u2,u3,u4⟩:=si (R:=R) (N:=N) (P:=W.take j) (Q:=(W.drop j).drop (n+3)) (U:=(W.drop j).take (n+3)) (v:=v) (n:=n) (f:=false) (g:=true) hn hv (Co (JE hW _) _) hUl (by omega) (by omega) hv1 (by rw[hU];exact G)
  rw[hU]at u3 u4
  have hQ0:val ((W.drop j).drop (n+3))=0:=by
   have:=Pu ((W.drop j).take (n+3)) ((W.drop j).drop (n+3))
   rw[A5i,hU,hUl]at this
   have hp:0<4294967296 ^ (n+3):=A4l (by omega)
   rcases A3j (val ((W.drop j).drop (n+3)))with h|h
   ·exact h
   ·have:=A67 (4294967296 ^ (n+3)) h;omega
  have hv0:0<val v:=by omega
  have hqd:val (W.drop j)/val v<4294967296:=A52 G
  have hdm:=A4c (val (W.drop j)) (val v)
  have hmd:=A4r (val (W.drop j)) hv0
  have hW':Af (W.take j++(U'++(W.drop j).drop (n+3))):=cQ.2 ⟨Co hW _,cQ.2 ⟨u1,JE (JE hW _) _⟩⟩
  have hWl':(W.take j++(U'++(W.drop j).drop (n+3))).length=u0.length:=by
   rw[A3d,A3d,hPl,u2,A8p,A8p];omega
  have hWd:(W.take j++(U'++(W.drop j).drop (n+3))).drop j=U'++(W.drop j).drop (n+3):=by
   rw[A7m,hPl,A6d,A3m,A3v (by omega),A5z]
  have hWt:(W.take j++(U'++(W.drop j).drop (n+3))).take j=u0.take j:=by
   rw[A8q,hPl,A6d,A9e,A4x,A9d,Nat.min_self]
   have:=congrArg (take j) htk
   rwa [A9d,A9d,A3h (by omega)]at this
  have hWv:val (U'++(W.drop j).drop (n+3))=val (W.drop j)%val v:=by rw[Pu,hQ0,u3];simp
  obtain⟨Sq,Sr,a1,a2,a3,a4,a5⟩:=xv (N:=N) hn hv hv1 hSv hu hul hs Y j k (c+1) (W.take j++(U'++(W.drop j).drop (n+3))) (q.set j (val (W.drop j)/val v)) (by omega) (by omega) hW' hWl' (Cw hq hqd j) (by simpa using L) hWt (by rw[hWd,hWv];exact hmd) (by
   rw[hWd,hWv,Aeo hjq,val,eu,<-I,<-hWj,A23,A20,A21,A2w (val (W.drop j)/val v)]
   omega)
  refine⟨Sq,Sr,a1,a2,a3,a4,fun K=>?_⟩
  have w0:wrap .i64 (wrap .i64 ((D:Int) - 1) - (c:Int))=(j:Int):=by
   rw[i64 (a:=(D:Int) - 1) (by omega),i64 (by omega)];omega
  have w1:wrap .i64 (wrap .i64 ((j:Int)+((n+2:Nat):Int))+1)=((j+(n+3):Nat):Int):=by
   rw[i64 (a:=(j:Int)+((n+2:Nat):Int)) (by omega),i64 (by omega)];omega
  have:=u4 fun z aa=>cond (Ab (j:Int) D) (cond ((beq 1 1)&&((ble ((0+((Int.toNat (j:Int))*1))+1) (List.length (Ad q)))&&(!false))) (D7 N K (s:Int) (n+2) u0.length (Ad Sv) k D ((n+2:Nat):Int) (D:Int) (D:Int) (wrap .i64 ((c:Int)+1)) (List.set (Ad q) (0+((Int.toNat (j:Int))*1)) (.int .u32 z)) aa) none) none
  rw[<-T,hPl]at this
  rw[D7];unfold Lw
  rw[Ox (by omega),ct,w0,w1,A11 (by omega) (by omega),ct,hSv,A2u,A2u,A3g,A22,show j+(n+3) - j=n+3 by omega]
  rw[A2u,A3g,A22]at this
  rw[this,Aa (by omega),ct,show((beq 1 1)&&((ble (j+1) (List.length (Ad q)))&&(!false)))=true by(rw[Bx];simp;omega),ct,cR,wS (by omega)]
  exact a5 K
def Am8{N:Nat}{a b:List Nat}{n m:Nat}{t o t' o':Bool}(hn:n=a.length)(hm:m=b.length)(ha:Af a)(hb:Af b)(hb2:2<=b.length)(hlen:b.length<=a.length)(I:b.getLast (by intro h;rw[h]at hb2;simp at hb2)≠0)(hf:fit (a.length+b.length+4) N):
  ∃ Sq Sr,Af Sq/\val Sq=val a/val b/\Af Sr/\val Sr=val a%val b/\∀ K:Nat->Nat->LA->LA->O R,Ld N (Ad a) n t o (Ad b) m t' o' K=K (Ak (val a/val b)).length (Ak (val a%val b)).length (Ad Sq) (Ad Sr):=by
 subst hn hm
 have h1:=hf.1;have h2:=hf.2
 obtain⟨k,hk⟩:∃ k,b.length=k+2:=⟨b.length - 2,by omega⟩
 have hbl2:b[k+1]'(by omega)≠0:=by
  rw[A59]at I
  simp only[hk]at I
  exact I
 have bk:=A3 hb (show k+1<b.length by omega)
 obtain⟨s,s1,s2,s3,s4⟩:=Akn (R:=R) (N:=N) (c:=b[k+1]'(by omega)) (by omega) bk
 obtain⟨Sv,v1,v2,v3,v4⟩:=eE (R:=R) (N:=N) (a:=b) (t:=false) (o:=o') (s:=s) rfl hb s1 (hf.le (by omega))
 obtain⟨Su,p1,p2,p3,p4⟩:=eE (R:=R) (N:=N) (a:=a) (t:=false) (o:=o) (s:=s) rfl ha s1 (hf.le (by omega))
 have hp:0<2 ^ s:=A4l (by omega)
 have hP:0<4294967296 ^ (k+1):=A4l (by omega)
 have bt:=LB hb hk
 have bf:=HP hk
 have hVlt:val b*2 ^ s<4294967296 ^ (k+2):=by
  have x1:val b*2 ^ s<(b[k+1]+1)*4294967296 ^ (k+1)*2 ^ s:=(A5n hp).2 bt
  have hd:2 ^ s∣4294967296:=⟨2 ^ (32 - s),by rw[<-A32,show s+(32 - s)=32 by omega]⟩
  have x2:(b[k+1]+1)*2 ^ s<=4294967296:=by
   obtain⟨r,hr⟩:=hd
   have x3:b[k+1]<r:=by
    rw[hr,A2w]at s3
    exact A5h s3
   have x4:(b[k+1]+1)*2 ^ s<=r*2 ^ s:=A2x _ x3
   have x5:r*2 ^ s=4294967296:=by rw[A2w];exact hr.symm
   omega
  have x6:=A2x (4294967296 ^ (k+1)) x2
  rw[A63]at x1
  rw[A25,A2w _ 4294967296]
  exact A3e x1 x6
 have hvl:(Sv.take (k+2)).length=k+2:=by rw[A3b];omega
 have G:val (Sv.take (k+2))=val b*2 ^ s:=by rw[K_ (by rw[v3];exact hVlt),v3]
 have L:2147483648*4294967296 ^ (k+1)<=val b*2 ^ s:=by
  have x1:4294967296 ^ (k+1)*b[k+1]<=val b:=by omega
  have x2:=A2x (2 ^ s) x1
  rw[A20,A2w (4294967296 ^ (k+1))]at x2
  have x3:=A2x (4294967296 ^ (k+1)) s2
  omega
 have T:2147483648<=(Sv.take (k+2))[k+1]'(by omega):=by
  have x1:=LB (Co v1 (k+2)) hvl
  rw[G]at x1
  have x2:=A6q (A3x L x1)
  omega
 have hDl:Su.length=(a.length+1 - (k+2))+(k+2):=by omega
 have Y:val (Su.drop (a.length+1 - (k+2)))<val (Sv.take (k+2)):=by
  have x1:=Pu (Su.take (a.length+1 - (k+2))) (Su.drop (a.length+1 - (k+2)))
  rw[A5i,p3,A3b,A3h (by omega)]at x1
  have x2:=Bi ha
  have x3:val a*2 ^ s<4294967296 ^ a.length*2 ^ s:=(A5n hp).2 x2
  have x4:a.length=(a.length+1 - (k+2))+(k+1):=by omega
  generalize hE:a.length+1 - (k+2)=E at *
  have x5:4294967296 ^ a.length=4294967296 ^ E*4294967296 ^ (k+1):=by rw[<-A32];congr 1
  rw[x5,A20]at x3
  have x6:4294967296 ^ E*val (Su.drop E)<4294967296 ^ E*(4294967296 ^ (k+1)*2 ^ s):=by omega
  have x7:=A5h x6
  have x8:4294967296 ^ (k+1)*2 ^ s<=2147483648*4294967296 ^ (k+1):=by rw[A2w];exact A2x _ (Aa0 s1)
  rw[G];omega
 obtain⟨Sq,Sr,a1,a2,a3,a4,a5⟩:=xv (R:=R) (N:=N) (v:=Sv.take (k+2)) (u0:=Su) (Sv:=Sv) (n:=k) (D:=a.length+1 - (k+2)) (s:=s) hvl (Co v1 _) T (by rw[A3g,Tq]) p1 hDl s1 (hf.le (by omega)) (a.length+1 - (k+2)) N 0 Su (replicate (a.length+1 - (k+2)) 0) (by omega) (by omega) p1 rfl (Cu _) (by simp) rfl Y (by
  rw[A3v (show(replicate (a.length+1 - (k+2)) 0).length<=a.length+1 - (k+2) by simp)];simp[val])
 have hq:val Su/val (Sv.take (k+2))=val a/val b:=by rw[p3,G,Nat.mul_div_mul_right _ _ hp]
 have hr:val Su%val (Sv.take (k+2))/2 ^ s=val a%val b:=by rw[p3,G,Nat.mul_mod_mul_right,Nat.mul_div_cancel _ hp]
 rw[hq]at a2;rw[hr]at a4
 refine⟨Sq,Sr,a1,a2,a3,a4,fun K=>?_⟩
 rw[CU];unfold Rd
 have w1:wrap .i64 ((b.length:Int) - 1)=((k+1:Nat):Int):=by rw[i64 (by omega)];omega
 have w2:wrap .i64 (((a.length+1:Nat):Int) - (b.length:Int))=((a.length+1 - (k+2):Nat):Int):=by rw[i64 (by omega)];omega
 rw[w1,Aa (by omega),ct,OY (by omega),s4,v4,Aum (by omega),ct,p4,w2,Aos (by omega),ct,A2u,C8]
 have:=a5 K
 rw[hq,hr,p2]at this
 rw[hk]
 exact this
def RY{N:Nat}{a b:List Nat}{n m:Nat}{t o t' o':Bool}(hn:n=a.length)(hm:m=b.length)(ha:Af a)(hb:Af b)(L:val b≠0)(G:fit (a.length+b.length+4) N):
  ∃ Sq Sr,Af Sq/\val Sq=val a/val b/\Af Sr/\val Sr=val a%val b/\∀ K:Nat->Nat->Bool->LA->LA->O R,Fm N (Ad a) n t o (Ad b) m t' o' K=K (Ak (val a/val b)).length (Ak (val a%val b)).length true (Ad Sq) (Ad Sr):=by
 have h1:=G.1;have h2:=G.2
 have la:=(Bm ha).2
 have lb:=(Bm hb).2
 have hbl:(Ak (val b)).length≠0:=fun h=>L (Br.1 h)
 have start:∀ K:Nat->Nat->Bool->LA->LA->O R,Fm N (Ad a) n t o (Ad b) m t' o' K=cond (decide (Hj (val a) (val b)<0)) (CN N (Ad (Ak (val a))) (Ak (val a)).length false o fun s t=>K 0 s true [] t) (cond (decide ((((Ak (val a)).length:Nat):Int)<=(2:Int))) (Q6 N (Ad (Ak (val a))) (Ak (val a)).length false o fun p=>Q6 N (Ad (Ak (val b))) (Ak (val b)).length false o' fun o=>cond (o==(0:Int)) none (B7 N (wrap .u64 (Int.tdiv p o)) fun u w=>cond (o==(0:Int)) none (B7 N (Int.tmod p o) fun x y=>K u x true w y))) (cond ((((Ak (val b)).length:Nat):Int)==(1:Int)) (cond (Ab (0:Int) (Ak (val b)).length) (Aj .u32 (Ad (Ak (val b))) fun z=>Ho N (Ad (Ak (val a))) (Ak (val a)).length false o z fun aa ab ac ad=>K aa ab true ac ad) none) (Ld N (Ad (Ak (val a))) (Ak (val a)).length false o (Ad (Ak (val b))) (Ak (val b)).length false o' fun ae af ag ah=>K ae af true ag ah))):=by
  intro K
  rw[XF];unfold ZK
  rw[Bz hn ha (G.le (by omega)),Bz hm hb (G.le (by omega)),vr hbl,cf,Qo rfl rfl (Ac _) (Ac _) (G.le (by omega)),Ae,Ae]
 by_cases k:val a<val b
 ·refine⟨[],Ak (val a),Tp,by rw[A4a k];rfl,Ac _,by rw[A3s k,Ae],fun K=>?_⟩
  rw[start,show decide (Hj (val a) (val b)<0)=true by(unfold Hj;rw[if_pos k];rfl),ct,VC rfl (Ac _) (G.le (by omega)),Ae,A4a k,A3s k,D6];rfl
 ·have D:decide (Hj (val a) (val b)<0)=false:=by unfold Hj;rw[if_neg k];split<;>rfl
  have T:=By (A5k k)
  by_cases I:(Ak (val a)).length<=2
  ·have av:=eB I
   have bv:=eB (A4f T I)
   have Y:val a/val b<18446744073709551616:=A3x (A4t _ _) av
   have r64:val a%val b<18446744073709551616:=A3x (Nat.mod_le _ _) av
   obtain⟨Sq,a1,a2,a3⟩:=J9 (R:=R) (N:=N) Y (by omega)
   obtain⟨Sr,b1,b2,b3⟩:=J9 (R:=R) (N:=N) r64 (by omega)
   refine⟨Sq,Sr,a1,a2,b1,b2,fun K=>?_⟩
   rw[start,D,cf,show decide ((((Ak (val a)).length:Nat):Int)<=2)=true by simp;omega,ct,HO rfl (Ac _) I (by omega),HO rfl (Ac _) (by omega) (by omega),Ae,Ae,vr L,cf,XR,Ib Y,a3,cf,RW,b3]
  ·have hd2:decide ((((Ak (val a)).length:Nat):Int)<=2)=false:=by simp;omega
   by_cases hb1:(Ak (val b)).length=1
   ·obtain⟨x,hx⟩:∃ x,Ak (val b)=[x]:=by
     match h:Ak (val b),hb1 with
     |[x],_=>exact⟨x,rfl⟩
    have hxv:x=val b:=by have:=Ae (val b);rw[hx]at this;simpa[val]using this
    have xl:x<4294967296:=by have:=Ac (val b);rw[hx]at this;exact(Dk.1 this).1
    obtain⟨Sq,Sr,a1,a2,a3,a4,a5⟩:=Aep (R:=R) (N:=N) (a:=Ak (val a)) (t:=false) (o:=o) (b:=x) rfl (Ac _) (by omega) xl (G.le (by omega))
    rw[Ae,hxv]at a2 a4 a5
    refine⟨Sq,Sr,a1,a2,a3,a4,fun K=>?_⟩
    rw[start,D,cf,hd2,cf,hx]
    simp only[A3a,A5f,Y1,Aw]
    rw[show(((0+1:Nat):Int)==1)=true by rfl,ct,show Ab 0 (0+1)=true by decide,ct,hxv,a5]
   ·obtain⟨Sq,Sr,a1,a2,a3,a4,a5⟩:=Am8 (R:=R) (N:=N) (a:=Ak (val a)) (b:=Ak (val b)) (t:=false) (o:=o) (t':=false) (o':=o') rfl rfl (Ac _) (Ac _) (by omega) T (rM _ _) (G.le (by omega))
    rw[Ae,Ae]at a2 a4 a5
    refine⟨Sq,Sr,a1,a2,a3,a4,fun K=>?_⟩
    rw[start,D,cf,hd2,cf,show((((Ak (val b)).length:Nat):Int)==1)=false by rw[beq_eq_false_iff_ne];omega,cf,a5]
def Azg (A B u0 u1 v0 v1:Nat) (e:Bool):Prop:=v0=0\/(1<=u1/\1<=v1/\match e with
|true=>v0*B<=u0*A/\u1*A<=v1*B/\(v0+v1)*B<=(u0+u1)*A/\u0*v1=v0*u1+1
| false=>u0*A<=v0*B/\v1*B<=u1*A/\(u0+u1)*A<=(v0+v1)*B/\u1*v0=v1*u0+1)
structure Lead(X Y x y u1 u2 v1 v2:Nat)(e:Bool):Prop where
 le:y<=x
 idV:x*v2+y*v1=X
 idU:x*u2+y*u1=Y
 pos:1<=v2
 par:match e with
  |false=>x+v1*Y=u1*X/\y+u2*X=v2*Y/\u1*v2=v1*u2+1
  |true=>x+u1*X=v1*Y/\y+v2*Y=u2*X/\u2*v1=v2*u1+1
 small:(v1=0/\u1=1/\u2=0/\v2=1/\e=false)\/(1<=v1/\u1<=v1/\u2<=v2/\1<=u2)
def Lead.init{X Y:Nat}(h:Y<=X):Lead X Y X Y 1 0 0 1 false:=⟨h,by simp,by simp,by omega,by simp,.inl ⟨rfl,rfl,rfl,rfl,rfl⟩⟩
def Lead.step{X Y x y u1 u2 v1 v2:Nat}{e:Bool}(L:Lead X Y x y u1 u2 v1 v2 e)(hy:1<=y):Lead X Y y (x%y) u2 (u1+x/y*u2) v2 (v1+x/y*v2) (!e):=by
 have k:=A4c x y
 have hmod:=A4r x (show 0<y by omega)
 have hq:1<=x/y:=by rw[A6j (by omega)];have:=L.le;omega
 generalize x/y=q at *
 generalize x%y=r at *
 have D:=L.pos
 refine⟨by omega,?_,?_,?_,?_,?_⟩
 ·rw[<-L.idV,<-k,A21,A23,A20];omega
 ·rw[<-L.idU,<-k,A21,A23,A20];omega
 ·have:=A46 hq D;omega
 ·have p:=L.par
  cases e with
  | false =>
   obtain⟨p1,p2,I⟩:=p
   refine⟨p2,?_,?_⟩
   ·have e1:q*(y+u2*X)=q*(v2*Y):=by rw[p2]
    rw[A21,<-A20,<-A20]at e1
    rw[A2w y q]at k
    rw[A23,A23];omega
   ·rw[A23,A23,A63 q u2,I];omega
  | true =>
   obtain⟨p1,p2,I⟩:=p
   refine⟨p2,?_,?_⟩
   ·have e1:q*(y+v2*Y)=q*(u2*X):=by rw[p2]
    rw[A21,<-A20,<-A20]at e1
    rw[A2w y q]at k
    rw[A23,A23];omega
   ·rw[A21,A21,I,A45 u2 q,A45 v2 q,A2w u2 v2];omega
 ·right
  rcases L.small with⟨s1,s2,G,T,_⟩|⟨s1,s2,G,T⟩
  ·subst s1 s2 G T;exact⟨by omega,by omega,by omega,by omega⟩
  ·have h1:q*u2<=q*v2:=A3f _ G
   exact⟨D,G,by omega,by have:=A46 hq T;omega⟩
def Lead.cof{X Y x y u1 u2 v1 v2 A B P:Nat}{e:Bool}(L:Lead X Y x y u1 u2 v1 v2 e)(hA:X*P<=A)(hA':A<(X+1)*P)(hB:Y*P<=B)(hB':B<(Y+1)*P)(c1:v2<=y)(D:v1+v2<=x - y):Azg A B u1 u2 v1 v2 (!e):=by
 have p:=L.par
 have G:=L.le
 rcases L.small with⟨s1,_⟩|⟨s1,s2,T,I⟩
 ·exact .inl s1
 ·refine .inr ⟨I,L.pos,?_⟩
  cases e with
  |false =>
   obtain⟨p1,p2,k⟩:=p
   have n1:u2*A<=v2*B:=CI hB hA' (w:=y) (by omega) (by omega)
   have n2:(v1+v2)*B<=(u1+u2)*A:=CI hA hB' (w:=x - y) (by rw[A23,A23];omega) D
   refine⟨?_,n1,n2,k⟩
   rw[A23,A23]at n2;omega
  |true =>
   obtain⟨p1,p2,k⟩:=p
   have n1:v2*B<=u2*A:=CI hA hB' (w:=y) (by omega) (by omega)
   have n2:(u1+u2)*A<=(v1+v2)*B:=CI hB hA' (w:=x - y) (by rw[A23,A23];omega) (by omega)
   refine⟨?_,n1,n2,k⟩
   rw[A23,A23]at n2;omega
def RZ{x y:Nat}(D:1<=y)(h:y<=x):2*(y*(x%y))<=x*y:=by
 have G:=A4c x y
 have I:=A4r x (show 0<y by omega)
 have hq:1<=x/y:=by rw[A6j (by omega)];omega
 have L:y*1<=y*(x/y):=A3f _ hq
 have k:2*(x%y)<=x:=by omega
 have:=A3f y k
 rw[A2w x y,A45];exact this
def Akq(u0 u1 v0 v1:Nat)(e:Bool):LA:=[.int .u64 (u0:Int),.int .u64 (u1:Int),.int .u64 (v0:Int),.int .u64 (v1:Int),.bool e]
def Am9{N:Nat}{X Y A B P:Nat}(hX:X<18446744073709551616)(hYX:Y<=X)(hA:X*P<=A)(hA':A<(X+1)*P)(hB:Y*P<=B)(hB':B<(Y+1)*P):∀(k D x y u0 u1 u2 v0 v1 v2:Nat)(e:Bool),k<D->x*y<2 ^ k->Lead X Y x y u1 u2 v1 v2 e->Azg A B u0 u1 v0 v1 e->u0<18446744073709551616->u1<18446744073709551616->v0<18446744073709551616->v1<18446744073709551616 ->
  ∃(a1 a2 T I:Nat)(e':Bool),Azg A B a1 a2 T I e'/\a1<18446744073709551616/\a2<18446744073709551616/\T<18446744073709551616/\I<18446744073709551616/\∀ K:LA->O R,Ek N K D (x:Int) (y:Int) (u0:Int) (u1:Int) (u2:Int) (v0:Int) (v1:Int) (v2:Int) e=K (Akq a1 a2 T I e'):=by
 intro k
 induction k with
| zero =>
  intro D x y u0 u1 u2 v0 v1 v2 e hf hxy L C T I b3 b4
  obtain⟨D,rfl⟩:∃ F,D=F+1:=⟨D - 1,by omega⟩
  have hy:y=0:=by
   rcases A3j y with h|h
   ·exact h
   ·have h3:=A3f x (show 1<=y by omega)
    have h4:=L.le
    rw[A7c]at hxy
    omega
  refine⟨u0,u1,v0,v1,e,C,T,I,b3,b4,fun K=>?_⟩
  rw[Ek];unfold I8
  have:=L.pos
  rw[show decide ((y:Int)>=(v2:Int))=false by simp;omega];rfl
| succ k ih =>
  intro D x y u0 u1 u2 v0 v1 v2 e hf hxy L C T I b3 b4
  obtain⟨D,rfl⟩:∃ F,D=F+1:=⟨D - 1,by omega⟩
  have hv2:=L.pos
  have hle:=L.le
  by_cases c1:v2<=y
  ·have hy:1<=y:=by omega
   have hxX:x<=X:=by
    have:=A3f x hv2
    have:=L.idV;omega
   have hsum:v1+v2<=X:=by
    have h1:=A2x v2 (show 1<=x by omega)
    have h2:=A2x v1 hy
    have:=L.idV;omega
   by_cases c2:v1+v2<=x - y
   ·have L':=L.step hy
    have C':=L.cof hA hA' hB hB' c1 c2
    have i1:=L'.idV
    have i2:=L'.idU
    have w1:v1+x/y*v2<=X:=by
     have:=A2x (v1+x/y*v2) hy;omega
    have w2:u1+x/y*u2<=Y:=by
     have:=A2x (u1+x/y*u2) hy;omega
    have hu2:u2<18446744073709551616:=by
     have h1:=A2x u2 (show 1<=x by omega)
     have:=L.idU;omega
    have hv2':v2<18446744073709551616:=by omega
    have hlt:y*(x%y)<2 ^ k:=by
     have:=RZ hy hle
     rw[A25]at hxy;omega
    obtain⟨a1,a2,d1,d2,e',r1,r2,r3,r4,r5,r6⟩:=ih D y (x%y) u1 u2 (u1+x/y*u2) v1 v2 (v1+x/y*v2) (!e) (by omega) hlt L' C' I hu2 b4 hv2'
    refine⟨a1,a2,d1,d2,e',r1,r2,r3,r4,r5,fun K=>?_⟩
    rw[Ek];unfold I8
    have G:x<18446744073709551616:=by omega
    have hdiv:x/y<18446744073709551616:=A3x (A4t _ _) G
    rw[show decide ((y:Int)>=(v2:Int))=true by simp;omega,show((true:Bool)==true)=true by rfl,ct,iS G hle,GN,Ib (show v1+v2<18446744073709551616 by omega),show decide (((x - y:Nat):Int)>=((v1+v2:Nat):Int))=true by rw[decide_eq_true_eq];omega,Ady,ct]
    unfold Uu
    rw[vr (by omega),cf,cf,XR,RW,Ib hdiv,rN,rN,Ib (show x/y*u2<18446744073709551616 by omega),Ib (show x/y*v2<18446744073709551616 by omega),GN,GN,Ib (show u1+x/y*u2<18446744073709551616 by omega),Ib (show v1+x/y*v2<18446744073709551616 by omega)]
    exact r6 K
   ·refine⟨u0,u1,v0,v1,e,C,T,I,b3,b4,fun K=>?_⟩
    rw[Ek];unfold I8
    rw[show decide ((y:Int)>=(v2:Int))=true by simp;omega,show((true:Bool)==true)=true by rfl,ct,iS (by omega) hle,GN,Ib (show v1+v2<18446744073709551616 by omega),show decide (((x - y:Nat):Int)>=((v1+v2:Nat):Int))=false by rw[decide_eq_false_iff_not];omega,Ady,cf]
    rfl
  ·refine⟨u0,u1,v0,v1,e,C,T,I,b3,b4,fun K=>?_⟩
   rw[Ek];unfold I8
   rw[show decide ((y:Int)>=(v2:Int))=false by simp;omega];rfl
def jY{N:Nat}{a:List Nat}{n:Nat}{t o:Bool}{i:Nat}{K:Int->O R}(k:n=a.length)(D:Af a):Lb N (i:Int) (Ad a) n t o K=K ((a.getD i 0:Nat):Int):=by
 subst k
 rw[CP];unfold Z1
 by_cases h:i<a.length
 ·have:=A3 D h
  rw[Ox h,ct,Aa h,ct,OY h,Ib (by omega),A2z,A2r h];rfl
 ·rw[Rc (by omega),cf,A2z,A31 (by omega)];rfl
def Y6{a:List Nat}(k:Af a)(i:Nat):a.getD i 0<4294967296:=by
 by_cases h:i<a.length
 ·rw[A2z,A2r h];exact A3 k h
 ·rw[A2z,A31 (by omega)];simp
def Aqj{a:List Nat}{n:Nat}(I:a.length<=n+3):val a=val (a.take n)+4294967296 ^ n*((a.getD (n+2) 0*4294967296+a.getD (n+1) 0)*4294967296+a.getD n 0):=by
 have k:=Qp a (n+2)
 have D:=Qp a (n+1)
 have G:=Qp a n
 rw[A2t (by omega)]at k
 have x1:4294967296 ^ (n+2)*a.getD (n+2) 0=4294967296 ^ n*(a.getD (n+2) 0*4294967296*4294967296):=by rw[A25 (n:=4294967296) (m:=n+1),A25,Axn,Axn]
 have x2:4294967296 ^ (n+1)*a.getD (n+1) 0=4294967296 ^ n*(a.getD (n+1) 0*4294967296):=by rw[A25,Axn]
 rw[k,D,G,x1,x2,A23,A21,A21];omega
def mX{N:Nat}{a:List Nat}{m n s:Nat}{t o:Bool}{K:Int->O R}(T:m=a.length)(G:Af a)(hl:a.length<=n+3)(hs:s<=31)(D:a.getD (n+2) 0*2 ^ s<4294967296)(hn:n<=1000000000000):
  GQ N (Ad a) m t o ((n+3:Nat):Int) (s:Int) K=K ((val a/(4294967296 ^ n*2 ^ (32 - s)):Nat):Int)/\val a/(4294967296 ^ n*2 ^ (32 - s))<18446744073709551616:=by
 have hp:0<2 ^ s:=A4l (by omega)
 have I:0<2 ^ (32 - s):=A4l (by omega)
 have hP:0<4294967296 ^ n:=A4l (by omega)
 have k:2 ^ s*2 ^ (32 - s)=4294967296:=by rw[<-A32,show s+(32 - s)=32 by omega]
 have b0:=Y6 G (n+2)
 have b1:=Y6 G (n+1)
 have b2:=Y6 G n
 have tk:=Bi (Co G n)
 have vu:val (a.take n)<4294967296 ^ n:=by
  refine A3e tk (A3t (by omega) ?_)
  rw[A3b];omega
 have hv:=Aqj hl
 generalize Y:a.getD (n+2) 0=a0 at *
 generalize ha1:a.getD (n+1) 0=a1 at *
 generalize ha2:a.getD n 0=a2 at *
 have hd0:a0<2 ^ (32 - s):=by
  rw[<-k,A2w]at D;exact A5h D
 have L:(a0*4294967296+a1)*2 ^ s<18446744073709551616:=by
  have x1:(a0+1)*4294967296<=2 ^ (32 - s)*4294967296:=A2x _ hd0
  have x2:a0*4294967296+a1<2 ^ (32 - s)*4294967296:=by rw[A23]at x1;omega
  have x3:=(A5n hp).2 x2
  rw[A63,A2w (2 ^ (32 - s)),k]at x3
  exact x3
 have hsh:a2/2 ^ (32 - s)<2 ^ s:=by
  rw[A7i I,k];exact b2
 have hq:val a/(4294967296 ^ n*2 ^ (32 - s))=(a0*4294967296+a1)*2 ^ s+a2/2 ^ (32 - s):=by
  rw[<-A7b,hv,A5m _ _ hP,A4a vu,A22]
  have:(a0*4294967296+a1)*4294967296+a2=a2+2 ^ (32 - s)*((a0*4294967296+a1)*2 ^ s):=by
   rw[A45,A2w (2 ^ (32 - s)),k];omega
  rw[this,A5m _ _ I];omega
 have hb:(a0*4294967296+a1)*2 ^ s+a2/2 ^ (32 - s)<18446744073709551616:=by
  have hdv:2 ^ s*2 ^ (64 - s)=18446744073709551616:=by rw[<-A32,show s+(64 - s)=64 by omega]
  obtain⟨r,hr⟩:∃ r,18446744073709551616=2 ^ s*r:=⟨2 ^ (64 - s),hdv.symm⟩
  rw[hr,A2w]at L
  have x1:=A5h L
  have x2:(a0*4294967296+a1+1)*2 ^ s<=r*2 ^ s:=A2x _ x1
  rw[A23,A2w r,<-hr]at x2
  omega
 rw[hq]
 refine⟨?_,hb⟩
 rw[XA];unfold ZD
 have w1:wrap .i64 (((n+3:Nat):Int) - 1)=((n+2:Nat):Int):=by rw[i64 (by omega)];omega
 have w2:wrap .i64 (((n+3:Nat):Int) - 2)=((n+1:Nat):Int):=by rw[i64 (by omega)];omega
 have w3:wrap .i64 (((n+3:Nat):Int) - 3)=(n:Int):=by rw[i64 (by omega)];omega
 have w4:wrap .i64 ((32:Int) - (s:Int))=((32 - s:Nat):Int):=by rw[i64 (by omega)];omega
 rw[w1,w2,w3,w4,jY T G,jY T G,show decide ((s:Int)<0)=false by simp,cf,jY T G,show decide (((32 - s:Nat):Int)<0)=false by simp,cf]
 rw[Y,ha1,ha2,Av2 b0 b1,A2u,A2u,A3h (by omega),A3h (by omega),Q5,show(2:Int) ^ s=((2 ^ s:Nat):Int) by simp,rN,Ib L,Ah4 L (by omega),iU hsh]
def Atg{k N:Nat}(h:fit k N):1000<=N:=by have:=h.1;omega
def Aa1{N:Nat}{a b:List Nat}{n m:Nat}{t o t' o':Bool}(hn:n=a.length)(hm:m=b.length)(ha:Af a)(hb:Af b)(L:3<=a.length)(G:a.getLast (by intro h;rw[h]at L;simp at L)≠0)(hlb:b.length<=a.length)(hle:val b<=val a)(hf:fit a.length N):
  ∃(a1 a2 T b2:Nat)(e:Bool),Azg (val a) (val b) a1 a2 T b2 e/\a1<18446744073709551616/\a2<18446744073709551616/\T<18446744073709551616/\b2<18446744073709551616/\∀ K:LA->O R,Z2 N (Ad a) n t o (Ad b) m t' o' K=K (Akq a1 a2 T b2 e):=by
 subst hn hm
 have h1:=hf.1;have h2:=hf.2
 obtain⟨k,hk⟩:∃ k,a.length=k+3:=⟨a.length - 3,by omega⟩
 have hla2:a[k+2]'(by omega)≠0:=by
  rw[A59]at G
  simp only[hk]at G
  exact G
 have ak:=A3 ha (show k+2<a.length by omega)
 obtain⟨s,s1,s2,s3,s4⟩:=Akn (R:=R) (N:=N) (c:=a[k+2]'(by omega)) (by omega) ak
 have hag:a.getD (k+2) 0=a[k+2]'(by omega):=by rw[A2z,A2r (by omega)];rfl
 have I:b.getD (k+2) 0<=a[k+2]'(by omega):=by
  apply A5k;intro D
  have hbl:k+2<b.length:=by
   apply A7q;intro hge
   rw[A2z,A31 hge]at D;simp at D
  have hbg:b.getD (k+2) 0=b[k+2]:=by rw[A2z,A2r hbl];rfl
  rw[hbg]at D
  have x1:=LB ha (n:=k+2) (by omega)
  have x2:=Aic hbl
  have x3:(a[k+2]+1)*4294967296 ^ (k+2)<=b[k+2]*4294967296 ^ (k+2):=A2x _ D
  rw[A2w]at x2
  omega
 have hbt:b.getD (k+2) 0*2 ^ s<4294967296:=A3x (A2x _ I) s3
 have hPP:0<4294967296 ^ k*2 ^ (32 - s):=A8i (A4l (by omega)) (A4l (by omega))
 have wa:=fun K=>mX (R:=R) (N:=N) (a:=a) (m:=a.length) (n:=k) (s:=s) (t:=false) (o:=o) (K:=K) rfl ha (by omega) s1 (by rw[hag];exact s3) (by omega)
 have wb:=fun K=>mX (R:=R) (N:=N) (a:=b) (m:=b.length) (n:=k) (s:=s) (t:=false) (o:=o') (K:=K) rfl hb (by omega) s1 hbt (by omega)
 have hX:=(wa fun _=>none).2
 generalize hP:4294967296 ^ k*2 ^ (32 - s)=P at *
 have hYX:val b/P<=val a/P:=Nat.div_le_div_right hle
 have q1:∀ z,z/P*P<=z:=fun z=>Nat.div_mul_le_self z P
 have q2:∀ z,z<(z/P+1)*P:=fun z=>by
  have:=A4c z P;have:=A4r z hPP
  rw[A23,A2w];omega
 obtain⟨a1,a2,T,b2,e,r1,r2,r3,r4,r5,r6⟩:=Am9 (R:=R) (N:=N) (X:=val a/P) (Y:=val b/P) (A:=val a) (B:=val b) (P:=P) hX hYX (q1 _) (q2 _) (q1 _) (q2 _) 128 N (val a/P) (val b/P) 0 1 0 0 0 1 false (by omega) (by
  have:=A33 hX (A3x hYX hX)
  exact this) (Lead.init hYX) (.inl rfl) (by omega) (by omega) (by omega) (by omega)
 refine⟨a1,a2,T,b2,e,r1,r2,r3,r4,r5,fun K=>?_⟩
 rw[QS];unfold CQ
 have w1:wrap .i64 ((a.length:Int) - 1)=((k+2:Nat):Int):=by rw[i64 (by omega)];omega
 rw[w1,Aa (by omega),ct,OY (by omega),s4,show(a.length:Int)=((k+3:Nat):Int) by rw[hk],(wa _).1,(wb _).1]
 exact r6 K
def Yg{N:Nat}{a b:List Nat}{n m:Nat}{x y:Nat}{t o t' o':Bool}(hn:n=a.length)(hm:m=b.length)(L:Af a)(T:Af b)(D:x<18446744073709551616)(G:y<18446744073709551616)(I:val b*y<=val a*x)(k:fit (a.length+b.length+4) N):
  ∃ S,Af S/\val S=val a*x - val b*y/\∀ K:Nat->LA->O R,G6 N (Ad a) n t o (x:Int) (Ad b) m t' o' (y:Int) K=K (Ak (val a*x - val b*y)).length (Ad S):=by
 subst hn hm
 have h1:=k.1;have h2:=k.2
 obtain⟨Sx,x1,x2,x3⟩:=J9 (R:=R) (N:=N) D (by omega)
 obtain⟨Sy,y1,y2,y3⟩:=J9 (R:=R) (N:=N) G (by omega)
 have lx:=KZ D
 have ly:=KZ G
 obtain⟨P1,p1,p2,Y⟩:=RV (R:=R) (N:=N) (a:=a) (b:=Ak x) (t:=false) (o:=o) (t':=false) (o':=true) rfl rfl L (Ac _) (k.le (by omega))
 obtain⟨P2,q1,q2,q3⟩:=RV (R:=R) (N:=N) (a:=b) (b:=Ak y) (t:=false) (o:=o') (t':=false) (o':=true) rfl rfl T (Ac _) (k.le (by omega))
 rw[Ae]at p2 Y q2 q3
 have l1:(Ak (val a*x)).length<=a.length+2:=C7 (by
  have:=A33 (Bi L) D
  rw[A32];exact this)
 have l2:(Ak (val b*y)).length<=b.length+2:=C7 (by
  have:=A33 (Bi T) G
  rw[A32];exact this)
 obtain⟨S,s1,s2,s3⟩:=se (R:=R) (N:=N) (a:=Ak (val a*x)) (b:=Ak (val b*y)) (t:=false) (o:=true) (t':=false) (o':=true) rfl rfl (Ac _) (Ac _) (k.le (by omega)) (by rw[Ae,Ae];exact I)
 rw[Ae,Ae]at s2 s3
 refine⟨S,s1,s2,fun K=>?_⟩
 rw[QX];unfold QW
 have tx:take ((Ak x).length*1) (Ad Sx)=Ad (Ak x):=by rw[<-x2,Lc x1]
 have ty:take ((Ak y).length*1) (Ad Sy)=Ad (Ak y):=by rw[<-y2,Lc y1]
 have t1:take ((Ak (val a*x)).length*1) (Ad P1)=Ad (Ak (val a*x)):=by rw[<-p2,Lc p1]
 have t2:take ((Ak (val b*y)).length*1) (Ad P2)=Ad (Ak (val b*y)):=by rw[<-q2,Lc q1]
 rw[x3,tx,Y,y3,ty,q3,t1,t2,s3]
def Ana{N:Nat}(hN:4<=N):∀(k D x y:Nat),k<D->x*y<2 ^ k->y<=x->x<18446744073709551616->∃ S,Af S/\val S=Nat.gcd x y/\∀(I:LA->Nat->Bool->LA->Nat->Bool->O R)(K:Nat->LA->O R),Qi N I K D (x:Int) (y:Int)=K (Ak (Nat.gcd x y)).length (Ad S):=by
 have base:∀(D x:Nat),x<18446744073709551616->∃ S,Af S/\val S=Nat.gcd x 0/\∀(I:LA->Nat->Bool->LA->Nat->Bool->O R)(K:Nat->LA->O R),Qi N I K (D+1) (x:Int) ((0:Nat):Int)=K (Ak (Nat.gcd x 0)).length (Ad S):=by
  intro D x L
  obtain⟨S,s1,s2,Y⟩:=J9 (R:=R) (N:=N) L hN
  refine⟨S,s1,by rw[s2,A48],fun I K=>?_⟩
  rw[Qi];unfold JO
  rw[show(((0:Nat):Int) != 0)=false by rfl,cf,Y,A48]
 intro k
 induction k with
| zero =>
  intro D x y hf G T L
  obtain⟨D,rfl⟩:∃ F,D=F+1:=⟨D - 1,by omega⟩
  have hy:y=0:=by
   rcases A3j y with h|h
   ·exact h
   ·have h3:=A3f x (show 1<=y by omega)
    rw[A7c]at G;omega
  subst hy
  exact base D x L
| succ k ih =>
  intro D x y hf G T L
  obtain⟨D,rfl⟩:∃ F,D=F+1:=⟨D - 1,by omega⟩
  rcases A3j y with h|h
  ·subst h;exact base D x L
  ·have hh:=RZ (show 1<=y by omega) T
   have hm:=A4r x h
   obtain⟨S,s1,s2,Y⟩:=ih D y (x%y) (by omega) (by rw[A25]at G;omega) (by omega) (by omega)
   have hg:Nat.gcd y (x%y)=Nat.gcd x y:=by rw[A4n,<-A8h,A4n]
   rw[hg]at s2 Y
   refine⟨S,s1,s2,fun I K=>?_⟩
   rw[Qi];unfold JO
   rw[show((y:Int) != 0)=true by rw[bne_iff_ne];omega,ct,vr (by omega),cf,RW]
   exact Y I K
def xw{a b u v s t x y:Nat}(D:x+v*b=u*a)(G:y+s*a=t*b)(k:u*t=v*s+1):t*x+v*y=a/\s*x+u*y=b:=by
 constructor
 ·have I:t*x+t*v*b=t*u*a:=by rw[A20,A20,<-A21,D]
  have L:v*y+v*s*a=v*t*b:=by rw[A20,A20,<-A21,G]
  have T:t*u*a=v*s*a+a:=by rw[A2w t u,k,A23,A8j]
  have Y:t*v*b=v*t*b:=by rw[A2w t v]
  omega
 ·have I:s*x+s*v*b=s*u*a:=by rw[A20,A20,<-A21,D]
  have L:u*y+u*s*a=u*t*b:=by rw[A20,A20,<-A21,G]
  have T:u*t*b=v*s*b+b:=by rw[k,A23,A8j]
  have Y:s*u*a=u*s*a:=by rw[A2w s u]
  have h5:s*v*b=v*s*b:=by rw[A2w s v]
  omega
def xx{A B a b p q r s:Nat}(hA:p*a+q*b=A)(hB:r*a+s*b=B)(k:1<=p)(hq:1<=q)(hr:1<=r)(D:b<=a):2*(a*b)<=A*B/\a<=A:=by
 have L:=A2x a k
 have T:=A2x b hq
 have Y:=A2x a hr
 have G:2*b<=A:=by omega
 have I:a<=B:=by omega
 have:=A46 G I
 refine⟨?_,by omega⟩
 rw[A2w a b,<-A20];exact this
def Av6{u0 u1 v0 v1:Nat}{e:Bool}:setCells [.int .u64 0,.int .u64 0,.int .u64 0,.int .u64 0,.bool false] 0 (Akq u0 u1 v0 v1 e)=Akq u0 u1 v0 v1 e:=rfl
def Aer{N:Nat}:∀(k D A B:Nat)(d f:Bool),k<D->A*B<2 ^ k->B<=A->fit (2*(Ak A).length+4) N->∃ S,Af S/\val S=Nat.gcd A B/\∀ K:Nat->LA->O R,E5 N K D (Ad (Ak A)) (Ak A).length d (Ad (Ak B)) (Ak B).length f=K (Ak (Nat.gcd A B)).length (Ad S):=by
 have base:∀(D A:Nat)(d f:Bool),fit (2*(Ak A).length+4) N->∃ S,Af S/\val S=Nat.gcd A 0/\∀ K:Nat->LA->O R,E5 N K (D+1) (Ad (Ak A)) (Ak A).length d (Ad (Ak 0)) (Ak 0).length f=K (Ak (Nat.gcd A 0)).length (Ad S):=by
  intro D A d f I
  refine⟨Ak A,Ac _,by rw[Ae,A48],fun K=>?_⟩
  rw[E5];unfold Z6
  rw[D6,show decide (((([]:List Nat).length:Nat):Int)>0)=false by decide,cf,VC rfl (Ac _) (I.le (by omega)),Ae,A48]
 intro k
 induction k with
| zero =>
  intro D A B d f hfu Y T I
  obtain⟨D,rfl⟩:∃ F,D=F+1:=⟨D - 1,by omega⟩
  have hy:B=0:=by
   rcases A3j B with h|h
   ·exact h
   ·have h3:=A3f A (show 1<=B by omega)
    rw[A7c]at Y;omega
  subst hy
  exact base D A d f I
| succ k ih =>
  intro D A B d f hfu Y T I
  have h1:=I.1;have h2:=I.2
  obtain⟨D,rfl⟩:∃ F,D=F+1:=⟨D - 1,by omega⟩
  rcases A3j B with h|h
  ·subst h;exact base D A d f I
  have hll:=By T
  have hbl:(Ak B).length≠0:=fun h0=>by have:=Br.1 h0;omega
  have hd0:decide ((((Ak B).length:Nat):Int)>0)=true:=by rw[decide_eq_true_eq];omega
  by_cases ha2:(Ak A).length<=2
  ·have av:=eB ha2
   obtain⟨S,s1,s2,s3⟩:=Ana (R:=R) (N:=N) (by omega) 128 N A B (by omega) (by have:=A33 av (A3x T av);exact this) T av
   refine⟨S,s1,s2,fun K=>?_⟩
   rw[E5];unfold Z6
   rw[hd0,ct,show decide ((((Ak A).length:Nat):Int)<=2)=true by rw[decide_eq_true_eq];omega,ct,HO rfl (Ac _) ha2 (by omega),HO rfl (Ac _) (by omega) (by omega),Ae,Ae]
   exact s3 _ K
  ·have hd2:decide ((((Ak A).length:Nat):Int)<=2)=false:=by rw[decide_eq_false_iff_not];omega
   obtain⟨a1,a2,G,L,e,r1,r2,r3,r4,r5,r6⟩:=Aa1 (R:=R) (N:=N) (a:=Ak A) (b:=Ak B) (t:=false) (o:=d) (t':=false) (o':=f) rfl rfl (Ac _) (Ac _) (by omega) (rM _ _) hll (by rw[Ae,Ae];exact T) (I.le (by omega))
   rw[Ae,Ae]at r1
   have start:∀ K:Nat->LA->O R,E5 N K (D+1) (Ad (Ak A)) (Ak A).length d (Ad (Ak B)) (Ak B).length f=cond ((G:Int)==0) (Fm N (Ad (Ak A)) (Ak A).length false d (Ad (Ak B)) (Ak B).length false f fun bm ag bn bo ar=>E5 N K D (Ad (Ak B)) (Ak B).length f (take (ag*1) ar) ag false) (cond e (G6 N (Ad (Ak A)) (Ak A).length false d (a1:Int) (Ad (Ak B)) (Ak B).length false f (G:Int) fun ah ax=>G6 N (Ad (Ak B)) (Ak B).length false f (L:Int) (Ad (Ak A)) (Ak A).length false d (a2:Int) fun ai ba=>E5 N K D (take (ah*1) ax) ah false (take (ai*1) ba) ai false) (G6 N (Ad (Ak B)) (Ak B).length false f (G:Int) (Ad (Ak A)) (Ak A).length false d (a1:Int) fun aj bd=>G6 N (Ad (Ak A)) (Ak A).length false d (a2:Int) (Ad (Ak B)) (Ak B).length false f (L:Int) fun ak bg=>E5 N K D (take (aj*1) bd) aj false (take (ak*1) bg) ak false)):=by
    intro K
    rw[E5];unfold Z6
    rw[hd0,ct,hd2,cf,r6,Av6]
    rfl
   by_cases hb1:G=0
   ·obtain⟨Sq,Sr,q1,q2,q3,q4,q5⟩:=RY (R:=R) (N:=N) (a:=Ak A) (b:=Ak B) (t:=false) (o:=d) (t':=false) (o':=f) rfl rfl (Ac _) (Ac _) (by rw[Ae];omega) (I.le (by omega))
    rw[Ae,Ae]at q2 q4 q5
    have hm:=A4r A h
    have hh:=RZ (show 1<=B by omega) T
    obtain⟨S,s1,s2,s3⟩:=ih D B (A%B) f false (by omega) (by rw[A25]at Y;omega) (by omega) (I.le (by omega))
    have hg:Nat.gcd B (A%B)=Nat.gcd A B:=by rw[A4n,<-A8h,A4n]
    rw[hg]at s2 s3
    refine⟨S,s1,s2,fun K=>?_⟩
    have tk:take ((Ak (A%B)).length*1) (Ad Sr)=Ad (Ak (A%B)):=by rw[<-q4,Lc q3]
    rw[start,A08 hb1,ct,q5,tk,s3]
   ·rcases r1 with r1|⟨p1,p2,r1⟩
    ·exact absurd r1 hb1
    cases e with
    |true =>
     obtain⟨c1,c2,c3,c4⟩:=r1
     obtain⟨S1,t1,t2,t3⟩:=Yg (R:=R) (N:=N) (a:=Ak A) (b:=Ak B) (x:=a1) (y:=G) (t:=false) (o:=d) (t':=false) (o':=f) rfl rfl (Ac _) (Ac _) r2 r4 (by rw[Ae,Ae,A2w,A2w A];exact c1) (I.le (by omega))
     obtain⟨S2,w1,w2,w3⟩:=Yg (R:=R) (N:=N) (a:=Ak B) (b:=Ak A) (x:=L) (y:=a2) (t:=false) (o:=f) (t':=false) (o':=d) rfl rfl (Ac _) (Ac _) r5 r3 (by rw[Ae,Ae,A2w,A2w B];exact c2) (I.le (by omega))
     rw[Ae,Ae]at t2 t3 w2 w3
     have g1:(A*a1 - B*G)+G*B=a1*A:=by rw[A2w A,A2w B];omega
     have g2:(B*L - A*a2)+a2*A=L*B:=by rw[A2w A,A2w B];omega
     have hba:B*L - A*a2<=A*a1 - B*G:=by rw[A23,A23]at c3;omega
     obtain⟨i1,i2⟩:=xw g1 g2 c4
     have hg:=Adp g1 g2 c4
     obtain⟨i3,i4⟩:=xx i1 i2 p2 (by omega) p1 hba
     have hl:=By i4
     obtain⟨S,s1,s2,s3⟩:=ih D (A*a1 - B*G) (B*L - A*a2) false false (by omega) (by rw[A25]at Y;omega) hba (I.le (by omega))
     rw[hg]at s2 s3
     refine⟨S,s1,s2,fun K=>?_⟩
     have tk1:take ((Ak (A*a1 - B*G)).length*1) (Ad S1)=Ad (Ak (A*a1 - B*G)):=by rw[<-t2,Lc t1]
     have vu:take ((Ak (B*L - A*a2)).length*1) (Ad S2)=Ad (Ak (B*L - A*a2)):=by rw[<-w2,Lc w1]
     rw[start,vr hb1,cf,ct,t3,w3,tk1,vu,s3]
    |false =>
     obtain⟨c1,c2,c3,c4⟩:=r1
     obtain⟨S1,t1,t2,t3⟩:=Yg (R:=R) (N:=N) (a:=Ak B) (b:=Ak A) (x:=G) (y:=a1) (t:=false) (o:=f) (t':=false) (o':=d) rfl rfl (Ac _) (Ac _) r4 r2 (by rw[Ae,Ae,A2w,A2w B];exact c1) (I.le (by omega))
     obtain⟨S2,w1,w2,w3⟩:=Yg (R:=R) (N:=N) (a:=Ak A) (b:=Ak B) (x:=a2) (y:=L) (t:=false) (o:=d) (t':=false) (o':=f) rfl rfl (Ac _) (Ac _) r3 r5 (by rw[Ae,Ae,A2w,A2w A];exact c2) (I.le (by omega))
     rw[Ae,Ae]at t2 t3 w2 w3
     have g1:(B*G - A*a1)+a1*A=G*B:=by rw[A2w A,A2w B];omega
     have g2:(A*a2 - B*L)+L*B=a2*A:=by rw[A2w A,A2w B];omega
     have hba:A*a2 - B*L<=B*G - A*a1:=by rw[A23,A23]at c3;omega
     obtain⟨i1,i2⟩:=xw g2 g1 c4
     have hg:=Adp g2 g1 c4
     rw[A4n]at hg
     rw[A6c]at i1 i2
     obtain⟨i3,i4⟩:=xx i1 i2 p2 (by omega) p1 hba
     have hl:=By i4
     obtain⟨S,s1,s2,s3⟩:=ih D (B*G - A*a1) (A*a2 - B*L) false false (by omega) (by rw[A25]at Y;omega) hba (I.le (by omega))
     rw[hg]at s2 s3
     refine⟨S,s1,s2,fun K=>?_⟩
     have tk1:take ((Ak (B*G - A*a1)).length*1) (Ad S1)=Ad (Ak (B*G - A*a1)):=by rw[<-t2,Lc t1]
     have vu:take ((Ak (A*a2 - B*L)).length*1) (Ad S2)=Ad (Ak (A*a2 - B*L)):=by rw[<-w2,Lc w1]
     rw[start,vr hb1,cf,cf,t3,w3,tk1,vu,s3]
def Aes(n m:Nat):4294967296 ^ n*4294967296 ^ m=2 ^ (32*(n+m)):=by rw[<-A32,show(4294967296:Nat)=2 ^ 32 by rfl,<-A96]
def Aqk{N:Nat}{a b:List Nat}{n m:Nat}{t o t' o':Bool}(Y:n=a.length)(hm:m=b.length)(I:Af a)(L:Af b)(D:fit (2*(a.length+b.length)+4) N):
  ∃ S,Af S/\val S=Nat.gcd (val a) (val b)/\∀ K:Nat->LA->O R,ZN N (Ad a) n t o (Ad b) m t' o' K=K (Ak (Nat.gcd (val a) (val b))).length (Ad S):=by
 have h1:=D.1;have h2:=D.2
 have la:=(Bm I).2
 have lb:=(Bm L).2
 have k:val a*val b<2 ^ (32*(a.length+b.length)):=by rw[<-Aes];exact A33 (Bi I) (Bi L)
 have start:∀ K:Nat->LA->O R,ZN N (Ad a) n t o (Ad b) m t' o' K=cond (decide (Hj (val a) (val b)<0)) (E5 N K N (Ad (Ak (val b))) (Ak (val b)).length o' (Ad (Ak (val a))) (Ak (val a)).length o) (E5 N K N (Ad (Ak (val a))) (Ak (val a)).length o (Ad (Ak (val b))) (Ak (val b)).length o'):=by
  intro K
  rw[rZ];unfold pR US ZM
  rw[Bz Y I (D.le (by omega)),Bz hm L (D.le (by omega)),Qo rfl rfl (Ac _) (Ac _) (D.le (by omega)),Ae,Ae]
 by_cases G:val a<val b
 ·obtain⟨S,s1,s2,T⟩:=Aer (R:=R) (N:=N) (32*(a.length+b.length)) N (val b) (val a) o' o (by omega) (by rw[A2w];exact k) (by omega) (D.le (by omega))
  rw[A4n]at s2
  refine⟨S,s1,s2,fun K=>?_⟩
  rw[start,show decide (Hj (val a) (val b)<0)=true by(unfold Hj;rw[if_pos G];rfl),ct,T,A4n]
 ·obtain⟨S,s1,s2,T⟩:=Aer (R:=R) (N:=N) (32*(a.length+b.length)) N (val a) (val b) o o' (by omega) k (by omega) (D.le (by omega))
  refine⟨S,s1,s2,fun K=>?_⟩
  rw[start,show decide (Hj (val a) (val b)<0)=false by(unfold Hj;rw[if_neg G];split<;>rfl),cf,T]
end
end Gx
namespace Gx
open Go Go.Proofs
set_option maxRecDepth 100000
noncomputable section
variable{R:Type}(N:Nat)
def Ph(N:Nat)(r0:Int->O R)(a b:Nat)(c d:LA)(k0:Int->O R)(f:Int):O R:=(cond (decide (f>=0)) (cond (Ab f a) (Aj .u32 (c.drop (0+(f.toNat*1))) fun q=>cond (Ab f b) (Aj .u32 (d.drop (0+(f.toNat*1))) fun r=>cond (decide (q<r)) (r0 (-1)) (cond (Ab f a) (Aj .u32 (c.drop (0+(f.toNat*1))) fun s=>cond (Ab f b) (Aj .u32 (d.drop (0+(f.toNat*1))) fun t=>cond (decide (s>t)) (r0 1) (k0 (wrap .i64 (f - 1)))) none) none)) none) none) (r0 0))
def Ha(r0:Int->O R)(a b:Nat)(c d:LA):Nat->Int->O R
|0=>fun _=>none
|n+1=>Ph N r0 a b c d (Ha r0 a b c d n)
def Yh(r0:Int->O R)(q0:Nat->Nat->LA->LA->Int->O R)(g:LA)(h:Nat)(o i:Bool)(j:LA)(l:Nat)(p m:Bool):O R:=(D8 N g h false i fun a c=>D8 N j l false m fun b d=>cond ((a:Int) != (b:Int)) (cond (decide ((a:Int)<(b:Int))) (r0 (-1)) (r0 1)) (q0 a b c d (wrap .i64 ((a:Int) - 1))))
def Vp:=(shut fun N g h o i j l p m r0=>Yh (R:=R) N r0 (fun a b c d=>Ha N r0 a b c d N) g h o i j l p m).1
def NZ(g h o i j l p m r0):(@Vp R N g h o i j l p m r0)=(Yh N r0 (fun a b c d=>Ha N r0 a b c d N) g h o i j l p m):=by rw[Vp,(shut _).2]
def XS:Oe:=[Ii N]
def sj(F:KF R):=Iv Tryz.f194 xT (XS N) [] N F
def sp(a b:Nat)(c d:LA)(K:St->O R):=fun f=>K ⟨[(0,Bbq 0 a),(1,Bbq 1 b),(5,iv f)],hq [bQ 1 c,bQ 1 d]⟩
def eG(F:KF R)(a b c d):∀ n,sp a b c d (Ao (sj N F (pz 5444) []) n)=(Ha N (Ee F) a b c d n):=Gu fun n e=>(B6 (Ph N (Ee F) a b c d) e:_)
def vw:=Cc N 194 (XS N) xT (fun
|[.imm g h 1 o i,.imm j l 1 p m],[]=>some fun _ k=>Vp N g h o i j l p m (Ee k)
| _,_=>none) fun _ _=>by split;intro R F;exact(B6 (Yh N (Ee F) · _ _ _ _ _ _ _ _) (Aoq fun a b c d=>(lW ..).trans (eG ..)):_).trans (NZ ..).symm;trivial
def AI(N:Nat)(k0:Int->Int->LA->O R)(r0:Nat->Bool->LA->O R)(a b:Nat)(c d f:LA)(g s:Int):O R:=(cond (Ab g a) (Aj .u32 (c.drop (0+(g.toNat*1))) fun u=>cond (decide ((wrap .u64 u)<s)) (cond (Ab g a) (cond ((beq 1 1)&&((ble ((0+(g.toNat*1))+1) f.length)&&(!false))) (k0 1 (wrap .i64 (g+1)) (f.set (0+(g.toNat*1)) (.int .u32 (wrap .u32 (wrap .u64 ((wrap .u64 ((wrap .u64 u)+4294967296)) - s)))))) none) none) (cond (Ab g a) (cond ((beq 1 1)&&((ble ((0+(g.toNat*1))+1) f.length)&&(!false))) (k0 0 (wrap .i64 (g+1)) (f.set (0+(g.toNat*1)) (.int .u32 (wrap .u32 (wrap .u64 ((wrap .u64 u) - s)))))) none) none)) none)
def DK(r0:Nat->Bool->LA->O R)(a b:Nat)(c d:LA)(k0:Int->Int->LA->O R)(q1:LA->Int->Int->O R)(t p:Int)(f:LA):O R:=(cond (decide (p<(a:Int))) (cond (decide (p<(b:Int))) (cond (Ab p b) (Aj .u32 (d.drop (0+(p.toNat*1))) fun v=>q1 f p (wrap .u64 (t+(wrap .u64 v)))) none) (q1 f p t)) (D8 N (f.take (a*1)) a false true fun w x=>r0 w true x))
def In(r0:Nat->Bool->LA->O R)(a b:Nat)(c d:LA):Nat->Int->Int->LA->O R
|0=>fun _ _ _=>none
|n+1=>DK N r0 a b c d (In r0 a b c d n) (fun f=>AI N (In r0 a b c d n) r0 a b c d f)
def eH(r0:Nat->Bool->LA->O R)(q0:Nat->Nat->LA->LA->Int->Int->LA->O R)(h:LA)(i:Nat)(q j:Bool)(l:LA)(m:Nat)(r o:Bool):O R:=(Vp N h i false j l m false o fun y=>cond (decide (y<0)) (r0 0 false []) (D8 N h i false j fun a c=>D8 N l m false o fun b d=>cond ((decide (0<=(a:Int)))&&((decide ((a:Int)<=(a:Int)))&&((decide ((a:Int)<=140737488355328))&&(decide (((a:Int)*((4:Nat):Int))<=140737488355328))))) (q0 a b c d 0 0 (replicate a (.int .u32 0))) none))
def LC:=(shut fun N h i q j l m r o r0=>eH (R:=R) N r0 (fun a b c d=>In N r0 a b c d N) h i q j l m r o).1
def mY(h i q j l m r o r0):(@LC R N h i q j l m r o r0)=(eH N r0 (fun a b c d=>In N r0 a b c d N) h i q j l m r o):=by rw[LC,(shut _).2]
def tA:Hints:={H:=hK 5 (hS (hK 1 (hS (hP [0,1,6,7,8] (hK 1 (hS (hS (hK 1 (hJ [0,1,6,8,9] hL hL)) hL) hL))) hL)) hL),nils:=[(4,1)],modes:=[(2,1),(0,0)]}
def xy:Oe:=[vw N,Ii N]
def tB(F:KF R):=Iv Tryz.f142 tA (xy N) [] N F
def Aie(a b:Nat)(c d f:LA)(K:St->O R):=fun g s=>K ⟨[(0,Bbq 0 a),(1,Bbq 1 b),(6,Bbq 2 a),(8,iv g),(9,.int .u64 s)],hq [bQ 1 c,bQ 1 d,bQ 1 f]⟩
def tC(a b:Nat)(c d:LA)(K:St->O R):=fun t p f=>K ⟨[(0,Bbq 0 a),(1,Bbq 1 b),(6,Bbq 2 a),(7,.int .u64 t),(8,iv p)],hq [bQ 1 c,bQ 1 d,bQ 1 f]⟩
def vz Q0 (F:KF R) (a b c d f):Aie a b c d f (A1 (tB N F (pz 357843205) [Q0]))=(AI N (tC a b c d Q0) (iN F) a b c d f):=by kernel_rfl
def wB(F:KF R)(a b c d):∀ n,tC a b c d (Ao (tB N F (pz 87364) []) n)=(In N (iN F) a b c d n):=Gu fun n e=>(QH (DK N (iN F) a b c d) e (vQ fun f=>(jW ..).trans ((vz ..).trans (xP (AI _ · _ _ _ _ _ _) e))):_)
def xz:=Cc N 142 (xy N) tA (fun
|[.imm h i 1 q j,.imm l m 1 r o],[]=>some fun _ k=>LC N h i q j l m r o (iN k)
| _,_=>none) fun _ _=>by split;intro R F;exact(B6 (eH N (iN F) · _ _ _ _ _ _ _ _) (Aoq fun a b c d=>(lW ..).trans (wB ..)):_).trans (mY ..).symm;trivial
def Lk(k1:Nat->Int->LA->LA->O R)(r0:Nat->Nat->Bool->LA->LA->O R)(b:LA)(a:Nat)(f c:Bool)(d:Nat)(h:Int)(g i:LA)(q:Nat)(s:LA):O R:=(LC N (s.take (q*1)) q false true (g.take (d*1)) d false true fun x y z=>cond y (cond (Ab (wrap .i64 (Int.tdiv h 32)) a) (Aj .u32 (i.drop (0+(((wrap .i64 (Int.tdiv h 32)).toNat)*1))) fun aa=>cond (decide ((wrap .u64 (Int.tmod h 32))<0)) none (cond (Ab (wrap .i64 (Int.tdiv h 32)) a) (cond ((beq 1 1)&&((ble ((0+(((wrap .i64 (Int.tdiv h 32)).toNat)*1))+1) i.length)&&(!false))) (k1 x (wrap .i64 (h - 1)) (i.set (0+(((wrap .i64 (Int.tdiv h 32)).toNat)*1)) (.int .u32 (Qe .u32 aa (wrap .u32 ((1:Int)*2 ^ (min ((wrap .u64 (Int.tmod h 32)).toNat) 32)))))) z) none) none)) none) (k1 q (wrap .i64 (h - 1)) i s))
def Rw(r0:Nat->Nat->Bool->LA->LA->O R)(b:LA)(a:Nat)(f c:Bool)(d:Nat)(g:LA)(k1:Nat->Int->LA->LA->O R)(q2:Int->LA->Nat->LA->O R)(j:Nat)(h:Int)(i r:LA):O R:=(cond (decide (h>=0)) (JZ N (r.take (j*1)) j false true (r.take (j*1)) j false true fun u v=>pS N b a false c h fun ab=>cond (ab==1) (JZ N (v.take (u*1)) u false true [.int .u32 1] 1 false true fun ac ad=>q2 h i ac ad) (q2 h i u v)) (D8 N (i.take (a*1)) a false true fun ae af=>D8 N (r.take (j*1)) j false true fun ag ah=>r0 ae ag true af ah))
def Fd(r0:Nat->Nat->Bool->LA->LA->O R)(b:LA)(a:Nat)(f c:Bool)(d:Nat)(g:LA):Nat->Nat->Int->LA->LA->O R
|0=>fun _ _ _ _=>none
|n+1=>Rw N r0 b a f c d g (Fd r0 b a f c d g n) (fun h i=>Lk N (Fd r0 b a f c d g n) r0 b a f c d h g i)
def AJ(r0:Nat->Nat->Bool->LA->LA->O R)(b:LA)(a:Nat)(f c:Bool)(d:Nat)(g:LA)(q1:Nat->Int->LA->LA->O R):O R:=(cond ((decide (0<=(a:Int)))&&((decide ((a:Int)<=(a:Int)))&&((decide ((a:Int)<=140737488355328))&&(decide (((a:Int)*((4:Nat):Int))<=140737488355328))))) (RD N b a false c fun ai=>q1 0 (wrap .i64 (ai - 1)) (replicate a (.int .u32 0)) []) none)
def O5(r0:Nat->Nat->Bool->LA->LA->O R)(b:LA)(a:Nat)(f c:Bool)(d:Nat)(g:LA):O R:=AJ N r0 b a f c d g (Fd N r0 b a f c d g N)
def DL(r0:Nat->Nat->Bool->LA->LA->O R)(q0:Nat->LA->O R)(b:LA)(a:Nat)(f c:Bool)(l:LA)(m:Nat)(p o:Bool):O R:=(D8 N l m false o fun d g=>cond ((d:Int)==0) (r0 0 0 false [] []) (T2 N b a false c fun w aj=>T2 N (g.take (d*1)) d false true fun t ak=>cond (aj==true) (cond (cond true ak false) (cond (t==0) none (G8 N (wrap .u64 (Int.tdiv w t)) fun al am=>cond (t==0) none (G8 N (Int.tmod w t) fun an ao=>r0 al an true am ao))) (q0 d g)) (q0 d g)))
def T6:=(shut fun N b a f c l m p o r0=>DL (R:=R) N r0 (fun d g=>O5 N r0 b a f c d g) b a f c l m p o).1
def R_(b a f c l m p o r0):(@T6 R N b a f c l m p o r0)=(DL N r0 (fun d g=>O5 N r0 b a f c d g) b a f c l m p o):=by rw[T6,(shut _).2]
def XT:Hints:={H:=hK 4 (hJ [0,1,5] hL (hK 1 (hS (hK 1 (hS (hP [0,1,4,5,11] (hK 1 (hS (hS (hK 1 (hJ [0,1,4,5,11] hL hL)) hL) hL))) hL)) hL))),nils:=[(4,1),(5,1)],modes:=[(2,1),(2,1),(0,0)]}
def eI:Oe:=[Ii N,Aai N,HF N,Ah8 N,xp N,Amy N,xz N]
def FQ(F:KF R):=Iv Tryz.f190 XT (eI N) [] N F
def wC(b:LA)(a:Nat)(f c:Bool)(d:Nat)(h:Int)(g i:LA)(K:St->O R):=fun q s=>K ⟨[(0,.imm b a 1 f c),(1,Bbq 0 d),(4,Bbq 1 a),(5,Bbq 2 q),(11,iv h)],hq [bQ 1 g,bQ 1 i,bQ 1 s]⟩
def XU(b:LA)(a:Nat)(f c:Bool)(d:Nat)(g:LA)(K:St->O R):=fun j h i r=>K ⟨[(0,.imm b a 1 f c),(1,Bbq 0 d),(4,Bbq 1 a),(5,Bbq 2 j),(11,iv h)],hq [bQ 1 g,bQ 1 i,bQ 1 r]⟩
def wD(b:LA)(a:Nat)(f c:Bool)(d:Nat)(g:LA)(K:St->O R):=K ⟨[(0,.imm b a 1 f c),(1,Bbq 0 d),(5,Bbq 1 0)],hq [bQ 1 g,bQ 1 []]⟩
def jZ Q1 (F:KF R) (b a f c d h g i):wC b a f c d h g i (A1 (FQ N F (pz 1431585029) [Q1]))=(Lk N (XU b a f c d g Q1) (l8 F) b a f c d h g i):=by kernel_rfl
def j0(F:KF R)(b a f c d g):∀ n,XU b a f c d g (Ao (FQ N F (pz 349508) []) n)=(Fd N (l8 F) b a f c d g n):=Gu fun n e=>(QH (Rw N (l8 F) b a f c d g) e (rD fun h i=>(jW ..).trans ((jZ ..).trans (xP (Lk _ · _ _ _ _ _ _ _ _ _) e))):_)
def j1(F:KF R)(b a f c d g):wD b a f c d g (A1 (FQ N F (pz 1365) []))=(O5 N (l8 F) b a f c d g):=(B6 (AJ N (l8 F) b a f c d g) ((lW ..).trans (j0 ..)):_)
def eJ:=Cc N 190 (eI N) XT (fun
|[.imm b a 1 f c,.imm l m 1 p o],[]=>some fun _ k=>T6 N b a f c l m p o (l8 k)
| _,_=>none) fun _ _=>by split;intro R F;exact(B6 (DL N (l8 F) · _ _ _ _ _ _ _ _) (rD fun d g=>(jW ..).trans (j1 ..)):_).trans (R_ ..).symm;trivial
def Qq(r0:Nat->LA->O R)(k0:Nat->Nat->LA->LA->O R)(l j:Nat)(m o:LA):O R:=(cond (decide ((j:Int)>0)) (T6 N (m.take (l*1)) l false true (o.take (j*1)) j false true fun v p w x q=>k0 j p o q) (r0 l m))
def Eo(r0:Nat->LA->O R):Nat->Nat->Nat->LA->LA->O R
|0=>fun _ _ _ _=>none
|n+1=>Qq N r0 (Eo r0 n)
def eM(r0:Nat->LA->O R)(q0:Nat->Nat->LA->LA->O R)(a:LA)(b:Nat)(h c:Bool)(d:LA)(f:Nat)(i g:Bool):O R:=(D8 N a b false c fun r s=>D8 N d f false g fun t u=>q0 r t s u)
def eN:=(shut fun N a b h c d f i g r0=>eM (R:=R) N r0 (Eo N r0 N) a b h c d f i g).1
def mZ(a b h c d f i g r0):(@eN R N a b h c d f i g r0)=(eM N r0 (Eo N r0 N) a b h c d f i g):=by rw[eN,(shut _).2]
def tD:Hints:={H:=hK 2 (hS (hS (hP [0,1] hL) hL) hL),nils:=[(4,1)],modes:=[(2,1)]}
def yA:Oe:=[Ii N,eJ N]
def Aif(F:KF R):=Iv Tryz.f189 tD (yA N) [] N F
def Aig(K:St->O R):=fun l j m o=>K ⟨[(0,Bbq 0 l),(1,Bbq 1 j)],hq [bQ 1 m,bQ 1 o]⟩
def wE(F:KF R):∀ n,Aig (Ao (Aif N F (pz 336) []) n)=(Eo N (Ge F) n):=Gu fun n e=>(B6 (Qq N (Ge F)) e:_)
def Anb:=Cc N 189 (yA N) tD (fun
|[.imm a b 1 h c,.imm d f 1 i g],[]=>some fun _ k=>eN N a b h c d f i g (Ge k)
| _,_=>none) fun _ _=>by split;intro R F;exact(B6 (eM N (Ge F) · _ _ _ _ _ _ _ _) ((lW ..).trans (wE ..)):_).trans (mZ ..).symm;trivial
def tE(a:LA)(b:Bool)(c:LA)(d:Bool)(r0:LA->O R):O R:=(Dd 1 (a.drop 1) fun g h=>Dd 1 (c.drop 1) fun i j=>eN N g h false b i j false d fun f l=>G7 N false (l.take (f*1)) f false true fun e=>cond ((beq 0 0)&&((beq e.length 2)&&(beq 2 2))) (cond (ble 2 e.length) (r0 (e.take 2)) none) none)
def pX:=(shut (@tE R)).1
def m8:@pX R=@tE R:=(shut _).2
def Anc:=Cc N 136 [Anb N,Mm N] G3 (fun
|[.pagg a b,.pagg c d],[]=>some fun _ k=>pX N a b c d (Dx k)
| _,_=>none) fun _ _=>by split;intro R F;dsimp only;rw[m8];kernel_rfl;trivial
def Aet(a:LA)(b:Bool)(r0:LA->O R):O R:=(Dd 1 (a.drop 1) fun d e=>G7 N false d e false b fun c=>cond ((beq 0 0)&&((beq c.length 2)&&(beq 2 2))) (cond (ble 2 c.length) (r0 (c.take 2)) none) none)
def Aa2:=(shut (@Aet R)).1
def Aeu:@Aa2 R=@Aet R:=(shut _).2
def Ane:=Cc N 191 [Mm N] G3 (fun
|[.pagg a b],[]=>some fun _ k=>Aa2 N a b (Dx k)
| _,_=>none) fun _ _=>by split;intro R F;dsimp only;rw[Aeu];kernel_rfl;trivial
def tF(a:LA)(c:Bool)(b:LA)(d:Bool)(r0:LA->O R):O R:=(Wg a fun l=>Wg b fun m=>cond (l==m) (Wg a fun n=>Dd 1 (a.drop 1) fun o p=>Dd 1 (b.drop 1) fun q r=>JZ N o p false c q r false d fun h s=>G7 N n (s.take (h*1)) h false true fun e=>cond ((beq 0 0)&&((beq e.length 2)&&(beq 2 2))) (cond (ble 2 e.length) (r0 (e.take 2)) none) none) (Dd 1 (a.drop 1) fun t u=>Dd 1 (b.drop 1) fun v w=>LC N t u false c v w false d fun i x y=>cond x (Wg a fun z=>G7 N z (y.take (i*1)) i false true fun f=>cond ((beq 0 0)&&((beq f.length 2)&&(beq 2 2))) (cond (ble 2 f.length) (r0 (f.take 2)) none) none) (Dd 1 (b.drop 1) fun aa ab=>Dd 1 (a.drop 1) fun ac ad=>LC N aa ab false d ac ad false c fun j ag ae=>Wg b fun af=>G7 N af (ae.take (j*1)) j false true fun g=>cond ((beq 0 0)&&((beq g.length 2)&&(beq 2 2))) (cond (ble 2 g.length) (r0 (g.take 2)) none) none)))
def DM:=(shut (@tF R)).1
def m9:@DM R=@tF R:=(shut _).2
def j2:=Cc N 81 [xp N,Mm N,xz N] G3 (fun
|[.pagg a c,.pagg b d],[]=>some fun _ k=>DM N a c b d (Dx k)
| _,_=>none) fun _ _=>by split;intro R F;dsimp only;rw[m9];kernel_rfl;trivial
def LD(a:Int)(r0:LA->O R):O R:=(cond (decide (a<0)) (G8 N (wrap .u64 ((wrap .u64 (wrap .i64 ((0:Int) - (wrap .i64 (a+1)))))+1)) fun d f=>G7 N true (f.take (d*1)) d false true fun b=>cond ((beq 0 0)&&((beq b.length 2)&&(beq 2 2))) (cond (ble 2 b.length) (r0 (b.take 2)) none) none) (G8 N (wrap .u64 a) fun e g=>G7 N false (g.take (e*1)) e false true fun c=>cond ((beq 0 0)&&((beq c.length 2)&&(beq 2 2))) (cond (ble 2 c.length) (r0 (c.take 2)) none) none))
def Mu:=(shut (@LD R)).1
def N_:@Mu R=@LD R:=(shut _).2
def XV:=Cc N 80 [HF N,Mm N] G3 (fun
|[.int .i64 a],[]=>some fun _ k=>Mu N a (Dx k)
| _,_=>none) fun _ _=>by split;intro R F;dsimp only;rw[N_];kernel_rfl;trivial
def tG(a:LA)(b:Bool)(r0:LA->O R):O R:=(Wg a fun d=>Dd 1 (a.drop 1) fun e f=>G7 N (!d) e f false b fun c=>cond ((beq 0 0)&&((beq c.length 2)&&(beq 2 2))) (cond (ble 2 c.length) (r0 (c.take 2)) none) none)
def DN:=(shut (@tG R)).1
def m_:@DN R=@tG R:=(shut _).2
def j3:=Cc N 138 [Mm N] G3 (fun
|[.pagg a b],[]=>some fun _ k=>DN N a b (Dx k)
| _,_=>none) fun _ _=>by split;intro R F;dsimp only;rw[m_];kernel_rfl;trivial
def Aev(a:LA)(c:Bool)(b:LA)(d:Bool)(r0:LA->O R):O R:=(cond (ble 2 a.length) (cond (ble 2 b.length) (DN N (b.take 2) d fun f=>DM N (a.take 2) c f false fun e=>cond ((beq 0 0)&&((beq e.length 2)&&(beq 2 2))) (cond (ble 2 e.length) (r0 (e.take 2)) none) none) none) none)
def Aa3:=(shut (@Aev R)).1
def Aew:@Aa3 R=@Aev R:=(shut _).2
def Anf:=Cc N 192 [j3 N,j2 N] G3 (fun
|[.pagg a c,.pagg b d],[]=>some fun _ k=>Aa3 N a c b d (Dx k)
| _,_=>none) fun _ _=>by split;intro R F;dsimp only;rw[Aew];kernel_rfl;trivial
def SA(g:LA)(i:Bool)(f:LA)(h:Bool)(r0:LA->LA->Bool->O R):O R:=(Dd 1 (g.drop 1) fun m n=>Dd 1 (f.drop 1) fun o p=>T6 N m n false i o p false h fun j l q r s=>cond (!q) (r0 [.bool false,.nsl] [.bool false,.nsl] false) (Wg g fun t=>Wg f fun u=>G7 N (!(t==u)) (r.take (j*1)) j false true fun a=>Wg g fun v=>G7 N v (s.take (l*1)) l false true fun b=>cond ((beq 0 0)&&((beq a.length 2)&&(beq 2 2))) (cond ((beq 0 0)&&((beq b.length 2)&&(beq 2 2))) (Wg b fun w=>cond w (cond (ble 2 b.length) (cond (ble 2 f.length) (Aa2 N (f.take 2) h fun x=>DM N (b.take 2) false x false fun c=>cond ((beq c.length 2)&&((ble 2 b.length)&&(!false))) (Wg f fun y=>cond y (cond (ble 2 a.length) (Mu N 1 fun z=>DM N (a.take 2) false z false fun d=>cond ((beq d.length 2)&&((ble 2 a.length)&&(!false))) (cond (ble 2 ((setCells a 0 d).length)) (cond (ble 2 ((setCells b 0 c).length)) (cond ((beq (((setCells a 0 d).take 2).length) 2)&&((ble 2 ((setCells a 0 d).length))&&(!false))) (cond ((beq (((setCells b 0 c).take 2).length) 2)&&((ble 2 ((setCells b 0 c).length))&&(!false))) (cond (ble 2 ((setCells (setCells a 0 d) 0 ((setCells a 0 d).take 2)).length)) (cond (ble 2 ((setCells (setCells b 0 c) 0 ((setCells b 0 c).take 2)).length)) (r0 ((setCells (setCells a 0 d) 0 ((setCells a 0 d).take 2)).take 2) ((setCells (setCells b 0 c) 0 ((setCells b 0 c).take 2)).take 2) true) none) none) none) none) none) none) none) none) (cond (ble 2 a.length) (Mu N 1 fun aa=>Aa3 N (a.take 2) false aa false fun e=>cond ((beq e.length 2)&&((ble 2 a.length)&&(!false))) (cond (ble 2 ((setCells a 0 e).length)) (cond (ble 2 ((setCells b 0 c).length)) (cond ((beq (((setCells a 0 e).take 2).length) 2)&&((ble 2 ((setCells a 0 e).length))&&(!false))) (cond ((beq (((setCells b 0 c).take 2).length) 2)&&((ble 2 ((setCells b 0 c).length))&&(!false))) (cond (ble 2 ((setCells (setCells a 0 e) 0 ((setCells a 0 e).take 2)).length)) (cond (ble 2 ((setCells (setCells b 0 c) 0 ((setCells b 0 c).take 2)).length)) (r0 ((setCells (setCells a 0 e) 0 ((setCells a 0 e).take 2)).take 2) ((setCells (setCells b 0 c) 0 ((setCells b 0 c).take 2)).take 2) true) none) none) none) none) none) none) none) none)) none) none) none) (cond (ble 2 a.length) (cond (ble 2 b.length) (cond ((beq ((a.take 2).length) 2)&&((ble 2 a.length)&&(!false))) (cond ((beq ((b.take 2).length) 2)&&((ble 2 b.length)&&(!false))) (cond (ble 2 ((setCells a 0 (a.take 2)).length)) (cond (ble 2 ((setCells b 0 (b.take 2)).length)) (r0 ((setCells a 0 (a.take 2)).take 2) ((setCells b 0 (b.take 2)).take 2) true) none) none) none) none) none) none)) none) none))
def AK:=(shut (@SA R)).1
def SB:@AK R=@SA R:=(shut _).2
def wF(F:KF R):LA->LA->Bool->O R:=fun ab ac ad=>F (.tup [.pagg ab false,.pagg ac false,.bool ad]) []
def Aa4:=Cc N 137 [eJ N,Mm N,Ane N,j2 N,XV N,Anf N] { H:=hL,modes:=[(3,0),(3,0),(0,0)] } (fun
|[.pagg g i,.pagg f h],[]=>some fun _ k=>AK N g i f h (wF k)
| _,_=>none) fun _ _=>by split;intro R F;dsimp only;rw[SB];kernel_rfl;trivial
def DO(r0:LA->O R)(d:Bool)(b:LA)(c:Bool)(a:LA):O R:=(cond (ble 2 b.length) (cond (ble 2 a.length) (pX N (b.take 2) d (a.take 2) c fun h=>cond ((beq 0 0)&&((beq h.length 2)&&(beq 2 2))) (cond (ble 2 b.length) (cond (ble 2 h.length) (AK N (b.take 2) d (h.take 2) false fun e t ab=>cond ((beq 0 0)&&((beq e.length 2)&&(beq 2 2))) (cond ((beq 0 0)&&((beq t.length 2)&&(beq 2 2))) (cond (ble 2 a.length) (cond (ble 2 h.length) (AK N (a.take 2) c (h.take 2) false fun f u ac=>cond ((beq 0 0)&&((beq f.length 2)&&(beq 2 2))) (cond ((beq 0 0)&&((beq u.length 2)&&(beq 2 2))) (Wg f fun v=>cond v (cond (ble 2 e.length) (DN N (e.take 2) false fun g=>cond (ble 2 f.length) (DN N (f.take 2) false fun s=>cond ((beq g.length 2)&&((ble 2 e.length)&&(!false))) (cond ((beq s.length 2)&&((ble 2 f.length)&&(!false))) (cond (ble 2 ((setCells e 0 g).length)) (Dd 1 ((setCells f 0 s).drop 1) fun l m=>cond ((beq (((setCells e 0 g).take 2).length) 2)&&(ble 2 3)) (cond ((beq 1 1)&&(ble 3 ((setCells [.bool false,.nsl,.nsl] 0 ((setCells e 0 g).take 2)).length))) (cond ((beq 0 0)&&((beq (((setCells [.bool false,.nsl,.nsl] 0 ((setCells e 0 g).take 2)).set 2 (.imm l m 1 false false)).length) 3)&&(beq 3 3))) (cond (ble 3 (((setCells [.bool false,.nsl,.nsl] 0 ((setCells e 0 g).take 2)).set 2 (.imm l m 1 false false)).length)) (r0 (((setCells [.bool false,.nsl,.nsl] 0 ((setCells e 0 g).take 2)).set 2 (.imm l m 1 false false)).take 3)) none) none) none) none) none) none) none) none) none) (cond (ble 2 e.length) (Dd 1 (f.drop 1) fun n o=>cond ((beq ((e.take 2).length) 2)&&(ble 2 3)) (cond ((beq 1 1)&&(ble 3 ((setCells [.bool false,.nsl,.nsl] 0 (e.take 2)).length))) (cond ((beq 0 0)&&((beq (((setCells [.bool false,.nsl,.nsl] 0 (e.take 2)).set 2 (.imm n o 1 false false)).length) 3)&&(beq 3 3))) (cond (ble 3 (((setCells [.bool false,.nsl,.nsl] 0 (e.take 2)).set 2 (.imm n o 1 false false)).length)) (r0 (((setCells [.bool false,.nsl,.nsl] 0 (e.take 2)).set 2 (.imm n o 1 false false)).take 3)) none) none) none) none) none)) none) none) none) none) none) none) none) none) none) none) none)
def VD(r0:LA->O R)(q0:O R)(b:LA)(d:Bool)(a:LA)(c:Bool):O R:=(cond (ble 2 a.length) (HC N (a.take 2) c fun w=>cond (w==0) (HD N fun p=>cond ((beq 0 0)&&((beq p.length 3)&&(beq 3 3))) (cond (ble 3 p.length) (r0 (p.take 3)) none) none) (cond (ble 2 a.length) (HB N (a.take 2) c fun j=>cond ((beq 0 0)&&((beq j.length 2)&&(beq 2 2))) (Wg j fun x=>cond ((!x)==true) (Dd 1 (j.drop 1) fun y z=>HE N y z false false [.int .u32 1] 1 false true fun aa=>cond (cond true aa false) (cond (ble 2 b.length) (HB N (b.take 2) d fun i=>Dd 1 (j.drop 1) fun q r=>cond ((beq i.length 2)&&(ble 2 3)) (cond ((beq 1 1)&&(ble 3 ((setCells [.bool false,.nsl,.nsl] 0 i).length))) (cond ((beq 0 0)&&((beq (((setCells [.bool false,.nsl,.nsl] 0 i).set 2 (.imm q r 1 false false)).length) 3)&&(beq 3 3))) (cond (ble 3 (((setCells [.bool false,.nsl,.nsl] 0 i).set 2 (.imm q r 1 false false)).length)) (r0 (((setCells [.bool false,.nsl,.nsl] 0 i).set 2 (.imm q r 1 false false)).take 3)) none) none) none) none) none) q0) q0) none) none)) none)
def O6:=(shut fun N b d a c r0=>VD (R:=R) N r0 (DO N r0 d b c a) b d a c).1
def eO(b d a c r0):(@O6 R N b d a c r0)=(VD N r0 (DO N r0 d b c a) b d a c):=by rw[O6,(shut _).2]
def nA:Hints:={H:=hK 2 (hJ [2,3,4] hL hL),modes:=[(3,0)]}
def tH:Oe:=[ro N,ZR N,rn N,Ad9 N,Anc N,Aa4 N,j3 N]
def Aex(F:KF R):=Iv Tryz.f79 nA (tH N) [] N F
def Aey(d:Bool)(b:LA)(c:Bool)(a:LA)(K:St->O R):=K ⟨[(2,op 0),(3,op 1),(4,op 2)],hq [bP d 0 b,bP c 0 a,bN 0 [.bool false,.nsl,.nsl]]⟩
def tI(F:KF R)(d b c a):Aey d b c a (A1 (Aex N F (pz 85) []))=(DO N (Dx F) d b c a):=by kernel_rfl
def AL:=Cc N 79 (tH N) nA (fun
|[.pagg b d,.pagg a c],[]=>some fun _ k=>O6 N b d a c (Dx k)
| _,_=>none) fun _ _=>by split;intro R F;exact(B6 (VD N (Dx F) · _ _ _ _) ((jW ..).trans (tI ..)):_).trans (eO ..).symm;trivial
def j4(a:LA)(b:Bool)(r0:LA->O R):O R:=(cond (ble 2 a.length) (Dd 1 (a.drop 2) fun d e=>O6 N (a.take 2) b [.bool false,.imm d e 1 false b] (b||false) fun c=>cond ((beq 0 0)&&((beq c.length 3)&&(beq 3 3))) (cond (ble 3 c.length) (r0 (c.take 3)) none) none) none)
def Kx:=(shut (@j4 R)).1
def eQ:@Kx R=@j4 R:=(shut _).2
def T7:=Cc N 61 [AL N] G3 (fun
|[.pagg a b],[]=>some fun _ k=>Kx N a b (Dx k)
| _,_=>none) fun _ _=>by split;intro R F;dsimp only;rw[eQ];kernel_rfl;trivial
def j5(a:LA)(b:Bool)(r0:Int->O R):O R:=(cond (ble 3 a.length) (Kx N (a.take 3) b fun c=>cond (ble 2 c.length) (HC N (c.take 2) false fun d=>r0 d) none) none)
def Vq:=(shut (@j5 R)).1
def eX:@Vq R=@j5 R:=(shut _).2
def aC:=Cc N 25 [T7 N,ro N] D5 (fun
|[.pagg a b],[]=>some fun _ k=>Vq N a b (Ee k)
| _,_=>none) fun _ _=>by split;intro R F;dsimp only;rw[eX];kernel_rfl;trivial
def LF(a:Int)(r0:LA->O R):O R:=(Mu N a fun c=>Mu N 1 fun d=>O6 N c false d false fun b=>cond ((beq 0 0)&&((beq b.length 3)&&(beq 3 3))) (cond (ble 3 b.length) (r0 (b.take 3)) none) none)
def B4:=(shut (@LF R)).1
def OA:@B4 R=@LF R:=(shut _).2
def Ll:=Cc N 30 [XV N,AL N] G3 (fun
|[.int .i64 a],[]=>some fun _ k=>B4 N a (Dx k)
| _,_=>none) fun _ _=>by split;intro R F;dsimp only;rw[OA];kernel_rfl;trivial
def tJ(a:LA)(b:Bool)(r0:LA->O R):O R:=(cond (ble 3 a.length) (Kx N (a.take 3) b fun c=>Dd 1 (c.drop 2) fun d e=>r0 [.bool false,.imm d e 1 false false]) none)
def U9:=(shut (@tJ R)).1
def nB:@U9 R=@tJ R:=(shut _).2
def j6:=Cc N 83 [T7 N] G3 (fun
|[.pagg a b],[]=>some fun _ k=>U9 N a b (Dx k)
| _,_=>none) fun _ _=>by split;intro R F;dsimp only;rw[nB];kernel_rfl;trivial
def tK(a:LA)(b:Bool)(r0:LA->O R):O R:=(cond (ble 3 a.length) (Kx N (a.take 3) b fun d=>cond (ble 2 d.length) (DN N (d.take 2) false fun e=>cond (ble 3 a.length) (U9 N (a.take 3) b fun f=>O6 N e false f false fun c=>cond ((beq 0 0)&&((beq c.length 3)&&(beq 3 3))) (cond (ble 3 c.length) (r0 (c.take 3)) none) none) none) none) none)
def pY:=(shut (@tK R)).1
def nC:@pY R=@tK R:=(shut _).2
def Ang:=Cc N 102 [T7 N,j3 N,j6 N,AL N] G3 (fun
|[.pagg a b],[]=>some fun _ k=>pY N a b (Dx k)
| _,_=>none) fun _ _=>by split;intro R F;dsimp only;rw[nC];kernel_rfl;trivial
def DP(N:Nat)(k0:Nat->Int->LA->O R)(r0:Nat->LA->O R)(c:LA)(b:Nat)(f g:Bool)(d:LA)(a:Nat)(h i:Bool)(j:Nat)(k1:Int->Int->Int->LA->O R)(l p m:Int)(o:LA):O R:=(cond (decide (m<(a:Int))) (cond (Ab (wrap .i64 (l+m)) j) (Aj .u32 (o.drop (0+(((wrap .i64 (l+m)).toNat)*1))) fun s=>cond (Ab l b) (Aj .u32 (c.drop (l.toNat*1)) fun t=>cond (Ab m a) (Aj .u32 (d.drop (m.toNat*1)) fun u=>cond (Ab (wrap .i64 (l+m)) j) (cond ((beq 1 1)&&((ble ((0+(((wrap .i64 (l+m)).toNat)*1))+1) o.length)&&(!false))) (k1 l (Int.fdiv (wrap .u64 (p+(wrap .u64 ((wrap .u64 s)+(wrap .u64 ((wrap .u64 t)*(wrap .u64 u))))))) (2 ^ 32)) (wrap .i64 (m+1)) (o.set (0+(((wrap .i64 (l+m)).toNat)*1)) (.int .u32 (wrap .u32 (wrap .u64 (p+(wrap .u64 ((wrap .u64 s)+(wrap .u64 ((wrap .u64 t)*(wrap .u64 u))))))))))) none) none) none) none) none) (cond (Ab (wrap .i64 (l+(a:Int))) j) (cond ((beq 1 1)&&((ble ((0+(((wrap .i64 (l+(a:Int))).toNat)*1))+1) o.length)&&(!false))) (k0 j (wrap .i64 (l+1)) (o.set (0+(((wrap .i64 (l+(a:Int))).toNat)*1)) (.int .u32 (wrap .u32 p)))) none) none))
def P4(k0:Nat->Int->LA->O R)(r0:Nat->LA->O R)(c:LA)(b:Nat)(f g:Bool)(d:LA)(a:Nat)(h i:Bool)(j:Nat):Nat->Int->Int->Int->LA->O R
|0=>fun _ _ _ _=>none
|n+1=>DP N k0 r0 c b f g d a h i j (P4 k0 r0 c b f g d a h i j n)
def DQ(r0:Nat->LA->O R)(c:LA)(b:Nat)(f g:Bool)(d:LA)(a:Nat)(h i:Bool)(k0:Nat->Int->LA->O R)(q1:Nat->Int->Int->Int->LA->O R)(j:Nat)(q:Int)(r:LA):O R:=(cond (decide (q<(b:Int))) (q1 j q 0 0 r) (D8 N (r.take (j*1)) j false true fun v w=>r0 v w))
def Ka(r0:Nat->LA->O R)(c:LA)(b:Nat)(f g:Bool)(d:LA)(a:Nat)(h i:Bool):Nat->Nat->Int->LA->O R
|0=>fun _ _ _=>none
|n+1=>DQ N r0 c b f g d a h i (Ka r0 c b f g d a h i n) (fun j=>P4 N (Ka r0 c b f g d a h i n) r0 c b f g d a h i j N)
def eY(N:Nat)(r0:Nat->LA->O R)(q0:Nat->Int->LA->O R)(c:LA)(b:Nat)(f g:Bool)(d:LA)(a:Nat)(h i:Bool):O R:=(cond ((decide (0<=(wrap .i64 ((b:Int)+(a:Int)))))&&((decide ((wrap .i64 ((b:Int)+(a:Int)))<=(wrap .i64 ((b:Int)+(a:Int)))))&&((decide ((wrap .i64 ((b:Int)+(a:Int)))<=140737488355328))&&(decide (((wrap .i64 ((b:Int)+(a:Int)))*((4:Nat):Int))<=140737488355328))))) (q0 ((wrap .i64 ((b:Int)+(a:Int))).toNat) 0 (replicate ((wrap .i64 ((b:Int)+(a:Int))).toNat) (.int .u32 0))) none)
def eZ:=(shut fun N c b f g d a h i r0=>eY (R:=R) N r0 (Ka N r0 c b f g d a h i N) c b f g d a h i).1
def nD(c b f g d a h i r0):(@eZ R N c b f g d a h i r0)=(eY N r0 (Ka N r0 c b f g d a h i N) c b f g d a h i):=by rw[eZ,(shut _).2]
def tL:Hints:={H:=hK 2 (hS (hK 1 (hS (hP [0,1,5,6] (hK 1 (hS (hS (hK 1 (hS (hK 1 (hS (hP [0,1,5,6,7,8] hL) hL)) hL)) hL) hL))) hL)) hL),nils:=[(4,1)],modes:=[(2,1)]}
def yB:Oe:=[Ii N]
def tM(F:KF R):=Iv Tryz.f143 tL (yB N) [] N F
def Aih(c:LA)(b:Nat)(f g:Bool)(d:LA)(a:Nat)(h i:Bool)(j:Nat)(K:St->O R):=fun l p m o=>K ⟨[(0,.imm c b 1 f g),(1,.imm d a 1 h i),(5,Bbq 0 j),(6,iv l),(7,.int .u64 p),(8,iv m)],hq [bQ 1 o]⟩
def aD(c:LA)(b:Nat)(f g:Bool)(d:LA)(a:Nat)(h i:Bool)(K:St->O R):=fun j q r=>K ⟨[(0,.imm c b 1 f g),(1,.imm d a 1 h i),(5,Bbq 0 j),(6,iv q)],hq [bQ 1 r]⟩
def wG Q0 (F:KF R) (c b f g d a h i j):∀ n,Aih c b f g d a h i j (Ao (tM N F (pz 88346692) [Q0]) n)=(P4 N (aD c b f g d a h i Q0) (Ge F) c b f g d a h i j n):=Gu fun n e=>(B6 (DP N (aD c b f g d a h i Q0) (Ge F) c b f g d a h i j) e:_)
def wH(F:KF R)(c b f g d a h i):∀ n,aD c b f g d a h i (Ao (tM N F (pz 1348) []) n)=(Ka N (Ge F) c b f g d a h i n):=Gu fun n e=>(QH (DQ N (Ge F) c b f g d a h i) e (vQ fun j=>(lW ..).trans ((wG ..).trans (xP (P4 _ · _ _ _ _ _ _ _ _ _ _ _) e))):_)
def Anh:=Cc N 143 (yB N) tL (fun
|[.imm c b 1 f g,.imm d a 1 h i],[]=>some fun _ k=>eZ N c b f g d a h i (Ge k)
| _,_=>none) fun _ _=>by split;intro R F;exact(B6 (eY N (Ge F) · _ _ _ _ _ _ _ _) ((lW ..).trans (wH ..)):_).trans (nD ..).symm;trivial
def tN(a:LA)(c:Bool)(b:LA)(d:Bool)(r0:LA->O R):O R:=(Wg a fun g=>Wg b fun h=>Dd 1 (a.drop 1) fun i j=>Dd 1 (b.drop 1) fun l m=>eZ N i j false c l m false d fun f n=>G7 N (!(g==h)) (n.take (f*1)) f false true fun e=>cond ((beq 0 0)&&((beq e.length 2)&&(beq 2 2))) (cond (ble 2 e.length) (r0 (e.take 2)) none) none)
def Yi:=(shut (@tN R)).1
def nE:@Yi R=@tN R:=(shut _).2
def yC:=Cc N 82 [Anh N,Mm N] G3 (fun
|[.pagg a c,.pagg b d],[]=>some fun _ k=>Yi N a c b d (Dx k)
| _,_=>none) fun _ _=>by split;intro R F;dsimp only;rw[nE];kernel_rfl;trivial
def tO(a:LA)(c:Bool)(b:LA)(d:Bool)(r0:LA->O R):O R:=(cond (ble 3 a.length) (Kx N (a.take 3) c fun e=>cond (ble 3 b.length) (Kx N (b.take 3) d fun f=>cond ((beq 0 0)&&((beq e.length 3)&&(beq 3 3))) (cond ((beq 0 0)&&((beq f.length 3)&&(beq 3 3))) (cond (ble 2 e.length) (cond (ble 3 b.length) (U9 N (b.take 3) d fun h=>Yi N (e.take 2) false h false fun i=>cond (ble 2 f.length) (cond (ble 3 a.length) (U9 N (a.take 3) c fun j=>Yi N (f.take 2) false j false fun l=>DM N i false l false fun m=>cond (ble 3 a.length) (U9 N (a.take 3) c fun n=>cond (ble 3 b.length) (U9 N (b.take 3) d fun o=>Yi N n false o false fun p=>O6 N m false p false fun g=>cond ((beq 0 0)&&((beq g.length 3)&&(beq 3 3))) (cond (ble 3 g.length) (r0 (g.take 3)) none) none) none) none) none) none) none) none) none) none) none) none)
def Nz:=(shut (@tO R)).1
def nF:@Nz R=@tO R:=(shut _).2
def T8:=Cc N 33 [T7 N,j6 N,yC N,j2 N,AL N] G3 (fun
|[.pagg a c,.pagg b d],[]=>some fun _ k=>Nz N a c b d (Dx k)
| _,_=>none) fun _ _=>by split;intro R F;dsimp only;rw[nF];kernel_rfl;trivial
def tP(a:LA)(c:Bool)(b:LA)(d:Bool)(r0:LA->O R):O R:=(cond (ble 3 a.length) (cond (ble 3 b.length) (pY N (b.take 3) d fun f=>Nz N (a.take 3) c f false fun e=>cond ((beq 0 0)&&((beq e.length 3)&&(beq 3 3))) (cond (ble 3 e.length) (r0 (e.take 3)) none) none) none) none)
def Va:=(shut (@tP R)).1
def nG:@Va R=@tP R:=(shut _).2
def VE:=Cc N 47 [Ang N,T8 N] G3 (fun
|[.pagg a c,.pagg b d],[]=>some fun _ k=>Va N a c b d (Dx k)
| _,_=>none) fun _ _=>by split;intro R F;dsimp only;rw[nG];kernel_rfl;trivial
def LG(a:LA)(c:Bool)(b:LA)(d:Bool)(r0:Int->O R):O R:=(cond (ble 3 a.length) (cond (ble 3 b.length) (Va N (a.take 3) c (b.take 3) d fun e=>Vq N e false fun f=>r0 f) none) none)
def Dv:=(shut (@LG R)).1
def OB:@Dv R=@LG R:=(shut _).2
def O7:=Cc N 21 [VE N,aC N] D5 (fun
|[.pagg a c,.pagg b d],[]=>some fun _ k=>Dv N a c b d (Ee k)
| _,_=>none) fun _ _=>by split;intro R F;dsimp only;rw[OB];kernel_rfl;trivial
def tQ(a:LA)(c:Bool)(b:LA)(d:Bool)(r0:LA->O R):O R:=(cond (ble 3 a.length) (cond (ble 3 b.length) (Dv N (a.take 3) c (b.take 3) d fun g=>cond (decide (g<=0)) (cond (ble 3 a.length) (Kx N (a.take 3) c fun e=>cond ((beq 0 0)&&((beq e.length 3)&&(beq 3 3))) (cond (ble 3 e.length) (r0 (e.take 3)) none) none) none) (cond (ble 3 b.length) (Kx N (b.take 3) d fun f=>cond ((beq 0 0)&&((beq f.length 3)&&(beq 3 3))) (cond (ble 3 f.length) (r0 (f.take 3)) none) none) none)) none) none)
def e_:=(shut (@tQ R)).1
def nH:@e_ R=@tQ R:=(shut _).2
def Ani:=Cc N 134 [O7 N,T7 N] G3 (fun
|[.pagg a c,.pagg b d],[]=>some fun _ k=>e_ N a c b d (Dx k)
| _,_=>none) fun _ _=>by split;intro R F;dsimp only;rw[nH];kernel_rfl;trivial
def tR(a:LA)(c:Bool)(b:LA)(d:Bool)(r0:LA->O R):O R:=(cond (ble 3 a.length) (Kx N (a.take 3) c fun f=>cond (ble 2 f.length) (cond (ble 3 b.length) (Kx N (b.take 3) d fun g=>cond (ble 2 g.length) (Yi N (f.take 2) false (g.take 2) false fun h=>cond (ble 3 a.length) (U9 N (a.take 3) c fun i=>cond (ble 3 b.length) (U9 N (b.take 3) d fun j=>Yi N i false j false fun l=>O6 N h false l false fun e=>cond ((beq 0 0)&&((beq e.length 3)&&(beq 3 3))) (cond (ble 3 e.length) (r0 (e.take 3)) none) none) none) none) none) none) none) none)
def LH:=(shut (@tR R)).1
def nI:@LH R=@tR R:=(shut _).2
def j7:=Cc N 77 [T7 N,yC N,j6 N,AL N] G3 (fun
|[.pagg a c,.pagg b d],[]=>some fun _ k=>LH N a c b d (Dx k)
| _,_=>none) fun _ _=>by split;intro R F;dsimp only;rw[nI];kernel_rfl;trivial
def DS(r0:LA->Bool->O R)(b:LA)(a:Nat)(h f:Bool)(c:LA)(d:Nat)(i g:Bool)(k0:Int->LA->O R)(j:Int)(l:LA):O R:=(cond (decide (j<(a:Int))) (cond (ble 3 l.length) (cond (Ab j a) (cond (ble 3 ((b.drop (j.toNat*3)).length)) (cond (Ab j d) (cond (ble 3 ((c.drop (j.toNat*3)).length)) (LH N ((b.drop (j.toNat*3)).take 3) f ((c.drop (j.toNat*3)).take 3) g fun p=>Nz N (l.take 3) false p false fun m=>cond ((beq m.length 3)&&((ble 3 l.length)&&(!false))) (k0 (wrap .i64 (j+1)) (setCells l 0 m)) none) none) none) none) none) none) (cond (ble 3 l.length) (cond ((beq 0 0)&&((beq ((l.take 3).length) 3)&&(beq 3 3))) (cond (ble 3 ((l.take 3).length)) (r0 ((l.take 3).take 3) true) none) none) none))
def P5(r0:LA->Bool->O R)(b:LA)(a:Nat)(h f:Bool)(c:LA)(d:Nat)(i g:Bool):Nat->Int->LA->O R
|0=>fun _ _=>none
|n+1=>DS N r0 b a h f c d i g (P5 r0 b a h f c d i g n)
def fA(r0:LA->Bool->O R)(q0:Int->LA->O R)(b:LA)(a:Nat)(h f:Bool)(c:LA)(d:Nat)(i g:Bool):O R:=(cond ((a:Int) != (d:Int)) (r0 [.bool false,.nsl,.nsl] false) (HD N fun o=>cond ((beq 0 0)&&((beq o.length 3)&&(beq 3 3))) (q0 0 o) none))
def VF:=(shut fun N b a h f c d i g r0=>fA (R:=R) N r0 (P5 N r0 b a h f c d i g N) b a h f c d i g).1
def nJ(b a h f c d i g r0):(@VF R N b a h f c d i g r0)=(fA N r0 (P5 N r0 b a h f c d i g N) b a h f c d i g):=by rw[VF,(shut _).2]
def tS:Hints:={H:=hK 3 (hS (hK 1 (hS (hP [0,1,4,6,7] hL) hL)) hL),modes:=[(3,0),(0,0)]}
def yD:Oe:=[ZR N,j7 N,T8 N]
def Aii(F:KF R):=Iv Tryz.f46 tS (yD N) [] N F
def Aij(b:LA)(a:Nat)(h f:Bool)(c:LA)(d:Nat)(i g:Bool)(K:St->O R):=fun j l=>K ⟨[(0,.imm b a 3 h f),(1,.imm c d 3 i g),(4,op 0),(6,op 1),(7,iv j)],hq [bN 0 [.bool false,.nsl,.nsl],bQ 0 l]⟩
def wI(F:KF R)(b a h f c d i g):∀ n,Aij b a h f c d i g (Ao (Aii N F (pz 5444) []) n)=(P5 N (zY F) b a h f c d i g n):=Gu fun n e=>(B6 (DS N (zY F) b a h f c d i g) e:_)
def Anj:=Cc N 46 (yD N) tS (fun
|[.imm b a 3 h f,.imm c d 3 i g],[]=>some fun _ k=>VF N b a h f c d i g (zY k)
| _,_=>none) fun _ _=>by split;intro R F;exact(B6 (fA N (zY F) · _ _ _ _ _ _ _ _) ((lW ..).trans (wI ..)):_).trans (nJ ..).symm;trivial
end
end Gx
namespace Gx
open Go Go.Proofs
section
variable{R:Type}
def Aya{c:Nat}(h:c<=1000000000000):((ble (0+c) 140737488355328)&&(ble ((0+c)*4) 140737488355328))=true:=by simp;omega
def aE{N:Nat}{l:List Nat}{t o:Bool}{K:Nat->LA->O R}(G:Af l)(hs:l.length<=1000000000000):∀(c k:Nat),c<=l.length->c<k ->
  Ml N K (Ad l) l.length t o k (c:Int)=K (Ak (val (l.take c))).length (Ad (Ak (val (l.take c))))
|0,k+1,hc,_=>by
  rw[Ml];unfold X7
  rw[show decide (((0:Nat):Int)>0)=false by simp]
  rw[show((false:Bool)==true)=false by rfl,cf,Aum (by omega),ct,A2u,A3g,Tq,CJ,A68,ct,Aya (by omega),ct];rfl
| c+1,k+1,hc,I=>by
  rw[Ml];unfold X7
  rw[Ah7,ct,wP (by omega),Aa (by omega),ct,OY (by omega),Ady,Aum (by omega),ct,aE G hs c k (by omega) (by omega),A2u,A3g,Tq,CJ,A68,ct,Aya (by omega),ct,A22]
  by_cases D:l[c]=0
  ·rw[Ax (by omega),D];simp
  ·rw[zm G (by omega) D,A3b,A3h hc]
   rw[vr D,cf]
def Dm{N:Nat}{l:List Nat}{n:Nat}{t o:Bool}{K:Nat->LA->O R}(D:n=l.length)(G:Af l)(k:fit l.length N):D8 N (Ad l) n t o K=K (Ak (val l)).length (Ad (Ak (val l))):=by
 subst D
 have I:=k.1;have L:=k.2
 rw[JW];unfold HA
 rw[aE G (by omega) l.length N (A2s _) (by omega),A3l]
def Aez{N:Nat}{a b:List Nat}{t o t' o':Bool}{K:Bool->O R}(hs:a.length<=1000000000000)(I:a.length=b.length):∀(m j k:Nat),j+m=a.length->m<k ->
  J6 N K (Ad a) a.length t o (Ad b) b.length t' o' k (j:Int)=K (decide (a.drop j=b.drop j))
|0,j,k+1,L,_=>by
  rw[J6];unfold Uw
  rw[Rc (by omega),cf,A3v (by omega),A3v (by omega)];simp
|m+1,j,k+1,L,T=>by
  have D:j<a.length:=by omega
  have G:j<b.length:=by omega
  rw[J6];unfold Uw
  rw[Ox D,ct,Aa D,ct,OY D,Aa G,ct,OY G,wS (by omega),Aez hs I m (j+1) k (by omega) (by omega),A4g D,A4g G]
  by_cases h:a[j]=b[j]
  ·rw[show(((a[j]:Nat):Int) != ((b[j]:Nat):Int))=false by simp[h],cf];congr 1;rw[decide_eq_decide,List.cons.injEq];exact⟨fun hh=>⟨h,hh⟩,fun hh=>hh.2⟩
  ·rw[show(((a[j]:Nat):Int) != ((b[j]:Nat):Int))=true by rw[bne_iff_ne];omega,ct];congr 1;symm;rw[decide_eq_false_iff_not,List.cons.injEq];exact fun hh=>h hh.1
def Aql{N:Nat}{a b:List Nat}{n m:Nat}{t o t' o':Bool}{K:Bool->O R}(G:n=a.length)(I:m=b.length)(D:fit a.length N):HE N (Ad a) n t o (Ad b) m t' o' K=K (decide (a=b)):=by
 subst G I
 have L:=D.1;have T:=D.2
 rw[XI];unfold JX
 by_cases k:a.length=b.length
 ·rw[show((a.length:Int) != (b.length:Int))=false by simp[k],cf]
  have:=Aez (R:=R) (N:=N) (t:=t) (o:=o) (t':=t') (o':=o') (K:=K) (by omega) k a.length 0 N (by omega) (by omega)
  simpa using this
 ·rw[show((a.length:Int) != (b.length:Int))=true by rw[bne_iff_ne];omega,ct]
  congr 1;symm;rw[decide_eq_false_iff_not];intro h;exact k (by rw[h])
def DT{N:Nat}{v:Nat}{K:Nat->LA->O R}(G:v<18446744073709551616)(hN:4<=N):G8 N (v:Int) K=K (Ak v).length (Ad (Ak v)):=by
 have D:Af [v%4294967296,v/4294967296]:=Dk.2 ⟨by omega,Dk.2 ⟨by omega,Tp⟩⟩
 have k:val [v%4294967296,v/4294967296]=v:=by simp[val];omega
 rw[Z9];unfold Wo
 rw[YW,iT,Aki (show v/4294967296<4294967296 by omega)]
 have:=aE (R:=R) (N:=N) (l:=[v%4294967296,v/4294967296]) (t:=false) (o:=true) (K:=K) D (by simp) 2 N (by simp) (by omega)
 rw[show [v%4294967296,v/4294967296].take 2=[v%4294967296,v/4294967296] by rfl,k]at this
 rw[JW];unfold HA
 exact this
def LI{N:Nat}{l:List Nat}{n:Nat}{t o:Bool}{K:Int->Bool->O R}(Y:n=l.length)(hl:Af l)(L:fit l.length N):T2 N (Ad l) n t o K=if val l<18446744073709551616 then K (val l:Int) true else K 0 false:=by
 have h1:=L.1
 rw[RC];unfold CW
 rw[Dm Y hl L]
 by_cases h:val l<18446744073709551616
 ·have hd:=KZ h
  rw[if_pos h,show decide ((((Ak (val l)).length:Nat):Int)>2)=false by simp;omega,cf]
  have k:=Ae (val l)
  have G:=Ac (val l)
  obtain⟨M,hM⟩:∃ M,N=M+4:=⟨N - 4,by omega⟩
  rw[hM]
  generalize Ak (val l)=d at *
  match d,hd,k,G with
  |[],_,k,_ =>
   dsimp only
   rw[El];unfold Ff
   rw[<-k,i64 (by simp)];rfl
  |[x],_,k,G =>
   have I:=(Dk.1 G).1
   have D:val l=x:=by rw[<-k];simp[val]
   dsimp only
   rw[El];unfold Ff
   rw[i64 (by simp),show((([x]:List Nat).length:Nat):Int) - 1=((0:Nat):Int) by rfl,show decide (((0:Nat):Int)>=0)=true by rfl,ct,Aa (by simp),ct,c_ (by simp)]
   rw[El];unfold Ff
   rw[i64 (by simp),show decide ((((0:Nat):Int) - 1)>=0)=false by rfl,cf]
   have:=Av2 (a:=0) (b:=x) (by omega) I
   simp only[A6b]
   rw[Ib (show x<18446744073709551616 by omega),show(0:Int)=((0:Nat):Int) by rfl,this,D];simp
  |[x,y],_,k,G =>
   have I:=(Dk.1 G).1
   have T:=(Dk.1 (Dk.1 G).2).1
   have D:val l=y*4294967296+x:=by rw[<-k];simp[val];omega
   dsimp only
   rw[El];unfold Ff
   rw[i64 (by simp),show((([x,y]:List Nat).length:Nat):Int) - 1=((1:Nat):Int) by rfl,show decide (((1:Nat):Int)>=0)=true by rfl,ct,Aa (by simp),ct,c_ (by simp)]
   rw[El];unfold Ff
   rw[i64 (by simp),show(((1:Nat):Int) - 1)=((0:Nat):Int) by rfl,show decide (((0:Nat):Int)>=0)=true by rfl,ct,Aa (by simp),ct,c_ (by simp)]
   rw[El];unfold Ff
   rw[i64 (by simp),show decide ((((0:Nat):Int) - 1)>=0)=false by rfl,cf]
   have o1:=Av2 (a:=0) (b:=y) (by omega) T
   have o2:=Av2 (a:=y) (b:=x) T I
   simp only[A6b,A7a]
   rw[Ib (show y<18446744073709551616 by omega),Ib (show x<18446744073709551616 by omega),show(0:Int)=((0:Nat):Int) by rfl,o1,A7d,A22,o2,D]
 ·have:¬ (Ak (val l)).length<=2:=fun h2=>h (eB h2)
  rw[if_neg h,show decide ((((Ak (val l)).length:Nat):Int)>2)=true by simp;omega,ct]
def yE{N:Nat}{x y:List Nat}{K:Int->O R}(I:Af x)(L:Af y)(hs:x.length<=1000000000000)(Y:x.length=y.length):∀(i k:Nat),i<=x.length->i<k ->
  Ha N K x.length y.length (Ad x) (Ad y) k ((i:Int) - 1)=K (Hj (val (x.take i)) (val (y.take i)))
|0,k+1,_,_=>by
  rw[Ha];unfold Ph
  rw[show decide ((((0:Nat):Int) - 1)>=0)=false by simp,cf]
  simp[Y5]
| i+1,k+1,hi,hf=>by
  rw[Ha];unfold Ph
  rw[show(((i+1:Nat):Int) - 1)=(i:Int) by omega,show decide ((i:Int)>=0)=true by simp,ct,Aa (by omega),ct,c_ (by omega),Aa (by omega),ct,c_ (by omega),ct,c_ (by omega),ct,c_ (by omega),i64 (by omega),
   yE I L hs Y i k (by omega) (by omega),Ax (by omega),Ax (by omega)]
  have D:=Bi (Co I i)
  have G:=Bi (Co L i)
  rw[A3b,A3h (by omega)]at D G
  by_cases c1:x[i]<y[i]
  ·have:=pW D G c1
   rw[show decide (((x[i]:Nat):Int)<((y[i]:Nat):Int))=true by simp;exact c1,ct]
   unfold Hj;rw[if_pos this]
  ·by_cases T:y[i]<x[i]
   ·have:=pW G D T
    rw[show decide (((x[i]:Nat):Int)<((y[i]:Nat):Int))=false by simp;omega,cf,show decide (((x[i]:Nat):Int)>((y[i]:Nat):Int))=true by simp;exact T,ct]
    unfold Hj;rw[if_neg (by omega),if_pos this]
   ·have:x[i]=y[i]:=by omega
    rw[show decide (((x[i]:Nat):Int)<((y[i]:Nat):Int))=false by simp;omega,cf,show decide (((x[i]:Nat):Int)>((y[i]:Nat):Int))=false by simp;omega,cf,this]
    unfold Hj
    congr 1
    by_cases a1:val (x.take i)<val (y.take i)
    ·rw[if_pos a1,if_pos (by omega)]
    ·by_cases a2:val (y.take i)<val (x.take i)
     ·rw[if_neg a1,if_pos a2,if_neg (by omega),if_pos (by omega)]
     ·rw[if_neg a1,if_neg a2,if_neg (by omega),if_neg (by omega)]
def Ank{N:Nat}{a b:List Nat}{n m:Nat}{t o t' o':Bool}{K:Int->O R}(T:n=a.length)(Y:m=b.length)(D:Af a)(G:Af b)(k:fit (a.length+b.length) N):
  Vp N (Ad a) n t o (Ad b) m t' o' K=K (Hj (val a) (val b)):=by
 subst T Y
 have h1:=k.1;have h2:=k.2
 rw[NZ];unfold Yh
 dsimp only
 rw[Dm rfl D (k.le (by omega)),Dm rfl G (k.le (by omega))]
 have la:=(Bm D).2
 have lb:=(Bm G).2
 by_cases I:(Ak (val a)).length=(Ak (val b)).length
 ·rw[show((((Ak (val a)).length:Nat):Int) != (((Ak (val b)).length:Nat):Int))=false by simp;omega,cf,i64 (by omega),yE (Ac _) (Ac _) (by omega) I _ N (A2s _) (by omega),A3l,I,A3l,Ae,Ae]
 ·rw[show((((Ak (val a)).length:Nat):Int) != (((Ak (val b)).length:Nat):Int))=true by simp;omega,ct]
  by_cases L:(Ak (val a)).length<(Ak (val b)).length
  ·have:=KY L
   rw[Ox L,ct]
   unfold Hj;rw[if_pos this]
  ·have:=KY (show(Ak (val b)).length<(Ak (val a)).length by omega)
   rw[Rc (by omega),cf]
   unfold Hj;rw[if_neg (by omega),if_pos this]
def Ayb(a b:Nat):Fc (a:Int) (b:Int)=((max a b:Nat):Int):=by
 unfold Fc
 by_cases h:(b:Int)>(a:Int)
 ·rw[decide_eq_true h];show(b:Int)=_;omega
 ·rw[decide_eq_false h];show(a:Int)=_;omega
def yF{N:Nat}{a b:List Nat}{t o t' o':Bool}{n:Nat}(Y:Af a)(hb:Af b)(hla:a.length<n)(hlb:b.length<n)(hn:n<=max a.length b.length+1)(L:fit n N):∀(m d k:Nat)(S:List Nat)(c:Nat),d+m=n->m<k->Af S->S.length=n->Am7 S d->c<=1 ->
  val S+4294967296 ^ d*c=val (a.take d)+val (b.take d) ->
  ∀ K:Nat->LA->O R,Ij N K (Ad a) a.length t o (Ad b) b.length t' o' k n (c:Int) (d:Int) (Ad S)=K (Ak (val a+val b)).length (Ad (Ak (val a+val b)))
| 0,d,k+1,S,c,hd,_,hS,T,hz,hc,hv=>by
  intro K
  have hd':d=n:=by omega
  subst hd'
  rw[A2t (by omega),A2t (by omega)]at hv
  have hc0:c=0:=by
   rcases A3j c with h|h
   ·exact h
   ·exfalso
    have hc1:c=1:=by omega
    subst hc1
    obtain⟨e,rfl⟩:∃ e,d=e+1:=⟨d - 1,by omega⟩
    have x1:=Bi Y
    have x2:=Bi hb
    have y1:4294967296 ^ a.length<=4294967296 ^ e:=A3t (by omega) (by omega)
    have y2:4294967296 ^ b.length<=4294967296 ^ e:=A3t (by omega) (by omega)
    rw[A25]at hv
    omega
  subst hc0
  have hv2:val S=val a+val b:=by omega
  rw[Ij];unfold CX
  rw[Rc (A2s _),cf,A3g,A2t (by rw[Bx];omega),Dm T.symm hS (by rw[T];exact L),hv2]
| m+1,d,k+1,S,c,hd,hfu,hS,T,hz,hc,hv=>by
  intro K
  have h1:=L.1;have h2:=L.2
  have ga:=Y6 Y d
  have gb:=Y6 hb d
  have step:∀ s:Nat,s=c+a.getD d 0+b.getD d 0->val (S.set d (s%4294967296))+4294967296 ^ (d+1)*(s/4294967296)=val (a.take (d+1))+val (b.take (d+1)):=by
   intro s hs
   rw[U8 hz (by omega),Qp a d,Qp b d,A25]
   have e:=Ms (4294967296 ^ d) s
   have e2:4294967296 ^ d*s=4294967296 ^ d*c+4294967296 ^ d*a.getD d 0+4294967296 ^ d*b.getD d 0:=by rw[hs,A21,A21]
   omega
  have next:∀ s:Nat,s=c+a.getD d 0+b.getD d 0->Ij N K (Ad a) a.length t o (Ad b) b.length t' o' k n ((s/4294967296:Nat):Int) ((d+1:Nat):Int) (Ad (S.set d (s%4294967296)))=K (Ak (val a+val b)).length (Ad (Ak (val a+val b))):=by
   intro s hs
   exact yF Y hb hla hlb hn L m (d+1) k (S.set d (s%4294967296)) (s/4294967296) (by omega) (by omega) (Cw hS (by omega) d) (by simpa using T) (DJ hz) (by omega) (step s hs) K
  have second:∀ w:Nat,w=c+a.getD d 0->AA N (Ij N K (Ad a) a.length t o (Ad b) b.length t' o' k) K (Ad a) a.length t o (Ad b) b.length t' o' n (Ad S) (w:Int) (d:Int)=K (Ak (val a+val b)).length (Ad (Ak (val a+val b))):=by
   intro w hw
   unfold AA
   by_cases D:d<b.length
   ·have I:b.getD d 0=b[d]:=by rw[A2z,A2r D];rfl
    rw[Ox D,ct,Aa D,ct,OY D,Aa (by omega),ct,pN (by omega),ct,Ib (show b[d]<18446744073709551616 by omega),GN,Ib (show w+b[d]<18446744073709551616 by omega),iT,YW,QU,wS (by omega)]
    exact next _ (by rw[hw,I])
   ·have I:b.getD d 0=0:=by rw[A2z,A31 (by omega)];rfl
    rw[Rc (by omega),cf,Aa (by omega),ct,pN (by omega),ct,iT,YW,QU,wS (by omega)]
    exact next _ (by rw[hw,I];rfl)
  rw[Ij];unfold CX
  rw[Ox (by omega),ct]
  by_cases G:d<a.length
  ·have I:a.getD d 0=a[d]:=by rw[A2z,A2r G];rfl
   rw[Ox G,ct,Aa G,ct,OY G,Ib (show a[d]<18446744073709551616 by omega),GN,Ib (show c+a[d]<18446744073709551616 by omega)]
   exact second _ (by rw[I])
  ·have I:a.getD d 0=0:=by rw[A2z,A31 (by omega)];rfl
   rw[Rc (by omega),cf]
   exact second _ (by rw[I];rfl)
def j8{N:Nat}{a b:List Nat}{n m:Nat}{t o t' o':Bool}{K:Nat->LA->O R}(D:n=a.length)(G:m=b.length)(I:Af a)(L:Af b)(k:fit (a.length+b.length+1) N):
  JZ N (Ad a) n t o (Ad b) m t' o' K=K (Ak (val a+val b)).length (Ad (Ak (val a+val b))):=by
 subst D G
 have T:=k.1;have Y:=k.2
 rw[mH];unfold dN
 rw[Ayb,wS (by omega),Aos (by omega),ct,A2u,C8]
 exact yF I L (n:=max a.length b.length+1) (by omega) (by omega) (A2s _) (k.le (by omega)) (max a.length b.length+1) 0 N (replicate (max a.length b.length+1) 0) 0 (by omega) (by omega) (Cu _) (by simp) (Lj _) (by omega) (by rw[Ei];simp[val]) K
def yG{N:Nat}{a b:List Nat}(ha:Af a)(hb:Af b)(hf:fit a.length N)(Y:b.length<=a.length)(hle:val b<=val a):∀(m d k:Nat)(S:List Nat)(c:Nat),d+m=a.length->m<k->Af S->S.length=a.length->Am7 S d->c<=1 ->
  val S+val (b.take d)=val (a.take d)+4294967296 ^ d*c ->
  ∀ K:Nat->Bool->LA->O R,In N K a.length b.length (Ad a) (Ad b) k (c:Int) (d:Int) (Ad S)=K (Ak (val a - val b)).length true (Ad (Ak (val a - val b)))
| 0,d,k+1,S,c,hd,_,hS,hl,hz,hc,hv=>by
  intro K
  have hd':d=a.length:=by omega
  subst hd'
  rw[A3l,A2t Y]at hv
  have I:=Bi hS
  rw[hl]at I
  have hc0:c=0:=by
   rcases A78 0 c with h|h
   ·exfalso
    have:c=1:=by omega
    subst this
    omega
   ·omega
  subst hc0
  have hv2:val S=val a - val b:=by omega
  rw[In];unfold DK
  rw[Rc (A2s _),cf,A3g,A2t (by rw[Bx];omega),Dm hl.symm hS (by rw[hl];exact hf),hv2]
| m+1,d,k+1,S,c,hd,hfu,hS,hl,hz,hc,hv=>by
  intro K
  have h1:=hf.1;have h2:=hf.2
  have D:d<a.length:=by omega
  have ad:=A3 ha D
  have gb:=Y6 hb d
  have step:∀ y g c':Nat,y=c+b.getD d 0->a[d]+4294967296*c'=g+y->val (S.set d g)+val (b.take (d+1))=val (a.take (d+1))+4294967296 ^ (d+1)*c':=by
   intro y g c' T L
   rw[U8 hz (by omega),Ax D,Qp b d,A25,A20]
   have e:4294967296 ^ d*(a[d]+4294967296*c')=4294967296 ^ d*(g+(c+b.getD d 0)):=by rw[L,T]
   rw[A21,A21,A21]at e
   omega
  have next:∀ y g c':Nat,g<4294967296->c'<=1->y=c+b.getD d 0->a[d]+4294967296*c'=g+y->In N K a.length b.length (Ad a) (Ad b) k (c':Int) ((d+1:Nat):Int) (Ad (S.set d g))=K (Ak (val a - val b)).length true (Ad (Ak (val a - val b))):=by
   intro y g c' L hc' T he
   exact yG ha hb hf Y hle m (d+1) k (S.set d g) c' (by omega) (by omega) (Cw hS L d) (by simpa using hl) (DJ hz) hc' (step y g c' T he) K
  have second:∀ y:Nat,y=c+b.getD d 0->AI N (In N K a.length b.length (Ad a) (Ad b) k) K a.length b.length (Ad a) (Ad b) (Ad S) (d:Int) (y:Int)=K (Ak (val a - val b)).length true (Ad (Ak (val a - val b))):=by
   intro y T
   unfold AI
   rw[Aa D,ct,c_ D,Ib (show a[d]<18446744073709551616 by omega)]
   by_cases I:a[d]<y
   ·rw[Ox I,ct,ct,pN (by omega),ct,show((a[d]:Nat):Int)+4294967296=((a[d]+4294967296:Nat):Int) by omega,Ib (show a[d]+4294967296<18446744073709551616 by omega),iS (by omega) (by omega),Aki (by omega),QU,wS (by omega)]
    exact next y (a[d]+4294967296 - y) 1 (by omega) (by omega) T (by omega)
   ·rw[Rc (by omega),cf,ct,pN (by omega),ct,iS (by omega) (by omega),Aki (by omega),QU,wS (by omega)]
    exact next y (a[d] - y) 0 (by omega) (by omega) T (by omega)
  rw[In];unfold DK
  rw[Ox D,ct]
  by_cases G:d<b.length
  ·have L:b.getD d 0=b[d]:=by rw[A2z,A2r G];rfl
   rw[Ox G,ct,Aa G,ct,c_ G,Ib (show b[d]<18446744073709551616 by omega),GN,Ib (show c+b[d]<18446744073709551616 by omega)]
   exact second _ (by rw[L])
  ·have L:b.getD d 0=0:=by rw[A2z,A31 (by omega)];rfl
   rw[Rc (by omega),cf]
   exact second _ (by rw[L];rfl)
def j9{N:Nat}{a b:List Nat}{n m:Nat}{t o t' o':Bool}{K:Nat->Bool->LA->O R}(T:n=a.length)(Y:m=b.length)(G:Af a)(I:Af b)(D:fit (a.length+b.length) N):
  LC N (Ad a) n t o (Ad b) m t' o' K=if val b<=val a then K (Ak (val a - val b)).length true (Ad (Ak (val a - val b)))else K 0 false []:=by
 subst T Y
 have h1:=D.1;have h2:=D.2
 have la:=(Bm G).2
 have lb:=(Bm I).2
 rw[mY];unfold eH
 dsimp only
 rw[Ank rfl rfl G I D]
 by_cases k:val b<=val a
 ·have L:=By k
  rw[if_pos k,show decide (Hj (val a) (val b)<0)=false by(unfold Hj;rw[if_neg (by omega)];split<;>rfl),cf,Dm rfl G (D.le (by omega)),Dm rfl I (D.le (by omega)),Aos (by omega),ct,C8]
  have:=yG (R:=R) (N:=N) (a:=Ak (val a)) (b:=Ak (val b)) (Ac _) (Ac _) (D.le (by omega)) L (by rw[Ae,Ae];exact k) (Ak (val a)).length 0 N (replicate (Ak (val a)).length 0) 0 (by omega) (by omega) (Cu _) (by simp) (Lj _) (by omega) (by rw[Ei];simp[val]) K
  rw[Ae,Ae]at this
  exact this
 ·rw[if_neg k,show decide (Hj (val a) (val b)<0)=true by(unfold Hj;rw[if_pos (by omega)];rfl),ct]
def Akr{N:Nat}{x y:List Nat}{c d c' d':Bool}{f:Nat}(hx:Af x)(hy:Af y)(T:f<x.length)(hs:x.length+y.length<=1000000000000):∀(m l k:Nat)(S:List Nat)(p:Nat)(v:Nat),l+m=y.length->m<k->Af S->S.length=x.length+y.length->Am7 S (f+y.length)->p<4294967296 ->
  val S+4294967296 ^ (f+l)*p=v+4294967296 ^ f*(x[f]*val (y.take l)) ->
  ∃ S',Af S'/\S'.length=x.length+y.length/\val S'=v+4294967296 ^ f*(x[f]*val y)/\∀(I:Nat->Int->LA->O R)(K:Nat->LA->O R),P4 N I K (Ad x) x.length c d (Ad y) y.length c' d' (x.length+y.length) k (f:Int) (p:Int) (l:Int) (Ad S)=I (x.length+y.length) ((f+1:Nat):Int) (Ad S')
|0,l,k+1,S,p,v,hl,_,hS,D,hz,Y,hv=>by
  have hl':l=y.length:=by omega
  subst hl'
  rw[A3l]at hv
  refine⟨S.set (f+y.length) p,Cw hS Y _,by simpa using D,by rw[U8 hz (by omega),hv],fun I K=>?_⟩
  rw[P4];unfold DP
  rw[Rc (A2s _),cf,wA (by omega),Aa (by omega),ct,pN (by omega),ct,Aki Y,QU,wS (by omega)]
| m+1,l,k+1,S,p,v,hl,hfu,hS,D,hz,Y,hv=>by
  have G:l<y.length:=by omega
  have yl:=A3 hy G
  have hq:=A3 hx T
  have hi:f+l<S.length:=by omega
  have sl:=A3 hS hi
  have hw:=Aen Y hq yl sl
  have hqy:x[f]*y[l]<18446744073709551616:=by omega
  generalize L:p+(x[f]*y[l]+S[f+l])=s at *
  have hset:=eA (v:=s%4294967296) hi
  have key:val (S.set (f+l) (s%4294967296))+4294967296 ^ (f+(l+1))*(s/4294967296)=v+4294967296 ^ f*(x[f]*val (y.take (l+1))):=by
   rw[Ax G,<-A4d f l 1,A25]
   have e:=Ms (4294967296 ^ (f+l)) s
   have e2:4294967296 ^ (f+l)*s=4294967296 ^ (f+l)*p+(4294967296 ^ (f+l)*(x[f]*y[l])+4294967296 ^ (f+l)*S[f+l]):=by rw[<-L,A21,A21]
   have e3:4294967296 ^ f*(x[f]*(val (y.take l)+4294967296 ^ l*y[l]))=4294967296 ^ f*(x[f]*val (y.take l))+4294967296 ^ (f+l)*(x[f]*y[l]):=by
    rw[A21,A21,A32]
    congr 1
    rw[A20];congr 1
    rw[<-A20,<-A20,A2w x[f]]
   omega
  obtain⟨S',q1,q2,q3,q4⟩:=Akr (N:=N) (c:=c) (d:=d) (c':=c') (d':=d') hx hy T hs m (l+1) k (S.set (f+l) (s%4294967296)) (s/4294967296) v (by omega) (by omega) (Cw hS (by omega) _) (by simpa using D) (fun j hj hk=>by
   rw[A58,if_neg (by omega)];exact hz j (by simpa using hj) hk) (by omega) key
  refine⟨S',q1,q2,q3,fun I K=>?_⟩
  rw[P4];unfold DP
  rw[Ox G,ct,wA (by omega),Aa (by omega),ct,c_ hi,Aa T,ct,OY T,Aa G,ct,OY G,ct,pN hi,ct,Ib (show x[f]<18446744073709551616 by omega),Ib (show y[l]<18446744073709551616 by omega),Ib (show S[f+l]<18446744073709551616 by omega),rN,Ib hqy,GN,A6c S[f+l],Ib (by omega),GN,L,Ib hw,iT,YW,QU,wS (by omega)]
  exact q4 I K
def Ae0{N:Nat}{x y:List Nat}{c d c' d':Bool}(hx:Af x)(hy:Af y)(D:fit (x.length+y.length) N):∀(m f k:Nat)(S:List Nat),f+m=x.length->m<k->Af S->S.length=x.length+y.length ->
  val S=val (x.take f)*val y ->
  ∀ K:Nat->LA->O R,Ka N K (Ad x) x.length c d (Ad y) y.length c' d' k (x.length+y.length) (f:Int) (Ad S)=K (Ak (val x*val y)).length (Ad (Ak (val x*val y)))
|0,f,k+1,S,hf,_,hS,G,Y=>by
  intro K
  have hf':f=x.length:=by omega
  subst hf'
  rw[A3l]at Y
  rw[Ka];unfold DQ
  rw[Rc (A2s _),cf,A3g,A2t (by rw[Bx];omega),Dm G.symm hS (by rw[G];exact D),Y]
| m+1,f,k+1,S,hf,hfu,hS,G,Y=>by
  intro K
  have h1:=D.1;have h2:=D.2
  have L:f<x.length:=by omega
  have b1:=Bi (Co hx f)
  rw[A3b,A3h (by omega)]at b1
  have b2:=Bi hy
  have I:val S<4294967296 ^ (f+y.length):=by
   rw[Y,A32];exact A33 b1 b2
  have T:val (x.take (f+1))*val y=val S+4294967296 ^ f*(x[f]*val y):=by
   rw[Ax L,A23,Y,A20]
  obtain⟨S1,p1,p2,p3,p4⟩:=Akr (R:=R) (N:=N) (x:=x) (y:=y) (c:=c) (d:=d) (c':=c') (d':=d') (f:=f) hx hy L (by omega) y.length 0 N S 0 (val S) (by omega) (by omega) hS G (Aqb I) (by omega) (by simp[val])
  rw[Ka];unfold DQ
  rw[Ox L,ct]
  have:=p4 (Ka N K (Ad x) x.length c d (Ad y) y.length c' d' k) K
  simp only[A8n]at this
  dsimp only
  rw[this]
  exact Ae0 hx hy D m (f+1) k S1 (by omega) (by omega) p1 p2 (by rw[p3,T]) K
def Anl{N:Nat}{a b:List Nat}{n m:Nat}{t o t' o':Bool}{K:Nat->LA->O R}(D:n=a.length)(G:m=b.length)(I:Af a)(L:Af b)(k:fit (a.length+b.length) N):
  eZ N (Ad a) n t o (Ad b) m t' o' K=K (Ak (val a*val b)).length (Ad (Ak (val a*val b))):=by
 subst D G
 have T:=k.1;have Y:=k.2
 rw[nD];unfold eY
 rw[wA (by omega),Aos (by omega),ct,A2u,C8]
 exact Ae0 I L k a.length 0 N (replicate (a.length+b.length) 0) (by omega) (by omega) (Cu _) (by simp) (by rw[Ei];simp[val]) K
end
end Gx
