/- A part of the proof; each theorem says what it holds. -/
import Derived.Test.YtihjnfhdmgipmaaGreatP1
set_option linter.unusedVariables false
set_option linter.defProp false
set_option linter.unusedSimpArgs false
open Nat (ble beq)
open List (take drop replicate)
open Go.IntKind (wrap)
namespace Gx
open Go Go.Proofs
set_option maxRecDepth 100000
noncomputable section
variable{R:Type}(N:Nat)
def Yh(N:Nat)(k1:Int->O R)(r0:Bool->O R)(a:Lu)(b:Int)(d:Bool):O R:=(cond ((!d)==true) (cond ((b==0)==false) (cond (Ah b a.length) (cond ((((UInt8.toNat (List.getD a b.toNat 0):Nat):Int) != 95)==true) (cond (Ah b a.length) (cond ((decide (((UInt8.toNat (List.getD a b.toNat 0):Nat):Int)<48))==false) (cond (Ah b a.length) (cond (cond true (cond false true (cond true (cond false true (decide (((UInt8.toNat (List.getD a b.toNat 0):Nat):Int)>57))) false)) false) (r0 false) (k1 (wrap .i64 (b+1)))) none) (r0 false)) none) (k1 (wrap .i64 (b+1)))) none) (r0 false)) (k1 (wrap .i64 (b+1))))
def Vd(N:Nat)(r0:Bool->O R)(a:Lu)(k1:Int->O R)(q2:Int->Bool->O R)(c:Int):O R:=(cond (decide (c<((a.length:Nat):Int))) (cond (Ah c a.length) (cond ((decide (((UInt8.toNat (List.getD a c.toNat 0):Nat):Int)>=97))==true) (cond (Ah c a.length) (q2 c (cond true (decide (((UInt8.toNat (List.getD a c.toNat 0):Nat):Int)<=122)) false)) none) (q2 c false)) none) (r0 true))
def Lg(r0:Bool->O R)(a:Lu):Nat->Int->O R
|0=>fun _=>none
|n+1=>Vd N r0 a (Lg r0 a n) (Yh N (Lg r0 a n) r0 a)
def DR(N:Nat)(r0:Bool->O R)(a:Lu)(q1:Int->O R):O R:=(q1 0)
def Yi(r0:Bool->O R)(a:Lu):O R:=DR N r0 a (Lg N r0 a N)
def ML(N:Nat)(r0:Bool->O R)(q0:O R)(a:Lu):O R:=(cond ((decide (((a.length:Nat):Int)<1))==false) (cond ((cond false true (decide (((a.length:Nat):Int)>16)))==false) (cond (cond false true (a==([99,111,114,114,101,99,116,105,118,101]:Lu))) (r0 false) q0) (r0 false)) (r0 false))
def JL:=(Ak fun N a r0=>ML (R:=R) N r0 (Yi N r0 a) a).1
def TI(a r0):(@JL R N a r0)=(ML N r0 (Yi N r0 a) a):=by rw[JL,(Ak _).2]
def bF:Hints:={H:=hK 1 (hJ [0] hL (hS (hK 1 (hS (hP [0,3] (hK 1 (hS (hS (hJ [0,3,4] hL hL) hL) hL))) hL)) hL))}
def JM(F:KF R):=L7 Tryz.f201 bF [] [] N F
def rR(a:Lu)(K:St->O R):=fun b d=>K ⟨[(0,.str a),(3,iv b),(4,.bool d)],[]⟩
def bG(a:Lu)(K:St->O R):=fun c=>K ⟨[(0,.str a),(3,iv c)],[]⟩
def rS(a:Lu)(K:St->O R):=K ⟨[(0,.str a)],[]⟩
def gV Q1 (F:KF R) a:rR a (Bc (JM N F (pz 1380417) [Q1]))=(Yh N (bG a Q1) (Cm F) a):=by kernel_rfl
def gW(F:KF R)a:∀ n,bG a (As (JM N F (pz 1348) []) n)=(Lg N (Cm F) a n):=Gu fun n e=>(OF (Vd N (Cm F) a) e ((jW ..).trans ((gV ..).trans (rA (Yh _ · _ _) e))):_)
def gX(F:KF R)a:rS a (Bc (JM N F (pz 21) []))=(Yi N (Cm F) a):=(Cg (DR N (Cm F) a) ((lW ..).trans (gW ..)):_)
def tj:=Ce N 201 [] bF (fun
|[.str a],[]=>some fun _ k=>JL N a (Cm k)
| _,_=>none) fun _ _=>by split;intro R F;exact(Cg (ML N (Cm F) · _) ((jW ..).trans (gX ..)):_).trans (TI ..).symm;trivial
def G0(r0:LA->O R)(b a:Int)(c:Nat)(d:LA)(k0:Int->LA->O R)(i:Int)(j:LA):O R:=(cond (decide (i<a)) (cond (Ah i c) (pn (d.drop (0+(i.toNat*1))) fun l=>cond (Ah a c) (pn (d.drop (0+(a.toNat*1))) fun m=>Aa N (!(l==m)) b a 0 10 j fun o=>k0 (wrap .i64 (i+1)) o) none) none) (r0 j))
def Cs(r0:LA->O R)(b a:Int)(c:Nat)(d:LA):Nat->Int->LA->O R
|0=>fun _ _=>none
|n+1=>G0 N r0 b a c d (Cs r0 b a c d n)
def Kp(r0:LA->O R)(q0:Nat->LA->Int->LA->O R)(f:LA)(g:Bool)(b a:Int)(h:LA):O R:=(cond (ble 8 f.length) (Gr N (f.take 8) g b fun c d=>cond (Ah a c) (pn (d.drop (0+(a.toNat*1))) fun p=>JL N p fun q=>Aa N q b a 0 9 h fun r=>q0 c d 0 r) none) none)
def B6:=(Ak fun N f g b a h r0=>Kp (R:=R) N r0 (fun c d=>Cs N r0 b a c d N) f g b a h).1
def Td(f g b a h r0):(@B6 R N f g b a h r0)=(Kp N r0 (fun c d=>Cs N r0 b a c d N) f g b a h):=by rw[B6,(Ak _).2]
def Ud:Hints:={H:=hK 4 (hS (hP [0,2,3,8,9] hL) hL)}
def W1:U6:=[bE N,tj N,Be N]
def NI(F:KF R):=L7 Tryz.f153 Ud (W1 N) [100000] N F
def NJ(b a:Int)(c:Nat)(d:LA)(K:St->O R):=fun i j=>K ⟨[(0,.optr 100000 0),(2,iv b),(3,iv a),(8,Aqb 0 c),(9,iv i)],[(100000,bQ 0 j),(300000,bQ 1 d)]⟩
def DS(F:KF R)(b a c d):∀ n,NJ b a c d (As (NI N F (pz 1364) []) n)=(Cs N (Gw F) b a c d n):=Gu fun n e=>(Cg (G0 N (Gw F) b a c d) e:_)
def Eb:=Ce N 153 (W1 N) Ud (fun
|[.optr 100000 0,.pagg f g,.int .i64 b,.int .i64 a],[(100000,⟨false,false,true,false,0,h,false,none⟩)]=>some fun _ k=>B6 N f g b a h (Gw k)
| _,_=>none) fun _ _=>by split;intro R F;exact(Cg (Kp N (Gw F) · _ _ _ _ _) (oE fun c d=>(lW ..).trans (DS ..)):_).trans (Td ..).symm;trivial
def Rc(a:LA)(g:Bool)(b c d e:Int)(f:LA)(r0:LA->O R):O R:=(Bv 3 (a.drop 2) fun l h=>Aq N 0 (wrap .i64 ((h:Int) - 1)) [.int .i64 b] 1 false true fun i=>Aa N i c d e 12 f fun j=>r0 j)
def D1:=(Ak (@Rc R)).1
def Ue:@D1 R=@Rc R:=(Ak _).2
def Kq:=Ce N 202 [C3 N,Be N] Eg (fun
|[.optr 100000 0,.pagg a g,.int .i64 b,.int .i64 c,.int .i64 d,.int .i64 e],[(100000,⟨false,false,true,false,0,f,false,none⟩)]=>some fun _ k=>D1 N a g b c d e f (Gw k)
| _,_=>none) fun _ _=>by split;intro R F;dsimp only;rw[Ue];kernel_rfl;trivial
def Zs(a:LA)(b:Bool)(r0:Bool->O R):O R:=(Au .i64 (a.drop 1) fun c=>Aq N 1 1048576 [.int .i64 c] 1 false true fun d=>cond (d==true) (Au .i64 a fun e=>Aq N (-1048576) 1048576 [.int .i64 e] 1 false true fun f=>r0 (cond true f false)) (r0 false))
def Iz:=(Ak (@Zs R)).1
def BB:@Iz R=@Zs R:=(Ak _).2
def JN:=Ce N 203 [C3 N] Eg (fun
|[.pagg a b],[]=>some fun _ k=>Iz N a b (Cm k)
| _,_=>none) fun _ _=>by split;intro R F;dsimp only;rw[BB];kernel_rfl;trivial
def Lh(N:Nat)(r0:Bool->O R)(b:LA)(a:Nat)(c d:Bool)(k0:Int->O R)(f:Int):O R:=(cond (decide (f<(a:Int))) (cond (Ah f a) (Au .i64 (b.drop (f.toNat*1)) fun g=>cond (Ah (wrap .i64 (f - 1)) a) (Au .i64 (b.drop (((wrap .i64 (f - 1)).toNat)*1)) fun h=>cond (decide (g<=h)) (r0 false) (k0 (wrap .i64 (f+1)))) none) none) (r0 true))
def Fg(r0:Bool->O R)(b:LA)(a:Nat)(c d:Bool):Nat->Int->O R
|0=>fun _=>none
|n+1=>Lh N r0 b a c d (Fg r0 b a c d n)
def Yj(N:Nat)(r0:Bool->O R)(q0:Int->O R)(b:LA)(a:Nat)(c d:Bool):O R:=(q0 1)
def N2:=(Ak fun N b a c d r0=>Yj (R:=R) N r0 (Fg N r0 b a c d N) b a c d).1
def JO(b a c d r0):(@N2 R N b a c d r0)=(Yj N r0 (Fg N r0 b a c d N) b a c d):=by rw[N2,(Ak _).2]
def OR:Hints:={H:=hK 1 (hS (hK 1 (hS (hP [0,3] hL) hL)) hL)}
def kC(F:KF R):=L7 Tryz.f206 OR [] [] N F
def kD(b:LA)(a:Nat)(c d:Bool)(K:St->O R):=fun f=>K ⟨[(0,.imm b a 1 c d),(3,iv f)],[]⟩
def XU(F:KF R)(b a c d):∀ n,kD b a c d (As (kC N F (pz 324) []) n)=(Fg N (Cm F) b a c d n):=Gu fun n e=>(Cg (Lh N (Cm F) b a c d) e:_)
def TJ:=Ce N 206 [] OR (fun
|[.imm b a 1 c d],[]=>some fun _ k=>N2 N b a c d (Cm k)
| _,_=>none) fun _ _=>by split;intro R F;exact(Cg (Yj N (Cm F) · _ _ _ _) ((lW ..).trans (XU ..)):_).trans (JO ..).symm;trivial
def Ph(g:LA)(i:Bool)(a:LA)(b:Nat)(j c:Bool)(d e f:Int)(h:LA)(r0:LA->O R):O R:=(Au .i64 g fun l=>Aq N 0 (wrap .i64 (l - 1)) a b false c fun m=>Aa N m d e f 3 h fun n=>N2 N a b false c fun o=>Aa N o d e f 11 n fun p=>r0 p)
def H0:=(Ak (@Ph R)).1
def Te:@H0 R=@Ph R:=(Ak _).2
def W2:=Ce N 204 [C3 N,Be N,TJ N] Eg (fun
|[.optr 100000 0,.pagg g i,.imm a b 1 j c,.int .i64 d,.int .i64 e,.int .i64 f],[(100000,⟨false,false,true,false,0,h,false,none⟩)]=>some fun _ k=>H0 N g i a b j c d e f h (Gw k)
| _,_=>none) fun _ _=>by split;intro R F;dsimp only;rw[Te];kernel_rfl;trivial
def My(r0:LA->O R)(a:Int)(b:Bool)(c d:LA)(i:LA):O R:=(Au .i64 (d.drop 9) fun l=>Aq N 0 1048576 [.int .i64 l] 1 false true fun m=>Aa N m 2 a 6 3 i fun n=>Au .i64 (d.drop 9) fun o=>Au .i64 (d.drop 10) fun p=>Aq N o 1048576 [.int .i64 p] 1 false true fun q=>Aa N q 2 a 7 3 n fun r=>cond (ble 8 c.length) (Bv 1 (d.drop 11) fun s t=>H0 N (c.take 8) b s t false b 2 a 8 r fun u=>r0 u) none)
def Li(r0:LA->O R)(a:Int)(b:Bool)(c d:LA)(q2:LA->O R)(g:LA):O R:=(cond (ble 2 ((d.drop 7).length)) (cond ((!b)||(A4 ((d.drop 7).take 2))) (Iz N ((d.drop 7).take 2) false fun v=>cond (v==true) (Au .i64 (d.drop 7) fun w=>Aa N (cond true (decide (w>=0)) false) 2 a 5 3 g fun x=>q2 x) (Aa N false 2 a 5 3 g fun y=>q2 y)) none) none)
def Mz(r0:LA->O R)(a:Int)(b:Bool)(c d:LA)(g:LA):O R:=Li N r0 a b c d (My N r0 a b c d) g
def Lj(r0:LA->O R)(a:Int)(b:Bool)(c:LA)(q1:LA->LA->O R)(h d:LA):O R:=(cond (ble 2 ((d.drop 5).length)) (cond ((!b)||(A4 ((d.drop 5).take 2))) (Iz N ((d.drop 5).take 2) false fun z=>cond (z==true) (Au .i64 (d.drop 5) fun aa=>Aa N (cond true (decide (aa<=0)) false) 2 a 4 3 h fun ab=>q1 d ab) (Aa N false 2 a 4 3 h fun ac=>q1 d ac)) none) none)
def Hq(r0:LA->O R)(a:Int)(b:Bool)(c:LA)(h d:LA):O R:=Lj N r0 a b c (fun d=>Mz N r0 a b c d) h d
def Kr(r0:LA->O R)(q0:LA->LA->O R)(c:LA)(b:Bool)(a:Int)(f:LA):O R:=(Bv 12 (c.drop 3) fun e ad=>cond (Ah a ad) (cond (ble 12 ((e.drop (a.toNat*12)).length)) (cond ((beq 0 0)&&((beq (((e.drop (a.toNat*12)).take 12).length) 12)&&(beq 12 12))) (cond (ble 8 c.length) (B6 N (c.take 8) b 2 a f fun ae=>cond (ble 8 c.length) (Au .i64 (((e.drop (a.toNat*12)).take 12).drop 1) fun af=>D1 N (c.take 8) b af 2 a 1 ae fun ag=>cond (ble 8 c.length) (Au .i64 (((e.drop (a.toNat*12)).take 12).drop 2) fun ah=>D1 N (c.take 8) b ah 2 a 2 ag fun ai=>Au .i64 (((e.drop (a.toNat*12)).take 12).drop 1) fun aj=>Au .i64 (((e.drop (a.toNat*12)).take 12).drop 2) fun ak=>Aa N (aj != ak) 2 a 2 1 ai fun j=>cond (ble 2 ((((e.drop (a.toNat*12)).take 12).drop 3).length)) (cond ((!b)||(A4 ((((e.drop (a.toNat*12)).take 12).drop 3).take 2))) (Iz N ((((e.drop (a.toNat*12)).take 12).drop 3).take 2) false fun al=>cond (al==true) (Au .i64 (((e.drop (a.toNat*12)).take 12).drop 3) fun am=>Aa N (cond true (decide (am>0)) false) 2 a 3 3 j fun an=>q0 an ((e.drop (a.toNat*12)).take 12)) (Aa N false 2 a 3 3 j fun ao=>q0 ao ((e.drop (a.toNat*12)).take 12))) none) none) none) none) none) none) none) none)
def H1:=(Ak fun N c b a f r0=>Kr (R:=R) N r0 (Hq N r0 a b c) c b a f).1
def Tf(c b a f r0):(@H1 R N c b a f r0)=(Kr N r0 (Hq N r0 a b c) c b a f):=by rw[H1,(Ak _).2]
def Uf:Hints:={H:=hK 6 (hJ [0,2,4,6,7] hL (hJ [0,2,4,6,7] hL (hJ [0,2,4,6,7] hL hL)))}
def W3:U6:=[Eb N,Kq N,Be N,JN N,C3 N,W2 N]
def M0(F:KF R):=L7 Tryz.f157 Uf (W3 N) [100000] N F
def NK(a:Int)(b:Bool)(c d:LA)(K:St->O R):=fun i=>K ⟨[(0,.optr 100000 0),(2,iv a),(4,op 0),(6,op 1),(7,iv 2)],[(100000,bQ 0 i),(300000,bP b 0 c),(300001,bP b 0 d)]⟩
def NL(a:Int)(b:Bool)(c d:LA)(K:St->O R):=fun g=>K ⟨[(0,.optr 100000 0),(2,iv a),(4,op 0),(6,op 1),(7,iv 2)],[(100000,bQ 0 g),(300000,bP b 0 c),(300001,bP b 0 d)]⟩
def NM(a:Int)(b:Bool)(c:LA)(K:St->O R):=fun h d=>K ⟨[(0,.optr 100000 0),(2,iv a),(4,op 0),(6,op 1),(7,iv 2)],[(100000,bQ 0 h),(300000,bP b 0 c),(300001,bP b 0 d)]⟩
def DT(F:KF R)(a b c d):NK a b c d (Bc (M0 N F (pz 349525) []))=(My N (Gw F) a b c d):=by kernel_rfl
def DU(F:KF R)(a b c d):NL a b c d (Bc (M0 N F (pz 87381) []))=(Mz N (Gw F) a b c d):=(Cg (Li N (Gw F) a b c d) ((jW ..).trans (DT ..)):_)
def DV(F:KF R)(a b c):NM a b c (Bc (M0 N F (pz 21845) []))=(Hq N (Gw F) a b c):=(Cg (Lj N (Gw F) a b c) (wg fun d=>(jW ..).trans (DU ..)):_)
def QQ:=Ce N 157 (W3 N) Uf (fun
|[.optr 100000 0,.pagg c b,.int .i64 a],[(100000,⟨false,false,true,false,0,f,false,none⟩)]=>some fun _ k=>H1 N c b a f (Gw k)
| _,_=>none) fun _ _=>by split;intro R F;exact(Cg (Kr N (Gw F) · _ _ _ _) ((jW ..).trans (DV ..)):_).trans (Tf ..).symm;trivial
def Ek(r0:LA->O R)(b:Int)(d:LA)(c:Bool)(a:LA)(k2:Int->Int->O R)(m l:Int):O R:=(Bv 2 (a.drop 4) fun ax q=>cond ((decide (l<(q:Int)))==true) (Au .i64 (d.drop 3) fun r=>cond (cond true (r==0) false) (Bv 2 (a.drop 4) fun s t=>cond (Ah l t) (Au .i64 (s.drop (l.toNat*2)) fun u=>k2 (wrap .i64 (m+u)) (wrap .i64 (l+1))) none) (Au .i64 (d.drop 3) fun v=>cond ((v != 0)==false) (Au .i64 (a.drop 3) fun w=>Au .i64 (a.drop 2) fun x=>Aa N (cond false true (m==(wrap .i64 (w - x)))) 3 b 4 4 d fun y=>r0 y) (Aa N true 3 b 4 4 d fun z=>r0 z))) (Au .i64 (d.drop 3) fun aa=>cond ((aa != 0)==false) (Au .i64 (a.drop 3) fun ab=>Au .i64 (a.drop 2) fun ac=>Aa N (cond false true (m==(wrap .i64 (ab - ac)))) 3 b 4 4 d fun ad=>r0 ad) (Aa N true 3 b 4 4 d fun ae=>r0 ae)))
def Cc(r0:LA->O R)(b:Int)(d:LA)(c:Bool)(a:LA):Nat->Int->Int->O R
|0=>fun _ _=>none
|n+1=>Ek N r0 b d c a (Cc r0 b d c a n)
def C4(r0:LA->O R)(b:Int)(c:Bool)(a:LA)(k1:Int->LA->O R)(q2:LA->Int->Int->O R)(i:Int)(d:LA):O R:=(Bv 2 (a.drop 4) fun ay af=>cond (decide (i<(af:Int))) (Bv 2 (a.drop 4) fun ag ah=>cond (Ah i ah) (Au .i64 ((ag.drop (i.toNat*2)).drop 1) fun ai=>Bv 2 (a.drop 4) fun aj ak=>cond (Ah (wrap .i64 (i - 1)) ak) (Au .i64 ((aj.drop (((wrap .i64 (i - 1)).toNat)*2)).drop 1) fun al=>Aa N (decide (ai>=al)) 3 b 4 11 d fun am=>k1 (wrap .i64 (i+1)) am) none) none) (q2 d 0 0))
def Bs(r0:LA->O R)(b:Int)(c:Bool)(a:LA):Nat->Int->LA->O R
|0=>fun _ _=>none
|n+1=>C4 N r0 b c a (Bs r0 b c a n) (fun d=>Cc N r0 b d c a N)
def El(r0:LA->O R)(b:Int)(f:LA)(g:Nat)(c:Bool)(a:LA)(k0:Int->Int->LA->O R)(q1:Int->LA->O R)(o h:Int)(p:LA):O R:=(cond (decide (h<o)) (cond (Ah h g) (cond (ble 2 ((f.drop (h.toNat*2)).length)) (cond ((!c)||(A4 ((f.drop (h.toNat*2)).take 2))) (cond ((beq (((f.drop (h.toNat*2)).take 2).length) 2)&&((ble 2 2)&&(!false))) (Au .i64 (setCells [Aqc,Aqc] 0 ((f.drop (h.toNat*2)).take 2)) fun an=>Aq N 1 1048576 [.int .i64 an] 1 false true fun ao=>cond (ao==true) (Au .i64 ((setCells [Aqc,Aqc] 0 ((f.drop (h.toNat*2)).take 2)).drop 1) fun ap=>Aq N (-1048576) 1048576 [.int .i64 ap] 1 false true fun aq=>Aa N (cond true aq false) 3 b 4 3 p fun ar=>k0 o (wrap .i64 (h+1)) ar) (Aa N false 3 b 4 3 p fun au=>k0 o (wrap .i64 (h+1)) au)) none) none) none) none) (q1 1 p))
def Bt(r0:LA->O R)(b:Int)(f:LA)(g:Nat)(c:Bool)(a:LA):Nat->Int->Int->LA->O R
|0=>fun _ _ _=>none
|n+1=>El N r0 b f g c a (Bt r0 b f g c a n) (Bs N r0 b c a N)
def Gb(r0:LA->O R)(q0:LA->Nat->Int->Int->LA->O R)(a:LA)(c:Bool)(b:Int)(j:LA):O R:=(Bv 2 (a.drop 4) fun az av=>Aa N (decide ((av:Int)<=8)) 3 b 4 8 j fun aw=>Bv 2 (a.drop 4) fun f g=>q0 f g (g:Int) 0 aw)
def De:=(Ak fun N a c b j r0=>Gb (R:=R) N r0 (fun f g=>Bt N r0 b f g c a N) a c b j).1
def Nb(a c b j r0):(@De R N a c b j r0)=(Gb N r0 (fun f g=>Bt N r0 b f g c a N) a c b j):=by rw[De,(Ak _).2]
def Oh:Hints:={H:=hK 3 (hS (hK 1 (hS (hP [0,2,4,6,21,22,23] hL) hL)) (hS (hK 1 (hS (hP [0,2,4,6,9] hL) hL)) (hK 1 (hS (hK 1 (hS (hP [0,2,4,6,10,11] hL) hL)) hL))))}
def Pi:U6:=[Be N,C3 N]
def H2(F:KF R):=L7 Tryz.f205 Oh (Pi N) [100000] N F
def BC(b:Int)(d:LA)(c:Bool)(a:LA)(K:St->O R):=fun m l=>K ⟨[(0,.optr 100000 0),(2,iv b),(4,op 0),(6,iv 3),(10,iv m),(11,iv l)],[(100000,bQ 0 d),(300000,bP c 0 a)]⟩
def BD(b:Int)(c:Bool)(a:LA)(K:St->O R):=fun i d=>K ⟨[(0,.optr 100000 0),(2,iv b),(4,op 0),(6,iv 3),(9,iv i)],[(100000,bQ 0 d),(300000,bP c 0 a)]⟩
def BE(b:Int)(f:LA)(g:Nat)(c:Bool)(a:LA)(K:St->O R):=fun o h p=>K ⟨[(0,.optr 100000 0),(2,iv b),(4,op 0),(6,iv 3),(21,.imm f g 2 false c),(22,iv o),(23,iv h)],[(100000,bQ 0 p),(300000,bP c 0 a)]⟩
def W4(F:KF R)(b d c a):∀ n,BC b d c a (As (H2 N F (pz 349508) []) n)=(Cc N (Gw F) b d c a n):=Gu fun n e=>(Cg (Ek N (Gw F) b d c a) e:_)
def W5(F:KF R)(b c a):∀ n,BD b c a (As (H2 N F (pz 21828) []) n)=(Bs N (Gw F) b c a n):=Gu fun n e=>(OF (C4 N (Gw F) b c a) e (wg fun d=>(lW ..).trans (W4 ..)):_)
def W6(F:KF R)(b f g c a):∀ n,BE b f g c a (As (H2 N F (pz 5444) []) n)=(Bt N (Gw F) b f g c a n):=Gu fun n e=>(OF (El N (Gw F) b f g c a) e ((lW ..).trans (W5 ..)):_)
def DW:=Ce N 205 (Pi N) Oh (fun
|[.optr 100000 0,.pagg a c,.int .i64 b],[(100000,⟨false,false,true,false,0,j,false,none⟩)]=>some fun _ k=>De N a c b j (Gw k)
| _,_=>none) fun _ _=>by split;intro R F;exact(Cg (Gb N (Gw F) · _ _ _ _) (oE fun f g=>(lW ..).trans (W6 ..)):_).trans (Nb ..).symm;trivial
def M5(r0:LA->O R)(a:Int)(c:Bool)(d h:LA):O R:=(Au .i64 (d.drop 19) fun l=>cond (l==2) (Au .i64 (d.drop 2) fun m=>Au .i64 (d.drop 3) fun n=>Au .i64 (d.drop 21) fun o=>Aq N m n [.int .i64 o] 1 false true fun p=>Aa N p 3 a 21 3 h fun q=>r0 q) (Au .i64 (d.drop 21) fun r=>Aa N (r==0) 3 a 21 3 h fun s=>r0 s))
def Lk(r0:LA->O R)(a:Int)(c:Bool)(q1:LA->LA->O R)(g d:LA):O R:=(Au .i64 (d.drop 20) fun t=>Aq N 1 48 [.int .i64 t] 1 false true fun u=>Aa N u 3 a 20 3 g fun i=>Au .i64 (d.drop 19) fun v=>cond ((v != 1)==false) (Au .i64 (d.drop 20) fun w=>Au .i64 (d.drop 12) fun x=>Aa N (cond false true (decide (w<=x))) 3 a 20 3 i fun y=>q1 d y) (Aa N true 3 a 20 3 i fun z=>q1 d z))
def Hr(r0:LA->O R)(a:Int)(c:Bool)(g d:LA):O R:=Lk N r0 a c (fun d=>M5 N r0 a c d) g d
def Ks(r0:LA->O R)(q0:LA->LA->O R)(e:LA)(c:Bool)(a:Int)(f:LA):O R:=(Bv 22 (e.drop 4) fun b aa=>cond (Ah a aa) (cond (ble 22 ((b.drop (a.toNat*22)).length)) (cond ((beq 0 0)&&((beq (((b.drop (a.toNat*22)).take 22).length) 22)&&(beq 22 22))) (cond (ble 8 e.length) (B6 N (e.take 8) c 3 a f fun ab=>cond (ble 8 e.length) (Au .i64 (((b.drop (a.toNat*22)).take 22).drop 1) fun ac=>D1 N (e.take 8) c ac 3 a 1 ab fun ad=>Au .i64 (((b.drop (a.toNat*22)).take 22).drop 2) fun ae=>Aq N 0 1048576 [.int .i64 ae] 1 false true fun af=>Aa N af 3 a 2 3 ad fun ag=>Au .i64 (((b.drop (a.toNat*22)).take 22).drop 2) fun ah=>Au .i64 (((b.drop (a.toNat*22)).take 22).drop 3) fun ai=>Aq N ah 1048576 [.int .i64 ai] 1 false true fun aj=>Aa N aj 3 a 3 3 ag fun ak=>cond (ble 22 (((b.drop (a.toNat*22)).take 22).length)) (De N (((b.drop (a.toNat*22)).take 22).take 22) c a ak fun al=>Au .i64 (((b.drop (a.toNat*22)).take 22).drop 5) fun am=>Aq N 0 1048576 [.int .i64 am] 1 false true fun an=>Aa N an 3 a 5 3 al fun ao=>Au .i64 (((b.drop (a.toNat*22)).take 22).drop 6) fun ap=>Aq N 0 1048576 [.int .i64 ap] 1 false true fun aq=>Aa N aq 3 a 6 3 ao fun ar=>Au .i64 (((b.drop (a.toNat*22)).take 22).drop 7) fun au=>Aq N 0 1048576 [.int .i64 au] 1 false true fun av=>Aa N av 3 a 7 3 ar fun aw=>Au .i64 (((b.drop (a.toNat*22)).take 22).drop 2) fun ax=>Au .i64 (((b.drop (a.toNat*22)).take 22).drop 3) fun ay=>Au .i64 (((b.drop (a.toNat*22)).take 22).drop 8) fun az=>Aq N ax ay [.int .i64 az] 1 false true fun ba=>Aa N ba 3 a 8 3 aw fun bb=>Au .i64 (((b.drop (a.toNat*22)).take 22).drop 2) fun bc=>Au .i64 (((b.drop (a.toNat*22)).take 22).drop 3) fun bd=>Au .i64 (((b.drop (a.toNat*22)).take 22).drop 9) fun be=>Aq N bc bd [.int .i64 be] 1 false true fun bf=>Aa N bf 3 a 9 3 bb fun bg=>Au .i64 (((b.drop (a.toNat*22)).take 22).drop 10) fun bh=>Aq N 0 24 [.int .i64 bh] 1 false true fun bi=>Aa N bi 3 a 10 3 bg fun bj=>Au .i64 (((b.drop (a.toNat*22)).take 22).drop 11) fun bk=>Aq N 0 24 [.int .i64 bk] 1 false true fun bl=>Aa N bl 3 a 11 3 bj fun bm=>Au .i64 (((b.drop (a.toNat*22)).take 22).drop 12) fun bn=>Aq N 0 24 [.int .i64 bn] 1 false true fun bo=>Aa N bo 3 a 12 3 bm fun bp=>Au .i64 (((b.drop (a.toNat*22)).take 22).drop 13) fun bq=>Aq N 0 1048576 [.int .i64 bq] 1 false true fun br=>Aa N br 3 a 13 3 bp fun bs=>Au .i64 (((b.drop (a.toNat*22)).take 22).drop 14) fun bt=>Aq N 0 1048576 [.int .i64 bt] 1 false true fun bu=>Aa N bu 3 a 14 3 bs fun bv=>Au .i64 (((b.drop (a.toNat*22)).take 22).drop 15) fun bw=>Aq N 0 24 [.int .i64 bw] 1 false true fun bx=>Aa N bx 3 a 15 3 bv fun bz=>Au .i64 (((b.drop (a.toNat*22)).take 22).drop 16) fun ca=>Aq N 0 1048576 [.int .i64 ca] 1 false true fun cb=>Aa N cb 3 a 16 3 bz fun cc=>Au .i64 (((b.drop (a.toNat*22)).take 22).drop 17) fun cd=>Aq N 0 1048576 [.int .i64 cd] 1 false true fun ce=>Aa N ce 3 a 17 3 cc fun cf=>cond (ble 8 e.length) (Bv 1 (((b.drop (a.toNat*22)).take 22).drop 18) fun cg ch=>H0 N (e.take 8) c cg ch false c 3 a 18 cf fun ci=>Au .i64 (((b.drop (a.toNat*22)).take 22).drop 19) fun cj=>Aq N 0 2 [.int .i64 cj] 1 false true fun ck=>Aa N ck 3 a 19 12 ci fun j=>Au .i64 (((b.drop (a.toNat*22)).take 22).drop 19) fun cl=>cond ((cl != 1)==false) (Au .i64 (((b.drop (a.toNat*22)).take 22).drop 12) fun cm=>Aa N (cond false true (decide (cm>0))) 3 a 19 16 j fun cn=>q0 cn ((b.drop (a.toNat*22)).take 22)) (Aa N true 3 a 19 16 j fun co=>q0 co ((b.drop (a.toNat*22)).take 22))) none) none) none) none) none) none) none)
def H3:=(Ak fun N e c a f r0=>Ks (R:=R) N r0 (Hr N r0 a c) e c a f).1
def Tg(e c a f r0):(@H3 R N e c a f r0)=(Ks N r0 (Hr N r0 a c) e c a f):=by rw[H3,(Ak _).2]
def Ug:Hints:={H:=hK 22 (hJ [0,2,6,7] hL (hK 1 (hJ [0,2,6,7] hL hL)))}
def W7:U6:=[Eb N,Kq N,C3 N,Be N,DW N,W2 N]
def Uh(F:KF R):=L7 Tryz.f158 Ug (W7 N) [100000] N F
def NN(a:Int)(c:Bool)(d:LA)(K:St->O R):=fun h=>K ⟨[(0,.optr 100000 0),(2,iv a),(6,op 0),(7,iv 3)],[(100000,bQ 0 h),(300000,bP c 0 d)]⟩
def NO(a:Int)(c:Bool)(K:St->O R):=fun g d=>K ⟨[(0,.optr 100000 0),(2,iv a),(6,op 0),(7,iv 3)],[(100000,bQ 0 g),(300000,bP c 0 d)]⟩
def DX(F:KF R)(a c d):NN a c d (Bc (Uh N F (pz 1501199875790165) []))=(M5 N (Gw F) a c d):=by kernel_rfl
def DY(F:KF R)(a c):NO a c (Bc (Uh N F (pz 93824992236885) []))=(Hr N (Gw F) a c):=(Cg (Lk N (Gw F) a c) (wg fun d=>(jW ..).trans (DX ..)):_)
def QR:=Ce N 158 (W7 N) Ug (fun
|[.optr 100000 0,.pagg e c,.int .i64 a],[(100000,⟨false,false,true,false,0,f,false,none⟩)]=>some fun _ k=>H3 N e c a f (Gw k)
| _,_=>none) fun _ _=>by split;intro R F;exact(Cg (Ks N (Gw F) · _ _ _ _) ((jW ..).trans (DY ..)):_).trans (Tg ..).symm;trivial
def N3(c:LA)(d:Bool)(a:Int)(e:LA)(r0:LA->O R):O R:=(Bv 9 (c.drop 5) fun b g=>cond (Ah a g) (cond (ble 9 ((b.drop (a.toNat*9)).length)) (cond ((beq 0 0)&&((beq (((b.drop (a.toNat*9)).take 9).length) 9)&&(beq 9 9))) (cond (ble 8 c.length) (B6 N (c.take 8) d 4 a e fun h=>cond (ble 8 c.length) (Au .i64 (((b.drop (a.toNat*9)).take 9).drop 1) fun i=>D1 N (c.take 8) d i 4 a 1 h fun j=>Au .i64 (((b.drop (a.toNat*9)).take 9).drop 2) fun l=>Aq N 0 1048576 [.int .i64 l] 1 false true fun m=>Aa N m 4 a 2 3 j fun n=>Au .i64 (((b.drop (a.toNat*9)).take 9).drop 2) fun o=>Au .i64 (((b.drop (a.toNat*9)).take 9).drop 3) fun p=>Aq N 0 o [.int .i64 p] 1 false true fun q=>Aa N q 4 a 3 3 n fun r=>Au .i64 (((b.drop (a.toNat*9)).take 9).drop 2) fun s=>Au .i64 (((b.drop (a.toNat*9)).take 9).drop 4) fun t=>Aq N 0 s [.int .i64 t] 1 false true fun u=>Aa N u 4 a 4 3 r fun v=>Au .i64 (((b.drop (a.toNat*9)).take 9).drop 5) fun w=>Aq N 0 1048576 [.int .i64 w] 1 false true fun x=>Aa N x 4 a 5 3 v fun y=>Au .i64 (((b.drop (a.toNat*9)).take 9).drop 6) fun z=>Aq N 0 1048576 [.int .i64 z] 1 false true fun aa=>Aa N aa 4 a 6 3 y fun f=>cond (ble 2 ((((b.drop (a.toNat*9)).take 9).drop 7).length)) (cond ((!d)||(A4 ((((b.drop (a.toNat*9)).take 9).drop 7).take 2))) (Iz N ((((b.drop (a.toNat*9)).take 9).drop 7).take 2) false fun ab=>cond (ab==true) (Au .i64 (((b.drop (a.toNat*9)).take 9).drop 7) fun ac=>cond ((cond true (decide (ac>0)) false)==true) (Au .i64 (((b.drop (a.toNat*9)).take 9).drop 7) fun ad=>Au .i64 (((b.drop (a.toNat*9)).take 9).drop 8) fun ae=>Aa N (cond true (decide (ad<=ae)) false) 4 a 7 3 f fun af=>r0 af) (Aa N false 4 a 7 3 f fun ag=>r0 ag)) (Aa N false 4 a 7 3 f fun ah=>r0 ah)) none) none) none) none) none) none) none)
def Kt:=(Ak (@N3 R)).1
def P9:@Kt R=@N3 R:=(Ak _).2
def NP:=Ce N 159 [Eb N,Kq N,C3 N,Be N,JN N] Eg (fun
|[.optr 100000 0,.pagg c d,.int .i64 a],[(100000,⟨false,false,true,false,0,e,false,none⟩)]=>some fun _ k=>Kt N c d a e (Gw k)
| _,_=>none) fun _ _=>by split;intro R F;dsimp only;rw[P9];kernel_rfl;trivial
def Rd(b:LA)(c:Bool)(a:Int)(e:LA)(r0:LA->O R):O R:=(Bv 5 (b.drop 6) fun d f=>cond (Ah a f) (cond (ble 5 ((d.drop (a.toNat*5)).length)) (cond ((beq 0 0)&&((beq (((d.drop (a.toNat*5)).take 5).length) 5)&&(beq 5 5))) (cond (ble 8 b.length) (B6 N (b.take 8) c 5 a e fun g=>cond (ble 8 b.length) (Au .i64 (((d.drop (a.toNat*5)).take 5).drop 1) fun h=>D1 N (b.take 8) c h 5 a 1 g fun i=>cond (ble 8 b.length) (Bv 1 (((d.drop (a.toNat*5)).take 5).drop 2) fun j l=>Ck N (b.take 8) c j l false c 0 1048576 5 a 2 i fun m=>cond (ble 8 b.length) (Bv 1 (((d.drop (a.toNat*5)).take 5).drop 3) fun n o=>Ck N (b.take 8) c n o false c 0 1048576 5 a 3 m fun p=>cond (ble 8 b.length) (Bv 1 (((d.drop (a.toNat*5)).take 5).drop 4) fun q r=>Ck N (b.take 8) c q r false c (-1048576) 1048576 5 a 4 p fun s=>r0 s) none) none) none) none) none) none) none) none)
def Np:=(Ak (@Rd R)).1
def Ui:@Np R=@Rd R:=(Ak _).2
def TK:=Ce N 160 [Eb N,Kq N,Lf N] Eg (fun
|[.optr 100000 0,.pagg b c,.int .i64 a],[(100000,⟨false,false,true,false,0,e,false,none⟩)]=>some fun _ k=>Np N b c a e (Gw k)
| _,_=>none) fun _ _=>by split;intro R F;dsimp only;rw[Ui];kernel_rfl;trivial
def Fb(r0:LA->O R)(a:Int)(f:LA)(h:Nat)(b:Bool)(k2:Int->Int->LA->O R)(t l:Int)(u:LA):O R:=(cond (decide (l<t)) (cond (Ah l h) (cond (ble 3 ((f.drop (l.toNat*3)).length)) (cond ((!b)||(A4 ((f.drop (l.toNat*3)).take 3))) (cond ((beq (((f.drop (l.toNat*3)).take 3).length) 3)&&((ble 3 3)&&(!false))) (Au .i64 ((setCells [Aqc,Aqc,Aqc] 0 ((f.drop (l.toNat*3)).take 3)).drop 1) fun x=>Au .i64 ((setCells [Aqc,Aqc,Aqc] 0 ((f.drop (l.toNat*3)).take 3)).drop 2) fun y=>Aq N 0 1048576 [.int .i64 x,.int .i64 y] 2 false true fun z=>Aa N z 6 a 3 3 u fun aa=>k2 t (wrap .i64 (l+1)) aa) none) none) none) none) (r0 u))
def Cx(r0:LA->O R)(a:Int)(f:LA)(h:Nat)(b:Bool):Nat->Int->Int->LA->O R
|0=>fun _ _ _=>none
|n+1=>Fb N r0 a f h b (Cx r0 a f h b n)
def Fc(r0:LA->O R)(a:Int)(g:LA)(i:Nat)(b:Bool)(j c d:LA)(k1:Nat->Int->Int->LA->O R)(q2:LA->Nat->Int->Int->LA->O R)(m:Nat)(v o:Int)(r:LA):O R:=(cond (decide (o<v)) (cond (Ah o i) (cond (ble 3 ((g.drop (o.toNat*3)).length)) (cond ((!b)||(A4 ((g.drop (o.toNat*3)).take 3))) (cond ((beq (((g.drop (o.toNat*3)).take 3).length) 3)&&((ble 3 3)&&(!false))) (Au .i64 (setCells [Aqc,Aqc,Aqc] 0 ((g.drop (o.toNat*3)).take 3)) fun ab=>cond ((ble (m+1) 140737488355328)&&(ble ((m+1)*8) 140737488355328)) (k1 (m+1) v (wrap .i64 (o+1)) ((r.take (m*1))++[.int .i64 ab])) none) none) none) none) none) (Bv 22 (c.drop 4) fun bb ac=>Aq N 0 (wrap .i64 ((ac:Int) - 1)) (r.take (m*1)) m false true fun ad=>Aa N ad 6 a 3 12 j fun ae=>N2 N (r.take (m*1)) m false true fun af=>Aa N af 6 a 3 11 ae fun ag=>Bv 3 (d.drop 3) fun f h=>q2 f h (h:Int) 0 ag))
def Cy(r0:LA->O R)(a:Int)(g:LA)(i:Nat)(b:Bool)(j c d:LA):Nat->Nat->Int->Int->LA->O R
|0=>fun _ _ _ _=>none
|n+1=>Fc N r0 a g i b j c d (Cy r0 a g i b j c d n) (fun f h=>Cx N r0 a f h b N)
def I0(r0:LA->O R)(a:Int)(b:Bool)(c:LA)(q1:LA->Nat->LA->LA->Nat->Int->Int->LA->O R)(s d:LA):O R:=(Bv 3 (d.drop 3) fun bc ah=>Aa N (decide ((ah:Int)<=16)) 6 a 3 8 s fun j=>Bv 3 (d.drop 3) fun g i=>q1 g i j d 0 (i:Int) 0 [])
def Gc(r0:LA->O R)(a:Int)(b:Bool)(c:LA)(s d:LA):O R:=I0 N r0 a b c (fun g i j d=>Cy N r0 a g i b j c d N) s d
def Hs(r0:LA->O R)(q0:LA->LA->O R)(c:LA)(b:Bool)(a:Int)(q:LA):O R:=(Bv 4 (c.drop 7) fun p ai=>cond (Ah a ai) (cond (ble 4 ((p.drop (a.toNat*4)).length)) (cond ((beq 0 0)&&((beq (((p.drop (a.toNat*4)).take 4).length) 4)&&(beq 4 4))) (cond (ble 8 c.length) (B6 N (c.take 8) b 6 a q fun aj=>Bv 1 (((p.drop (a.toNat*4)).take 4).drop 1) fun bd ak=>Aq N 1 2 [.int .i64 (ak:Int)] 1 false true fun al=>Aa N al 6 a 1 4 aj fun am=>Bv 12 (c.drop 3) fun be an=>Bv 1 (((p.drop (a.toNat*4)).take 4).drop 1) fun ao ap=>Aq N 0 (wrap .i64 ((an:Int) - 1)) ao ap false b fun aq=>Aa N aq 6 a 1 12 am fun ar=>Bv 1 (((p.drop (a.toNat*4)).take 4).drop 1) fun au av=>N2 N au av false b fun aw=>Aa N aw 6 a 1 11 ar fun w=>X2 (((p.drop (a.toNat*4)).take 4).drop 2) fun ax=>cond (ax==false) (Bv 3 (((p.drop (a.toNat*4)).take 4).drop 3) fun bf ay=>Aa N (cond false true ((ay:Int)==0)) 6 a 3 16 w fun az=>q0 az ((p.drop (a.toNat*4)).take 4)) (Aa N true 6 a 3 16 w fun ba=>q0 ba ((p.drop (a.toNat*4)).take 4))) none) none) none) none)
def Fx:=(Ak fun N c b a q r0=>Hs (R:=R) N r0 (Gc N r0 a b c) c b a q).1
def Pj(c b a q r0):(@Fx R N c b a q r0)=(Hs N r0 (Gc N r0 a b c) c b a q):=by rw[Fx,(Ak _).2]
def Qa:Hints:={H:=hK 6 (hJ [0,2,4,6,7] hL (hK 2 (hS (hK 1 (hS (hP [0,2,4,6,7,8,71,72,73] hL) hL)) (hK 3 (hS (hP [0,2,7,100,101,102] hL) hL))))),nils:=[(8,1)]}
def Th:U6:=[Eb N,C3 N,Be N,TJ N]
def Ki(F:KF R):=L7 Tryz.f161 Qa (Th N) [100000] N F
def HG(a:Int)(f:LA)(h:Nat)(b:Bool)(K:St->O R):=fun t l u=>K ⟨[(0,.optr 100000 0),(2,iv a),(7,iv 6),(100,.imm f h 3 false b),(101,iv t),(102,iv l)],[(100000,bQ 0 u)]⟩
def HH(a:Int)(g:LA)(i:Nat)(b:Bool)(j c d:LA)(K:St->O R):=fun m v o r=>K ⟨[(0,.optr 100000 0),(2,iv a),(4,op 0),(6,op 1),(7,iv 6),(8,Aqb 2 m),(71,.imm g i 3 false b),(72,iv v),(73,iv o)],[(100000,bQ 0 j),(300000,bP b 0 c),(300001,bP b 0 d),(300002,bQ 1 r)]⟩
def HI(a:Int)(b:Bool)(c:LA)(K:St->O R):=fun s d=>K ⟨[(0,.optr 100000 0),(2,iv a),(4,op 0),(6,op 1),(7,iv 6)],[(100000,bQ 0 s),(300000,bP b 0 c),(300001,bP b 0 d)]⟩
def Zt(F:KF R)(a f h b):∀ n,HG a f h b (As (Ki N F (pz 357913940) []) n)=(Cx N (Gw F) a f h b n):=Gu fun n e=>(Cg (Fb N (Gw F) a f h b) e:_)
def Zu(F:KF R)(a g i b j c d):∀ n,HH a g i b j c d (As (Ki N F (pz 22369604) []) n)=(Cy N (Gw F) a g i b j c d n):=Gu fun n e=>(OF (Fc N (Gw F) a g i b j c d) e (oE fun f h=>(lW ..).trans (Zt ..)):_)
def Zv(F:KF R)(a b c):HI a b c (Bc (Ki N F (pz 21845) []))=(Gc N (Gw F) a b c):=(Cg (I0 N (Gw F) a b c) (t7 fun g i j d=>(lW ..).trans (Zu ..)):_)
def JP:=Ce N 161 (Th N) Qa (fun
|[.optr 100000 0,.pagg c b,.int .i64 a],[(100000,⟨false,false,true,false,0,q,false,none⟩)]=>some fun _ k=>Fx N c b a q (Gw k)
| _,_=>none) fun _ _=>by split;intro R F;exact(Cg (Hs N (Gw F) · _ _ _ _) ((jW ..).trans (Zv ..)):_).trans (Pj ..).symm;trivial
def Yk(N:Nat)(r0:Bool->O R)(b:LA)(a:Nat)(d f:Bool)(c:Int)(k0:Int->O R)(g:Int):O R:=(cond (decide (g<(a:Int))) (cond (Ah g a) (Au .i64 (b.drop (g.toNat*1)) fun h=>cond (h==c) (r0 true) (k0 (wrap .i64 (g+1)))) none) (r0 false))
def N4(r0:Bool->O R)(b:LA)(a:Nat)(d f:Bool)(c:Int):Nat->Int->O R
|0=>fun _=>none
|n+1=>Yk N r0 b a d f c (N4 r0 b a d f c n)
def TL(N:Nat)(r0:Bool->O R)(q0:Int->O R)(b:LA)(a:Nat)(d f:Bool)(c:Int):O R:=(q0 0)
def DZ:=(Ak fun N b a d f c r0=>TL (R:=R) N r0 (N4 N r0 b a d f c N) b a d f c).1
def bH(b a d f c r0):(@DZ R N b a d f c r0)=(TL N r0 (N4 N r0 b a d f c N) b a d f c):=by rw[DZ,(Ak _).2]
def gY:Hints:={H:=hK 1 (hS (hK 1 (hS (hP [0,1,5] hL) hL)) hL)}
def tn(F:KF R):=L7 Tryz.f163 gY [] [] N F
def tp(b:LA)(a:Nat)(d f:Bool)(c:Int)(K:St->O R):=fun g=>K ⟨[(0,.imm b a 1 d f),(1,iv c),(5,iv g)],[]⟩
def kE(F:KF R)(b a d f c):∀ n,tp b a d f c (As (tn N F (pz 324) []) n)=(N4 N (Cm F) b a d f c n):=Gu fun n e=>(Cg (Yk N (Cm F) b a d f c) e:_)
def XV:=Ce N 163 [] gY (fun
|[.imm b a 1 d f,.int .i64 c],[]=>some fun _ k=>DZ N b a d f c (Cm k)
| _,_=>none) fun _ _=>by split;intro R F;exact(Cg (TL N (Cm F) · _ _ _ _ _) ((lW ..).trans (kE ..)):_).trans (bH ..).symm;trivial
def Ku(r0:Nat->LA->O R)(b:Int)(c:Bool)(a:LA)(k0:Nat->Int->LA->O R)(d:Nat)(f:Int)(g:LA):O R:=(Bv 12 (a.drop 3) fun p h=>cond (decide (f<(h:Int))) (Bv 12 (a.drop 3) fun i j=>cond (Ah f j) (Bv 1 ((i.drop (f.toNat*12)).drop 11) fun l m=>DZ N l m false c b fun o=>cond (!o) (cond ((ble (d+1) 140737488355328)&&(ble ((d+1)*8) 140737488355328)) (k0 (d+1) (wrap .i64 (f+1)) ((g.take (d*1))++[.int .i64 f])) none) (k0 d (wrap .i64 (f+1)) g)) none) (r0 d g))
def Ec(r0:Nat->LA->O R)(b:Int)(c:Bool)(a:LA):Nat->Nat->Int->LA->O R
|0=>fun _ _ _=>none
|n+1=>Ku N r0 b c a (Ec r0 b c a n)
def Pk(N:Nat)(r0:Nat->LA->O R)(q0:Nat->Int->LA->O R)(a:LA)(c:Bool)(b:Int):O R:=(q0 0 0 [])
def Nc:=(Ak fun N a c b r0=>Pk (R:=R) N r0 (Ec N r0 b c a N) a c b).1
def Yl(a c b r0):(@Nc R N a c b r0)=(Pk N r0 (Ec N r0 b c a N) a c b):=by rw[Nc,(Ak _).2]
def BF:Hints:={H:=hK 2 (hS (hK 1 (hS (hP [1,2,5,6] hL) hL)) hL),nils:=[(4,1),(5,1)],modes:=[(2,1)]}
def GL:U6:=[XV N]
def XW(F:KF R):=L7 Tryz.f207 BF (GL N) [] N F
def XX(b:Int)(c:Bool)(a:LA)(K:St->O R):=fun d f g=>K ⟨[(1,iv b),(2,op 0),(5,Aqb 1 d),(6,iv f)],hq [bP c 0 a,bQ 1 g]⟩
def NQ(F:KF R)(b c a):∀ n,XX b c a (As (XW N F (pz 1348) []) n)=(Ec N (B9 F) b c a n):=Gu fun n e=>(Cg (Ku N (B9 F) b c a) e:_)
def dv:=Ce N 207 (GL N) BF (fun
|[.pagg a c,.int .i64 b],[]=>some fun _ k=>Nc N a c b (B9 k)
| _,_=>none) fun _ _=>by split;intro R F;exact(Cg (Pk N (B9 F) · _ _ _) ((lW ..).trans (NQ ..)):_).trans (Yl ..).symm;trivial
def Sg(N:Nat)(r0:Nat->Nat->LA->LA->O R)(b:Nat)(c:Bool)(a d:LA)(k0:Nat->Int->Int->LA->O R)(g:Nat)(i h:Int)(j:LA):O R:=(cond (decide (h<i)) (cond (Ah h b) (Au .i64 (d.drop (0+(h.toNat*1))) fun l=>Bv 12 (a.drop 3) fun m o=>cond (Ah l o) (Au .i64 ((m.drop (l.toNat*12)).drop 1) fun p=>Bv 12 (a.drop 3) fun q r=>cond (Ah l r) (Au .i64 ((q.drop (l.toNat*12)).drop 2) fun s=>cond ((ble (g+1) 140737488355328)&&(ble ((g+1)*16) 140737488355328)) (k0 (g+1) i (wrap .i64 (h+1)) ((j.take (g*2))++[.int .i64 p,.int .i64 s])) none) none) none) none) (r0 g b j d))
def I3(r0:Nat->Nat->LA->LA->O R)(b:Nat)(c:Bool)(a d:LA):Nat->Nat->Int->Int->LA->O R
|0=>fun _ _ _ _=>none
|n+1=>Sg N r0 b c a d (I3 r0 b c a d n)
def D_(r0:Nat->Nat->LA->LA->O R)(q0:Nat->LA->Nat->Int->Int->LA->O R)(a:LA)(c:Bool)(f:Int):O R:=(cond (ble 8 a.length) (Nc N (a.take 8) c f fun b d=>q0 b d 0 (b:Int) 0 []) none)
def BG:=(Ak fun N a c f r0=>D_ (R:=R) N r0 (fun b d=>I3 N r0 b c a d N) a c f).1
def OS(a c f r0):(@BG R N a c f r0)=(D_ N r0 (fun b d=>I3 N r0 b c a d N) a c f):=by rw[BG,(Ak _).2]
def TM:Hints:={H:=hK 3 (hS (hK 1 (hS (hP [2,6,7,13,14,15] hL) hL)) hL),nils:=[(4,2),(5,1),(7,2)],modes:=[(2,2),(2,1)]}
def bI:U6:=[dv N]
def o8(F:KF R):=L7 Tryz.f162 TM (bI N) [] N F
def Ve(F:KF R):Nat->Nat->LA->LA->O R:=fun t u v w=>F (.tup [Aqb 0 t,Aqb 1 u]) (hq [bQ 2 v,bQ 1 w])
def o9(b:Nat)(c:Bool)(a d:LA)(K:St->O R):=fun g i h j=>K ⟨[(2,op 0),(6,Aqb 1 b),(7,Aqb 2 g),(13,Aqb 1 b),(14,iv i),(15,iv h)],hq [bP c 0 a,bQ 1 d,bQ 2 j]⟩
def dw(F:KF R)(b c a d):∀ n,o9 b c a d (As (o8 N F (pz 5444) []) n)=(I3 N (Ve F) b c a d n):=Gu fun n e=>(Cg (Sg N (Ve F) b c a d) e:_)
def rT:=Ce N 162 (bI N) TM (fun
|[.pagg a c,.int .i64 f],[]=>some fun _ k=>BG N a c f (Ve k)
| _,_=>none) fun _ _=>by split;intro R F;exact(Cg (D_ N (Ve F) · _ _ _) (oE fun b d=>(lW ..).trans (dw ..)):_).trans (OS ..).symm;trivial
def Nq(N:Nat)(k1:Bool->LA->O R)(r0:Nat->LA->O R)(a:LA)(b:Nat)(d c:Bool)(f:Nat)(k2:Bool->Int->Int->LA->O R)(q:Bool)(o h:Int)(i:LA):O R:=(cond (decide (h<o)) (cond (Ah h b) (cond (ble 2 ((a.drop (h.toNat*2)).length)) (cond ((!c)||(A4 ((a.drop (h.toNat*2)).take 2))) (cond ((beq (((a.drop (h.toNat*2)).take 2).length) 2)&&((ble 2 2)&&(!false))) (Au .i64 (setCells [Aqc,Aqc] 0 ((a.drop (h.toNat*2)).take 2)) fun z=>cond (Ah z f) (Au .i64 (i.drop (0+(z.toNat*1))) fun j=>Au .i64 ((setCells [Aqc,Aqc] 0 ((a.drop (h.toNat*2)).take 2)).drop 1) fun aa=>cond (Ah aa f) (Au .i64 (i.drop (0+(aa.toNat*1))) fun l=>cond (q==false) (Au .i64 (setCells [Aqc,Aqc] 0 ((a.drop (h.toNat*2)).take 2)) fun ab=>cond (Ah ab f) (Au .i64 (i.drop (0+(ab.toNat*1))) fun ad=>cond ((cond false true (ad != (E2 j l)))==false) (Au .i64 ((setCells [Aqc,Aqc] 0 ((a.drop (h.toNat*2)).take 2)).drop 1) fun ac=>cond (Ah ac f) (Au .i64 (i.drop (0+(ac.toNat*1))) fun ae=>Au .i64 (setCells [Aqc,Aqc] 0 ((a.drop (h.toNat*2)).take 2)) fun r=>Au .i64 ((setCells [Aqc,Aqc] 0 ((a.drop (h.toNat*2)).take 2)).drop 1) fun v=>cond (Ah r f) (cond ((beq 1 1)&&((ble ((0+(r.toNat*1))+1) i.length)&&(!false))) (cond (Ah v f) (cond ((beq 1 1)&&((ble ((0+(v.toNat*1))+1) ((i.set (0+(r.toNat*1)) (.int .i64 (E2 j l))).length))&&(!false))) (k2 (cond false true (ae != (E2 j l))) o (wrap .i64 (h+1)) ((i.set (0+(r.toNat*1)) (.int .i64 (E2 j l))).set (0+(v.toNat*1)) (.int .i64 (E2 j l)))) none) none) none) none) none) (Au .i64 (setCells [Aqc,Aqc] 0 ((a.drop (h.toNat*2)).take 2)) fun s=>Au .i64 ((setCells [Aqc,Aqc] 0 ((a.drop (h.toNat*2)).take 2)).drop 1) fun w=>cond (Ah s f) (cond ((beq 1 1)&&((ble ((0+(s.toNat*1))+1) i.length)&&(!false))) (cond (Ah w f) (cond ((beq 1 1)&&((ble ((0+(w.toNat*1))+1) ((i.set (0+(s.toNat*1)) (.int .i64 (E2 j l))).length))&&(!false))) (k2 true o (wrap .i64 (h+1)) ((i.set (0+(s.toNat*1)) (.int .i64 (E2 j l))).set (0+(w.toNat*1)) (.int .i64 (E2 j l)))) none) none) none) none)) none) (Au .i64 (setCells [Aqc,Aqc] 0 ((a.drop (h.toNat*2)).take 2)) fun t=>Au .i64 ((setCells [Aqc,Aqc] 0 ((a.drop (h.toNat*2)).take 2)).drop 1) fun x=>cond (Ah t f) (cond ((beq 1 1)&&((ble ((0+(t.toNat*1))+1) i.length)&&(!false))) (cond (Ah x f) (cond ((beq 1 1)&&((ble ((0+(x.toNat*1))+1) ((i.set (0+(t.toNat*1)) (.int .i64 (E2 j l))).length))&&(!false))) (k2 true o (wrap .i64 (h+1)) ((i.set (0+(t.toNat*1)) (.int .i64 (E2 j l))).set (0+(x.toNat*1)) (.int .i64 (E2 j l)))) none) none) none) none)) none) none) none) none) none) none) (k1 q i))
def Fy(k1:Bool->LA->O R)(r0:Nat->LA->O R)(a:LA)(b:Nat)(d c:Bool)(f:Nat):Nat->Bool->Int->Int->LA->O R
|0=>fun _ _ _ _=>none
|n+1=>Nq N k1 r0 a b d c f (Fy k1 r0 a b d c f n)
def Nr(N:Nat)(r0:Nat->LA->O R)(a:LA)(b:Nat)(d c:Bool)(f:Nat)(k1:Bool->LA->O R)(q2:Bool->Int->Int->LA->O R)(y:Bool)(u:LA):O R:=(cond y (q2 false (b:Int) 0 u) (r0 f u))
def Cl(r0:Nat->LA->O R)(a:LA)(b:Nat)(d c:Bool)(f:Nat):Nat->Bool->LA->O R
|0=>fun _ _=>none
|n+1=>Nr N r0 a b d c f (Cl r0 a b d c f n) (Fy N (Cl r0 a b d c f n) r0 a b d c f N)
def Ns(N:Nat)(r0:Nat->LA->O R)(g:Int)(a:LA)(b:Nat)(d c:Bool)(k0:Nat->Int->LA->O R)(q1:Nat->Bool->LA->O R)(f:Nat)(m:Int)(p:LA):O R:=(cond (decide (m<g)) (cond (Ah m f) (cond ((beq 1 1)&&((ble ((0+(m.toNat*1))+1) p.length)&&(!false))) (k0 f (wrap .i64 (m+1)) (p.set (0+(m.toNat*1)) (.int .i64 m))) none) none) (q1 f true p))
def Fz(r0:Nat->LA->O R)(g:Int)(a:LA)(b:Nat)(d c:Bool):Nat->Nat->Int->LA->O R
|0=>fun _ _ _=>none
|n+1=>Ns N r0 g a b d c (Fz r0 g a b d c n) (fun f=>Cl N r0 a b d c f N)
def Vf(N:Nat)(r0:Nat->LA->O R)(q0:Nat->Int->LA->O R)(g:Int)(a:LA)(b:Nat)(d c:Bool):O R:=(cond ((decide (0<=g))&&((decide (g<=g))&&((decide (g<=140737488355328))&&(decide ((g*((8:Nat):Int))<=140737488355328))))) (q0 g.toNat 0 (replicate g.toNat Aqc)) none)
def Oi:=(Ak fun N g a b d c r0=>Vf (R:=R) N r0 (Fz N r0 g a b d c N) g a b d c).1
def GM(g a b d c r0):(@Oi R N g a b d c r0)=(Vf N r0 (Fz N r0 g a b d c N) g a b d c):=by rw[Oi,(Ak _).2]
def JQ:Hints:={H:=hK 2 (hS (hK 1 (hS (hP [0,1,5,6] hL) hL)) (hS (hK 1 (hS (hP [1,5,7] (hK 1 (hS (hK 2 (hS (hP [1,5,7,23,24,25] hL) hL)) hL))) hL)) hL)),nils:=[(4,1)],modes:=[(2,1)]}
def W8(F:KF R):=L7 Tryz.f209 JQ [] [] N F
def gZ(a:LA)(b:Nat)(d c:Bool)(f:Nat)(K:St->O R):=fun q o h i=>K ⟨[(1,.imm a b 2 d c),(5,Aqb 0 f),(7,.bool q),(23,.imm a b 2 d c),(24,iv o),(25,iv h)],hq [bQ 1 i]⟩
def W9(a:LA)(b:Nat)(d c:Bool)(f:Nat)(K:St->O R):=fun y u=>K ⟨[(1,.imm a b 2 d c),(5,Aqb 0 f),(7,.bool y)],hq [bQ 1 u]⟩
def g8(g:Int)(a:LA)(b:Nat)(d c:Bool)(K:St->O R):=fun f m p=>K ⟨[(0,iv g),(1,.imm a b 2 d c),(5,Aqb 0 f),(6,iv m)],hq [bQ 1 p]⟩
def TN Q1 (F:KF R) (a b d c f):∀ n,gZ a b d c f (As (W8 N F (pz 22298900) [Q1]) n)=(Fy N (W9 a b d c f Q1) (B9 F) a b d c f n):=Gu fun n e=>(Cg (Nq N (W9 a b d c f Q1) (B9 F) a b d c f) e:_)
def TO(F:KF R)(a b d c f):∀ n,W9 a b d c f (As (W8 N F (pz 5444) []) n)=(Cl N (B9 F) a b d c f n):=Gu fun n e=>(OF (Nr N (B9 F) a b d c f) e ((lW ..).trans ((TN ..).trans (rA (Fy _ · _ _ _ _ _ _ _) e))):_)
def TP(F:KF R)(g a b d c):∀ n,g8 g a b d c (As (W8 N F (pz 1348) []) n)=(Fz N (B9 F) g a b d c n):=Gu fun n e=>(OF (Ns N (B9 F) g a b d c) e (wg fun f=>(lW ..).trans (TO ..)):_)
def kF:=Ce N 209 [] JQ (fun
|[.int .i64 g,.imm a b 2 d c],[]=>some fun _ k=>Oi N g a b d c (B9 k)
| _,_=>none) fun _ _=>by split;intro R F;exact(Cg (Vf N (B9 F) · _ _ _ _ _) ((lW ..).trans (TP ..)):_).trans (GM ..).symm;trivial
def Sh(N:Nat)(r0:Int->O R)(b:LA)(a:Nat)(c d:Bool)(k0:Int->Int->O R)(g f:Int):O R:=(cond (decide (f<(a:Int))) (cond (Ah f a) (Au .i64 (b.drop (f.toNat*1)) fun h=>cond (h==f) (k0 (wrap .i64 (g+1)) (wrap .i64 (f+1))) (k0 g (wrap .i64 (f+1)))) none) (r0 g))
def I4(r0:Int->O R)(b:LA)(a:Nat)(c d:Bool):Nat->Int->Int->O R
|0=>fun _ _=>none
|n+1=>Sh N r0 b a c d (I4 r0 b a c d n)
def EA(N:Nat)(r0:Int->O R)(q0:Int->Int->O R)(b:LA)(a:Nat)(c d:Bool):O R:=(q0 0 0)
def V8:=(Ak fun N b a c d r0=>EA (R:=R) N r0 (I4 N r0 b a c d N) b a c d).1
def OT(b a c d r0):(@V8 R N b a c d r0)=(EA N r0 (I4 N r0 b a c d N) b a c d):=by rw[V8,(Ak _).2]
def TQ:Hints:={H:=hK 2 (hS (hK 1 (hS (hP [0,3,4] hL) hL)) hL)}
def o_(F:KF R):=L7 Tryz.f208 TQ [] [] N F
def oa(b:LA)(a:Nat)(c d:Bool)(K:St->O R):=fun g f=>K ⟨[(0,.imm b a 1 c d),(3,iv g),(4,iv f)],[]⟩
def dx(F:KF R)(b a c d):∀ n,oa b a c d (As (o_ N F (pz 1348) []) n)=(I4 N (Gv F) b a c d n):=Gu fun n e=>(Cg (Sh N (Gv F) b a c d) e:_)
def rU:=Ce N 208 [] TQ (fun
|[.imm b a 1 c d],[]=>some fun _ k=>V8 N b a c d (Gv k)
| _,_=>none) fun _ _=>by split;intro R F;exact(Cg (EA N (Gv F) · _ _ _ _) ((lW ..).trans (dx ..)):_).trans (OT ..).symm;trivial
def Kv(r0:Bool->O R)(c:Int)(a:LA)(b:Nat)(i d:Bool)(f:LA)(g:Nat)(j h:Bool)(k0:Nat->Int->LA->O R)(m:Nat)(l:Int)(o:LA):O R:=(cond (decide (l<(b:Int))) (DZ N f g false h l fun r=>cond (!r) (cond (Ah l b) (cond (ble 2 ((a.drop (l.toNat*2)).length)) (cond ((!d)||(A4 ((a.drop (l.toNat*2)).take 2))) (cond ((beq (((a.drop (l.toNat*2)).take 2).length) 2)&&(ble 2 2)) (cond ((ble (m+1) 140737488355328)&&(ble ((m+1)*16) 140737488355328)) (k0 (m+1) (wrap .i64 (l+1)) ((o.take (m*2))++((setCells [Aqc,Aqc] 0 ((a.drop (l.toNat*2)).take 2)).take 2))) none) none) none) none) none) (k0 m (wrap .i64 (l+1)) o)) (Oi N c (o.take (m*2)) m false true fun p s=>V8 N (s.take (p*1)) p false true fun t=>Oi N c a b false d fun q u=>V8 N (u.take (q*1)) q false true fun v=>r0 (decide (t>v))))
def Ed(r0:Bool->O R)(c:Int)(a:LA)(b:Nat)(i d:Bool)(f:LA)(g:Nat)(j h:Bool):Nat->Nat->Int->LA->O R
|0=>fun _ _ _=>none
|n+1=>Kv N r0 c a b i d f g j h (Ed r0 c a b i d f g j h n)
def Pm(N:Nat)(r0:Bool->O R)(q0:Nat->Int->LA->O R)(c:Int)(a:LA)(b:Nat)(i d:Bool)(f:LA)(g:Nat)(j h:Bool):O R:=(q0 0 0 [])
def Nd:=(Ak fun N c a b i d f g j h r0=>Pm (R:=R) N r0 (Ed N r0 c a b i d f g j h N) c a b i d f g j h).1
def Ym(c a b i d f g j h r0):(@Nd R N c a b i d f g j h r0)=(Pm N r0 (Ed N r0 c a b i d f g j h N) c a b i d f g j h):=by rw[Nd,(Ak _).2]
def BH:Hints:={H:=hK 2 (hS (hK 1 (hS (hP [0,1,2,7,8] hL) hL)) hL),nils:=[(7,2)]}
def GN:U6:=[XV N,kF N,rU N]
def XY(F:KF R):=L7 Tryz.f164 BH (GN N) [] N F
def XZ(c:Int)(a:LA)(b:Nat)(i d:Bool)(f:LA)(g:Nat)(j h:Bool)(K:St->O R):=fun m l o=>K ⟨[(0,iv c),(1,.imm a b 2 i d),(2,.imm f g 1 j h),(7,Aqb 0 m),(8,iv l)],hq [bQ 2 o]⟩
def NR(F:KF R)(c a b i d f g j h):∀ n,XZ c a b i d f g j h (As (XY N F (pz 1348) []) n)=(Ed N (Cm F) c a b i d f g j h n):=Gu fun n e=>(Cg (Kv N (Cm F) c a b i d f g j h) e:_)
def dy:=Ce N 164 (GN N) BH (fun
|[.int .i64 c,.imm a b 2 i d,.imm f g 1 j h],[]=>some fun _ k=>Nd N c a b i d f g j h (Cm k)
| _,_=>none) fun _ _=>by split;intro R F;exact(Cg (Pm N (Cm F) · _ _ _ _ _ _ _ _ _) ((lW ..).trans (NR ..)):_).trans (Ym ..).symm;trivial
def Pn(k0:Int->LA->O R)(r0:LA->Int->O R)(b:Bool)(a:LA)(i:Int)(aj:LA):O R:=(cond (ble 8 a.length) (B6 N (a.take 8) b 1 i aj fun ak=>cond (ble 8 a.length) (Bv 3 (a.drop 2) fun al am=>cond (Ah i am) (Bv 1 ((al.drop (i.toNat*3)).drop 1) fun an ao=>Ck N (a.take 8) b an ao false b 0 1048576 1 i 1 ak fun ap=>Bv 3 (a.drop 2) fun aq ar=>cond (Ah i ar) (Au .i64 ((aq.drop (i.toNat*3)).drop 2) fun au=>Aq N 0 1048576 [.int .i64 au] 1 false true fun av=>Aa N av 1 i 2 3 ap fun aw=>k0 (wrap .i64 (i+1)) aw) none) none) none) none)
def Po(k7:Int->LA->O R)(k9:Int->Int->LA->O R)(r0:LA->Int->O R)(c d:Nat)(b:Bool)(a f g:LA)(k10:Int->Int->Nat->Int->LA->LA->O R)(o l:Int)(j:Nat)(m:Int)(w x:LA):O R:=(cond (decide (m<(d:Int))) (Bv 4 (a.drop 7) fun ax ay=>cond (Ah l ay) (Bv 1 ((ax.drop (l.toNat*4)).drop 1) fun az ba=>cond (Ah m d) (Au .i64 (g.drop (0+(m.toNat*1))) fun bb=>DZ N az ba false b bb fun bc=>cond bc (cond ((ble (j+1) 140737488355328)&&(ble ((j+1)*8) 140737488355328)) (k10 o l (j+1) (wrap .i64 (m+1)) w ((x.take (j*1))++[.int .i64 m])) none) (k10 o l j (wrap .i64 (m+1)) w x)) none) none) (Bv 3 (a.drop 2) fun ce bd=>Nd N (bd:Int) (f.take (c*2)) c false true (x.take (j*1)) j false true fun be=>Aa N (!be) 6 l o 13 w fun bf=>k9 o (wrap .i64 (l+1)) bf))
def Hg(k7:Int->LA->O R)(k9:Int->Int->LA->O R)(r0:LA->Int->O R)(c d:Nat)(b:Bool)(a f g:LA):Nat->Int->Int->Nat->Int->LA->LA->O R
|0=>fun _ _ _ _ _ _=>none
|n+1=>Po N k7 k9 r0 c d b a f g (Hg k7 k9 r0 c d b a f g n)
def Si(N:Nat)(k7:Int->LA->O R)(r0:LA->Int->O R)(c d:Nat)(b:Bool)(a f g:LA)(k9:Int->Int->LA->O R)(q10:Int->Int->Nat->Int->LA->LA->O R)(ae af:Int)(ag:LA):O R:=(Bv 4 (a.drop 7) fun cf bg=>cond (decide (af<(bg:Int))) (q10 ae af 0 0 ag []) (k7 (wrap .i64 (ae+1)) ag))
def G1(k7:Int->LA->O R)(r0:LA->Int->O R)(c d:Nat)(b:Bool)(a f g:LA):Nat->Int->Int->LA->O R
|0=>fun _ _ _=>none
|n+1=>Si N k7 r0 c d b a f g (G1 k7 r0 c d b a f g n) (Hg N k7 (G1 k7 r0 c d b a f g n) r0 c d b a f g N)
def Zw(k7:Int->LA->O R)(r0:LA->Int->O R)(b:Bool)(a:LA)(q9:Nat->Nat->LA->LA->Int->Int->LA->O R)(p:Int)(y:LA):O R:=(cond (ble 8 a.length) (BG N (a.take 8) b p fun c d f g=>q9 c d f g p 0 y) none)
def Vg(k7:Int->LA->O R)(r0:LA->Int->O R)(b:Bool)(a:LA)(p:Int)(y:LA):O R:=Zw N k7 r0 b a (fun c d f g=>G1 N k7 r0 c d b a f g N) p y
def Nf(N:Nat)(r0:LA->Int->O R)(b:Bool)(a:LA)(k7:Int->LA->O R)(q8:Int->LA->O R)(ah:Int)(h:LA):O R:=(Au .i64 a fun bh=>cond ((decide (ah<bh))==true) (Au .i64 (h.drop 3) fun bi=>cond (cond true (bi==0) false) (q8 ah h) (cond (ble 3 h.length) (Au .i64 (h.drop 3) fun bj=>cond ((beq ((h.take 3).length) 3)&&((ble 3 3)&&(!false))) (cond (ble 3 ((setCells [Aqc,Aqc,Aqc] 0 (h.take 3)).length)) (r0 ((setCells [Aqc,Aqc,Aqc] 0 (h.take 3)).take 3) bj) none) none) none)) (cond (ble 3 h.length) (Au .i64 (h.drop 3) fun bk=>cond ((beq ((h.take 3).length) 3)&&((ble 3 3)&&(!false))) (cond (ble 3 ((setCells [Aqc,Aqc,Aqc] 0 (h.take 3)).length)) (r0 ((setCells [Aqc,Aqc,Aqc] 0 (h.take 3)).take 3) bk) none) none) none))
def C6(r0:LA->Int->O R)(b:Bool)(a:LA):Nat->Int->LA->O R
|0=>fun _ _=>none
|n+1=>Nf N r0 b a (C6 r0 b a n) (Vg N (C6 r0 b a n) r0 b a)
def Sj(r0:LA->Int->O R)(b:Bool)(a:LA)(k6:Int->LA->O R)(q7:Int->LA->O R)(z:Int)(q:LA):O R:=(Bv 4 (a.drop 7) fun cg bl=>cond ((decide (z<(bl:Int)))==true) (Au .i64 (q.drop 3) fun bm=>cond (cond true (bm==0) false) (cond (ble 8 a.length) (Fx N (a.take 8) b z q fun bn=>k6 (wrap .i64 (z+1)) bn) none) (q7 0 q)) (q7 0 q))
def I5(r0:LA->Int->O R)(b:Bool)(a:LA):Nat->Int->LA->O R
|0=>fun _ _=>none
|n+1=>Sj N r0 b a (I5 r0 b a n) (C6 N r0 b a N)
def Sk(r0:LA->Int->O R)(b:Bool)(a:LA)(k5:Int->LA->O R)(q6:Int->LA->O R)(aa:Int)(r:LA):O R:=(Bv 5 (a.drop 6) fun ch bo=>cond ((decide (aa<(bo:Int)))==true) (Au .i64 (r.drop 3) fun bp=>cond (cond true (bp==0) false) (cond (ble 8 a.length) (Np N (a.take 8) b aa r fun bq=>k5 (wrap .i64 (aa+1)) bq) none) (q6 0 r)) (q6 0 r))
def I6(r0:LA->Int->O R)(b:Bool)(a:LA):Nat->Int->LA->O R
|0=>fun _ _=>none
|n+1=>Sk N r0 b a (I6 r0 b a n) (I5 N r0 b a N)
def Sm(r0:LA->Int->O R)(b:Bool)(a:LA)(k4:Int->LA->O R)(q5:Int->LA->O R)(ab:Int)(s:LA):O R:=(Bv 9 (a.drop 5) fun ci br=>cond ((decide (ab<(br:Int)))==true) (Au .i64 (s.drop 3) fun bs=>cond (cond true (bs==0) false) (cond (ble 8 a.length) (Kt N (a.take 8) b ab s fun bt=>k4 (wrap .i64 (ab+1)) bt) none) (q5 0 s)) (q5 0 s))
def I7(r0:LA->Int->O R)(b:Bool)(a:LA):Nat->Int->LA->O R
|0=>fun _ _=>none
|n+1=>Sm N r0 b a (I7 r0 b a n) (I6 N r0 b a N)
def Sn(r0:LA->Int->O R)(b:Bool)(a:LA)(k3:Int->LA->O R)(q4:Int->LA->O R)(ac:Int)(t:LA):O R:=(Bv 22 (a.drop 4) fun cj bu=>cond ((decide (ac<(bu:Int)))==true) (Au .i64 (t.drop 3) fun bv=>cond (cond true (bv==0) false) (cond (ble 8 a.length) (H3 N (a.take 8) b ac t fun bw=>k3 (wrap .i64 (ac+1)) bw) none) (q4 0 t)) (q4 0 t))
def I8(r0:LA->Int->O R)(b:Bool)(a:LA):Nat->Int->LA->O R
|0=>fun _ _=>none
|n+1=>Sn N r0 b a (I8 r0 b a n) (I7 N r0 b a N)
def So(r0:LA->Int->O R)(b:Bool)(a:LA)(k2:Int->LA->O R)(q3:Int->LA->O R)(ad:Int)(u:LA):O R:=(Bv 12 (a.drop 3) fun ck bx=>cond ((decide (ad<(bx:Int)))==true) (Au .i64 (u.drop 3) fun bz=>cond (cond true (bz==0) false) (cond (ble 8 a.length) (H1 N (a.take 8) b ad u fun ca=>k2 (wrap .i64 (ad+1)) ca) none) (q3 0 u)) (q3 0 u))
def I9(r0:LA->Int->O R)(b:Bool)(a:LA):Nat->Int->LA->O R
|0=>fun _ _=>none
|n+1=>So N r0 b a (I9 r0 b a n) (I8 N r0 b a N)
def Sp(N:Nat)(r0:LA->Int->O R)(b:Bool)(a:LA)(k0:Int->LA->O R)(q1:Int->LA->O R)(q2:Int->LA->O R)(ai:Int)(v:LA):O R:=(Bv 3 (a.drop 2) fun cl cb=>cond ((decide (ai<(cb:Int)))==true) (Au .i64 (v.drop 3) fun cc=>cond (cond true (cc==0) false) (q1 ai v) (q2 0 v)) (q2 0 v))
def G2(r0:LA->Int->O R)(b:Bool)(a:LA):Nat->Int->LA->O R
|0=>fun _ _=>none
|n+1=>Sp N r0 b a (G2 r0 b a n) (Pn N (G2 r0 b a n) r0 b a) (I9 N r0 b a N)
def EB(r0:LA->Int->O R)(q0:Int->LA->O R)(a:LA)(b:Bool):O R:=(cond (ble 8 a.length) (Gz N (a.take 8) b [Aqc,Aqc,Aqc,Aqc] fun cd=>q0 0 cd) none)
def BI:=(Ak fun N a b r0=>EB (R:=R) N r0 (G2 N r0 b a N) a b).1
def OU(a b r0):(@BI R N a b r0)=(EB N r0 (G2 N r0 b a N) a b):=by rw[BI,(Ak _).2]
def TR:Hints:={H:=hK 3 (hS (hK 1 (hS (hP [1,2,4,5] (hJ [1,2,4,5] hL hL)) hL)) (hS (hK 1 (hS (hP [1,2,4,6] hL) hL)) (hS (hK 1 (hS (hP [1,2,4,7] hL) hL)) (hS (hK 1 (hS (hP [1,2,4,8] hL) hL)) (hS (hK 1 (hS (hP [1,2,4,9] hL) hL)) (hS (hK 1 (hS (hP [1,2,4,10] hL) hL)) (hS (hK 1 (hS (hP [1,2,4,11] (hJ [1,2,4,11] hL (hS (hS (hK 2 (hS (hP [1,2,4,11,12,13,14] (hK 1 (hS (hS (hK 1 (hS (hK 1 (hS (hP [1,2,4,11,12,13,14,15,16] hL) hL)) hL)) hL) hL))) hL)) hL) hL))) hL)) hL))))))),nils:=[(15,1)],modes:=[(3,0),(0,0)]}
def bJ:U6:=[NH N,Eb N,Lf N,C3 N,Be N,QQ N,QR N,NP N,TK N,JP N,rT N,XV N,dy N]
def Ds(F:KF R):=L7 Tryz.f95 TR (bJ N) [] N F
def oc(b:Bool)(a:LA)(K:St->O R):=fun i aj=>K ⟨[(1,op 0),(2,op 1),(4,op 2),(5,iv i)],hq [bP b 0 a,bQ 0 [iv 0,iv 0,iv 0],bQ 0 aj]⟩
def kG(c d:Nat)(b:Bool)(a f g:LA)(K:St->O R):=fun o l j m w x=>K ⟨[(1,op 0),(2,op 1),(4,op 2),(11,iv o),(12,Aqb 3 c),(13,Aqb 4 d),(14,iv l),(15,Aqb 5 j),(16,iv m)],hq [bP b 0 a,bQ 0 [iv 0,iv 0,iv 0],bQ 0 w,bQ 2 f,bQ 1 g,bQ 1 x]⟩
def EC(c d:Nat)(b:Bool)(a f g:LA)(K:St->O R):=fun ae af ag=>K ⟨[(1,op 0),(2,op 1),(4,op 2),(11,iv ae),(12,Aqb 3 c),(13,Aqb 4 d),(14,iv af)],hq [bP b 0 a,bQ 0 [iv 0,iv 0,iv 0],bQ 0 ag,bQ 2 f,bQ 1 g]⟩
def od(b:Bool)(a:LA)(K:St->O R):=fun p y=>K ⟨[(1,op 0),(2,op 1),(4,op 2),(11,iv p)],hq [bP b 0 a,bQ 0 [iv 0,iv 0,iv 0],bQ 0 y]⟩
def Ja(b:Bool)(a:LA)(K:St->O R):=fun ah h=>K ⟨[(1,op 0),(2,op 1),(4,op 2),(11,iv ah)],hq [bP b 0 a,bQ 0 [iv 0,iv 0,iv 0],bQ 0 h]⟩
def oe(b:Bool)(a:LA)(K:St->O R):=fun z q=>K ⟨[(1,op 0),(2,op 1),(4,op 2),(10,iv z)],hq [bP b 0 a,bQ 0 [iv 0,iv 0,iv 0],bQ 0 q]⟩
def og(b:Bool)(a:LA)(K:St->O R):=fun aa r=>K ⟨[(1,op 0),(2,op 1),(4,op 2),(9,iv aa)],hq [bP b 0 a,bQ 0 [iv 0,iv 0,iv 0],bQ 0 r]⟩
def oh(b:Bool)(a:LA)(K:St->O R):=fun ab s=>K ⟨[(1,op 0),(2,op 1),(4,op 2),(8,iv ab)],hq [bP b 0 a,bQ 0 [iv 0,iv 0,iv 0],bQ 0 s]⟩
def oi(b:Bool)(a:LA)(K:St->O R):=fun ac t=>K ⟨[(1,op 0),(2,op 1),(4,op 2),(7,iv ac)],hq [bP b 0 a,bQ 0 [iv 0,iv 0,iv 0],bQ 0 t]⟩
def om(b:Bool)(a:LA)(K:St->O R):=fun ad u=>K ⟨[(1,op 0),(2,op 1),(4,op 2),(6,iv ad)],hq [bP b 0 a,bQ 0 [iv 0,iv 0,iv 0],bQ 0 u]⟩
def TS(b:Bool)(a:LA)(K:St->O R):=fun ai v=>K ⟨[(1,op 0),(2,op 1),(4,op 2),(5,iv ai)],hq [bP b 0 a,bQ 0 [iv 0,iv 0,iv 0],bQ 0 v]⟩
def dz Q0 (F:KF R) (b a):oc b a (Bc (Ds N F (pz 87105) [Q0]))=(Pn N (TS b a Q0) (U7 F) b a):=by kernel_rfl
def X_(Q7 Q9)(F:KF R)(c d b a f g):∀ n,kG c d b a f g (As (Ds N F (pz 24019179469541444) [Q7,Q9]) n)=(Hg N (Ja b a Q7) (EC c d b a f g Q9) (U7 F) c d b a f g n):=Gu fun n e=>(Cg (Po N (Ja b a Q7) (EC c d b a f g Q9) (U7 F) c d b a f g) e:_)
def eA Q7 (F:KF R) (c d b a f g):∀ n,EC c d b a f g (As (Ds N F (pz 366503592980) [Q7]) n)=(G1 N (Ja b a Q7) (U7 F) c d b a f g n):=Gu fun n e=>(OF (Si N (Ja b a Q7) (U7 F) c d b a f g) e ((lW ..).trans ((X_ ..).trans (rA (Hg _ _ · _ _ _ _ _ _ _ _) e))):_)
def eB Q7 (F:KF R) (b a):od b a (Bc (Ds N F (pz 357913665) [Q7]))=(Vg N (Ja b a Q7) (U7 F) b a):=(Cg (Zw N (Ja b a Q7) (U7 F) b a) (t7 fun c d f g=>(lW ..).trans (eA ..)):_)
def eC(F:KF R)(b a):∀ n,Ja b a (As (Ds N F (pz 22369604) []) n)=(C6 N (U7 F) b a n):=Gu fun n e=>(OF (Nf N (U7 F) b a) e ((jW ..).trans ((eB ..).trans (rA (Vg _ · _ _ _) e))):_)
def eD(F:KF R)(b a):∀ n,oe b a (As (Ds N F (pz 5592388) []) n)=(I5 N (U7 F) b a n):=Gu fun n e=>(OF (Sj N (U7 F) b a) e ((lW ..).trans (eC ..)):_)
def eG(F:KF R)(b a):∀ n,og b a (As (Ds N F (pz 1398084) []) n)=(I6 N (U7 F) b a n):=Gu fun n e=>(OF (Sk N (U7 F) b a) e ((lW ..).trans (eD ..)):_)
def eH(F:KF R)(b a):∀ n,oh b a (As (Ds N F (pz 349508) []) n)=(I7 N (U7 F) b a n):=Gu fun n e=>(OF (Sm N (U7 F) b a) e ((lW ..).trans (eG ..)):_)
def eI(F:KF R)(b a):∀ n,oi b a (As (Ds N F (pz 87364) []) n)=(I8 N (U7 F) b a n):=Gu fun n e=>(OF (Sn N (U7 F) b a) e ((lW ..).trans (eH ..)):_)
def eJ(F:KF R)(b a):∀ n,om b a (As (Ds N F (pz 21828) []) n)=(I9 N (U7 F) b a n):=Gu fun n e=>(OF (So N (U7 F) b a) e ((lW ..).trans (eI ..)):_)
def eK(F:KF R)(b a):∀ n,TS b a (As (Ds N F (pz 5444) []) n)=(G2 N (U7 F) b a n):=Gu fun n e=>(Afg (Sp N (U7 F) b a) e ((jW ..).trans ((dz ..).trans (rA (Pn _ · _ _ _) e))) ((lW ..).trans (eJ ..)):_)
def rV:=Ce N 95 (bJ N) TR (fun
|[.pagg a b],[]=>some fun _ k=>BI N a b (U7 k)
| _,_=>none) fun _ _=>by split;intro R F;exact(Cg (EB N (U7 F) · _ _) ((lW ..).trans (eK ..)):_).trans (OU ..).symm;trivial
def ED(k2:Int->Int->Nat->LA->O R)(r0:LA->O R)(l:Int)(a:LA)(b:Nat)(c:Bool)(h:Int)(d f:Nat)(g i:LA)(au av:Int)(w:Nat)(aw:LA):O R:=(Af N l a b false c av fun ba bo=>Af N (wrap .i64 (l - 1)) a b false c bo fun bp bq=>cond (l==0) none (Pd N (w:Int) ba (Int.tmod (wrap .i64 ((wrap .i64 (ba+1))+bp)) l) h a b false c bq fun bb br=>cond ((beq bb.length 12)&&(ble 12 12)) (cond ((ble (w+1) 140737488355328)&&(ble ((w+1)*120) 140737488355328)) (k2 (wrap .i64 (au - 1)) br (w+1) ((aw.take (w*12))++((setCells [.str ([]:Lu),Aqc,Aqc,Aqc,Aqc,Aqc,Aqc,Aqc,Aqc,Aqc,Aqc,.nsl] 0 bb).take 12))) none) none))
def EE(k7:Int->Int->Nat->LA->O R)(r0:LA->O R)(a:LA)(b:Nat)(c:Bool)(h:Int)(d f m j q s:Nat)(g i o p r t:LA)(aj ax:Int)(u:Nat)(aa:LA):O R:=(Le N (u:Int) (m:Int) (j:Int) a b false c ax fun ab bc=>cond ((beq 0 0)&&((beq ab.length 4)&&(beq 4 4))) (cond ((ble (0+u) 140737488355328)&&(ble ((0+u)*72) 140737488355328)) (cond (ble 4 ab.length) (cond ((beq ((ab.take 4).length) 4)&&(ble 4 4)) (cond ((ble ((0+u)+1) 140737488355328)&&(ble (((0+u)+1)*72) 140737488355328)) (BI N [.int .i64 h,.imm (g.take (d*1)) d 1 false true,.imm (i.take (f*3)) f 3 false true,.imm (o.take (m*12)) m 12 false true,.imm (p.take (j*22)) j 22 false true,.imm (r.take (q*9)) q 9 false true,.imm (t.take (s*5)) s 5 false true,.imm (take (((0+u)+1)*4) (((aa.take (u*4)).take ((0+u)*4))++((setCells [.str ([]:Lu),.nsl,.bool false,.nsl] 0 (ab.take 4)).take 4))) ((0+u)+1) 4 false true] true fun bs bt=>cond ((beq bs.length 3)&&((ble 3 3)&&(!false))) (cond (bt==0) (k7 (wrap .i64 (aj - 1)) bc ((0+u)+1) (((aa.take (u*4)).take ((0+u)*4))++((setCells [.str ([]:Lu),.nsl,.bool false,.nsl] 0 (ab.take 4)).take 4))) (k7 (wrap .i64 (aj - 1)) bc u aa)) none) none) none) none) none) none)
def Ti(N:Nat)(r0:LA->O R)(a:LA)(b:Nat)(c:Bool)(h:Int)(d f m j q s:Nat)(g i o p r t:LA)(k7:Int->Int->Nat->LA->O R)(q8:Int->Int->Nat->LA->O R)(ak ay:Int)(x:Nat)(ac:LA):O R:=(cond ((decide (ak>0))==true) (cond (cond true (decide ((m:Int)>0)) false) (q8 ak ay x ac) (r0 [.int .i64 h,.imm (g.take (d*1)) d 1 false false,.imm (i.take (f*3)) f 3 false false,.imm (o.take (m*12)) m 12 false false,.imm (p.take (j*22)) j 22 false false,.imm (r.take (q*9)) q 9 false false,.imm (t.take (s*5)) s 5 false false,.imm (ac.take (x*4)) x 4 false false])) (r0 [.int .i64 h,.imm (g.take (d*1)) d 1 false false,.imm (i.take (f*3)) f 3 false false,.imm (o.take (m*12)) m 12 false false,.imm (p.take (j*22)) j 22 false false,.imm (r.take (q*9)) q 9 false false,.imm (t.take (s*5)) s 5 false false,.imm (ac.take (x*4)) x 4 false false]))
def F0(r0:LA->O R)(a:LA)(b:Nat)(c:Bool)(h:Int)(d f m j q s:Nat)(g i o p r t:LA):Nat->Int->Int->Nat->LA->O R
|0=>fun _ _ _ _=>none
|n+1=>Ti N r0 a b c h d f m j q s g i o p r t (F0 r0 a b c h d f m j q s g i o p r t n) (EE N (F0 r0 a b c h d f m j q s g i o p r t n) r0 a b c h d f m j q s g i o p r t)
def JR(r0:LA->O R)(a:LA)(b:Nat)(c:Bool)(h:Int)(d f m j q:Nat)(g i o p r:LA)(q7:Nat->LA->Int->Int->Nat->LA->O R)(ad:Int)(s:Nat)(t:LA):O R:=(Af N 4 a b false c ad fun bu bv=>q7 s t bu bv 0 [])
def EF(r0:LA->O R)(a:LA)(b:Nat)(c:Bool)(h:Int)(d f m j q:Nat)(g i o p r:LA)(ad:Int)(s:Nat)(t:LA):O R:=JR N r0 a b c h d f m j q g i o p r (fun s t=>F0 N r0 a b c h d f m j q s g i o p r t N) ad s t
def Yn(r0:LA->O R)(l:Int)(a:LA)(b:Nat)(c:Bool)(h:Int)(d f m j:Nat)(g i o p:LA)(q6:Nat->LA->Int->Nat->LA->O R)(ae:Int)(q:Nat)(r:LA):O R:=(Af N 3 a b false c ae fun bw bd=>cond (bw==2) (Af N l a b false c bd fun bx bz=>Ej N h 12 a b false c bz fun be ca cb=>Ej N h 12 a b false c ca fun bf cc cd=>Ej N h 40 a b false c cc fun bg ce cf=>q6 q r ce 1 [.str ([116,48]:Lu),.int .i64 bx,.imm (cb.take (be*1)) be 1 false false,.imm (cd.take (bf*1)) bf 1 false false,.imm (cf.take (bg*1)) bg 1 false false]) (q6 q r bd 0 []))
def Xa(r0:LA->O R)(l:Int)(a:LA)(b:Nat)(c:Bool)(h:Int)(d f m j:Nat)(g i o p:LA)(ae:Int)(q:Nat)(r:LA):O R:=Yn N r0 l a b c h d f m j g i o p (fun q r=>EF N r0 a b c h d f m j q g i o p r) ae q r
def Tj(r0:LA->O R)(l:Int)(a:LA)(b:Nat)(c:Bool)(h:Int)(d f:Nat)(g i:LA)(k4:Int->Int->Nat->Nat->LA->LA->O R)(q5:Nat->Nat->LA->LA->Int->Nat->LA->O R)(al am:Int)(m j:Nat)(o p:LA):O R:=(cond (decide (al>0)) (Pe N (j:Int) l h a b false c am fun bh cg=>cond ((beq bh.length 22)&&(ble 22 22)) (cond ((ble (j+1) 140737488355328)&&(ble ((j+1)*216) 140737488355328)) (k4 (wrap .i64 (al - 1)) cg m (j+1) o ((p.take (j*22))++((setCells [.str ([]:Lu),Aqc,Aqc,Aqc,.nsl,Aqc,Aqc,Aqc,Aqc,Aqc,Aqc,Aqc,Aqc,Aqc,Aqc,Aqc,Aqc,Aqc,.nsl,Aqc,Aqc,Aqc] 0 bh).take 22))) none) none) (Af N 3 a b false c am fun ch bi=>cond (ch==2) (Af N l a b false c bi fun ci cj=>Af N 20 a b false c cj fun az ck=>Af N 8 a b false c ck fun cl cm=>Af N 8 a b false c cm fun cn co=>Af N 4 a b false c co fun cp cq=>Af N (wrap .i64 (az+1)) a b false c cq fun cr cs=>Af N (wrap .i64 (az+1)) a b false c cs fun ct cu=>q5 m j o p cu 1 [.str ([115,48]:Lu),.int .i64 ci,.int .i64 az,.int .i64 cr,.int .i64 ct,.int .i64 cl,.int .i64 cn,.int .i64 (wrap .i64 (1+cp)),.int .i64 4]) (q5 m j o p bi 0 [])))
def Ll(r0:LA->O R)(l:Int)(a:LA)(b:Nat)(c:Bool)(h:Int)(d f:Nat)(g i:LA):Nat->Int->Int->Nat->Nat->LA->LA->O R
|0=>fun _ _ _ _ _ _=>none
|n+1=>Tj N r0 l a b c h d f g i (Ll r0 l a b c h d f g i n) (fun m j o p=>Xa N r0 l a b c h d f m j g i o p)
def Tk(r0:LA->O R)(l:Int)(a:LA)(b:Nat)(c:Bool)(h:Int)(d f:Nat)(g i:LA)(k2:Int->Int->Nat->LA->O R)(q3:Int->Int->Nat->LA->O R)(q4:Int->Int->Nat->Nat->LA->LA->O R)(an af:Int)(ag:Nat)(ah:LA):O R:=(cond ((decide (an>0))==true) (cond (cond true (decide (l>1)) false) (q3 an af ag ah) (Af N 3 a b false c af fun cv cw=>q4 (wrap .i64 (1+cv)) cw ag 0 ah [])) (Af N 3 a b false c af fun cx cy=>q4 (wrap .i64 (1+cx)) cy ag 0 ah []))
def Lm(r0:LA->O R)(l:Int)(a:LA)(b:Nat)(c:Bool)(h:Int)(d f:Nat)(g i:LA):Nat->Int->Int->Nat->LA->O R
|0=>fun _ _ _ _=>none
|n+1=>Tk N r0 l a b c h d f g i (Lm r0 l a b c h d f g i n) (ED N (Lm r0 l a b c h d f g i n) r0 l a b c h d f g i) (Ll N r0 l a b c h d f g i N)
def Yo(r0:LA->O R)(a:LA)(b:Nat)(c:Bool)(h:Int)(d f:Nat)(g i:LA)(k1:Int->Int->Int->Nat->LA->O R)(q2:Int->Int->Int->Nat->LA->O R)(l z ao:Int)(v:Nat)(ap:LA):O R:=(cond (decide (z<l)) (Af N z a b false c ao fun cz da=>Pd N (v:Int) cz z h a b false c da fun bj db=>cond ((beq bj.length 12)&&(ble 12 12)) (cond ((ble (v+1) 140737488355328)&&(ble ((v+1)*120) 140737488355328)) (k1 l (wrap .i64 (z+1)) db (v+1) ((ap.take (v*12))++((setCells [.str ([]:Lu),Aqc,Aqc,Aqc,Aqc,Aqc,Aqc,Aqc,Aqc,Aqc,Aqc,.nsl] 0 bj).take 12))) none) none) (Af N 5 a b false c ao fun dc dd=>q2 l dc dd v ap))
def Re(r0:LA->O R)(a:LA)(b:Nat)(c:Bool)(h:Int)(d f:Nat)(g i:LA):Nat->Int->Int->Int->Nat->LA->O R
|0=>fun _ _ _ _ _=>none
|n+1=>Yo N r0 a b c h d f g i (Re r0 a b c h d f g i n) (fun l=>Lm N r0 l a b c h d f g i N)
def Tl(r0:LA->O R)(a:LA)(b:Nat)(c:Bool)(d:Nat)(g:LA)(k0:Int->Int->Int->Nat->LA->O R)(q1:Int->Nat->LA->Int->Int->Int->Nat->LA->O R)(ai aq h:Int)(f:Nat)(i:LA):O R:=(cond (decide (ai>0)) (DP N ([98]:Lu) (f:Int) fun bk=>Ej N h 14 a b false c aq fun ar de bl=>Af N 2 a b false c de fun df bm=>cond (df==1) (Af N 200 a b false c bm fun dg dh=>cond ((ble (f+1) 140737488355328)&&(ble ((f+1)*48) 140737488355328)) (k0 (wrap .i64 (ai - 1)) dh h (f+1) ((i.take (f*3))++[.str bk,.imm (bl.take (ar*1)) ar 1 false false,.int .i64 (wrap .i64 (100+dg))])) none) (cond ((ble (f+1) 140737488355328)&&(ble ((f+1)*48) 140737488355328)) (k0 (wrap .i64 (ai - 1)) bm h (f+1) ((i.take (f*3))++[.str bk,.imm (bl.take (ar*1)) ar 1 false false,Aqc])) none)) (q1 h f i (f:Int) 1 aq 0 []))
def Jb(r0:LA->O R)(a:LA)(b:Nat)(c:Bool)(d:Nat)(g:LA):Nat->Int->Int->Int->Nat->LA->O R
|0=>fun _ _ _ _ _=>none
|n+1=>Tl N r0 a b c d g (Jb r0 a b c d g n) (fun h f i=>Re N r0 a b c h d f g i N)
def TT(r0:LA->O R)(q0:Nat->LA->Int->Int->Int->Nat->LA->O R)(a:LA)(b:Nat)(y c:Bool):O R:=(td N a b false c (Af N 3 a b false c 0 fun bn di=>Ej N (wrap .i64 (1+bn)) 5 a b false c di fun d dj g=>Af N 4 a b false c dj fun dk dl=>q0 d g (wrap .i64 (1+dk)) dl (wrap .i64 (1+bn)) 0 []))
def TU:=(Ak fun N a b y c r0=>TT (R:=R) N r0 (fun d g=>Jb N r0 a b c d g N) a b y c).1
def bK(a b y c r0):(@TU R N a b y c r0)=(TT N r0 (fun d g=>Jb N r0 a b c d g N) a b y c):=by rw[TU,(Ak _).2]
def g9:Hints:={H:=hK 4 (hS (hK 1 (hS (hP [2,3,4,5] hL) hL)) (hK 1 (hS (hK 1 (hS (hP [2,3,4,7,8] hL) hL)) (hS (hK 1 (hS (hP [2,3,4,7,9] (hJ [2,3,4,7,9] hL hL)) hL)) (hS (hK 1 (hS (hP [2,3,4,7,11] hL) hL)) (hJ [2,3,4,7] hL (hJ [2,3,4] hL (hS (hK 1 (hS (hP [2,3,4,13] (hJ [2,3,4,13] hL hL)) hL)) hL)))))))),modes:=[(3,0)],cob:=[23,44,192]}
def lm:U6:=[yy N,Hz N,d8 N,MK N,gR N,gS N,XS N,rV N]
def Jc(F:KF R):=L7 Tryz.f40 g9 (lm N) [] N F
def tq(l:Int)(a:LA)(b:Nat)(c:Bool)(h:Int)(d f:Nat)(g i:LA)(K:St->O R):=fun au av w aw=>K ⟨[(2,op 0),(3,op 1),(4,op 2),(7,iv l),(9,iv au)],hq [bN 0 [iv 0,.nsl,.nsl,.nsl,.nsl,.nsl,.nsl,.nsl],bN 0 [.imm a b 1 false c,iv av],bN 0 [iv h,Aqb 3 d,Aqb 4 f,Aqb 5 w,Aqb 6 0,Aqb 7 0,Aqb 8 0,Aqb 9 0],bQ 1 g,bQ 3 i,bQ 12 aw,bQ 22 [],bQ 9 [],bQ 5 [],bQ 4 []]⟩
def tt(a:LA)(b:Nat)(c:Bool)(h:Int)(d f m j q s:Nat)(g i o p r t:LA)(K:St->O R):=fun aj ax u aa=>K ⟨[(2,op 0),(3,op 1),(4,op 2),(13,iv aj)],hq [bN 0 [iv 0,.nsl,.nsl,.nsl,.nsl,.nsl,.nsl,.nsl],bN 0 [.imm a b 1 false c,iv ax],bN 0 [iv h,Aqb 3 d,Aqb 4 f,Aqb 5 m,Aqb 6 j,Aqb 7 q,Aqb 8 s,Aqb 9 u],bQ 1 g,bQ 3 i,bQ 12 o,bQ 22 p,bQ 9 r,bQ 5 t,bQ 4 aa]⟩
def g_(a:LA)(b:Nat)(c:Bool)(h:Int)(d f m j q s:Nat)(g i o p r t:LA)(K:St->O R):=fun ak ay x ac=>K ⟨[(2,op 0),(3,op 1),(4,op 2),(13,iv ak)],hq [bN 0 [iv 0,.nsl,.nsl,.nsl,.nsl,.nsl,.nsl,.nsl],bN 0 [.imm a b 1 false c,iv ay],bN 0 [iv h,Aqb 3 d,Aqb 4 f,Aqb 5 m,Aqb 6 j,Aqb 7 q,Aqb 8 s,Aqb 9 x],bQ 1 g,bQ 3 i,bQ 12 o,bQ 22 p,bQ 9 r,bQ 5 t,bQ 4 ac]⟩
def tz(a:LA)(b:Nat)(c:Bool)(h:Int)(d f m j q:Nat)(g i o p r:LA)(K:St->O R):=fun ad s t=>K ⟨[(2,op 0),(3,op 1),(4,op 2)],hq [bN 0 [iv 0,.nsl,.nsl,.nsl,.nsl,.nsl,.nsl,.nsl],bN 0 [.imm a b 1 false c,iv ad],bN 0 [iv h,Aqb 3 d,Aqb 4 f,Aqb 5 m,Aqb 6 j,Aqb 7 q,Aqb 8 s,Aqb 9 0],bQ 1 g,bQ 3 i,bQ 12 o,bQ 22 p,bQ 9 r,bQ 5 t,bQ 4 []]⟩
def uA(l:Int)(a:LA)(b:Nat)(c:Bool)(h:Int)(d f m j:Nat)(g i o p:LA)(K:St->O R):=fun ae q r=>K ⟨[(2,op 0),(3,op 1),(4,op 2),(7,iv l)],hq [bN 0 [iv 0,.nsl,.nsl,.nsl,.nsl,.nsl,.nsl,.nsl],bN 0 [.imm a b 1 false c,iv ae],bN 0 [iv h,Aqb 3 d,Aqb 4 f,Aqb 5 m,Aqb 6 j,Aqb 7 q,Aqb 8 0,Aqb 9 0],bQ 1 g,bQ 3 i,bQ 12 o,bQ 22 p,bQ 9 r,bQ 5 [],bQ 4 []]⟩
def uB(l:Int)(a:LA)(b:Nat)(c:Bool)(h:Int)(d f:Nat)(g i:LA)(K:St->O R):=fun al am m j o p=>K ⟨[(2,op 0),(3,op 1),(4,op 2),(7,iv l),(11,iv al)],hq [bN 0 [iv 0,.nsl,.nsl,.nsl,.nsl,.nsl,.nsl,.nsl],bN 0 [.imm a b 1 false c,iv am],bN 0 [iv h,Aqb 3 d,Aqb 4 f,Aqb 5 m,Aqb 6 j,Aqb 7 0,Aqb 8 0,Aqb 9 0],bQ 1 g,bQ 3 i,bQ 12 o,bQ 22 p,bQ 9 [],bQ 5 [],bQ 4 []]⟩
def gc(l:Int)(a:LA)(b:Nat)(c:Bool)(h:Int)(d f:Nat)(g i:LA)(K:St->O R):=fun an af ag ah=>K ⟨[(2,op 0),(3,op 1),(4,op 2),(7,iv l),(9,iv an)],hq [bN 0 [iv 0,.nsl,.nsl,.nsl,.nsl,.nsl,.nsl,.nsl],bN 0 [.imm a b 1 false c,iv af],bN 0 [iv h,Aqb 3 d,Aqb 4 f,Aqb 5 ag,Aqb 6 0,Aqb 7 0,Aqb 8 0,Aqb 9 0],bQ 1 g,bQ 3 i,bQ 12 ah,bQ 22 [],bQ 9 [],bQ 5 [],bQ 4 []]⟩
def uC(a:LA)(b:Nat)(c:Bool)(h:Int)(d f:Nat)(g i:LA)(K:St->O R):=fun l z ao v ap=>K ⟨[(2,op 0),(3,op 1),(4,op 2),(7,iv l),(8,iv z)],hq [bN 0 [iv 0,.nsl,.nsl,.nsl,.nsl,.nsl,.nsl,.nsl],bN 0 [.imm a b 1 false c,iv ao],bN 0 [iv h,Aqb 3 d,Aqb 4 f,Aqb 5 v,Aqb 6 0,Aqb 7 0,Aqb 8 0,Aqb 9 0],bQ 1 g,bQ 3 i,bQ 12 ap,bQ 22 [],bQ 9 [],bQ 5 [],bQ 4 []]⟩
def uD(a:LA)(b:Nat)(c:Bool)(d:Nat)(g:LA)(K:St->O R):=fun ai aq h f i=>K ⟨[(2,op 0),(3,op 1),(4,op 2),(5,iv ai)],hq [bN 0 [iv 0,.nsl,.nsl,.nsl,.nsl,.nsl,.nsl,.nsl],bN 0 [.imm a b 1 false c,iv aq],bN 0 [iv h,Aqb 3 d,Aqb 4 f,Aqb 5 0,Aqb 6 0,Aqb 7 0,Aqb 8 0,Aqb 9 0],bQ 1 g,bQ 3 i,bQ 12 [],bQ 22 [],bQ 9 [],bQ 5 [],bQ 4 []]⟩
def kH Q2 (F:KF R) (l a b c h d f g i):tq l a b c h d f g i (Bc (Jc N F (pz 22369345) [Q2]))=(ED N (gc l a b c h d f g i Q2) (Cq F) l a b c h d f g i):=by kernel_rfl
def kI Q7 (F:KF R) (a b c h d f m j q s g i o p r t):tt a b c h d f m j q s g i o p r t (Bc (Jc N F (pz 5726622785) [Q7]))=(EE N (g_ a b c h d f m j q s g i o p r t Q7) (Cq F) a b c h d f m j q s g i o p r t):=by kernel_rfl
def kJ(F:KF R)(a b c h d f m j q s g i o p r t):∀ n,g_ a b c h d f m j q s g i o p r t (As (Jc N F (pz 357913924) []) n)=(F0 N (Cq F) a b c h d f m j q s g i o p r t n):=Gu fun n e=>(OF (Ti N (Cq F) a b c h d f m j q s g i o p r t) e ((jW ..).trans ((kI ..).trans (rA (EE _ · _ _ _ _ _ _ _ _ _ _ _ _ _ _ _ _ _) e))):_)
def kK(F:KF R)(a b c h d f m j q g i o p r):tz a b c h d f m j q g i o p r (Bc (Jc N F (pz 5592405) []))=(EF N (Cq F) a b c h d f m j q g i o p r):=(Cg (JR N (Cq F) a b c h d f m j q g i o p r) (oE fun s t=>(lW ..).trans (kJ ..)):_)
def kL(F:KF R)(l a b c h d f m j g i o p):uA l a b c h d f m j g i o p (Bc (Jc N F (pz 1398101) []))=(Xa N (Cq F) l a b c h d f m j g i o p):=(Cg (Yn N (Cq F) l a b c h d f m j g i o p) (oE fun q r=>(jW ..).trans (kK ..)):_)
def kM(F:KF R)(l a b c h d f g i):∀ n,uB l a b c h d f g i (As (Jc N F (pz 5592388) []) n)=(Ll N (Cq F) l a b c h d f g i n):=Gu fun n e=>(OF (Tj N (Cq F) l a b c h d f g i) e (t7 fun m j o p=>(jW ..).trans (kL ..)):_)
def kN(F:KF R)(l a b c h d f g i):∀ n,gc l a b c h d f g i (As (Jc N F (pz 1398084) []) n)=(Lm N (Cq F) l a b c h d f g i n):=Gu fun n e=>(Afg (Tk N (Cq F) l a b c h d f g i) e ((jW ..).trans ((kH ..).trans (rA (ED _ · _ _ _ _ _ _ _ _ _ _) e))) ((lW ..).trans (kM ..)):_)
def kO(F:KF R)(a b c h d f g i):∀ n,uC a b c h d f g i (As (Jc N F (pz 349508) []) n)=(Re N (Cq F) a b c h d f g i n):=Gu fun n e=>(OF (Yo N (Cq F) a b c h d f g i) e (wg fun l=>(lW ..).trans (kN ..)):_)
def kP(F:KF R)(a b c d g):∀ n,uD a b c d g (As (Jc N F (pz 21828) []) n)=(Jb N (Cq F) a b c d g n):=Gu fun n e=>(OF (Tl N (Cq F) a b c d g) e (Aea fun h f i=>(lW ..).trans (kO ..)):_)
def xA:=Ce N 40 (lm N) g9 (fun
|[.imm a b 1 y c],[]=>some fun _ k=>TU N a b y c (Cq k)
| _,_=>none) fun _ _=>by split;intro R F;exact(Cg (TT N (Cq F) · _ _ _ _) (oE fun d g=>(lW ..).trans (kP ..)):_).trans (bK ..).symm;trivial
def gd(b:LA)(c:Nat)(f d:Bool)(r0:LA->Int->O R):O R:=(TU N b c false d fun e=>cond ((beq 0 0)&&((beq e.length 8)&&(beq 8 8))) (Bv 22 (e.drop 4) fun a g=>cond (Ah 0 g) (cond (ble 22 a.length) (Au .i64 e fun h=>cond ((beq 0 0)&&((beq ((a.take 22).length) 22)&&(beq 22 22))) (cond (ble 22 ((a.take 22).length)) (r0 ((a.take 22).take 22) h) none) none) none) none) none)
def ee:=(Ak (@gd R)).1
def bL:@ee R=@gd R:=(Ak _).2
def xB:=Ce N 12 [xA N] { H:=hL,modes:=[(3,0),(0,0)] } (fun
|[.imm b c 1 f d],[]=>some fun _ k=>ee N b c f d (U7 k)
| _,_=>none) fun _ _=>by split;intro R F;dsimp only;rw[bL];kernel_rfl;trivial
def QS(N:Nat)(b a:Int)(r0:Int->O R):O R:=(cond (a==0) none (cond (a==0) none (r0 (Int.tmod (wrap .i64 ((Int.tmod b a)+a)) a))))
def Rf:=(Ak (@QS R)).1
def OV:@Rf R=@QS R:=(Ak _).2
def rW:=Ce N 27 [] Eg (fun
|[.int .i64 b,.int .i64 a],[]=>some fun _ k=>Rf N b a (Gv k)
| _,_=>none) fun _ _=>by split;intro R F;dsimp only;rw[OV];kernel_rfl;trivial
def Pp(N:Nat)(r0:Bool->O R)(b c:Int)(d:LA)(a:Nat)(f g:Bool)(k0:Int->Int->O R)(i h:Int):O R:=(cond (decide (h<i)) (cond (Ah h a) (Au .i64 (d.drop (h.toNat*1)) fun j=>cond ((decide (j<b))==false) (cond (cond false true (decide (j>c))) (r0 false) (k0 i (wrap .i64 (h+1)))) (r0 false)) none) (r0 true))
def Hh(r0:Bool->O R)(b c:Int)(d:LA)(a:Nat)(f g:Bool):Nat->Int->Int->O R
|0=>fun _ _=>none
|n+1=>Pp N r0 b c d a f g (Hh r0 b c d a f g n)
def Yp(N:Nat)(r0:Bool->O R)(q0:Int->Int->O R)(b c:Int)(d:LA)(a:Nat)(f g:Bool):O R:=(q0 (a:Int) 0)
def Ct:=(Ak fun N b c d a f g r0=>Yp (R:=R) N r0 (Hh N r0 b c d a f g N) b c d a f g).1
def JT(b c d a f g r0):(@Ct R N b c d a f g r0)=(Yp N r0 (Hh N r0 b c d a f g N) b c d a f g):=by rw[Ct,(Ak _).2]
def OW:Hints:={H:=hK 1 (hS (hK 1 (hS (hP [0,1,9,10,11] hL) hL)) hL)}
def kQ(F:KF R):=L7 Tryz.f103 OW [] [] N F
def kR(b c:Int)(d:LA)(a:Nat)(f g:Bool)(K:St->O R):=fun i h=>K ⟨[(0,iv b),(1,iv c),(9,.imm d a 1 f g),(10,iv i),(11,iv h)],[]⟩
def YA(F:KF R)(b c d a f g):∀ n,kR b c d a f g (As (kQ N F (pz 324) []) n)=(Hh N (Cm F) b c d a f g n):=Gu fun n e=>(Cg (Pp N (Cm F) b c d a f g) e:_)
def EG:=Ce N 103 [] OW (fun
|[.int .i64 b,.int .i64 c,.imm d a 1 f g],[]=>some fun _ k=>Ct N b c d a f g (Cm k)
| _,_=>none) fun _ _=>by split;intro R F;exact(Cg (Yp N (Cm F) · _ _ _ _ _ _) ((lW ..).trans (YA ..)):_).trans (JT ..).symm;trivial
def Kw(r0:Nat->Nat->LA->LA->O R)(c:Int)(a b:Nat)(d:LA)(k0:Nat->Int->Int->Int->Int->LA->LA->O R)(s:Nat)(h g t f:Int)(r u:LA):O R:=(cond (decide (f<t)) (cond ((decide (0<=(wrap .i64 ((wrap .i64 (g - 1)) - f))))&&((decide ((wrap .i64 ((wrap .i64 (g - 1)) - f))<=(wrap .i64 ((wrap .i64 ((wrap .i64 ((wrap .i64 (g - 1)) - f))+h))+1))))&&((decide ((wrap .i64 ((wrap .i64 ((wrap .i64 ((wrap .i64 (g - 1)) - f))+h))+1))<=(b:Int)))&&(decide ((b:Int)<=(b:Int)))))) (Mj N (0+(((wrap .i64 ((wrap .i64 (g - 1)) - f)).toNat)*1)) (((wrap .i64 ((wrap .i64 ((wrap .i64 ((wrap .i64 (g - 1)) - f))+h))+1)).toNat) - ((wrap .i64 ((wrap .i64 (g - 1)) - f)).toNat)) (d.take (a*1)) a false true u fun w x=>cond (Ah (wrap .i64 ((wrap .i64 (g - 1)) - f)) s) (cond ((beq 1 1)&&((ble ((0+(((wrap .i64 ((wrap .i64 (g - 1)) - f)).toNat)*1))+1) r.length)&&(!false))) (k0 s h g t (wrap .i64 (f+1)) (r.set (0+(((wrap .i64 ((wrap .i64 (g - 1)) - f)).toNat)*1)) (.int .u32 w)) x) none) none) none) (cond ((decide ((0:Int)<=(0:Int)))&&((decide (0<=h))&&((decide (h<=(b:Int)))&&(decide ((b:Int)<=(b:Int)))))) (Na N (u.take (h.toNat*1)) h.toNat false true c fun y ad z=>Wr N s r fun aa=>r0 aa y r z) none))
def Df(r0:Nat->Nat->LA->LA->O R)(c:Int)(a b:Nat)(d:LA):Nat->Nat->Int->Int->Int->Int->LA->LA->O R
|0=>fun _ _ _ _ _ _ _=>none
|n+1=>Kw N r0 c a b d (Df r0 c a b d n)
def Pq(r0:Nat->Nat->LA->LA->O R)(q0:Int->Nat->LA->Nat->Int->Int->Int->Int->LA->LA->O R)(j:LA)(l:Nat)(p m:Bool)(i:LA)(a:Nat)(q o:Bool):O R:=(cond (Ah (wrap .i64 ((a:Int) - 1)) a) (Au .u32 (i.drop (((wrap .i64 ((a:Int) - 1)).toNat)*1)) fun ab=>B5 N ab fun c=>Qz N i a false o c fun v d=>cond ((decide ((0:Int)<=(0:Int)))&&((decide (0<=(a:Int)))&&((decide ((a:Int)<=(v:Int)))&&(decide ((v:Int)<=(v:Int)))))) (Qz N j l false m c fun b ac=>cond ((decide (0<=(wrap .i64 ((b:Int) - (a:Int)))))&&((decide ((wrap .i64 ((b:Int) - (a:Int)))<=(wrap .i64 ((b:Int) - (a:Int)))))&&((decide ((wrap .i64 ((b:Int) - (a:Int)))<=140737488355328))&&(decide (((wrap .i64 ((b:Int) - (a:Int)))*((4:Nat):Int))<=140737488355328))))) (q0 c b d ((wrap .i64 ((b:Int) - (a:Int))).toNat) (a:Int) (wrap .i64 ((b:Int) - (a:Int))) (wrap .i64 ((b:Int) - (a:Int))) 0 (replicate ((wrap .i64 ((b:Int) - (a:Int))).toNat) (.int .u32 0)) ac) none) none) none)
def Ke:=(Ak fun N j l p m i a q o r0=>Pq (R:=R) N r0 (fun c b d=>Df N r0 c a b d N) j l p m i a q o).1
def Yq(j l p m i a q o r0):(@Ke R N j l p m i a q o r0)=(Pq N r0 (fun c b d=>Df N r0 c a b d N) j l p m i a q o):=by rw[Ke,(Ak _).2]
def BJ:Hints:={H:=hK 7 (hS (hK 1 (hS (hP [4,6,7,8,9,10,35,36] hL) hL)) hL),nils:=[(4,1),(5,1)],modes:=[(2,1),(2,1)]}
def GO:U6:=[Lc N,oR N,gK N,dY N,ST N]
def YB(F:KF R):=L7 Tryz.f228 BJ (GO N) [] N F
def YC(c:Int)(a b:Nat)(d:LA)(K:St->O R):=fun s h g t f r u=>K ⟨[(4,Aqb 0 s),(6,iv h),(7,iv c),(8,Aqb 1 a),(9,Aqb 2 b),(10,iv g),(35,iv t),(36,iv f)],hq [bQ 1 r,bQ 1 d,bQ 1 u]⟩
def NS(F:KF R)(c a b d):∀ n,YC c a b d (As (YB N F (pz 1398084) []) n)=(Df N (aZ F) c a b d n):=Gu fun n e=>(Cg (Kw N (aZ F) c a b d) e:_)
def eM:=Ce N 228 (GO N) BJ (fun
|[.imm j l 1 p m,.imm i a 1 q o],[]=>some fun _ k=>Ke N j l p m i a q o (aZ k)
| _,_=>none) fun _ _=>by split;intro R F;exact(Cg (Pq N (aZ F) · _ _ _ _ _ _ _ _) (Aea fun c b d=>(lW ..).trans (NS ..)):_).trans (Yq ..).symm;trivial
def QT(h:LA)(i:Nat)(j a:Bool)(l:LA)(m:Nat)(n b:Bool)(r0:Nat->Nat->Bool->LA->LA->O R):O R:=(Cb N h i j a fun e c=>Cb N l m n b fun f d=>cond ((d:Int)==0) (r0 0 0 false [] []) (Dn N e c false a f d false b fun p=>cond (decide (p<0)) (X8 N e c false a fun q r=>r0 0 q true [] r) (cond (decide ((c:Int)<=2)) (O6 N e c false a fun o=>O6 N f d false b fun g=>cond (g==0) none (Bm N (wrap .u64 (Int.tdiv o g)) fun s t=>cond (g==0) none (Bm N (Int.tmod o g) fun u v=>r0 s u true t v))) (cond ((d:Int)==1) (cond (Ah 0 d) (Au .u32 f fun w=>Gn N e c false a w fun x y z aa=>r0 x y true z aa) none) (Ke N e c false a f d false b fun ab ac ad ae=>r0 ab ac true ad ae)))))
def Ev:=(Ak (@QT R)).1
def OX:@Ev R=@QT R:=(Ak _).2
def bM:=Ce N 184 [La N,Jt N,MJ N,XE N,Gm N,TB N,eM N] { H:=hL,nils:=[(4,1),(5,1)],modes:=[(2,1),(2,1),(0,0)] } (fun
|[.imm h i 1 j a,.imm l m 1 n b],[]=>some fun _ k=>Ev N h i j a l m n b (a8 k)
| _,_=>none) fun _ _=>by split;intro R F;dsimp only;rw[OX];kernel_rfl;trivial
def Xb(r0:Nat->Bool->LA->O R)(f:LA)(d:Nat)(b:Bool)(a:Nat)(g:LA)(c:Bool)(k0:Int->Int->Int->LA->O R)(r s h:Int)(i:LA):O R:=(cond (decide (h<s)) (cond (Ah h a) (Au .u32 (g.drop (h.toNat*1)) fun t=>cond (decide (h<(d:Int))) (cond (Ah h d) (Au .u32 (f.drop (h.toNat*1)) fun u=>cond (Ah h a) (cond ((beq 1 1)&&((ble ((0+(h.toNat*1))+1) i.length)&&(!false))) (k0 (Int.fdiv (wrap .u64 ((wrap .u64 ((wrap .u64 t) - r)) - (wrap .u64 u))) (2 ^ 63)) s (wrap .i64 (h+1)) (i.set (0+(h.toNat*1)) (.int .u32 (wrap .u32 (wrap .u64 ((wrap .u64 ((wrap .u64 t) - r)) - (wrap .u64 u))))))) none) none) none) (cond (Ah h a) (cond ((beq 1 1)&&((ble ((0+(h.toNat*1))+1) i.length)&&(!false))) (k0 (Int.fdiv (wrap .u64 ((wrap .u64 t) - r)) (2 ^ 63)) s (wrap .i64 (h+1)) (i.set (0+(h.toNat*1)) (.int .u32 (wrap .u32 (wrap .u64 ((wrap .u64 t) - r)))))) none) none)) none) (Wr N a i fun v=>r0 v true i))
def Oj(r0:Nat->Bool->LA->O R)(f:LA)(d:Nat)(b:Bool)(a:Nat)(g:LA)(c:Bool):Nat->Int->Int->Int->LA->O R
|0=>fun _ _ _ _=>none
|n+1=>Xb N r0 f d b a g c (Oj r0 f d b a g c n)
def TV(r0:Nat->Bool->LA->O R)(q0:LA->Nat->Nat->LA->Int->Int->Int->LA->O R)(j:LA)(l:Nat)(m c:Bool)(o:LA)(p:Nat)(q b:Bool):O R:=(Cb N j l m c fun g a=>Cb N o p q b fun f d=>Dn N g a false c f d false b fun w=>cond (decide (w<0)) (r0 0 false []) (cond ((decide (0<=(a:Int)))&&((decide ((a:Int)<=(a:Int)))&&((decide ((a:Int)<=140737488355328))&&(decide (((a:Int)*((4:Nat):Int))<=140737488355328))))) (q0 f d a g 0 (a:Int) 0 (replicate a (.int .u32 0))) none))
def JU:=(Ak fun N j l m c o p q b r0=>TV (R:=R) N r0 (fun f d a g=>Oj N r0 f d b a g c N) j l m c o p q b).1
def QU(j l m c o p q b r0):(@JU R N j l m c o p q b r0)=(TV N r0 (fun f d a g=>Oj N r0 f d b a g c N) j l m c o p q b):=by rw[JU,(Ak _).2]
def lp:Hints:={H:=hK 5 (hS (hK 1 (hS (hP [1,6,7,22,23,24] hL) hL)) hL),nils:=[(4,1)],modes:=[(2,1),(0,0)]}
def rX:U6:=[Fa N,Jt N]
def xC(F:KF R):=L7 Tryz.f186 lp (rX N) [] N F
def xD(f:LA)(d:Nat)(b:Bool)(a:Nat)(g:LA)(c:Bool)(K:St->O R):=fun r s h i=>K ⟨[(1,.imm f d 1 false b),(6,Aqb 0 a),(7,.int .u64 r),(22,.imm g a 1 false c),(23,iv s),(24,iv h)],hq [bQ 1 i]⟩
def oq(F:KF R)(f d b a g c):∀ n,xD f d b a g c (As (xC N F (pz 87364) []) n)=(Oj N (XA F) f d b a g c n):=Gu fun n e=>(Cg (Xb N (XA F) f d b a g c) e:_)
def rY:=Ce N 186 (rX N) lp (fun
|[.imm j l 1 m c,.imm o p 1 q b],[]=>some fun _ k=>JU N j l m c o p q b (XA k)
| _,_=>none) fun _ _=>by split;intro R F;exact(Cg (TV N (XA F) · _ _ _ _ _ _ _ _) (t7 fun f d a g=>(lW ..).trans (oq ..)):_).trans (QU ..).symm;trivial
def JV(a:LA)(b:Nat)(i c:Bool)(d:Int)(e:LA)(f:Nat)(j g:Bool)(h:Int)(r0:Nat->LA->O R):O R:=(Bm N d fun l p=>DM N a b false c (p.take (l*1)) l false true fun m q=>Bm N h fun n r=>DM N e f false g (r.take (n*1)) n false true fun o s=>JU N (q.take (m*1)) m false true (s.take (o*1)) o false true fun t v u=>r0 t u)
def F2:=(Ak (@JV R)).1
def JW:@F2 R=@JV R:=(Ak _).2
def ot:=Ce N 226 [Gm N,SZ N,rY N] { H:=hL,nils:=[(8,1)],modes:=[(2,1)] } (fun
|[.imm a b 1 i c,.int .u64 d,.imm e f 1 j g,.int .u64 h],[]=>some fun _ k=>F2 N a b i c d e f j g h (B9 k)
| _,_=>none) fun _ _=>by split;intro R F;dsimp only;rw[JW];kernel_rfl;trivial
def EH(k1:LA->Nat->Bool->LA->Nat->Bool->O R)(r0:Nat->LA->O R)(k2:Int->Int->O R)(z s:Int):O R:=(cond (s != 0) (cond (s==0) none (k2 s (Int.tmod z s))) (Bm N z fun aj ak=>r0 aj ak))
def Ok(k1:LA->Nat->Bool->LA->Nat->Bool->O R)(r0:Nat->LA->O R):Nat->Int->Int->O R
|0=>fun _ _=>none
|n+1=>EH N k1 r0 (Ok k1 r0 n)
def Xc(r0:Nat->LA->O R)(k1:LA->Nat->Bool->LA->Nat->Bool->O R)(q2:Int->Int->O R)(g:LA)(a:Nat)(h:Bool)(i:LA)(b:Nat)(j:Bool):O R:=(cond (decide ((b:Int)>0)) (cond (decide ((a:Int)<=2)) (O6 N g a false h fun al=>O6 N i b false j fun am=>q2 al am) (Wy N g a false h i b false j fun c=>cond ((beq c.length 5)&&((ble 5 5)&&(!false))) (Au .u64 ((setCells [.int .u64 0,.int .u64 0,.int .u64 0,.int .u64 0,.bool false] 0 c).drop 2) fun an=>cond (an==0) (Ev N g a false h i b false j fun bh ae bi bj ao=>k1 i b j (ao.take (ae*1)) ae false) (X2 ((setCells [.int .u64 0,.int .u64 0,.int .u64 0,.int .u64 0,.bool false] 0 c).drop 4) fun ap=>cond ap (Au .u64 (setCells [.int .u64 0,.int .u64 0,.int .u64 0,.int .u64 0,.bool false] 0 c) fun aq=>Au .u64 ((setCells [.int .u64 0,.int .u64 0,.int .u64 0,.int .u64 0,.bool false] 0 c).drop 2) fun ar=>F2 N g a false h aq i b false j ar fun af au=>Au .u64 ((setCells [.int .u64 0,.int .u64 0,.int .u64 0,.int .u64 0,.bool false] 0 c).drop 3) fun av=>Au .u64 ((setCells [.int .u64 0,.int .u64 0,.int .u64 0,.int .u64 0,.bool false] 0 c).drop 1) fun aw=>F2 N i b false j av g a false h aw fun ag ax=>k1 (au.take (af*1)) af false (ax.take (ag*1)) ag false) (Au .u64 ((setCells [.int .u64 0,.int .u64 0,.int .u64 0,.int .u64 0,.bool false] 0 c).drop 2) fun ay=>Au .u64 (setCells [.int .u64 0,.int .u64 0,.int .u64 0,.int .u64 0,.bool false] 0 c) fun az=>F2 N i b false j ay g a false h az fun ah ba=>Au .u64 ((setCells [.int .u64 0,.int .u64 0,.int .u64 0,.int .u64 0,.bool false] 0 c).drop 1) fun bb=>Au .u64 ((setCells [.int .u64 0,.int .u64 0,.int .u64 0,.int .u64 0,.bool false] 0 c).drop 3) fun bc=>F2 N g a false h bb i b false j bc fun ai bd=>k1 (ba.take (ah*1)) ah false (bd.take (ai*1)) ai false))) none)) (X8 N g a false h fun be bf=>r0 be bf))
def Ee(r0:Nat->LA->O R):Nat->LA->Nat->Bool->LA->Nat->Bool->O R
|0=>fun _ _ _ _ _ _=>none
|n+1=>Xc N r0 (Ee r0 n) (Ok N (Ee r0 n) r0 N)
def QV(N:Nat)(r0:Nat->LA->O R)(q1:LA->Nat->Bool->LA->Nat->Bool->O R)(t:LA)(u:Nat)(v:Bool)(w:LA)(x:Nat)(y:Bool):O R:=(q1 t u v w x y)
def MM(r0:Nat->LA->O R)(t:LA)(u:Nat)(v:Bool)(w:LA)(x:Nat)(y:Bool):O R:=QV N r0 (Ee N r0 N) t u v w x y
def ef(r0:Nat->LA->O R)(q0:LA->Nat->Bool->LA->Nat->Bool->O R)(l:LA)(m:Nat)(o d:Bool)(p:LA)(q:Nat)(r f:Bool):O R:=(Cb N l m o d fun aa ab=>Cb N p q r f fun ac ad=>Dn N aa ab false d ac ad false f fun bg=>cond (decide (bg<0)) (q0 ac ad f aa ab d) (q0 aa ab d ac ad f))
def QW:=(Ak fun N l m o d p q r f r0=>ef (R:=R) N r0 (MM N r0) l m o d p q r f).1
def ge(l m o d p q r f r0):(@QW R N l m o d p q r f r0)=(ef N r0 (MM N r0) l m o d p q r f):=by rw[QW,(Ak _).2]
def lq:Hints:={H:=hK 2 (hJ [0,1] hL (hS (hS (hP [0,1] (hK 1 (hS (hS (hK 1 (hS (hK 1 (hS (hS (hP [5,6] hL) hL) hL)) hL)) hL) hL))) hL) hL)),nils:=[(0,1000001),(1,1000001)],modes:=[(2,1)]}
def rZ:U6:=[La N,Jt N,XE N,oQ N,bM N,ot N,MJ N,Gm N]
def YD(F:KF R):=L7 Tryz.f183 lq (rZ N) [] N F
def xE(K:St->O R):=fun z s=>K ⟨[(5,.int .u64 z),(6,.int .u64 s)],[]⟩
def YE(K:St->O R):=fun g a h i b j=>K ⟨[(0,.imm g a 1 false h),(1,.imm i b 1 false j)],[]⟩
def xF(K:St->O R):=fun t u v w x y=>K ⟨[(0,.imm t u 1 false v),(1,.imm w x 1 false y)],[]⟩
def ou Q1 (F:KF R):∀ n,xE (As (YD N F (pz 356532496) [Q1]) n)=(Ok N (YE Q1) (B9 F) n):=Gu fun n e=>(Cg (EH N (YE Q1) (B9 F)) e:_)
def ov(F:KF R):∀ n,YE (As (YD N F (pz 1360) []) n)=(Ee N (B9 F) n):=Gu fun n e=>(OF (Xc N (B9 F)) e ((lW ..).trans ((ou ..).trans (rA (Ok _ · _ _) e))):_)
def ow(F:KF R):xF (Bc (YD N F (pz 85) []))=(MM N (B9 F)):=(Cg (QV N (B9 F)) ((lW ..).trans (ov ..)):_)
def zA:=Ce N 183 (rZ N) lq (fun
|[.imm l m 1 o d,.imm p q 1 r f],[]=>some fun _ k=>QW N l m o d p q r f (B9 k)
| _,_=>none) fun _ _=>by split;intro R F;exact(Cg (ef N (B9 F) · _ _ _ _ _ _ _ _) ((jW ..).trans (ow ..)):_).trans (ge ..).symm;trivial
def QX(d:LA)(f:Bool)(i:LA)(j:Nat)(n l:Bool)(r0:LA->O R):O R:=(X2 d fun s=>Bv 1 (d.drop 1) fun t u=>cond (beq d.length 2) (eZ N [.bool s,.imm t u 1 false f] (f||false) fun m b g=>X8 N i j false l fun c h=>cond ((b:Int)==0) (r0 [.bool false,.nsl,.imm [.int .u32 1] 1 1 false false]) (QW N (g.take (b*1)) b false true (h.take (c*1)) c false true fun a e=>cond (((a:Int) != 1)==false) (cond (Ah 0 a) (Au .u32 e fun v=>cond (cond false true (v != 1)) (Ev N (g.take (b*1)) b false true (e.take (a*1)) a false true fun o aa ab w ac=>Ev N (h.take (c*1)) c false true (e.take (a*1)) a false true fun p ad ae x af=>r0 [.bool m,.imm (w.take (o*1)) o 1 false false,.imm (x.take (p*1)) p 1 false false]) (r0 [.bool m,.imm (g.take (b*1)) b 1 false false,.imm (h.take (c*1)) c 1 false false])) none) (Ev N (g.take (b*1)) b false true (e.take (a*1)) a false true fun q ag ah y ai=>Ev N (h.take (c*1)) c false true (e.take (a*1)) a false true fun r aj ak z al=>r0 [.bool m,.imm (y.take (q*1)) q 1 false false,.imm (z.take (r*1)) r 1 false false]))) none)
def Ol:=(Ak (@QX R)).1
def OY:@Ol R=@QX R:=(Ak _).2
def JX:=Ce N 129 [wt N,MJ N,zA N,bM N] { H:=hL,modes:=[(3,0)],cob:=[2] } (fun
|[.pagg d f,.imm i j 1 n l],[]=>some fun _ k=>Ol N d f i j n l (Cq k)
| _,_=>none) fun _ _=>by split;intro R F;dsimp only;rw[OY];kernel_rfl;trivial
def BK(r0:LA->O R)(c:Bool)(a:LA)(d:Bool)(b:LA):O R:=(cond (ble 3 a.length) (Lb N (a.take 3) c fun e l m n o=>cond ((beq 0 0)&&((beq e.length 2)&&(beq 2 2))) (cond (ble 3 b.length) (Lb N (b.take 3) d fun f p q r s=>cond ((beq 0 0)&&((beq f.length 2)&&(beq 2 2))) (cond (ble 2 e.length) (cond (ble 2 f.length) (JA N (e.take 2) l (f.take 2) p fun t i u=>DM N m n false o q r false s fun j v=>Ol N [.bool t,.imm (u.take (i*1)) i 1 false true] true (v.take (j*1)) j false true fun g=>cond ((beq 0 0)&&((beq g.length 3)&&(beq 3 3))) (cond (ble 3 g.length) (r0 (g.take 3)) none) none) none) none) none) none) none) none)
def MN(r0:LA->O R)(q0:O R)(a:LA)(c:Bool)(b:LA)(d:Bool):O R:=(cond (ble 3 a.length) (Fu N (a.take 3) c fun w x y=>cond (ble 3 b.length) (Fu N (b.take 3) d fun z aa ab=>cond (y==true) (cond (cond true ab false) (Ib N (wrap .i64 (w*z)) (wrap .i64 (x*aa)) fun h=>cond ((beq 0 0)&&((beq h.length 3)&&(beq 3 3))) (cond (ble 3 h.length) (r0 (h.take 3)) none) none) q0) q0) none) none)
def N5:=(Ak fun N a c b d r0=>MN (R:=R) N r0 (BK N r0 c a d b) a c b d).1
def EI(a c b d r0):(@N5 R N a c b d r0)=(MN N r0 (BK N r0 c a d b) a c b d):=by rw[N5,(Ak _).2]
def lw:Hints:={H:=hK 3 (hJ [2,3,4] hL hL),modes:=[(3,0)]}
def r8:U6:=[DI N,Zr N,Wu N,gH N,SZ N,JX N]
def xG(F:KF R):=L7 Tryz.f73 lw (r8 N) [] N F
def xH(c:Bool)(a:LA)(d:Bool)(b:LA)(K:St->O R):=K ⟨[(2,op 0),(3,op 1),(4,op 2)],hq [bP c 0 a,bP d 0 b,bN 0 [.bool false,.nsl,.nsl]]⟩
def oz(F:KF R)(c a d b):xH c a d b (Bc (xG N F (pz 341) []))=(BK N (Cq F) c a d b):=by kernel_rfl
def BL:=Ce N 73 (r8 N) lw (fun
|[.pagg a c,.pagg b d],[]=>some fun _ k=>N5 N a c b d (Cq k)
| _,_=>none) fun _ _=>by split;intro R F;exact(Cg (MN N (Cq F) · _ _ _ _) ((jW ..).trans (oz ..)):_).trans (EI ..).symm;trivial
def gf(a:LA)(b:Bool)(r0:Int->O R):O R:=(Bv 1 (a.drop 1) fun c d=>Qx N c d false b fun e=>cond (e==0) (r0 0) (X2 a fun f=>cond f (r0 (-1)) (r0 1)))
def MO:=(Ak (@gf R)).1
def bO:@MO R=@gf R:=(Ak _).2
def mA:=Ce N 124 [SY N] Eg (fun
|[.pagg a b],[]=>some fun _ k=>MO N a b (Gv k)
| _,_=>none) fun _ _=>by split;intro R F;dsimp only;rw[bO];kernel_rfl;trivial
def gg(a:LA)(b:Bool)(r0:Int->O R):O R:=(cond (ble 3 a.length) (Lb N (a.take 3) b fun c d f g h=>cond ((beq 0 0)&&((beq c.length 2)&&(beq 2 2))) (cond (ble 2 c.length) (MO N (c.take 2) d fun e=>r0 e) none) none) none)
def Vh:=(Ak (@gg R)).1
def bR:@Vh R=@gg R:=(Ak _).2
def MP:=Ce N 69 [Wu N,mA N] Eg (fun
|[.pagg a b],[]=>some fun _ k=>Vh N a b (Gv k)
| _,_=>none) fun _ _=>by split;intro R F;dsimp only;rw[bR];kernel_rfl;trivial
def TW(a:LA)(b:Bool)(r0:LA->O R):O R:=(cond (ble 3 a.length) (Fu N (a.take 3) b fun e f g=>cond g (Ib N e f fun c=>cond ((beq 0 0)&&((beq c.length 3)&&(beq 3 3))) (cond (ble 3 c.length) (r0 (c.take 3)) none) none) (cond (ble 3 a.length) (Lb N (a.take 3) b fun h i j l m=>Ol N h i j l false m fun d=>cond ((beq 0 0)&&((beq d.length 3)&&(beq 3 3))) (cond (ble 3 d.length) (r0 (d.take 3)) none) none) none)) none)
def MQ:=(Ak (@TW R)).1
def JY:@MQ R=@TW R:=(Ak _).2
def mB:=Ce N 76 [DI N,Zr N,Wu N,JX N] Kl (fun
|[.pagg a b],[]=>some fun _ k=>MQ N a b (Cq k)
| _,_=>none) fun _ _=>by split;intro R F;dsimp only;rw[JY];kernel_rfl;trivial
def Xd(r0:Nat->LA->O R)(b:LA)(a:Nat)(d:Bool)(f:LA)(c:Nat)(g:Bool)(k1:Nat->Int->Int->Int->LA->O R)(m:Nat)(o v h:Int)(l:LA):O R:=(cond (decide (h<v)) (cond (Ah h a) (Au .u32 (b.drop (h.toNat*1)) fun w=>cond (decide (h<(c:Int))) (cond (Ah h c) (Au .u32 (f.drop (h.toNat*1)) fun z=>cond (Ah h m) (cond ((beq 1 1)&&((ble ((0+(h.toNat*1))+1) l.length)&&(!false))) (k1 m (Int.fdiv (wrap .u64 ((wrap .u64 (o+(wrap .u64 w)))+(wrap .u64 z))) (2 ^ 32)) v (wrap .i64 (h+1)) (l.set (0+(h.toNat*1)) (.int .u32 (wrap .u32 (wrap .u64 ((wrap .u64 (o+(wrap .u64 w)))+(wrap .u64 z))))))) none) none) none) (cond (Ah h m) (cond ((beq 1 1)&&((ble ((0+(h.toNat*1))+1) l.length)&&(!false))) (k1 m (Int.fdiv (wrap .u64 (o+(wrap .u64 w))) (2 ^ 32)) v (wrap .i64 (h+1)) (l.set (0+(h.toNat*1)) (.int .u32 (wrap .u32 (wrap .u64 (o+(wrap .u64 w))))))) none) none)) none) (cond (Ah (a:Int) m) (cond ((beq 1 1)&&((ble ((0+(a*1))+1) l.length)&&(!false))) (Wr N m (l.set (0+(a*1)) (.int .u32 (wrap .u32 o))) fun ac=>r0 ac (l.set (0+(a*1)) (.int .u32 (wrap .u32 o)))) none) none))
def Rg(r0:Nat->LA->O R)(b:LA)(a:Nat)(d:Bool)(f:LA)(c:Nat)(g:Bool):Nat->Nat->Int->Int->Int->LA->O R
|0=>fun _ _ _ _ _=>none
|n+1=>Xd N r0 b a d f c g (Rg r0 b a d f c g n)
def QY(N:Nat)(r0:Nat->LA->O R)(q1:LA->Nat->Bool->LA->Nat->Bool->Nat->Int->Int->Int->LA->O R)(b:LA)(a:Nat)(d:Bool)(f:LA)(c:Nat)(g:Bool):O R:=(cond ((decide (0<=(wrap .i64 ((a:Int)+1))))&&((decide ((wrap .i64 ((a:Int)+1))<=(wrap .i64 ((a:Int)+1))))&&((decide ((wrap .i64 ((a:Int)+1))<=140737488355328))&&(decide (((wrap .i64 ((a:Int)+1))*((4:Nat):Int))<=140737488355328))))) (q1 b a d f c g ((wrap .i64 ((a:Int)+1)).toNat) 0 (a:Int) 0 (replicate ((wrap .i64 ((a:Int)+1)).toNat) (.int .u32 0))) none)
def BM(r0:Nat->LA->O R)(b:LA)(a:Nat)(d:Bool)(f:LA)(c:Nat)(g:Bool):O R:=QY N r0 (fun b a d f c g=>Rg N r0 b a d f c g N) b a d f c g
def TX(r0:Nat->LA->O R)(q0:LA->Nat->Bool->LA->Nat->Bool->O R)(p:LA)(q:Nat)(r i:Bool)(s:LA)(t:Nat)(u j:Bool):O R:=(Cb N p q r i fun aa x=>Cb N s t u j fun ab y=>cond (decide ((x:Int)<(y:Int))) (q0 ab y j aa x i) (q0 aa x i ab y j))
def gh:=(Ak fun N p q r i s t u j r0=>TX (R:=R) N r0 (BM N r0) p q r i s t u j).1
def QZ(p q r i s t u j r0):(@gh R N p q r i s t u j r0)=(TX N r0 (BM N r0) p q r i s t u j):=by rw[gh,(Ak _).2]
def mC:Hints:={H:=hK 2 (hJ [0,1] hL (hK 2 (hS (hK 1 (hS (hP [0,1,5,6,24,25,26] hL) hL)) hL))),nils:=[(4,1)],modes:=[(2,1)]}
def r9:U6:=[Fa N]
def mD(F:KF R):=L7 Tryz.f185 mC (r9 N) [] N F
def xI(b:LA)(a:Nat)(d:Bool)(f:LA)(c:Nat)(g:Bool)(K:St->O R):=fun m o v h l=>K ⟨[(0,.imm b a 1 false d),(1,.imm f c 1 false g),(5,Aqb 0 m),(6,.int .u64 o),(24,.imm b a 1 false d),(25,iv v),(26,iv h)],hq [bQ 1 l]⟩
def xJ(K:St->O R):=fun b a d f c g=>K ⟨[(0,.imm b a 1 false d),(1,.imm f c 1 false g)],[]⟩
def pA(F:KF R)(b a d f c g):∀ n,xI b a d f c g (As (mD N F (pz 87364) []) n)=(Rg N (B9 F) b a d f c g n):=Gu fun n e=>(Cg (Xd N (B9 F) b a d f c g) e:_)
def pB(F:KF R):xJ (Bc (mD N F (pz 85) []))=(BM N (B9 F)):=(Cg (QY N (B9 F)) (Aff fun b a d f c g=>(lW ..).trans (pA ..)):_)
def zB:=Ce N 185 (r9 N) mC (fun
|[.imm p q 1 r i,.imm s t 1 u j],[]=>some fun _ k=>gh N p q r i s t u j (B9 k)
| _,_=>none) fun _ _=>by split;intro R F;exact(Cg (TX N (B9 F) · _ _ _ _ _ _ _ _) ((jW ..).trans (pB ..)):_).trans (QZ ..).symm;trivial
def TY(a:LA)(c:Bool)(b:LA)(d:Bool)(r0:Bool->Nat->LA->O R):O R:=(X2 a fun l=>X2 b fun m=>cond (l==m) (X2 a fun n=>Bv 1 (a.drop 1) fun o p=>Bv 1 (b.drop 1) fun q r=>gh N o p false c q r false d fun e f=>Kb N n e f fun s=>r0 s e f) (Bv 1 (a.drop 1) fun t u=>Bv 1 (b.drop 1) fun v w=>JU N t u false c v w false d fun g x h=>cond x (X2 a fun y=>Kb N y g h fun z=>r0 z g h) (Bv 1 (b.drop 1) fun aa ab=>Bv 1 (a.drop 1) fun ac ad=>JU N aa ab false d ac ad false c fun i ag j=>X2 b fun ae=>Kb N ae i j fun af=>r0 af i j)))
def gi:=(Ak (@TY R)).1
def EJ:@gi R=@TY R:=(Ak _).2
def zC:=Ce N 130 [zB N,X6 N,rY N] Eg (fun
|[.pagg a c,.pagg b d],[]=>some fun _ k=>gi N a c b d (Aau k)
| _,_=>none) fun _ _=>by split;intro R F;dsimp only;rw[EJ];kernel_rfl;trivial
def BN(r0:LA->O R)(c:Bool)(a:LA)(d:Bool)(b:LA):O R:=(cond (ble 3 a.length) (Lb N (a.take 3) c fun i x n o j=>cond ((beq 0 0)&&((beq i.length 2)&&(beq 2 2))) (cond (ble 3 b.length) (Lb N (b.take 3) d fun l y q r p=>cond ((beq 0 0)&&((beq l.length 2)&&(beq 2 2))) (Dn N n o false j q r false p fun ae=>cond (ae==0) (cond (ble 2 i.length) (cond (ble 2 l.length) (gi N (i.take 2) x (l.take 2) y fun af z ag=>Ol N [.bool af,.imm (ag.take (z*1)) z 1 false true] true n o false j fun s=>cond ((beq 0 0)&&((beq s.length 3)&&(beq 3 3))) (cond (ble 3 s.length) (r0 (s.take 3)) none) none) none) none) (cond (ble 2 i.length) (JA N (i.take 2) x [.bool false,.imm q r 1 false p] (p||false) fun ah aa ai=>cond (ble 2 l.length) (JA N (l.take 2) y [.bool false,.imm n o 1 false j] (j||false) fun aj ab ak=>gi N [.bool ah,.imm (ai.take (aa*1)) aa 1 false true] true [.bool aj,.imm (ak.take (ab*1)) ab 1 false true] true fun al ac am=>DM N n o false j q r false p fun ad an=>Ol N [.bool al,.imm (am.take (ac*1)) ac 1 false true] true (an.take (ad*1)) ad false true fun t=>cond ((beq 0 0)&&((beq t.length 3)&&(beq 3 3))) (cond (ble 3 t.length) (r0 (t.take 3)) none) none) none) none)) none) none) none) none)
def EK(r0:LA->O R)(g e h f:Int)(c:Bool)(a:LA)(d:Bool)(b:LA)(q1:O R)(m:Bool):O R:=(cond m (Ib N (wrap .i64 ((wrap .i64 (g*f))+(wrap .i64 (h*e)))) (wrap .i64 (e*f)) fun u=>cond ((beq 0 0)&&((beq u.length 3)&&(beq 3 3))) (cond (ble 3 u.length) (r0 (u.take 3)) none) none) q1)
def Om(r0:LA->O R)(g e h f:Int)(c:Bool)(a:LA)(d:Bool)(b:LA)(m:Bool):O R:=EK N r0 g e h f c a d b (BN N r0 c a d b) m
def MR(r0:LA->O R)(q0:Int->Int->Int->Int->Bool->O R)(a:LA)(c:Bool)(b:LA)(d:Bool):O R:=(cond (ble 3 a.length) (Vh N (a.take 3) c fun ao=>cond (ao==0) (cond (ble 3 b.length) (MQ N (b.take 3) d fun v=>cond ((beq 0 0)&&((beq v.length 3)&&(beq 3 3))) (cond (ble 3 v.length) (r0 (v.take 3)) none) none) none) (cond (ble 3 b.length) (Vh N (b.take 3) d fun ap=>cond (ap==0) (cond (ble 3 a.length) (MQ N (a.take 3) c fun w=>cond ((beq 0 0)&&((beq w.length 3)&&(beq 3 3))) (cond (ble 3 w.length) (r0 (w.take 3)) none) none) none) (cond (ble 3 a.length) (Fu N (a.take 3) c fun g e aq=>cond (ble 3 b.length) (Fu N (b.take 3) d fun h f ar=>cond (aq==true) (q0 g e h f (cond true ar false)) (q0 g e h f false)) none) none)) none)) none)
def T3:=(Ak fun N a c b d r0=>MR (R:=R) N r0 (fun g e h f=>Om N r0 g e h f c a d b) a c b d).1
def EL(a c b d r0):(@T3 R N a c b d r0)=(MR N r0 (fun g e h f=>Om N r0 g e h f c a d b) a c b d):=by rw[T3,(Ak _).2]
def mE:Hints:={H:=hK 5 (hJ [2,3,4] (hJ [2,3,4,5,6,8,9,41] hL hL) hL),modes:=[(3,0)]}
def r_:U6:=[MP N,mB N,DI N,Zr N,Wu N,Jt N,zC N,JX N,gH N,SZ N]
def mF(F:KF R):=L7 Tryz.f72 mE (r_ N) [] N F
def xK(c:Bool)(a:LA)(d:Bool)(b:LA)(K:St->O R):=K ⟨[(2,op 0),(3,op 1),(4,op 2)],hq [bP c 0 a,bP d 0 b,bN 0 [.bool false,.nsl,.nsl]]⟩
def xL(g e h f:Int)(c:Bool)(a:LA)(d:Bool)(b:LA)(K:St->O R):=fun m=>K ⟨[(2,op 0),(3,op 1),(4,op 2),(5,iv g),(6,iv e),(8,iv h),(9,iv f),(41,.bool m)],hq [bP c 0 a,bP d 0 b,bN 0 [.bool false,.nsl,.nsl]]⟩
def pC(F:KF R)(c a d b):xK c a d b (Bc (mF N F (pz 5461) []))=(BN N (Cq F) c a d b):=by kernel_rfl
def pD(F:KF R)(g e h f c a d b):xL g e h f c a d b (Bc (mF N F (pz 21841) []))=(Om N (Cq F) g e h f c a d b):=(Cg (EK N (Cq F) g e h f c a d b) ((jW ..).trans (pC ..)):_)
def TZ:=Ce N 72 (r_ N) mE (fun
|[.pagg a c,.pagg b d],[]=>some fun _ k=>T3 N a c b d (Cq k)
| _,_=>none) fun _ _=>by split;intro R F;exact(Cg (MR N (Cq F) · _ _ _ _) (t7 fun g e h f=>(jW ..).trans (pD ..)):_).trans (EL ..).symm;trivial
def pE(a:LA)(b:Bool)(c:LA)(d:Bool)(r0:LA->O R):O R:=(X2 a fun f=>Bv 1 (a.drop 1) fun g h=>Bv 1 (a.drop 2) fun i j=>cond (beq a.length 3) (X2 c fun l=>Bv 1 (c.drop 1) fun m n=>Bv 1 (c.drop 2) fun o p=>cond (beq c.length 3) (T3 N [.bool f,.imm g h 1 false b,.imm i j 1 false b] (b||(b||false)) [.bool (!l),.imm m n 1 false d,.imm o p 1 false d] (d||(d||false)) fun e=>cond ((beq 0 0)&&((beq e.length 3)&&(beq 3 3))) (cond (ble 3 e.length) (r0 (e.take 3)) none) none) none) none)
def Zx:=(Ak (@pE R)).1
def gj:@Zx R=@pE R:=(Ak _).2
def T_:=Ce N 67 [TZ N] { H:=hL,modes:=[(3,0)],cob:=[2,3] } (fun
|[.pagg a b,.pagg c d],[]=>some fun _ k=>Zx N a b c d (Cq k)
| _,_=>none) fun _ _=>by split;intro R F;dsimp only;rw[gj];kernel_rfl;trivial
def Pr(N:Nat)(a:Int)(r0:Bool->O R):O R:=(r0 (a != a))
def Kf:=(Ak (@Pr R)).1
def Ps:@Kf R=@Pr R:=(Ak _).2
def GP:=Ce N 175 [] Eg (fun
|[.int .i64 a],[]=>some fun _ k=>Kf N a (Cm k)
| _,_=>none) fun _ _=>by split;intro R F;dsimp only;rw[Ps];kernel_rfl;trivial
def Rh(a b:Int)(r0:Int->O R):O R:=(Kf N a fun d=>Kf N b fun c=>cond d (cond c (r0 0) (r0 (-1))) (cond c (r0 1) (cond (decide (a<b)) (r0 (-1)) (cond (decide (a>b)) (r0 1) (r0 0)))))
def Nt:=(Ak (@Rh R)).1
def Uj:@Nt R=@Rh R:=(Ak _).2
def T':=Ce N 114 [GP N] Eg (fun
|[.int .i64 a,.int .i64 b],[]=>some fun _ k=>Nt N a b (Gv k)
| _,_=>none) fun _ _=>by split;intro R F;dsimp only;rw[Uj];kernel_rfl;trivial
def Ri(N:Nat)(a:Int)(r0:Bool->O R):O R:=(r0 (a != a))
def Nu:=(Ak (@Ri R)).1
def Uk:@Nu R=@Ri R:=(Ak _).2
def UA:=Ce N 177 [] Eg (fun
|[.int .i64 a],[]=>some fun _ k=>Nu N a (Cm k)
| _,_=>none) fun _ _=>by split;intro R F;dsimp only;rw[Uk];kernel_rfl;trivial
def N6(a b:Int)(r0:Int->O R):O R:=(Nu N a fun d=>Nu N b fun c=>cond d (cond c (r0 0) (r0 (-1))) (cond c (r0 1) (cond (decide (a<b)) (r0 (-1)) (cond (decide (a>b)) (r0 1) (r0 0)))))
def Kx:=(Ak (@N6 R)).1
def Qb:@Kx R=@N6 R:=(Ak _).2
def NT:=Ce N 116 [UA N] Eg (fun
|[.int .i64 a,.int .i64 b],[]=>some fun _ k=>Kx N a b (Gv k)
| _,_=>none) fun _ _=>by split;intro R F;dsimp only;rw[Qb];kernel_rfl;trivial
def JZ(a:LA)(c:Bool)(b:LA)(d:Bool)(r0:Int->O R):O R:=(cond (ble 2 a.length) (MO N (a.take 2) c fun e=>cond (ble 2 b.length) (MO N (b.take 2) d fun f=>cond (decide (e<f)) (r0 (-1)) (cond (decide (e>f)) (r0 1) (cond (decide (e<0)) (Bv 1 (b.drop 1) fun g h=>Bv 1 (a.drop 1) fun i j=>Dn N g h false d i j false c fun l=>r0 l) (Bv 1 (a.drop 1) fun m n=>Bv 1 (b.drop 1) fun o p=>Dn N m n false c o p false d fun q=>r0 q)))) none) none)
def EM:=(Ak (@JZ R)).1
def J_:@EM R=@JZ R:=(Ak _).2
def pF:=Ce N 118 [mA N,Jt N] Eg (fun
|[.pagg a c,.pagg b d],[]=>some fun _ k=>EM N a c b d (Gv k)
| _,_=>none) fun _ _=>by split;intro R F;dsimp only;rw[J_];kernel_rfl;trivial
def Ng(r0:Int->O R)(c:Bool)(a:LA)(d:Bool)(b:LA):O R:=(cond (ble 3 a.length) (Lb N (a.take 3) c fun e n o p g=>cond ((beq 0 0)&&((beq e.length 2)&&(beq 2 2))) (cond (ble 3 b.length) (Lb N (b.take 3) d fun f q r s h=>cond ((beq 0 0)&&((beq f.length 2)&&(beq 2 2))) (cond (ble 2 e.length) (JA N (e.take 2) n [.bool false,.imm r s 1 false h] (h||false) fun t i u=>cond (ble 2 f.length) (JA N (f.take 2) q [.bool false,.imm o p 1 false g] (g||false) fun v j w=>EM N [.bool t,.imm (u.take (i*1)) i 1 false true] true [.bool v,.imm (w.take (j*1)) j 1 false true] true fun x=>r0 x) none) none) none) none) none) none)
def Yr(r0:Int->O R)(q0:O R)(a:LA)(c:Bool)(b:LA)(d:Bool):O R:=(cond (ble 3 a.length) (Vh N (a.take 3) c fun l=>cond (ble 3 b.length) (Vh N (b.take 3) d fun m=>cond (l != m) (Nt N l m fun y=>r0 y) (cond (ble 3 a.length) (Fu N (a.take 3) c fun z aa ab=>cond (ble 3 b.length) (Fu N (b.take 3) d fun ac ad ae=>cond (ab==true) (cond (cond true ae false) (Kx N (wrap .i64 (z*ad)) (wrap .i64 (ac*aa)) fun af=>r0 af) q0) q0) none) none)) none) none)
def N7:=(Ak fun N a c b d r0=>Yr (R:=R) N r0 (Ng N r0 c a d b) a c b d).1
def KA(a c b d r0):(@N7 R N a c b d r0)=(Yr N r0 (Ng N r0 c a d b) a c b d):=by rw[N7,(Ak _).2]
def OZ:Hints:={H:=hK 4 (hJ [2,3] hL hL)}
def UB:U6:=[MP N,T' N,DI N,NT N,Wu N,gH N,pF N]
def kS(F:KF R):=L7 Tryz.f55 OZ (UB N) [] N F
def kT(c:Bool)(a:LA)(d:Bool)(b:LA)(K:St->O R):=K ⟨[(2,op 0),(3,op 1)],hq [bP c 0 a,bP d 0 b]⟩
def YF(F:KF R)(c a d b):kT c a d b (Bc (kS N F (pz 1365) []))=(Ng N (Gv F) c a d b):=by kernel_rfl
def UC:=Ce N 55 (UB N) OZ (fun
|[.pagg a c,.pagg b d],[]=>some fun _ k=>N7 N a c b d (Gv k)
| _,_=>none) fun _ _=>by split;intro R F;exact(Cg (Yr N (Gv F) · _ _ _ _) ((jW ..).trans (YF ..)):_).trans (KA ..).symm;trivial
def Zy(a b:Int)(r0:Bool->O R):O R:=(Kf N a fun c=>cond (c==true) (Kf N b fun d=>cond ((cond true (!d) false)==false) (r0 (cond false true (decide (a<b)))) (r0 true)) (r0 (cond false true (decide (a<b)))))
def Vi:=(Ak (@Zy R)).1
def BO:@Vi R=@Zy R:=(Ak _).2
def gk:=Ce N 187 [GP N] Eg (fun
|[.int .i64 a,.int .i64 b],[]=>some fun _ k=>Vi N a b (Cm k)
| _,_=>none) fun _ _=>by split;intro R F;dsimp only;rw[BO];kernel_rfl;trivial
def pG(c:LA)(d:Bool)(a:LA)(b:Bool)(r0:LA->Bool->O R):O R:=(cond (ble 3 a.length) (Vh N (a.take 3) b fun f=>cond (f==0) (r0 [.bool false,.nsl,.nsl] false) (cond (ble 3 c.length) (X2 a fun g=>Bv 1 (a.drop 2) fun h i=>Bv 1 (a.drop 1) fun j l=>N5 N (c.take 3) d [.bool g,.imm h i 1 false b,.imm j l 1 false b] (b||(b||false)) fun e=>cond ((beq 0 0)&&((beq e.length 3)&&(beq 3 3))) (cond (ble 3 e.length) (r0 (e.take 3) true) none) none) none)) none)
def pH:=(Ak (@pG R)).1
def gn:@pH R=@pG R:=(Ak _).2
def xM(F:KF R):LA->Bool->O R:=fun m n=>F (.tup [.pagg m false,.bool n]) []
def zD:=Ce N 133 [MP N,BL N] { H:=hL,modes:=[(3,0),(0,0)] } (fun
|[.pagg c d,.pagg a b],[]=>some fun _ k=>pH N c d a b (xM k)
| _,_=>none) fun _ _=>by split;intro R F;dsimp only;rw[gn];kernel_rfl;trivial
def Vj(N:Nat)(r0:Nat->LA->O R)(b:LA)(a:Nat)(f c:Bool)(k0:Int->O R)(d:Int):O R:=(cond ((decide (d>0))==true) (cond (Ah (wrap .i64 (d - 1)) a) (Au .u32 (b.drop (((wrap .i64 (d - 1)).toNat)*1)) fun g=>cond (cond true (g==0) false) (k0 (wrap .i64 (d - 1))) (cond ((decide ((0:Int)<=(0:Int)))&&((decide (0<=d))&&((decide (d<=(a:Int)))&&(decide ((a:Int)<=(a:Int)))))) (cond ((!c)||(A4 (b.take (d.toNat*1)))) (cond ((ble (0+d.toNat) 140737488355328)&&(ble ((0+d.toNat)*4) 140737488355328)) (r0 (0+d.toNat) (b.take (d.toNat*1))) none) none) none)) none) (cond ((decide ((0:Int)<=(0:Int)))&&((decide (0<=d))&&((decide (d<=(a:Int)))&&(decide ((a:Int)<=(a:Int)))))) (cond ((!c)||(A4 (b.take (d.toNat*1)))) (cond ((ble (0+d.toNat) 140737488355328)&&(ble ((0+d.toNat)*4) 140737488355328)) (r0 (0+d.toNat) (b.take (d.toNat*1))) none) none) none))
def Ln(r0:Nat->LA->O R)(b:LA)(a:Nat)(f c:Bool):Nat->Int->O R
|0=>fun _=>none
|n+1=>Vj N r0 b a f c (Ln r0 b a f c n)
def BP(N:Nat)(r0:Nat->LA->O R)(q0:Int->O R)(b:LA)(a:Nat)(f c:Bool):O R:=(q0 (a:Int))
def Dg:=(Ak fun N b a f c r0=>BP (R:=R) N r0 (Ln N r0 b a f c N) b a f c).1
def EN(b a f c r0):(@Dg R N b a f c r0)=(BP N r0 (Ln N r0 b a f c N) b a f c):=by rw[Dg,(Ak _).2]
def ra(F:KF R):=L7 Tryz.f193 aY [] [] N F
def rc(b:LA)(a:Nat)(f c:Bool)(K:St->O R):=fun d=>K ⟨[(0,.imm b a 1 f c),(3,iv d)],[]⟩
def gp(F:KF R)(b a f c):∀ n,rc b a f c (As (ra N F (pz 336) []) n)=(Ln N (B9 F) b a f c n):=Gu fun n e=>(Cg (Vj N (B9 F) b a f c) e:_)
def Hi:=Ce N 193 [] aY (fun
|[.imm b a 1 f c],[]=>some fun _ k=>Dg N b a f c (B9 k)
| _,_=>none) fun _ _=>by split;intro R F;exact(Cg (BP N (B9 F) · _ _ _ _) ((lW ..).trans (gp ..)):_).trans (EN ..).symm;trivial
def YG(b:Bool)(c:LA)(d:Nat)(f e:Bool)(r0:LA->O R):O R:=(Dg N c d false e fun a g=>cond (b==true) (r0 [.bool (cond true (decide ((a:Int)>0)) false),.imm (g.take (a*1)) a 1 false false]) (r0 [.bool false,.imm (g.take (a*1)) a 1 false false]))
def F3:=(Ak (@YG R)).1
def UD:@F3 R=@YG R:=(Ak _).2
def Lo:=Ce N 139 [Hi N] Kl (fun
|[.bool b,.imm c d 1 f e],[]=>some fun _ k=>F3 N b c d f e (Cq k)
| _,_=>none) fun _ _=>by split;intro R F;dsimp only;rw[UD];kernel_rfl;trivial
def YH(a:LA)(b:Bool)(r0:LA->O R):O R:=(X2 a fun d=>Bv 1 (a.drop 1) fun e f=>F3 N d e f false b fun c=>cond ((beq 0 0)&&((beq c.length 2)&&(beq 2 2))) (cond (ble 2 c.length) (r0 (c.take 2)) none) none)
def BQ:=(Ak (@YH R)).1
def UE:@BQ R=@YH R:=(Ak _).2
def gq:=Ce N 120 [Lo N] Kl (fun
|[.pagg a b],[]=>some fun _ k=>BQ N a b (Cq k)
| _,_=>none) fun _ _=>by split;intro R F;dsimp only;rw[UE];kernel_rfl;trivial
def YI(a:LA)(b:Bool)(r0:Int->O R):O R:=(cond (ble 2 a.length) (BQ N (a.take 2) b fun c=>cond ((beq c.length 2)&&((ble 2 a.length)&&(!false))) (X2 (setCells a 0 c) fun d=>cond d (r0 (-1)) (Bv 1 ((setCells a 0 c).drop 1) fun f e=>cond ((e:Int)==0) (r0 0) (r0 1))) none) none)
def BR:=(Ak (@YI R)).1
def UF:@BR R=@YI R:=(Ak _).2
def gr:=Ce N 60 [gq N] Eg (fun
|[.pagg a b],[]=>some fun _ k=>BR N a b (Gv k)
| _,_=>none) fun _ _=>by split;intro R F;dsimp only;rw[UF];kernel_rfl;trivial
def YJ(N:Nat)(r0:LA->O R):O R:=(r0 [.bool false,.imm [] 0 1 false false,.imm [.int .u32 1] 1 1 false false])
def KB:=(Ak (@YJ R)).1
def UG:@KB R=@YJ R:=(Ak _).2
def gt:=Ce N 35 [] Kl (fun
|[],[]=>some fun _ k=>KB N (Cq k)
| _,_=>none) fun _ _=>by split;intro R F;dsimp only;rw[UG];kernel_rfl;trivial
def Ss(N:Nat)(r0:Bool->O R)(c:LA)(a:Nat)(f g:Bool)(d:LA)(b:Nat)(h i:Bool)(k0:Int->O R)(j:Int):O R:=(cond (decide (j<(a:Int))) (cond (Ah j a) (Au .u32 (c.drop (j.toNat*1)) fun l=>cond (Ah j b) (Au .u32 (d.drop (j.toNat*1)) fun m=>cond (l != m) (r0 false) (k0 (wrap .i64 (j+1)))) none) none) (r0 true))
def Jd(r0:Bool->O R)(c:LA)(a:Nat)(f g:Bool)(d:LA)(b:Nat)(h i:Bool):Nat->Int->O R
|0=>fun _=>none
|n+1=>Ss N r0 c a f g d b h i (Jd r0 c a f g d b h i n)
def EO(N:Nat)(r0:Bool->O R)(q0:Int->O R)(c:LA)(a:Nat)(f g:Bool)(d:LA)(b:Nat)(h i:Bool):O R:=(cond ((a:Int) != (b:Int)) (r0 false) (q0 0))
def BS:=(Ak fun N c a f g d b h i r0=>EO (R:=R) N r0 (Jd N r0 c a f g d b h i N) c a f g d b h i).1
def O_(c a f g d b h i r0):(@BS R N c a f g d b h i r0)=(EO N r0 (Jd N r0 c a f g d b h i N) c a f g d b h i):=by rw[BS,(Ak _).2]
def UH:Hints:={H:=hK 2 (hS (hK 1 (hS (hP [0,1,5] hL) hL)) hL)}
def pI(F:KF R):=L7 Tryz.f135 UH [] [] N F
def pJ(c:LA)(a:Nat)(f g:Bool)(d:LA)(b:Nat)(h i:Bool)(K:St->O R):=fun j=>K ⟨[(0,.imm c a 1 f g),(1,.imm d b 1 h i),(5,iv j)],[]⟩
def eN(F:KF R)(c a f g d b h i):∀ n,pJ c a f g d b h i (As (pI N F (pz 1348) []) n)=(Jd N (Cm F) c a f g d b h i n):=Gu fun n e=>(Cg (Ss N (Cm F) c a f g d b h i) e:_)
def rf:=Ce N 135 [] UH (fun
|[.imm c a 1 f g,.imm d b 1 h i],[]=>some fun _ k=>BS N c a f g d b h i (Cm k)
| _,_=>none) fun _ _=>by split;intro R F;exact(Cg (EO N (Cm F) · _ _ _ _ _ _ _ _) ((lW ..).trans (eN ..)):_).trans (O_ ..).symm;trivial
def Es(N:Nat)(r0:Int->Bool->O R)(a:Nat)(b:LA)(k0:Int->Int->O R)(i h:Int):O R:=(cond (decide (h>=0)) (cond (Ah h a) (Au .u32 (b.drop (0+(h.toNat*1))) fun j=>k0 (Of .u64 (wrap .u64 (i*2 ^ 32)) (wrap .u64 j)) (wrap .i64 (h - 1))) none) (r0 i true))
def Dp(r0:Int->Bool->O R)(a:Nat)(b:LA):Nat->Int->Int->O R
|0=>fun _ _=>none
|n+1=>Es N r0 a b (Dp r0 a b n)
def Ys(r0:Int->Bool->O R)(q0:Nat->LA->Int->Int->O R)(c:LA)(d:Nat)(g f:Bool):O R:=(Dg N c d false f fun a b=>cond (decide ((a:Int)>2)) (r0 0 false) (q0 a b 0 (wrap .i64 ((a:Int) - 1))))
def Rj:=(Ak fun N c d g f r0=>Ys (R:=R) N r0 (fun a b=>Dp N r0 a b N) c d g f).1
def KC(c d g f r0):(@Rj R N c d g f r0)=(Ys N r0 (fun a b=>Dp N r0 a b N) c d g f):=by rw[Rj,(Ak _).2]
def O':Hints:={H:=hK 4 (hS (hK 1 (hS (hP [0,4,5] hL) hL)) hL)}
def UI:U6:=[Hi N]
def kU(F:KF R):=L7 Tryz.f229 O' (UI N) [] N F
def kV(a:Nat)(b:LA)(K:St->O R):=fun i h=>K ⟨[(0,Aqb 0 a),(4,.int .u64 i),(5,iv h)],hq [bQ 1 b]⟩
def YK(F:KF R)(a b):∀ n,kV a b (As (kU N F (pz 21828) []) n)=(Dp N (rD F) a b n):=Gu fun n e=>(Cg (Es N (rD F) a b) e:_)
def pK:=Ce N 229 (UI N) O' (fun
|[.imm c d 1 g f],[]=>some fun _ k=>Rj N c d g f (rD k)
| _,_=>none) fun _ _=>by split;intro R F;exact(Cg (Ys N (rD F) · _ _ _ _) (oE fun a b=>(lW ..).trans (YK ..)):_).trans (KC ..).symm;trivial
def T4(a:Int)(r0:Nat->LA->O R):O R:=(Dg N [.int .u32 (wrap .u32 a),.int .u32 (wrap .u32 (Int.fdiv a (2 ^ 32)))] 2 false true fun b c=>r0 b c)
def F4:=(Ak (@T4 R)).1
def Xe:@F4 R=@T4 R:=(Ak _).2
def BT:=Ce N 140 [Hi N] ym (fun
|[.int .u64 a],[]=>some fun _ k=>F4 N a (B9 k)
| _,_=>none) fun _ _=>by split;intro R F;dsimp only;rw[Xe];kernel_rfl;trivial
def Pu(N:Nat)(r0:Int->O R)(k0:Int->Int->O R)(g h:Int):O R:=(cond (decide (h>0)) (k0 (wrap .i64 (g+1)) (Int.fdiv h (2 ^ 1))) (r0 g))
def Ic(r0:Int->O R):Nat->Int->Int->O R
|0=>fun _ _=>none
|n+1=>Pu N r0 (Ic r0 n)
def BU(r0:Int->O R)(q0:Int->Int->O R)(a:LA)(b:Nat)(d c:Bool):O R:=(Dg N a b false c fun f i=>cond ((f:Int)==0) (r0 0) (cond (Ah (wrap .i64 ((f:Int) - 1)) f) (Au .u32 (i.drop (0+(((wrap .i64 ((f:Int) - 1)).toNat)*1))) fun j=>q0 (wrap .i64 (32*(wrap .i64 ((f:Int) - 1)))) j) none))
def KD:=(Ak fun N a b d c r0=>BU (R:=R) N r0 (Ic N r0 N) a b d c).1
def EP(a b d c r0):(@KD R N a b d c r0)=(BU N r0 (Ic N r0 N) a b d c):=by rw[KD,(Ak _).2]
def bS:Hints:={H:=hK 4 (hS (hK 1 (hS (hP [3,4] hL) hL)) hL)}
def gv:U6:=[Hi N]
def rg(F:KF R):=L7 Tryz.f230 bS (gv N) [] N F
def ri(K:St->O R):=fun g h=>K ⟨[(3,iv g),(4,.int .u32 h)],[]⟩
def gw(F:KF R):∀ n,ri (As (rg N F (pz 21828) []) n)=(Ic N (Gv F) n):=Gu fun n e=>(Cg (Pu N (Gv F)) e:_)
def uE:=Ce N 230 (gv N) bS (fun
|[.imm a b 1 d c],[]=>some fun _ k=>KD N a b d c (Gv k)
| _,_=>none) fun _ _=>by split;intro R F;exact(Cg (BU N (Gv F) · _ _ _ _) ((lW ..).trans (gw ..)):_).trans (EP ..).symm;trivial
def Xf(N:Nat)(k0:Nat->Int->Int->LA->O R)(r0:Nat->LA->O R)(c:LA)(a:Nat)(f g:Bool)(d:LA)(b:Nat)(h i:Bool)(j:Nat)(l:LA)(p m:Int):O R:=(cond (decide (m<(b:Int))) (cond (Ah m b) (Au .u32 (d.drop (m.toNat*1)) fun r=>cond (Ah m j) (cond ((beq 1 1)&&((ble ((0+(m.toNat*1))+1) l.length)&&(!false))) (k0 j (Int.fdiv (wrap .u64 (p+(wrap .u64 r))) (2 ^ 32)) (wrap .i64 (m+1)) (l.set (0+(m.toNat*1)) (.int .u32 (wrap .u32 (wrap .u64 (p+(wrap .u64 r))))))) none) none) none) (cond (Ah m j) (cond ((beq 1 1)&&((ble ((0+(m.toNat*1))+1) l.length)&&(!false))) (k0 j (Int.fdiv p (2 ^ 32)) (wrap .i64 (m+1)) (l.set (0+(m.toNat*1)) (.int .u32 (wrap .u32 p)))) none) none))
def Yt(r0:Nat->LA->O R)(c:LA)(a:Nat)(f g:Bool)(d:LA)(b:Nat)(h i:Bool)(k0:Nat->Int->Int->LA->O R)(q1:Nat->LA->Int->Int->O R)(j:Nat)(q o:Int)(l:LA):O R:=(cond (decide (o<(j:Int))) (cond (decide (o<(a:Int))) (cond (Ah o a) (Au .u32 (c.drop (o.toNat*1)) fun s=>q1 j l (wrap .u64 (q+(wrap .u64 s))) o) none) (q1 j l q o)) (Dg N (l.take (j*1)) j false true fun t u=>r0 t u))
def Hj(r0:Nat->LA->O R)(c:LA)(a:Nat)(f g:Bool)(d:LA)(b:Nat)(h i:Bool):Nat->Nat->Int->Int->LA->O R
|0=>fun _ _ _ _=>none
|n+1=>Yt N r0 c a f g d b h i (Hj r0 c a f g d b h i n) (fun j l=>Xf N (Hj r0 c a f g d b h i n) r0 c a f g d b h i j l)
def UJ(N:Nat)(r0:Nat->LA->O R)(q0:Nat->Int->Int->LA->O R)(c:LA)(a:Nat)(f g:Bool)(d:LA)(b:Nat)(h i:Bool):O R:=(cond ((decide (0<=(wrap .i64 ((Qm (a:Int) (b:Int))+1))))&&((decide ((wrap .i64 ((Qm (a:Int) (b:Int))+1))<=(wrap .i64 ((Qm (a:Int) (b:Int))+1))))&&((decide ((wrap .i64 ((Qm (a:Int) (b:Int))+1))<=140737488355328))&&(decide (((wrap .i64 ((Qm (a:Int) (b:Int))+1))*((4:Nat):Int))<=140737488355328))))) (q0 ((wrap .i64 ((Qm (a:Int) (b:Int))+1)).toNat) 0 0 (replicate ((wrap .i64 ((Qm (a:Int) (b:Int))+1)).toNat) (.int .u32 0))) none)
def EQ:=(Ak fun N c a f g d b h i r0=>UJ (R:=R) N r0 (Hj N r0 c a f g d b h i N) c a f g d b h i).1
def bT(c a f g d b h i r0):(@EQ R N c a f g d b h i r0)=(UJ N r0 (Hj N r0 c a f g d b h i N) c a f g d b h i):=by rw[EQ,(Ak _).2]
def gy:Hints:={H:=hK 3 (hS (hK 1 (hS (hP [0,1,5,6,7] (hK 1 (hS (hS (hJ [0,1,5,6,7] hL hL) hL) hL))) hL)) hL),nils:=[(4,1)],modes:=[(2,1)]}
def mG:U6:=[Hi N]
def gz(F:KF R):=L7 Tryz.f141 gy (mG N) [] N F
def uF(c:LA)(a:Nat)(f g:Bool)(d:LA)(b:Nat)(h i:Bool)(j:Nat)(l:LA)(K:St->O R):=fun p m=>K ⟨[(0,.imm c a 1 f g),(1,.imm d b 1 h i),(5,Aqb 0 j),(6,.int .u64 p),(7,iv m)],hq [bQ 1 l]⟩
def hI(c:LA)(a:Nat)(f g:Bool)(d:LA)(b:Nat)(h i:Bool)(K:St->O R):=fun j q o l=>K ⟨[(0,.imm c a 1 f g),(1,.imm d b 1 h i),(5,Aqb 0 j),(6,.int .u64 q),(7,iv o)],hq [bQ 1 l]⟩
def kW Q0 (F:KF R) (c a f g d b h i j l):uF c a f g d b h i j l (Bc (gz N F (pz 5574721) [Q0]))=(Xf N (hI c a f g d b h i Q0) (B9 F) c a f g d b h i j l):=by kernel_rfl
def kX(F:KF R)(c a f g d b h i):∀ n,hI c a f g d b h i (As (gz N F (pz 5444) []) n)=(Hj N (B9 F) c a f g d b h i n):=Gu fun n e=>(OF (Yt N (B9 F) c a f g d b h i) e (oE fun j l=>(jW ..).trans ((kW ..).trans (rA (Xf _ · _ _ _ _ _ _ _ _ _ _ _) e))):_)
def mH:=Ce N 141 (mG N) gy (fun
|[.imm c a 1 f g,.imm d b 1 h i],[]=>some fun _ k=>EQ N c a f g d b h i (B9 k)
| _,_=>none) fun _ _=>by split;intro R F;exact(Cg (UJ N (B9 F) · _ _ _ _ _ _ _ _) ((lW ..).trans (kX ..)):_).trans (bT ..).symm;trivial
def hZ(N:Nat)(c:LA)(b:Nat)(d e:Bool)(a:Int)(r0:Int->O R):O R:=(cond (decide ((wrap .i64 (Int.tdiv a 32))>=(b:Int))) (r0 0) (cond (Ah (wrap .i64 (Int.tdiv a 32)) b) (Au .u32 (c.drop (((wrap .i64 (Int.tdiv a 32)).toNat)*1)) fun f=>cond (decide ((wrap .u64 (Int.tmod a 32))<0)) none (r0 (tZ .u32 (Int.fdiv f (2 ^ (min ((wrap .u64 (Int.tmod a 32)).toNat) 32))) 1))) none))
def eg:=(Ak (@hZ R)).1
def bU:@eg R=@hZ R:=(Ak _).2
def uG(F:KF R):Int->O R:=fun g=>F (.int .u32 g) []
def xN:=Ce N 231 [] Eg (fun
|[.imm c b 1 d e,.int .i64 a],[]=>some fun _ k=>eg N c b d e a (uG k)
| _,_=>none) fun _ _=>by split;intro R F;dsimp only;rw[bU];kernel_rfl;trivial
def Nv(N:Nat)(r0:Int->O R)(a b:Nat)(c d:LA)(k0:Int->O R)(f:Int):O R:=(cond (decide (f>=0)) (cond (Ah f a) (Au .u32 (c.drop (0+(f.toNat*1))) fun q=>cond (Ah f b) (Au .u32 (d.drop (0+(f.toNat*1))) fun r=>cond (decide (q<r)) (r0 (-1)) (cond (Ah f a) (Au .u32 (c.drop (0+(f.toNat*1))) fun s=>cond (Ah f b) (Au .u32 (d.drop (0+(f.toNat*1))) fun t=>cond (decide (s>t)) (r0 1) (k0 (wrap .i64 (f - 1)))) none) none)) none) none) (r0 0))
def F5(r0:Int->O R)(a b:Nat)(c d:LA):Nat->Int->O R
|0=>fun _=>none
|n+1=>Nv N r0 a b c d (F5 r0 a b c d n)
def Vk(r0:Int->O R)(q0:Nat->Nat->LA->LA->Int->O R)(g:LA)(h:Nat)(o i:Bool)(j:LA)(l:Nat)(p m:Bool):O R:=(Dg N g h false i fun a c=>Dg N j l false m fun b d=>cond ((a:Int) != (b:Int)) (cond (decide ((a:Int)<(b:Int))) (r0 (-1)) (r0 1)) (q0 a b c d (wrap .i64 ((a:Int) - 1))))
def Tm:=(Ak fun N g h o i j l p m r0=>Vk (R:=R) N r0 (fun a b c d=>F5 N r0 a b c d N) g h o i j l p m).1
def GQ(g h o i j l p m r0):(@Tm R N g h o i j l p m r0)=(Vk N r0 (fun a b c d=>F5 N r0 a b c d N) g h o i j l p m):=by rw[Tm,(Ak _).2]
def PA:U6:=[Hi N]
def h_(F:KF R):=L7 Tryz.f194 lc (PA N) [] N F
def iA(a b:Nat)(c d:LA)(K:St->O R):=fun f=>K ⟨[(0,Aqb 0 a),(1,Aqb 1 b),(5,iv f)],hq [bQ 1 c,bQ 1 d]⟩
def UK(F:KF R)(a b c d):∀ n,iA a b c d (As (h_ N F (pz 5444) []) n)=(F5 N (Gv F) a b c d n):=Gu fun n e=>(Cg (Nv N (Gv F) a b c d) e:_)
def kY:=Ce N 194 (PA N) lc (fun
|[.imm g h 1 o i,.imm j l 1 p m],[]=>some fun _ k=>Tm N g h o i j l p m (Gv k)
| _,_=>none) fun _ _=>by split;intro R F;exact(Cg (Vk N (Gv F) · _ _ _ _ _ _ _ _) (t7 fun a b c d=>(lW ..).trans (UK ..)):_).trans (GQ ..).symm;trivial
def Yu(N:Nat)(r0:Bool->O R)(b:Bool)(a:LA):O R:=(Au .i64 (a.drop 20) fun i=>cond ((decide (i<1))==false) (Au .i64 (a.drop 20) fun j=>cond (cond false true (decide (j>48))) (r0 false) (Au .i64 (a.drop 19) fun l=>cond ((l != 1)==false) (Au .i64 (a.drop 20) fun m=>Au .i64 (a.drop 12) fun o=>r0 (cond false true (decide (m<=o)))) (r0 true))) (r0 false))
def ER(N:Nat)(r0:Bool->O R)(c d f g:Int)(b:Bool)(a:LA)(k0:Int->O R)(q1:O R)(h:Int):O R:=(cond (decide (h<4)) (cond (Ah h 4) (cond (beq (h.toNat*1) 0) (cond ((decide (c<0))==false) (cond (cond false true (decide (c>24))) (r0 false) (k0 (wrap .i64 (h+1)))) (r0 false)) (cond (beq (h.toNat*1) 1) (cond ((decide (d<0))==false) (cond (cond false true (decide (d>24))) (r0 false) (k0 (wrap .i64 (h+1)))) (r0 false)) (cond (beq (h.toNat*1) 2) (cond ((decide (f<0))==false) (cond (cond false true (decide (f>24))) (r0 false) (k0 (wrap .i64 (h+1)))) (r0 false)) (cond (beq (h.toNat*1) 3) (cond ((decide (g<0))==false) (cond (cond false true (decide (g>24))) (r0 false) (k0 (wrap .i64 (h+1)))) (r0 false)) none)))) none) (Au .i64 (a.drop 19) fun p=>cond ((p != 0)==true) (Au .i64 (a.drop 19) fun q=>cond ((cond true (q != 1) false)==true) (Au .i64 (a.drop 19) fun r=>cond (cond true (r != 2) false) (r0 false) q1) q1) q1))
def On(r0:Bool->O R)(c d f g:Int)(b:Bool)(a:LA):Nat->Int->O R
|0=>fun _=>none
|n+1=>ER N r0 c d f g b a (On r0 c d f g b a n) (Yu N r0 b a)
def MS(N:Nat)(r0:Bool->O R)(q0:Int->Int->Int->Int->Int->O R)(a:LA)(b:Bool):O R:=(Au .i64 (a.drop 10) fun c=>Au .i64 (a.drop 11) fun d=>Au .i64 (a.drop 12) fun f=>Au .i64 (a.drop 15) fun g=>q0 c d f g 0)
def KE:=(Ak fun N a b r0=>MS (R:=R) N r0 (fun c d f g=>On N r0 c d f g b a N) a b).1
def UL(a b r0):(@KE R N a b r0)=(MS N r0 (fun c d f g=>On N r0 c d f g b a N) a b):=by rw[KE,(Ak _).2]
def bV:Hints:={H:=hK 1 (hS (hK 1 (hS (hP [1,13,14] hL) hL)) (hJ [1] hL hL))}
def bW(F:KF R):=L7 Tryz.f104 bV [] [] N F
def rj(b:Bool)(a:LA)(K:St->O R):=K ⟨[(1,op 0)],hq [bP b 0 a]⟩
def rk(c d f g:Int)(b:Bool)(a:LA)(K:St->O R):=fun h=>K ⟨[(1,op 0),(13,.agg [iv c,iv d,iv f,iv g]),(14,iv h)],hq [bP b 0 a]⟩
def iB(F:KF R)(b a):rj b a (Bc (bW N F (pz 85) []))=(Yu N (Cm F) b a):=by kernel_rfl
def iC(F:KF R)(c d f g b a):∀ n,rk c d f g b a (As (bW N F (pz 324) []) n)=(On N (Cm F) c d f g b a n):=Gu fun n e=>(OF (ER N (Cm F) c d f g b a) e ((jW ..).trans (iB ..)):_)
def uH:=Ce N 104 [] bV (fun
|[.pagg a b],[]=>some fun _ k=>KE N a b (Cm k)
| _,_=>none) fun _ _=>by split;intro R F;exact(Cg (MS N (Cm F) · _ _) (t7 fun c d f g=>(lW ..).trans (iC ..)):_).trans (UL ..).symm;trivial
def Ht(N:Nat)(k0:Int->Int->Int->O R)(r0:Bool->O R)(b:LA)(d:Nat)(c:Bool)(f:Int)(a:LA)(j h l:Int)(i:LA):O R:=(cond ((decide (h>0))==true) (Au .i64 (i.drop 1) fun o=>Bv 2 (a.drop 4) fun p q=>cond (Ah (wrap .i64 (h - 1)) q) (Au .i64 ((p.drop (((wrap .i64 (h - 1)).toNat)*2)).drop 1) fun r=>cond (cond true (decide (o<r)) false) (r0 false) (Au .i64 i fun s=>k0 (wrap .i64 (j+s)) f (wrap .i64 (l+1)))) none) (Au .i64 i fun t=>k0 (wrap .i64 (j+t)) f (wrap .i64 (l+1))))
def G3(r0:Bool->O R)(b:LA)(d:Nat)(c:Bool)(a:LA)(k0:Int->Int->Int->O R)(q1:Int->Int->Int->Int->LA->O R)(m f g:Int):O R:=(cond (decide (g<f)) (cond (Ah g d) (cond (ble 2 ((b.drop (g.toNat*2)).length)) (cond ((!c)||(A4 ((b.drop (g.toNat*2)).take 2))) (cond ((beq (((b.drop (g.toNat*2)).take 2).length) 2)&&((ble 2 2)&&(!false))) (Au .i64 (setCells [Aqc,Aqc] 0 ((b.drop (g.toNat*2)).take 2)) fun u=>Ct N 1 1048576 [.int .i64 u] 1 false true fun v=>cond ((!v)==false) (Au .i64 ((setCells [Aqc,Aqc] 0 ((b.drop (g.toNat*2)).take 2)).drop 1) fun w=>Ct N (-1048576) 1048576 [.int .i64 w] 1 false true fun x=>cond (cond false true (!x)) (r0 false) (q1 f m g g (setCells [Aqc,Aqc] 0 ((b.drop (g.toNat*2)).take 2)))) (r0 false)) none) none) none) none) (Au .i64 (a.drop 3) fun y=>Au .i64 (a.drop 2) fun z=>r0 (m==(wrap .i64 (y - z)))))
def B7(r0:Bool->O R)(b:LA)(d:Nat)(c:Bool)(a:LA):Nat->Int->Int->Int->O R
|0=>fun _ _ _=>none
|n+1=>G3 N r0 b d c a (B7 r0 b d c a n) (fun f=>Ht N (B7 r0 b d c a n) r0 b d c f a)
def Ky(N:Nat)(r0:Bool->O R)(q0:LA->Nat->Int->Int->Int->O R)(a:LA)(c:Bool):O R:=(Bv 2 (a.drop 4) fun ab aa=>cond (decide ((aa:Int)>8)) (r0 false) (Bv 2 (a.drop 4) fun b d=>q0 b d 0 (d:Int) 0))
def Fj:=(Ak fun N a c r0=>Ky (R:=R) N r0 (fun b d=>B7 N r0 b d c a N) a c).1
def Tn(a c r0):(@Fj R N a c r0)=(Ky N r0 (fun b d=>B7 N r0 b d c a N) a c):=by rw[Fj,(Ak _).2]
def Ul:Hints:={H:=hK 3 (hS (hK 1 (hS (hP [1,3,11,12,13] (hK 2 (hS (hS (hK 1 (hJ [1,3,4,5,11,12,13] hL hL)) hL) hL))) hL)) hL)}
def Xg:U6:=[EG N]
def Um(F:KF R):=L7 Tryz.f105 Ul (Xg N) [] N F
def NU(b:LA)(d:Nat)(c:Bool)(f:Int)(a:LA)(K:St->O R):=fun j h l i=>K ⟨[(1,op 0),(3,iv j),(4,iv h),(5,op 1),(11,.imm b d 2 false c),(12,iv f),(13,iv l)],hq [bP c 0 a,bQ 0 i]⟩
def Up(b:LA)(d:Nat)(c:Bool)(a:LA)(K:St->O R):=fun m f g=>K ⟨[(1,op 0),(3,iv m),(11,.imm b d 2 false c),(12,iv f),(13,iv g)],hq [bP c 0 a]⟩
def ES Q0 (F:KF R) (b d c f a):NU b d c f a (Bc (Um N F (pz 89195781) [Q0]))=(Ht N (Up b d c a Q0) (Cm F) b d c f a):=by kernel_rfl
def ET(F:KF R)(b d c a):∀ n,Up b d c a (As (Um N F (pz 5444) []) n)=(B7 N (Cm F) b d c a n):=Gu fun n e=>(OF (G3 N (Cm F) b d c a) e (wg fun f=>(jW ..).trans ((ES ..).trans (rA (Ht _ · _ _ _ _ _ _) e))):_)
def Q_:=Ce N 105 (Xg N) Ul (fun
|[.pagg a c],[]=>some fun _ k=>Fj N a c (Cm k)
| _,_=>none) fun _ _=>by split;intro R F;exact(Cg (Ky N (Cm F) · _ _) (oE fun b d=>(lW ..).trans (ET ..)):_).trans (Tn ..).symm;trivial
def Mn(r0:Bool->O R)(b:LA)(a:Nat)(c d:Bool)(f:Int)(k0:Int->Int->O R)(h g:Int):O R:=(cond (decide (g<h)) (cond (Ah g a) (Au .i64 (b.drop (g.toNat*1)) fun i=>Ct N 0 (wrap .i64 (f - 1)) [.int .i64 i] 1 false true fun j=>cond ((!j)==false) (cond ((decide (g>0))==true) (cond (Ah (wrap .i64 (g - 1)) a) (Au .i64 (b.drop (((wrap .i64 (g - 1)).toNat)*1)) fun l=>cond (cond false true (cond true (decide (i<=l)) false)) (r0 false) (k0 h (wrap .i64 (g+1)))) none) (k0 h (wrap .i64 (g+1)))) (r0 false)) none) (r0 true))
def E5(r0:Bool->O R)(b:LA)(a:Nat)(c d:Bool)(f:Int):Nat->Int->Int->O R
|0=>fun _ _=>none
|n+1=>Mn N r0 b a c d f (E5 r0 b a c d f n)
def Sw(N:Nat)(r0:Bool->O R)(q0:Int->Int->O R)(b:LA)(a:Nat)(c d:Bool)(f:Int):O R:=(q0 (a:Int) 0)
def Mo:=(Ak fun N b a c d f r0=>Sw (R:=R) N r0 (E5 N r0 b a c d f N) b a c d f).1
def BV(b a c d f r0):(@Mo R N b a c d f r0)=(Sw N r0 (E5 N r0 b a c d f N) b a c d f):=by rw[Mo,(Ak _).2]
def GR:Hints:={H:=hK 1 (hS (hK 1 (hS (hP [0,1,7,8,9] hL) hL)) hL)}
def KG:U6:=[EG N]
def eO(F:KF R):=L7 Tryz.f106 GR (KG N) [] N F
def eP(b:LA)(a:Nat)(c d:Bool)(f:Int)(K:St->O R):=fun h g=>K ⟨[(0,.imm b a 1 c d),(1,iv f),(7,.imm b a 1 c d),(8,iv h),(9,iv g)],[]⟩
def Q'(F:KF R)(b a c d f):∀ n,eP b a c d f (As (eO N F (pz 324) []) n)=(E5 N (Cm F) b a c d f n):=Gu fun n e=>(Cg (Mn N (Cm F) b a c d f) e:_)
def iD:=Ce N 106 (KG N) GR (fun
|[.imm b a 1 c d,.int .i64 f],[]=>some fun _ k=>Mo N b a c d f (Cm k)
| _,_=>none) fun _ _=>by split;intro R F;exact(Cg (Sw N (Cm F) · _ _ _ _ _) ((lW ..).trans (Q' ..)):_).trans (BV ..).symm;trivial
def KH(r0:Bool->O R)(c:Int)(b:Bool)(a:LA):O R:=(Au .i64 (a.drop 2) fun d=>Au .i64 (a.drop 3) fun e=>Au .i64 (a.drop 8) fun f=>Au .i64 (a.drop 9) fun g=>Ct N d e [.int .i64 f,.int .i64 g] 2 false true fun h=>cond (!h) (r0 false) (Au .i64 (a.drop 5) fun i=>Au .i64 (a.drop 13) fun j=>Au .i64 (a.drop 14) fun l=>Au .i64 (a.drop 17) fun m=>Ct N 0 1048576 [.int .i64 i,.int .i64 j,.int .i64 l,.int .i64 m] 4 false true fun n=>cond (!n) (r0 false) (Au .i64 (a.drop 19) fun o=>cond (o==2) (Au .i64 (a.drop 2) fun p=>Au .i64 (a.drop 3) fun q=>Au .i64 (a.drop 21) fun r=>Ct N p q [.int .i64 r] 1 false true fun s=>cond (!s) (r0 false) (cond (ble 22 a.length) (Fj N (a.take 22) b fun t=>cond (t==true) (Bv 1 (a.drop 18) fun u v=>Mo N u v false b c fun w=>r0 (cond true w false)) (r0 false)) none)) (Au .i64 (a.drop 21) fun x=>cond (x != 0) (r0 false) (cond (ble 22 a.length) (Fj N (a.take 22) b fun y=>cond (y==true) (Bv 1 (a.drop 18) fun z aa=>Mo N z aa false b c fun ab=>r0 (cond true ab false)) (r0 false)) none)))))
def EU(r0:Bool->O R)(c:Int)(b:Bool)(a:LA)(q1:O R):O R:=(Au .i64 (a.drop 2) fun ac=>Au .i64 (a.drop 3) fun ad=>Au .i64 (a.drop 6) fun ae=>Au .i64 (a.drop 7) fun af=>Au .i64 (a.drop 16) fun ag=>Ct N 0 1048576 [.int .i64 ac,.int .i64 ad,.int .i64 ae,.int .i64 af,.int .i64 ag] 5 false true fun ah=>cond ((!ah)==false) (Au .i64 (a.drop 2) fun ai=>Au .i64 (a.drop 3) fun aj=>cond (cond false true (decide (ai>aj))) (r0 false) q1) (r0 false))
def Yv(r0:Bool->O R)(c:Int)(b:Bool)(a:LA):O R:=EU N r0 c b a (KH N r0 c b a)
def MT(r0:Bool->O R)(q0:O R)(a:LA)(b:Bool)(c:Int):O R:=(Ct N 1 24 [.int .i64 c] 1 false true fun ak=>cond ((!ak)==false) (cond (ble 22 a.length) (KE N (a.take 22) b fun al=>cond (cond false true (!al)) (r0 false) q0) none) (r0 false))
def KI:=(Ak fun N a b c r0=>MT (R:=R) N r0 (Yv N r0 c b a) a b c).1
def UM(a b c r0):(@KI R N a b c r0)=(MT N r0 (Yv N r0 c b a) a b c):=by rw[KI,(Ak _).2]
def bX:Hints:={H:=hK 1 (hJ [1,2] hL (hJ [1,2] hL hL))}
def iE:U6:=[EG N,uH N,Q_ N,iD N]
def bY(F:KF R):=L7 Tryz.f48 bX (iE N) [] N F
def rm(c:Int)(b:Bool)(a:LA)(K:St->O R):=K ⟨[(1,iv c),(2,op 0)],hq [bP b 0 a]⟩
def rn(c:Int)(b:Bool)(a:LA)(K:St->O R):=K ⟨[(1,iv c),(2,op 0)],hq [bP b 0 a]⟩
def iF(F:KF R)(c b a):rm c b a (Bc (bY N F (pz 85) []))=(KH N (Cm F) c b a):=by kernel_rfl
def iG(F:KF R)(c b a):rn c b a (Bc (bY N F (pz 21) []))=(Yv N (Cm F) c b a):=(Cg (EU N (Cm F) c b a) ((jW ..).trans (iF ..)):_)
def uI:=Ce N 48 (iE N) bX (fun
|[.pagg a b,.int .i64 c],[]=>some fun _ k=>KI N a b c (Cm k)
| _,_=>none) fun _ _=>by split;intro R F;exact(Cg (MT N (Cm F) · _ _ _) ((jW ..).trans (iG ..)):_).trans (UM ..).symm;trivial
def F6(N:Nat)(r0:Nat->Nat->LA->Bool->LA->O R)(f:Int)(d:LA)(e:Bool)(b:LA)(g:Bool)(c:LA)(i j:Nat):O R:=(cond ((ble (i+1) 140737488355328)&&(ble ((i+1)*8) 140737488355328)) (cond (ble 3 c.length) (cond ((beq ((c.take 3).length) 3)&&(ble 3 3)) (cond ((ble (j+1) 140737488355328)&&(ble ((j+1)*56) 140737488355328)) (r0 (i+1) (j+1) ((d.take (i*1))++[.int .i64 f]) (e||(g||false)) ((b.take (j*3))++((setCells [.bool false,.nsl,.nsl] 0 (c.take 3)).take 3))) none) none) none) none)
def Mp(r0:Nat->Nat->LA->Bool->LA->O R)(q0:Nat->Nat->O R)(f:Int)(c:LA)(g:Bool)(a h:Nat)(d:LA)(e:Bool)(b:LA):O R:=(cond (decide ((a:Int)>=2)) (cond (Ah (wrap .i64 ((a:Int) - 1)) h) (cond (ble 3 ((b.drop (0+(((wrap .i64 ((a:Int) - 1)).toNat)*3))).length)) (cond (Ah (wrap .i64 ((a:Int) - 2)) h) (cond (ble 3 ((b.drop (0+(((wrap .i64 ((a:Int) - 2)).toNat)*3))).length)) (Zx N ((b.drop (0+(((wrap .i64 ((a:Int) - 1)).toNat)*3))).take 3) e ((b.drop (0+(((wrap .i64 ((a:Int) - 2)).toNat)*3))).take 3) e fun n=>cond (Ah (wrap .i64 ((a:Int) - 1)) a) (Au .i64 (d.drop (0+(((wrap .i64 ((a:Int) - 1)).toNat)*1))) fun o=>Ca N (wrap .i64 (f - o)) fun p=>N5 N n false p false fun l=>cond ((beq 0 0)&&((beq l.length 3)&&(beq 3 3))) (cond (ble 3 c.length) (cond (Ah (wrap .i64 ((a:Int) - 1)) h) (cond (ble 3 ((b.drop (0+(((wrap .i64 ((a:Int) - 1)).toNat)*3))).length)) (Zx N (c.take 3) g ((b.drop (0+(((wrap .i64 ((a:Int) - 1)).toNat)*3))).take 3) e fun q=>cond (Ah (wrap .i64 ((a:Int) - 1)) a) (Au .i64 (d.drop (0+(((wrap .i64 ((a:Int) - 1)).toNat)*1))) fun r=>cond (Ah (wrap .i64 ((a:Int) - 2)) a) (Au .i64 (d.drop (0+(((wrap .i64 ((a:Int) - 2)).toNat)*1))) fun s=>Ca N (wrap .i64 (r - s)) fun t=>N5 N q false t false fun m=>cond ((beq 0 0)&&((beq m.length 3)&&(beq 3 3))) (cond (ble 3 l.length) (cond (ble 3 m.length) (N7 N (l.take 3) false (m.take 3) false fun u=>cond (u==0) (cond ((decide ((0:Int)<=(0:Int)))&&((decide (0<=(wrap .i64 ((a:Int) - 1))))&&((decide ((wrap .i64 ((a:Int) - 1))<=(a:Int)))&&(decide ((a:Int)<=(a:Int)))))) (cond ((decide ((0:Int)<=(0:Int)))&&((decide (0<=(wrap .i64 ((a:Int) - 1))))&&((decide ((wrap .i64 ((a:Int) - 1))<=(h:Int)))&&(decide ((h:Int)<=(h:Int)))))) (q0 ((wrap .i64 ((a:Int) - 1)).toNat) ((wrap .i64 ((a:Int) - 1)).toNat)) none) none) (q0 a h)) none) none) none) none) none) none) none) none) none) none) none) none) none) none) (q0 a h))
def Gs:=(Ak fun N f c g a h d e b r0=>Mp (R:=R) N r0 (F6 N r0 f d e b g c) f c g a h d e b).1
def Uq(f c g a h d e b r0):(@Gs R N f c g a h d e b r0)=(Mp N r0 (F6 N r0 f d e b g c) f c g a h d e b):=by rw[Gs,(Ak _).2]
def Yw:U6:=[T_ N,Me N,BL N,UC N]
def RA(F:KF R):=L7 Tryz.f123 vN (Yw N) [100000,100001,100002] N F
def RB(f:Int)(d:LA)(e:Bool)(b:LA)(g:Bool)(c:LA)(K:St->O R):=fun i j=>K ⟨[(0,.optr 100000 0),(1,iv f),(5,op 0)],[(100000,bN 0 [.own 100001 0 i,.own 100002 0 j]),(100001,bQ 1 d),(100002,bP e 3 b),(300000,bP g 0 c)]⟩
def HJ(F:KF R)(f d e b g c):RB f d e b g c (Bc (RA N F (pz 85) []))=(F6 N (yp F) f d e b g c):=by kernel_rfl
def Yx:=Ce N 123 (Yw N) vN (fun
|[.optr 100000 0,.int .i64 f,.pagg c g],[(100000,⟨false,false,false,false,0,[.own 100001 0 a,.own 100002 0 h],false,none⟩),(100001,⟨false,false,true,false,1,d,false,none⟩),(100002,⟨false,false,true,e,3,b,false,none⟩)]=>some fun _ k=>Gs N f c g a h d e b (yp k)
| _,_=>none) fun _ _=>by split;intro R F;exact(Cg (Mp N (yp F) · _ _ _ _ _ _ _ _) ((jW ..).trans (HJ ..)):_).trans (Uq ..).symm;trivial
def Hu(r0:LA->Bool->O R)(a:LA)(c:Nat)(b:Bool)(k0:Int->Int->Int->Nat->Nat->LA->LA->Bool->LA->O R)(l m d:Int)(h i:Nat)(g o:LA)(j:Bool)(p:LA):O R:=(cond (decide (d<m)) (cond (Ah d c) (cond (ble 2 ((a.drop (d.toNat*2)).length)) (cond ((!b)||(A4 ((a.drop (d.toNat*2)).take 2))) (cond ((beq (((a.drop (d.toNat*2)).take 2).length) 2)&&((ble 2 2)&&(!false))) (Au .i64 (setCells [Aqc,Aqc] 0 ((a.drop (d.toNat*2)).take 2)) fun r=>cond (ble 3 g.length) (Au .i64 (setCells [Aqc,Aqc] 0 ((a.drop (d.toNat*2)).take 2)) fun u=>Ca N u fun v=>Au .i64 ((setCells [Aqc,Aqc] 0 ((a.drop (d.toNat*2)).take 2)).drop 1) fun w=>Ca N w fun x=>N5 N v false x false fun y=>Zx N (g.take 3) false y false fun q=>cond ((beq q.length 3)&&((ble 3 g.length)&&(!false))) (cond (ble 3 ((setCells g 0 q).length)) (Gs N (wrap .i64 (l+r)) ((setCells g 0 q).take 3) false h i o j p fun z aa ab ac ad=>k0 (wrap .i64 (l+r)) m (wrap .i64 (d+1)) z aa (setCells g 0 q) ab ac ad) none) none) none) none) none) none) none) (r0 [.imm (o.take (h*1)) h 1 false false,.imm (p.take (i*3)) i 3 false j] (j||false)))
def Db(r0:LA->Bool->O R)(a:LA)(c:Nat)(b:Bool):Nat->Int->Int->Int->Nat->Nat->LA->LA->Bool->LA->O R
|0=>fun _ _ _ _ _ _ _ _ _=>none
|n+1=>Hu N r0 a c b (Db r0 a c b n)
def Mq(r0:LA->Bool->O R)(q0:LA->Nat->Int->Int->Int->Nat->Nat->LA->LA->Bool->LA->O R)(f:LA)(b:Bool):O R:=(Au .i64 (f.drop 2) fun ae=>Ca N 0 fun s=>cond ((beq s.length 3)&&(ble 3 3)) (Au .i64 (f.drop 2) fun af=>Ca N 0 fun t=>cond ((beq 0 0)&&((beq t.length 3)&&(beq 3 3))) (Bv 2 (f.drop 4) fun a c=>q0 a c af (c:Int) 0 1 1 t [.int .i64 ae] false (setCells [.bool false,.nsl,.nsl] 0 s)) none) none)
def J3:=(Ak fun N f b r0=>Mq (R:=R) N r0 (fun a c=>Db N r0 a c b N) f b).1
def Ur(f b r0):(@J3 R N f b r0)=(Mq N r0 (fun a c=>Db N r0 a c b N) f b):=by rw[J3,(Ak _).2]
def Xh:Hints:={H:=hK 3 (hS (hK 1 (hS (hP [2,3,4,5,18,19,20] hL) hL)) hL),modes:=[(3,0)]}
def Yy:U6:=[Me N,BL N,T_ N,Yx N]
def RC(F:KF R):=L7 Tryz.f66 Xh (Yy N) [] N F
def RD(a:LA)(c:Nat)(b:Bool)(K:St->O R):=fun l m d h i g o j p=>K ⟨[(2,op 0),(3,op 1),(4,iv l),(5,op 2),(18,.imm a c 2 false b),(19,iv m),(20,iv d)],hq [bN 0 [.nsl,.nsl],bN 0 [Aqb 3 h,Aqb 4 i],bQ 0 g,bQ 1 o,bP j 3 p]⟩
def HK(F:KF R)(a c b):∀ n,RD a c b (As (RC N F (pz 5444) []) n)=(Db N (rE F) a c b n):=Gu fun n e=>(Cg (Hu N (rE F) a c b) e:_)
def UN:=Ce N 66 (Yy N) Xh (fun
|[.pagg f b],[]=>some fun _ k=>J3 N f b (rE k)
| _,_=>none) fun _ _=>by split;intro R F;exact(Cg (Mq N (rE F) · _ _) (oE fun a c=>(lW ..).trans (HK ..)):_).trans (Ur ..).symm;trivial
def Ew(N:Nat)(k0:Int->O R)(r0:Nat->LA->O R)(a:Nat)(b:LA)(k1:Int->Nat->Nat->Int->LA->O R)(c:Int)(i h:Nat)(f:Int)(g:LA):O R:=(cond (decide (f<(h:Int))) (cond (Ah f h) (Au .i64 (g.drop (i+(f.toNat*1))) fun j=>cond (Ah (wrap .i64 (f - 1)) h) (Au .i64 (g.drop (i+(((wrap .i64 (f - 1)).toNat)*1))) fun l=>cond (j != l) (cond (Ah f h) (Au .i64 (g.drop (i+(f.toNat*1))) fun m=>cond (Ah c a) (cond ((beq 1 1)&&((ble ((0+(c.toNat*1))+1) g.length)&&(!false))) (k1 (wrap .i64 (c+1)) i h (wrap .i64 (f+1)) (g.set (0+(c.toNat*1)) (.int .i64 m))) none) none) none) (k1 c i h (wrap .i64 (f+1)) g)) none) none) (cond ((decide (0<=c))&&((decide (c<=(a:Int)))&&((decide ((a:Int)<=(a:Int)))&&(decide ((a:Int)<=(a:Int)))))) (cond ((decide ((0:Int)<=(0:Int)))&&((decide (0<=c))&&((decide (c<=(a:Int)))&&(decide ((a:Int)<=(a:Int)))))) (r0 c.toNat (C8 g (0+(c.toNat*1)) (replicate (a - c.toNat) Aqc))) none) none))
def Bl(k0:Int->O R)(r0:Nat->LA->O R)(a:Nat)(b:LA):Nat->Int->Nat->Nat->Int->LA->O R
|0=>fun _ _ _ _ _=>none
|n+1=>Ew N k0 r0 a b (Bl k0 r0 a b n)
def Ex(N:Nat)(r0:Nat->LA->O R)(a:Nat)(b:LA)(k0:Int->O R)(q1:Int->Nat->Nat->Int->LA->O R)(d:Int):O R:=(cond (decide (d<(a:Int))) (cond (Ah d a) (Au .i64 (b.drop (0+(d.toNat*1))) fun o=>cond (Ah (wrap .i64 (d - 1)) a) (Au .i64 (b.drop (0+(((wrap .i64 (d - 1)).toNat)*1))) fun p=>cond (o==p) (cond ((decide (0<=d))&&((decide (d<=(a:Int)))&&((decide ((a:Int)<=(a:Int)))&&(decide ((a:Int)<=(a:Int)))))) (q1 d (0+(d.toNat*1)) (a - d.toNat) 1 b) none) (k0 (wrap .i64 (d+1)))) none) none) (r0 a b))
def Ba(r0:Nat->LA->O R)(a:Nat)(b:LA):Nat->Int->O R
|0=>fun _=>none
|n+1=>Ex N r0 a b (Ba r0 a b n) (Bl N (Ba r0 a b n) r0 a b N)
def G4(N:Nat)(r0:Nat->LA->O R)(q0:Int->O R)(a:Nat)(b:LA):O R:=(cond (decide ((a:Int)<2)) (r0 a b) (q0 1))
def Dw:=(Ak fun N a b r0=>G4 (R:=R) N r0 (Ba N r0 a b N) a b).1
def Oo(a b r0):(@Dw R N a b r0)=(G4 N r0 (Ba N r0 a b N) a b):=by rw[Dw,(Ak _).2]
def Pv:Hints:={H:=hK 2 (hS (hK 1 (hS (hP [0,3] (hK 1 (hS (hS (hK 1 (hS (hK 1 (hS (hK 1 (hS (hP [0,3,4,5] hL) hL)) hL)) hL)) hL) hL))) hL)) hL),nils:=[(2,1)],modes:=[(2,1)]}
def Pw(F:KF R):=L7 Tryz.f126 Pv [] [100000] N F
def Co(F:KF R):Nat->LA->O R:=fun q r=>F (.own 100000 0 q) [(100000,bQ 1 r)]
def EV(a:Nat)(b:LA)(K:St->O R):=fun c i h f g=>K ⟨[(0,.own 100000 0 a),(3,iv c),(4,.own 100000 i h),(5,iv f)],[(100000,bQ 1 g)]⟩
def Je(a:Nat)(b:LA)(K:St->O R):=fun d=>K ⟨[(0,.own 100000 0 a),(3,iv d)],[(100000,bQ 1 b)]⟩
def Xt Q0 (F:KF R) (a b):∀ n,EV a b (As (Pw N F (pz 1413547076) [Q0]) n)=(Bl N (Je a b Q0) (Co F) a b n):=Gu fun n e=>(Cg (Ew N (Je a b Q0) (Co F) a b) e:_)
def Xu(F:KF R)(a b):∀ n,Je a b (As (Pw N F (pz 1348) []) n)=(Ba N (Co F) a b n):=Gu fun n e=>(OF (Ex N (Co F) a b) e ((lW ..).trans ((Xt ..).trans (rA (Bl _ · _ _ _ _) e))):_)
def HL:=Ce N 126 [] Pv (fun
|[.own 100000 0 a],[(100000,⟨false,false,true,false,1,b,false,none⟩)]=>some fun _ k=>Dw N a b (Co k)
| _,_=>none) fun _ _=>by split;intro R F;exact(Cg (G4 N (Co F) · _ _) ((lW ..).trans (Xu ..)):_).trans (Oo ..).symm;trivial
def Zz(N:Nat)(a:Int)(r0:Bool->O R):O R:=(r0 (a != a))
def Vl:=(Ak (@Zz R)).1
def BW:@Vl R=@Zz R:=(Ak _).2
def iH:=Ce N 188 [] Eg (fun
|[.int .i64 a],[]=>some fun _ k=>Vl N a (Cm k)
| _,_=>none) fun _ _=>by split;intro R F;dsimp only;rw[BW];kernel_rfl;trivial
def E6(r0:Int->Bool->O R)(b:LA)(a:Nat)(d f:Bool)(c:Int)(k0:Int->Int->Int->O R)(i g h:Int):O R:=(cond (decide (g<h)) (cond (Ah (wrap .i64 (Int.fdiv (wrap .u64 (wrap .i64 (g+h))) (2 ^ 1))) a) (Au .i64 (b.drop (((wrap .i64 (Int.fdiv (wrap .u64 (wrap .i64 (g+h))) (2 ^ 1))).toNat)*1)) fun j=>Vi N j c fun l=>cond l (k0 i (wrap .i64 ((wrap .i64 (Int.fdiv (wrap .u64 (wrap .i64 (g+h))) (2 ^ 1)))+1)) h) (k0 i g (wrap .i64 (Int.fdiv (wrap .u64 (wrap .i64 (g+h))) (2 ^ 1))))) none) (cond ((decide (g<i))==true) (cond (Ah g a) (Au .i64 (b.drop (g.toNat*1)) fun m=>cond ((m==c)==false) (cond (Ah g a) (Au .i64 (b.drop (g.toNat*1)) fun o=>Vl N o fun p=>cond (p==true) (Vl N c fun q=>r0 g (cond true (cond false true (cond true q false)) false)) (r0 g false)) none) (r0 g true)) none) (r0 g false)))
def Bo(r0:Int->Bool->O R)(b:LA)(a:Nat)(d f:Bool)(c:Int):Nat->Int->Int->Int->O R
|0=>fun _ _ _=>none
|n+1=>E6 N r0 b a d f c (Bo r0 b a d f c n)
def D3(N:Nat)(r0:Int->Bool->O R)(q0:Int->Int->Int->O R)(b:LA)(a:Nat)(d f:Bool)(c:Int):O R:=(q0 (a:Int) 0 (a:Int))
def C5:=(Ak fun N b a d f c r0=>D3 (R:=R) N r0 (Bo N r0 b a d f c N) b a d f c).1
def J4(b a d f c r0):(@C5 R N b a d f c r0)=(D3 N r0 (Bo N r0 b a d f c N) b a d f c):=by rw[C5,(Ak _).2]
def Kz:Hints:={H:=hK 3 (hS (hS (hP [0,1,6,7,8] hL) hL) hL)}
def Lp:U6:=[gk N,iH N]
def Vm(F:KF R):=L7 Tryz.f132 Kz (Lp N) [] N F
def Dk(F:KF R):Int->Bool->O R:=fun r s=>F (.tup [iv r,.bool s]) []
def Vn(b:LA)(a:Nat)(d f:Bool)(c:Int)(K:St->O R):=fun i g h=>K ⟨[(0,.imm b a 1 d f),(1,iv c),(6,iv i),(7,iv g),(8,iv h)],[]⟩
def Rk(F:KF R)(b a d f c):∀ n,Vn b a d f c (As (Vm N F (pz 1360) []) n)=(Bo N (Dk F) b a d f c n):=Gu fun n e=>(Cg (E6 N (Dk F) b a d f c) e:_)
def Xi:=Ce N 132 (Lp N) Kz (fun
|[.imm b a 1 d f,.int .i64 c],[]=>some fun _ k=>C5 N b a d f c (Dk k)
| _,_=>none) fun _ _=>by split;intro R F;exact(Cg (D3 N (Dk F) · _ _ _ _ _) ((lW ..).trans (Rk ..)):_).trans (J4 ..).symm;trivial
def Xj(b:LA)(c:Bool)(d:Int)(r0:LA->Bool->O R):O R:=(Bv 1 b fun m n=>C5 N m n false c d fun a o=>cond o (Bv 3 (b.drop 1) fun e p=>cond (Ah a p) (cond (ble 3 ((e.drop (a.toNat*3)).length)) (cond ((beq 0 0)&&((beq (((e.drop (a.toNat*3)).take 3).length) 3)&&(beq 3 3))) (cond (ble 3 (((e.drop (a.toNat*3)).take 3).length)) (r0 (((e.drop (a.toNat*3)).take 3).take 3) c) none) none) none) none) (Bv 3 (b.drop 1) fun i q=>cond (Ah a q) (cond (ble 3 ((i.drop (a.toNat*3)).length)) (Bv 3 (b.drop 1) fun j r=>cond (Ah (wrap .i64 (a - 1)) r) (cond (ble 3 ((j.drop (((wrap .i64 (a - 1)).toNat)*3)).length)) (Zx N ((i.drop (a.toNat*3)).take 3) c ((j.drop (((wrap .i64 (a - 1)).toNat)*3)).take 3) c fun f=>cond ((beq 0 0)&&((beq f.length 3)&&(beq 3 3))) (cond (ble 3 f.length) (Bv 1 b fun s t=>cond (Ah a t) (Au .i64 (s.drop (a.toNat*1)) fun u=>Bv 1 b fun v w=>cond (Ah (wrap .i64 (a - 1)) w) (Au .i64 (v.drop (((wrap .i64 (a - 1)).toNat)*1)) fun x=>Ca N (wrap .i64 (u - x)) fun y=>pH N (f.take 3) false y false fun g af=>cond ((beq 0 0)&&((beq g.length 3)&&(beq 3 3))) (Bv 3 (b.drop 1) fun l z=>cond (Ah (wrap .i64 (a - 1)) z) (cond (ble 3 ((l.drop (((wrap .i64 (a - 1)).toNat)*3)).length)) (cond (ble 3 g.length) (Bv 1 b fun aa ab=>cond (Ah (wrap .i64 (a - 1)) ab) (Au .i64 (aa.drop (((wrap .i64 (a - 1)).toNat)*1)) fun ac=>Ca N (wrap .i64 (d - ac)) fun ad=>N5 N (g.take 3) false ad false fun ae=>T3 N ((l.drop (((wrap .i64 (a - 1)).toNat)*3)).take 3) c ae false fun h=>cond ((beq 0 0)&&((beq h.length 3)&&(beq 3 3))) (cond (ble 3 h.length) (r0 (h.take 3) false) none) none) none) none) none) none) none) none) none) none) none) none) none) none) none))
def Nh:=(Ak (@Xj R)).1
def Yz:@Nh R=@Xj R:=(Ak _).2
def GS:=Ce N 74 [Xi N,T_ N,Me N,zD N,BL N,TZ N] Kl (fun
|[.pagg b c,.int .i64 d],[]=>some fun _ k=>Nh N b c d (rE k)
| _,_=>none) fun _ _=>by split;intro R F;dsimp only;rw[Yz];kernel_rfl;trivial
def EW(c:Int)(d:LA)(e:Bool)(f:LA)(g:Bool)(a b:Int)(r0:Int->O R):O R:=(cond (ble 3 d.length) (Vh N (d.take 3) e fun h=>cond (decide (h>0)) (Au .i64 (f.drop 16) fun i=>r0 (E2 i (wrap .i64 (a - c)))) (r0 (Qm 0 (wrap .i64 (b - c))))) none)
def To:=(Ak (@EW R)).1
def GU:@To R=@EW R:=(Ak _).2
def iI(a b:Int)(F:KF R):Int->O R:=fun j=>F (iv j) [(100000,bN 0 [iv a]),(100001,bN 0 [iv b])]
def PC:=Ce N 68 [MP N] Eg (fun
|[.int .i64 c,.iptr d e,.iptr f g,.optr 100000 0,.optr 100001 0],[(100000,⟨false,false,false,false,0,[.int .i64 a],false,none⟩),(100001,⟨false,false,false,false,0,[.int .i64 b],false,none⟩)]=>some fun _ k=>To N c d e f g a b (iI a b k)
| _,_=>none) fun _ _=>by split;intro R F;dsimp only;rw[GU];kernel_rfl;trivial
end
end Gx
namespace Gx
open Go Go.Proofs
inductive Sl(α:Type)where
|nil
|of (l:List α) (t o:Bool)
def Sl.l{α:Type}:Sl α->List α
|.nil=>[]
|.of l _ _=>l
def Sl.av{α:Type}(sz:Nat)(e:α->LA):Sl α->AV
|.nil=>.nsl
|.of l t o=>.imm (l.flatMap e) l.length sz t o
def Xv(n:Int):LA:=[.int .i64 n]
def Ap(l:List Int):LA:=l.map fun n=>.int .i64 n
def Fk:∀ l:List Int,l.flatMap Xv=Ap l
|[]=>rfl
|a::r=>by rw[Aie,Fk r];rfl
def G5(l:List Int):(Ap l).length=l.length:=by simp[Ap]
structure SegD where
 width:Int
 price:Int
structure UnitD where
 name:List UInt8
 bus:Int
 min:Int
 max:Int
 segs:Sl SegD
 noLoad:Int
 rampUp:Int
 rampDown:Int
 startRamp:Int
 stopRamp:Int
 upTime:Int
 downTime:Int
 startTime:Int
 hotCost:Int
 coldCost:Int
 hotHours:Int
 reserve:Int
 reservePrice:Int
 away:Sl Int
 state:Int
 hours:Int
 output:Int
def SegD.av(s:SegD):LA:=[.int .i64 s.width,.int .i64 s.price]
def UnitD.av(u:UnitD):LA:=[.str u.name,.int .i64 u.bus,.int .i64 u.min,.int .i64 u.max,u.segs.av 2 SegD.av,.int .i64 u.noLoad,.int .i64 u.rampUp,.int .i64 u.rampDown,.int .i64 u.startRamp,.int .i64 u.stopRamp,.int .i64 u.upTime,.int .i64 u.downTime,.int .i64 u.startTime,.int .i64 u.hotCost,.int .i64 u.coldCost,.int .i64 u.hotHours,.int .i64 u.reserve,.int .i64 u.reservePrice,u.away.av 1 Xv,.int .i64 u.state,.int .i64 u.hours,.int .i64 u.output]
section
variable{R:Type}
def H4{α:Type}{sz:Nat}{e:α->LA}{s:Sl α}{r:LA}{f:LA->Nat->O R}:Bv sz (s.av sz e::r) f=f (s.l.flatMap e) s.l.length:=by cases s<;>simp[Bv,Sl.av,Sl.l,wJ]
def A7{α:Type}{e:α->LA}{sz:Nat}(k:∀ a,(e a).length=sz):∀(l:List α)(j:Nat)(h:j<l.length),drop (j*sz) (l.flatMap e)=e l[j]++(l.drop (j+1)).flatMap e
|a::r,0,_=>by simp
|a::r,j+1,h=>by
  have:=A7 k r j (by simpa using h)
  rw[Aie,Am1,k,show(j+1)*sz - sz=j*sz by rw[Ahv];omega,Aim (by rw[k,Ahv];omega)]
  simpa using this
def KJ{l:List Int}{i:Nat}(h:i<l.length){f:Int->O R}:Au .i64 (drop i (Ap l)) f=f l[i]:=by rw[Ap,Aip (by simpa using h)];simp[Av]
def J5{l:List Int}{i:Nat}(h:i<l.length){f:Int->O R}:Au .i64 (drop ((Int.toNat (i:Int))*1) (Ap l)) f=f l[i]:=by rw[Ahm,Ah1,KJ h]
def Eh{α:Type}{l:List α}{j:Nat}(h:j<l.length):l.drop j=l[j]::l.drop (j+1):=Aip h
def Gh{α:Type}{l:List α}{j:Nat}(h:l.length<=j):l.drop j=[]:=Aim h
def cK{α:Type}(K:α->O R)(c:Bool)(a b:α):cond c (K a) (K b)=K (cond c a b):=by cases c<;>rfl
def RE(u:UnitD):take 22 u.av=u.av:=rfl
def iJ(u:UnitD):ble 22 (List.length u.av)=true:=rfl
def u2{u:UnitD}{f:Int->O R}:Au .i64 (drop 2 u.av) f=f u.min:=Av
def u3{u:UnitD}{f:Int->O R}:Au .i64 (drop 3 u.av) f=f u.max:=Av
def u5{u:UnitD}{f:Int->O R}:Au .i64 (drop 5 u.av) f=f u.noLoad:=Av
def u6{u:UnitD}{f:Int->O R}:Au .i64 (drop 6 u.av) f=f u.rampUp:=Av
def u7{u:UnitD}{f:Int->O R}:Au .i64 (drop 7 u.av) f=f u.rampDown:=Av
def u8{u:UnitD}{f:Int->O R}:Au .i64 (drop 8 u.av) f=f u.startRamp:=Av
def u9{u:UnitD}{f:Int->O R}:Au .i64 (drop 9 u.av) f=f u.stopRamp:=Av
def Agr{u:UnitD}{f:Int->O R}:Au .i64 (drop 10 u.av) f=f u.upTime:=Av
def Ags{u:UnitD}{f:Int->O R}:Au .i64 (drop 11 u.av) f=f u.downTime:=Av
def Af9{u:UnitD}{f:Int->O R}:Au .i64 (drop 12 u.av) f=f u.startTime:=Av
def Agt{u:UnitD}{f:Int->O R}:Au .i64 (drop 13 u.av) f=f u.hotCost:=Av
def Agu{u:UnitD}{f:Int->O R}:Au .i64 (drop 14 u.av) f=f u.coldCost:=Av
def Agv{u:UnitD}{f:Int->O R}:Au .i64 (drop 15 u.av) f=f u.hotHours:=Av
def Ad3{u:UnitD}{f:Int->O R}:Au .i64 (drop 16 u.av) f=f u.reserve:=Av
def Afi{u:UnitD}{f:Int->O R}:Au .i64 (drop 17 u.av) f=f u.reservePrice:=Av
def Afj{u:UnitD}{f:Int->O R}:Au .i64 (drop 19 u.av) f=f u.state:=Av
def Agw{u:UnitD}{f:Int->O R}:Au .i64 (drop 20 u.av) f=f u.hours:=Av
def Agx{u:UnitD}{f:Int->O R}:Au .i64 (drop 21 u.av) f=f u.output:=Av
def u4{u:UnitD}{f:LA->Nat->O R}:Bv 2 (drop 4 u.av) f=f (u.segs.l.flatMap SegD.av) u.segs.l.length:=H4
def Agy{u:UnitD}{f:LA->Nat->O R}:Bv 1 (drop 18 u.av) f=f (Ap u.away.l) u.away.l.length:=by rw[<-Fk];exact H4
def G6(lo hi x:Int):Bool:=decide (lo<=x)&&decide (x<=hi)
def UO{N:Nat}{b c:Int}{e f:Bool}{K:Bool->O R}(l:List Int)(hs:l.length<=1000000000000):∀(m j fuel:Nat),j+m=l.length->m<fuel ->
  Hh N K b c (Ap l) l.length e f fuel (l.length:Int) (j:Int)=K ((l.drop j).all (G6 b c))
|0,j,fuel+1,k,_=>by
  rw[Hh];unfold Pp
  rw[K4 (by omega),cf,Gh (by omega),Ak8]
|m+1,j,fuel+1,k,v=>by
  rw[Hh];unfold Pp
  have h:j<l.length:=by omega
  rw[Jy h,ct,Ab h,ct,J5 h,wS (by omega),UO l hs m (j+1) fuel (by omega) (by omega),Eh h,Aji]
  simp only[cK];congr 1
  generalize (drop (j+1) l).all (G6 b c)=t
  rw[Akk];cases t<;>simp[G6]<;>omega
def Vo{N:Nat}{b c:Int}{e f:Bool}{K:Bool->O R}(l:List Int)(n:Nat)(hn:n=l.length)(hN:l.length<N)(hs:l.length<=1000000000000):Ct N b c (Ap l) n e f K=K (l.all (G6 b c)):=by
 subst hn
 rw[JT];unfold Yp
 have:=UO (N:=N) (b:=b) (c:=c) (e:=e) (f:=f) (K:=K) l hs l.length 0 N (by omega) hN
 simpa using this
def iK(u:UnitD):Bool:=G6 0 24 u.upTime&&(G6 0 24 u.downTime&&(G6 0 24 u.startTime&&(G6 0 24 u.hotHours&&((u.state==0||(u.state==1||u.state==2))&&(G6 1 48 u.hours&&(!(u.state==1)||decide (u.hours<=u.startTime)))))))
def YL{N:Nat}{u:UnitD}{b:Bool}{K:Bool->O R}:Yu N K b u.av=K (G6 1 48 u.hours&&(!(u.state==1)||decide (u.hours<=u.startTime))):=by
 unfold Yu
 simp only[Agw,Afj,Af9,cK];congr 1
 rw[Akk];simp[G6];omega
def YM{N n:Nat}{u:UnitD}{d e f g:Int}{b:Bool}{K:Bool->O R}:On N K d e f g b u.av (n+5) 0 =
  K (G6 0 24 d&&(G6 0 24 e&&(G6 0 24 f&&(G6 0 24 g&&((u.state==0||(u.state==1||u.state==2))&&(G6 1 48 u.hours&&(!(u.state==1)||decide (u.hours<=u.startTime)))))))):=by
 have a1:wrap .i64 ((0:Int)+1)=1:=by decide
 have a2:wrap .i64 ((1:Int)+1)=2:=by decide
 have a3:wrap .i64 ((2:Int)+1)=3:=by decide
 have a4:wrap .i64 ((3:Int)+1)=4:=by decide
 simp only[On,ER,YL,a1,a2,a3,a4,Afj]
 simp[Ah,cK];congr 1
 generalize (decide (u.hours<=u.startTime))=t
 generalize G6 1 48 u.hours=s
 by_cases k:u.state=0<;>by_cases v:u.state=1<;>by_cases A:u.state=2<;>first|omega|skip
 all_goals (rw[Akk];cases s<;>cases t<;>simp[G6,k,v,A]<;>omega)
def kZ{N:Nat}{u:UnitD}{b:Bool}{K:Bool->O R}(hN:64<=N):KE N u.av b K=K (iK u):=by
 rw[UL];unfold MS
 obtain⟨n,rfl⟩:∃ n,N=n+5:=⟨N - 5,by omega⟩
 simp only[Agr,Ags,Af9,Agv,YM];rfl
end
end Gx
namespace Gx
open Go Go.Proofs
section
variable{R:Type}
def Aec{N:Nat}{b c x:Int}{e f:Bool}{K:Bool->O R}(hN:64<=N):Ct N b c [.int .i64 x] 1 e f K=K (G6 b c x):=by
 have:=Vo (N:=N) (b:=b) (c:=c) (e:=e) (f:=f) (K:=K) [x] 1 rfl (by simp;omega) (by simp)
 simpa[Ap]using this
def Agz{N:Nat}{b c x y:Int}{e f:Bool}{K:Bool->O R}(hN:64<=N):Ct N b c [.int .i64 x,.int .i64 y] 2 e f K=K (G6 b c x&&G6 b c y):=by
 have:=Vo (N:=N) (b:=b) (c:=c) (e:=e) (f:=f) (K:=K) [x,y] 2 rfl (by simp;omega) (by simp)
 simpa[Ap]using this
def Ag0{N:Nat}{b c x y z w:Int}{e f:Bool}{K:Bool->O R}(hN:64<=N):Ct N b c [.int .i64 x,.int .i64 y,.int .i64 z,.int .i64 w] 4 e f K=K (G6 b c x&&(G6 b c y&&(G6 b c z&&G6 b c w))):=by
 have:=Vo (N:=N) (b:=b) (c:=c) (e:=e) (f:=f) (K:=K) [x,y,z,w] 4 rfl (by simp;omega) (by simp)
 simpa[Ap]using this
def Ag1{N:Nat}{b c x y z w v:Int}{e f:Bool}{K:Bool->O R}(hN:64<=N):Ct N b c [.int .i64 x,.int .i64 y,.int .i64 z,.int .i64 w,.int .i64 v] 5 e f K=K (G6 b c x&&(G6 b c y&&(G6 b c z&&(G6 b c w&&G6 b c v)))):=by
 have:=Vo (N:=N) (b:=b) (c:=c) (e:=e) (f:=f) (K:=K) [x,y,z,w,v] 5 rfl (by simp;omega) (by simp)
 simpa[Ap]using this
def Dh(p:Int):List SegD->Bool
|[]=>true
|s::r=>G6 1 1048576 s.width&&(G6 (-1048576) 1048576 s.price&&(decide (p<=s.price)&&Dh s.price r))
def K5:List SegD->Int
|[]=>0
|s::r=>s.width+K5 r
def ro(l:List SegD):Nat->Int
|0=>-1048576
|j+1=>((l[j]?).map (·.price)).getD 0
def iL{l:List SegD}{j:Nat}(h:j<l.length):ro l (j+1)=l[j].price:=by simp[ro,h]
def pL{l:List SegD}{j:Nat}(h:j<l.length):drop ((Int.toNat (j:Int))*2) (l.flatMap SegD.av)=(.int .i64 l[j].width)::(.int .i64 l[j].price)::(l.drop (j+1)).flatMap SegD.av:=by rw[Ahm,A7 (e:=SegD.av) (sz:=2) (fun _=>rfl) _ _ h];rfl
def pM{x y:Int}{f:Int->O R}:Au .i64 (setCells [Aqc,Aqc] 0 [.int .i64 x,.int .i64 y]) f=f x:=rfl
def pN{x y:Int}{f:Int->O R}:Au .i64 (drop 1 (setCells [Aqc,Aqc] 0 [.int .i64 x,.int .i64 y])) f=f y:=rfl
def vQ{N:Nat}{u:UnitD}{b:Bool}{K:Bool->O R}(hN:64<=N)(B:0<=u.min/\u.min<=1048576)(C:0<=u.max/\u.max<=1048576)(D:u.segs.l.length<=8):∀(m j fuel:Nat)(g:Int),j+m=u.segs.l.length->m<fuel->(0<=g/\g<=1048576*(j:Int)) ->
  B7 N K (u.segs.l.flatMap SegD.av) u.segs.l.length b u.av fuel g (u.segs.l.length:Int) (j:Int)=K (Dh (ro u.segs.l j) (u.segs.l.drop j)&&(g+K5 (u.segs.l.drop j)==u.max - u.min))
|0,j,fuel+1,g,G,_,_=>by
  rw[B7];unfold G3
  rw[K4 (by omega),cf,u3,u2,i64 (by omega),Gh (l:=u.segs.l) (by omega)]
  simp[Dh,K5]
| m+1,j,fuel+1,g,G,V,Y=>by
  rw[B7];unfold G3
  have h:j<u.segs.l.length:=by omega
  rw[Jy h,ct,Ab h,ct,pL h]
  have I:take 2 ((AV.int .i64 u.segs.l[j].width)::(AV.int .i64 u.segs.l[j].price)::(u.segs.l.drop (j+1)).flatMap SegD.av)=[.int .i64 u.segs.l[j].width,.int .i64 u.segs.l[j].price]:=rfl
  rw[I,show ble 2 (List.length ((AV.int .i64 u.segs.l[j].width)::(AV.int .i64 u.segs.l[j].price)::(u.segs.l.drop (j+1)).flatMap SegD.av))=true by simp,ct]
  rw[show((!b)||A4 [AV.int .i64 u.segs.l[j].width,.int .i64 u.segs.l[j].price])=true by cases b<;>rfl,ct]
  rw[show((beq (List.length [AV.int .i64 u.segs.l[j].width,.int .i64 u.segs.l[j].price]) 2)&&((ble 2 2)&&(!false)))=true from rfl,ct,pM,pN,Aec hN]
  simp only[Aec hN]
  rw[Eh h,Dh,K5]
  cases L:G6 1 1048576 u.segs.l[j].width with
  |false=>simp
  | true =>
   cases A:G6 (-1048576) 1048576 u.segs.l[j].price with
   |false=>simp
   | true =>
    simp only[G6,Aho,decide_eq_true_eq]at L A
    have step:=vQ (b:=b) (K:=K) hN B C D m (j+1) fuel (g+u.segs.l[j].width) (by omega) (by omega) (by omega)
    rw[iL h]at step
    have e1:wrap .i64 (g+u.segs.l[j].width)=g+u.segs.l[j].width:=i64 (by omega)
    have T:wrap .i64 ((j:Int)+1)=((j+1:Nat):Int):=wS (by omega)
    unfold Ht
    simp only[u4,pN,pM,e1,T,step]
    rcases j with _|j
    ·simp[ro,A.1,Int.add_assoc]
    ·have k:j<u.segs.l.length:=by omega
     rw[wP (by omega),Ab k,ct,pL k,yr,ct]
     rw[show ∀ r:LA,drop 1 ((AV.int .i64 u.segs.l[j].width)::(AV.int .i64 u.segs.l[j].price)::r)=(AV.int .i64 u.segs.l[j].price)::r from fun _=>rfl,Av,iL k]
     simp only[Akq,beq_self_eq_true,cK,Int.add_assoc,Al6]
     simp only[cond_true,cond_false]
     congr 1
     by_cases v:u.segs.l[j+1].price<u.segs.l[j].price
     ·simp[v,show ¬ u.segs.l[j].price<=u.segs.l[j+1].price by omega]
     ·simp[v,show u.segs.l[j].price<=u.segs.l[j+1].price by omega]
def iM(u:UnitD):Bool:=decide (u.segs.l.length<=8)&&(Dh (-1048576) u.segs.l&&(K5 u.segs.l==u.max - u.min))
def Aaw{N:Nat}{u:UnitD}{b:Bool}{K:Bool->O R}(hN:64<=N)(v:0<=u.min/\u.min<=1048576)(A:0<=u.max/\u.max<=1048576):Fj N u.av b K=K (iM u):=by
 rw[Tn];unfold Ky
 rw[u4]
 by_cases k:u.segs.l.length<=8
 ·rw[show decide ((u.segs.l.length:Int)>8)=false by simp;omega,cf,u4]
  have:=vQ (b:=b) (K:=K) hN v A k u.segs.l.length 0 N 0 (by omega) (by omega) (by omega)
  simpa[iM,k,ro]using this
 ·rw[show decide ((u.segs.l.length:Int)>8)=true by simp;omega,ct]
  simp[iM,k]
def EX(hi p:Int):List Int->Bool
|[]=>true
|x::r=>G6 0 hi x&&(decide (p<x)&&EX hi x r)
def rp(l:List Int):Nat->Int
|0=>-1
|j+1=>(l[j]?).getD 0
def iN{l:List Int}{j:Nat}(h:j<l.length):rp l (j+1)=l[j]:=by simp[rp,h]
def vR{N:Nat}{l:List Int}{e e':Bool}{f hi:Int}{K:Bool->O R}(hN:64<=N)(B:l.length<=1000000000000)(A:wrap .i64 (f - 1)=hi):∀(m j fuel:Nat),j+m=l.length->m<fuel ->
  E5 N K (Ap l) l.length e e' f fuel (l.length:Int) (j:Int)=K (EX hi (rp l j) (l.drop j))
|0,j,fuel+1,C,_=>by
  rw[E5];unfold Mn
  rw[K4 (by omega),cf,Gh (l:=l) (by omega),EX]
| m+1,j,fuel+1,C,D=>by
  rw[E5];unfold Mn
  have h:j<l.length:=by omega
  rw[Jy h,ct,Ab h,ct,J5 h,Aec hN,A,wS (by omega),vR hN B A m (j+1) fuel (by omega) (by omega),Eh h,EX,iN h]
  cases G:G6 0 hi l[j]with
  |false=>simp
  | true =>
   simp only[G6,Aho,decide_eq_true_eq]at G
   rcases j with _|j
   ·simp[rp,show(-1:Int)<l[0] by omega]
   ·have k:j<l.length:=by omega
    rw[wP (by omega),Ab k,ct,J5 k,yr,ct,iN k]
    by_cases v:l[j]<l[j+1]
    ·simp[v,show ¬ l[j+1]<=l[j] by omega]
    ·simp[v,show l[j+1]<=l[j] by omega]
def Aax{N:Nat}{l:List Int}{n:Nat}{e e':Bool}{f hi:Int}{K:Bool->O R}(hN:64<=N)(v:l.length<=1000000000000)(k:l.length<N)(hn:n=l.length)(A:wrap .i64 (f - 1)=hi):Mo N (Ap l) n e e' f K=K (EX hi (-1) l):=by
 subst hn
 rw[BV];unfold Sw
 have:=vR (N:=N) (e:=e) (e':=e') (K:=K) hN v A l.length 0 N (by omega) k
 simpa[rp]using this
def Aay(u:UnitD):Bool:=cond (u.state==2) (G6 u.min u.max u.output) (u.output==0)
def H5(u:UnitD)(hours:Int):Bool :=
 G6 1 24 hours&&(iK u&&(G6 0 1048576 u.min&&(G6 0 1048576 u.max&&(G6 0 1048576 u.rampUp&&(G6 0 1048576 u.rampDown&&(G6 0 1048576 u.reserve&&(decide (u.min<=u.max)&&(G6 u.min u.max u.startRamp&&(G6 u.min u.max u.stopRamp &&
 (G6 0 1048576 u.noLoad&&(G6 0 1048576 u.hotCost&&(G6 0 1048576 u.coldCost&&(G6 0 1048576 u.reservePrice&&(Aay u&&(iM u&&EX (hours - 1) (-1) u.away.l)))))))))))))))
def k8{N:Nat}{u:UnitD}{b:Bool}{k:Int}{K:Bool->O R}(hN:64<=N)(C:u.away.l.length<=1000000000000)(v:u.away.l.length<N):KI N u.av b k K=K (H5 u k):=by
 rw[UM];unfold MT
 rw[Aec hN]
 unfold H5
 cases D:G6 1 24 k with
|false=>simp
| true =>
  have G:1<=k/\k<=24:=by simpa[G6]using D
  rw[RE,iJ,ct,kZ hN]
  cases iK u with
  |false=>simp
  | true =>
   unfold Yv EU
   simp only[u2,u3,u6,u7,Ad3,Ag1 hN]
   cases A:G6 0 1048576 u.min with
   |false=>simp
   | true =>
    cases B:G6 0 1048576 u.max with
    |false=>simp
    |true =>
     unfold KH
     simp only[G6,Aho,decide_eq_true_eq]at A B
     simp only[u2,u3,u5,u8,u9,Agt,Agu,Afi,Afj,Agx,Agy,RE,iJ,Agz hN,Ag0 hN,Aec hN,ct,Aaw hN A B,Aax hN C v rfl (i64 (a:=k - 1) (by omega))]
     simp[cK];congr 1
     unfold Aay
     by_cases hs:u.state=2
     ·rw[Akk];simp[hs];grind
     ·rw[Akk];simp[hs];grind
def uJ{v n:Int}(hn:0<n):Int.tmod (Int.tmod v n+n) n=v%n:=by
 have k:0<=Int.tmod v n+n:=by
  have:=An1 v hn;omega
 rw[Amn k,Int.tmod_def,show v - n*v.tdiv n+n=v+n*(1 - v.tdiv n) by rw[Int.mul_sub];omega,Int.add_mul_emod_self_left]
def xO{v n:Int}(hn:0<n)(k:n<=4611686018427387904):wrap .i64 (Int.tmod v n+n)=Int.tmod v n+n:=by
 have A:=An1 v hn
 have B:=Amo v hn
 exact i64 (by omega)
def Aaz{N:Nat}{v n:Int}{K:Int->O R}(hn:0<n)(k:n<=4611686018427387904):Rf N v n K=K (v%n):=by
 rw[OV];unfold QS
 rw[xO hn k,uJ hn,show(n==0)=false by simp;omega,cf,cf]
def vS(v:Int){n:Int}(h:0<n):0<=v%n/\v%n<n:=⟨Int.emod_nonneg v (by omega),Int.emod_lt_of_pos v h⟩
def Gg(x y:Nat):Int:=if x<y then -1 else if y<x then 1 else 0
def V9(x:Nat):Gg x x=0:=by unfold Gg;simp
def EY{a b:Nat}(h:(An a).length<(An b).length):a<b:=Al3 fun k=>by have:=Bh k;omega
def eh{u w p q P:Nat}(k:u<P)(v:w<P)(h:p<q):u+P*p<w+P*q:=by
 have:P*(p+1)<=P*q:=Ah7 _ h
 rw[Ahs]at this
 omega
def mI{N:Nat}{x y:List Nat}{t u:Bool}{K:Int->O R}(A:Ai x)(B:Ai y)(hs:x.length<=1000000000000)(D:x.length=y.length):∀(i fuel:Nat),i<=x.length->i<fuel ->
  D8 N K (Ac x) x.length t (Ac y) y.length u fuel ((i:Int) - 1)=K (Gg (val (x.take i)) (val (y.take i)))
|0,fuel+1,_,_=>by
  rw[D8];unfold Km
  rw[show decide ((((0:Nat):Int) - 1)>=0)=false by simp,cf]
  simp[V9]
| i+1,fuel+1,hi,G=>by
  rw[D8];unfold Km
  rw[show(((i+1:Nat):Int) - 1)=(i:Int) by omega,show decide ((i:Int)>=0)=true by simp,ct,Ab (by omega),ct,HF (by omega),Ab (by omega),ct,HF (by omega),ct,HF (by omega),ct,HF (by omega),i64 (by omega),
   mI A B hs D i fuel (by omega) (by omega),Ax (by omega),Ax (by omega)]
  have k:=A6 (Bw A i)
  have v:=A6 (Bw B i)
  rw[Ah3,Aia (by omega)]at k v
  by_cases c1:x[i]<y[i]
  ·have:=eh k v c1
   rw[show decide (((x[i]:Nat):Int)<((y[i]:Nat):Int))=true by simp;exact c1,ct]
   unfold Gg;rw[if_pos this]
  ·by_cases C:y[i]<x[i]
   ·have:=eh v k C
    rw[show decide (((x[i]:Nat):Int)<((y[i]:Nat):Int))=false by simp;omega,cf,show decide (((x[i]:Nat):Int)>((y[i]:Nat):Int))=true by simp;exact C,ct]
    unfold Gg;rw[if_neg (by omega),if_pos this]
   ·have:x[i]=y[i]:=by omega
    rw[show decide (((x[i]:Nat):Int)<((y[i]:Nat):Int))=false by simp;omega,cf,show decide (((x[i]:Nat):Int)>((y[i]:Nat):Int))=false by simp;omega,cf,this]
    unfold Gg
    congr 1
    by_cases a1:val (x.take i)<val (y.take i)
    ·rw[if_pos a1,if_pos (by omega)]
    ·by_cases a2:val (y.take i)<val (x.take i)
     ·rw[if_neg a1,if_pos a2,if_neg (by omega),if_pos (by omega)]
     ·rw[if_neg a1,if_neg a2,if_neg (by omega),if_neg (by omega)]
def Oq{N:Nat}{a b:List Nat}{n m:Nat}{t o t' o':Bool}{K:Int->O R}(hn:n=a.length)(C:m=b.length)(v:Ai a)(A:Ai b)(k:fit (a.length+b.length) N):
  Dn N (Ac a) n t o (Ac b) m t' o' K=K (Gg (val a) (val b)):=by
 subst hn C
 have G:=k.1;have I:=k.2
 rw[X9];unfold O9
 dsimp only
 rw[Bj rfl v (k.le (by omega)),Bj rfl A (k.le (by omega))]
 have la:=(A9 v).2
 have lb:=(A9 A).2
 by_cases B:(An (val a)).length=(An (val b)).length
 ·rw[show((((An (val a)).length:Nat):Int) != (((An (val b)).length:Nat):Int))=false by simp;omega,cf,i64 (by omega),mI (Ad _) (Ad _) (by omega) B _ N (Ahl _) (by omega),Aic,B,Aic,Aj,Aj]
 ·rw[show((((An (val a)).length:Nat):Int) != (((An (val b)).length:Nat):Int))=true by simp;omega,ct]
  by_cases D:(An (val a)).length<(An (val b)).length
  ·have:=EY D
   rw[show decide ((((An (val a)).length:Nat):Int)<(((An (val b)).length:Nat):Int))=true by simp;omega,ct]
   unfold Gg;rw[if_pos this]
  ·have:=EY (show(An (val b)).length<(An (val a)).length by omega)
   rw[show decide ((((An (val a)).length:Nat):Int)<(((An (val b)).length:Nat):Int))=false by simp;omega,cf]
   unfold Gg;rw[if_neg (by omega),if_pos this]
def iO{N:Nat}{a:List Nat}{n:Nat}{t o:Bool}{K:Int->O R}(hn:n=a.length)(A:Ai a)(k:fit a.length N):Qx N (Ac a) n t o K=K (Gg (val a) 0):=by
 subst hn
 have B:=k.1;have C:=k.2
 rw[I_];unfold X7
 dsimp only
 rw[Bj rfl A k,wu (by omega)]
 by_cases v:val a=0
 ·rw[v,Dd,V9]
  cases N with
  |zero=>omega
  |succ N =>
   rw[M9];unfold Wt
   rw[i64 (by simp)];simp
 ·have D:(An (val a)).length≠0:=fun h=>v (Bb.1 h)
  rw[show((((An (val a)).length:Nat):Int) != (0:Int))=true by simp;exact fun h=>v (fv.1 h),ct]
  rw[show decide ((((An (val a)).length:Nat):Int)<(0:Int))=false by simp,cf]
  unfold Gg;rw[if_neg (by omega),if_pos (by omega)]
def UP:∀{S:List Nat}{d v:Nat}(h:d<S.length),val (S.set d v)+4294967296 ^ d*S[d]=val S+4294967296 ^ d*v
|x::r,0,v,_=>by simp[val];omega
|x::r,d+1,v,h=>by
  have k:=UP (S:=r) (d:=d) (v:=v) (by simpa using h)
  simp only[List.set_cons_succ,val,Alt,Ahw]
  have e1:∀ y,4294967296 ^ d*4294967296*y=4294967296*(4294967296 ^ d*y):=fun y=>by rw[Ahn (4294967296 ^ d),Ahq]
  rw[e1,e1]
  omega
def Ot(b:List Nat)(d:Nat):val (b.take (d+1))=val (b.take d)+4294967296 ^ d*b.getD d 0:=by
 by_cases h:d<b.length
 ·rw[Ax h,Ahr,Ahk h];rfl
 ·rw[Ahi (by omega),Ahi (by omega),Ahr,Air (by omega)];simp
def Lq(P s:Nat):P*(s%4294967296)+P*4294967296*(s/4294967296)=P*s:=by rw[Ahq,<-Ahs,Ako,Aix]
def xP(S:List Nat)(d:Nat):Prop:=∀ j (h:j<S.length),d<=j->S[j]=0
def Y0{S:List Nat}{d v:Nat}(h:xP S d):xP (S.set d v) (d+1):=fun j k A=>by
 rw[Ak9]
 rw[if_neg (by omega)]
 exact h j (by simpa using k) (by omega)
def Kg(n:Nat):xP (replicate n 0) 0:=fun j k _=>by simp
def Sz{S:List Nat}{d v:Nat}(h:xP S d)(k:d<S.length):val (S.set d v)=val S+4294967296 ^ d*v:=by
 have:=UP (v:=v) k
 rw[h d k (Ahl _)]at this;simpa using this
def Aga{a:Nat}(h:a<=1000000000000):wrap .i64 ((a:Int)+(1:Int))=((a+1:Nat):Int):=wS h
def Aed{x:Nat}{m:List Nat}(h:x<m.length):((beq 1 1)&&((ble ((0+(x*1))+1) (List.length (Ac m)))&&(!false)))=true:=by rw[Bg];simp;omega
def Acc{x v:Nat}{m:List Nat}:List.set (Ac m) (0+(x*1)) (.int .u32 (v:Int))=Ac (m.set x v):=by rw[Ah1,Ah0,SQ]
def iP{N:Nat}{a b:List Nat}{t u:Bool}(L:Ai a)(T:Ai b)(A:fit (a.length+1) N)(B:b.length<=a.length):∀(m d fuel:Nat)(S:List Nat)(c:Nat),d+m=a.length->m<fuel->Ai S->S.length=a.length+1->xP S d->c<=1 ->
  val S+4294967296 ^ d*c=val (a.take d)+val (b.take d) ->
  ∃ S',Ai S'/\S'.length=a.length+1/\val S'=val a+val b/\∀ K:Nat->LA->O R,Rg N K (Ac a) a.length t (Ac b) b.length u fuel (a.length+1) (c:Int) (a.length:Int) (d:Int) (Ac S)=K (An (val a+val b)).length (Ac S')
| 0,d,fuel+1,S,c,hd,_,hS,C,D,hc,hv=>by
  have h1:=A.1;have h2:=A.2
  have V:d=a.length:=by omega
  subst V
  have G:val (S.set a.length c)=val a+val b:=by
   rw[Sz D (by omega),hv,Aic,Ahi B]
  have I:=B4 hS (show c<4294967296 by omega) a.length
  refine⟨S.set a.length c,I,by simpa using C,G,fun K=>?_⟩
  rw[Rg];unfold Xd
  rw[K4 (Ahl _),cf,Ab (by omega),ct,Aed (by omega),ct,vP (by omega),Acc,AX (by simp;omega) I (by simp only[List.length_set,C];exact A),G]
| m+1,d,fuel+1,S,c,hd,hfu,hS,C,D,hc,hv=>by
  have h1:=A.1;have h2:=A.2
  have k:d<a.length:=by omega
  have ad:=Az L k
  have step:∀ s:Nat,s<8589934592->s=c+a[d]+b.getD d 0->val (S.set d (s%4294967296))+4294967296 ^ (d+1)*(s/4294967296)=val (a.take (d+1))+val (b.take (d+1)):=by
   intro s _ hs
   rw[Sz D (by omega),Ax k,Ot b d,Ahw]
   have e:=Lq (4294967296 ^ d) s
   have e2:4294967296 ^ d*s=4294967296 ^ d*c+4294967296 ^ d*a[d]+4294967296 ^ d*b.getD d 0:=by rw[hs,Ahs,Ahs]
   omega
  by_cases v:d<b.length
  ·have bd:=Az T v
   have Y:b.getD d 0=b[d]:=by rw[Ahr,Ahk v];rfl
   obtain⟨S',q1,q2,q3,q4⟩:=iP (t:=t) (u:=u) L T A B m (d+1) fuel (S.set d ((c+a[d]+b[d])%4294967296)) ((c+a[d]+b[d])/4294967296) (by omega) (by omega) (B4 hS (by omega) d) (by simpa using C) (Y0 D) (by omega) (step _ (by omega) (by rw[Y]))
   refine⟨S',q1,q2,q3,fun K=>?_⟩
   rw[Rg];unfold Xd
   rw[Jy k,ct,Ab k,ct,HF k,Jy v,ct,Ab v,ct,HF v,Ab (by omega),ct,lU (by omega),ct,Hb (by omega),Hb (by omega),AQ,Hb (by omega),AQ,Hb (by omega),XC,P',JD,wS (by omega)]
   exact q4 K
  ·have Y:b.getD d 0=0:=by rw[Ahr,Air (by omega)];rfl
   obtain⟨S',q1,q2,q3,q4⟩:=iP (t:=t) (u:=u) L T A B m (d+1) fuel (S.set d ((c+a[d])%4294967296)) ((c+a[d])/4294967296) (by omega) (by omega) (B4 hS (by omega) d) (by simpa using C) (Y0 D) (by omega) (step _ (by omega) (by rw[Y];rfl))
   refine⟨S',q1,q2,q3,fun K=>?_⟩
   rw[Rg];unfold Xd
   rw[Jy k,ct,Ab k,ct,HF k,K4 (by omega),cf,Ab (by omega),ct,lU (by omega),ct,Hb (by omega),AQ,Hb (by omega),XC,P',JD,wS (by omega)]
   exact q4 K
def YN{N:Nat}{a b:List Nat}{t u:Bool}(A:Ai a)(B:Ai b)(k:fit (a.length+1) N)(v:b.length<=a.length):
  ∃ S',Ai S'/\val S'=val a+val b/\∀ K:Nat->LA->O R,BM N K (Ac a) a.length t (Ac b) b.length u=K (An (val a+val b)).length (Ac S'):=by
 have I:=k.1;have L:=k.2
 obtain⟨S',C,_,D,G⟩:=iP (R:=R) (t:=t) (u:=u) A B k v a.length 0 N (replicate (a.length+1) 0) 0 (by omega) (by omega) (Bz _) (by simp) (Kg _) (by omega) (by rw[Dm];simp[val])
 refine⟨S',C,D,fun K=>?_⟩
 unfold BM QY
 rw[Aga (by omega),yG (by omega),ct,Ahm,Ci]
 exact G K
def zE{N:Nat}{a b:List Nat}{n m:Nat}{t o t' o':Bool}(hn:n=a.length)(G:m=b.length)(A:Ai a)(B:Ai b)(k:fit (a.length+b.length+1) N):
  ∃ S',Ai S'/\val S'=val a+val b/\∀ K:Nat->LA->O R,gh N (Ac a) n t o (Ac b) m t' o' K=K (An (val a+val b)).length (Ac S'):=by
 subst hn G
 have la:=(A9 A).2
 have lb:=(A9 B).2
 by_cases I:(An (val a)).length<(An (val b)).length
 ·obtain⟨S',C,v,D⟩:=YN (R:=R) (N:=N) (a:=An (val b)) (b:=An (val a)) (t:=o') (u:=o) (Ad _) (Ad _) (k.le (by omega)) (by omega)
  rw[Aj,Aj,Ako]at v
  refine⟨S',C,v,fun K=>?_⟩
  rw[QZ];unfold TX
  rw[Bj rfl A (k.le (by omega)),Bj rfl B (k.le (by omega)),Jy I,ct,D,Aj,Aj,Ako (val b)]
 ·obtain⟨S',C,v,D⟩:=YN (R:=R) (N:=N) (a:=An (val a)) (b:=An (val b)) (t:=o) (u:=o') (Ad _) (Ad _) (k.le (by omega)) (by omega)
  rw[Aj,Aj]at v
  refine⟨S',C,v,fun K=>?_⟩
  rw[QZ];unfold TX
  rw[Bj rfl A (k.le (by omega)),Bj rfl B (k.le (by omega)),K4 (by omega),cf,D,Aj,Aj]
def MU{x y:Nat}(k:x<4294967296)(v:y<=4294967296):∃ d c:Nat,d<4294967296/\c<=1/\x+4294967296*c=d+y/\wrap .u32 (wrap .u64 ((x:Int) - (y:Int)))=(d:Int)/\Int.fdiv (wrap .u64 ((x:Int) - (y:Int))) (2 ^ 63)=(c:Int):=by
 by_cases h:y<=x
 ·refine⟨x - y,0,by omega,by omega,by omega,?_,?_⟩
  ·rw[XB (by omega) h,vP (by omega)]
  ·rw[XB (by omega) h,Aeb,Aiw (by omega)]
 ·refine⟨x+4294967296 - y,1,by omega,by omega,by omega,?_,?_⟩
  ·rw[yq (by omega) (by omega),P'];congr 1;omega
  ·rw[yq (by omega) (by omega),Aeb];congr 1;omega
def Aa0{x c w:Nat}(k:x<4294967296)(v:c<=1)(A:w<4294967296):wrap .u64 ((wrap .u64 ((x:Int) - (c:Int))) - (w:Int))=wrap .u64 ((x:Int) - ((c+w:Nat):Int)):=by rw[QA,QA,QA];omega
def iQ{N:Nat}{a b:List Nat}{t u:Bool}(T:Ai a)(V:Ai b)(C:fit a.length N)(A:b.length<=a.length)(D:val b<=val a):∀(m d fuel:Nat)(S:List Nat)(c:Nat),d+m=a.length->m<fuel->Ai S->S.length=a.length->xP S d->c<=1 ->
  val S+val (b.take d)=val (a.take d)+4294967296 ^ d*c ->
  ∃ S',Ai S'/\val S'=val a - val b/\∀ K:Nat->Bool->LA->O R,Oj N K (Ac b) b.length t a.length (Ac a) u fuel (c:Int) (a.length:Int) (d:Int) (Ac S)=K (An (val a - val b)).length true (Ac S')
| 0,d,fuel+1,S,c,hd,_,hS,B,L,hc,hv=>by
  have Y:d=a.length:=by omega
  subst Y
  rw[Aic,Ahi A]at hv
  have hlt:=A6 hS
  rw[B]at hlt
  have hc0:c=0:=by
   rcases Amh 0 c with h|h
   ·exfalso
    have:c=1:=by omega
    subst this
    omega
   ·omega
  subst hc0
  have G:val S=val a - val b:=by omega
  refine⟨S,hS,G,fun K=>?_⟩
  rw[Oj];unfold Xb
  rw[K4 (Ahl _),cf,AX B.symm hS (by rw[B];exact C),G]
| m+1,d,fuel+1,S,c,hd,hfu,hS,B,L,hc,hv=>by
  have h1:=C.1;have h2:=C.2
  have k:d<a.length:=by omega
  have ad:=Az T k
  have step:∀ y g c':Nat,y=c+b.getD d 0->a[d]+4294967296*c'=g+y->val (S.set d g)+val (b.take (d+1))=val (a.take (d+1))+4294967296 ^ (d+1)*c':=by
   intro y g c' hy I
   rw[Sz L (by omega),Ax k,Ot b d,Ahw,Ahq]
   have e:4294967296 ^ d*(a[d]+4294967296*c')=4294967296 ^ d*(g+(c+b.getD d 0)):=by rw[I,hy]
   rw[Ahs,Ahs,Ahs]at e
   omega
  by_cases v:d<b.length
  ·have bd:=Az V v
   have I:b.getD d 0=b[d]:=by rw[Ahr,Ahk v];rfl
   obtain⟨g,c',g1,g2,g3,g4,g5⟩:=MU ad (show c+b[d]<=4294967296 by omega)
   obtain⟨S',q1,q3,q4⟩:=iQ (t:=t) (u:=u) T V C A D m (d+1) fuel (S.set d g) c' (by omega) (by omega) (B4 hS g1 d) (by simpa using B) (Y0 L) g2 (step _ _ _ (by rw[I]) g3)
   refine⟨S',q1,q3,fun K=>?_⟩
   rw[Oj];unfold Xb
   rw[Jy k,ct,Ab k,ct,HF k,Jy v,ct,Ab v,ct,HF v,ct,lU (by omega),ct,Hb (show a[d]<18446744073709551616 by omega),Hb (show b[d]<18446744073709551616 by omega),Aa0 ad hc bd,g4,g5,JD,wS (by omega)]
   exact q4 K
  ·have I:b.getD d 0=0:=by rw[Ahr,Air (by omega)];rfl
   obtain⟨g,c',g1,g2,g3,g4,g5⟩:=MU ad (show c<=4294967296 by omega)
   obtain⟨S',q1,q3,q4⟩:=iQ (t:=t) (u:=u) T V C A D m (d+1) fuel (S.set d g) c' (by omega) (by omega) (B4 hS g1 d) (by simpa using B) (Y0 L) g2 (step _ _ _ (by rw[I];rfl) g3)
   refine⟨S',q1,q3,fun K=>?_⟩
   rw[Oj];unfold Xb
   rw[Jy k,ct,Ab k,ct,HF k,K4 (by omega),cf,ct,lU (by omega),ct,Hb (show a[d]<18446744073709551616 by omega),g4,g5,JD,wS (by omega)]
   exact q4 K
def iR{N:Nat}{a b:List Nat}{n m:Nat}{t o t' o':Bool}(hn:n=a.length)(G:m=b.length)(B:Ai a)(C:Ai b)(k:fit (a.length+b.length) N)(v:val b<=val a):
  ∃ S',Ai S'/\val S'=val a - val b/\∀ K:Nat->Bool->LA->O R,JU N (Ac a) n t o (Ac b) m t' o' K=K (An (val a - val b)).length true (Ac S'):=by
 subst hn G
 have T:=k.1;have V:=k.2
 have la:=(A9 B).2
 have lb:=(A9 C).2
 have A:=Bh v
 obtain⟨S',I,D,L⟩:=iQ (R:=R) (N:=N) (a:=An (val a)) (b:=An (val b)) (t:=o') (u:=o) (Ad _) (Ad _) (k.le (by omega)) A (by rw[Aj,Aj];exact v) (An (val a)).length 0 N (replicate (An (val a)).length 0) 0 (by omega) (by omega) (Bz _) (by simp) (Kg _) (by omega) (by rw[Dm];simp[val])
 rw[Aj,Aj]at D
 refine⟨S',I,D,fun K=>?_⟩
 rw[QU];unfold TV
 dsimp only
 rw[Bj rfl B (k.le (by omega)),Bj rfl C (k.le (by omega)),Oq rfl rfl (Ad _) (Ad _) (k.le (by omega)),Aj,Aj]
 have:decide (Gg (val a) (val b)<0)=false:=by unfold Gg;split<;>(try split)<;>simp<;>omega
 rw[this,cf,yG (by omega),ct,Ci]
 have:=L K
 rw[Aj,Aj]at this
 exact this
def zF{N:Nat}{a b:List Nat}{n m:Nat}{t o t' o':Bool}{K:Nat->Bool->LA->O R}(hn:n=a.length)(C:m=b.length)(A:Ai a)(B:Ai b)(k:fit (a.length+b.length) N)(v:val a<val b):
  JU N (Ac a) n t o (Ac b) m t' o' K=K 0 false []:=by
 subst hn C
 have la:=(A9 A).2
 have lb:=(A9 B).2
 rw[QU];unfold TV
 dsimp only
 rw[Bj rfl A (k.le (by omega)),Bj rfl B (k.le (by omega)),Oq rfl rfl (Ad _) (Ad _) (k.le (by omega)),Aj,Aj]
 have:decide (Gg (val a) (val b)<0)=true:=by unfold Gg;rw[if_pos v];rfl
 rw[this,ct]
def k_{n:Nat}(h:n≠0):((n:Int)==(0:Int))=false:=by rw[beq_eq_false_iff_ne];omega
def Agb{n:Nat}(h:n=0):((n:Int)==(0:Int))=true:=by subst h;rfl
def uK:∀{S:List Nat}{j:Nat}(h:j<S.length),4294967296 ^ j*S[j]<=val S
|x::r,0,_=>by simp[val]
|x::r,j+1,h=>by
  have:=uK (S:=r) (j:=j) (by simpa using h)
  simp only[Alt,val,Ahw]
  rw[Ahn (4294967296 ^ j),Ahq]
  omega
def zG{S:List Nat}{k:Nat}(h:val S<4294967296 ^ k):xP S k:=fun j A B=>by
 have C:=uK A
 have D:4294967296 ^ k<=4294967296 ^ j:=Aih (by omega) B
 rcases Aib S[j]with v|v
 ·exact v
 ·have:=Alq (4294967296 ^ j) v
  omega
def rq{p q y s:Nat}(k:p<4294967296)(hq:q<4294967296)(v:y<4294967296)(hs:s<4294967296):p+(q*y+s)<18446744073709551616:=by
 have:q*y<=4294967295*4294967295:=Ajh (by omega) (by omega)
 omega
def zH{N:Nat}{x y:List Nat}{c d:Bool}{f q J:Nat}(V:Ai y)(hq:q<4294967296)(hf:f<x.length)(hs:x.length+y.length<=1000000000000):∀(m l fuel:Nat)(S:List Nat)(p:Nat)(v:Nat),l+m=y.length->m<fuel->Ai S->S.length=x.length+y.length->xP S (f+y.length)->p<4294967296 ->
  val S+4294967296 ^ (f+l)*p=v+4294967296 ^ f*(q*val (y.take l)) ->
  ∃ S',Ai S'/\S'.length=x.length+y.length/\val S'=v+4294967296 ^ f*(q*val y)/\∀(B:Nat->Int->Int->LA->O R)(K:Nat->LA->O R),Qy N B K (Ac y) y.length d (x.length+y.length) (f:Int) (q:Int) (Ac x) x.length c (J:Int) fuel (p:Int) (y.length:Int) (l:Int) (Ac S)=B (x.length+y.length) J ((f+1:Nat):Int) (Ac S')
|0,l,fuel+1,S,p,v,hl,_,hS,k,G,D,I=>by
  have L:l=y.length:=by omega
  subst L
  rw[Aic]at I
  refine⟨S.set (f+y.length) p,B4 hS D _,by simpa using k,by rw[Sz G (by omega),I],fun B K=>?_⟩
  rw[Qy];unfold DL
  rw[K4 (Ahl _),cf,wA (by omega),Ab (by omega),ct,lU (by omega),ct,vP D,JD,wS (by omega)]
| m+1,l,fuel+1,S,p,v,hl,hfu,hS,k,G,D,I=>by
  have A:l<y.length:=by omega
  have yl:=Az V A
  have hi:f+l<S.length:=by omega
  have sl:=Az hS hi
  have hw:=rq D hq yl sl
  have T:q*y[l]<18446744073709551616:=by omega
  generalize C:p+(q*y[l]+S[f+l])=s at *
  have Y:=UP (v:=s%4294967296) hi
  have key:val (S.set (f+l) (s%4294967296))+4294967296 ^ (f+(l+1))*(s/4294967296)=v+4294967296 ^ f*(q*val (y.take (l+1))):=by
   rw[Ax A,<-Ai1 f l 1,Ahw]
   have e:=Lq (4294967296 ^ (f+l)) s
   have e2:4294967296 ^ (f+l)*s=4294967296 ^ (f+l)*p+(4294967296 ^ (f+l)*(q*y[l])+4294967296 ^ (f+l)*S[f+l]):=by rw[<-C,Ahs,Ahs]
   have e3:4294967296 ^ f*(q*(val (y.take l)+4294967296 ^ l*y[l]))=4294967296 ^ f*(q*val (y.take l))+4294967296 ^ (f+l)*(q*y[l]):=by
    rw[Ahs,Ahs,Ais]
    congr 1
    rw[Ahq];congr 1
    rw[<-Ahq,<-Ahq,Ahn q]
   omega
  obtain⟨S',q1,q2,q3,q4⟩:=zH (N:=N) (x:=x) (c:=c) (d:=d) (J:=J) V hq hf hs m (l+1) fuel (S.set (f+l) (s%4294967296)) (s/4294967296) v (by omega) (by omega) (B4 hS (by omega) _) (by simpa using k) (fun j hj hk=>by
   rw[Ak9,if_neg (by omega)];exact G j (by simpa using hj) hk) (by omega) key
  refine⟨S',q1,q2,q3,fun B K=>?_⟩
  rw[Qy];unfold DL
  rw[Jy A,ct,Ab A,ct,HF A,wA (by omega),Ab (by omega),ct,TC hi,ct,lU hi,ct,Hb (show q<18446744073709551616 by omega),Hb (show y[l]<18446744073709551616 by omega),Hb (show S[f+l]<18446744073709551616 by omega),gA,Hb T,AQ,Hb (by omega),AQ,C,Hb hw,XC,P',JD,wS (by omega)]
  exact q4 B K
def pO{N:Nat}{x y:List Nat}{c d:Bool}(G:Ai x)(I:Ai y)(v:fit (x.length+y.length) N):∀(m f fuel:Nat)(S:List Nat),f+m=x.length->m<fuel->Ai S->S.length=x.length+y.length ->
  val S=val (x.take f)*val y ->
  ∃ S',Ai S'/\val S'=val x*val y/\∀ K:Nat->LA->O R,Mf N K (Ac y) y.length d (Ac x) x.length c fuel (x.length+y.length) (x.length:Int) (f:Int) (Ac S)=K (An (val x*val y)).length (Ac S')
|0,f,fuel+1,S,hf,_,hS,A,D=>by
  have L:f=x.length:=by omega
  subst L
  rw[Aic]at D
  refine⟨S,hS,D,fun K=>?_⟩
  rw[Mf];unfold Wv
  rw[K4 (Ahl _),cf,AX A.symm hS (by rw[A];exact v),D]
| m+1,f,fuel+1,S,hf,hfu,hS,A,D=>by
  have h1:=v.1;have h2:=v.2
  have k:f<x.length:=by omega
  have xf:=Az G k
  have b1:=A6 (Bw G f)
  rw[Ah3,Aia (by omega)]at b1
  have b2:=A6 I
  have C:val S<4294967296 ^ (f+y.length):=by
   rw[D,Ais];exact Ait b1 b2
  have B:val (x.take (f+1))*val y=val S+4294967296 ^ f*(x[f]*val y):=by
   rw[Ax k,Ahv,D,Ahq]
  by_cases T:x[f]=0
  ·obtain⟨S',V,Y,q3⟩:=pO (c:=c) (d:=d) G I v m (f+1) fuel S (by omega) (by omega) hS A (by rw[B,T];simp)
   refine⟨S',V,Y,fun K=>?_⟩
   rw[Mf];unfold Wv
   rw[Jy k,ct,Ab k,ct,HF k,show(((x[f]:Nat):Int)==0)=true by simp[T],ct,wS (by omega)]
   exact q3 K
  ·obtain⟨S1,p1,p2,p3,p4⟩:=zH (R:=R) (N:=N) (x:=x) (y:=y) (c:=c) (d:=d) (f:=f) (q:=x[f]) (J:=x.length) I xf k (by omega) y.length 0 N S 0 (val S) (by omega) (by omega) hS A (zG C) (by omega) (by simp[val])
   obtain⟨S',V,Y,q3⟩:=pO (c:=c) (d:=d) G I v m (f+1) fuel S1 (by omega) (by omega) p1 p2 (by rw[p3,B])
   refine⟨S',V,Y,fun K=>?_⟩
   rw[Mf];unfold Wv
   rw[Jy k,ct,Ab k,ct,HF k,show(((x[f]:Nat):Int)==0)=false by simp;exact T,cf]
   have:=p4 (Mf N K (Ac y) y.length d (Ac x) x.length c fuel) K
   simp only[Aj2]at this
   dsimp only
   rw[this]
   exact q3 K
def KK{N:Nat}{a b:List Nat}{n m:Nat}{t o t' o':Bool}(hn:n=a.length)(G:m=b.length)(B:Ai a)(C:Ai b)(k:fit (a.length+b.length) N):
  ∃ S',Ai S'/\val S'=val a*val b/\∀ K:Nat->LA->O R,DM N (Ac a) n t o (Ac b) m t' o' K=K (An (val a*val b)).length (Ac S'):=by
 subst hn G
 have T:=k.1;have V:=k.2
 have la:=(A9 B).2
 have lb:=(A9 C).2
 by_cases v:val a=0
 ·refine⟨[],Qu,by rw[v];simp[val],fun K=>?_⟩
  rw[DN];unfold MI
  dsimp only
  rw[Bj rfl B (k.le (by omega)),Bj rfl C (k.le (by omega)),v,Ami,Dd];rfl
 ·by_cases A:val b=0
  ·refine⟨[],Qu,by rw[A];simp[val],fun K=>?_⟩
   rw[DN];unfold MI
   dsimp only
   rw[Bj rfl B (k.le (by omega)),Bj rfl C (k.le (by omega)),A,Nat.mul_zero,Dd]
   cases ((((An (val a)).length:Nat):Int)==0)<;>rfl
  ·obtain⟨S',I,D,L⟩:=pO (R:=R) (N:=N) (x:=An (val a)) (y:=An (val b)) (c:=o) (d:=o') (Ad _) (Ad _) (k.le (by omega)) (An (val a)).length 0 N (replicate ((An (val a)).length+(An (val b)).length) 0) (by omega) (by omega) (Bz _) (by simp) (by rw[Dm];simp[val])
   rw[Aj,Aj]at D
   refine⟨S',I,D,fun K=>?_⟩
   rw[DN];unfold MI
   dsimp only
   have n1:(An (val a)).length≠0:=fun h=>v (Bb.1 h)
   have n2:(An (val b)).length≠0:=fun h=>A (Bb.1 h)
   rw[Bj rfl B (k.le (by omega)),Bj rfl C (k.le (by omega)),k_ n1,show((false:Bool)==false)=true by rfl,ct,Afh,k_ n2,cf]
   unfold MH QE
   rw[wA (by omega),yG (by omega),ct,Ahm,Ci]
   have:=L K
   rw[Aj,Aj]at this
   exact this
def UQ{v:Nat}(h:(An v).length<=2):v<18446744073709551616:=by
 have:=A6 (Ad v)
 rw[Aj]at this
 have k:4294967296 ^ (An v).length<=4294967296 ^ 2:=Aih (by omega) h
 omega
def Vp{v:Nat}(h:v<18446744073709551616):(An v).length<=2:=Ch (by simpa using h)
def BX{N:Nat}{l:List Nat}{n:Nat}{t o:Bool}{K:Int->O R}(hn:n=l.length)(k:Ai l)(v:l.length<=2)(hN:4<=N):O6 N (Ac l) n t o K=K (val l:Int):=by
 subst hn
 obtain⟨M,rfl⟩:∃ M,N=M+4:=⟨N - 4,by omega⟩
 rw[a_];unfold SU
 match l,k,v with
|[],_,_ =>
  rw[Hd];unfold Ia
  simp[val]
|[x],k,_ =>
  have A:=(Cr.1 k).1
  rw[Hd];unfold Ia
  simp only[Ah8,Ajo,Int.toNat_zero,Ami,Aid,V6,Av]
  rw[show decide ((0:Int)<((0+1:Nat):Int))=true by decide,ct,show Ah 0 (0+1)=true by decide,ct,show wrap .i64 ((32:Int)*0)=0 by decide,show decide ((0:Int)<0)=false by decide,cf]
  rw[Hd];unfold Ia
  rw[show wrap .i64 ((0:Int)+1)=1 by decide,show decide ((1:Int)<((0+1:Nat):Int))=false by decide,cf]
  have e:wrap .u64 ((wrap .u64 (x:Int))*2 ^ (min (Int.toNat 0) 64))=(x:Int):=by rw[Hb (by omega)];simp;exact Hb (by omega)
  rw[e,show(0:Int)=((0:Nat):Int) by rfl,ta (by omega) (by omega)]
  simp[val]
| [x,y],k,_ =>
  have A:=(Cr.1 k).1
  have C:=(Cr.1 (Cr.1 k).2).1
  rw[Hd];unfold Ia
  simp only[Ah8,Ajo,Int.toNat_zero,Ami,Aid,V6,Av]
  rw[show decide ((0:Int)<((0+1+1:Nat):Int))=true by decide,ct,show Ah 0 (0+1+1)=true by decide,ct,show wrap .i64 ((32:Int)*0)=0 by decide,show decide ((0:Int)<0)=false by decide,cf]
  rw[Hd];unfold Ia
  rw[show wrap .i64 ((0:Int)+1)=1 by decide,show decide ((1:Int)<((0+1+1:Nat):Int))=true by decide,ct,show Ah 1 (0+1+1)=true by decide,ct,show wrap .i64 ((32:Int)*1)=32 by decide,show decide ((32:Int)<0)=false by decide]
  simp only[show Int.toNat 1*1=1 by rfl,Aiu,Aid,Av,cf]
  rw[Hd];unfold Ia
  rw[show wrap .i64 ((1:Int)+1)=2 by decide,show decide ((2:Int)<((0+1+1:Nat):Int))=false by decide,cf]
  have e:wrap .u64 ((wrap .u64 (x:Int))*2 ^ (min (Int.toNat 0) 64))=(x:Int):=by rw[Hb (by omega)];simp;exact Hb (by omega)
  have B:wrap .u64 ((wrap .u64 (y:Int))*2 ^ (min (Int.toNat 32) 64))=((y*2 ^ 32:Nat):Int):=by
   rw[Hb (by omega),show(2:Int) ^ (min (Int.toNat 32) 64)=((2 ^ 32:Nat):Int) by rfl,gA,Hb (by omega)]
  rw[e,B,show(0:Int)=((0:Nat):Int) by rfl,ta (by omega) (by omega),ta (by simp;omega) (by omega),Nat.zero_or,Aoo,XD (by omega)]
  congr 1;simp only[val];omega
def Jf{N:Nat}{v:Nat}(B:v<18446744073709551616)(hN:4<=N):∃ S,Ai S/\val S=v/\∀ K:Nat->LA->O R,Bm N (v:Int) K=K (An v).length (Ac S):=by
 have A:Ai [v%4294967296,v/4294967296]:=Cr.2 ⟨by omega,Cr.2 ⟨by omega,Qu⟩⟩
 have k:val [v%4294967296,v/4294967296]=v:=by simp[val];omega
 refine⟨_,A,k,fun K=>?_⟩
 rw[X5];unfold Ws
 rw[P',XC,vP (show v/4294967296<4294967296 by omega)]
 have:=gL (R:=R) (N:=N) (l:=[v%4294967296,v/4294967296]) (K:=fun c=>K c (Ac [v%4294967296,v/4294967296])) A (by simp) 2 N (by simp) (by omega)
 rw[show [v%4294967296,v/4294967296].take 2=[v%4294967296,v/4294967296] by rfl,k]at this
 rw[QB];unfold SR
 exact this
def Lr{N:Nat}{l:List Nat}{n:Nat}{t o:Bool}{K:Int->Bool->O R}(hn:n=l.length)(v:Ai l)(k:fit l.length N):AR N (Ac l) n t o K=if val l<18446744073709551616 then K (val l:Int) true else K 0 false:=by
 have B:=k.1
 rw[OI];unfold QD
 rw[Bj hn v k]
 by_cases h:val l<18446744073709551616
 ·have:=Vp h
  rw[if_pos h,show decide ((((An (val l)).length:Nat):Int)>2)=false by simp;omega,cf,BX rfl (Ad _) this (by omega),Aj]
 ·have:¬ (An (val l)).length<=2:=fun A=>h (UQ A)
  rw[if_neg h,show decide ((((An (val l)).length:Nat):Int)>2)=true by simp;omega,ct]
def MV{N:Nat}{l:List Nat}{n:Nat}{t o:Bool}{K:Nat->LA->O R}(hn:n=l.length)(v:Ai l)(k:fit l.length N):X8 N (Ac l) n t o K=K (An (val l)).length (Ac (An (val l))):=by
 have A:=k.1;have B:=k.2
 have:=(A9 v).2
 rw[bB];unfold gI
 rw[Bj hn v k,yG (by omega),ct,X4,Ake,ct]
 congr 1
 unfold C8
 rw[Nat.min_self,Ah1,Aj8,Ajy,Ahi (by rw[Bg];exact Ahl _),Aim (by simp[Bg]),Aiy]
def Ag2:Lu:=[0,1,2,2,3,3,3,3,4,4,4,4,4,4,4,4,5,5,5,5,5,5,5,5,5,5,5,5,5,5,5,5,6,6,6,6,6,6,6,6,6,6,6,6,6,6,6,6,6,6,6,6,6,6,6,6,6,6,6,6,6,6,6,6,7,7,7,7,7,7,7,7,7,7,7,7,7,7,7,7,7,7,7,7,7,7,7,7,7,7,7,7,7,7,7,7,7,7,7,7,7,7,7,7,7,7,7,7,7,7,7,7,7,7,7,7,7,7,7,7,7,7,7,7,7,7,7,7,8,8,8,8,8,8,8,8,8,8,8,8,8,8,8,8,8,8,8,8,8,8,8,8,8,8,8,8,8,8,8,8,8,8,8,8,8,8,8,8,8,8,8,8,8,8,8,8,8,8,8,8,8,8,8,8,8,8,8,8,8,8,8,8,8,8,8,8,8,8,8,8,8,8,8,8,8,8,8,8,8,8,8,8,8,8,8,8,8,8,8,8,8,8,8,8,8,8,8,8,8,8,8,8,8,8,8,8,8,8,8,8,8,8,8,8,8,8,8,8,8,8,8,8,8,8,8,8]
def Aa1:∀ i:Fin 256,0<i.1->2 ^ (Ag2.getD i.1 0).toNat<=2*i.1/\i.1<2 ^ (Ag2.getD i.1 0).toNat:=by decide +kernel
def iS{k y x m:Nat}(h:2 ^ k<=2*y/\y<2 ^ k)(v:y=x/2 ^ m):2 ^ (k+m)<=2*x/\x<2 ^ (k+m):=by
 have A:0<2 ^ m:=Ai5 (by omega)
 have B:x<2 ^ m*(y+1):=by rw[v];have:=Aix x (2 ^ m);have:=Ajf x A;rw[Ahs];omega
 have C:2 ^ m*y<=x:=by rw[v];exact Nat.mul_div_le x _
 have D:2 ^ m*(y+1)<=2 ^ m*2 ^ k:=Ah7 _ h.2
 have G:2 ^ m*2 ^ k<=2 ^ m*(2*y):=Ah7 _ h.1
 rw[Ais,Ahn (2 ^ k)]
 have I:2 ^ m*(2*y)=2*(2 ^ m*y):=by rw[Ajl]
 omega
def Acd{a:Nat}(h:a<256):wrap .u8 (a:Int)=(a:Int):=by rw[wrap_u8];congr 1;omega
def Ace{N:Nat}{a b:Nat}{K:Int->O R}(I:0<a)(L:a<65536)(T:b<=16):∃ k:Nat,2 ^ k<=2*a/\a<2 ^ k/\k<=16/\D9 N K (a:Int) (b:Int)=K ((b+k:Nat):Int):=by
 have small:∀ i:Nat,0<i->i<256->∃ k:Nat,(2 ^ k<=2*i/\i<2 ^ k)/\k<=8/\(Ag2.getD i 0).toNat=k:=by
  intro i hi A
  have:=Aa1 ⟨i,A⟩ hi
  refine⟨_,this,?_,rfl⟩
  rcases Amh 8 (Ag2.getD i 0).toNat with h|h
  ·have D:=this.1
   have V:2 ^ 9<=2 ^ (Ag2.getD i 0).toNat:=Aih (by omega) h
   simp only at D
   omega
  ·exact h
 by_cases h:a>=256
 ·obtain⟨k,v,G,B⟩:=small (a/256) (by omega) (by omega)
  have C:=iS (m:=8) v (show a/256=a/2 ^ 8 by rfl)
  refine⟨k+8,C.1,C.2,by omega,?_⟩
  unfold D9
  rw[show decide ((a:Int)>=256)=true by simp;omega,ct,O5 a 8,show a/2 ^ 8=a/256 by rfl,Acd (by omega),Ab (by omega),ct,Ahm]
  change K (wrap .i64 (wrap .i64 ((b:Int)+8)+wrap .i64 (((Ag2.getD (a/256) 0).toNat:Nat):Int)))=_
  rw[B,i64 (a:=(b:Int)+8) (by omega),i64 (a:=(k:Int)) (by omega),i64 (by omega)]
  congr 1;omega
 ·obtain⟨k,v,G,B⟩:=small a (by omega) (by omega)
  refine⟨k,v.1,v.2,by omega,?_⟩
  unfold D9
  rw[show decide ((a:Int)>=256)=false by simp;omega,cf,Acd (by omega),Ab (by omega),ct,Ahm]
  change K (wrap .i64 ((b:Int)+wrap .i64 (((Ag2.getD a 0).toNat:Nat):Int)))=_
  rw[B,i64 (a:=(k:Int)) (by omega),i64 (by omega)]
  congr 1
def uL{N:Nat}{c:Nat}{K:Int->O R}(G:0<c)(I:c<4294967296):∃ k:Nat,2 ^ k<=2*c/\c<2 ^ k/\k<=32/\Ju N (c:Int) K=K (k:Int):=by
 rw[T9];unfold Mg
 by_cases h:c>=65536
 ·obtain⟨k,A,B,D,v⟩:=Ace (R:=R) (N:=N) (a:=c/65536) (b:=16) (K:=K) (by omega) (by omega) (by omega)
  have C:=iS (m:=16) ⟨A,B⟩ (show c/65536=c/2 ^ 16 by rfl)
  refine⟨k+16,C.1,C.2,by omega,?_⟩
  rw[show decide ((c:Int)>=65536)=true by simp;omega,ct,O5 c 16,show c/2 ^ 16=c/65536 by rfl]
  rw[Ako k];exact v
 ·obtain⟨k,A,B,D,v⟩:=Ace (R:=R) (N:=N) (a:=c) (b:=0) (K:=K) (by omega) (by omega) (by omega)
  refine⟨k,A,B,by omega,?_⟩
  rw[show decide ((c:Int)>=65536)=false by simp;omega,cf]
  rw[Ah0]at v;exact v
def vT{N:Nat}{c:Nat}(D:0<c)(G:c<4294967296):∃ s:Nat,s<=31/\2147483648<=c*2 ^ s/\c*2 ^ s<4294967296/\∀ K:Int->O R,B5 N (c:Int) K=K (s:Int):=by
 have key:∀ K:Int->O R,∃ s:Nat,(s<=31/\2147483648<=c*2 ^ s/\c*2 ^ s<4294967296)/\B5 N (c:Int) K=K (s:Int):=by
  intro K
  rw[Jv];unfold Gj
  obtain⟨k,I,C,V,L⟩:=uL (R:=R) (N:=N) (K:=fun c=>K (wrap .i64 ((32:Int) - c))) D G
  have e:2 ^ k*2 ^ (32 - k)=4294967296:=by rw[<-Ais,show k+(32 - k)=32 by omega]
  have Y:1<=k:=by
   rcases Aib k with h|h
   ·subst h;simp at C;omega
   ·exact h
  refine⟨32 - k,⟨by omega,?_,?_⟩,?_⟩
  ·have:=Ahp (2 ^ (32 - k)) I
   rw[e,Ahq]at this;omega
  ·have:=(Aka (show 0<2 ^ (32 - k)from Ai5 (by omega))).2 C
   rw[e]at this;exact this
  ·rw[L,i64 (by omega)];congr 1;omega
 obtain⟨s,hs,_⟩:=key fun _=>none
 refine⟨s,hs.1,hs.2.1,hs.2.2,fun K=>?_⟩
 obtain⟨v,T,e⟩:=key K
 have:v=s:=by
  rcases Nat.lt_trichotomy s v with h|h|h
  ·exfalso
   have A:2 ^ (s+1)<=2 ^ v:=Aih (by omega) h
   have B:=Ah7 c A
   rw[Ahw,<-Ahq]at B
   omega
  ·exact h.symm
  ·exfalso
   have A:2 ^ (v+1)<=2 ^ s:=Aih (by omega) h
   have B:=Ah7 c A
   rw[Ahw,<-Ahq]at B
   omega
 rw[e,this]
def pP{s:Nat}(h:s<=31):2 ^ s<=2147483648:=Aih (n:=2) (by omega) h
def zI{x c s:Nat}(A:x<4294967296)(k:c<2 ^ s)(hs:s<=31):Of .u64 (c:Int) (wrap .u64 ((wrap .u64 (x:Int))*2 ^ (min (Int.toNat (s:Int)) 64)))=((x*2 ^ s+c:Nat):Int)/\x*2 ^ s+c<4294967296*2 ^ s:=by
 have B:=pP hs
 have C:x*2 ^ s<=4294967295*2 ^ s:=Ahp _ (by omega)
 have v:(x+1)*2 ^ s<=4294967296*2 ^ s:=Ahp _ (by omega)
 rw[Ahv]at v
 refine⟨?_,by omega⟩
 rw[Hb (by omega),Ahm,Aia (by omega),show(2:Int) ^ s=((2 ^ s:Nat):Int) by simp,gA,Hb (by omega),ta (by omega) (by omega),Aoo,XD k]
def UR{N:Nat}{a:List Nat}{t o:Bool}{s:Nat}(I:Ai a)(hs:s<=31)(A:a.length<=1000000000000):∀(m d fuel:Nat)(S:List Nat)(c:Nat),d+m=a.length->m<fuel->Ai S->S.length=a.length+1->xP S d->c<2 ^ s ->
  val S+4294967296 ^ d*c=val (a.take d)*2 ^ s ->
  ∃ S',Ai S'/\S'.length=a.length+1/\val S'=val a*2 ^ s/\∀ K:Nat->LA->O R,He N K (Ac a) a.length t o (s:Int) fuel (a.length+1) (c:Int) (a.length:Int) (d:Int) (Ac S)=K (a.length+1) (Ac S')
|0,d,fuel+1,S,c,V,_,hS,B,v,L,C=>by
  have D:d=a.length:=by omega
  subst D
  have hp:=pP hs
  rw[Aic]at C
  refine⟨S.set a.length c,B4 hS (by omega) _,by simpa using B,by rw[Sz v (by omega),C],fun K=>?_⟩
  rw[He];unfold Pa
  rw[K4 (Ahl _),cf,Ab (by omega),ct,Aed (by omega),ct,vP (by omega),Acc]
| m+1,d,fuel+1,S,c,V,Y,hS,B,v,L,C=>by
  have k:d<a.length:=by omega
  have ad:=Az I k
  obtain⟨w1,w2⟩:=zI ad L hs
  generalize G:a[d]*2 ^ s+c=w at *
  have T:0<2 ^ s:=Ai5 (by omega)
  have key:val (S.set d (w%4294967296))+4294967296 ^ (d+1)*(w/4294967296)=val (a.take (d+1))*2 ^ s:=by
   rw[Sz v (by omega),Ax k,Ahw,Ahv,Ahq _ a[d]]
   have e:=Lq (4294967296 ^ d) w
   have e2:4294967296 ^ d*w=4294967296 ^ d*(a[d]*2 ^ s)+4294967296 ^ d*c:=by rw[<-G,Ahs]
   omega
  obtain⟨S',q1,q2,q3,q4⟩:=UR (t:=t) (o:=o) I hs A m (d+1) fuel (S.set d (w%4294967296)) (w/4294967296) (by omega) (by omega) (B4 hS (by omega) d) (by simpa using B) (Y0 v) (Akp w2) key
  refine⟨S',q1,q2,q3,fun K=>?_⟩
  rw[He];unfold Pa
  rw[Jy k,ct,Ab k,ct,HF k,show decide ((s:Int)<0)=false by simp,cf,Ab (by omega),ct,lU (by omega),ct,w1,XC,P',JD,wS (by omega)]
  exact q4 K
def US{N:Nat}{a:List Nat}{n:Nat}{t o:Bool}{s:Nat}(hn:n=a.length)(v:Ai a)(hs:s<=31)(k:fit a.length N):
  ∃ S',Ai S'/\S'.length=a.length+1/\val S'=val a*2 ^ s/\∀ K:Nat->LA->O R,Qz N (Ac a) n t o (s:Int) K=K (a.length+1) (Ac S'):=by
 subst hn
 have G:=k.1;have I:=k.2
 obtain⟨S',A,B,C,D⟩:=UR (R:=R) (N:=N) (t:=t) (o:=o) v hs (by omega) a.length 0 N (replicate (a.length+1) 0) 0 (by omega) (by omega) (Bz _) (by simp) (Kg _) (Ai5 (by omega)) (by rw[Dm];simp[val])
 refine⟨S',A,B,C,fun K=>?_⟩
 rw[JC];unfold Yd
 rw[Aga (by omega),yG (by omega),ct,Ahm,Ci]
 exact D K
def Acf{P U Q:List Nat}{i:Nat}(h:i<U.length){f:Int->O R}:Au .u32 (drop (P.length+((Int.toNat (i:Int))*1)) (Ac (P++(U++Q)))) f=f (U[i]:Nat):=by
 rw[Ahm,Ah1,rH (by simp;omega)]
 congr 2
 rw[Ajz (by omega)]
 simp only[Alp]
 rw[Aif h]
def Aee{P U Q:List Nat}{i:Nat}(h:i<U.length):((beq 1 1)&&((ble ((P.length+((Int.toNat (i:Int))*1))+1) (List.length (Ac (P++(U++Q)))))&&(!false)))=true:=by rw[Bg,Ahm];simp;omega
def zJ{P U Q:List Nat}{i v:Nat}(h:i<U.length):List.set (Ac (P++(U++Q))) (P.length+((Int.toNat (i:Int))*1)) (.int .u32 (v:Int))=Ac (P++(U.set i v++Q)):=by rw[Ahm,Ah1,SQ,Alz _ _ (by omega),Alp,List.set_append_left _ _ h]
def Afk{P U Q:List Nat}{i:Nat}(h:i<U.length){f:Int->O R}:Au .u32 (drop (P.length+(i*1)) (Ac (P++(U++Q)))) f=f (U[i]:Nat):=by have:=Acf (R:=R) (P:=P) (Q:=Q) (f:=f) h;rw[Ahm]at this;exact this
def UT{X:List Nat}{p g:Nat}(h:p<X.length):val ((X.set p g).take (p+1))=val (X.take p)+4294967296 ^ p*g:=by rw[Ax (by simpa using h),Ane,List.take_set_of_le (Ahl _)]
def BY{X:List Nat}{n:Nat}(h:X.length=n+1):val X=val (X.take n)+4294967296 ^ n*X[n]:=by
 have:=Ax (l:=X) (c:=n) (by omega)
 rwa [Ahi (by omega)]at this
def vU{D:Nat}(h:1<=D)(k:D<18446744073709551616):wrap .u64 ((D:Int) - 1)=((D - 1:Nat):Int):=by rw[QA];omega
def Aa2{D y t:Nat}(hD:D<4294967296)(k:y<4294967296)(v:t<=4294967296):D*y+t<18446744073709551616/\(D*y+t)/4294967296+1<=4294967296:=by
 have:D*y<=4294967295*4294967295:=Ajh (by omega) (by omega)
 omega
def vV{N:Nat}{P Q X v:List Nat}{n D:Nat}{f g:Bool}(hv:Ai v)(hn:v.length=n)(hX:Ai X)(hXl:X.length=n+1)(hs:n<=1000000000000)(hD:D<4294967296)(hD1:1<=D){r:Nat}(hr:val X+val v=4294967296 ^ (n+1)+r)(I:r<4294967296 ^ n):
  ∀(m o fuel:Nat)(Y:List Nat)(c:Nat),o+m=n->m<fuel->Ai Y->Y.length=n+1->(∀ j (V:j<Y.length) (h2:j<X.length),o<=j->Y[j]=X[j])->c<=1->val (Y.take o)+4294967296 ^ o*c=val (X.take o)+val (v.take o) ->
  ∃ Y',Ai Y'/\Y'.length=n+1/\val Y'=r/\∀ K:Int->LA->O R,Gp N K P.length (n+1) (n:Int) (D:Int) (Ac v) n f g fuel (c:Int) (n:Int) (o:Int) (Ac (P++(Y++Q)))=K ((D - 1:Nat):Int) (Ac (P++(Y'++Q)))
| 0,o,fuel+1,Y,c,ho,_,hY,hYl,A,hc,B=>by
  have ho':o=n:=by omega
  subst ho'
  rw[show v.take o=v by rw[<-hn];exact Aic]at B
  have e1:=BY hXl
  have eq:val (Y.take o)+4294967296 ^ o*(X[o]+c)=4294967296 ^ o*4294967296+r:=by
   rw[Ahs,<-Ahw];omega
  have yt:=A6 (Bw hY o)
  rw[Ah3,Aia (by omega)]at yt
  have hP:0<4294967296 ^ o:=Ai5 (by omega)
  have hw:X[o]+c=4294967296:=by
   have V:(val (Y.take o)+4294967296 ^ o*(X[o]+c))/4294967296 ^ o=X[o]+c:=by rw[Aj9 _ _ hP,Aiw yt,Ah0]
   have h2:(4294967296 ^ o*4294967296+r)/4294967296 ^ o=4294967296:=by rw[Alg hP,Aiw I,Aiq]
   rw[<-V,eq,h2]
  have hyr:val (Y.take o)=r:=by rw[hw]at eq;omega
  have C:Y[o]=X[o]:=A o (by omega) (by omega) (Ahl _)
  have hl2:(Y.set o 0).length=o+1:=by simpa using hYl
  refine⟨Y.set o 0,B4 hY (by omega) o,hl2,?_,fun K=>?_⟩
  ·have:=UT (X:=Y) (p:=o) (g:=0) (by omega)
   rw[Ahi (by omega),hyr]at this;simpa using this
  ·rw[Gp];unfold Mi
   have hXo:=Az hX (show o<X.length by omega)
   rw[K4 (Ahl _),cf,Ab (by omega),ct,Acf (by omega),ct,Aee (by omega),ct,C,vP (show c<4294967296 by omega),AQ,hw,P',zJ (by omega),vU hD1 (by omega),vP (by omega)]
| m+1,o,fuel+1,Y,c,ho,hfu,hY,hYl,A,hc,B=>by
  have L:o<n:=by omega
  have G:o<v.length:=by omega
  have vo:=Az hv G
  have k:o<Y.length:=by omega
  have yo:=Az hY k
  have C:Y[o]=X[o]:=A o (by omega) (by omega) (Ahl _)
  have hs1:c+(Y[o]+v[o])<18446744073709551616:=by omega
  have hs2:(c+(Y[o]+v[o]))/4294967296<=1:=by omega
  generalize T:c+(Y[o]+v[o])=s at *
  have key:val ((Y.set o (s%4294967296)).take (o+1))+4294967296 ^ (o+1)*(s/4294967296)=val (X.take (o+1))+val (v.take (o+1)):=by
   rw[UT k,Ax (l:=X) (by omega),Ax G,Ahw]
   have e:=Lq (4294967296 ^ o) s
   have e2:4294967296 ^ o*s=4294967296 ^ o*c+(4294967296 ^ o*X[o]+4294967296 ^ o*v[o]):=by rw[<-T,Ahs,Ahs,C]
   omega
  obtain⟨Y',q1,q2,q3,q4⟩:=vV (N:=N) (P:=P) (Q:=Q) (f:=f) (g:=g) hv hn hX hXl hs hD hD1 hr I m (o+1) fuel (Y.set o (s%4294967296)) (s/4294967296) (by omega) (by omega) (B4 hY (by omega) o) (by simpa using hYl) (fun j V h2 hj=>by rw[Ak9,if_neg (by omega)];exact A j (by simpa using V) h2 (by omega)) hs2 key
  refine⟨Y',q1,q2,q3,fun K=>?_⟩
  rw[Gp];unfold Mi
  rw[Jy L,ct,Ab L,ct,HF G,Ab (by omega),ct,Acf k,ct,Aee k,ct,Hb (show v[o]<18446744073709551616 by omega),Hb (show Y[o]<18446744073709551616 by omega),AQ,Hb (by omega),AQ,T,Hb hs1,XC,P',zJ k,wS (by omega)]
  exact q4 K
def zK{N:Nat}{P Q U v:List Nat}{n D:Nat}{f g:Bool}(V:Ai v)(hn:v.length=n)(hU:Ai U)(hUl:U.length=n+1)(hs:n<=1000000000000)(hN:n+2<N)(hD:D<4294967296)(G:0<val v)(hq1:val U/val v<=D)(hq2:D<=val U/val v+1):
  ∀(m p fuel:Nat)(X:List Nat)(t:Nat),p+m=n->m<fuel->Ai X->X.length=n+1->(∀ j (h1:j<X.length) (h2:j<U.length),p<=j->X[j]=U[j])->t<=4294967296->val (X.take p)+D*val (v.take p)=val (U.take p)+4294967296 ^ p*t ->
  ∃ X',Ai X'/\X'.length=n+1/\val X'=val U%val v/\∀ K:Int->LA->O R,E4 N K P.length (n+1) (Ac v) n f g (n:Int) (D:Int) fuel (t:Int) (n:Int) (p:Int) (Ac (P++(X++Q)))=K ((val U/val v:Nat):Int) (Ac (P++(X'++Q)))
| 0,p,fuel+1,X,t,hp,_,hX,hXl,k,ht,C=>by
  have hp':p=n:=by omega
  subst hp'
  rw[show v.take p=v by rw[<-hn];exact Aic]at C
  have hXp:X[p]=U[p]:=k p (by omega) (by omega) (Ahl _)
  have up:=Az hU (show p<U.length by omega)
  obtain⟨d,c,g1,g2,g3,g4,g5⟩:=MU up ht
  have A:(X.set p d).length=p+1:=by simpa using hXl
  have hX2:=B4 hX g1 p
  have hv2:val (X.set p d)=val (X.take p)+4294967296 ^ p*d:=by
   have:=UT (X:=X) (p:=p) (g:=d) (by omega)
   rwa [Ahi (by omega)]at this
  have eU:=BY hUl
  have main:val (X.set p d)+D*val v=val U+4294967296 ^ (p+1)*c:=by
   have e:4294967296 ^ p*(U[p]+4294967296*c)=4294967296 ^ p*(d+t):=by rw[g3]
   rw[Ahs,Ahs,<-Ahq]at e
   rw[hv2,eU,Ahw];omega
  have hlt:=A6 hX2
  rw[A]at hlt
  have hdm:=Aix (val U) (val v)
  have hmod:=Ajf (val U) G
  have vlt:=A6 V
  rw[hn]at vlt
  by_cases hc:c=0
  ·subst hc
   have hDq:D=val U/val v:=by
    have:D<=val U/val v:=by rw[Ak0 G];omega
    omega
   refine⟨X.set p d,hX2,A,?_,fun K=>?_⟩
   ·rw[hDq,Ahn]at main;omega
   ·rw[E4];unfold Hy
    rw[K4 (Ahl _),cf,Ab (by omega),ct,Acf (by omega),ct,Aee (by omega),ct,hXp,Hb (show U[p]<18446744073709551616 by omega),g4,g5,show(((0:Nat):Int)==0)=true by rfl,ct,vP hD,zJ (by omega),hDq]
  ·have hc1:c=1:=by omega
   subst hc1
   have hDq:D=val U/val v+1:=by
    have:¬ D<=val U/val v:=fun h=>by
     have:=Ah7 (val v) h
     rw[Ahn]at this
     omega
    omega
   have hr:val (X.set p d)+val v=4294967296 ^ (p+1)+val U%val v:=by
    rw[hDq,Ahv,Ahn (val U/val v)]at main;omega
   obtain⟨Y',q1,q2,q3,q4⟩:=vV (R:=R) (N:=N) (P:=P) (Q:=Q) (f:=f) (g:=g) (X:=X.set p d) V hn hX2 A hs hD (by rw[hDq];exact Nat.le_add_left 1 _) hr (by omega) p 0 N (X.set p d) 0 (by omega) (by omega) hX2 A (fun _ _ _ _=>rfl) (by omega) (by simp[val])
   refine⟨Y',q1,q2,q3,fun K=>?_⟩
   rw[E4];unfold Hy
   rw[K4 (Ahl _),cf,Ab (by omega),ct,Acf (by omega),ct,Aee (by omega),ct,hXp,Hb (show U[p]<18446744073709551616 by omega),g4,g5,show(((1:Nat):Int)==0)=false by rfl,cf,zJ (by omega)]
   have:=q4 K
   rw[show D - 1=val U/val v by rw[hDq];rfl]at this
   exact this
| m+1,p,fuel+1,X,t,hp,hfu,hX,hXl,k,ht,C=>by
  have L:p<n:=by omega
  have I:p<v.length:=by omega
  have vp:=Az V I
  have B:p<X.length:=by omega
  have hXp:X[p]=U[p]:=k p (by omega) (by omega) (Ahl _)
  have up:=Az hU (show p<U.length by omega)
  obtain⟨hw1,hw2⟩:=Aa2 hD vp ht
  have hDv:D*v[p]<18446744073709551616:=by omega
  generalize T:D*v[p]+t=w at *
  obtain⟨d,c,g1,g2,g3,g4,g5⟩:=MU up (show w%4294967296<=4294967296 by omega)
  have key:val ((X.set p d).take (p+1))+D*val (v.take (p+1))=val (U.take (p+1))+4294967296 ^ (p+1)*(w/4294967296+c):=by
   rw[UT B,Ax I,Ax (l:=U) (by omega),Ahw]
   have e:=Lq (4294967296 ^ p) w
   have e2:4294967296 ^ p*w=4294967296 ^ p*(D*v[p])+4294967296 ^ p*t:=by rw[<-T,Ahs]
   have e3:4294967296 ^ p*(U[p]+4294967296*c)=4294967296 ^ p*(d+w%4294967296):=by rw[g3]
   rw[Ahs,Ahs,<-Ahq]at e3
   have e4:D*(val (v.take p)+4294967296 ^ p*v[p])=D*val (v.take p)+4294967296 ^ p*(D*v[p]):=by rw[Ahs,Ajl]
   rw[e4,Ahs]
   omega
  obtain⟨X',q1,q2,q3,q4⟩:=zK (N:=N) (P:=P) (Q:=Q) (f:=f) (g:=g) V hn hU hUl hs hN hD G hq1 hq2 m (p+1) fuel (X.set p d) (w/4294967296+c) (by omega) (by omega) (B4 hX g1 p) (by simpa using hXl) (fun j h1 h2 hj=>by rw[Ak9,if_neg (by omega)];exact k j (by simpa using h1) h2 (by omega)) (by omega) key
  refine⟨X',q1,q2,q3,fun K=>?_⟩
  rw[E4];unfold Hy
  rw[Jy L,ct,Ab L,ct,HF I,Ab (by omega),ct,Acf B,ct,Aee B,ct,hXp,Hb (show v[p]<18446744073709551616 by omega),gA,Hb hDv,AQ,T,Hb hw1,P',Hb (show w%4294967296<18446744073709551616 by omega),Hb (show U[p]<18446744073709551616 by omega),g4,g5,XC,AQ,Hb (by omega),zJ B,wS (by omega)]
  exact q4 K
def PD(a b:Nat):Int.tdiv (a:Int) (b:Int)=((a/b:Nat):Int):=rfl
def KL(a b:Nat):Int.tmod (a:Int) (b:Int)=((a%b:Nat):Int):=rfl
def Acg{l:Nat}(h:l<4294967296):((Int.fdiv (l:Int) (2 ^ 32)) != (0:Int))=false:=by rw[XC,Aiw h];rfl
def Ach{l:Nat}(h:4294967296<=l):((Int.fdiv (l:Int) (2 ^ 32)) != (0:Int))=true:=by
 have k:l/4294967296≠0:=by omega
 rw[XC];rw[bne_iff_ne];omega
def Ada{a b:Nat}(k:a<4294967296)(v:b<4294967296):Of .u64 (wrap .u64 ((a:Int)*2 ^ 32)) (b:Int)=((a*4294967296+b:Nat):Int):=by rw[show(2:Int) ^ 32=((2 ^ 32:Nat):Int) by rfl,gA,Hb (by omega),ta (by omega) (by omega),XD (by omega)]
def Adb{B l v1 v2 m u2:Nat}(h:m*B+u2<l*v2):(l*v1+m)*B+u2<l*(v1*B+v2):=by rw[Ahv,Ahs,<-Ahq l v1];omega
def Adc{B l v1 v2 m u2:Nat}(h:l*v2<=m*B+u2):l*(v1*B+v2)<=(l*v1+m)*B+u2:=by rw[Ahv,Ahs,<-Ahq l v1];omega
def Ade{B u0 u1 u2 v1 v2:Nat}(k:v2<B)(h:(u0*B+u1)*B+u2<(v1*B+v2+1)*B):u0*B+u1<v1*B+B:=by
 have:u0*B+u1<v1*B+v2+1:=Ak6 (Aik (Nat.le_add_right _ u2) h)
 omega
def Ad4(P x:Nat):P*4294967296*x=P*(x*4294967296):=by rw[Ahq,Ahn 4294967296]
def zL{N:Nat}{P Q U v:List Nat}{n:Nat}{f g:Bool}{K:Int->LA->O R}(hn:v.length=n+2)(hv:Ai v)(hU:Ai U)(hUl:U.length=n+3)(hs:n<=1000000000000){v1 v2 u2 top:Nat}
  (e1:v[n+1]'(by omega)=v1) (e2:v[n]'(by omega)=v2) (e3:U[n]'(by omega)=u2) (hv1:2147483648<=v1) (htop:top<v1*4294967296+4294967296)
  (hV:(v1*4294967296+v2)*4294967296 ^ n<=val v) (hV':val v<(v1*4294967296+v2+1)*4294967296 ^ n) (hUU:(top*4294967296+u2)*4294967296 ^ n<=val U) (hUU':val U<(top*4294967296+u2+1)*4294967296 ^ n) (hq:val U/val v<4294967296) :
  ∀(k fuel l m:Nat),k<fuel->4294967296<=m+k*2147483648->m<4294967296->l*v1+m=top->val U/val v<=l->∃ D,D<4294967296/\val U/val v<=D/\D<=val U/val v+1 /\
   Dz N K P.length (n+3) (Ac v) (n+2) f g (Ac (P++(U++Q))) fuel ((n+2:Nat):Int) (l:Int) (m:Int)=Dy N K P.length (n+3) (Ac v) (n+2) f g ((n+2:Nat):Int) (Ac (P++(U++Q))) (D:Int):=by
 have b1:=Az hv (show n+1<v.length by omega)
 have b2:=Az hv (show n<v.length by omega)
 have b3:=Az hU (show n<U.length by omega)
 rw[e1]at b1;rw[e2]at b2;rw[e3]at b3
 have hP:0<4294967296 ^ n:=Ai5 (by omega)
 have I:0<val v:=Ah6 (Amx (by omega) hP) hV
 intro k
 induction k with
|zero=>intro fuel l m _ h1 h2;omega
| succ k ih =>
  intro fuel l m hf hm hm2 T hql
  obtain⟨fuel,rfl⟩:∃ F,fuel=F+1:=⟨fuel - 1,by omega⟩
  generalize L:val U/val v=q at *
  have wi1:wrap .i64 (((n+2:Nat):Int) - 1)=((n+1:Nat):Int):=by rw[i64 (by omega)];omega
  have wi2:wrap .i64 (((n+2:Nat):Int) - 2)=(n:Int):=by rw[i64 (by omega)];omega
  have lower:q<l->l<18446744073709551616->∃ D,D<4294967296/\q<=D/\D<=q+1 /\
    Jw N (Dz N K P.length (n+3) (Ac v) (n+2) f g (Ac (P++(U++Q))) fuel) K P.length (n+3) (Ac v) (n+2) f g ((n+2:Nat):Int) (l:Int) (m:Int) (Ac (P++(U++Q)))=Dy N K P.length (n+3) (Ac v) (n+2) f g ((n+2:Nat):Int) (Ac (P++(U++Q))) (D:Int):=by
   intro hlt A
   have G:(l - 1)*v1+(m+v1)=top:=by
    have:l*v1=(l - 1)*v1+v1:=by
     obtain⟨l',rfl⟩:∃ l',l=l'+1:=⟨l - 1,by omega⟩
     rw[Ahv];simp
    omega
   unfold Jw Q4
   rw[wi1,Ab (by omega),ct,HF (show n+1<v.length by omega),e1,Hb (show v1<18446744073709551616 by omega),AQ,Hb (show m+v1<18446744073709551616 by omega),vU (by omega) A]
   by_cases V:4294967296<=m+v1
   ·have hDB:l - 1<4294967296:=by
     apply Al3;intro hge
     have:=Ahp v1 hge
     rw[Ahn 4294967296]at this
     omega
    have B:(l - 1)*(v1*4294967296+v2)<=top*4294967296+u2:=by
     have x1:(l - 1)*v2<=4294967295*4294967295:=Ajh (by omega) (by omega)
     rw[<-G,Ahv,Ahs,<-Ahq]
     omega
    have C:=lf hV' hUU B (by omega) I
    rw[L]at C
    exact⟨l - 1,hDB,by omega,C,by rw[Ach V,ct]⟩
   ·obtain⟨D,d1,d2,d3,d4⟩:=ih fuel (l - 1) (m+v1) (by omega) (by omega) (by omega) G (by omega)
    exact⟨D,d1,d2,d3,by rw[Acg (by omega),cf,d4]⟩
  rw[Dz];unfold Q5
  by_cases hlB:l<4294967296
  ·rw[Acg hlB,show((false:Bool)==false)=true by rfl,ct,wi2,Ab (by omega),ct,HF (show n<v.length by omega),Ab (by omega),ct,Acf (show n<U.length by omega),Afh,e2,e3,Hb (show v2<18446744073709551616 by omega),Hb (show u2<18446744073709551616 by omega),gA]
   have x1:l*v2<=4294967295*4294967295:=Ajh (by omega) (by omega)
   rw[Hb (show l*v2<18446744073709551616 by omega),Ada hm2 b3]
   by_cases Y:m*4294967296+u2<l*v2
   ·rw[show decide (((l*v2:Nat):Int)>((m*4294967296+u2:Nat):Int))=true by rw[decide_eq_true_eq];omega,ct]
    have hup:val U/val v<l:=ld hV hUU' (by rw[<-T];exact Adb Y) I
    rw[L]at hup
    exact lower hup (by omega)
   ·rw[show decide (((l*v2:Nat):Int)>((m*4294967296+u2:Nat):Int))=false by rw[decide_eq_false_iff_not];omega,cf]
    have B:l*(v1*4294967296+v2)<=top*4294967296+u2:=by
     rw[<-T];exact Adc (Aju Y)
    have C:=lf hV' hUU B (by omega) I
    rw[L]at C
    exact⟨l,hlB,hql,C,rfl⟩
  ·rw[Ach (by omega),show((true:Bool)==false)=false by rfl,cf]
   have A:l<18446744073709551616:=by
    have:l*2147483648<=l*v1:=Ah7 _ hv1
    omega
   exact lower (by omega) A
def iT{N:Nat}{P Q U v:List Nat}{n:Nat}{f g:Bool}(hn:v.length=n+2)(G:Ai v)(hU:Ai U)(hUl:U.length=n+3)(hs:n<=1000000000)(hN:n+8<N)(hv1:2147483648<=v[n+1]'(by omega))(hlt:val U<val v*4294967296):
  ∃ U',Ai U'/\U'.length=n+3/\val U'=val U%val v/\∀ K:Int->LA->O R,Mj N P.length (n+3) (Ac v) (n+2) f g (Ac (P++(U++Q))) K=K ((val U/val v:Nat):Int) (Ac (P++(U'++Q))):=by
 have b1:=Az G (show n+1<v.length by omega)
 have b2:=Az G (show n<v.length by omega)
 have b3:=Az hU (show n<U.length by omega)
 have b4:=Az hU (show n+1<U.length by omega)
 have b5:=Az hU (show n+2<U.length by omega)
 have hP:0<4294967296 ^ n:=Ai5 (by omega)
 have vv:val v=val (v.take n)+4294967296 ^ n*(v[n+1]'(by omega)*4294967296+v[n]'(by omega)):=by
  have k:=Ax (l:=v) (c:=n+1) (by omega)
  have A:=Ax (l:=v) (c:=n) (by omega)
  rw[Ahi (by omega)]at k
  rw[k,A,Ahw,Ahs,Ahq,Ahn 4294967296 v[n+1]];omega
 have uu:val U=val (U.take n)+4294967296 ^ n*((U[n+2]'(by omega)*4294967296+U[n+1]'(by omega))*4294967296+U[n]'(by omega)):=by
  have h0:=Ax (l:=U) (c:=n+2) (by omega)
  have k:=Ax (l:=U) (c:=n+1) (by omega)
  have A:=Ax (l:=U) (c:=n) (by omega)
  rw[Ahi (by omega)]at h0
  have x1:4294967296 ^ (n+2)*U[n+2]=4294967296 ^ n*(U[n+2]*4294967296*4294967296):=by rw[Ahw (n:=4294967296) (m:=n+1),Ahw,Ad4,Ad4]
  have x2:4294967296 ^ (n+1)*U[n+1]=4294967296 ^ n*(U[n+1]*4294967296):=by rw[Ahw,Ad4]
  rw[h0,k,A,x1,x2,Ahv,Ahs,Ahs];omega
 have tv:=A6 (Bw G n)
 have tu:=A6 (Bw hU n)
 rw[Ah3,Aia (by omega)]at tv tu
 generalize e1:v[n+1]'(by omega)=v1 at *
 generalize e2:v[n]'(by omega)=v2 at *
 generalize e3:U[n]'(by omega)=u2 at *
 generalize e4:U[n+1]'(by omega)=u1 at *
 generalize e5:U[n+2]'(by omega)=u0 at *
 have I:0<val v:=by
  have:0<4294967296 ^ n*(v1*4294967296+v2):=Amx hP (by omega)
  omega
 have hV:(v1*4294967296+v2)*4294967296 ^ n<=val v:=by rw[Ahn];omega
 have hV':val v<(v1*4294967296+v2+1)*4294967296 ^ n:=by rw[Ahn,Ahs];omega
 have hUU:((u0*4294967296+u1)*4294967296+u2)*4294967296 ^ n<=val U:=by rw[Ahn];omega
 have hUU':val U<((u0*4294967296+u1)*4294967296+u2+1)*4294967296 ^ n:=by rw[Ahn,Ahs];omega
 have hq:val U/val v<4294967296:=Akp hlt
 have B:u0*4294967296+u1<v1*4294967296+4294967296:=by
  have k:((u0*4294967296+u1)*4294967296+u2)*4294967296 ^ n<(v1*4294967296+v2+1)*4294967296 ^ n*4294967296:=by
   have:=(Aka (show 0<4294967296 by omega)).2 hV'
   omega
  rw[Alm]at k
  exact Ade b2 (Ak6 k)
 obtain⟨top,L⟩:∃ top,u0*4294967296+u1=top:=⟨_,rfl⟩
 rw[L]at hUU hUU' B
 have hdm:=Aix top v1
 have hmod:=Ajf top (show 0<v1 by omega)
 have hq0:val U/val v<=top/v1:=by
  have k:val U/val v<top/v1+1:=by
   apply ld hV hUU' _ I
   have A:top<v1*(top/v1+1):=by rw[Ahs];omega
   have h3:(top+1)*4294967296<=v1*(top/v1+1)*4294967296:=Ahp _ A
   rw[Ahs,<-Ahq,Ahn _ v1]
   omega
  omega
 have key:∀ K:Int->LA->O R,∃ D,D<4294967296/\val U/val v<=D/\D<=val U/val v+1/\Mj N P.length (n+3) (Ac v) (n+2) f g (Ac (P++(U++Q))) K=Dy N K P.length (n+3) (Ac v) (n+2) f g ((n+2:Nat):Int) (Ac (P++(U++Q))) (D:Int):=by
  intro K
  obtain⟨D,T,V,Y,C⟩:=zL (R:=R) (N:=N) (P:=P) (Q:=Q) (f:=f) (g:=g) (K:=K) hn G hU hUl (by omega) e1 e2 e3 hv1 B hV hV' hUU hUU' hq 2 N (top/v1) (top%v1) (by omega) (by omega) (by omega) (by rw[Ahn];exact hdm) hq0
  refine⟨D,T,V,Y,?_⟩
  rw[<-C,AU];unfold R5
  have wi1:wrap .i64 (((n+2:Nat):Int) - 1)=((n+1:Nat):Int):=by rw[i64 (by omega)];omega
  rw[Ab (by omega),ct,Afk (show n+2<U.length by omega),wi1,Ab (by omega),ct,Acf (show n+1<U.length by omega),Ab (by omega),ct,HF (show n+1<v.length by omega),e1,e4,e5,Hb (show v1<18446744073709551616 by omega),k_ (by omega),cf,ct,HF (show n+1<v.length by omega),e1,Hb (show v1<18446744073709551616 by omega),k_ (by omega),cf,Hb (show u0<18446744073709551616 by omega),Hb (show u1<18446744073709551616 by omega),Ada b5 b4,L,PD,KL,Hb (show top/v1<18446744073709551616 from Aik (Ajg _ _) (by omega))]
 have fin:∀ D,D<4294967296->val U/val v<=D->D<=val U/val v+1->∃ U',Ai U'/\U'.length=n+3/\val U'=val U%val v/\∀ K:Int->LA->O R,Dy N K P.length (n+3) (Ac v) (n+2) f g ((n+2:Nat):Int) (Ac (P++(U++Q))) (D:Int)=K ((val U/val v:Nat):Int) (Ac (P++(U'++Q))):=by
  intro D T V Y
  obtain⟨X',q1,q2,q3,q4⟩:=zK (R:=R) (N:=N) (P:=P) (Q:=Q) (U:=U) (v:=v) (n:=n+2) (D:=D) (f:=f) (g:=g) G hn hU hUl (by omega) (by omega) T I V Y (n+2) 0 N U 0 (by omega) (by omega) hU hUl (fun _ _ _ _=>rfl) (by omega) (by simp[val])
  exact⟨X',q1,q2,q3,fun K=>by unfold Dy Q3;exact q4 K⟩
 by_cases hz:val U/val v+1<4294967296
 ·obtain⟨U1,a1,a2,a3,a4⟩:=fin (val U/val v) hq (Ahl _) (by omega)
  obtain⟨U2,c1,c2,c3,c4⟩:=fin (val U/val v+1) hz (by omega) (Ahl _)
  have:U1=U2:=by
   have k:=(A9 a1).1;have A:=(A9 c1).1
   rw[a3]at k;rw[c3]at A;rw[k,A,a2,c2]
  subst this
  refine⟨U1,a1,a2,a3,fun K=>?_⟩
  obtain⟨D,T,V,Y,C⟩:=key K
  have:D=val U/val v\/D=val U/val v+1:=by
   generalize val U/val v=q at *;omega
  rcases this with rfl|rfl
  ·rw[C,a4 K]
  ·rw[C,c4 K]
 ·obtain⟨U1,a1,a2,a3,a4⟩:=fin (val U/val v) hq (Ahl _) (by omega)
  refine⟨U1,a1,a2,a3,fun K=>?_⟩
  obtain⟨D,T,V,Y,C⟩:=key K
  have:D=val U/val v:=by
   generalize val U/val v=q at *;omega
  subst this
  rw[C,a4 K]
def KM{l:List Nat}{d:Nat}(h:d<l.length):val (l.drop d)=l[d]+4294967296*val (l.drop (d+1)):=by rw[Aip h,val]
def rt{S:List Nat}{d v:Nat}(h:d<S.length):(S.set d v).drop d=v::S.drop (d+1):=by rw[Aip (by simpa using h),Ane,Anr (by omega)]
def bZ{N:Nat}{a:List Nat}{t o:Bool}{b:Nat}(L:Ai a)(A:0<b)(Y:b<4294967296)(B:fit a.length N):∀(c fuel:Nat)(S:List Nat)(r:Nat),c<fuel->c<=a.length->Ai S->S.length=a.length->r<b->val (S.drop c)*b+r=val (a.drop c) ->
  ∃ S' S2,Ai S'/\val S'=val a/b/\Ai S2/\val S2=val a%b/\∀ K:Nat->Nat->LA->LA->O R,Da N K (Ac a) a.length t o (b:Int) fuel (r:Int) ((c:Int) - 1) (Ac S)=K (An (val a/b)).length (An (val a%b)).length (Ac S') (Ac S2)
| 0,fuel+1,S,r,_,_,hS,G,hr,C=>by
  have h1:=B.1
  rw[Aid,Aid]at C
  have hq:val a/b=val S:=by
   rw[<-C,Ahn,Alg A,Aiw hr,Aiq]
  have T:val a%b=r:=by rw[<-C,Ahn,Al9,Aig hr]
  obtain⟨S2,s1,s2,s3⟩:=Jf (R:=R) (N:=N) (v:=r) (by omega) (by omega)
  refine⟨S,S2,hS,hq.symm,s1,by rw[T,s2],fun K=>?_⟩
  rw[Da];unfold Ho
  rw[show decide ((((0:Nat):Int) - 1)>=0)=false by simp,cf,AX G.symm hS (by rw[G];exact B),s3,hq,T]
| c+1,fuel+1,S,r,hfu,hc,hS,G,hr,C=>by
  have h1:=B.1;have h2:=B.2
  have k:c<a.length:=by omega
  have ac:=Az L k
  have hrB:r<4294967296:=by omega
  have V:r*4294967296+a[c]<b*4294967296:=by
   have:(r+1)*4294967296<=b*4294967296:=Ahp _ hr
   rw[Ahv]at this;omega
  have I:r*4294967296+a[c]<18446744073709551616:=by omega
  obtain⟨w,D⟩:∃ w,r*4294967296+a[c]=w:=⟨_,rfl⟩
  rw[D]at V I
  have hqB:w/b<4294967296:=Akp V
  have hdm:=Aix w b
  obtain⟨S',S2,q1,q2,q3,q4,q5⟩:=bZ (t:=t) (o:=o) L A Y B c fuel (S.set c (w/b)) (w%b) (by omega) (by omega) (B4 hS hqB c) (by simpa using G) (Ajf _ A) (by
   rw[rt (by omega),val,KM k,Ahv,Ahq,<-C,Ahs,Ahn (w/b)]
   omega)
  refine⟨S',S2,q1,q2,q3,q4,fun K=>?_⟩
  rw[Da];unfold Ho
  rw[show(((c+1:Nat):Int) - 1)=(c:Int) by omega,show decide ((c:Int)>=0)=true by simp,ct,Ab k,ct,HF k,Hb (show b<18446744073709551616 by omega),k_ (by omega),cf,ct,lU (by omega),ct,cf,Hb (show a[c]<18446744073709551616 by omega),Ada hrB ac,D,PD,KL,Hb (show w/b<18446744073709551616 by omega),vP hqB,JD,i64 (by omega)]
  exact q5 K
def rx{N:Nat}{a:List Nat}{n:Nat}{t o:Bool}{b:Nat}(hn:n=a.length)(A:Ai a)(k:0<b)(B:b<4294967296)(v:fit a.length N):
  ∃ S' S2,Ai S'/\val S'=val a/b/\Ai S2/\val S2=val a%b/\∀ K:Nat->Nat->LA->LA->O R,Gn N (Ac a) n t o (b:Int) K=K (An (val a/b)).length (An (val a%b)).length (Ac S') (Ac S2):=by
 subst hn
 have T:=v.1;have V:=v.2
 obtain⟨S',S2,C,D,G,I,L⟩:=bZ (R:=R) (t:=t) (o:=o) A k B v a.length N (replicate a.length 0) 0 (by omega) (Ahl _) (Bz _) (by simp) k (by rw[Aim (by simp),Aim (by simp)];simp[val])
 refine⟨S',S2,C,D,G,I,fun K=>?_⟩
 rw[Ua];unfold Mh
 rw[yG (by omega),ct,i64 (by omega),Ci]
 exact L K
def zM{x V s:Nat}(B:x<4294967296)(hs:s<=31):(x+4294967296*V)/2 ^ s=(x+4294967296*(V%4294967296))/2 ^ s%4294967296+4294967296*(V/2 ^ s):=by
 have k:0<2 ^ s:=Ai5 (by omega)
 have A:2 ^ s∣4294967296:=⟨2 ^ (32 - s),by rw[<-Ais,show s+(32 - s)=32 by omega]⟩
 have key:∀ W,(x+4294967296*W)/2 ^ s=(x+4294967296*(W%2 ^ s))/2 ^ s+4294967296*(W/2 ^ s):=by
  intro W
  have e:x+4294967296*W=x+4294967296*(W%2 ^ s)+2 ^ s*(4294967296*(W/2 ^ s)):=by
   have h:=Aix W (2 ^ s)
   have:4294967296*W=4294967296*(2 ^ s*(W/2 ^ s)+W%2 ^ s):=by rw[h]
   rw[this,Ahs,Ajl];omega
  rw[e,Aj9 _ _ k]
 have v:(x+4294967296*(V%2 ^ s))/2 ^ s<4294967296:=by
  rw[Al0 k]
  have:V%2 ^ s+1<=2 ^ s:=Ajf _ k
  have:=Ah7 4294967296 this
  rw[Ahs]at this
  omega
 rw[key V,key (V%4294967296),Nat.mod_mod_of_dvd _ A,Ams,Aig v]
def Aa3:∀{l:List Nat},Ai l->val l%4294967296=l.getD 0 0
|[],_=>rfl
|x::r,h=>by
  have:=(Cr.1 h).1
  simp[val];omega
def ry{N:Nat}{a:List Nat}{o:Bool}{s:Nat}(B:Ai a)(hs:s<=31)(C:fit a.length N):∀(m d fuel:Nat)(S:List Nat),d+m=a.length->m<fuel->Ai S->S.length=a.length->xP S d->val S+4294967296 ^ d*(val (a.drop d)/2 ^ s)=val a/2 ^ s ->
  ∃ S',Ai S'/\val S'=val a/2 ^ s/\∀ K:Nat->Bool->LA->O R,Cn N K o fuel (Ac a) a.length (s:Int) a.length (Ac a) a.length (a.length:Int) (d:Int) (Ac S)=K (An (val a/2 ^ s)).length true (Ac S')
|0,d,fuel+1,S,hd,_,hS,D,G,A=>by
  have I:d=a.length:=by omega
  subst I
  rw[List.drop_length]at A
  simp[val]at A
  refine⟨S,hS,A,fun K=>?_⟩
  rw[Cn];unfold Gy
  rw[K4 (Ahl _),cf,AX D.symm hS (by rw[D];exact C),A]
| m+1,d,fuel+1,S,hd,hfu,hS,D,G,A=>by
  have h1:=C.1;have h2:=C.2
  have k:d<a.length:=by omega
  have ad:=Az B k
  have step:=zM (V:=val (a.drop (d+1))) ad hs
  rw[Aa3 (DE B _),<-KM k]at step
  have hg:(a.drop (d+1)).getD 0 0=a.getD (d+1) 0:=by simp[Ahr,Ain]
  rw[hg]at step
  have go:∀ w,(a[d]+4294967296*a.getD (d+1) 0)/2 ^ s=w->∃ S',Ai S'/\val S'=val a/2 ^ s/\∀ K:Nat->Bool->LA->O R,Cn N K o fuel (Ac a) a.length (s:Int) a.length (Ac a) a.length (a.length:Int) ((d+1:Nat):Int) (Ac (S.set d (w%4294967296)))=K (An (val a/2 ^ s)).length true (Ac S'):=by
   intro w hw
   refine ry (o:=o) B hs C m (d+1) fuel (S.set d (w%4294967296)) (by omega) (by omega) (B4 hS (by omega) d) (by simpa using D) (Y0 G) ?_
   rw[Sz G (by omega),<-A,step,hw,Ahw,Ahs,Ahq];omega
  by_cases hn:d+1<a.length
  ·have an:=Az B hn
   have v:a.getD (d+1) 0=a[d+1]:=by rw[Ahr,Ahk hn];rfl
   rw[v]at go
   obtain⟨S',L,T,Y⟩:=go _ rfl
   refine⟨S',L,T,fun K=>?_⟩
   rw[Cn];unfold Gy
   have e:Of .u64 ((a[d]:Nat):Int) (wrap .u64 (((a[d+1]:Nat):Int)*2 ^ 32))=((a[d]+4294967296*a[d+1]:Nat):Int):=by
    rw[show(2:Int) ^ 32=((2 ^ 32:Nat):Int) by rfl,gA,Hb (by omega),ta (by omega) (by omega),Aoo,XD (by omega)]
    congr 1;omega
   rw[Jy k,ct,Ab k,ct,HF k,wS (by omega),Jy hn,ct,Ab hn,ct,HF hn,show decide ((s:Int)<0)=false by simp,cf,ct,lU (by omega),ct,Hb (show a[d]<18446744073709551616 by omega),Hb (show a[d+1]<18446744073709551616 by omega),e,Ahm s,Aia (by omega),O5,P',JD]
   exact Y K
  ·have v:a.getD (d+1) 0=0:=by rw[Ahr,Air (by omega)];rfl
   rw[v,Nat.mul_zero,Aiq]at go
   obtain⟨S',L,T,Y⟩:=go _ rfl
   refine⟨S',L,T,fun K=>?_⟩
   rw[Cn];unfold Gy
   rw[Jy k,ct,Ab k,ct,HF k,wS (by omega),K4 (by omega),cf,show decide ((s:Int)<0)=false by simp,cf,ct,lU (by omega),ct,Hb (show a[d]<18446744073709551616 by omega),Ahm s,Aia (by omega),O5,P',JD]
   exact Y K
def zN{N:Nat}{a:List Nat}{n:Nat}{t o:Bool}{s:Nat}(hn:n=a.length)(v:Ai a)(hs:s<=31)(k:fit a.length N):
  ∃ S',Ai S'/\val S'=val a/2 ^ s/\∀ K:Nat->Bool->LA->O R,Na N (Ac a) n t o (s:Int) K=K (An (val a/2 ^ s)).length true (Ac S'):=by
 have L:=k.1;have T:=k.2
 have la:=(A9 v).2
 have B:wrap .i64 (Int.tdiv (s:Int) 32)=((0:Nat):Int):=by
  rw[show(32:Int)=((32:Nat):Int) by rfl,PD,Aiw (by omega)];decide
 have e1:Int.tmod (s:Int) 32=(s:Int):=by rw[show(32:Int)=((32:Nat):Int) by rfl,KL,Aig (by omega)]
 by_cases A:val a=0
 ·refine⟨[],Qu,by rw[A];simp[val],fun K=>?_⟩
  rw[Pb];unfold Ld
  rw[show decide ((s:Int)<0)=false by simp,cf,Bj hn v k,A,B,Nat.zero_div,Dd];rfl
 ·obtain⟨S',D,C,G⟩:=ry (R:=R) (o:=o) (a:=An (val a)) (Ad _) hs (k.le la) (An (val a)).length 0 N (replicate (An (val a)).length 0) (by omega) (by omega) (Bz _) (by simp) (Kg _) (by rw[Dm];simp)
  rw[Aj]at C
  refine⟨S',D,C,fun K=>?_⟩
  rw[Pb];unfold Ld
  have I:(An (val a)).length≠0:=fun h=>A (Bb.1 h)
  rw[show decide ((s:Int)<0)=false by simp,cf,Bj hn v k,B,e1,show decide (((0:Nat):Int)>=(((An (val a)).length:Nat):Int))=false by rw[decide_eq_false_iff_not];omega,cf]
  have c1:((decide ((0:Int)<=((0:Nat):Int)))&&((decide (((0:Nat):Int)<=(((An (val a)).length:Nat):Int)))&&((decide ((((An (val a)).length:Nat):Int)<=(((An (val a)).length:Nat):Int)))&&(decide ((((An (val a)).length:Nat):Int)<=(((An (val a)).length:Nat):Int))))))=true:=by simp
  rw[c1,ct,Ahm,Nat.sub_zero,yG (by omega),ct,Ami,Aid,Ah1,Qv,Aic,Ci]
  have:=G K
  rw[Aj]at this
  exact this
def EZ{S:List Nat}{k:Nat}(h:val S<4294967296 ^ k):val (S.take k)=val S:=by
 by_cases B:k<=S.length
 ·have v:=N1 (S.take k) (S.drop k)
  rw[Aj1,Ah3,Aia B]at v
  rcases Aib (val (S.drop k))with A|A
  ·rw[A]at v;simpa using v.symm
  ·have:=Alq (4294967296 ^ k) A
   omega
 ·rw[Ahi (by omega)]
def E_{S:List Nat}{n:Nat}(hS:Ai S)(h:S.length=n+1):val S<(S[n]+1)*4294967296 ^ n:=by
 have v:=BY h
 have k:=A6 (Bw hS n)
 rw[Ah3,Aia (by omega)]at k
 rw[Ahv,Ahn S[n]];omega
def Ag3{a b c:Nat}(k:a<=b)(v:b<=c):((decide ((0:Int)<=(a:Int)))&&((decide ((a:Int)<=(b:Int)))&&((decide ((b:Int)<=(c:Int)))&&(decide ((c:Int)<=(c:Int))))))=true:=by simp;omega
def mJ{N:Nat}{v u0 Sv:List Nat}{n D s:Nat}(hn:v.length=n+2)(hv:Ai v)(T:2147483648<=v[n+1]'(by omega))(hSv:take ((n+2)*1) (Ac Sv)=Ac v)(hu:Ai u0)(hul:u0.length=D+(n+2))(hs:s<=31)(G:fit (D+n+4) N):
  ∀(j fuel c:Nat)(W q:List Nat),j<fuel->c+j=D->Ai W->W.length=u0.length->Ai q->q.length=D->W.take j=u0.take j->val (W.drop j)<val v->val (q.drop j)*val v+val (W.drop j)=val (u0.drop j) ->
  ∃ Sq Sr,Ai Sq/\val Sq=val u0/val v/\Ai Sr/\val Sr=val u0%val v/2 ^ s/\∀ K:Nat->Nat->LA->LA->O R,Df N K (s:Int) (n+2) u0.length (Ac Sv) fuel D ((n+2:Nat):Int) (D:Int) (D:Int) (c:Int) (Ac q) (Ac W)=K (An (val u0/val v)).length (An (val u0%val v/2 ^ s)).length (Ac Sq) (Ac Sr)
|0,fuel+1,c,W,q,_,hc,hW,hWl,hq,B,I,hr,A=>by
  have h1:=G.1;have h2:=G.2
  simp only[Aid]at A hr
  have L:0<val v:=by omega
  have vlt:=A6 hv
  rw[hn]at vlt
  have V:val u0/val v=val q:=by rw[<-A,Ahn,Alg L,Aiw hr,Aiq]
  have hm:val u0%val v=val W:=by rw[<-A,Ahn,Al9,Aig hr]
  have ht:val (W.take (n+2))=val W:=EZ (by omega)
  have Y:(W.take (n+2)).length=n+2:=by rw[Ah3];omega
  obtain⟨S',q1,q3,q4⟩:=zN (R:=R) (N:=N) (a:=W.take (n+2)) (n:=n+2) (t:=false) (o:=true) (s:=s) Y.symm (Bw hW _) hs (G.le (by rw[Y];omega))
  rw[ht,<-hm]at q3 q4
  refine⟨q,S',hq,V.symm,q1,q3,fun K=>?_⟩
  have hcD:c=D:=by omega
  subst hcD
  rw[Df];unfold Kw
  rw[K4 (Ahl _),cf,Acb (by omega),ct,Ahm,Ah1,Qv,q4,AX B.symm hq (by rw[B];exact G.le (by omega)),<-V]
| j+1,fuel+1,c,W,q,hfu,hc,hW,hWl,hq,B,I,hr,A=>by
  have h1:=G.1;have h2:=G.2
  have vlt:=A6 hv
  rw[hn]at vlt
  have hjW:j<W.length:=by omega
  have hju:j<u0.length:=by omega
  have hjq:j<q.length:=by omega
  have hWj:W[j]=u0[j]:=by
   have:=congrArg (fun l=>l[j]?) I
   simp only[Ale (show j<j+1 by omega),Ahk hjW,Ahk hju]at this
   exact Anb this
  have wj:=Az hW hjW
  have eW:=KM hjW
  have eu:=KM hju
  have hUl:((W.drop j).take (n+3)).length=n+3:=by rw[Ah3,Am2];omega
  have k:val (W.drop j)<val v*4294967296:=by rw[eW];omega
  have hB:val (W.drop j)<4294967296 ^ (n+3):=by
   have:=(Aka (show 0<4294967296 by omega)).2 vlt
   rw[<-Ahw]at this;exact Nat.lt_trans k this
  have hU:val ((W.drop j).take (n+3))=val (W.drop j):=EZ hB
  have C:W=W.take j++((W.drop j).take (n+3)++(W.drop j).drop (n+3)):=by rw[Aj1,Aj1]
  have hPl:(W.take j).length=j:=by rw[Ah3];omega
  obtain⟨U',u1,u2,u3,u4⟩:=iT (R:=R) (N:=N) (P:=W.take j) (Q:=(W.drop j).drop (n+3)) (U:=(W.drop j).take (n+3)) (v:=v) (n:=n) (f:=false) (g:=true) hn hv (Bw (DE hW _) _) hUl (by omega) (by omega) T (by rw[hU];exact k)
  rw[hU]at u3 u4
  have hQ0:val ((W.drop j).drop (n+3))=0:=by
   have:=N1 ((W.drop j).take (n+3)) ((W.drop j).drop (n+3))
   rw[Aj1,hU,hUl]at this
   have hp:0<4294967296 ^ (n+3):=Ai5 (by omega)
   rcases Aib (val ((W.drop j).drop (n+3)))with h|h
   ·exact h
   ·have:=Alq (4294967296 ^ (n+3)) h;omega
  have L:0<val v:=by omega
  have hqd:val (W.drop j)/val v<4294967296:=Akp k
  have hdm:=Aix (val (W.drop j)) (val v)
  have hmd:=Ajf (val (W.drop j)) L
  have hW':Ai (W.take j++(U'++(W.drop j).drop (n+3))):=SP.2 ⟨Bw hW _,SP.2 ⟨u1,DE (DE hW _) _⟩⟩
  have hWl':(W.take j++(U'++(W.drop j).drop (n+3))).length=u0.length:=by
   rw[Ahy,Ahy,hPl,u2,Am2,Am2];omega
  have hWd:(W.take j++(U'++(W.drop j).drop (n+3))).drop j=U'++(W.drop j).drop (n+3):=by
   rw[Am1,hPl,Aoa,Aid,Aim (by omega),Ajy]
  have hWt:(W.take j++(U'++(W.drop j).drop (n+3))).take j=u0.take j:=by
   rw[List.take_append,hPl,Aoa,Aj8,Aiy,Ano,Nat.min_self]
   have:=congrArg (take j) I
   rwa [Ano,Ano,Aia (by omega)]at this
  have hWv:val (U'++(W.drop j).drop (n+3))=val (W.drop j)%val v:=by rw[N1,hQ0,u3];simp
  obtain⟨Sq,Sr,a1,a2,a3,a4,a5⟩:=mJ (N:=N) hn hv T hSv hu hul hs G j fuel (c+1) (W.take j++(U'++(W.drop j).drop (n+3))) (q.set j (val (W.drop j)/val v)) (by omega) (by omega) hW' hWl' (B4 hq hqd j) (by simpa using B) hWt (by rw[hWd,hWv];exact hmd) (by
   rw[hWd,hWv,rt hjq,val,eu,<-A,<-hWj,Ahv,Ahq,Ahs,Ahn (val (W.drop j)/val v)]
   omega)
  refine⟨Sq,Sr,a1,a2,a3,a4,fun K=>?_⟩
  have w0:wrap .i64 (wrap .i64 ((D:Int) - 1) - (c:Int))=(j:Int):=by
   rw[i64 (a:=(D:Int) - 1) (by omega),i64 (by omega)];omega
  have w1:wrap .i64 (wrap .i64 ((j:Int)+((n+2:Nat):Int))+1)=((j+(n+3):Nat):Int):=by
   rw[i64 (a:=(j:Int)+((n+2:Nat):Int)) (by omega),i64 (by omega)];omega
  have:=u4 fun z aa=>cond (Ah (j:Int) D) (cond ((beq 1 1)&&((ble ((0+((Int.toNat (j:Int))*1))+1) (List.length (Ac q)))&&(!false))) (Df N K (s:Int) (n+2) u0.length (Ac Sv) fuel D ((n+2:Nat):Int) (D:Int) (D:Int) (wrap .i64 ((c:Int)+1)) (List.set (Ac q) (0+((Int.toNat (j:Int))*1)) (.int .u32 z)) aa) none) none
  rw[<-C,hPl]at this
  rw[Df];unfold Kw
  rw[Jy (by omega),ct,w0,w1,Ag3 (by omega) (by omega),ct,hSv,Ahm,Ahm,Ah1,Ah0,show j+(n+3) - j=n+3 by omega]
  rw[Ahm,Ah1,Ah0]at this
  rw[this,Ab (by omega),ct,show((beq 1 1)&&((ble (j+1) (List.length (Ac q)))&&(!false)))=true by(rw[Bg];simp;omega),ct,SQ,wS (by omega)]
  exact a5 K
def xQ{N:Nat}{a b:List Nat}{n m:Nat}{t o t' o':Bool}(hn:n=a.length)(hm:m=b.length)(ha:Ai a)(hb:Ai b)(L:2<=b.length)(hlen:b.length<=a.length)(B:b.getLast (by intro h;rw[h]at L;simp at L)≠0)(T:fit (a.length+b.length+4) N):
  ∃ Sq Sr,Ai Sq/\val Sq=val a/val b/\Ai Sr/\val Sr=val a%val b/\∀ K:Nat->Nat->LA->LA->O R,Ke N (Ac a) n t o (Ac b) m t' o' K=K (An (val a/val b)).length (An (val a%val b)).length (Ac Sq) (Ac Sr):=by
 subst hn hm
 have h1:=T.1;have h2:=T.2
 obtain⟨k,Y⟩:∃ k,b.length=k+2:=⟨b.length - 2,by omega⟩
 have hbl2:b[k+1]'(by omega)≠0:=by
  rw[Akv]at B
  simp only[Y]at B
  exact B
 have bk:=Az hb (show k+1<b.length by omega)
 obtain⟨s,s1,s2,s3,s4⟩:=vT (R:=R) (N:=N) (c:=b[k+1]'(by omega)) (by omega) bk
 obtain⟨Sv,v1,v2,v3,v4⟩:=US (R:=R) (N:=N) (a:=b) (t:=false) (o:=o') (s:=s) rfl hb s1 (T.le (by omega))
 obtain⟨Su,p1,p2,p3,p4⟩:=US (R:=R) (N:=N) (a:=a) (t:=false) (o:=o) (s:=s) rfl ha s1 (T.le (by omega))
 have hp:0<2 ^ s:=Ai5 (by omega)
 have hP:0<4294967296 ^ (k+1):=Ai5 (by omega)
 have bt:=E_ hb Y
 have bf:=BY Y
 have hVlt:val b*2 ^ s<4294967296 ^ (k+2):=by
  have x1:val b*2 ^ s<(b[k+1]+1)*4294967296 ^ (k+1)*2 ^ s:=(Aka hp).2 bt
  have hd:2 ^ s∣4294967296:=⟨2 ^ (32 - s),by rw[<-Ais,show s+(32 - s)=32 by omega]⟩
  have x2:(b[k+1]+1)*2 ^ s<=4294967296:=by
   obtain⟨r,hr⟩:=hd
   have x3:b[k+1]<r:=by
    rw[hr,Ahn]at s3
    exact Aj0 s3
   have x4:(b[k+1]+1)*2 ^ s<=r*2 ^ s:=Ahp _ x3
   have x5:r*2 ^ s=4294967296:=by rw[Ahn];exact hr.symm
   omega
  have x6:=Ahp (4294967296 ^ (k+1)) x2
  rw[Alm]at x1
  rw[Ahw,Ahn _ 4294967296]
  exact Ah6 x1 x6
 have V:(Sv.take (k+2)).length=k+2:=by rw[Ah3];omega
 have A:val (Sv.take (k+2))=val b*2 ^ s:=by rw[EZ (by rw[v3];exact hVlt),v3]
 have C:2147483648*4294967296 ^ (k+1)<=val b*2 ^ s:=by
  have x1:4294967296 ^ (k+1)*b[k+1]<=val b:=by omega
  have x2:=Ahp (2 ^ s) x1
  rw[Ahq,Ahn (4294967296 ^ (k+1))]at x2
  have x3:=Ahp (4294967296 ^ (k+1)) s2
  omega
 have G:2147483648<=(Sv.take (k+2))[k+1]'(by omega):=by
  have x1:=E_ (Bw v1 (k+2)) V
  rw[A]at x1
  have x2:=Ak6 (Aik C x1)
  omega
 have hDl:Su.length=(a.length+1 - (k+2))+(k+2):=by omega
 have I:val (Su.drop (a.length+1 - (k+2)))<val (Sv.take (k+2)):=by
  have x1:=N1 (Su.take (a.length+1 - (k+2))) (Su.drop (a.length+1 - (k+2)))
  rw[Aj1,p3,Ah3,Aia (by omega)]at x1
  have x2:=A6 ha
  have x3:val a*2 ^ s<4294967296 ^ a.length*2 ^ s:=(Aka hp).2 x2
  have x4:a.length=(a.length+1 - (k+2))+(k+1):=by omega
  generalize hE:a.length+1 - (k+2)=E at *
  have x5:4294967296 ^ a.length=4294967296 ^ E*4294967296 ^ (k+1):=by rw[<-Ais];congr 1
  rw[x5,Ahq]at x3
  have x6:4294967296 ^ E*val (Su.drop E)<4294967296 ^ E*(4294967296 ^ (k+1)*2 ^ s):=by omega
  have x7:=Aj0 x6
  have x8:4294967296 ^ (k+1)*2 ^ s<=2147483648*4294967296 ^ (k+1):=by rw[Ahn];exact Ahp _ (pP s1)
  rw[A];omega
 obtain⟨Sq,Sr,a1,a2,a3,a4,a5⟩:=mJ (R:=R) (N:=N) (v:=Sv.take (k+2)) (u0:=Su) (Sv:=Sv) (n:=k) (D:=a.length+1 - (k+2)) (s:=s) V (Bw v1 _) G (by rw[Ah1,Qv]) p1 hDl s1 (T.le (by omega)) (a.length+1 - (k+2)) N 0 Su (replicate (a.length+1 - (k+2)) 0) (by omega) (by omega) p1 rfl (Bz _) (by simp) rfl I (by
  rw[Aim (show(replicate (a.length+1 - (k+2)) 0).length<=a.length+1 - (k+2) by simp)];simp[val])
 have hq:val Su/val (Sv.take (k+2))=val a/val b:=by rw[p3,A,Nat.mul_div_mul_right _ _ hp]
 have hr:val Su%val (Sv.take (k+2))/2 ^ s=val a%val b:=by rw[p3,A,Nat.mul_mod_mul_right,Nat.mul_div_cancel _ hp]
 rw[hq]at a2;rw[hr]at a4
 refine⟨Sq,Sr,a1,a2,a3,a4,fun K=>?_⟩
 rw[Yq];unfold Pq
 have w1:wrap .i64 ((b.length:Int) - 1)=((k+1:Nat):Int):=by rw[i64 (by omega)];omega
 have w2:wrap .i64 (((a.length+1:Nat):Int) - (b.length:Int))=((a.length+1 - (k+2):Nat):Int):=by rw[i64 (by omega)];omega
 rw[w1,Ab (by omega),ct,HF (by omega),s4,v4,Acb (by omega),ct,p4,w2,yG (by omega),ct,Ahm,Ci]
 have:=a5 K
 rw[hq,hr,p2]at this
 rw[Y]
 exact this
def KN{N:Nat}{a b:List Nat}{n m:Nat}{t o t' o':Bool}(hn:n=a.length)(hm:m=b.length)(ha:Ai a)(hb:Ai b)(C:val b≠0)(A:fit (a.length+b.length+4) N):
  ∃ Sq Sr,Ai Sq/\val Sq=val a/val b/\Ai Sr/\val Sr=val a%val b/\∀ K:Nat->Nat->Bool->LA->LA->O R,Ev N (Ac a) n t o (Ac b) m t' o' K=K (An (val a/val b)).length (An (val a%val b)).length true (Ac Sq) (Ac Sr):=by
 have h1:=A.1;have h2:=A.2
 have la:=(A9 ha).2
 have lb:=(A9 hb).2
 have T:(An (val b)).length≠0:=fun h=>C (Bb.1 h)
 have start:∀ K:Nat->Nat->Bool->LA->LA->O R,Ev N (Ac a) n t o (Ac b) m t' o' K=cond (decide (Gg (val a) (val b)<0)) (X8 N (Ac (An (val a))) (An (val a)).length false o fun s t=>K 0 s true [] t) (cond (decide ((((An (val a)).length:Nat):Int)<=(2:Int))) (O6 N (Ac (An (val a))) (An (val a)).length false o fun p=>O6 N (Ac (An (val b))) (An (val b)).length false o' fun o=>cond (o==(0:Int)) none (Bm N (wrap .u64 (Int.tdiv p o)) fun u w=>cond (o==(0:Int)) none (Bm N (Int.tmod p o) fun x y=>K u x true w y))) (cond ((((An (val b)).length:Nat):Int)==(1:Int)) (cond (Ah (0:Int) (An (val b)).length) (Au .u32 (Ac (An (val b))) fun z=>Gn N (Ac (An (val a))) (An (val a)).length false o z fun aa ab ac ad=>K aa ab true ac ad) none) (Ke N (Ac (An (val a))) (An (val a)).length false o (Ac (An (val b))) (An (val b)).length false o' fun ae af ag ah=>K ae af true ag ah))):=by
  intro K
  rw[OX];unfold QT
  rw[Bj hn ha (A.le (by omega)),Bj hm hb (A.le (by omega)),k_ T,cf,Oq rfl rfl (Ad _) (Ad _) (A.le (by omega)),Aj,Aj]
 by_cases k:val a<val b
 ·refine⟨[],An (val a),Qu,by rw[Aiw k];rfl,Ad _,by rw[Aig k,Aj],fun K=>?_⟩
  rw[start,show decide (Gg (val a) (val b)<0)=true by(unfold Gg;rw[if_pos k];rfl),ct,MV rfl (Ad _) (A.le (by omega)),Aj,Aiw k,Aig k,Dd];rfl
 ·have v:decide (Gg (val a) (val b)<0)=false:=by unfold Gg;rw[if_neg k];split<;>rfl
  have D:=Bh (Aju k)
  by_cases B:(An (val a)).length<=2
  ·have av:=UQ B
   have bv:=UQ (Aje D B)
   have G:val a/val b<18446744073709551616:=Aik (Ajg _ _) av
   have V:val a%val b<18446744073709551616:=Aik (Nat.mod_le _ _) av
   obtain⟨Sq,a1,a2,a3⟩:=Jf (R:=R) (N:=N) G (by omega)
   obtain⟨Sr,b1,b2,b3⟩:=Jf (R:=R) (N:=N) V (by omega)
   refine⟨Sq,Sr,a1,a2,b1,b2,fun K=>?_⟩
   rw[start,v,cf,show decide ((((An (val a)).length:Nat):Int)<=2)=true by simp;omega,ct,BX rfl (Ad _) B (by omega),BX rfl (Ad _) (by omega) (by omega),Aj,Aj,k_ C,cf,PD,Hb G,a3,cf,KL,b3]
  ·have I:decide ((((An (val a)).length:Nat):Int)<=2)=false:=by simp;omega
   by_cases Y:(An (val b)).length=1
   ·obtain⟨x,hx⟩:∃ x,An (val b)=[x]:=by
     match h:An (val b),Y with
     |[x],_=>exact⟨x,rfl⟩
    have L:x=val b:=by have:=Aj (val b);rw[hx]at this;simpa[val]using this
    have xl:x<4294967296:=by have:=Ad (val b);rw[hx]at this;exact(Cr.1 this).1
    obtain⟨Sq,Sr,a1,a2,a3,a4,a5⟩:=rx (R:=R) (N:=N) (a:=An (val a)) (t:=false) (o:=o) (b:=x) rfl (Ad _) (by omega) xl (A.le (by omega))
    rw[Aj,L]at a2 a4 a5
    refine⟨Sq,Sr,a1,a2,a3,a4,fun K=>?_⟩
    rw[start,v,cf,I,cf,hx]
    simp only[Ah8,Ajo,V6,Av]
    rw[show(((0+1:Nat):Int)==1)=true by rfl,ct,show Ah 0 (0+1)=true by decide,ct,L,a5]
   ·obtain⟨Sq,Sr,a1,a2,a3,a4,a5⟩:=xQ (R:=R) (N:=N) (a:=An (val a)) (b:=An (val b)) (t:=false) (o:=o) (t':=false) (o':=o') rfl rfl (Ad _) (Ad _) (by omega) D (fy _ _) (A.le (by omega))
    rw[Aj,Aj]at a2 a4 a5
    refine⟨Sq,Sr,a1,a2,a3,a4,fun K=>?_⟩
    rw[start,v,cf,I,cf,show((((An (val b)).length:Nat):Int)==1)=false by rw[beq_eq_false_iff_ne];omega,cf,a5]
def Ae4 (A B u0 u1 v0 v1:Nat) (e:Bool):Prop:=v0=0\/(1<=u1/\1<=v1/\match e with
|true=>v0*B<=u0*A/\u1*A<=v1*B/\(v0+v1)*B<=(u0+u1)*A/\u0*v1=v0*u1+1
| false=>u0*A<=v0*B/\v1*B<=u1*A/\(u0+u1)*A<=(v0+v1)*B/\u1*v0=v1*u0+1)
structure Lead(X Y x y u1 u2 v1 v2:Nat)(e:Bool):Prop where
 le:y<=x
 idV:x*v2+y*v1=X
 idU:x*u2+y*u1=Y
 pos:1<=v2
 par:match e with
  |false=>x+v1*Y=u1*X/\y+u2*X=v2*Y/\u1*v2=v1*u2+1
  |true=>x+u1*X=v1*Y/\y+v2*Y=u2*X/\u2*v1=v2*u1+1
 small:(v1=0/\u1=1/\u2=0/\v2=1/\e=false)\/(1<=v1/\u1<=v1/\u2<=v2/\1<=u2)
def Lead.init{X Y:Nat}(h:Y<=X):Lead X Y X Y 1 0 0 1 false:=⟨h,by simp,by simp,by omega,by simp,.inl ⟨rfl,rfl,rfl,rfl,rfl⟩⟩
def Lead.step{X Y x y u1 u2 v1 v2:Nat}{e:Bool}(L:Lead X Y x y u1 u2 v1 v2 e)(T:1<=y):Lead X Y y (x%y) u2 (u1+x/y*u2) v2 (v1+x/y*v2) (!e):=by
 have k:=Aix x y
 have G:=Ajf x (show 0<y by omega)
 have hq:1<=x/y:=by rw[Ak0 (by omega)];have:=L.le;omega
 generalize x/y=q at *
 generalize x%y=r at *
 have v:=L.pos
 refine⟨by omega,?_,?_,?_,?_,?_⟩
 ·rw[<-L.idV,<-k,Ahs,Ahv,Ahq];omega
 ·rw[<-L.idU,<-k,Ahs,Ahv,Ahq];omega
 ·have:=Ajh hq v;omega
 ·have p:=L.par
  cases e with
  | false =>
   obtain⟨I,A,C⟩:=p
   refine⟨A,?_,?_⟩
   ·have e1:q*(y+u2*X)=q*(v2*Y):=by rw[A]
    rw[Ahs,<-Ahq,<-Ahq]at e1
    rw[Ahn y q]at k
    rw[Ahv,Ahv];omega
   ·rw[Ahv,Ahv,Alm q u2,C];omega
  | true =>
   obtain⟨I,A,C⟩:=p
   refine⟨A,?_,?_⟩
   ·have e1:q*(y+v2*Y)=q*(u2*X):=by rw[A]
    rw[Ahs,<-Ahq,<-Ahq]at e1
    rw[Ahn y q]at k
    rw[Ahv,Ahv];omega
   ·rw[Ahs,Ahs,C,Ajl u2 q,Ajl v2 q,Ahn u2 v2];omega
 ·right
  rcases L.small with⟨s1,s2,B,D,_⟩|⟨s1,s2,B,D⟩
  ·subst s1 s2 B D;exact⟨by omega,by omega,by omega,by omega⟩
  ·have V:q*u2<=q*v2:=Ah7 _ B
   exact⟨v,B,by omega,by have:=Ajh hq D;omega⟩
def Lead.cof{X Y x y u1 u2 v1 v2 A B P:Nat}{e:Bool}(L:Lead X Y x y u1 u2 v1 v2 e)(hA:X*P<=A)(hA':A<(X+1)*P)(hB:Y*P<=B)(hB':B<(Y+1)*P)(c1:v2<=y)(v:v1+v2<=x - y):Ae4 A B u1 u2 v1 v2 (!e):=by
 have p:=L.par
 have C:=L.le
 rcases L.small with⟨s1,_⟩|⟨s1,s2,T,D⟩
 ·exact .inl s1
 ·refine .inr ⟨D,L.pos,?_⟩
  cases e with
  |false =>
   obtain⟨G,I,k⟩:=p
   have n1:u2*A<=v2*B:=X3 hB hA' (w:=y) (by omega) (by omega)
   have n2:(v1+v2)*B<=(u1+u2)*A:=X3 hA hB' (w:=x - y) (by rw[Ahv,Ahv];omega) v
   refine⟨?_,n1,n2,k⟩
   rw[Ahv,Ahv]at n2;omega
  |true =>
   obtain⟨G,I,k⟩:=p
   have n1:v2*B<=u2*A:=X3 hA hB' (w:=y) (by omega) (by omega)
   have n2:(u1+u2)*A<=(v1+v2)*B:=X3 hB hA' (w:=x - y) (by rw[Ahv,Ahv];omega) (by omega)
   refine⟨?_,n1,n2,k⟩
   rw[Ahv,Ahv]at n2;omega
def KO{x y:Nat}(v:1<=y)(h:y<=x):2*(y*(x%y))<=x*y:=by
 have A:=Aix x y
 have B:=Ajf x (show 0<y by omega)
 have hq:1<=x/y:=by rw[Ak0 (by omega)];omega
 have C:y*1<=y*(x/y):=Ah7 _ hq
 have k:2*(x%y)<=x:=by omega
 have:=Ah7 y k
 rw[Ahn x y,Ajl];exact this
def vW(u0 u1 v0 v1:Nat)(e:Bool):LA:=[.int .u64 (u0:Int),.int .u64 (u1:Int),.int .u64 (v0:Int),.int .u64 (v1:Int),.bool e]
def xR{N:Nat}{X Y A B P:Nat}(hX:X<18446744073709551616)(hYX:Y<=X)(hA:X*P<=A)(hA':A<(X+1)*P)(hB:Y*P<=B)(hB':B<(Y+1)*P):∀(k fuel x y u0 u1 u2 v0 v1 v2:Nat)(e:Bool),k<fuel->x*y<2 ^ k->Lead X Y x y u1 u2 v1 v2 e->Ae4 A B u0 u1 v0 v1 e->u0<18446744073709551616->u1<18446744073709551616->v0<18446744073709551616->v1<18446744073709551616 ->
  ∃(a1 a2 G D:Nat)(e':Bool),Ae4 A B a1 a2 G D e'/\a1<18446744073709551616/\a2<18446744073709551616/\G<18446744073709551616/\D<18446744073709551616/\∀ K:LA->O R,Do N K fuel (x:Int) (y:Int) (u0:Int) (u1:Int) (u2:Int) (v0:Int) (v1:Int) (v2:Int) e=K (vW a1 a2 G D e'):=by
 intro k
 induction k with
| zero =>
  intro fuel x y u0 u1 u2 v0 v1 v2 e hf I L C G D b3 b4
  obtain⟨fuel,rfl⟩:∃ F,fuel=F+1:=⟨fuel - 1,by omega⟩
  have V:y=0:=by
   rcases Aib y with h|h
   ·exact h
   ·have h3:=Ah7 x (show 1<=y by omega)
    have h4:=L.le
    rw[Alw]at I
    omega
  refine⟨u0,u1,v0,v1,e,C,G,D,b3,b4,fun K=>?_⟩
  rw[Do];unfold Hx
  have:=L.pos
  rw[show decide ((y:Int)>=(v2:Int))=false by simp;omega];rfl
| succ k ih =>
  intro fuel x y u0 u1 u2 v0 v1 v2 e hf I L C G D b3 b4
  obtain⟨fuel,rfl⟩:∃ F,fuel=F+1:=⟨fuel - 1,by omega⟩
  have hv2:=L.pos
  have T:=L.le
  by_cases c1:v2<=y
  ·have V:1<=y:=by omega
   have hxX:x<=X:=by
    have:=Ah7 x hv2
    have:=L.idV;omega
   have hsum:v1+v2<=X:=by
    have h1:=Ahp v2 (show 1<=x by omega)
    have h2:=Ahp v1 V
    have:=L.idV;omega
   by_cases c2:v1+v2<=x - y
   ·have L':=L.step V
    have C':=L.cof hA hA' hB hB' c1 c2
    have i1:=L'.idV
    have i2:=L'.idU
    have w1:v1+x/y*v2<=X:=by
     have:=Ahp (v1+x/y*v2) V;omega
    have w2:u1+x/y*u2<=Y:=by
     have:=Ahp (u1+x/y*u2) V;omega
    have hu2:u2<18446744073709551616:=by
     have h1:=Ahp u2 (show 1<=x by omega)
     have:=L.idU;omega
    have hv2':v2<18446744073709551616:=by omega
    have hlt:y*(x%y)<2 ^ k:=by
     have:=KO V T
     rw[Ahw]at I;omega
    obtain⟨a1,a2,d1,d2,e',r1,r2,r3,r4,r5,r6⟩:=ih fuel y (x%y) u1 u2 (u1+x/y*u2) v1 v2 (v1+x/y*v2) (!e) (by omega) hlt L' C' D hu2 b4 hv2'
    refine⟨a1,a2,d1,d2,e',r1,r2,r3,r4,r5,fun K=>?_⟩
    rw[Do];unfold Hx
    have v:x<18446744073709551616:=by omega
    have hdiv:x/y<18446744073709551616:=Aik (Ajg _ _) v
    rw[show decide ((y:Int)>=(v2:Int))=true by simp;omega,show((true:Bool)==true)=true by rfl,ct,XB v T,AQ,Hb (show v1+v2<18446744073709551616 by omega),show decide (((x - y:Nat):Int)>=((v1+v2:Nat):Int))=true by rw[decide_eq_true_eq];omega,rP,ct]
    unfold R4
    rw[k_ (by omega),cf,cf,PD,KL,Hb hdiv,gA,gA,Hb (show x/y*u2<18446744073709551616 by omega),Hb (show x/y*v2<18446744073709551616 by omega),AQ,AQ,Hb (show u1+x/y*u2<18446744073709551616 by omega),Hb (show v1+x/y*v2<18446744073709551616 by omega)]
    exact r6 K
   ·refine⟨u0,u1,v0,v1,e,C,G,D,b3,b4,fun K=>?_⟩
    rw[Do];unfold Hx
    rw[show decide ((y:Int)>=(v2:Int))=true by simp;omega,show((true:Bool)==true)=true by rfl,ct,XB (by omega) T,AQ,Hb (show v1+v2<18446744073709551616 by omega),show decide (((x - y:Nat):Int)>=((v1+v2:Nat):Int))=false by rw[decide_eq_false_iff_not];omega,rP,cf]
    rfl
  ·refine⟨u0,u1,v0,v1,e,C,G,D,b3,b4,fun K=>?_⟩
   rw[Do];unfold Hx
   rw[show decide ((y:Int)>=(v2:Int))=false by simp;omega];rfl
def YO{N:Nat}{a:List Nat}{n:Nat}{t o:Bool}{i:Nat}{K:Int->O R}(hn:n=a.length)(k:Ai a):Kc N (i:Int) (Ac a) n t o K=K ((a.getD i 0:Nat):Int):=by
 subst hn
 rw[Ya];unfold Wx
 by_cases h:i<a.length
 ·have:=Az k h
  rw[Jy h,ct,Ab h,ct,HF h,Hb (by omega),Ahr,Ahk h];rfl
 ·rw[K4 (by omega),cf,Ahr,Air (by omega)];rfl
def Wa{a:List Nat}(k:Ai a)(i:Nat):a.getD i 0<4294967296:=by
 by_cases h:i<a.length
 ·rw[Ahr,Ahk h];exact Az k h
 ·rw[Ahr,Air (by omega)];simp
def zO{a:List Nat}{n:Nat}(B:a.length<=n+3):val a=val (a.take n)+4294967296 ^ n*((a.getD (n+2) 0*4294967296+a.getD (n+1) 0)*4294967296+a.getD n 0):=by
 have k:=Ot a (n+2)
 have v:=Ot a (n+1)
 have A:=Ot a n
 rw[Ahi (by omega)]at k
 have x1:4294967296 ^ (n+2)*a.getD (n+2) 0=4294967296 ^ n*(a.getD (n+2) 0*4294967296*4294967296):=by rw[Ahw (n:=4294967296) (m:=n+1),Ahw,Ad4,Ad4]
 have x2:4294967296 ^ (n+1)*a.getD (n+1) 0=4294967296 ^ n*(a.getD (n+1) 0*4294967296):=by rw[Ahw,Ad4]
 rw[k,v,A,x1,x2,Ahv,Ahs,Ahs];omega
def b6{N:Nat}{a:List Nat}{m n s:Nat}{t o:Bool}{K:Int->O R}(D:m=a.length)(A:Ai a)(hl:a.length<=n+3)(hs:s<=31)(v:a.getD (n+2) 0*2 ^ s<4294967296)(hn:n<=1000000000000):
  AT N (Ac a) m t o ((n+3:Nat):Int) (s:Int) K=K ((val a/(4294967296 ^ n*2 ^ (32 - s)):Nat):Int)/\val a/(4294967296 ^ n*2 ^ (32 - s))<18446744073709551616:=by
 have hp:0<2 ^ s:=Ai5 (by omega)
 have B:0<2 ^ (32 - s):=Ai5 (by omega)
 have hP:0<4294967296 ^ n:=Ai5 (by omega)
 have k:2 ^ s*2 ^ (32 - s)=4294967296:=by rw[<-Ais,show s+(32 - s)=32 by omega]
 have b0:=Wa A (n+2)
 have b1:=Wa A (n+1)
 have b2:=Wa A n
 have tk:=A6 (Bw A n)
 have kc:val (a.take n)<4294967296 ^ n:=by
  refine Ah6 tk (Aih (by omega) ?_)
  rw[Ah3];omega
 have hv:=zO hl
 generalize G:a.getD (n+2) 0=a0 at *
 generalize I:a.getD (n+1) 0=a1 at *
 generalize L:a.getD n 0=a2 at *
 have T:a0<2 ^ (32 - s):=by
  rw[<-k,Ahn]at v;exact Aj0 v
 have C:(a0*4294967296+a1)*2 ^ s<18446744073709551616:=by
  have x1:(a0+1)*4294967296<=2 ^ (32 - s)*4294967296:=Ahp _ T
  have x2:a0*4294967296+a1<2 ^ (32 - s)*4294967296:=by rw[Ahv]at x1;omega
  have x3:=(Aka hp).2 x2
  rw[Alm,Ahn (2 ^ (32 - s)),k]at x3
  exact x3
 have V:a2/2 ^ (32 - s)<2 ^ s:=by
  rw[Al0 B,k];exact b2
 have hq:val a/(4294967296 ^ n*2 ^ (32 - s))=(a0*4294967296+a1)*2 ^ s+a2/2 ^ (32 - s):=by
  rw[<-Alv,hv,Aj9 _ _ hP,Aiw kc,Ah0]
  have:(a0*4294967296+a1)*4294967296+a2=a2+2 ^ (32 - s)*((a0*4294967296+a1)*2 ^ s):=by
   rw[Ajl,Ahn (2 ^ (32 - s)),k];omega
  rw[this,Aj9 _ _ B];omega
 have hb:(a0*4294967296+a1)*2 ^ s+a2/2 ^ (32 - s)<18446744073709551616:=by
  have Y:2 ^ s*2 ^ (64 - s)=18446744073709551616:=by rw[<-Ais,show s+(64 - s)=64 by omega]
  obtain⟨r,hr⟩:∃ r,18446744073709551616=2 ^ s*r:=⟨2 ^ (64 - s),Y.symm⟩
  rw[hr,Ahn]at C
  have x1:=Aj0 C
  have x2:(a0*4294967296+a1+1)*2 ^ s<=r*2 ^ s:=Ahp _ x1
  rw[Ahv,Ahn r,<-hr]at x2
  omega
 rw[hq]
 refine⟨?_,hb⟩
 rw[OM];unfold QH
 have w1:wrap .i64 (((n+3:Nat):Int) - 1)=((n+2:Nat):Int):=by rw[i64 (by omega)];omega
 have w2:wrap .i64 (((n+3:Nat):Int) - 2)=((n+1:Nat):Int):=by rw[i64 (by omega)];omega
 have w3:wrap .i64 (((n+3:Nat):Int) - 3)=(n:Int):=by rw[i64 (by omega)];omega
 have w4:wrap .i64 ((32:Int) - (s:Int))=((32 - s:Nat):Int):=by rw[i64 (by omega)];omega
 rw[w1,w2,w3,w4,YO D A,YO D A,show decide ((s:Int)<0)=false by simp,cf,YO D A,show decide (((32 - s:Nat):Int)<0)=false by simp,cf]
 rw[G,I,L,Ada b0 b1,Ahm,Ahm,Aia (by omega),Aia (by omega),O5,show(2:Int) ^ s=((2 ^ s:Nat):Int) by simp,gA,Hb C,ta C (by omega),XD V]
def pQ{N:Nat}{a b:List Nat}{n m:Nat}{t o t' o':Bool}(hn:n=a.length)(hm:m=b.length)(V:Ai a)(hb:Ai b)(G:3<=a.length)(C:a.getLast (by intro h;rw[h]at G;simp at G)≠0)(hlb:b.length<=a.length)(hle:val b<=val a)(hf:fit a.length N):
  ∃(a1 a2 I L:Nat)(e:Bool),Ae4 (val a) (val b) a1 a2 I L e/\a1<18446744073709551616/\a2<18446744073709551616/\I<18446744073709551616/\L<18446744073709551616/\∀ K:LA->O R,Wy N (Ac a) n t o (Ac b) m t' o' K=K (vW a1 a2 I L e):=by
 subst hn hm
 have h1:=hf.1;have h2:=hf.2
 obtain⟨k,hk⟩:∃ k,a.length=k+3:=⟨a.length - 3,by omega⟩
 have hla2:a[k+2]'(by omega)≠0:=by
  rw[Akv]at C
  simp only[hk]at C
  exact C
 have ak:=Az V (show k+2<a.length by omega)
 obtain⟨s,s1,s2,s3,s4⟩:=vT (R:=R) (N:=N) (c:=a[k+2]'(by omega)) (by omega) ak
 have hag:a.getD (k+2) 0=a[k+2]'(by omega):=by rw[Ahr,Ahk (by omega)];rfl
 have D:b.getD (k+2) 0<=a[k+2]'(by omega):=by
  apply Aju;intro v
  have T:k+2<b.length:=by
   apply Al3;intro hge
   rw[Ahr,Air hge]at v;simp at v
  have hbg:b.getD (k+2) 0=b[k+2]:=by rw[Ahr,Ahk T];rfl
  rw[hbg]at v
  have x1:=E_ V (n:=k+2) (by omega)
  have x2:=uK T
  have x3:(a[k+2]+1)*4294967296 ^ (k+2)<=b[k+2]*4294967296 ^ (k+2):=Ahp _ v
  rw[Ahn]at x2
  omega
 have hbt:b.getD (k+2) 0*2 ^ s<4294967296:=Aik (Ahp _ D) s3
 have hPP:0<4294967296 ^ k*2 ^ (32 - s):=Amx (Ai5 (by omega)) (Ai5 (by omega))
 have wa:=fun K=>b6 (R:=R) (N:=N) (a:=a) (m:=a.length) (n:=k) (s:=s) (t:=false) (o:=o) (K:=K) rfl V (by omega) s1 (by rw[hag];exact s3) (by omega)
 have wb:=fun K=>b6 (R:=R) (N:=N) (a:=b) (m:=b.length) (n:=k) (s:=s) (t:=false) (o:=o') (K:=K) rfl hb (by omega) s1 hbt (by omega)
 have hX:=(wa fun _=>none).2
 generalize hP:4294967296 ^ k*2 ^ (32 - s)=P at *
 have hYX:val b/P<=val a/P:=Nat.div_le_div_right hle
 have q1:∀ z,z/P*P<=z:=fun z=>Nat.div_mul_le_self z P
 have q2:∀ z,z<(z/P+1)*P:=fun z=>by
  have:=Aix z P;have:=Ajf z hPP
  rw[Ahv,Ahn];omega
 obtain⟨a1,a2,I,L,e,r1,r2,r3,r4,r5,r6⟩:=xR (R:=R) (N:=N) (X:=val a/P) (Y:=val b/P) (A:=val a) (B:=val b) (P:=P) hX hYX (q1 _) (q2 _) (q1 _) (q2 _) 128 N (val a/P) (val b/P) 0 1 0 0 0 1 false (by omega) (by
  have:=Ait hX (Aik hYX hX)
  exact this) (Lead.init hYX) (.inl rfl) (by omega) (by omega) (by omega) (by omega)
 refine⟨a1,a2,I,L,e,r1,r2,r3,r4,r5,fun K=>?_⟩
 rw[JB];unfold Yb
 have w1:wrap .i64 ((a.length:Int) - 1)=((k+2:Nat):Int):=by rw[i64 (by omega)];omega
 rw[w1,Ab (by omega),ct,HF (by omega),s4,show(a.length:Int)=((k+3:Nat):Int) by rw[hk],(wa _).1,(wb _).1]
 exact r6 K
def Vq{N:Nat}{a b:List Nat}{n m:Nat}{x y:Nat}{t o t' o':Bool}(hn:n=a.length)(Y:m=b.length)(C:Ai a)(D:Ai b)(v:x<18446744073709551616)(A:y<18446744073709551616)(B:val b*y<=val a*x)(k:fit (a.length+b.length+4) N):
  ∃ S,Ai S/\val S=val a*x - val b*y/\∀ K:Nat->LA->O R,F2 N (Ac a) n t o (x:Int) (Ac b) m t' o' (y:Int) K=K (An (val a*x - val b*y)).length (Ac S):=by
 subst hn Y
 have h1:=k.1;have h2:=k.2
 obtain⟨Sx,x1,x2,x3⟩:=Jf (R:=R) (N:=N) v (by omega)
 obtain⟨Sy,y1,y2,y3⟩:=Jf (R:=R) (N:=N) A (by omega)
 have lx:=Vp v
 have ly:=Vp A
 obtain⟨P1,p1,G,I⟩:=KK (R:=R) (N:=N) (a:=a) (b:=An x) (t:=false) (o:=o) (t':=false) (o':=true) rfl rfl C (Ad _) (k.le (by omega))
 obtain⟨P2,q1,L,T⟩:=KK (R:=R) (N:=N) (a:=b) (b:=An y) (t:=false) (o:=o') (t':=false) (o':=true) rfl rfl D (Ad _) (k.le (by omega))
 rw[Aj]at G I L T
 have l1:(An (val a*x)).length<=a.length+2:=Ch (by
  have:=Ait (A6 C) v
  rw[Ais];exact this)
 have l2:(An (val b*y)).length<=b.length+2:=Ch (by
  have:=Ait (A6 D) A
  rw[Ais];exact this)
 obtain⟨S,s1,s2,V⟩:=iR (R:=R) (N:=N) (a:=An (val a*x)) (b:=An (val b*y)) (t:=false) (o:=true) (t':=false) (o':=true) rfl rfl (Ad _) (Ad _) (k.le (by omega)) (by rw[Aj,Aj];exact B)
 rw[Aj,Aj]at s2 V
 refine⟨S,s1,s2,fun K=>?_⟩
 rw[JW];unfold JV
 have tx:take ((An x).length*1) (Ac Sx)=Ac (An x):=by rw[<-x2,Kd x1]
 have ty:take ((An y).length*1) (Ac Sy)=Ac (An y):=by rw[<-y2,Kd y1]
 have t1:take ((An (val a*x)).length*1) (Ac P1)=Ac (An (val a*x)):=by rw[<-G,Kd p1]
 have t2:take ((An (val b*y)).length*1) (Ac P2)=Ac (An (val b*y)):=by rw[<-L,Kd q1]
 rw[x3,tx,I,y3,ty,T,t1,t2,V]
def xS{N:Nat}(hN:4<=N):∀(k fuel x y:Nat),k<fuel->x*y<2 ^ k->y<=x->x<18446744073709551616->∃ S,Ai S/\val S=Nat.gcd x y/\∀(A:LA->Nat->Bool->LA->Nat->Bool->O R)(K:Nat->LA->O R),Ok N A K fuel (x:Int) (y:Int)=K (An (Nat.gcd x y)).length (Ac S):=by
 have base:∀(fuel x:Nat),x<18446744073709551616->∃ S,Ai S/\val S=Nat.gcd x 0/\∀(A:LA->Nat->Bool->LA->Nat->Bool->O R)(K:Nat->LA->O R),Ok N A K (fuel+1) (x:Int) ((0:Nat):Int)=K (An (Nat.gcd x 0)).length (Ac S):=by
  intro fuel x B
  obtain⟨S,s1,s2,D⟩:=Jf (R:=R) (N:=N) B hN
  refine⟨S,s1,by rw[s2,Ajs],fun A K=>?_⟩
  rw[Ok];unfold EH
  rw[show(((0:Nat):Int) != 0)=false by rfl,cf,D,Ajs]
 intro k
 induction k with
| zero =>
  intro fuel x y G v C B
  obtain⟨fuel,rfl⟩:∃ F,fuel=F+1:=⟨fuel - 1,by omega⟩
  have I:y=0:=by
   rcases Aib y with h|h
   ·exact h
   ·have V:=Ah7 x (show 1<=y by omega)
    rw[Alw]at v;omega
  subst I
  exact base fuel x B
| succ k L =>
  intro fuel x y G v C B
  obtain⟨fuel,rfl⟩:∃ F,fuel=F+1:=⟨fuel - 1,by omega⟩
  rcases Aib y with h|h
  ·subst h;exact base fuel x B
  ·have Y:=KO (show 1<=y by omega) C
   have hm:=Ajf x h
   obtain⟨S,s1,s2,D⟩:=L fuel y (x%y) (by omega) (by rw[Ahw]at v;omega) (by omega) (by omega)
   have T:Nat.gcd y (x%y)=Nat.gcd x y:=by rw[Ai7,<-Amw,Ai7]
   rw[T]at s2 D
   refine⟨S,s1,s2,fun A K=>?_⟩
   rw[Ok];unfold EH
   rw[show((y:Int) != 0)=true by rw[bne_iff_ne];omega,ct,k_ (by omega),cf,KL]
   exact D A K
def mK{a b u v s t x y:Nat}(A:x+v*b=u*a)(B:y+s*a=t*b)(k:u*t=v*s+1):t*x+v*y=a/\s*x+u*y=b:=by
 constructor
 ·have C:t*x+t*v*b=t*u*a:=by rw[Ahq,Ahq,<-Ahs,A]
  have D:v*y+v*s*a=v*t*b:=by rw[Ahq,Ahq,<-Ahs,B]
  have G:t*u*a=v*s*a+a:=by rw[Ahn t u,k,Ahv,Amy]
  have I:t*v*b=v*t*b:=by rw[Ahn t v]
  omega
 ·have C:s*x+s*v*b=s*u*a:=by rw[Ahq,Ahq,<-Ahs,A]
  have D:u*y+u*s*a=u*t*b:=by rw[Ahq,Ahq,<-Ahs,B]
  have G:u*t*b=v*s*b+b:=by rw[k,Ahv,Amy]
  have I:s*u*a=u*s*a:=by rw[Ahn s u]
  have L:s*v*b=v*s*b:=by rw[Ahn s v]
  omega
def mL{A B a b p q r s:Nat}(hA:p*a+q*b=A)(hB:r*a+s*b=B)(k:1<=p)(hq:1<=q)(hr:1<=r)(v:b<=a):2*(a*b)<=A*B/\a<=A:=by
 have G:=Ahp a k
 have I:=Ahp b hq
 have L:=Ahp a hr
 have C:2*b<=A:=by omega
 have D:a<=B:=by omega
 have:=Ajh C D
 refine⟨?_,by omega⟩
 rw[Ahn a b,<-Ahq];exact this
def Adf{u0 u1 v0 v1:Nat}{e:Bool}:setCells [.int .u64 0,.int .u64 0,.int .u64 0,.int .u64 0,.bool false] 0 (vW u0 u1 v0 v1 e)=vW u0 u1 v0 v1 e:=rfl
def rz{N:Nat}:∀(k fuel A B:Nat)(d f:Bool),k<fuel->A*B<2 ^ k->B<=A->fit (2*(An A).length+4) N->∃ S,Ai S/\val S=Nat.gcd A B/\∀ K:Nat->LA->O R,Ee N K fuel (Ac (An A)) (An A).length d (Ac (An B)) (An B).length f=K (An (Nat.gcd A B)).length (Ac S):=by
 have base:∀(fuel A:Nat)(d f:Bool),fit (2*(An A).length+4) N->∃ S,Ai S/\val S=Nat.gcd A 0/\∀ K:Nat->LA->O R,Ee N K (fuel+1) (Ac (An A)) (An A).length d (Ac (An 0)) (An 0).length f=K (An (Nat.gcd A 0)).length (Ac S):=by
  intro fuel A d f C
  refine⟨An A,Ad _,by rw[Aj,Ajs],fun K=>?_⟩
  rw[Ee];unfold Xc
  rw[Dd,show decide (((([]:List Nat).length:Nat):Int)>0)=false by decide,cf,MV rfl (Ad _) (C.le (by omega)),Aj,Ajs]
 intro k
 induction k with
| zero =>
  intro fuel A B d f hfu I G C
  obtain⟨fuel,rfl⟩:∃ F,fuel=F+1:=⟨fuel - 1,by omega⟩
  have hy:B=0:=by
   rcases Aib B with h|h
   ·exact h
   ·have h3:=Ah7 A (show 1<=B by omega)
    rw[Alw]at I;omega
  subst hy
  exact base fuel A d f C
| succ k ih =>
  intro fuel A B d f hfu I G C
  have h1:=C.1;have h2:=C.2
  obtain⟨fuel,rfl⟩:∃ F,fuel=F+1:=⟨fuel - 1,by omega⟩
  rcases Aib B with h|h
  ·subst h;exact base fuel A d f C
  have hll:=Bh G
  have hbl:(An B).length≠0:=fun h0=>by have:=Bb.1 h0;omega
  have hd0:decide ((((An B).length:Nat):Int)>0)=true:=by rw[decide_eq_true_eq];omega
  by_cases ha2:(An A).length<=2
  ·have av:=UQ ha2
   obtain⟨S,s1,s2,T⟩:=xS (R:=R) (N:=N) (by omega) 128 N A B (by omega) (by have:=Ait av (Aik G av);exact this) G av
   refine⟨S,s1,s2,fun K=>?_⟩
   rw[Ee];unfold Xc
   rw[hd0,ct,show decide ((((An A).length:Nat):Int)<=2)=true by rw[decide_eq_true_eq];omega,ct,BX rfl (Ad _) ha2 (by omega),BX rfl (Ad _) (by omega) (by omega),Aj,Aj]
   exact T _ K
  ·have hd2:decide ((((An A).length:Nat):Int)<=2)=false:=by rw[decide_eq_false_iff_not];omega
   obtain⟨a1,a2,v,D,e,r1,r2,r3,r4,r5,r6⟩:=pQ (R:=R) (N:=N) (a:=An A) (b:=An B) (t:=false) (o:=d) (t':=false) (o':=f) rfl rfl (Ad _) (Ad _) (by omega) (fy _ _) hll (by rw[Aj,Aj];exact G) (C.le (by omega))
   rw[Aj,Aj]at r1
   have start:∀ K:Nat->LA->O R,Ee N K (fuel+1) (Ac (An A)) (An A).length d (Ac (An B)) (An B).length f=cond ((v:Int)==0) (Ev N (Ac (An A)) (An A).length false d (Ac (An B)) (An B).length false f fun bm ag bn bo ar=>Ee N K fuel (Ac (An B)) (An B).length f (take (ag*1) ar) ag false) (cond e (F2 N (Ac (An A)) (An A).length false d (a1:Int) (Ac (An B)) (An B).length false f (v:Int) fun ah ax=>F2 N (Ac (An B)) (An B).length false f (D:Int) (Ac (An A)) (An A).length false d (a2:Int) fun ai ba=>Ee N K fuel (take (ah*1) ax) ah false (take (ai*1) ba) ai false) (F2 N (Ac (An B)) (An B).length false f (v:Int) (Ac (An A)) (An A).length false d (a1:Int) fun aj bd=>F2 N (Ac (An A)) (An A).length false d (a2:Int) (Ac (An B)) (An B).length false f (D:Int) fun ak bg=>Ee N K fuel (take (aj*1) bd) aj false (take (ak*1) bg) ak false)):=by
    intro K
    rw[Ee];unfold Xc
    rw[hd0,ct,hd2,cf,r6,Adf]
    rfl
   by_cases V:v=0
   ·obtain⟨Sq,Sr,q1,q2,q3,q4,q5⟩:=KN (R:=R) (N:=N) (a:=An A) (b:=An B) (t:=false) (o:=d) (t':=false) (o':=f) rfl rfl (Ad _) (Ad _) (by rw[Aj];omega) (C.le (by omega))
    rw[Aj,Aj]at q2 q4 q5
    have hm:=Ajf A h
    have hh:=KO (show 1<=B by omega) G
    obtain⟨S,s1,s2,T⟩:=ih fuel B (A%B) f false (by omega) (by rw[Ahw]at I;omega) (by omega) (C.le (by omega))
    have Y:Nat.gcd B (A%B)=Nat.gcd A B:=by rw[Ai7,<-Amw,Ai7]
    rw[Y]at s2 T
    refine⟨S,s1,s2,fun K=>?_⟩
    have tk:take ((An (A%B)).length*1) (Ac Sr)=Ac (An (A%B)):=by rw[<-q4,Kd q3]
    rw[start,Agb V,ct,q5,tk,T]
   ·rcases r1 with r1|⟨p1,p2,r1⟩
    ·exact absurd r1 V
    cases e with
    |true =>
     obtain⟨c1,c2,c3,c4⟩:=r1
     obtain⟨S1,t1,t2,t3⟩:=Vq (R:=R) (N:=N) (a:=An A) (b:=An B) (x:=a1) (y:=v) (t:=false) (o:=d) (t':=false) (o':=f) rfl rfl (Ad _) (Ad _) r2 r4 (by rw[Aj,Aj,Ahn,Ahn A];exact c1) (C.le (by omega))
     obtain⟨S2,w1,w2,w3⟩:=Vq (R:=R) (N:=N) (a:=An B) (b:=An A) (x:=D) (y:=a2) (t:=false) (o:=f) (t':=false) (o':=d) rfl rfl (Ad _) (Ad _) r5 r3 (by rw[Aj,Aj,Ahn,Ahn B];exact c2) (C.le (by omega))
     rw[Aj,Aj]at t2 t3 w2 w3
     have g1:(A*a1 - B*v)+v*B=a1*A:=by rw[Ahn A,Ahn B];omega
     have g2:(B*D - A*a2)+a2*A=D*B:=by rw[Ahn A,Ahn B];omega
     have L:B*D - A*a2<=A*a1 - B*v:=by rw[Ahv,Ahv]at c3;omega
     obtain⟨i1,i2⟩:=mK g1 g2 c4
     have Y:=rG g1 g2 c4
     obtain⟨i3,i4⟩:=mL i1 i2 p2 (by omega) p1 L
     have hl:=Bh i4
     obtain⟨S,s1,s2,T⟩:=ih fuel (A*a1 - B*v) (B*D - A*a2) false false (by omega) (by rw[Ahw]at I;omega) L (C.le (by omega))
     rw[Y]at s2 T
     refine⟨S,s1,s2,fun K=>?_⟩
     have tk1:take ((An (A*a1 - B*v)).length*1) (Ac S1)=Ac (An (A*a1 - B*v)):=by rw[<-t2,Kd t1]
     have kc:take ((An (B*D - A*a2)).length*1) (Ac S2)=Ac (An (B*D - A*a2)):=by rw[<-w2,Kd w1]
     rw[start,k_ V,cf,ct,t3,w3,tk1,kc,T]
    |false =>
     obtain⟨c1,c2,c3,c4⟩:=r1
     obtain⟨S1,t1,t2,t3⟩:=Vq (R:=R) (N:=N) (a:=An B) (b:=An A) (x:=v) (y:=a1) (t:=false) (o:=f) (t':=false) (o':=d) rfl rfl (Ad _) (Ad _) r4 r2 (by rw[Aj,Aj,Ahn,Ahn B];exact c1) (C.le (by omega))
     obtain⟨S2,w1,w2,w3⟩:=Vq (R:=R) (N:=N) (a:=An A) (b:=An B) (x:=a2) (y:=D) (t:=false) (o:=d) (t':=false) (o':=f) rfl rfl (Ad _) (Ad _) r3 r5 (by rw[Aj,Aj,Ahn,Ahn A];exact c2) (C.le (by omega))
     rw[Aj,Aj]at t2 t3 w2 w3
     have g1:(B*v - A*a1)+a1*A=v*B:=by rw[Ahn A,Ahn B];omega
     have g2:(A*a2 - B*D)+D*B=a2*A:=by rw[Ahn A,Ahn B];omega
     have L:A*a2 - B*D<=B*v - A*a1:=by rw[Ahv,Ahv]at c3;omega
     obtain⟨i1,i2⟩:=mK g2 g1 c4
     have Y:=rG g2 g1 c4
     rw[Ai7]at Y
     rw[Ako]at i1 i2
     obtain⟨i3,i4⟩:=mL i1 i2 p2 (by omega) p1 L
     have hl:=Bh i4
     obtain⟨S,s1,s2,T⟩:=ih fuel (B*v - A*a1) (A*a2 - B*D) false false (by omega) (by rw[Ahw]at I;omega) L (C.le (by omega))
     rw[Y]at s2 T
     refine⟨S,s1,s2,fun K=>?_⟩
     have tk1:take ((An (B*v - A*a1)).length*1) (Ac S1)=Ac (An (B*v - A*a1)):=by rw[<-t2,Kd t1]
     have kc:take ((An (A*a2 - B*D)).length*1) (Ac S2)=Ac (An (A*a2 - B*D)):=by rw[<-w2,Kd w1]
     rw[start,k_ V,cf,cf,t3,w3,tk1,kc,T]
def sA(n m:Nat):4294967296 ^ n*4294967296 ^ m=2 ^ (32*(n+m)):=by rw[<-Ais,show(4294967296:Nat)=2 ^ 32 by rfl,<-Aop]
def zP{N:Nat}{a b:List Nat}{n m:Nat}{t o t' o':Bool}(hn:n=a.length)(G:m=b.length)(B:Ai a)(C:Ai b)(v:fit (2*(a.length+b.length)+4) N):
  ∃ S,Ai S/\val S=Nat.gcd (val a) (val b)/\∀ K:Nat->LA->O R,QW N (Ac a) n t o (Ac b) m t' o' K=K (An (Nat.gcd (val a) (val b))).length (Ac S):=by
 have I:=v.1;have L:=v.2
 have la:=(A9 B).2
 have lb:=(A9 C).2
 have k:val a*val b<2 ^ (32*(a.length+b.length)):=by rw[<-sA];exact Ait (A6 B) (A6 C)
 have start:∀ K:Nat->LA->O R,QW N (Ac a) n t o (Ac b) m t' o' K=cond (decide (Gg (val a) (val b)<0)) (Ee N K N (Ac (An (val b))) (An (val b)).length o' (Ac (An (val a))) (An (val a)).length o) (Ee N K N (Ac (An (val a))) (An (val a)).length o (Ac (An (val b))) (An (val b)).length o'):=by
  intro K
  rw[ge];unfold ef MM QV
  rw[Bj hn B (v.le (by omega)),Bj G C (v.le (by omega)),Oq rfl rfl (Ad _) (Ad _) (v.le (by omega)),Aj,Aj]
 by_cases A:val a<val b
 ·obtain⟨S,s1,s2,D⟩:=rz (R:=R) (N:=N) (32*(a.length+b.length)) N (val b) (val a) o' o (by omega) (by rw[Ahn];exact k) (by omega) (v.le (by omega))
  rw[Ai7]at s2
  refine⟨S,s1,s2,fun K=>?_⟩
  rw[start,show decide (Gg (val a) (val b)<0)=true by(unfold Gg;rw[if_pos A];rfl),ct,D,Ai7]
 ·obtain⟨S,s1,s2,D⟩:=rz (R:=R) (N:=N) (32*(a.length+b.length)) N (val a) (val b) o o' (by omega) k (by omega) (v.le (by omega))
  refine⟨S,s1,s2,fun K=>?_⟩
  rw[start,show decide (Gg (val a) (val b)<0)=false by(unfold Gg;rw[if_neg A];split<;>rfl),cf,D]
def Aef{c:Nat}(h:c<=1000000000000):((ble (0+c) 140737488355328)&&(ble ((0+c)*4) 140737488355328))=true:=by simp;omega
def RF{N:Nat}{l:List Nat}{t o:Bool}{K:Nat->LA->O R}(v:Ai l)(hs:l.length<=1000000000000):∀(c fuel:Nat),c<=l.length->c<fuel ->
  Ln N K (Ac l) l.length t o fuel (c:Int)=K (An (val (l.take c))).length (Ac (An (val (l.take c))))
|0,fuel+1,A,_=>by
  rw[Ln];unfold Vj
  rw[show decide (((0:Nat):Int)>0)=false by simp]
  rw[show((false:Bool)==true)=false by rfl,cf,Acb (by omega),ct,Ahm,Ah1,Qv,X4,Ake,ct,Aef (by omega),ct];rfl
| c+1,fuel+1,A,B=>by
  rw[Ln];unfold Vj
  rw[yr,ct,wP (by omega),Ab (by omega),ct,HF (by omega),rP,Acb (by omega),ct,RF v hs c fuel (by omega) (by omega),Ahm,Ah1,Qv,X4,Ake,ct,Aef (by omega),ct,Ah0]
  by_cases k:l[c]=0
  ·rw[Ax (by omega),k];simp
  ·rw[oS v (by omega) k,Ah3,Aia A]
   rw[k_ k,cf]
def Cu{N:Nat}{l:List Nat}{n:Nat}{t o:Bool}{K:Nat->LA->O R}(hn:n=l.length)(v:Ai l)(k:fit l.length N):Dg N (Ac l) n t o K=K (An (val l)).length (Ac (An (val l))):=by
 subst hn
 have A:=k.1;have B:=k.2
 rw[EN];unfold BP
 rw[RF v (by omega) l.length N (Ahl _) (by omega),Aic]
def sB{N:Nat}{a b:List Nat}{t o t' o':Bool}{K:Bool->O R}(hs:a.length<=1000000000000)(B:a.length=b.length):∀(m j fuel:Nat),j+m=a.length->m<fuel ->
  Jd N K (Ac a) a.length t o (Ac b) b.length t' o' fuel (j:Int)=K (decide (a.drop j=b.drop j))
|0,j,fuel+1,C,_=>by
  rw[Jd];unfold Ss
  rw[K4 (by omega),cf,Aim (by omega),Aim (by omega)];simp
|m+1,j,fuel+1,C,D=>by
  have v:j<a.length:=by omega
  have A:j<b.length:=by omega
  rw[Jd];unfold Ss
  rw[Jy v,ct,Ab v,ct,HF v,Ab A,ct,HF A,wS (by omega),sB hs B m (j+1) fuel (by omega) (by omega),Aip v,Aip A]
  by_cases h:a[j]=b[j]
  ·rw[show(((a[j]:Nat):Int) != ((b[j]:Nat):Int))=false by simp[h],cf];congr 1;rw[decide_eq_decide,List.cons.injEq];exact⟨fun k=>⟨h,k⟩,fun k=>k.2⟩
  ·rw[show(((a[j]:Nat):Int) != ((b[j]:Nat):Int))=true by rw[bne_iff_ne];omega,ct];congr 1;symm;rw[decide_eq_false_iff_not,List.cons.injEq];exact fun k=>h k.1
def zQ{N:Nat}{a b:List Nat}{n m:Nat}{t o t' o':Bool}{K:Bool->O R}(hn:n=a.length)(A:m=b.length)(v:fit a.length N):BS N (Ac a) n t o (Ac b) m t' o' K=K (decide (a=b)):=by
 subst hn A
 have B:=v.1;have C:=v.2
 rw[O_];unfold EO
 by_cases k:a.length=b.length
 ·rw[show((a.length:Int) != (b.length:Int))=false by simp[k],cf]
  have:=sB (R:=R) (N:=N) (t:=t) (o:=o) (t':=t') (o':=o') (K:=K) (by omega) k a.length 0 N (by omega) (by omega)
  simpa using this
 ·rw[show((a.length:Int) != (b.length:Int))=true by rw[bne_iff_ne];omega,ct]
  congr 1;symm;rw[decide_eq_false_iff_not];intro h;exact k (by rw[h])
def Y1{N:Nat}{v:Nat}{K:Nat->LA->O R}(B:v<18446744073709551616)(hN:4<=N):F4 N (v:Int) K=K (An v).length (Ac (An v)):=by
 have A:Ai [v%4294967296,v/4294967296]:=Cr.2 ⟨by omega,Cr.2 ⟨by omega,Qu⟩⟩
 have k:val [v%4294967296,v/4294967296]=v:=by simp[val];omega
 rw[Xe];unfold T4
 rw[P',XC,vP (show v/4294967296<4294967296 by omega)]
 have:=RF (R:=R) (N:=N) (l:=[v%4294967296,v/4294967296]) (t:=false) (o:=true) (K:=K) A (by simp) 2 N (by simp) (by omega)
 rw[show [v%4294967296,v/4294967296].take 2=[v%4294967296,v/4294967296] by rfl,k]at this
 rw[EN];unfold BP
 exact this
def E'{N:Nat}{l:List Nat}{n:Nat}{t o:Bool}{K:Int->Bool->O R}(hn:n=l.length)(G:Ai l)(C:fit l.length N):Rj N (Ac l) n t o K=if val l<18446744073709551616 then K (val l:Int) true else K 0 false:=by
 have T:=C.1
 rw[KC];unfold Ys
 rw[Cu hn G C]
 by_cases h:val l<18446744073709551616
 ·have I:=Vp h
  rw[if_pos h,show decide ((((An (val l)).length:Nat):Int)>2)=false by simp;omega,cf]
  have k:=Aj (val l)
  have A:=Ad (val l)
  obtain⟨M,hM⟩:∃ M,N=M+4:=⟨N - 4,by omega⟩
  rw[hM]
  generalize An (val l)=d at *
  match d,I,k,A with
  |[],_,k,_ =>
   dsimp only
   rw[Dp];unfold Es
   rw[<-k,i64 (by simp)];rfl
  |[x],_,k,A =>
   have B:=(Cr.1 A).1
   have v:val l=x:=by rw[<-k];simp[val]
   dsimp only
   rw[Dp];unfold Es
   rw[i64 (by simp),show((([x]:List Nat).length:Nat):Int) - 1=((0:Nat):Int) by rfl,show decide (((0:Nat):Int)>=0)=true by rfl,ct,Ab (by simp),ct,TC (by simp)]
   rw[Dp];unfold Es
   rw[i64 (by simp),show decide ((((0:Nat):Int) - 1)>=0)=false by rfl,cf]
   have:=Ada (a:=0) (b:=x) (by omega) B
   simp only[Alu]
   rw[Hb (show x<18446744073709551616 by omega),show(0:Int)=((0:Nat):Int) by rfl,this,v];simp
  |[x,y],_,k,A =>
   have B:=(Cr.1 A).1
   have D:=(Cr.1 (Cr.1 A).2).1
   have v:val l=y*4294967296+x:=by rw[<-k];simp[val];omega
   dsimp only
   rw[Dp];unfold Es
   rw[i64 (by simp),show((([x,y]:List Nat).length:Nat):Int) - 1=((1:Nat):Int) by rfl,show decide (((1:Nat):Int)>=0)=true by rfl,ct,Ab (by simp),ct,TC (by simp)]
   rw[Dp];unfold Es
   rw[i64 (by simp),show(((1:Nat):Int) - 1)=((0:Nat):Int) by rfl,show decide (((0:Nat):Int)>=0)=true by rfl,ct,Ab (by simp),ct,TC (by simp)]
   rw[Dp];unfold Es
   rw[i64 (by simp),show decide ((((0:Nat):Int) - 1)>=0)=false by rfl,cf]
   have o1:=Ada (a:=0) (b:=y) (by omega) D
   have o2:=Ada (a:=y) (b:=x) D B
   simp only[Alu,Alt]
   rw[Hb (show y<18446744073709551616 by omega),Hb (show x<18446744073709551616 by omega),show(0:Int)=((0:Nat):Int) by rfl,o1,Ami,Ah0,o2,v]
 ·have:¬ (An (val l)).length<=2:=fun L=>h (UQ L)
  rw[if_neg h,show decide ((((An (val l)).length:Nat):Int)>2)=true by simp;omega,ct]
def mM{N:Nat}{x y:List Nat}{K:Int->O R}(A:Ai x)(B:Ai y)(hs:x.length<=1000000000000)(D:x.length=y.length):∀(i fuel:Nat),i<=x.length->i<fuel ->
  F5 N K x.length y.length (Ac x) (Ac y) fuel ((i:Int) - 1)=K (Gg (val (x.take i)) (val (y.take i)))
|0,fuel+1,_,_=>by
  rw[F5];unfold Nv
  rw[show decide ((((0:Nat):Int) - 1)>=0)=false by simp,cf]
  simp[V9]
| i+1,fuel+1,hi,G=>by
  rw[F5];unfold Nv
  rw[show(((i+1:Nat):Int) - 1)=(i:Int) by omega,show decide ((i:Int)>=0)=true by simp,ct,Ab (by omega),ct,TC (by omega),Ab (by omega),ct,TC (by omega),ct,TC (by omega),ct,TC (by omega),i64 (by omega),
   mM A B hs D i fuel (by omega) (by omega),Ax (by omega),Ax (by omega)]
  have k:=A6 (Bw A i)
  have v:=A6 (Bw B i)
  rw[Ah3,Aia (by omega)]at k v
  by_cases c1:x[i]<y[i]
  ·have:=eh k v c1
   rw[show decide (((x[i]:Nat):Int)<((y[i]:Nat):Int))=true by simp;exact c1,ct]
   unfold Gg;rw[if_pos this]
  ·by_cases C:y[i]<x[i]
   ·have:=eh v k C
    rw[show decide (((x[i]:Nat):Int)<((y[i]:Nat):Int))=false by simp;omega,cf,show decide (((x[i]:Nat):Int)>((y[i]:Nat):Int))=true by simp;exact C,ct]
    unfold Gg;rw[if_neg (by omega),if_pos this]
   ·have:x[i]=y[i]:=by omega
    rw[show decide (((x[i]:Nat):Int)<((y[i]:Nat):Int))=false by simp;omega,cf,show decide (((x[i]:Nat):Int)>((y[i]:Nat):Int))=false by simp;omega,cf,this]
    unfold Gg
    congr 1
    by_cases a1:val (x.take i)<val (y.take i)
    ·rw[if_pos a1,if_pos (by omega)]
    ·by_cases a2:val (y.take i)<val (x.take i)
     ·rw[if_neg a1,if_pos a2,if_neg (by omega),if_pos (by omega)]
     ·rw[if_neg a1,if_neg a2,if_neg (by omega),if_neg (by omega)]
def xT{N:Nat}{a b:List Nat}{n m:Nat}{t o t' o':Bool}{K:Int->O R}(hn:n=a.length)(D:m=b.length)(v:Ai a)(A:Ai b)(k:fit (a.length+b.length) N):
  Tm N (Ac a) n t o (Ac b) m t' o' K=K (Gg (val a) (val b)):=by
 subst hn D
 have G:=k.1;have I:=k.2
 rw[GQ];unfold Vk
 dsimp only
 rw[Cu rfl v (k.le (by omega)),Cu rfl A (k.le (by omega))]
 have la:=(A9 v).2
 have lb:=(A9 A).2
 by_cases B:(An (val a)).length=(An (val b)).length
 ·rw[show((((An (val a)).length:Nat):Int) != (((An (val b)).length:Nat):Int))=false by simp;omega,cf,i64 (by omega),mM (Ad _) (Ad _) (by omega) B _ N (Ahl _) (by omega),Aic,B,Aic,Aj,Aj]
 ·rw[show((((An (val a)).length:Nat):Int) != (((An (val b)).length:Nat):Int))=true by simp;omega,ct]
  by_cases C:(An (val a)).length<(An (val b)).length
  ·have:=EY C
   rw[Jy C,ct]
   unfold Gg;rw[if_pos this]
  ·have:=EY (show(An (val b)).length<(An (val a)).length by omega)
   rw[K4 (by omega),cf]
   unfold Gg;rw[if_neg (by omega),if_pos this]
end
end Gx
