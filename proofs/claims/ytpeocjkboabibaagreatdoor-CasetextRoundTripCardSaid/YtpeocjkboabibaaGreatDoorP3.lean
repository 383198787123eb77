/- A part of the proof; each theorem says what it holds. -/
import Derived.Test.YtpeocjkboabibaaGreatDoorP2
set_option linter.unusedVariables false
set_option linter.defProp false
set_option linter.unusedSimpArgs false
open Nat (ble beq)
open List (take drop replicate)
open Go.IntKind (wrap)
namespace Gx
open Go Go.Proofs
set_option maxRecDepth 100000
noncomputable section
variable{R:Type}(N:Nat)
def Xk(s:RB)(r0:Int->Int->O R)(r1:Lu->Int->Int->Nat->LA->O R):O R:=(Cb N s fun c d a b=>cond (!d) (r0 a b) (Me N c fun e=>cond (!e) (Av N 9 {s with nx:=a,er:=b} (fun f=>r0 a f)) (Am N (s.yD.take (s.zD*1)) s.zD false true c fun g=>cond g (Av N 10 {s with nx:=a,er:=b} (fun h=>r0 a h)) (PW N 3 fun i=>cond (decide ((s.zD:Int)>=i)) (Av N 8 {s with nx:=a,er:=b} (fun j=>r0 a j)) (cond ((ble (s.zD+1) 140737488355328)&&(ble ((s.zD+1)*16) 140737488355328)) (r1 c a b (s.zD+1) ((s.yD.take (s.zD*1))++[.str c])) none)))))
def R7:=(Ad (@Xk R)).1
def AH:@R7 R=@Xk R:=(Ad _).2
def eT(s:RB)(F:KF R):Lu->Int->Int->Nat->LA->O R:=fun l m n o p=>F (.str l) [(100000,bN 0 [Bby 0 s.nw,iv m,iv n,iv s.th,Bby 1 s.nR,Bby 2 s.nB,Bby 3 s.nL,Bby 4 s.nU,Bby 5 s.nS,Bby 6 s.nT,Bby 7 s.nO,.bool s.bg,Bby 8 s.zA,Bby 9 s.zB,.own 300010 0 s.zC,.own 300014 0 o,.own 300011 0 s.zE,.own 300012 0 s.zF,.own 300013 0 s.zG]),(300000,bQ 1 s.cw),(300001,bQ 1 s.cR),(300002,bQ 3 s.cB),(300003,bQ 12 s.cL),(300004,bQ 22 s.cU),(300005,bQ 9 s.cS),(300006,bQ 5 s.cT),(300007,bQ 4 s.cO),(300008,bQ 1 s.yA),(300009,bQ 1 s.yB),(300010,bQ 1 s.yC),(300011,bQ 1 s.yE),(300012,bQ 1 s.yF),(300013,bQ 1 s.yG),(300014,bQ 1 p)]
def iY:=Cr N 108 [Cc N,BQ N,Bu N,Bs N,JX N] wD (VP fun
|[.optr 100000 0,.int .i64 3],s=>some fun _ k=>R7 N s (At1 s k) (eT s k)
| _,_=>none) (aF fun _ s=>by split;intro R F;dsimp only;rw[AH];kernel_rfl;trivial)
def MY(s:RB)(r0:Int->Int->Int->O R):O R:=(Dw N [Bbz,.int .i64 (-1),.int .i64 1,Bbz] false s fun a b c=>r0 a b c)
def DJ:=(Ad (@MY R)).1
def P_:@DJ R=@MY R:=(Ad _).2
def u4:=Cr N 114 [Hu N] Cp (VP fun
|[.optr 100000 0],s=>some fun _ k=>DJ N s (gv s k)
| _,_=>none) (aF fun _ s=>by split;intro R F;dsimp only;rw[P_];kernel_rfl;trivial)
def MZ(s:RB)(r0:Int->Int->Int->O R):O R:=(Dw N [Bbz,.int .i64 1,Bbz,Bbz] false s fun a b c=>r0 a b c)
def Jw:=(Ad (@MZ R)).1
def P':@Jw R=@MZ R:=(Ad _).2
def u5:=Cr N 115 [Hu N] Cp (VP fun
|[.optr 100000 0],s=>some fun _ k=>Jw N s (gv s k)
| _,_=>none) (aF fun _ s=>by split;intro R F;dsimp only;rw[P'];kernel_rfl;trivial)
def GL(s:RB)(r0:Int->Int->Int->O R):O R:=(Dw N [Bbz,Bbz,.int .i64 1,Bbz] false s fun a b c=>r0 a b c)
def Tj:=(Ad (@GL R)).1
def M_:@Tj R=@GL R:=(Ad _).2
def qf:=Cr N 116 [Hu N] Cp (VP fun
|[.optr 100000 0],s=>some fun _ k=>Tj N s (gv s k)
| _,_=>none) (aF fun _ s=>by split;intro R F;dsimp only;rw[M_];kernel_rfl;trivial)
def BV(s:RB)(r0:Int->Int->Int->O R):O R:=(Cb N s fun c e a b=>cond (c==([111,102,102]:Lu)) (r0 0 a b) (cond (c==([115,116,97,114,116,105,110,103]:Lu)) (r0 1 a b) (cond (c==([111,110]:Lu)) (r0 2 a b) (Av N 2 {s with nx:=a,er:=b} (fun d=>r0 0 a d)))))
def Wx:=(Ad (@BV R)).1
def HO:@Wx R=@BV R:=(Ad _).2
def oE:=Cr N 117 [Cc N,Bu N] Cp (VP fun
|[.optr 100000 0],s=>some fun _ k=>Wx N s (gv s k)
| _,_=>none) (aF fun _ s=>by split;intro R F;dsimp only;rw[HO];kernel_rfl;trivial)
def Pp(r0:Int->Int->Nat->Nat->LA->LA->O R)(s:RB)(k0:Int->Int->Nat->Lu->Int->Int->Int->Nat->LA->LA->O R)(g h:Int)(a:Nat)(i:Lu)(j l m:Int)(c:Nat)(b o:LA):O R:=(Hv N ([110,111,108,111,97,100]:Lu) {s with nx:=g,er:=h,zD:=a,yD:=b} (fun q=>cond q (Bg N {s with nx:=g,er:=h,zD:=a,yD:=b} (fun r t u=>Iq N {s with nx:=t,er:=u,zD:=a,yD:=b} (fun v w x=>cond ((ble (c+1) 140737488355328)&&(ble ((c+1)*16) 140737488355328)) (k0 w x a i j l m (c+1) b ((o.take (c*2))++[.int .i64 r,.int .i64 v])) none))) (Ao N ([110,111,108,111,97,100]:Lu) {s with nx:=g,er:=h,zD:=a,yD:=b} (fun y z=>DJ N {s with nx:=y,er:=z,zD:=a,yD:=b} (fun aa ab ac=>Ao N ([114,97,109,112]:Lu) {s with nx:=ab,er:=ac,zD:=a,yD:=b} (fun ad ae=>Bg N {s with nx:=ad,er:=ae,zD:=a,yD:=b} (fun af ag ah=>Bg N {s with nx:=ag,er:=ah,zD:=a,yD:=b} (fun ai aj ak=>Ao N ([115,116,97,114,116]:Lu) {s with nx:=aj,er:=ak,zD:=a,yD:=b} (fun al am=>Bg N {s with nx:=al,er:=am,zD:=a,yD:=b} (fun an ao ap=>Ao N ([115,116,111,112]:Lu) {s with nx:=ao,er:=ap,zD:=a,yD:=b} (fun aq ar=>Bg N {s with nx:=aq,er:=ar,zD:=a,yD:=b} (fun au av aw=>Ao N ([116,105,109,101,115]:Lu) {s with nx:=av,er:=aw,zD:=a,yD:=b} (fun ax ay=>Jw N {s with nx:=ax,er:=ay,zD:=a,yD:=b} (fun az ba bb=>Jw N {s with nx:=ba,er:=bb,zD:=a,yD:=b} (fun bc bd be=>Jw N {s with nx:=bd,er:=be,zD:=a,yD:=b} (fun bf bh bi=>Ao N ([99,111,115,116]:Lu) {s with nx:=bh,er:=bi,zD:=a,yD:=b} (fun bj bk=>Tj N {s with nx:=bj,er:=bk,zD:=a,yD:=b} (fun bl bm bn=>Tj N {s with nx:=bm,er:=bn,zD:=a,yD:=b} (fun bo bp bq=>Jw N {s with nx:=bp,er:=bq,zD:=a,yD:=b} (fun br bs bt=>Ao N ([114,101,115,101,114,118,101]:Lu) {s with nx:=bs,er:=bt,zD:=a,yD:=b} (fun bu bv=>Bg N {s with nx:=bu,er:=bv,zD:=a,yD:=b} (fun bw bx bz=>Iq N {s with nx:=bx,er:=bz,zD:=a,yD:=b} (fun ca cb cc=>Ao N ([97,119,97,121]:Lu) {s with nx:=cb,er:=cc,zD:=a,yD:=b} (fun cd ce=>Kp N ([115,116,97,116,101]:Lu) {s with nx:=cd,er:=ce,zD:=a,yD:=b} (fun p cf cg ch=>Ao N ([115,116,97,116,101]:Lu) {s with nx:=cf,er:=cg,zD:=a,yD:=b} (fun ci cj=>Wx N {s with nx:=ci,er:=cj,zD:=a,yD:=b} (fun ck cl cm=>Jw N {s with nx:=cl,er:=cm,zD:=a,yD:=b} (fun cn co cp=>Bg N {s with nx:=co,er:=cp,zD:=a,yD:=b} (fun cq cr cs=>cond ((ble (s.nU+1) 140737488355328)&&(ble ((s.nU+1)*216) 140737488355328)) (r0 cr cs (s.nU+1) a ((s.cU.take (s.nU*22))++[.str i,.int .i64 j,.int .i64 l,.int .i64 m,.imm (o.take (c*2)) c 2 false false,.int .i64 aa,.int .i64 af,.int .i64 ai,.int .i64 an,.int .i64 au,.int .i64 az,.int .i64 bc,.int .i64 bf,.int .i64 bl,.int .i64 bo,.int .i64 br,.int .i64 bw,.int .i64 ca,.imm (ch.take (p*1)) p 1 false false,.int .i64 ck,.int .i64 cn,.int .i64 cq]) b) none)))))))))))))))))))))))))))))
def Fa(r0:Int->Int->Nat->Nat->LA->LA->O R)(s:RB):Nat->Int->Int->Nat->Lu->Int->Int->Int->Nat->LA->LA->O R
|0=>fun _ _ _ _ _ _ _ _ _ _=>none
|n+1=>Pp N r0 s (Fa r0 s n)
def Wy(r0:Int->Int->Nat->Nat->LA->LA->O R)(q0:Int->Int->Nat->Lu->Int->Int->Int->Nat->LA->LA->O R)(s:RB):O R:=(R7 N s (fun ct cu=>Cu N {s with nx:=ct,er:=cu} (fun cv cx cy=>Ao N ([109,105,110]:Lu) {s with nx:=cx,er:=cy} (fun cz da=>Bg N {s with nx:=cz,er:=da} (fun db dc dd=>Ao N ([109,97,120]:Lu) {s with nx:=dc,er:=dd} (fun de df=>Bg N {s with nx:=de,er:=df} (fun dg dh di=>Ao N ([115,101,103,109,101,110,116,115]:Lu) {s with nx:=dh,er:=di} (fun dj dk=>q0 dj dk s.zD ([]:Lu) cv db dg 0 s.yD []))))))) fun dl dm dn d f=>Cu N {s with nx:=dm,er:=dn,zD:=d,yD:=f} (fun dp dq dr=>Ao N ([109,105,110]:Lu) {s with nx:=dq,er:=dr,zD:=d,yD:=f} (fun ds dt=>Bg N {s with nx:=ds,er:=dt,zD:=d,yD:=f} (fun du dv dw=>Ao N ([109,97,120]:Lu) {s with nx:=dv,er:=dw,zD:=d,yD:=f} (fun dx dy=>Bg N {s with nx:=dx,er:=dy,zD:=d,yD:=f} (fun dz ea eb=>Ao N ([115,101,103,109,101,110,116,115]:Lu) {s with nx:=ea,er:=eb,zD:=d,yD:=f} (fun ec ed=>q0 ec ed d dl dp du dz 0 f [])))))))
def Tk:=(Ad fun N s r0=>Wy (R:=R) N r0 (Fa N r0 s N) s).1
def M'(s r0):(@Tk R N s r0)=(Wy N r0 (Fa N r0 s N) s):=by rw[Tk,(Ad _).2]
def QA:Hints:={H:=hK 8 (hS (hS (hP [0,2] hL) hL) hL),free:=[100001,100002,100003,100004,100005,100006,100007,100008,100009,100010,100011,100012,100013,100014,100015,100016,100017],cob:=[1000002]}
def TZ:Vx:=[iY N,R5 N,Ht N,Oa N,Xj N,BT N,u4 N,u5 N,qf N,TY N,oE N]
def oF(F:KF R):=K8 Tryz.f64 QA (TZ N) [100000,100001,100002,100003,100004,100005,100006,100007,100008,100009,100010,100011,100012,100013,100014,100015] N F
def R8(s:RB)(F:KF R):Int->Int->Nat->Nat->LA->LA->O R:=fun ee ef eg eh ei ej=>F (.tup []) [(100000,bN 0 [Bby 0 s.nw,iv ee,iv ef,iv s.th,Bby 1 s.nR,Bby 2 s.nB,Bby 3 s.nL,Bby 4 eg,Bby 5 s.nS,Bby 6 s.nT,Bby 7 s.nO,.bool s.bg,Bby 8 s.zA,Bby 9 s.zB,.own 300010 0 s.zC,.own 300011 0 eh,.own 300012 0 s.zE,.own 300013 0 s.zF,.own 300014 0 s.zG]),(300000,bQ 1 s.cw),(300001,bQ 1 s.cR),(300002,bQ 3 s.cB),(300003,bQ 12 s.cL),(300004,bQ 22 ei),(300005,bQ 9 s.cS),(300006,bQ 5 s.cT),(300007,bQ 4 s.cO),(300008,bQ 1 s.yA),(300009,bQ 1 s.yB),(300010,bQ 1 s.yC),(300011,bQ 1 ej),(300012,bQ 1 s.yE),(300013,bQ 1 s.yF),(300014,bQ 1 s.yG)]
def oG(s:RB)(K:St->O R):=fun g h a i j l m c b o=>K ⟨[(0,.optr 100000 0),(2,op 0)],[(100000,bN 0 [Bby 1 s.nw,iv g,iv h,iv s.th,Bby 2 s.nR,Bby 3 s.nB,Bby 4 s.nL,Bby 5 s.nU,Bby 6 s.nS,Bby 7 s.nT,Bby 8 s.nO,.bool s.bg,Bby 9 s.zA,.own 300010 0 s.zB,.own 300011 0 s.zC,.own 300012 0 a,.own 300013 0 s.zE,.own 300014 0 s.zF,.own 300015 0 s.zG]),(300000,bN 0 [.str i,iv j,iv l,iv m,.own 300016 0 c,iv 0,iv 0,iv 0,iv 0,iv 0,iv 0,iv 0,iv 0,iv 0,iv 0,iv 0,iv 0,iv 0,.own 300017 0 0,iv 0,iv 0,iv 0]),(300001,bQ 1 s.cw),(300002,bQ 1 s.cR),(300003,bQ 3 s.cB),(300004,bQ 12 s.cL),(300005,bQ 22 s.cU),(300006,bQ 9 s.cS),(300007,bQ 5 s.cT),(300008,bQ 4 s.cO),(300009,bQ 1 s.yA),(300010,bQ 1 s.yB),(300011,bQ 1 s.yC),(300012,bQ 1 b),(300013,bQ 1 s.yE),(300014,bQ 1 s.yF),(300015,bQ 1 s.yG),(300016,bQ 2 o),(300017,bQ 1 [])]⟩
def eU(F:KF R)s:∀ n,oG s (Al (oF N F (pz 1398096) []) n)=(Fa N (R8 s F) s n):=Dt fun n e=>(Cj (Pp N (R8 s F) s) e:_)
def qg:=Cr N 64 (TZ N) QA (VP fun
|[.optr 100000 0],s=>some fun _ k=>Tk N s (R8 s k)
| _,_=>none) (aF fun _ s=>by split;intro R F;exact(Cj (Wy N (R8 s F) · s) ((lW ..).trans (eU ..)):_).trans (M' ..).symm;trivial)
def Xl(s:RB)(r0:Int->Int->O R)(r1:Lu->Int->Int->Nat->LA->O R):O R:=(Cb N s fun c d a b=>cond (!d) (r0 a b) (Me N c fun e=>cond (!e) (Av N 9 {s with nx:=a,er:=b} (fun f=>r0 a f)) (Am N (s.yE.take (s.zE*1)) s.zE false true c fun g=>cond g (Av N 10 {s with nx:=a,er:=b} (fun h=>r0 a h)) (PW N 4 fun i=>cond (decide ((s.zE:Int)>=i)) (Av N 8 {s with nx:=a,er:=b} (fun j=>r0 a j)) (cond ((ble (s.zE+1) 140737488355328)&&(ble ((s.zE+1)*16) 140737488355328)) (r1 c a b (s.zE+1) ((s.yE.take (s.zE*1))++[.str c])) none)))))
def R9:=(Ad (@Xl R)).1
def AI:@R9 R=@Xl R:=(Ad _).2
def eV(s:RB)(F:KF R):Lu->Int->Int->Nat->LA->O R:=fun l m n o p=>F (.str l) [(100000,bN 0 [Bby 0 s.nw,iv m,iv n,iv s.th,Bby 1 s.nR,Bby 2 s.nB,Bby 3 s.nL,Bby 4 s.nU,Bby 5 s.nS,Bby 6 s.nT,Bby 7 s.nO,.bool s.bg,Bby 8 s.zA,Bby 9 s.zB,.own 300010 0 s.zC,.own 300011 0 s.zD,.own 300014 0 o,.own 300012 0 s.zF,.own 300013 0 s.zG]),(300000,bQ 1 s.cw),(300001,bQ 1 s.cR),(300002,bQ 3 s.cB),(300003,bQ 12 s.cL),(300004,bQ 22 s.cU),(300005,bQ 9 s.cS),(300006,bQ 5 s.cT),(300007,bQ 4 s.cO),(300008,bQ 1 s.yA),(300009,bQ 1 s.yB),(300010,bQ 1 s.yC),(300011,bQ 1 s.yD),(300012,bQ 1 s.yF),(300013,bQ 1 s.yG),(300014,bQ 1 p)]
def iZ:=Cr N 108 [Cc N,BQ N,Bu N,Bs N,JX N] wD (VP fun
|[.optr 100000 0,.int .i64 4],s=>some fun _ k=>R9 N s (At1 s k) (eV s k)
| _,_=>none) (aF fun _ s=>by split;intro R F;dsimp only;rw[AI];kernel_rfl;trivial)
def BW(s:RB)(r0:Int->Int->Int->O R):O R:=(Dw N [.int .i64 1,.int .i64 1,Bbz,Bbz] false s fun a b c=>r0 a b c)
def Fs:=(Ad (@BW R)).1
def HP:@Fs R=@BW R:=(Ad _).2
def oH:=Cr N 118 [Hu N] Cp (VP fun
|[.optr 100000 0],s=>some fun _ k=>Fs N s (gv s k)
| _,_=>none) (aF fun _ s=>by split;intro R F;dsimp only;rw[HP];kernel_rfl;trivial)
def BX(s:RB)(r0:Int->Int->Nat->Nat->LA->LA->O R):O R:=(R9 N s (fun t u=>Cu N {s with nx:=t,er:=u} (fun e v w=>Ao N ([99,97,112,97,99,105,116,121]:Lu) {s with nx:=v,er:=w} (fun x y=>Fs N {s with nx:=x,er:=y} (fun f z aa=>Ao N ([108,101,118,101,108]:Lu) {s with nx:=z,er:=aa} (fun ab ac=>Fs N {s with nx:=ab,er:=ac} (fun g ad ae=>Fs N {s with nx:=ad,er:=ae} (fun h af ag=>Ao N ([114,97,116,101]:Lu) {s with nx:=af,er:=ag} (fun ah ai=>Bg N {s with nx:=ah,er:=ai} (fun i aj ak=>Bg N {s with nx:=aj,er:=ak} (fun j al am=>Ao N ([101,102,102,105,99,105,101,110,99,121]:Lu) {s with nx:=al,er:=am} (fun an ao=>Ci N {s with nx:=an,er:=ao} (fun c ap aq=>cond ((beq c.length 2)&&((ble 9 9)&&(!false))) (cond (ble 9 ((setCells [.str ([]:Lu),.int .i64 e,.int .i64 f,.int .i64 g,.int .i64 h,.int .i64 i,.int .i64 j,Bbz,Bbz] 7 c).length)) (cond ((beq (((setCells [.str ([]:Lu),.int .i64 e,.int .i64 f,.int .i64 g,.int .i64 h,.int .i64 i,.int .i64 j,Bbz,Bbz] 7 c).take 9).length) 9)&&(ble 9 9)) (cond ((ble (s.nS+1) 140737488355328)&&(ble ((s.nS+1)*80) 140737488355328)) (r0 ap aq (s.nS+1) s.zE ((s.cS.take (s.nS*9))++((setCells [.str ([]:Lu),Bbz,Bbz,Bbz,Bbz,Bbz,Bbz,Bbz,Bbz] 0 ((setCells [.str ([]:Lu),.int .i64 e,.int .i64 f,.int .i64 g,.int .i64 h,.int .i64 i,.int .i64 j,Bbz,Bbz] 7 c).take 9)).take 9)) s.yE) none) none) none) none)))))))))))) fun l ar au a b=>Cu N {s with nx:=ar,er:=au,zE:=a,yE:=b} (fun m av aw=>Ao N ([99,97,112,97,99,105,116,121]:Lu) {s with nx:=av,er:=aw,zE:=a,yE:=b} (fun ax ay=>Fs N {s with nx:=ax,er:=ay,zE:=a,yE:=b} (fun n az ba=>Ao N ([108,101,118,101,108]:Lu) {s with nx:=az,er:=ba,zE:=a,yE:=b} (fun bb bc=>Fs N {s with nx:=bb,er:=bc,zE:=a,yE:=b} (fun o bd be=>Fs N {s with nx:=bd,er:=be,zE:=a,yE:=b} (fun p bf bh=>Ao N ([114,97,116,101]:Lu) {s with nx:=bf,er:=bh,zE:=a,yE:=b} (fun bi bj=>Bg N {s with nx:=bi,er:=bj,zE:=a,yE:=b} (fun q bk bl=>Bg N {s with nx:=bk,er:=bl,zE:=a,yE:=b} (fun r bm bn=>Ao N ([101,102,102,105,99,105,101,110,99,121]:Lu) {s with nx:=bm,er:=bn,zE:=a,yE:=b} (fun bo bp=>Ci N {s with nx:=bo,er:=bp,zE:=a,yE:=b} (fun d bq br=>cond ((beq d.length 2)&&((ble 9 9)&&(!false))) (cond (ble 9 ((setCells [.str l,.int .i64 m,.int .i64 n,.int .i64 o,.int .i64 p,.int .i64 q,.int .i64 r,Bbz,Bbz] 7 d).length)) (cond ((beq (((setCells [.str l,.int .i64 m,.int .i64 n,.int .i64 o,.int .i64 p,.int .i64 q,.int .i64 r,Bbz,Bbz] 7 d).take 9).length) 9)&&(ble 9 9)) (cond ((ble (s.nS+1) 140737488355328)&&(ble ((s.nS+1)*80) 140737488355328)) (r0 bq br (s.nS+1) a ((s.cS.take (s.nS*9))++((setCells [.str ([]:Lu),Bbz,Bbz,Bbz,Bbz,Bbz,Bbz,Bbz,Bbz] 0 ((setCells [.str l,.int .i64 m,.int .i64 n,.int .i64 o,.int .i64 p,.int .i64 q,.int .i64 r,Bbz,Bbz] 7 d).take 9)).take 9)) b) none) none) none) none))))))))))))
def Wz:=(Ad (@BX R)).1
def HQ:@Wz R=@BX R:=(Ad _).2
def kt(s:RB)(F:KF R):Int->Int->Nat->Nat->LA->LA->O R:=fun bs bt bu bv bw bx=>F (.tup []) [(100000,bN 0 [Bby 0 s.nw,iv bs,iv bt,iv s.th,Bby 1 s.nR,Bby 2 s.nB,Bby 3 s.nL,Bby 4 s.nU,Bby 5 bu,Bby 6 s.nT,Bby 7 s.nO,.bool s.bg,Bby 8 s.zA,Bby 9 s.zB,.own 300010 0 s.zC,.own 300011 0 s.zD,.own 300012 0 bv,.own 300013 0 s.zF,.own 300014 0 s.zG]),(300000,bQ 1 s.cw),(300001,bQ 1 s.cR),(300002,bQ 3 s.cB),(300003,bQ 12 s.cL),(300004,bQ 22 s.cU),(300005,bQ 9 bw),(300006,bQ 5 s.cT),(300007,bQ 4 s.cO),(300008,bQ 1 s.yA),(300009,bQ 1 s.yB),(300010,bQ 1 s.yC),(300011,bQ 1 s.yD),(300012,bQ 1 bx),(300013,bQ 1 s.yF),(300014,bQ 1 s.yG)]
def oI:=Cr N 65 [iZ N,R5 N,Ht N,oH N,Oa N,HN N] Apm (VP fun
|[.optr 100000 0],s=>some fun _ k=>Wz N s (kt s k)
| _,_=>none) (aF fun _ s=>by split;intro R F;dsimp only;rw[HQ];kernel_rfl;trivial)
def Xm(s:RB)(r0:Int->Int->O R)(r1:Lu->Int->Int->Nat->LA->O R):O R:=(Cb N s fun c d a b=>cond (!d) (r0 a b) (Me N c fun e=>cond (!e) (Av N 9 {s with nx:=a,er:=b} (fun f=>r0 a f)) (Am N (s.yF.take (s.zF*1)) s.zF false true c fun g=>cond g (Av N 10 {s with nx:=a,er:=b} (fun h=>r0 a h)) (PW N 5 fun i=>cond (decide ((s.zF:Int)>=i)) (Av N 8 {s with nx:=a,er:=b} (fun j=>r0 a j)) (cond ((ble (s.zF+1) 140737488355328)&&(ble ((s.zF+1)*16) 140737488355328)) (r1 c a b (s.zF+1) ((s.yF.take (s.zF*1))++[.str c])) none)))))
def Sa:=(Ad (@Xm R)).1
def AJ:@Sa R=@Xm R:=(Ad _).2
def eX(s:RB)(F:KF R):Lu->Int->Int->Nat->LA->O R:=fun l m n o p=>F (.str l) [(100000,bN 0 [Bby 0 s.nw,iv m,iv n,iv s.th,Bby 1 s.nR,Bby 2 s.nB,Bby 3 s.nL,Bby 4 s.nU,Bby 5 s.nS,Bby 6 s.nT,Bby 7 s.nO,.bool s.bg,Bby 8 s.zA,Bby 9 s.zB,.own 300010 0 s.zC,.own 300011 0 s.zD,.own 300012 0 s.zE,.own 300014 0 o,.own 300013 0 s.zG]),(300000,bQ 1 s.cw),(300001,bQ 1 s.cR),(300002,bQ 3 s.cB),(300003,bQ 12 s.cL),(300004,bQ 22 s.cU),(300005,bQ 9 s.cS),(300006,bQ 5 s.cT),(300007,bQ 4 s.cO),(300008,bQ 1 s.yA),(300009,bQ 1 s.yB),(300010,bQ 1 s.yC),(300011,bQ 1 s.yD),(300012,bQ 1 s.yE),(300013,bQ 1 s.yG),(300014,bQ 1 p)]
def i6:=Cr N 108 [Cc N,BQ N,Bu N,Bs N,JX N] wD (VP fun
|[.optr 100000 0,.int .i64 5],s=>some fun _ k=>Sa N s (At1 s k) (eX s k)
| _,_=>none) (aF fun _ s=>by split;intro R F;dsimp only;rw[AJ];kernel_rfl;trivial)
def I0(r0:Nat->Int->Int->LA->O R)(s:RB)(k0:Nat->Int->Int->Int->LA->O R)(a:Nat)(b c d:Int)(f:LA):O R:=(cond (decide (b<s.th)) (Iq N {s with nx:=c,er:=d} (fun g h i=>cond ((ble (a+1) 140737488355328)&&(ble ((a+1)*8) 140737488355328)) (k0 (a+1) (wrap .i64 (b+1)) h i ((f.take (a*1))++[.int .i64 g])) none)) (r0 a c d f))
def Cx(r0:Nat->Int->Int->LA->O R)(s:RB):Nat->Nat->Int->Int->Int->LA->O R
|0=>fun _ _ _ _ _=>none
|n+1=>I0 N r0 s (Cx r0 s n)
def Mg(N:Nat)(r0:Nat->Int->Int->LA->O R)(q0:Nat->Int->Int->Int->LA->O R)(s:RB):O R:=(q0 0 0 s.nx s.er [])
def G2:=(Ad fun N s r0=>Mg (R:=R) N r0 (Cx N r0 s N) s).1
def X0(s r0):(@G2 R N s r0)=(Mg N r0 (Cx N r0 s N) s):=by rw[G2,(Ad _).2]
def Zm:Hints:={H:=hK 2 (hS (hK 1 (hS (hP [1,5,10,11] hL) hL)) hL),nils:=[(4,1),(5,1)],modes:=[(2,1)]}
def AK:Vx:=[BT N]
def XX(F:KF R):=K8 Tryz.f60 Zm (AK N) [100000,100001,100002,100003,100004,100005,100006,100007,100008,100009,100010,100011,100012,100013,100014,100015] N F
def XY(s:RB)(K:St->O R):=fun a b c d f=>K ⟨[(1,.fn 1000109 [.optr 100000 0]),(5,Bby 0 a),(10,iv s.th),(11,iv b)],[(100000,bN 0 [.own 100001 0 s.nw,iv c,iv d,iv s.th,.own 100002 0 s.nR,.own 100003 0 s.nB,.own 100004 0 s.nL,.own 100005 0 s.nU,.own 100006 0 s.nS,.own 100007 0 s.nT,.own 100008 0 s.nO,.bool s.bg,.own 100009 0 s.zA,.own 100010 0 s.zB,.own 100011 0 s.zC,.own 100012 0 s.zD,.own 100013 0 s.zE,.own 100014 0 s.zF,.own 100015 0 s.zG]),(100001,bQ 1 s.cw),(100002,bQ 1 s.cR),(100003,bQ 3 s.cB),(100004,bQ 12 s.cL),(100005,bQ 22 s.cU),(100006,bQ 9 s.cS),(100007,bQ 5 s.cT),(100008,bQ 4 s.cO),(100009,bQ 1 s.yA),(100010,bQ 1 s.yB),(100011,bQ 1 s.yC),(100012,bQ 1 s.yD),(100013,bQ 1 s.yE),(100014,bQ 1 s.yF),(100015,bQ 1 s.yG),(300000,bQ 1 f)]⟩
def OA(F:KF R)s:∀ n,XY s (Al (XX N F (pz 1348) []) n)=(Cx N (ZA s F) s n):=Dt fun n e=>(Cj (I0 N (ZA s F) s) e:_)
def aS:=Cr N 60 (AK N) Zm (VP fun
|[.optr 100000 0,.fn 1000109 [.optr 100000 0]],s=>some fun _ k=>G2 N s (ZA s k)
| _,_=>none) (aF fun _ s=>by split;intro R F;exact(Cj (Mg N (ZA s F) · s) ((lW ..).trans (OA ..)):_).trans (X0 ..).symm;trivial)
def NA(s:RB)(r0:Int->Int->Nat->Nat->LA->LA->O R):O R:=(Sa N s (fun i j=>Cu N {s with nx:=i,er:=j} (fun l m n=>Ao N ([105,109,112,111,114,116]:Lu) {s with nx:=m,er:=n} (fun o p=>De N {s with nx:=o,er:=p} (fun c q r t=>Ao N ([101,120,112,111,114,116]:Lu) {s with nx:=q,er:=r} (fun u v=>De N {s with nx:=u,er:=v} (fun d w x y=>Ao N ([112,114,105,99,101]:Lu) {s with nx:=w,er:=x} (fun z aa=>G2 N {s with nx:=z,er:=aa} (fun e ab ac ad=>cond ((ble (s.nT+1) 140737488355328)&&(ble ((s.nT+1)*96) 140737488355328)) (r0 ab ac (s.nT+1) s.zF ((s.cT.take (s.nT*5))++[.str ([]:Lu),.int .i64 l,.imm (t.take (c*1)) c 1 false false,.imm (y.take (d*1)) d 1 false false,.imm (ad.take (e*1)) e 1 false false]) s.yF) none)))))))) fun ae af ag a b=>Cu N {s with nx:=af,er:=ag,zF:=a,yF:=b} (fun ah ai aj=>Ao N ([105,109,112,111,114,116]:Lu) {s with nx:=ai,er:=aj,zF:=a,yF:=b} (fun ak al=>De N {s with nx:=ak,er:=al,zF:=a,yF:=b} (fun f am an ao=>Ao N ([101,120,112,111,114,116]:Lu) {s with nx:=am,er:=an,zF:=a,yF:=b} (fun ap aq=>De N {s with nx:=ap,er:=aq,zF:=a,yF:=b} (fun g ar au av=>Ao N ([112,114,105,99,101]:Lu) {s with nx:=ar,er:=au,zF:=a,yF:=b} (fun aw ax=>G2 N {s with nx:=aw,er:=ax,zF:=a,yF:=b} (fun h ay az ba=>cond ((ble (s.nT+1) 140737488355328)&&(ble ((s.nT+1)*96) 140737488355328)) (r0 ay az (s.nT+1) a ((s.cT.take (s.nT*5))++[.str ae,.int .i64 ah,.imm (ao.take (f*1)) f 1 false false,.imm (av.take (g*1)) g 1 false false,.imm (ba.take (h*1)) h 1 false false]) b) none))))))))
def DK:=(Ad (@NA R)).1
def QB:@DK R=@NA R:=(Ad _).2
def Pq:=A0x (Xh N) (aS N) (Eq.refl 60)
def qh(s:RB)(F:KF R):Int->Int->Nat->Nat->LA->LA->O R:=fun bb bc bd be bf bh=>F (.tup []) [(100000,bN 0 [Bby 0 s.nw,iv bb,iv bc,iv s.th,Bby 1 s.nR,Bby 2 s.nB,Bby 3 s.nL,Bby 4 s.nU,Bby 5 s.nS,Bby 6 bd,Bby 7 s.nO,.bool s.bg,Bby 8 s.zA,Bby 9 s.zB,.own 300010 0 s.zC,.own 300011 0 s.zD,.own 300012 0 s.zE,.own 300013 0 be,.own 300014 0 s.zG]),(300000,bQ 1 s.cw),(300001,bQ 1 s.cR),(300002,bQ 3 s.cB),(300003,bQ 12 s.cL),(300004,bQ 22 s.cU),(300005,bQ 9 s.cS),(300006,bQ 5 bf),(300007,bQ 4 s.cO),(300008,bQ 1 s.yA),(300009,bQ 1 s.yB),(300010,bQ 1 s.yC),(300011,bQ 1 s.yD),(300012,bQ 1 s.yE),(300013,bQ 1 bh),(300014,bQ 1 s.yG)]
def u6:=Cr N 66 [i6 N,R5 N,Ht N,Pq N] Apm (VP fun
|[.optr 100000 0],s=>some fun _ k=>DK N s (qh s k)
| _,_=>none) (aF fun _ s=>by split;intro R F;dsimp only;rw[QB];kernel_rfl;trivial)
def Xn(s:RB)(r0:Lu->Int->Int->Nat->LA->O R):O R:=(Cb N s fun c d a b=>cond (!d) (r0 ([]:Lu) a b s.zG s.yG) (Me N c fun e=>cond (!e) (Av N 9 {s with nx:=a,er:=b} (fun f=>r0 ([]:Lu) a f s.zG s.yG)) (Am N (s.yG.take (s.zG*1)) s.zG false true c fun g=>cond g (Av N 10 {s with nx:=a,er:=b} (fun h=>r0 ([]:Lu) a h s.zG s.yG)) (PW N 6 fun i=>cond (decide ((s.zG:Int)>=i)) (Av N 8 {s with nx:=a,er:=b} (fun j=>r0 ([]:Lu) a j s.zG s.yG)) (cond ((ble (s.zG+1) 140737488355328)&&(ble ((s.zG+1)*16) 140737488355328)) (r0 c a b (s.zG+1) ((s.yG.take (s.zG*1))++[.str c])) none)))))
def Sb:=(Ad (@Xn R)).1
def AL:@Sb R=@Xn R:=(Ad _).2
def eY(s:RB)(F:KF R):Lu->Int->Int->Nat->LA->O R:=fun l m n o p=>F (.str l) [(100000,bN 0 [Bby 0 s.nw,iv m,iv n,iv s.th,Bby 1 s.nR,Bby 2 s.nB,Bby 3 s.nL,Bby 4 s.nU,Bby 5 s.nS,Bby 6 s.nT,Bby 7 s.nO,.bool s.bg,Bby 8 s.zA,Bby 9 s.zB,.own 300010 0 s.zC,.own 300011 0 s.zD,.own 300012 0 s.zE,.own 300013 0 s.zF,.own 300014 0 o]),(300000,bQ 1 s.cw),(300001,bQ 1 s.cR),(300002,bQ 3 s.cB),(300003,bQ 12 s.cL),(300004,bQ 22 s.cU),(300005,bQ 9 s.cS),(300006,bQ 5 s.cT),(300007,bQ 4 s.cO),(300008,bQ 1 s.yA),(300009,bQ 1 s.yB),(300010,bQ 1 s.yC),(300011,bQ 1 s.yD),(300012,bQ 1 s.yE),(300013,bQ 1 s.yF),(300014,bQ 1 p)]
def i7:=Cr N 108 [Cc N,BQ N,Bu N,Bs N,JX N] wD (VP fun
|[.optr 100000 0,.int .i64 6],s=>some fun _ k=>Sb N s (eY s k)
| _,_=>none) (aF fun _ s=>by split;intro R F;dsimp only;rw[AL];kernel_rfl;trivial)
def Vn(s:RB)(r0:Int->Int->Int->O R):O R:=(Cb N s fun d e a b=>cond (!e) (r0 0 a b) (Bh N (s.yC.take (s.zC*1)) s.zC false true d fun c=>cond (decide (c<0)) (Av N 12 {s with nx:=a,er:=b} (fun f=>r0 0 a f)) (r0 c a b)))
def Pr:=(Ad (@Vn R)).1
def Zn:@Pr R=@Vn R:=(Ad _).2
def eZ:=Cr N 110 [Cc N,E9 N,Bu N] Cp (VP fun
|[.optr 100000 0,.int .i64 2],s=>some fun _ k=>Pr N s (gv s k)
| _,_=>none) (aF fun _ s=>by split;intro R F;dsimp only;rw[Zn];kernel_rfl;trivial)
def Vo(s:RB)(r0:Int->Int->Int->O R):O R:=(Cb N s fun d e a b=>cond (!e) (r0 0 a b) (Bh N (s.yD.take (s.zD*1)) s.zD false true d fun c=>cond (decide (c<0)) (Av N 12 {s with nx:=a,er:=b} (fun f=>r0 0 a f)) (r0 c a b)))
def Ps:=(Ad (@Vo R)).1
def Zo:@Ps R=@Vo R:=(Ad _).2
def e_:=Cr N 110 [Cc N,E9 N,Bu N] Cp (VP fun
|[.optr 100000 0,.int .i64 3],s=>some fun _ k=>Ps N s (gv s k)
| _,_=>none) (aF fun _ s=>by split;intro R F;dsimp only;rw[Zo];kernel_rfl;trivial)
def Mh(r0:Int->Int->Nat->Nat->LA->LA->O R)(s:RB)(a:Nat)(c:Lu)(d:Nat)(g:Bool)(b f:LA)(k2:Int->Int->Nat->LA->O R)(l m:Int)(h:Nat)(q:LA):O R:=(Gg N {s with nx:=l,er:=m,zG:=a,yG:=b} (fun r=>cond r (Ps N {s with nx:=l,er:=m,zG:=a,yG:=b} (fun t u v=>Bg N {s with nx:=u,er:=v,zG:=a,yG:=b} (fun w x y=>Bg N {s with nx:=x,er:=y,zG:=a,yG:=b} (fun z aa ab=>cond ((ble (h+1) 140737488355328)&&(ble ((h+1)*24) 140737488355328)) (k2 aa ab (h+1) ((q.take (h*3))++[.int .i64 t,.int .i64 w,.int .i64 z])) none)))) (cond ((ble (s.nO+1) 140737488355328)&&(ble ((s.nO+1)*72) 140737488355328)) (r0 l m (s.nO+1) a ((s.cO.take (s.nO*4))++[.str c,.imm (f.take (d*1)) d 1 false false,.bool g,.imm (q.take (h*3)) h 3 false false]) b) none)))
def G3(r0:Int->Int->Nat->Nat->LA->LA->O R)(s:RB)(a:Nat)(c:Lu)(d:Nat)(g:Bool)(b f:LA):Nat->Int->Int->Nat->LA->O R
|0=>fun _ _ _ _=>none
|n+1=>Mh N r0 s a c d g b f (G3 r0 s a c d g b f n)
def FD(N:Nat)(r0:Int->Int->Nat->Nat->LA->LA->O R)(s:RB)(a:Nat)(c:Lu)(d:Nat)(b f:LA)(q2:Bool->Int->Int->Nat->LA->O R)(o p:Int)(g:Bool):O R:=(q2 g o p 0 [])
def HR(r0:Int->Int->Nat->Nat->LA->LA->O R)(s:RB)(a:Nat)(c:Lu)(d:Nat)(b f:LA)(o p:Int)(g:Bool):O R:=FD N r0 s a c d b f (fun g=>G3 N r0 s a c d g b f N) o p g
def Mi(r0:Int->Int->Nat->Nat->LA->LA->O R)(s:RB)(a:Nat)(c:Lu)(b:LA)(k0:Int->Int->Nat->LA->O R)(q1:Nat->LA->Int->Int->Bool->O R)(i j:Int)(d:Nat)(f:LA):O R:=(Hv N ([99,111,114,114,101,99,116,105,118,101]:Lu) {s with nx:=i,er:=j,zG:=a,yG:=b} (fun ac=>cond ac (Pr N {s with nx:=i,er:=j,zG:=a,yG:=b} (fun ad ae af=>cond ((ble (d+1) 140737488355328)&&(ble ((d+1)*8) 140737488355328)) (k0 ae af (d+1) ((f.take (d*1))++[.int .i64 ad])) none)) (Gg N {s with nx:=i,er:=j,zG:=a,yG:=b} (fun ag=>cond ag (Ao N ([99,111,114,114,101,99,116,105,118,101]:Lu) {s with nx:=i,er:=j,zG:=a,yG:=b} (fun ah ai=>q1 d f ah ai true)) (q1 d f i j false)))))
def Ew(r0:Int->Int->Nat->Nat->LA->LA->O R)(s:RB)(a:Nat)(c:Lu)(b:LA):Nat->Int->Int->Nat->LA->O R
|0=>fun _ _ _ _=>none
|n+1=>Mi N r0 s a c b (Ew r0 s a c b n) (fun d f=>HR N r0 s a c d b f)
def Sc(r0:Int->Int->Nat->Nat->LA->LA->O R)(q0:Nat->Lu->LA->Int->Int->Nat->LA->O R)(s:RB):O R:=(Sb N s fun c aj ak a b=>Ao N ([108,105,110,101,115]:Lu) {s with nx:=aj,er:=ak,zG:=a,yG:=b} (fun al am=>q0 a c b al am 0 []))
def Oc:=(Ad fun N s r0=>Sc (R:=R) N r0 (fun a c b=>Ew N r0 s a c b N) s).1
def FE(s r0):(@Oc R N s r0)=(Sc N r0 (fun a c b=>Ew N r0 s a c b N) s):=by rw[Oc,(Ad _).2]
def HS:Hints:={H:=hK 3 (hS (hS (hP [0,2] hL) hL) (hJ [0,2] hL (hS (hS (hP [0,2] hL) hL) hL))),free:=[100001,100002,100003,100004,100005,100006,100007,100008,100009,100010,100011,100012,100013,100014,100015,100016,100017],cob:=[1000002]}
def Of:=A0x (eZ N) (e_ N) (Eq.refl 110)
def NB:Vx:=[i7 N,Ht N,Xj N,Of N,Qk N,Oa N]
def Vp(F:KF R):=K8 Tryz.f67 HS (NB N) [100000,100001,100002,100003,100004,100005,100006,100007,100008,100009,100010,100011,100012,100013,100014,100015] N F
def D0(s:RB)(F:KF R):Int->Int->Nat->Nat->LA->LA->O R:=fun an ao ap aq ar au=>F (.tup []) [(100000,bN 0 [Bby 0 s.nw,iv an,iv ao,iv s.th,Bby 1 s.nR,Bby 2 s.nB,Bby 3 s.nL,Bby 4 s.nU,Bby 5 s.nS,Bby 6 s.nT,Bby 7 ap,.bool s.bg,Bby 8 s.zA,Bby 9 s.zB,.own 300010 0 s.zC,.own 300011 0 s.zD,.own 300012 0 s.zE,.own 300013 0 s.zF,.own 300014 0 aq]),(300000,bQ 1 s.cw),(300001,bQ 1 s.cR),(300002,bQ 3 s.cB),(300003,bQ 12 s.cL),(300004,bQ 22 s.cU),(300005,bQ 9 s.cS),(300006,bQ 5 s.cT),(300007,bQ 4 ar),(300008,bQ 1 s.yA),(300009,bQ 1 s.yB),(300010,bQ 1 s.yC),(300011,bQ 1 s.yD),(300012,bQ 1 s.yE),(300013,bQ 1 s.yF),(300014,bQ 1 au)]
def i8(s:RB)(a:Nat)(c:Lu)(d:Nat)(g:Bool)(b f:LA)(K:St->O R):=fun l m h q=>K ⟨[(0,.optr 100000 0),(2,op 0)],[(100000,bN 0 [Bby 1 s.nw,iv l,iv m,iv s.th,Bby 2 s.nR,Bby 3 s.nB,Bby 4 s.nL,Bby 5 s.nU,Bby 6 s.nS,Bby 7 s.nT,Bby 8 s.nO,.bool s.bg,Bby 9 s.zA,.own 300010 0 s.zB,.own 300011 0 s.zC,.own 300012 0 s.zD,.own 300013 0 s.zE,.own 300014 0 s.zF,.own 300015 0 a]),(300000,bN 0 [.str c,.own 300016 0 d,.bool g,.own 300017 0 h]),(300001,bQ 1 s.cw),(300002,bQ 1 s.cR),(300003,bQ 3 s.cB),(300004,bQ 12 s.cL),(300005,bQ 22 s.cU),(300006,bQ 9 s.cS),(300007,bQ 5 s.cT),(300008,bQ 4 s.cO),(300009,bQ 1 s.yA),(300010,bQ 1 s.yB),(300011,bQ 1 s.yC),(300012,bQ 1 s.yD),(300013,bQ 1 s.yE),(300014,bQ 1 s.yF),(300015,bQ 1 b),(300016,bQ 1 f),(300017,bQ 3 q)]⟩
def i_(s:RB)(a:Nat)(c:Lu)(d:Nat)(b f:LA)(K:St->O R):=fun o p g=>K ⟨[(0,.optr 100000 0),(2,op 0)],[(100000,bN 0 [Bby 1 s.nw,iv o,iv p,iv s.th,Bby 2 s.nR,Bby 3 s.nB,Bby 4 s.nL,Bby 5 s.nU,Bby 6 s.nS,Bby 7 s.nT,Bby 8 s.nO,.bool s.bg,Bby 9 s.zA,.own 300010 0 s.zB,.own 300011 0 s.zC,.own 300012 0 s.zD,.own 300013 0 s.zE,.own 300014 0 s.zF,.own 300015 0 a]),(300000,bN 0 [.str c,.own 300016 0 d,.bool g,.own 300017 0 0]),(300001,bQ 1 s.cw),(300002,bQ 1 s.cR),(300003,bQ 3 s.cB),(300004,bQ 12 s.cL),(300005,bQ 22 s.cU),(300006,bQ 9 s.cS),(300007,bQ 5 s.cT),(300008,bQ 4 s.cO),(300009,bQ 1 s.yA),(300010,bQ 1 s.yB),(300011,bQ 1 s.yC),(300012,bQ 1 s.yD),(300013,bQ 1 s.yE),(300014,bQ 1 s.yF),(300015,bQ 1 b),(300016,bQ 1 f),(300017,bQ 3 [])]⟩
def ia(s:RB)(a:Nat)(c:Lu)(b:LA)(K:St->O R):=fun i j d f=>K ⟨[(0,.optr 100000 0),(2,op 0)],[(100000,bN 0 [Bby 1 s.nw,iv i,iv j,iv s.th,Bby 2 s.nR,Bby 3 s.nB,Bby 4 s.nL,Bby 5 s.nU,Bby 6 s.nS,Bby 7 s.nT,Bby 8 s.nO,.bool s.bg,Bby 9 s.zA,.own 300010 0 s.zB,.own 300011 0 s.zC,.own 300012 0 s.zD,.own 300013 0 s.zE,.own 300014 0 s.zF,.own 300015 0 a]),(300000,bN 0 [.str c,.own 300016 0 d,.bool false,.own 300017 0 0]),(300001,bQ 1 s.cw),(300002,bQ 1 s.cR),(300003,bQ 3 s.cB),(300004,bQ 12 s.cL),(300005,bQ 22 s.cU),(300006,bQ 9 s.cS),(300007,bQ 5 s.cT),(300008,bQ 4 s.cO),(300009,bQ 1 s.yA),(300010,bQ 1 s.yB),(300011,bQ 1 s.yC),(300012,bQ 1 s.yD),(300013,bQ 1 s.yE),(300014,bQ 1 s.yF),(300015,bQ 1 b),(300016,bQ 1 f),(300017,bQ 3 [])]⟩
def XZ(F:KF R)(s a c d g b f):∀ n,i8 s a c d g b f (Al (Vp N F (pz 21840) []) n)=(G3 N (D0 s F) s a c d g b f n):=Dt fun n e=>(Cj (Mh N (D0 s F) s a c d g b f) e:_)
def X_(F:KF R)(s a c d b f):i_ s a c d b f (By (Vp N F (pz 1365) []))=(HR N (D0 s F) s a c d b f):=(Cj (FD N (D0 s F) s a c d b f) (Awo fun g=>(lW ..).trans (XZ ..)):_)
def X'(F:KF R)(s a c b):∀ n,ia s a c b (Al (Vp N F (pz 1360) []) n)=(Ew N (D0 s F) s a c b n):=Dt fun n e=>(Sq (Mi N (D0 s F) s a c b) e (CJ fun d f=>(jW ..).trans (X_ ..)):_)
def ku:=Cr N 67 (NB N) HS (VP fun
|[.optr 100000 0],s=>some fun _ k=>Oc N s (D0 s k)
| _,_=>none) (aF fun _ s=>by split;intro R F;exact(Cj (Sc N (D0 s F) · s) (Aw0 fun a c b=>(lW ..).trans (X' ..)):_).trans (FE ..).symm;trivial)
def Cy(s:RB)(r0:Int->Int->Nat->Nat->Nat->Nat->Nat->Nat->Nat->Nat->Nat->Nat->Nat->Nat->LA->LA->LA->LA->LA->LA->LA->LA->LA->LA->LA->LA->O R)(r1:Int->Int->Int->Nat->LA->O R):O R:=(Cb N s fun c cp a b=>cond ((c==([99,97,115,101]:Lu))==s.bg) (Av N 2 {s with nx:=a,er:=b} (fun ap=>r0 a ap s.nB s.nL s.nU s.nS s.nT s.nO s.zB s.zC s.zD s.zE s.zF s.zG s.cB s.cL s.cU s.cS s.cT s.cO s.yB s.yC s.yD s.yE s.yF s.yG)) (cond (c==([99,97,115,101]:Lu)) (Qm N 1 24 {s with nx:=a,er:=b,bg:=true} (fun d aq ar=>Ao N ([114,101,115,101,114,118,101]:Lu) {s with nx:=aq,er:=ar,th:=d,bg:=true} (fun au av=>De N {s with nx:=au,er:=av,th:=d,bg:=true} (fun g h aw i=>Gr N {s with nx:=h,er:=aw,th:=d,nR:=g,bg:=true,cR:=i} (fun ax=>r1 h ax d g i))))) (cond (c==([98,117,115]:Lu)) (DH N {s with nx:=a,er:=b} (fun j ay l m n o=>Gr N {s with nx:=j,er:=ay,nB:=l,zB:=m,cB:=n,yB:=o} (fun az=>r0 j az l s.nL s.nU s.nS s.nT s.nO m s.zC s.zD s.zE s.zF s.zG n s.cL s.cU s.cS s.cT s.cO o s.yC s.yD s.yE s.yF s.yG))) (cond (c==([108,105,110,101]:Lu)) (Zl N {s with nx:=a,er:=b} (fun p ba q r t u=>Gr N {s with nx:=p,er:=ba,nL:=q,zC:=r,cL:=t,yC:=u} (fun bb=>r0 p bb s.nB q s.nU s.nS s.nT s.nO s.zB r s.zD s.zE s.zF s.zG s.cB t s.cU s.cS s.cT s.cO s.yB u s.yD s.yE s.yF s.yG))) (cond (c==([117,110,105,116]:Lu)) (Tk N {s with nx:=a,er:=b} (fun v bc w x y z=>Gr N {s with nx:=v,er:=bc,nU:=w,zD:=x,cU:=y,yD:=z} (fun bd=>r0 v bd s.nB s.nL w s.nS s.nT s.nO s.zB s.zC x s.zE s.zF s.zG s.cB s.cL y s.cS s.cT s.cO s.yB s.yC z s.yE s.yF s.yG))) (cond (c==([115,116,111,114,101]:Lu)) (Wz N {s with nx:=a,er:=b} (fun aa be ab ac ad ae=>Gr N {s with nx:=aa,er:=be,nS:=ab,zE:=ac,cS:=ad,yE:=ae} (fun bf=>r0 aa bf s.nB s.nL s.nU ab s.nT s.nO s.zB s.zC s.zD ac s.zF s.zG s.cB s.cL s.cU ad s.cT s.cO s.yB s.yC s.yD ae s.yF s.yG))) (cond (c==([116,105,101]:Lu)) (DK N {s with nx:=a,er:=b} (fun af bh ag ah ai aj=>Gr N {s with nx:=af,er:=bh,nT:=ag,zF:=ah,cT:=ai,yF:=aj} (fun bi=>r0 af bi s.nB s.nL s.nU s.nS ag s.nO s.zB s.zC s.zD s.zE ah s.zG s.cB s.cL s.cU s.cS ai s.cO s.yB s.yC s.yD s.yE aj s.yG))) (cond (c==([111,117,116,97,103,101]:Lu)) (Oc N {s with nx:=a,er:=b} (fun ak bj al am an ao=>Gr N {s with nx:=ak,er:=bj,nO:=al,zG:=am,cO:=an,yG:=ao} (fun bk=>r0 ak bk s.nB s.nL s.nU s.nS s.nT al s.zB s.zC s.zD s.zE s.zF am s.cB s.cL s.cU s.cS s.cT an s.yB s.yC s.yD s.yE s.yF ao))) (Av N 2 {s with nx:=a,er:=b} (fun bl=>Gr N {s with nx:=a,er:=bl} (fun bm=>r0 a bm s.nB s.nL s.nU s.nS s.nT s.nO s.zB s.zC s.zD s.zE s.zF s.zG s.cB s.cL s.cU s.cS s.cT s.cO s.yB s.yC s.yD s.yE s.yF s.yG)))))))))))
def B0:=(Ad (@Cy R)).1
def Cq:@B0 R=@Cy R:=(Ad _).2
def YA(s:RB)(F:KF R):Int->Int->Nat->Nat->Nat->Nat->Nat->Nat->Nat->Nat->Nat->Nat->Nat->Nat->LA->LA->LA->LA->LA->LA->LA->LA->LA->LA->LA->LA->O R:=fun e f bn bo bp bq br bs bt bu bv bw bx bz ca cb cc cd ce cf cg ch ci cj ck cl=>F (.tup []) [(100000,bN 0 [Bby 0 s.nw,iv e,iv f,iv s.th,Bby 1 s.nR,Bby 2 bn,Bby 3 bo,Bby 4 bp,Bby 5 bq,Bby 6 br,Bby 7 bs,.bool s.bg,Bby 8 s.zA,Bby 9 bt,.own 300010 0 bu,.own 300011 0 bv,.own 300012 0 bw,.own 300013 0 bx,.own 300014 0 bz]),(300000,bQ 1 s.cw),(300001,bQ 1 s.cR),(300002,bQ 3 ca),(300003,bQ 12 cb),(300004,bQ 22 cc),(300005,bQ 9 cd),(300006,bQ 5 ce),(300007,bQ 4 cf),(300008,bQ 1 s.yA),(300009,bQ 1 cg),(300010,bQ 1 ch),(300011,bQ 1 ci),(300012,bQ 1 cj),(300013,bQ 1 ck),(300014,bQ 1 cl)]
def YB(s:RB)(F:KF R):Int->Int->Int->Nat->LA->O R:=fun e f cm cn co=>F (.tup []) [(100000,bN 0 [Bby 0 s.nw,iv e,iv f,iv cm,.own 300015 0 cn,Bby 2 s.nB,Bby 3 s.nL,Bby 4 s.nU,Bby 5 s.nS,Bby 6 s.nT,Bby 7 s.nO,.bool true,Bby 8 s.zA,Bby 9 s.zB,.own 300010 0 s.zC,.own 300011 0 s.zD,.own 300012 0 s.zE,.own 300013 0 s.zF,.own 300014 0 s.zG]),(300000,bQ 1 s.cw),(300001,bQ 1 s.cR),(300002,bQ 3 s.cB),(300003,bQ 12 s.cL),(300004,bQ 22 s.cU),(300005,bQ 9 s.cS),(300006,bQ 5 s.cT),(300007,bQ 4 s.cO),(300008,bQ 1 s.yA),(300009,bQ 1 s.yB),(300010,bQ 1 s.yC),(300011,bQ 1 s.yD),(300012,bQ 1 s.yE),(300013,bQ 1 s.yF),(300014,bQ 1 s.yG),(300015,bQ 1 co)]
def aT:=Cr N 24 [Cc N,Bu N,PT N,Ht N,Xh N,xe N,uZ N,qe N,qg N,oI N,u6 N,ku N] wD (VP fun
|[.optr 100000 0],s=>some fun _ k=>B0 N s (YA s k) (YB s k)
| _,_=>none) (aF fun _ s=>by split;intro R F;dsimp only;rw[Cq];kernel_rfl;trivial)
def Uu(r0:LA->Int->Int->O R)(k0:Lu->Int->Bool->Nat->Int->Int->Int->Nat->Nat->Nat->Nat->Nat->Nat->Nat->Bool->Nat->Nat->Nat->Nat->Nat->Nat->LA->LA->LA->LA->LA->LA->LA->LA->LA->LA->LA->LA->LA->LA->O R)(aj:Lu)(u:Int)(ak:Bool)(ap:Nat)(aq ar j:Int)(a b c d f g h:Nat)(l:Bool)(v w x y z aa:Nat)(au m o p q r s t ab ac ad ae af ag:LA):O R:=(cond ak (strings_Cut N aj ([10]:Lu) fun bz al am=>nN N bz fun ah ai=>Gg N (RB.mk ah 0 0 j a b c d f g h l 0 v w x y z aa ai m o p q r s t [] ab ac ad ae af ag) fun ca=>cond (!ca) (k0 al (wrap .i64 (u+1)) am ah 0 0 j a b c d f g h l v w x y z aa ai m o p q r s t ab ac ad ae af ag) (B0 N (RB.mk ah 0 0 j a b c d f g h l 0 v w x y z aa ai m o p q r s t [] ab ac ad ae af ag) (fun av an aw ax ay az ba bb bc bd be bf bg bh bi bj bk bl bm bn bo bp bq br bs bt=>Na N (RB.mk ah av an j a aw ax ay az ba bb l 0 bc bd be bf bg bh ai m bi bj bk bl bm bn [] bo bp bq br bs bt) fun cb=>cond (!cb) (r0 [Bbz,.nsl,.nsl,.nsl,.nsl,.nsl,.nsl,.nsl] (wrap .i64 (u+1)) an) (k0 al (wrap .i64 (u+1)) am ah av an j a aw ax ay az ba bb l bc bd be bf bg bh ai m bi bj bk bl bm bn bo bp bq br bs bt)) fun bu ao bv bw bx=>Na N (RB.mk ah bu ao bv bw b c d f g h true 0 v w x y z aa ai bx o p q r s t [] ab ac ad ae af ag) fun cc=>cond (!cc) (r0 [Bbz,.nsl,.nsl,.nsl,.nsl,.nsl,.nsl,.nsl] (wrap .i64 (u+1)) ao) (k0 al (wrap .i64 (u+1)) am ah bu ao bv bw b c d f g h true v w x y z aa ai bx o p q r s t ab ac ad ae af ag))) (cond (!l) (r0 [Bbz,.nsl,.nsl,.nsl,.nsl,.nsl,.nsl,.nsl] 1 2) (r0 [.int .i64 j,.imm (m.take (a*1)) a 1 false false,.imm (o.take (b*3)) b 3 false false,.imm (p.take (c*12)) c 12 false false,.imm (q.take (d*22)) d 22 false false,.imm (r.take (f*9)) f 9 false false,.imm (s.take (g*5)) g 5 false false,.imm (t.take (h*4)) h 4 false false] 0 0)))
def Mj(r0:LA->Int->Int->O R):Nat->Lu->Int->Bool->Nat->Int->Int->Int->Nat->Nat->Nat->Nat->Nat->Nat->Nat->Bool->Nat->Nat->Nat->Nat->Nat->Nat->LA->LA->LA->LA->LA->LA->LA->LA->LA->LA->LA->LA->LA->LA->O R
|0=>fun _ _ _ _ _ _ _ _ _ _ _ _ _ _ _ _ _ _ _ _ _ _ _ _ _ _ _ _ _ _ _ _ _ _ _=>none
|n+1=>Uu N r0 (Mj r0 n)
def gQ(N:Nat)(r0:LA->Int->Int->O R)(q0:Lu->Int->Bool->Nat->Int->Int->Int->Nat->Nat->Nat->Nat->Nat->Nat->Nat->Bool->Nat->Nat->Nat->Nat->Nat->Nat->LA->LA->LA->LA->LA->LA->LA->LA->LA->LA->LA->LA->LA->LA->O R)(i:Lu):O R:=(cond (decide (((i.length:Nat):Int)>1048576)) (r0 [Bbz,.nsl,.nsl,.nsl,.nsl,.nsl,.nsl,.nsl] 0 8) (q0 i 0 true 0 0 0 0 0 0 0 0 0 0 0 false 0 0 0 0 0 0 [] [] [] [] [] [] [] [] [] [] [] [] [] []))
def NC:=(Ad fun N i r0=>gQ (R:=R) N r0 (Mj N r0 N) i).1
def oJ(i r0):(@NC R N i r0)=(gQ N r0 (Mj N r0 N) i):=by rw[NC,(Ad _).2]
def s8:Hints:={H:=hK 4 (hS (hK 1 (hS (hP [0,2,5,6,7] hL) hL)) hL),modes:=[(3,0),(0,0),(0,0)],cob:=[13]}
def xi:Vx:=[RF N,Anj N,Qk N,aT N,ZT N]
def Ajl(F:KF R):=K8 Tryz.f11 s8 (xi N) [] N F
def QC(F:KF R):LA->Int->Int->O R:=fun cd ce cf=>F (.tup [.pagg cd false,iv ce,iv cf]) []
def Ajm(K:St->O R):=fun aj u ak ap aq ar j a b c d f g h l v w x y z aa au m o p q r s t ab ac ad ae af ag=>K ⟨[(0,.str aj),(2,op 0),(5,op 1),(6,iv u),(7,.bool ak)],hq [bN 0 [iv 0,.nsl,.nsl,.nsl,.nsl,.nsl,.nsl,.nsl],bN 0 [Bby 2 ap,iv aq,iv ar,iv j,Bby 3 a,Bby 4 b,Bby 5 c,Bby 6 d,Bby 7 f,Bby 8 g,Bby 9 h,.bool l,.own 300010 0 0,.own 300011 0 v,.own 300012 0 w,.own 300013 0 x,.own 300014 0 y,.own 300015 0 z,.own 300016 0 aa],bQ 1 au,bQ 1 m,bQ 3 o,bQ 12 p,bQ 22 q,bQ 9 r,bQ 5 s,bQ 4 t,bQ 1 [],bQ 1 ab,bQ 1 ac,bQ 1 ad,bQ 1 ae,bQ 1 af,bQ 1 ag]⟩
def xj(F:KF R):∀ n,Ajm (Al (Ajl N F (pz 21828) []) n)=(Mj N (QC F) n):=Dt fun n e=>(Cj (Uu N (QC F)) e:_)
def Ans:=Cr N 11 (xi N) s8 (fun
|[.str i],[]=>some fun _ k=>NC N i (QC k)
| _,_=>none) fun _ _=>by split;intro R F;exact(Cj (gQ N (QC F) · _) ((lW ..).trans (xj ..)):_).trans (oJ ..).symm;trivial
def IW(N:Nat)(r0:Bool->O R)(c:LA)(a:Nat)(f g:Bool)(d:LA)(b:Nat)(h i:Bool)(k0:Int->O R)(j:Int):O R:=(cond (decide (j<(a:Int))) (cond (Ac j a) (Ax .i64 (c.drop (j.toNat*1)) fun l=>cond (Ac j b) (Ax .i64 (d.drop (j.toNat*1)) fun m=>cond (l != m) (r0 false) (k0 (wrap .i64 (j+1)))) none) none) (r0 true))
def Tl(r0:Bool->O R)(c:LA)(a:Nat)(f g:Bool)(d:LA)(b:Nat)(h i:Bool):Nat->Int->O R
|0=>fun _=>none
|n+1=>IW N r0 c a f g d b h i (Tl r0 c a f g d b h i n)
def gR(N:Nat)(r0:Bool->O R)(q0:Int->O R)(c:LA)(a:Nat)(f g:Bool)(d:LA)(b:Nat)(h i:Bool):O R:=(cond ((a:Int) != (b:Int)) (r0 false) (q0 0))
def Mk:=(Ad fun N c a f g d b h i r0=>gR (R:=R) N r0 (Tl N r0 c a f g d b h i N) c a f g d b h i).1
def oK(c a f g d b h i r0):(@Mk R N c a f g d b h i r0)=(gR N r0 (Tl N r0 c a f g d b h i N) c a f g d b h i):=by rw[Mk,(Ad _).2]
def s9:Hints:={H:=hK 2 (hS (hK 1 (hS (hP [0,1,5] hL) hL)) hL)}
def Ajn(F:KF R):=K8 Tryz.f20 s9 [] [] N F
def Ajo(c:LA)(a:Nat)(f g:Bool)(d:LA)(b:Nat)(h i:Bool)(K:St->O R):=fun j=>K ⟨[(0,.imm c a 1 f g),(1,.imm d b 1 h i),(5,iv j)],[]⟩
def xk(F:KF R)(c a f g d b h i):∀ n,Ajo c a f g d b h i (Al (Ajn N F (pz 1348) []) n)=(Tl N (Bk F) c a f g d b h i n):=Dt fun n e=>(Cj (IW N (Bk F) c a f g d b h i) e:_)
def BY:=Cr N 20 [] s9 (fun
|[.imm c a 1 f g,.imm d b 1 h i],[]=>some fun _ k=>Mk N c a f g d b h i (Bk k)
| _,_=>none) fun _ _=>by split;intro R F;exact(Cj (gR N (Bk F) · _ _ _ _ _ _ _ _) ((lW ..).trans (xk ..)):_).trans (oK ..).symm;trivial
def Uv(k0:Bool->Int->O R)(r0:Bool->O R)(c:LA)(a:Nat)(h f:Bool)(d:LA)(b:Nat)(i g:Bool)(j:Int):O R:=(cond (Ac j a) (Gv (c.drop (j.toNat*3)) fun o=>cond (Ac j b) (Gv (d.drop (j.toNat*3)) fun p=>cond ((o==p)==true) (cond (Ac j a) (A5 1 ((c.drop (j.toNat*3)).drop 1) fun q r=>cond (Ac j b) (A5 1 ((d.drop (j.toNat*3)).drop 1) fun s t=>Mk N q r false f s t false g fun u=>cond ((cond true u false)==true) (cond (Ac j a) (Ax .i64 ((c.drop (j.toNat*3)).drop 2) fun v=>cond (Ac j b) (Ax .i64 ((d.drop (j.toNat*3)).drop 2) fun w=>k0 (cond true (v==w) false) (wrap .i64 (j+1))) none) none) (k0 false (wrap .i64 (j+1)))) none) none) (k0 false (wrap .i64 (j+1)))) none) none)
def Sd(N:Nat)(r0:Bool->O R)(c:LA)(a:Nat)(h f:Bool)(d:LA)(b:Nat)(i g:Bool)(k0:Bool->Int->O R)(q1:Int->O R)(l:Bool)(m:Int):O R:=(cond ((decide (m<(a:Int)))==true) (cond (cond true l false) (q1 m) (r0 l)) (r0 l))
def F6(r0:Bool->O R)(c:LA)(a:Nat)(h f:Bool)(d:LA)(b:Nat)(i g:Bool):Nat->Bool->Int->O R
|0=>fun _ _=>none
|n+1=>Sd N r0 c a h f d b i g (F6 r0 c a h f d b i g n) (Uv N (F6 r0 c a h f d b i g n) r0 c a h f d b i g)
def Zp(N:Nat)(r0:Bool->O R)(q0:Bool->Int->O R)(c:LA)(a:Nat)(h f:Bool)(d:LA)(b:Nat)(i g:Bool):O R:=(q0 ((a:Int)==(b:Int)) 0)
def We:=(Ad fun N c a h f d b i g r0=>Zp (R:=R) N r0 (F6 N r0 c a h f d b i g N) c a h f d b i g).1
def QD(c a h f d b i g r0):(@We R N c a h f d b i g r0)=(Zp N r0 (F6 N r0 c a h f d b i g N) c a h f d b i g):=by rw[We,(Ad _).2]
def ZZ:Vx:=[BY N]
def T_(F:KF R):=K8 Tryz.f26 ry (ZZ N) [] N F
def qi(c:LA)(a:Nat)(h f:Bool)(d:LA)(b:Nat)(i g:Bool)(K:St->O R):=fun j=>K ⟨[(0,.imm c a 3 h f),(1,.imm d b 3 i g),(6,iv j)],[]⟩
def T'(c:LA)(a:Nat)(h f:Bool)(d:LA)(b:Nat)(i g:Bool)(K:St->O R):=fun l m=>K ⟨[(0,.imm c a 3 h f),(1,.imm d b 3 i g),(5,.bool l),(6,iv m)],[]⟩
def ib Q0 (F:KF R) (c a h f d b i g):qi c a h f d b i g (By (T_ N F (pz 21569) [Q0]))=(Uv N (T' c a h f d b i g Q0) (Bk F) c a h f d b i g):=by kernel_rfl
def ic(F:KF R)(c a h f d b i g):∀ n,T' c a h f d b i g (Al (T_ N F (pz 1348) []) n)=(F6 N (Bk F) c a h f d b i g n):=Dt fun n e=>(Sq (Sd N (Bk F) c a h f d b i g) e ((jW ..).trans ((ib ..).trans (jK (Uv _ · _ _ _ _ _ _ _ _ _) e))):_)
def u7:=Cr N 26 (ZZ N) ry (fun
|[.imm c a 3 h f,.imm d b 3 i g],[]=>some fun _ k=>We N c a h f d b i g (Bk k)
| _,_=>none) fun _ _=>by split;intro R F;exact(Cj (Zp N (Bk F) · _ _ _ _ _ _ _ _) ((lW ..).trans (ic ..)):_).trans (QD ..).symm;trivial
def Uw(k0:Bool->Int->O R)(r0:Bool->O R)(b:LA)(g:Nat)(i d:Bool)(c:LA)(h:Nat)(j f:Bool)(a:Int):O R:=(cond (Ac a g) (cond (ble 12 ((b.drop (a.toNat*12)).length)) (cond (Ac a h) (cond (ble 12 ((c.drop (a.toNat*12)).length)) (cond ((beq 0 0)&&((beq (((b.drop (a.toNat*12)).take 12).length) 12)&&(beq 12 12))) (cond ((beq 0 0)&&((beq (((c.drop (a.toNat*12)).take 12).length) 12)&&(beq 12 12))) (Gv ((b.drop (a.toNat*12)).take 12) fun o=>Gv ((c.drop (a.toNat*12)).take 12) fun p=>cond ((o==p)==true) (Ax .i64 (((b.drop (a.toNat*12)).take 12).drop 1) fun q=>Ax .i64 (((c.drop (a.toNat*12)).take 12).drop 1) fun r=>cond ((cond true (q==r) false)==true) (Ax .i64 (((b.drop (a.toNat*12)).take 12).drop 2) fun s=>Ax .i64 (((c.drop (a.toNat*12)).take 12).drop 2) fun t=>cond ((cond true (s==t) false)==true) (cond (ble 2 ((((b.drop (a.toNat*12)).take 12).drop 3).length)) (cond ((!d)||(A0 ((((b.drop (a.toNat*12)).take 12).drop 3).take 2))) (cond (ble 2 ((((c.drop (a.toNat*12)).take 12).drop 3).length)) (cond ((!f)||(A0 ((((c.drop (a.toNat*12)).take 12).drop 3).take 2))) (cond ((ble 1 2)&&((beq (((((b.drop (a.toNat*12)).take 12).drop 3).take 2).length) 2)&&((beq (((((c.drop (a.toNat*12)).take 12).drop 3).take 2).length) 2)&&(true&&(!false))))) (Ax .i64 ((((b.drop (a.toNat*12)).take 12).drop 3).take 2) fun u=>Ax .i64 ((((c.drop (a.toNat*12)).take 12).drop 3).take 2) fun v=>Ax .i64 (((((b.drop (a.toNat*12)).take 12).drop 3).take 2).drop 1) fun w=>Ax .i64 (((((c.drop (a.toNat*12)).take 12).drop 3).take 2).drop 1) fun x=>cond ((cond true ((u==v)&&((w==x)&&true)) false)==true) (cond (ble 2 ((((b.drop (a.toNat*12)).take 12).drop 5).length)) (cond ((!d)||(A0 ((((b.drop (a.toNat*12)).take 12).drop 5).take 2))) (cond (ble 2 ((((c.drop (a.toNat*12)).take 12).drop 5).length)) (cond ((!f)||(A0 ((((c.drop (a.toNat*12)).take 12).drop 5).take 2))) (cond ((ble 1 2)&&((beq (((((b.drop (a.toNat*12)).take 12).drop 5).take 2).length) 2)&&((beq (((((c.drop (a.toNat*12)).take 12).drop 5).take 2).length) 2)&&(true&&(!false))))) (Ax .i64 ((((b.drop (a.toNat*12)).take 12).drop 5).take 2) fun y=>Ax .i64 ((((c.drop (a.toNat*12)).take 12).drop 5).take 2) fun z=>Ax .i64 (((((b.drop (a.toNat*12)).take 12).drop 5).take 2).drop 1) fun aa=>Ax .i64 (((((c.drop (a.toNat*12)).take 12).drop 5).take 2).drop 1) fun ab=>cond ((cond true ((y==z)&&((aa==ab)&&true)) false)==true) (cond (ble 2 ((((b.drop (a.toNat*12)).take 12).drop 7).length)) (cond ((!d)||(A0 ((((b.drop (a.toNat*12)).take 12).drop 7).take 2))) (cond (ble 2 ((((c.drop (a.toNat*12)).take 12).drop 7).length)) (cond ((!f)||(A0 ((((c.drop (a.toNat*12)).take 12).drop 7).take 2))) (cond ((ble 1 2)&&((beq (((((b.drop (a.toNat*12)).take 12).drop 7).take 2).length) 2)&&((beq (((((c.drop (a.toNat*12)).take 12).drop 7).take 2).length) 2)&&(true&&(!false))))) (Ax .i64 ((((b.drop (a.toNat*12)).take 12).drop 7).take 2) fun ac=>Ax .i64 ((((c.drop (a.toNat*12)).take 12).drop 7).take 2) fun ad=>Ax .i64 (((((b.drop (a.toNat*12)).take 12).drop 7).take 2).drop 1) fun ae=>Ax .i64 (((((c.drop (a.toNat*12)).take 12).drop 7).take 2).drop 1) fun af=>cond ((cond true ((ac==ad)&&((ae==af)&&true)) false)==true) (Ax .i64 (((b.drop (a.toNat*12)).take 12).drop 9) fun ag=>Ax .i64 (((c.drop (a.toNat*12)).take 12).drop 9) fun ah=>cond ((cond true (ag==ah) false)==true) (Ax .i64 (((b.drop (a.toNat*12)).take 12).drop 10) fun ai=>Ax .i64 (((c.drop (a.toNat*12)).take 12).drop 10) fun aj=>cond ((cond true (ai==aj) false)==true) (A5 1 (((b.drop (a.toNat*12)).take 12).drop 11) fun ak al=>A5 1 (((c.drop (a.toNat*12)).take 12).drop 11) fun am an=>Mk N ak al false d am an false f fun ao=>k0 (cond true ao false) (wrap .i64 (a+1))) (k0 false (wrap .i64 (a+1)))) (k0 false (wrap .i64 (a+1)))) (k0 false (wrap .i64 (a+1)))) none) none) none) none) none) (k0 false (wrap .i64 (a+1)))) none) none) none) none) none) (k0 false (wrap .i64 (a+1)))) none) none) none) none) none) (k0 false (wrap .i64 (a+1)))) (k0 false (wrap .i64 (a+1)))) (k0 false (wrap .i64 (a+1)))) none) none) none) none) none) none)
def Se(N:Nat)(r0:Bool->O R)(b:LA)(g:Nat)(i d:Bool)(c:LA)(h:Nat)(j f:Bool)(k0:Bool->Int->O R)(q1:Int->O R)(l:Bool)(m:Int):O R:=(cond ((decide (m<(g:Int)))==true) (cond (cond true l false) (q1 m) (r0 l)) (r0 l))
def Hw(r0:Bool->O R)(b:LA)(g:Nat)(i d:Bool)(c:LA)(h:Nat)(j f:Bool):Nat->Bool->Int->O R
|0=>fun _ _=>none
|n+1=>Se N r0 b g i d c h j f (Hw r0 b g i d c h j f n) (Uw N (Hw r0 b g i d c h j f n) r0 b g i d c h j f)
def Zq(N:Nat)(r0:Bool->O R)(q0:Bool->Int->O R)(b:LA)(g:Nat)(i d:Bool)(c:LA)(h:Nat)(j f:Bool):O R:=(q0 ((g:Int)==(h:Int)) 0)
def Wf:=(Ad fun N b g i d c h j f r0=>Zq (R:=R) N r0 (Hw N r0 b g i d c h j f N) b g i d c h j f).1
def QE(b g i d c h j f r0):(@Wf R N b g i d c h j f r0)=(Zq N r0 (Hw N r0 b g i d c h j f N) b g i d c h j f):=by rw[Wf,(Ad _).2]
def Z_:Vx:=[BY N]
def UA(F:KF R):=K8 Tryz.f27 ry (Z_ N) [] N F
def qk(b:LA)(g:Nat)(i d:Bool)(c:LA)(h:Nat)(j f:Bool)(K:St->O R):=fun a=>K ⟨[(0,.imm b g 12 i d),(1,.imm c h 12 j f),(6,iv a)],[]⟩
def UB(b:LA)(g:Nat)(i d:Bool)(c:LA)(h:Nat)(j f:Bool)(K:St->O R):=fun l m=>K ⟨[(0,.imm b g 12 i d),(1,.imm c h 12 j f),(5,.bool l),(6,iv m)],[]⟩
def ig Q0 (F:KF R) (b g i d c h j f):qk b g i d c h j f (By (UA N F (pz 21569) [Q0]))=(Uw N (UB b g i d c h j f Q0) (Bk F) b g i d c h j f):=by kernel_rfl
def ii(F:KF R)(b g i d c h j f):∀ n,UB b g i d c h j f (Al (UA N F (pz 1348) []) n)=(Hw N (Bk F) b g i d c h j f n):=Dt fun n e=>(Sq (Se N (Bk F) b g i d c h j f) e ((jW ..).trans ((ig ..).trans (jK (Uw _ · _ _ _ _ _ _ _ _ _) e))):_)
def u9:=Cr N 27 (Z_ N) ry (fun
|[.imm b g 12 i d,.imm c h 12 j f],[]=>some fun _ k=>Wf N b g i d c h j f (Bk k)
| _,_=>none) fun _ _=>by split;intro R F;exact(Cj (Zq N (Bk F) · _ _ _ _ _ _ _ _) ((lW ..).trans (ii ..)):_).trans (QE ..).symm;trivial
def oL(N:Nat)(a:LA)(b:Bool)(r0:LA->O R):O R:=(Ax .i64 (a.drop 1) fun c=>Ax .i64 (a.drop 2) fun d=>Ax .i64 (a.drop 3) fun e=>Ax .i64 (a.drop 5) fun f=>Ax .i64 (a.drop 6) fun g=>Ax .i64 (a.drop 7) fun h=>Ax .i64 (a.drop 8) fun i=>Ax .i64 (a.drop 9) fun j=>Ax .i64 (a.drop 10) fun l=>Ax .i64 (a.drop 11) fun m=>Ax .i64 (a.drop 12) fun n=>Ax .i64 (a.drop 13) fun o=>Ax .i64 (a.drop 14) fun p=>Ax .i64 (a.drop 15) fun q=>Ax .i64 (a.drop 16) fun r=>Ax .i64 (a.drop 17) fun s=>Ax .i64 (a.drop 19) fun t=>Ax .i64 (a.drop 20) fun u=>Ax .i64 (a.drop 21) fun v=>r0 [.int .i64 c,.int .i64 d,.int .i64 e,.int .i64 f,.int .i64 g,.int .i64 h,.int .i64 i,.int .i64 j,.int .i64 l,.int .i64 m,.int .i64 n,.int .i64 o,.int .i64 p,.int .i64 q,.int .i64 r,.int .i64 s,.int .i64 t,.int .i64 u,.int .i64 v])
def Tm:=(Ad (@oL R)).1
def Z':@Tm R=@oL R:=(Ad _).2
def xl(F:KF R):LA->O R:=fun w=>F (Bby 0 19) (hq [bQ 1 w])
def Aar:=Cr N 69 [] Ah8 (fun
|[.pagg a b],[]=>some fun _ k=>Tm N a b (xl k)
| _,_=>none) fun _ _=>by split;intro R F;dsimp only;rw[Z'];kernel_rfl;trivial
def Ux(N:Nat)(k0:Bool->Int->O R)(k3:Bool->Int->Int->O R)(r0:Bool->O R)(a:LA)(f:Nat)(h c:Bool)(b:LA)(g:Nat)(i d:Bool)(l m:LA)(y o:Int):O R:=(A5 2 (l.drop 4) fun p z=>cond (Ac o z) (cond (ble 2 ((p.drop (o.toNat*2)).length)) (cond ((!c)||(A0 ((p.drop (o.toNat*2)).take 2))) (A5 2 (m.drop 4) fun q aa=>cond (Ac o aa) (cond (ble 2 ((q.drop (o.toNat*2)).length)) (cond ((!d)||(A0 ((q.drop (o.toNat*2)).take 2))) (cond ((ble 1 2)&&((beq (((p.drop (o.toNat*2)).take 2).length) 2)&&((beq (((q.drop (o.toNat*2)).take 2).length) 2)&&(true&&(!false))))) (Ax .i64 ((p.drop (o.toNat*2)).take 2) fun ab=>Ax .i64 ((q.drop (o.toNat*2)).take 2) fun ac=>Ax .i64 (((p.drop (o.toNat*2)).take 2).drop 1) fun ad=>Ax .i64 (((q.drop (o.toNat*2)).take 2).drop 1) fun ae=>k3 ((ab==ac)&&((ad==ae)&&true)) y (wrap .i64 (o+1))) none) none) none) none) none) none) none)
def Sf(N:Nat)(k0:Bool->Int->O R)(r0:Bool->O R)(a:LA)(f:Nat)(h c:Bool)(b:LA)(g:Nat)(i d:Bool)(l m:LA)(k3:Bool->Int->Int->O R)(q4:Int->Int->O R)(r:Bool)(s w:Int):O R:=(A5 2 (l.drop 4) fun au af=>cond ((decide (w<(af:Int)))==true) (cond (cond true r false) (q4 s w) (k0 r (wrap .i64 (s+1)))) (k0 r (wrap .i64 (s+1))))
def F7(k0:Bool->Int->O R)(r0:Bool->O R)(a:LA)(f:Nat)(h c:Bool)(b:LA)(g:Nat)(i d:Bool)(l m:LA):Nat->Bool->Int->Int->O R
|0=>fun _ _ _=>none
|n+1=>Sf N k0 r0 a f h c b g i d l m (F7 k0 r0 a f h c b g i d l m n) (Ux N k0 (F7 k0 r0 a f h c b g i d l m n) r0 a f h c b g i d l m)
def Zr(N:Nat)(k0:Bool->Int->O R)(r0:Bool->O R)(a:LA)(f:Nat)(h c:Bool)(b:LA)(g:Nat)(i d:Bool)(q3:LA->LA->Bool->Int->Int->O R)(t:Bool)(u:Int)(l m:LA):O R:=(q3 l m t u 0)
def Uy(k0:Bool->Int->O R)(r0:Bool->O R)(a:LA)(f:Nat)(h c:Bool)(b:LA)(g:Nat)(i d:Bool)(t:Bool)(u:Int)(l m:LA):O R:=Zr N k0 r0 a f h c b g i d (fun l m=>F7 N k0 r0 a f h c b g i d l m N) t u l m
def Zs(k0:Bool->Int->O R)(r0:Bool->O R)(a:LA)(f:Nat)(h c:Bool)(b:LA)(g:Nat)(i d:Bool)(q2:Bool->Int->LA->LA->O R)(j:Int):O R:=(cond (Ac j f) (cond (ble 22 ((a.drop (j.toNat*22)).length)) (cond (Ac j g) (cond (ble 22 ((b.drop (j.toNat*22)).length)) (cond ((beq 0 0)&&((beq (((a.drop (j.toNat*22)).take 22).length) 22)&&(beq 22 22))) (cond ((beq 0 0)&&((beq (((b.drop (j.toNat*22)).take 22).length) 22)&&(beq 22 22))) (Gv ((a.drop (j.toNat*22)).take 22) fun ag=>Gv ((b.drop (j.toNat*22)).take 22) fun ah=>cond ((ag==ah)==true) (cond (ble 22 (((a.drop (j.toNat*22)).take 22).length)) (Tm N (((a.drop (j.toNat*22)).take 22).take 22) c fun ai=>cond (ble 22 (((b.drop (j.toNat*22)).take 22).length)) (Tm N (((b.drop (j.toNat*22)).take 22).take 22) d fun aj=>Mk N (ai.take 19) 19 false true (aj.take 19) 19 false true fun ak=>cond ((cond true ak false)==true) (A5 1 (((a.drop (j.toNat*22)).take 22).drop 18) fun al am=>A5 1 (((b.drop (j.toNat*22)).take 22).drop 18) fun an ao=>Mk N al am false c an ao false d fun ap=>cond ((cond true ap false)==true) (A5 2 (((a.drop (j.toNat*22)).take 22).drop 4) fun av aq=>A5 2 (((b.drop (j.toNat*22)).take 22).drop 4) fun aw ar=>q2 (cond true ((aq:Int)==(ar:Int)) false) j ((a.drop (j.toNat*22)).take 22) ((b.drop (j.toNat*22)).take 22)) (q2 false j ((a.drop (j.toNat*22)).take 22) ((b.drop (j.toNat*22)).take 22))) (q2 false j ((a.drop (j.toNat*22)).take 22) ((b.drop (j.toNat*22)).take 22))) none) none) (q2 false j ((a.drop (j.toNat*22)).take 22) ((b.drop (j.toNat*22)).take 22))) none) none) none) none) none) none)
def Uz(k0:Bool->Int->O R)(r0:Bool->O R)(a:LA)(f:Nat)(h c:Bool)(b:LA)(g:Nat)(i d:Bool)(j:Int):O R:=Zs N k0 r0 a f h c b g i d (Uy N k0 r0 a f h c b g i d) j
def Sg(N:Nat)(r0:Bool->O R)(a:LA)(f:Nat)(h c:Bool)(b:LA)(g:Nat)(i d:Bool)(k0:Bool->Int->O R)(q1:Int->O R)(v:Bool)(x:Int):O R:=(cond ((decide (x<(f:Int)))==true) (cond (cond true v false) (q1 x) (r0 v)) (r0 v))
def Df(r0:Bool->O R)(a:LA)(f:Nat)(h c:Bool)(b:LA)(g:Nat)(i d:Bool):Nat->Bool->Int->O R
|0=>fun _ _=>none
|n+1=>Sg N r0 a f h c b g i d (Df r0 a f h c b g i d n) (Uz N (Df r0 a f h c b g i d n) r0 a f h c b g i d)
def Zt(N:Nat)(r0:Bool->O R)(q0:Bool->Int->O R)(a:LA)(f:Nat)(h c:Bool)(b:LA)(g:Nat)(i d:Bool):O R:=(q0 ((f:Int)==(g:Int)) 0)
def Wg:=(Ad fun N a f h c b g i d r0=>Zt (R:=R) N r0 (Df N r0 a f h c b g i d N) a f h c b g i d).1
def QF(a f h c b g i d r0):(@Wg R N a f h c b g i d r0)=(Zt N r0 (Df N r0 a f h c b g i d N) a f h c b g i d):=by rw[Wg,(Ad _).2]
def UC:Hints:={H:=hK 2 (hS (hK 1 (hS (hP [0,1,5,6] (hJ [0,1,6] hL (hS (hS (hK 1 (hJ [0,1,5,6,7,8] hL (hK 1 (hS (hP [0,1,5,6,7,8,9] (hJ [0,1,6,7,8,9] hL hL)) hL)))) hL) hL))) hL)) hL)}
def aA:Vx:=[Aar N,BY N]
def Od(F:KF R):=K8 Tryz.f28 UC (aA N) [] N F
def ql(a:LA)(f:Nat)(h c:Bool)(b:LA)(g:Nat)(i d:Bool)(l m:LA)(K:St->O R):=fun y o=>K ⟨[(0,.imm a f 22 h c),(1,.imm b g 22 i d),(6,iv y),(7,op 0),(8,op 1),(9,iv o)],hq [bP c 0 l,bP d 0 m]⟩
def UD(a:LA)(f:Nat)(h c:Bool)(b:LA)(g:Nat)(i d:Bool)(l m:LA)(K:St->O R):=fun r s w=>K ⟨[(0,.imm a f 22 h c),(1,.imm b g 22 i d),(5,.bool r),(6,iv s),(7,op 0),(8,op 1),(9,iv w)],hq [bP c 0 l,bP d 0 m]⟩
def qn(a:LA)(f:Nat)(h c:Bool)(b:LA)(g:Nat)(i d:Bool)(K:St->O R):=fun t u l m=>K ⟨[(0,.imm a f 22 h c),(1,.imm b g 22 i d),(5,.bool t),(6,iv u),(7,op 0),(8,op 1)],hq [bP c 0 l,bP d 0 m]⟩
def qo(a:LA)(f:Nat)(h c:Bool)(b:LA)(g:Nat)(i d:Bool)(K:St->O R):=fun j=>K ⟨[(0,.imm a f 22 h c),(1,.imm b g 22 i d),(6,iv j)],[]⟩
def F8(a:LA)(f:Nat)(h c:Bool)(b:LA)(g:Nat)(i d:Bool)(K:St->O R):=fun v x=>K ⟨[(0,.imm a f 22 h c),(1,.imm b g 22 i d),(5,.bool v),(6,iv x)],[]⟩
def ij(Q0 Q3)(F:KF R)(a f h c b g i d l m):ql a f h c b g i d l m (By (Od N F (pz 1413547329) [Q0,Q3]))=(Ux N (F8 a f h c b g i d Q0) (UD a f h c b g i d l m Q3) (Bk F) a f h c b g i d l m):=by kernel_rfl
def ik Q0 (F:KF R) (a f h c b g i d l m):∀ n,UD a f h c b g i d l m (Al (Od N F (pz 88346708) [Q0]) n)=(F7 N (F8 a f h c b g i d Q0) (Bk F) a f h c b g i d l m n):=Dt fun n e=>(Sq (Sf N (F8 a f h c b g i d Q0) (Bk F) a f h c b g i d l m) e ((jW ..).trans ((ij ..).trans (jK (Ux _ _ · _ _ _ _ _ _ _ _ _ _ _) e))):_)
def io Q0 (F:KF R) (a f h c b g i d):qn a f h c b g i d (By (Od N F (pz 5521669) [Q0]))=(Uy N (F8 a f h c b g i d Q0) (Bk F) a f h c b g i d):=(Cj (Zr N (F8 a f h c b g i d Q0) (Bk F) a f h c b g i d) (CJ fun l m=>(lW ..).trans (ik ..)):_)
def ip Q0 (F:KF R) (a f h c b g i d):qo a f h c b g i d (By (Od N F (pz 21569) [Q0]))=(Uz N (F8 a f h c b g i d Q0) (Bk F) a f h c b g i d):=(Cj (Zs N (F8 a f h c b g i d Q0) (Bk F) a f h c b g i d) ((jW ..).trans (io ..)):_)
def iq(F:KF R)(a f h c b g i d):∀ n,F8 a f h c b g i d (Al (Od N F (pz 1348) []) n)=(Df N (Bk F) a f h c b g i d n):=Dt fun n e=>(Sq (Sg N (Bk F) a f h c b g i d) e ((jW ..).trans ((ip ..).trans (jK (Uz _ · _ _ _ _ _ _ _ _ _) e))):_)
def u_:=Cr N 28 (aA N) UC (fun
|[.imm a f 22 h c,.imm b g 22 i d],[]=>some fun _ k=>Wg N a f h c b g i d (Bk k)
| _,_=>none) fun _ _=>by split;intro R F;exact(Cj (Zt N (Bk F) · _ _ _ _ _ _ _ _) ((lW ..).trans (iq ..)):_).trans (QF ..).symm;trivial
def Sh(N:Nat)(k0:Bool->Int->O R)(r0:Bool->O R)(a:LA)(c:Nat)(f g:Bool)(b:LA)(d:Nat)(h i:Bool)(j:Int):O R:=(cond (Ac j c) (cond (ble 9 ((a.drop (j.toNat*9)).length)) (cond (Ac j d) (cond (ble 9 ((b.drop (j.toNat*9)).length)) (cond ((ble 1 9)&&((beq (((a.drop (j.toNat*9)).take 9).length) 9)&&((beq (((b.drop (j.toNat*9)).take 9).length) 9)&&(true&&(!false))))) (Gv ((a.drop (j.toNat*9)).take 9) fun o=>Gv ((b.drop (j.toNat*9)).take 9) fun p=>Ax .i64 (((a.drop (j.toNat*9)).take 9).drop 1) fun q=>Ax .i64 (((b.drop (j.toNat*9)).take 9).drop 1) fun r=>Ax .i64 (((a.drop (j.toNat*9)).take 9).drop 2) fun s=>Ax .i64 (((b.drop (j.toNat*9)).take 9).drop 2) fun t=>Ax .i64 (((a.drop (j.toNat*9)).take 9).drop 3) fun u=>Ax .i64 (((b.drop (j.toNat*9)).take 9).drop 3) fun v=>Ax .i64 (((a.drop (j.toNat*9)).take 9).drop 4) fun w=>Ax .i64 (((b.drop (j.toNat*9)).take 9).drop 4) fun x=>Ax .i64 (((a.drop (j.toNat*9)).take 9).drop 5) fun y=>Ax .i64 (((b.drop (j.toNat*9)).take 9).drop 5) fun z=>Ax .i64 (((a.drop (j.toNat*9)).take 9).drop 6) fun aa=>Ax .i64 (((b.drop (j.toNat*9)).take 9).drop 6) fun ab=>Ax .i64 (((a.drop (j.toNat*9)).take 9).drop 7) fun ac=>Ax .i64 (((b.drop (j.toNat*9)).take 9).drop 7) fun ad=>Ax .i64 ((((a.drop (j.toNat*9)).take 9).drop 7).drop 1) fun ae=>Ax .i64 ((((b.drop (j.toNat*9)).take 9).drop 7).drop 1) fun af=>k0 ((o==p)&&((q==r)&&((s==t)&&((u==v)&&((w==x)&&((y==z)&&((aa==ab)&&(((ac==ad)&&((ae==af)&&true))&&true)))))))) (wrap .i64 (j+1))) none) none) none) none) none)
def Pu(N:Nat)(r0:Bool->O R)(a:LA)(c:Nat)(f g:Bool)(b:LA)(d:Nat)(h i:Bool)(k0:Bool->Int->O R)(q1:Int->O R)(l:Bool)(m:Int):O R:=(cond ((decide (m<(c:Int)))==true) (cond (cond true l false) (q1 m) (r0 l)) (r0 l))
def Fb(r0:Bool->O R)(a:LA)(c:Nat)(f g:Bool)(b:LA)(d:Nat)(h i:Bool):Nat->Bool->Int->O R
|0=>fun _ _=>none
|n+1=>Pu N r0 a c f g b d h i (Fb r0 a c f g b d h i n) (Sh N (Fb r0 a c f g b d h i n) r0 a c f g b d h i)
def W0(N:Nat)(r0:Bool->O R)(q0:Bool->Int->O R)(a:LA)(c:Nat)(f g:Bool)(b:LA)(d:Nat)(h i:Bool):O R:=(q0 ((c:Int)==(d:Int)) 0)
def Tn:=(Ad fun N a c f g b d h i r0=>W0 (R:=R) N r0 (Fb N r0 a c f g b d h i N) a c f g b d h i).1
def ND(a c f g b d h i r0):(@Tn R N a c f g b d h i r0)=(W0 N r0 (Fb N r0 a c f g b d h i N) a c f g b d h i):=by rw[Tn,(Ad _).2]
def QG(F:KF R):=K8 Tryz.f29 ry [] [] N F
def oM(a:LA)(c:Nat)(f g:Bool)(b:LA)(d:Nat)(h i:Bool)(K:St->O R):=fun j=>K ⟨[(0,.imm a c 9 f g),(1,.imm b d 9 h i),(6,iv j)],[]⟩
def QH(a:LA)(c:Nat)(f g:Bool)(b:LA)(d:Nat)(h i:Bool)(K:St->O R):=fun l m=>K ⟨[(0,.imm a c 9 f g),(1,.imm b d 9 h i),(5,.bool l),(6,iv m)],[]⟩
def ex Q0 (F:KF R) (a c f g b d h i):oM a c f g b d h i (By (QG N F (pz 21569) [Q0]))=(Sh N (QH a c f g b d h i Q0) (Bk F) a c f g b d h i):=by kernel_rfl
def ey(F:KF R)(a c f g b d h i):∀ n,QH a c f g b d h i (Al (QG N F (pz 1348) []) n)=(Fb N (Bk F) a c f g b d h i n):=Dt fun n e=>(Sq (Pu N (Bk F) a c f g b d h i) e ((jW ..).trans ((ex ..).trans (jK (Sh _ · _ _ _ _ _ _ _ _ _) e))):_)
def qp:=Cr N 29 [] ry (fun
|[.imm a c 9 f g,.imm b d 9 h i],[]=>some fun _ k=>Tn N a c f g b d h i (Bk k)
| _,_=>none) fun _ _=>by split;intro R F;exact(Cj (W0 N (Bk F) · _ _ _ _ _ _ _ _) ((lW ..).trans (ey ..)):_).trans (ND ..).symm;trivial
def W1(k0:Bool->Int->O R)(r0:Bool->O R)(a:LA)(c:Nat)(h d:Bool)(b:LA)(g:Nat)(i f:Bool)(j:Int):O R:=(cond (Ac j c) (cond (ble 5 ((a.drop (j.toNat*5)).length)) (cond (Ac j g) (cond (ble 5 ((b.drop (j.toNat*5)).length)) (cond ((beq 0 0)&&((beq (((a.drop (j.toNat*5)).take 5).length) 5)&&(beq 5 5))) (cond ((beq 0 0)&&((beq (((b.drop (j.toNat*5)).take 5).length) 5)&&(beq 5 5))) (Gv ((a.drop (j.toNat*5)).take 5) fun o=>Gv ((b.drop (j.toNat*5)).take 5) fun p=>cond ((o==p)==true) (Ax .i64 (((a.drop (j.toNat*5)).take 5).drop 1) fun q=>Ax .i64 (((b.drop (j.toNat*5)).take 5).drop 1) fun r=>cond ((cond true (q==r) false)==true) (A5 1 (((a.drop (j.toNat*5)).take 5).drop 2) fun s t=>A5 1 (((b.drop (j.toNat*5)).take 5).drop 2) fun u v=>Mk N s t false d u v false f fun w=>cond ((cond true w false)==true) (A5 1 (((a.drop (j.toNat*5)).take 5).drop 3) fun x y=>A5 1 (((b.drop (j.toNat*5)).take 5).drop 3) fun z aa=>Mk N x y false d z aa false f fun ab=>cond ((cond true ab false)==true) (A5 1 (((a.drop (j.toNat*5)).take 5).drop 4) fun ac ad=>A5 1 (((b.drop (j.toNat*5)).take 5).drop 4) fun ae af=>Mk N ac ad false d ae af false f fun ag=>k0 (cond true ag false) (wrap .i64 (j+1))) (k0 false (wrap .i64 (j+1)))) (k0 false (wrap .i64 (j+1)))) (k0 false (wrap .i64 (j+1)))) (k0 false (wrap .i64 (j+1)))) none) none) none) none) none) none)
def U0(N:Nat)(r0:Bool->O R)(a:LA)(c:Nat)(h d:Bool)(b:LA)(g:Nat)(i f:Bool)(k0:Bool->Int->O R)(q1:Int->O R)(l:Bool)(m:Int):O R:=(cond ((decide (m<(c:Int)))==true) (cond (cond true l false) (q1 m) (r0 l)) (r0 l))
def I9(r0:Bool->O R)(a:LA)(c:Nat)(h d:Bool)(b:LA)(g:Nat)(i f:Bool):Nat->Bool->Int->O R
|0=>fun _ _=>none
|n+1=>U0 N r0 a c h d b g i f (I9 r0 a c h d b g i f n) (W1 N (I9 r0 a c h d b g i f n) r0 a c h d b g i f)
def DL(N:Nat)(r0:Bool->O R)(q0:Bool->Int->O R)(a:LA)(c:Nat)(h d:Bool)(b:LA)(g:Nat)(i f:Bool):O R:=(q0 ((c:Int)==(g:Int)) 0)
def Zu:=(Ad fun N a c h d b g i f r0=>DL (R:=R) N r0 (I9 N r0 a c h d b g i f N) a c h d b g i f).1
def UE(a c h d b g i f r0):(@Zu R N a c h d b g i f r0)=(DL N r0 (I9 N r0 a c h d b g i f N) a c h d b g i f):=by rw[Zu,(Ad _).2]
def ez:Vx:=[BY N]
def aB(F:KF R):=K8 Tryz.f30 ry (ez N) [] N F
def ua(a:LA)(c:Nat)(h d:Bool)(b:LA)(g:Nat)(i f:Bool)(K:St->O R):=fun j=>K ⟨[(0,.imm a c 5 h d),(1,.imm b g 5 i f),(6,iv j)],[]⟩
def aC(a:LA)(c:Nat)(h d:Bool)(b:LA)(g:Nat)(i f:Bool)(K:St->O R):=fun l m=>K ⟨[(0,.imm a c 5 h d),(1,.imm b g 5 i f),(5,.bool l),(6,iv m)],[]⟩
def kv Q0 (F:KF R) (a c h d b g i f):ua a c h d b g i f (By (aB N F (pz 21569) [Q0]))=(W1 N (aC a c h d b g i f Q0) (Bk F) a c h d b g i f):=by kernel_rfl
def kw(F:KF R)(a c h d b g i f):∀ n,aC a c h d b g i f (Al (aB N F (pz 1348) []) n)=(I9 N (Bk F) a c h d b g i f n):=Dt fun n e=>(Sq (U0 N (Bk F) a c h d b g i f) e ((jW ..).trans ((kv ..).trans (jK (W1 _ · _ _ _ _ _ _ _ _ _) e))):_)
def xm:=Cr N 30 (ez N) ry (fun
|[.imm a c 5 h d,.imm b g 5 i f],[]=>some fun _ k=>Zu N a c h d b g i f (Bk k)
| _,_=>none) fun _ _=>by split;intro R F;exact(Cj (DL N (Bk F) · _ _ _ _ _ _ _ _) ((lW ..).trans (kw ..)):_).trans (UE ..).symm;trivial
def Pv(N:Nat)(k0:Bool->Int->O R)(k3:Bool->Int->Int->O R)(r0:Bool->O R)(a:LA)(f:Nat)(h c:Bool)(b:LA)(g:Nat)(i d:Bool)(l m:LA)(y o:Int):O R:=(A5 3 (l.drop 3) fun p z=>cond (Ac o z) (cond (ble 3 ((p.drop (o.toNat*3)).length)) (cond ((!c)||(A0 ((p.drop (o.toNat*3)).take 3))) (A5 3 (m.drop 3) fun q aa=>cond (Ac o aa) (cond (ble 3 ((q.drop (o.toNat*3)).length)) (cond ((!d)||(A0 ((q.drop (o.toNat*3)).take 3))) (cond ((ble 1 3)&&((beq (((p.drop (o.toNat*3)).take 3).length) 3)&&((beq (((q.drop (o.toNat*3)).take 3).length) 3)&&(true&&(!false))))) (Ax .i64 ((p.drop (o.toNat*3)).take 3) fun ab=>Ax .i64 ((q.drop (o.toNat*3)).take 3) fun ac=>Ax .i64 (((p.drop (o.toNat*3)).take 3).drop 1) fun ad=>Ax .i64 (((q.drop (o.toNat*3)).take 3).drop 1) fun ae=>Ax .i64 (((p.drop (o.toNat*3)).take 3).drop 2) fun af=>Ax .i64 (((q.drop (o.toNat*3)).take 3).drop 2) fun ag=>k3 ((ab==ac)&&((ad==ae)&&((af==ag)&&true))) y (wrap .i64 (o+1))) none) none) none) none) none) none) none)
def Nr(N:Nat)(k0:Bool->Int->O R)(r0:Bool->O R)(a:LA)(f:Nat)(h c:Bool)(b:LA)(g:Nat)(i d:Bool)(l m:LA)(k3:Bool->Int->Int->O R)(q4:Int->Int->O R)(r:Bool)(s w:Int):O R:=(A5 3 (l.drop 3) fun av ah=>cond ((decide (w<(ah:Int)))==true) (cond (cond true r false) (q4 s w) (k0 r (wrap .i64 (s+1)))) (k0 r (wrap .i64 (s+1))))
def Eh(k0:Bool->Int->O R)(r0:Bool->O R)(a:LA)(f:Nat)(h c:Bool)(b:LA)(g:Nat)(i d:Bool)(l m:LA):Nat->Bool->Int->Int->O R
|0=>fun _ _ _=>none
|n+1=>Nr N k0 r0 a f h c b g i d l m (Eh k0 r0 a f h c b g i d l m n) (Pv N k0 (Eh k0 r0 a f h c b g i d l m n) r0 a f h c b g i d l m)
def Vq(N:Nat)(k0:Bool->Int->O R)(r0:Bool->O R)(a:LA)(f:Nat)(h c:Bool)(b:LA)(g:Nat)(i d:Bool)(q3:LA->LA->Bool->Int->Int->O R)(t:Bool)(u:Int)(l m:LA):O R:=(q3 l m t u 0)
def Pw(k0:Bool->Int->O R)(r0:Bool->O R)(a:LA)(f:Nat)(h c:Bool)(b:LA)(g:Nat)(i d:Bool)(t:Bool)(u:Int)(l m:LA):O R:=Vq N k0 r0 a f h c b g i d (fun l m=>Eh N k0 r0 a f h c b g i d l m N) t u l m
def Vr(k0:Bool->Int->O R)(r0:Bool->O R)(a:LA)(f:Nat)(h c:Bool)(b:LA)(g:Nat)(i d:Bool)(q2:Bool->Int->LA->LA->O R)(j:Int):O R:=(cond (Ac j f) (cond (ble 4 ((a.drop (j.toNat*4)).length)) (cond (Ac j g) (cond (ble 4 ((b.drop (j.toNat*4)).length)) (cond ((beq 0 0)&&((beq (((a.drop (j.toNat*4)).take 4).length) 4)&&(beq 4 4))) (cond ((beq 0 0)&&((beq (((b.drop (j.toNat*4)).take 4).length) 4)&&(beq 4 4))) (Gv ((a.drop (j.toNat*4)).take 4) fun ai=>Gv ((b.drop (j.toNat*4)).take 4) fun aj=>cond ((ai==aj)==true) (A5 1 (((a.drop (j.toNat*4)).take 4).drop 1) fun ak al=>A5 1 (((b.drop (j.toNat*4)).take 4).drop 1) fun am an=>Mk N ak al false c am an false d fun ao=>cond ((cond true ao false)==true) (QY (((a.drop (j.toNat*4)).take 4).drop 2) fun ap=>QY (((b.drop (j.toNat*4)).take 4).drop 2) fun aq=>cond ((cond true (ap==aq) false)==true) (A5 3 (((a.drop (j.toNat*4)).take 4).drop 3) fun aw ar=>A5 3 (((b.drop (j.toNat*4)).take 4).drop 3) fun ax au=>q2 (cond true ((ar:Int)==(au:Int)) false) j ((a.drop (j.toNat*4)).take 4) ((b.drop (j.toNat*4)).take 4)) (q2 false j ((a.drop (j.toNat*4)).take 4) ((b.drop (j.toNat*4)).take 4))) (q2 false j ((a.drop (j.toNat*4)).take 4) ((b.drop (j.toNat*4)).take 4))) (q2 false j ((a.drop (j.toNat*4)).take 4) ((b.drop (j.toNat*4)).take 4))) none) none) none) none) none) none)
def Px(k0:Bool->Int->O R)(r0:Bool->O R)(a:LA)(f:Nat)(h c:Bool)(b:LA)(g:Nat)(i d:Bool)(j:Int):O R:=Vr N k0 r0 a f h c b g i d (Pw N k0 r0 a f h c b g i d) j
def Ns(N:Nat)(r0:Bool->O R)(a:LA)(f:Nat)(h c:Bool)(b:LA)(g:Nat)(i d:Bool)(k0:Bool->Int->O R)(q1:Int->O R)(v:Bool)(x:Int):O R:=(cond ((decide (x<(f:Int)))==true) (cond (cond true v false) (q1 x) (r0 v)) (r0 v))
def Cm(r0:Bool->O R)(a:LA)(f:Nat)(h c:Bool)(b:LA)(g:Nat)(i d:Bool):Nat->Bool->Int->O R
|0=>fun _ _=>none
|n+1=>Ns N r0 a f h c b g i d (Cm r0 a f h c b g i d n) (Px N (Cm r0 a f h c b g i d n) r0 a f h c b g i d)
def U1(N:Nat)(r0:Bool->O R)(q0:Bool->Int->O R)(a:LA)(f:Nat)(h c:Bool)(b:LA)(g:Nat)(i d:Bool):O R:=(q0 ((f:Int)==(g:Int)) 0)
def Qn:=(Ad fun N a f h c b g i d r0=>U1 (R:=R) N r0 (Cm N r0 a f h c b g i d N) a f h c b g i d).1
def HT(a f h c b g i d r0):(@Qn R N a f h c b g i d r0)=(U1 N r0 (Cm N r0 a f h c b g i d N) a f h c b g i d):=by rw[Qn,(Ad _).2]
def NE:Hints:={H:=hK 2 (hS (hK 1 (hS (hP [0,1,5,6] (hJ [0,1,6] hL (hS (hS (hK 1 (hJ [0,1,5,6,7,8] hL (hK 1 (hS (hP [0,1,5,6,7,8,9] (hJ [0,1,6,7,8,9] hL hL)) hL)))) hL) hL))) hL)) hL)}
def QI:Vx:=[BY N]
def Kq(F:KF R):=K8 Tryz.f31 NE (QI N) [] N F
def ky(a:LA)(f:Nat)(h c:Bool)(b:LA)(g:Nat)(i d:Bool)(l m:LA)(K:St->O R):=fun y o=>K ⟨[(0,.imm a f 4 h c),(1,.imm b g 4 i d),(6,iv y),(7,op 0),(8,op 1),(9,iv o)],hq [bP c 0 l,bP d 0 m]⟩
def NF(a:LA)(f:Nat)(h c:Bool)(b:LA)(g:Nat)(i d:Bool)(l m:LA)(K:St->O R):=fun r s w=>K ⟨[(0,.imm a f 4 h c),(1,.imm b g 4 i d),(5,.bool r),(6,iv s),(7,op 0),(8,op 1),(9,iv w)],hq [bP c 0 l,bP d 0 m]⟩
def kz(a:LA)(f:Nat)(h c:Bool)(b:LA)(g:Nat)(i d:Bool)(K:St->O R):=fun t u l m=>K ⟨[(0,.imm a f 4 h c),(1,.imm b g 4 i d),(5,.bool t),(6,iv u),(7,op 0),(8,op 1)],hq [bP c 0 l,bP d 0 m]⟩
def lA(a:LA)(f:Nat)(h c:Bool)(b:LA)(g:Nat)(i d:Bool)(K:St->O R):=fun j=>K ⟨[(0,.imm a f 4 h c),(1,.imm b g 4 i d),(6,iv j)],[]⟩
def Ei(a:LA)(f:Nat)(h c:Bool)(b:LA)(g:Nat)(i d:Bool)(K:St->O R):=fun v x=>K ⟨[(0,.imm a f 4 h c),(1,.imm b g 4 i d),(5,.bool v),(6,iv x)],[]⟩
def aU(Q0 Q3)(F:KF R)(a f h c b g i d l m):ky a f h c b g i d l m (By (Kq N F (pz 1413547329) [Q0,Q3]))=(Pv N (Ei a f h c b g i d Q0) (NF a f h c b g i d l m Q3) (Bk F) a f h c b g i d l m):=by kernel_rfl
def aV Q0 (F:KF R) (a f h c b g i d l m):∀ n,NF a f h c b g i d l m (Al (Kq N F (pz 88346708) [Q0]) n)=(Eh N (Ei a f h c b g i d Q0) (Bk F) a f h c b g i d l m n):=Dt fun n e=>(Sq (Nr N (Ei a f h c b g i d Q0) (Bk F) a f h c b g i d l m) e ((jW ..).trans ((aU ..).trans (jK (Pv _ _ · _ _ _ _ _ _ _ _ _ _ _) e))):_)
def aW Q0 (F:KF R) (a f h c b g i d):kz a f h c b g i d (By (Kq N F (pz 5521669) [Q0]))=(Pw N (Ei a f h c b g i d Q0) (Bk F) a f h c b g i d):=(Cj (Vq N (Ei a f h c b g i d Q0) (Bk F) a f h c b g i d) (CJ fun l m=>(lW ..).trans (aV ..)):_)
def aX Q0 (F:KF R) (a f h c b g i d):lA a f h c b g i d (By (Kq N F (pz 21569) [Q0]))=(Px N (Ei a f h c b g i d Q0) (Bk F) a f h c b g i d):=(Cj (Vr N (Ei a f h c b g i d Q0) (Bk F) a f h c b g i d) ((jW ..).trans (aW ..)):_)
def aY(F:KF R)(a f h c b g i d):∀ n,Ei a f h c b g i d (Al (Kq N F (pz 1348) []) n)=(Cm N (Bk F) a f h c b g i d n):=Dt fun n e=>(Sq (Ns N (Bk F) a f h c b g i d) e ((jW ..).trans ((aX ..).trans (jK (Px _ · _ _ _ _ _ _ _ _ _) e))):_)
def oN:=Cr N 31 (QI N) NE (fun
|[.imm a f 4 h c,.imm b g 4 i d],[]=>some fun _ k=>Qn N a f h c b g i d (Bk k)
| _,_=>none) fun _ _=>by split;intro R F;exact(Cj (U1 N (Bk F) · _ _ _ _ _ _ _ _) ((lW ..).trans (aY ..)):_).trans (HT ..).symm;trivial
def lB(a:LA)(c:Bool)(b:LA)(d:Bool)(r0:Bool->O R):O R:=(Ax .i64 a fun e=>Ax .i64 b fun f=>cond ((e==f)==true) (A5 1 (a.drop 1) fun g h=>A5 1 (b.drop 1) fun i j=>Mk N g h false c i j false d fun l=>cond ((cond true l false)==true) (A5 3 (a.drop 2) fun m n=>A5 3 (b.drop 2) fun o p=>We N m n false c o p false d fun q=>cond ((cond true q false)==true) (A5 12 (a.drop 3) fun r s=>A5 12 (b.drop 3) fun t u=>Wf N r s false c t u false d fun v=>cond ((cond true v false)==true) (A5 22 (a.drop 4) fun w x=>A5 22 (b.drop 4) fun y z=>Wg N w x false c y z false d fun aa=>cond ((cond true aa false)==true) (A5 9 (a.drop 5) fun ab ac=>A5 9 (b.drop 5) fun ad ae=>Tn N ab ac false c ad ae false d fun af=>cond ((cond true af false)==true) (A5 5 (a.drop 6) fun ag ah=>A5 5 (b.drop 6) fun ai aj=>Zu N ag ah false c ai aj false d fun ak=>cond ((cond true ak false)==true) (A5 4 (a.drop 7) fun al am=>A5 4 (b.drop 7) fun an ao=>Qn N al am false c an ao false d fun ap=>r0 (cond true ap false)) (r0 false)) (r0 false)) (r0 false)) (r0 false)) (r0 false)) (r0 false)) (r0 false))
def UF:=(Ad (@lB R)).1
def jf:@UF R=@lB R:=(Ad _).2
def Ajp:=Cr N 12 [BY N,u7 N,u9 N,u_ N,qp N,xm N,oN N] Cp (fun
|[.pagg a c,.pagg b d],[]=>some fun _ k=>UF N a c b d (Bk k)
| _,_=>none) fun _ _=>by split;intro R F;dsimp only;rw[jf];kernel_rfl;trivial
def IX(N:Nat)(r0:Int->O R)(b:Bool)(a:LA):O R:=(A5 9 (a.drop 5) fun i c=>cond ((decide ((c:Int)>8))==false) (A5 5 (a.drop 6) fun j d=>cond ((cond false true (decide ((d:Int)>8)))==false) (A5 4 (a.drop 7) fun l e=>cond (cond false true (decide ((e:Int)>64))) (r0 8) (r0 0)) (r0 8)) (r0 8))
def YC(N:Nat)(r0:Int->O R)(q0:O R)(a:LA)(b:Bool):O R:=(A5 3 (a.drop 2) fun m f=>cond ((decide ((f:Int)>32))==false) (A5 12 (a.drop 3) fun n g=>cond ((cond false true (decide ((g:Int)>64)))==false) (A5 22 (a.drop 4) fun o h=>cond (cond false true (decide ((h:Int)>16))) (r0 8) q0) (r0 8)) (r0 8))
def UG:=(Ad fun N a b r0=>YC (R:=R) N r0 (IX N r0 b a) a b).1
def jg(a b r0):(@UG R N a b r0)=(YC N r0 (IX N r0 b a) a b):=by rw[UG,(Ad _).2]
def oO:Hints:={H:=hK 1 (hJ [1] hL hL)}
def Af4(F:KF R):=K8 Tryz.f40 oO [] [] N F
def Af5(b:Bool)(a:LA)(K:St->O R):=K ⟨[(1,op 0)],hq [bP b 0 a]⟩
def ud(F:KF R)(b a):Af5 b a (By (Af4 N F (pz 21) []))=(IX N (C5 F) b a):=by kernel_rfl
def Ajq:=Cr N 40 [] oO (fun
|[.pagg a b],[]=>some fun _ k=>UG N a b (C5 k)
| _,_=>none) fun _ _=>by split;intro R F;exact(Cj (YC N (C5 F) · _ _) ((jW ..).trans (ud ..)):_).trans (jg ..).symm;trivial
def DM(N:Nat)(r0:Bool->O R)(c:LA)(g:Nat)(b:Bool)(a:LA)(k1:Bool->Int->Int->O R)(m:Bool)(j h:Int):O R:=(cond (decide (h<j)) (cond (Ac h g) (cond (ble 5 ((c.drop (h.toNat*5)).length)) (cond ((beq 0 0)&&((beq (((c.drop (h.toNat*5)).take 5).length) 5)&&(beq 5 5))) (cond (m==true) (A5 1 (((c.drop (h.toNat*5)).take 5).drop 2) fun z p=>Ax .i64 a fun q=>cond ((cond true ((p:Int)==q) false)==true) (A5 1 (((c.drop (h.toNat*5)).take 5).drop 3) fun aa r=>Ax .i64 a fun s=>cond ((cond true ((r:Int)==s) false)==true) (A5 1 (((c.drop (h.toNat*5)).take 5).drop 4) fun ab t=>Ax .i64 a fun u=>k1 (cond true ((t:Int)==u) false) j (wrap .i64 (h+1))) (k1 false j (wrap .i64 (h+1)))) (k1 false j (wrap .i64 (h+1)))) (k1 false j (wrap .i64 (h+1)))) none) none) none) (r0 m))
def U2(r0:Bool->O R)(c:LA)(g:Nat)(b:Bool)(a:LA):Nat->Bool->Int->Int->O R
|0=>fun _ _ _=>none
|n+1=>DM N r0 c g b a (U2 r0 c g b a n)
def DN(N:Nat)(r0:Bool->O R)(d:LA)(f:Nat)(b:Bool)(a:LA)(k0:Bool->Int->Int->O R)(q1:LA->Nat->Bool->Int->Int->O R)(o:Bool)(l i:Int):O R:=(cond (decide (i<l)) (cond (Ac i f) (cond (ble 3 ((d.drop (i.toNat*3)).length)) (cond ((beq 0 0)&&((beq (((d.drop (i.toNat*3)).take 3).length) 3)&&(beq 3 3))) (cond (o==true) (A5 1 (((d.drop (i.toNat*3)).take 3).drop 1) fun ac v=>Ax .i64 a fun w=>k0 (cond true ((v:Int)==w) false) l (wrap .i64 (i+1))) (k0 false l (wrap .i64 (i+1)))) none) none) none) (A5 5 (a.drop 6) fun c g=>q1 c g o (g:Int) 0))
def Py(r0:Bool->O R)(d:LA)(f:Nat)(b:Bool)(a:LA):Nat->Bool->Int->Int->O R
|0=>fun _ _ _=>none
|n+1=>DN N r0 d f b a (Py r0 d f b a n) (fun c g=>U2 N r0 c g b a N)
def YD(N:Nat)(r0:Bool->O R)(q0:LA->Nat->Bool->Int->Int->O R)(a:LA)(b:Bool):O R:=(A5 1 (a.drop 1) fun ad x=>Ax .i64 a fun y=>A5 3 (a.drop 2) fun d f=>q0 d f ((x:Int)==y) (f:Int) 0)
def UH:=(Ad fun N a b r0=>YD (R:=R) N r0 (fun d f=>Py N r0 d f b a N) a b).1
def jh(a b r0):(@UH R N a b r0)=(YD N r0 (fun d f=>Py N r0 d f b a N) a b):=by rw[UH,(Ad _).2]
def oP:Hints:={H:=hK 2 (hS (hK 1 (hS (hP [1,3,15,16,17] hL) hL)) (hS (hK 1 (hS (hP [1,3,32,33,34] hL) hL)) hL))}
def oQ(F:KF R):=K8 Tryz.f41 oP [] [] N F
def Af6(c:LA)(g:Nat)(b:Bool)(a:LA)(K:St->O R):=fun m j h=>K ⟨[(1,op 0),(3,.bool m),(32,.imm c g 5 false b),(33,iv j),(34,iv h)],hq [bP b 0 a]⟩
def Af7(d:LA)(f:Nat)(b:Bool)(a:LA)(K:St->O R):=fun o l i=>K ⟨[(1,op 0),(3,.bool o),(15,.imm d f 3 false b),(16,iv l),(17,iv i)],hq [bP b 0 a]⟩
def ue(F:KF R)(c g b a):∀ n,Af6 c g b a (Al (oQ N F (pz 5444) []) n)=(U2 N (Bk F) c g b a n):=Dt fun n e=>(Cj (DM N (Bk F) c g b a) e:_)
def uf(F:KF R)(d f b a):∀ n,Af7 d f b a (Al (oQ N F (pz 1348) []) n)=(Py N (Bk F) d f b a n):=Dt fun n e=>(Sq (DN N (Bk F) d f b a) e (CJ fun c g=>(lW ..).trans (ue ..)):_)
def Ajr:=Cr N 41 [] oP (fun
|[.pagg a b],[]=>some fun _ k=>UH N a b (Bk k)
| _,_=>none) fun _ _=>by split;intro R F;exact(Cj (YD N (Bk F) · _ _) (CJ fun d f=>(lW ..).trans (uf ..)):_).trans (jh ..).symm;trivial
def RU(a:Lu)(r0:Bool->O R):O R:=(Me N a fun b=>r0 (!b))
def YE:=(Ad (@RU R)).1
def UI:@YE R=@RU R:=(Ad _).2
def xn:=Cr N 85 [BQ N] Cp (fun
|[.str a],[]=>some fun _ k=>YE N a (Bk k)
| _,_=>none) fun _ _=>by split;intro R F;dsimp only;rw[UI];kernel_rfl;trivial
def Cz(r0:Int->O R)(b:LA)(a:Nat)(c d:Bool)(k0:Int->Int->O R)(g f:Int):O R:=(cond (decide (f<g)) (cond (Ac f a) (Gv (b.drop (f.toNat*1)) fun h=>YE N h fun i=>cond i (r0 f) (k0 g (wrap .i64 (f+1)))) none) (r0 (-1)))
def Bf(r0:Int->O R)(b:LA)(a:Nat)(c d:Bool):Nat->Int->Int->O R
|0=>fun _ _=>none
|n+1=>Cz N r0 b a c d (Bf r0 b a c d n)
def Di(N:Nat)(r0:Int->O R)(q0:Int->Int->O R)(b:LA)(a:Nat)(c d:Bool):O R:=(q0 (a:Int) 0)
def Dn:=(Ad fun N b a c d r0=>Di (R:=R) N r0 (Bf N r0 b a c d N) b a c d).1
def It(b a c d r0):(@Dn R N b a c d r0)=(Di N r0 (Bf N r0 b a c d N) b a c d):=by rw[Dn,(Ad _).2]
def I3:Hints:={H:=hK 1 (hS (hK 1 (hS (hP [0,1,7,8] hL) hL)) hL)}
def Jh:Vx:=[xn N]
def U3(F:KF R):=K8 Tryz.f127 I3 (Jh N) [] N F
def U4(b:LA)(a:Nat)(c d:Bool)(K:St->O R):=fun g f=>K ⟨[(0,.imm b a 1 c d),(1,.fn 85 []),(7,iv g),(8,iv f)],[]⟩
def Rh(F:KF R)(b a c d):∀ n,U4 b a c d (Al (U3 N F (pz 324) []) n)=(Bf N (C5 F) b a c d n):=Dt fun n e=>(Cj (Cz N (C5 F) b a c d) e:_)
def Vs:=Cr N 127 (Jh N) I3 (fun
|[.imm b a 1 c d,.fn 85 []],[]=>some fun _ k=>Dn N b a c d (C5 k)
| _,_=>none) fun _ _=>by split;intro R F;exact(Cj (Di N (C5 F) · _ _ _ _) ((lW ..).trans (Rh ..)):_).trans (It ..).symm;trivial
def Fm(a:LA)(b:Nat)(d c:Bool)(r0:Bool->O R):O R:=(Dn N a b false c fun e=>r0 (decide (e>=0)))
def A3:=(Ad (@Fm R)).1
def Iu:@A3 R=@Fm R:=(Ad _).2
def Vt:=Cr N 84 [Vs N] Cp (fun
|[.imm a b 1 d c,.fn 85 []],[]=>some fun _ k=>A3 N a b d c (Bk k)
| _,_=>none) fun _ _=>by split;intro R F;dsimp only;rw[Iu];kernel_rfl;trivial
def oR(N:Nat)(k7:Int->O R)(r0:Int->O R)(a c f h j m:Nat)(b d g i l o:LA)(k8:Int->O R)(bl:Int):O R:=(k7 (wrap .i64 (bl+1)))
def QJ(k7:Int->O R)(r0:Int->O R)(a c f h j m:Nat)(b d g i l o:LA):Nat->Int->O R
|0=>fun _=>none
|n+1=>oR N k7 r0 a c f h j m b d g i l o (QJ k7 r0 a c f h j m b d g i l o n)
def IY(k7:Int->O R)(r0:Int->O R)(a c f h j m:Nat)(b d g i l o:LA)(k9:Int->Int->Int->O R)(ar au af:Int):O R:=(cond (decide (af<au)) (cond (Ac af a) (Gv (b.drop (0+(af.toNat*1))) fun bn=>cond ((decide ((0:Int)<=(0:Int)))&&((decide (0<=af))&&((decide (af<=(a:Int)))&&(decide ((a:Int)<=(a:Int)))))) (Am N (b.take (af.toNat*1)) af.toNat false true bn fun bo=>cond bo (r0 10) (k9 ar au (wrap .i64 (af+1)))) none) none) (k7 (wrap .i64 (ar+1))))
def To(k7:Int->O R)(r0:Int->O R)(a c f h j m:Nat)(b d g i l o:LA):Nat->Int->Int->Int->O R
|0=>fun _ _ _=>none
|n+1=>IY N k7 r0 a c f h j m b d g i l o (To k7 r0 a c f h j m b d g i l o n)
def DO(k7:Int->O R)(r0:Int->O R)(c a f h j m:Nat)(d b g i l o:LA)(k10:Int->Int->Int->O R)(av aw ag:Int):O R:=(cond (decide (ag<aw)) (cond (Ac ag c) (Gv (d.drop (0+(ag.toNat*1))) fun bp=>cond ((decide ((0:Int)<=(0:Int)))&&((decide (0<=ag))&&((decide (ag<=(c:Int)))&&(decide ((c:Int)<=(c:Int)))))) (Am N (d.take (ag.toNat*1)) ag.toNat false true bp fun bq=>cond bq (r0 10) (k10 av aw (wrap .i64 (ag+1)))) none) none) (k7 (wrap .i64 (av+1))))
def Pz(k7:Int->O R)(r0:Int->O R)(c a f h j m:Nat)(d b g i l o:LA):Nat->Int->Int->Int->O R
|0=>fun _ _ _=>none
|n+1=>DO N k7 r0 c a f h j m d b g i l o (Pz k7 r0 c a f h j m d b g i l o n)
def DP(k7:Int->O R)(r0:Int->O R)(f a c h j m:Nat)(g b d i l o:LA)(k11:Int->Int->Int->O R)(ax ay ah:Int):O R:=(cond (decide (ah<ay)) (cond (Ac ah f) (Gv (g.drop (0+(ah.toNat*1))) fun br=>cond ((decide ((0:Int)<=(0:Int)))&&((decide (0<=ah))&&((decide (ah<=(f:Int)))&&(decide ((f:Int)<=(f:Int)))))) (Am N (g.take (ah.toNat*1)) ah.toNat false true br fun bs=>cond bs (r0 10) (k11 ax ay (wrap .i64 (ah+1)))) none) none) (k7 (wrap .i64 (ax+1))))
def P0(k7:Int->O R)(r0:Int->O R)(f a c h j m:Nat)(g b d i l o:LA):Nat->Int->Int->Int->O R
|0=>fun _ _ _=>none
|n+1=>DP N k7 r0 f a c h j m g b d i l o (P0 k7 r0 f a c h j m g b d i l o n)
def DQ(k7:Int->O R)(r0:Int->O R)(h a c f j m:Nat)(i b d g l o:LA)(k12:Int->Int->Int->O R)(az ba ai:Int):O R:=(cond (decide (ai<ba)) (cond (Ac ai h) (Gv (i.drop (0+(ai.toNat*1))) fun bt=>cond ((decide ((0:Int)<=(0:Int)))&&((decide (0<=ai))&&((decide (ai<=(h:Int)))&&(decide ((h:Int)<=(h:Int)))))) (Am N (i.take (ai.toNat*1)) ai.toNat false true bt fun bu=>cond bu (r0 10) (k12 az ba (wrap .i64 (ai+1)))) none) none) (k7 (wrap .i64 (az+1))))
def P1(k7:Int->O R)(r0:Int->O R)(h a c f j m:Nat)(i b d g l o:LA):Nat->Int->Int->Int->O R
|0=>fun _ _ _=>none
|n+1=>DQ N k7 r0 h a c f j m i b d g l o (P1 k7 r0 h a c f j m i b d g l o n)
def DR(k7:Int->O R)(r0:Int->O R)(j a c f h m:Nat)(l b d g i o:LA)(k13:Int->Int->Int->O R)(bb bc aj:Int):O R:=(cond (decide (aj<bc)) (cond (Ac aj j) (Gv (l.drop (0+(aj.toNat*1))) fun bv=>cond ((decide ((0:Int)<=(0:Int)))&&((decide (0<=aj))&&((decide (aj<=(j:Int)))&&(decide ((j:Int)<=(j:Int)))))) (Am N (l.take (aj.toNat*1)) aj.toNat false true bv fun bw=>cond bw (r0 10) (k13 bb bc (wrap .i64 (aj+1)))) none) none) (k7 (wrap .i64 (bb+1))))
def P2(k7:Int->O R)(r0:Int->O R)(j a c f h m:Nat)(l b d g i o:LA):Nat->Int->Int->Int->O R
|0=>fun _ _ _=>none
|n+1=>DR N k7 r0 j a c f h m l b d g i o (P2 k7 r0 j a c f h m l b d g i o n)
def DS(k7:Int->O R)(r0:Int->O R)(m a c f h j:Nat)(o b d g i l:LA)(k14:Int->Int->Int->O R)(bd be ak:Int):O R:=(cond (decide (ak<be)) (cond (Ac ak m) (Gv (o.drop (0+(ak.toNat*1))) fun bx=>cond ((decide ((0:Int)<=(0:Int)))&&((decide (0<=ak))&&((decide (ak<=(m:Int)))&&(decide ((m:Int)<=(m:Int)))))) (Am N (o.take (ak.toNat*1)) ak.toNat false true bx fun bz=>cond bz (r0 10) (k14 bd be (wrap .i64 (ak+1)))) none) none) (k7 (wrap .i64 (bd+1))))
def P3(k7:Int->O R)(r0:Int->O R)(m a c f h j:Nat)(o b d g i l:LA):Nat->Int->Int->Int->O R
|0=>fun _ _ _=>none
|n+1=>DS N k7 r0 m a c f h j o b d g i l (P3 k7 r0 m a c f h j o b d g i l n)
def Zv(N:Nat)(r0:Int->O R)(a c f h j m:Nat)(b d g i l o:LA)(k7:Int->O R)(q8:Int->O R)(q9:Int->Int->Int->O R)(q10:Int->Int->Int->O R)(q11:Int->Int->Int->O R)(q12:Int->Int->Int->O R)(q13:Int->Int->Int->O R)(q14:Int->Int->Int->O R)(s:Int):O R:=(cond (decide (s<7)) (cond (Ac s 7) (cond (beq (s.toNat*1) 0) (q8 s) (cond (beq (s.toNat*1) 1) (q9 s (a:Int) 0) (cond (beq (s.toNat*1) 2) (q10 s (c:Int) 0) (cond (beq (s.toNat*1) 3) (q11 s (f:Int) 0) (cond (beq (s.toNat*1) 4) (q12 s (h:Int) 0) (cond (beq (s.toNat*1) 5) (q13 s (j:Int) 0) (cond (beq (s.toNat*1) 6) (q14 s (m:Int) 0) none))))))) none) (r0 0))
def D1(r0:Int->O R)(a c f h j m:Nat)(b d g i l o:LA):Nat->Int->O R
|0=>fun _=>none
|n+1=>Zv N r0 a c f h j m b d g i l o (D1 r0 a c f h j m b d g i l o n) (QJ N (D1 r0 a c f h j m b d g i l o n) r0 a c f h j m b d g i l o N) (To N (D1 r0 a c f h j m b d g i l o n) r0 a c f h j m b d g i l o N) (Pz N (D1 r0 a c f h j m b d g i l o n) r0 c a f h j m d b g i l o N) (P0 N (D1 r0 a c f h j m b d g i l o n) r0 f a c h j m g b d i l o N) (P1 N (D1 r0 a c f h j m b d g i l o n) r0 h a c f j m i b d g l o N) (P2 N (D1 r0 a c f h j m b d g i l o n) r0 j a c f h m l b d g i o N) (P3 N (D1 r0 a c f h j m b d g i l o n) r0 m a c f h j o b d g i l N)
def IZ(r0:Int->O R)(a c f h j m:Nat)(b d g i l o:LA)(k6:Int->O R)(q7:Int->O R)(t:Int):O R:=(cond (decide (t<7)) (cond (Ac t 7) (cond (beq (t.toNat*1) 0) (A3 N [] 0 false true fun ca=>cond ca (r0 9) (k6 (wrap .i64 (t+1)))) (cond (beq (t.toNat*1) 1) (A3 N (b.take (a*1)) a false true fun cb=>cond cb (r0 9) (k6 (wrap .i64 (t+1)))) (cond (beq (t.toNat*1) 2) (A3 N (d.take (c*1)) c false true fun cc=>cond cc (r0 9) (k6 (wrap .i64 (t+1)))) (cond (beq (t.toNat*1) 3) (A3 N (g.take (f*1)) f false true fun cd=>cond cd (r0 9) (k6 (wrap .i64 (t+1)))) (cond (beq (t.toNat*1) 4) (A3 N (i.take (h*1)) h false true fun ce=>cond ce (r0 9) (k6 (wrap .i64 (t+1)))) (cond (beq (t.toNat*1) 5) (A3 N (l.take (j*1)) j false true fun cf=>cond cf (r0 9) (k6 (wrap .i64 (t+1)))) (cond (beq (t.toNat*1) 6) (A3 N (o.take (m*1)) m false true fun cg=>cond cg (r0 9) (k6 (wrap .i64 (t+1)))) none))))))) none) (q7 0))
def Ml(r0:Int->O R)(a c f h j m:Nat)(b d g i l o:LA):Nat->Int->O R
|0=>fun _=>none
|n+1=>IZ N r0 a c f h j m b d g i l o (Ml r0 a c f h j m b d g i l o n) (D1 N r0 a c f h j m b d g i l o N)
def I_(N:Nat)(r0:Int->O R)(v:LA)(aa:Nat)(p:Bool)(a c f h j:Nat)(b d g i l:LA)(k5:Int->Int->Nat->LA->O R)(q6:Nat->LA->Int->O R)(bf al:Int)(m:Nat)(o:LA):O R:=(cond (decide (al<bf)) (cond (Ac al aa) (cond (ble 4 ((v.drop (al.toNat*4)).length)) (cond ((beq 0 0)&&((beq (((v.drop (al.toNat*4)).take 4).length) 4)&&(beq 4 4))) (Gv ((v.drop (al.toNat*4)).take 4) fun ch=>cond ((ble (m+1) 140737488355328)&&(ble ((m+1)*16) 140737488355328)) (k5 bf (wrap .i64 (al+1)) (m+1) ((o.take (m*1))++[.str ch])) none) none) none) none) (q6 m o 0))
def Tp(r0:Int->O R)(v:LA)(aa:Nat)(p:Bool)(a c f h j:Nat)(b d g i l:LA):Nat->Int->Int->Nat->LA->O R
|0=>fun _ _ _ _=>none
|n+1=>I_ N r0 v aa p a c f h j b d g i l (Tp r0 v aa p a c f h j b d g i l n) (fun m o=>Ml N r0 a c f h j m b d g i l o N)
def JA(N:Nat)(r0:Int->O R)(w:LA)(ab:Nat)(p:Bool)(q:LA)(a c f h:Nat)(b d g i:LA)(k4:Int->Int->Nat->LA->O R)(q5:LA->Nat->Nat->LA->Int->Int->Nat->LA->O R)(bg am:Int)(j:Nat)(l:LA):O R:=(cond (decide (am<bg)) (cond (Ac am ab) (cond (ble 5 ((w.drop (am.toNat*5)).length)) (cond ((beq 0 0)&&((beq (((w.drop (am.toNat*5)).take 5).length) 5)&&(beq 5 5))) (Gv ((w.drop (am.toNat*5)).take 5) fun ci=>cond ((ble (j+1) 140737488355328)&&(ble ((j+1)*16) 140737488355328)) (k4 bg (wrap .i64 (am+1)) (j+1) ((l.take (j*1))++[.str ci])) none) none) none) none) (A5 4 (q.drop 7) fun v aa=>q5 v aa j l (aa:Int) 0 0 []))
def Tq(r0:Int->O R)(w:LA)(ab:Nat)(p:Bool)(q:LA)(a c f h:Nat)(b d g i:LA):Nat->Int->Int->Nat->LA->O R
|0=>fun _ _ _ _=>none
|n+1=>JA N r0 w ab p q a c f h b d g i (Tq r0 w ab p q a c f h b d g i n) (fun v aa j l=>Tp N r0 v aa p a c f h j b d g i l N)
def JB(N:Nat)(r0:Int->O R)(x:LA)(ac:Nat)(p:Bool)(q:LA)(a c f:Nat)(b d g:LA)(k3:Int->Int->Nat->LA->O R)(q4:LA->Nat->Nat->LA->Int->Int->Nat->LA->O R)(bh an:Int)(h:Nat)(i:LA):O R:=(cond (decide (an<bh)) (cond (Ac an ac) (cond (ble 9 ((x.drop (an.toNat*9)).length)) (cond ((beq 0 0)&&((beq (((x.drop (an.toNat*9)).take 9).length) 9)&&(beq 9 9))) (Gv ((x.drop (an.toNat*9)).take 9) fun cj=>cond ((ble (h+1) 140737488355328)&&(ble ((h+1)*16) 140737488355328)) (k3 bh (wrap .i64 (an+1)) (h+1) ((i.take (h*1))++[.str cj])) none) none) none) none) (A5 5 (q.drop 6) fun w ab=>q4 w ab h i (ab:Int) 0 0 []))
def Tr(r0:Int->O R)(x:LA)(ac:Nat)(p:Bool)(q:LA)(a c f:Nat)(b d g:LA):Nat->Int->Int->Nat->LA->O R
|0=>fun _ _ _ _=>none
|n+1=>JB N r0 x ac p q a c f b d g (Tr r0 x ac p q a c f b d g n) (fun w ab h i=>Tq N r0 w ab p q a c f h b d g i N)
def JC(N:Nat)(r0:Int->O R)(y:LA)(ad:Nat)(p:Bool)(q:LA)(a c:Nat)(b d:LA)(k2:Int->Int->Nat->LA->O R)(q3:LA->Nat->Nat->LA->Int->Int->Nat->LA->O R)(bi ao:Int)(f:Nat)(g:LA):O R:=(cond (decide (ao<bi)) (cond (Ac ao ad) (cond (ble 22 ((y.drop (ao.toNat*22)).length)) (cond ((beq 0 0)&&((beq (((y.drop (ao.toNat*22)).take 22).length) 22)&&(beq 22 22))) (Gv ((y.drop (ao.toNat*22)).take 22) fun ck=>cond ((ble (f+1) 140737488355328)&&(ble ((f+1)*16) 140737488355328)) (k2 bi (wrap .i64 (ao+1)) (f+1) ((g.take (f*1))++[.str ck])) none) none) none) none) (A5 9 (q.drop 5) fun x ac=>q3 x ac f g (ac:Int) 0 0 []))
def Ts(r0:Int->O R)(y:LA)(ad:Nat)(p:Bool)(q:LA)(a c:Nat)(b d:LA):Nat->Int->Int->Nat->LA->O R
|0=>fun _ _ _ _=>none
|n+1=>JC N r0 y ad p q a c b d (Ts r0 y ad p q a c b d n) (fun x ac f g=>Tr N r0 x ac p q a c f b d g N)
def JD(N:Nat)(r0:Int->O R)(z:LA)(ae:Nat)(p:Bool)(q:LA)(a:Nat)(b:LA)(k1:Int->Int->Nat->LA->O R)(q2:LA->Nat->Nat->LA->Int->Int->Nat->LA->O R)(bj ap:Int)(c:Nat)(d:LA):O R:=(cond (decide (ap<bj)) (cond (Ac ap ae) (cond (ble 12 ((z.drop (ap.toNat*12)).length)) (cond ((beq 0 0)&&((beq (((z.drop (ap.toNat*12)).take 12).length) 12)&&(beq 12 12))) (Gv ((z.drop (ap.toNat*12)).take 12) fun cl=>cond ((ble (c+1) 140737488355328)&&(ble ((c+1)*16) 140737488355328)) (k1 bj (wrap .i64 (ap+1)) (c+1) ((d.take (c*1))++[.str cl])) none) none) none) none) (A5 22 (q.drop 4) fun y ad=>q2 y ad c d (ad:Int) 0 0 []))
def Tt(r0:Int->O R)(z:LA)(ae:Nat)(p:Bool)(q:LA)(a:Nat)(b:LA):Nat->Int->Int->Nat->LA->O R
|0=>fun _ _ _ _=>none
|n+1=>JD N r0 z ae p q a b (Tt r0 z ae p q a b n) (fun y ad c d=>Ts N r0 y ad p q a c b d N)
def JE(N:Nat)(r0:Int->O R)(r:LA)(u:Nat)(p:Bool)(q:LA)(k0:Int->Int->Nat->LA->O R)(q1:LA->Nat->Nat->LA->Int->Int->Nat->LA->O R)(bk aq:Int)(a:Nat)(b:LA):O R:=(cond (decide (aq<bk)) (cond (Ac aq u) (cond (ble 3 ((r.drop (aq.toNat*3)).length)) (cond ((beq 0 0)&&((beq (((r.drop (aq.toNat*3)).take 3).length) 3)&&(beq 3 3))) (Gv ((r.drop (aq.toNat*3)).take 3) fun bm=>cond ((ble (a+1) 140737488355328)&&(ble ((a+1)*16) 140737488355328)) (k0 bk (wrap .i64 (aq+1)) (a+1) ((b.take (a*1))++[.str bm])) none) none) none) none) (A5 12 (q.drop 3) fun z ae=>q1 z ae a b (ae:Int) 0 0 []))
def Tu(r0:Int->O R)(r:LA)(u:Nat)(p:Bool)(q:LA):Nat->Int->Int->Nat->LA->O R
|0=>fun _ _ _ _=>none
|n+1=>JE N r0 r u p q (Tu r0 r u p q n) (fun z ae a b=>Tt N r0 z ae p q a b N)
def gV(N:Nat)(r0:Int->O R)(q0:LA->Nat->Int->Int->Nat->LA->O R)(q:LA)(p:Bool):O R:=(A5 3 (q.drop 2) fun r u=>q0 r u (u:Int) 0 0 [])
def fA:=(Ad fun N q p r0=>gV (R:=R) N r0 (fun r u=>Tu N r0 r u p q N) q p).1
def oS(q p r0):(@fA R N q p r0)=(gV N r0 (fun r u=>Tu N r0 r u p q N) q p):=by rw[fA,(Ad _).2]
def s_:Hints:={H:=hK 2 (hS (hK 1 (hS (hP [1,3,23,24,25] hL) hL)) (hS (hK 1 (hS (hP [1,3,38,39,40] hL) hL)) (hS (hK 1 (hS (hP [1,3,53,54,55] hL) hL)) (hS (hK 1 (hS (hP [1,3,68,69,70] hL) hL)) (hS (hK 1 (hS (hP [1,3,83,84,85] hL) hL)) (hS (hK 1 (hS (hP [3,98,99,100] hL) hL)) (hS (hK 1 (hS (hP [3,112,113] hL) hL)) (hS (hK 1 (hS (hP [119,120] (hK 2 (hS (hS (hK 2 (hS (hP [19,119,120,123,124,125] hL) hL)) hL) hL))) hL)) hL)))))))),cob:=[1000003,1000005,1000007,1000009,1000011,1000013,1000015]}
def xo:Vx:=[Vt N,Bs N]
def Ej(F:KF R):=K8 Tryz.f42 s_ (xo N) [] N F
def Ajs(a c f h j m:Nat)(b d g i l o:LA)(K:St->O R):=fun bl=>K ⟨[(19,Bby 0 0),(119,.agg [Bby 0 0,Bby 1 a,Bby 2 c,Bby 3 f,Bby 4 h,Bby 5 j,Bby 6 m]),(120,iv bl),(123,Bby 0 0),(124,iv 0),(125,iv 0)],hq [bQ 1 [],bQ 1 b,bQ 1 d,bQ 1 g,bQ 1 i,bQ 1 l,bQ 1 o]⟩
def Ajt(a c f h j m:Nat)(b d g i l o:LA)(K:St->O R):=fun ar au af=>K ⟨[(19,Bby 0 a),(119,.agg [Bby 1 0,Bby 0 a,Bby 2 c,Bby 3 f,Bby 4 h,Bby 5 j,Bby 6 m]),(120,iv ar),(123,Bby 0 a),(124,iv au),(125,iv af)],hq [bQ 1 b,bQ 1 [],bQ 1 d,bQ 1 g,bQ 1 i,bQ 1 l,bQ 1 o]⟩
def Af8(c a f h j m:Nat)(d b g i l o:LA)(K:St->O R):=fun av aw ag=>K ⟨[(19,Bby 0 c),(119,.agg [Bby 1 0,Bby 2 a,Bby 0 c,Bby 3 f,Bby 4 h,Bby 5 j,Bby 6 m]),(120,iv av),(123,Bby 0 c),(124,iv aw),(125,iv ag)],hq [bQ 1 d,bQ 1 [],bQ 1 b,bQ 1 g,bQ 1 i,bQ 1 l,bQ 1 o]⟩
def Af9(f a c h j m:Nat)(g b d i l o:LA)(K:St->O R):=fun ax ay ah=>K ⟨[(19,Bby 0 f),(119,.agg [Bby 1 0,Bby 2 a,Bby 3 c,Bby 0 f,Bby 4 h,Bby 5 j,Bby 6 m]),(120,iv ax),(123,Bby 0 f),(124,iv ay),(125,iv ah)],hq [bQ 1 g,bQ 1 [],bQ 1 b,bQ 1 d,bQ 1 i,bQ 1 l,bQ 1 o]⟩
def Aga(h a c f j m:Nat)(i b d g l o:LA)(K:St->O R):=fun az ba ai=>K ⟨[(19,Bby 0 h),(119,.agg [Bby 1 0,Bby 2 a,Bby 3 c,Bby 4 f,Bby 0 h,Bby 5 j,Bby 6 m]),(120,iv az),(123,Bby 0 h),(124,iv ba),(125,iv ai)],hq [bQ 1 i,bQ 1 [],bQ 1 b,bQ 1 d,bQ 1 g,bQ 1 l,bQ 1 o]⟩
def Agb(j a c f h m:Nat)(l b d g i o:LA)(K:St->O R):=fun bb bc aj=>K ⟨[(19,Bby 0 j),(119,.agg [Bby 1 0,Bby 2 a,Bby 3 c,Bby 4 f,Bby 5 h,Bby 0 j,Bby 6 m]),(120,iv bb),(123,Bby 0 j),(124,iv bc),(125,iv aj)],hq [bQ 1 l,bQ 1 [],bQ 1 b,bQ 1 d,bQ 1 g,bQ 1 i,bQ 1 o]⟩
def Agc(m a c f h j:Nat)(o b d g i l:LA)(K:St->O R):=fun bd be ak=>K ⟨[(19,Bby 0 m),(119,.agg [Bby 1 0,Bby 2 a,Bby 3 c,Bby 4 f,Bby 5 h,Bby 6 j,Bby 0 m]),(120,iv bd),(123,Bby 0 m),(124,iv be),(125,iv ak)],hq [bQ 1 o,bQ 1 [],bQ 1 b,bQ 1 d,bQ 1 g,bQ 1 i,bQ 1 l]⟩
def Ek(a c f h j m:Nat)(b d g i l o:LA)(K:St->O R):=fun s=>K ⟨[(119,.agg [Bby 0 0,Bby 1 a,Bby 2 c,Bby 3 f,Bby 4 h,Bby 5 j,Bby 6 m]),(120,iv s)],hq [bQ 1 [],bQ 1 b,bQ 1 d,bQ 1 g,bQ 1 i,bQ 1 l,bQ 1 o]⟩
def Aju(a c f h j m:Nat)(b d g i l o:LA)(K:St->O R):=fun t=>K ⟨[(3,op 0),(112,.agg [Bby 1 0,Bby 2 a,Bby 3 c,Bby 4 f,Bby 5 h,Bby 6 j,Bby 7 m]),(113,iv t)],hq [bN 0 [Bby 1 0,Bby 2 a,Bby 3 c,Bby 4 f,Bby 5 h,Bby 6 j,Bby 7 m],bQ 1 [],bQ 1 b,bQ 1 d,bQ 1 g,bQ 1 i,bQ 1 l,bQ 1 o]⟩
def Ajv(v:LA)(aa:Nat)(p:Bool)(a c f h j:Nat)(b d g i l:LA)(K:St->O R):=fun bf al m o=>K ⟨[(3,op 0),(98,.imm v aa 4 false p),(99,iv bf),(100,iv al)],hq [bN 0 [Bby 1 0,Bby 2 a,Bby 3 c,Bby 4 f,Bby 5 h,Bby 6 j,Bby 7 m],bQ 1 [],bQ 1 b,bQ 1 d,bQ 1 g,bQ 1 i,bQ 1 l,bQ 1 o]⟩
def Ajw(w:LA)(ab:Nat)(p:Bool)(q:LA)(a c f h:Nat)(b d g i:LA)(K:St->O R):=fun bg am j l=>K ⟨[(1,op 0),(3,op 1),(83,.imm w ab 5 false p),(84,iv bg),(85,iv am)],hq [bP p 0 q,bN 0 [Bby 2 0,Bby 3 a,Bby 4 c,Bby 5 f,Bby 6 h,Bby 7 j,Bby 8 0],bQ 1 [],bQ 1 b,bQ 1 d,bQ 1 g,bQ 1 i,bQ 1 l,bQ 1 []]⟩
def Ajx(x:LA)(ac:Nat)(p:Bool)(q:LA)(a c f:Nat)(b d g:LA)(K:St->O R):=fun bh an h i=>K ⟨[(1,op 0),(3,op 1),(68,.imm x ac 9 false p),(69,iv bh),(70,iv an)],hq [bP p 0 q,bN 0 [Bby 2 0,Bby 3 a,Bby 4 c,Bby 5 f,Bby 6 h,Bby 7 0,Bby 8 0],bQ 1 [],bQ 1 b,bQ 1 d,bQ 1 g,bQ 1 i,bQ 1 [],bQ 1 []]⟩
def Ajy(y:LA)(ad:Nat)(p:Bool)(q:LA)(a c:Nat)(b d:LA)(K:St->O R):=fun bi ao f g=>K ⟨[(1,op 0),(3,op 1),(53,.imm y ad 22 false p),(54,iv bi),(55,iv ao)],hq [bP p 0 q,bN 0 [Bby 2 0,Bby 3 a,Bby 4 c,Bby 5 f,Bby 6 0,Bby 7 0,Bby 8 0],bQ 1 [],bQ 1 b,bQ 1 d,bQ 1 g,bQ 1 [],bQ 1 [],bQ 1 []]⟩
def Ajz(z:LA)(ae:Nat)(p:Bool)(q:LA)(a:Nat)(b:LA)(K:St->O R):=fun bj ap c d=>K ⟨[(1,op 0),(3,op 1),(38,.imm z ae 12 false p),(39,iv bj),(40,iv ap)],hq [bP p 0 q,bN 0 [Bby 2 0,Bby 3 a,Bby 4 c,Bby 5 0,Bby 6 0,Bby 7 0,Bby 8 0],bQ 1 [],bQ 1 b,bQ 1 d,bQ 1 [],bQ 1 [],bQ 1 [],bQ 1 []]⟩
def Aj0(r:LA)(u:Nat)(p:Bool)(q:LA)(K:St->O R):=fun bk aq a b=>K ⟨[(1,op 0),(3,op 1),(23,.imm r u 3 false p),(24,iv bk),(25,iv aq)],hq [bP p 0 q,bN 0 [Bby 2 0,Bby 3 a,Bby 4 0,Bby 5 0,Bby 6 0,Bby 7 0,Bby 8 0],bQ 1 [],bQ 1 b,bQ 1 [],bQ 1 [],bQ 1 [],bQ 1 [],bQ 1 []]⟩
def xp Q7 (F:KF R) (a c f h j m b d g i l o):∀ n,Ajs a c f h j m b d g i l o (Al (Ej N F (pz 1466014372884) [Q7]) n)=(QJ N (Ek a c f h j m b d g i l o Q7) (C5 F) a c f h j m b d g i l o n):=Dt fun n e=>(Cj (oR N (Ek a c f h j m b d g i l o Q7) (C5 F) a c f h j m b d g i l o) e:_)
def xq Q7 (F:KF R) (a c f h j m b d g i l o):∀ n,Ajt a c f h j m b d g i l o (Al (Ej N F (pz 1466014372884) [Q7]) n)=(To N (Ek a c f h j m b d g i l o Q7) (C5 F) a c f h j m b d g i l o n):=Dt fun n e=>(Cj (IY N (Ek a c f h j m b d g i l o Q7) (C5 F) a c f h j m b d g i l o) e:_)
def uh Q7 (F:KF R) (c a f h j m d b g i l o):∀ n,Af8 c a f h j m d b g i l o (Al (Ej N F (pz 1466014372884) [Q7]) n)=(Pz N (Ek a c f h j m b d g i l o Q7) (C5 F) c a f h j m d b g i l o n):=Dt fun n e=>(Cj (DO N (Ek a c f h j m b d g i l o Q7) (C5 F) c a f h j m d b g i l o) e:_)
def ui Q7 (F:KF R) (f a c h j m g b d i l o):∀ n,Af9 f a c h j m g b d i l o (Al (Ej N F (pz 1466014372884) [Q7]) n)=(P0 N (Ek a c f h j m b d g i l o Q7) (C5 F) f a c h j m g b d i l o n):=Dt fun n e=>(Cj (DP N (Ek a c f h j m b d g i l o Q7) (C5 F) f a c h j m g b d i l o) e:_)
def uj Q7 (F:KF R) (h a c f j m i b d g l o):∀ n,Aga h a c f j m i b d g l o (Al (Ej N F (pz 1466014372884) [Q7]) n)=(P1 N (Ek a c f h j m b d g i l o Q7) (C5 F) h a c f j m i b d g l o n):=Dt fun n e=>(Cj (DQ N (Ek a c f h j m b d g i l o Q7) (C5 F) h a c f j m i b d g l o) e:_)
def uk Q7 (F:KF R) (j a c f h m l b d g i o):∀ n,Agb j a c f h m l b d g i o (Al (Ej N F (pz 1466014372884) [Q7]) n)=(P2 N (Ek a c f h j m b d g i l o Q7) (C5 F) j a c f h m l b d g i o n):=Dt fun n e=>(Cj (DR N (Ek a c f h j m b d g i l o Q7) (C5 F) j a c f h m l b d g i o) e:_)
def um Q7 (F:KF R) (m a c f h j o b d g i l):∀ n,Agc m a c f h j o b d g i l (Al (Ej N F (pz 1466014372884) [Q7]) n)=(P3 N (Ek a c f h j m b d g i l o Q7) (C5 F) m a c f h j o b d g i l n):=Dt fun n e=>(Cj (DS N (Ek a c f h j m b d g i l o Q7) (C5 F) m a c f h j o b d g i l) e:_)
def xr(F:KF R)(a c f h j m b d g i l o):∀ n,Ek a c f h j m b d g i l o (Al (Ej N F (pz 22369604) []) n)=(D1 N (C5 F) a c f h j m b d g i l o n):=Dt fun n e=>A7p (by kernel_rfl) ((A4c (fun cm cn co bm cp cq=>Zv N (C5 F) a c f h j m b d g i l o cm cn co bm cp cq _ _) e ((lW ..).trans ((xp ..).trans (jK (QJ _ · _ _ _ _ _ _ _ _ _ _ _ _ _ _) e))) ((lW ..).trans ((xq ..).trans (jK (To _ · _ _ _ _ _ _ _ _ _ _ _ _ _ _) e))) ((lW ..).trans ((uh ..).trans (jK (Pz _ · _ _ _ _ _ _ _ _ _ _ _ _ _ _) e))) ((lW ..).trans ((ui ..).trans (jK (P0 _ · _ _ _ _ _ _ _ _ _ _ _ _ _ _) e))) ((lW ..).trans ((uj ..).trans (jK (P1 _ · _ _ _ _ _ _ _ _ _ _ _ _ _ _) e)))).trans (A4b (Zv N (C5 F) a c f h j m b d g i l o _ _ _ _ _ _) ((lW ..).trans ((uk ..).trans (jK (P2 _ · _ _ _ _ _ _ _ _ _ _ _ _ _ _) e))) ((lW ..).trans ((um ..).trans (jK (P3 _ · _ _ _ _ _ _ _ _ _ _ _ _ _ _) e)))):_)
def xt(F:KF R)(a c f h j m b d g i l o):∀ n,Aju a c f h j m b d g i l o (Al (Ej N F (pz 5592388) []) n)=(Ml N (C5 F) a c f h j m b d g i l o n):=Dt fun n e=>(Sq (IZ N (C5 F) a c f h j m b d g i l o) e ((lW ..).trans (xr ..)):_)
def xu(F:KF R)(v aa p a c f h j b d g i l):∀ n,Ajv v aa p a c f h j b d g i l (Al (Ej N F (pz 1398084) []) n)=(Tp N (C5 F) v aa p a c f h j b d g i l n):=Dt fun n e=>(Sq (I_ N (C5 F) v aa p a c f h j b d g i l) e (CJ fun m o=>(lW ..).trans (xt ..)):_)
def xv(F:KF R)(w ab p q a c f h b d g i):∀ n,Ajw w ab p q a c f h b d g i (Al (Ej N F (pz 349508) []) n)=(Tq N (C5 F) w ab p q a c f h b d g i n):=Dt fun n e=>(Sq (JA N (C5 F) w ab p q a c f h b d g i) e (Abl fun v aa j l=>(lW ..).trans (xu ..)):_)
def xw(F:KF R)(x ac p q a c f b d g):∀ n,Ajx x ac p q a c f b d g (Al (Ej N F (pz 87364) []) n)=(Tr N (C5 F) x ac p q a c f b d g n):=Dt fun n e=>(Sq (JB N (C5 F) x ac p q a c f b d g) e (Abl fun w ab h i=>(lW ..).trans (xv ..)):_)
def xx(F:KF R)(y ad p q a c b d):∀ n,Ajy y ad p q a c b d (Al (Ej N F (pz 21828) []) n)=(Ts N (C5 F) y ad p q a c b d n):=Dt fun n e=>(Sq (JC N (C5 F) y ad p q a c b d) e (Abl fun x ac f g=>(lW ..).trans (xw ..)):_)
def xy(F:KF R)(z ae p q a b):∀ n,Ajz z ae p q a b (Al (Ej N F (pz 5444) []) n)=(Tt N (C5 F) z ae p q a b n):=Dt fun n e=>(Sq (JD N (C5 F) z ae p q a b) e (Abl fun y ad c d=>(lW ..).trans (xx ..)):_)
def xz(F:KF R)(r u p q):∀ n,Aj0 r u p q (Al (Ej N F (pz 1348) []) n)=(Tu N (C5 F) r u p q n):=Dt fun n e=>(Sq (JE N (C5 F) r u p q) e (Abl fun z ae a b=>(lW ..).trans (xy ..)):_)
def Ant:=Cr N 42 (xo N) s_ (fun
|[.pagg q p],[]=>some fun _ k=>fA N q p (C5 k)
| _,_=>none) fun _ _=>by split;intro R F;exact(Cj (gV N (C5 F) · _ _) (CJ fun r u=>(lW ..).trans (xz ..)):_).trans (oS ..).symm;trivial
def RV(N:Nat)(a b:Int)(c:Bool)(r0:Bool->O R):O R:=(cond (c==true) (cond ((cond true (decide (a>=0)) false)==true) (r0 (cond true (decide (a<b)) false)) (r0 false)) (r0 false))
def Ik:=(Ad (@RV R)).1
def UJ:@Ik R=@RV R:=(Ad _).2
def uo(F:KF R):Bool->O R:=fun d=>F (.tup []) [(100000,bN 0 [.bool d])]
def yH:=Cr N 88 [] Cp (fun
|[.int .i64 a,.int .i64 b,.optr 100000 0],[(100000,⟨false,false,false,false,0,[.bool c],false,none⟩)]=>some fun _ k=>Ik N a b c (uo k)
| _,_=>none) fun _ _=>by split;intro R F;dsimp only;rw[UJ];kernel_rfl;trivial
def JF(k4:Int->Int->Bool->O R)(r0:Bool->O R)(c:LA)(d:Nat)(b:Bool)(f:Int)(i:LA)(o:Nat)(a:LA)(k6:Int->Int->Int->Bool->O R)(ac ad v:Int)(ae:Bool):O R:=(cond (decide (v<ad)) (cond (Ac v o) (cond (ble 3 ((i.drop (v.toNat*3)).length)) (cond ((!b)||(A0 ((i.drop (v.toNat*3)).take 3))) (cond ((beq (((i.drop (v.toNat*3)).take 3).length) 3)&&((ble 3 3)&&(!false))) (Ax .i64 (setCells [Bbz,Bbz,Bbz] 0 ((i.drop (v.toNat*3)).take 3)) fun ar=>A5 22 (a.drop 4) fun br au=>Ik N ar (au:Int) ae fun av=>k6 ac ad (wrap .i64 (v+1)) av) none) none) none) none) (k4 f (wrap .i64 (ac+1)) ae))
def X7(k4:Int->Int->Bool->O R)(r0:Bool->O R)(c:LA)(d:Nat)(b:Bool)(f:Int)(i:LA)(o:Nat)(a:LA):Nat->Int->Int->Int->Bool->O R
|0=>fun _ _ _ _=>none
|n+1=>JF N k4 r0 c d b f i o a (X7 k4 r0 c d b f i o a n)
def JG(k4:Int->Int->Bool->O R)(r0:Bool->O R)(c:LA)(d:Nat)(b:Bool)(f:Int)(t:LA)(p:Nat)(a:LA)(k5:Int->Int->Int->Bool->LA->O R)(q6:LA->Nat->Int->Int->Int->Bool->O R)(af ag ab:Int)(ah:Bool)(ai:LA):O R:=(cond (decide (ab<ag)) (cond (Ac ab p) (Ax .i64 (t.drop (ab.toNat*1)) fun aw=>A5 12 (a.drop 3) fun bs ax=>Ik N aw (ax:Int) ah fun ay=>k5 af ag (wrap .i64 (ab+1)) ay ai) none) (A5 3 (ai.drop 3) fun i o=>q6 i o af (o:Int) 0 ah))
def Tv(k4:Int->Int->Bool->O R)(r0:Bool->O R)(c:LA)(d:Nat)(b:Bool)(f:Int)(t:LA)(p:Nat)(a:LA):Nat->Int->Int->Int->Bool->LA->O R
|0=>fun _ _ _ _ _=>none
|n+1=>JG N k4 r0 c d b f t p a (Tv k4 r0 c d b f t p a n) (fun i o=>X7 N k4 r0 c d b f i o a N)
def JH(N:Nat)(r0:Bool->O R)(c:LA)(d:Nat)(b:Bool)(a:LA)(k4:Int->Int->Bool->O R)(q5:Int->LA->Nat->Int->Int->Int->Bool->LA->O R)(f w:Int)(aj:Bool):O R:=(cond (decide (w<f)) (cond (Ac w d) (cond (ble 4 ((c.drop (w.toNat*4)).length)) (cond ((beq 0 0)&&((beq (((c.drop (w.toNat*4)).take 4).length) 4)&&(beq 4 4))) (A5 1 (((c.drop (w.toNat*4)).take 4).drop 1) fun t p=>q5 f t p w (p:Int) 0 aj ((c.drop (w.toNat*4)).take 4)) none) none) none) (r0 aj))
def Mm(r0:Bool->O R)(c:LA)(d:Nat)(b:Bool)(a:LA):Nat->Int->Int->Bool->O R
|0=>fun _ _ _=>none
|n+1=>JH N r0 c d b a (Mm r0 c d b a n) (fun f t p=>Tv N (Mm r0 c d b a n) r0 c d b f t p a N)
def JI(r0:Bool->O R)(l:LA)(q:Nat)(b:Bool)(a:LA)(k3:Int->Int->Bool->O R)(q4:LA->Nat->Int->Int->Bool->O R)(ak y:Int)(al:Bool):O R:=(cond (decide (y<ak)) (cond (Ac y q) (cond (ble 5 ((l.drop (y.toNat*5)).length)) (cond ((beq 0 0)&&((beq (((l.drop (y.toNat*5)).take 5).length) 5)&&(beq 5 5))) (Ax .i64 (((l.drop (y.toNat*5)).take 5).drop 1) fun az=>A5 3 (a.drop 2) fun bt ba=>Ik N az (ba:Int) al fun bb=>k3 ak (wrap .i64 (y+1)) bb) none) none) none) (A5 4 (a.drop 7) fun c d=>q4 c d (d:Int) 0 al))
def Ok(r0:Bool->O R)(l:LA)(q:Nat)(b:Bool)(a:LA):Nat->Int->Int->Bool->O R
|0=>fun _ _ _=>none
|n+1=>JI N r0 l q b a (Ok r0 l q b a n) (fun c d=>Mm N r0 c d b a N)
def JJ(r0:Bool->O R)(m:LA)(r:Nat)(b:Bool)(a:LA)(k2:Int->Int->Bool->O R)(q3:LA->Nat->Int->Int->Bool->O R)(am z:Int)(an:Bool):O R:=(cond (decide (z<am)) (cond (Ac z r) (cond (ble 9 ((m.drop (z.toNat*9)).length)) (cond ((beq 0 0)&&((beq (((m.drop (z.toNat*9)).take 9).length) 9)&&(beq 9 9))) (Ax .i64 (((m.drop (z.toNat*9)).take 9).drop 1) fun bc=>A5 3 (a.drop 2) fun bu bd=>Ik N bc (bd:Int) an fun be=>k2 am (wrap .i64 (z+1)) be) none) none) none) (A5 5 (a.drop 6) fun l q=>q3 l q (q:Int) 0 an))
def Ol(r0:Bool->O R)(m:LA)(r:Nat)(b:Bool)(a:LA):Nat->Int->Int->Bool->O R
|0=>fun _ _ _=>none
|n+1=>JJ N r0 m r b a (Ol r0 m r b a n) (fun l q=>Ok N r0 l q b a N)
def JK(r0:Bool->O R)(g:LA)(s:Nat)(b:Bool)(a:LA)(k1:Int->Int->Bool->O R)(q2:LA->Nat->Int->Int->Bool->O R)(aa u:Int)(ao:Bool):O R:=(cond (decide (u<aa)) (cond (Ac u s) (cond (ble 22 ((g.drop (u.toNat*22)).length)) (cond ((beq 0 0)&&((beq (((g.drop (u.toNat*22)).take 22).length) 22)&&(beq 22 22))) (Ax .i64 (((g.drop (u.toNat*22)).take 22).drop 1) fun bf=>A5 3 (a.drop 2) fun bv bg=>Ik N bf (bg:Int) ao fun bh=>cond (bh==true) (Ax .i64 (((g.drop (u.toNat*22)).take 22).drop 19) fun bi=>cond ((bi==0)==false) (Ax .i64 (((g.drop (u.toNat*22)).take 22).drop 19) fun bj=>cond ((cond false true (bj==1))==false) (Ax .i64 (((g.drop (u.toNat*22)).take 22).drop 19) fun bk=>k1 aa (wrap .i64 (u+1)) (cond true (cond false true (bk==2)) false)) (k1 aa (wrap .i64 (u+1)) true)) (k1 aa (wrap .i64 (u+1)) true)) (k1 aa (wrap .i64 (u+1)) false)) none) none) none) (A5 9 (a.drop 5) fun m r=>q2 m r (r:Int) 0 ao))
def Om(r0:Bool->O R)(g:LA)(s:Nat)(b:Bool)(a:LA):Nat->Int->Int->Bool->O R
|0=>fun _ _ _=>none
|n+1=>JK N r0 g s b a (Om r0 g s b a n) (fun m r=>Ol N r0 m r b a N)
def JL(r0:Bool->O R)(h:LA)(j:Nat)(b:Bool)(a:LA)(k0:Int->Int->Bool->O R)(q1:LA->Nat->Int->Int->Bool->O R)(ap x:Int)(aq:Bool):O R:=(cond (decide (x<ap)) (cond (Ac x j) (cond (ble 12 ((h.drop (x.toNat*12)).length)) (cond ((beq 0 0)&&((beq (((h.drop (x.toNat*12)).take 12).length) 12)&&(beq 12 12))) (Ax .i64 (((h.drop (x.toNat*12)).take 12).drop 1) fun bl=>A5 3 (a.drop 2) fun bw bm=>Ik N bl (bm:Int) aq fun bn=>Ax .i64 (((h.drop (x.toNat*12)).take 12).drop 2) fun bo=>A5 3 (a.drop 2) fun bx bp=>Ik N bo (bp:Int) bn fun bq=>k0 ap (wrap .i64 (x+1)) bq) none) none) none) (A5 22 (a.drop 4) fun g s=>q1 g s (s:Int) 0 aq))
def Tx(r0:Bool->O R)(h:LA)(j:Nat)(b:Bool)(a:LA):Nat->Int->Int->Bool->O R
|0=>fun _ _ _=>none
|n+1=>JL N r0 h j b a (Tx r0 h j b a n) (fun g s=>Om N r0 g s b a N)
def gW(N:Nat)(r0:Bool->O R)(q0:LA->Nat->Int->Int->Bool->O R)(a:LA)(b:Bool):O R:=(A5 12 (a.drop 3) fun h j=>q0 h j (j:Int) 0 true)
def fB:=(Ad fun N a b r0=>gW (R:=R) N r0 (fun h j=>Tx N r0 h j b a N) a b).1
def oT(a b r0):(@fB R N a b r0)=(gW N r0 (fun h j=>Tx N r0 h j b a N) a b):=by rw[fB,(Ad _).2]
def sa:Hints:={H:=hK 3 (hS (hK 1 (hS (hP [1,3,4,21,22,23] hL) hL)) (hS (hK 1 (hS (hP [1,3,4,43,44,45] hL) hL)) (hS (hK 1 (hS (hP [1,3,4,74,75,76] hL) hL)) (hS (hK 1 (hS (hP [1,3,4,89,90,91] hL) hL)) (hS (hK 1 (hS (hP [1,3,4,104,105,106] (hK 2 (hS (hS (hK 1 (hS (hK 1 (hS (hP [1,3,4,14,104,105,106,111,112,113] hL) hL)) (hK 1 (hS (hP [1,3,4,104,105,106,125,126,127] hL) hL)))) hL) hL))) hL)) hL)))))}
def yI:Vx:=[yH N]
def Ty(F:KF R):=K8 Tryz.f43 sa (yI N) [] N F
def Aj1(c:LA)(d:Nat)(b:Bool)(f:Int)(i:LA)(o:Nat)(a:LA)(K:St->O R):=fun ac ad v ae=>K ⟨[(1,op 0),(3,op 1),(4,.fn 88 [op 1]),(104,.imm c d 4 false b),(105,iv f),(106,iv ac),(125,.imm i o 3 false b),(126,iv ad),(127,iv v)],hq [bP b 0 a,bN 0 [.bool ae]]⟩
def Aj2(c:LA)(d:Nat)(b:Bool)(f:Int)(t:LA)(p:Nat)(a:LA)(K:St->O R):=fun af ag ab ah ai=>K ⟨[(1,op 0),(3,op 1),(4,.fn 88 [op 1]),(14,op 2),(104,.imm c d 4 false b),(105,iv f),(106,iv af),(111,.imm t p 1 false b),(112,iv ag),(113,iv ab)],hq [bP b 0 a,bN 0 [.bool ah],bP b 0 ai]⟩
def FF(c:LA)(d:Nat)(b:Bool)(a:LA)(K:St->O R):=fun f w aj=>K ⟨[(1,op 0),(3,op 1),(4,.fn 88 [op 1]),(104,.imm c d 4 false b),(105,iv f),(106,iv w)],hq [bP b 0 a,bN 0 [.bool aj]]⟩
def Aj3(l:LA)(q:Nat)(b:Bool)(a:LA)(K:St->O R):=fun ak y al=>K ⟨[(1,op 0),(3,op 1),(4,.fn 88 [op 1]),(89,.imm l q 5 false b),(90,iv ak),(91,iv y)],hq [bP b 0 a,bN 0 [.bool al]]⟩
def Aj4(m:LA)(r:Nat)(b:Bool)(a:LA)(K:St->O R):=fun am z an=>K ⟨[(1,op 0),(3,op 1),(4,.fn 88 [op 1]),(74,.imm m r 9 false b),(75,iv am),(76,iv z)],hq [bP b 0 a,bN 0 [.bool an]]⟩
def Aj5(g:LA)(s:Nat)(b:Bool)(a:LA)(K:St->O R):=fun aa u ao=>K ⟨[(1,op 0),(3,op 1),(4,.fn 88 [op 1]),(43,.imm g s 22 false b),(44,iv aa),(45,iv u)],hq [bP b 0 a,bN 0 [.bool ao]]⟩
def Aj6(h:LA)(j:Nat)(b:Bool)(a:LA)(K:St->O R):=fun ap x aq=>K ⟨[(1,op 0),(3,op 1),(4,.fn 88 [op 1]),(21,.imm h j 12 false b),(22,iv ap),(23,iv x)],hq [bP b 0 a,bN 0 [.bool aq]]⟩
def yJ Q4 (F:KF R) (c d b f i o a):∀ n,Aj1 c d b f i o a (Al (Ty N F (pz 366499352660) [Q4]) n)=(X7 N (FF c d b a Q4) (Bk F) c d b f i o a n):=Dt fun n e=>(Cj (JF N (FF c d b a Q4) (Bk F) c d b f i o a) e:_)
def yK Q4 (F:KF R) (c d b f t p a):∀ n,Aj2 c d b f t p a (Al (Ty N F (pz 366499352644) [Q4]) n)=(Tv N (FF c d b a Q4) (Bk F) c d b f t p a n):=Dt fun n e=>(Sq (JG N (FF c d b a Q4) (Bk F) c d b f t p a) e (CJ fun i o=>(lW ..).trans (yJ ..)):_)
def yL(F:KF R)(c d b a):∀ n,FF c d b a (Al (Ty N F (pz 1398084) []) n)=(Mm N (Bk F) c d b a n):=Dt fun n e=>(Sq (JH N (Bk F) c d b a) e (Aw0 fun f t p=>(lW ..).trans ((yK ..).trans (jK (Tv _ · _ _ _ _ _ _ _ _ _) e))):_)
def yM(F:KF R)(l q b a):∀ n,Aj3 l q b a (Al (Ty N F (pz 349508) []) n)=(Ok N (Bk F) l q b a n):=Dt fun n e=>(Sq (JI N (Bk F) l q b a) e (CJ fun c d=>(lW ..).trans (yL ..)):_)
def yN(F:KF R)(m r b a):∀ n,Aj4 m r b a (Al (Ty N F (pz 87364) []) n)=(Ol N (Bk F) m r b a n):=Dt fun n e=>(Sq (JJ N (Bk F) m r b a) e (CJ fun l q=>(lW ..).trans (yM ..)):_)
def yO(F:KF R)(g s b a):∀ n,Aj5 g s b a (Al (Ty N F (pz 21828) []) n)=(Om N (Bk F) g s b a n):=Dt fun n e=>(Sq (JK N (Bk F) g s b a) e (CJ fun m r=>(lW ..).trans (yN ..)):_)
def yP(F:KF R)(h j b a):∀ n,Aj6 h j b a (Al (Ty N F (pz 5444) []) n)=(Tx N (Bk F) h j b a n):=Dt fun n e=>(Sq (JL N (Bk F) h j b a) e (CJ fun g s=>(lW ..).trans (yO ..)):_)
def Anu:=Cr N 43 (yI N) sa (fun
|[.pagg a b],[]=>some fun _ k=>fB N a b (Bk k)
| _,_=>none) fun _ _=>by split;intro R F;exact(Cj (gW N (Bk F) · _ _) (CJ fun h j=>(lW ..).trans (yP ..)):_).trans (oT ..).symm;trivial
def GM(N:Nat)(a:Lu)(b:Bool)(r0:Nat->LA->O R):O R:=(cond ((ble (0+a.length) 140737488355328)&&(ble ((0+a.length)*1) 140737488355328)) (r0 (0+a.length) (Az a)) none)
def NG:=(Ad (@GM R)).1
def NH:@NG R=@GM R:=(Ad _).2
def qq:=Cr N 89 [] At0 (fun
|[.optr 100000 0,.str a],[(100000,⟨false,false,false,false,0,[.nsl,.bool b],false,none⟩)]=>some fun _ k=>NG N a b (wE b k)
| _,_=>none) fun _ _=>by split;intro R F;dsimp only;rw[NH];kernel_rfl;trivial
def Xo(N:Nat)(b:Lu)(a:Nat)(d:Bool)(c:LA)(r0:Nat->LA->O R):O R:=(cond (decide ((a:Int)>1048576)) (r0 a c) (cond ((decide ((a:Int)>0))==true) (cond (Ac (wrap .i64 ((a:Int) - 1)) a) (Ax .u8 (c.drop (0+(((wrap .i64 ((a:Int) - 1)).toNat)*1))) fun e=>cond (cond true (e != 10) false) (cond ((ble (a+1) 140737488355328)&&(ble ((a+1)*1) 140737488355328)) (cond ((ble ((a+1)+b.length) 140737488355328)&&(ble (((a+1)+b.length)*1) 140737488355328)) (r0 ((a+1)+b.length) ((take ((a+1)*1) ((c.take (a*1))++[.int .u8 32]))++(Az b))) none) none) (cond ((ble (a+b.length) 140737488355328)&&(ble ((a+b.length)*1) 140737488355328)) (r0 (a+b.length) ((c.take (a*1))++(Az b))) none)) none) (cond ((ble (a+b.length) 140737488355328)&&(ble ((a+b.length)*1) 140737488355328)) (r0 (a+b.length) ((c.take (a*1))++(Az b))) none)))
def Aj:=(Ad (@Xo R)).1
def AM:@Aj R=@Xo R:=(Ad _).2
def Ex:=Cr N 89 [] At0 (fun
|[.optr 100000 0,.str b],[(100000,⟨false,false,false,false,0,[.own 100001 0 a,.bool d],false,none⟩),(100001,⟨false,false,true,false,1,c,false,some (5,0)⟩)]=>some fun _ k=>Aj N b a d c (wE d k)
| _,_=>none) fun _ _=>by split;intro R F;dsimp only;rw[AM];kernel_rfl;trivial
def Mn(r0:Nat->Bool->LA->O R)(b:LA)(a:Nat)(c d:Bool)(k0:Int->Int->Nat->Bool->LA->O R)(j f:Int)(l:Nat)(o:Bool)(m:LA):O R:=(cond (decide (f<j)) (cond (Ac f a) (Ax .i64 (b.drop (f.toNat*1)) fun p=>cond ((decide (p<(-1073741824)))==false) (cond (cond false true (decide (p>1073741824))) (strconv_Itoa N p fun q=>Aj N q l true m fun r s=>k0 j (wrap .i64 (f+1)) r true s) (strconv_Itoa N p fun t=>Aj N t l o m fun u v=>k0 j (wrap .i64 (f+1)) u o v)) (strconv_Itoa N p fun w=>Aj N w l true m fun x y=>k0 j (wrap .i64 (f+1)) x true y)) none) (r0 l o m))
def Ey(r0:Nat->Bool->LA->O R)(b:LA)(a:Nat)(c d:Bool):Nat->Int->Int->Nat->Bool->LA->O R
|0=>fun _ _ _ _ _=>none
|n+1=>Mn N r0 b a c d (Ey r0 b a c d n)
def Si(N:Nat)(r0:Nat->Bool->LA->O R)(q0:Int->Int->Nat->Bool->LA->O R)(b:LA)(a:Nat)(c d:Bool)(g:Nat)(h:Bool)(i:LA):O R:=(q0 (a:Int) 0 g h i)
def Ae:=(Ad fun N b a c d g h i r0=>Si (R:=R) N r0 (Ey N r0 b a c d N) b a c d g h i).1
def FG(b a c d g h i r0):(@Ae R N b a c d g h i r0)=(Si N r0 (Ey N r0 b a c d N) b a c d g h i):=by rw[Ae,(Ad _).2]
def HU:Hints:={H:=hK 1 (hS (hP [0,6,7,8] hL) hL),free:=[100001]}
def NI:Vx:=[dQ N,Ex N]
def iw(F:KF R):=K8 Tryz.f90 HU (NI N) [100000,100001] N F
def ix(b:LA)(a:Nat)(c d:Bool)(K:St->O R):=fun j f l o m=>K ⟨[(0,.optr 100000 0),(6,.imm b a 1 c d),(7,iv j),(8,iv f)],[(100000,bN 0 [Bby 0 l,.bool o]),(300000,⟨false,false,true,false,1,m,false,some (5,0)⟩)]⟩
def YF(F:KF R)(b a c d):∀ n,ix b a c d (Al (iw N F (pz 20) []) n)=(Ey N (V0 F) b a c d n):=Dt fun n e=>(Cj (Mn N (V0 F) b a c d) e:_)
def P4:=Cr N 90 (NI N) HU (fun
|[.optr 100000 0,.imm b a 1 c d],[(100000,⟨false,false,false,false,0,[.own 100001 0 g,.bool h],false,none⟩),(100001,⟨false,false,true,false,1,i,false,some (5,0)⟩)]=>some fun _ k=>Ae N b a c d g h i (V0 k)
| _,_=>none) fun _ _=>by split;intro R F;exact(Cj (Si N (V0 F) · _ _ _ _ _ _ _) ((lW ..).trans (YF ..)):_).trans (FG ..).symm;trivial
def NJ(N a:Nat)(c:Bool)(b:LA)(r0:Nat->LA->O R):O R:=(cond (decide ((a:Int)<=1048576)) (cond ((ble (a+1) 140737488355328)&&(ble ((a+1)*1) 140737488355328)) (r0 (a+1) ((b.take (a*1))++[.int .u8 10])) none) (r0 a b))
def Dj:=(Ad (@NJ R)).1
def QK:@Dj R=@NJ R:=(Ad _).2
def W2:=Cr N 91 [] At0 (fun
|[.optr 100000 0],[(100000,⟨false,false,false,false,0,[.own 100001 0 a,.bool c],false,none⟩),(100001,⟨false,false,true,false,1,b,false,some (5,0)⟩)]=>some fun _ k=>Dj N a c b (wE c k)
| _,_=>none) fun _ _=>by split;intro R F;dsimp only;rw[QK];kernel_rfl;trivial
def Nt(r0:Nat->LA->O R)(c:LA)(b:Nat)(d f a:Bool)(k0:Int->Int->Nat->LA->O R)(j i:Int)(l:Nat)(m:LA):O R:=(cond (decide (i<j)) (cond (Ac i b) (Gv (c.drop (i.toNat*1)) fun o=>Aj N o l a m fun p q=>k0 j (wrap .i64 (i+1)) p q) none) (r0 l m))
def Fy(r0:Nat->LA->O R)(c:LA)(b:Nat)(d f a:Bool):Nat->Int->Int->Nat->LA->O R
|0=>fun _ _ _ _=>none
|n+1=>Nt N r0 c b d f a (Fy r0 c b d f a n)
def U5(N:Nat)(r0:Nat->LA->O R)(q0:Int->Int->Nat->LA->O R)(c:LA)(b:Nat)(d f:Bool)(g:Nat)(a:Bool)(h:LA):O R:=(q0 (b:Int) 0 g h)
def Cv:=(Ad fun N c b d f g a h r0=>U5 (R:=R) N r0 (Fy N r0 c b d f a N) c b d f g a h).1
def HV(c b d f g a h r0):(@Cv R N c b d f g a h r0)=(U5 N r0 (Fy N r0 c b d f a N) c b d f g a h):=by rw[Cv,(Ad _).2]
def NK:Hints:={H:=hK 1 (hS (hP [0,6,7,8] hL) hL),free:=[100001]}
def QL:Vx:=[Ex N]
def lC(F:KF R):=K8 Tryz.f92 NK (QL N) [100000,100001] N F
def lD(c:LA)(b:Nat)(d f a:Bool)(K:St->O R):=fun j i l m=>K ⟨[(0,.optr 100000 0),(6,.imm c b 1 d f),(7,iv j),(8,iv i)],[(100000,bN 0 [Bby 0 l,.bool a]),(300000,⟨false,false,true,false,1,m,false,some (5,0)⟩)]⟩
def aZ(F:KF R)(c b d f a):∀ n,lD c b d f a (Al (lC N F (pz 20) []) n)=(Fy N (wE a F) c b d f a n):=Dt fun n e=>(Cj (Nt N (wE a F) c b d f a) e:_)
def Sj:=Cr N 92 (QL N) NK (fun
|[.optr 100000 0,.imm c b 1 d f],[(100000,⟨false,false,false,false,0,[.own 100001 0 g,.bool a],false,none⟩),(100001,⟨false,false,true,false,1,h,false,some (5,0)⟩)]=>some fun _ k=>Cv N c b d f g a h (wE a k)
| _,_=>none) fun _ _=>by split;rename_i c b d f g a h;intro R F;exact(Cj (U5 N (wE a F) · c b d f g a h) ((lW ..).trans (aZ ..)):_).trans (HV ..).symm;trivial
def Vu(a:LA)(j:Bool)(b:Nat)(d:Bool)(c:LA)(r0:Nat->Bool->LA->O R):O R:=(Ax .i64 a fun q=>cond ((decide (q<(-1073741824)))==false) (Ax .i64 a fun r=>cond ((cond false true (decide (r>1073741824)))==false) (Ax .i64 (a.drop 1) fun s=>cond ((cond false true (decide (s<1)))==false) (Ax .i64 (a.drop 1) fun t=>cond (cond false true (decide (t>1073741824))) (Ax .i64 a fun u=>strconv_Itoa N u fun e=>cond (ble (e.length+1) 140737488355328) (Ax .i64 (a.drop 1) fun v=>strconv_Itoa N v fun l=>cond (ble ((List.length (e++([47]:Lu)))+l.length) 140737488355328) (Aj N ((e++([47]:Lu))++l) b true c fun w x=>r0 w true x) none) none) (Ax .i64 a fun y=>strconv_Itoa N y fun f=>cond (ble (f.length+1) 140737488355328) (Ax .i64 (a.drop 1) fun z=>strconv_Itoa N z fun m=>cond (ble ((List.length (f++([47]:Lu)))+m.length) 140737488355328) (Aj N ((f++([47]:Lu))++m) b d c fun aa ab=>r0 aa d ab) none) none)) (Ax .i64 a fun ac=>strconv_Itoa N ac fun g=>cond (ble (g.length+1) 140737488355328) (Ax .i64 (a.drop 1) fun ad=>strconv_Itoa N ad fun n=>cond (ble ((List.length (g++([47]:Lu)))+n.length) 140737488355328) (Aj N ((g++([47]:Lu))++n) b true c fun ae af=>r0 ae true af) none) none)) (Ax .i64 a fun ag=>strconv_Itoa N ag fun h=>cond (ble (h.length+1) 140737488355328) (Ax .i64 (a.drop 1) fun ah=>strconv_Itoa N ah fun o=>cond (ble ((List.length (h++([47]:Lu)))+o.length) 140737488355328) (Aj N ((h++([47]:Lu))++o) b true c fun ai aj=>r0 ai true aj) none) none)) (Ax .i64 a fun ak=>strconv_Itoa N ak fun i=>cond (ble (i.length+1) 140737488355328) (Ax .i64 (a.drop 1) fun al=>strconv_Itoa N al fun p=>cond (ble ((List.length (i++([47]:Lu)))+p.length) 140737488355328) (Aj N ((i++([47]:Lu))++p) b true c fun am an=>r0 am true an) none) none))
def Cn:=(Ad (@Vu R)).1
def Zw:@Cn R=@Vu R:=(Ad _).2
def FH:=Cr N 95 [dQ N,Ex N] Cp (fun
|[.optr 100000 0,.pagg a j],[(100000,⟨false,false,false,false,0,[.own 100001 0 b,.bool d],false,none⟩),(100001,⟨false,false,true,false,1,c,false,some (5,0)⟩)]=>some fun _ k=>Cn N a j b d c (V0 k)
| _,_=>none) fun _ _=>by split;intro R F;dsimp only;rw[Zw];kernel_rfl;trivial
def GN(c:LA)(g:Bool)(a:LA)(b:Bool)(e:Nat)(d:Bool)(f:LA)(r0:Nat->Bool->LA->O R):O R:=(Gv a fun o=>A5 3 (c.drop 2) fun p q=>Ax .i64 (a.drop 1) fun h=>cond (Ac h q) (Gv (p.drop (h.toNat*3)) fun r=>A5 3 (c.drop 2) fun s t=>Ax .i64 (a.drop 2) fun i=>cond (Ac i t) (Gv (s.drop (i.toNat*3)) fun u=>Cv N [.str ([108,105,110,101]:Lu),.str o,.str r,.str u,.str ([120]:Lu)] 5 false true e d f fun v w=>cond (ble 2 ((a.drop 3).length)) (cond ((!b)||(A0 ((a.drop 3).take 2))) (Cn N ((a.drop 3).take 2) false v d w fun x j y=>Aj N ([115,104,105,102,116]:Lu) x j y fun z aa=>cond (ble 2 ((a.drop 5).length)) (cond ((!b)||(A0 ((a.drop 5).take 2))) (Cn N ((a.drop 5).take 2) false z j aa fun ab ac ad=>cond (ble 2 ((a.drop 7).length)) (cond ((!b)||(A0 ((a.drop 7).take 2))) (Cn N ((a.drop 7).take 2) false ab ac ad fun ae l af=>Aj N ([108,105,109,105,116]:Lu) ae l af fun ag ah=>Ax .i64 (a.drop 9) fun ai=>Ax .i64 (a.drop 10) fun aj=>Ae N [.int .i64 ai,.int .i64 aj] 2 false true ag l ah fun ak m al=>Aj N ([97,119,97,121]:Lu) ak m al fun am an=>A5 1 (a.drop 11) fun ao ap=>Ae N ao ap false b am m an fun aq n ar=>Dj N aq n ar fun au av=>r0 au n av) none) none) none) none) none) none) none) none)
def Zx:=(Ad (@GN R)).1
def NL:@Zx R=@GN R:=(Ad _).2
def qr:=Cr N 93 [Sj N,FH N,Ex N,P4 N,W2 N] Cp (fun
|[.optr 100000 0,.pagg c g,.pagg a b],[(100000,⟨false,false,false,false,0,[.own 100001 0 e,.bool d],false,none⟩),(100001,⟨false,false,true,false,1,f,false,some (5,0)⟩)]=>some fun _ k=>Zx N c g a b e d f (V0 k)
| _,_=>none) fun _ _=>by split;intro R F;dsimp only;rw[NL];kernel_rfl;trivial
def P5(r0:Nat->Bool->LA->O R)(c:LA)(d:Nat)(b:Bool)(a:LA)(k0:Int->Int->Nat->Bool->LA->O R)(p f:Int)(q:Nat)(o:Bool)(r:LA):O R:=(cond (decide (f<p)) (cond (Ac f d) (cond (ble 2 ((c.drop (f.toNat*2)).length)) (cond ((!b)||(A0 ((c.drop (f.toNat*2)).take 2))) (cond ((beq (((c.drop (f.toNat*2)).take 2).length) 2)&&((ble 2 2)&&(!false))) (Ax .i64 (setCells [Bbz,Bbz] 0 ((c.drop (f.toNat*2)).take 2)) fun aj=>Ax .i64 ((setCells [Bbz,Bbz] 0 ((c.drop (f.toNat*2)).take 2)).drop 1) fun ak=>Ae N [.int .i64 aj,.int .i64 ak] 2 false true q o r fun al am an=>k0 p (wrap .i64 (f+1)) al am an) none) none) none) none) (Aj N ([110,111,108,111,97,100]:Lu) q o r fun ao ap=>Ax .i64 (a.drop 5) fun aq=>Ae N [.int .i64 aq] 1 false true ao o ap fun ar v au=>Aj N ([114,97,109,112]:Lu) ar v au fun av aw=>Ax .i64 (a.drop 6) fun ax=>Ax .i64 (a.drop 7) fun ay=>Ae N [.int .i64 ax,.int .i64 ay] 2 false true av v aw fun az w ba=>Aj N ([115,116,97,114,116]:Lu) az w ba fun bb bc=>Ax .i64 (a.drop 8) fun bd=>Ae N [.int .i64 bd] 1 false true bb w bc fun be x bf=>Aj N ([115,116,111,112]:Lu) be x bf fun bg bh=>Ax .i64 (a.drop 9) fun bi=>Ae N [.int .i64 bi] 1 false true bg x bh fun bj y bk=>Aj N ([116,105,109,101,115]:Lu) bj y bk fun bl bm=>Ax .i64 (a.drop 10) fun bn=>Ax .i64 (a.drop 11) fun bo=>Ax .i64 (a.drop 12) fun bp=>Ae N [.int .i64 bn,.int .i64 bo,.int .i64 bp] 3 false true bl y bm fun bq z br=>Aj N ([99,111,115,116]:Lu) bq z br fun bs bt=>Ax .i64 (a.drop 13) fun bu=>Ax .i64 (a.drop 14) fun bv=>Ax .i64 (a.drop 15) fun bw=>Ae N [.int .i64 bu,.int .i64 bv,.int .i64 bw] 3 false true bs z bt fun bx aa bz=>Aj N ([114,101,115,101,114,118,101]:Lu) bx aa bz fun ca cb=>Ax .i64 (a.drop 16) fun cc=>Ax .i64 (a.drop 17) fun cd=>Ae N [.int .i64 cc,.int .i64 cd] 2 false true ca aa cb fun ce ab cf=>Aj N ([97,119,97,121]:Lu) ce ab cf fun cg ch=>A5 1 (a.drop 18) fun ci cj=>Ae N ci cj false b cg ab ch fun ck h cl=>Aj N ([115,116,97,116,101]:Lu) ck h cl fun s t=>Ax .i64 (a.drop 19) fun u=>cond (u==0) (Aj N ([111,102,102]:Lu) s h t fun cm cn=>Ax .i64 (a.drop 20) fun co=>Ax .i64 (a.drop 21) fun cp=>Ae N [.int .i64 co,.int .i64 cp] 2 false true cm h cn fun cq ac cr=>Dj N cq ac cr fun cs ct=>r0 cs ac ct) (cond (u==1) (Aj N ([115,116,97,114,116,105,110,103]:Lu) s h t fun cu cv=>Ax .i64 (a.drop 20) fun cw=>Ax .i64 (a.drop 21) fun cx=>Ae N [.int .i64 cw,.int .i64 cx] 2 false true cu h cv fun cy ad cz=>Dj N cy ad cz fun da db=>r0 da ad db) (cond (u==2) (Aj N ([111,110]:Lu) s h t fun dc dd=>Ax .i64 (a.drop 20) fun de=>Ax .i64 (a.drop 21) fun df=>Ae N [.int .i64 de,.int .i64 df] 2 false true dc h dd fun dg ae dh=>Dj N dg ae dh fun di dj=>r0 di ae dj) (Ax .i64 (a.drop 20) fun dk=>Ax .i64 (a.drop 21) fun dl=>Ae N [.int .i64 dk,.int .i64 dl] 2 false true s h t fun dm af dn=>Dj N dm af dn fun dp dq=>r0 dp af dq)))))
def Gt(r0:Nat->Bool->LA->O R)(c:LA)(d:Nat)(b:Bool)(a:LA):Nat->Int->Int->Nat->Bool->LA->O R
|0=>fun _ _ _ _ _=>none
|n+1=>P5 N r0 c d b a (Gt r0 c d b a n)
def W3(r0:Nat->Bool->LA->O R)(q0:LA->Nat->Int->Int->Nat->Bool->LA->O R)(i:LA)(m:Bool)(a:LA)(b:Bool)(j:Nat)(g:Bool)(l:LA):O R:=(Gv a fun dr=>A5 3 (i.drop 2) fun ds dt=>Ax .i64 (a.drop 1) fun ag=>cond (Ac ag dt) (Gv (ds.drop (ag.toNat*3)) fun du=>Cv N [.str ([117,110,105,116]:Lu),.str dr,.str du,.str ([109,105,110]:Lu)] 4 false true j g l fun dv dw=>Ax .i64 (a.drop 2) fun dx=>Ae N [.int .i64 dx] 1 false true dv g dw fun dy ah dz=>Aj N ([109,97,120]:Lu) dy ah dz fun ea eb=>Ax .i64 (a.drop 3) fun ec=>Ae N [.int .i64 ec] 1 false true ea ah eb fun ed ai ee=>Aj N ([115,101,103,109,101,110,116,115]:Lu) ed ai ee fun ef eg=>A5 2 (a.drop 4) fun c d=>q0 c d (d:Int) 0 ef ai eg) none)
def Tz:=(Ad fun N i m a b j g l r0=>W3 (R:=R) N r0 (fun c d=>Gt N r0 c d b a N) i m a b j g l).1
def NM(i m a b j g l r0):(@Tz R N i m a b j g l r0)=(W3 N r0 (fun c d=>Gt N r0 c d b a N) i m a b j g l):=by rw[Tz,(Ad _).2]
def QM:Hints:={H:=hK 6 (hS (hK 1 (hS (hP [0,5,35,36,37] hL) hL)) hL)}
def UK:Vx:=[Sj N,P4 N,Ex N,W2 N]
def oU(F:KF R):=K8 Tryz.f94 QM (UK N) [100000,100001] N F
def oV(c:LA)(d:Nat)(b:Bool)(a:LA)(K:St->O R):=fun p f q o r=>K ⟨[(0,.optr 100000 0),(5,op 0),(35,.imm c d 2 false b),(36,iv p),(37,iv f)],[(100000,bN 0 [Bby 1 q,.bool o]),(300000,bP b 0 a),(300001,⟨false,false,true,false,1,r,false,some (5,0)⟩)]⟩
def fC(F:KF R)(c d b a):∀ n,oV c d b a (Al (oU N F (pz 349508) []) n)=(Gt N (V0 F) c d b a n):=Dt fun n e=>(Cj (P5 N (V0 F) c d b a) e:_)
def qs:=Cr N 94 (UK N) QM (fun
|[.optr 100000 0,.pagg i m,.pagg a b],[(100000,⟨false,false,false,false,0,[.own 100001 0 j,.bool g],false,none⟩),(100001,⟨false,false,true,false,1,l,false,some (5,0)⟩)]=>some fun _ k=>Tz N i m a b j g l (V0 k)
| _,_=>none) fun _ _=>by split;intro R F;exact(Cj (W3 N (V0 F) · _ _ _ _ _ _ _) (CJ fun c d=>(lW ..).trans (fC ..)):_).trans (NM ..).symm;trivial
def Mo(r0:Nat->Bool->LA->O R)(g:LA)(j:Nat)(a c:Bool)(b:LA)(k2:Int->Int->Nat->Bool->LA->O R)(v l:Int)(w:Nat)(p:Bool)(x:LA):O R:=(cond (decide (l<v)) (cond (Ac l j) (cond (ble 3 ((g.drop (l.toNat*3)).length)) (cond ((!a)||(A0 ((g.drop (l.toNat*3)).take 3))) (cond ((beq (((g.drop (l.toNat*3)).take 3).length) 3)&&((ble 3 3)&&(!false))) (A5 22 (b.drop 4) fun ab ac=>Ax .i64 (setCells [Bbz,Bbz,Bbz] 0 ((g.drop (l.toNat*3)).take 3)) fun z=>cond (Ac z ac) (Gv (ab.drop (z.toNat*22)) fun ad=>Aj N ad w p x fun ae af=>Ax .i64 ((setCells [Bbz,Bbz,Bbz] 0 ((g.drop (l.toNat*3)).take 3)).drop 1) fun ag=>Ax .i64 ((setCells [Bbz,Bbz,Bbz] 0 ((g.drop (l.toNat*3)).take 3)).drop 2) fun ah=>Ae N [.int .i64 ag,.int .i64 ah] 2 false true ae p af fun ai aj ak=>k2 v (wrap .i64 (l+1)) ai aj ak) none) none) none) none) none) (Dj N w p x fun al am=>r0 al p am))
def G4(r0:Nat->Bool->LA->O R)(g:LA)(j:Nat)(a c:Bool)(b:LA):Nat->Int->Int->Nat->Bool->LA->O R
|0=>fun _ _ _ _ _=>none
|n+1=>Mo N r0 g j a c b (G4 r0 g j a c b n)
def T0(N:Nat)(r0:Nat->Bool->LA->O R)(d c:Bool)(b:LA)(a:Bool)(f:LA)(q2:LA->Nat->Int->Int->Nat->Bool->LA->O R)(r:Nat)(s:LA):O R:=(A5 3 (f.drop 3) fun g j=>q2 g j (j:Int) 0 r d s)
def Nu(r0:Nat->Bool->LA->O R)(d c:Bool)(b:LA)(a:Bool)(f:LA)(r:Nat)(s:LA):O R:=T0 N r0 d c b a f (fun g j=>G4 N r0 g j a c b N) r s
def Mp(r0:Nat->Bool->LA->O R)(i:LA)(h:Nat)(a d c:Bool)(b f:LA)(k0:Int->Int->Nat->LA->O R)(q1:Nat->LA->O R)(y q:Int)(t:Nat)(u:LA):O R:=(cond (decide (q<y)) (cond (Ac q h) (Ax .i64 (i.drop (q.toNat*1)) fun aa=>A5 12 (b.drop 3) fun an ao=>cond (Ac aa ao) (Gv (an.drop (aa.toNat*12)) fun ap=>Aj N ap t d u fun aq ar=>k0 y (wrap .i64 (q+1)) aq ar) none) none) (QY (f.drop 2) fun au=>cond au (Aj N ([99,111,114,114,101,99,116,105,118,101]:Lu) t d u fun av aw=>q1 av aw) (q1 t u)))
def Ez(r0:Nat->Bool->LA->O R)(i:LA)(h:Nat)(a d c:Bool)(b f:LA):Nat->Int->Int->Nat->LA->O R
|0=>fun _ _ _ _=>none
|n+1=>Mp N r0 i h a d c b f (Ez r0 i h a d c b f n) (Nu N r0 d c b a f)
def Sk(r0:Nat->Bool->LA->O R)(q0:LA->Nat->Int->Int->Nat->LA->O R)(b:LA)(c:Bool)(f:LA)(a:Bool)(m:Nat)(d:Bool)(o:LA):O R:=(Gv f fun ax=>Cv N [.str ([111,117,116,97,103,101]:Lu),.str ax,.str ([108,105,110,101,115]:Lu)] 3 false true m d o fun ay az=>A5 1 (f.drop 1) fun i h=>q0 i h (h:Int) 0 ay az)
def Oe:=(Ad fun N b c f a m d o r0=>Sk (R:=R) N r0 (fun i h=>Ez N r0 i h a d c b f N) b c f a m d o).1
def FJ(b c f a m d o r0):(@Oe R N b c f a m d o r0)=(Sk N r0 (fun i h=>Ez N r0 i h a d c b f N) b c f a m d o):=by rw[Oe,(Ad _).2]
def HW:Hints:={H:=hK 2 (hS (hK 1 (hS (hP [0,4,5,16,17,18] hL) hL)) (hJ [0,4,5] hL (hS (hK 1 (hS (hP [0,4,36,37,38] hL) hL)) hL)))}
def NN:Vx:=[Sj N,Ex N,P4 N,W2 N]
def Vv(F:KF R):=K8 Tryz.f96 HW (NN N) [100000,100001] N F
def iy(g:LA)(j:Nat)(a c:Bool)(b:LA)(K:St->O R):=fun v l w p x=>K ⟨[(0,.optr 100000 0),(4,op 0),(36,.imm g j 3 false a),(37,iv v),(38,iv l)],[(100000,bN 0 [Bby 1 w,.bool p]),(300000,bP c 0 b),(300001,⟨false,false,true,false,1,x,false,some (5,0)⟩)]⟩
def iz(d c:Bool)(b:LA)(a:Bool)(f:LA)(K:St->O R):=fun r s=>K ⟨[(0,.optr 100000 0),(4,op 0),(5,op 1)],[(100000,bN 0 [Bby 2 r,.bool d]),(300000,bP c 0 b),(300001,bP a 0 f),(300002,⟨false,false,true,false,1,s,false,some (5,0)⟩)]⟩
def jA(i:LA)(h:Nat)(a d c:Bool)(b f:LA)(K:St->O R):=fun y q t u=>K ⟨[(0,.optr 100000 0),(4,op 0),(5,op 1),(16,.imm i h 1 false a),(17,iv y),(18,iv q)],[(100000,bN 0 [Bby 2 t,.bool d]),(300000,bP c 0 b),(300001,bP a 0 f),(300002,⟨false,false,true,false,1,u,false,some (5,0)⟩)]⟩
def YG(F:KF R)(g j a c b):∀ n,iy g j a c b (Al (Vv N F (pz 21828) []) n)=(G4 N (V0 F) g j a c b n):=Dt fun n e=>(Cj (Mo N (V0 F) g j a c b) e:_)
def YH(F:KF R)(d c b a f):iz d c b a f (By (Vv N F (pz 341) []))=(Nu N (V0 F) d c b a f):=(Cj (T0 N (V0 F) d c b a f) (CJ fun g j=>(lW ..).trans (YG ..)):_)
def YI(F:KF R)(i h a d c b f):∀ n,jA i h a d c b f (Al (Vv N F (pz 1348) []) n)=(Ez N (V0 F) i h a d c b f n):=Dt fun n e=>(Sq (Mp N (V0 F) i h a d c b f) e ((jW ..).trans (YH ..)):_)
def lE:=Cr N 96 (NN N) HW (fun
|[.optr 100000 0,.pagg b c,.pagg f a],[(100000,⟨false,false,false,false,0,[.own 100001 0 m,.bool d],false,none⟩),(100001,⟨false,false,true,false,1,o,false,some (5,0)⟩)]=>some fun _ k=>Oe N b c f a m d o (V0 k)
| _,_=>none) fun _ _=>by split;intro R F;exact(Cj (Sk N (V0 F) · _ _ _ _ _ _ _) (CJ fun i h=>(lW ..).trans (YI ..)):_).trans (FJ ..).symm;trivial
end
end Gx
namespace Gx.Ct
open Go Go.Proofs Gx.Cf
section
variable{R:Type}{N:Nat}
def aD{α:Type}{e:α->LA}{sz:Nat}(d:∀ a,(e a).length=sz){l:List α}{j:Nat}(h:j<l.length):drop (Int.toNat (j:Int)*sz) (l.flatMap e)=e l[j]++(l.drop (j+1)).flatMap e:=by rw[A45,Bt d l j h]
def Bp{α:Type}{e:α->LA}{sz:Nat}(d:∀ a,(e a).length=sz){l:List α}{j:Nat}(h:j<l.length):take sz (drop (Int.toNat (j:Int)*sz) (l.flatMap e))=e l[j]:=by rw[aD d h,List.take_append_of_le_length (by rw[d];exact A49 _),A44 (by rw[d];exact A49 _)]
def Cd{α:Type}{e:α->LA}{sz:Nat}(d:∀ a,(e a).length=sz){l:List α}{j:Nat}(h:j<l.length):ble sz (drop (Int.toNat (j:Int)*sz) (l.flatMap e)).length=true:=by rw[aD d h,A41,d];simp
def Q8{j:Nat}(h:j<4611686018427387904):wrap .i64 ((j:Int)+1)=((j+1:Nat):Int):=by rw[Gx.i64 (by omega)];omega
def Bm{α:Type}{l:List α}{j:Nat}(h:j<l.length):l.drop j=l[j]::l.drop (j+1):=A6m h
def Bo{α:Type}{l:List α}{j:Nat}(h:l.length<=j):l.drop j=[]:=A7j h
def Aj7{c:CaseD}{t:Bool}{K:Int->O R}:UG N c.av t K=K (cond (F4 c) 0 8):=by
 rw[jg];unfold YC IX F4
 rw[Ca,Ef,F2,Hl,Lm,Ix]
 have e:∀(n m:Nat),decide ((n:Int)>(m:Int))=!decide (n<=m):=fun n m=>by
  by_cases h:n<=m
  ·rw[decide_eq_true h,decide_eq_false (by omega)];rfl
  ·rw[decide_eq_false h,decide_eq_true (by omega)];rfl
 have e1:decide ((c.buses.l.length:Int)>32)=!decide (c.buses.l.length<=32):=e _ 32
 have d:decide ((c.lines.l.length:Int)>64)=!decide (c.lines.l.length<=64):=e _ 64
 have e3:decide ((c.units.l.length:Int)>16)=!decide (c.units.l.length<=16):=e _ 16
 have e4:decide ((c.stores.l.length:Int)>8)=!decide (c.stores.l.length<=8):=e _ 8
 have f:decide ((c.ties.l.length:Int)>8)=!decide (c.ties.l.length<=8):=e _ 8
 have j:decide ((c.outs.l.length:Int)>64)=!decide (c.outs.l.length<=64):=e _ 64
 rw[e1,d,e3,e4,f,j]
 cases decide (c.buses.l.length<=32)<;>cases decide (c.lines.l.length<=64)<;>cases decide (c.units.l.length<=16)<;>cases decide (c.stores.l.length<=8)<;>cases decide (c.ties.l.length<=8)<;>cases decide (c.outs.l.length<=64)<;>rfl
def Arw(c:CaseD)(t:TieD):Bool:=EJ c t.imp&&(EJ c t.exp&&EJ c t.price)
def sb{c:CaseD}{b:Bool}{K:Bool->O R}(e:c.ties.l.length<=1000000):∀(m j fuel:Nat)(ok:Bool),j+m=c.ties.l.length->m<fuel ->
  U2 N K (c.ties.l.flatMap TieD.av) c.ties.l.length b c.av fuel ok (c.ties.l.length:Int) (j:Int)=K (ok&&(c.ties.l.drop j).all (Arw c))
|0,j,fuel+1,ok,f,_=>by
  rw[U2];unfold DM
  rw[Fk (by omega),cf,Bo (by omega),A55,A64]
| m+1,j,fuel+1,ok,f,s=>by
  rw[U2];unfold DM
  have h:j<c.ties.l.length:=by omega
  rw[Er h,ct,Aa h,ct,Cd Hf h,ct,Bp Hf h,show((beq 0 0)&&((beq ((TieD.av c.ties.l[j]).length) 5)&&(beq 5 5)))=true from rfl,ct,Q8 (by omega),Bm h,A5s]
  have d:=fun ok=>sb (c:=c) (b:=b) (K:=K) e m (j+1) fuel ok (by omega) (by omega)
  have k:∀ F:LA->Nat->O R,A5 1 (drop 2 (TieD.av c.ties.l[j])) F=F (A4 c.ties.l[j].imp.l) c.ties.l[j].imp.l.length:=fun F=>by
   show A5 1 (c.ties.l[j].imp.av 1 D5::_) F=_
   rw[A6,Bn]
  have n:∀ F:LA->Nat->O R,A5 1 (drop 3 (TieD.av c.ties.l[j])) F=F (A4 c.ties.l[j].exp.l) c.ties.l[j].exp.l.length:=fun F=>by
   show A5 1 (c.ties.l[j].exp.av 1 D5::_) F=_
   rw[A6,Bn]
  have q:∀ F:LA->Nat->O R,A5 1 (drop 4 (TieD.av c.ties.l[j])) F=F (A4 c.ties.l[j].price.l) c.ties.l[j].price.l.length:=fun F=>by
   show A5 1 (c.ties.l[j].price.av 1 D5::_) F=_
   rw[A6,Bn]
  cases ok with
  |false=>exact(d false).trans (by simp)
  | true =>
   rw[show((true:Bool)==true)=true from rfl,ct,k,Es]
   show cond (EJ c c.ties.l[j].imp==true) _ _=_
   unfold Arw
   cases EJ c c.ties.l[j].imp with
   |false=>exact(d false).trans (by simp)
   | true =>
    rw[show((true:Bool)==true)=true from rfl,ct,n,Es]
    show cond (EJ c c.ties.l[j].exp==true) _ _=_
    cases EJ c c.ties.l[j].exp with
    |false=>exact(d false).trans (by simp)
    |true =>
     rw[show((true:Bool)==true)=true from rfl,ct,q,Es]
     exact d (EJ c c.ties.l[j].price)
def oW{c:CaseD}{b:Bool}{K:Bool->O R}(f:c.buses.l.length<=1000000)(d:c.ties.l.length<=1000000)(hN:1000000<N):∀(m j fuel:Nat)(ok:Bool),j+m=c.buses.l.length->m<fuel ->
  Py N K (c.buses.l.flatMap BusD.av) c.buses.l.length b c.av fuel ok (c.buses.l.length:Int) (j:Int)=K (ok&&((c.buses.l.drop j).all (fun x=>EJ c x.demand)&&c.ties.l.all (Arw c)))
|0,j,fuel+1,ok,k,_=>by
  rw[Py];unfold DN
  rw[Fk (by omega),cf,show c.buses.l.drop j=[]from Bo (by omega),A55,Lm]
  refine(sb (b:=b) (K:=K) d c.ties.l.length 0 N ok (by omega) (by omega)).trans ?_
  rfl
| m+1,j,fuel+1,ok,k,q=>by
  rw[Py];unfold DN
  have h:j<c.buses.l.length:=by omega
  rw[Er h,ct,Aa h,ct,Cd Kj h,ct,Bp Kj h,show((beq 0 0)&&((beq ((BusD.av c.buses.l[j]).length) 3)&&(beq 3 3)))=true from rfl,ct,Q8 (by omega),Bm h,A5s]
  have e:=fun ok=>oW (c:=c) (b:=b) (K:=K) f d hN m (j+1) fuel ok (by omega) (by omega)
  have n:∀ F:LA->Nat->O R,A5 1 (drop 1 (BusD.av c.buses.l[j])) F=F (A4 c.buses.l[j].demand.l) c.buses.l[j].demand.l.length:=fun F=>by
   show A5 1 (c.buses.l[j].demand.av 1 D5::_) F=_
   rw[A6,Bn]
  cases ok with
  |false=>exact(e false).trans (by simp)
  |true =>
   rw[show((true:Bool)==true)=true from rfl,ct,n,Es]
   refine(e (EJ c c.buses.l[j].demand)).trans ?_
   congr 1
   simp[A6b]
def Aj8{c:CaseD}{t:Bool}{K:Bool->O R}(d:c.buses.l.length<=1000000)(e:c.ties.l.length<=1000000)(hN:1000000<N):UH N c.av t K=K (Wq c):=by
 rw[jh];unfold YD
 rw[K_,Es,Ca]
 exact oW (b:=t) (K:=K) d e hN c.buses.l.length 0 N _ (by omega) (by omega)
def Agd(t:Lu):take (t.length*1) (Az t)=Az t:=by rw[A5m,A44 (by rw[cJ];exact A49 _)]
def Aps(t:Lu)(k:UInt8):Az t++[.int .u8 (k.toNat:Int)]=Az (t++[k]):=by rw[<-cK];rfl
def Anv{n:Nat}(h:n<=140737488355328):((ble n 140737488355328)&&(ble (n*1) 140737488355328))=true:=by simp;omega
def BZ{s t:Lu}{bad:Bool}{K:Nat->LA->O R}(hs:s.length<=70000000000000):Aj N s t.length bad (Az t) K=K (Do t s).length (Az (Do t s)):=by
 rw[AM];unfold Xo Do
 by_cases h:t.length>1048576
 ·rw[decide_eq_true (show(t.length:Int)>1048576 by omega),if_pos h];rfl
 ·rw[decide_eq_false (show ¬ (t.length:Int)>1048576 by omega),cf,if_neg h,Agd]
  have fin:∀ T:Lu,T.length<=1048577->cond ((ble (T.length+s.length) 140737488355328)&&(ble ((T.length+s.length)*1) 140737488355328)) (K (T.length+s.length) (Az T++Az s)) none=K (T++s).length (Az (T++s)):=fun T hT=>by
   rw[Anv (by omega),ct,cK,A41]
  by_cases j:t=[]
  ·subst j
   exact fin [] (by simp)
  ·have n:0<t.length:=A93.2 j
   have e1:wrap .i64 ((t.length:Int) - 1)=((t.length - 1:Nat):Int):=by rw[Gx.i64 (by omega)];omega
   have d:t.length - 1<t.length:=by omega
   rw[decide_eq_true (show(t.length:Int)>0 by omega),show((true:Bool)==true)=true from rfl,ct,e1,Aa d,ct,A45,A5j,A5m,Aq5 d]
   have m:t.getLast?=some t[t.length - 1]:=by rw[List.getLast?_eq_getElem?,A46 d]
   show cond ((((t[t.length - 1]).toNat:Nat):Int) != 10) _ _=_
   unfold TD Aq8
   by_cases f:t[t.length - 1]=10
   ·rw[f,show((((10:UInt8).toNat:Nat):Int) != 10)=false from rfl,cf,if_pos (.inr (by rw[m,f]))]
    exact fin t (by omega)
   ·have k:((((t[t.length - 1]).toNat:Nat):Int) != 10)=true:=by
     rw[bne_iff_ne];intro e
     exact f (A8q.1 (by show(t[t.length - 1]).toNat=10;omega))
    rw[k,ct,if_neg (by simp[j,m,f]),Anv (show t.length+1<=140737488355328 by omega),ct]
    have l:take ((t.length+1)*1) (Az t++[.int .u8 32])=Az (t++[32]):=by
     rw[show([.int .u8 32]:LA)=[.int .u8 (((32:UInt8).toNat:Nat):Int)]from rfl,Aps,A5m,A44 (by rw[cJ];simp)]
    have:=fin (t++[32]) (by simp;omega)
    rw[A41,A5w]at this
    rw[A5m]at l
    simp only[A5m]at this l ⊢
    rw[l];exact this
def NO{t:Lu}{bad:Bool}{K:Nat->LA->O R}:Dj N t.length bad (Az t) K=K (GC t).length (Az (GC t)):=by
 rw[QK];unfold NJ GC
 by_cases h:t.length>1048576
 ·rw[decide_eq_false (show ¬ (t.length:Int)<=1048576 by omega),if_pos h];rfl
 ·rw[decide_eq_true (show(t.length:Int)<=1048576 by omega),ct,if_neg h,Agd,Anv (by omega),ct,show([.int .u8 10]:LA)=[.int .u8 (((10:UInt8).toNat:Nat):Int)]from rfl,Aps,A41];rfl
def Apt(ws:List Ap):Prop:=∀ w∈ws,w.length<=70000000000000
def yQ{ws:List Ap}{d f bad:Bool}{K:Nat->LA->O R}(e:Apt ws)(k:ws.length<=20000000000000):∀(m j fuel:Nat)(t:Lu),j+m=ws.length->m<fuel ->
  Fy N K (Au ws) ws.length d f bad fuel (ws.length:Int) (j:Int) t.length (Az t)=K ((ws.drop j).foldl Do t).length (Az ((ws.drop j).foldl Do t))
|0,j,fuel+1,t,l,_=>by
  rw[Fy];unfold Nt
  rw[Fk (by omega),cf,Bo (by omega)];rfl
|m+1,j,fuel+1,t,l,n=>by
  rw[Fy];unfold Nt
  have h:j<ws.length:=by omega
  rw[Er h,ct,Aa h,ct,A45,A5m,Gn h,BZ (e _ (A5g h)),Q8 (by omega),Bm h,A53]
  exact yQ e k m (j+1) fuel _ (by omega) (by omega)
def Anw{ws:List Ap}{d f bad:Bool}{t:Lu}{K:Nat->LA->O R}(e:Apt ws)(j:ws.length<=20000000000000)(hN:20000000000000<N):Cv N (Au ws) ws.length d f t.length bad (Az t) K=K (ws.foldl Do t).length (Az (ws.foldl Do t)):=by
 rw[HV];unfold U5
 exact yQ e j ws.length 0 N t (by omega) (by omega)
def gX{z:Int}(h:Yb z){K:Lu->O R}:strconv_Itoa N z K=K (tx z):=by
 rw[Um];unfold V8
 rw[decide_eq_true h.1,decide_eq_true h.2];rfl
def B9:Prop:=∀ z,Yb z->(tx z).length<=30
def FK{l:List Int}{c d:Bool}{K:Nat->Bool->LA->O R}(hx:B9)(hi:∀ z∈l,Yb z)(k:l.length<=20000000000000):∀(m j fuel:Nat)(t:Lu)(bad:Bool),j+m=l.length->m<fuel ->
  Ey N K (A4 l) l.length c d fuel (l.length:Int) (j:Int) t.length bad (Az t)=K (((l.drop j).map tx).foldl Do t).length (bad||Ar (l.drop j)) (Az (((l.drop j).map tx).foldl Do t))
|0,j,fuel+1,t,bad,n,_=>by
  rw[Ey];unfold Mn
  rw[Fk (by omega),cf,Bo (by omega)]
  show _=K _ (bad||false) _
  rw[A65];rfl
|m+1,j,fuel+1,t,bad,n,q=>by
  rw[Ey];unfold Mn
  have h:j<l.length:=by omega
  have e:=hi _ (A5g h)
  have f:=fun bad=>FK (c:=c) (d:=d) (K:=K) hx hi k m (j+1) fuel (Do t (tx l[j])) bad (by omega) (by omega)
  rw[Er h,ct,Aa h,ct,KZ h,gX e,gX e,BZ (by have:=hx _ e;omega),BZ (by have:=hx _ e;omega),Q8 (by omega),Bm h,A5c,A53,f,f]
  show _=K _ (bad||(Vj l[j]||Ar (l.drop (j+1)))) _
  unfold Vj
  cases decide (l[j]< -1073741824)<;>cases decide (l[j]>1073741824)<;>cases bad<;>rfl
def FL{l:List Int}{c d bad:Bool}{t:Lu}{K:Nat->Bool->LA->O R}(hx:B9)(hi:∀ z∈l,Yb z)(e:l.length<=20000000000000)(hN:20000000000000<N):Ae N (A4 l) l.length c d t.length bad (Az t) K=K ((l.map tx).foldl Do t).length (bad||Ar l) (Az ((l.map tx).foldl Do t)):=by
 rw[FG];unfold Si
 exact FK hx hi e l.length 0 N t bad (by omega) (by omega)
def At(nw:Nat)(cw:LA)(nx:Int)(r:List Ap):Prop:=∃ p:List Ap,cw=(p++r).map AV.str/\nw=(p++r).length/\nx=(p.length:Int)/\(p++r).length<=2000000
def yR{ws:List Ap}(h:ws.length<=2000000):At ws.length (ws.map AV.str) 0 ws:=⟨[],rfl,rfl,rfl,h⟩
def Age{nw:Nat}{cw:LA}{nx:Int}{w:Ap}{r:List Ap}(h:At nw cw nx (w::r)):At nw cw (wrap .i64 (nx+1)) r/\Ac nx nw=true/\decide (nx<(nw:Int))=true/\wrap .i64 ((wrap .i64 (nx+1)) - 1)=nx/\∀ F:Ap->O R,Gv (cw.drop (0+nx.toNat*1)) F=F w:=by
 obtain⟨p,e1,d,e3,e4⟩:=h
 have f:(p++w::r).length=p.length+(r.length+1):=by rw[A41];rfl
 have e:wrap .i64 (nx+1)=((p.length+1:Nat):Int):=by rw[e3];exact Q8 (by omega)
 refine⟨⟨p++[w],?_,?_,?_,?_⟩,?_,?_,?_,?_⟩
 ·rw[e1,A5e];rfl
 ·rw[d,A5e];rfl
 ·rw[e,A41];rfl
 ·rw[A5e];exact e4
 ·rw[d,e3];exact Aa (by omega)
 ·rw[d,e3];exact decide_eq_true (by omega)
 ·rw[e,e3,Gx.i64 (by omega)];omega
 ·intro F
  rw[e1,e3,A6t,show 0+Int.toNat (p.length:Int)*1=(p.map AV.str).length from by rw[A48];omega,A8u]
  rfl
def Azv{nw:Nat}{cw:LA}{nx:Int}(h:At nw cw nx []):decide (nx<(nw:Int))=false:=by
 obtain⟨p,e1,d,e3,e4⟩:=h
 rw[A5h]at d
 rw[d,e3];exact decide_eq_false (by omega)
def Axf{s:RB}{K:Bool->O R}:Na N s K=K (s.er==0):=by rw[PL];rfl
def vA{s:RB}(d:s.er=0){K:Bool->O R}{Y:O R}(k:K true=Y):Na N s K=Y:=by rw[Axf,d];exact k
def gY{s:RB}{w:Ap}{r:List Ap}(h:At s.nw s.cw s.nx (w::r))(d:s.er=0){K:Bool->O R}{Y:O R}(k:K true=Y):Gg N s K=Y:=by
 rw[Ze];unfold Zd
 refine vA d ?_
 rw[(Age (R:=R) h).2.2.1];exact k
def fD{s:RB}(h:At s.nw s.cw s.nx [])(d:s.er=0){K:Bool->O R}{Y:O R}(k:K false=Y):Gg N s K=Y:=by
 rw[Ze];unfold Zd
 refine vA d ?_
 rw[Azv h];exact k
def Gu{s:RB}{w:Ap}{r:List Ap}(h:At s.nw s.cw s.nx (w::r))(d:s.er=0){K:Lu->Bool->Int->Int->O R}{Y:O R}(k:∀ x,At s.nw s.cw x r->K w true x 0=Y):Cb N s K=Y:=by
 rw[PM];unfold ML
 refine gY h d ?_
 obtain⟨e,f,m,j,l⟩:=Age (R:=R) h
 rw[j,f,l,d]
 exact k _ e
def C3{s:RB}{w:Ap}{r:List Ap}(h:At s.nw s.cw s.nx (w::r))(d:s.er=0){K:Int->Int->O R}{Y:O R}(k:∀ x,At s.nw s.cw x r->K x 0=Y):Ao N w s K=Y:=by
 rw[MO];unfold GG
 refine Gu h d fun x hx=>?_
 show cond (cond true (!(w==w)) false) _ _=_
 rw[beq_self_eq_true];exact k x hx
def B_{s:RB}{a w:Ap}{r:List Ap}(h:At s.nw s.cw s.nx (w::r))(d:s.er=0){K:Bool->O R}{Y:O R}(k:K (!(w==a))=Y):Hv N a s K=Y:=by
 rw[Ti];unfold R6
 refine gY h d ?_
 obtain⟨j,e,l,m,f⟩:=Age (R:=R) h
 rw[e,f]
 exact k
def sc{s:RB}{a:Ap}(h:At s.nw s.cw s.nx [])(d:s.er=0){K:Bool->O R}{Y:O R}(k:K false=Y):Hv N a s K=Y:=by
 rw[Ti];unfold R6
 exact fD h d k
def UL{ws:List Ap}{L:LA}{n:Nat}{d f bad:Bool}{t:Lu}{K:Nat->LA->O R}{Y:O R}(hL:L=Au ws)(hn:n=ws.length)(e:Apt ws)(j:ws.length<=20000000000000)(hN:20000000000000<N)(h:K (ws.foldl Do t).length (Az (ws.foldl Do t))=Y):Cv N L n d f t.length bad (Az t) K=Y:=by subst hL hn;rw[Anw e j hN,h]
def Cw{l:List Int}{L:LA}{n:Nat}{c d bad:Bool}{t:Lu}{K:Nat->Bool->LA->O R}{Y:O R}(hL:L=A4 l)(hn:n=l.length)(hx:B9)(hi:∀ z∈l,Yb z)(e:l.length<=20000000000000)(hN:20000000000000<N)(h:K ((l.map tx).foldl Do t).length (bad||Ar l) (Az ((l.map tx).foldl Do t))=Y):Ae N L n c d t.length bad (Az t) K=Y:=by subst hL hn;rw[FL hx hi e hN,h]
def En{s t:Lu}{bad:Bool}{K:Nat->LA->O R}{Y:O R}(hs:s.length<=70000000000000)(h:K (Do t s).length (Az (Do t s))=Y):Aj N s t.length bad (Az t) K=Y:=by rw[BZ hs,h]
def gZ{f:FracD}{j bad:Bool}{t:Lu}{K:Nat->Bool->LA->O R}(hx:B9)(m:Yb f.num)(n:Yb f.den):Cn N [.int .i64 f.num,.int .i64 f.den] j t.length bad (Az t) K=K (Do t (H6 f)).length (bad||Fo f) (Az (Do t (H6 f))):=by
 have l1:=hx _ m;have l2:=hx _ n
 have d:∀ F:Int->O R,Ax .i64 [.int .i64 f.num,.int .i64 f.den] F=F f.num:=fun F=>rfl
 have k:∀ F:Int->O R,Ax .i64 (drop 1 [AV.int .i64 f.num,.int .i64 f.den]) F=F f.den:=fun F=>rfl
 have e1:ble ((tx f.num).length+1) 140737488355328=true:=by simp;omega
 have q:ble ((tx f.num++([47]:Lu)).length+(tx f.den).length) 140737488355328=true:=by simp;omega
 have s:∀(b:Bool)(K:Nat->LA->O R),Aj N ((tx f.num++([47]:Lu))++tx f.den) t.length b (Az t) K=K (Do t (H6 f)).length (Az (Do t (H6 f))):=fun b K=>by
  have:(tx f.num++([47]:Lu))++tx f.den=H6 f:=by simp[H6]
  rw[this,BZ (by rw[<-this];simp;omega)]
 have tail:∀ b:Bool,(Ax .i64 [.int .i64 f.num,.int .i64 f.den] fun u=>strconv_Itoa N u fun e=>cond (ble (e.length+1) 140737488355328) (Ax .i64 (drop 1 [AV.int .i64 f.num,.int .i64 f.den]) fun v=>strconv_Itoa N v fun l=>cond (ble ((e++([47]:Lu)).length+l.length) 140737488355328) (Aj N ((e++([47]:Lu))++l) t.length b (Az t) fun w x=>K w b x) none) none)=K (Do t (H6 f)).length b (Az (Do t (H6 f))):=fun b=>by
  rw[d,gX m,e1,ct,k,gX n,q,ct,s]
 rw[Zw];unfold Vu Fo Vj
 rw[d]
 cases decide (f.num< -1073741824)with
|true=>exact(tail true).trans (by cases bad<;>rfl)
| false =>
  rw[show((false:Bool)==false)=true from rfl,ct,d]
  cases decide (f.num>1073741824)with
  |true=>exact(tail true).trans (by cases bad<;>rfl)
  | false =>
   show Ax .i64 (drop 1 [AV.int .i64 f.num,.int .i64 f.den]) _=_
   rw[k]
   cases decide (f.den<1)with
   |true=>exact(tail true).trans (by cases bad<;>rfl)
   |false =>
    show Ax .i64 (drop 1 [AV.int .i64 f.num,.int .i64 f.den]) _=_
    rw[k]
    cases decide (f.den>1073741824)with
    |true=>exact(tail true).trans (by cases bad<;>rfl)
    |false=>exact(tail bad).trans (by cases bad<;>rfl)
def ji{c:CaseD}{i:Int}(h:El i c.buses.l.length=true){F:Ap->O R}:Gv (drop ((Int.toNat i)*3) (c.buses.l.flatMap BusD.av)) F=F (Be (Bl c) i):=by
 unfold El at h
 simp only[A47,decide_eq_true_eq]at h
 have d:i.toNat<c.buses.l.length:=by omega
 rw[Bt Kj _ _ d]
 have e:Be (Bl c) i=c.buses.l[i.toNat].name:=by
  unfold Be Bl
  rw[A5f,A7c,A46 d];rfl
 rw[e];rfl
def P6{i:Int}{n:Nat}(h:El i n=true):Ac i n=true:=by
 unfold El at h;unfold Ac
 simp only[A47,decide_eq_true_eq]at h
 simp;omega
def UM{ws:List Ap}(h:ws.all fun w=>decide (w.length<=16)):Apt ws:=fun w d=>by
 have:=A5n.1 h w d
 simp only[decide_eq_true_eq]at this;omega
def g8{c:CaseD}{l:LineD}{g b bad:Bool}{t:Lu}{K:Nat->Bool->LA->O R}(hx:B9)(hN:20000000000000<N)(hI:LineI 20000000000000 l)(d:El l.fr c.buses.l.length=true)(e:El l.tl c.buses.l.length=true)(f:l.name.length<=16)(s1:(Be (Bl c) l.fr).length<=16)(s2:(Be (Bl c) l.tl).length<=16):
  Zx N c.av g l.av b t.length bad (Az t) K=K (GC ((Ng (Bl c) l).foldl Do t)).length (bad||Ui l) (Az (GC ((Ng (Bl c) l).foldl Do t))):=by
 rw[NL];unfold GN
 have j:∀ F:Ap->O R,Gv l.av F=F l.name:=fun F=>rfl
 have k:∀ F:Int->O R,Ax .i64 (drop 1 l.av) F=F l.fr:=fun F=>rfl
 have m:∀ F:Int->O R,Ax .i64 (drop 2 l.av) F=F l.tl:=fun F=>rfl
 have p:∀(b:Bool)(x y:Int),(!b||A0 [AV.int .i64 x,.int .i64 y])=true:=fun b x y=>by cases b<;>rfl
 rw[j,Ca,k,P6 d,ct,ji d,Ca,m,P6 e,ct,ji e]
 refine UL (ws:=[Jm,l.name,Be (Bl c) l.fr,Be (Bl c) l.tl,Awp]) rfl rfl (UM (by simp[f,s1,s2,Jm,Awp])) (by simp) hN ?_
 show cond true (cond (!b||A0 [AV.int .i64 l.re.num,.int .i64 l.re.den]) (Cn N [.int .i64 l.re.num,.int .i64 l.re.den] false _ _ _ _) none) none=_
 rw[ct,p,ct,gZ hx hI.f1.1 hI.f1.2]
 refine En (s:=fl) (by decide) ?_
 show cond true (cond (!b||A0 [AV.int .i64 l.smin.num,.int .i64 l.smin.den]) (Cn N [.int .i64 l.smin.num,.int .i64 l.smin.den] false _ _ _ _) none) none=_
 rw[ct,p,ct,gZ hx hI.f2.1 hI.f2.2]
 show cond true (cond (!b||A0 [AV.int .i64 l.smax.num,.int .i64 l.smax.den]) (Cn N [.int .i64 l.smax.num,.int .i64 l.smax.den] false _ _ _ _) none) none=_
 rw[ct,p,ct,gZ hx hI.f3.1 hI.f3.2]
 refine En (s:=fm) (by decide) ?_
 show Ax .i64 (drop 9 l.av) _=_
 show Ae N [.int .i64 l.limit,.int .i64 l.emer] 2 false true _ _ _ _=_
 refine Cw (l:=[l.limit,l.emer]) rfl rfl hx (by simp[hI.n.1,hI.n.2]) (by simp) hN ?_
 refine En (s:=BB) (by decide) ?_
 show A5 1 (l.away.av 1 D5::_) _=_
 rw[A6,Bn]
 refine Cw rfl rfl hx hI.a.1 hI.a.2 hN ?_
 rw[NO]
 have eB:((((bad||Fo l.re)||Fo l.smin)||Fo l.smax)||Ar [l.limit,l.emer]||Ar l.away.l)=(bad||Ui l):=by unfold Ui;simp[A5u]
 rw[eB]
 simp only[Ng,A6j,A53,A7d,A5c,A5v]
end
end Gx.Ct
namespace Gx.Ct
open Go Go.Proofs Gx.Cf
def fE(u:UnitD):List Ap:=[V4,tx u.noLoad,kN,tx u.rampUp,tx u.rampDown,WF,tx u.startRamp,kO,tx u.stopRamp,WG,tx u.upTime,tx u.downTime,tx u.startTime,kP,tx u.hotCost,tx u.coldCost,tx u.hotHours,D7,tx u.reserve,tx u.reservePrice,BB]++(u.away.l.map tx++(Ys::(S8 u.state++[tx u.hours,tx u.output])))
def W4(u:UnitD):Bool:=Ar [u.noLoad,u.rampUp,u.rampDown,u.startRamp,u.stopRamp,u.upTime,u.downTime,u.startTime,u.hotCost,u.coldCost,u.hotHours,u.reserve,u.reservePrice]||(Ar u.away.l||Ar [u.hours,u.output])
section
variable{R:Type}{N:Nat}
def UN{u:UnitD}{b:Bool}{K:Nat->Bool->LA->O R}(hx:B9)(hN:20000000000000<N)(hI:UnitI 20000000000000 u):∀(m j fuel:Nat)(t:Lu)(bad:Bool),j+m=u.segs.l.length->m<fuel ->
  Gt N K (u.segs.l.flatMap SegD.av) u.segs.l.length b u.av fuel (u.segs.l.length:Int) (j:Int) t.length bad (Az t) =
   K (GC ((fE u).foldl Do (((u.segs.l.drop j).flatMap aJ).foldl Do t))).length ((bad||(u.segs.l.drop j).any LC)||W4 u) (Az (GC ((fE u).foldl Do (((u.segs.l.drop j).flatMap aJ).foldl Do t))))
| 0,j,fuel+1,t,bad,k,_=>by
  have hn:=hI.n
  simp only[A5b,A5l,or_false,forall_eq_or_imp,forall_eq]at hn
  obtain⟨_,_,n1,n2,n3,n4,n5,n6,n7,n8,n9,n10,n11,n12,n13,n14,n15⟩:=hn
  rw[Gt];unfold P5
  rw[Fk (by omega),cf,show u.segs.l.drop j=[]from Bo (by omega)]
  refine En (s:=V4) (by decide) ?_
  show Ae N [.int .i64 u.noLoad] 1 false true _ _ _ _=_
  refine Cw (l:=[u.noLoad]) rfl rfl hx (by simp[*]) (by simp) hN ?_
  refine En (s:=kN) (by decide) ?_
  show Ae N [.int .i64 u.rampUp,.int .i64 u.rampDown] 2 false true _ _ _ _=_
  refine Cw (l:=[u.rampUp,u.rampDown]) rfl rfl hx (by simp[*]) (by simp) hN ?_
  refine En (s:=WF) (by decide) ?_
  show Ae N [.int .i64 u.startRamp] 1 false true _ _ _ _=_
  refine Cw (l:=[u.startRamp]) rfl rfl hx (by simp[*]) (by simp) hN ?_
  refine En (s:=kO) (by decide) ?_
  show Ae N [.int .i64 u.stopRamp] 1 false true _ _ _ _=_
  refine Cw (l:=[u.stopRamp]) rfl rfl hx (by simp[*]) (by simp) hN ?_
  refine En (s:=WG) (by decide) ?_
  show Ae N [.int .i64 u.upTime,.int .i64 u.downTime,.int .i64 u.startTime] 3 false true _ _ _ _=_
  refine Cw (l:=[u.upTime,u.downTime,u.startTime]) rfl rfl hx (by simp[*]) (by simp) hN ?_
  refine En (s:=kP) (by decide) ?_
  show Ae N [.int .i64 u.hotCost,.int .i64 u.coldCost,.int .i64 u.hotHours] 3 false true _ _ _ _=_
  refine Cw (l:=[u.hotCost,u.coldCost,u.hotHours]) rfl rfl hx (by simp[*]) (by simp) hN ?_
  refine En (s:=D7) (by decide) ?_
  show Ae N [.int .i64 u.reserve,.int .i64 u.reservePrice] 2 false true _ _ _ _=_
  refine Cw (l:=[u.reserve,u.reservePrice]) rfl rfl hx (by simp[*]) (by simp) hN ?_
  refine En (s:=BB) (by decide) ?_
  show A5 1 (u.away.av 1 D5::_) _=_
  rw[A6,Bn]
  refine Cw rfl rfl hx hI.a.1 hI.a.2 hN ?_
  refine En (s:=Ys) (by decide) ?_
  show cond (u.state==0) _ _=_
  have eB:(((((((((bad||Ar [u.noLoad])||Ar [u.rampUp,u.rampDown])||Ar [u.startRamp])||Ar [u.stopRamp])||Ar [u.upTime,u.downTime,u.startTime])||Ar [u.hotCost,u.coldCost,u.hotHours])||Ar [u.reserve,u.reservePrice])||Ar u.away.l)||Ar [u.hours,u.output])=((bad||false)||W4 u):=by unfold W4;simp[Ar,A5u]
  have last:∀(T:Lu)(f:Bool),Ae N [.int .i64 u.hours,.int .i64 u.output] 2 false true T.length f (Az T) (fun x y z=>Dj N x y z fun p q=>K p y q)=K (GC ([tx u.hours,tx u.output].foldl Do T)).length (f||Ar [u.hours,u.output]) (Az (GC ([tx u.hours,tx u.output].foldl Do T))):=fun T f=>by
   refine Cw (l:=[u.hours,u.output]) rfl rfl hx (by simp[*]) (by simp) hN ?_
   rw[NO];rfl
  by_cases d:u.state=0
  ·rw[show(u.state==0)=true by simp[d],ct]
   refine En (s:=Aii) (by decide) ?_
   refine(last _ _).trans ?_
   rw[eB]
   simp only[fE,S8,if_pos d,A6j,A53,A7d,A5c,A5v,A69,A6o]
  ·rw[show(u.state==0)=false by simp[d],cf]
   by_cases s1:u.state=1
   ·rw[show(u.state==1)=true by simp[s1],ct]
    refine En (s:=K') (by decide) ?_
    refine(last _ _).trans ?_
    rw[eB]
    simp only[fE,S8,if_neg d,if_pos s1,A6j,A53,A7d,A5c,A5v,A69,A6o]
   ·rw[show(u.state==1)=false by simp[s1],cf]
    by_cases s2:u.state=2
    ·rw[show(u.state==2)=true by simp[s2],ct]
     refine En (s:=Aua) (by decide) ?_
     refine(last _ _).trans ?_
     rw[eB]
     simp only[fE,S8,if_neg d,if_neg s1,if_pos s2,A6j,A53,A7d,A5c,A5v,A69,A6o]
    ·rw[show(u.state==2)=false by simp[s2],cf]
     refine(last _ _).trans ?_
     rw[eB]
     simp only[fE,S8,if_neg d,if_neg s1,if_neg s2,A6j,A53,A7d,A5c,A5v,A69,A6o,A50]
|m+1,j,fuel+1,t,bad,k,v=>by
  rw[Gt];unfold P5
  have h:j<u.segs.l.length:=by omega
  have A:=hI.s.2
  have hs:=hI.s.1 _ (A5g h)
  have e:take 2 (drop (Int.toNat (j:Int)*2) (u.segs.l.flatMap SegD.av))=[.int .i64 (u.segs.l[j]).width,.int .i64 (u.segs.l[j]).price]:=Bp (e:=SegD.av) (sz:=2) (fun _=>rfl) h
  rw[Er h,ct,Aa h,ct,Cd (e:=SegD.av) (sz:=2) (fun _=>rfl) h,ct,e,show(!b||A0 [AV.int .i64 (u.segs.l[j]).width,.int .i64 (u.segs.l[j]).price])=true by cases b<;>rfl,ct,Q8 (by omega),Bm h]
  show Ae N [.int .i64 (u.segs.l[j]).width,.int .i64 (u.segs.l[j]).price] 2 false true _ _ _ _=_
  refine Cw (l:=[(u.segs.l[j]).width,(u.segs.l[j]).price]) rfl rfl hx (by simp[hs.1,hs.2]) (by simp) hN ?_
  refine(UN hx hN hI m (j+1) fuel _ _ (by omega) (by omega)).trans ?_
  rw[A5r,A6j,A6h]
  show K _ (((bad||LC u.segs.l[j])||_)||_) _=K _ ((bad||(LC u.segs.l[j]||_))||_) _
  rw[A5u bad];rfl
def qt{c:CaseD}{u:UnitD}{g b bad:Bool}{t:Lu}{K:Nat->Bool->LA->O R}(hx:B9)(hN:20000000000000<N)(hI:UnitI 20000000000000 u)(d:El u.bus c.buses.l.length=true)(e:u.name.length<=16)(s1:(Be (Bl c) u.bus).length<=16):
  Tz N c.av g u.av b t.length bad (Az t) K=K (GC ((Jd (Bl c) u).foldl Do t)).length (bad||Nm u) (Az (GC ((Jd (Bl c) u).foldl Do t))):=by
 have hn:=hI.n
 simp only[A5b,A5l,or_false,forall_eq_or_imp,forall_eq]at hn
 obtain⟨n1,n2,_⟩:=hn
 rw[NM];unfold W3
 have f:∀ F:Ap->O R,Gv u.av F=F u.name:=fun F=>rfl
 have j:∀ F:Int->O R,Ax .i64 (drop 1 u.av) F=F u.bus:=fun F=>rfl
 rw[f,Ca,j,P6 d,ct,ji d]
 refine UL (ws:=[I6,u.name,Be (Bl c) u.bus,ZJ]) rfl rfl (UM (by simp[e,s1,I6,ZJ])) (by simp) hN ?_
 show Ae N [.int .i64 u.min] 1 false true _ _ _ _=_
 refine Cw (l:=[u.min]) rfl rfl hx (by simp[*]) (by simp) hN ?_
 refine En (s:=sF) (by decide) ?_
 show Ae N [.int .i64 u.max] 1 false true _ _ _ _=_
 refine Cw (l:=[u.max]) rfl rfl hx (by simp[*]) (by simp) hN ?_
 refine En (s:=S6) (by decide) ?_
 show A5 2 (u.segs.av 2 SegD.av::_) _=_
 rw[A6]
 refine(UN hx hN hI u.segs.l.length 0 N _ _ (by omega) (by have:=hI.s.2;omega)).trans ?_
 rw[A5k]
 have eB:((((bad||Ar [u.min])||Ar [u.max])||u.segs.l.any LC)||W4 u)=(bad||Nm u):=by unfold Nm W4;simp[Ar,A5u]
 rw[eB]
 have eW:Jd (Bl c) u=[I6,u.name,Be (Bl c) u.bus,ZJ,tx u.min,sF,tx u.max,S6]++(u.segs.l.flatMap aJ++fE u):=rfl
 rw[eW]
 simp only[A6j,A53,A7d,A5c,A5v]
end
end Gx.Ct
namespace Gx.Ct
open Go Go.Proofs Gx.Cf
structure Ready(M:Nat)(c:CaseD):Prop where
 i:CaseI M c
 n:∀ l∈B5 c,∀ s∈l,s.length<=16
 k:Kf c=true
 c:F4 c=true
def B6{l:List Ap}(h:∀ s∈l,s.length<=16)(i:Int):(Be l i).length<=16:=by
 unfold Be
 rw[A5f]
 cases d:l[i.toNat]? with
|none=>exact A8f _
|some s=>exact h s (A9s d)
section
variable{R:Type}{N:Nat}
def Ayv{α:Type}{e:α->LA}{sz:Nat}(k:∀ a,(e a).length=sz){f:α->Ap}(d:∀ a (r:LA) (F:Ap->O R),Gv (e a++r) F=F (f a)){l:List α}{i:Int}(h:El i l.length=true){F:Ap->O R}:Gv (drop ((Int.toNat i)*sz) (l.flatMap e)) F=F (Be (l.map f) i):=by
 unfold El at h
 simp only[A47,decide_eq_true_eq]at h
 have j:i.toNat<l.length:=by omega
 rw[Bt k _ _ j,d]
 congr 1
 unfold Be
 rw[A5f,A7c,A46 j];rfl
def Ayw{c:CaseD}{i:Int}(h:El i c.lines.l.length=true){F:Ap->O R}:Gv (drop ((Int.toNat i)*12) (c.lines.l.flatMap LineD.av)) F=F (Be (Ce c) i):=Ayv D9 (fun _ _ _=>rfl) h
def Ayx{c:CaseD}{i:Int}(h:El i c.units.l.length=true){F:Ap->O R}:Gv (drop ((Int.toNat i)*22) (c.units.l.flatMap UnitD.av)) F=F (Be (Bw c) i):=Ayv Gw (fun _ _ _=>rfl) h
def Ab7{c:CaseD}{o:OutD}{a b:Bool}{K:Nat->Bool->LA->O R}(hx:B9)(hN:20000000000000<N)(hI:OutI 20000000000000 o)(hU:∀ s∈Bw c,s.length<=16)(d:∀ m∈o.moves.l,El m.unit c.units.l.length=true):∀(m j fuel:Nat)(t:Lu)(bad:Bool),j+m=o.moves.l.length->m<fuel ->
  G4 N K (o.moves.l.flatMap MoveD.av) o.moves.l.length a b c.av fuel (o.moves.l.length:Int) (j:Int) t.length bad (Az t) =
   K (GC (((o.moves.l.drop j).flatMap (Ta (Bw c))).foldl Do t)).length (bad||(o.moves.l.drop j).any OQ) (Az (GC (((o.moves.l.drop j).flatMap (Ta (Bw c))).foldl Do t)))
|0,j,fuel+1,t,bad,k,_=>by
  rw[G4];unfold Mo
  rw[Fk (by omega),cf,show o.moves.l.drop j=[]from Bo (by omega),NO,A6o,A65];rfl
|m+1,j,fuel+1,t,bad,k,n=>by
  rw[G4];unfold Mo
  have h:j<o.moves.l.length:=by omega
  have q:=hI.m.2
  have f:=hI.m.1 _ (A5g h)
  have hq:=d _ (A5g h)
  have e:take 3 (drop (Int.toNat (j:Int)*3) (o.moves.l.flatMap MoveD.av))=[.int .i64 (o.moves.l[j]).unit,.int .i64 (o.moves.l[j]).up,.int .i64 (o.moves.l[j]).down]:=Bp (e:=MoveD.av) (sz:=3) (fun _=>rfl) h
  rw[Er h,ct,Aa h,ct,Cd (e:=MoveD.av) (sz:=3) (fun _=>rfl) h,ct,e,show(!a||A0 [AV.int .i64 (o.moves.l[j]).unit,.int .i64 (o.moves.l[j]).up,.int .i64 (o.moves.l[j]).down])=true by cases a<;>rfl,ct,Q8 (by omega),Bm h]
  rw[show((beq ([AV.int .i64 (o.moves.l[j]).unit,.int .i64 (o.moves.l[j]).up,.int .i64 (o.moves.l[j]).down].length) 3)&&((ble 3 3)&&(!false)))=true from rfl,ct,F2]
  show cond (Ac (o.moves.l[j]).unit c.units.l.length) _ none=_
  rw[P6 hq,ct,Ayx hq]
  refine En (s:=Be (Bw c) (o.moves.l[j]).unit) (by have:=B6 hU (o.moves.l[j]).unit;omega) ?_
  show Ae N [.int .i64 (o.moves.l[j]).up,.int .i64 (o.moves.l[j]).down] 2 false true _ _ _ _=_
  refine Cw (l:=[(o.moves.l[j]).up,(o.moves.l[j]).down]) rfl rfl hx (by simp[f.1,f.2]) (by simp) hN ?_
  refine(Ab7 hx hN hI hU d m (j+1) fuel _ _ (by omega) (by omega)).trans ?_
  rw[A5r,A6j,A6h]
  show K _ ((bad||OQ o.moves.l[j])||_) _=K _ (bad||(OQ o.moves.l[j]||_)) _
  rw[A5u bad];rfl
def Ab8{c:CaseD}{o:OutD}{a b bad:Bool}{K:Nat->Bool->LA->O R}(hx:B9)(hN:20000000000000<N)(hI:OutI 20000000000000 o)(hL:∀ s∈Ce c,s.length<=16)(hU:∀ s∈Bw c,s.length<=16)(d:∀ l∈o.lines.l,El l c.lines.l.length=true)(e:∀ m∈o.moves.l,El m.unit c.units.l.length=true):∀(m j fuel:Nat)(t:Lu),j+m=o.lines.l.length->m<fuel ->
  Ez N K (A4 o.lines.l) o.lines.l.length a bad b c.av o.av fuel (o.lines.l.length:Int) (j:Int) t.length (Az t) =
   K (GC (((o.lines.l.drop j).map (Be (Ce c))++(cond o.corr [B4] []++o.moves.l.flatMap (Ta (Bw c)))).foldl Do t)).length (bad||Im o) (Az (GC (((o.lines.l.drop j).map (Be (Ce c))++(cond o.corr [B4] []++o.moves.l.flatMap (Ta (Bw c)))).foldl Do t)))
| 0,j,fuel+1,t,f,_=>by
  rw[Ez];unfold Mp
  rw[Fk (by omega),cf,show o.lines.l.drop j=[]from Bo (by omega)]
  have tail:∀ T:Lu,Nu N K bad b c.av a o.av T.length (Az T)=K (GC ((o.moves.l.flatMap (Ta (Bw c))).foldl Do T)).length (bad||Im o) (Az (GC ((o.moves.l.flatMap (Ta (Bw c))).foldl Do T))):=fun T=>by
   unfold Nu T0
   show A5 3 (o.moves.av 3 MoveD.av::_) _=_
   rw[A6]
   have:=Ab7 (K:=K) (a:=a) (b:=b) hx hN hI hU e o.moves.l.length 0 N T bad (by omega) (by have:=hI.m.2;omega)
   rw[A5k]at this
   exact this
  show cond o.corr _ _=_
  cases o.corr with
  |true =>
   rw[ct]
   refine En (s:=B4) (by decide) ?_
   exact(tail _).trans rfl
  |false=>exact(tail t).trans rfl
|m+1,j,fuel+1,t,f,n=>by
  rw[Ez];unfold Mp
  have h:j<o.lines.l.length:=by omega
  have k:=hI.l
  have hq:=d _ (A5g h)
  rw[Er h,ct,Aa h,ct,KZ h,Ef,P6 hq,ct,Ayw hq]
  refine En (s:=Be (Ce c) o.lines.l[j]) (by have:=B6 hL o.lines.l[j];omega) ?_
  rw[Q8 (by omega)]
  refine(Ab8 hx hN hI hL hU d e m (j+1) fuel _ (by omega) (by omega)).trans ?_
  rw[Bm h,A5c];rfl
def Auv{c:CaseD}{o:OutD}{g b bad:Bool}{t:Lu}{K:Nat->Bool->LA->O R}(hx:B9)(hN:20000000000000<N)(hI:OutI 20000000000000 o)(hL:∀ s∈Ce c,s.length<=16)(hU:∀ s∈Bw c,s.length<=16)(d:∀ l∈o.lines.l,El l c.lines.l.length=true)(e:∀ m∈o.moves.l,El m.unit c.units.l.length=true)(f:o.name.length<=16):
  Oe N c.av g o.av b t.length bad (Az t) K=K (GC ((Mx (Ce c) (Bw c) o).foldl Do t)).length (bad||Im o) (Az (GC ((Mx (Ce c) (Bw c) o).foldl Do t))):=by
 rw[FJ];unfold Sk
 show Cv N [.str Dd,.str o.name,.str Ug] 3 false true _ _ _ _=_
 refine UL (ws:=[Dd,o.name,Ug]) rfl rfl (UM (by simp[f,Dd,Ug])) (by simp) hN ?_
 show A5 1 (o.lines.av 1 D5::_) _=_
 rw[A6,Bn]
 have:=Ab8 (K:=K) (a:=b) (b:=g) (bad:=bad) hx hN hI hL hU d e o.lines.l.length 0 N ([Dd,o.name,Ug].foldl Do t) (by omega) (by have:=hI.l;omega)
 rw[A5k]at this
 refine this.trans ?_
 unfold Mx
 rw[A6j (l:=[Dd,o.name,Ug])]
end
end Gx.Ct
namespace Gx
open Go Go.Proofs
set_option maxRecDepth 100000
noncomputable section
variable{R:Type}(N:Nat)
def Nv(r0:Nat->Bool->LA->O R)(g:LA)(m:Nat)(a:Bool)(b:LA)(k5:Int->Int->Nat->Bool->LA->O R)(ab u:Int)(ac:Nat)(ad:Bool)(ae:LA):O R:=(cond (decide (u<ab)) (cond (Ac u m) (cond (ble 4 ((g.drop (u.toNat*4)).length)) (cond ((beq 0 0)&&((beq (((g.drop (u.toNat*4)).take 4).length) 4)&&(beq 4 4))) (cond (ble 8 b.length) (cond (ble 4 (((g.drop (u.toNat*4)).take 4).length)) (Oe N (b.take 8) a (((g.drop (u.toNat*4)).take 4).take 4) a ac ad ae fun bl bm bn=>k5 ab (wrap .i64 (u+1)) bl bm bn) none) none) none) none) none) (r0 ac ad ae))
def Hx(r0:Nat->Bool->LA->O R)(g:LA)(m:Nat)(a:Bool)(b:LA):Nat->Int->Int->Nat->Bool->LA->O R
|0=>fun _ _ _ _ _=>none
|n+1=>Nv N r0 g m a b (Hx r0 g m a b n)
def Nw(r0:Nat->Bool->LA->O R)(d:LA)(o:Nat)(a:Bool)(b:LA)(k4:Int->Int->Nat->Bool->LA->O R)(q5:LA->Nat->Int->Int->Nat->Bool->LA->O R)(af s:Int)(ag:Nat)(y:Bool)(ah:LA):O R:=(cond (decide (s<af)) (cond (Ac s o) (cond (ble 5 ((d.drop (s.toNat*5)).length)) (cond ((beq 0 0)&&((beq (((d.drop (s.toNat*5)).take 5).length) 5)&&(beq 5 5))) (Gv ((d.drop (s.toNat*5)).take 5) fun bo=>A5 3 (b.drop 2) fun bp bq=>Ax .i64 (((d.drop (s.toNat*5)).take 5).drop 1) fun ay=>cond (Ac ay bq) (Gv (bp.drop (ay.toNat*3)) fun br=>Cv N [.str ([116,105,101]:Lu),.str bo,.str br,.str ([105,109,112,111,114,116]:Lu)] 4 false true ag y ah fun bs bt=>A5 1 (((d.drop (s.toNat*5)).take 5).drop 2) fun bu bv=>Ae N bu bv false a bs y bt fun bw az bx=>Aj N ([101,120,112,111,114,116]:Lu) bw az bx fun bz ca=>A5 1 (((d.drop (s.toNat*5)).take 5).drop 3) fun cb cc=>Ae N cb cc false a bz az ca fun cd ba ce=>Aj N ([112,114,105,99,101]:Lu) cd ba ce fun cf cg=>A5 1 (((d.drop (s.toNat*5)).take 5).drop 4) fun ch ci=>Ae N ch ci false a cf ba cg fun cj bb ck=>Dj N cj bb ck fun cl cm=>k4 af (wrap .i64 (s+1)) cl bb cm) none) none) none) none) (A5 4 (b.drop 7) fun g m=>q5 g m (m:Int) 0 ag y ah))
def Hy(r0:Nat->Bool->LA->O R)(d:LA)(o:Nat)(a:Bool)(b:LA):Nat->Int->Int->Nat->Bool->LA->O R
|0=>fun _ _ _ _ _=>none
|n+1=>Nw N r0 d o a b (Hy r0 d o a b n) (fun g m=>Hx N r0 g m a b N)
def Nx(r0:Nat->Bool->LA->O R)(c:LA)(p:Nat)(a:Bool)(b:LA)(k3:Int->Int->Nat->Bool->LA->O R)(q4:LA->Nat->Int->Int->Nat->Bool->LA->O R)(ai l:Int)(aj:Nat)(z:Bool)(ak:LA):O R:=(cond (decide (l<ai)) (cond (Ac l p) (cond (ble 9 ((c.drop (l.toNat*9)).length)) (cond ((beq 0 0)&&((beq (((c.drop (l.toNat*9)).take 9).length) 9)&&(beq 9 9))) (Gv ((c.drop (l.toNat*9)).take 9) fun cn=>A5 3 (b.drop 2) fun co cp=>Ax .i64 (((c.drop (l.toNat*9)).take 9).drop 1) fun bc=>cond (Ac bc cp) (Gv (co.drop (bc.toNat*3)) fun cq=>Cv N [.str ([115,116,111,114,101]:Lu),.str cn,.str cq,.str ([99,97,112,97,99,105,116,121]:Lu)] 4 false true aj z ak fun cr cs=>Ax .i64 (((c.drop (l.toNat*9)).take 9).drop 2) fun ct=>Ae N [.int .i64 ct] 1 false true cr z cs fun cu bd cv=>Aj N ([108,101,118,101,108]:Lu) cu bd cv fun cw cx=>Ax .i64 (((c.drop (l.toNat*9)).take 9).drop 3) fun cy=>Ax .i64 (((c.drop (l.toNat*9)).take 9).drop 4) fun cz=>Ae N [.int .i64 cy,.int .i64 cz] 2 false true cw bd cx fun da be db=>Aj N ([114,97,116,101]:Lu) da be db fun dc dd=>Ax .i64 (((c.drop (l.toNat*9)).take 9).drop 5) fun de=>Ax .i64 (((c.drop (l.toNat*9)).take 9).drop 6) fun df=>Ae N [.int .i64 de,.int .i64 df] 2 false true dc be dd fun dg bf dh=>Aj N ([101,102,102,105,99,105,101,110,99,121]:Lu) dg bf dh fun di dj=>cond (ble 2 ((((c.drop (l.toNat*9)).take 9).drop 7).length)) (cond ((!a)||(A0 ((((c.drop (l.toNat*9)).take 9).drop 7).take 2))) (Cn N ((((c.drop (l.toNat*9)).take 9).drop 7).take 2) false di bf dj fun dk bg dl=>Dj N dk bg dl fun dm dn=>k3 ai (wrap .i64 (l+1)) dm bg dn) none) none) none) none) none) none) (A5 5 (b.drop 6) fun d o=>q4 d o (o:Int) 0 aj z ak))
def Hz(r0:Nat->Bool->LA->O R)(c:LA)(p:Nat)(a:Bool)(b:LA):Nat->Int->Int->Nat->Bool->LA->O R
|0=>fun _ _ _ _ _=>none
|n+1=>Nx N r0 c p a b (Hz r0 c p a b n) (fun d o=>Hy N r0 d o a b N)
def Ny(r0:Nat->Bool->LA->O R)(h:LA)(q:Nat)(a:Bool)(b:LA)(k2:Int->Int->Nat->Bool->LA->O R)(q3:LA->Nat->Int->Int->Nat->Bool->LA->O R)(al v:Int)(am:Nat)(an:Bool)(ao:LA):O R:=(cond (decide (v<al)) (cond (Ac v q) (cond (ble 22 ((h.drop (v.toNat*22)).length)) (cond ((beq 0 0)&&((beq (((h.drop (v.toNat*22)).take 22).length) 22)&&(beq 22 22))) (cond (ble 8 b.length) (cond (ble 22 (((h.drop (v.toNat*22)).take 22).length)) (Tz N (b.take 8) a (((h.drop (v.toNat*22)).take 22).take 22) a am an ao fun dp dq dr=>k2 al (wrap .i64 (v+1)) dp dq dr) none) none) none) none) none) (A5 9 (b.drop 5) fun c p=>q3 c p (p:Int) 0 am an ao))
def H1(r0:Nat->Bool->LA->O R)(h:LA)(q:Nat)(a:Bool)(b:LA):Nat->Int->Int->Nat->Bool->LA->O R
|0=>fun _ _ _ _ _=>none
|n+1=>Ny N r0 h q a b (H1 r0 h q a b n) (fun c p=>Hz N r0 c p a b N)
def Nz(r0:Nat->Bool->LA->O R)(i:LA)(r:Nat)(a:Bool)(b:LA)(k1:Int->Int->Nat->Bool->LA->O R)(q2:LA->Nat->Int->Int->Nat->Bool->LA->O R)(ap w:Int)(aq:Nat)(ar:Bool)(au:LA):O R:=(cond (decide (w<ap)) (cond (Ac w r) (cond (ble 12 ((i.drop (w.toNat*12)).length)) (cond ((beq 0 0)&&((beq (((i.drop (w.toNat*12)).take 12).length) 12)&&(beq 12 12))) (cond (ble 8 b.length) (cond (ble 12 (((i.drop (w.toNat*12)).take 12).length)) (Zx N (b.take 8) a (((i.drop (w.toNat*12)).take 12).take 12) a aq ar au fun ds dt du=>k1 ap (wrap .i64 (w+1)) ds dt du) none) none) none) none) none) (A5 22 (b.drop 4) fun h q=>q2 h q (q:Int) 0 aq ar au))
def H2(r0:Nat->Bool->LA->O R)(i:LA)(r:Nat)(a:Bool)(b:LA):Nat->Int->Int->Nat->Bool->LA->O R
|0=>fun _ _ _ _ _=>none
|n+1=>Nz N r0 i r a b (H2 r0 i r a b n) (fun h q=>H1 N r0 h q a b N)
def N0(r0:Nat->Bool->LA->O R)(f:LA)(j:Nat)(a:Bool)(b:LA)(k0:Int->Int->Nat->Bool->LA->O R)(q1:LA->Nat->Int->Int->Nat->Bool->LA->O R)(av t:Int)(aw:Nat)(aa:Bool)(ax:LA):O R:=(cond (decide (t<av)) (cond (Ac t j) (cond (ble 3 ((f.drop (t.toNat*3)).length)) (cond ((beq 0 0)&&((beq (((f.drop (t.toNat*3)).take 3).length) 3)&&(beq 3 3))) (Gv ((f.drop (t.toNat*3)).take 3) fun dv=>Cv N [.str ([98,117,115]:Lu),.str dv,.str ([100,101,109,97,110,100]:Lu)] 3 false true aw aa ax fun dw dx=>A5 1 (((f.drop (t.toNat*3)).take 3).drop 1) fun dy dz=>Ae N dy dz false a dw aa dx fun ea bh eb=>Aj N ([115,104,101,100]:Lu) ea bh eb fun ec ed=>Ax .i64 (((f.drop (t.toNat*3)).take 3).drop 2) fun ee=>Ae N [.int .i64 ee] 1 false true ec bh ed fun ef bi eg=>Dj N ef bi eg fun eh ei=>k0 av (wrap .i64 (t+1)) eh bi ei) none) none) none) (A5 12 (b.drop 3) fun i r=>q1 i r (r:Int) 0 aw aa ax))
def Fz(r0:Nat->Bool->LA->O R)(f:LA)(j:Nat)(a:Bool)(b:LA):Nat->Int->Int->Nat->Bool->LA->O R
|0=>fun _ _ _ _ _=>none
|n+1=>N0 N r0 f j a b (Fz r0 f j a b n) (fun i r=>H2 N r0 i r a b N)
def U6(r0:Nat->Bool->LA->O R)(q0:LA->Nat->Int->Int->Nat->Bool->LA->O R)(b:LA)(a x:Bool):O R:=(NG N ([99,97,115,101]:Lu) x fun ej ek=>Ax .i64 b fun el=>Ae N [.int .i64 el] 1 false true ej x ek fun em bj en=>Aj N ([114,101,115,101,114,118,101]:Lu) em bj en fun eo ep=>A5 1 (b.drop 1) fun er es=>Ae N er es false a eo bj ep fun et bk eu=>Dj N et bk eu fun ev ew=>A5 3 (b.drop 2) fun f j=>q0 f j (j:Int) 0 ev bk ew)
def Lg:=(Ad fun N b a x r0=>U6 (R:=R) N r0 (fun f j=>Fz N r0 f j a b N) b a x).1
def HX(b a x r0):(@Lg R N b a x r0)=(U6 N r0 (fun f j=>Fz N r0 f j a b N) b a x):=by rw[Lg,(Ad _).2]
def NP:Hints:={H:=hK 6 (hS (hK 1 (hS (hP [0,3,32,33,34] hL) hL)) (hS (hK 1 (hS (hP [0,3,58,59,60] hL) hL)) (hS (hK 1 (hS (hP [0,3,70,71,72] hL) hL)) (hS (hK 1 (hS (hP [0,3,82,83,84] hL) hL)) (hS (hK 1 (hS (hP [0,3,133,134,135] hL) hL)) (hK 1 (hS (hP [0,3,171,172,173] hL) hL)))))))}
def T1:=A0x (qq N) (Ex N) (Eq.refl 89)
def QN:Vx:=[T1 N,P4 N,W2 N,Sj N,qr N,qs N,FH N,lE N]
def H3(F:KF R):=K8 Tryz.f44 NP (QN N) [100000] N F
def lF(g:LA)(m:Nat)(a:Bool)(b:LA)(K:St->O R):=fun ab u ac ad ae=>K ⟨[(0,.optr 100000 0),(3,op 0),(171,.imm g m 4 false a),(172,iv ab),(173,iv u)],[(100000,bN 0 [Bby 1 ac,.bool ad]),(300000,bP a 0 b),(300001,⟨false,false,true,false,1,ae,false,some (5,0)⟩)]⟩
def lG(d:LA)(o:Nat)(a:Bool)(b:LA)(K:St->O R):=fun af s ag y ah=>K ⟨[(0,.optr 100000 0),(3,op 0),(133,.imm d o 5 false a),(134,iv af),(135,iv s)],[(100000,bN 0 [Bby 1 ag,.bool y]),(300000,bP a 0 b),(300001,⟨false,false,true,false,1,ah,false,some (5,0)⟩)]⟩
def lH(c:LA)(p:Nat)(a:Bool)(b:LA)(K:St->O R):=fun ai l aj z ak=>K ⟨[(0,.optr 100000 0),(3,op 0),(82,.imm c p 9 false a),(83,iv ai),(84,iv l)],[(100000,bN 0 [Bby 1 aj,.bool z]),(300000,bP a 0 b),(300001,⟨false,false,true,false,1,ak,false,some (5,0)⟩)]⟩
def lI(h:LA)(q:Nat)(a:Bool)(b:LA)(K:St->O R):=fun al v am an ao=>K ⟨[(0,.optr 100000 0),(3,op 0),(70,.imm h q 22 false a),(71,iv al),(72,iv v)],[(100000,bN 0 [Bby 1 am,.bool an]),(300000,bP a 0 b),(300001,⟨false,false,true,false,1,ao,false,some (5,0)⟩)]⟩
def lJ(i:LA)(r:Nat)(a:Bool)(b:LA)(K:St->O R):=fun ap w aq ar au=>K ⟨[(0,.optr 100000 0),(3,op 0),(58,.imm i r 12 false a),(59,iv ap),(60,iv w)],[(100000,bN 0 [Bby 1 aq,.bool ar]),(300000,bP a 0 b),(300001,⟨false,false,true,false,1,au,false,some (5,0)⟩)]⟩
def lK(f:LA)(j:Nat)(a:Bool)(b:LA)(K:St->O R):=fun av t aw aa ax=>K ⟨[(0,.optr 100000 0),(3,op 0),(32,.imm f j 3 false a),(33,iv av),(34,iv t)],[(100000,bN 0 [Bby 1 aw,.bool aa]),(300000,bP a 0 b),(300001,⟨false,false,true,false,1,ax,false,some (5,0)⟩)]⟩
def a_(F:KF R)(g m a b):∀ n,lF g m a b (Al (H3 N F (pz 89478484) []) n)=(Hx N (V0 F) g m a b n):=Dt fun n e=>(Cj (Nv N (V0 F) g m a b) e:_)
def bA(F:KF R)(d o a b):∀ n,lG d o a b (Al (H3 N F (pz 89478468) []) n)=(Hy N (V0 F) d o a b n):=Dt fun n e=>(Sq (Nw N (V0 F) d o a b) e (CJ fun g m=>(lW ..).trans (a_ ..)):_)
def bB(F:KF R)(c p a b):∀ n,lH c p a b (Al (H3 N F (pz 22369604) []) n)=(Hz N (V0 F) c p a b n):=Dt fun n e=>(Sq (Nx N (V0 F) c p a b) e (CJ fun d o=>(lW ..).trans (bA ..)):_)
def bC(F:KF R)(h q a b):∀ n,lI h q a b (Al (H3 N F (pz 5592388) []) n)=(H1 N (V0 F) h q a b n):=Dt fun n e=>(Sq (Ny N (V0 F) h q a b) e (CJ fun c p=>(lW ..).trans (bB ..)):_)
def bD(F:KF R)(i r a b):∀ n,lJ i r a b (Al (H3 N F (pz 1398084) []) n)=(H2 N (V0 F) i r a b n):=Dt fun n e=>(Sq (Nz N (V0 F) i r a b) e (CJ fun h q=>(lW ..).trans (bC ..)):_)
def bE(F:KF R)(f j a b):∀ n,lK f j a b (Al (H3 N F (pz 349508) []) n)=(Fz N (V0 F) f j a b n):=Dt fun n e=>(Sq (N0 N (V0 F) f j a b) e (CJ fun i r=>(lW ..).trans (bD ..)):_)
def oX:=Cr N 44 (QN N) NP (fun
|[.optr 100000 0,.pagg b a],[(100000,⟨false,false,false,false,0,[.nsl,.bool x],false,none⟩)]=>some fun _ k=>Lg N b a x (V0 k)
| _,_=>none) fun _ _=>by split;intro R F;exact(Cj (U6 N (V0 F) · _ _ _) (CJ fun f j=>(lW ..).trans (bE ..)):_).trans (HX ..).symm;trivial
def DT(r0:Lu->Int->O R)(c:LA)(d:Nat)(b:Bool)(a:LA)(k1:Int->Int->O R)(g f:Int):O R:=(cond (decide (f<g)) (cond (Ac f d) (cond (ble 4 ((c.drop (f.toNat*4)).length)) (cond ((beq 0 0)&&((beq (((c.drop (f.toNat*4)).take 4).length) 4)&&(beq 4 4))) (QY (((c.drop (f.toNat*4)).take 4).drop 2) fun l=>cond ((!l)==true) (A5 3 (((c.drop (f.toNat*4)).take 4).drop 3) fun v m=>cond (cond true (decide ((m:Int)>0)) false) (r0 ([]:Lu) 16) (k1 g (wrap .i64 (f+1)))) (k1 g (wrap .i64 (f+1)))) none) none) none) (cond (ble 8 a.length) (Lg N (a.take 8) b false fun h o p=>cond o (r0 ([]:Lu) 3) (cond (decide ((h:Int)>1048576)) (r0 ([]:Lu) 8) (Option.bind (CB (p.take (h*1))) fun q=>r0 q 0))) none))
def U7(r0:Lu->Int->O R)(c:LA)(d:Nat)(b:Bool)(a:LA):Nat->Int->Int->O R
|0=>fun _ _=>none
|n+1=>DT N r0 c d b a (U7 r0 c d b a n)
def RW(r0:Lu->Int->O R)(b:Bool)(a:LA)(q1:LA->Nat->Int->Int->O R):O R:=(cond (ble 8 a.length) (UH N (a.take 8) b fun r=>cond (!r) (r0 ([]:Lu) 4) (cond (ble 8 a.length) (fA N (a.take 8) b fun i=>cond (i != 0) (r0 ([]:Lu) i) (cond (ble 8 a.length) (fB N (a.take 8) b fun s=>cond (!s) (r0 ([]:Lu) 12) (A5 4 (a.drop 7) fun c d=>q1 c d (d:Int) 0)) none)) none)) none)
def JM(r0:Lu->Int->O R)(b:Bool)(a:LA):O R:=RW N r0 b a fun c d=>U7 N r0 c d b a N
def YJ(r0:Lu->Int->O R)(q0:O R)(a:LA)(b:Bool):O R:=(cond (ble 8 a.length) (UG N (a.take 8) b fun j=>cond (j != 0) (r0 ([]:Lu) j) (Ax .i64 a fun t=>cond ((decide (t<1))==false) (Ax .i64 a fun u=>cond (cond false true (decide (u>24))) (r0 ([]:Lu) 3) q0) (r0 ([]:Lu) 3))) none)
def JY:=(Ad fun N a b r0=>YJ (R:=R) N r0 (JM N r0 b a) a b).1
def jj(a b r0):(@JY R N a b r0)=(YJ N r0 (JM N r0 b a) a b):=by rw[JY,(Ad _).2]
def oY:Hints:={H:=hK 2 (hJ [1] hL (hK 3 (hS (hK 1 (hS (hP [1,34,35,36] hL) hL)) hL)))}
def sd:Vx:=[Ajq N,Ajr N,Ant N,Anu N,oX N]
def oZ(F:KF R):=K8 Tryz.f17 oY (sd N) [] N F
def Agf(c:LA)(d:Nat)(b:Bool)(a:LA)(K:St->O R):=fun g f=>K ⟨[(1,op 0),(34,.imm c d 4 false b),(35,iv g),(36,iv f)],hq [bP b 0 a]⟩
def Agg(b:Bool)(a:LA)(K:St->O R):=K ⟨[(1,op 0)],hq [bP b 0 a]⟩
def uq(F:KF R)(c d b a):∀ n,Agf c d b a (Al (oZ N F (pz 349508) []) n)=(U7 N (Z4 F) c d b a n):=Dt fun n e=>(Cj (DT N (Z4 F) c d b a) e:_)
def ur(F:KF R)(b a):Agg b a (By (oZ N F (pz 85) []))=(JM N (Z4 F) b a):=(Cj (RW N (Z4 F) b a) (CJ fun c d=>(lW ..).trans (uq ..)):_)
def Aj9:=Cr N 17 (sd N) oY (fun
|[.pagg a b],[]=>some fun _ k=>JY N a b (Z4 k)
| _,_=>none) fun _ _=>by split;intro R F;exact(Cj (YJ N (Z4 F) · _ _) ((jW ..).trans (ur ..)):_).trans (jj ..).symm;trivial
def Ga(r0:Bool->O R)(a:LA)(b:Nat)(d c:Bool)(k0:Int->Bool->LA->O R)(f:Int)(am:Bool)(g:LA):O R:=(cond (decide (f<2)) (cond (Ac f 2) (cond (ble 8 ((g.drop (0+(f.toNat*8))).length)) (cond ((beq 0 0)&&((beq (((g.drop (0+(f.toNat*8))).take 8).length) 8)&&(beq 8 8))) (cond (ble 8 (((g.drop (0+(f.toNat*8))).take 8).length)) (JY N (((g.drop (0+(f.toNat*8))).take 8).take 8) am fun ap aq=>cond (aq != 0) (k0 (wrap .i64 (f+1)) am g) (NC N ap fun an ar au=>cond ((beq 0 0)&&((beq an.length 8)&&(beq 8 8))) (cond ((au != 0)==false) (cond ((cond false true (ar != 0))==false) (cond (ble 8 an.length) (cond (ble 8 (((g.drop (0+(f.toNat*8))).take 8).length)) (UF N (an.take 8) false (((g.drop (0+(f.toNat*8))).take 8).take 8) am fun av=>cond (cond false true (!av)) (r0 false) (k0 (wrap .i64 (f+1)) am g)) none) none) (r0 false)) (r0 false)) none)) none) none) none) none) (IR N a b false c fun aw=>JY N aw false fun ax ay=>PD N fun az=>cond (az==true) (cond ((cond true (ay==0) false)==true) (MK N a b false c fun ba=>r0 (cond true (ax==ba) false)) (r0 false)) (r0 false)))
def B8(r0:Bool->O R)(a:LA)(b:Nat)(d c:Bool):Nat->Int->Bool->LA->O R
|0=>fun _ _ _=>none
|n+1=>Ga N r0 a b d c (B8 r0 a b d c n)
def Il(r0:Bool->O R)(q0:Int->Bool->LA->O R)(q:Int)(r:LA)(s:Nat)(t h:Bool)(u:LA)(v:Nat)(w i:Bool)(x:LA)(y:Nat)(z j:Bool)(aa:LA)(ab:Nat)(ac l:Bool)(ad:LA)(ae:Nat)(af m:Bool)(ag:LA)(ah:Nat)(ai o:Bool)(aj:LA)(ak:Nat)(al p:Bool)(a:LA)(b:Nat)(d c:Bool):O R:=(IR N a b false c fun ao=>cond ((beq ao.length 8)&&(ble 8 16)) (cond ((beq 8 8)&&(ble 16 ((setCells [Bbz,.nsl,.nsl,.nsl,.nsl,.nsl,.nsl,.nsl,Bbz,.nsl,.nsl,.nsl,.nsl,.nsl,.nsl,.nsl] 0 ao).length))) (q0 0 ((h||(i||(j||(l||(m||(o||(p||false)))))))||false) (Gh (setCells [Bbz,.nsl,.nsl,.nsl,.nsl,.nsl,.nsl,.nsl,Bbz,.nsl,.nsl,.nsl,.nsl,.nsl,.nsl,.nsl] 0 ao) 8 [.int .i64 q,.imm r s 1 t h,.imm u v 3 w i,.imm x y 12 z j,.imm aa ab 22 ac l,.imm ad ae 9 af m,.imm ag ah 5 ai o,.imm aj ak 4 al p])) none) none)
def I4:=(Ad fun N q r s t h u v w i x y z j aa ab ac l ad ae af m ag ah ai o aj ak al p a b d c r0=>Il (R:=R) N r0 (B8 N r0 a b d c N) q r s t h u v w i x y z j aa ab ac l ad ae af m ag ah ai o aj ak al p a b d c).1
def Sm(q r s t h u v w i x y z j aa ab ac l ad ae af m ag ah ai o aj ak al p a b d c r0):(@I4 R N q r s t h u v w i x y z j aa ab ac l ad ae af m ag ah ai o aj ak al p a b d c r0)=(Il N r0 (B8 N r0 a b d c N) q r s t h u v w i x y z j aa ab ac l ad ae af m ag ah ai o aj ak al p a b d c):=by rw[I4,(Ad _).2]
def T2:Hints:={H:=hK 1 (hS (hK 1 (hS (hP [1,17,18,19] hL) hL)) hL)}
def Vb:Vx:=[Ab5 N,Aj9 N,Ans N,Ajp N,zl N,Afv N]
def NQ(F:KF R):=K8 Tryz.f6 T2 (Vb N) [] N F
def NR(a:LA)(b:Nat)(d c:Bool)(K:St->O R):=fun f am g=>K ⟨[(1,.imm a b 1 d c),(17,Bby 0 2),(18,iv 2),(19,iv f)],hq [bP am 8 g]⟩
def FM(F:KF R)(a b d c):∀ n,NR a b d c (Al (NQ N F (pz 324) []) n)=(B8 N (Bk F) a b d c n):=Dt fun n e=>(Cj (Ga N (Bk F) a b d c) e:_)
def Vc:=Cr N 6 (Vb N) T2 (fun
|[.agg [.int .i64 q,.imm r s 1 t h,.imm u v 3 w i,.imm x y 12 z j,.imm aa ab 22 ac l,.imm ad ae 9 af m,.imm ag ah 5 ai o,.imm aj ak 4 al p],.imm a b 1 d c],[]=>some fun _ k=>I4 N q r s t h u v w i x y z j aa ab ac l ad ae af m ag ah ai o aj ak al p a b d c (Bk k)
| _,_=>none) fun _ _=>by split;intro R F;exact(Cj (Il N (Bk F) · _ _ _ _ _ _ _ _ _ _ _ _ _ _ _ _ _ _ _ _ _ _ _ _ _ _ _ _ _ _ _ _ _) ((lW ..).trans (FM ..)):_).trans (Sm ..).symm;trivial
def T3:=(Vc N).tw
def NS:pe Tryz.prog 6 (T3 N):=(Vc N).tok
end
end Gx
namespace Gx.Ct
open Go Go.Proofs Gx.Cf
def Ready.bn{M:Nat}{c:CaseD}(h:Ready M c):∀ s∈Bl c,s.length<=16:=h.n _ (by simp[B5])
def Ready.ln{M:Nat}{c:CaseD}(h:Ready M c):∀ s∈Ce c,s.length<=16:=h.n _ (by simp[B5])
def Ready.un{M:Nat}{c:CaseD}(h:Ready M c):∀ s∈Bw c,s.length<=16:=h.n _ (by simp[B5])
def Ready.sn{M:Nat}{c:CaseD}(h:Ready M c):∀ s∈Xd c,s.length<=16:=h.n _ (by simp[B5])
def Ready.tn{M:Nat}{c:CaseD}(h:Ready M c):∀ s∈kQ c,s.length<=16:=h.n _ (by simp[B5])
def Ready.on{M:Nat}{c:CaseD}(h:Ready M c):∀ s∈kR c,s.length<=16:=h.n _ (by simp[B5])
def Ready.cnt{M:Nat}{c:CaseD}(h:Ready M c):c.buses.l.length<=32/\c.lines.l.length<=64/\c.units.l.length<=16/\c.stores.l.length<=8/\c.ties.l.length<=8/\c.outs.l.length<=64:=by
 have:=h.c
 unfold F4 at this
 simpa only[A47,decide_eq_true_eq]using this
def Ready.kn{M:Nat}{c:CaseD}(h:Ready M c):(∀ l∈c.lines.l,El l.fr c.buses.l.length=true/\El l.tl c.buses.l.length=true)/\(∀ u∈c.units.l,El u.bus c.buses.l.length=true)/\(∀ s∈c.stores.l,El s.bus c.buses.l.length=true)/\(∀ t∈c.ties.l,El t.bus c.buses.l.length=true)/\∀ o∈c.outs.l,(∀ l∈o.lines.l,El l c.lines.l.length=true)/\∀ m∈o.moves.l,El m.unit c.units.l.length=true:=by
 have d:=h.k
 unfold Kf at d
 simp only[A47,A5n]at d
 exact⟨d.1,fun u e=>(d.2.1 u e).1,d.2.2.1,d.2.2.2.1,d.2.2.2.2⟩
def X8(t:Lu)(ws:List Ap)(r:List (List Ap)):Kg t (ws::r)=Kg (GC (ws.foldl Do t)) r:=rfl
section
variable{R:Type}{N:Nat}{c:CaseD}{a:Bool}{K:Nat->Bool->LA->O R}
def yS(hx:B9)(hN:20000000000000<N)(h:Ready 20000000000000 c):∀(m j fuel:Nat)(t:Lu)(bad:Bool),j+m=c.outs.l.length->m<fuel ->
  Hx N K (c.outs.l.flatMap OutD.av) c.outs.l.length a c.av fuel (c.outs.l.length:Int) (j:Int) t.length bad (Az t) =
   K (Kg t ((c.outs.l.drop j).map (Mx (Ce c) (Bw c)))).length (bad||((c.outs.l.drop j).any Im)) (Az (Kg t ((c.outs.l.drop j).map (Mx (Ce c) (Bw c)))))
|0,j,fuel+1,t,bad,k,_=>by
  rw[Hx];unfold Nv
  have n:=h.cnt
  rw[Fk (by omega),cf,show c.outs.l.drop j=[]from Bo (by omega),A5v,A6o]
  show K _ _ _=K _ (bad||false) _
  rw[A65];rfl
|m+1,j,fuel+1,t,bad,k,s=>by
  rw[Hx];unfold Nv
  have d:j<c.outs.l.length:=by omega
  have n:=h.cnt
  have f:(c.outs.l[j])∈c.outs.l:=A5g d
  rw[Er d,ct,Aa d,ct,Cd (e:=OutD.av) (sz:=4) (fun _=>rfl) d,ct,Bp (e:=OutD.av) (sz:=4) (fun _=>rfl) d,show((beq 0 0)&&((beq ((OutD.av c.outs.l[j]).length) 4)&&(beq 4 4)))=true from rfl,ct]
  have q:=fun t bad=>yS hx hN h m (j+1) fuel t bad (by omega) (by omega)
  rw[Bm d,A5c,A6h,X8]
  rw[Fl,ct,show ble 4 (OutD.av c.outs.l[j]).length=true from rfl,ct,Cs,show take 4 (OutD.av c.outs.l[j])=OutD.av c.outs.l[j]from rfl,Auv hx hN (h.i.o _ f) h.ln h.un (h.kn.2.2.2.2 _ f).1 (h.kn.2.2.2.2 _ f).2 (h.on _ (A5o.2 ⟨_,f,rfl⟩)),Q8 (by omega)]
  refine(q _ _).trans ?_
  rw[A5u]
def yT(hx:B9)(hN:20000000000000<N)(h:Ready 20000000000000 c):∀(m j fuel:Nat)(t:Lu)(bad:Bool),j+m=c.ties.l.length->m<fuel ->
  Hy N K (c.ties.l.flatMap TieD.av) c.ties.l.length a c.av fuel (c.ties.l.length:Int) (j:Int) t.length bad (Az t) =
   K (Kg t ((c.ties.l.drop j).map (Uh (Bl c))++(c.outs.l.map (Mx (Ce c) (Bw c))))).length (bad||((c.ties.l.drop j).any Rc||(c.outs.l.any Im))) (Az (Kg t ((c.ties.l.drop j).map (Uh (Bl c))++(c.outs.l.map (Mx (Ce c) (Bw c))))))
|0,j,fuel+1,t,bad,n,_=>by
  rw[Hy];unfold Nw
  have q:=h.cnt
  rw[Fk (by omega),cf,show c.ties.l.drop j=[]from Bo (by omega),A5v,A6o]
  rw[Ix]
  refine(yS (a:=a) hx hN h c.outs.l.length 0 N t bad (by omega) (by omega)).trans ?_
  rw[A5k,A56];rfl
|m+1,j,fuel+1,t,bad,n,x=>by
  rw[Hy];unfold Nw
  have d:j<c.ties.l.length:=by omega
  have q:=h.cnt
  have f:(c.ties.l[j])∈c.ties.l:=A5g d
  rw[Er d,ct,Aa d,ct,Cd (e:=TieD.av) (sz:=5) (fun _=>rfl) d,ct,Bp (e:=TieD.av) (sz:=5) (fun _=>rfl) d,show((beq 0 0)&&((beq ((TieD.av c.ties.l[j]).length) 5)&&(beq 5 5)))=true from rfl,ct]
  have u:=fun t bad=>yT hx hN h m (j+1) fuel t bad (by omega) (by omega)
  rw[Bm d,A5c,A6h,A5i,X8]
  have hI:=h.i.t _ f
  have k:=h.kn.2.2.2.1 _ f
  have v:(c.ties.l[j]).name.length<=16:=h.tn _ (A5o.2 ⟨_,f,rfl⟩)
  have s1:=B6 h.bn (c.ties.l[j]).bus
  rw[show ∀ F:Ap->O R,Gv (c.ties.l[j]).av F=F (c.ties.l[j]).name from fun _=>rfl,Ca]
  show cond (Ac (c.ties.l[j]).bus c.buses.l.length) _ none=_
  rw[P6 k,ct,ji k]
  refine UL (ws:=[Qh,(c.ties.l[j]).name,Be (Bl c) (c.ties.l[j]).bus,S7]) rfl rfl (UM (by simp[v,s1,Qh,S7])) (by simp) hN ?_
  show A5 1 ((c.ties.l[j]).imp.av 1 D5::_) _=_
  rw[A6,Bn]
  refine Cw rfl rfl hx hI.i.1 hI.i.2 hN ?_
  refine En (s:=LB) (by decide) ?_
  show A5 1 ((c.ties.l[j]).exp.av 1 D5::_) _=_
  rw[A6,Bn]
  refine Cw rfl rfl hx hI.e.1 hI.e.2 hN ?_
  refine En (s:=WH) (by decide) ?_
  show A5 1 ((c.ties.l[j]).price.av 1 D5::_) _=_
  rw[A6,Bn]
  refine Cw rfl rfl hx hI.p.1 hI.p.2 hN ?_
  rw[NO,Q8 (by omega)]
  refine(u _ _).trans ?_
  have eW:Uh (Bl c) c.ties.l[j]=[Qh,(c.ties.l[j]).name,Be (Bl c) (c.ties.l[j]).bus,S7]++((c.ties.l[j]).imp.l.map tx++(LB::((c.ties.l[j]).exp.l.map tx++(WH::(c.ties.l[j]).price.l.map tx)))):=rfl
  have eB:(((bad||Ar (c.ties.l[j]).imp.l)||Ar (c.ties.l[j]).exp.l)||Ar (c.ties.l[j]).price.l)=(bad||Rc c.ties.l[j]):=by unfold Rc;simp[A5u]
  rw[eB,eW]
  simp only[A6j,A53,A7d,A5u]
def o0(hx:B9)(hN:20000000000000<N)(h:Ready 20000000000000 c):∀(m j fuel:Nat)(t:Lu)(bad:Bool),j+m=c.stores.l.length->m<fuel ->
  Hz N K (c.stores.l.flatMap StoreD.av) c.stores.l.length a c.av fuel (c.stores.l.length:Int) (j:Int) t.length bad (Az t) =
   K (Kg t ((c.stores.l.drop j).map (Fu (Bl c))++(c.ties.l.map (Uh (Bl c))++(c.outs.l.map (Mx (Ce c) (Bw c)))))).length (bad||((c.stores.l.drop j).any Je||(c.ties.l.any Rc||(c.outs.l.any Im)))) (Az (Kg t ((c.stores.l.drop j).map (Fu (Bl c))++(c.ties.l.map (Uh (Bl c))++(c.outs.l.map (Mx (Ce c) (Bw c)))))))
|0,j,fuel+1,t,bad,q,_=>by
  rw[Hz];unfold Nx
  have u:=h.cnt
  rw[Fk (by omega),cf,show c.stores.l.drop j=[]from Bo (by omega),A5v,A6o]
  rw[Lm]
  refine(yT (a:=a) hx hN h c.ties.l.length 0 N t bad (by omega) (by omega)).trans ?_
  rw[A5k,A56];rfl
|m+1,j,fuel+1,t,bad,q,y=>by
  rw[Hz];unfold Nx
  have d:j<c.stores.l.length:=by omega
  have u:=h.cnt
  have f:(c.stores.l[j])∈c.stores.l:=A5g d
  rw[Er d,ct,Aa d,ct,Cd (e:=StoreD.av) (sz:=9) (fun _=>rfl) d,ct,Bp (e:=StoreD.av) (sz:=9) (fun _=>rfl) d,show((beq 0 0)&&((beq ((StoreD.av c.stores.l[j]).length) 9)&&(beq 9 9)))=true from rfl,ct]
  have v:=fun t bad=>o0 hx hN h m (j+1) fuel t bad (by omega) (by omega)
  rw[Bm d,A5c,A6h,A5i,X8]
  have hn:=(h.i.s _ f).n
  simp only[A5b,A5l,or_false,forall_eq_or_imp,forall_eq]at hn
  obtain⟨n1,n2,n3,n4,n5,n6,n7⟩:=hn
  have k:=h.kn.2.2.1 _ f
  have x:(c.stores.l[j]).name.length<=16:=h.sn _ (A5o.2 ⟨_,f,rfl⟩)
  have s1:=B6 h.bn (c.stores.l[j]).bus
  rw[show ∀ F:Ap->O R,Gv (c.stores.l[j]).av F=F (c.stores.l[j]).name from fun _=>rfl,Ca]
  show cond (Ac (c.stores.l[j]).bus c.buses.l.length) _ none=_
  rw[P6 k,ct,ji k]
  refine UL (ws:=[F9,(c.stores.l[j]).name,Be (Bl c) (c.stores.l[j]).bus,Mw]) rfl rfl (UM (by simp[x,s1,F9,Mw])) (by simp) hN ?_
  show Ae N [.int .i64 (c.stores.l[j]).capacity] 1 false true _ _ _ _=_
  refine Cw (l:=[(c.stores.l[j]).capacity]) rfl rfl hx (by simp[*]) (by simp) hN ?_
  refine En (s:=fq) (by decide) ?_
  show Ae N [.int .i64 (c.stores.l[j]).initial,.int .i64 (c.stores.l[j]).final] 2 false true _ _ _ _=_
  refine Cw (l:=[(c.stores.l[j]).initial,(c.stores.l[j]).final]) rfl rfl hx (by simp[*]) (by simp) hN ?_
  refine En (s:=pu) (by decide) ?_
  show Ae N [.int .i64 (c.stores.l[j]).charge,.int .i64 (c.stores.l[j]).discharge] 2 false true _ _ _ _=_
  refine Cw (l:=[(c.stores.l[j]).charge,(c.stores.l[j]).discharge]) rfl rfl hx (by simp[*]) (by simp) hN ?_
  refine En (s:=Uf) (by decide) ?_
  show cond true (cond (!a||A0 [AV.int .i64 (c.stores.l[j]).eff.num,.int .i64 (c.stores.l[j]).eff.den]) (Cn N [.int .i64 (c.stores.l[j]).eff.num,.int .i64 (c.stores.l[j]).eff.den] false _ _ _ _) none) none=_
  rw[ct,show(!a||A0 [AV.int .i64 (c.stores.l[j]).eff.num,.int .i64 (c.stores.l[j]).eff.den])=true by cases a<;>rfl,ct,gZ hx n6 n7,NO,Q8 (by omega)]
  refine(v _ _).trans ?_
  have eB:((((bad||Ar [(c.stores.l[j]).capacity])||Ar [(c.stores.l[j]).initial,(c.stores.l[j]).final])||Ar [(c.stores.l[j]).charge,(c.stores.l[j]).discharge])||Fo (c.stores.l[j]).eff)=(bad||Je c.stores.l[j]):=by unfold Je;simp[Ar,A5u]
  rw[eB]
  simp only[Fu,A6j,A53,A7d,A5c,A5v,A5u]
def se(hx:B9)(hN:20000000000000<N)(h:Ready 20000000000000 c):∀(m j fuel:Nat)(t:Lu)(bad:Bool),j+m=c.units.l.length->m<fuel ->
  H1 N K (c.units.l.flatMap UnitD.av) c.units.l.length a c.av fuel (c.units.l.length:Int) (j:Int) t.length bad (Az t) =
   K (Kg t ((c.units.l.drop j).map (Jd (Bl c))++(c.stores.l.map (Fu (Bl c))++(c.ties.l.map (Uh (Bl c))++(c.outs.l.map (Mx (Ce c) (Bw c))))))).length (bad||((c.units.l.drop j).any Nm||(c.stores.l.any Je||(c.ties.l.any Rc||(c.outs.l.any Im))))) (Az (Kg t ((c.units.l.drop j).map (Jd (Bl c))++(c.stores.l.map (Fu (Bl c))++(c.ties.l.map (Uh (Bl c))++(c.outs.l.map (Mx (Ce c) (Bw c))))))))
|0,j,fuel+1,t,bad,k,_=>by
  rw[H1];unfold Ny
  have n:=h.cnt
  rw[Fk (by omega),cf,show c.units.l.drop j=[]from Bo (by omega),A5v,A6o]
  rw[Hl]
  refine(o0 (a:=a) hx hN h c.stores.l.length 0 N t bad (by omega) (by omega)).trans ?_
  rw[A5k,A56];rfl
|m+1,j,fuel+1,t,bad,k,s=>by
  rw[H1];unfold Ny
  have d:j<c.units.l.length:=by omega
  have n:=h.cnt
  have f:(c.units.l[j])∈c.units.l:=A5g d
  rw[Er d,ct,Aa d,ct,Cd (e:=UnitD.av) (sz:=22) (fun _=>rfl) d,ct,Bp (e:=UnitD.av) (sz:=22) (fun _=>rfl) d,show((beq 0 0)&&((beq ((UnitD.av c.units.l[j]).length) 22)&&(beq 22 22)))=true from rfl,ct]
  have q:=fun t bad=>se hx hN h m (j+1) fuel t bad (by omega) (by omega)
  rw[Bm d,A5c,A6h,A5i,X8]
  rw[Fl,ct,show ble 22 (UnitD.av c.units.l[j]).length=true from rfl,ct,Cs,show take 22 (UnitD.av c.units.l[j])=UnitD.av c.units.l[j]from rfl,qt hx hN (h.i.u _ f) (h.kn.2.1 _ f) (h.un _ (A5o.2 ⟨_,f,rfl⟩)) (B6 h.bn _),Q8 (by omega)]
  refine(q _ _).trans ?_
  simp only[A5u]
def sf(hx:B9)(hN:20000000000000<N)(h:Ready 20000000000000 c):∀(m j fuel:Nat)(t:Lu)(bad:Bool),j+m=c.lines.l.length->m<fuel ->
  H2 N K (c.lines.l.flatMap LineD.av) c.lines.l.length a c.av fuel (c.lines.l.length:Int) (j:Int) t.length bad (Az t) =
   K (Kg t ((c.lines.l.drop j).map (Ng (Bl c))++(c.units.l.map (Jd (Bl c))++(c.stores.l.map (Fu (Bl c))++(c.ties.l.map (Uh (Bl c))++(c.outs.l.map (Mx (Ce c) (Bw c)))))))).length (bad||((c.lines.l.drop j).any Ui||(c.units.l.any Nm||(c.stores.l.any Je||(c.ties.l.any Rc||(c.outs.l.any Im)))))) (Az (Kg t ((c.lines.l.drop j).map (Ng (Bl c))++(c.units.l.map (Jd (Bl c))++(c.stores.l.map (Fu (Bl c))++(c.ties.l.map (Uh (Bl c))++(c.outs.l.map (Mx (Ce c) (Bw c)))))))))
|0,j,fuel+1,t,bad,k,_=>by
  rw[H2];unfold Nz
  have n:=h.cnt
  rw[Fk (by omega),cf,show c.lines.l.drop j=[]from Bo (by omega),A5v,A6o]
  rw[F2]
  refine(se (a:=a) hx hN h c.units.l.length 0 N t bad (by omega) (by omega)).trans ?_
  rw[A5k,A56];rfl
|m+1,j,fuel+1,t,bad,k,s=>by
  rw[H2];unfold Nz
  have d:j<c.lines.l.length:=by omega
  have n:=h.cnt
  have f:(c.lines.l[j])∈c.lines.l:=A5g d
  rw[Er d,ct,Aa d,ct,Cd (e:=LineD.av) (sz:=12) (fun _=>rfl) d,ct,Bp (e:=LineD.av) (sz:=12) (fun _=>rfl) d,show((beq 0 0)&&((beq ((LineD.av c.lines.l[j]).length) 12)&&(beq 12 12)))=true from rfl,ct]
  have q:=fun t bad=>sf hx hN h m (j+1) fuel t bad (by omega) (by omega)
  rw[Bm d,A5c,A6h,A5i,X8]
  rw[Fl,ct,show ble 12 (LineD.av c.lines.l[j]).length=true from rfl,ct,Cs,show take 12 (LineD.av c.lines.l[j])=LineD.av c.lines.l[j]from rfl,g8 hx hN (h.i.l _ f) (h.kn.1 _ f).1 (h.kn.1 _ f).2 (h.ln _ (A5o.2 ⟨_,f,rfl⟩)) (B6 h.bn _) (B6 h.bn _),Q8 (by omega)]
  refine(q _ _).trans ?_
  simp only[A5u]
def si(hx:B9)(hN:20000000000000<N)(h:Ready 20000000000000 c):∀(m j fuel:Nat)(t:Lu)(bad:Bool),j+m=c.buses.l.length->m<fuel ->
  Fz N K (c.buses.l.flatMap BusD.av) c.buses.l.length a c.av fuel (c.buses.l.length:Int) (j:Int) t.length bad (Az t) =
   K (Kg t ((c.buses.l.drop j).map TC++(c.lines.l.map (Ng (Bl c))++(c.units.l.map (Jd (Bl c))++(c.stores.l.map (Fu (Bl c))++(c.ties.l.map (Uh (Bl c))++(c.outs.l.map (Mx (Ce c) (Bw c))))))))).length (bad||((c.buses.l.drop j).any RC||(c.lines.l.any Ui||(c.units.l.any Nm||(c.stores.l.any Je||(c.ties.l.any Rc||(c.outs.l.any Im))))))) (Az (Kg t ((c.buses.l.drop j).map TC++(c.lines.l.map (Ng (Bl c))++(c.units.l.map (Jd (Bl c))++(c.stores.l.map (Fu (Bl c))++(c.ties.l.map (Uh (Bl c))++(c.outs.l.map (Mx (Ce c) (Bw c))))))))))
|0,j,fuel+1,t,bad,n,_=>by
  rw[Fz];unfold N0
  have q:=h.cnt
  rw[Fk (by omega),cf,show c.buses.l.drop j=[]from Bo (by omega),A5v,A6o]
  rw[Ef]
  refine(sf (a:=a) hx hN h c.lines.l.length 0 N t bad (by omega) (by omega)).trans ?_
  rw[A5k,A56];rfl
|m+1,j,fuel+1,t,bad,n,x=>by
  rw[Fz];unfold N0
  have f:j<c.buses.l.length:=by omega
  have q:=h.cnt
  have k:(c.buses.l[j])∈c.buses.l:=A5g f
  rw[Er f,ct,Aa f,ct,Cd (e:=BusD.av) (sz:=3) (fun _=>rfl) f,ct,Bp (e:=BusD.av) (sz:=3) (fun _=>rfl) f,show((beq 0 0)&&((beq ((BusD.av c.buses.l[j]).length) 3)&&(beq 3 3)))=true from rfl,ct]
  have u:=fun t bad=>si hx hN h m (j+1) fuel t bad (by omega) (by omega)
  rw[Bm f,A5c,A6h,A5i,X8]
  have hI:=h.i.b _ k
  have v:(c.buses.l[j]).name.length<=16:=h.bn _ (A5o.2 ⟨_,k,rfl⟩)
  show Cv N [.str Qf,.str (c.buses.l[j]).name,.str Qg] 3 false true _ _ _ _=_
  refine UL (ws:=[Qf,(c.buses.l[j]).name,Qg]) rfl rfl (UM (by simp[v,Qf,Qg])) (by simp) hN ?_
  show A5 1 ((c.buses.l[j]).demand.av 1 D5::_) _=_
  rw[A6,Bn]
  refine Cw rfl rfl hx hI.d.1 hI.d.2 hN ?_
  refine En (s:=pt) (by decide) ?_
  show Ae N [.int .i64 (c.buses.l[j]).shed] 1 false true _ _ _ _=_
  refine Cw (l:=[(c.buses.l[j]).shed]) rfl rfl hx (by simp[hI.s]) (by simp) hN ?_
  rw[NO,Q8 (by omega)]
  refine(u _ _).trans ?_
  have eB:((bad||Ar (c.buses.l[j]).demand.l)||Ar [(c.buses.l[j]).shed])=(bad||RC c.buses.l[j]):=by unfold RC;simp[Ar,A5u]
  rw[eB]
  simp only[TC,A6j,A53,A7d,A5c,A5v,A5u]
def Anx(hx:B9)(hN:20000000000000<N)(h:Ready 20000000000000 c):Lg N c.av a false K=K (Kg [] (EI c)).length (Hd c) (Az (Kg [] (EI c))):=by
 rw[HX];unfold U6
 rw[NH];unfold GM
 have d:TD [] Dc=Dc:=rfl
 have e:=h.cnt
 show Ax .i64 c.av _=_
 rw[Es]
 refine Cw (t:=Dc) (l:=[c.hours]) rfl rfl hx (by simp[h.i.h]) (by simp) hN ?_
 refine En (s:=D7) (by decide) ?_
 rw[K_]
 refine Cw rfl rfl hx h.i.r.1 h.i.r.2 hN ?_
 rw[NO,Ca]
 refine(si (a:=a) hx hN h c.buses.l.length 0 N _ _ (by omega) (by omega)).trans ?_
 rw[A5k]
 have eB:((false||Ar [c.hours])||Ar c.reserve.l)=(Vj c.hours||Ar c.reserve.l):=by simp[Ar]
 have e1:Do [] Dc=Dc:=by unfold Do;rw[if_neg (by decide)];rfl
 have eW:Kg [] (EI c)=Kg (GC ((jR c).foldl Do [])) (c.buses.l.map TC++(c.lines.l.map (Ng (Bl c))++(c.units.l.map (Jd (Bl c))++(c.stores.l.map (Fu (Bl c))++(c.ties.l.map (Uh (Bl c))++c.outs.l.map (Mx (Ce c) (Bw c))))))):=rfl
 rw[eB,eW]
 simp only[jR,A6j,A53,A7d,A5c,A5v,e1]
 unfold Hd
 simp only[A5u]
end
end Gx.Ct
namespace Gx.Ct
open Go Go.Proofs Gx.Cf
def Yd(c:CaseD)(o:OutD):Bool:=o.lines.l.all (fun l=>El l c.lines.l.length)&&o.moves.l.all (fun m=>El m.unit c.units.l.length)
section
variable{R:Type}{N:Nat}{c:CaseD}{b:Bool}{K:Bool->O R}
def NT{i:Int}{n:Nat}{ok:Bool}{F:Bool->O R}:Ik N i (n:Int) ok F=F (ok&&El i n):=by
 rw[UJ];unfold RV El
 cases ok with
|false=>rfl
|true =>
  show cond (decide (0<=i)==true) (F (decide (i<(n:Int)))) (F false)=_
  cases decide (0<=i)<;>rfl
def sj{o:OutD}{k4:Int->Int->Bool->O R}{C:LA}{D:Nat}{f ac:Int}(d:o.moves.l.length<=20000000000000):∀(m j fuel:Nat)(ok:Bool),j+m=o.moves.l.length->m<fuel ->
  X7 N k4 K C D b f (o.moves.l.flatMap MoveD.av) o.moves.l.length c.av fuel ac (o.moves.l.length:Int) (j:Int) ok=k4 f (wrap .i64 (ac+1)) (ok&&(o.moves.l.drop j).all fun m=>El m.unit c.units.l.length)
|0,j,fuel+1,ok,k,_=>by
  rw[X7];unfold JF
  rw[Fk (by omega),cf,Bo (by omega),A55,A64]
| m+1,j,fuel+1,ok,k,n=>by
  rw[X7];unfold JF
  have h:j<o.moves.l.length:=by omega
  have e:take 3 (drop (Int.toNat (j:Int)*3) (o.moves.l.flatMap MoveD.av))=[.int .i64 (o.moves.l[j]).unit,.int .i64 (o.moves.l[j]).up,.int .i64 (o.moves.l[j]).down]:=Bp (e:=MoveD.av) (sz:=3) (fun _=>rfl) h
  rw[Er h,ct,Aa h,ct,Cd (e:=MoveD.av) (sz:=3) (fun _=>rfl) h,ct,e,show(!b||A0 [AV.int .i64 (o.moves.l[j]).unit,.int .i64 (o.moves.l[j]).up,.int .i64 (o.moves.l[j]).down])=true by cases b<;>rfl,ct,Q8 (by omega),Bm h,
   show((beq ([AV.int .i64 (o.moves.l[j]).unit,.int .i64 (o.moves.l[j]).up,.int .i64 (o.moves.l[j]).down].length) 3)&&((ble 3 3)&&(!false)))=true from rfl,ct]
  rw[show ∀ F:Int->O R,Ax .i64 (setCells [Bbz,Bbz,Bbz] 0 [AV.int .i64 (o.moves.l[j]).unit,.int .i64 (o.moves.l[j]).up,.int .i64 (o.moves.l[j]).down]) F=F (o.moves.l[j]).unit from fun _=>rfl,F2,NT]
  refine(sj d m (j+1) fuel _ (by omega) (by omega)).trans ?_
  rw[A5s,A6b]
def Ab9{o:OutD}{k4:Int->Int->Bool->O R}{C:LA}{D:Nat}{f ac:Int}(hN:20000000000000<N)(d:o.moves.l.length<=20000000000000)(e:o.lines.l.length<=20000000000000):∀(m j fuel:Nat)(ok:Bool),j+m=o.lines.l.length->m<fuel ->
  Tv N k4 K C D b f (A4 o.lines.l) o.lines.l.length c.av fuel ac (o.lines.l.length:Int) (j:Int) ok o.av=k4 f (wrap .i64 (ac+1)) (ok&&((o.lines.l.drop j).all (fun l=>El l c.lines.l.length)&&o.moves.l.all fun m=>El m.unit c.units.l.length))
|0,j,fuel+1,ok,k,_=>by
  rw[Tv];unfold JG
  rw[Fk (by omega),cf,show o.lines.l.drop j=[]from Bo (by omega),A55]
  show A5 3 (o.moves.av 3 MoveD.av::_) _=_
  rw[A6]
  refine(sj d o.moves.l.length 0 N ok (by omega) (by omega)).trans ?_
  rw[A5k,A52]
|m+1,j,fuel+1,ok,k,n=>by
  rw[Tv];unfold JG
  have h:j<o.lines.l.length:=by omega
  rw[Er h,ct,Aa h,ct,KZ h,Ef,NT,Q8 (by omega)]
  refine(Ab9 hN d e m (j+1) fuel _ (by omega) (by omega)).trans ?_
  rw[Bm h,A5s]
  simp only[A6b]
def yU(hN:20000000000000<N)(f:c.outs.l.length<=1000)(hI:∀ o∈c.outs.l,OutI 20000000000000 o):∀(m j fuel:Nat)(ok:Bool),j+m=c.outs.l.length->m<fuel ->
  Mm N K (c.outs.l.flatMap OutD.av) c.outs.l.length b c.av fuel (c.outs.l.length:Int) (j:Int) ok=K (ok&&(c.outs.l.drop j).all (Yd c))
|0,j,fuel+1,ok,k,_=>by
  rw[Mm];unfold JH
  rw[Fk (by omega),cf,Bo (by omega),A55,A64]
|m+1,j,fuel+1,ok,k,n=>by
  rw[Mm];unfold JH
  have h:j<c.outs.l.length:=by omega
  have d:=hI _ (A5g h)
  rw[Er h,ct,Aa h,ct,Cd (e:=OutD.av) (sz:=4) (fun _=>rfl) h,ct,Bp (e:=OutD.av) (sz:=4) (fun _=>rfl) h,show((beq 0 0)&&((beq ((OutD.av c.outs.l[j]).length) 4)&&(beq 4 4)))=true from rfl,ct]
  show A5 1 ((c.outs.l[j]).lines.av 1 D5::_) _=_
  rw[A6,Bn]
  refine(Ab9 hN d.m.2 d.l (c.outs.l[j]).lines.l.length 0 N ok (by omega) (by have:=d.l;omega)).trans ?_
  rw[Q8 (by omega),A5k]
  refine(yU hN f hI m (j+1) fuel _ (by omega) (by omega)).trans ?_
  rw[Bm h,A5s]
  unfold Yd
  simp only[A6b]
def yV(hN:20000000000000<N)(d:c.ties.l.length<=1000)(hr:∀(ok:Bool)(fuel:Nat),1000<fuel->Mm N K (c.outs.l.flatMap OutD.av) c.outs.l.length b c.av fuel (c.outs.l.length:Int) 0 ok=K (ok&&c.outs.l.all (Yd c))):∀(m j fuel:Nat)(ok:Bool),j+m=c.ties.l.length->m<fuel ->
  Ok N K (c.ties.l.flatMap TieD.av) c.ties.l.length b c.av fuel (c.ties.l.length:Int) (j:Int) ok=K (ok&&((c.ties.l.drop j).all (fun t=>El t.bus c.buses.l.length)&&c.outs.l.all (Yd c)))
|0,j,fuel+1,ok,f,_=>by
  rw[Ok];unfold JI
  rw[Fk (by omega),cf,show c.ties.l.drop j=[]from Bo (by omega),A55,Ix,A52]
  exact hr ok N (by omega)
|m+1,j,fuel+1,ok,f,n=>by
  rw[Ok];unfold JI
  have h:j<c.ties.l.length:=by omega
  have k:=fun ok=>yV hN d hr m (j+1) fuel ok (by omega) (by omega)
  rw[Er h,ct,Aa h,ct,Cd (e:=TieD.av) (sz:=5) (fun _=>rfl) h,ct,Bp (e:=TieD.av) (sz:=5) (fun _=>rfl) h,show((beq 0 0)&&((beq ((TieD.av c.ties.l[j]).length) 5)&&(beq 5 5)))=true from rfl,ct,Q8 (by omega),Bm h,A5s]
  rw[show ∀ F:Int->O R,Ax .i64 (drop 1 (c.ties.l[j]).av) F=F (c.ties.l[j]).bus from fun _=>rfl,Ca,NT]
  refine(k _).trans ?_
  simp only[A6b]
def o7(hN:20000000000000<N)(d:c.stores.l.length<=1000)(hr:∀(ok:Bool)(fuel:Nat),1000<fuel->Ok N K (c.ties.l.flatMap TieD.av) c.ties.l.length b c.av fuel (c.ties.l.length:Int) 0 ok=K (ok&&(c.ties.l.all (fun t=>El t.bus c.buses.l.length)&&c.outs.l.all (Yd c)))):∀(m j fuel:Nat)(ok:Bool),j+m=c.stores.l.length->m<fuel ->
  Ol N K (c.stores.l.flatMap StoreD.av) c.stores.l.length b c.av fuel (c.stores.l.length:Int) (j:Int) ok=K (ok&&((c.stores.l.drop j).all (fun s=>El s.bus c.buses.l.length)&&(c.ties.l.all (fun t=>El t.bus c.buses.l.length)&&c.outs.l.all (Yd c))))
|0,j,fuel+1,ok,f,_=>by
  rw[Ol];unfold JJ
  rw[Fk (by omega),cf,show c.stores.l.drop j=[]from Bo (by omega),A55,Lm,A52]
  exact hr ok N (by omega)
|m+1,j,fuel+1,ok,f,n=>by
  rw[Ol];unfold JJ
  have h:j<c.stores.l.length:=by omega
  have k:=fun ok=>o7 hN d hr m (j+1) fuel ok (by omega) (by omega)
  rw[Er h,ct,Aa h,ct,Cd (e:=StoreD.av) (sz:=9) (fun _=>rfl) h,ct,Bp (e:=StoreD.av) (sz:=9) (fun _=>rfl) h,show((beq 0 0)&&((beq ((StoreD.av c.stores.l[j]).length) 9)&&(beq 9 9)))=true from rfl,ct,Q8 (by omega),Bm h,A5s]
  rw[show ∀ F:Int->O R,Ax .i64 (drop 1 (c.stores.l[j]).av) F=F (c.stores.l[j]).bus from fun _=>rfl,Ca,NT]
  refine(k _).trans ?_
  simp only[A6b]
def sk(hN:20000000000000<N)(k:c.units.l.length<=1000)(hr:∀(ok:Bool)(fuel:Nat),1000<fuel->Ol N K (c.stores.l.flatMap StoreD.av) c.stores.l.length b c.av fuel (c.stores.l.length:Int) 0 ok=K (ok&&(c.stores.l.all (fun s=>El s.bus c.buses.l.length)&&(c.ties.l.all (fun t=>El t.bus c.buses.l.length)&&c.outs.l.all (Yd c))))):∀(m j fuel:Nat)(ok:Bool),j+m=c.units.l.length->m<fuel ->
  Om N K (c.units.l.flatMap UnitD.av) c.units.l.length b c.av fuel (c.units.l.length:Int) (j:Int) ok=K (ok&&((c.units.l.drop j).all (fun u=>El u.bus c.buses.l.length&&El u.state 3)&&(c.stores.l.all (fun s=>El s.bus c.buses.l.length)&&(c.ties.l.all (fun t=>El t.bus c.buses.l.length)&&c.outs.l.all (Yd c)))))
|0,j,fuel+1,ok,n,_=>by
  rw[Om];unfold JK
  rw[Fk (by omega),cf,show c.units.l.drop j=[]from Bo (by omega),A55,Hl,A52]
  exact hr ok N (by omega)
| m+1,j,fuel+1,ok,n,q=>by
  rw[Om];unfold JK
  have h:j<c.units.l.length:=by omega
  have d:=fun ok=>sk hN k hr m (j+1) fuel ok (by omega) (by omega)
  rw[Er h,ct,Aa h,ct,Cd (e:=UnitD.av) (sz:=22) (fun _=>rfl) h,ct,Bp (e:=UnitD.av) (sz:=22) (fun _=>rfl) h,show((beq 0 0)&&((beq ((UnitD.av c.units.l[j]).length) 22)&&(beq 22 22)))=true from rfl,ct,Q8 (by omega),Bm h,A5s]
  have rs:∀ F:Int->O R,Ax .i64 (drop 19 (c.units.l[j]).av) F=F (c.units.l[j]).state:=fun _=>rfl
  rw[show ∀ F:Int->O R,Ax .i64 (drop 1 (c.units.l[j]).av) F=F (c.units.l[j]).bus from fun _=>rfl,Ca,NT]
  cases hq:(ok&&El (c.units.l[j]).bus c.buses.l.length)with
  |false =>
   refine(d false).trans ?_
   rw[<-A6b ok,<-A6b ok,<-A6b ok,hq];rfl
  | true =>
   rw[show((true:Bool)==true)=true from rfl,ct,rs]
   have key:∀ x:Bool,El (c.units.l[j]).state 3=x->K (x&&((c.units.l.drop (j+1)).all (fun u=>El u.bus c.buses.l.length&&El u.state 3)&&(c.stores.l.all (fun s=>El s.bus c.buses.l.length)&&(c.ties.l.all (fun t=>El t.bus c.buses.l.length)&&c.outs.l.all (Yd c)))))=K (ok&&((El (c.units.l[j]).bus c.buses.l.length&&El (c.units.l[j]).state 3&&(c.units.l.drop (j+1)).all fun u=>El u.bus c.buses.l.length&&El u.state 3)&&(c.stores.l.all (fun s=>El s.bus c.buses.l.length)&&(c.ties.l.all (fun t=>El t.bus c.buses.l.length)&&c.outs.l.all (Yd c))))):=fun x hx=>by
    simp only[A6b]
    rw[<-A6b ok,hq,hx];rfl
   by_cases f:(c.units.l[j]).state=0
   ·rw[show((c.units.l[j]).state==0)=true by simp[f]]
    exact(d true).trans (key true (by rw[f];rfl))
   ·rw[show((c.units.l[j]).state==0)=false by simp[f],show((false:Bool)==false)=true from rfl,ct,rs]
    by_cases s1:(c.units.l[j]).state=1
    ·rw[show((c.units.l[j]).state==1)=true by simp[s1]]
     exact(d true).trans (key true (by rw[s1];rfl))
    ·rw[show((c.units.l[j]).state==1)=false by simp[s1]]
     show Ax .i64 (drop 19 (c.units.l[j]).av) _=_
     rw[rs]
     refine(d ((c.units.l[j]).state==2)).trans (key _ ?_)
     unfold El
     by_cases s2:(c.units.l[j]).state=2
     ·rw[s2];rfl
     ·rw[show((c.units.l[j]).state==2)=false by simp[s2]]
      by_cases g:0<=(c.units.l[j]).state
      ·rw[decide_eq_true g,decide_eq_false (show ¬ (c.units.l[j]).state<((3:Nat):Int) by omega)];rfl
      ·rw[decide_eq_false g];rfl
def sr(hN:20000000000000<N)(d:c.lines.l.length<=1000)(hr:∀(ok:Bool)(fuel:Nat),1000<fuel->Om N K (c.units.l.flatMap UnitD.av) c.units.l.length b c.av fuel (c.units.l.length:Int) 0 ok=K (ok&&(c.units.l.all (fun u=>El u.bus c.buses.l.length&&El u.state 3)&&(c.stores.l.all (fun s=>El s.bus c.buses.l.length)&&(c.ties.l.all (fun t=>El t.bus c.buses.l.length)&&c.outs.l.all (Yd c)))))):∀(m j fuel:Nat)(ok:Bool),j+m=c.lines.l.length->m<fuel ->
  Tx N K (c.lines.l.flatMap LineD.av) c.lines.l.length b c.av fuel (c.lines.l.length:Int) (j:Int) ok=K (ok&&((c.lines.l.drop j).all (fun l=>El l.fr c.buses.l.length&&El l.tl c.buses.l.length)&&(c.units.l.all (fun u=>El u.bus c.buses.l.length&&El u.state 3)&&(c.stores.l.all (fun s=>El s.bus c.buses.l.length)&&(c.ties.l.all (fun t=>El t.bus c.buses.l.length)&&c.outs.l.all (Yd c))))))
|0,j,fuel+1,ok,f,_=>by
  rw[Tx];unfold JL
  rw[Fk (by omega),cf,show c.lines.l.drop j=[]from Bo (by omega),A55,F2,A52]
  exact hr ok N (by omega)
|m+1,j,fuel+1,ok,f,n=>by
  rw[Tx];unfold JL
  have h:j<c.lines.l.length:=by omega
  have k:=fun ok=>sr hN d hr m (j+1) fuel ok (by omega) (by omega)
  rw[Er h,ct,Aa h,ct,Cd (e:=LineD.av) (sz:=12) (fun _=>rfl) h,ct,Bp (e:=LineD.av) (sz:=12) (fun _=>rfl) h,show((beq 0 0)&&((beq ((LineD.av c.lines.l[j]).length) 12)&&(beq 12 12)))=true from rfl,ct,Q8 (by omega),Bm h,A5s]
  rw[show ∀ F:Int->O R,Ax .i64 (drop 1 (c.lines.l[j]).av) F=F (c.lines.l[j]).fr from fun _=>rfl,Ca,NT,show ∀ F:Int->O R,Ax .i64 (drop 2 (c.lines.l[j]).av) F=F (c.lines.l[j]).tl from fun _=>rfl,Ca,NT]
  refine(k _).trans ?_
  simp only[A6b]
def Anz(hN:20000000000000<N)(d:F4 c=true)(hI:∀ o∈c.outs.l,OutI 20000000000000 o):fB N c.av b K=K (Kf c):=by
 unfold F4 at d
 simp only[A47,decide_eq_true_eq]at d
 obtain⟨c1,n,q,v,x,y⟩:=d
 rw[oT];unfold gW
 rw[Ef]
 have f:∀(ok:Bool)(fuel:Nat),1000<fuel->Mm N K (c.outs.l.flatMap OutD.av) c.outs.l.length b c.av fuel (c.outs.l.length:Int) 0 ok=K (ok&&c.outs.l.all (Yd c)):=fun ok fuel e=>yU hN (by omega) hI c.outs.l.length 0 fuel ok (by omega) (by omega)
 have j:∀(ok:Bool)(fuel:Nat),1000<fuel->Ok N K (c.ties.l.flatMap TieD.av) c.ties.l.length b c.av fuel (c.ties.l.length:Int) 0 ok=K (ok&&(c.ties.l.all (fun t=>El t.bus c.buses.l.length)&&c.outs.l.all (Yd c))):=fun ok fuel e=>yV hN (by omega) f c.ties.l.length 0 fuel ok (by omega) (by omega)
 have k:∀(ok:Bool)(fuel:Nat),1000<fuel->Ol N K (c.stores.l.flatMap StoreD.av) c.stores.l.length b c.av fuel (c.stores.l.length:Int) 0 ok=K (ok&&(c.stores.l.all (fun s=>El s.bus c.buses.l.length)&&(c.ties.l.all (fun t=>El t.bus c.buses.l.length)&&c.outs.l.all (Yd c)))):=fun ok fuel e=>o7 hN (by omega) j c.stores.l.length 0 fuel ok (by omega) (by omega)
 have m:∀(ok:Bool)(fuel:Nat),1000<fuel->Om N K (c.units.l.flatMap UnitD.av) c.units.l.length b c.av fuel (c.units.l.length:Int) 0 ok=K (ok&&(c.units.l.all (fun u=>El u.bus c.buses.l.length&&El u.state 3)&&(c.stores.l.all (fun s=>El s.bus c.buses.l.length)&&(c.ties.l.all (fun t=>El t.bus c.buses.l.length)&&c.outs.l.all (Yd c))))):=fun ok fuel e=>sk hN (by omega) k c.units.l.length 0 fuel ok (by omega) (by omega)
 exact sr hN (by omega) m c.lines.l.length 0 N true (by omega) (by omega)
end
end Gx.Ct
namespace Gx.Cf
open Go Go.Proofs
section
variable{R:Type}
def RX{p:Mu}{f:Int->O R}:Ax .i64 (drop 3 (Ea p)) f=f (Ky p):=by rcases p with _|⟨⟨a,b,d⟩,e,j⟩<;>simp[Ea,At7,C1,Ky]
def Ri{N:Nat}{i:Int}{u:UnitD}{o:Bool}{p:Mu}{K:LA->O R}(hs:u.segs.l.length<4611686018427387904):∀(m j fuel:Nat)(a:Int),j+m=u.segs.l.length->m<fuel ->
  D6 N K i (Ea p) o u.av fuel a (j:Int)=K (Ea (nd p (kc a (u.segs.l.drop j)==wrap .i64 (u.max - u.min)) (3,i,4) e4))
| 0,j,fuel+1,a,f,_=>by
  rw[D6];unfold Ig
  simp only[dN,Ayr,Ays,RX,Af (show(4:Int)≠0 by decide)]
  rw[Fk (by omega),Va (l:=u.segs.l) (by omega),kc,VQ]
  rcases p with _|⟨x,e,d⟩
  ·simp[Ky]
  ·have:(e != 0)=true:=by simpa using d
   simp[Ky,this,nd]
| m+1,j,fuel+1,a,f,q=>by
  rw[D6];unfold Ig
  have h:j<u.segs.l.length:=by omega
  simp only[dN,Ayr,Ays,RX,Af (show(4:Int)≠0 by decide),Arq h,Aa h]
  rw[Er h,G9 (by omega),Ri hs m (j+1) fuel _ (by omega) (by omega),N6 h,kc,VQ]
  rcases p with _|⟨x,e,d⟩
  ·simp[Ky]
  ·have k:(e != 0)=true:=by simpa using d
   have n:(e==0)=false:=by simpa using d
   simp[Ky,k,n,nd]
def AN{N:Nat}{i:Int}{u:UnitD}{o:Bool}{K:LA->O R}(hs:Xc u.segs.l.length N):∀(m j fuel:Nat)(p:Mu),j+1+m=u.segs.l.length->m<fuel ->
  Da N K i o u.av fuel ((j+1:Nat):Int) (Ea p)=K (Ea (nd (nd p (ke (u.segs.l.drop j)) (3,i,4) Azo) (kc 0 u.segs.l==wrap .i64 (u.max - u.min)) (3,i,4) e4))
|0,j,fuel+1,p,d,_=>by
  rw[Da];unfold Fj
  rw[dN,Fk (by omega),cf,N6 (l:=u.segs.l) (j:=j) (by omega),Va (l:=u.segs.l) (j:=j+1) (by omega),xG,VQ]
  have:=Ri (R:=R) (N:=N) (i:=i) (u:=u) (o:=o) (p:=p) (K:=K) hs.2 u.segs.l.length 0 N 0 (by omega) hs.1
  simpa using this
|m+1,j,fuel+1,p,d,f=>by
  rw[Da];unfold Fj
  have h:j+1<u.segs.l.length:=by omega
  have h':j<u.segs.l.length:=by omega
  have e:=hs.2
  simp only[dN]
  rw[Er h,ct,Aa h,ct,Ab1 h,wZ (by omega),Aa h',ct,Ab1 h',G9 (by omega),Af (by decide),AN hs m (j+1) fuel _ (by omega) (by omega),N6 h',N6 h,WU,Aid]
def AO{N:Nat}{i:Int}{u:UnitD}{o:Bool}{K:LA->O R}(hN:8<=N)(hs:Xc u.segs.l.length N):∀(m j fuel:Nat)(p:Mu),j+m=u.segs.l.length->m<fuel ->
  Db N K i (u.segs.l.flatMap SegD.av) u.segs.l.length o u.av fuel (u.segs.l.length:Int) (j:Int) (Ea p) =
   K (Ea (nd (nd (nd p ((u.segs.l.drop j).all nA) (3,i,4) e3) (ke u.segs.l) (3,i,4) Azo) (kc 0 u.segs.l==wrap .i64 (u.max - u.min)) (3,i,4) e4))
| 0,j,fuel+1,p,e,_=>by
  rw[Db];unfold Ih
  rw[Fk (by omega),cf,Va (l:=u.segs.l) (by omega),A55,VQ]
  rcases d:u.segs.l with _|⟨b,r⟩
  ·rw[Aiz,VQ]
   have l2:=Ri (R:=R) (N:=N) (i:=i) (u:=u) (o:=o) (p:=p) (K:=K) hs.2 u.segs.l.length 0 N 0 (by omega) hs.1
   rcases N with _|N
   ·omega
   ·rw[Da];unfold Fj
    rw[dN,d]
    simp only[A43,A7s]
    rw[show decide ((1:Int)<0)=false by decide,cf]
    rw[d]at l2
    simpa using l2
  ·have:=AN (R:=R) (N:=N) (i:=i) (u:=u) (o:=o) (K:=K) hs r.length 0 N p (by rw[d];simp;omega) (by have:=hs.1;rw[d]at this;simp at this;omega)
   rw[d]at this
   simpa using this
|m+1,j,fuel+1,p,e,q=>by
  rw[Db];unfold Ih
  have h:j<u.segs.l.length:=by omega
  have f:=hs.2
  rw[Er h,ct,Aa h,ct,A45,Bt LQ _ _ h,N6 h,A5s,G9 (by omega)]
  have k:ble 2 (List.length (u.segs.l[j].av++List.flatMap SegD.av (drop (j+1) u.segs.l)))=true:=by rw[G5,A41,LQ];simp
  have n:take 2 (u.segs.l[j].av++List.flatMap SegD.av (drop (j+1) u.segs.l))=u.segs.l[j].av:=A7e (LQ _)
  rw[k,ct,n,LQ]
  simp only[SegD.av,setCells,Gh,A50,A5h,A95,A6e,A5k,A7t,A42,A43,C1,G5,Aea,A0,Nat.reduceAdd,decide_true,A64,A7x,A7a,cond_true,A5j,A49,Fn hN,Af (show(3:Int)≠0 by decide),AO hN hs m (j+1) fuel _ (show j+1+m=_ by omega) (show m<fuel by omega)]
  unfold nA
  rw[Aid,Aid]
  cases G6 1 1048576 u.segs.l[j].width<;>rfl
def OB{N:Nat}{p:Mu}{j:Nat}{u:UnitD}{o:Bool}{K:LA->O R}(hN:8<=N)(hs:Xc u.segs.l.length N):
  F1 N u.av o (j:Int) (Ea p) K=K (Ea (Aun u j p)):=by
 rw[V1];unfold Ku
 simp only[dN,Af (show(8:Int)≠0 by decide)]
 have:=AO (R:=R) (N:=N) (i:=j) (u:=u) (o:=o) (K:=K) hN hs u.segs.l.length 0 N (nd p (decide ((u.segs.l.length:Int)<=8)) (3,j,4) e8) (by omega) hs.1
 simpa[Aun]using this
def FN{N:Nat}{i:Int}{l:List MoveD}{o:Bool}{K:LA->O R}(hN:8<=N)(hs:l.length<4611686018427387904):∀(m j fuel:Nat)(p:Mu),j+m=l.length->m<fuel ->
  Fc N K i (l.flatMap MoveD.av) l.length o fuel (l.length:Int) (j:Int) (Ea p)=K (Ea (nd p ((l.drop j).all Ai1) (6,i,3) e3))
|0,j,fuel+1,p,d,_=>by
  rw[Fc];unfold Jk
  rw[Fk (by omega),cf,Va (by omega),A55,VQ]
|m+1,j,fuel+1,p,d,k=>by
  rw[Fc];unfold Jk
  have h:j<l.length:=by omega
  rw[Er h,ct,Aa h,ct,A45,Bt Uk _ _ h,N6 h,A5s,G9 (by omega)]
  have e:ble 3 (List.length (l[j].av++List.flatMap MoveD.av (drop (j+1) l)))=true:=by rw[G5,A41,Uk];simp
  have f:take 3 (l[j].av++List.flatMap MoveD.av (drop (j+1) l))=l[j].av:=A7e (Uk _)
  rw[e,ct,f,Uk]
  simp only[MoveD.av,setCells,Gh,A50,A5h,A95,A6e,A5k,A7t,A42,A43,C1,G5,Aea,A0,Nat.reduceAdd,decide_true,A64,A7x,A7a,cond_true,A5j,A49,tq hN,Af (show(3:Int)≠0 by decide),FN hN hs m (j+1) fuel _ (show j+1+m=_ by omega) (show m<fuel by omega)]
  rw[Aid];rfl
def FO{N:Nat}{c:CaseD}{i:Int}{u:OutD}{o:Bool}{p:Mu}{K:LA->O R}(hN:8<=N)(d:c.units.l.length<=1000000)(hs:Xc u.moves.l.length N)(f:u.moves.l.length<8796093022208):∀(m j fuel:Nat),j+m=u.moves.l.length->m<fuel ->
  Fd N K i (u.moves.l.flatMap MoveD.av) u.moves.l.length o (Ea p) c.av u.av fuel j (u.moves.l.length:Int) (j:Int) (A4 ((u.moves.l.take j).map (·.unit))) =
   K (Ea (nd (nd (nd p (u.moves.l.all (Axa c)) (6,i,3) Arp) (zK (u.moves.l.map (·.unit))) (6,i,3) Azo) (u.moves.l.all Ai1) (6,i,3) e3))
| 0,j,fuel+1,k,_=>by
  rw[Fd];unfold Jl
  have n:j=u.moves.l.length:=by omega
  rw[Fk (by omega),cf,A5m,A44 (by simp[Lj];omega),A44 (show u.moves.l.length<=j by omega)]
  rw[F2,Jy (by simp;omega) (by simpa using hs),Af (by decide),GB (by simp;omega) (by simpa using hs),Af (by decide),Apr]
  have:=FN (R:=R) (N:=N) (i:=i) (l:=u.moves.l) (o:=o) (K:=K) hN hs.2 u.moves.l.length 0 N (nd (nd p (u.moves.l.all (Axa c)) (6,i,3) Arp) (zK (u.moves.l.map (·.unit))) (6,i,3) Azo) (by omega) hs.1
  have e:(u.moves.l.map (·.unit)).all (G6 0 (wrap .i64 ((c.units.l.length:Int) - 1)))=u.moves.l.all (Axa c):=by
   rw[List.all_map];congr 1;funext m;exact Amr _ _ (by omega)
  rw[e]
  simpa using this
| m+1,j,fuel+1,k,x=>by
  rw[Fd];unfold Jl
  have h:j<u.moves.l.length:=by omega
  have q:ble 3 (List.length (u.moves.l[j].av++List.flatMap MoveD.av (drop (j+1) u.moves.l)))=true:=by rw[G5,A41,Uk];simp
  have s:take 3 (u.moves.l[j].av++List.flatMap MoveD.av (drop (j+1) u.moves.l))=u.moves.l[j].av:=A7e (Uk _)
  have t:(decide (j<=140737488355327)&&decide ((j+1)*8<=140737488355328))=true:=by simp;omega
  have v:take (j*1) (A4 ((u.moves.l.take j).map (·.unit)))++[.int .i64 u.moves.l[j].unit]=A4 ((u.moves.l.take (j+1)).map (·.unit)):=by
   rw[A44 (by simp[Lj];omega),A5z h,A6t,<-cN];rfl
  rw[Er h,ct,Aa h,ct,A45,Bt Uk _ _ h,G9 (by omega),q,ct,s,Uk]
  simp only[MoveD.av,setCells,Gh,A50,A5h,A95,A6e,A7t,A42,A43,C1,G5,Aea,A0,Nat.reduceAdd,Nat.reduceLeDiff,decide_true,A64,A7x,A7a,cond_true,A5j,A49,t,v,FO hN d hs f m (j+1) fuel (show j+1+m=_ by omega) (show m<fuel by omega)]
def fF{N:Nat}{c:CaseD}{p:Mu}{o:Bool}{j:Nat}{K:LA->O R}(hs:Small c N)(h:j<c.ties.l.length):
  Wm N c.av o (j:Int) (Ea p) K=K (Ea (Aw9 c j c.ties.l[j] p)):=by
 have hN:=hs.n64
 have hN8:8<=N:=by omega
 have d:=hs.tie
 have t:=hs.top
 have f:c.ties.l[j]∈c.ties.l:=A5g h
 have u:=hs.tim _ f;have m:=hs.tex _ f;have q:=hs.tpr _ f
 have e:=@Fe R N c (c.ties.l.map (·.name)) o (k:=5) (n:=j) (hN:=hN) (hL:=fun K=>LR hs) (hn:=by simpa using h) (hs:=⟨by have:=d.1;omega,by have:=d.2;omega⟩)
 have s:(c.ties.l.map (·.name))[j]'(by simpa using h)=c.ties.l[j].name:=by simp
 rw[s]at e
 rw[G_];unfold BA 
 rw[Lm,Aa h,ct,A45,Bt Hf _ _ h]
 generalize c.ties.l[j]=b at *
 have v:ble 5 (List.length (b.av++List.flatMap TieD.av (drop (j+1) c.ties.l)))=true:=by rw[G5,A41,Hf];simp
 have x:take 5 (b.av++List.flatMap TieD.av (drop (j+1) c.ties.l))=b.av:=A7e (Hf b)
 rw[v,ct,x,Hf]
 simp only[Cs,e,TieD.av,A6e,A5k,C1,A6,Bn,G5,Aea,decide_true,A64,cond_true]
 simp only[Lo hN8 (show c.buses.l.length<4611686018427387904 by omega),F3 rfl u,F3 rfl m,F3 rfl q]
 rfl
def YK{N:Nat}{c:CaseD}{p:Mu}{o:Bool}{j:Nat}{K:LA->O R}(hs:Small c N)(h:j<c.stores.l.length):
  Rr N c.av o (j:Int) (Ea p) K=K (Ea (xF c j c.stores.l[j] p)):=by
 have hN:=hs.n64
 have hN8:8<=N:=by omega
 have d:=hs.sto
 have m:=hs.top
 have t:c.stores.l[j]∈c.stores.l:=A5g h
 skip
 have e:=@Fe R N c (c.stores.l.map (·.name)) o (k:=4) (n:=j) (hN:=hN) (hL:=fun K=>Yx hs) (hn:=by simpa using h) (hs:=⟨by have:=d.1;omega,by have:=d.2;omega⟩)
 have f:(c.stores.l.map (·.name))[j]'(by simpa using h)=c.stores.l[j].name:=by simp
 rw[f]at e
 rw[Z6];unfold Xa 
 rw[Hl,Aa h,ct,A45,Bt I8 _ _ h]
 generalize c.stores.l[j]=b at *
 have q:ble 9 (List.length (b.av++List.flatMap StoreD.av (drop (j+1) c.stores.l)))=true:=by rw[G5,A41,I8];simp
 have s:take 9 (b.av++List.flatMap StoreD.av (drop (j+1) c.stores.l))=b.av:=A7e (I8 b)
 rw[q,ct,s,I8]
 simp only[Cs,e,StoreD.av,A6e,A5k,A8d,A7t,A42,A43,C1,G5,Aea,A0,Nat.reduceAdd,decide_true,A64,A7x,cond_true,A5j,A49]
 simp only[Lo hN8 (show c.buses.l.length<4611686018427387904 by omega),Fn hN8,Af (show(3:Int)≠0 by decide),OP hN8]
 unfold xF;cases O1 b.eff<;>cases decide (b.eff.num>0)<;>rfl
def bF{N:Nat}{c:CaseD}{p:Mu}{o:Bool}{j:Nat}{K:LA->O R}(hs:Small c N)(h:j<c.lines.l.length):
  N3 N c.av o (j:Int) (Ea p) K=K (Ea (Ab0 c j c.lines.l[j] p)):=by
 have hN:=hs.n64
 have hN8:8<=N:=by omega
 have d:=hs.lin
 have m:=hs.top
 have q:c.lines.l[j]∈c.lines.l:=A5g h
 have s:=hs.law _ q
 have e:=@Fe R N c (c.lines.l.map (·.name)) o (k:=2) (n:=j) (hN:=hN) (hL:=fun K=>EO hs) (hn:=by simpa using h) (hs:=⟨by have:=d.1;omega,by have:=d.2;omega⟩)
 have f:(c.lines.l.map (·.name))[j]'(by simpa using h)=c.lines.l[j].name:=by simp
 rw[f]at e
 rw[EF];unfold Rp Nj S4 Vg Sz Vf
 rw[Ef,Aa h,ct,A45,Bt D9 _ _ h]
 generalize c.lines.l[j]=b at *
 have t:ble 12 (List.length (b.av++List.flatMap LineD.av (drop (j+1) c.lines.l)))=true:=by rw[G5,A41,D9];simp
 have u:take 12 (b.av++List.flatMap LineD.av (drop (j+1) c.lines.l))=b.av:=A7e (D9 b)
 rw[t,ct,u,D9]
 simp only[Cs,e,LineD.av,A6e,A5k,A8d,A7t,A42,A43,C1,A6,Bn,G5,Aea,A0,Nat.reduceAdd,Nat.reduceLeDiff,decide_true,A64,A7x,cond_true,A5j]
 simp only[Lo hN8 (show c.buses.l.length<4611686018427387904 by omega),Fn hN8,Af (show(1:Int)≠0 by decide),Af (show(3:Int)≠0 by decide),OP hN8,Z8 rfl s]
 unfold Ab0;rw[show(b.fr != b.tl)=(b.tl != b.fr) by simp[bne,BEq.comm (a:=b.fr)]];cases O1 b.re<;>cases O1 b.smin<;>cases O1 b.smax<;>rfl
def Apu(c:CaseD)(j:Nat)(u:UnitD)(p:Mu):Mu :=
 let p:=mz ((c.units.l.map (·.name)).take j) 3 j u.name p
 let p:=nd p (sE c u.bus) (3,j,1) Arp
 let p:=nd p (G6 0 1048576 u.min) (3,j,2) e3
 let p:=nd p (G6 u.min 1048576 u.max) (3,j,3) e3
 let p:=Aun u j p
 let p:=nd p (G6 0 1048576 u.noLoad) (3,j,5) e3
 let p:=nd p (G6 0 1048576 u.rampUp) (3,j,6) e3
 let p:=nd p (G6 0 1048576 u.rampDown) (3,j,7) e3
 let p:=nd p (G6 u.min u.max u.startRamp) (3,j,8) e3
 let p:=nd p (G6 u.min u.max u.stopRamp) (3,j,9) e3
 let p:=nd p (G6 0 24 u.upTime) (3,j,10) e3
 nd p (G6 0 24 u.downTime) (3,j,11) e3
def Auw(c:CaseD)(j:Nat)(u:UnitD)(p:Mu):Mu :=
 let p:=nd p (G6 0 24 u.startTime) (3,j,12) e3
 let p:=nd p (G6 0 1048576 u.hotCost) (3,j,13) e3
 let p:=nd p (G6 0 1048576 u.coldCost) (3,j,14) e3
 let p:=nd p (G6 0 24 u.hotHours) (3,j,15) e3
 let p:=nd p (G6 0 1048576 u.reserve) (3,j,16) e3
 let p:=nd p (G6 0 1048576 u.reservePrice) (3,j,17) e3
 let p:=w_ c.hours u.away.l (3,j,18) p
 let p:=nd p (G6 0 2 u.state) (3,j,19) Arp
 let p:=nd p (u.state != 1||decide (u.startTime>0)) (3,j,19) A1q
 let p:=nd p (G6 1 48 u.hours) (3,j,20) e3
 let p:=nd p (u.state != 1||decide (u.hours<=u.startTime)) (3,j,20) e3
 cond (u.state==2) (nd p (G6 u.min u.max u.output) (3,j,21) e3) (nd p (u.output==0) (3,j,21) e3)
def A06(n:Int):G6 0 0 n=(n==0):=by
 unfold G6
 by_cases h:n=0
 ·simp[h]
 ·have:(n==0)=false:=by simpa using h
  rw[this];simp;omega
def Axg{c:CaseD}{j:Nat}{u:UnitD}{p:Mu}:Auw c j u (Apu c j u p)=Ai0 c j u p:=by
 show _=(let p:=nd (Apu c j u p) (G6 0 24 u.startTime) (3,j,12) e3
  let p:=nd p (G6 0 1048576 u.hotCost) (3,j,13) e3
  let p:=nd p (G6 0 1048576 u.coldCost) (3,j,14) e3
  let p:=nd p (G6 0 24 u.hotHours) (3,j,15) e3
  let p:=nd p (G6 0 1048576 u.reserve) (3,j,16) e3
  let p:=nd p (G6 0 1048576 u.reservePrice) (3,j,17) e3
  let p:=w_ c.hours u.away.l (3,j,18) p
  let p:=nd p (G6 0 2 u.state) (3,j,19) Arp
  let p:=nd p (u.state != 1||u.startTime != 0) (3,j,19) A1q
  let p:=nd p (G6 1 48 u.hours) (3,j,20) e3
  let p:=nd p (u.state != 1||decide (u.hours<=u.startTime)) (3,j,20) e3
  cond (u.state==2) (nd p (G6 u.min u.max u.output) (3,j,21) e3) (nd p (G6 0 0 u.output) (3,j,21) e3))
 unfold Auw
 rw[A06]
 cases hq:nd (Apu c j u p) (G6 0 24 u.startTime) (3,(j:Int),12) e3 with
|some x=>simp only[Aw6,w_]
| none =>
  have d:G6 0 24 u.startTime=true:=by
   cases e:G6 0 24 u.startTime with
   |true=>rfl
   |false =>
    rw[e]at hq
    cases f:Apu c j u p<;>rw[f]at hq<;>simp[nd]at hq
  have:decide (u.startTime>0)=(u.startTime != 0):=by
   unfold G6 at d
   simp at d
   by_cases h:u.startTime=0
   ·simp[h]
   ·have k:(u.startTime != 0)=true:=by simpa using h
    rw[k];simp;omega
  rw[this]
def bG{N:Nat}{c:CaseD}{p:Mu}{o:Bool}{j:Nat}{K:LA->O R}(hs:Small c N)(h:j<c.units.l.length):
  N5 N c.av o (j:Int) (Ea p) K=K (Ea (Ai0 c j c.units.l[j] p)):=by
 have hN:=hs.n64
 have hN8:8<=N:=by omega
 have d:=hs.uni
 have s:=hs.top
 have t:c.units.l[j]∈c.units.l:=A5g h
 have u:=hs.seg _ t;have f:=hs.uaw _ t
 have e:=@Fe R N c (c.units.l.map (·.name)) o (k:=3) (n:=j) (hN:=hN) (hL:=fun K=>EP hs) (hn:=by simpa using h) (hs:=⟨by have:=d.1;omega,by have:=d.2;omega⟩)
 have m:(c.units.l.map (·.name))[j]'(by simpa using h)=c.units.l[j].name:=by simp
 rw[m]at e
 rw[EG];unfold Rq Nk S5 Vi
 rw[F2,Aa h,ct,A45,Bt Gw _ _ h]
 generalize c.units.l[j]=b at *
 have v:ble 22 (List.length (b.av++List.flatMap UnitD.av (drop (j+1) c.units.l)))=true:=by rw[G5,A41,Gw];simp
 have x:take 22 (b.av++List.flatMap UnitD.av (drop (j+1) c.units.l))=b.av:=A7e (Gw b)
 rw[v,ct,x,Gw]
 have q:∀(p:Mu)(K:LA->O R),F1 N [.str b.name,.int .i64 b.bus,.int .i64 b.min,.int .i64 b.max,b.segs.av 2 SegD.av,.int .i64 b.noLoad,.int .i64 b.rampUp,.int .i64 b.rampDown,.int .i64 b.startRamp,.int .i64 b.stopRamp,.int .i64 b.upTime,.int .i64 b.downTime,.int .i64 b.startTime,.int .i64 b.hotCost,.int .i64 b.coldCost,.int .i64 b.hotHours,.int .i64 b.reserve,.int .i64 b.reservePrice,b.away.av 1 D5,.int .i64 b.state,.int .i64 b.hours,.int .i64 b.output] o j (Ea p) K=K (Ea (Aun b j p)):=fun p K=>OB hN8 u
 simp only[Cs,e,UnitD.av,A6e,A5k,A8d,A7t,C1,A6,Bn,G5,Aea,decide_true,A64,cond_true,cond_false,A49]
 simp only[Lo hN8 (show c.buses.l.length<4611686018427387904 by omega),Fn hN8,Af (show(3:Int)≠0 by decide),Af (show(12:Int)≠0 by decide),Af (show(16:Int)≠0 by decide),q,Z8 rfl f]
 rw[<-Axg]
 unfold Auw
 by_cases s1:b.state=1
 ·simp[s1];rfl
 ·have a4:(b.state != 1)=true:=by simpa using s1
  rw[a4]
  cases b.state==2<;>rfl
def UO{N:Nat}{c:CaseD}{p:Mu}{o:Bool}{j:Nat}{K:LA->O R}(hs:Small c N)(h:j<c.outs.l.length):
  Kc N c.av o (j:Int) (Ea p) K=K (Ea (Arr c j c.outs.l[j] p)):=by
 have hN:=hs.n64
 have hN8:8<=N:=by omega
 have d:=hs.out
 have e:=hs.top
 have q:c.outs.l[j]∈c.outs.l:=A5g h
 have v:=hs.oli _ q;have f:=hs.omo _ q;have s:=hs.omb _ q
 have m:=@Fe R N c (c.outs.l.map (·.name)) o (k:=6) (n:=j) (hN:=hN) (hL:=fun K=>LU hs) (hn:=by simpa using h) (hs:=⟨by have:=d.1;omega,by have:=d.2;omega⟩)
 have t:(c.outs.l.map (·.name))[j]'(by simpa using h)=c.outs.l[j].name:=by simp
 rw[t]at m
 rw[Yp];unfold Nl Kv Oy
 rw[Ix,Aa h,ct,A45,Bt Ip _ _ h]
 generalize c.outs.l[j]=b at *
 have x:ble 4 (List.length (b.av++List.flatMap OutD.av (drop (j+1) c.outs.l)))=true:=by rw[G5,A41,Ip];simp
 have y:take 4 (b.av++List.flatMap OutD.av (drop (j+1) c.outs.l))=b.av:=A7e (Ip b)
 rw[x,ct,y,Ip]
 have l1:=fun p=>FO (R:=R) (N:=N) (c:=c) (i:=j) (u:=b) (o:=o) (p:=p) (K:=K) hN8 e.2.2.1 f s b.moves.l.length 0 N (by omega) f.1
 simp only[A7t,A5v,A7s,A4]at l1
 simp only[Aea,decide_true,A64,cond_true,Fl,Cs,m,Axb,Apr,Azp,Fn hN8,Jy rfl v,GB rfl v,Ef,Af (show(4:Int)≠0 by decide),Af (show(8:Int)≠0 by decide),Af (show(11:Int)≠0 by decide),Af (show(12:Int)≠0 by decide),Af (show(16:Int)≠0 by decide),l1]
 have a1:G6 1 2 (b.lines.l.length:Int)=((b.lines.l.length:Int)==1||(b.lines.l.length:Int)==2):=by
  unfold G6
  by_cases x1:b.lines.l.length=1
  ·simp[x1]
  ·by_cases x2:b.lines.l.length=2
   ·simp[x2]
   ·have y1:((b.lines.l.length:Int)==1)=false:=by simp;omega
    have y2:((b.lines.l.length:Int)==2)=false:=by simp;omega
    rw[y1,y2];simp;omega
 have a2:b.lines.l.all (G6 0 (wrap .i64 ((c.lines.l.length:Int) - 1)))=b.lines.l.all fun n=>decide (0<=n)&&decide (n<(c.lines.l.length:Int)):=by
  congr 1;funext n;exact Amr _ _ (by omega)
 rw[a1,a2]
 unfold Arr Am5
 cases b.corr
 ·simp
 ·simp
end
end Gx.Cf
namespace Gx.Cf
inductive Conn(es:List (Nat×Nat)):Nat->Nat->Prop
|refl (a:Nat):Conn es a a
|fwd {u v b:Nat}:(u,v)∈es->Conn es v b->Conn es u b
|bwd {u v b:Nat}:(u,v)∈es->Conn es u b->Conn es v b
def Conn.trans{es:List (Nat×Nat)}{a b c:Nat}(j:Conn es a b)(d:Conn es b c):Conn es a c:=by
 induction j with
|refl=>exact d
|fwd e _ f=>exact .fwd e (f d)
|bwd e _ f=>exact .bwd e (f d)
def Conn.symm{es:List (Nat×Nat)}{a b:Nat}(h:Conn es a b):Conn es b a:=by
 induction h with
|refl=>exact .refl _
|fwd d _ e=>exact e.trans (.bwd d (.refl _))
|bwd d _ e=>exact e.trans (.fwd d (.refl _))
def Conn.mono{es fs:List (Nat×Nat)}(hs:∀ e∈es,e∈fs){a b:Nat}(h:Conn es a b):Conn fs a b:=by
 induction h with
|refl=>exact .refl _
|fwd d _ f=>exact .fwd (hs _ d) f
|bwd d _ f=>exact .bwd (hs _ d) f
def su(es:List (Nat×Nat))(b:Nat):Prop:=∀ a,a<b->¬ Conn es a b
open Classical in
noncomputable def FP(n:Nat)(es:List (Nat×Nat)):Nat:=((List.range n).filter fun b=>decide (su es b)).length
def An0{n:Nat}{es fs:List (Nat×Nat)}(h:∀ e∈es,e∈fs):FP n fs<=FP n es:=by
 unfold FP
 have:∀(l:List Nat),(l.filter fun b=>@decide (su fs b) (Classical.propDecidable _)).length<=(l.filter fun b=>@decide (su es b) (Classical.propDecidable _)).length:=by
  intro l
  induction l with
  |nil=>simp
  | cons a r d =>
   rw[A73,A73]
   by_cases x:su fs a
   ·have:su es a:=fun b f j=>x b f (j.mono h)
    simp[x,this,d]
   ·by_cases y:su es a<;>simp[x,y]<;>omega
 exact this _
def Wh(n:Nat):List Int:=(List.range n).map fun b:Nat=>(b:Int)
def Aca{n a:Nat}(h:a<n):(Wh n).getD a 0=(a:Int):=by rw[A5f,Wh,A7c,List.getElem?_range h];rfl
structure LeastOk(n:Nat)(es:List (Nat×Nat))(L:List Int):Prop where
 len:L.length=n
 low:∀ b,b<n->0<=L.getD b 0/\L.getD b 0<=b
 con:∀ b,b<n->Conn es (L.getD b 0).toNat b
def Apv(es:List (Nat×Nat))(L:List Int):Prop:=∀ e∈es,L.getD e.1 0=L.getD e.2 0
def Axh(L:List Int):Nat:=((List.range L.length).filter fun b=>L.getD b 0==(b:Int)).length
def sv{n:Nat}{es:List (Nat×Nat)}{L:List Int}(h:LeastOk n es L)(l:Apv es L)(m:∀ e∈es,e.1<n/\e.2<n):Axh L=FP n es:=by
 unfold Axh FP
 rw[h.len]
 congr 1
 apply List.filter_congr
 intro b f
 have f:b<n:=by simpa using f
 have conn_eq:∀ a b,Conn es a b->L.getD a 0=L.getD b 0:=by
  intro a b j
  induction j with
  |refl=>rfl
  |fwd d _ k=>exact(l _ d).trans k
  |bwd d _ k=>exact(l _ d).symm.trans k
 have q:=h.low b f
 by_cases x:L.getD b 0=(b:Int)
 ·have:su es b:=fun a s j=>by
   have e:=conn_eq a b j
   have:=(h.low a (by omega)).2
   omega
  have x':(L.getD b 0==(b:Int))=true:=by simpa using x
  rw[x'];simp[this]
 ·have x':(L.getD b 0==(b:Int))=false:=by simpa using x
  have:¬ su es b:=fun d=>d (L.getD b 0).toNat (by omega) (h.con b f)
  rw[x'];simp[this]
end Gx.Cf
namespace Gx.Cf
open Go Go.Proofs
section
variable{R:Type}
def YL{l:List Int}{j:Nat}(h:j<l.length):l.getD j 0=l[j]:=by rw[A5f,A46 h];rfl
def Acb{x:Int}{n:Nat}(d:0<=x)(e:x.toNat<n):Ac x n=true:=by simp[Ac];omega
def Aux{l:List Int}{x:Int}(h:x.toNat<l.length){f:Int->O R}:Ax .i64 (drop (0+((Int.toNat x)*1)) (A4 l)) f=f (l.getD x.toNat 0):=by rw[A5j,A5m,wG h,YL h]
def o8(l:List Int)(j:Nat)(v:Int):List.set (A4 l) j (.int .i64 v)=A4 (l.set j v):=by simp[A4,List.map_set]
def Agh{l:List Int}{x:Nat}(h:x<l.length):((beq 1 1)&&((ble ((0+(x*1))+1) (List.length (A4 l)))&&(!false)))=true:=by rw[Aea,G5,Lj];simp;omega
def K5(c:CaseD)(l:Int):Nat×Nat:=match c.lines.l[l.toNat]? with
|some x=>(x.fr.toNat,x.tl.toNat)
|none=>(0,0)
structure LnV(c:CaseD)(l:Int)(x:LineD):Prop where
 l0:0<=l
 lt:l.toNat<c.lines.l.length
 at':c.lines.l[l.toNat]?=some x
 f0:0<=x.fr
 f1:x.fr.toNat<c.buses.l.length
 t0:0<=x.tl
 t1:x.tl.toNat<c.buses.l.length
def Apw{c:CaseD}{l:Int}{x:LineD}(h:LnV c l x):K5 c l=(x.fr.toNat,x.tl.toNat):=by unfold K5;rw[h.at']
def A07{c:CaseD}{l:Int}{x:LineD}(h:LnV c l x){f:Int->O R}:Ax .i64 (drop 1 (drop ((Int.toNat l)*12) (c.lines.l.flatMap LineD.av))) f=f x.fr:=by
 have e:c.lines.l[l.toNat]'h.lt=x:=by have:=h.at';rw[A46 h.lt]at this;simpa using this
 rw[Bt D9 _ _ h.lt,e];simp[LineD.av,C1]
def A08{c:CaseD}{l:Int}{x:LineD}(h:LnV c l x){f:Int->O R}:Ax .i64 (drop 2 (drop ((Int.toNat l)*12) (c.lines.l.flatMap LineD.av))) f=f x.tl:=by
 have e:c.lines.l[l.toNat]'h.lt=x:=by have:=h.at';rw[A46 h.lt]at this;simpa using this
 rw[Bt D9 _ _ h.lt,e];simp[LineD.av,C1]
def An1{L:List Int}{n j:Nat}(f:L.length=n)(h:j<n):((Wh n).take j++L.drop j).set j (j:Int)=(Wh n).take (j+1)++L.drop (j+1):=by
 have hi:(Wh n).length=n:=by simp[Wh]
 have e:(Wh n)[j]'(by omega)=(j:Int):=by simp[Wh]
 have d:j - ((Wh n).take j).length=0:=by simp[hi];omega
 rw[A9n _ _ (by simp;omega),d,A5z (by omega),N6 (l:=L) (by omega),e,A99,A5e];rfl
def qu(h:Int):List LineD->Nat->List Int
|[],_=>[]
|x::r,j=>cond (x.away.l.contains h) (qu h r (j+1)) ((j:Int)::qu h r (j+1))
def fG(h:Int):∀(l:List LineD)(j:Nat),(qu h l j).length<=l.length
|[],_=>by simp[qu]
|x::r,j=>by rw[qu];have:=fG h r (j+1);cases x.away.l.contains h<;>simp<;>omega
def Aka(h:Int):∀(l:List LineD)(j:Nat)(a:Int),a∈qu h l j->(j:Int)<=a/\a<j+l.length
|[],_,_,d=>by simp[qu]at d
| x::r,j,a,d=>by
  rw[qu]at d
  have e:=Aka h r (j+1) a
  cases hx:x.away.l.contains h<;>rw[hx]at d<;>simp at d
  ·rcases d with rfl|d
   ·simp;omega
   ·have:=e d;simp at this ⊢;omega
  ·have:=e d;simp at this ⊢;omega
def Bq(c:CaseD)(h:Int):List Int:=qu h c.lines.l 0
def Agi{A B:List Int}{n:Nat}(h:n=A.length):(take (n*1) (A4 A))++A4 B=A4 (A++B):=by rw[A5m,A44 (by simp[Lj,h]),cN]
def fH{N:Nat}{c:CaseD}{h:Int}{o:Bool}{K:Nat->LA->O R}(hs:Small c N):∀(m j fuel:Nat)(A:List Int),j+m=c.lines.l.length->m<fuel->A.length<=j ->
  Hj N K h o c.av fuel A.length (j:Int) (A4 A)=K (A++qu h (c.lines.l.drop j) j).length (A4 (A++qu h (c.lines.l.drop j) j))
|0,j,fuel+1,A,q,_,_=>by
  rw[Hj];unfold Rs
  rw[Ef,Fk (by omega),cf,Va (l:=c.lines.l) (by omega),qu,A5h]
| m+1,j,fuel+1,A,q,y,hA=>by
  rw[Hj];unfold Rs
  have d:j<c.lines.l.length:=by omega
  have n:=hs.top.2.1
  have s:c.lines.l[j]∈c.lines.l:=A5g d
  have t:=hs.law _ s
  simp only[Ef]
  rw[Er d,ct,Aa d,ct,A45,Bt D9 _ _ d,N6 (l:=c.lines.l) d,qu]
  have e:=fH (N:=N) (c:=c) (h:=h) (o:=o) (K:=K) hs m (j+1) fuel (A++[(j:Int)]) (by omega) (by omega) (by simp;omega)
  have k:=fH (N:=N) (c:=c) (h:=h) (o:=o) (K:=K) hs m (j+1) fuel A (by omega) (by omega) (by omega)
  generalize c.lines.l[j]=b at *
  have u:(ble (A.length+1) 140737488355328&&ble ((A.length+1)*8) 140737488355328)=true:=by rw[G5,G5];simp;omega
  have v:∀(r:LA)(f:LA->Nat->O R),A5 1 (drop 11 (b.av++r)) f=f (A4 b.away.l) b.away.l.length:=fun r f=>by simp[LineD.av,A6,Bn]
  have x:take (A.length*1) (A4 A)++[.int .i64 (j:Int)]=A4 (A++[(j:Int)]):=Agi (B:=[(j:Int)]) rfl
  rw[v,WD rfl t,u,ct,x,G9 (by omega)]
  cases b.away.l.contains h with
  |true=>simp only[A7b,cond_false,cond_true];exact k
  |false =>
   simp only[A7a,cond_true,cond_false]
   rw[A41]at e
   simpa using e
def Akb{N:Nat}{c:CaseD}{h:Int}{o:Bool}{K:Nat->LA->O R}(hs:Small c N):V2 N c.av o h K=K (Bq c h).length (A4 (Bq c h)):=by
 rw[ON];unfold Yq
 have:=fH (R:=R) (N:=N) (c:=c) (h:=h) (o:=o) (K:=K) hs c.lines.l.length 0 N [] (by omega) hs.lin.1 (by simp)
 simpa[Bq,A4]using this
def Co(e:Nat×Nat):LA:=[.int .i64 (e.1:Int),.int .i64 (e.2:Int)]
def Zy(e:Nat×Nat):(Co e).length=2:=rfl
def g9(es:List (Nat×Nat)):(es.flatMap Co).length=es.length*2:=by
 induction es with
|nil=>rfl
|cons e r d=>rw[A5r,A41,d,Zy];simp;omega
def yW{N:Nat}{c:CaseD}{o:Bool}{ls:List Int}{K:Nat->Nat->LA->LA->O R}(e:ls.length<=1000000)(d:∀ l∈ls,∃ x,LnV c l x):∀(m j fuel:Nat),j+m=ls.length->m<fuel ->
  Oz N K ls.length o c.av (A4 ls) fuel j (ls.length:Int) (j:Int) (((ls.take j).map (K5 c)).flatMap Co)=K ls.length ls.length ((ls.map (K5 c)).flatMap Co) (A4 ls)
|0,j,fuel+1,f,_=>by
  rw[Oz];unfold CO
  have:j=ls.length:=by omega
  rw[Fk (by omega),cf,A44 (by omega),this]
| m+1,j,fuel+1,f,q=>by
  rw[Oz];unfold CO
  have h:j<ls.length:=by omega
  obtain⟨x,hx⟩:=d ls[j] (A5g h)
  have k:(ble (j+1) 140737488355328&&ble ((j+1)*16) 140737488355328)=true:=by rw[G5,G5];simp;omega
  have n:take (j*2) (((ls.take j).map (K5 c)).flatMap Co)++[.int .i64 x.fr,.int .i64 x.tl]=((ls.take (j+1)).map (K5 c)).flatMap Co:=by
   rw[A44 (by rw[g9];simp;omega),A5z h,A6t,A6n]
   simp only[A5c,A5v,Apw hx,A5r,A69,A5h,Co]
   have:=hx.f0;have:=hx.t0
   rw[A92 hx.f0,A92 hx.t0]
  rw[Er h,ct,Aa h,ct,Aux (by simpa using h),A45,YL h]
  simp only[Ef,A07 hx,A08 hx]
  rw[Acb hx.l0 hx.lt,ct,ct,k,ct,n,G9 (by omega),yW e d m (j+1) fuel (by omega) (by omega)]
def An2{N:Nat}{c:CaseD}{h:Int}{o:Bool}{K:Nat->Nat->LA->LA->O R}(hs:Small c N)(f:∀ l∈Bq c h,∃ x,LnV c l x):
  SZ N c.av o h K=K (Bq c h).length (Bq c h).length (((Bq c h).map (K5 c)).flatMap Co) (A4 (Bq c h)):=by
 rw[jN];unfold WB
 have j:=fG h c.lines.l 0
 have d:=hs.top.2.1
 have e:=hs.lin.1
 have:=yW (R:=R) (N:=N) (c:=c) (o:=o) (ls:=Bq c h) (K:=K) (by unfold Bq;omega) f (Bq c h).length 0 N (by omega) (by unfold Bq;omega)
 rw[Fl,ct,Cs,Akb hs]
 simpa using this
def H4(st:Bool×List Int)(e:Nat×Nat):Bool×List Int :=
 let m:=Ra (st.2.getD e.1 0) (st.2.getD e.2 0)
 ((st.1||(st.2.getD e.1 0 != m))||(st.2.getD e.2 0 != m),(st.2.set e.1 m).set e.2 m)
def sx{N:Nat}{es:List (Nat×Nat)}{n:Nat}{t o:Bool}{K1:Bool->LA->O R}{K:Nat->LA->O R}(hs:es.length<4611686018427387904)(s:∀ e∈es,e.1<n/\e.2<n):∀(m j fuel:Nat)(st:Bool×List Int),j+m=es.length->m<fuel->st.2.length=n ->
  Kd N K1 K (es.flatMap Co) es.length t o n fuel st.1 (es.length:Int) (j:Int) (A4 st.2)=K1 ((es.drop j).foldl H4 st).1 (A4 ((es.drop j).foldl H4 st).2)
|0,j,fuel+1,st,u,_,_=>by
  rw[Kd];unfold Wn
  rw[Fk (by omega),cf,Va (l:=es) (by omega)];rfl
| m+1,j,fuel+1,st,u,L,d=>by
  rw[Kd];unfold Wn
  have h:j<es.length:=by omega
  obtain⟨k,q⟩:=s es[j] (A5g h)
  have v:=sx (N:=N) (es:=es) (n:=n) (t:=t) (o:=o) (K1:=K1) (K:=K) hs s m (j+1) fuel (H4 st es[j]) (by omega) (by omega) (by simp[H4,d])
  rw[Er h,ct,Aa h,ct,A45,Bt Zy _ _ h,N6 (l:=es) h,A53,<-v]
  generalize es[j]=e at *
  have y:ble 2 (List.length (Co e++List.flatMap Co (drop (j+1) es)))=true:=by rw[G5,A41,Zy];simp
  have z:take 2 (Co e++List.flatMap Co (drop (j+1) es))=Co e:=A7e (Zy e)
  rw[y,ct,z,Zy]
  have iu:Ac (e.1:Int) n=true:=Aa k
  have iv:Ac (e.2:Int) n=true:=Aa q
  have ru:∀ f:Int->O R,Ax .i64 (drop (0+((Int.toNat (e.1:Int))*1)) (A4 st.2)) f=f (st.2.getD e.1 0):=fun f=>by rw[Aux (by rw[d];simpa using k)];rfl
  have rv:∀ f:Int->O R,Ax .i64 (drop (0+((Int.toNat (e.2:Int))*1)) (A4 st.2)) f=f (st.2.getD e.2 0):=fun f=>by rw[Aux (by rw[d];simpa using q)];rfl
  have s1:=Agh (l:=st.2) (x:=Int.toNat (e.1:Int)) (by rw[d];simpa using k)
  have s2:∀ m:Int,((beq 1 1)&&((ble ((0+((Int.toNat (e.2:Int))*1))+1) (List.length (List.set (A4 st.2) (0+((Int.toNat (e.1:Int))*1)) (.int .i64 m))))&&(!false)))=true:=fun m=>by
   rw[o8];exact Agh (by simpa[d]using q)
  have s3:∀ m:Int,List.set (List.set (A4 st.2) (0+((Int.toNat (e.1:Int))*1)) (.int .i64 m)) (0+((Int.toNat (e.2:Int))*1)) (.int .i64 m)=A4 ((st.2.set e.1 m).set e.2 m):=fun m=>by
   rw[o8,o8];simp
  have A:(!o||A0 (Co e))=true:=by simp[Co,A0]
  have C:(beq 2 2&&(ble 2 2&&!false))=true:=rfl
  have D:setCells [.int .i64 (0:Int),.int .i64 (0:Int)] 0 (Co e)=Co e:=rfl
  have F:∀ f:Int->O R,Ax .i64 (Co e) f=f e.1:=fun f=>by simp[Co,C1]
  have G:∀ f:Int->O R,Ax .i64 (drop 1 (Co e)) f=f e.2:=fun f=>by simp[Co,C1]
  simp only[A,C,D,F,G,ct,iu,iv,ru,rv,s1,s2,s3,G9 (show j<4611686018427387904 by omega)]
  unfold H4
  cases st.1
  ·cases I:(st.2.getD e.1 0 != Ra (st.2.getD e.1 0) (st.2.getD e.2 0))<;>simp only[I,A56,A7y,cond_true,cond_false,beq_self_eq_true,show(true==false)=false from rfl]
  ·simp only[A7y,cond_false,show(true==false)=false from rfl]
def lL(L:List Int):Nat:=(L.map Int.toNat).sum
def Apx{L:List Int}{x:Nat}{v:Int}(h:x<L.length):lL (L.set x v)+(L.getD x 0).toNat=lL L+v.toNat:=by
 unfold lL
 rw[YL h]
 induction L generalizing x with
|nil=>simp at h
|cons a r d =>
  cases x with
  |zero=>simp;omega
  |succ x=>have:=d (x:=x) (by simpa using h);simp at this ⊢;omega
def yX{L:List Int}{x y:Nat}{v:Int}(h:x<L.length):(L.set x v).getD y 0=if x=y then v else L.getD y 0:=by
 rw[A5f,A5f,List.getElem?_set]
 by_cases e:x=y
 ·subst e;simp[h]
 ·simp[e]
def Axi(a b:Int):Ra a b<=a/\Ra a b<=b/\(Ra a b=a\/Ra a b=b):=by
 unfold Ra
 by_cases h:b<a
 ·simp[h];omega
 ·simp[h];omega
def Arx {n:Nat} {es:List (Nat×Nat)} {e:Nat×Nat} (A:e ∈ es) (l:e.1<n) (s:e.2<n) {b:Bool} {L:List Int} (h:LeastOk n es L) :
    LeastOk n es (H4 (b,L) e).2/\(((H4 (b,L) e).1=true/\lL (H4 (b,L) e).2<lL L)\/((H4 (b,L) e)=(b,L)/\L.getD e.1 0=L.getD e.2 0)):=by
  obtain⟨u,v⟩:=e
  simp only at l s
  obtain⟨m1,m2,m3⟩:=Axi (L.getD u 0) (L.getD v 0)
  have d:u<L.length:=by rw[h.len];exact l
  have j:v<L.length:=by rw[h.len];exact s
  have f:Conn es u v:=.fwd A (.refl _)
  have Aq:∀ y,((L.set u (Ra (L.getD u 0) (L.getD v 0))).set v (Ra (L.getD u 0) (L.getD v 0))).getD y 0=if v=y then Ra (L.getD u 0) (L.getD v 0)else if u=y then Ra (L.getD u 0) (L.getD v 0)else L.getD y 0:=fun y=>by
    rw[yX (by simpa using j),yX d]
  have lu:=h.low u l
  have lv:=h.low v s
  refine⟨⟨by simp[H4,h.len],fun y z=>?_,fun y z=>?_⟩,?_⟩
  · simp only[H4,Aq]
    split
    · rename_i e;subst e;omega
    · split
      · rename_i e;subst e;omega
      · exact h.low y z
  · simp only[H4,Aq]
    have cm:Conn es (Ra (L.getD u 0) (L.getD v 0)).toNat u:=by
      rcases m3 with e|e<;>rw[e]
      · exact h.con u l
      · exact(h.con v s).trans f.symm
    split
    · rename_i e;subst e;exact cm.trans f
    · split
      · rename_i e;subst e;exact cm
      · exact h.con y z
  · by_cases e1:L.getD u 0=Ra (L.getD u 0) (L.getD v 0)<;>by_cases t:L.getD v 0=Ra (L.getD u 0) (L.getD v 0)
    · right
      have q:(L.set u (Ra (L.getD u 0) (L.getD v 0))).set v (Ra (L.getD u 0) (L.getD v 0))=L:=by
        have key:∀ m:Int,L.getD u 0=m->L.getD v 0=m->(L.set u m).set v m=L:=by
          intro m C D
          have a1:L.set u m=L:=by rw[<-C,YL d,A9o]
          have a2:L.set v m=L:=by rw[<-D,YL j,A9o]
          rw[a1,a2]
        exact key _ e1 t
      have x1:(L.getD u 0 != Ra (L.getD u 0) (L.getD v 0))=false:=by simpa using e1
      have x2:(L.getD v 0 != Ra (L.getD u 0) (L.getD v 0))=false:=by simpa using t
      refine⟨by simp only[H4,q,x1,x2,A65],by rw[e1];exact t.symm⟩
    all_goals
      left
      have F:=Apx (v:=Ra (L.getD u 0) (L.getD v 0)) d
      have k:=Apx (L:=L.set u (Ra (L.getD u 0) (L.getD v 0))) (x:=v) (v:=Ra (L.getD u 0) (L.getD v 0)) (by simpa using j)
      rw[yX d]at k
      refine⟨?_,?_⟩
      · first
          | (have x2 : (L.getD v 0 != Ra (L.getD u 0) (L.getD v 0)) = true := by simpa using t
             simp only[H4,x2,A7x])
          | (have x1 : (L.getD u 0 != Ra (L.getD u 0) (L.getD v 0)) = true := by simpa using e1
             simp only[H4,x1,A7x,A7y])
      · simp only[H4]
        split at k
        · rename_i e;subst e;omega
        · omega
def Agj{n:Nat}{es:List (Nat×Nat)}(d:∀ e∈es,e.1<n/\e.2<n):∀(fs:List (Nat×Nat))(b:Bool)(L:List Int),(∀ e∈fs,e∈es)->LeastOk n es L ->
  LeastOk n es (fs.foldl H4 (b,L)).2/\(((fs.foldl H4 (b,L)).1=true/\(lL (fs.foldl H4 (b,L)).2<lL L\/(b=true/\lL (fs.foldl H4 (b,L)).2<=lL L)))\/((fs.foldl H4 (b,L))=(b,L)/\Apv fs L))
|[],b,L,_,h=>⟨h,.inr ⟨rfl,fun e d=>by simp at d⟩⟩
| e::r,b,L,j,h=>by
  have k:=j e (by simp)
  obtain⟨s,t⟩:=Arx k (d e k).1 (d e k).2 (b:=b) h
  rw[A53]
  rcases t with⟨l,m⟩|⟨l,m⟩
  ·have u:H4 (b,L) e=(true,(H4 (b,L) e).2):=by rw[<-l]
   rw[u]
   obtain⟨q,k2⟩:=Agj d r true (H4 (b,L) e).2 (fun x hx=>j x (A5x _ hx)) s
   refine⟨q,.inl ?_⟩
   rcases k2 with⟨f,k4⟩|⟨f,_⟩
   ·exact⟨f,.inl (by rcases k4 with k4|⟨_,k4⟩<;>omega)⟩
   ·rw[f];exact⟨rfl,.inl m⟩
  ·rw[l]
   obtain⟨q,k2⟩:=Agj d r b L (fun x hx=>j x (A5x _ hx)) h
   refine⟨q,?_⟩
   rcases k2 with k2|⟨f,k4⟩
   ·exact .inl k2
   ·refine .inr ⟨f,fun x hx=>?_⟩
    rcases A5b.1 hx with rfl|hx
    ·exact m
    ·exact k4 x hx
def sy{N:Nat}{es:List (Nat×Nat)}{n:Nat}{t o:Bool}(hs:Xc es.length N)(d:∀ e∈es,e.1<n/\e.2<n):∀(s fuel:Nat)(L:List Int),LeastOk n es L->lL L<=s->s+2<fuel ->
  ∃ L',LeastOk n es L'/\Apv es L'/\∀ K:Nat->LA->O R,Ee N K (es.flatMap Co) es.length t o n fuel true (A4 L)=K n (A4 L')
| s,fuel+1,L,h,hL,l=>by
  obtain⟨j,k2⟩:=Agj d es false L (fun _ hx=>hx) h
  have step:∀ K:Nat->LA->O R,Ee N K (es.flatMap Co) es.length t o n (fuel+1) true (A4 L)=Ee N K (es.flatMap Co) es.length t o n fuel (es.foldl H4 (false,L)).1 (A4 (es.foldl H4 (false,L)).2):=fun K=>by
   rw[Ee];unfold Wo
   have:=sx (R:=R) (N:=N) (es:=es) (n:=n) (t:=t) (o:=o) (K1:=Ee N K (es.flatMap Co) es.length t o n fuel) (K:=K) hs.2 d es.length 0 N (false,L) (by omega) hs.1 h.len
   simpa using this
  rcases k2 with⟨f,k4⟩|⟨f,k4⟩
  ·have k:lL (es.foldl H4 (false,L)).2<lL L:=by
    rcases k4 with k4|⟨k4,_⟩
    ·exact k4
    ·cases k4
   obtain⟨L',a1,a2,a3⟩:=sy hs d (s - 1) fuel _ j (by omega) (by omega)
   exact⟨L',a1,a2,fun K=>by rw[step,f];exact a3 K⟩
  ·refine⟨L,h,k4,fun K=>?_⟩
   rw[step,f]
   rcases fuel with _|fuel
   ·omega
   ·rw[Ee];unfold Wo;rfl
 termination_by s=>s
 decreasing_by omega
def tA{N:Nat}{es:List (Nat×Nat)}{n:Nat}{t o:Bool}{K:Nat->LA->O R}(hn:n<4611686018427387904)(L:List Int)(hL:L.length=n):∀(m j fuel:Nat),j+m=n->m<fuel ->
  Ke N K (n:Int) (es.flatMap Co) es.length t o fuel n (j:Int) (A4 ((Wh n).take j++L.drop j))=Ee N K (es.flatMap Co) es.length t o n N true (A4 (Wh n))
|0,j,fuel+1,e,_=>by
  rw[Ke];unfold Wp
  rw[Fk (by omega),cf,Va (by omega),A5h,A44 (by simp[Wh];omega)]
|m+1,j,fuel+1,e,f=>by
  rw[Ke];unfold Wp
  have h:j<n:=by omega
  have d:((Wh n).take j++L.drop j).length=n:=by simp[Wh];omega
  rw[Er h,ct,Aa h,ct,Agh (by rw[d];simpa using h),ct,A45,A5j,A5m,o8,An1 hL h,G9 (by omega),tA hn L hL m (j+1) fuel (by omega) (by omega)]
def An3(n:Nat)(es:List (Nat×Nat)):LeastOk n es (Wh n):=by
 refine⟨by simp[Wh],fun b d=>?_,fun b d=>?_⟩
 ·rw[Aca d];omega
 ·rw[Aca d];exact .refl _
def Azw{L:List Int}{b:Nat}:(∀ x∈L,x.toNat<=b)->lL L<=L.length*b:=by
 unfold lL
 induction L with
|nil=>intro _;simp
|cons a r d =>
  intro h
  have e:=h a (by simp)
  have f:=d (fun x hx=>h x (A5x _ hx))
  simp[A62];omega
def o_{N:Nat}{es:List (Nat×Nat)}{n:Nat}{t o:Bool}(hs:Xc es.length N)(hn:n<=1000)(hN:n*n+1000<N)(f:∀ e∈es,e.1<n/\e.2<n):
  ∃ L,LeastOk n es L/\Apv es L/\∀(m:Nat)(K:Nat->LA->O R),m=es.length->Xu N (n:Int) (es.flatMap Co) m t o K=K n (A4 L):=by
 have d:lL (Wh n)<=n*n:=by
  have:=Azw (L:=Wh n) (b:=n) (by
   intro x hx;simp[Wh] at hx;obtain⟨a,s,rfl⟩:=hx;simp;omega)
  simpa[Wh]using this
 obtain⟨L,j,k,l⟩:=sy (R:=R) (N:=N) (es:=es) (n:=n) (t:=t) (o:=o) hs f (n*n) N (Wh n) (An3 n es) d (by omega)
 refine⟨L,j,k,fun m K q=>?_⟩
 subst q
 rw[ZG];unfold IH
 have ok:(decide ((0:Int)<=(n:Int))&&(decide ((n:Int)<=(n:Int))&&(decide ((n:Int)<=(140737488355328:Int))&&decide (((n:Int)*((8:Nat):Int))<=(140737488355328:Int)))))=true:=by simp;omega
 have e:replicate n (AV.int .i64 (0:Int))=A4 (replicate n 0):=by simp[A4]
 have:=tA (R:=R) (N:=N) (es:=es) (n:=n) (t:=t) (o:=o) (K:=K) (by omega) (replicate n 0) (by simp) n 0 N (by omega) (by omega)
 rw[ok,ct,A45,e,<-l K]
 simpa using this
def lM{N:Nat}{L:List Int}{t o:Bool}{K:Int->O R}(hs:L.length<1000000):∀(m j fuel:Nat)(a:Nat),j+m=L.length->m<fuel->a<=j ->
  O0 N K (A4 L) L.length t o fuel (a:Int) (j:Int)=K ((a+((List.range' j m).filter fun b=>L.getD b 0==(b:Int)).length:Nat):Int)
|0,j,fuel+1,a,d,_,_=>by
  rw[O0];unfold CP
  rw[Fk (by omega),cf];simp
| m+1,j,fuel+1,a,d,e,f=>by
  rw[O0];unfold CP
  have h:j<L.length:=by omega
  rw[Er h,ct,Aa h,ct,KZ h,G9 (by omega),G9 (by omega),A8a,A73,YL h]
  cases hx:L[j]==(j:Int)with
  |true =>
   rw[ct,lM hs m (j+1) fuel (a+1) (by omega) (by omega) (by omega)]
   simp;congr 1;omega
  |false =>
   rw[cf,lM hs m (j+1) fuel a (by omega) (by omega) (by omega)]
   simp
def yY{N:Nat}{L:List Int}{n:Nat}{t o:Bool}{K:Int->O R}(hn:n=L.length)(hs:L.length<1000000)(hN:L.length<N):JV N (A4 L) n t o K=K (Axh L:Int):=by
 subst hn
 rw[jO];unfold WC
 have:=lM (R:=R) (N:=N) (L:=L) (t:=t) (o:=o) (K:=K) hs L.length 0 N 0 (by omega) hN (by omega)
 simp only[A7s,A5j]at this
 rw[Axh,List.range_eq_range']
 exact this
def oa(gone:List Int):List (Nat×Nat)->Nat->List (Nat×Nat)
|[],_=>[]
|e::r,j=>cond (gone.contains (j:Int)) (oa gone r (j+1)) (e::oa gone r (j+1))
def yZ{N:Nat}{es:List (Nat×Nat)}{gone:List Int}{n:Nat}{t o t2 o2:Bool}{K:Bool->O R}(z:es.length<=1000)(hlN:es.length<N)(hn:n<=1000)(hN:n*n+1000<N)(d:∀ e∈es,e.1<n/\e.2<n)(s:Xc gone.length N):∀(m j fuel:Nat)(A:List (Nat×Nat)),j+m=es.length->m<fuel->A.length<=j->(∀ e∈A,e.1<n/\e.2<n) ->
  Hk N K (n:Int) (es.flatMap Co) es.length t o (A4 gone) gone.length t2 o2 fuel A.length (j:Int) (A.flatMap Co)=K (decide ((FP n (A++oa gone (es.drop j) j):Int)>(FP n es:Int)))
|0,j,fuel+1,A,C,_,hA,hAe=>by
  rw[Hk];unfold Rt
  obtain⟨L,a1,a2,a3⟩:=o_ (R:=R) (N:=N) (es:=A) (n:=n) (t:=false) (o:=true) ⟨by omega,by omega⟩ hn hN hAe
  obtain⟨L',k,u,v⟩:=o_ (R:=R) (N:=N) (es:=es) (n:=n) (t:=false) (o:=o) ⟨by omega,by omega⟩ hn hN d
  have l1:=a1.len;have l2:=k.len
  rw[Fk (by omega),cf,Va (l:=es) (by omega),oa,A5h,A44 (by rw[g9];exact A49 _),a3 _ _ rfl,A5m,A44 (by rw[Lj];omega),yY (by omega) (by omega) (by omega),v _ _ rfl,A44 (by rw[Lj];omega),yY (by omega) (by omega) (by omega),sv a1 a2 hAe,sv k u d]
| m+1,j,fuel+1,A,C,I,hA,hAe=>by
  rw[Hk];unfold Rt
  have h:j<es.length:=by omega
  have f:=yZ (N:=N) (es:=es) (gone:=gone) (n:=n) (t:=t) (o:=o) (t2:=t2) (o2:=o2) (K:=K) z hlN hn hN d s m (j+1) fuel (A++[es[j]]) (by omega) (by omega) (by simp;omega) (by
   intro e x
   rcases A5d.1 x with q|q
   ·exact hAe e q
   ·simp at q;subst q;exact d _ (A5g h))
  have y:=yZ (N:=N) (es:=es) (gone:=gone) (n:=n) (t:=t) (o:=o) (t2:=t2) (o2:=o2) (K:=K) z hlN hn hN d s m (j+1) fuel A (by omega) (by omega) (by omega) hAe
  rw[Er h,ct,WD rfl s,Aa h,ct,A45,Bt Zy _ _ h,N6 (l:=es) h,oa]
  generalize es[j]=e at *
  have k:ble 2 (List.length (Co e++List.flatMap Co (drop (j+1) es)))=true:=by rw[G5,A41,Zy];simp
  have u:take 2 (Co e++List.flatMap Co (drop (j+1) es))=Co e:=A7e (Zy e)
  have v:(ble (A.length+1) 140737488355328&&ble ((A.length+1)*16) 140737488355328)=true:=by rw[G5,G5];simp;omega
  have D:(!o||A0 (Co e))=true:=by simp[Co,A0]
  have F:take 2 (setCells [.int .i64 (0:Int),.int .i64 (0:Int)] 0 (Co e))=Co e:=rfl
  have G:take (A.length*2) (A.flatMap Co)++Co e=(A++[e]).flatMap Co:=by
   rw[A44 (by rw[g9];exact A49 _)];simp
  rw[k,ct,u,D,ct,Zy,show(beq 2 2&&ble 2 2)=true from rfl,ct,v,ct,F,G,G9 (by omega)]
  cases gone.contains (j:Int)with
  |true=>simp only[A7b,cond_false,cond_true];exact y
  |false =>
   simp only[A7a,cond_true,cond_false]
   rw[A41]at f
   simpa using f
def y3{N:Nat}{es:List (Nat×Nat)}{gone:List Int}{n m m2:Nat}{t o t2 o2:Bool}{K:Bool->O R}(f:m=es.length)(d:m2=gone.length)(j:es.length<=1000)(hlN:es.length<N)(hn:n<=1000)(hN:n*n+1000<N)(k:∀ e∈es,e.1<n/\e.2<n)(l:Xc gone.length N):
  V3 N (n:Int) (es.flatMap Co) m t o (A4 gone) m2 t2 o2 K=K (decide ((FP n (oa gone es 0):Int)>(FP n es:Int))):=by
 subst f d
 rw[OO];unfold Yr
 have:=yZ (R:=R) (N:=N) (es:=es) (gone:=gone) (n:=n) (t:=t) (o:=o) (t2:=t2) (o2:=o2) (K:=K) j hlN hn hN k l es.length 0 N [] (by omega) hlN (by simp) (by simp)
 simpa using this
def Eo{p:Mu}{ok:Bool}{w:Int×Int×Int}{e:{e:Int // e≠0}}(h:nd p ok w e=none):p=none/\ok=true:=by
 rcases p with _|x
 ·cases ok
  ·simp[nd]at h
  ·exact⟨rfl,rfl⟩
 ·simp[nd]at h
def Xp{α:Type}{f:Nat->α->Mu->Mu}(e:∀ j a x,f j a (some x)=some x):∀(l:List α)(j:Nat)(p:Mu),Iz f l j p=none->p=none/\∀ i (h:i<l.length),f (j+i) l[i] none=none
|[],j,p,h=>by rw[Iz]at h;exact⟨h,fun i hi=>by simp at hi⟩
| a::r,j,p,h=>by
  rw[Iz]at h
  obtain⟨d,k⟩:=Xp e r (j+1) _ h
  have m:p=none:=by
   rcases p with _|x
   ·rfl
   ·rw[e]at d;cases d
  subst m
  refine⟨rfl,fun i hi=>?_⟩
  cases i with
  |zero=>simpa using d
  |succ i=>have:=k i (by simpa using hi);rw[show j+1+i=j+(i+1) by omega]at this;simpa using this
def qv{c:CaseD}(j:Nat)(x:BusD)(y:(Int×Int×Int)×{e:Int // e≠0}):Aw8 c j x (some y)=some y:=rfl
def lN{c:CaseD}(j:Nat)(x:LineD)(y:(Int×Int×Int)×{e:Int // e≠0}):Ab0 c j x (some y)=some y:=rfl
def fI{c:CaseD}(j:Nat)(x:StoreD)(y:(Int×Int×Int)×{e:Int // e≠0}):xF c j x (some y)=some y:=rfl
def qw{c:CaseD}(j:Nat)(x:TieD)(y:(Int×Int×Int)×{e:Int // e≠0}):Aw9 c j x (some y)=some y:=rfl
def lO{c:CaseD}(j:Nat)(x:UnitD)(y:(Int×Int×Int)×{e:Int // e≠0}):Ai0 c j x (some y)=some y:=by
 show cond (x.state==2) _ _=_
 cases x.state==2<;>rfl
def Auy(c:CaseD):Mu :=
 let p:=Am4 c none
 let p:=Iz (Aw8 c) c.buses.l 0 p
 let p:=Iz (Ab0 c) c.lines.l 0 p
 let p:=Iz (Ai0 c) c.units.l 0 p
 let p:=Iz (xF c) c.stores.l 0 p
 let p:=Iz (Aw9 c) c.ties.l 0 p
 Iz (Arr c) c.outs.l 0 p
noncomputable def Auz(c:CaseD)(h:Int)(o:OutD):Bool:=(FP c.buses.l.length (((Bq c h).filter fun l=>!o.lines.l.contains l).map (K5 c)):Int)==(FP c.buses.l.length ((Bq c h).map (K5 c)):Int)
noncomputable def Au0(c:CaseD)(h:Int)(j:Nat)(o:OutD)(p:Mu):Mu:=nd p (Auz c h o) (6,j,h) A4j
noncomputable def lP(c:CaseD):Nat->Nat->Mu->Mu
|0,_,p=>p
|m+1,j,p=>lP c m (j+1) (Iz (Au0 c j) c.outs.l 0 p)
def Ary{c:CaseD}{h:Int}(j:Nat)(x:OutD)(y:(Int×Int×Int)×{e:Int // e≠0}):Au0 c h j x (some y)=some y:=rfl
def tB{c:CaseD}{y:(Int×Int×Int)×{e:Int // e≠0}}:∀(m j:Nat),lP c m j (some y)=some y
|0,_=>rfl
|m+1,j=>by rw[lP,Td (fun j a=>Ary j a y)];exact tB m (j+1)
noncomputable def fJ(c:CaseD):Mu:=match Auy c with
|some x=>some x
|none=>lP c c.hours.toNat 0 none
structure PreV(c:CaseD):Prop where
 hours:1<=c.hours/\c.hours<=24
 nb:c.buses.l.length<=32
 nl:c.lines.l.length<=64
 no:c.outs.l.length<=64
 line:∀ x∈c.lines.l,0<=x.fr/\x.fr.toNat<c.buses.l.length/\0<=x.tl/\x.tl.toNat<c.buses.l.length
 out:∀ x∈c.outs.l,x.lines.l.length<=2
def Arz{c:CaseD}(h:Auy c=none):PreV c:=by
 unfold Auy at h
 obtain⟨n,o6⟩:=Xp (fun _ _ _=>qL) _ _ _ h
 obtain⟨q,o5⟩:=Xp (fun j a x=>qw j a x) _ _ _ n
 obtain⟨s,o4⟩:=Xp (fun j a x=>fI j a x) _ _ _ q
 obtain⟨t,o3⟩:=Xp (fun j a x=>lO j a x) _ _ _ s
 obtain⟨u,o2⟩:=Xp (fun j a x=>lN j a x) _ _ _ t
 obtain⟨l,o1⟩:=Xp (fun j a x=>qv j a x) _ _ _ u
 unfold Am4 at l
 obtain⟨v,y⟩:=Eo l
 obtain⟨z,_⟩:=Eo v
 obtain⟨A,_⟩:=Eo z
 obtain⟨C,_⟩:=Eo A
 obtain⟨w3,f⟩:=Eo C
 obtain⟨w2,d⟩:=Eo w3
 obtain⟨D,_⟩:=Eo w2
 obtain⟨w0,_⟩:=Eo D
 obtain⟨_,k⟩:=Eo w0
 unfold G6 at k d
 simp at k d f y
 refine⟨k,by omega,by omega,by omega,fun x hx=>?_,fun x hx=>?_⟩
 ·obtain⟨i,hi,rfl⟩:=A5q hx
  have:=o2 i hi
  unfold Ab0 w_ at this
  obtain⟨a,_⟩:=Eo this
  obtain⟨a,_⟩:=Eo a
  obtain⟨a,_⟩:=Eo a
  obtain⟨a,_⟩:=Eo a
  obtain⟨a,_⟩:=Eo a
  obtain⟨a,_⟩:=Eo a
  obtain⟨a,_⟩:=Eo a
  obtain⟨a,_⟩:=Eo a
  obtain⟨a,m⟩:=Eo a
  obtain⟨_,e⟩:=Eo a
  unfold sE at m e
  simp at m e
  omega
 ·obtain⟨i,hi,rfl⟩:=A5q hx
  have:=o6 i hi
  unfold Arr Am5 at this
  obtain⟨a,_⟩:=Eo this
  obtain⟨a,_⟩:=Eo a
  obtain⟨a,_⟩:=Eo a
  obtain⟨a,_⟩:=Eo a
  obtain⟨a,_⟩:=Eo a
  obtain⟨a,_⟩:=Eo a
  obtain⟨a,_⟩:=Eo a
  obtain⟨_,e⟩:=Eo a
  simp at e
  omega
def PreV.lnV{c:CaseD}(v:PreV c){h:Int}{l:Int}(j:l∈Bq c h):∃ x,LnV c l x:=by
 have:=Aka h c.lines.l 0 l j
 have k:0<=l:=by omega
 have f:l.toNat<c.lines.l.length:=by omega
 obtain⟨a,b,d,e⟩:=v.line _ (A5g f)
 exact⟨c.lines.l[l.toNat],k,f,A46 f,a,b,d,e⟩
def w3(p:Mu):LA:=match p with
|none=>[.int .i64 0,.int .i64 0,.int .i64 0]
|some ((a,b,f),_)=>[.int .i64 a,.int .i64 b,.int .i64 f]
def Au1{N:Nat}{c:CaseD}{p:Mu}{o:Bool}{j:Nat}{K:Int->LA->O R}{K2:LA->Int->O R}(hs:Small c N)(h:j<c.buses.l.length):
  Yz N K K2 o c.av (j:Int) (Ea p)=K ((j+1:Nat):Int) (Ea (Aw8 c j c.buses.l[j] p)):=by
 have hN:=hs.n64
 have hN8:8<=N:=by omega
 have d:=hs.bus
 have q:c.buses.l[j]∈c.buses.l:=A5g h
 have s:=hs.dem _ q
 have e:=@Fe R N c (c.buses.l.map (·.name)) o (k:=1) (n:=j) (hN:=hN) (hL:=fun K=>O' hs) (hn:=by simpa using h) (hs:=⟨by have:=d.1;omega,by have:=d.2;omega⟩)
 have m:(c.buses.l.map (·.name))[j]'(by simpa using h)=c.buses.l[j].name:=by simp
 rw[m]at e
 unfold Yz
 simp only[Fl,Cs,ct,e,Ca]
 rw[Aa h,ct,A45,Bt Kj _ _ h]
 generalize c.buses.l[j]=b at *
 have t:∀(r:LA)(f:LA->Nat->O R),A5 1 (drop 1 (b.av++r)) f=f (A4 b.demand.l) b.demand.l.length:=fun r f=>by simp[BusD.av,A6,Bn]
 have u:∀(r:LA)(f:Int->O R),Ax .i64 (drop 2 (b.av++r)) f=f b.shed:=fun r f=>by simp[BusD.av,C1]
 rw[t,F3 rfl s,ct,u,Fn hN8,Af (by decide),G9 (by have:=d.2;omega)]
 rfl
def Agk{p:Mu}{K:LA->Int->O R}:(cond (ble 3 (List.length (Ea p))) (Ax .i64 (drop 3 (Ea p)) fun x38=>cond ((beq (List.length (take 3 (Ea p))) 3)&&((ble 3 3)&&(!false))) (cond (ble 3 (List.length (setCells [.int .i64 (0:Int),.int .i64 (0:Int),.int .i64 (0:Int)] 0 (take 3 (Ea p))))) (K (take 3 (setCells [.int .i64 (0:Int),.int .i64 (0:Int),.int .i64 (0:Int)] 0 (take 3 (Ea p)))) x38) none) none) none)=K (w3 p) (Ky p):=by rcases p with _|⟨⟨a,b,f⟩,e,d⟩<;>simp[Ea,At7,w3,Ky,G5,setCells,Gh,C1]
def tC{N:Nat}{c:CaseD}{o:Bool}{K:LA->Int->O R}(hs:Small c N):∀(m j fuel:Nat)(p:Mu),j+m=c.buses.l.length->m<fuel ->
  Lq N K o c.av fuel (j:Int) (Ea p)=Pd N K o c.av N 0 (Ea (Iz (Aw8 c) (c.buses.l.drop j) j p))
|0,j,fuel+1,p,f,_=>by
  rw[Lq];unfold CZ
  rw[Ca,Fk (by omega),Va (l:=c.buses.l) (by omega),Iz];rfl
| m+1,j,fuel+1,p,f,q=>by
  rw[Lq];unfold CZ
  have h:j<c.buses.l.length:=by omega
  have d:=hs.bus
  rw[Ca,Er h,RX,N6 (l:=c.buses.l) h,Iz]
  rcases p with _|⟨x,e,k⟩
  ·simp only[Ky,beq_self_eq_true,cond_true]
   rw[Au1 hs h,tC hs m (j+1) fuel _ (by omega) (by omega)]
  ·have n:(e==0)=false:=by simpa using k
   simp only[Ky,n,beq_self_eq_true,cond_true,cond_false]
   rw[qv,Td (fun _ _=>qv _ _ _)]
def tD{N:Nat}{c:CaseD}{o:Bool}{K:LA->Int->O R}(hs:Small c N):∀(m j fuel:Nat)(p:Mu),j+m=c.lines.l.length->m<fuel ->
  Pd N K o c.av fuel (j:Int) (Ea p)=Pc N K o c.av N 0 (Ea (Iz (Ab0 c) (c.lines.l.drop j) j p))
|0,j,fuel+1,p,f,_=>by
  rw[Pd];unfold CY
  rw[Ef,Fk (by omega),Va (l:=c.lines.l) (by omega),Iz];rfl
| m+1,j,fuel+1,p,f,q=>by
  rw[Pd];unfold CY
  have h:j<c.lines.l.length:=by omega
  have d:=hs.lin
  rw[Ef,Er h,RX,N6 (l:=c.lines.l) h,Iz]
  rcases p with _|⟨x,e,k⟩
  ·simp only[Ky,beq_self_eq_true,cond_true]
   rw[Fl,ct,Cs,bF hs h,G9 (by have:=d.2;omega),tD hs m (j+1) fuel _ (by omega) (by omega)]
  ·have n:(e==0)=false:=by simpa using k
   simp only[Ky,n,beq_self_eq_true,cond_true,cond_false]
   rw[lN,Td (fun _ _=>lN _ _ _)]
def tE{N:Nat}{c:CaseD}{o:Bool}{K:LA->Int->O R}(hs:Small c N):∀(m j fuel:Nat)(p:Mu),j+m=c.units.l.length->m<fuel ->
  Pc N K o c.av fuel (j:Int) (Ea p)=Pb N K o c.av N 0 (Ea (Iz (Ai0 c) (c.units.l.drop j) j p))
|0,j,fuel+1,p,f,_=>by
  rw[Pc];unfold CX
  rw[F2,Fk (by omega),Va (l:=c.units.l) (by omega),Iz];rfl
| m+1,j,fuel+1,p,f,q=>by
  rw[Pc];unfold CX
  have h:j<c.units.l.length:=by omega
  have d:=hs.uni
  rw[F2,Er h,RX,N6 (l:=c.units.l) h,Iz]
  rcases p with _|⟨x,e,k⟩
  ·simp only[Ky,beq_self_eq_true,cond_true]
   rw[Fl,ct,Cs,bG hs h,G9 (by have:=d.2;omega),tE hs m (j+1) fuel _ (by omega) (by omega)]
  ·have n:(e==0)=false:=by simpa using k
   simp only[Ky,n,beq_self_eq_true,cond_true,cond_false]
   rw[lO,Td (fun _ _=>lO _ _ _)]
def tF{N:Nat}{c:CaseD}{o:Bool}{K:LA->Int->O R}(hs:Small c N):∀(m j fuel:Nat)(p:Mu),j+m=c.stores.l.length->m<fuel ->
  Pb N K o c.av fuel (j:Int) (Ea p)=Pa N K o c.av N 0 (Ea (Iz (xF c) (c.stores.l.drop j) j p))
|0,j,fuel+1,p,f,_=>by
  rw[Pb];unfold CW
  rw[Hl,Fk (by omega),Va (l:=c.stores.l) (by omega),Iz];rfl
| m+1,j,fuel+1,p,f,q=>by
  rw[Pb];unfold CW
  have h:j<c.stores.l.length:=by omega
  have d:=hs.sto
  rw[Hl,Er h,RX,N6 (l:=c.stores.l) h,Iz]
  rcases p with _|⟨x,e,k⟩
  ·simp only[Ky,beq_self_eq_true,cond_true]
   rw[Fl,ct,Cs,YK hs h,G9 (by have:=d.2;omega),tF hs m (j+1) fuel _ (by omega) (by omega)]
  ·have n:(e==0)=false:=by simpa using k
   simp only[Ky,n,beq_self_eq_true,cond_true,cond_false]
   rw[fI,Td (fun _ _=>fI _ _ _)]
def tG{N:Nat}{c:CaseD}{o:Bool}{K:LA->Int->O R}(hs:Small c N):∀(m j fuel:Nat)(p:Mu),j+m=c.ties.l.length->m<fuel ->
  Pa N K o c.av fuel (j:Int) (Ea p)=O9 N K o c.av N 0 (Ea (Iz (Aw9 c) (c.ties.l.drop j) j p))
|0,j,fuel+1,p,f,_=>by
  rw[Pa];unfold CV
  rw[Lm,Fk (by omega),Va (l:=c.ties.l) (by omega),Iz];rfl
| m+1,j,fuel+1,p,f,q=>by
  rw[Pa];unfold CV
  have h:j<c.ties.l.length:=by omega
  have d:=hs.tie
  rw[Lm,Er h,RX,N6 (l:=c.ties.l) h,Iz]
  rcases p with _|⟨x,e,k⟩
  ·simp only[Ky,beq_self_eq_true,cond_true]
   rw[Fl,ct,Cs,fF hs h,G9 (by have:=d.2;omega),tG hs m (j+1) fuel _ (by omega) (by omega)]
  ·have n:(e==0)=false:=by simpa using k
   simp only[Ky,n,beq_self_eq_true,cond_true,cond_false]
   rw[qw,Td (fun _ _=>qw _ _ _)]
def tH{N:Nat}{c:CaseD}{o:Bool}{K:LA->Int->O R}(hs:Small c N):∀(m j fuel:Nat)(p:Mu),j+m=c.outs.l.length->m<fuel ->
  O9 N K o c.av fuel (j:Int) (Ea p)=Fr N K o c.av N 0 (Ea (Iz (Arr c) (c.outs.l.drop j) j p))
|0,j,fuel+1,p,f,_=>by
  rw[O9];unfold CU
  rw[Ix,Fk (by omega),Va (l:=c.outs.l) (by omega),Iz];rfl
| m+1,j,fuel+1,p,f,q=>by
  rw[O9];unfold CU
  have h:j<c.outs.l.length:=by omega
  have d:=hs.out
  rw[Ix,Er h,RX,N6 (l:=c.outs.l) h,Iz]
  rcases p with _|⟨x,e,k⟩
  ·simp only[Ky,beq_self_eq_true,cond_true]
   rw[Fl,ct,Cs,UO hs h,G9 (by have:=d.2;omega),tH hs m (j+1) fuel _ (by omega) (by omega)]
  ·have n:(e==0)=false:=by simpa using k
   simp only[Ky,n,beq_self_eq_true,cond_true,cond_false]
   rw[qL,Td (fun _ _=>qL)]
def NU(ol:List Int):List Int->Nat->List Int
|[],_=>[]
|a::r,j=>cond (ol.contains a) ((j:Int)::NU ol r (j+1)) (NU ol r (j+1))
def Akc(ol:List Int):∀(l:List Int)(j:Nat)(x:Int),x∈NU ol l j->(j:Int)<=x
|[],_,_,h=>by simp[NU]at h
| a::r,j,x,h=>by
  rw[NU]at h
  have d:=Akc ol r (j+1) x
  cases hx:ol.contains a<;>rw[hx]at h<;>simp at h
  ·have:=d h;omega
  ·rcases h with rfl|h
   ·omega
   ·have:=d h;omega
def qx{f:Int->Nat×Nat}(ol:List Int):∀(l:List Int)(j:Nat)(pre:List Int),(∀ x∈pre,x<(j:Int))->oa (pre++NU ol l j) (l.map f) j=((l.filter fun a=>!ol.contains a).map f)
|[],_,_,_=>rfl
| a::r,j,pre,m=>by
  rw[A5c,oa,NU,A73]
  have e:¬ (j:Int)∈pre:=fun h=>by have:=m _ h;omega
  cases hx:ol.contains a with
  | true =>
   have n:(pre++cond true ((j:Int)::NU ol r (j+1)) (NU ol r (j+1))).contains (j:Int)=true:=by simp
   rw[n]
   have:=qx (f:=f) ol r (j+1) (pre++[(j:Int)]) (by
    intro x d
    rcases A5d.1 d with k|k
    ·have:=m x k;omega
    ·simp at k;omega)
   simp only[cond_true,A7b,A7q,if_false]
   rw[<-this];simp
  | false =>
   have n:(pre++cond false ((j:Int)::NU ol r (j+1)) (NU ol r (j+1))).contains (j:Int)=false:=by
    simp only[cond_false]
    rw[List.contains_eq_mem]
    simp only[decide_eq_false_iff_not,A5d,not_or]
    exact⟨e,fun k=>by have:=Akc ol r (j+1) _ k;omega⟩
   rw[n]
   have:=qx (f:=f) ol r (j+1) pre (by intro x d;have:=m x d;omega)
   simp only[cond_false,A7a,if_true,A5c]
   rw[this]
def YM{N:Nat}{c:CaseD}{o:Bool}{hr:Int}{j:Nat}{p:Mu}{K7:Int->LA->O R}{K9:Int->Int->LA->O R}{K:LA->Int->O R}(hs:Small c N)(hN:4096<=N)(v:PreV c)(h:j<c.outs.l.length):∀(m q fuel:Nat)(A:List Int),q+m=(Bq c hr).length->m<fuel->A.length<=q ->
  A++NU c.outs.l[j].lines.l ((Bq c hr).drop q) q=NU c.outs.l[j].lines.l (Bq c hr) 0 ->
  M4 N K7 K9 K (Bq c hr).length (Bq c hr).length o c.av (((Bq c hr).map (K5 c)).flatMap Co) (A4 (Bq c hr)) fuel hr (j:Int) A.length (q:Int) (Ea p) (A4 A)=K9 hr ((j+1:Nat):Int) (Ea (Au0 c hr j c.outs.l[j] p))
| 0,q,fuel+1,A,hq,_,hA,d=>by
  rw[M4];unfold Y0
  have D:=fG hr c.lines.l 0
  have F:=v.nl
  have k:=v.nb
  have n:=hs.out
  have M:c.buses.l.length*c.buses.l.length<=32*32:=A9y k k
  have s:(Bq c hr).length<=64:=by unfold Bq;omega
  rw[Va (l:=Bq c hr) (by omega),NU,A5h]at d
  have z:∀ e∈(Bq c hr).map (K5 c),e.1<c.buses.l.length/\e.2<c.buses.l.length:=by
   intro e z
   simp only[A5o]at z
   obtain⟨l,G,rfl⟩:=z
   obtain⟨x,hx⟩:=v.lnV G
   rw[Apw hx];exact⟨hx.f1,hx.t1⟩
  rw[Fk (by omega),cf,Ca,A44 (by rw[g9];simp),A5m,A44 (by rw[Lj];exact A49 _),
   y3 (by simp) rfl (by simp;omega) (by simp;omega) (by omega) (by omega) z ⟨by omega,by omega⟩,Af (by decide),G9 (by have:=n.2;omega)]
  have e1:oa A ((Bq c hr).map (K5 c)) 0=(((Bq c hr).filter fun a=>!c.outs.l[j].lines.l.contains a).map (K5 c)):=by
   rw[d]
   have:=qx (f:=K5 c) c.outs.l[j].lines.l (Bq c hr) 0 [] (by simp)
   simpa using this
  rw[e1]
  have I:FP c.buses.l.length ((Bq c hr).map (K5 c))<=FP c.buses.l.length (((Bq c hr).filter fun a=>!c.outs.l[j].lines.l.contains a).map (K5 c)):=An0 (by
   intro e t
   simp only[A5o,A7w]at t ⊢
   obtain⟨l,⟨G,_⟩,rfl⟩:=t
   exact⟨l,G,rfl⟩)
  have S:(!decide ((FP c.buses.l.length (((Bq c hr).filter fun a=>!c.outs.l[j].lines.l.contains a).map (K5 c)):Int)>(FP c.buses.l.length ((Bq c hr).map (K5 c)):Int)))=Auz c hr c.outs.l[j]:=by
   unfold Auz
   generalize FP c.buses.l.length ((Bq c hr).map (K5 c))=x at *
   generalize FP c.buses.l.length (((Bq c hr).filter fun a=>!c.outs.l[j].lines.l.contains a).map (K5 c))=y at *
   by_cases L:x=y
   ·subst L;simp
   ·have a1:((y:Int)==(x:Int))=false:=by simp;omega
    rw[a1];simp;omega
  rw[S];rfl
| m+1,q,fuel+1,A,hq,hf,hA,d=>by
  rw[M4];unfold Y0
  have u:q<(Bq c hr).length:=by omega
  have D:=fG hr c.lines.l 0
  have F:=v.nl
  have s:(Bq c hr).length<=64:=by unfold Bq;omega
  have T:c.outs.l[j]∈c.outs.l:=A5g h
  have U:=hs.oli _ T
  have V:∀(f:LA->Nat->O R),A5 1 (drop 1 (drop (j*4) (List.flatMap OutD.av c.outs.l))) f=f (A4 c.outs.l[j].lines.l) c.outs.l[j].lines.l.length:=fun f=>by rw[Bt Ip _ _ h];simp[OutD.av,A6,Bn]
  have X:(ble (A.length+1) 140737488355328&&ble ((A.length+1)*8) 140737488355328)=true:=by rw[G5,G5];simp;omega
  have Y:take (A.length*1) (A4 A)++[.int .i64 (q:Int)]=A4 (A++[(q:Int)]):=Agi (B:=[(q:Int)]) rfl
  rw[Er u,ct,Ix,Aa h,ct,A45,V,Aa u,ct,Aux (by simpa using u),A45,YL u,WD rfl U,X,ct,Y,G9 (by omega)]
  rw[N6 u,NU]at d
  cases hx:c.outs.l[j].lines.l.contains (Bq c hr)[q]with
  |true =>
   rw[hx]at d
   have C:=YM (o:=o) (hr:=hr) (j:=j) (p:=p) (K7:=K7) (K9:=K9) (K:=K) hs hN v h m (q+1) fuel (A++[(q:Int)]) (by omega) (by omega) (by simp;omega) (by simpa using d)
   rw[A41]at C
   simpa using C
  |false =>
   rw[hx]at d
   have C:=YM (o:=o) (hr:=hr) (j:=j) (p:=p) (K7:=K7) (K9:=K9) (K:=K) hs hN v h m (q+1) fuel A (by omega) (by omega) (by omega) (by simpa using d)
   simpa using C
def tI{N:Nat}{c:CaseD}{o:Bool}{hr:Int}{K7:Int->LA->O R}{K:LA->Int->O R}(hs:Small c N)(hN:4096<=N)(v:PreV c):∀(m j fuel:Nat)(p:Mu),j+m=c.outs.l.length->m<fuel ->
  Lp N K7 K (Bq c hr).length (Bq c hr).length o c.av (((Bq c hr).map (K5 c)).flatMap Co) (A4 (Bq c hr)) fuel hr (j:Int) (Ea p)=K7 (wrap .i64 (hr+1)) (Ea (Iz (Au0 c hr) (c.outs.l.drop j) j p))
|0,j,fuel+1,p,d,_=>by
  rw[Lp];unfold CT
  rw[Ix,Fk (by omega),cf,Va (l:=c.outs.l) (by omega),Iz]
|m+1,j,fuel+1,p,d,n=>by
  rw[Lp];unfold CT
  have h:j<c.outs.l.length:=by omega
  have e:=fG hr c.lines.l 0
  have f:=v.nl
  have k:=tI (o:=o) (hr:=hr) (K7:=K7) (K:=K) hs hN v m (j+1) fuel (Au0 c hr j c.outs.l[j] p) (by omega) (by omega)
  have l10:=YM (R:=R) (N:=N) (c:=c) (o:=o) (hr:=hr) (j:=j) (p:=p) (K7:=K7) (K9:=Lp N K7 K (Bq c hr).length (Bq c hr).length o c.av (((Bq c hr).map (K5 c)).flatMap Co) (A4 (Bq c hr)) fuel) (K:=K) hs hN v h (Bq c hr).length 0 N [] (by omega) (by unfold Bq;omega) (by simp) (by simp)
  rw[Ix,Er h,ct,N6 (l:=c.outs.l) h,Iz,<-k,<-l10]
  rfl
def tJ{N H:Nat}{c:CaseD}{o:Bool}{K:LA->Int->O R}(hs:Small c N)(hN:4096<=N)(v:PreV c)(hH:c.hours=(H:Int)):∀(m j fuel:Nat)(p:Mu),j+m=H->m<fuel ->
  Fr N K o c.av fuel (j:Int) (Ea p)=K (w3 (lP c m j p)) (Ky (lP c m j p))
|0,j,fuel+1,p,d,_=>by
  rw[Fr];unfold V9
  rw[Es,hH,Fk (by omega),Agk,lP];rfl
| m+1,j,fuel+1,p,d,q=>by
  rw[Fr];unfold V9 IQ RH
  have s:=v.hours
  rw[Es,hH,Er (by omega),RX,Agk]
  rcases p with _|⟨x,e,f⟩
  ·simp only[Ky,beq_self_eq_true,cond_true]
   have l9:=tI (R:=R) (N:=N) (c:=c) (o:=o) (hr:=(j:Int)) (K7:=Fr N K o c.av fuel) (K:=K) hs hN v c.outs.l.length 0 N none (by omega) hs.out.1
   rw[Fl,ct,Cs,An2 hs (fun l k=>v.lnV k)]
   simp only[A5k,A7s]at l9
   rw[l9,G9 (by omega),tJ hs hN v hH m (j+1) fuel _ (by omega) (by omega)];rfl
  ·have n:(e==0)=false:=by simpa using f
   simp only[Ky,n,beq_self_eq_true,cond_true,cond_false]
   rw[tB]
def Akd{N:Nat}{c:CaseD}{o:Bool}{y:(Int×Int×Int)×{e:Int // e≠0}}{K:LA->Int->O R}{fuel:Nat}:Fr N K o c.av (fuel+1) 0 (Ea (some y))=K (w3 (some y)) (Ky (some y)):=by
 rw[Fr];unfold V9
 rw[Es,RX,Agk]
 have d:(y.2.1==0)=false:=by simpa using y.2.2
 cases decide ((0:Int)<c.hours)<;>simp[Ky,d]
def y5{N:Nat}{c:CaseD}{o:Bool}{K:LA->Int->O R}(hs:Small c N)(hN:4096<=N):TP N c.av o K=K (w3 (fJ c)) (Ky (fJ c)):=by
 rw[j1];unfold WY
 have d:[.int .i64 (0:Int),.int .i64 (0:Int),.int .i64 (0:Int),.int .i64 (0:Int)]=Ea none:=rfl
 rw[Fl,ct,Cs,d,WW hs]
 have l0:=fun p=>tC (R:=R) (N:=N) (c:=c) (o:=o) (K:=K) hs c.buses.l.length 0 N p (by omega) hs.bus.1
 have l2:=fun p=>tD (R:=R) (N:=N) (c:=c) (o:=o) (K:=K) hs c.lines.l.length 0 N p (by omega) hs.lin.1
 have l3:=fun p=>tE (R:=R) (N:=N) (c:=c) (o:=o) (K:=K) hs c.units.l.length 0 N p (by omega) hs.uni.1
 have l4:=fun p=>tF (R:=R) (N:=N) (c:=c) (o:=o) (K:=K) hs c.stores.l.length 0 N p (by omega) hs.sto.1
 have l5:=fun p=>tG (R:=R) (N:=N) (c:=c) (o:=o) (K:=K) hs c.ties.l.length 0 N p (by omega) hs.tie.1
 have l6:=fun p=>tH (R:=R) (N:=N) (c:=c) (o:=o) (K:=K) hs c.outs.l.length 0 N p (by omega) hs.out.1
 simp only[A5k,A7s]at l0 l2 l3 l4 l5 l6
 try dsimp only
 rw[l0,l2,l3,l4,l5,l6]
 show Fr N K o c.av N 0 (Ea (Auy c))=_
 unfold fJ
 cases e:Auy c with
|some y =>
  rcases N with _|N
  ·omega
  ·exact Akd
|none =>
  have v:=Arz e
  have f:=v.hours
  have:=tJ (R:=R) (N:=N) (H:=c.hours.toNat) (c:=c) (o:=o) (K:=K) hs hN v (by omega) c.hours.toNat 0 N none (by omega) (by omega)
  simpa using this
def Azx(p:Mu):(w3 p).length=3:=by rcases p with _|⟨⟨a,b,f⟩,e⟩<;>rfl
def Au2(v n:Int)(j:1<=n)(k:n<=4611686018427387904):(wrap .u64 n==0)=false/\0<=wrap .i64 (Int.tmod (wrap .u64 v) (wrap .u64 n))/\wrap .i64 (Int.tmod (wrap .u64 v) (wrap .u64 n))<n:=by
 have hn:wrap .u64 n=n:=IntWalk.u64_in _ (by omega)
 have d:0<=wrap .u64 v:=by rw[IntKind.wrap_u64];omega
 rw[hn]
 have e:0<=Int.tmod (wrap .u64 v) n:=Int.tmod_nonneg _ d
 have f:Int.tmod (wrap .u64 v) n<n:=A97 _ (by omega)
 rw[wrap_i64 _ (by omega)]
 exact⟨by simp;omega,e,f⟩
def nx{N:Nat}{l:List Int}{t o:Bool}(q:l.length<=9223372036854775807)(n:Int)(e:1<=n)(f:n<=4611686018427387904)(k:Nat)(j:k<=l.length):
  ∃(v:Int)(d:Nat),0<=v/\v<n/\d<=l.length/\∀ K:Int->Int->O R,Ag N n (A4 l) l.length t o (k:Int) K=K v (d:Int):=by
 by_cases h:k<l.length
 ·obtain⟨a1,a2,a3⟩:=Au2 l[k] n e f
  refine⟨_,k+1,a2,a3,by omega,fun K=>?_⟩
  rw[AX];unfold CK
  have w0:wrap .i64 ((k:Int)+1)=((k+1:Nat):Int):=by rw[wrap_i64 _ (by omega)];omega
  have m:wrap .i64 (wrap .i64 ((k:Int)+1) - 1)=(k:Int):=by rw[w0,wrap_i64 _ (by omega)];omega
  rw[m,w0,Aa h,ct,KZ h,wI];unfold Aec
  rw[a1,cf,show decide ((k:Int)>=(l.length:Int))=false by simp;omega,cf]
 ·refine⟨0,k,by omega,by omega,j,fun K=>?_⟩
  rw[AX];unfold CK
  rw[show decide ((k:Int)>=(l.length:Int))=true by simp;omega,ct]
def y7{N m:Nat}{l:List Int}{t o:Bool}(f:l.length<=9223372036854775807)(n:Int)(q:1<=n)(s:n<=4611686018427387904)(y:m<=1000):∀(r j fuel:Nat)(k:Nat)(A:List Int),j+r=m->r<fuel->k<=l.length->A.length=j ->
  ∃(B:List Int)(u:Nat),B.length=r/\(∀ x∈B,0<=x/\x<n)/\u<=l.length/\∀ K:Nat->Int->LA->O R,Hg N K (m:Int) n (A4 l) l.length t o fuel j (j:Int) (k:Int) (A4 A)=K m (u:Int) (A4 (A++B))
|0,j,fuel+1,k,A,z,_,d,hA=>by
  refine⟨[],k,rfl,by simp,d,fun K=>?_⟩
  rw[Hg];unfold Rl
  have:j=m:=by omega
  subst this
  rw[Fk (A49 _),cf,A5h]
| r+1,j,fuel+1,k,A,z,T,d,hA=>by
  obtain⟨v,C,v0,v1,e,D⟩:=nx (R:=R) (N:=N) (t:=t) (o:=o) f n q s k d
  obtain⟨B,k2,F,G,I,L⟩:=y7 f n q s y r (j+1) fuel C (A++[v]) (by omega) (by omega) e (by simp[hA])
  refine⟨v::B,k2,by simp[F],?_,I,fun K=>?_⟩
  ·intro x hx
   rcases A5b.1 hx with rfl|hx
   ·exact⟨v0,v1⟩
   ·exact G x hx
  ·rw[Hg];unfold Rl
   have M:(ble (j+1) 140737488355328&&ble ((j+1)*8) 140737488355328)=true:=by rw[G5,G5];simp;omega
   have S:take (j*1) (A4 A)++[.int .i64 v]=A4 (A++[v]):=Agi (B:=[v]) hA.symm
   rw[Er (by omega),ct,D,M,ct,S,G9 (by omega),L]
   simp
def NV{N m:Nat}{l:List Int}{t o:Bool}(hN:1001<=N)(e:l.length<=9223372036854775807)(n:Int)(f:1<=n)(j:n<=4611686018427387904)(q:m<=1000)(k:Nat)(s:k<=l.length):
  ∃(B:List Int)(d:Nat),B.length=m/\(∀ x∈B,0<=x/\x<n)/\d<=l.length/\∀ K:Nat->Int->LA->O R,H7 N (m:Int) n (A4 l) l.length t o (k:Int) K=K m (d:Int) (A4 B):=by
 obtain⟨B,d,u,v,y,z⟩:=y7 (R:=R) (N:=N) (t:=t) (o:=o) e n f j q m 0 N k [] (by omega) (by omega) s rfl
 refine⟨B,d,u,v,y,fun K=>?_⟩
 rw[OG];unfold Yj
 simpa[A4]using z K
def qy{N:Nat}{l:List Int}{t o:Bool}(f:l.length<=9223372036854775807)(H:Int)(s:1<=H)(A:H<=1000)(k:Nat)(y:k<=l.length):
  ∃(B:List Int)(j:Nat),B.length<=1/\(∀ x∈B,0<=x/\x<H)/\j<=l.length/\∀ K:Nat->Int->LA->O R,Uc N H (A4 l) l.length t o (k:Int) K=K B.length (j:Int) (A4 B):=by
 obtain⟨v,m,v0,v1,d,n⟩:=nx (R:=R) (N:=N) (t:=t) (o:=o) f 6 (by omega) (by omega) k y
 by_cases q:v=5
 ·obtain⟨u,k2,u0,u1,e,z⟩:=nx (R:=R) (N:=N) (t:=t) (o:=o) f H s (by omega) m d
  refine⟨[u],k2,by simp,by intro x hx;simp at hx;subst hx;exact⟨u0,u1⟩,e,fun K=>?_⟩
  rw[AY];unfold CL
  rw[n,z,q];rfl
 ·refine⟨[],m,by simp,by simp,d,fun K=>?_⟩
  rw[AY];unfold CL
  have:(v==5)=false:=by simpa using q
  rw[n,this];rfl
def A3k:Lu:=[48,49,50,51,52,53,54,55,56,57,97,98,99,100,101,102]
def X9{N:Nat}{c:UInt8}{i:Nat}(hi:i<16){K:Lu->O R}:VR N [c] (i:Int) K=K [c,A3k.getD i 0]:=by
 rw[rz];unfold wJ
 have e1:Int.tmod (i:Int) 16=(i:Int):=Int.tmod_eq_of_lt (by omega) (by omega)
 rw[e1,G9 (by omega)]
 have c1:(decide ((0:Int)<=(i:Int))&&(decide ((i:Int)<=((i+1:Nat):Int))&&(decide (((i+1:Nat):Int)<=(16:Int))&&decide ((16:Int)<=(16:Int)))))=true:=by simp;omega
 rw[c1,ct]
 simp only[A45,A9a]
 have:take 1 (drop i ([48,49,50,51,52,53,54,55,56,57,97,98,99,100,101,102]:Lu))=[A3k.getD i 0]:=by
  rw[N6 (by simpa using hi)]
  simp[A3k,hi]
 rw[this];rfl
end
end Gx.Cf
