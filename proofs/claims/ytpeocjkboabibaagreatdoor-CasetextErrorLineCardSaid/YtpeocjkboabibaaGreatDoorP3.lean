/- A part of the proof; each theorem says what it holds. -/
import Derived.Test.YtpeocjkboabibaaGreatDoorP2
set_option linter.unusedVariables false
set_option linter.defProp false
set_option linter.unusedSimpArgs false
open Nat (ble beq)
open List (take drop replicate)
open Go.IntKind (wrap)
namespace Gx
open Go Go.Proofs
set_option maxRecDepth 100000
noncomputable section
variable{R:Type}(N:Nat)
def D1(r0:Int->Int->Nat->Nat->LA->LA->O R)(s:RB)(a:Nat)(c:Lu)(d:Nat)(g:Bool)(b f:LA)(k2:Int->Int->Nat->LA->O R)(l m:Int)(h:Nat)(q:LA):O R:=(Eo N {s with nx:=l,er:=m,zG:=a,yG:=b} (fun r=>cond r (Jc N {s with nx:=l,er:=m,zG:=a,yG:=b} (fun t u v=>A3 N {s with nx:=u,er:=v,zG:=a,yG:=b} (fun w x y=>A3 N {s with nx:=x,er:=y,zG:=a,yG:=b} (fun z aa ab=>cond ((ble (h+1) 140737488355328)&&(ble ((h+1)*24) 140737488355328)) (k2 aa ab (h+1) ((q.take (h*3))++[.int .i64 t,.int .i64 w,.int .i64 z])) none)))) (cond ((ble (s.nO+1) 140737488355328)&&(ble ((s.nO+1)*72) 140737488355328)) (r0 l m (s.nO+1) a ((s.cO.take (s.nO*4))++[.str c,.imm (f.take (d*1)) d 1 false false,.bool g,.imm (q.take (h*3)) h 3 false false]) b) none)))
def B4(r0:Int->Int->Nat->Nat->LA->LA->O R)(s:RB)(a:Nat)(c:Lu)(d:Nat)(g:Bool)(b f:LA):Nat->Int->Int->Nat->LA->O R
|0=>fun _ _ _ _=>none
|n+1=>D1 N r0 s a c d g b f (B4 r0 s a c d g b f n)
def AC(N:Nat)(r0:Int->Int->Nat->Nat->LA->LA->O R)(s:RB)(a:Nat)(c:Lu)(d:Nat)(b f:LA)(q2:Bool->Int->Int->Nat->LA->O R)(o p:Int)(g:Bool):O R:=(q2 g o p 0 [])
def CH(r0:Int->Int->Nat->Nat->LA->LA->O R)(s:RB)(a:Nat)(c:Lu)(d:Nat)(b f:LA)(o p:Int)(g:Bool):O R:=AC N r0 s a c d b f (fun g=>B4 N r0 s a c d g b f N) o p g
def D2(r0:Int->Int->Nat->Nat->LA->LA->O R)(s:RB)(a:Nat)(c:Lu)(b:LA)(k0:Int->Int->Nat->LA->O R)(q1:Nat->LA->Int->Int->Bool->O R)(i j:Int)(d:Nat)(f:LA):O R:=(Fe N ([99,111,114,114,101,99,116,105,118,101]:Lu) {s with nx:=i,er:=j,zG:=a,yG:=b} (fun ac=>cond ac (Jb N {s with nx:=i,er:=j,zG:=a,yG:=b} (fun ad ae af=>cond ((ble (d+1) 140737488355328)&&(ble ((d+1)*8) 140737488355328)) (k0 ae af (d+1) ((f.take (d*1))++[.int .i64 ad])) none)) (Eo N {s with nx:=i,er:=j,zG:=a,yG:=b} (fun ag=>cond ag (Aj N ([99,111,114,114,101,99,116,105,118,101]:Lu) {s with nx:=i,er:=j,zG:=a,yG:=b} (fun ah ai=>q1 d f ah ai true)) (q1 d f i j false)))))
def B5(r0:Int->Int->Nat->Nat->LA->LA->O R)(s:RB)(a:Nat)(c:Lu)(b:LA):Nat->Int->Int->Nat->LA->O R
|0=>fun _ _ _ _=>none
|n+1=>D2 N r0 s a c b (B5 r0 s a c b n) (fun d f=>CH N r0 s a c d b f)
def K4(r0:Int->Int->Nat->Nat->LA->LA->O R)(q0:Nat->Lu->LA->Int->Int->Nat->LA->O R)(s:RB):O R:=(P7 N s fun c aj ak a b=>Aj N ([108,105,110,101,115]:Lu) {s with nx:=aj,er:=ak,zG:=a,yG:=b} (fun al am=>q0 a c b al am 0 []))
def In:=(Ae fun N s r0=>K4 (R:=R) N r0 (fun a c b=>B5 N r0 s a c b N) s).1
def Re(s r0):(@In R N s r0)=(K4 N r0 (fun a c b=>B5 N r0 s a c b N) s):=by rw[In,(Ae _).2]
def CI:Hints:={H:=hK 3 (hS (hS (hP [0,2] hL) hL) (hJ [0,2] hL (hS (hS (hP [0,2] hL) hL) hL))),free:=[100001,100002,100003,100004,100005,100006,100007,100008,100009,100010,100011,100012,100013,100014,100015,100016,100017],cob:=[1000002]}
def M1:=Aq4 (VX N) (VY N) (Eq.refl 110)
def GO:AT:=[Z_ N,Gr N,Uh N,M1 N,Oq N,Mx N]
def Sm(F:KF R):=P9 Tryz.f67 CI (GO N) [100000,100001,100002,100003,100004,100005,100006,100007,100008,100009,100010,100011,100012,100013,100014,100015] N F
def Di(s:RB)(F:KF R):Int->Int->Nat->Nat->LA->LA->O R:=fun an ao ap aq ar au=>F (.tup []) [(100000,bN 0 [A08 0 s.nw,iv an,iv ao,iv s.th,A08 1 s.nR,A08 2 s.nB,A08 3 s.nL,A08 4 s.nU,A08 5 s.nS,A08 6 s.nT,A08 7 ap,.bool s.bg,A08 8 s.zA,A08 9 s.zB,.own 300010 0 s.zC,.own 300011 0 s.zD,.own 300012 0 s.zE,.own 300013 0 s.zF,.own 300014 0 aq]),(300000,bQ 1 s.cw),(300001,bQ 1 s.cR),(300002,bQ 3 s.cB),(300003,bQ 12 s.cL),(300004,bQ 22 s.cU),(300005,bQ 9 s.cS),(300006,bQ 5 s.cT),(300007,bQ 4 ar),(300008,bQ 1 s.yA),(300009,bQ 1 s.yB),(300010,bQ 1 s.yC),(300011,bQ 1 s.yD),(300012,bQ 1 s.yE),(300013,bQ 1 s.yF),(300014,bQ 1 au)]
def Z'(s:RB)(a:Nat)(c:Lu)(d:Nat)(g:Bool)(b f:LA)(K:St->O R):=fun l m h q=>K ⟨[(0,.optr 100000 0),(2,op 0)],[(100000,bN 0 [A08 1 s.nw,iv l,iv m,iv s.th,A08 2 s.nR,A08 3 s.nB,A08 4 s.nL,A08 5 s.nU,A08 6 s.nS,A08 7 s.nT,A08 8 s.nO,.bool s.bg,A08 9 s.zA,.own 300010 0 s.zB,.own 300011 0 s.zC,.own 300012 0 s.zD,.own 300013 0 s.zE,.own 300014 0 s.zF,.own 300015 0 a]),(300000,bN 0 [.str c,.own 300016 0 d,.bool g,.own 300017 0 h]),(300001,bQ 1 s.cw),(300002,bQ 1 s.cR),(300003,bQ 3 s.cB),(300004,bQ 12 s.cL),(300005,bQ 22 s.cU),(300006,bQ 9 s.cS),(300007,bQ 5 s.cT),(300008,bQ 4 s.cO),(300009,bQ 1 s.yA),(300010,bQ 1 s.yB),(300011,bQ 1 s.yC),(300012,bQ 1 s.yD),(300013,bQ 1 s.yE),(300014,bQ 1 s.yF),(300015,bQ 1 b),(300016,bQ 1 f),(300017,bQ 3 q)]⟩
def aA(s:RB)(a:Nat)(c:Lu)(d:Nat)(b f:LA)(K:St->O R):=fun o p g=>K ⟨[(0,.optr 100000 0),(2,op 0)],[(100000,bN 0 [A08 1 s.nw,iv o,iv p,iv s.th,A08 2 s.nR,A08 3 s.nB,A08 4 s.nL,A08 5 s.nU,A08 6 s.nS,A08 7 s.nT,A08 8 s.nO,.bool s.bg,A08 9 s.zA,.own 300010 0 s.zB,.own 300011 0 s.zC,.own 300012 0 s.zD,.own 300013 0 s.zE,.own 300014 0 s.zF,.own 300015 0 a]),(300000,bN 0 [.str c,.own 300016 0 d,.bool g,.own 300017 0 0]),(300001,bQ 1 s.cw),(300002,bQ 1 s.cR),(300003,bQ 3 s.cB),(300004,bQ 12 s.cL),(300005,bQ 22 s.cU),(300006,bQ 9 s.cS),(300007,bQ 5 s.cT),(300008,bQ 4 s.cO),(300009,bQ 1 s.yA),(300010,bQ 1 s.yB),(300011,bQ 1 s.yC),(300012,bQ 1 s.yD),(300013,bQ 1 s.yE),(300014,bQ 1 s.yF),(300015,bQ 1 b),(300016,bQ 1 f),(300017,bQ 3 [])]⟩
def aB(s:RB)(a:Nat)(c:Lu)(b:LA)(K:St->O R):=fun i j d f=>K ⟨[(0,.optr 100000 0),(2,op 0)],[(100000,bN 0 [A08 1 s.nw,iv i,iv j,iv s.th,A08 2 s.nR,A08 3 s.nB,A08 4 s.nL,A08 5 s.nU,A08 6 s.nS,A08 7 s.nT,A08 8 s.nO,.bool s.bg,A08 9 s.zA,.own 300010 0 s.zB,.own 300011 0 s.zC,.own 300012 0 s.zD,.own 300013 0 s.zE,.own 300014 0 s.zF,.own 300015 0 a]),(300000,bN 0 [.str c,.own 300016 0 d,.bool false,.own 300017 0 0]),(300001,bQ 1 s.cw),(300002,bQ 1 s.cR),(300003,bQ 3 s.cB),(300004,bQ 12 s.cL),(300005,bQ 22 s.cU),(300006,bQ 9 s.cS),(300007,bQ 5 s.cT),(300008,bQ 4 s.cO),(300009,bQ 1 s.yA),(300010,bQ 1 s.yB),(300011,bQ 1 s.yC),(300012,bQ 1 s.yD),(300013,bQ 1 s.yE),(300014,bQ 1 s.yF),(300015,bQ 1 b),(300016,bQ 1 f),(300017,bQ 3 [])]⟩
def P_(F:KF R)(s a c d g b f):∀ n,Z' s a c d g b f (Ao (Sm N F (pz 21840) []) n)=(B4 N (Di s F) s a c d g b f n):=Gv fun n e=>(Dc (D1 N (Di s F) s a c d g b f) e:_)
def P'(F:KF R)(s a c d b f):aA s a c d b f (Cm (Sm N F (pz 1365) []))=(CH N (Di s F) s a c d b f):=(Dc (AC N (Di s F) s a c d b f) (Ai7 fun g=>(lW ..).trans (P_ ..)):_)
def QA(F:KF R)(s a c b):∀ n,aB s a c b (Ao (Sm N F (pz 1360) []) n)=(B5 N (Di s F) s a c b n):=Gv fun n e=>(HG (D2 N (Di s F) s a c b) e (YS fun d f=>(jW ..).trans (P' ..)):_)
def dR:=C8 N 67 (GO N) CI (NO fun
|[.optr 100000 0],s=>some fun _ k=>In N s (Di s k)
| _,_=>none) (RZ fun _ s=>by split;intro R F;exact(Dc (K4 N (Di s F) · s) (Al7 fun a c b=>(lW ..).trans (QA ..)):_).trans (Re ..).symm;trivial)
def A6(s:RB)(r0:Int->Int->Nat->Nat->Nat->Nat->Nat->Nat->Nat->Nat->Nat->Nat->Nat->Nat->LA->LA->LA->LA->LA->LA->LA->LA->LA->LA->LA->LA->O R)(r1:Int->Int->Int->Nat->LA->O R):O R:=(Bq N s fun c cp a b=>cond ((c==([99,97,115,101]:Lu))==s.bg) (Ak N 2 {s with nx:=a,er:=b} (fun ap=>r0 a ap s.nB s.nL s.nU s.nS s.nT s.nO s.zB s.zC s.zD s.zE s.zF s.zG s.cB s.cL s.cU s.cS s.cT s.cO s.yB s.yC s.yD s.yE s.yF s.yG)) (cond (c==([99,97,115,101]:Lu)) (Ou N 1 24 {s with nx:=a,er:=b,bg:=true} (fun d aq ar=>Aj N ([114,101,115,101,114,118,101]:Lu) {s with nx:=aq,er:=ar,th:=d,bg:=true} (fun au av=>Ch N {s with nx:=au,er:=av,th:=d,bg:=true} (fun g h aw i=>D8 N {s with nx:=h,er:=aw,th:=d,nR:=g,bg:=true,cR:=i} (fun ax=>r1 h ax d g i))))) (cond (c==([98,117,115]:Lu)) (Td N {s with nx:=a,er:=b} (fun j ay l m n o=>D8 N {s with nx:=j,er:=ay,nB:=l,zB:=m,cB:=n,yB:=o} (fun az=>r0 j az l s.nL s.nU s.nS s.nT s.nO m s.zC s.zD s.zE s.zF s.zG n s.cL s.cU s.cS s.cT s.cO o s.yC s.yD s.yE s.yF s.yG))) (cond (c==([108,105,110,101]:Lu)) (Mz N {s with nx:=a,er:=b} (fun p ba q r t u=>D8 N {s with nx:=p,er:=ba,nL:=q,zC:=r,cL:=t,yC:=u} (fun bb=>r0 p bb s.nB q s.nU s.nS s.nT s.nO s.zB r s.zD s.zE s.zF s.zG s.cB t s.cU s.cS s.cT s.cO s.yB u s.yD s.yE s.yF s.yG))) (cond (c==([117,110,105,116]:Lu)) (Rc N {s with nx:=a,er:=b} (fun v bc w x y z=>D8 N {s with nx:=v,er:=bc,nU:=w,zD:=x,cU:=y,yD:=z} (fun bd=>r0 v bd s.nB s.nL w s.nS s.nT s.nO s.zB s.zC x s.zE s.zF s.zG s.cB s.cL y s.cS s.cT s.cO s.yB s.yC z s.yE s.yF s.yG))) (cond (c==([115,116,111,114,101]:Lu)) (T0 N {s with nx:=a,er:=b} (fun aa be ab ac ad ae=>D8 N {s with nx:=aa,er:=be,nS:=ab,zE:=ac,cS:=ad,yE:=ae} (fun bf=>r0 aa bf s.nB s.nL s.nU ab s.nT s.nO s.zB s.zC s.zD ac s.zF s.zG s.cB s.cL s.cU ad s.cT s.cO s.yB s.yC s.yD ae s.yF s.yG))) (cond (c==([116,105,101]:Lu)) (Ze N {s with nx:=a,er:=b} (fun af bh ag ah ai aj=>D8 N {s with nx:=af,er:=bh,nT:=ag,zF:=ah,cT:=ai,yF:=aj} (fun bi=>r0 af bi s.nB s.nL s.nU s.nS ag s.nO s.zB s.zC s.zD s.zE ah s.zG s.cB s.cL s.cU s.cS ai s.cO s.yB s.yC s.yD s.yE aj s.yG))) (cond (c==([111,117,116,97,103,101]:Lu)) (In N {s with nx:=a,er:=b} (fun ak bj al am an ao=>D8 N {s with nx:=ak,er:=bj,nO:=al,zG:=am,cO:=an,yG:=ao} (fun bk=>r0 ak bk s.nB s.nL s.nU s.nS s.nT al s.zB s.zC s.zD s.zE s.zF am s.cB s.cL s.cU s.cS s.cT an s.yB s.yC s.yD s.yE s.yF ao))) (Ak N 2 {s with nx:=a,er:=b} (fun bl=>D8 N {s with nx:=a,er:=bl} (fun bm=>r0 a bm s.nB s.nL s.nU s.nS s.nT s.nO s.zB s.zC s.zD s.zE s.zF s.zG s.cB s.cL s.cU s.cS s.cT s.cO s.yB s.yC s.yD s.yE s.yF s.yG)))))))))))
def Ar:=(Ae (@A6 R)).1
def Aw:@Ar R=@A6 R:=(Ae _).2
def QB(s:RB)(F:KF R):Int->Int->Nat->Nat->Nat->Nat->Nat->Nat->Nat->Nat->Nat->Nat->Nat->Nat->LA->LA->LA->LA->LA->LA->LA->LA->LA->LA->LA->LA->O R:=fun e f bn bo bp bq br bs bt bu bv bw bx bz ca cb cc cd ce cf cg ch ci cj ck cl=>F (.tup []) [(100000,bN 0 [A08 0 s.nw,iv e,iv f,iv s.th,A08 1 s.nR,A08 2 bn,A08 3 bo,A08 4 bp,A08 5 bq,A08 6 br,A08 7 bs,.bool s.bg,A08 8 s.zA,A08 9 bt,.own 300010 0 bu,.own 300011 0 bv,.own 300012 0 bw,.own 300013 0 bx,.own 300014 0 bz]),(300000,bQ 1 s.cw),(300001,bQ 1 s.cR),(300002,bQ 3 ca),(300003,bQ 12 cb),(300004,bQ 22 cc),(300005,bQ 9 cd),(300006,bQ 5 ce),(300007,bQ 4 cf),(300008,bQ 1 s.yA),(300009,bQ 1 cg),(300010,bQ 1 ch),(300011,bQ 1 ci),(300012,bQ 1 cj),(300013,bQ 1 ck),(300014,bQ 1 cl)]
def QC(s:RB)(F:KF R):Int->Int->Int->Nat->LA->O R:=fun e f cm cn co=>F (.tup []) [(100000,bN 0 [A08 0 s.nw,iv e,iv f,iv cm,.own 300015 0 cn,A08 2 s.nB,A08 3 s.nL,A08 4 s.nU,A08 5 s.nS,A08 6 s.nT,A08 7 s.nO,.bool true,A08 8 s.zA,A08 9 s.zB,.own 300010 0 s.zC,.own 300011 0 s.zD,.own 300012 0 s.zE,.own 300013 0 s.zF,.own 300014 0 s.zG]),(300000,bQ 1 s.cw),(300001,bQ 1 s.cR),(300002,bQ 3 s.cB),(300003,bQ 12 s.cL),(300004,bQ 22 s.cU),(300005,bQ 9 s.cS),(300006,bQ 5 s.cT),(300007,bQ 4 s.cO),(300008,bQ 1 s.yA),(300009,bQ 1 s.yB),(300010,bQ 1 s.yC),(300011,bQ 1 s.yD),(300012,bQ 1 s.yE),(300013,bQ 1 s.yF),(300014,bQ 1 s.yG),(300015,bQ 1 co)]
def SM:=C8 N 24 [Bz N,Bo N,IV N,Gr N,Ue N,qr N,nW N,ja N,jc N,gi N,n0 N,dR N] pE (NO fun
|[.optr 100000 0],s=>some fun _ k=>Ar N s (QB s k) (QC s k)
| _,_=>none) (RZ fun _ s=>by split;intro R F;dsimp only;rw[Aw];kernel_rfl;trivial)
def H9(r0:LA->Int->Int->O R)(k0:Lu->Int->Bool->Nat->Int->Int->Int->Nat->Nat->Nat->Nat->Nat->Nat->Nat->Bool->Nat->Nat->Nat->Nat->Nat->Nat->LA->LA->LA->LA->LA->LA->LA->LA->LA->LA->LA->LA->LA->LA->O R)(aj:Lu)(u:Int)(ak:Bool)(ap:Nat)(aq ar j:Int)(a b c d f g h:Nat)(l:Bool)(v w x y z aa:Nat)(au m o p q r s t ab ac ad ae af ag:LA):O R:=(cond ak (strings_Cut N aj ([10]:Lu) fun bz al am=>fv N bz fun ah ai=>Eo N (RB.mk ah 0 0 j a b c d f g h l 0 v w x y z aa ai m o p q r s t [] ab ac ad ae af ag) fun ca=>cond (!ca) (k0 al (wrap .i64 (u+1)) am ah 0 0 j a b c d f g h l v w x y z aa ai m o p q r s t ab ac ad ae af ag) (Ar N (RB.mk ah 0 0 j a b c d f g h l 0 v w x y z aa ai m o p q r s t [] ab ac ad ae af ag) (fun av an aw ax ay az ba bb bc bd be bf bg bh bi bj bk bl bm bn bo bp bq br bs bt=>Ih N (RB.mk ah av an j a aw ax ay az ba bb l 0 bc bd be bf bg bh ai m bi bj bk bl bm bn [] bo bp bq br bs bt) fun cb=>cond (!cb) (r0 [A09,.nsl,.nsl,.nsl,.nsl,.nsl,.nsl,.nsl] (wrap .i64 (u+1)) an) (k0 al (wrap .i64 (u+1)) am ah av an j a aw ax ay az ba bb l bc bd be bf bg bh ai m bi bj bk bl bm bn bo bp bq br bs bt)) fun bu ao bv bw bx=>Ih N (RB.mk ah bu ao bv bw b c d f g h true 0 v w x y z aa ai bx o p q r s t [] ab ac ad ae af ag) fun cc=>cond (!cc) (r0 [A09,.nsl,.nsl,.nsl,.nsl,.nsl,.nsl,.nsl] (wrap .i64 (u+1)) ao) (k0 al (wrap .i64 (u+1)) am ah bu ao bv bw b c d f g h true v w x y z aa ai bx o p q r s t ab ac ad ae af ag))) (cond (!l) (r0 [A09,.nsl,.nsl,.nsl,.nsl,.nsl,.nsl,.nsl] 1 2) (r0 [.int .i64 j,.imm (m.take (a*1)) a 1 false false,.imm (o.take (b*3)) b 3 false false,.imm (p.take (c*12)) c 12 false false,.imm (q.take (d*22)) d 22 false false,.imm (r.take (f*9)) f 9 false false,.imm (s.take (g*5)) g 5 false false,.imm (t.take (h*4)) h 4 false false] 0 0)))
def F9(r0:LA->Int->Int->O R):Nat->Lu->Int->Bool->Nat->Int->Int->Int->Nat->Nat->Nat->Nat->Nat->Nat->Nat->Bool->Nat->Nat->Nat->Nat->Nat->Nat->LA->LA->LA->LA->LA->LA->LA->LA->LA->LA->LA->LA->LA->LA->O R
|0=>fun _ _ _ _ _ _ _ _ _ _ _ _ _ _ _ _ _ _ _ _ _ _ _ _ _ _ _ _ _ _ _ _ _ _ _=>none
|n+1=>H9 N r0 (F9 r0 n)
def MP(N:Nat)(r0:LA->Int->Int->O R)(q0:Lu->Int->Bool->Nat->Int->Int->Int->Nat->Nat->Nat->Nat->Nat->Nat->Nat->Bool->Nat->Nat->Nat->Nat->Nat->Nat->LA->LA->LA->LA->LA->LA->LA->LA->LA->LA->LA->LA->LA->LA->O R)(i:Lu):O R:=(cond (decide (((i.length:Nat):Int)>1048576)) (r0 [A09,.nsl,.nsl,.nsl,.nsl,.nsl,.nsl,.nsl] 0 8) (q0 i 0 true 0 0 0 0 0 0 0 0 0 0 0 false 0 0 0 0 0 0 [] [] [] [] [] [] [] [] [] [] [] [] [] []))
def He:=(Ae fun N i r0=>MP (R:=R) N r0 (F9 N r0 N) i).1
def QD(i r0):(@He R N i r0)=(MP N r0 (F9 N r0 N) i):=by rw[He,(Ae _).2]
def l8:Hints:={H:=hK 4 (hS (hK 1 (hS (hP [0,2,5,6,7] hL) hL)) hL),modes:=[(3,0),(0,0),(0,0)],cob:=[13]}
def qu:AT:=[JZ N,Acs N,Oq N,SM N,RR N]
def zb(F:KF R):=P9 Tryz.f11 l8 (qu N) [] N F
def JD(F:KF R):LA->Int->Int->O R:=fun cd ce cf=>F (.tup [.pagg cd false,iv ce,iv cf]) []
def zc(K:St->O R):=fun aj u ak ap aq ar j a b c d f g h l v w x y z aa au m o p q r s t ab ac ad ae af ag=>K ⟨[(0,.str aj),(2,op 0),(5,op 1),(6,iv u),(7,.bool ak)],hq [bN 0 [iv 0,.nsl,.nsl,.nsl,.nsl,.nsl,.nsl,.nsl],bN 0 [A08 2 ap,iv aq,iv ar,iv j,A08 3 a,A08 4 b,A08 5 c,A08 6 d,A08 7 f,A08 8 g,A08 9 h,.bool l,.own 300010 0 0,.own 300011 0 v,.own 300012 0 w,.own 300013 0 x,.own 300014 0 y,.own 300015 0 z,.own 300016 0 aa],bQ 1 au,bQ 1 m,bQ 3 o,bQ 12 p,bQ 22 q,bQ 9 r,bQ 5 s,bQ 4 t,bQ 1 [],bQ 1 ab,bQ 1 ac,bQ 1 ad,bQ 1 ae,bQ 1 af,bQ 1 ag]⟩
def qv(F:KF R):∀ n,zc (Ao (zb N F (pz 21828) []) n)=(F9 N (JD F) n):=Gv fun n e=>(Dc (H9 N (JD F)) e:_)
def Ac2:=C8 N 11 (qu N) l8 (fun
|[.str i],[]=>some fun _ k=>He N i (JD k)
| _,_=>none) fun _ _=>by split;intro R F;exact(Dc (MP N (JD F) · _) ((lW ..).trans (qv ..)):_).trans (QD ..).symm;trivial
end
end Gx
namespace Gx.Ct
open Go Go.Proofs Gx.Cf
section
variable{R:Type}{N:Nat}
def gj{α:Type}{e:α->LA}{sz:Nat}(d:∀ a,(e a).length=sz){l:List α}{j:Nat}(h:j<l.length):drop (Int.toNat (j:Int)*sz) (l.flatMap e)=e l[j]++(l.drop (j+1)).flatMap e:=by rw[Auf,Bm d l j h]
def Mi{α:Type}{e:α->LA}{sz:Nat}(d:∀ a,(e a).length=sz){l:List α}{j:Nat}(h:j<l.length):take sz (drop (Int.toNat (j:Int)*sz) (l.flatMap e))=e l[j]:=by rw[gj d h,List.take_append_of_le_length (by rw[d];exact Aui _),Aue (by rw[d];exact Aui _)]
def Sn{α:Type}{e:α->LA}{sz:Nat}(d:∀ a,(e a).length=sz){l:List α}{j:Nat}(h:j<l.length):ble sz (drop (Int.toNat (j:Int)*sz) (l.flatMap e)).length=true:=by rw[gj d h,Aua,d];simp
def DJ{j:Nat}(h:j<4611686018427387904):wrap .i64 ((j:Int)+1)=((j+1:Nat):Int):=by rw[Gx.i64 (by omega)];omega
def Dl{α:Type}{l:List α}{j:Nat}(h:j<l.length):l.drop j=l[j]::l.drop (j+1):=Au6 h
def Ey{α:Type}{l:List α}{j:Nat}(h:l.length<=j):l.drop j=[]:=Av8 h
def Ao6(c:CaseD)(t:TieD):Bool:=OI c t.imp&&(OI c t.exp&&OI c t.price)
def Fh:Prop:=∀ z,FA z->(tx z).length<=30
def At(nw:Nat)(cw:LA)(nx:Int)(r:List Ah):Prop:=∃ p:List Ah,cw=(p++r).map AV.str/\nw=(p++r).length/\nx=(p.length:Int)/\(p++r).length<=2000000
def gk{ws:List Ah}(h:ws.length<=2000000):At ws.length (ws.map AV.str) 0 ws:=⟨[],rfl,rfl,rfl,h⟩
def xI{nw:Nat}{cw:LA}{nx:Int}{w:Ah}{r:List Ah}(h:At nw cw nx (w::r)):At nw cw (wrap .i64 (nx+1)) r/\Ai nx nw=true/\decide (nx<(nw:Int))=true/\wrap .i64 ((wrap .i64 (nx+1)) - 1)=nx/\∀ F:Ah->O R,Mj (cw.drop (0+nx.toNat*1)) F=F w:=by
 obtain⟨p,e1,d,e3,e4⟩:=h
 have l:(p++w::r).length=p.length+(r.length+1):=by rw[Aua];rfl
 have f:wrap .i64 (nx+1)=((p.length+1:Nat):Int):=by rw[e3];exact DJ (by omega)
 refine⟨⟨p++[w],?_,?_,?_,?_⟩,?_,?_,?_,?_⟩
 ·rw[e1,Aun];rfl
 ·rw[d,Aun];rfl
 ·rw[f,Aua];rfl
 ·rw[Aun];exact e4
 ·rw[d,e3];exact Ab (by omega)
 ·rw[d,e3];exact decide_eq_true (by omega)
 ·rw[f,e3,Gx.i64 (by omega)];omega
 ·intro F
  rw[e1,e3,Au9,show 0+Int.toNat (p.length:Int)*1=(p.map AV.str).length from by rw[Auc];omega,Ax2]
  rfl
def Ao7{nw:Nat}{cw:LA}{nx:Int}(h:At nw cw nx []):decide (nx<(nw:Int))=false:=by
 obtain⟨p,e1,d,e3,e4⟩:=h
 rw[Auk]at d
 rw[d,e3];exact decide_eq_false (by omega)
def Aeu{s:RB}{K:Bool->O R}:Ih N s K=K (s.er==0):=by rw[IP];rfl
def nq{s:RB}(d:s.er=0){K:Bool->O R}{Y:O R}(k:K true=Y):Ih N s K=Y:=by rw[Aeu,d];exact k
def qw{s:RB}(d:s.er≠0){K:Bool->O R}{Y:O R}(k:K false=Y):Ih N s K=Y:=by rw[Aeu,beq_false_of_ne d];exact k
def Wf{s:RB}{w:Ah}{r:List Ah}(h:At s.nw s.cw s.nx (w::r))(d:s.er=0){K:Bool->O R}{Y:O R}(k:K true=Y):Eo N s K=Y:=by
 rw[Py];unfold Qy
 refine nq d ?_
 rw[(xI (R:=R) h).2.2.1];exact k
def MQ{s:RB}(h:At s.nw s.cw s.nx [])(d:s.er=0){K:Bool->O R}{Y:O R}(k:K false=Y):Eo N s K=Y:=by
 rw[Py];unfold Qy
 refine nq d ?_
 rw[Ao7 h];exact k
def VZ{s:RB}(d:s.er≠0){K:Bool->O R}{Y:O R}(k:K false=Y):Eo N s K=Y:=by
 rw[Py];unfold Qy
 refine qw d ?_
 exact k
def JE{s:RB}(d:s.er=0){a:Int}{K:Int->O R}{Y:O R}(k:K a=Y):Ak N a s K=Y:=by
 rw[V5];unfold V4
 rw[d];exact k
def Aj3{s:RB}(d:s.er≠0){a:Int}{K:Int->O R}{Y:O R}(k:K s.er=Y):Ak N a s K=Y:=by
 rw[V5];unfold V4
 rw[beq_false_of_ne d];exact k
def Ck{s:RB}{w:Ah}{r:List Ah}(h:At s.nw s.cw s.nx (w::r))(d:s.er=0){K:Lu->Bool->Int->Int->O R}{Y:O R}(k:∀ x,At s.nw s.cw x r->K w true x 0=Y):Bq N s K=Y:=by
 rw[Pz];unfold Qz
 refine Wf h d ?_
 obtain⟨f,l,t,n,q⟩:=xI (R:=R) h
 rw[n,l,q,d]
 exact k _ f
def qx{s:RB}(h:At s.nw s.cw s.nx [])(d:s.er=0){K:Lu->Bool->Int->Int->O R}{Y:O R}(k:K [] false s.nx 2=Y):Bq N s K=Y:=by
 rw[Pz];unfold Qz
 exact MQ h d (JE d k)
def gn{s:RB}(d:s.er≠0){K:Lu->Bool->Int->Int->O R}{Y:O R}(k:K [] false s.nx s.er=Y):Bq N s K=Y:=by
 rw[Pz];unfold Qz
 exact VZ d (Aj3 d k)
def Bu{s:RB}{w:Ah}{r:List Ah}(h:At s.nw s.cw s.nx (w::r))(d:s.er=0){K:Int->Int->O R}{Y:O R}(k:∀ x,At s.nw s.cw x r->K x 0=Y):Aj N w s K=Y:=by
 rw[Ud];unfold Tu
 refine Ck h d fun x hx=>?_
 show cond (cond true (!(w==w)) false) _ _=_
 rw[beq_self_eq_true];exact k x hx
def DV{s:RB}{w:Ah}(d:s.er≠0){K:Int->Int->O R}{Y:O R}(k:K s.nx s.er=Y):Aj N w s K=Y:=by
 rw[Ud];unfold Tu
 exact gn d k
def Jd{s:RB}{a w:Ah}{r:List Ah}(h:At s.nw s.cw s.nx (w::r))(d:s.er=0){K:Bool->O R}{Y:O R}(k:K (!(w==a))=Y):Fe N a s K=Y:=by
 rw[K0];unfold Kz
 refine Wf h d ?_
 obtain⟨n,f,q,t,l⟩:=xI (R:=R) h
 rw[f,l]
 exact k
def l_{s:RB}{a:Ah}(h:At s.nw s.cw s.nx [])(d:s.er=0){K:Bool->O R}{Y:O R}(k:K false=Y):Fe N a s K=Y:=by
 rw[K0];unfold Kz
 exact MQ h d k
def V_{s:RB}{a:Ah}(d:s.er≠0){K:Bool->O R}{Y:O R}(k:K false=Y):Fe N a s K=Y:=by
 rw[K0];unfold Kz
 exact VZ d k
def zd{c:CaseD}{i:Int}(h:Ly i c.buses.l.length=true){F:Ah->O R}:Mj (drop ((Int.toNat i)*3) (c.buses.l.flatMap BusD.av)) F=F (Ay (Bt c) i):=by
 unfold Ly at h
 simp only[Auh,decide_eq_true_eq]at h
 have d:i.toNat<c.buses.l.length:=by omega
 rw[Bm Qu _ _ d]
 have e:Ay (Bt c) i=c.buses.l[i.toNat].name:=by
  unfold Ay Bt
  rw[Auo,Awb,Aug d];rfl
 rw[e];rfl
def JF{i:Int}{n:Nat}(h:Ly i n=true):Ai i n=true:=by
 unfold Ly at h;unfold Ai
 simp only[Auh,decide_eq_true_eq]at h
 simp;omega
end
end Gx.Ct
namespace Gx.Ct
open Go Go.Proofs Gx.Cf
def Aev(u:UnitD):List Ah:=[Vh,tx u.noLoad,ix,tx u.rampUp,tx u.rampDown,XM,tx u.startRamp,iy,tx u.stopRamp,XN,tx u.upTime,tx u.downTime,tx u.startTime,iz,tx u.hotCost,tx u.coldCost,tx u.hotHours,De,tx u.reserve,tx u.reservePrice,Xh]++(u.away.l.map tx++(Yr::(Xi u.state++[tx u.hours,tx u.output])))
def QE(u:UnitD):Bool:=A8 [u.noLoad,u.rampUp,u.rampDown,u.startRamp,u.stopRamp,u.upTime,u.downTime,u.startTime,u.hotCost,u.coldCost,u.hotHours,u.reserve,u.reservePrice]||(A8 u.away.l||A8 [u.hours,u.output])
end Gx.Ct
namespace Gx.Ct
open Go Go.Proofs Gx.Cf
structure Ready(M:Nat)(c:CaseD):Prop where
 i:CaseI M c
 n:∀ l∈Cc c,∀ s∈l,s.length<=16
 k:Qr c=true
 c:Ok c=true
def Do{l:List Ah}(h:∀ s∈l,s.length<=16)(i:Int):(Ay l i).length<=16:=by
 unfold Ay
 rw[Auo]
 cases d:l[i.toNat]? with
|none=>exact Axl _
|some s=>exact h s (Ayy d)
section
variable{R:Type}{N:Nat}
def Aof{α:Type}{e:α->LA}{sz:Nat}(q:∀ a,(e a).length=sz){f:α->Ah}(d:∀ a (r:LA) (F:Ah->O R),Mj (e a++r) F=F (f a)){l:List α}{i:Int}(h:Ly i l.length=true){F:Ah->O R}:Mj (drop ((Int.toNat i)*sz) (l.flatMap e)) F=F (Ay (l.map f) i):=by
 unfold Ly at h
 simp only[Auh,decide_eq_true_eq]at h
 have n:i.toNat<l.length:=by omega
 rw[Bm q _ _ n,d]
 congr 1
 unfold Ay
 rw[Auo,Awb,Aug n];rfl
def Aqg{c:CaseD}{i:Int}(h:Ly i c.lines.l.length=true){F:Ah->O R}:Mj (drop ((Int.toNat i)*12) (c.lines.l.flatMap LineD.av)) F=F (Ay (Cb c) i):=Aof Fy (fun _ _ _=>rfl) h
def Aqh{c:CaseD}{i:Int}(h:Ly i c.units.l.length=true){F:Ah->O R}:Mj (drop ((Int.toNat i)*22) (c.units.l.flatMap UnitD.av)) F=F (Ay (Cl c) i):=Aof Jy (fun _ _ _=>rfl) h
end
end Gx.Ct
namespace Gx
open Go Go.Proofs
set_option maxRecDepth 100000
noncomputable section
variable{R:Type}(N:Nat)
def QF(N:Nat)(r0:LA->O R):O R:=(r0 [.str ([48]:Lu),.str ([49]:Lu),.str ([45,53]:Lu),.str ([49,47,50]:Lu),.str ([97]:Lu),.str ([98,48]:Lu),.str ([99,97,115,101]:Lu),.str ([98,117,115]:Lu),.str ([108,105,110,101]:Lu),.str ([97,119,97,121]:Lu),.str ([111,110]:Lu),.str ([49,48,77,87]:Lu),.str ([48,46,53,71,87]:Lu),.str ([51,48,109,105,110]:Lu),.str ([50,104]:Lu),.str ([53,69,85,82,47,77,87,104]:Lu),.str ([51,69,85,82]:Lu),.str ([120]:Lu),.str ([99,111,114,114,101,99,116,105,118,101]:Lu),.str ([49,48,55,51,55,52,49,56,50,53]:Lu),.str ([49,46,53]:Lu),.str ([51,47,48]:Lu),.str ([35]:Lu),.str ([117,48]:Lu),.str ([108,48]:Lu),.str ([66]:Lu),.str ([55,77,87,104]:Lu),.str ([53,48,37]:Lu),.str ([10]:Lu),.str ([100,101,109,97,110,100]:Lu)])
def JG:=(Ae (@QF R)).1
def RW:@JG R=@QF R:=(Ae _).2
def qy(F:KF R):LA->O R:=fun a=>F (A08 0 30) (hq [bQ 1 a])
def tH:=C8 N 15 [] { H:=hL,nils:=[(0,1)],modes:=[(2,1)] } (fun
|[],[]=>some fun _ k=>JG N (qy k)
| _,_=>none) fun _ _=>by split;intro R F;dsimp only;rw[RW];kernel_rfl;trivial
def Fi(k0:Lu->Int->Int->O R)(r0:Bool->O R)(d:Int)(a:Nat)(f g:Int)(j:LA)(h:Nat)(b:LA)(k1:Lu->Int->Int->Int->Int->O R)(m:Lu)(ac y ad v:Int):O R:=(cond (decide (v<ad)) (cond (Ai v h) (Mj (j.drop (v.toNat*1)) fun ah=>cond (ble (ah.length+1) 140737488355328) (cond (ble (m.length+(List.length (ah++([32]:Lu)))) 140737488355328) (k1 (m++(ah++([32]:Lu))) ac y ad (wrap .i64 (v+1))) none) none) none) (cond (ac==f) (JG N fun am=>JG N fun az=>cond (Ai (Int.tmod (wrap .i64 d) 30) 30) (Mj (am.drop (0+(((Int.tmod (wrap .i64 d) 30).toNat)*1))) fun ai=>cond (ble (m.length+ai.length) 140737488355328) (cond (ble ((List.length (m++ai))+1) 140737488355328) (k0 ((m++ai)++([10]:Lu)) g (wrap .i64 (y+1))) none) none) none) (cond (ble (m.length+1) 140737488355328) (k0 (m++([10]:Lu)) g (wrap .i64 (y+1))) none)))
def Ce(k0:Lu->Int->Int->O R)(r0:Bool->O R)(d:Int)(a:Nat)(f g:Int)(j:LA)(h:Nat)(b:LA):Nat->Lu->Int->Int->Int->Int->O R
|0=>fun _ _ _ _ _=>none
|n+1=>Fi N k0 r0 d a f g j h b (Ce k0 r0 d a f g j h b n)
def Fj(N:Nat)(k2:Lu->Int->O R)(r0:Bool->O R)(a:Nat)(c:Int)(l:LA)(i:Nat)(b:LA)(k4:Lu->Int->Int->Int->O R)(w:Lu)(ae af x:Int):O R:=(cond (decide (x<af)) (cond (Ai x i) (Mj (l.drop (x.toNat*1)) fun aj=>cond (ble (aj.length+1) 140737488355328) (cond (ble (w.length+(List.length (aj++([32]:Lu)))) 140737488355328) (k4 (w++(aj++([32]:Lu))) ae af (wrap .i64 (x+1))) none) none) none) (cond (ble (w.length+1) 140737488355328) (k2 (w++([10]:Lu)) (wrap .i64 (ae+1))) none))
def C1(k2:Lu->Int->O R)(r0:Bool->O R)(a:Nat)(c:Int)(l:LA)(i:Nat)(b:LA):Nat->Lu->Int->Int->Int->O R
|0=>fun _ _ _ _=>none
|n+1=>Fj N k2 r0 a c l i b (C1 k2 r0 a c l i b n)
def Ia(N:Nat)(k2:Lu->Int->O R)(r0:Bool->O R)(a:Nat)(c:Int)(b:LA)(q4:LA->Nat->Lu->Int->Int->Int->O R)(z:Lu)(s:Int):O R:=(cond (Ai s a) (By 1 (b.drop (0+(s.toNat*1))) fun l i=>q4 l i z s (i:Int) 0) none)
def Fx(k2:Lu->Int->O R)(r0:Bool->O R)(a:Nat)(c:Int)(b:LA)(z:Lu)(s:Int):O R:=Ia N k2 r0 a c b (fun l i=>C1 N k2 r0 a c l i b N) z s
def Fk(r0:Bool->O R)(a:Nat)(c:Int)(b:LA)(k2:Lu->Int->O R)(q3:Lu->Int->O R)(aa:Lu)(ab:Int):O R:=(cond ((decide ((wrap .i64 (ab+1))<c))==true) (cond (cond true (decide (ab<(a:Int))) false) (q3 aa ab) (He N aa fun an ao ak=>cond ((beq 0 0)&&((beq an.length 8)&&(beq 8 8))) (Uu N fun ap=>cond (ap==true) (cond ((cond true (decide (c>=1)) false)==true) (cond ((ak==0)==false) (cond ((c==1)==true) (cond ((cond true (ak==2) false)==true) (r0 (cond true (cond false true (cond true (ao==1) false)) false)) (r0 false)) (r0 false)) (r0 true)) (r0 false)) (r0 false)) none)) (He N aa fun aq ar al=>cond ((beq 0 0)&&((beq aq.length 8)&&(beq 8 8))) (Uu N fun au=>cond (au==true) (cond ((cond true (decide (c>=1)) false)==true) (cond ((al==0)==false) (cond ((c==1)==true) (cond ((cond true (al==2) false)==true) (r0 (cond true (cond false true (cond true (ar==1) false)) false)) (r0 false)) (r0 false)) (r0 true)) (r0 false)) (r0 false)) none))
def Bv(r0:Bool->O R)(a:Nat)(c:Int)(b:LA):Nat->Lu->Int->O R
|0=>fun _ _=>none
|n+1=>Fk N r0 a c b (Bv r0 a c b n) (Fx N (Bv r0 a c b n) r0 a c b)
def Fl(r0:Bool->O R)(d:Int)(a:Nat)(f:Int)(b:LA)(k0:Lu->Int->Int->O R)(q1:Int->LA->Nat->Lu->Int->Int->Int->Int->O R)(q2:Int->Lu->Int->O R)(ag:Lu)(g t:Int):O R:=(cond (decide (t<g)) (cond (Ai t a) (By 1 (b.drop (0+(t.toNat*1))) fun j h=>q1 g j h ag t t (h:Int) 0) none) (He N ag fun av c aw=>cond ((beq 0 0)&&((beq av.length 8)&&(beq 8 8))) (cond (aw==0) (cond ((c==0)==true) (Uu N fun ax=>r0 (cond true ax false)) (r0 false)) (q2 c ([]:Lu) 0)) none))
def Bl(r0:Bool->O R)(d:Int)(a:Nat)(f:Int)(b:LA):Nat->Lu->Int->Int->O R
|0=>fun _ _ _=>none
|n+1=>Fl N r0 d a f b (Bl r0 d a f b n) (fun g j h=>Ce N (Bl r0 d a f b n) r0 d a f g j h b N) (fun c=>Bv N r0 a c b N)
def G8(r0:Bool->O R)(q0:Nat->Int->LA->Lu->Int->Int->O R)(o:LA)(p:Nat)(u q:Bool)(r d:Int):O R:=(PM N o p false q fun ay=>jR N ay fun a b=>ib N r (a:Int) fun f=>q0 a f b ([]:Lu) (a:Int) 0)
def Hm:=(Ae fun N o p u q r d r0=>G8 (R:=R) N r0 (fun a f b=>Bl N r0 d a f b N) o p u q r d).1
def P8(o p u q r d r0):(@Hm R N o p u q r d r0)=(G8 N r0 (fun a f b=>Bl N r0 d a f b N) o p u q r d):=by rw[Hm,(Ae _).2]
def Rf:Hints:={H:=hK 4 (hS (hK 1 (hS (hP [2,7,8,9,31,32,33] (hK 2 (hS (hS (hK 1 (hS (hK 1 (hS (hP [2,7,8,9,10,31,32,33,38,39,40] hL) hL)) hL)) hL) hL))) hL)) (hK 3 (hS (hK 1 (hS (hP [7,15,17,18] (hJ [7,15,17,18] hL (hS (hS (hS (hK 1 (hS (hP [7,15,17,18,93,94,95] hL) hL)) hL) hL) hL))) hL)) hL)))}
def Sa:AT:=[wz N,zM N,yf N,Ac2 N,sZ N,tH N]
def D3(F:KF R):=P9 Tryz.f4 Rf (Sa N) [] N F
def GP(d:Int)(a:Nat)(f g:Int)(j:LA)(h:Nat)(b:LA)(K:St->O R):=fun m ac y ad v=>K ⟨[(2,.int .u8 d),(7,A08 0 a),(8,iv f),(9,.str m),(10,iv ac),(31,A08 0 a),(32,iv g),(33,iv y),(38,.imm j h 1 false false),(39,iv ad),(40,iv v)],hq [bQ 1 b]⟩
def GQ(a:Nat)(c:Int)(l:LA)(i:Nat)(b:LA)(K:St->O R):=fun w ae af x=>K ⟨[(7,A08 0 a),(15,iv c),(17,.str w),(18,iv ae),(93,.imm l i 1 false false),(94,iv af),(95,iv x)],hq [bQ 1 b]⟩
def GR(a:Nat)(c:Int)(b:LA)(K:St->O R):=fun z s=>K ⟨[(7,A08 0 a),(15,iv c),(17,.str z),(18,iv s)],hq [bQ 1 b]⟩
def D4(a:Nat)(c:Int)(b:LA)(K:St->O R):=fun aa ab=>K ⟨[(7,A08 0 a),(15,iv c),(17,.str aa),(18,iv ab)],hq [bQ 1 b]⟩
def Je(d:Int)(a:Nat)(f:Int)(b:LA)(K:St->O R):=fun ag g t=>K ⟨[(2,.int .u8 d),(7,A08 0 a),(8,iv f),(9,.str ag),(31,A08 0 a),(32,iv g),(33,iv t)],hq [bQ 1 b]⟩
def AD Q0 (F:KF R) (d a f g j h b):∀ n,GP d a f g j h b (Ao (D3 N F (pz 5722099780) [Q0]) n)=(Ce N (Je d a f b Q0) (C5 F) d a f g j h b n):=Gv fun n e=>(Dc (Fi N (Je d a f b Q0) (C5 F) d a f g j h b) e:_)
def AE Q2 (F:KF R) (a c l i b):∀ n,GQ a c l i b (Ao (D3 N F (pz 91625686020) [Q2]) n)=(C1 N (D4 a c b Q2) (C5 F) a c l i b n):=Gv fun n e=>(Dc (Fj N (D4 a c b Q2) (C5 F) a c l i b) e:_)
def AF Q2 (F:KF R) (a c b):GR a c b (Cm (D3 N F (pz 89478209) [Q2]))=(Fx N (D4 a c b Q2) (C5 F) a c b):=(Dc (Ia N (D4 a c b Q2) (C5 F) a c b) (YS fun l i=>(lW ..).trans (AE ..)):_)
def AG(F:KF R)(a c b):∀ n,D4 a c b (Ao (D3 N F (pz 5592388) []) n)=(Bv N (C5 F) a c b n):=Gv fun n e=>(HG (Fk N (C5 F) a c b) e ((jW ..).trans ((AF ..).trans (xh (Fx _ · _ _ _ _) e))):_)
def AH(F:KF R)(d a f b):∀ n,Je d a f b (Ao (D3 N F (pz 21828) []) n)=(Bl N (C5 F) d a f b n):=Gv fun n e=>(Aq5 (Fl N (C5 F) d a f b) e (Al7 fun g j h=>(lW ..).trans ((AD ..).trans (xh (Ce _ · _ _ _ _ _ _ _ _ _) e))) (Ai7 fun c=>(lW ..).trans (AG ..)):_)
def Sb:=C8 N 4 (Sa N) Rf (fun
|[.imm o p 1 u q,.int .i64 r,.int .u8 d],[]=>some fun _ k=>Hm N o p u q r d (C5 k)
| _,_=>none) fun _ _=>by split;intro R F;exact(Dc (G8 N (C5 F) · _ _ _ _ _ _) (Al7 fun a f b=>(lW ..).trans (AH ..)):_).trans (P8 ..).symm;trivial
def Rg:=(Sb N).tw
def GS:i8 Tryz.prog 4 (Rg N):=(Sb N).tok
end
end Gx
namespace Gx.Ct
open Go Go.Proofs Gx.Cf
def Ready.bn{M:Nat}{c:CaseD}(h:Ready M c):∀ s∈Bt c,s.length<=16:=h.n _ (by simp[Cc])
def Ready.ln{M:Nat}{c:CaseD}(h:Ready M c):∀ s∈Cb c,s.length<=16:=h.n _ (by simp[Cc])
def Ready.un{M:Nat}{c:CaseD}(h:Ready M c):∀ s∈Cl c,s.length<=16:=h.n _ (by simp[Cc])
def Ready.sn{M:Nat}{c:CaseD}(h:Ready M c):∀ s∈cX c,s.length<=16:=h.n _ (by simp[Cc])
def Ready.tn{M:Nat}{c:CaseD}(h:Ready M c):∀ s∈Ab1 c,s.length<=16:=h.n _ (by simp[Cc])
def Ready.on{M:Nat}{c:CaseD}(h:Ready M c):∀ s∈sK c,s.length<=16:=h.n _ (by simp[Cc])
def Ready.cnt{M:Nat}{c:CaseD}(h:Ready M c):c.buses.l.length<=32/\c.lines.l.length<=64/\c.units.l.length<=16/\c.stores.l.length<=8/\c.ties.l.length<=8/\c.outs.l.length<=64:=by
 have:=h.c
 unfold Ok at this
 simpa only[Auh,decide_eq_true_eq]using this
def Ready.kn{M:Nat}{c:CaseD}(h:Ready M c):(∀ l∈c.lines.l,Ly l.fr c.buses.l.length=true/\Ly l.tl c.buses.l.length=true)/\(∀ u∈c.units.l,Ly u.bus c.buses.l.length=true)/\(∀ s∈c.stores.l,Ly s.bus c.buses.l.length=true)/\(∀ t∈c.ties.l,Ly t.bus c.buses.l.length=true)/\∀ o∈c.outs.l,(∀ l∈o.lines.l,Ly l c.lines.l.length=true)/\∀ m∈o.moves.l,Ly m.unit c.units.l.length=true:=by
 have d:=h.k
 unfold Qr at d
 simp only[Auh,Auv]at d
 exact⟨d.1,fun u f=>(d.2.1 u f).1,d.2.2.1,d.2.2.2.1,d.2.2.2.2⟩
def gp(c:CaseD)(o:OutD):Bool:=o.lines.l.all (fun l=>Ly l c.lines.l.length)&&o.moves.l.all (fun m=>Ly m.unit c.units.l.length)
end Gx.Ct
namespace Gx.Cf
open Go Go.Proofs
section
variable{R:Type}
def KN{p:Lc}{f:Int->O R}:Bf .i64 (drop 3 (Ds p)) f=f (Jm p):=by rcases p with _|⟨⟨a,b,d⟩,e,l⟩<;>simp[Ds,Ajf,Cx,Jm]
def Ph{N:Nat}{i:Int}{u:UnitD}{o:Bool}{p:Lc}{K:LA->O R}(hs:u.segs.l.length<4611686018427387904):∀(m j fuel:Nat)(a:Int),j+m=u.segs.l.length->m<fuel ->
  Dq N K i (Ds p) o u.av fuel a (j:Int)=K (Ds (nd p (dG a (u.segs.l.drop j)==wrap .i64 (u.max - u.min)) (3,i,4) e4))
| 0,j,fuel+1,a,f,_=>by
  rw[Dq];unfold G4
  simp only[jN,Aob,Aoc,KN,Ac (show(4:Int)≠0 by decide)]
  rw[Jr (by omega),R9 (l:=u.segs.l) (by omega),dG,NP]
  rcases p with _|⟨x,e,d⟩
  ·simp[Jm]
  ·have:(e != 0)=true:=by simpa using d
   simp[Jm,this,nd]
| m+1,j,fuel+1,a,f,s=>by
  rw[Dq];unfold G4
  have h:j<u.segs.l.length:=by omega
  simp only[jN,Aob,Aoc,KN,Ac (show(4:Int)≠0 by decide),Ags h,Ab h]
  rw[Ig h,F8 (by omega),Ph hs m (j+1) fuel _ (by omega) (by omega),Mp h,dG,NP]
  rcases p with _|⟨x,e,d⟩
  ·simp[Jm]
  ·have n:(e != 0)=true:=by simpa using d
   have q:(e==0)=false:=by simpa using d
   simp[Jm,n,q,nd]
def W2{N:Nat}{i:Int}{u:UnitD}{o:Bool}{K:LA->O R}(hs:T9 u.segs.l.length N):∀(m j fuel:Nat)(p:Lc),j+1+m=u.segs.l.length->m<fuel ->
  Cy N K i o u.av fuel ((j+1:Nat):Int) (Ds p)=K (Ds (nd (nd p (dH (u.segs.l.drop j)) (3,i,4) Aoy) (dG 0 u.segs.l==wrap .i64 (u.max - u.min)) (3,i,4) e4))
|0,j,fuel+1,p,d,_=>by
  rw[Cy];unfold En
  rw[jN,Jr (by omega),cf,Mp (l:=u.segs.l) (j:=j) (by omega),R9 (l:=u.segs.l) (j:=j+1) (by omega),qL,NP]
  have:=Ph (R:=R) (N:=N) (i:=i) (u:=u) (o:=o) (p:=p) (K:=K) hs.2 u.segs.l.length 0 N 0 (by omega) hs.1
  simpa using this
|m+1,j,fuel+1,p,d,n=>by
  rw[Cy];unfold En
  have h:j+1<u.segs.l.length:=by omega
  have h':j<u.segs.l.length:=by omega
  have f:=hs.2
  simp only[jN]
  rw[Ig h,ct,Ab h,ct,uC h,pZ (by omega),Ab h',ct,uC h',F8 (by omega),Ac (by decide),W2 hs m (j+1) fuel _ (by omega) (by omega),Mp h',Mp h,OV,ye]
def W3{N:Nat}{i:Int}{u:UnitD}{o:Bool}{K:LA->O R}(hN:8<=N)(hs:T9 u.segs.l.length N):∀(m j fuel:Nat)(p:Lc),j+m=u.segs.l.length->m<fuel ->
  Cz N K i (u.segs.l.flatMap SegD.av) u.segs.l.length o u.av fuel (u.segs.l.length:Int) (j:Int) (Ds p) =
   K (Ds (nd (nd (nd p ((u.segs.l.drop j).all ff) (3,i,4) e3) (dH u.segs.l) (3,i,4) Aoy) (dG 0 u.segs.l==wrap .i64 (u.max - u.min)) (3,i,4) e4))
| 0,j,fuel+1,p,f,_=>by
  rw[Cz];unfold G5
  rw[Jr (by omega),cf,R9 (l:=u.segs.l) (by omega),Awa,NP]
  rcases d:u.segs.l with _|⟨b,r⟩
  ·rw[zI,NP]
   have l2:=Ph (R:=R) (N:=N) (i:=i) (u:=u) (o:=o) (p:=p) (K:=K) hs.2 u.segs.l.length 0 N 0 (by omega) hs.1
   rcases N with _|N
   ·omega
   ·rw[Cy];unfold En
    rw[jN,d]
    simp only[Aud,Aws]
    rw[show decide ((1:Int)<0)=false by decide,cf]
    rw[d]at l2
    simpa using l2
  ·have:=W2 (R:=R) (N:=N) (i:=i) (u:=u) (o:=o) (K:=K) hs r.length 0 N p (by rw[d];simp;omega) (by have:=hs.1;rw[d]at this;simp at this;omega)
   rw[d]at this
   simpa using this
|m+1,j,fuel+1,p,f,t=>by
  rw[Cz];unfold G5
  have h:j<u.segs.l.length:=by omega
  have n:=hs.2
  rw[Ig h,ct,Ab h,ct,Auf,Bm FN _ _ h,Mp h,Au5,F8 (by omega)]
  have q:ble 2 (List.length (u.segs.l[j].av++List.flatMap SegD.av (drop (j+1) u.segs.l)))=true:=by rw[F4,Aua,FN];simp
  have s:take 2 (u.segs.l[j].av++List.flatMap SegD.av (drop (j+1) u.segs.l))=u.segs.l[j].av:=Awi (FN _)
  rw[q,ct,s,FN]
  simp only[SegD.av,setCells,Ga,Au3,Auk,Azb,Avm,Au0,Awp,Aub,Aud,Cx,F4,va,Bg,Nat.reduceAdd,decide_true,Awg,Aw2,Avz,cond_true,Aux,Aui,Ep hN,Ac (show(3:Int)≠0 by decide),W3 hN hs m (j+1) fuel _ (show j+1+m=_ by omega) (show m<fuel by omega)]
  unfold ff
  rw[ye,ye]
  cases F5 1 1048576 u.segs.l[j].width<;>rfl
def HA{N:Nat}{p:Lc}{j:Nat}{u:UnitD}{o:Bool}{K:LA->O R}(hN:8<=N)(hs:T9 u.segs.l.length N):
  E9 N u.av o (j:Int) (Ds p) K=K (Ds (Ajr u j p)):=by
 rw[Ss];unfold Jh
 simp only[jN,Ac (show(8:Int)≠0 by decide)]
 have:=W3 (R:=R) (N:=N) (i:=j) (u:=u) (o:=o) (K:=K) hN hs u.segs.l.length 0 N (nd p (decide ((u.segs.l.length:Int)<=8)) (3,j,4) e8) (by omega) hs.1
 simpa[Ajr]using this
def AI{N:Nat}{i:Int}{l:List MoveD}{o:Bool}{K:LA->O R}(hN:8<=N)(hs:l.length<4611686018427387904):∀(m j fuel:Nat)(p:Lc),j+m=l.length->m<fuel ->
  Eg N K i (l.flatMap MoveD.av) l.length o fuel (l.length:Int) (j:Int) (Ds p)=K (Ds (nd p ((l.drop j).all zK) (6,i,3) e3))
|0,j,fuel+1,p,d,_=>by
  rw[Eg];unfold H0
  rw[Jr (by omega),cf,R9 (by omega),Awa,NP]
|m+1,j,fuel+1,p,d,q=>by
  rw[Eg];unfold H0
  have h:j<l.length:=by omega
  rw[Ig h,ct,Ab h,ct,Auf,Bm Rv _ _ h,Mp h,Au5,F8 (by omega)]
  have f:ble 3 (List.length (l[j].av++List.flatMap MoveD.av (drop (j+1) l)))=true:=by rw[F4,Aua,Rv];simp
  have n:take 3 (l[j].av++List.flatMap MoveD.av (drop (j+1) l))=l[j].av:=Awi (Rv _)
  rw[f,ct,n,Rv]
  simp only[MoveD.av,setCells,Ga,Au3,Auk,Azb,Avm,Au0,Awp,Aub,Aud,Cx,F4,va,Bg,Nat.reduceAdd,decide_true,Awg,Aw2,Avz,cond_true,Aux,Aui,m_ hN,Ac (show(3:Int)≠0 by decide),AI hN hs m (j+1) fuel _ (show j+1+m=_ by omega) (show m<fuel by omega)]
  rw[ye];rfl
def AJ{N:Nat}{c:CaseD}{i:Int}{u:OutD}{o:Bool}{p:Lc}{K:LA->O R}(hN:8<=N)(d:c.units.l.length<=1000000)(hs:T9 u.moves.l.length N)(f:u.moves.l.length<8796093022208):∀(m j fuel:Nat),j+m=u.moves.l.length->m<fuel ->
  Eh N K i (u.moves.l.flatMap MoveD.av) u.moves.l.length o (Ds p) c.av u.av fuel j (u.moves.l.length:Int) (j:Int) (A0 ((u.moves.l.take j).map (·.unit))) =
   K (Ds (nd (nd (nd p (u.moves.l.all (Amr c)) (6,i,3) Agr) (ro (u.moves.l.map (·.unit))) (6,i,3) Aoy) (u.moves.l.all zK) (6,i,3) e3))
| 0,j,fuel+1,n,_=>by
  rw[Eh];unfold H1
  have q:j=u.moves.l.length:=by omega
  rw[Jr (by omega),cf,Auz,Aue (by simp[J7];omega),Aue (show u.moves.l.length<=j by omega)]
  rw[Kb,Ik (by simp;omega) (by simpa using hs),Ac (by decide),BA (by simp;omega) (by simpa using hs),Ac (by decide),Aet]
  have:=AI (R:=R) (N:=N) (i:=i) (l:=u.moves.l) (o:=o) (K:=K) hN hs.2 u.moves.l.length 0 N (nd (nd p (u.moves.l.all (Amr c)) (6,i,3) Agr) (ro (u.moves.l.map (·.unit))) (6,i,3) Aoy) (by omega) hs.1
  have e:(u.moves.l.map (·.unit)).all (F5 0 (wrap .i64 ((c.units.l.length:Int) - 1)))=u.moves.l.all (Amr c):=by
   rw[List.all_map];congr 1;funext m;exact Ab0 _ _ (by omega)
  rw[e]
  simpa using this
| m+1,j,fuel+1,n,y=>by
  rw[Eh];unfold H1
  have h:j<u.moves.l.length:=by omega
  have s:ble 3 (List.length (u.moves.l[j].av++List.flatMap MoveD.av (drop (j+1) u.moves.l)))=true:=by rw[F4,Aua,Rv];simp
  have t:take 3 (u.moves.l[j].av++List.flatMap MoveD.av (drop (j+1) u.moves.l))=u.moves.l[j].av:=Awi (Rv _)
  have v:(decide (j<=140737488355327)&&decide ((j+1)*8<=140737488355328))=true:=by simp;omega
  have x:take (j*1) (A0 ((u.moves.l.take j).map (·.unit)))++[.int .i64 u.moves.l[j].unit]=A0 ((u.moves.l.take (j+1)).map (·.unit)):=by
   rw[Aue (by simp[J7];omega),Au4 h,Au9,<-TN];rfl
  rw[Ig h,ct,Ab h,ct,Auf,Bm Rv _ _ h,F8 (by omega),s,ct,t,Rv]
  simp only[MoveD.av,setCells,Ga,Au3,Auk,Azb,Avm,Awp,Aub,Aud,Cx,F4,va,Bg,Nat.reduceAdd,Nat.reduceLeDiff,decide_true,Awg,Aw2,Avz,cond_true,Aux,Aui,v,x,AJ hN d hs f m (j+1) fuel (show j+1+m=_ by omega) (show m<fuel by omega)]
def V'{N:Nat}{c:CaseD}{p:Lc}{o:Bool}{j:Nat}{K:LA->O R}(hs:Small c N)(h:j<c.ties.l.length):
  Tk N c.av o (j:Int) (Ds p) K=K (Ds (Amq c j c.ties.l[j] p)):=by
 have hN:=hs.n64
 have hN8:8<=N:=by omega
 have d:=hs.tie
 have v:=hs.top
 have q:c.ties.l[j]∈c.ties.l:=Aur h
 have x:=hs.tim _ q;have s:=hs.tex _ q;have t:=hs.tpr _ q
 have f:=@Ei R N c (c.ties.l.map (·.name)) o (k:=5) (n:=j) (hN:=hN) (hL:=fun K=>FO hs) (hn:=by simpa using h) (hs:=⟨by have:=d.1;omega,by have:=d.2;omega⟩)
 have u:(c.ties.l.map (·.name))[j]'(by simpa using h)=c.ties.l[j].name:=by simp
 rw[u]at f
 rw[BS];unfold Xg 
 rw[To,Ab h,ct,Auf,Bm Ol _ _ h]
 generalize c.ties.l[j]=b at *
 have y:ble 5 (List.length (b.av++List.flatMap TieD.av (drop (j+1) c.ties.l)))=true:=by rw[F4,Aua,Ol];simp
 have z:take 5 (b.av++List.flatMap TieD.av (drop (j+1) c.ties.l))=b.av:=Awi (Ol b)
 rw[y,ct,z,Ol]
 simp only[Dn,f,TieD.av,Avm,Au0,Cx,Dw,Co,F4,va,decide_true,Awg,cond_true]
 simp only[Kc hN8 (show c.buses.l.length<4611686018427387904 by omega),Fb rfl x,Fb rfl s,Fb rfl t]
 rfl
def QG{N:Nat}{c:CaseD}{p:Lc}{o:Bool}{j:Nat}{K:LA->O R}(hs:Small c N)(h:j<c.stores.l.length):
  Pp N c.av o (j:Int) (Ds p) K=K (Ds (qK c j c.stores.l[j] p)):=by
 have hN:=hs.n64
 have hN8:8<=N:=by omega
 have d:=hs.sto
 have s:=hs.top
 have v:c.stores.l[j]∈c.stores.l:=Aur h
 skip
 have f:=@Ei R N c (c.stores.l.map (·.name)) o (k:=4) (n:=j) (hN:=hN) (hL:=fun K=>Vn hs) (hn:=by simpa using h) (hs:=⟨by have:=d.1;omega,by have:=d.2;omega⟩)
 have q:(c.stores.l.map (·.name))[j]'(by simpa using h)=c.stores.l[j].name:=by simp
 rw[q]at f
 rw[Wn];unfold T7 
 rw[Mq,Ab h,ct,Auf,Bm Lk _ _ h]
 generalize c.stores.l[j]=b at *
 have t:ble 9 (List.length (b.av++List.flatMap StoreD.av (drop (j+1) c.stores.l)))=true:=by rw[F4,Aua,Lk];simp
 have u:take 9 (b.av++List.flatMap StoreD.av (drop (j+1) c.stores.l))=b.av:=Awi (Lk b)
 rw[t,ct,u,Lk]
 simp only[Dn,f,StoreD.av,Avm,Au0,Axj,Awp,Aub,Aud,Cx,F4,va,Bg,Nat.reduceAdd,decide_true,Awg,Aw2,cond_true,Aux,Aui]
 simp only[Kc hN8 (show c.buses.l.length<4611686018427387904 by omega),Ep hN8,Ac (show(3:Int)≠0 by decide),HQ hN8]
 unfold qK;cases Nj b.eff<;>cases decide (b.eff.num>0)<;>rfl
def SN{N:Nat}{c:CaseD}{p:Lc}{o:Bool}{j:Nat}{K:LA->O R}(hs:Small c N)(h:j<c.lines.l.length):
  Mm N c.av o (j:Int) (Ds p) K=K (Ds (Bk c j c.lines.l[j] p)):=by
 have hN:=hs.n64
 have hN8:8<=N:=by omega
 have d:=hs.lin
 have s:=hs.top
 have t:c.lines.l[j]∈c.lines.l:=Aur h
 have u:=hs.law _ t
 have f:=@Ei R N c (c.lines.l.map (·.name)) o (k:=2) (n:=j) (hN:=hN) (hL:=fun K=>Zw hs) (hn:=by simpa using h) (hs:=⟨by have:=d.1;omega,by have:=d.2;omega⟩)
 have q:(c.lines.l.map (·.name))[j]'(by simpa using h)=c.lines.l[j].name:=by simp
 rw[q]at f
 rw[Zq];unfold Pn L0 Ql Sf Qk Se
 rw[G9,Ab h,ct,Auf,Bm Fy _ _ h]
 generalize c.lines.l[j]=b at *
 have v:ble 12 (List.length (b.av++List.flatMap LineD.av (drop (j+1) c.lines.l)))=true:=by rw[F4,Aua,Fy];simp
 have x:take 12 (b.av++List.flatMap LineD.av (drop (j+1) c.lines.l))=b.av:=Awi (Fy b)
 rw[v,ct,x,Fy]
 simp only[Dn,f,LineD.av,Avm,Au0,Axj,Awp,Aub,Aud,Cx,Dw,Co,F4,va,Bg,Nat.reduceAdd,Nat.reduceLeDiff,decide_true,Awg,Aw2,cond_true,Aux]
 simp only[Kc hN8 (show c.buses.l.length<4611686018427387904 by omega),Ep hN8,Ac (show(1:Int)≠0 by decide),Ac (show(3:Int)≠0 by decide),HQ hN8,Wp rfl u]
 unfold Bk;rw[show(b.fr != b.tl)=(b.tl != b.fr) by simp[bne,BEq.comm (a:=b.fr)]];cases Nj b.re<;>cases Nj b.smin<;>cases Nj b.smax<;>rfl
def Aew(c:CaseD)(j:Nat)(u:UnitD)(p:Lc):Lc :=
 let p:=fe ((c.units.l.map (·.name)).take j) 3 j u.name p
 let p:=nd p (kz c u.bus) (3,j,1) Agr
 let p:=nd p (F5 0 1048576 u.min) (3,j,2) e3
 let p:=nd p (F5 u.min 1048576 u.max) (3,j,3) e3
 let p:=Ajr u j p
 let p:=nd p (F5 0 1048576 u.noLoad) (3,j,5) e3
 let p:=nd p (F5 0 1048576 u.rampUp) (3,j,6) e3
 let p:=nd p (F5 0 1048576 u.rampDown) (3,j,7) e3
 let p:=nd p (F5 u.min u.max u.startRamp) (3,j,8) e3
 let p:=nd p (F5 u.min u.max u.stopRamp) (3,j,9) e3
 let p:=nd p (F5 0 24 u.upTime) (3,j,10) e3
 nd p (F5 0 24 u.downTime) (3,j,11) e3
def Aj4(c:CaseD)(j:Nat)(u:UnitD)(p:Lc):Lc :=
 let p:=nd p (F5 0 24 u.startTime) (3,j,12) e3
 let p:=nd p (F5 0 1048576 u.hotCost) (3,j,13) e3
 let p:=nd p (F5 0 1048576 u.coldCost) (3,j,14) e3
 let p:=nd p (F5 0 24 u.hotHours) (3,j,15) e3
 let p:=nd p (F5 0 1048576 u.reserve) (3,j,16) e3
 let p:=nd p (F5 0 1048576 u.reservePrice) (3,j,17) e3
 let p:=p_ c.hours u.away.l (3,j,18) p
 let p:=nd p (F5 0 2 u.state) (3,j,19) Agr
 let p:=nd p (u.state != 1||decide (u.startTime>0)) (3,j,19) Aq6
 let p:=nd p (F5 1 48 u.hours) (3,j,20) e3
 let p:=nd p (u.state != 1||decide (u.hours<=u.startTime)) (3,j,20) e3
 cond (u.state==2) (nd p (F5 u.min u.max u.output) (3,j,21) e3) (nd p (u.output==0) (3,j,21) e3)
def Aqi(n:Int):F5 0 0 n=(n==0):=by
 unfold F5
 by_cases h:n=0
 ·simp[h]
 ·have:(n==0)=false:=by simpa using h
  rw[this];simp;omega
def Amy{c:CaseD}{j:Nat}{u:UnitD}{p:Lc}:Aj4 c j u (Aew c j u p)=zJ c j u p:=by
 show _=(let p:=nd (Aew c j u p) (F5 0 24 u.startTime) (3,j,12) e3
  let p:=nd p (F5 0 1048576 u.hotCost) (3,j,13) e3
  let p:=nd p (F5 0 1048576 u.coldCost) (3,j,14) e3
  let p:=nd p (F5 0 24 u.hotHours) (3,j,15) e3
  let p:=nd p (F5 0 1048576 u.reserve) (3,j,16) e3
  let p:=nd p (F5 0 1048576 u.reservePrice) (3,j,17) e3
  let p:=p_ c.hours u.away.l (3,j,18) p
  let p:=nd p (F5 0 2 u.state) (3,j,19) Agr
  let p:=nd p (u.state != 1||u.startTime != 0) (3,j,19) Aq6
  let p:=nd p (F5 1 48 u.hours) (3,j,20) e3
  let p:=nd p (u.state != 1||decide (u.hours<=u.startTime)) (3,j,20) e3
  cond (u.state==2) (nd p (F5 u.min u.max u.output) (3,j,21) e3) (nd p (F5 0 0 u.output) (3,j,21) e3))
 unfold Aj4
 rw[Aqi]
 cases hq:nd (Aew c j u p) (F5 0 24 u.startTime) (3,(j:Int),12) e3 with
|some x=>simp only[Aml,p_]
| none =>
  have d:F5 0 24 u.startTime=true:=by
   cases f:F5 0 24 u.startTime with
   |true=>rfl
   |false =>
    rw[f]at hq
    cases n:Aew c j u p<;>rw[n]at hq<;>simp[nd]at hq
  have:decide (u.startTime>0)=(u.startTime != 0):=by
   unfold F5 at d
   simp at d
   by_cases h:u.startTime=0
   ·simp[h]
   ·have q:(u.startTime != 0)=true:=by simpa using h
    rw[q];simp;omega
  rw[this]
def SO{N:Nat}{c:CaseD}{p:Lc}{o:Bool}{j:Nat}{K:LA->O R}(hs:Small c N)(h:j<c.units.l.length):
  Mo N c.av o (j:Int) (Ds p) K=K (Ds (zJ c j c.units.l[j] p)):=by
 have hN:=hs.n64
 have hN8:8<=N:=by omega
 have d:=hs.uni
 have u:=hs.top
 have v:c.units.l[j]∈c.units.l:=Aur h
 have x:=hs.seg _ v;have q:=hs.uaw _ v
 have f:=@Ei R N c (c.units.l.map (·.name)) o (k:=3) (n:=j) (hN:=hN) (hL:=fun K=>Zx hs) (hn:=by simpa using h) (hs:=⟨by have:=d.1;omega,by have:=d.2;omega⟩)
 have s:(c.units.l.map (·.name))[j]'(by simpa using h)=c.units.l[j].name:=by simp
 rw[s]at f
 rw[Zr];unfold Po L8 Qm Sh
 rw[Kb,Ab h,ct,Auf,Bm Jy _ _ h]
 generalize c.units.l[j]=b at *
 have y:ble 22 (List.length (b.av++List.flatMap UnitD.av (drop (j+1) c.units.l)))=true:=by rw[F4,Aua,Jy];simp
 have z:take 22 (b.av++List.flatMap UnitD.av (drop (j+1) c.units.l))=b.av:=Awi (Jy b)
 rw[y,ct,z,Jy]
 have t:∀(p:Lc)(K:LA->O R),E9 N [.str b.name,.int .i64 b.bus,.int .i64 b.min,.int .i64 b.max,b.segs.av 2 SegD.av,.int .i64 b.noLoad,.int .i64 b.rampUp,.int .i64 b.rampDown,.int .i64 b.startRamp,.int .i64 b.stopRamp,.int .i64 b.upTime,.int .i64 b.downTime,.int .i64 b.startTime,.int .i64 b.hotCost,.int .i64 b.coldCost,.int .i64 b.hotHours,.int .i64 b.reserve,.int .i64 b.reservePrice,b.away.av 1 Sr,.int .i64 b.state,.int .i64 b.hours,.int .i64 b.output] o j (Ds p) K=K (Ds (Ajr b j p)):=fun p K=>HA hN8 x
 simp only[Dn,f,UnitD.av,Avm,Au0,Axj,Awp,Cx,Dw,Co,F4,va,decide_true,Awg,cond_true,cond_false,Aui]
 simp only[Kc hN8 (show c.buses.l.length<4611686018427387904 by omega),Ep hN8,Ac (show(3:Int)≠0 by decide),Ac (show(12:Int)≠0 by decide),Ac (show(16:Int)≠0 by decide),t,Wp rfl q]
 rw[<-Amy]
 unfold Aj4
 by_cases s1:b.state=1
 ·simp[s1];rfl
 ·have a4:(b.state != 1)=true:=by simpa using s1
  rw[a4]
  cases b.state==2<;>rfl
def MR{N:Nat}{c:CaseD}{p:Lc}{o:Bool}{j:Nat}{K:LA->O R}(hs:Small c N)(h:j<c.outs.l.length):
  Iw N c.av o (j:Int) (Ds p) K=K (Ds (Agt c j c.outs.l[j] p)):=by
 have hN:=hs.n64
 have hN8:8<=N:=by omega
 have d:=hs.out
 have f:=hs.top
 have t:c.outs.l[j]∈c.outs.l:=Aur h
 have y:=hs.oli _ t;have q:=hs.omo _ t;have v:=hs.omb _ t
 have s:=@Ei R N c (c.outs.l.map (·.name)) o (k:=6) (n:=j) (hN:=hN) (hL:=fun K=>FP hs) (hn:=by simpa using h) (hs:=⟨by have:=d.1;omega,by have:=d.2;omega⟩)
 have x:(c.outs.l.map (·.name))[j]'(by simpa using h)=c.outs.l[j].name:=by simp
 rw[x]at s
 rw[Ve];unfold L9 Ji Nf
 rw[Ni,Ab h,ct,Auf,Bm Ms _ _ h]
 generalize c.outs.l[j]=b at *
 have z:ble 4 (List.length (b.av++List.flatMap OutD.av (drop (j+1) c.outs.l)))=true:=by rw[F4,Aua,Ms];simp
 have A:take 4 (b.av++List.flatMap OutD.av (drop (j+1) c.outs.l))=b.av:=Awi (Ms b)
 rw[z,ct,A,Ms]
 have l1:=fun p=>AJ (R:=R) (N:=N) (c:=c) (i:=j) (u:=b) (o:=o) (p:=p) (K:=K) hN8 f.2.2.1 q v b.moves.l.length 0 N (by omega) q.1
 simp only[Awp,Av9,Aws,A0]at l1
 simp only[va,decide_true,Awg,cond_true,Hr,Dn,s,Ams,Aet,Aoz,Ep hN8,Ik rfl y,BA rfl y,G9,Ac (show(4:Int)≠0 by decide),Ac (show(8:Int)≠0 by decide),Ac (show(11:Int)≠0 by decide),Ac (show(12:Int)≠0 by decide),Ac (show(16:Int)≠0 by decide),l1]
 have a1:F5 1 2 (b.lines.l.length:Int)=((b.lines.l.length:Int)==1||(b.lines.l.length:Int)==2):=by
  unfold F5
  by_cases x1:b.lines.l.length=1
  ·simp[x1]
  ·by_cases x2:b.lines.l.length=2
   ·simp[x2]
   ·have y1:((b.lines.l.length:Int)==1)=false:=by simp;omega
    have y2:((b.lines.l.length:Int)==2)=false:=by simp;omega
    rw[y1,y2];simp;omega
 have a2:b.lines.l.all (F5 0 (wrap .i64 ((c.lines.l.length:Int) - 1)))=b.lines.l.all fun n=>decide (0<=n)&&decide (n<(c.lines.l.length:Int)):=by
  congr 1;funext n;exact Ab0 _ _ (by omega)
 rw[a1,a2]
 unfold Agt Acf
 cases b.corr
 ·simp
 ·simp
end
end Gx.Cf
namespace Gx.Cf
inductive Conn(es:List (Nat×Nat)):Nat->Nat->Prop
|refl (a:Nat):Conn es a a
|fwd {u v b:Nat}:(u,v)∈es->Conn es v b->Conn es u b
|bwd {u v b:Nat}:(u,v)∈es->Conn es u b->Conn es v b
def Conn.trans{es:List (Nat×Nat)}{a b c:Nat}(n:Conn es a b)(d:Conn es b c):Conn es a c:=by
 induction n with
|refl=>exact d
|fwd f _ l=>exact .fwd f (l d)
|bwd f _ l=>exact .bwd f (l d)
def Conn.symm{es:List (Nat×Nat)}{a b:Nat}(h:Conn es a b):Conn es b a:=by
 induction h with
|refl=>exact .refl _
|fwd d _ f=>exact f.trans (.bwd d (.refl _))
|bwd d _ f=>exact f.trans (.fwd d (.refl _))
def Conn.mono{es fs:List (Nat×Nat)}(hs:∀ e∈es,e∈fs){a b:Nat}(h:Conn es a b):Conn fs a b:=by
 induction h with
|refl=>exact .refl _
|fwd d _ f=>exact .fwd (hs _ d) f
|bwd d _ f=>exact .bwd (hs _ d) f
def lc(es:List (Nat×Nat))(b:Nat):Prop:=∀ a,a<b->¬ Conn es a b
open Classical in
noncomputable def AK(n:Nat)(es:List (Nat×Nat)):Nat:=((List.range n).filter fun b=>decide (lc es b)).length
def Ac3{n:Nat}{es fs:List (Nat×Nat)}(h:∀ e∈es,e∈fs):AK n fs<=AK n es:=by
 unfold AK
 have:∀(l:List Nat),(l.filter fun b=>@decide (lc fs b) (Classical.propDecidable _)).length<=(l.filter fun b=>@decide (lc es b) (Classical.propDecidable _)).length:=by
  intro l
  induction l with
  |nil=>simp
  | cons a r d =>
   rw[Aw9,Aw9]
   by_cases x:lc fs a
   ·have:lc es a:=fun b f q=>x b f (q.mono h)
    simp[x,this,d]
   ·by_cases y:lc es a<;>simp[x,y]<;>omega
 exact this _
def Tf(n:Nat):List Int:=(List.range n).map fun b:Nat=>(b:Int)
def uJ{n a:Nat}(h:a<n):(Tf n).getD a 0=(a:Int):=by rw[Auo,Tf,Awb,List.getElem?_range h];rfl
structure LeastOk(n:Nat)(es:List (Nat×Nat))(L:List Int):Prop where
 len:L.length=n
 low:∀ b,b<n->0<=L.getD b 0/\L.getD b 0<=b
 con:∀ b,b<n->Conn es (L.getD b 0).toNat b
def Aex(es:List (Nat×Nat))(L:List Int):Prop:=∀ e∈es,L.getD e.1 0=L.getD e.2 0
def Amz(L:List Int):Nat:=((List.range L.length).filter fun b=>L.getD b 0==(b:Int)).length
def ld{n:Nat}{es:List (Nat×Nat)}{L:List Int}(h:LeastOk n es L)(s:Aex es L)(t:∀ e∈es,e.1<n/\e.2<n):Amz L=AK n es:=by
 unfold Amz AK
 rw[h.len]
 congr 1
 apply List.filter_congr
 intro b f
 have f:b<n:=by simpa using f
 have conn_eq:∀ a b,Conn es a b->L.getD a 0=L.getD b 0:=by
  intro a b l
  induction l with
  |refl=>rfl
  |fwd d _ q=>exact(s _ d).trans q
  |bwd d _ q=>exact(s _ d).symm.trans q
 have u:=h.low b f
 by_cases x:L.getD b 0=(b:Int)
 ·have:lc es b:=fun a v l=>by
   have e:=conn_eq a b l
   have:=(h.low a (by omega)).2
   omega
  have x':(L.getD b 0==(b:Int))=true:=by simpa using x
  rw[x'];simp[this]
 ·have x':(L.getD b 0==(b:Int))=false:=by simpa using x
  have:¬ lc es b:=fun d=>d (L.getD b 0).toNat (by omega) (h.con b f)
  rw[x'];simp[this]
end Gx.Cf
namespace Gx.Cf
open Go Go.Proofs
section
variable{R:Type}
def QH{l:List Int}{j:Nat}(h:j<l.length):l.getD j 0=l[j]:=by rw[Auo,Aug h];rfl
def uK{x:Int}{n:Nat}(d:0<=x)(f:x.toNat<n):Ai x n=true:=by simp[Ai];omega
def Aj5{l:List Int}{x:Int}(h:x.toNat<l.length){f:Int->O R}:Bf .i64 (drop (0+((Int.toNat x)*1)) (A0 l)) f=f (l.getD x.toNat 0):=by rw[Aux,Auz,pF h,QH h]
def gq(l:List Int)(j:Nat)(v:Int):List.set (A0 l) j (.int .i64 v)=A0 (l.set j v):=by simp[A0,List.map_set]
def xJ{l:List Int}{x:Nat}(h:x<l.length):((beq 1 1)&&((ble ((0+(x*1))+1) (List.length (A0 l)))&&(!false)))=true:=by rw[va,F4,J7];simp;omega
def Jt(c:CaseD)(l:Int):Nat×Nat:=match c.lines.l[l.toNat]? with
|some x=>(x.fr.toNat,x.tl.toNat)
|none=>(0,0)
structure LnV(c:CaseD)(l:Int)(x:LineD):Prop where
 l0:0<=l
 lt:l.toNat<c.lines.l.length
 at':c.lines.l[l.toNat]?=some x
 f0:0<=x.fr
 f1:x.fr.toNat<c.buses.l.length
 t0:0<=x.tl
 t1:x.tl.toNat<c.buses.l.length
def Aey{c:CaseD}{l:Int}{x:LineD}(h:LnV c l x):Jt c l=(x.fr.toNat,x.tl.toNat):=by unfold Jt;rw[h.at']
def Aqj{c:CaseD}{l:Int}{x:LineD}(h:LnV c l x){f:Int->O R}:Bf .i64 (drop 1 (drop ((Int.toNat l)*12) (c.lines.l.flatMap LineD.av))) f=f x.fr:=by
 have e:c.lines.l[l.toNat]'h.lt=x:=by have:=h.at';rw[Aug h.lt]at this;simpa using this
 rw[Bm Fy _ _ h.lt,e];simp[LineD.av,Cx]
def Aqk{c:CaseD}{l:Int}{x:LineD}(h:LnV c l x){f:Int->O R}:Bf .i64 (drop 2 (drop ((Int.toNat l)*12) (c.lines.l.flatMap LineD.av))) f=f x.tl:=by
 have e:c.lines.l[l.toNat]'h.lt=x:=by have:=h.at';rw[Aug h.lt]at this;simpa using this
 rw[Bm Fy _ _ h.lt,e];simp[LineD.av,Cx]
def Ac4{L:List Int}{n j:Nat}(f:L.length=n)(h:j<n):((Tf n).take j++L.drop j).set j (j:Int)=(Tf n).take (j+1)++L.drop (j+1):=by
 have hi:(Tf n).length=n:=by simp[Tf]
 have e:(Tf n)[j]'(by omega)=(j:Int):=by simp[Tf]
 have d:j - ((Tf n).take j).length=0:=by simp[hi];omega
 rw[Ayu _ _ (by simp;omega),d,Au4 (by omega),Mp (l:=L) (by omega),e,Azf,Aun];rfl
def je(h:Int):List LineD->Nat->List Int
|[],_=>[]
|x::r,j=>cond (x.away.l.contains h) (je h r (j+1)) ((j:Int)::je h r (j+1))
def WA(h:Int):∀(l:List LineD)(j:Nat),(je h l j).length<=l.length
|[],_=>by simp[je]
|x::r,j=>by rw[je];have:=WA h r (j+1);cases x.away.l.contains h<;>simp<;>omega
def ze(h:Int):∀(l:List LineD)(j:Nat)(a:Int),a∈je h l j->(j:Int)<=a/\a<j+l.length
|[],_,_,d=>by simp[je]at d
| x::r,j,a,d=>by
  rw[je]at d
  have f:=ze h r (j+1) a
  cases hx:x.away.l.contains h<;>rw[hx]at d<;>simp at d
  ·rcases d with rfl|d
   ·simp;omega
   ·have:=f d;simp at this ⊢;omega
  ·have:=f d;simp at this ⊢;omega
def Bh(c:CaseD)(h:Int):List Int:=je h c.lines.l 0
def xK{A B:List Int}{n:Nat}(h:n=A.length):(take (n*1) (A0 A))++A0 B=A0 (A++B):=by rw[Auz,Aue (by simp[J7,h]),TN]
def WB{N:Nat}{c:CaseD}{h:Int}{o:Bool}{K:Nat->LA->O R}(hs:Small c N):∀(m j fuel:Nat)(A:List Int),j+m=c.lines.l.length->m<fuel->A.length<=j ->
  Gh N K h o c.av fuel A.length (j:Int) (A0 A)=K (A++je h (c.lines.l.drop j) j).length (A0 (A++je h (c.lines.l.drop j) j))
|0,j,fuel+1,A,t,_,_=>by
  rw[Gh];unfold Pq
  rw[G9,Jr (by omega),cf,R9 (l:=c.lines.l) (by omega),je,Auk]
| m+1,j,fuel+1,A,t,C,hA=>by
  rw[Gh];unfold Pq
  have d:j<c.lines.l.length:=by omega
  have s:=hs.top.2.1
  have u:c.lines.l[j]∈c.lines.l:=Aur d
  have v:=hs.law _ u
  simp only[G9]
  rw[Ig d,ct,Ab d,ct,Auf,Bm Fy _ _ d,Mp (l:=c.lines.l) d,je]
  have n:=WB (N:=N) (c:=c) (h:=h) (o:=o) (K:=K) hs m (j+1) fuel (A++[(j:Int)]) (by omega) (by omega) (by simp;omega)
  have q:=WB (N:=N) (c:=c) (h:=h) (o:=o) (K:=K) hs m (j+1) fuel A (by omega) (by omega) (by omega)
  generalize c.lines.l[j]=b at *
  have x:(ble (A.length+1) 140737488355328&&ble ((A.length+1)*8) 140737488355328)=true:=by rw[F4,F4];simp;omega
  have y:∀(r:LA)(f:LA->Nat->O R),By 1 (drop 11 (b.av++r)) f=f (A0 b.away.l) b.away.l.length:=fun r f=>by simp[LineD.av,Dw,Co]
  have z:take (A.length*1) (A0 A)++[.int .i64 (j:Int)]=A0 (A++[(j:Int)]):=xK (B:=[(j:Int)]) rfl
  rw[y,OC rfl v,x,ct,z,F8 (by omega)]
  cases b.away.l.contains h with
  |true=>simp only[Av7,cond_false,cond_true];exact q
  |false =>
   simp only[Avz,cond_true,cond_false]
   rw[Aua]at n
   simpa using n
def zf{N:Nat}{c:CaseD}{h:Int}{o:Bool}{K:Nat->LA->O R}(hs:Small c N):Su N c.av o h K=K (Bh c h).length (A0 (Bh c h)):=by
 rw[HO];unfold Vf
 have:=WB (R:=R) (N:=N) (c:=c) (h:=h) (o:=o) (K:=K) hs c.lines.l.length 0 N [] (by omega) hs.lin.1 (by simp)
 simpa[Bh,A0]using this
def Cg(e:Nat×Nat):LA:=[.int .i64 (e.1:Int),.int .i64 (e.2:Int)]
def Wg(e:Nat×Nat):(Cg e).length=2:=rfl
def YC(es:List (Nat×Nat)):(es.flatMap Cg).length=es.length*2:=by
 induction es with
|nil=>rfl
|cons e r d=>rw[Au1,Aua,d,Wg];simp;omega
def qz{N:Nat}{c:CaseD}{o:Bool}{ls:List Int}{K:Nat->Nat->LA->LA->O R}(f:ls.length<=1000000)(d:∀ l∈ls,∃ x,LnV c l x):∀(m j fuel:Nat),j+m=ls.length->m<fuel ->
  Ng N K ls.length o c.av (A0 ls) fuel j (ls.length:Int) (j:Int) (((ls.take j).map (Jt c)).flatMap Cg)=K ls.length ls.length ((ls.map (Jt c)).flatMap Cg) (A0 ls)
|0,j,fuel+1,n,_=>by
  rw[Ng];unfold Yp
  have:j=ls.length:=by omega
  rw[Jr (by omega),cf,Aue (by omega),this]
| m+1,j,fuel+1,n,t=>by
  rw[Ng];unfold Yp
  have h:j<ls.length:=by omega
  obtain⟨x,hx⟩:=d ls[j] (Aur h)
  have q:(ble (j+1) 140737488355328&&ble ((j+1)*16) 140737488355328)=true:=by rw[F4,F4];simp;omega
  have s:take (j*2) (((ls.take j).map (Jt c)).flatMap Cg)++[.int .i64 x.fr,.int .i64 x.tl]=((ls.take (j+1)).map (Jt c)).flatMap Cg:=by
   rw[Aue (by rw[YC];simp;omega),Au4 h,Au9,Avn]
   simp only[Auq,Av9,Aey hx,Au1,Awt,Auk,Cg]
   have:=hx.f0;have:=hx.t0
   rw[Ay9 hx.f0,Ay9 hx.t0]
  rw[Ig h,ct,Ab h,ct,Aj5 (by simpa using h),Auf,QH h]
  simp only[G9,Aqj hx,Aqk hx]
  rw[uK hx.l0 hx.lt,ct,ct,q,ct,s,F8 (by omega),qz f d m (j+1) fuel (by omega) (by omega)]
def Ac5{N:Nat}{c:CaseD}{h:Int}{o:Bool}{K:Nat->Nat->LA->LA->O R}(hs:Small c N)(n:∀ l∈Bh c h,∃ x,LnV c l x):
  LN N c.av o h K=K (Bh c h).length (Bh c h).length (((Bh c h).map (Jt c)).flatMap Cg) (A0 (Bh c h)):=by
 rw[aL];unfold OA
 have q:=WA h c.lines.l 0
 have d:=hs.top.2.1
 have f:=hs.lin.1
 have:=qz (R:=R) (N:=N) (c:=c) (o:=o) (ls:=Bh c h) (K:=K) (by unfold Bh;omega) n (Bh c h).length 0 N (by omega) (by unfold Bh;omega)
 rw[Hr,ct,Dn,zf hs]
 simpa using this
def Gt(st:Bool×List Int)(e:Nat×Nat):Bool×List Int :=
 let m:=Pa (st.2.getD e.1 0) (st.2.getD e.2 0)
 ((st.1||(st.2.getD e.1 0 != m))||(st.2.getD e.2 0 != m),(st.2.set e.1 m).set e.2 m)
def lf{N:Nat}{es:List (Nat×Nat)}{n:Nat}{t o:Bool}{K1:Bool->LA->O R}{K:Nat->LA->O R}(hs:es.length<4611686018427387904)(u:∀ e∈es,e.1<n/\e.2<n):∀(m j fuel:Nat)(st:Bool×List Int),j+m=es.length->m<fuel->st.2.length=n ->
  Ix N K1 K (es.flatMap Cg) es.length t o n fuel st.1 (es.length:Int) (j:Int) (A0 st.2)=K1 ((es.drop j).foldl Gt st).1 (A0 ((es.drop j).foldl Gt st).2)
|0,j,fuel+1,st,v,_,_=>by
  rw[Ix];unfold Tl
  rw[Jr (by omega),cf,R9 (l:=es) (by omega)];rfl
| m+1,j,fuel+1,st,v,T,d=>by
  rw[Ix];unfold Tl
  have h:j<es.length:=by omega
  obtain⟨q,s⟩:=u es[j] (Aur h)
  have y:=lf (N:=N) (es:=es) (n:=n) (t:=t) (o:=o) (K1:=K1) (K:=K) hs u m (j+1) fuel (Gt st es[j]) (by omega) (by omega) (by simp[Gt,d])
  rw[Ig h,ct,Ab h,ct,Auf,Bm Wg _ _ h,Mp (l:=es) h,Awx,<-y]
  generalize es[j]=e at *
  have z:ble 2 (List.length (Cg e++List.flatMap Cg (drop (j+1) es)))=true:=by rw[F4,Aua,Wg];simp
  have A:take 2 (Cg e++List.flatMap Cg (drop (j+1) es))=Cg e:=Awi (Wg e)
  rw[z,ct,A,Wg]
  have iu:Ai (e.1:Int) n=true:=Ab q
  have iv:Ai (e.2:Int) n=true:=Ab s
  have ru:∀ f:Int->O R,Bf .i64 (drop (0+((Int.toNat (e.1:Int))*1)) (A0 st.2)) f=f (st.2.getD e.1 0):=fun f=>by rw[Aj5 (by rw[d];simpa using q)];rfl
  have rv:∀ f:Int->O R,Bf .i64 (drop (0+((Int.toNat (e.2:Int))*1)) (A0 st.2)) f=f (st.2.getD e.2 0):=fun f=>by rw[Aj5 (by rw[d];simpa using s)];rfl
  have s1:=xJ (l:=st.2) (x:=Int.toNat (e.1:Int)) (by rw[d];simpa using q)
  have s2:∀ m:Int,((beq 1 1)&&((ble ((0+((Int.toNat (e.2:Int))*1))+1) (List.length (List.set (A0 st.2) (0+((Int.toNat (e.1:Int))*1)) (.int .i64 m))))&&(!false)))=true:=fun m=>by
   rw[gq];exact xJ (by simpa[d]using s)
  have C:∀ m:Int,List.set (List.set (A0 st.2) (0+((Int.toNat (e.1:Int))*1)) (.int .i64 m)) (0+((Int.toNat (e.2:Int))*1)) (.int .i64 m)=A0 ((st.2.set e.1 m).set e.2 m):=fun m=>by
   rw[gq,gq];simp
  have D:(!o||Bg (Cg e))=true:=by simp[Cg,Bg]
  have F:(beq 2 2&&(ble 2 2&&!false))=true:=rfl
  have G:setCells [.int .i64 (0:Int),.int .i64 (0:Int)] 0 (Cg e)=Cg e:=rfl
  have I:∀ f:Int->O R,Bf .i64 (Cg e) f=f e.1:=fun f=>by simp[Cg,Cx]
  have M:∀ f:Int->O R,Bf .i64 (drop 1 (Cg e)) f=f e.2:=fun f=>by simp[Cg,Cx]
  simp only[D,F,G,I,M,ct,iu,iv,ru,rv,s1,s2,C,F8 (show j<4611686018427387904 by omega)]
  unfold Gt
  cases st.1
  ·cases S:(st.2.getD e.1 0 != Pa (st.2.getD e.1 0) (st.2.getD e.2 0))<;>simp only[S,Avw,Aw3,cond_true,cond_false,beq_self_eq_true,show(true==false)=false from rfl]
  ·simp only[Aw3,cond_false,show(true==false)=false from rfl]
def dS(L:List Int):Nat:=(L.map Int.toNat).sum
def Aez{L:List Int}{x:Nat}{v:Int}(h:x<L.length):dS (L.set x v)+(L.getD x 0).toNat=dS L+v.toNat:=by
 unfold dS
 rw[QH h]
 induction L generalizing x with
|nil=>simp at h
|cons a r d =>
  cases x with
  |zero=>simp;omega
  |succ x=>have:=d (x:=x) (by simpa using h);simp at this ⊢;omega
def rA{L:List Int}{x y:Nat}{v:Int}(h:x<L.length):(L.set x v).getD y 0=if x=y then v else L.getD y 0:=by
 rw[Auo,Auo,List.getElem?_set]
 by_cases e:x=y
 ·subst e;simp[h]
 ·simp[e]
def Am0(a b:Int):Pa a b<=a/\Pa a b<=b/\(Pa a b=a\/Pa a b=b):=by
 unfold Pa
 by_cases h:b<a
 ·simp[h];omega
 ·simp[h];omega
def Ag0 {n:Nat} {es:List (Nat×Nat)} {e:Nat×Nat} (D:e ∈ es) (t:e.1<n) (z:e.2<n) {b:Bool} {L:List Int} (h:LeastOk n es L) :
    LeastOk n es (Gt (b,L) e).2/\(((Gt (b,L) e).1=true/\dS (Gt (b,L) e).2<dS L)\/((Gt (b,L) e)=(b,L)/\L.getD e.1 0=L.getD e.2 0)):=by
  obtain⟨u,v⟩:=e
  simp only at t z
  obtain⟨m1,m2,m3⟩:=Am0 (L.getD u 0) (L.getD v 0)
  have d:u<L.length:=by rw[h.len];exact t
  have l:v<L.length:=by rw[h.len];exact z
  have f:Conn es u v:=.fwd D (.refl _)
  have Al:∀ y,((L.set u (Pa (L.getD u 0) (L.getD v 0))).set v (Pa (L.getD u 0) (L.getD v 0))).getD y 0=if v=y then Pa (L.getD u 0) (L.getD v 0)else if u=y then Pa (L.getD u 0) (L.getD v 0)else L.getD y 0:=fun y=>by
    rw[rA (by simpa using l),rA d]
  have lu:=h.low u t
  have lv:=h.low v z
  refine⟨⟨by simp[Gt,h.len],fun y C=>?_,fun y C=>?_⟩,?_⟩
  · simp only[Gt,Al]
    split
    · rename_i e;subst e;omega
    · split
      · rename_i e;subst e;omega
      · exact h.low y C
  · simp only[Gt,Al]
    have cm:Conn es (Pa (L.getD u 0) (L.getD v 0)).toNat u:=by
      rcases m3 with e|e<;>rw[e]
      · exact h.con u t
      · exact(h.con v z).trans f.symm
    split
    · rename_i e;subst e;exact cm.trans f
    · split
      · rename_i e;subst e;exact cm
      · exact h.con y C
  · by_cases e1:L.getD u 0=Pa (L.getD u 0) (L.getD v 0)<;>by_cases A:L.getD v 0=Pa (L.getD u 0) (L.getD v 0)
    · right
      have q:(L.set u (Pa (L.getD u 0) (L.getD v 0))).set v (Pa (L.getD u 0) (L.getD v 0))=L:=by
        have key:∀ m:Int,L.getD u 0=m->L.getD v 0=m->(L.set u m).set v m=L:=by
          intro m F G
          have a1:L.set u m=L:=by rw[<-F,QH d,Ayv]
          have a2:L.set v m=L:=by rw[<-G,QH l,Ayv]
          rw[a1,a2]
        exact key _ e1 A
      have x1:(L.getD u 0 != Pa (L.getD u 0) (L.getD v 0))=false:=by simpa using e1
      have x2:(L.getD v 0 != Pa (L.getD u 0) (L.getD v 0))=false:=by simpa using A
      refine⟨by simp only[Gt,q,x1,x2,Awh],by rw[e1];exact A.symm⟩
    all_goals
      left
      have I:=Aez (v:=Pa (L.getD u 0) (L.getD v 0)) d
      have s:=Aez (L:=L.set u (Pa (L.getD u 0) (L.getD v 0))) (x:=v) (v:=Pa (L.getD u 0) (L.getD v 0)) (by simpa using l)
      rw[rA d]at s
      refine⟨?_,?_⟩
      · first
          | (have x2 : (L.getD v 0 != Pa (L.getD u 0) (L.getD v 0)) = true := by simpa using A
             simp only[Gt,x2,Aw2])
          | (have x1 : (L.getD u 0 != Pa (L.getD u 0) (L.getD v 0)) = true := by simpa using e1
             simp only[Gt,x1,Aw2,Aw3])
      · simp only[Gt]
        split at s
        · rename_i e;subst e;omega
        · omega
def xL{n:Nat}{es:List (Nat×Nat)}(d:∀ e∈es,e.1<n/\e.2<n):∀(fs:List (Nat×Nat))(b:Bool)(L:List Int),(∀ e∈fs,e∈es)->LeastOk n es L ->
  LeastOk n es (fs.foldl Gt (b,L)).2/\(((fs.foldl Gt (b,L)).1=true/\(dS (fs.foldl Gt (b,L)).2<dS L\/(b=true/\dS (fs.foldl Gt (b,L)).2<=dS L)))\/((fs.foldl Gt (b,L))=(b,L)/\Aex fs L))
|[],b,L,_,h=>⟨h,.inr ⟨rfl,fun e d=>by simp at d⟩⟩
| e::r,b,L,l,h=>by
  have q:=l e (by simp)
  obtain⟨v,y⟩:=Ag0 q (d e q).1 (d e q).2 (b:=b) h
  rw[Awx]
  rcases y with⟨s,t⟩|⟨s,t⟩
  ·have z:Gt (b,L) e=(true,(Gt (b,L) e).2):=by rw[<-s]
   rw[z]
   obtain⟨u,k2⟩:=xL d r true (Gt (b,L) e).2 (fun x hx=>l x (Au2 _ hx)) v
   refine⟨u,.inl ?_⟩
   rcases k2 with⟨f,k4⟩|⟨f,_⟩
   ·exact⟨f,.inl (by rcases k4 with k4|⟨_,k4⟩<;>omega)⟩
   ·rw[f];exact⟨rfl,.inl t⟩
  ·rw[s]
   obtain⟨u,k2⟩:=xL d r b L (fun x hx=>l x (Au2 _ hx)) h
   refine⟨u,?_⟩
   rcases k2 with k2|⟨f,k4⟩
   ·exact .inl k2
   ·refine .inr ⟨f,fun x hx=>?_⟩
    rcases Aum.1 hx with rfl|hx
    ·exact t
    ·exact k4 x hx
def lh{N:Nat}{es:List (Nat×Nat)}{n:Nat}{t o:Bool}(hs:T9 es.length N)(d:∀ e∈es,e.1<n/\e.2<n):∀(s fuel:Nat)(L:List Int),LeastOk n es L->dS L<=s->s+2<fuel ->
  ∃ L',LeastOk n es L'/\Aex es L'/\∀ K:Nat->LA->O R,Dy N K (es.flatMap Cg) es.length t o n fuel true (A0 L)=K n (A0 L')
| s,fuel+1,L,h,hL,u=>by
  obtain⟨l,k2⟩:=xL d es false L (fun _ hx=>hx) h
  have step:∀ K:Nat->LA->O R,Dy N K (es.flatMap Cg) es.length t o n (fuel+1) true (A0 L)=Dy N K (es.flatMap Cg) es.length t o n fuel (es.foldl Gt (false,L)).1 (A0 (es.foldl Gt (false,L)).2):=fun K=>by
   rw[Dy];unfold Tm
   have:=lf (R:=R) (N:=N) (es:=es) (n:=n) (t:=t) (o:=o) (K1:=Dy N K (es.flatMap Cg) es.length t o n fuel) (K:=K) hs.2 d es.length 0 N (false,L) (by omega) hs.1 h.len
   simpa using this
  rcases k2 with⟨f,k4⟩|⟨f,k4⟩
  ·have q:dS (es.foldl Gt (false,L)).2<dS L:=by
    rcases k4 with k4|⟨k4,_⟩
    ·exact k4
    ·cases k4
   obtain⟨L',a1,a2,a3⟩:=lh hs d (s - 1) fuel _ l (by omega) (by omega)
   exact⟨L',a1,a2,fun K=>by rw[step,f];exact a3 K⟩
  ·refine⟨L,h,k4,fun K=>?_⟩
   rw[step,f]
   rcases fuel with _|fuel
   ·omega
   ·rw[Dy];unfold Tm;rfl
 termination_by s=>s
 decreasing_by omega
def li{N:Nat}{es:List (Nat×Nat)}{n:Nat}{t o:Bool}{K:Nat->LA->O R}(hn:n<4611686018427387904)(L:List Int)(hL:L.length=n):∀(m j fuel:Nat),j+m=n->m<fuel ->
  Iy N K (n:Int) (es.flatMap Cg) es.length t o fuel n (j:Int) (A0 ((Tf n).take j++L.drop j))=Dy N K (es.flatMap Cg) es.length t o n N true (A0 (Tf n))
|0,j,fuel+1,f,_=>by
  rw[Iy];unfold Tn
  rw[Jr (by omega),cf,R9 (by omega),Auk,Aue (by simp[Tf];omega)]
|m+1,j,fuel+1,f,l=>by
  rw[Iy];unfold Tn
  have h:j<n:=by omega
  have d:((Tf n).take j++L.drop j).length=n:=by simp[Tf];omega
  rw[Ig h,ct,Ab h,ct,xJ (by rw[d];simpa using h),ct,Auf,Aux,Auz,gq,Ac4 hL h,F8 (by omega),li hn L hL m (j+1) fuel (by omega) (by omega)]
def Ac6(n:Nat)(es:List (Nat×Nat)):LeastOk n es (Tf n):=by
 refine⟨by simp[Tf],fun b d=>?_,fun b d=>?_⟩
 ·rw[uJ d];omega
 ·rw[uJ d];exact .refl _
def Ao8{L:List Int}{b:Nat}:(∀ x∈L,x.toNat<=b)->dS L<=L.length*b:=by
 unfold dS
 induction L with
|nil=>intro _;simp
|cons a r d =>
  intro h
  have f:=h a (by simp)
  have l:=d (fun x hx=>h x (Au2 _ hx))
  simp[Av5];omega
def gr{N:Nat}{es:List (Nat×Nat)}{n:Nat}{t o:Bool}(hs:T9 es.length N)(hn:n<=1000)(hN:n*n+1000<N)(f:∀ e∈es,e.1<n/\e.2<n):
  ∃ L,LeastOk n es L/\Aex es L/\∀(m:Nat)(K:Nat->LA->O R),m=es.length->Ur N (n:Int) (es.flatMap Cg) m t o K=K n (A0 L):=by
 have d:dS (Tf n)<=n*n:=by
  have:=Ao8 (L:=Tf n) (b:=n) (by
   intro x hx;simp[Tf] at hx;obtain⟨a,v,rfl⟩:=hx;simp;omega)
  simpa[Tf]using this
 obtain⟨L,l,q,s⟩:=lh (R:=R) (N:=N) (es:=es) (n:=n) (t:=t) (o:=o) hs f (n*n) N (Tf n) (Ac6 n es) d (by omega)
 refine⟨L,l,q,fun m K u=>?_⟩
 subst u
 rw[RF];unfold CX
 have ok:(decide ((0:Int)<=(n:Int))&&(decide ((n:Int)<=(n:Int))&&(decide ((n:Int)<=(140737488355328:Int))&&decide (((n:Int)*((8:Nat):Int))<=(140737488355328:Int)))))=true:=by simp;omega
 have e:replicate n (AV.int .i64 (0:Int))=A0 (replicate n 0):=by simp[A0]
 have:=li (R:=R) (N:=N) (es:=es) (n:=n) (t:=t) (o:=o) (K:=K) (by omega) (replicate n 0) (by simp) n 0 N (by omega) (by omega)
 rw[ok,ct,Auf,e,<-s K]
 simpa using this
def dT{N:Nat}{L:List Int}{t o:Bool}{K:Int->O R}(hs:L.length<1000000):∀(m j fuel:Nat)(a:Nat),j+m=L.length->m<fuel->a<=j ->
  Nh N K (A0 L) L.length t o fuel (a:Int) (j:Int)=K ((a+((List.range' j m).filter fun b=>L.getD b 0==(b:Int)).length:Nat):Int)
|0,j,fuel+1,a,d,_,_=>by
  rw[Nh];unfold Yq
  rw[Jr (by omega),cf];simp
| m+1,j,fuel+1,a,d,f,l=>by
  rw[Nh];unfold Yq
  have h:j<L.length:=by omega
  rw[Ig h,ct,Ab h,ct,RH h,F8 (by omega),F8 (by omega),Ayg,Aw9,QH h]
  cases hx:L[j]==(j:Int)with
  |true =>
   rw[ct,dT hs m (j+1) fuel (a+1) (by omega) (by omega) (by omega)]
   simp;congr 1;omega
  |false =>
   rw[cf,dT hs m (j+1) fuel a (by omega) (by omega) (by omega)]
   simp
def rB{N:Nat}{L:List Int}{n:Nat}{t o:Bool}{K:Int->O R}(hn:n=L.length)(hs:L.length<1000000)(hN:L.length<N):DR N (A0 L) n t o K=K (Amz L:Int):=by
 subst hn
 rw[aM];unfold OB
 have:=dT (R:=R) (N:=N) (L:=L) (t:=t) (o:=o) (K:=K) hs L.length 0 N 0 (by omega) hN (by omega)
 simp only[Aws,Aux]at this
 rw[Amz,List.range_eq_range']
 exact this
def gt(gone:List Int):List (Nat×Nat)->Nat->List (Nat×Nat)
|[],_=>[]
|e::r,j=>cond (gone.contains (j:Int)) (gt gone r (j+1)) (e::gt gone r (j+1))
def rC{N:Nat}{es:List (Nat×Nat)}{gone:List Int}{n:Nat}{t o t2 o2:Bool}{K:Bool->O R}(C:es.length<=1000)(hlN:es.length<N)(hn:n<=1000)(hN:n*n+1000<N)(d:∀ e∈es,e.1<n/\e.2<n)(u:T9 gone.length N):∀(m j fuel:Nat)(A:List (Nat×Nat)),j+m=es.length->m<fuel->A.length<=j->(∀ e∈A,e.1<n/\e.2<n) ->
  Gi N K (n:Int) (es.flatMap Cg) es.length t o (A0 gone) gone.length t2 o2 fuel A.length (j:Int) (A.flatMap Cg)=K (decide ((AK n (A++gt gone (es.drop j) j):Int)>(AK n es:Int)))
|0,j,fuel+1,A,D,_,hA,hAe=>by
  rw[Gi];unfold Pr
  obtain⟨L,a1,a2,a3⟩:=gr (R:=R) (N:=N) (es:=A) (n:=n) (t:=false) (o:=true) ⟨by omega,by omega⟩ hn hN hAe
  obtain⟨L',q,v,x⟩:=gr (R:=R) (N:=N) (es:=es) (n:=n) (t:=false) (o:=o) ⟨by omega,by omega⟩ hn hN d
  have l1:=a1.len;have l2:=q.len
  rw[Jr (by omega),cf,R9 (l:=es) (by omega),gt,Auk,Aue (by rw[YC];exact Aui _),a3 _ _ rfl,Auz,Aue (by rw[J7];omega),rB (by omega) (by omega) (by omega),x _ _ rfl,Aue (by rw[J7];omega),rB (by omega) (by omega) (by omega),ld a1 a2 hAe,ld q v d]
| m+1,j,fuel+1,A,D,M,hA,hAe=>by
  rw[Gi];unfold Pr
  have h:j<es.length:=by omega
  have f:=rC (N:=N) (es:=es) (gone:=gone) (n:=n) (t:=t) (o:=o) (t2:=t2) (o2:=o2) (K:=K) C hlN hn hN d u m (j+1) fuel (A++[es[j]]) (by omega) (by omega) (by simp;omega) (by
   intro e y
   rcases Aul.1 y with s|s
   ·exact hAe e s
   ·simp at s;subst s;exact d _ (Aur h))
  have z:=rC (N:=N) (es:=es) (gone:=gone) (n:=n) (t:=t) (o:=o) (t2:=t2) (o2:=o2) (K:=K) C hlN hn hN d u m (j+1) fuel A (by omega) (by omega) (by omega) hAe
  rw[Ig h,ct,OC rfl u,Ab h,ct,Auf,Bm Wg _ _ h,Mp (l:=es) h,gt]
  generalize es[j]=e at *
  have q:ble 2 (List.length (Cg e++List.flatMap Cg (drop (j+1) es)))=true:=by rw[F4,Aua,Wg];simp
  have v:take 2 (Cg e++List.flatMap Cg (drop (j+1) es))=Cg e:=Awi (Wg e)
  have x:(ble (A.length+1) 140737488355328&&ble ((A.length+1)*16) 140737488355328)=true:=by rw[F4,F4];simp;omega
  have F:(!o||Bg (Cg e))=true:=by simp[Cg,Bg]
  have G:take 2 (setCells [.int .i64 (0:Int),.int .i64 (0:Int)] 0 (Cg e))=Cg e:=rfl
  have I:take (A.length*2) (A.flatMap Cg)++Cg e=(A++[e]).flatMap Cg:=by
   rw[Aue (by rw[YC];exact Aui _)];simp
  rw[q,ct,v,F,ct,Wg,show(beq 2 2&&ble 2 2)=true from rfl,ct,x,ct,G,I,F8 (by omega)]
  cases gone.contains (j:Int)with
  |true=>simp only[Av7,cond_false,cond_true];exact z
  |false =>
   simp only[Avz,cond_true,cond_false]
   rw[Aua]at f
   simpa using f
def rD{N:Nat}{es:List (Nat×Nat)}{gone:List Int}{n m m2:Nat}{t o t2 o2:Bool}{K:Bool->O R}(f:m=es.length)(d:m2=gone.length)(l:es.length<=1000)(hlN:es.length<N)(hn:n<=1000)(hN:n*n+1000<N)(q:∀ e∈es,e.1<n/\e.2<n)(s:T9 gone.length N):
  Sv N (n:Int) (es.flatMap Cg) m t o (A0 gone) m2 t2 o2 K=K (decide ((AK n (gt gone es 0):Int)>(AK n es:Int))):=by
 subst f d
 rw[HP];unfold Vg
 have:=rC (R:=R) (N:=N) (es:=es) (gone:=gone) (n:=n) (t:=t) (o:=o) (t2:=t2) (o2:=o2) (K:=K) l hlN hn hN q s es.length 0 N [] (by omega) hlN (by simp) (by simp)
 simpa using this
def D9{p:Lc}{ok:Bool}{w:Int×Int×Int}{e:{e:Int // e≠0}}(h:nd p ok w e=none):p=none/\ok=true:=by
 rcases p with _|x
 ·cases ok
  ·simp[nd]at h
  ·exact⟨rfl,rfl⟩
 ·simp[nd]at h
def Um{α:Type}{f:Nat->α->Lc->Lc}(n:∀ j a x,f j a (some x)=some x):∀(l:List α)(j:Nat)(p:Lc),Hj f l j p=none->p=none/\∀ i (h:i<l.length),f (j+i) l[i] none=none
|[],j,p,h=>by rw[Hj]at h;exact⟨h,fun i hi=>by simp at hi⟩
| a::r,j,p,h=>by
  rw[Hj]at h
  obtain⟨d,q⟩:=Um n r (j+1) _ h
  have s:p=none:=by
   rcases p with _|x
   ·rfl
   ·rw[n]at d;cases d
  subst s
  refine⟨rfl,fun i hi=>?_⟩
  cases i with
  |zero=>simpa using d
  |succ i=>have:=q i (by simpa using hi);rw[show j+1+i=j+(i+1) by omega]at this;simpa using this
def jf{c:CaseD}(j:Nat)(x:BusD)(y:(Int×Int×Int)×{e:Int // e≠0}):Amp c j x (some y)=some y:=rfl
def dU{c:CaseD}(j:Nat)(x:LineD)(y:(Int×Int×Int)×{e:Int // e≠0}):Bk c j x (some y)=some y:=rfl
def WC{c:CaseD}(j:Nat)(x:StoreD)(y:(Int×Int×Int)×{e:Int // e≠0}):qK c j x (some y)=some y:=rfl
def jg{c:CaseD}(j:Nat)(x:TieD)(y:(Int×Int×Int)×{e:Int // e≠0}):Amq c j x (some y)=some y:=rfl
def dV{c:CaseD}(j:Nat)(x:UnitD)(y:(Int×Int×Int)×{e:Int // e≠0}):zJ c j x (some y)=some y:=by
 show cond (x.state==2) _ _=_
 cases x.state==2<;>rfl
def Aj6(c:CaseD):Lc :=
 let p:=Ace c none
 let p:=Hj (Amp c) c.buses.l 0 p
 let p:=Hj (Bk c) c.lines.l 0 p
 let p:=Hj (zJ c) c.units.l 0 p
 let p:=Hj (qK c) c.stores.l 0 p
 let p:=Hj (Amq c) c.ties.l 0 p
 Hj (Agt c) c.outs.l 0 p
noncomputable def Aj7(c:CaseD)(h:Int)(o:OutD):Bool:=(AK c.buses.l.length (((Bh c h).filter fun l=>!o.lines.l.contains l).map (Jt c)):Int)==(AK c.buses.l.length ((Bh c h).map (Jt c)):Int)
noncomputable def Aj8(c:CaseD)(h:Int)(j:Nat)(o:OutD)(p:Lc):Lc:=nd p (Aj7 c h o) (6,j,h) Atr
noncomputable def dW(c:CaseD):Nat->Nat->Lc->Lc
|0,_,p=>p
|m+1,j,p=>dW c m (j+1) (Hj (Aj8 c j) c.outs.l 0 p)
def Ag1{c:CaseD}{h:Int}(j:Nat)(x:OutD)(y:(Int×Int×Int)×{e:Int // e≠0}):Aj8 c h j x (some y)=some y:=rfl
def lj{c:CaseD}{y:(Int×Int×Int)×{e:Int // e≠0}}:∀(m j:Nat),dW c m j (some y)=some y
|0,_=>rfl
|m+1,j=>by rw[dW,Qv (fun j a=>Ag1 j a y)];exact lj m (j+1)
noncomputable def WD(c:CaseD):Lc:=match Aj6 c with
|some x=>some x
|none=>dW c c.hours.toNat 0 none
structure PreV(c:CaseD):Prop where
 hours:1<=c.hours/\c.hours<=24
 nb:c.buses.l.length<=32
 nl:c.lines.l.length<=64
 no:c.outs.l.length<=64
 line:∀ x∈c.lines.l,0<=x.fr/\x.fr.toNat<c.buses.l.length/\0<=x.tl/\x.tl.toNat<c.buses.l.length
 out:∀ x∈c.outs.l,x.lines.l.length<=2
def Ag2{c:CaseD}(h:Aj6 c=none):PreV c:=by
 unfold Aj6 at h
 obtain⟨t,o6⟩:=Um (fun _ _ _=>jO) _ _ _ h
 obtain⟨u,o5⟩:=Um (fun j a x=>jg j a x) _ _ _ t
 obtain⟨v,o4⟩:=Um (fun j a x=>WC j a x) _ _ _ u
 obtain⟨y,o3⟩:=Um (fun j a x=>dV j a x) _ _ _ v
 obtain⟨z,o2⟩:=Um (fun j a x=>dU j a x) _ _ _ y
 obtain⟨q,o1⟩:=Um (fun j a x=>jf j a x) _ _ _ z
 unfold Ace at q
 obtain⟨A,C⟩:=D9 q
 obtain⟨D,_⟩:=D9 A
 obtain⟨F,_⟩:=D9 D
 obtain⟨G,_⟩:=D9 F
 obtain⟨w3,l⟩:=D9 G
 obtain⟨w2,d⟩:=D9 w3
 obtain⟨I,_⟩:=D9 w2
 obtain⟨w0,_⟩:=D9 I
 obtain⟨_,n⟩:=D9 w0
 unfold F5 at n d
 simp at n d l C
 refine⟨n,by omega,by omega,by omega,fun x hx=>?_,fun x hx=>?_⟩
 ·obtain⟨i,hi,rfl⟩:=Aut hx
  have:=o2 i hi
  unfold Bk p_ at this
  obtain⟨a,_⟩:=D9 this
  obtain⟨a,_⟩:=D9 a
  obtain⟨a,_⟩:=D9 a
  obtain⟨a,_⟩:=D9 a
  obtain⟨a,_⟩:=D9 a
  obtain⟨a,_⟩:=D9 a
  obtain⟨a,_⟩:=D9 a
  obtain⟨a,_⟩:=D9 a
  obtain⟨a,s⟩:=D9 a
  obtain⟨_,f⟩:=D9 a
  unfold kz at s f
  simp at s f
  omega
 ·obtain⟨i,hi,rfl⟩:=Aut hx
  have:=o6 i hi
  unfold Agt Acf at this
  obtain⟨a,_⟩:=D9 this
  obtain⟨a,_⟩:=D9 a
  obtain⟨a,_⟩:=D9 a
  obtain⟨a,_⟩:=D9 a
  obtain⟨a,_⟩:=D9 a
  obtain⟨a,_⟩:=D9 a
  obtain⟨a,_⟩:=D9 a
  obtain⟨_,f⟩:=D9 a
  simp at f
  omega
def PreV.lnV{c:CaseD}(v:PreV c){h:Int}{l:Int}(n:l∈Bh c h):∃ x,LnV c l x:=by
 have:=ze h c.lines.l 0 l n
 have q:0<=l:=by omega
 have f:l.toNat<c.lines.l.length:=by omega
 obtain⟨a,b,d,e⟩:=v.line _ (Aur f)
 exact⟨c.lines.l[l.toNat],q,f,Aug f,a,b,d,e⟩
def w3(p:Lc):LA:=match p with
|none=>[.int .i64 0,.int .i64 0,.int .i64 0]
|some ((a,b,f),_)=>[.int .i64 a,.int .i64 b,.int .i64 f]
def Aj9{N:Nat}{c:CaseD}{p:Lc}{o:Bool}{j:Nat}{K:Int->LA->O R}{K2:LA->Int->O R}(hs:Small c N)(h:j<c.buses.l.length):
  Vq N K K2 o c.av (j:Int) (Ds p)=K ((j+1:Nat):Int) (Ds (Amp c j c.buses.l[j] p)):=by
 have hN:=hs.n64
 have hN8:8<=N:=by omega
 have d:=hs.bus
 have t:c.buses.l[j]∈c.buses.l:=Aur h
 have u:=hs.dem _ t
 have q:=@Ei R N c (c.buses.l.map (·.name)) o (k:=1) (n:=j) (hN:=hN) (hL:=fun K=>ID hs) (hn:=by simpa using h) (hs:=⟨by have:=d.1;omega,by have:=d.2;omega⟩)
 have s:(c.buses.l.map (·.name))[j]'(by simpa using h)=c.buses.l[j].name:=by simp
 rw[s]at q
 unfold Vq
 simp only[Hr,Dn,ct,q,Fa]
 rw[Ab h,ct,Auf,Bm Qu _ _ h]
 generalize c.buses.l[j]=b at *
 have v:∀(r:LA)(f:LA->Nat->O R),By 1 (drop 1 (b.av++r)) f=f (A0 b.demand.l) b.demand.l.length:=fun r f=>by simp[BusD.av,Dw,Co]
 have x:∀(r:LA)(f:Int->O R),Bf .i64 (drop 2 (b.av++r)) f=f b.shed:=fun r f=>by simp[BusD.av,Cx]
 rw[v,Fb rfl u,ct,x,Ep hN8,Ac (by decide),F8 (by have:=d.2;omega)]
 rfl
def xM{p:Lc}{K:LA->Int->O R}:(cond (ble 3 (List.length (Ds p))) (Bf .i64 (drop 3 (Ds p)) fun x38=>cond ((beq (List.length (take 3 (Ds p))) 3)&&((ble 3 3)&&(!false))) (cond (ble 3 (List.length (setCells [.int .i64 (0:Int),.int .i64 (0:Int),.int .i64 (0:Int)] 0 (take 3 (Ds p))))) (K (take 3 (setCells [.int .i64 (0:Int),.int .i64 (0:Int),.int .i64 (0:Int)] 0 (take 3 (Ds p)))) x38) none) none) none)=K (w3 p) (Jm p):=by rcases p with _|⟨⟨a,b,f⟩,e,d⟩<;>simp[Ds,Ajf,w3,Jm,F4,setCells,Ga,Cx]
def lk{N:Nat}{c:CaseD}{o:Bool}{K:LA->Int->O R}(hs:Small c N):∀(m j fuel:Nat)(p:Lc),j+m=c.buses.l.length->m<fuel ->
  Kg N K o c.av fuel (j:Int) (Ds p)=Nv N K o c.av N 0 (Ds (Hj (Amp c) (c.buses.l.drop j) j p))
|0,j,fuel+1,p,f,_=>by
  rw[Kg];unfold Y3
  rw[Fa,Jr (by omega),R9 (l:=c.buses.l) (by omega),Hj];rfl
| m+1,j,fuel+1,p,f,s=>by
  rw[Kg];unfold Y3
  have h:j<c.buses.l.length:=by omega
  have d:=hs.bus
  rw[Fa,Ig h,KN,Mp (l:=c.buses.l) h,Hj]
  rcases p with _|⟨x,e,n⟩
  ·simp only[Jm,beq_self_eq_true,cond_true]
   rw[Aj9 hs h,lk hs m (j+1) fuel _ (by omega) (by omega)]
  ·have q:(e==0)=false:=by simpa using n
   simp only[Jm,q,beq_self_eq_true,cond_true,cond_false]
   rw[jf,Qv (fun _ _=>jf _ _ _)]
def lm{N:Nat}{c:CaseD}{o:Bool}{K:LA->Int->O R}(hs:Small c N):∀(m j fuel:Nat)(p:Lc),j+m=c.lines.l.length->m<fuel ->
  Nv N K o c.av fuel (j:Int) (Ds p)=Nu N K o c.av N 0 (Ds (Hj (Bk c) (c.lines.l.drop j) j p))
|0,j,fuel+1,p,f,_=>by
  rw[Nv];unfold Y2
  rw[G9,Jr (by omega),R9 (l:=c.lines.l) (by omega),Hj];rfl
| m+1,j,fuel+1,p,f,s=>by
  rw[Nv];unfold Y2
  have h:j<c.lines.l.length:=by omega
  have d:=hs.lin
  rw[G9,Ig h,KN,Mp (l:=c.lines.l) h,Hj]
  rcases p with _|⟨x,e,n⟩
  ·simp only[Jm,beq_self_eq_true,cond_true]
   rw[Hr,ct,Dn,SN hs h,F8 (by have:=d.2;omega),lm hs m (j+1) fuel _ (by omega) (by omega)]
  ·have q:(e==0)=false:=by simpa using n
   simp only[Jm,q,beq_self_eq_true,cond_true,cond_false]
   rw[dU,Qv (fun _ _=>dU _ _ _)]
def lp{N:Nat}{c:CaseD}{o:Bool}{K:LA->Int->O R}(hs:Small c N):∀(m j fuel:Nat)(p:Lc),j+m=c.units.l.length->m<fuel ->
  Nu N K o c.av fuel (j:Int) (Ds p)=Nt N K o c.av N 0 (Ds (Hj (zJ c) (c.units.l.drop j) j p))
|0,j,fuel+1,p,f,_=>by
  rw[Nu];unfold Y1
  rw[Kb,Jr (by omega),R9 (l:=c.units.l) (by omega),Hj];rfl
| m+1,j,fuel+1,p,f,s=>by
  rw[Nu];unfold Y1
  have h:j<c.units.l.length:=by omega
  have d:=hs.uni
  rw[Kb,Ig h,KN,Mp (l:=c.units.l) h,Hj]
  rcases p with _|⟨x,e,n⟩
  ·simp only[Jm,beq_self_eq_true,cond_true]
   rw[Hr,ct,Dn,SO hs h,F8 (by have:=d.2;omega),lp hs m (j+1) fuel _ (by omega) (by omega)]
  ·have q:(e==0)=false:=by simpa using n
   simp only[Jm,q,beq_self_eq_true,cond_true,cond_false]
   rw[dV,Qv (fun _ _=>dV _ _ _)]
def lq{N:Nat}{c:CaseD}{o:Bool}{K:LA->Int->O R}(hs:Small c N):∀(m j fuel:Nat)(p:Lc),j+m=c.stores.l.length->m<fuel ->
  Nt N K o c.av fuel (j:Int) (Ds p)=Ns N K o c.av N 0 (Ds (Hj (qK c) (c.stores.l.drop j) j p))
|0,j,fuel+1,p,f,_=>by
  rw[Nt];unfold Y0
  rw[Mq,Jr (by omega),R9 (l:=c.stores.l) (by omega),Hj];rfl
| m+1,j,fuel+1,p,f,s=>by
  rw[Nt];unfold Y0
  have h:j<c.stores.l.length:=by omega
  have d:=hs.sto
  rw[Mq,Ig h,KN,Mp (l:=c.stores.l) h,Hj]
  rcases p with _|⟨x,e,n⟩
  ·simp only[Jm,beq_self_eq_true,cond_true]
   rw[Hr,ct,Dn,QG hs h,F8 (by have:=d.2;omega),lq hs m (j+1) fuel _ (by omega) (by omega)]
  ·have q:(e==0)=false:=by simpa using n
   simp only[Jm,q,beq_self_eq_true,cond_true,cond_false]
   rw[WC,Qv (fun _ _=>WC _ _ _)]
def lw{N:Nat}{c:CaseD}{o:Bool}{K:LA->Int->O R}(hs:Small c N):∀(m j fuel:Nat)(p:Lc),j+m=c.ties.l.length->m<fuel ->
  Ns N K o c.av fuel (j:Int) (Ds p)=Nr N K o c.av N 0 (Ds (Hj (Amq c) (c.ties.l.drop j) j p))
|0,j,fuel+1,p,f,_=>by
  rw[Ns];unfold Yz
  rw[To,Jr (by omega),R9 (l:=c.ties.l) (by omega),Hj];rfl
| m+1,j,fuel+1,p,f,s=>by
  rw[Ns];unfold Yz
  have h:j<c.ties.l.length:=by omega
  have d:=hs.tie
  rw[To,Ig h,KN,Mp (l:=c.ties.l) h,Hj]
  rcases p with _|⟨x,e,n⟩
  ·simp only[Jm,beq_self_eq_true,cond_true]
   rw[Hr,ct,Dn,V' hs h,F8 (by have:=d.2;omega),lw hs m (j+1) fuel _ (by omega) (by omega)]
  ·have q:(e==0)=false:=by simpa using n
   simp only[Jm,q,beq_self_eq_true,cond_true,cond_false]
   rw[jg,Qv (fun _ _=>jg _ _ _)]
def lx{N:Nat}{c:CaseD}{o:Bool}{K:LA->Int->O R}(hs:Small c N):∀(m j fuel:Nat)(p:Lc),j+m=c.outs.l.length->m<fuel ->
  Nr N K o c.av fuel (j:Int) (Ds p)=Es N K o c.av N 0 (Ds (Hj (Agt c) (c.outs.l.drop j) j p))
|0,j,fuel+1,p,f,_=>by
  rw[Nr];unfold Yy
  rw[Ni,Jr (by omega),R9 (l:=c.outs.l) (by omega),Hj];rfl
| m+1,j,fuel+1,p,f,s=>by
  rw[Nr];unfold Yy
  have h:j<c.outs.l.length:=by omega
  have d:=hs.out
  rw[Ni,Ig h,KN,Mp (l:=c.outs.l) h,Hj]
  rcases p with _|⟨x,e,n⟩
  ·simp only[Jm,beq_self_eq_true,cond_true]
   rw[Hr,ct,Dn,MR hs h,F8 (by have:=d.2;omega),lx hs m (j+1) fuel _ (by omega) (by omega)]
  ·have q:(e==0)=false:=by simpa using n
   simp only[Jm,q,beq_self_eq_true,cond_true,cond_false]
   rw[jO,Qv (fun _ _=>jO)]
def GU(ol:List Int):List Int->Nat->List Int
|[],_=>[]
|a::r,j=>cond (ol.contains a) ((j:Int)::GU ol r (j+1)) (GU ol r (j+1))
def zg(ol:List Int):∀(l:List Int)(j:Nat)(x:Int),x∈GU ol l j->(j:Int)<=x
|[],_,_,h=>by simp[GU]at h
| a::r,j,x,h=>by
  rw[GU]at h
  have d:=zg ol r (j+1) x
  cases hx:ol.contains a<;>rw[hx]at h<;>simp at h
  ·have:=d h;omega
  ·rcases h with rfl|h
   ·omega
   ·have:=d h;omega
def jh{f:Int->Nat×Nat}(ol:List Int):∀(l:List Int)(j:Nat)(pre:List Int),(∀ x∈pre,x<(j:Int))->gt (pre++GU ol l j) (l.map f) j=((l.filter fun a=>!ol.contains a).map f)
|[],_,_,_=>rfl
| a::r,j,pre,s=>by
  rw[Auq,gt,GU,Aw9]
  have n:¬ (j:Int)∈pre:=fun h=>by have:=s _ h;omega
  cases hx:ol.contains a with
  | true =>
   have t:(pre++cond true ((j:Int)::GU ol r (j+1)) (GU ol r (j+1))).contains (j:Int)=true:=by simp
   rw[t]
   have:=jh (f:=f) ol r (j+1) (pre++[(j:Int)]) (by
    intro x d
    rcases Aul.1 d with q|q
    ·have:=s x q;omega
    ·simp at q;omega)
   simp only[cond_true,Av7,Awq,if_false]
   rw[<-this];simp
  | false =>
   have t:(pre++cond false ((j:Int)::GU ol r (j+1)) (GU ol r (j+1))).contains (j:Int)=false:=by
    simp only[cond_false]
    rw[List.contains_eq_mem]
    simp only[decide_eq_false_iff_not,Aul,not_or]
    exact⟨n,fun q=>by have:=zg ol r (j+1) _ q;omega⟩
   rw[t]
   have:=jh (f:=f) ol r (j+1) pre (by intro x d;have:=s x d;omega)
   simp only[cond_false,Avz,if_true,Auq]
   rw[this]
def QI{N:Nat}{c:CaseD}{o:Bool}{hr:Int}{j:Nat}{p:Lc}{K7:Int->LA->O R}{K9:Int->Int->LA->O R}{K:LA->Int->O R}(hs:Small c N)(hN:4096<=N)(v:PreV c)(h:j<c.outs.l.length):∀(m q fuel:Nat)(A:List Int),q+m=(Bh c hr).length->m<fuel->A.length<=q ->
  A++GU c.outs.l[j].lines.l ((Bh c hr).drop q) q=GU c.outs.l[j].lines.l (Bh c hr) 0 ->
  Ll N K7 K9 K (Bh c hr).length (Bh c hr).length o c.av (((Bh c hr).map (Jt c)).flatMap Cg) (A0 (Bh c hr)) fuel hr (j:Int) A.length (q:Int) (Ds p) (A0 A)=K9 hr ((j+1:Nat):Int) (Ds (Aj8 c hr j c.outs.l[j] p))
| 0,q,fuel+1,A,hq,_,hA,d=>by
  rw[Ll];unfold Vr
  have F:=WA hr c.lines.l 0
  have G:=v.nl
  have n:=v.nb
  have s:=hs.out
  have T:c.buses.l.length*c.buses.l.length<=32*32:=Ay5 n n
  have t:(Bh c hr).length<=64:=by unfold Bh;omega
  rw[R9 (l:=Bh c hr) (by omega),GU,Auk]at d
  have C:∀ e∈(Bh c hr).map (Jt c),e.1<c.buses.l.length/\e.2<c.buses.l.length:=by
   intro e C
   simp only[Auy]at C
   obtain⟨l,I,rfl⟩:=C
   obtain⟨x,hx⟩:=v.lnV I
   rw[Aey hx];exact⟨hx.f1,hx.t1⟩
  rw[Jr (by omega),cf,Fa,Aue (by rw[YC];simp),Auz,Aue (by rw[J7];exact Aui _),
   rD (by simp) rfl (by simp;omega) (by simp;omega) (by omega) (by omega) C ⟨by omega,by omega⟩,Ac (by decide),F8 (by have:=s.2;omega)]
  have e1:gt A ((Bh c hr).map (Jt c)) 0=(((Bh c hr).filter fun a=>!c.outs.l[j].lines.l.contains a).map (Jt c)):=by
   rw[d]
   have:=jh (f:=Jt c) c.outs.l[j].lines.l (Bh c hr) 0 [] (by simp)
   simpa using this
  rw[e1]
  have M:AK c.buses.l.length ((Bh c hr).map (Jt c))<=AK c.buses.l.length (((Bh c hr).filter fun a=>!c.outs.l[j].lines.l.contains a).map (Jt c)):=Ac3 (by
   intro e u
   simp only[Auy,Awy]at u ⊢
   obtain⟨l,⟨I,_⟩,rfl⟩:=u
   exact⟨l,I,rfl⟩)
  have U:(!decide ((AK c.buses.l.length (((Bh c hr).filter fun a=>!c.outs.l[j].lines.l.contains a).map (Jt c)):Int)>(AK c.buses.l.length ((Bh c hr).map (Jt c)):Int)))=Aj7 c hr c.outs.l[j]:=by
   unfold Aj7
   generalize AK c.buses.l.length ((Bh c hr).map (Jt c))=x at *
   generalize AK c.buses.l.length (((Bh c hr).filter fun a=>!c.outs.l[j].lines.l.contains a).map (Jt c))=y at *
   by_cases S:x=y
   ·subst S;simp
   ·have a1:((y:Int)==(x:Int))=false:=by simp;omega
    rw[a1];simp;omega
  rw[U];rfl
| m+1,q,fuel+1,A,hq,hf,hA,d=>by
  rw[Ll];unfold Vr
  have z:q<(Bh c hr).length:=by omega
  have F:=WA hr c.lines.l 0
  have G:=v.nl
  have t:(Bh c hr).length<=64:=by unfold Bh;omega
  have V:c.outs.l[j]∈c.outs.l:=Aur h
  have X:=hs.oli _ V
  have Y:∀(f:LA->Nat->O R),By 1 (drop 1 (drop (j*4) (List.flatMap OutD.av c.outs.l))) f=f (A0 c.outs.l[j].lines.l) c.outs.l[j].lines.l.length:=fun f=>by rw[Bm Ms _ _ h];simp[OutD.av,Dw,Co]
  have b3:(ble (A.length+1) 140737488355328&&ble ((A.length+1)*8) 140737488355328)=true:=by rw[F4,F4];simp;omega
  have b5:take (A.length*1) (A0 A)++[.int .i64 (q:Int)]=A0 (A++[(q:Int)]):=xK (B:=[(q:Int)]) rfl
  rw[Ig z,ct,Ni,Ab h,ct,Auf,Y,Ab z,ct,Aj5 (by simpa using z),Auf,QH z,OC rfl X,b3,ct,b5,F8 (by omega)]
  rw[Mp z,GU]at d
  cases hx:c.outs.l[j].lines.l.contains (Bh c hr)[q]with
  |true =>
   rw[hx]at d
   have D:=QI (o:=o) (hr:=hr) (j:=j) (p:=p) (K7:=K7) (K9:=K9) (K:=K) hs hN v h m (q+1) fuel (A++[(q:Int)]) (by omega) (by omega) (by simp;omega) (by simpa using d)
   rw[Aua]at D
   simpa using D
  |false =>
   rw[hx]at d
   have D:=QI (o:=o) (hr:=hr) (j:=j) (p:=p) (K7:=K7) (K9:=K9) (K:=K) hs hN v h m (q+1) fuel A (by omega) (by omega) (by omega) (by simpa using d)
   simpa using D
def ly{N:Nat}{c:CaseD}{o:Bool}{hr:Int}{K7:Int->LA->O R}{K:LA->Int->O R}(hs:Small c N)(hN:4096<=N)(v:PreV c):∀(m j fuel:Nat)(p:Lc),j+m=c.outs.l.length->m<fuel ->
  Kf N K7 K (Bh c hr).length (Bh c hr).length o c.av (((Bh c hr).map (Jt c)).flatMap Cg) (A0 (Bh c hr)) fuel hr (j:Int) (Ds p)=K7 (wrap .i64 (hr+1)) (Ds (Hj (Aj8 c hr) (c.outs.l.drop j) j p))
|0,j,fuel+1,p,d,_=>by
  rw[Kf];unfold Yx
  rw[Ni,Jr (by omega),cf,R9 (l:=c.outs.l) (by omega),Hj]
|m+1,j,fuel+1,p,d,s=>by
  rw[Kf];unfold Yx
  have h:j<c.outs.l.length:=by omega
  have f:=WA hr c.lines.l 0
  have n:=v.nl
  have q:=ly (o:=o) (hr:=hr) (K7:=K7) (K:=K) hs hN v m (j+1) fuel (Aj8 c hr j c.outs.l[j] p) (by omega) (by omega)
  have l10:=QI (R:=R) (N:=N) (c:=c) (o:=o) (hr:=hr) (j:=j) (p:=p) (K7:=K7) (K9:=Kf N K7 K (Bh c hr).length (Bh c hr).length o c.av (((Bh c hr).map (Jt c)).flatMap Cg) (A0 (Bh c hr)) fuel) (K:=K) hs hN v h (Bh c hr).length 0 N [] (by omega) (by unfold Bh;omega) (by simp) (by simp)
  rw[Ni,Ig h,ct,Mp (l:=c.outs.l) h,Hj,<-q,<-l10]
  rfl
def lz{N H:Nat}{c:CaseD}{o:Bool}{K:LA->Int->O R}(hs:Small c N)(hN:4096<=N)(v:PreV c)(hH:c.hours=(H:Int)):∀(m j fuel:Nat)(p:Lc),j+m=H->m<fuel ->
  Es N K o c.av fuel (j:Int) (Ds p)=K (w3 (dW c m j p)) (Jm (dW c m j p))
|0,j,fuel+1,p,d,_=>by
  rw[Es];unfold S6
  rw[Ka,hH,Jr (by omega),xM,dW];rfl
| m+1,j,fuel+1,p,d,s=>by
  rw[Es];unfold S6 DD KA
  have t:=v.hours
  rw[Ka,hH,Ig (by omega),KN,xM]
  rcases p with _|⟨x,e,f⟩
  ·simp only[Jm,beq_self_eq_true,cond_true]
   have l9:=ly (R:=R) (N:=N) (c:=c) (o:=o) (hr:=(j:Int)) (K7:=Es N K o c.av fuel) (K:=K) hs hN v c.outs.l.length 0 N none (by omega) hs.out.1
   rw[Hr,ct,Dn,Ac5 hs (fun l n=>v.lnV n)]
   simp only[Au0,Aws]at l9
   rw[l9,F8 (by omega),lz hs hN v hH m (j+1) fuel _ (by omega) (by omega)];rfl
  ·have q:(e==0)=false:=by simpa using f
   simp only[Jm,q,beq_self_eq_true,cond_true,cond_false]
   rw[lj]
def zh{N:Nat}{c:CaseD}{o:Bool}{y:(Int×Int×Int)×{e:Int // e≠0}}{K:LA->Int->O R}{fuel:Nat}:Es N K o c.av (fuel+1) 0 (Ds (some y))=K (w3 (some y)) (Jm (some y)):=by
 rw[Es];unfold S6
 rw[Ka,KN,xM]
 have d:(y.2.1==0)=false:=by simpa using y.2.2
 cases decide ((0:Int)<c.hours)<;>simp[Jm,d]
def rE{N:Nat}{c:CaseD}{o:Bool}{K:LA->Int->O R}(hs:Small c N)(hN:4096<=N):ME N c.av o K=K (w3 (WD c)) (Jm (WD c)):=by
 rw[aX];unfold OZ
 have d:[.int .i64 (0:Int),.int .i64 (0:Int),.int .i64 (0:Int),.int .i64 (0:Int)]=Ds none:=rfl
 rw[Hr,ct,Dn,d,OX hs]
 have l0:=fun p=>lk (R:=R) (N:=N) (c:=c) (o:=o) (K:=K) hs c.buses.l.length 0 N p (by omega) hs.bus.1
 have l2:=fun p=>lm (R:=R) (N:=N) (c:=c) (o:=o) (K:=K) hs c.lines.l.length 0 N p (by omega) hs.lin.1
 have l3:=fun p=>lp (R:=R) (N:=N) (c:=c) (o:=o) (K:=K) hs c.units.l.length 0 N p (by omega) hs.uni.1
 have l4:=fun p=>lq (R:=R) (N:=N) (c:=c) (o:=o) (K:=K) hs c.stores.l.length 0 N p (by omega) hs.sto.1
 have l5:=fun p=>lw (R:=R) (N:=N) (c:=c) (o:=o) (K:=K) hs c.ties.l.length 0 N p (by omega) hs.tie.1
 have l6:=fun p=>lx (R:=R) (N:=N) (c:=c) (o:=o) (K:=K) hs c.outs.l.length 0 N p (by omega) hs.out.1
 simp only[Au0,Aws]at l0 l2 l3 l4 l5 l6
 try dsimp only
 rw[l0,l2,l3,l4,l5,l6]
 show Es N K o c.av N 0 (Ds (Aj6 c))=_
 unfold WD
 cases f:Aj6 c with
|some y =>
  rcases N with _|N
  ·omega
  ·exact zh
|none =>
  have v:=Ag2 f
  have n:=v.hours
  have:=lz (R:=R) (N:=N) (H:=c.hours.toNat) (c:=c) (o:=o) (K:=K) hs hN v (by omega) c.hours.toNat 0 N none (by omega) (by omega)
  simpa using this
def Ao9(p:Lc):(w3 p).length=3:=by rcases p with _|⟨⟨a,b,f⟩,e⟩<;>rfl
def zi(v n:Int)(q:1<=n)(s:n<=4611686018427387904):(wrap .u64 n==0)=false/\0<=wrap .i64 (Int.tmod (wrap .u64 v) (wrap .u64 n))/\wrap .i64 (Int.tmod (wrap .u64 v) (wrap .u64 n))<n:=by
 have hn:wrap .u64 n=n:=IntWalk.u64_in _ (by omega)
 have d:0<=wrap .u64 v:=by rw[IntKind.wrap_u64];omega
 rw[hn]
 have f:0<=Int.tmod (wrap .u64 v) n:=Int.tmod_nonneg _ d
 have l:Int.tmod (wrap .u64 v) n<n:=Azd _ (by omega)
 rw[wrap_i64 _ (by omega)]
 exact⟨by simp;omega,f,l⟩
def nx{N:Nat}{l:List Int}{t o:Bool}(x:l.length<=9223372036854775807)(n:Int)(f:1<=n)(q:n<=4611686018427387904)(k:Nat)(s:k<=l.length):
  ∃(v:Int)(d:Nat),0<=v/\v<n/\d<=l.length/\∀ K:Int->Int->O R,Ad N n (A0 l) l.length t o (k:Int) K=K v (d:Int):=by
 by_cases h:k<l.length
 ·obtain⟨a1,a2,a3⟩:=zi l[k] n f q
  refine⟨_,k+1,a2,a3,by omega,fun K=>?_⟩
  rw[Xc];unfold Yl
  have w0:wrap .i64 ((k:Int)+1)=((k+1:Nat):Int):=by rw[wrap_i64 _ (by omega)];omega
  have u:wrap .i64 (wrap .i64 ((k:Int)+1) - 1)=(k:Int):=by rw[w0,wrap_i64 _ (by omega)];omega
  rw[u,w0,Ab h,ct,RH h,cK];unfold nk
  rw[a1,cf,show decide ((k:Int)>=(l.length:Int))=false by simp;omega,cf]
 ·refine⟨0,k,by omega,by omega,s,fun K=>?_⟩
  rw[Xc];unfold Yl
  rw[show decide ((k:Int)>=(l.length:Int))=true by simp;omega,ct]
def rF{N m:Nat}{l:List Int}{t o:Bool}(q:l.length<=9223372036854775807)(n:Int)(s:1<=n)(u:n<=4611686018427387904)(z:m<=1000):∀(r j fuel:Nat)(k:Nat)(A:List Int),j+r=m->r<fuel->k<=l.length->A.length=j ->
  ∃(B:List Int)(y:Nat),B.length=r/\(∀ x∈B,0<=x/\x<n)/\y<=l.length/\∀ K:Nat->Int->LA->O R,Ge N K (m:Int) n (A0 l) l.length t o fuel j (j:Int) (k:Int) (A0 A)=K m (y:Int) (A0 (A++B))
|0,j,fuel+1,k,A,C,_,d,hA=>by
  refine⟨[],k,rfl,by simp,d,fun K=>?_⟩
  rw[Ge];unfold Pj
  have:j=m:=by omega
  subst this
  rw[Jr (Aui _),cf,Auk]
| r+1,j,fuel+1,k,A,C,T,d,hA=>by
  obtain⟨v,D,v0,v1,f,F⟩:=nx (R:=R) (N:=N) (t:=t) (o:=o) q n s u k d
  obtain⟨B,k2,G,I,M,S⟩:=rF q n s u z r (j+1) fuel D (A++[v]) (by omega) (by omega) f (by simp[hA])
  refine⟨v::B,k2,by simp[G],?_,M,fun K=>?_⟩
  ·intro x hx
   rcases Aum.1 hx with rfl|hx
   ·exact⟨v0,v1⟩
   ·exact I x hx
  ·rw[Ge];unfold Pj
   have c3:(ble (j+1) 140737488355328&&ble ((j+1)*8) 140737488355328)=true:=by rw[F4,F4];simp;omega
   have c5:take (j*1) (A0 A)++[.int .i64 v]=A0 (A++[v]):=xK (B:=[v]) hA.symm
   rw[Ig (by omega),ct,F,c3,ct,c5,F8 (by omega),S]
   simp
def GV{N m:Nat}{l:List Int}{t o:Bool}(hN:1001<=N)(f:l.length<=9223372036854775807)(n:Int)(q:1<=n)(s:n<=4611686018427387904)(u:m<=1000)(k:Nat)(v:k<=l.length):
  ∃(B:List Int)(d:Nat),B.length=m/\(∀ x∈B,0<=x/\x<n)/\d<=l.length/\∀ K:Nat->Int->LA->O R,Gw N (m:Int) n (A0 l) l.length t o (k:Int) K=K m (d:Int) (A0 B):=by
 obtain⟨B,d,y,z,A,C⟩:=rF (R:=R) (N:=N) (t:=t) (o:=o) f n q s u m 0 N k [] (by omega) (by omega) v rfl
 refine⟨B,d,y,z,A,fun K=>?_⟩
 rw[HH];unfold U8
 simpa[A0]using C K
def ji{N:Nat}{l:List Int}{t o:Bool}(n:l.length<=9223372036854775807)(H:Int)(A:1<=H)(F:H<=1000)(k:Nat)(C:k<=l.length):
  ∃(B:List Int)(q:Nat),B.length<=1/\(∀ x∈B,0<=x/\x<H)/\q<=l.length/\∀ K:Nat->Int->LA->O R,Rp N H (A0 l) l.length t o (k:Int) K=K B.length (q:Int) (A0 B):=by
 obtain⟨v,s,v0,v1,d,y⟩:=nx (R:=R) (N:=N) (t:=t) (o:=o) n 6 (by omega) (by omega) k C
 by_cases z:v=5
 ·obtain⟨u,k2,u0,u1,f,D⟩:=nx (R:=R) (N:=N) (t:=t) (o:=o) n H A (by omega) s d
  refine⟨[u],k2,by simp,by intro x hx;simp at hx;subst hx;exact⟨u0,u1⟩,f,fun K=>?_⟩
  rw[Xd];unfold Ym
  rw[y,D,z];rfl
 ·refine⟨[],s,by simp,by simp,d,fun K=>?_⟩
  rw[Xd];unfold Ym
  have:(v==5)=false:=by simpa using z
  rw[y,this];rfl
def Ass:Lu:=[48,49,50,51,52,53,54,55,56,57,97,98,99,100,101,102]
def Uz{N:Nat}{c:UInt8}{i:Nat}(hi:i<16){K:Lu->O R}:NQ N [c] (i:Int) K=K [c,Ass.getD i 0]:=by
 rw[kt];unfold pH
 have e1:Int.tmod (i:Int) 16=(i:Int):=Int.tmod_eq_of_lt (by omega) (by omega)
 rw[e1,F8 (by omega)]
 have c1:(decide ((0:Int)<=(i:Int))&&(decide ((i:Int)<=((i+1:Nat):Int))&&(decide (((i+1:Nat):Int)<=(16:Int))&&decide ((16:Int)<=(16:Int)))))=true:=by simp;omega
 rw[c1,ct]
 simp only[Auf,Ayh]
 have:take 1 (drop i ([48,49,50,51,52,53,54,55,56,57,97,98,99,100,101,102]:Lu))=[Ass.getD i 0]:=by
  rw[Mp (by simpa using hi)]
  simp[Ass,hi]
 rw[this];rfl
def R7{a:Int}(h:-9223372036854775808<=a/\a<=9223372036854775807):wrap .i64 a=a:=wrap_i64 a h
def Ju{lo hi n:Int}(h:lo<=n/\n<=hi):F5 lo hi n=true:=by unfold F5;simp;omega
structure LineG(i:Nat)(fr tx H:Int)(x:LineD):Prop where
 name:x.name=[108,Ass.getD i 0]
 fr:x.fr=fr
 tx:x.tl=tx
 re:(Nj x.re&&decide (x.re.num>0))=true
 smin:(Nj x.smin&&decide (x.smin.num<=0))=true
 smax:(Nj x.smax&&decide (x.smax.num>=0))=true
 lim:F5 0 1048576 x.limit=true
 em:F5 x.limit 1048576 x.emer=true
 aw:x.away.l.length<=1
 awr:∀ y∈x.away.l,0<=y/\y<H
def uL{f:FracD}(h:1<=f.den/\f.den<=1048576/\-1048576<=f.num/\f.num<=1048576):Nj f=true:=by unfold Nj;rw[Ju (by omega),Ju (by omega)];rfl
def X9{B:List Int}:take (B.length*1) (A0 B)=B.flatMap Sr:=by rw[Auz,Aue (by rw[J7];exact Aui _),Co]
def uM{N:Nat}{l:List Int}{t o:Bool}(f:l.length<=9223372036854775807){i:Nat}(hi:i<16)(fr tx:Int){H:Int}(hH:1<=H/\H<=24)(k:Nat)(Y:k<=l.length):
  ∃(x:LineD)(V:Nat),LineG i fr tx H x/\V<=l.length/\∀ K:LA->Int->O R,U9 N (i:Int) fr tx H (A0 l) l.length t o (k:Int) K=K x.av (V:Int):=by
 obtain⟨y2,ky2,y20,y21,v,y⟩:=nx (R:=R) (N:=N) (t:=t) (o:=o) f 4 (by omega) (by omega) k Y
 obtain⟨y4,ky4,y40,y41,z,A⟩:=nx (R:=R) (N:=N) (t:=t) (o:=o) f 2 (by omega) (by omega) ky2 v
 obtain⟨y6,ky6,y60,y61,C,D⟩:=nx (R:=R) (N:=N) (t:=t) (o:=o) f 40 (by omega) (by omega) ky4 z
 obtain⟨y8,ky8,y80,y81,F,G⟩:=nx (R:=R) (N:=N) (t:=t) (o:=o) f 20 (by omega) (by omega) ky6 C
 obtain⟨y10,ky10,y100,y101,d,n⟩:=nx (R:=R) (N:=N) (t:=t) (o:=o) f 5 (by omega) (by omega) ky8 F
 by_cases X:y10=4
 ·have e4:(y10==4)=true:=by simpa using X
  obtain⟨y12,ky12,y120,y121,q,I⟩:=nx (R:=R) (N:=N) (t:=t) (o:=o) f 4 (by omega) (by omega) ky10 d
  obtain⟨y14,ky14,y140,y141,s,M⟩:=nx (R:=R) (N:=N) (t:=t) (o:=o) f 2 (by omega) (by omega) ky12 q
  obtain⟨y16,ky16,y160,y161,u,S⟩:=nx (R:=R) (N:=N) (t:=t) (o:=o) f 4 (by omega) (by omega) ky14 s
  obtain⟨B,kB,T,U,hkB,hB⟩:=ji (R:=R) (N:=N) (t:=t) (o:=o) f H hH.1 (by omega) ky16 u
  refine⟨⟨[108,Ass.getD i 0],fr,tx,⟨1+y2,1+y4⟩,⟨0 - y12,1+y14⟩,⟨y16,1⟩,4+y6,4+y6+y8,.of B false false⟩,kB,⟨rfl,rfl,rfl,?_,?_,?_,Ju (by simp only;omega),Ju (by simp only;omega),T,U⟩,hkB,fun K=>?_⟩
  ·rw[uL (by simp only;omega)];simp;omega
  ·rw[uL (by simp only;omega)];simp;omega
  ·rw[uL (by simp only;omega)];simp;omega
  ·rw[Xe];unfold Yn
   rw[Uz hi,y,A,D,G,n,e4,ct,I,M,S,hB,X9,R7 (a:=1+y2) (by omega),R7 (a:=1+y4) (by omega),R7 (a:=0 - y12) (by omega),R7 (a:=1+y14) (by omega),R7 (a:=4+y6) (by omega),R7 (a:=4+y6+y8) (by omega)]
   rfl
 ·have e4:(y10==4)=false:=by simpa using X
  obtain⟨B,kB,T,U,hkB,hB⟩:=ji (R:=R) (N:=N) (t:=t) (o:=o) f H hH.1 (by omega) ky10 d
  refine⟨⟨[108,Ass.getD i 0],fr,tx,⟨1+y2,1+y4⟩,⟨0,1⟩,⟨0,1⟩,4+y6,4+y6+y8,.of B false false⟩,kB,⟨rfl,rfl,rfl,?_,?_,?_,Ju (by simp only;omega),Ju (by simp only;omega),T,U⟩,hkB,fun K=>?_⟩
  ·rw[uL (by simp only;omega)];simp;omega
  ·rw[uL (by simp only;omega)];simp
  ·rw[uL (by simp only;omega)];simp
  ·rw[Xe];unfold Yn
   rw[Uz hi,y,A,D,G,n,e4,cf,hB,X9,R7 (a:=1+y2) (by omega),R7 (a:=1+y4) (by omega),R7 (a:=4+y6) (by omega),R7 (a:=4+y6+y8) (by omega)]
   rfl
structure UnitG(i:Nat)(nb H:Int)(u:UnitD):Prop where
 name:u.name=[117,Ass.getD i 0]
 bus:0<=u.bus/\u.bus<nb
 min:F5 0 1048576 u.min=true
 max:F5 u.min 1048576 u.max=true
 sl:1<=u.segs.l.length/\u.segs.l.length<=8
 sok:u.segs.l.all ff=true
 sord:dH u.segs.l=true
 ssum:(dG 0 u.segs.l==wrap .i64 (u.max - u.min))=true
 noLoad:F5 0 1048576 u.noLoad=true
 rampUp:F5 0 1048576 u.rampUp=true
 rampDown:F5 0 1048576 u.rampDown=true
 startRamp:F5 u.min u.max u.startRamp=true
 stopRamp:F5 u.min u.max u.stopRamp=true
 upTime:F5 0 24 u.upTime=true
 downTime:F5 0 24 u.downTime=true
 startTime:F5 0 24 u.startTime=true
 hotCost:F5 0 1048576 u.hotCost=true
 coldCost:F5 0 1048576 u.coldCost=true
 hotHours:F5 0 24 u.hotHours=true
 reserve:F5 0 1048576 u.reserve=true
 reservePrice:F5 0 1048576 u.reservePrice=true
 aw:u.away.l.length<=1
 awr:∀ y∈u.away.l,0<=y/\y<H
 state:F5 0 2 u.state=true
 starting:(u.state != 1||u.startTime != 0)=true
 hours:F5 1 48 u.hours=true
 started:(u.state != 1||decide (u.hours<=u.startTime))=true
 output:cond (u.state==2) (F5 u.min u.max u.output) (F5 0 0 u.output)=true
def uN{s:SegD}:∀{S:List SegD},dH S=true->(∀ x∈S,x.price<=s.price)->dH (S++[s])=true
|[],_,_=>qL s
|[a],_,h=>by
  rw[Aup,Au3,OV,qL]
  have:=h a (by simp);simp;omega
|a::b::r,d,h=>by
  rw[OV]at d
  simp only[Auh]at d
  rw[Aup,Aup,OV,d.1]
  have:=uN (S:=b::r) d.2 (fun x hx=>h x (by rcases Aum.1 hx with f|f<;>simp[f]))
  simpa using this
def uO{s:SegD}:∀{S:List SegD}{a:Int},dG a (S++[s])=wrap .i64 (dG a S+s.width)
|[],a=>rfl
|x::r,a=>by rw[Aup,dG,dG];exact uO
def Am1(S:List SegD):(S.flatMap SegD.av).length=S.length*2:=by
 induction S with
|nil=>rfl
|cons e r d=>rw[Au1,Aua,d,FN];simp;omega
def jj{S:List SegD}{n:Nat}(h:n=S.length):take (n*2) (S.flatMap SegD.av)=S.flatMap SegD.av:=Aue (by rw[Am1,h];exact Aui _)
def uP{N:Nat}{l:List Int}{t o:Bool}(d:l.length<=9223372036854775807){i:Nat}{nb H bus mn noLoad:Int}(hb:0<=bus/\bus<nb)(hmn:0<=mn/\mn<8)(hno:0<=noLoad/\noLoad<20)(hH:1<=H/\H<=24):∀(n fuel:Nat)(p:Int)(k:Nat)(M:Int)(S:List SegD),n<fuel->k<=l.length->S.length+n<=2->1<=S.length+n->(∀ x∈S,x.price<=p/\ff x=true)->dH S=true->dG 0 S=M - mn->0<=M - mn->M - mn<=15*S.length->-10<=p->p<=20+10*S.length ->
  ∃(u:UnitD)(k':Nat),UnitG i nb H u/\k'<=l.length/\∀ K:LA->Int->O R,F6 N K H (A0 l) l.length t o [117,Ass.getD i 0] bus mn noLoad fuel p (n:Int) (k:Int) M S.length (S.flatMap SegD.av)=K u.av (k':Int)
| 0,fuel+1,p,k,M,S,_,hk,hS,hS1,hp,ho,hw,hM0,hM1,_,_=>by
  obtain⟨y16,ky16,y160,y161,v,hy16⟩:=nx (R:=R) (N:=N) (t:=t) (o:=o) d 20 (by omega) (by omega) k hk
  obtain⟨y18,ky18,y180,y181,y,hy18⟩:=nx (R:=R) (N:=N) (t:=t) (o:=o) d 20 (by omega) (by omega) ky16 v
  obtain⟨y20,ky20,y200,y201,z,hy20⟩:=nx (R:=R) (N:=N) (t:=t) (o:=o) d (M - mn+1) (by omega) (by omega) ky18 y
  obtain⟨y22,ky22,y220,y221,A,hy22⟩:=nx (R:=R) (N:=N) (t:=t) (o:=o) d (M - mn+1) (by omega) (by omega) ky20 z
  obtain⟨y24,ky24,y240,y241,C,hy24⟩:=nx (R:=R) (N:=N) (t:=t) (o:=o) d 3 (by omega) (by omega) ky22 A
  obtain⟨y26,ky26,y260,y261,D,hy26⟩:=nx (R:=R) (N:=N) (t:=t) (o:=o) d 3 (by omega) (by omega) ky24 C
  obtain⟨y28,ky28,y280,y281,F,hy28⟩:=nx (R:=R) (N:=N) (t:=t) (o:=o) d 2 (by omega) (by omega) ky26 D
  obtain⟨y30,ky30,y300,y301,G,hy30⟩:=nx (R:=R) (N:=N) (t:=t) (o:=o) d 30 (by omega) (by omega) ky28 F
  obtain⟨y32,ky32,y320,y321,I,hy32⟩:=nx (R:=R) (N:=N) (t:=t) (o:=o) d 30 (by omega) (by omega) ky30 G
  obtain⟨y34,ky34,y340,y341,T,hy34⟩:=nx (R:=R) (N:=N) (t:=t) (o:=o) d 4 (by omega) (by omega) ky32 I
  obtain⟨y36,ky36,y360,y361,U,hy36⟩:=nx (R:=R) (N:=N) (t:=t) (o:=o) d 8 (by omega) (by omega) ky34 T
  obtain⟨y38,ky38,y380,y381,V,hy38⟩:=nx (R:=R) (N:=N) (t:=t) (o:=o) d 4 (by omega) (by omega) ky36 U
  obtain⟨B,kB,b1,b2,hkB,hB⟩:=ji (R:=R) (N:=N) (t:=t) (o:=o) d H hH.1 (by omega) ky38 V
  obtain⟨y43,ky43,y430,y431,X,hy43⟩:=nx (R:=R) (N:=N) (t:=t) (o:=o) d (2+y28) (by omega) (by omega) kB hkB
  obtain⟨y46,ky46,y460,y461,q,hy46⟩:=nx (R:=R) (N:=N) (t:=t) (o:=o) d 4 (by omega) (by omega) ky43 X
  have i43:Ai y43 3=true:=uK y430 (by omega)
  obtain⟨x45,hx45,hst⟩:∃ x45:Int,(∀ f:Int->O R,Bf .i64 (drop (0+((Int.toNat y43)*1)) [.int .i64 (0:Int),.int .i64 (2:Int),.int .i64 (1:Int)]) f=f x45)/\(x45=0\/x45=2\/(x45=1/\y28=1)):=by
   have e:[.int .i64 (0:Int),.int .i64 (2:Int),.int .i64 (1:Int)]=A0 [0,2,1]:=rfl
   refine⟨([0,2,1]:List Int).getD y43.toNat 0,fun f=>by rw[e,Aj5 (by simp;omega)],?_⟩
   have:y43=0\/y43=1\/y43=2:=by omega
   rcases this with rfl|rfl|rfl
   ·left;rfl
   ·right;left;rfl
   ·right;right;exact⟨rfl,by omega⟩
  have wM:wrap .i64 (wrap .i64 (M - mn)+1)=M - mn+1:=by rw[R7 (a:=M - mn) (by omega),R7 (by omega)]
  have head:∀ K:LA->Int->O R,F6 N K H (A0 l) l.length t o [117,Ass.getD i 0] bus mn noLoad (fuel+1) p ((0:Nat):Int) (k:Int) M S.length (S.flatMap SegD.av) =
    Oj N K (A0 l) l.length t o (ky46:Int) [117,Ass.getD i 0] bus mn M S.length noLoad y16 y18 y24 y26 y28 y30 y34 y36 y38 B.length x45 (S.flatMap SegD.av) (A0 B) (mn+y20) (mn+y22) (y30+y32) (cond (x45==1) 1 (1+y46)):=fun K=>by
   rw[F6];unfold Rq
   rw[show decide (((0:Nat):Int)>0)=false from rfl,cf,wM,hy16,hy18,hy20,hy22,hy24,hy26,hy28,hy30,hy32,hy34,hy36,hy38,hB,R7 (a:=2+y28) (by omega),hy43,i43,ct,hx45,hy46,R7 (a:=mn+y20) (by omega),R7 (a:=mn+y22) (by omega),R7 (a:=y30+y32) (by omega),R7 (a:=1+y46) (by omega)]
   cases x45==1<;>rfl
  have hhr:1<=(cond (x45==1) (1:Int) (1+y46))/\(cond (x45==1) (1:Int) (1+y46))<=4:=by cases x45==1<;>simp<;>omega
  have hst1:x45=1->cond (x45==1) (1:Int) (1+y46)=1:=by intro e;subst e;rfl
  have sall:S.all ff=true:=by rw[Auv];exact fun x hx=>(hp x hx).2
  have ssum:(dG 0 S==wrap .i64 (M - mn))=true:=by rw[R7 (a:=M - mn) (by omega),hw];simp
  have starting:(x45 != 1||y28 != 0)=true:=by
   rcases hst with h|h|⟨h,h'⟩
   ·rw[h];rfl
   ·rw[h];rfl
   ·rw[h,h'];rfl
  have started:(x45 != 1||decide ((cond (x45==1) (1:Int) (1+y46))<=y28))=true:=by
   rcases hst with h|h|⟨h,h'⟩
   ·rw[h];rfl
   ·rw[h];rfl
   ·rw[h,h'];rfl
  have stR:F5 0 2 x45=true:=Ju (by omega)
  by_cases s:x45=2
  ·obtain⟨y48,ky48,y480,y481,Y,hy48⟩:=nx (R:=R) (N:=N) (t:=t) (o:=o) d (M - mn+1) (by omega) (by omega) ky46 q
   refine⟨⟨[117,Ass.getD i 0],bus,mn,M,.of S false false,noLoad,y16,y18,mn+y20,mn+y22,y24,y26,y28,y30,y30+y32,y34,y36,y38,.of B false false,x45,cond (x45==1) 1 (1+y46),mn+y48⟩,ky48,
    ⟨rfl,hb,Ju (by simp only;omega),Ju (by simp only;omega),by simp only[Sl.l];omega,sall,ho,ssum,Ju (by simp only;omega),Ju (by simp only;omega),Ju (by simp only;omega),Ju (by simp only;omega),Ju (by simp only;omega),Ju (by simp only;omega),Ju (by simp only;omega),Ju (by simp only;omega),Ju (by simp only;omega),Ju (by simp only;omega),Ju (by simp only;omega),Ju (by simp only;omega),Ju (by simp only;omega),b1,b2,stR,starting,Ju (by simp only;omega),started,?_⟩,Y,fun K=>?_⟩
   ·have:(x45==2)=true:=by simpa using s
    simp only[this,cond_true];exact Ju (by omega)
   ·rw[head];unfold Oj
    have:(x45==2)=true:=by simpa using s
    rw[this,ct,wM,hy48,R7 (a:=mn+y48) (by omega),jj rfl,X9]
    rfl
  ·refine⟨⟨[117,Ass.getD i 0],bus,mn,M,.of S false false,noLoad,y16,y18,mn+y20,mn+y22,y24,y26,y28,y30,y30+y32,y34,y36,y38,.of B false false,x45,cond (x45==1) 1 (1+y46),0⟩,ky46,
    ⟨rfl,hb,Ju (by simp only;omega),Ju (by simp only;omega),by simp only[Sl.l];omega,sall,ho,ssum,Ju (by simp only;omega),Ju (by simp only;omega),Ju (by simp only;omega),Ju (by simp only;omega),Ju (by simp only;omega),Ju (by simp only;omega),Ju (by simp only;omega),Ju (by simp only;omega),Ju (by simp only;omega),Ju (by simp only;omega),Ju (by simp only;omega),Ju (by simp only;omega),Ju (by simp only;omega),b1,b2,stR,starting,Ju (by simp only;omega),started,?_⟩,q,fun K=>?_⟩
   ·have:(x45==2)=false:=by simpa using s
    simp only[this,cond_false];exact Ju (by omega)
   ·rw[head];unfold Oj
    have:(x45==2)=false:=by simpa using s
    rw[this,cf,jj rfl,X9]
    rfl
| n+1,fuel+1,p,k,M,S,hf,hk,hS,hS1,hp,ho,hw,hM0,hM1,hp0,hp1=>by
  obtain⟨y12,ky12,y120,y121,hky12,hy12⟩:=nx (R:=R) (N:=N) (t:=t) (o:=o) d 15 (by omega) (by omega) k hk
  obtain⟨y14,ky14,y140,y141,hky14,hy14⟩:=nx (R:=R) (N:=N) (t:=t) (o:=o) d 10 (by omega) (by omega) ky12 hky12
  obtain⟨u,k',g1,g2,g3⟩:=uP (N:=N) (t:=t) (o:=o) (i:=i) (nb:=nb) (H:=H) (bus:=bus) (mn:=mn) (noLoad:=noLoad) d hb hmn hno hH n fuel (p+y14) ky14 (M+(1+y12)) (S++[(⟨1+y12,p⟩:SegD)]) (by omega) hky14 (by simp;omega) (by simp;omega) (by
   intro x hx
   rcases Aul.1 hx with h|h
   ·have:=hp x h;exact⟨by omega,this.2⟩
   ·simp at h;subst h
    refine⟨by simp only;omega,?_⟩
    unfold ff;rw[Ju (by simp only;omega),Ju (by simp only;omega)];rfl) (uN ho fun x hx=>(hp x hx).1) (by rw[uO,hw,R7 (by simp only;omega)];simp only;omega) (by omega) (by simp;omega) (by omega) (by simp;omega)
  refine⟨u,k',g1,g2,fun K=>?_⟩
  rw[F6];unfold Rq
  have c3:(ble (S.length+1) 140737488355328&&ble ((S.length+1)*16) 140737488355328)=true:=by rw[F4,F4];simp;omega
  have c5:take (S.length*2) (S.flatMap SegD.av)++[.int .i64 (1+y12),.int .i64 p]=(S++[(⟨1+y12,p⟩:SegD)]).flatMap SegD.av:=by rw[jj rfl];simp[SegD.av]
  have wn:wrap .i64 (((n+1:Nat):Int) - 1)=(n:Int):=pZ (by omega)
  rw[show decide (((n+1:Nat):Int)>0)=true from decide_eq_true (by omega),ct,hy12,c3,ct,hy14,R7 (a:=1+y12) (by omega),R7 (a:=p+y14) (by omega),wn,R7 (a:=M+(1+y12)) (by omega),c5]
  have:=g3 K
  rw[Aua]at this
  exact this
def Ag3{N:Nat}{l:List Int}{t o:Bool}(hN:8<=N)(f:l.length<=9223372036854775807){i:Nat}(hi:i<16){nb H:Int}(G:1<=nb/\nb<=1000)(hH:1<=H/\H<=24)(k:Nat)(I:k<=l.length):
  ∃(u:UnitD)(z:Nat),UnitG i nb H u/\z<=l.length/\∀ K:LA->Int->O R,Va N (i:Int) nb H (A0 l) l.length t o (k:Int) K=K u.av (z:Int):=by
 obtain⟨y2,ky2,y20,y21,q,A⟩:=nx (R:=R) (N:=N) (t:=t) (o:=o) f nb (by omega) (by omega) k I
 obtain⟨y4,ky4,y40,y41,s,C⟩:=nx (R:=R) (N:=N) (t:=t) (o:=o) f 8 (by omega) (by omega) ky2 q
 obtain⟨y6,ky6,y60,y61,v,D⟩:=nx (R:=R) (N:=N) (t:=t) (o:=o) f 20 (by omega) (by omega) ky4 s
 obtain⟨y8,ky8,y80,y81,x,F⟩:=nx (R:=R) (N:=N) (t:=t) (o:=o) f 20 (by omega) (by omega) ky6 v
 obtain⟨y10,ky10,y100,y101,d,y⟩:=nx (R:=R) (N:=N) (t:=t) (o:=o) f 2 (by omega) (by omega) ky8 x
 obtain⟨n,hn⟩:∃ n:Nat,1+y10=(n:Int):=⟨(1+y10).toNat,by omega⟩
 obtain⟨u,z,M,S,T⟩:=uP (R:=R) (N:=N) (l:=l) (t:=t) (o:=o) f (i:=i) (nb:=nb) (H:=H) (bus:=y2) (mn:=y4) (noLoad:=y6) ⟨y20,y21⟩ ⟨y40,y41⟩ ⟨y60,y61⟩ hH n N (y8 - 2) ky10 y4 [] (by omega) d (by simp;omega) (by simp;omega) (by simp) zI (by simp[dG]) (by omega) (by simp) (by omega) (by simp;omega)
 refine⟨u,z,M,S,fun K=>?_⟩
 rw[LD];unfold Yo
 rw[Uz hi,A,C,D,F,y,R7 (a:=y8 - 2) (by omega),R7 (a:=1+y10) (by omega),hn]
 simpa using T K
structure OutG(i:Nat)(nl nu:Nat)(x:OutD):Prop where
 name:x.name=[111,Ass.getD i 0]
 ll:x.lines.l.length=1\/x.lines.l.length=2
 lr:∀ y∈x.lines.l,0<=y/\y<(nl:Int)
 la:ro x.lines.l=true
 ml:x.moves.l.length<=nu
 mc:((x.moves.l.length:Int)==0||x.corr)=true
 mr:∀ m∈x.moves.l,0<=m.unit/\m.unit<(nu:Int)
 ma:ro (x.moves.l.map (·.unit))=true
 mi:x.moves.l.all zK=true
def zj{s:Int}:∀{S:List Int},ro S=true->(∀ x∈S,x<s)->ro (S++[s])=true
|[],_,_=>fL s
|[a],_,h=>by
  rw[Aup,Au3,LQ,fL]
  have:=h a (by simp);simp;omega
|a::b::r,d,h=>by
  rw[LQ]at d
  simp only[Auh]at d
  rw[Aup,Aup,LQ,d.1]
  have:=zj (S:=b::r) d.2 (fun x hx=>h x (by rcases Aum.1 hx with f|f<;>simp[f]))
  simpa using this
def Aka(S:List MoveD):(S.flatMap MoveD.av).length=S.length*3:=by
 induction S with
|nil=>rfl
|cons e r d=>rw[Au1,Aua,d,Rv];simp;omega
def jk{N:Nat}{l:List Int}{t o:Bool}(u:l.length<=9223372036854775807){i nl nu:Nat}(v:nu<=16){B:List Int}(hB1:B.length=1\/B.length=2)(hB2:∀ y∈B,0<=y/\y<(nl:Int))(hB3:ro B=true):∀(m j fuel:Nat)(k:Nat)(S:List MoveD),j+m=nu->m<fuel->k<=l.length->S.length<=j->(∀ x∈S,0<=x.unit/\x.unit<(j:Int))->ro (S.map (·.unit))=true->S.all zK=true ->
  ∃(x:OutD)(s:Nat),OutG i nl nu x/\s<=l.length/\∀ K:LA->Int->O R,Fr N K (nu:Int) (A0 l) l.length t o [111,Ass.getD i 0] B.length (A0 B) fuel (j:Int) (k:Int) S.length (S.flatMap MoveD.av)=K x.av (s:Int)
|0,j,fuel+1,k,S,U,_,D,hS,hr,C,hi=>by
  have F:j=nu:=by omega
  subst F
  refine⟨⟨[111,Ass.getD i 0],.of B false false,true,.of S false false⟩,k,⟨rfl,hB1,hB2,hB3,hS,by simp,hr,C,hi⟩,D,fun K=>?_⟩
  rw[Fr];unfold Iu
  rw[Jr (Aui _),cf,X9,Aue (by rw[Aka];exact Aui _)]
  rfl
| m+1,j,fuel+1,k,S,U,X,D,hS,hr,C,hi=>by
  obtain⟨y10,ky10,y100,y101,d,f⟩:=nx (R:=R) (N:=N) (t:=t) (o:=o) u 2 (by omega) (by omega) k D
  by_cases T:y10=1
  ·obtain⟨y12,ky12,y120,y121,n,z⟩:=nx (R:=R) (N:=N) (t:=t) (o:=o) u 8 (by omega) (by omega) ky10 d
   obtain⟨y14,ky14,y140,y141,q,A⟩:=nx (R:=R) (N:=N) (t:=t) (o:=o) u 8 (by omega) (by omega) ky12 n
   obtain⟨x,s,G,I,M⟩:=jk (N:=N) (t:=t) (o:=o) (i:=i) (nl:=nl) (nu:=nu) u v hB1 hB2 hB3 m (j+1) fuel ky14 (S++[(⟨j,y12,y14⟩:MoveD)]) (by omega) (by omega) q (by simp;omega) (by
    intro x hx
    rcases Aul.1 hx with h|h
    ·have:=hr x h;omega
    ·simp at h;subst h;simp only;omega) (by
    rw[Au9];exact zj C (by
     intro x hx
     simp only[Auy]at hx
     obtain⟨y,V,rfl⟩:=hx
     exact(hr y V).2)) (by
    rw[List.all_append,hi]
    simp only[Au5,Awa,Awg,Avi]
    unfold zK;rw[Ju (by simp only;omega),Ju (by simp only;omega)];rfl)
   refine⟨x,s,G,I,fun K=>?_⟩
   rw[Fr];unfold Iu
   have e1:(y10==1)=true:=by simpa using T
   have c3:(ble (S.length+1) 140737488355328&&ble ((S.length+1)*24) 140737488355328)=true:=by rw[F4,F4];simp;omega
   have c5:take (S.length*3) (S.flatMap MoveD.av)++[.int .i64 (j:Int),.int .i64 y12,.int .i64 y14]=(S++[(⟨j,y12,y14⟩:MoveD)]).flatMap MoveD.av:=by
    rw[Aue (by rw[Aka];exact Aui _)];simp[MoveD.av]
   rw[Ig (by omega),ct,f,e1,ct,z,A,c3,ct,c5,F8 (by omega)]
   have:=M K
   rw[Aua]at this
   exact this
  ·obtain⟨x,s,G,I,M⟩:=jk (N:=N) (t:=t) (o:=o) (i:=i) (nl:=nl) (nu:=nu) u v hB1 hB2 hB3 m (j+1) fuel ky10 S (by omega) (by omega) d (by omega) (by intro x hx;have:=hr x hx;omega) C hi
   refine⟨x,s,G,I,fun K=>?_⟩
   rw[Fr];unfold Iu
   have e1:(y10==1)=false:=by simpa using T
   rw[Ig (by omega),ct,f,e1,cf,F8 (by omega),M]
def uQ{N:Nat}{l:List Int}{t o:Bool}(hN:64<=N)(s:l.length<=9223372036854775807){i nl nu:Nat}(q:nu<=16){B:List Int}(hB1:B.length=1\/B.length=2)(hB2:∀ y∈B,0<=y/\y<(nl:Int))(hB3:ro B=true)(k:Nat)(v:k<=l.length):
  ∃(x:OutD)(n:Nat),OutG i nl nu x/\n<=l.length/\∀ K:LA->Int->O R,Fs N K (nu:Int) (A0 l) l.length t o [111,Ass.getD i 0] (k:Int) B.length (A0 B)=K x.av (n:Int):=by
 obtain⟨y8,ky8,y80,y81,d,f⟩:=nx (R:=R) (N:=N) (t:=t) (o:=o) s 2 (by omega) (by omega) k v
 by_cases u:y8=1
 ·obtain⟨x,n,z,A,C⟩:=jk (R:=R) (N:=N) (t:=t) (o:=o) (i:=i) (nl:=nl) (nu:=nu) s q hB1 hB2 hB3 nu 0 N ky8 [] (by omega) (by omega) d (by simp) (by simp) vt rfl
  refine⟨x,n,z,A,fun K=>?_⟩
  unfold Fs Na
  have e1:(y8==1)=true:=by simpa using u
  rw[f,e1,ct]
  simpa using C K
 ·refine⟨⟨[111,Ass.getD i 0],.of B false false,false,.of [] false false⟩,ky8,⟨rfl,hB1,hB2,hB3,by simp[Sl.l],by simp[Sl.l],by simp[Sl.l],vt,rfl⟩,d,fun K=>?_⟩
  unfold Fs Na
  have e1:(y8==1)=false:=by simpa using u
  rw[f,e1,cf,X9]
  rfl
def zk{N:Nat}{l:List Int}{t o:Bool}(hN:64<=N)(u:l.length<=9223372036854775807){i nl nu:Nat}(hi:i<16)(U:1<=nl/\nl<=1000)(v:nu<=16)(k:Nat)(V:k<=l.length):
  ∃(x:OutD)(d:Nat),OutG i nl nu x/\d<=l.length/\∀ K:LA->Int->O R,Qf N (i:Int) (nl:Int) (nu:Int) (A0 l) l.length t o (k:Int) K=K x.av (d:Int):=by
 obtain⟨y2,ky2,y20,y21,z,q⟩:=nx (R:=R) (N:=N) (t:=t) (o:=o) u (nl:Int) (by omega) (by omega) k V
 obtain⟨y4,ky4,y40,y41,f,s⟩:=nx (R:=R) (N:=N) (t:=t) (o:=o) u (nl:Int) (by omega) (by omega) ky2 z
 have one:∀ k0,k0<=l.length->∃(x:OutD)(d:Nat),OutG i nl nu x/\d<=l.length/\∀ K:LA->Int->O R,Fs N K (nu:Int) (A0 l) l.length t o [111,Ass.getD i 0] (k0:Int) 1 [.int .i64 y2]=K x.av (d:Int):=fun k0 I =>
  uQ (i:=i) (nl:=nl) hN u v (B:=[y2]) (.inl rfl) (by intro y A;simp at A;subst A;exact⟨y20,y21⟩) (fL _) k0 I
 by_cases M:y4>y2
 ·obtain⟨y6,ky6,y60,y61,n,C⟩:=nx (R:=R) (N:=N) (t:=t) (o:=o) u 3 (by omega) (by omega) ky4 f
  by_cases T:y6=2
  ·obtain⟨x,d,D,F,G⟩:=uQ (R:=R) (N:=N) (t:=t) (o:=o) (i:=i) (nl:=nl) (nu:=nu) hN u v (B:=[y2,y4]) (.inr rfl) (by intro y A;simp at A;rcases A with rfl|rfl<;>omega) (by rw[LQ,fL];simp;omega) ky6 n
   refine⟨x,d,D,F,fun K=>?_⟩
   rw[Nb];unfold Jv
   have e1:decide (y4>y2)=true:=by simpa using M
   have S:(y6==2)=true:=by simpa using T
   rw[Uz hi,q,s,e1,C,S]
   simpa[A0]using G K
  ·obtain⟨x,d,D,F,G⟩:=one ky6 n
   refine⟨x,d,D,F,fun K=>?_⟩
   rw[Nb];unfold Jv
   have e1:decide (y4>y2)=true:=by simpa using M
   have S:(y6==2)=false:=by simpa using T
   rw[Uz hi,q,s,e1,C,S]
   exact G K
 ·obtain⟨x,d,D,F,G⟩:=one ky4 f
  refine⟨x,d,D,F,fun K=>?_⟩
  rw[Nb];unfold Jv
  have e1:decide (y4>y2)=false:=by simpa using M
  rw[Uz hi,q,s,e1]
  exact G K
def SQ(f:Bool)(H:Nat)(res:List Int)(bs:List BusD)(ls:List LineD)(us:List UnitD)(ss:List StoreD)(ts:List TieD)(os:List OutD):CaseD:=⟨(H:Int),.of res false f,.of bs false f,.of ls false f,.of us false f,.of ss false f,.of ts false f,.of os false f⟩
structure BusG(i H:Nat)(b:BusD):Prop where
 name:b.name=[98,Ass.getD i 0]
 dl:b.demand.l.length=H
 dr:∀ x∈b.demand.l,0<=x/\x<14
 shed:0<=b.shed/\b.shed<300
structure StoreG(nb:Nat)(x:StoreD):Prop where
 name:x.name=[115,48]
 bus:0<=x.bus/\x.bus<(nb:Int)
 cap:0<=x.capacity/\x.capacity<20
 ini:0<=x.initial/\x.initial<=x.capacity
 fin:0<=x.final/\x.final<=x.capacity
 ch:0<=x.charge/\x.charge<8
 dis:0<=x.discharge/\x.discharge<8
 eff:1<=x.eff.num/\x.eff.num<=4/\x.eff.den=4
structure TieG(nb H:Nat)(x:TieD):Prop where
 name:x.name=[116,48]
 bus:0<=x.bus/\x.bus<(nb:Int)
 il:x.imp.l.length=H
 ir:∀ y∈x.imp.l,0<=y/\y<12
 el:x.exp.l.length=H
 er:∀ y∈x.exp.l,0<=y/\y<12
 pl:x.price.l.length=H
 pr:∀ y∈x.price.l,0<=y/\y<40
structure LineH(nb:Nat)(i:Nat)(H:Int)(x:LineD):Prop where
 g:LineG i x.fr x.tl H x
 fr:0<=x.fr/\x.fr<(nb:Int)
 tx:0<=x.tl/\x.tl<(nb:Int)
 ne:x.fr≠x.tl
structure BaseG(H:Nat)(res:List Int)(bs:List BusD)(ls:List LineD)(us:List UnitD)(ss:List StoreD)(ts:List TieD):Prop where
 h:1<=H/\H<=3
 rl:res.length=H
 rr:∀ x∈res,0<=x/\x<5
 bl:1<=bs.length/\bs.length<=4
 bg:∀ i (h:i<bs.length),BusG i H bs[i]
 ll:ls.length<=7
 lg:∀ i (h:i<ls.length),LineH bs.length i H ls[i]
 ul:1<=us.length/\us.length<=3
 ug:∀ i (h:i<us.length),UnitG i bs.length H us[i]
 sl:ss.length<=1
 sg:∀ x∈ss,StoreG bs.length x
 tl:ts.length<=1
 tg:∀ x∈ts,TieG bs.length H x
structure OutsG(nl nu:Nat)(os:List OutD):Prop where
 l:os.length<=3
 g:∀ i (h:i<os.length),OutG i nl nu os[i]
def Ag4{N:Nat}(hN:4096<=N){f:Bool}{H:Nat}{res:List Int}{bs:List BusD}{ls:List LineD}{us:List UnitD}{ss:List StoreD}{ts:List TieD}{os:List OutD}(b:BaseG H res bs ls us ss ts)(g:OutsG ls.length us.length os):Small (SQ f H res bs ls us ss ts os) N:=by
 have h:=b.h;have rl:=b.rl;have bl:=b.bl;have ll:=b.ll;have ul:=b.ul;have sl:=b.sl;have tl:=b.tl;have ol:=g.l
 have fit:∀ n:Nat,n<=100->T9 n N:=fun n hn=>⟨by omega,by omega⟩
 refine⟨by omega,fit _ (by simp only[SQ,Sl.l];omega),fit _ (by simp only[SQ,Sl.l];omega),fit _ (by simp only[SQ,Sl.l];omega),fit _ (by simp only[SQ,Sl.l];omega),fit _ (by simp only[SQ,Sl.l];omega),fit _ (by simp only[SQ,Sl.l];omega),fit _ (by simp only[SQ,Sl.l];omega),
  fun x hx=>?_,fun x hx=>?_,fun x hx=>?_,fun x hx=>?_,fun x hx=>?_,fun x hx=>?_,fun x hx=>?_,fun x hx=>?_,fun x hx=>?_,fun x hx=>?_,by simp only[SQ,Sl.l];omega⟩
 all_goals simp only[SQ,Sl.l]at hx
 ·obtain⟨i,hi,rfl⟩:=Aut hx;have:=(b.bg i hi).dl;exact fit _ (by omega)
 ·obtain⟨i,hi,rfl⟩:=Aut hx;have:=(b.lg i hi).g.aw;exact fit _ (by omega)
 ·obtain⟨i,hi,rfl⟩:=Aut hx;have:=(b.ug i hi).sl;exact fit _ (by omega)
 ·obtain⟨i,hi,rfl⟩:=Aut hx;have:=(b.ug i hi).aw;exact fit _ (by omega)
 ·have:=(b.tg x hx).il;exact fit _ (by omega)
 ·have:=(b.tg x hx).el;exact fit _ (by omega)
 ·have:=(b.tg x hx).pl;exact fit _ (by omega)
 ·obtain⟨i,hi,rfl⟩:=Aut hx;have:=(g.g i hi).ll;exact fit _ (by omega)
 ·obtain⟨i,hi,rfl⟩:=Aut hx;have:=(g.g i hi).ml;exact fit _ (by omega)
 ·obtain⟨i,hi,rfl⟩:=Aut hx;have:=(g.g i hi).ml;omega
def Wh{α:Type}{e:α->LA}{sz:Nat}(d:∀ a,(e a).length=sz)(l:List α):(l.flatMap e).length=l.length*sz:=by
 induction l with
|nil=>simp
|cons a r f=>rw[Au1,Aua,f,d,Aub,Av5];omega
def Cp{α:Type}{e:α->LA}{sz n:Nat}(d:∀ a,(e a).length=sz)(l:List α)(hn:n=l.length):take (n*sz) (l.flatMap e)=l.flatMap e:=Aue (by rw[Wh d,hn];exact Aui _)
def Rh{B:List Int}{n:Nat}(h:n=B.length):take (n*1) (A0 B)=B.flatMap Sr:=by rw[h];exact X9
def WE{α:Type}{P:Nat->α->Prop}{l:List α}{x:α}(h:∀ i (h:i<l.length),P i l[i])(hx:P l.length x):∀ i (h:i<(l++[x]).length),P i (l++[x])[i]:=by
 intro i hi
 by_cases d:i<l.length
 ·rw[List.getElem_append_left d];exact h i d
 ·have:i=l.length:=by simp at hi;omega
  subst this
  simpa using hx
def Ac7{p:Lc}(h:(Jm p==0)=true):p=none:=by
 rcases p with _|⟨x,e,d⟩
 ·rfl
 ·simp[Jm]at h;exact absurd h d
def xN{N:Nat}{l:List Int}{o:Bool}(hN:4096<=N)(v:l.length<=9223372036854775807){H:Nat}{res:List Int}{bs:List BusD}{ls:List LineD}{us:List UnitD}{ss:List StoreD}{ts:List TieD}(b:BaseG H res bs ls us ss ts):∀(n fuel k:Nat)(os:List OutD),n<fuel->k<=l.length->os.length+n<=3->OutsG ls.length us.length os->(os=[]\/WD (SQ true H res bs ls us ss ts os)=none) ->
  ∃ d,OutsG ls.length us.length d/\(d=[]\/WD (SQ true H res bs ls us ss ts d)=none)/\∀ K:LA->O R,I4 N K (A0 l) l.length o (H:Int) res.length bs.length ls.length us.length ss.length ts.length (A0 res) (bs.flatMap BusD.av) (ls.flatMap LineD.av) (us.flatMap UnitD.av) (ss.flatMap StoreD.av) (ts.flatMap TieD.av) fuel (n:Int) (k:Int) os.length (os.flatMap OutD.av)=K (SQ false H res bs ls us ss ts d).av
|0,fuel+1,k,os,_,y,_,g,s=>by
  refine⟨os,g,s,fun K=>?_⟩
  rw[I4];unfold Zy
  rw[show decide (((0:Nat):Int)>0)=false from rfl,Rh rfl,Cp Qu _ rfl,Cp Fy _ rfl,Cp Jy _ rfl,Cp Lk _ rfl,Cp Ol _ rfl,Cp Ms _ rfl]
  rfl
| n+1,fuel+1,k,os,D,y,hn,g,s=>by
  by_cases z:ls.length=0
  ·refine⟨os,g,s,fun K=>?_⟩
   rw[I4];unfold Zy
   rw[show decide ((ls.length:Int)>0)=false from decide_eq_false (by omega),show decide (((n+1:Nat):Int)>0)=true from decide_eq_true (by omega),Rh rfl,Cp Qu _ rfl,Cp Fy _ rfl,Cp Jy _ rfl,Cp Lk _ rfl,Cp Ol _ rfl,Cp Ms _ rfl]
   rfl
  ·have A:=b.ul;have C:=b.ll
   obtain⟨x,u,gx,q,hx⟩:=zk (R:=R) (N:=N) (t:=false) (o:=o) (by omega) v (i:=os.length) (nl:=ls.length) (nu:=us.length) (by omega) (by omega) (by omega) k y
   have g':OutsG ls.length us.length (os++[x]):=⟨by simp;omega,WE g.g gx⟩
   have sm:=Ag4 (f:=true) hN b g'
   have wn:wrap .i64 (((n+1:Nat):Int) - 1)=(n:Int):=pZ (by omega)
   have step:∀ K:LA->O R,I4 N K (A0 l) l.length o (H:Int) res.length bs.length ls.length us.length ss.length ts.length (A0 res) (bs.flatMap BusD.av) (ls.flatMap LineD.av) (us.flatMap UnitD.av) (ss.flatMap StoreD.av) (ts.flatMap TieD.av) (fuel+1) ((n+1:Nat):Int) (k:Int) os.length (os.flatMap OutD.av) =
     cond (Jm (WD (SQ true H res bs ls us ss ts (os++[x])))==0)
      (I4 N K (A0 l) l.length o (H:Int) res.length bs.length ls.length us.length ss.length ts.length (A0 res) (bs.flatMap BusD.av) (ls.flatMap LineD.av) (us.flatMap UnitD.av) (ss.flatMap StoreD.av) (ts.flatMap TieD.av) fuel (n:Int) (u:Int) (os++[x]).length ((os++[x]).flatMap OutD.av))
      (I4 N K (A0 l) l.length o (H:Int) res.length bs.length ls.length us.length ss.length ts.length (A0 res) (bs.flatMap BusD.av) (ls.flatMap LineD.av) (us.flatMap UnitD.av) (ss.flatMap StoreD.av) (ts.flatMap TieD.av) fuel (n:Int) (u:Int) os.length (os.flatMap OutD.av)):=fun K=>by
    rw[I4];unfold Zy PA
    have c1:(ble (0+os.length) 140737488355328&&ble ((0+os.length)*72) 140737488355328)=true:=by rw[F4,F4];simp;omega
    have c2:(ble ((0+os.length)+1) 140737488355328&&ble (((0+os.length)+1)*72) 140737488355328)=true:=by rw[F4,F4];simp;omega
    have c3:take ((0+os.length)*4) (take (os.length*4) (os.flatMap OutD.av))++take 4 (setCells [.str ([]:Lu),.nsl,.bool false,.nsl] 0 (take 4 x.av))=(os++[x]).flatMap OutD.av:=by
     rw[Aux,Cp Ms _ rfl,Cp Ms _ rfl]
     simp only[Avn,Au1,Awt,Auk]
     rfl
    have c4:take (((0+os.length)+1)*4) ((os++[x]).flatMap OutD.av)=(os++[x]).flatMap OutD.av:=Cp Ms _ (by simp)
    have c5:(0+os.length)+1=(os++[x]).length:=by simp
    rw[show decide ((ls.length:Int)>0)=true from decide_eq_true (by omega),show decide (((n+1:Nat):Int)>0)=true from decide_eq_true (by omega)]
    simp only[beq_self_eq_true,cond_true]
    rw[hx,show((beq 0 0)&&((beq (List.length x.av) 4)&&(beq 4 4)))=true from rfl,ct,c1,ct,show ble 4 (List.length x.av)=true from rfl,ct,show((beq (List.length (take 4 x.av)) 4)&&(ble 4 4))=true from rfl,ct,c2,ct,c3,c4,c5,Rh rfl,Cp Qu _ rfl,Cp Fy _ rfl,Cp Jy _ rfl,Cp Lk _ rfl,Cp Ol _ rfl]
    refine Axg (rE (R:=R) (N:=N) (c:=SQ true H res bs ls us ss ts (os++[x])) (o:=true) sm hN) ?_
    rw[Ao9,show((beq 3 3)&&((ble 3 3)&&(!false)))=true from rfl,ct,wn]
   cases hq:Jm (WD (SQ true H res bs ls us ss ts (os++[x])))==0 with
   |true =>
    obtain⟨d,a1,a2,a3⟩:=xN hN v b n fuel u (os++[x]) (by omega) q (by simp;omega) g' (.inr (Ac7 hq))
    exact⟨d,a1,a2,fun K=>by rw[step,hq,ct,a3]⟩
   |false =>
    obtain⟨d,a1,a2,a3⟩:=xN hN v b n fuel u os (by omega) q (by omega) g s
    exact⟨d,a1,a2,fun K=>by rw[step,hq,cf,a3]⟩
def CJ(c:CaseD):Prop:=∃(H:Nat)(res:List Int)(bs:List BusD)(ls:List LineD)(us:List UnitD)(ss:List StoreD)(ts:List TieD)(os:List OutD),
 BaseG H res bs ls us ss ts/\OutsG ls.length us.length os/\(os=[]\/WD (SQ true H res bs ls us ss ts os)=none)/\c=SQ false H res bs ls us ss ts os
def Ae0{N:Nat}{l:List Int}{o:Bool}(hN:4096<=N)(f:l.length<=9223372036854775807){H:Nat}{res:List Int}{bs:List BusD}{ls:List LineD}{us:List UnitD}{ss:List StoreD}{ts:List TieD}(b:BaseG H res bs ls us ss ts)(k:Nat)(q:k<=l.length):
  ∃ c,CJ c/\∀ K:LA->O R,PB N K (A0 l) l.length o (H:Int) res.length bs.length ls.length us.length ss.length (A0 res) (bs.flatMap BusD.av) (ls.flatMap LineD.av) (us.flatMap UnitD.av) (ss.flatMap StoreD.av) (k:Int) ts.length (ts.flatMap TieD.av)=K c.av:=by
 obtain⟨y,s,y0,y1,d,u⟩:=nx (R:=R) (N:=N) (t:=false) (o:=o) f 4 (by omega) (by omega) k q
 obtain⟨n,hn⟩:∃ n:Nat,y=(n:Int):=⟨y.toNat,by omega⟩
 subst hn
 obtain⟨os,a1,a2,a3⟩:=xN (R:=R) (o:=o) hN f b n N s [] (by omega) d (by simp;omega) ⟨by simp,by simp⟩ (.inl rfl)
 refine⟨_,⟨H,res,bs,ls,us,ss,ts,os,b,a1,a2,rfl⟩,fun K=>?_⟩
 unfold PB UQ
 rw[u]
 simpa using a3 K
def Ae1{N:Nat}{l:List Int}{o:Bool}(hN:4096<=N)(q:l.length<=9223372036854775807){H:Nat}{res:List Int}{bs:List BusD}{ls:List LineD}{us:List UnitD}{ss:List StoreD}(b:BaseG H res bs ls us ss [])(k:Nat)(X:k<=l.length):
  ∃ c,CJ c/\∀ K:LA->O R,FR N K (bs.length:Int) (A0 l) l.length o (H:Int) res.length bs.length ls.length us.length (A0 res) (bs.flatMap BusD.av) (ls.flatMap LineD.av) (us.flatMap UnitD.av) (k:Int) ss.length (ss.flatMap StoreD.av)=K c.av:=by
 have hb:=b.bl;have hH:=b.h
 obtain⟨y50,v,y500,y501,f,n⟩:=nx (R:=R) (N:=N) (t:=false) (o:=o) q 3 (by omega) (by omega) k X
 by_cases V:y50=2
 ·have A:(y50==2)=true:=by simpa using V
  obtain⟨y52,C,y520,y521,y,z⟩:=nx (R:=R) (N:=N) (t:=false) (o:=o) q (bs.length:Int) (by omega) (by omega) v f
  obtain⟨B1,Y,d,D,F,hB1⟩:=GV (R:=R) (N:=N) (m:=H) (t:=false) (o:=o) (by omega) q 12 (by omega) (by omega) (by omega) C y
  obtain⟨B2,k2,s,G,I,hB2⟩:=GV (R:=R) (N:=N) (m:=H) (t:=false) (o:=o) (by omega) q 12 (by omega) (by omega) (by omega) Y F
  obtain⟨B3,k3,u,M,S,hB3⟩:=GV (R:=R) (N:=N) (m:=H) (t:=false) (o:=o) (by omega) q 40 (by omega) (by omega) (by omega) k2 I
  obtain⟨c,T,U⟩:=Ae0 (R:=R) (o:=o) hN q (ts:=[⟨[116,48],y52,.of B1 false false,.of B2 false false,.of B3 false false⟩]) ⟨b.h,b.rl,b.rr,b.bl,b.bg,b.ll,b.lg,b.ul,b.ug,b.sl,b.sg,by simp,by
   intro x hx;simp at hx;subst hx
   exact⟨rfl,⟨y520,y521⟩,d,D,s,G,u,M⟩⟩ k3 S
  refine⟨c,T,fun K=>?_⟩
  unfold FR IH
  rw[n,A,ct,z,hB1,hB2,hB3,Rh d.symm,Rh s.symm,Rh u.symm,<-U K,<-d]
  simp only[d]
  have e:List.flatMap TieD.av [⟨[116,48],y52,.of B1 false false,.of B2 false false,.of B3 false false⟩]=[.str ([116,48]:Lu),.int .i64 y52,.imm (B1.flatMap Sr) H 1 false false,.imm (B2.flatMap Sr) H 1 false false,.imm (B3.flatMap Sr) H 1 false false]:=by
   simp[TieD.av,Sl.av,d,s,u]
  rw[e];rfl
 ·have A:(y50==2)=false:=by simpa using V
  obtain⟨c,T,U⟩:=Ae0 (R:=R) (o:=o) hN q b v f
  refine⟨c,T,fun K=>?_⟩
  unfold FR IH
  rw[n,A,cf,<-U K];rfl
def Ae2{N:Nat}{l:List Int}{o:Bool}(hN:4096<=N)(d:l.length<=9223372036854775807){H:Nat}{res:List Int}{bs:List BusD}{ls:List LineD}(h:1<=H/\H<=3)(rl:res.length=H)(rr:∀ x∈res,0<=x/\x<5)(bl:1<=bs.length/\bs.length<=4)(bg:∀ i (h:i<bs.length),BusG i H bs[i])(ll:ls.length<=7)(lg:∀ i (h:i<ls.length),LineH bs.length i H ls[i]):
  ∀(n fuel k:Nat)(us:List UnitD),n<fuel->k<=l.length->us.length+n<=3->1<=us.length+n->(∀ i (h:i<us.length),UnitG i bs.length H us[i]) ->
  ∃ c,CJ c/\∀ K:LA->O R,Qw N K (bs.length:Int) (A0 l) l.length o (H:Int) res.length bs.length (A0 res) (bs.flatMap BusD.av) fuel (n:Int) (k:Int) ls.length us.length (ls.flatMap LineD.av) (us.flatMap UnitD.av)=K c.av
| 0,fuel+1,k,us,_,hk,hn,hn1,ug=>by
  obtain⟨y34,s,y340,y341,f,q⟩:=nx (R:=R) (N:=N) (t:=false) (o:=o) d 3 (by omega) (by omega) k hk
  by_cases h2:y34=2
  ·have e2:(y34==2)=true:=by simpa using h2
   obtain⟨y36,k36,y360,y361,v,y⟩:=nx (R:=R) (N:=N) (t:=false) (o:=o) d (bs.length:Int) (by omega) (by omega) s f
   obtain⟨y38,k38,y380,y381,z,A⟩:=nx (R:=R) (N:=N) (t:=false) (o:=o) d 20 (by omega) (by omega) k36 v
   obtain⟨y40,k40,y400,y401,C,D⟩:=nx (R:=R) (N:=N) (t:=false) (o:=o) d 8 (by omega) (by omega) k38 z
   obtain⟨y42,k42,y420,y421,F,G⟩:=nx (R:=R) (N:=N) (t:=false) (o:=o) d 8 (by omega) (by omega) k40 C
   obtain⟨y44,k44,y440,y441,I,M⟩:=nx (R:=R) (N:=N) (t:=false) (o:=o) d 4 (by omega) (by omega) k42 F
   obtain⟨y46,k46,y460,y461,S,T⟩:=nx (R:=R) (N:=N) (t:=false) (o:=o) d (y38+1) (by omega) (by omega) k44 I
   obtain⟨y48,k48,y480,y481,U,V⟩:=nx (R:=R) (N:=N) (t:=false) (o:=o) d (y38+1) (by omega) (by omega) k46 S
   obtain⟨c,X,Y⟩:=Ae1 (R:=R) (o:=o) hN d (us:=us) (ss:=[⟨[115,48],y36,y38,y46,y48,y40,y42,⟨1+y44,4⟩⟩]) ⟨h,rl,rr,bl,bg,ll,lg,⟨by omega,by omega⟩,ug,by simp,by
    intro x hx;simp at hx;subst hx
    exact⟨rfl,⟨y360,y361⟩,⟨y380,y381⟩,⟨y460,by simp only;omega⟩,⟨y480,by simp only;omega⟩,⟨y400,y401⟩,⟨y420,y421⟩,by simp only;omega,by simp only;omega,rfl⟩,by simp,by simp⟩ k48 U
   refine⟨c,X,fun K=>?_⟩
   rw[Qw];unfold Zz
   rw[show decide (((0:Nat):Int)>0)=false from rfl,cf,q,e2,ct,y,A,D,G,M,R7 (a:=y38+1) (by omega),T,V,R7 (a:=1+y44) (by omega),<-Y K]
   rfl
  ·have e2:(y34==2)=false:=by simpa using h2
   obtain⟨c,X,Y⟩:=Ae1 (R:=R) (o:=o) hN d (us:=us) (ss:=[]) ⟨h,rl,rr,bl,bg,ll,lg,⟨by omega,by omega⟩,ug,by simp,by simp,by simp,by simp⟩ s f
   refine⟨c,X,fun K=>?_⟩
   rw[Qw];unfold Zz
   rw[show decide (((0:Nat):Int)>0)=false from rfl,cf,q,e2,cf,<-Y K]
   rfl
|n+1,fuel+1,k,us,hf,hk,hn,hn1,ug=>by
  obtain⟨u,k1,gu,hk1,hu⟩:=Ag3 (R:=R) (N:=N) (t:=false) (o:=o) (by omega) d (i:=us.length) (by omega) (nb:=(bs.length:Int)) (H:=(H:Int)) (by omega) (by omega) k hk
  obtain⟨c,X,Y⟩:=Ae2 (o:=o) hN d h rl rr bl bg ll lg n fuel k1 (us++[u]) (by omega) hk1 (by simp;omega) (by simp;omega) (WE (P:=fun i u=>UnitG i bs.length H u) ug gu)
  refine⟨c,X,fun K=>?_⟩
  rw[Qw];unfold Zz
  have wn:wrap .i64 (((n+1:Nat):Int) - 1)=(n:Int):=pZ (by omega)
  have c2:(ble (us.length+1) 140737488355328&&ble ((us.length+1)*216) 140737488355328)=true:=by rw[F4,F4];simp;omega
  have c3:take (us.length*22) (us.flatMap UnitD.av)++u.av=(us++[u]).flatMap UnitD.av:=by rw[Cp Jy _ rfl];simp
  rw[show decide (((n+1:Nat):Int)>0)=true from decide_eq_true (by omega),ct,hu,show((beq (List.length u.av) 22)&&(ble 22 22))=true from rfl,ct,c2,ct,wn,<-Y K,<-c3,Aua]
  rfl
def Am2{N:Nat}{l:List Int}{o:Bool}(hN:4096<=N)(v:l.length<=9223372036854775807){H:Nat}{res:List Int}{bs:List BusD}(h:1<=H/\H<=3)(rl:res.length=H)(rr:∀ x∈res,0<=x/\x<5)(bl:1<=bs.length/\bs.length<=4)(bg:∀ i (h:i<bs.length),BusG i H bs[i]):
  ∀(n fuel k:Nat)(ls:List LineD),n<fuel->k<=l.length->ls.length+n<=7->(∀ i (h:i<ls.length),LineH bs.length i H ls[i]) ->
  ∃ c,CJ c/\∀ K:LA->O R,Qx N K (bs.length:Int) (A0 l) l.length o (H:Int) res.length bs.length (A0 res) (bs.flatMap BusD.av) fuel (n:Int) (k:Int) ls.length (ls.flatMap LineD.av)=K c.av:=by
 have fin:∀(k:Nat)(ls:List LineD),k<=l.length->ls.length<=7->(∀ i (h:i<ls.length),LineH bs.length i H ls[i])->∃ c,CJ c/\∀ K:LA->O R,(Ad N (3:Int) (A0 l) l.length false o (k:Int) fun y22 y23=>Qw N K (bs.length:Int) (A0 l) l.length o (H:Int) res.length bs.length (A0 res) (bs.flatMap BusD.av) N (wrap .i64 ((1:Int)+y22)) y23 ls.length 0 (ls.flatMap LineD.av) [])=K c.av:=by
  intro k ls u ll lg
  obtain⟨y,F,y0,y1,d,S⟩:=nx (R:=R) (N:=N) (t:=false) (o:=o) v 3 (by omega) (by omega) k u
  obtain⟨n,hn⟩:∃ n:Nat,1+y=(n:Int):=⟨(1+y).toNat,by omega⟩
  obtain⟨c,q,s⟩:=Ae2 (R:=R) (o:=o) hN v h rl rr bl bg ll lg n N F [] (by omega) d (by simp;omega) (by simp;omega) (by simp)
  refine⟨c,q,fun K=>?_⟩
  rw[S,R7 (a:=1+y) (by omega),hn]
  simpa using s K
 intro n
 induction n with
|zero =>
  intro fuel k ls T u hn lg
  obtain⟨c,q,s⟩:=fin k ls u (by omega) lg
  refine⟨c,q,fun K=>?_⟩
  obtain⟨fuel,rfl⟩:∃ f,fuel=f+1:=⟨fuel - 1,by omega⟩
  rw[Qx];unfold Z0
  rw[show decide (((0:Nat):Int)>0)=false from rfl,<-s K]
  rfl
| succ n U =>
  intro fuel k ls T u hn lg
  obtain⟨fuel,rfl⟩:∃ f,fuel=f+1:=⟨fuel - 1,by omega⟩
  by_cases V:bs.length=1
  ·obtain⟨c,q,s⟩:=fin k ls u (by omega) lg
   refine⟨c,q,fun K=>?_⟩
   rw[Qx];unfold Z0
   rw[show decide (((n+1:Nat):Int)>0)=true from decide_eq_true (by omega),show decide ((bs.length:Int)>1)=false from decide_eq_false (by omega),<-s K]
   rfl
  ·obtain⟨y26,G,y260,y261,z,A⟩:=nx (R:=R) (N:=N) (t:=false) (o:=o) v (bs.length:Int) (by omega) (by omega) k u
   obtain⟨y28,I,y280,y281,C,D⟩:=nx (R:=R) (N:=N) (t:=false) (o:=o) v ((bs.length:Int) - 1) (by omega) (by omega) G z
   have tm:∃ tx:Int,Int.tmod (y26+1+y28) (bs.length:Int)=tx/\0<=tx/\tx<(bs.length:Int)/\y26≠tx:=by
    refine⟨_,rfl,Int.tmod_nonneg _ (by omega),Azd _ (by omega),?_⟩
    by_cases M:y26+1+y28<(bs.length:Int)
    ·rw[Int.tmod_eq_of_lt (by omega) M];omega
    ·have:Int.tmod (y26+1+y28) (bs.length:Int)=y26+1+y28 - (bs.length:Int):=by
      have e:y26+1+y28=(y26+1+y28 - (bs.length:Int))+1*(bs.length:Int):=by omega
      rw[Int.tmod_eq_emod_of_nonneg (by omega)]
      conv=>lhs;rw[e]
      rw[Int.add_mul_emod_self_right,Int.emod_eq_of_lt (by omega) (by omega)]
     rw[this];omega
   obtain⟨tx,X,t0,t1,tne⟩:=tm
   obtain⟨x,F,gx,d,hx⟩:=uM (R:=R) (N:=N) (t:=false) (o:=o) v (i:=ls.length) (by omega) y26 tx (H:=(H:Int)) (by omega) I C
   obtain⟨c,q,s⟩:=U fuel F (ls++[x]) (by omega) d (by simp;omega) (WE (P:=fun i x=>LineH bs.length i H x) lg ⟨by rw[gx.fr,gx.tx];exact gx,by rw[gx.fr];exact⟨y260,y261⟩,by rw[gx.tx];exact⟨t0,t1⟩,by rw[gx.fr,gx.tx];exact tne⟩)
   refine⟨c,q,fun K=>?_⟩
   rw[Qx];unfold Z0 O'
   have wn:wrap .i64 (((n+1:Nat):Int) - 1)=(n:Int):=pZ (by omega)
   have c2:(ble (ls.length+1) 140737488355328&&ble ((ls.length+1)*120) 140737488355328)=true:=by rw[F4,F4];simp;omega
   have c3:take (ls.length*12) (ls.flatMap LineD.av)++x.av=(ls++[x]).flatMap LineD.av:=by rw[Cp Fy _ rfl];simp
   rw[show decide (((n+1:Nat):Int)>0)=true from decide_eq_true (by omega),show decide ((bs.length:Int)>1)=true from decide_eq_true (by omega)]
   simp only[beq_self_eq_true,cond_true]
   rw[A,R7 (a:=(bs.length:Int) - 1) (by omega),D,show((bs.length:Int)==0)=false from beq_eq_false_iff_ne.2 (by omega),cf,R7 (a:=y26+1) (by omega),R7 (a:=y26+1+y28) (by omega),X,hx,show((beq (List.length x.av) 12)&&(ble 12 12))=true from rfl,ct,c2,ct,wn,<-s K,<-c3,Aua]
   rfl
def Ae3{N:Nat}{l:List Int}{o:Bool}(hN:4096<=N)(f:l.length<=9223372036854775807){H:Nat}{res:List Int}{bs:List BusD}(h:1<=H/\H<=3)(rl:res.length=H)(rr:∀ x∈res,0<=x/\x<5)(bl:1<=bs.length/\bs.length<=4)(bg:∀ i (h:i<bs.length),BusG i H bs[i]):
  ∀(m j fuel k:Nat)(ls:List LineD),j+1+m=bs.length->m<fuel->k<=l.length->ls.length=j->(∀ i (h:i<ls.length),LineH bs.length i H ls[i]) ->
  ∃ c,CJ c/\∀ K:LA->O R,Xp N K (A0 l) l.length o (H:Int) res.length bs.length (A0 res) (bs.flatMap BusD.av) fuel (bs.length:Int) ((j+1:Nat):Int) (k:Int) ls.length (ls.flatMap LineD.av)=K c.av
|0,j,fuel+1,k,ls,D,_,s,q,lg=>by
  obtain⟨y,u,y0,y1,d,v⟩:=nx (R:=R) (N:=N) (t:=false) (o:=o) f 5 (by omega) (by omega) k s
  obtain⟨n,hn⟩:∃ n:Nat,y=(n:Int):=⟨y.toNat,by omega⟩
  subst hn
  obtain⟨c,z,A⟩:=Am2 (R:=R) (o:=o) hN f h rl rr bl bg n N u ls (by omega) d (by omega) lg
  refine⟨c,z,fun K=>?_⟩
  rw[Xp];unfold II
  rw[Jr (by omega),cf,v];exact A K
|m+1,j,fuel+1,k,ls,D,F,s,q,lg=>by
  obtain⟨y,u,y0,y1,d,v⟩:=nx (R:=R) (N:=N) (t:=false) (o:=o) f ((j+1:Nat):Int) (by omega) (by omega) k s
  obtain⟨x,k2,gx,C,hx⟩:=uM (R:=R) (N:=N) (t:=false) (o:=o) f (i:=ls.length) (by omega) y ((j+1:Nat):Int) (H:=(H:Int)) (by omega) u d
  obtain⟨c,z,A⟩:=Ae3 (o:=o) hN f h rl rr bl bg m (j+1) fuel k2 (ls++[x]) (by omega) (by omega) C (by simp[q]) (WE (P:=fun i x=>LineH bs.length i H x) lg ⟨by rw[gx.fr,gx.tx];exact gx,by rw[gx.fr];omega,by rw[gx.tx];omega,by rw[gx.fr,gx.tx];omega⟩)
  refine⟨c,z,fun K=>?_⟩
  rw[Xp];unfold II
  have c2:(ble (ls.length+1) 140737488355328&&ble ((ls.length+1)*120) 140737488355328)=true:=by rw[F4,F4];simp;omega
  have c3:take (ls.length*12) (ls.flatMap LineD.av)++x.av=(ls++[x]).flatMap LineD.av:=by rw[Cp Fy _ rfl];simp
  rw[Ig (by omega),ct,v,hx,show((beq (List.length x.av) 12)&&(ble 12 12))=true from rfl,ct,c2,ct,F8 (by omega),<-A K,<-c3,Aua]
  rfl
def Ae4{N:Nat}{l:List Int}{o:Bool}(hN:4096<=N)(v:l.length<=9223372036854775807){H:Nat}{res:List Int}(h:1<=H/\H<=3)(rl:res.length=H)(rr:∀ x∈res,0<=x/\x<5):
  ∀(n fuel k:Nat)(bs:List BusD),n<fuel->k<=l.length->bs.length+n<=4->1<=bs.length+n->(∀ i (h:i<bs.length),BusG i H bs[i]) ->
  ∃ c,CJ c/\∀ K:LA->O R,Nx N K (A0 l) l.length o res.length (A0 res) fuel (n:Int) (k:Int) (H:Int) bs.length (bs.flatMap BusD.av)=K c.av
|0,fuel+1,k,bs,_,D,hn,F,bg=>by
  obtain⟨c,q,u⟩:=Ae3 (R:=R) (o:=o) hN v h rl rr ⟨by omega,by omega⟩ bg (bs.length - 1) 0 N k [] (by omega) (by omega) D rfl (by simp)
  refine⟨c,q,fun K=>?_⟩
  rw[Nx];unfold Z1
  rw[show decide (((0:Nat):Int)>0)=false from rfl,cf,<-u K]
  rfl
| n+1,fuel+1,k,bs,X,D,hn,F,bg=>by
  obtain⟨B,T,C,U,G,hB⟩:=GV (R:=R) (N:=N) (m:=H) (t:=false) (o:=o) (by omega) v 14 (by omega) (by omega) (by omega) k D
  obtain⟨y12,y,y120,y121,d,f⟩:=nx (R:=R) (N:=N) (t:=false) (o:=o) v 2 (by omega) (by omega) T G
  have wn:wrap .i64 (((n+1:Nat):Int) - 1)=(n:Int):=pZ (by omega)
  have c2:(ble (bs.length+1) 140737488355328&&ble ((bs.length+1)*48) 140737488355328)=true:=by rw[F4,F4];simp;omega
  have c3:∀ s:Int,take (bs.length*3) (bs.flatMap BusD.av)++[.str [98,Ass.getD bs.length 0],.imm (B.flatMap Sr) H 1 false false,.int .i64 s]=(bs++[(⟨[98,Ass.getD bs.length 0],.of B false false,s⟩:BusD)]).flatMap BusD.av:=fun s=>by
   rw[Cp Qu _ rfl];simp[BusD.av,Sl.av,C]
  have go:∀(s:Int)(kk:Nat),0<=s->s<300->kk<=l.length->∃ c,CJ c/\∀ K:LA->O R,Nx N K (A0 l) l.length o res.length (A0 res) fuel (n:Int) (kk:Int) (H:Int) (bs.length+1) (take (bs.length*3) (bs.flatMap BusD.av)++[.str [98,Ass.getD bs.length 0],.imm (B.flatMap Sr) H 1 false false,.int .i64 s])=K c.av:=by
   intro s kk V s1 I
   have gb:BusG bs.length H (⟨[98,Ass.getD bs.length 0],.of B false false,s⟩:BusD):=⟨rfl,C,U,V,s1⟩
   obtain⟨c,q,u⟩:=Ae4 (o:=o) hN v h rl rr n fuel kk (bs++[(⟨[98,Ass.getD bs.length 0],.of B false false,s⟩:BusD)]) (by omega) I (by simp;omega) (by simp;omega) (WE (P:=fun i x=>BusG i H x) bg gb)
   refine⟨c,q,fun K=>?_⟩
   rw[c3,<-u K,Aua]
   rfl
  by_cases S:y12=1
  ·have e1:(y12==1)=true:=by simpa using S
   obtain⟨y14,M,y140,y141,z,A⟩:=nx (R:=R) (N:=N) (t:=false) (o:=o) v 200 (by omega) (by omega) y d
   obtain⟨c,q,u⟩:=go (100+y14) M (by omega) (by omega) z
   refine⟨c,q,fun K=>?_⟩
   rw[Nx];unfold Z1
   rw[show decide (((n+1:Nat):Int)>0)=true from decide_eq_true (by omega),ct,Uz (by omega),hB,f,e1,ct,A,c2,ct,wn,R7 (a:=100+y14) (by omega),Rh C.symm,u]
  ·have e1:(y12==1)=false:=by simpa using S
   obtain⟨c,q,u⟩:=go 0 y (by omega) (by omega) d
   refine⟨c,q,fun K=>?_⟩
   rw[Nx];unfold Z1
   rw[show decide (((n+1:Nat):Int)>0)=true from decide_eq_true (by omega),ct,Uz (by omega),hB,f,e1,cf,c2,ct,wn,Rh C.symm,u]
def xO{N:Nat}{l:List Int}{n:Nat}{t o:Bool}(hn:n=l.length)(hN:4096<=N)(d:l.length<=9223372036854775807):∃ c,CJ c/\∀ K:LA->O R,XX N (A0 l) n t o K=K c.av:=by
 subst hn
 obtain⟨y1,y,y10,y11,f,q⟩:=nx (R:=R) (N:=N) (t:=false) (o:=o) d 3 (by omega) (by omega) 0 (by omega)
 obtain⟨H,hH⟩:∃ H:Nat,1+y1=(H:Int):=⟨(1+y1).toNat,by omega⟩
 obtain⟨B,k2,x,A,s,hB⟩:=GV (R:=R) (N:=N) (m:=H) (t:=false) (o:=o) (by omega) d 5 (by omega) (by omega) (by omega) y f
 obtain⟨y6,C,y60,y61,u,v⟩:=nx (R:=R) (N:=N) (t:=false) (o:=o) d 4 (by omega) (by omega) k2 s
 obtain⟨m,D⟩:∃ m:Nat,1+y6=(m:Int):=⟨(1+y6).toNat,by omega⟩
 obtain⟨c,F,G⟩:=Ae4 (R:=R) (o:=o) hN d (H:=H) (by omega) x A m N C [] (by omega) u (by simp;omega) (by simp;omega) (by simp)
 refine⟨c,F,fun K=>?_⟩
 rw[lM];unfold fk
 rw[pG];unfold vd
 have z:Ad N 3 (A0 l) l.length false o 0=Ad (R:=R) N 3 (A0 l) l.length false o ((0:Nat):Int):=rfl
 rw[z,q,R7 (a:=1+y1) (by omega),hH,hB,v,R7 (a:=1+y6) (by omega),D,<-G K,x]
 rfl
def gv{N:Nat}{s:Lu}{K:Bool->O R}(hs:s.length<4611686018427387904):∀(m j fuel:Nat),j+m=s.length->m<fuel ->
  Xw N K s fuel (s.length:Int) (j:Int)=K ((s.drop j).all Aga)
|0,j,fuel+1,d,_=>by
  rw[Xw];unfold IX
  rw[Jr (by omega),cf,R9 (by omega)];rfl
| m+1,j,fuel+1,d,u=>by
  rw[Xw];unfold IX
  have h:j<s.length:=by omega
  rw[Ig h,ct,Ab h,ct,F8 (by omega),gv hs m (j+1) fuel (by omega) (by omega),Mp h,Au5,vu h]
  unfold Aga OD
  generalize s[j].toNat=v
  generalize (s.drop (j+1)).all _=r
  by_cases f:97<=v<;>by_cases l:v<=122<;>by_cases n:48<=v<;>by_cases q:v<=57<;>by_cases t:v=95 <;>
   simp[f,l,n,q,show((v:Int)<97)↔¬ 97<=v by omega,show((v:Int)<48)↔¬ 48<=v by omega,show((122:Int)<v)↔¬ v<=122 by omega,show((57:Int)<v)↔¬ v<=57 by omega,show((v:Int) != 95)=!decide (v=95) by(by_cases v=95<;>simp_all<;>omega),t]
def R8{N:Nat}{s:Lu}{K:Bool->O R}(hN:64<=N):Mf N s K=K (A7 s):=by
 rw[l7];unfold gZ PX VN
 unfold A7
 by_cases d:1<=s.length
 ·by_cases f:s.length<=16
  ·have l:=gv (R:=R) (N:=N) (s:=s) (K:=K) (by omega) s.length 0 N (by omega) (by omega)
   simp only[Au0,Aws]at l
   rw[l]
   have n:Ai 0 s.length=true:=Ab (i:=0) (by omega)
   rw[n]
   simp only[d,f,show(decide ((s.length:Int)<1))=false by simp;omega,show(decide ((s.length:Int)>16))=false by simp;omega,decide_true,cond_true,cond_false,beq_self_eq_true]
   cases s==[99,111,114,114,101,99,116,105,118,101]
   ·unfold OD
    generalize (List.getD s 0 0).toNat=v
    by_cases q:97<=v<;>by_cases t:v<=122<;>simp[q,t,show((v:Int)<97)↔¬ 97<=v by omega,show((122:Int)<v)↔¬ v<=122 by omega]
   ·simp
  ·simp[d,f,show((s.length:Int)<1)↔¬ 1<=s.length by omega,show((16:Int)<s.length)↔¬ s.length<=16 by omega]
 ·simp[d,show((s.length:Int)<1)↔¬ 1<=s.length by omega]
end
end Gx.Cf
namespace Gx.Ct
open Go Go.Proofs Gx.Cf
section
variable{R:Type}{N:Nat}
def Ff(l:List Ah):take (l.length*1) (A9 l)=A9 l:=by rw[Auz,Aue (by simp[A9])]
def Io(l:List Ah)(w:Ah):A9 l++[.str w]=A9 (l++[w]):=by simp[A9]
def BG{n:Nat}(h:n<=2000000000):((ble n 140737488355328)&&(ble (n*16) 140737488355328))=true:=by simp;omega
def rG{l:List Ah}{w:Ah}{d f:Bool}(n:l.length<=1000000):∀(m j fuel:Nat),j+m=l.length->m<fuel ->
  ∃ v:Int,(decide (v>=0)=(l.drop j).contains w)/\∀ K:Int->O R,A4 N K (A9 l) l.length d f w fuel (l.length:Int) (j:Int)=K v
|0,j,fuel+1,q,_=>by
  refine⟨-1,by rw[Ey (by omega)];rfl,fun K=>?_⟩
  rw[A4];unfold Bp
  rw[Jr (by omega),cf]
| m+1,j,fuel+1,q,s=>by
  have h:j<l.length:=by omega
  obtain⟨v,v1,v2⟩:=rG (l:=l) (w:=w) (d:=d) (f:=f) n m (j+1) fuel (by omega) (by omega)
  by_cases e:w=l[j]
  ·refine⟨(j:Int),by rw[Dl h,Axc,e];simp,fun K=>?_⟩
   rw[A4];unfold Bp
   rw[Ig h,ct,Ab h,ct,Auf,Auz,Ke h,show(w==l[j])=true by simpa using e,ct]
  ·refine⟨v,by rw[v1,Dl h,Axc,show(w==l[j])=false by simpa using e,Avw],fun K=>?_⟩
   rw[A4];unfold Bp
   rw[Ig h,ct,Ab h,ct,Auf,Auz,Ke h,show(w==l[j])=false by simpa using e,cf,DJ (by omega),v2]
def U0{l:List Ah}{w:Ah}{n:Nat}{d f:Bool}{K:Bool->O R}(hN:1000000000<N)(hn:n=l.length)(q:l.length<=1000000):Ap N (A9 l) n d f w K=K (l.contains w):=by
 subst hn
 rw[I8];unfold Gc
 rw[Dv];unfold Ci
 obtain⟨v,v1,v2⟩:=rG (R:=R) (N:=N) (l:=l) (w:=w) (d:=false) (f:=f) q l.length 0 N (by omega) (by omega)
 refine(v2 _).trans ?_
 show K (decide (v>=0))=_
 rw[v1,Au0]
end
end Gx.Ct
namespace Gx.Ct
open Go Go.Proofs Gx.Cf
section
variable{R:Type}{N:Nat}{c:CaseD}{b:Bool}
def uR(o:OutD):Bool:=o.corr||o.moves.l.isEmpty
end
end Gx.Ct
namespace Gx.Ct
open Go Go.Proofs Gx.Cf
section
variable{R:Type}{N:Nat}
def gw{c:CaseD}{b:Bool}{K:Bool->O R}(f:c.ties.l.length<=1000000):∀(m j fuel:Nat)(ok:Bool),j+m=c.ties.l.length->m<fuel ->
  O9 N K (c.ties.l.flatMap TieD.av) c.ties.l.length b c.av fuel ok (c.ties.l.length:Int) (j:Int)=K (ok&&(c.ties.l.drop j).all (Ao6 c))
|0,j,fuel+1,ok,n,_=>by
  rw[O9];unfold Vs
  rw[Jr (by omega),cf,Ey (by omega),Awa,Awg]
| m+1,j,fuel+1,ok,n,u=>by
  rw[O9];unfold Vs
  have h:j<c.ties.l.length:=by omega
  rw[Ig h,ct,Ab h,ct,Sn Ol h,ct,Mi Ol h,show((beq 0 0)&&((beq ((TieD.av c.ties.l[j]).length) 5)&&(beq 5 5)))=true from rfl,ct,DJ (by omega),Dl h,Au5]
  have d:=fun ok=>gw (c:=c) (b:=b) (K:=K) f m (j+1) fuel ok (by omega) (by omega)
  have q:∀ F:LA->Nat->O R,By 1 (drop 2 (TieD.av c.ties.l[j])) F=F (A0 c.ties.l[j].imp.l) c.ties.l[j].imp.l.length:=fun F=>by
   show By 1 (c.ties.l[j].imp.av 1 Sr::_) F=_
   rw[Dw,Co]
  have s:∀ F:LA->Nat->O R,By 1 (drop 3 (TieD.av c.ties.l[j])) F=F (A0 c.ties.l[j].exp.l) c.ties.l[j].exp.l.length:=fun F=>by
   show By 1 (c.ties.l[j].exp.av 1 Sr::_) F=_
   rw[Dw,Co]
  have t:∀ F:LA->Nat->O R,By 1 (drop 4 (TieD.av c.ties.l[j])) F=F (A0 c.ties.l[j].price.l) c.ties.l[j].price.l.length:=fun F=>by
   show By 1 (c.ties.l[j].price.av 1 Sr::_) F=_
   rw[Dw,Co]
  cases ok with
  |false=>exact(d false).trans (by simp)
  | true =>
   rw[show((true:Bool)==true)=true from rfl,ct,q,Ka]
   show cond (OI c c.ties.l[j].imp==true) _ _=_
   unfold Ao6
   cases OI c c.ties.l[j].imp with
   |false=>exact(d false).trans (by simp)
   | true =>
    rw[show((true:Bool)==true)=true from rfl,ct,s,Ka]
    show cond (OI c c.ties.l[j].exp==true) _ _=_
    cases OI c c.ties.l[j].exp with
    |false=>exact(d false).trans (by simp)
    |true =>
     rw[show((true:Bool)==true)=true from rfl,ct,t,Ka]
     exact d (OI c c.ties.l[j].price)
def bL{c:CaseD}{b:Bool}{K:Bool->O R}(n:c.buses.l.length<=1000000)(d:c.ties.l.length<=1000000)(hN:1000000<N):∀(m j fuel:Nat)(ok:Bool),j+m=c.buses.l.length->m<fuel ->
  Lm N K (c.buses.l.flatMap BusD.av) c.buses.l.length b c.av fuel ok (c.buses.l.length:Int) (j:Int)=K (ok&&((c.buses.l.drop j).all (fun x=>OI c x.demand)&&c.ties.l.all (Ao6 c)))
|0,j,fuel+1,ok,q,_=>by
  rw[Lm];unfold Vt
  rw[Jr (by omega),cf,show c.buses.l.drop j=[]from Ey (by omega),Awa,To]
  refine(gw (b:=b) (K:=K) d c.ties.l.length 0 N ok (by omega) (by omega)).trans ?_
  rfl
| m+1,j,fuel+1,ok,q,t=>by
  rw[Lm];unfold Vt
  have h:j<c.buses.l.length:=by omega
  rw[Ig h,ct,Ab h,ct,Sn Qu h,ct,Mi Qu h,show((beq 0 0)&&((beq ((BusD.av c.buses.l[j]).length) 3)&&(beq 3 3)))=true from rfl,ct,DJ (by omega),Dl h,Au5]
  have f:=fun ok=>bL (c:=c) (b:=b) (K:=K) n d hN m (j+1) fuel ok (by omega) (by omega)
  have s:∀ F:LA->Nat->O R,By 1 (drop 1 (BusD.av c.buses.l[j])) F=F (A0 c.buses.l[j].demand.l) c.buses.l[j].demand.l.length:=fun F=>by
   show By 1 (c.buses.l[j].demand.av 1 Sr::_) F=_
   rw[Dw,Co]
  cases ok with
  |false=>exact(f false).trans (by simp)
  |true =>
   rw[show((true:Bool)==true)=true from rfl,ct,s,Ka]
   refine(f (OI c c.buses.l[j].demand)).trans ?_
   congr 1
   simp[Aw8]
def xP{c:CaseD}{t:Bool}{K:Bool->O R}(d:c.buses.l.length<=1000000)(f:c.ties.l.length<=1000000)(hN:1000000<N):FS N c.av t K=K (HT c):=by
 rw[UR];unfold IJ
 rw[cV,Ka,Fa]
 exact bL (b:=t) (K:=K) d f hN c.buses.l.length 0 N _ (by omega) (by omega)
def AL{i:Int}{n:Nat}{F:Bool->O R}:FT N i (n:Int) F=F (Ly i n):=by
 rw[qR];unfold wm Ly
 show cond (decide (0<=i)==true) (F (decide (i<(n:Int)))) (F false)=_
 cases decide (0<=i)<;>rfl
def uS{l:List Ah}{w:Ah}{d f:Bool}(n:l.length<=1000000):∀(m j fuel:Nat),j+m=l.length->m<fuel ->
  ∃ v:Int,(decide (v>=0)=(l.drop j).contains w)/\∀ K:Int->O R,M3 N K (A9 l) l.length d f w fuel (j:Int)=K v
|0,j,fuel+1,q,_=>by
  refine⟨-1,by rw[Ey (by omega)];rfl,fun K=>?_⟩
  rw[M3];unfold Vu
  rw[Jr (by omega),cf]
| m+1,j,fuel+1,q,s=>by
  have h:j<l.length:=by omega
  obtain⟨v,v1,v2⟩:=uS (l:=l) (w:=w) (d:=d) (f:=f) n m (j+1) fuel (by omega) (by omega)
  by_cases e:l[j]=w
  ·refine⟨(j:Int),by rw[Dl h,Axc,e];simp,fun K=>?_⟩
   rw[M3];unfold Vu
   rw[Ig h,ct,Ab h,ct,Auf,Auz,Ke h,show(l[j]==w)=true by simp[e],ct]
  ·refine⟨v,by rw[v1,Dl h,Axc,show(w==l[j])=false by simpa using fun h=>e h.symm,Avw],fun K=>?_⟩
   rw[M3];unfold Vu
   rw[Ig h,ct,Ab h,ct,Auf,Auz,Ke h,show(l[j]==w)=false by simp[e],cf,DJ (by omega),v2]
end
end Gx.Ct
namespace Gx.Ct
open Go Go.Proofs Gx.Cf
section
variable{R:Type}{N:Nat}{c:CaseD}{b:Bool}{K:Bool->O R}
def gy{o:OutD}{k4:Bool->Int->Int->O R}{C:LA}{D:Nat}{f ac:Int}(n:o.moves.l.length<=1000000000):∀(m j fuel:Nat)(ok:Bool),j+m=o.moves.l.length->m<fuel ->
  Rx N k4 K C D b f (o.moves.l.flatMap MoveD.av) o.moves.l.length c.av fuel ok ac (o.moves.l.length:Int) (j:Int)=k4 (ok&&(o.moves.l.drop j).all fun m=>Ly m.unit c.units.l.length) f (wrap .i64 (ac+1))
|0,j,fuel+1,ok,q,_=>by
  rw[Rx];unfold Y4
  rw[Jr (by omega),cf,Ey (by omega),Awa,Awg]
| m+1,j,fuel+1,ok,q,s=>by
  rw[Rx];unfold Y4
  have h:j<o.moves.l.length:=by omega
  have e:take 3 (drop (Int.toNat (j:Int)*3) (o.moves.l.flatMap MoveD.av))=[.int .i64 (o.moves.l[j]).unit,.int .i64 (o.moves.l[j]).up,.int .i64 (o.moves.l[j]).down]:=Mi (e:=MoveD.av) (sz:=3) (fun _=>rfl) h
  rw[Ig h,ct,Ab h,ct,Sn (e:=MoveD.av) (sz:=3) (fun _=>rfl) h,ct,e,show(!b||Bg [AV.int .i64 (o.moves.l[j]).unit,.int .i64 (o.moves.l[j]).up,.int .i64 (o.moves.l[j]).down])=true by cases b<;>rfl,ct,DJ (by omega),Dl h,
   show((beq ([AV.int .i64 (o.moves.l[j]).unit,.int .i64 (o.moves.l[j]).up,.int .i64 (o.moves.l[j]).down].length) 3)&&((ble 3 3)&&(!false)))=true from rfl,ct,Au5]
  have d:=fun ok=>gy (k4:=k4) (C:=C) (D:=D) (f:=f) (ac:=ac) n m (j+1) fuel ok (by omega) (by omega)
  cases ok with
  |false=>exact(d false).trans rfl
  |true =>
   rw[show((true:Bool)==true)=true from rfl,ct,show ∀ F:Int->O R,Bf .i64 (setCells [A09,A09,A09] 0 [AV.int .i64 (o.moves.l[j]).unit,.int .i64 (o.moves.l[j]).up,.int .i64 (o.moves.l[j]).down]) F=F (o.moves.l[j]).unit from fun _=>rfl,Kb,AL]
   exact d (Ly (o.moves.l[j]).unit c.units.l.length)
def rH{o:OutD}{k4:Bool->Int->Int->O R}{C:LA}{D:Nat}{f ac:Int}(hN:1000000000<N)(d:o.moves.l.length<=1000000000)(q:o.lines.l.length<=1000000000):∀(m j fuel:Nat)(ok:Bool),j+m=o.lines.l.length->m<fuel ->
  Nz N k4 K C D b f (A0 o.lines.l) o.lines.l.length c.av fuel ok ac (o.lines.l.length:Int) (j:Int) o.av=k4 (ok&&((o.lines.l.drop j).all (fun l=>Ly l c.lines.l.length)&&o.moves.l.all fun m=>Ly m.unit c.units.l.length)) f (wrap .i64 (ac+1))
|0,j,fuel+1,ok,s,_=>by
  rw[Nz];unfold Y5
  rw[Jr (by omega),cf,show o.lines.l.drop j=[]from Ey (by omega),Awa]
  show By 3 (o.moves.av 3 MoveD.av::_) _=_
  rw[Dw]
  refine(gy d o.moves.l.length 0 N ok (by omega) (by omega)).trans ?_
  rw[Au0,Avi]
| m+1,j,fuel+1,ok,s,t=>by
  rw[Nz];unfold Y5
  have h:j<o.lines.l.length:=by omega
  have n:=fun ok=>rH (k4:=k4) (C:=C) (D:=D) (f:=f) (ac:=ac) hN d q m (j+1) fuel ok (by omega) (by omega)
  rw[Ig h,ct,Ab h,ct,RH h,DJ (by omega),Dl h,Au5]
  cases ok with
  |false=>exact(n false).trans rfl
  |true =>
   rw[show((true:Bool)==true)=true from rfl,ct,G9,AL]
   refine(n (Ly o.lines.l[j] c.lines.l.length)).trans ?_
   rw[Avi,Aw8]
def mA(hN:1000000000<N)(f:c.outs.l.length<=1000)(hI:∀ o∈c.outs.l,OutI 1000000000 o):∀(m j fuel:Nat)(ok:Bool),j+m=c.outs.l.length->m<fuel ->
  H4 N K (c.outs.l.flatMap OutD.av) c.outs.l.length b c.av fuel ok (c.outs.l.length:Int) (j:Int)=K (ok&&(c.outs.l.drop j).all (gp c))
|0,j,fuel+1,ok,n,_=>by
  rw[H4];unfold Y6
  rw[Jr (by omega),cf,Ey (by omega),Awa,Awg]
|m+1,j,fuel+1,ok,n,q=>by
  rw[H4];unfold Y6
  have h:j<c.outs.l.length:=by omega
  have d:=hI _ (Aur h)
  rw[Ig h,ct,Ab h,ct,Sn (e:=OutD.av) (sz:=4) (fun _=>rfl) h,ct,Mi (e:=OutD.av) (sz:=4) (fun _=>rfl) h,show((beq 0 0)&&((beq ((OutD.av c.outs.l[j]).length) 4)&&(beq 4 4)))=true from rfl,ct]
  show By 1 ((c.outs.l[j]).lines.av 1 Sr::_) _=_
  rw[Dw,Co]
  refine(rH hN d.m.2 d.l (c.outs.l[j]).lines.l.length 0 N ok (by omega) (by have:=d.l;omega)).trans ?_
  rw[DJ (by omega),Au0]
  refine(mA hN f hI m (j+1) fuel _ (by omega) (by omega)).trans ?_
  rw[Dl h,Au5]
  unfold gp
  simp only[Aw8]
def mB(hN:1000000000<N)(f:c.ties.l.length<=1000)(hr:∀(ok:Bool)(fuel:Nat),1000<fuel->H4 N K (c.outs.l.flatMap OutD.av) c.outs.l.length b c.av fuel ok (c.outs.l.length:Int) 0=K (ok&&c.outs.l.all (gp c))):∀(m j fuel:Nat)(ok:Bool),j+m=c.ties.l.length->m<fuel ->
  Kh N K (c.buses.l.length:Int) (c.ties.l.flatMap TieD.av) c.ties.l.length b c.av fuel ok (c.ties.l.length:Int) (j:Int)=K (ok&&((c.ties.l.drop j).all (fun t=>Ly t.bus c.buses.l.length)&&c.outs.l.all (gp c)))
|0,j,fuel+1,ok,n,_=>by
  rw[Kh];unfold Y7
  rw[Jr (by omega),cf,show c.ties.l.drop j=[]from Ey (by omega),Awa,Ni,Avi]
  exact hr ok N (by omega)
| m+1,j,fuel+1,ok,n,q=>by
  rw[Kh];unfold Y7
  have h:j<c.ties.l.length:=by omega
  have d:=fun ok=>mB hN f hr m (j+1) fuel ok (by omega) (by omega)
  rw[Ig h,ct,Ab h,ct,Sn (e:=TieD.av) (sz:=5) (fun _=>rfl) h,ct,Mi (e:=TieD.av) (sz:=5) (fun _=>rfl) h,show((beq 0 0)&&((beq ((TieD.av c.ties.l[j]).length) 5)&&(beq 5 5)))=true from rfl,ct,DJ (by omega),Dl h,Au5]
  cases ok with
  |false=>exact(d false).trans rfl
  |true =>
   rw[show((true:Bool)==true)=true from rfl,ct]
   rw[show ∀ F:Int->O R,Bf .i64 (drop 1 (c.ties.l[j]).av) F=F (c.ties.l[j]).bus from fun _=>rfl,AL]
   refine(d (Ly (c.ties.l[j]).bus c.buses.l.length)).trans ?_
   rw[Avi,Aw8]
def bM(hN:1000000000<N)(f:c.stores.l.length<=1000)(hr:∀(ok:Bool)(fuel:Nat),1000<fuel->Kh N K (c.buses.l.length:Int) (c.ties.l.flatMap TieD.av) c.ties.l.length b c.av fuel ok (c.ties.l.length:Int) 0=K (ok&&(c.ties.l.all (fun t=>Ly t.bus c.buses.l.length)&&c.outs.l.all (gp c)))):∀(m j fuel:Nat)(ok:Bool),j+m=c.stores.l.length->m<fuel ->
  Ki N K (c.buses.l.length:Int) (c.stores.l.flatMap StoreD.av) c.stores.l.length b c.av fuel ok (c.stores.l.length:Int) (j:Int)=K (ok&&((c.stores.l.drop j).all (fun s=>Ly s.bus c.buses.l.length)&&(c.ties.l.all (fun t=>Ly t.bus c.buses.l.length)&&c.outs.l.all (gp c))))
|0,j,fuel+1,ok,n,_=>by
  rw[Ki];unfold Y8
  rw[Jr (by omega),cf,show c.stores.l.drop j=[]from Ey (by omega),Awa,To,Avi]
  exact hr ok N (by omega)
| m+1,j,fuel+1,ok,n,q=>by
  rw[Ki];unfold Y8
  have h:j<c.stores.l.length:=by omega
  have d:=fun ok=>bM hN f hr m (j+1) fuel ok (by omega) (by omega)
  rw[Ig h,ct,Ab h,ct,Sn (e:=StoreD.av) (sz:=9) (fun _=>rfl) h,ct,Mi (e:=StoreD.av) (sz:=9) (fun _=>rfl) h,show((beq 0 0)&&((beq ((StoreD.av c.stores.l[j]).length) 9)&&(beq 9 9)))=true from rfl,ct,DJ (by omega),Dl h,Au5]
  cases ok with
  |false=>exact(d false).trans rfl
  |true =>
   rw[show((true:Bool)==true)=true from rfl,ct]
   rw[show ∀ F:Int->O R,Bf .i64 (drop 1 (c.stores.l[j]).av) F=F (c.stores.l[j]).bus from fun _=>rfl,AL]
   refine(d (Ly (c.stores.l[j]).bus c.buses.l.length)).trans ?_
   rw[Avi,Aw8]
def gz(hN:1000000000<N)(f:c.units.l.length<=1000)(hr:∀(ok:Bool)(fuel:Nat),1000<fuel->Ki N K (c.buses.l.length:Int) (c.stores.l.flatMap StoreD.av) c.stores.l.length b c.av fuel ok (c.stores.l.length:Int) 0=K (ok&&(c.stores.l.all (fun s=>Ly s.bus c.buses.l.length)&&(c.ties.l.all (fun t=>Ly t.bus c.buses.l.length)&&c.outs.l.all (gp c))))):∀(m j fuel:Nat)(ok:Bool),j+m=c.units.l.length->m<fuel ->
  Kj N K (c.buses.l.length:Int) (c.units.l.flatMap UnitD.av) c.units.l.length b c.av fuel ok (c.units.l.length:Int) (j:Int)=K (ok&&((c.units.l.drop j).all (fun u=>Ly u.bus c.buses.l.length&&Ly u.state 3)&&(c.stores.l.all (fun s=>Ly s.bus c.buses.l.length)&&(c.ties.l.all (fun t=>Ly t.bus c.buses.l.length)&&c.outs.l.all (gp c)))))
|0,j,fuel+1,ok,n,_=>by
  rw[Kj];unfold Y9
  rw[Jr (by omega),cf,show c.units.l.drop j=[]from Ey (by omega),Awa,Mq,Avi]
  exact hr ok N (by omega)
| m+1,j,fuel+1,ok,n,q=>by
  rw[Kj];unfold Y9
  have h:j<c.units.l.length:=by omega
  have d:=fun ok=>gz hN f hr m (j+1) fuel ok (by omega) (by omega)
  rw[Ig h,ct,Ab h,ct,Sn (e:=UnitD.av) (sz:=22) (fun _=>rfl) h,ct,Mi (e:=UnitD.av) (sz:=22) (fun _=>rfl) h,show((beq 0 0)&&((beq ((UnitD.av c.units.l[j]).length) 22)&&(beq 22 22)))=true from rfl,ct,DJ (by omega),Dl h,Au5]
  cases ok with
  |false=>exact(d false).trans rfl
  | true =>
   rw[show((true:Bool)==true)=true from rfl,ct]
   rw[show ∀ F:Int->O R,Bf .i64 (drop 1 (c.units.l[j]).av) F=F (c.units.l[j]).bus from fun _=>rfl,AL]
   show cond (Ly (c.units.l[j]).bus c.buses.l.length==true) _ _=_
   cases Ly (c.units.l[j]).bus c.buses.l.length with
   |false=>exact(d false).trans rfl
   |true =>
    rw[show((true:Bool)==true)=true from rfl,ct,show ∀ F:Int->O R,Bf .i64 (drop 19 (c.units.l[j]).av) F=F (c.units.l[j]).state from fun _=>rfl,show(3:Int)=((3:Nat):Int)from rfl,AL]
    refine(d (Ly (c.units.l[j]).state 3)).trans ?_
    rw[Avi,Avi,Aw8]
def hY(hN:1000000000<N)(f:c.lines.l.length<=1000)(hr:∀(ok:Bool)(fuel:Nat),1000<fuel->Kj N K (c.buses.l.length:Int) (c.units.l.flatMap UnitD.av) c.units.l.length b c.av fuel ok (c.units.l.length:Int) 0=K (ok&&(c.units.l.all (fun u=>Ly u.bus c.buses.l.length&&Ly u.state 3)&&(c.stores.l.all (fun s=>Ly s.bus c.buses.l.length)&&(c.ties.l.all (fun t=>Ly t.bus c.buses.l.length)&&c.outs.l.all (gp c)))))):∀(m j fuel:Nat)(ok:Bool),j+m=c.lines.l.length->m<fuel ->
  N0 N K (c.lines.l.flatMap LineD.av) c.lines.l.length b c.av fuel (c.buses.l.length:Int) ok (c.lines.l.length:Int) (j:Int)=K (ok&&((c.lines.l.drop j).all (fun l=>Ly l.fr c.buses.l.length&&Ly l.tl c.buses.l.length)&&(c.units.l.all (fun u=>Ly u.bus c.buses.l.length&&Ly u.state 3)&&(c.stores.l.all (fun s=>Ly s.bus c.buses.l.length)&&(c.ties.l.all (fun t=>Ly t.bus c.buses.l.length)&&c.outs.l.all (gp c))))))
|0,j,fuel+1,ok,n,_=>by
  rw[N0];unfold Za
  rw[Jr (by omega),cf,show c.lines.l.drop j=[]from Ey (by omega),Awa,Kb,Avi]
  exact hr ok N (by omega)
| m+1,j,fuel+1,ok,n,q=>by
  rw[N0];unfold Za
  have h:j<c.lines.l.length:=by omega
  have d:=fun ok=>hY hN f hr m (j+1) fuel ok (by omega) (by omega)
  rw[Ig h,ct,Ab h,ct,Sn (e:=LineD.av) (sz:=12) (fun _=>rfl) h,ct,Mi (e:=LineD.av) (sz:=12) (fun _=>rfl) h,show((beq 0 0)&&((beq ((LineD.av c.lines.l[j]).length) 12)&&(beq 12 12)))=true from rfl,ct,DJ (by omega),Dl h,Au5]
  cases ok with
  |false=>exact(d false).trans rfl
  | true =>
   rw[show((true:Bool)==true)=true from rfl,ct]
   rw[show ∀ F:Int->O R,Bf .i64 (drop 1 (c.lines.l[j]).av) F=F (c.lines.l[j]).fr from fun _=>rfl,AL]
   show cond (Ly (c.lines.l[j]).fr c.buses.l.length==true) _ _=_
   cases Ly (c.lines.l[j]).fr c.buses.l.length with
   |false=>exact(d false).trans rfl
   |true =>
    rw[show((true:Bool)==true)=true from rfl,ct,show ∀ F:Int->O R,Bf .i64 (drop 2 (c.lines.l[j]).av) F=F (c.lines.l[j]).tl from fun _=>rfl,AL]
    refine(d (Ly (c.lines.l[j]).tl c.buses.l.length)).trans ?_
    rw[Avi,Avi,Aw8]
def zl(hN:1000000000<N)(d:Ok c=true)(hI:∀ o∈c.outs.l,OutI 1000000000 o):DS N c.av b K=K (Qr c):=by
 unfold Ok at d
 simp only[Auh,decide_eq_true_eq]at d
 obtain⟨c1,c2,c3,c4,c5,y⟩:=d
 rw[a_];unfold PC
 rw[Fa,G9]
 have n:∀(ok:Bool)(fuel:Nat),1000<fuel->H4 N K (c.outs.l.flatMap OutD.av) c.outs.l.length b c.av fuel ok (c.outs.l.length:Int) 0=K (ok&&c.outs.l.all (gp c)):=fun ok fuel f=>mA hN (by omega) hI c.outs.l.length 0 fuel ok (by omega) (by omega)
 have q:∀(ok:Bool)(fuel:Nat),1000<fuel->Kh N K (c.buses.l.length:Int) (c.ties.l.flatMap TieD.av) c.ties.l.length b c.av fuel ok (c.ties.l.length:Int) 0=K (ok&&(c.ties.l.all (fun t=>Ly t.bus c.buses.l.length)&&c.outs.l.all (gp c))):=fun ok fuel f=>mB hN (by omega) n c.ties.l.length 0 fuel ok (by omega) (by omega)
 have v:∀(ok:Bool)(fuel:Nat),1000<fuel->Ki N K (c.buses.l.length:Int) (c.stores.l.flatMap StoreD.av) c.stores.l.length b c.av fuel ok (c.stores.l.length:Int) 0=K (ok&&(c.stores.l.all (fun s=>Ly s.bus c.buses.l.length)&&(c.ties.l.all (fun t=>Ly t.bus c.buses.l.length)&&c.outs.l.all (gp c)))):=fun ok fuel f=>bM hN (by omega) q c.stores.l.length 0 fuel ok (by omega) (by omega)
 have x:∀(ok:Bool)(fuel:Nat),1000<fuel->Kj N K (c.buses.l.length:Int) (c.units.l.flatMap UnitD.av) c.units.l.length b c.av fuel ok (c.units.l.length:Int) 0=K (ok&&(c.units.l.all (fun u=>Ly u.bus c.buses.l.length&&Ly u.state 3)&&(c.stores.l.all (fun s=>Ly s.bus c.buses.l.length)&&(c.ties.l.all (fun t=>Ly t.bus c.buses.l.length)&&c.outs.l.all (gp c))))):=fun ok fuel f=>gz hN (by omega) v c.units.l.length 0 fuel ok (by omega) (by omega)
 exact hY hN (by omega) x c.lines.l.length 0 N true (by omega) (by omega)
end
end Gx.Ct
namespace Gx.Ct
open Go Go.Proofs Gx.Cf
section
variable{R:Type}{N:Nat}{c:CaseD}{b:Bool}{K:Nat->LA->O R}
def ID(f:c.buses.l.length<=1000000000):∀(m j fuel:Nat)(A:List Ah),j+m=c.buses.l.length->m<fuel->A.length=j ->
  Gy N K b c.av fuel A.length (j:Int) (A9 A)=K (A++(c.buses.l.drop j).map BusD.name).length (A9 (A++(c.buses.l.drop j).map BusD.name))
|0,j,fuel+1,A,n,_,hA=>by
  rw[Gy];unfold Oz
  rw[Fa,Jr (by omega),cf,show c.buses.l.drop j=[]from Ey (by omega),Av9,Auk]
|m+1,j,fuel+1,A,n,q,hA=>by
  rw[Gy];unfold Oz
  have h:j<c.buses.l.length:=by omega
  rw[Fa,Ig h,ct,Fa,Ab h,ct,Auf,Bm (e:=BusD.av) (sz:=3) (fun _=>rfl) _ _ h,show ∀ F:Ah->O R,Mj (BusD.av c.buses.l[j]++(c.buses.l.drop (j+1)).flatMap BusD.av) F=F (c.buses.l[j]).name from fun _=>rfl,BG (by omega),ct,DJ (by omega),Ff,Io,Dl h,Auq]
  have d:=ID f m (j+1) fuel (A++[(c.buses.l[j]).name]) (by omega) (by omega) (by simp[hA])
  rw[Aua,Avc]at d
  refine d.trans ?_
  rw[Aun];rfl
def Zw(f:c.lines.l.length<=1000000000):∀(m j fuel:Nat)(A:List Ah),j+m=c.lines.l.length->m<fuel->A.length=j ->
  Gz N K b c.av fuel A.length (j:Int) (A9 A)=K (A++(c.lines.l.drop j).map LineD.name).length (A9 (A++(c.lines.l.drop j).map LineD.name))
|0,j,fuel+1,A,n,_,hA=>by
  rw[Gz];unfold O0
  rw[G9,Jr (by omega),cf,show c.lines.l.drop j=[]from Ey (by omega),Av9,Auk]
|m+1,j,fuel+1,A,n,q,hA=>by
  rw[Gz];unfold O0
  have h:j<c.lines.l.length:=by omega
  rw[G9,Ig h,ct,G9,Ab h,ct,Auf,Bm (e:=LineD.av) (sz:=12) (fun _=>rfl) _ _ h,show ∀ F:Ah->O R,Mj (LineD.av c.lines.l[j]++(c.lines.l.drop (j+1)).flatMap LineD.av) F=F (c.lines.l[j]).name from fun _=>rfl,BG (by omega),ct,DJ (by omega),Ff,Io,Dl h,Auq]
  have d:=Zw f m (j+1) fuel (A++[(c.lines.l[j]).name]) (by omega) (by omega) (by simp[hA])
  rw[Aua,Avc]at d
  refine d.trans ?_
  rw[Aun];rfl
def Zx(f:c.units.l.length<=1000000000):∀(m j fuel:Nat)(A:List Ah),j+m=c.units.l.length->m<fuel->A.length=j ->
  G0 N K b c.av fuel A.length (j:Int) (A9 A)=K (A++(c.units.l.drop j).map UnitD.name).length (A9 (A++(c.units.l.drop j).map UnitD.name))
|0,j,fuel+1,A,n,_,hA=>by
  rw[G0];unfold O1
  rw[Kb,Jr (by omega),cf,show c.units.l.drop j=[]from Ey (by omega),Av9,Auk]
|m+1,j,fuel+1,A,n,q,hA=>by
  rw[G0];unfold O1
  have h:j<c.units.l.length:=by omega
  rw[Kb,Ig h,ct,Kb,Ab h,ct,Auf,Bm (e:=UnitD.av) (sz:=22) (fun _=>rfl) _ _ h,show ∀ F:Ah->O R,Mj (UnitD.av c.units.l[j]++(c.units.l.drop (j+1)).flatMap UnitD.av) F=F (c.units.l[j]).name from fun _=>rfl,BG (by omega),ct,DJ (by omega),Ff,Io,Dl h,Auq]
  have d:=Zx f m (j+1) fuel (A++[(c.units.l[j]).name]) (by omega) (by omega) (by simp[hA])
  rw[Aua,Avc]at d
  refine d.trans ?_
  rw[Aun];rfl
def Vn(f:c.stores.l.length<=1000000000):∀(m j fuel:Nat)(A:List Ah),j+m=c.stores.l.length->m<fuel->A.length=j ->
  G1 N K b c.av fuel A.length (j:Int) (A9 A)=K (A++(c.stores.l.drop j).map StoreD.name).length (A9 (A++(c.stores.l.drop j).map StoreD.name))
|0,j,fuel+1,A,n,_,hA=>by
  rw[G1];unfold O2
  rw[Mq,Jr (by omega),cf,show c.stores.l.drop j=[]from Ey (by omega),Av9,Auk]
|m+1,j,fuel+1,A,n,q,hA=>by
  rw[G1];unfold O2
  have h:j<c.stores.l.length:=by omega
  rw[Mq,Ig h,ct,Mq,Ab h,ct,Auf,Bm (e:=StoreD.av) (sz:=9) (fun _=>rfl) _ _ h,show ∀ F:Ah->O R,Mj (StoreD.av c.stores.l[j]++(c.stores.l.drop (j+1)).flatMap StoreD.av) F=F (c.stores.l[j]).name from fun _=>rfl,BG (by omega),ct,DJ (by omega),Ff,Io,Dl h,Auq]
  have d:=Vn f m (j+1) fuel (A++[(c.stores.l[j]).name]) (by omega) (by omega) (by simp[hA])
  rw[Aua,Avc]at d
  refine d.trans ?_
  rw[Aun];rfl
def FO(f:c.ties.l.length<=1000000000):∀(m j fuel:Nat)(A:List Ah),j+m=c.ties.l.length->m<fuel->A.length=j ->
  G2 N K b c.av fuel A.length (j:Int) (A9 A)=K (A++(c.ties.l.drop j).map TieD.name).length (A9 (A++(c.ties.l.drop j).map TieD.name))
|0,j,fuel+1,A,n,_,hA=>by
  rw[G2];unfold O3
  rw[To,Jr (by omega),cf,show c.ties.l.drop j=[]from Ey (by omega),Av9,Auk]
|m+1,j,fuel+1,A,n,q,hA=>by
  rw[G2];unfold O3
  have h:j<c.ties.l.length:=by omega
  rw[To,Ig h,ct,To,Ab h,ct,Auf,Bm (e:=TieD.av) (sz:=5) (fun _=>rfl) _ _ h,show ∀ F:Ah->O R,Mj (TieD.av c.ties.l[j]++(c.ties.l.drop (j+1)).flatMap TieD.av) F=F (c.ties.l[j]).name from fun _=>rfl,BG (by omega),ct,DJ (by omega),Ff,Io,Dl h,Auq]
  have d:=FO f m (j+1) fuel (A++[(c.ties.l[j]).name]) (by omega) (by omega) (by simp[hA])
  rw[Aua,Avc]at d
  refine d.trans ?_
  rw[Aun];rfl
def FP(f:c.outs.l.length<=1000000000):∀(m j fuel:Nat)(A:List Ah),j+m=c.outs.l.length->m<fuel->A.length=j ->
  G3 N K b c.av fuel A.length (j:Int) (A9 A)=K (A++(c.outs.l.drop j).map OutD.name).length (A9 (A++(c.outs.l.drop j).map OutD.name))
|0,j,fuel+1,A,n,_,hA=>by
  rw[G3];unfold O4
  rw[Ni,Jr (by omega),cf,show c.outs.l.drop j=[]from Ey (by omega),Av9,Auk]
|m+1,j,fuel+1,A,n,q,hA=>by
  rw[G3];unfold O4
  have h:j<c.outs.l.length:=by omega
  rw[Ni,Ig h,ct,Ni,Ab h,ct,Auf,Bm (e:=OutD.av) (sz:=4) (fun _=>rfl) _ _ h,show ∀ F:Ah->O R,Mj (OutD.av c.outs.l[j]++(c.outs.l.drop (j+1)).flatMap OutD.av) F=F (c.outs.l[j]).name from fun _=>rfl,BG (by omega),ct,DJ (by omega),Ff,Io,Dl h,Auq]
  have d:=FP f m (j+1) fuel (A++[(c.outs.l[j]).name]) (by omega) (by omega) (by simp[hA])
  rw[Aua,Avc]at d
  refine d.trans ?_
  rw[Aun];rfl
def Pi(c:CaseD)(k:Nat):List Ah:=(Cc c).getD (k - 1) []
structure ListsOk(c:CaseD):Prop where
 b:c.buses.l.length<=1000000000
 l:c.lines.l.length<=1000000000
 u:c.units.l.length<=1000000000
 s:c.stores.l.length<=1000000000
 t:c.ties.l.length<=1000000000
 o:c.outs.l.length<=1000000000
def rI(hN:1000000000<N)(d:ListsOk c){k:Nat}(f:1<=k)(n:k<=6):Gf N c.av b (k:Int) K=K (Pi c k).length (A9 (Pi c k)):=by
 have c1:=d.b;have c2:=d.l;have c3:=d.u;have c4:=d.s;have c5:=d.t;have q:=d.o
 rw[Ic];unfold Ld
 have:k=1\/k=2\/k=3\/k=4\/k=5\/k=6:=by omega
 rcases this with rfl|rfl|rfl|rfl|rfl|rfl
 ·exact ID (by omega) c.buses.l.length 0 N [] (by omega) (by omega) rfl
 ·exact Zw (by omega) c.lines.l.length 0 N [] (by omega) (by omega) rfl
 ·exact Zx (by omega) c.units.l.length 0 N [] (by omega) (by omega) rfl
 ·exact Vn (by omega) c.stores.l.length 0 N [] (by omega) (by omega) rfl
 ·exact FO (by omega) c.ties.l.length 0 N [] (by omega) (by omega) rfl
 ·exact FP (by omega) c.outs.l.length 0 N [] (by omega) (by omega) rfl
def uT(k:Nat):Nat:=[32,64,16,8,8,64].getD (k - 1) 0
def Ag5{k:Nat}(d:1<=k)(f:k<=6){F:Int->O R}:Qh N (k:Int) F=F (uT k):=by
 rw[NS];unfold XK
 have:k=1\/k=2\/k=3\/k=4\/k=5\/k=6:=by omega
 rcases this with rfl|rfl|rfl|rfl|rfl|rfl<;>rfl
def tI(c:CaseD)(k:Nat):Bool:=decide ((Pi c k).length<=uT k)
def Ag6(c:CaseD):Ok c=(tI c 1&&(tI c 2&&(tI c 3&&(tI c 4&&(tI c 5&&tI c 6))))):=by
 unfold Ok tI
 simp[Pi,Cc,uT,Bt,Cb,Cl,cX,Ab1,sK]
end
end Gx.Ct
namespace Gx.Ct
open Go Go.Proofs Gx.Cf
section
variable{R:Type}{N:Nat}{c:CaseD}{b:Bool}{K:List UInt8->Int->O R}
def uU(hN:1000000000<N)(f:ListsOk c):∀(m k fuel:Nat),1<=k->k+m=7->m<fuel ->
  Lr N K b c.av fuel (k:Int)=cond ((List.range' k m).all (tI c)) (Bf .i64 c.av fun ad=>cond ((decide (ad<1))==false) (Bf .i64 c.av fun ae=>cond (cond false true (decide (ae>24))) (K ([]:Lu) 3) (Zb N K b c.av)) (K ([]:Lu) 3)) (K [] 8)
|0,k,fuel+1,d,l,_=>by
  rw[Lr];unfold V1
  rw[decide_eq_false (show ¬ (k:Int)<=6 by omega),cf];rfl
|m+1,k,fuel+1,d,l,q=>by
  rw[Lr];unfold V1
  have n:=uU hN f m (k+1) fuel (by omega) (by omega) (by omega)
  rw[decide_eq_true (show(k:Int)<=6 by omega),ct,Hr,ct,Dn,rI hN f d (by omega),Ag5 d (by omega),DJ (by omega),n,Ayg,Au5]
  unfold tI
  by_cases g:(Pi c k).length<=uT k
  ·rw[decide_eq_true g,decide_eq_false (show ¬ (((Pi c k).length:Nat):Int)>((uT k:Nat):Int) by omega)];rfl
  ·rw[decide_eq_false g,decide_eq_true (show(((Pi c k).length:Nat):Int)>((uT k:Nat):Int) by omega)];rfl
def zm{l:List Ah}{k2:Bool->Int->O R}{kd:Int}(hN:1000000000<N)(s:l.length<=1000):∀(m h fuel:Nat)(p:Bool),h+m=l.length->m<fuel ->
  Lo N k2 K l.length b c.av (A9 l) fuel p kd (h:Int)=cond ((l.drop h).all A7) (k2 (p||HU (l.take h) (l.drop h)) (wrap .i64 (kd+1))) (K [] 9)
|0,h,fuel+1,p,t,_=>by
  rw[Lo];unfold Vy
  rw[Jr (by omega),cf,show l.drop h=[]from Ey (by omega),Awa,HU,Awh];rfl
| m+1,h,fuel+1,p,t,x=>by
  rw[Lo];unfold Vy
  have n:h<l.length:=by omega
  have q:=fun p=>zm (k2:=k2) (kd:=kd) hN s m (h+1) fuel p (by omega) (by omega)
  have rd:∀ F:Ah->O R,Mj (drop (0+(Int.toNat (h:Int))*1) (A9 l)) F=F l[h]:=fun F=>by rw[Aux,Auf,Auz,Ke n]
  have et:l.take (h+1)=l.take h++[l[h]]:=by rw[List.take_add_one,Aug n];rfl
  have tw:∀ p:Bool,(p||HU (l.take h) (l[h]::l.drop (h+1)))=((p||(l.take h).contains l[h])||HU (l.take (h+1)) (l.drop (h+1))):=fun p=>by rw[HU,et,Avr]
  rw[Ig n,ct,Ab n,ct,rd,aO (by omega),Dl n,Au5,tw]
  cases A7 l[h]with
  |false=>rfl
  | true =>
   rw[show(!true)=false from rfl,cf,DJ (by omega)]
   cases p with
   |true =>
    refine(q true).trans ?_
    rfl
   |false =>
    have es:take ((Int.toNat (h:Int))*1) (A9 l)=A9 (l.take h):=by rw[Auf,Auz];unfold A9;rw[List.map_take]
    have u:(l.take h).length=h:=List.length_take_of_le (by omega)
    obtain⟨v,v1,v2⟩:=uS (R:=R) (N:=N) (l:=l.take h) (w:=l[h]) (d:=false) (f:=true) (by omega) h 0 N (by omega) (by omega)
    rw[show((false:Bool)==false)=true from rfl,ct,show((decide ((0:Int)<=(0:Int)))&&((decide (0<=(h:Int)))&&((decide ((h:Int)<=(l.length:Int)))&&(decide ((l.length:Int)<=(l.length:Int))))))=true by simp;omega,ct,rd,es,fm]
    unfold XY
    have v3:=fun K=>v2 K
    rw[u]at v3
    refine(v3 _).trans ?_
    refine(q _).trans ?_
    rw[Au0]at v1
    show cond _ (k2 (decide (v>=0)||_) _) _=_
    rw[v1];rfl
def mC{F:Bool->O R}(hN:1000000000<N)(l:ListsOk c)(hs:∀ k,1<=k->k<=6->(Pi c k).length<=1000)
  (hF:∀ q:Bool,(cond q (K ([]:Lu) 10) (cond (ble 8 c.av.length) (DS N (c.av.take 8) b fun z=>cond (!z) (K ([]:Lu) 12) (By 4 (c.av.drop 7) fun d g=>Lp N K d g b c.av N (g:Int) 0)) none))=F q):∀(m k fuel:Nat)(q:Bool),1<=k->k+m=7->m<fuel ->
  Lq N K b c.av fuel q (k:Int)=cond ((List.range' k m).all fun k=>(Pi c k).all A7) (F (q||(List.range' k m).any fun k=>HU [] (Pi c k))) (K [] 9)
|0,k,fuel+1,q,f,n,_=>by
  rw[Lq];unfold V0
  rw[decide_eq_false (show ¬ (k:Int)<=6 by omega),cf]
  refine(hF q).trans ?_
  show _=F (q||false)
  rw[Awh]
| m+1,k,fuel+1,q,f,n,t=>by
  rw[Lq];unfold V0
  have s:=fun q=>mC hN l hs hF m (k+1) fuel q (by omega) (by omega) (by omega)
  rw[decide_eq_true (show(k:Int)<=6 by omega),ct,Hr,ct,Dn,rI hN l f (by omega)]
  refine(zm hN (hs k f (by omega)) (Pi c k).length 0 N q (by omega) (by have:=hs k f (by omega);omega)).trans ?_
  rw[Au0,Awp,DJ (by omega),s,Ayg,Au5,Awo]
  cases (Pi c k).all A7 with
  |false=>rfl
  |true =>
   rw[Avi,<-Avr];rfl
end
end Gx.Ct
namespace Gx.Ct
open Go Go.Proofs Gx.Cf
def FI(R:Type)(N:Nat):Prop:=∀ z,FA z->∀ K:Lu->O R,Zt N z (fun r=>Ta N r false K)=K (tx z)
def Fo(ws:List Ah):Lu:=ws.flatMap (32::·)
def GW(w:Ah)(r:List Ah):Fo (w::r)=32::w++Fo r:=rfl
section
variable{R:Type}{N:Nat}
def zn{ws:List Ah}{d f a:Bool}{K:Lu->O R}(l:ws.length<=1000000000):∀(m j fuel:Nat)(T:Lu),j+m=ws.length->m<fuel->T.length+(Fo (ws.drop j)).length<=140737488355328 ->
  Ev N K (A9 ws) ws.length d f a fuel (j:Int) T=K (T++Fo (ws.drop j))
|0,j,fuel+1,T,n,_,_=>by
  rw[Ev];unfold Mb
  rw[Jr (by omega),cf,Ey (by omega)]
  show _=K (T++[])
  rw[Auk]
|m+1,j,fuel+1,T,n,q,hT=>by
  rw[Ev];unfold Mb
  have h:j<ws.length:=by omega
  rw[Dl h,GW]at hT
  simp only[Aua,Aub]at hT
  rw[Ig h,ct,Ab h,ct,Auf,Auz,Ke h,show ble (1+(ws[j]).length) 140737488355328=true by simp;omega,ct,show ble (T.length+(List.length (([32]:Lu)++ws[j]))) 140737488355328=true by simp;omega,ct,DJ (by omega)]
  refine(zn l m (j+1) fuel _ (by omega) (by omega) (by simp;omega)).trans ?_
  rw[Dl h,GW,Aun];rfl
def Akb{ws:List Ah}{d f a:Bool}{T:Lu}{K:Lu->O R}(l:ws.length<=1000000000)(hN:1000000000<N)(hT:T.length+(Fo ws).length<=140737488355328):An N (A9 ws) ws.length d f T a K=K (T++Fo ws):=by
 rw[BV];unfold Rz
 exact zn l ws.length 0 N T (by omega) (by omega) hT
def zo{l:List Int}{c d g:Bool}{f:Lu}{K:Lu->Bool->O R}(hF:FI R N)(hi:∀ z∈l,FA z)(q:l.length<=1000000000):∀(m j fuel:Nat)(T:Lu)(bad:Bool),j+m=l.length->m<fuel->T.length+(Fo ((l.drop j).map tx)).length<=140737488355328 ->
  C7 N K (A0 l) l.length c d f g fuel (j:Int) T bad=K (T++Fo ((l.drop j).map tx)) (bad||A8 (l.drop j))
|0,j,fuel+1,T,bad,s,_,_=>by
  rw[C7];unfold Ma
  rw[Jr (by omega),cf,Ey (by omega)]
  show _=K (T++[]) (bad||false)
  rw[Auk,Awh]
| m+1,j,fuel+1,T,bad,s,u,hT=>by
  rw[C7];unfold Ma
  have h:j<l.length:=by omega
  rw[Dl h,Auq,GW]at hT
  simp only[Aua,Aub]at hT
  have t:=hi _ (Aur h)
  have step:∀ n:Bool,I5 N (C7 N K (A0 l) l.length c d f g fuel) K (A0 l) l.length c d f g (j:Int) T n=K (T++Fo ((l.drop j).map tx)) (n||A8 (l.drop (j+1))):=fun n=>by
   unfold I5
   rw[Ab h,ct,RH h,hF _ t,show ble (1+(tx l[j]).length) 140737488355328=true by simp;omega,ct,show ble (T.length+(List.length (([32]:Lu)++tx l[j]))) 140737488355328=true by simp;omega,ct,DJ (by omega)]
   refine(zo hF hi q m (j+1) fuel _ n (by omega) (by omega) (by simp only[Aua,Aub,Aud];omega)).trans ?_
   rw[Dl h,Auq,GW,Aun];rfl
  have e:A8 (l.drop j)=(BB l[j]||A8 (l.drop (j+1))):=by rw[Dl h];rfl
  rw[Ig h,ct,Ab h,ct,RH h,ct,RH h,e]
  unfold BB
  cases bad with
  |true=>exact(step true).trans rfl
  |false =>
   rw[show((false:Bool)==false)=true from rfl,ct]
   cases decide (l[j]< -1073741824)with
   |true=>exact(step true).trans rfl
   |false=>exact(step (decide (l[j]>1073741824))).trans rfl
def rJ{l:List Int}{c d bad:Bool}{T:Lu}{K:Lu->Bool->O R}(hF:FI R N)(hi:∀ z∈l,FA z)(f:l.length<=1000000000)(hN:1000000000<N)(hT:T.length+(Fo (l.map tx)).length<=140737488355328):Ag N (A0 l) l.length c d T bad K=K (T++Fo (l.map tx)) (bad||A8 l):=by
 rw[BU];unfold Ry
 exact zo hF hi f l.length 0 N T bad (by omega) (by omega) hT
end
end Gx.Ct
namespace Gx.Ct
open Go Go.Proofs Gx.Cf
def mD(f:FracD):LA:=[.int .i64 f.num,.int .i64 f.den]
def Ac8(f:FracD)(bad:Bool):(((bad||decide (f.den<1))||A8 [f.num])||A8 [f.den])=(bad||H2 f):=by
 unfold H2 A8 BB
 simp only[Awo,Aw4,Awh]
 by_cases d:f.den<1
 ·rw[decide_eq_true d];cases bad<;>simp
 ·rw[decide_eq_false d,decide_eq_false (show ¬ f.den< -1073741824 by omega)]
  simp only[Awh,Avw,Avr]
section
variable{R:Type}{N:Nat}
def uV{fs:List FracD}{c d g:Bool}{f:Lu}{K:Lu->Bool->O R}(hF:FI R N)(hx:Fh)(hN:1000000000<N)(hi:∀ f∈fs,FA f.num/\FA f.den)(u:fs.length<=1000):∀(m j fuel:Nat)(T:Lu)(bad:Bool),j+m=fs.length->m<fuel->T.length+100*m<=140737488300000 ->
  Cv N K (fs.flatMap mD) fs.length c d f g fuel (j:Int) T bad=K (T++Fo ((fs.drop j).map Iz)) (bad||(fs.drop j).any H2)
|0,j,fuel+1,T,bad,v,_,_=>by
  rw[Cv];unfold Kl
  rw[Jr (by omega),cf,Ey (by omega)]
  show _=K (T++[]) (bad||false)
  rw[Auk,Awh]
| m+1,j,fuel+1,T,bad,v,z,hT=>by
  rw[Cv];unfold Kl
  have h:j<fs.length:=by omega
  obtain⟨z1,z2⟩:=hi _ (Aur h)
  have s1:=hx _ z1
  have s2:=hx _ z2
  have x:∀ F:Int->O R,Bf .i64 (drop ((Int.toNat (j:Int))*2) (fs.flatMap mD)) F=F (fs[j]).num:=fun F=>by rw[gj (e:=mD) (sz:=2) (fun _=>rfl) h];rfl
  have s:∀ F:Int->O R,Bf .i64 (drop 1 (drop ((Int.toNat (j:Int))*2) (fs.flatMap mD))) F=F (fs[j]).den:=fun F=>by rw[gj (e:=mD) (sz:=2) (fun _=>rfl) h];rfl
  have e1:Fo ([(fs[j]).num].map tx)=32::tx (fs[j]).num:=by simp[Fo]
  have t:Fo ([(fs[j]).den].map tx)=32::tx (fs[j]).den:=by simp[Fo]
  have step:∀ n:Bool,Hw N (Cv N K (fs.flatMap mD) fs.length c d f g fuel) K (fs.flatMap mD) fs.length c d f g (j:Int) T n=K (T++Fo ((fs.drop j).map Iz)) (((n||A8 [(fs[j]).num])||A8 [(fs[j]).den])||(fs.drop (j+1)).any H2):=fun n=>by
   unfold Hw
   rw[Ab h,ct,x]
   refine Axg (rJ (l:=[(fs[j]).num]) hF (by simp[z1]) (by simp) hN (by rw[e1];simp only[Aub];omega)) ?_
   rw[ct,s]
   refine Axg (rJ (l:=[(fs[j]).den]) hF (by simp[z2]) (by simp) hN (by rw[e1,t];simp only[Aua,Aub];omega)) ?_
   rw[e1,t]
   generalize q:T++32::tx (fs[j]).num=H
   have hH:H.length<=140737488300000:=by rw[<-q];simp only[Aua,Aub];omega
   have ew:wrap .i64 ((H.length:Int)+1)=((H.length+1:Nat):Int):=by rw[Gx.i64 (by omega)];omega
   have y:drop (H.length+1) (H++32::tx (fs[j]).den)=tx (fs[j]).den:=by
    rw[show H++32::tx (fs[j]).den=(H++[32])++tx (fs[j]).den by simp,List.drop_left' (by simp)]
   have et:take ((H++32::tx (fs[j]).den).length - (H.length+1)) (tx (fs[j]).den)=tx (fs[j]).den:=Aue (by simp only[Aua,Aub];omega)
   rw[ew,show ble (H.length+1) 140737488355328=true by simp;omega,ct,Auf,y,et,show((decide ((0:Int)<=((H.length+1:Nat):Int)))&&((decide (((H.length+1:Nat):Int)<=(((H++32::tx (fs[j]).den).length:Nat):Int)))&&((decide ((((H++32::tx (fs[j]).den).length:Nat):Int)<=(((H++32::tx (fs[j]).den).length:Nat):Int)))&&(decide ((((H++32::tx (fs[j]).den).length:Nat):Int)<=(((H++32::tx (fs[j]).den).length:Nat):Int))))))=true by
    rw[decide_eq_true (by omega),decide_eq_true (by simp only[Aua,Aub];omega),decide_eq_true (by omega)];rfl,ct,
    show ble ((H++([47]:Lu)).length+(tx (fs[j]).den).length) 140737488355328=true by simp;omega,ct,DJ (by omega)]
   refine(uV hF hx hN hi u m (j+1) fuel _ _ (by omega) (by omega) (by rw[<-q];simp only[Aua,Aub,Aud];omega)).trans ?_
   rw[Dl h,Auq,GW,<-q]
   simp only[Iz,Aun,Aup,Au3]
  have fin:∀ n,(n=(bad||decide ((fs[j]).den<1)))->K (T++Fo ((fs.drop j).map Iz)) (((n||A8 [(fs[j]).num])||A8 [(fs[j]).den])||(fs.drop (j+1)).any H2)=K (T++Fo ((fs.drop j).map Iz)) (bad||(fs.drop j).any H2):=fun n e=>by
   rw[e,Ac8,Dl h,Awo,Avr]
  rw[Ig h,ct]
  cases bad with
  |true=>exact(step true).trans (fin true rfl)
  |false =>
   rw[show((false:Bool)==false)=true from rfl,ct,Ab h,ct,s]
   exact(step (decide ((fs[j]).den<1))).trans (fin _ rfl)
end
end Gx.Ct
namespace Gx.Ct
open Go Go.Proofs Gx.Cf
section
variable{R:Type}{N:Nat}
def DK{ws:List Ah}{B:Nat}(h:∀ w∈ws,w.length<=B):(Fo ws).length<=(B+1)*ws.length:=by
 induction ws with
|nil=>exact Axl _
|cons w r d =>
  have f:=h w (by simp)
  have l:=d fun x hx=>h x (by simp[hx])
  rw[GW,Aua,Aub,Aub,Nat.mul_succ]
  omega
def Lv{l:List Int}(hx:Fh)(hi:∀ z∈l,FA z):(Fo (l.map tx)).length<=31*l.length:=by
 have:=DK (ws:=l.map tx) (B:=30) (fun w d=>by obtain⟨z,f,rfl⟩:=Auy.1 d;exact hx z (hi z f))
 rwa [Auc]at this
def Db{ws:List Ah}{L:LA}{n:Nat}{d f a:Bool}{T:Lu}{K:Lu->O R}{Y:O R}(hL:L=A9 ws)(hn:n=ws.length)(l:∀ w∈ws,w.length<=16)(q:ws.length<=1000)(hN:1000000000<N)(hT:T.length<=140000000000000)(h:K (T++Fo ws)=Y):An N L n d f T a K=Y:=by subst hL hn;rw[Akb (by omega) hN (by have:=DK l;omega),h]
def Eu{l:List Int}{L:LA}{n:Nat}{c d bad:Bool}{T:Lu}{K:Lu->Bool->O R}{Y:O R}(hL:L=A0 l)(hn:n=l.length)(hF:FI R N)(hx:Fh)(hi:∀ z∈l,FA z)(f:l.length<=1000000000)(hN:1000000000<N)(hT:T.length<=140000000000000)(h:K (T++Fo (l.map tx)) (bad||A8 l)=Y):Ag N L n c d T bad K=Y:=by subst hL hn;rw[rJ hF hi f hN (by have:=Lv hx hi;omega),h]
def rK{fs:List FracD}{L:LA}{n:Nat}{c d bad:Bool}{T:Lu}{K:Lu->Bool->O R}{Y:O R}(hL:L=fs.flatMap mD)(hn:n=fs.length)(hF:FI R N)(hx:Fh)(hi:∀ f∈fs,FA f.num/\FA f.den)(l:fs.length<=1000)(hN:1000000000<N)(hT:T.length<=140000000000000)(h:K (T++Fo (fs.map Iz)) (bad||fs.any H2)=Y):Df N L n c d T bad K=Y:=by
 subst hL hn;rw[Z2];unfold Pv
 exact(uV hF hx hN hi l fs.length 0 N T bad (by omega) (by omega) (by omega)).trans h
def AM{f:FracD}(hx:Fh)(d:FA f.num)(l:FA f.den):(Iz f).length<=61:=by
 have:=hx _ d;have:=hx _ l
 unfold Iz;simp only[Aua,Aub];omega
def Ac9{c:CaseD}{l:LineD}{g b bad:Bool}{T:Lu}{K:Lu->Bool->O R}(hF:FI R N)(hx:Fh)(hN:1000000000<N)(hI:LineI 1000000000 l)(d:Ly l.fr c.buses.l.length=true)(f:Ly l.tl c.buses.l.length=true)(q:l.name.length<=16)(s1:(Ay (Bt c) l.fr).length<=16)(s2:(Ay (Bt c) l.tl).length<=16)(hT:T.length<=100000000000000):
  R2 N c.av g l.av b T bad K=K (T++D6 (Hv (Bt c) l)) (bad||HS l):=by
 rw[Z3];unfold Vw
 have r0:∀ F:Ah->O R,Mj l.av F=F l.name:=fun F=>rfl
 have s:∀ F:Int->O R,Bf .i64 (drop 1 l.av) F=F l.fr:=fun F=>rfl
 have t:∀ F:Int->O R,Bf .i64 (drop 2 l.av) F=F l.tl:=fun F=>rfl
 have p:∀(b:Bool)(x y:Int),(!b||Bg [AV.int .i64 x,.int .i64 y])=true:=fun b x y=>by cases b<;>rfl
 have L1:=AM hx hI.f1.1 hI.f1.2
 have L2:=AM hx hI.f2.1 hI.f2.2
 have L3:=AM hx hI.f3.1 hI.f3.2
 have L4:=hx _ hI.n.1
 have L5:=hx _ hI.n.2
 have L6:=Lv hx hI.a.1
 have L7:=hI.a.2
 rw[show ble (T.length+4) 140737488355328=true by simp;omega,ct,r0,Fa,s,JF d,ct,zd d,Fa,t,JF f,ct,zd f]
 refine Db (ws:=[l.name,Ay (Bt c) l.fr,Ay (Bt c) l.tl,Al8]) rfl rfl (by simp[q,s1,s2,Al8]) (by simp) hN (by simp only[Aua,Aub,Aud];omega) ?_
 show cond true (cond (!b||Bg [AV.int .i64 l.re.num,.int .i64 l.re.den]) (cond true (Df N [.int .i64 l.re.num,.int .i64 l.re.den] 1 false true _ _ _) none) none) none=_
 rw[ct,p,ct,ct]
 have u:(Fo [l.name,Ay (Bt c) l.fr,Ay (Bt c) l.tl,Al8]).length<=100:=by
  have:=DK (ws:=[l.name,Ay (Bt c) l.fr,Ay (Bt c) l.tl,Al8]) (B:=16) (by simp[q,s1,s2,Al8])
  simp only[Aub,Aud]at this;omega
 refine rK (fs:=[l.re]) rfl rfl hF hx (by simp[hI.f1]) (by simp) hN (by simp only[Aua,Aub,Aud];omega) ?_
 have v:(Fo ([l.re].map Iz)).length<=62:=by simp[Fo];omega
 refine Db (ws:=[OE]) rfl rfl (by decide) (by simp) hN (by simp only[Aua,Aub,Aud];omega) ?_
 have z:(Fo [OE]).length<=6:=by decide
 show cond true (cond (!b||Bg [AV.int .i64 l.smin.num,.int .i64 l.smin.den]) (cond true (cond (!b||Bg [AV.int .i64 l.smax.num,.int .i64 l.smax.den]) (cond true (cond true (Df N [.int .i64 l.smin.num,.int .i64 l.smin.den,.int .i64 l.smax.num,.int .i64 l.smax.den] 2 false true _ _ _) none) none) none) none) none) none=_
 rw[ct,p,ct,ct,p,ct,ct,ct]
 refine rK (fs:=[l.smin,l.smax]) rfl rfl hF hx (by simp[hI.f2,hI.f3]) (by simp) hN (by simp only[Aua,Aub,Aud];omega) ?_
 have A:(Fo ([l.smin,l.smax].map Iz)).length<=124:=by simp[Fo];omega
 refine Db (ws:=[OF]) rfl rfl (by decide) (by simp) hN (by simp only[Aua,Aub,Aud];omega) ?_
 have C:(Fo [OF]).length<=6:=by decide
 show Ag N [.int .i64 l.limit,.int .i64 l.emer] 2 false true _ _ _=_
 refine Eu (l:=[l.limit,l.emer]) rfl rfl hF hx (by simp[hI.n.1,hI.n.2]) (by simp) hN (by simp only[Aua,Aub,Aud];omega) ?_
 have D:(Fo ([l.limit,l.emer].map tx)).length<=62:=by simp[Fo];omega
 refine Db (ws:=[Xh]) rfl rfl (by decide) (by simp) hN (by simp only[Aua,Aub,Aud];omega) ?_
 have G:(Fo [Xh]).length<=5:=by decide
 show By 1 (l.away.av 1 Sr::_) _=_
 rw[Dw,Co]
 refine Eu rfl rfl hF hx hI.a.1 hI.a.2 hN (by simp only[Aua,Aub,Aud];omega) ?_
 rw[show ∀ X:Lu,X.length<=140000000000000->ble (X.length+1) 140737488355328=true from fun X h=>by simp;omega,ct]
 ·have eB:((((bad||[l.re].any H2)||[l.smin,l.smax].any H2)||A8 [l.limit,l.emer])||A8 l.away.l)=(bad||HS l):=by unfold HS;simp[Avr]
  rw[eB,D6]
  congr 1
  unfold Hv
  rw[Aup,Hq]
  simp[Fo,Cn]
 ·simp only[Aua,Aub,Aud];omega
set_option maxHeartbeats 1000000 in
def Ada{u:UnitD}{b bad:Bool}{K:Lu->Bool->O R}{T:Lu}{fuel j:Nat}(hF:FI R N)(hx:Fh)(hN:1000000000<N)(hI:UnitI 1000000000 u)(hs:Ly u.state 3=true)(s:u.segs.l.length<=j)(hT:T.length<=130000000000000):
  Dg N K b u.av (fuel+1) (j:Int) T bad=K (T++Fo (Aev u)++[10]) (bad||QE u):=by
 have hn:=hI.n
 simp only[Aum,Auu,or_false,forall_eq_or_imp,forall_eq]at hn
 obtain⟨_,_,n1,n2,n3,n4,n5,n6,n7,n8,n9,n10,n11,n12,n13,n14,n15⟩:=hn
 have La:=Lv hx hI.a.1
 have Lb:=hI.a.2
 have rs:∀ F:LA->Nat->O R,By 2 (drop 4 u.av) F=F (u.segs.l.flatMap SegD.av) u.segs.l.length:=fun F=>by
  show By 2 (u.segs.av 2 SegD.av::_) F=_
  rw[Dw]
 rw[Dg];unfold Km
 rw[rs,Jr s,cf]
 refine Db (ws:=[Vh]) rfl rfl (by decide) (by simp) hN (by first|omega|(simp only[Aua,Aub,Aud];omega)) ?_
 have t:(Fo [Vh]).length<=20:=by decide
 show Ag N [.int .i64 u.noLoad] 1 false true _ _ _=_
 refine Eu (l:=[u.noLoad]) rfl rfl hF hx (by simp[*]) (by simp) hN (by first|omega|(simp only[Aua,Aub,Aud];omega)) ?_
 have v:(Fo ([u.noLoad].map tx)).length<=100:=by
  have:=Lv (l:=[u.noLoad]) hx (by simp[*])
  simp only[Aub,Aud]at this;omega
 refine Db (ws:=[ix]) rfl rfl (by decide) (by simp) hN (by first|omega|(simp only[Aua,Aub,Aud];omega)) ?_
 have x:(Fo [ix]).length<=20:=by decide
 show Ag N [.int .i64 u.rampUp,.int .i64 u.rampDown] 2 false true _ _ _=_
 refine Eu (l:=[u.rampUp,u.rampDown]) rfl rfl hF hx (by simp[*]) (by simp) hN (by first|omega|(simp only[Aua,Aub,Aud];omega)) ?_
 have y:(Fo ([u.rampUp,u.rampDown].map tx)).length<=100:=by
  have:=Lv (l:=[u.rampUp,u.rampDown]) hx (by simp[*])
  simp only[Aub,Aud]at this;omega
 refine Db (ws:=[XM]) rfl rfl (by decide) (by simp) hN (by first|omega|(simp only[Aua,Aub,Aud];omega)) ?_
 have z:(Fo [XM]).length<=20:=by decide
 show Ag N [.int .i64 u.startRamp] 1 false true _ _ _=_
 refine Eu (l:=[u.startRamp]) rfl rfl hF hx (by simp[*]) (by simp) hN (by first|omega|(simp only[Aua,Aub,Aud];omega)) ?_
 have A:(Fo ([u.startRamp].map tx)).length<=100:=by
  have:=Lv (l:=[u.startRamp]) hx (by simp[*])
  simp only[Aub,Aud]at this;omega
 refine Db (ws:=[iy]) rfl rfl (by decide) (by simp) hN (by first|omega|(simp only[Aua,Aub,Aud];omega)) ?_
 have C:(Fo [iy]).length<=20:=by decide
 show Ag N [.int .i64 u.stopRamp] 1 false true _ _ _=_
 refine Eu (l:=[u.stopRamp]) rfl rfl hF hx (by simp[*]) (by simp) hN (by first|omega|(simp only[Aua,Aub,Aud];omega)) ?_
 have D:(Fo ([u.stopRamp].map tx)).length<=100:=by
  have:=Lv (l:=[u.stopRamp]) hx (by simp[*])
  simp only[Aub,Aud]at this;omega
 refine Db (ws:=[XN]) rfl rfl (by decide) (by simp) hN (by first|omega|(simp only[Aua,Aub,Aud];omega)) ?_
 have G:(Fo [XN]).length<=20:=by decide
 show Ag N [.int .i64 u.upTime,.int .i64 u.downTime,.int .i64 u.startTime] 3 false true _ _ _=_
 refine Eu (l:=[u.upTime,u.downTime,u.startTime]) rfl rfl hF hx (by simp[*]) (by simp) hN (by first|omega|(simp only[Aua,Aub,Aud];omega)) ?_
 have I:(Fo ([u.upTime,u.downTime,u.startTime].map tx)).length<=100:=by
  have:=Lv (l:=[u.upTime,u.downTime,u.startTime]) hx (by simp[*])
  simp only[Aub,Aud]at this;omega
 refine Db (ws:=[iz]) rfl rfl (by decide) (by simp) hN (by first|omega|(simp only[Aua,Aub,Aud];omega)) ?_
 have M:(Fo [iz]).length<=20:=by decide
 show Ag N [.int .i64 u.hotCost,.int .i64 u.coldCost,.int .i64 u.hotHours] 3 false true _ _ _=_
 refine Eu (l:=[u.hotCost,u.coldCost,u.hotHours]) rfl rfl hF hx (by simp[*]) (by simp) hN (by first|omega|(simp only[Aua,Aub,Aud];omega)) ?_
 have S:(Fo ([u.hotCost,u.coldCost,u.hotHours].map tx)).length<=100:=by
  have:=Lv (l:=[u.hotCost,u.coldCost,u.hotHours]) hx (by simp[*])
  simp only[Aub,Aud]at this;omega
 refine Db (ws:=[De]) rfl rfl (by decide) (by simp) hN (by first|omega|(simp only[Aua,Aub,Aud];omega)) ?_
 have U:(Fo [De]).length<=20:=by decide
 show Ag N [.int .i64 u.reserve,.int .i64 u.reservePrice] 2 false true _ _ _=_
 refine Eu (l:=[u.reserve,u.reservePrice]) rfl rfl hF hx (by simp[*]) (by simp) hN (by first|omega|(simp only[Aua,Aub,Aud];omega)) ?_
 have V:(Fo ([u.reserve,u.reservePrice].map tx)).length<=100:=by
  have:=Lv (l:=[u.reserve,u.reservePrice]) hx (by simp[*])
  simp only[Aub,Aud]at this;omega
 refine Db (ws:=[Xh]) rfl rfl (by decide) (by simp) hN (by first|omega|(simp only[Aua,Aub,Aud];omega)) ?_
 have Y:(Fo [Xh]).length<=20:=by decide
 show By 1 (u.away.av 1 Sr::_) _=_
 rw[Dw,Co]
 refine Eu rfl rfl hF hx hI.a.1 hI.a.2 hN (by first|omega|(simp only[Aua,Aub,Aud];omega)) ?_
 show cond (Ai u.state 3) _ none=_
 rw[JF hs,ct]
 obtain⟨sw,d,f,q⟩:∃ sw:Ah,Xi u.state=[sw]/\sw.length<=16/\∀ F:Ah->O R,Mj (drop (0+((Int.toNat u.state)*1)) [.str Aep,.str OG,.str Amm]) F=F sw:=by
  unfold Ly at hs
  simp only[Auh,decide_eq_true_eq]at hs
  have:u.state=0\/u.state=1\/u.state=2:=by omega
  rcases this with e|e|e<;>rw[e]
  ·exact⟨Aep,rfl,by decide,fun F=>rfl⟩
  ·exact⟨OG,rfl,by decide,fun F=>rfl⟩
  ·exact⟨Amm,rfl,by decide,fun F=>rfl⟩
 refine(q _).trans ?_
 refine Db (ws:=[Yr,sw]) rfl rfl (by simp[f,Yr]) (by simp) hN (by first|omega|(simp only[Aua,Aub,Aud];omega)) ?_
 have p9:(Fo [Yr,sw]).length<=40:=by simp[Fo,Yr];omega
 show Ag N [.int .i64 u.hours,.int .i64 u.output] 2 false true _ _ _=_
 refine Eu (l:=[u.hours,u.output]) rfl rfl hF hx (by simp[*]) (by simp) hN (by first|omega|(simp only[Aua,Aub,Aud];omega)) ?_
 have q9:(Fo ([u.hours,u.output].map tx)).length<=100:=by
  have:=Lv (l:=[u.hours,u.output]) hx (by simp[*])
  simp only[Aub,Aud]at this;omega
 rw[show ∀ X:Lu,X.length<=140000000000000->ble (X.length+1) 140737488355328=true from fun X h=>by simp;omega,ct]
 ·have eB:(((((((((bad||A8 [u.noLoad])||A8 [u.rampUp,u.rampDown])||A8 [u.startRamp])||A8 [u.stopRamp])||A8 [u.upTime,u.downTime,u.startTime])||A8 [u.hotCost,u.coldCost,u.hotHours])||A8 [u.reserve,u.reservePrice])||A8 u.away.l)||A8 [u.hours,u.output])=(bad||QE u):=by unfold QE;simp[A8,Avr]
  rw[eB]
  refine congrArg (fun X=>K X (bad||QE u)) ?_
  simp only[Aev,d,Fo,Avn,Au1,Awt,Auq,Av9,Aun,Aup,Au3,Auk]
 ·simp only[Aua,Aub,Aud];omega
def rL{u:UnitD}{b:Bool}{K:Lu->Bool->O R}(hF:FI R N)(hx:Fh)(hN:1000000000<N)(hI:UnitI 1000000000 u)(hs:Ly u.state 3=true):∀(m j fuel:Nat)(T:Lu)(bad:Bool),j+m=u.segs.l.length->m<fuel->T.length+62*m<=130000000000000 ->
  Dg N K b u.av fuel (j:Int) T bad=K (T++Fo ((u.segs.l.drop j).flatMap UA)++Fo (Aev u)++[10]) ((bad||(u.segs.l.drop j).any cZ)||QE u)
|0,j,fuel+1,T,bad,f,_,hT=>by
  refine(Ada hF hx hN hI hs (by omega) (by omega)).trans ?_
  rw[show u.segs.l.drop j=[]from Ey (by omega),Awt,Aw4,Awh,show Fo []=[]from rfl,Auk]
| m+1,j,fuel+1,T,bad,f,v,hT=>by
  have rs:∀ F:LA->Nat->O R,By 2 (drop 4 u.av) F=F (u.segs.l.flatMap SegD.av) u.segs.l.length:=fun F=>by
   show By 2 (u.segs.av 2 SegD.av::_) F=_
   rw[Dw]
  have h:j<u.segs.l.length:=by omega
  have x:=hI.s.2
  have d:=hI.s.1 _ (Aur h)
  have l1:=hx _ d.1
  have l2:=hx _ d.2
  have n:∀ F:Int->O R,Bf .i64 (drop ((Int.toNat (j:Int))*2) (u.segs.l.flatMap SegD.av)) F=F (u.segs.l[j]).width:=fun F=>by rw[gj (e:=SegD.av) (sz:=2) (fun _=>rfl) h];rfl
  have q:∀ F:Int->O R,Bf .i64 (drop 1 (drop ((Int.toNat (j:Int))*2) (u.segs.l.flatMap SegD.av))) F=F (u.segs.l[j]).price:=fun F=>by rw[gj (e:=SegD.av) (sz:=2) (fun _=>rfl) h];rfl
  rw[Dg];unfold Km
  rw[rs,Ig h,ct,rs,Ab h,ct,n,rs,Ab h,ct,q,DJ (by omega)]
  refine Eu (l:=[(u.segs.l[j]).width,(u.segs.l[j]).price]) rfl rfl hF hx (by simp[d.1,d.2]) (by simp) hN (by omega) ?_
  have e:Fo ([(u.segs.l[j]).width,(u.segs.l[j]).price].map tx)=32::tx (u.segs.l[j]).width++(32::tx (u.segs.l[j]).price):=by simp[Fo]
  refine(rL hF hx hN hI hs m (j+1) fuel _ _ (by omega) (by omega) (by rw[e];simp only[Aua,Aub];omega)).trans ?_
  rw[Dl h,Au1,Awo]
  have t:Fo (UA u.segs.l[j]++(u.segs.l.drop (j+1)).flatMap UA)=Fo ([(u.segs.l[j]).width,(u.segs.l[j]).price].map tx)++Fo ((u.segs.l.drop (j+1)).flatMap UA):=by unfold Fo;rw[Avn];rfl
  rw[t,<-Aun T]
  show K _ (((bad||cZ u.segs.l[j])||_)||_)=K _ ((bad||(cZ u.segs.l[j]||_))||_)
  rw[Avr bad]
def Adb{c:CaseD}{u:UnitD}{g b bad:Bool}{T:Lu}{K:Lu->Bool->O R}(hF:FI R N)(hx:Fh)(hN:1000000000<N)(hI:UnitI 1000000000 u)(hs:Ly u.state 3=true)(d:Ly u.bus c.buses.l.length=true)(f:u.name.length<=16)(s1:(Ay (Bt c) u.bus).length<=16)(hT:T.length<=60000000000000):
  Mv N c.av g u.av b T bad K=K (T++D6 (Lx (Bt c) u)) (bad||Ys u):=by
 have hn:=hI.n
 simp only[Aum,Auu,or_false,forall_eq_or_imp,forall_eq]at hn
 obtain⟨n1,n2,_⟩:=hn
 have l1:=hx _ n1
 have l2:=hx _ n2
 have t:=hI.s.2
 rw[Z4];unfold Pw
 have r0:∀ F:Ah->O R,Mj u.av F=F u.name:=fun F=>rfl
 have q:∀ F:Int->O R,Bf .i64 (drop 1 u.av) F=F u.bus:=fun F=>rfl
 rw[show ble (T.length+4) 140737488355328=true by simp;omega,ct,r0,Fa,q,JF d,ct,zd d]
 refine Db (ws:=[u.name,Ay (Bt c) u.bus,T']) rfl rfl (by simp[f,s1,T']) (by simp) hN (by simp only[Aua,Aub,Aud];omega) ?_
 have v:(Fo [u.name,Ay (Bt c) u.bus,T']).length<=100:=by
  have:=DK (ws:=[u.name,Ay (Bt c) u.bus,T']) (B:=16) (by simp[f,s1,T'])
  simp only[Aub,Aud]at this;omega
 show Ag N [.int .i64 u.min] 1 false true _ _ _=_
 refine Eu (l:=[u.min]) rfl rfl hF hx (by simp[*]) (by simp) hN (by simp only[Aua,Aub,Aud];omega) ?_
 have x:(Fo ([u.min].map tx)).length<=40:=by simp[Fo];omega
 refine Db (ws:=[lA]) rfl rfl (by decide) (by simp) hN (by simp only[Aua,Aub,Aud];omega) ?_
 have y:(Fo [lA]).length<=20:=by decide
 show Ag N [.int .i64 u.max] 1 false true _ _ _=_
 refine Eu (l:=[u.max]) rfl rfl hF hx (by simp[*]) (by simp) hN (by simp only[Aua,Aub,Aud];omega) ?_
 have z:(Fo ([u.max].map tx)).length<=40:=by simp[Fo];omega
 refine Db (ws:=[Qo]) rfl rfl (by decide) (by simp) hN (by simp only[Aua,Aub,Aud];omega) ?_
 have A:(Fo [Qo]).length<=20:=by decide
 refine(rL hF hx hN hI hs u.segs.l.length 0 N _ _ (by omega) (by omega) (by simp only[Aua,Aub,Aud];omega)).trans ?_
 rw[Au0]
 have eB:((((bad||A8 [u.min])||A8 [u.max])||u.segs.l.any cZ)||QE u)=(bad||Ys u):=by unfold Ys QE;simp[A8,Avr]
 have eW:Lx (Bt c) u=B6::([u.name,Ay (Bt c) u.bus,T']++([u.min].map tx++([lA]++([u.max].map tx++([Qo]++(u.segs.l.flatMap UA++Aev u)))))):=rfl
 rw[eB,eW,D6,Hq]
 refine congrArg (fun X=>K X (bad||Ys u)) ?_
 simp only[Fo,Avn,Aun]
 rfl
def rM{c:CaseD}{o:OutD}{d f b:Bool}{K:Lu->Bool->O R}(hF:FI R N)(hx:Fh)(hN:1000000000<N)(hI:OutI 1000000000 o)(hU:∀ s∈Cl c,s.length<=16)(q:∀ m∈o.moves.l,Ly m.unit c.units.l.length=true):∀(m j fuel:Nat)(T:Lu)(bad:Bool),j+m=o.moves.l.length->m<fuel->T.length+79*m<=130000000000000 ->
  Ej N K d c.av f o.av b fuel (j:Int) T bad=K (T++Fo ((o.moves.l.drop j).flatMap (Sx (Cl c)))++[10]) (bad||(o.moves.l.drop j).any fO)
| 0,j,fuel+1,T,bad,t,_,hT=>by
  have rs:∀ F:LA->Nat->O R,By 3 (drop 3 o.av) F=F (o.moves.l.flatMap MoveD.av) o.moves.l.length:=fun F=>by
   show By 3 (o.moves.av 3 MoveD.av::_) F=_
   rw[Dw]
  rw[Ej];unfold H5
  rw[rs,Jr (by omega),cf,show ble (T.length+1) 140737488355328=true by simp;omega,ct,show o.moves.l.drop j=[]from Ey (by omega),Aw4,Awh,Awt,show Fo []=[]from rfl,Auk]
| m+1,j,fuel+1,T,bad,t,y,hT=>by
  have rs:∀ F:LA->Nat->O R,By 3 (drop 3 o.av) F=F (o.moves.l.flatMap MoveD.av) o.moves.l.length:=fun F=>by
   show By 3 (o.moves.av 3 MoveD.av::_) F=_
   rw[Dw]
  have h:j<o.moves.l.length:=by omega
  have z:=hI.m.2
  have n:=hI.m.1 _ (Aur h)
  have hq:=q _ (Aur h)
  have l1:=hx _ n.1
  have l2:=hx _ n.2
  have l3:=Do hU (o.moves.l[j]).unit
  have r0:∀ F:Int->O R,Bf .i64 (drop ((Int.toNat (j:Int))*3) (o.moves.l.flatMap MoveD.av)) F=F (o.moves.l[j]).unit:=fun F=>by rw[gj (e:=MoveD.av) (sz:=3) (fun _=>rfl) h];rfl
  have u:∀ F:Int->O R,Bf .i64 (drop 1 (drop ((Int.toNat (j:Int))*3) (o.moves.l.flatMap MoveD.av))) F=F (o.moves.l[j]).up:=fun F=>by rw[gj (e:=MoveD.av) (sz:=3) (fun _=>rfl) h];rfl
  have v:∀ F:Int->O R,Bf .i64 (drop 2 (drop ((Int.toNat (j:Int))*3) (o.moves.l.flatMap MoveD.av))) F=F (o.moves.l[j]).down:=fun F=>by rw[gj (e:=MoveD.av) (sz:=3) (fun _=>rfl) h];rfl
  rw[Ej];unfold H5
  rw[rs,Ig h,ct,Kb,rs,Ab h,ct,r0,JF hq,ct,Aqh hq]
  refine Db (ws:=[Ay (Cl c) (o.moves.l[j]).unit]) rfl rfl (by simp[l3]) (by simp) hN (by omega) ?_
  rw[rs,Ab h,ct,u,rs,Ab h,ct,v,DJ (by omega)]
  have e1:Fo [Ay (Cl c) (o.moves.l[j]).unit]=32::Ay (Cl c) (o.moves.l[j]).unit:=by simp[Fo]
  refine Eu (l:=[(o.moves.l[j]).up,(o.moves.l[j]).down]) rfl rfl hF hx (by simp[n.1,n.2]) (by simp) hN (by rw[e1];simp only[Aua,Aub];omega) ?_
  have e:Fo ([(o.moves.l[j]).up,(o.moves.l[j]).down].map tx)=32::tx (o.moves.l[j]).up++(32::tx (o.moves.l[j]).down):=by simp[Fo]
  refine(rM hF hx hN hI hU q m (j+1) fuel _ _ (by omega) (by omega) (by rw[e,e1];simp only[Aua,Aub];omega)).trans ?_
  rw[Dl h,Au1,Awo]
  have x:Fo (Sx (Cl c) o.moves.l[j]++(o.moves.l.drop (j+1)).flatMap (Sx (Cl c)))=Fo [Ay (Cl c) (o.moves.l[j]).unit]++(Fo ([(o.moves.l[j]).up,(o.moves.l[j]).down].map tx)++Fo ((o.moves.l.drop (j+1)).flatMap (Sx (Cl c)))):=by unfold Fo;rw[Avn];simp[Sx]
  rw[x,<-Aun T,<-Aun (T++_)]
  show K _ ((bad||fO o.moves.l[j])||_)=K _ (bad||(fO o.moves.l[j]||_))
  rw[Avr bad]
def rN{c:CaseD}{o:OutD}{d f bad:Bool}{K:Lu->Bool->O R}(hF:FI R N)(hx:Fh)(hN:1000000000<N)(hI:OutI 1000000000 o)(hL:∀ s∈Cb c,s.length<=16)(hU:∀ s∈Cl c,s.length<=16)(q:∀ l∈o.lines.l,Ly l c.lines.l.length=true)(t:∀ m∈o.moves.l,Ly m.unit c.units.l.length=true)(n:uR o=true):∀(m j fuel:Nat)(T:Lu),j+m=o.lines.l.length->m<fuel->T.length+17*m<=110000000000000 ->
  Dj N K bad d c.av f o.av fuel (j:Int) T=K (T++Fo ((o.lines.l.drop j).map (Ay (Cb c))++(cond o.corr [A1] []++o.moves.l.flatMap (Sx (Cl c))))++[10]) (bad||Qq o)
| 0,j,fuel+1,T,u,_,hT=>by
  have rl:∀ F:LA->Nat->O R,By 1 (drop 1 o.av) F=F (A0 o.lines.l) o.lines.l.length:=fun F=>by
   show By 1 (o.lines.av 1 Sr::_) F=_
   rw[Dw,Co]
  rw[Dj];unfold H6
  rw[rl,Jr (by omega),cf,show o.lines.l.drop j=[]from Ey (by omega)]
  show cond o.corr _ _=_
  unfold uR at n
  cases v:o.corr with
  |true =>
   rw[ct]
   refine Db (ws:=[A1]) rfl rfl (by decide) (by simp) hN (by omega) ?_
   have y:(Fo [A1]).length<=20:=by decide
   have z:=hI.m.2
   refine(rM hF hx hN hI hU t o.moves.l.length 0 N _ bad (by omega) (by omega) (by simp only[Aua];omega)).trans ?_
   rw[Au0]
   show K _ (bad||Qq o)=_
   refine congrArg (fun X=>K X (bad||Qq o)) ?_
   simp[Fo]
  |false =>
   rw[v,Avw,List.isEmpty_iff]at n
   rw[cf,show ble (T.length+1) 140737488355328=true by simp;omega,ct]
   have:Qq o=false:=by unfold Qq;rw[n];rfl
   rw[this,n,Awh]
   refine congrArg (fun X=>K X bad) ?_
   simp[Fo]
| m+1,j,fuel+1,T,u,A,hT=>by
  have rl:∀ F:LA->Nat->O R,By 1 (drop 1 o.av) F=F (A0 o.lines.l) o.lines.l.length:=fun F=>by
   show By 1 (o.lines.av 1 Sr::_) F=_
   rw[Dw,Co]
  have h:j<o.lines.l.length:=by omega
  have x:=hI.l
  have hq:=q _ (Aur h)
  have l3:=Do hL o.lines.l[j]
  rw[Dj];unfold H6
  rw[rl,Ig h,ct,G9,rl,Ab h,ct,RH h,JF hq,ct,Aqg hq]
  refine Db (ws:=[Ay (Cb c) o.lines.l[j]]) rfl rfl (by simp[l3]) (by simp) hN (by omega) ?_
  have e1:Fo [Ay (Cb c) o.lines.l[j]]=32::Ay (Cb c) o.lines.l[j]:=by simp[Fo]
  rw[DJ (by omega)]
  refine(rN hF hx hN hI hL hU q t n m (j+1) fuel _ (by omega) (by omega) (by rw[e1];simp only[Aua,Aub];omega)).trans ?_
  rw[Dl h,Auq,e1]
  refine congrArg (fun X=>K X (bad||Qq o)) ?_
  rw[Aup,GW]
  simp only[Aun,Aup]
end
end Gx.Ct
namespace Gx.Ct
open Go Go.Proofs Gx.Cf
def Ag7{R:Type}{N:Nat}{c:CaseD}{o:OutD}{d f bad:Bool}{T:Lu}{K:Lu->Bool->O R}(hF:FI R N)(hx:Fh)(hN:1000000000<N)(hI:OutI 1000000000 o)(hL:∀ s∈Cb c,s.length<=16)(hU:∀ s∈Cl c,s.length<=16)(t:∀ l∈o.lines.l,Ly l c.lines.l.length=true)(u:∀ m∈o.moves.l,Ly m.unit c.units.l.length=true)(n:uR o=true)(q:o.name.length<=16)(hT:T.length<=60000000000000):
  I6 N c.av d o.av f T bad K=K (T++D6 (Kd (Cb c) (Cl c) o)) (bad||Qq o):=by
 rw[Vx];unfold Mc
 have r0:∀ F:Ah->O R,Mj o.av F=F o.name:=fun F=>rfl
 rw[show ble (T.length+6) 140737488355328=true by simp;omega,ct,r0]
 have x:(Fo [o.name,Rs]).length<=100:=by
  have:=DK (ws:=[o.name,Rs]) (B:=16) (by simp[q,Rs])
  simp only[Aub,Aud]at this;omega
 have v:=hI.l
 refine Db (ws:=[o.name,Rs]) rfl rfl (by simp[q,Rs]) (by simp) hN (by simp only[Aua,Aub,Aud];omega) ?_
 refine(rN hF hx hN hI hL hU t u n o.lines.l.length 0 N _ (by omega) (by omega) (by simp only[Aua,Aub,Aud];omega)).trans ?_
 refine congrArg (fun X=>K X (bad||Qq o)) ?_
 rw[Au0,D6]
 unfold Kd
 rw[Aup,Hq]
 simp[Fo,Ba]
def sh(x:Ah):Prop:=x.length<=61
def jl{x:Ah}(h:x.length<=16):sh x:=Av2 h (by decide)
def WF(hx:Fh){z:Int}(h:FA z):sh (tx z):=Av2 (hx z h) (by decide)
def dX(hx:Fh){l:List Int}(h:∀ z∈l,FA z):∀ x∈l.map tx,sh x:=fun x d=>by obtain⟨z,f,rfl⟩:=Auy.1 d;exact WF hx (h z f)
def Ya{ws:List Ah}(h:∀ x∈ws,sh x)(hn:ws.length<=4000000100):(D6 ws).length<=300000000000:=by
 rw[D6,Aua]
 cases ws with
|nil=>simp[tk]
|cons w r =>
  rw[Hq,Aua]
  have f:w.length<=61:=h w (by simp)
  have d:(Fo r).length<=62*r.length:=DK (B:=61) fun x hx=>h x (by simp[hx])
  unfold Fo at d
  simp only[Aub,Aud]at hn ⊢
  omega
def Od(w:Ah)(d:decide (w.length<=61)):sh w:=by simpa[sh]using d
def Akc(l:List SegD):(l.flatMap UA).length=2*l.length:=by
 induction l with
|nil=>rfl
|cons a r d=>rw[Au1,Aua,d,Aub,show(UA a).length=2 from rfl];omega
def Ag8(U:List Ah)(l:List MoveD):(l.flatMap (Sx U)).length=3*l.length:=by
 induction l with
|nil=>rfl
|cons a r d=>rw[Au1,Aua,d,Aub,show(Sx U a).length=3 from rfl];omega
def Adc(s:Int):(Xi s).length<=1:=by unfold Xi;split;decide;split;decide;split<;>decide
def Ag9(s:Int):∀ x∈Xi s,sh x:=fun x hx=>by
 unfold Xi at hx
 split at hx
 ·rw[Ava]at hx;subst hx;exact Od _ (by decide)
 ·split at hx
  ·rw[Ava]at hx;subst hx;exact Od _ (by decide)
  ·split at hx
   ·rw[Ava]at hx;subst hx;exact Od _ (by decide)
   ·cases hx
section
variable{c:CaseD}(hx:Fh)(h:Ready 1000000000 c)
include hx h
def Aha:(D6 (HR c)).length<=300000000000:=by
 have hr:=h.i.r
 refine Ya (fun x d=>?_) (by have:=hr.2;simp[HR];omega)
 unfold HR at d
 simp only[Aum,Aul,Auu,or_false,or_assoc]at d
 rcases d with rfl|rfl|rfl|d
 ·exact Od _ (by decide)
 ·exact WF hx h.i.h
 ·exact Od _ (by decide)
 ·exact dX hx hr.1 _ d
def Akd{b:BusD}(n:b∈c.buses.l):(D6 (GZ b)).length<=300000000000:=by
 have hI:=h.i.b b n
 have hr:=hI.d
 refine Ya (fun x f=>?_) (by have:=hr.2;simp[GZ];omega)
 unfold GZ at f
 simp only[Aum,Aul,Auu,or_false,or_assoc]at f
 rcases f with rfl|rfl|rfl|f|rfl|rfl
 ·exact Od _ (by decide)
 ·exact jl (h.bn _ (Auy.2 ⟨b,n,rfl⟩))
 ·exact Od _ (by decide)
 ·exact dX hx hr.1 _ f
 ·exact Od _ (by decide)
 ·exact WF hx hI.s
def Ahb{l:LineD}(f:l∈c.lines.l):(D6 (Hv (Bt c) l)).length<=300000000000:=by
 have hI:=h.i.l l f
 refine Ya (fun x d=>?_) (by have:=hI.a.2;simp[Hv];omega)
 unfold Hv at d
 simp only[Aum,Aul,Auu,or_false,or_assoc]at d
 rcases d with rfl|rfl|rfl|rfl|rfl|rfl|rfl|rfl|rfl|rfl|rfl|rfl|rfl|d
 ·exact Od _ (by decide)
 ·exact jl (h.ln _ (Auy.2 ⟨l,f,rfl⟩))
 ·exact jl (Do h.bn _)
 ·exact jl (Do h.bn _)
 ·exact Od _ (by decide)
 ·exact AM hx hI.f1.1 hI.f1.2
 ·exact Od _ (by decide)
 ·exact AM hx hI.f2.1 hI.f2.2
 ·exact AM hx hI.f3.1 hI.f3.2
 ·exact Od _ (by decide)
 ·exact WF hx hI.n.1
 ·exact WF hx hI.n.2
 ·exact Od _ (by decide)
 ·exact dX hx hI.a.1 _ d
def Ahc{u:UnitD}(f:u∈c.units.l):(D6 (Lx (Bt c) u)).length<=300000000000:=by
 have hI:=h.i.u u f
 have ln:=Adc u.state
 refine Ya (fun x d=>?_) (by
  have:=hI.a.2
  have:=hI.s.2
  unfold Lx
  simp only[Aua,Aub,Aud,Akc,Auc];omega)
 unfold Lx at d
 simp only[Aum,Aul,Auu,or_false,or_assoc,Axa]at d
 rcases d with rfl|rfl|rfl|rfl|rfl|rfl|rfl|rfl|⟨s,hs,d⟩|rfl|rfl|rfl|rfl|rfl|rfl|rfl|rfl|rfl|rfl|rfl|rfl|rfl|rfl|rfl|rfl|rfl|rfl|rfl|rfl|rfl|d|rfl|d|rfl|rfl
 all_goals first
  |exact Od _ (by decide)
  |exact WF hx (hI.n _ (by simp))
  |exact jl (h.un _ (Auy.2 ⟨u,f,rfl⟩))
  |exact jl (Do h.bn _)
  |exact dX hx hI.a.1 _ d
  |exact Ag9 _ _ d
  |skip
 simp only[UA,Aum,Auu,or_false,or_assoc]at d
 rcases d with rfl|rfl
 ·exact WF hx (hI.s.1 s hs).1
 ·exact WF hx (hI.s.1 s hs).2
def Ade{s:StoreD}(f:s∈c.stores.l):(D6 (Hp (Bt c) s)).length<=300000000000:=by
 have hI:=h.i.s s f
 refine Ya (fun x d=>?_) (by simp[Hp])
 unfold Hp at d
 simp only[Aum,Auu,or_false,or_assoc]at d
 rcases d with rfl|rfl|rfl|rfl|rfl|rfl|rfl|rfl|rfl|rfl|rfl|rfl|rfl
 all_goals first
  |exact Od _ (by decide)
  |exact WF hx (hI.n _ (by simp))
  |exact jl (h.sn _ (Auy.2 ⟨s,f,rfl⟩))
  |exact jl (Do h.bn _)
  |exact AM hx (hI.n _ (by simp)) (hI.n _ (by simp))
def Ake{t:TieD}(f:t∈c.ties.l):(D6 (Xj (Bt c) t)).length<=300000000000:=by
 have hI:=h.i.t t f
 refine Ya (fun x d=>?_) (by have:=hI.i.2;have:=hI.e.2;have:=hI.p.2;simp[Xj];omega)
 unfold Xj at d
 simp only[Aum,Aul,Auu,or_false,or_assoc]at d
 rcases d with rfl|rfl|rfl|rfl|d|rfl|d|rfl|d
 all_goals first
  |exact Od _ (by decide)
  |exact jl (h.tn _ (Auy.2 ⟨t,f,rfl⟩))
  |exact jl (Do h.bn _)
  |exact dX hx hI.i.1 _ d
  |exact dX hx hI.e.1 _ d
  |exact dX hx hI.p.1 _ d
def Akf{o:OutD}(n:o∈c.outs.l):(D6 (Kd (Cb c) (Cl c) o)).length<=300000000000:=by
 have hI:=h.i.o o n
 refine Ya (fun x d=>?_) (by
  have:=hI.l
  have:=hI.m.2
  have:(cond o.corr [A1] ([]:List Ah)).length<=1:=by cases o.corr<;>decide
  unfold Kd
  simp only[Aua,Aub,Aud,Ag8,Auc];omega)
 unfold Kd at d
 simp only[Aum,Aul,Auu,or_false,or_assoc,Auy,Axa]at d
 rcases d with rfl|rfl|rfl|⟨l,s,rfl⟩|d|⟨m,f,d⟩
 ·exact Od _ (by decide)
 ·exact jl (h.on _ (Auy.2 ⟨o,n,rfl⟩))
 ·exact Od _ (by decide)
 ·exact jl (Do h.ln _)
 ·cases q:o.corr<;>rw[q]at d
  ·cases d
  ·rw[cond_true,Ava]at d;subst d;exact Od _ (by decide)
 ·simp only[Sx,Aum,Auu,or_false,or_assoc]at d
  rcases d with rfl|rfl|rfl
  ·exact jl (Do h.un _)
  ·exact WF hx (hI.m.1 m f).1
  ·exact WF hx (hI.m.1 m f).2
end
end Gx.Ct
namespace Gx.Ct
open Go Go.Proofs Gx.Cf
section
variable{R:Type}{N:Nat}{c:CaseD}{a:Bool}{K:List UInt8->Bool->O R}
def Ready.ks{c:CaseD}(h:Ready 1000000000 c):∀ u∈c.units.l,Ly u.state 3=true:=by
 have d:=h.k
 unfold Qr at d
 simp only[Auh,Auv]at d
 exact fun u f=>(d.2.1 u f).2
def Ae5{n m:Nat}(h:n<=60000000000000)(d:m<=1000):ble (n+m) 140737488355328=true:=by simp;omega
def DW(ws:List Ah)(r:List (List Ah)):(ws::r).flatMap D6=D6 ws++r.flatMap D6:=rfl
def rO(hF:FI R N)(hx:Fh)(hN:1000000000<N)(h:Ready 1000000000 c)(n:Jj c=true):∀(m j fuel:Nat)(T:Lu)(bad:Bool),j+m=c.outs.l.length->m<fuel->T.length+300000000000*m<=60000000000000 ->
  Fz N K (c.outs.l.flatMap OutD.av) c.outs.l.length a c.av fuel (c.outs.l.length:Int) (j:Int) T bad =
   K (T++((c.outs.l.drop j).map (Kd (Cb c) (Cl c))).flatMap D6) (bad||((c.outs.l.drop j).any Qq))
|0,j,fuel+1,T,bad,q,_,hT=>by
  rw[Fz];unfold Kn
  have s:=h.cnt
  rw[Jr (by omega),cf,show c.outs.l.drop j=[]from Ey (by omega),Av9,Aw4]
  show K _ _=K (T++[]) (bad||false)
  rw[Awh,Auk]
|m+1,j,fuel+1,T,bad,q,u,hT=>by
  rw[Fz];unfold Kn
  have d:j<c.outs.l.length:=by omega
  have s:=h.cnt
  have f:(c.outs.l[j])∈c.outs.l:=Aur d
  have v:=Akf hx h f
  have hT':T.length<=59700000000000:=by omega
  rw[Ig d,ct,Ab d,ct,Sn (e:=OutD.av) (sz:=4) (fun _=>rfl) d,ct,Mi (e:=OutD.av) (sz:=4) (fun _=>rfl) d,show((beq 0 0)&&((beq ((OutD.av c.outs.l[j]).length) 4)&&(beq 4 4)))=true from rfl,ct]
  have t:=fun bad=>rO hF hx hN h n m (j+1) fuel (T++D6 (Kd (Cb c) (Cl c) c.outs.l[j])) bad (by omega) (by omega) (by rw[Aua];omega)
  rw[Dl d,Auq,Awo,DW,<-Aun]
  rw[Hr,ct,show ble 4 (OutD.av c.outs.l[j]).length=true from rfl,ct,Dn,show take 4 (OutD.av c.outs.l[j])=OutD.av c.outs.l[j]from rfl,Ag7 hF hx hN (h.i.o _ f) h.ln h.un (h.kn.2.2.2.2 _ f).1 (h.kn.2.2.2.2 _ f).2 (Auv.1 n _ f) (h.on _ (Auy.2 ⟨_,f,rfl⟩)) (by omega),DJ (by omega)]
  refine(t _).trans ?_
  rw[Avr]
def rP(hF:FI R N)(hx:Fh)(hN:1000000000<N)(h:Ready 1000000000 c)(f:Jj c=true):∀(m j fuel:Nat)(T:Lu)(bad:Bool),j+m=c.ties.l.length->m<fuel->T.length+300000000000*(m+c.outs.l.length)<=60000000000000 ->
  Ec N K (c.ties.l.flatMap TieD.av) c.ties.l.length a c.av fuel (c.ties.l.length:Int) (j:Int) T bad =
   K (T++((c.ties.l.drop j).map (Xj (Bt c))++(c.outs.l.map (Kd (Cb c) (Cl c)))).flatMap D6) (bad||((c.ties.l.drop j).any E_||(c.outs.l.any Qq)))
|0,j,fuel+1,T,bad,u,_,hT=>by
  rw[Ec];unfold Ko
  have v:=h.cnt
  rw[Jr (by omega),cf,show c.ties.l.drop j=[]from Ey (by omega),Av9,Aw4]
  rw[Ni]
  refine(rO (a:=a) hF hx hN h f c.outs.l.length 0 N T bad (by omega) (by omega) (by omega)).trans ?_
  rw[Au0,Avw];rfl
| m+1,j,fuel+1,T,bad,u,y,hT=>by
  rw[Ec];unfold Ko
  have d:j<c.ties.l.length:=by omega
  have v:=h.cnt
  have n:(c.ties.l[j])∈c.ties.l:=Aur d
  have z:=Ake hx h n
  have hT':T.length<=59700000000000:=by omega
  rw[Ig d,ct,Ab d,ct,Sn (e:=TieD.av) (sz:=5) (fun _=>rfl) d,ct,Mi (e:=TieD.av) (sz:=5) (fun _=>rfl) d,show((beq 0 0)&&((beq ((TieD.av c.ties.l[j]).length) 5)&&(beq 5 5)))=true from rfl,ct]
  have x:=fun bad=>rP hF hx hN h f m (j+1) fuel (T++D6 (Xj (Bt c) c.ties.l[j])) bad (by omega) (by omega) (by rw[Aua];omega)
  rw[Dl d,Auq,Awo,Aup,DW,<-Aun]
  have hI:=h.i.t _ n
  have q:=h.kn.2.2.2.1 _ n
  have s:(c.ties.l[j]).name.length<=16:=h.tn _ (Auy.2 ⟨_,n,rfl⟩)
  have s1:=Do h.bn (c.ties.l[j]).bus
  rw[Ae5 (by omega) (by decide),ct,show ∀ F:Ah->O R,Mj (c.ties.l[j]).av F=F (c.ties.l[j]).name from fun _=>rfl,Fa]
  show cond (Ai (c.ties.l[j]).bus c.buses.l.length) _ none=_
  rw[JF q,ct,zd q]
  refine Db (ws:=[(c.ties.l[j]).name,Ay (Bt c) (c.ties.l[j]).bus,Sw]) rfl rfl (by simp[s,s1,Sw]) (by simp) hN (by simp only[Aua,Aub,Aud];omega) ?_
  have A:(Fo [(c.ties.l[j]).name,Ay (Bt c) (c.ties.l[j]).bus,Sw]).length<=100:=by
   have:=DK (ws:=[(c.ties.l[j]).name,Ay (Bt c) (c.ties.l[j]).bus,Sw]) (B:=16) (by simp[s,s1,Sw])
   simp only[Aub,Aud]at this;omega
  show By 1 ((c.ties.l[j]).imp.av 1 Sr::_) _=_
  rw[Dw,Co]
  refine Eu rfl rfl hF hx hI.i.1 hI.i.2 hN (by simp only[Aua,Aub,Aud];omega) ?_
  have C:(Fo ((c.ties.l[j]).imp.l.map tx)).length<=31*(c.ties.l[j]).imp.l.length:=Lv hx hI.i.1
  have D:=hI.i.2
  refine Db (ws:=[EZ]) rfl rfl (by decide) (by simp) hN (by simp only[Aua,Aub,Aud];omega) ?_
  have G:(Fo [EZ]).length<=20:=by decide
  show By 1 ((c.ties.l[j]).exp.av 1 Sr::_) _=_
  rw[Dw,Co]
  refine Eu rfl rfl hF hx hI.e.1 hI.e.2 hN (by simp only[Aua,Aub,Aud];omega) ?_
  have I:(Fo ((c.ties.l[j]).exp.l.map tx)).length<=31*(c.ties.l[j]).exp.l.length:=Lv hx hI.e.1
  have M:=hI.e.2
  refine Db (ws:=[OH]) rfl rfl (by decide) (by simp) hN (by simp only[Aua,Aub,Aud];omega) ?_
  have S:(Fo [OH]).length<=20:=by decide
  show By 1 ((c.ties.l[j]).price.av 1 Sr::_) _=_
  rw[Dw,Co]
  refine Eu rfl rfl hF hx hI.p.1 hI.p.2 hN (by simp only[Aua,Aub,Aud];omega) ?_
  have U:(Fo ((c.ties.l[j]).price.l.map tx)).length<=31*(c.ties.l[j]).price.l.length:=Lv hx hI.p.1
  have V:=hI.p.2
  rw[show ∀ X:Lu,X.length<=140000000000000->ble (X.length+1) 140737488355328=true from fun X h=>by simp;omega,ct]
  ·rw[DJ (by omega)]
   have eB:(((bad||A8 (c.ties.l[j]).imp.l)||A8 (c.ties.l[j]).exp.l)||A8 (c.ties.l[j]).price.l)=(bad||E_ c.ties.l[j]):=by unfold E_;simp[Avr]
   rw[eB]
   refine Axg ?_ ((x (bad||E_ c.ties.l[j])).trans ?_)
   ·refine congrArg (fun X=>Ec N K _ _ _ _ fuel _ _ X _) ?_
    rw[D6]
    unfold Xj
    simp only[Aup,Hq,Aun]
    simp[Fo,Dm]
   ·simp only[Avr]
  ·simp only[Aua,Aub,Aud];omega
def hZ(hF:FI R N)(hx:Fh)(hN:1000000000<N)(h:Ready 1000000000 c)(f:Jj c=true):∀(m j fuel:Nat)(T:Lu)(bad:Bool),j+m=c.stores.l.length->m<fuel->T.length+300000000000*(m+(c.ties.l.length+c.outs.l.length))<=60000000000000 ->
  Ed N K (c.stores.l.flatMap StoreD.av) c.stores.l.length a c.av fuel (c.stores.l.length:Int) (j:Int) T bad =
   K (T++((c.stores.l.drop j).map (Hp (Bt c))++(c.ties.l.map (Xj (Bt c))++(c.outs.l.map (Kd (Cb c) (Cl c))))).flatMap D6) (bad||((c.stores.l.drop j).any Sy||(c.ties.l.any E_||(c.outs.l.any Qq))))
|0,j,fuel+1,T,bad,v,_,hT=>by
  rw[Ed];unfold Kp
  have x:=h.cnt
  rw[Jr (by omega),cf,show c.stores.l.drop j=[]from Ey (by omega),Av9,Aw4]
  rw[To]
  refine(rP (a:=a) hF hx hN h f c.ties.l.length 0 N T bad (by omega) (by omega) (by omega)).trans ?_
  rw[Au0,Avw];rfl
| m+1,j,fuel+1,T,bad,v,z,hT=>by
  rw[Ed];unfold Kp
  have d:j<c.stores.l.length:=by omega
  have x:=h.cnt
  have q:(c.stores.l[j])∈c.stores.l:=Aur d
  have A:=Ade hx h q
  have hT':T.length<=59700000000000:=by omega
  rw[Ig d,ct,Ab d,ct,Sn (e:=StoreD.av) (sz:=9) (fun _=>rfl) d,ct,Mi (e:=StoreD.av) (sz:=9) (fun _=>rfl) d,show((beq 0 0)&&((beq ((StoreD.av c.stores.l[j]).length) 9)&&(beq 9 9)))=true from rfl,ct]
  have y:=fun bad=>hZ hF hx hN h f m (j+1) fuel (T++D6 (Hp (Bt c) c.stores.l[j])) bad (by omega) (by omega) (by rw[Aua];omega)
  rw[Dl d,Auq,Awo,Aup,DW,<-Aun]
  have hn:=(h.i.s _ q).n
  simp only[Aum,Auu,or_false,forall_eq_or_imp,forall_eq]at hn
  obtain⟨n1,n2,n3,n4,n5,n6,n7⟩:=hn
  have t:=h.kn.2.2.1 _ q
  have u:(c.stores.l[j]).name.length<=16:=h.sn _ (Auy.2 ⟨_,q,rfl⟩)
  have s1:=Do h.bn (c.stores.l[j]).bus
  rw[Ae5 (by omega) (by decide),ct,show ∀ F:Ah->O R,Mj (c.stores.l[j]).av F=F (c.stores.l[j]).name from fun _=>rfl,Fa]
  show cond (Ai (c.stores.l[j]).bus c.buses.l.length) _ none=_
  rw[JF t,ct,zd t]
  refine Db (ws:=[(c.stores.l[j]).name,Ay (Bt c) (c.stores.l[j]).bus,Qp]) rfl rfl (by simp[u,s1,Qp]) (by simp) hN (by simp only[Aua,Aub,Aud];omega) ?_
  have C:(Fo [(c.stores.l[j]).name,Ay (Bt c) (c.stores.l[j]).bus,Qp]).length<=100:=by
   have:=DK (ws:=[(c.stores.l[j]).name,Ay (Bt c) (c.stores.l[j]).bus,Qp]) (B:=16) (by simp[u,s1,Qp])
   simp only[Aub,Aud]at this;omega
  show Ag N [.int .i64 (c.stores.l[j]).capacity] 1 false true _ _ _=_
  refine Eu (l:=[(c.stores.l[j]).capacity]) rfl rfl hF hx (by simp[*]) (by simp) hN (by simp only[Aua,Aub,Aud];omega) ?_
  have D:(Fo ([(c.stores.l[j]).capacity].map tx)).length<=100:=by
   have:=Lv (l:=[(c.stores.l[j]).capacity]) hx (by simp[*])
   simp only[Aub,Aud]at this;omega
  refine Db (ws:=[fN]) rfl rfl (by decide) (by simp) hN (by simp only[Aua,Aub,Aud];omega) ?_
  have G:(Fo [fN]).length<=20:=by decide
  show Ag N [.int .i64 (c.stores.l[j]).initial,.int .i64 (c.stores.l[j]).final] 2 false true _ _ _=_
  refine Eu (l:=[(c.stores.l[j]).initial,(c.stores.l[j]).final]) rfl rfl hF hx (by simp[*]) (by simp) hN (by simp only[Aua,Aub,Aud];omega) ?_
  have I:(Fo ([(c.stores.l[j]).initial,(c.stores.l[j]).final].map tx)).length<=100:=by
   have:=Lv (l:=[(c.stores.l[j]).initial,(c.stores.l[j]).final]) hx (by simp[*])
   simp only[Aub,Aud]at this;omega
  refine Db (ws:=[pd]) rfl rfl (by decide) (by simp) hN (by simp only[Aua,Aub,Aud];omega) ?_
  have M:(Fo [pd]).length<=20:=by decide
  show Ag N [.int .i64 (c.stores.l[j]).charge,.int .i64 (c.stores.l[j]).discharge] 2 false true _ _ _=_
  refine Eu (l:=[(c.stores.l[j]).charge,(c.stores.l[j]).discharge]) rfl rfl hF hx (by simp[*]) (by simp) hN (by simp only[Aua,Aub,Aud];omega) ?_
  have S:(Fo ([(c.stores.l[j]).charge,(c.stores.l[j]).discharge].map tx)).length<=100:=by
   have:=Lv (l:=[(c.stores.l[j]).charge,(c.stores.l[j]).discharge]) hx (by simp[*])
   simp only[Aub,Aud]at this;omega
  refine Db (ws:=[Vi]) rfl rfl (by decide) (by simp) hN (by simp only[Aua,Aub,Aud];omega) ?_
  have U:(Fo [Vi]).length<=20:=by decide
  show cond true (cond (!a||Bg [AV.int .i64 (c.stores.l[j]).eff.num,.int .i64 (c.stores.l[j]).eff.den]) (cond true (Df N [.int .i64 (c.stores.l[j]).eff.num,.int .i64 (c.stores.l[j]).eff.den] 1 false true _ _ _) none) none) none=_
  rw[ct,show(!a||Bg [AV.int .i64 (c.stores.l[j]).eff.num,.int .i64 (c.stores.l[j]).eff.den])=true by cases a<;>rfl,ct,ct]
  refine rK (fs:=[(c.stores.l[j]).eff]) rfl rfl hF hx (by simp[n6,n7]) (by simp) hN (by simp only[Aua,Aub,Aud];omega) ?_
  have L1:=AM hx n6 n7
  have V:(Fo ([(c.stores.l[j]).eff].map Iz)).length<=62:=by simp[Fo];omega
  rw[show ∀ X:Lu,X.length<=140000000000000->ble (X.length+1) 140737488355328=true from fun X h=>by simp;omega,ct]
  ·rw[DJ (by omega)]
   have eB:((((bad||A8 [(c.stores.l[j]).capacity])||A8 [(c.stores.l[j]).initial,(c.stores.l[j]).final])||A8 [(c.stores.l[j]).charge,(c.stores.l[j]).discharge])||[(c.stores.l[j]).eff].any H2)=(bad||Sy c.stores.l[j]):=by unfold Sy;simp[A8,Avr]
   rw[eB]
   refine Axg ?_ ((y (bad||Sy c.stores.l[j])).trans ?_)
   ·refine congrArg (fun X=>Ed N K _ _ _ _ fuel _ _ X _) ?_
    rw[D6]
    unfold Hp
    simp only[Aup,Hq,Aun]
    simp[Fo,Bj]
   ·simp only[Avr]
  ·simp only[Aua,Aub,Aud];omega
def mE(hF:FI R N)(hx:Fh)(hN:1000000000<N)(h:Ready 1000000000 c)(f:Jj c=true):∀(m j fuel:Nat)(T:Lu)(bad:Bool),j+m=c.units.l.length->m<fuel->T.length+300000000000*(m+(c.stores.l.length+(c.ties.l.length+c.outs.l.length)))<=60000000000000 ->
  F0 N K (c.units.l.flatMap UnitD.av) c.units.l.length a c.av fuel (c.units.l.length:Int) (j:Int) T bad =
   K (T++((c.units.l.drop j).map (Lx (Bt c))++(c.stores.l.map (Hp (Bt c))++(c.ties.l.map (Xj (Bt c))++(c.outs.l.map (Kd (Cb c) (Cl c)))))).flatMap D6) (bad||((c.units.l.drop j).any Ys||(c.stores.l.any Sy||(c.ties.l.any E_||(c.outs.l.any Qq)))))
|0,j,fuel+1,T,bad,q,_,hT=>by
  rw[F0];unfold Kq
  have s:=h.cnt
  rw[Jr (by omega),cf,show c.units.l.drop j=[]from Ey (by omega),Av9,Aw4]
  rw[Mq]
  refine(hZ (a:=a) hF hx hN h f c.stores.l.length 0 N T bad (by omega) (by omega) (by omega)).trans ?_
  rw[Au0,Avw];rfl
|m+1,j,fuel+1,T,bad,q,v,hT=>by
  rw[F0];unfold Kq
  have d:j<c.units.l.length:=by omega
  have s:=h.cnt
  have n:(c.units.l[j])∈c.units.l:=Aur d
  have x:=Ahc hx h n
  have hT':T.length<=59700000000000:=by omega
  rw[Ig d,ct,Ab d,ct,Sn (e:=UnitD.av) (sz:=22) (fun _=>rfl) d,ct,Mi (e:=UnitD.av) (sz:=22) (fun _=>rfl) d,show((beq 0 0)&&((beq ((UnitD.av c.units.l[j]).length) 22)&&(beq 22 22)))=true from rfl,ct]
  have t:=fun bad=>mE hF hx hN h f m (j+1) fuel (T++D6 (Lx (Bt c) c.units.l[j])) bad (by omega) (by omega) (by rw[Aua];omega)
  rw[Dl d,Auq,Awo,Aup,DW,<-Aun]
  rw[Hr,ct,show ble 22 (UnitD.av c.units.l[j]).length=true from rfl,ct,Dn,show take 22 (UnitD.av c.units.l[j])=UnitD.av c.units.l[j]from rfl,Adb hF hx hN (h.i.u _ n) (Ready.ks h _ n) (h.kn.2.1 _ n) (h.un _ (Auy.2 ⟨_,n,rfl⟩)) (Do h.bn _) (by omega),DJ (by omega)]
  refine(t _).trans ?_
  simp only[Avr]
def mF(hF:FI R N)(hx:Fh)(hN:1000000000<N)(h:Ready 1000000000 c)(f:Jj c=true):∀(m j fuel:Nat)(T:Lu)(bad:Bool),j+m=c.lines.l.length->m<fuel->T.length+300000000000*(m+(c.units.l.length+(c.stores.l.length+(c.ties.l.length+c.outs.l.length))))<=60000000000000 ->
  F1 N K (c.lines.l.flatMap LineD.av) c.lines.l.length a c.av fuel (c.lines.l.length:Int) (j:Int) T bad =
   K (T++((c.lines.l.drop j).map (Hv (Bt c))++(c.units.l.map (Lx (Bt c))++(c.stores.l.map (Hp (Bt c))++(c.ties.l.map (Xj (Bt c))++(c.outs.l.map (Kd (Cb c) (Cl c))))))).flatMap D6) (bad||((c.lines.l.drop j).any HS||(c.units.l.any Ys||(c.stores.l.any Sy||(c.ties.l.any E_||(c.outs.l.any Qq))))))
|0,j,fuel+1,T,bad,q,_,hT=>by
  rw[F1];unfold Kr
  have s:=h.cnt
  rw[Jr (by omega),cf,show c.lines.l.drop j=[]from Ey (by omega),Av9,Aw4]
  rw[Kb]
  refine(mE (a:=a) hF hx hN h f c.units.l.length 0 N T bad (by omega) (by omega) (by omega)).trans ?_
  rw[Au0,Avw];rfl
|m+1,j,fuel+1,T,bad,q,u,hT=>by
  rw[F1];unfold Kr
  have d:j<c.lines.l.length:=by omega
  have s:=h.cnt
  have n:(c.lines.l[j])∈c.lines.l:=Aur d
  have v:=Ahb hx h n
  have hT':T.length<=59700000000000:=by omega
  rw[Ig d,ct,Ab d,ct,Sn (e:=LineD.av) (sz:=12) (fun _=>rfl) d,ct,Mi (e:=LineD.av) (sz:=12) (fun _=>rfl) d,show((beq 0 0)&&((beq ((LineD.av c.lines.l[j]).length) 12)&&(beq 12 12)))=true from rfl,ct]
  have t:=fun bad=>mF hF hx hN h f m (j+1) fuel (T++D6 (Hv (Bt c) c.lines.l[j])) bad (by omega) (by omega) (by rw[Aua];omega)
  rw[Dl d,Auq,Awo,Aup,DW,<-Aun]
  rw[Hr,ct,show ble 12 (LineD.av c.lines.l[j]).length=true from rfl,ct,Dn,show take 12 (LineD.av c.lines.l[j])=LineD.av c.lines.l[j]from rfl,Ac9 hF hx hN (h.i.l _ n) (h.kn.1 _ n).1 (h.kn.1 _ n).2 (h.ln _ (Auy.2 ⟨_,n,rfl⟩)) (Do h.bn _) (Do h.bn _) (by omega),DJ (by omega)]
  refine(t _).trans ?_
  simp only[Avr]
def mG(hF:FI R N)(hx:Fh)(hN:1000000000<N)(h:Ready 1000000000 c)(n:Jj c=true):∀(m j fuel:Nat)(T:Lu)(bad:Bool),j+m=c.buses.l.length->m<fuel->T.length+300000000000*(m+(c.lines.l.length+(c.units.l.length+(c.stores.l.length+(c.ties.l.length+c.outs.l.length)))))<=60000000000000 ->
  Dh N K (c.buses.l.flatMap BusD.av) c.buses.l.length a c.av fuel (c.buses.l.length:Int) (j:Int) T bad =
   K (T++((c.buses.l.drop j).map GZ++(c.lines.l.map (Hv (Bt c))++(c.units.l.map (Lx (Bt c))++(c.stores.l.map (Hp (Bt c))++(c.ties.l.map (Xj (Bt c))++(c.outs.l.map (Kd (Cb c) (Cl c)))))))).flatMap D6) (bad||((c.buses.l.drop j).any cY||(c.lines.l.any HS||(c.units.l.any Ys||(c.stores.l.any Sy||(c.ties.l.any E_||(c.outs.l.any Qq)))))))
|0,j,fuel+1,T,bad,u,_,hT=>by
  rw[Dh];unfold Ks
  have v:=h.cnt
  rw[Jr (by omega),cf,show c.buses.l.drop j=[]from Ey (by omega),Av9,Aw4]
  rw[G9]
  refine(mF (a:=a) hF hx hN h n c.lines.l.length 0 N T bad (by omega) (by omega) (by omega)).trans ?_
  rw[Au0,Avw];rfl
| m+1,j,fuel+1,T,bad,u,y,hT=>by
  rw[Dh];unfold Ks
  have f:j<c.buses.l.length:=by omega
  have v:=h.cnt
  have q:(c.buses.l[j])∈c.buses.l:=Aur f
  have z:=Akd hx h q
  have hT':T.length<=59700000000000:=by omega
  rw[Ig f,ct,Ab f,ct,Sn (e:=BusD.av) (sz:=3) (fun _=>rfl) f,ct,Mi (e:=BusD.av) (sz:=3) (fun _=>rfl) f,show((beq 0 0)&&((beq ((BusD.av c.buses.l[j]).length) 3)&&(beq 3 3)))=true from rfl,ct]
  have x:=fun bad=>mG hF hx hN h n m (j+1) fuel (T++D6 (GZ c.buses.l[j])) bad (by omega) (by omega) (by rw[Aua];omega)
  rw[Dl f,Auq,Awo,Aup,DW,<-Aun]
  have hI:=h.i.b _ q
  have hs:=hI.s
  have t:(c.buses.l[j]).name.length<=16:=h.bn _ (Auy.2 ⟨_,q,rfl⟩)
  rw[Ae5 (by omega) (by decide),ct]
  show An N [.str (c.buses.l[j]).name,.str Qn] 2 false true _ _ _=_
  refine Db (ws:=[(c.buses.l[j]).name,Qn]) rfl rfl (by simp[t,Qn]) (by simp) hN (by simp only[Aua,Aub,Aud];omega) ?_
  have A:(Fo [(c.buses.l[j]).name,Qn]).length<=100:=by
   have:=DK (ws:=[(c.buses.l[j]).name,Qn]) (B:=16) (by simp[t,Qn])
   simp only[Aub,Aud]at this;omega
  show By 1 ((c.buses.l[j]).demand.av 1 Sr::_) _=_
  rw[Dw,Co]
  refine Eu rfl rfl hF hx hI.d.1 hI.d.2 hN (by simp only[Aua,Aub,Aud];omega) ?_
  have C:(Fo ((c.buses.l[j]).demand.l.map tx)).length<=31*(c.buses.l[j]).demand.l.length:=Lv hx hI.d.1
  have D:=hI.d.2
  refine Db (ws:=[cW]) rfl rfl (by decide) (by simp) hN (by simp only[Aua,Aub,Aud];omega) ?_
  have F:(Fo [cW]).length<=20:=by decide
  show Ag N [.int .i64 (c.buses.l[j]).shed] 1 false true _ _ _=_
  refine Eu (l:=[(c.buses.l[j]).shed]) rfl rfl hF hx (by simp[*]) (by simp) hN (by simp only[Aua,Aub,Aud];omega) ?_
  have G:(Fo ([(c.buses.l[j]).shed].map tx)).length<=100:=by
   have:=Lv (l:=[(c.buses.l[j]).shed]) hx (by simp[*])
   simp only[Aub,Aud]at this;omega
  rw[show ∀ X:Lu,X.length<=140000000000000->ble (X.length+1) 140737488355328=true from fun X h=>by simp;omega,ct]
  ·rw[DJ (by omega)]
   have eB:((bad||A8 (c.buses.l[j]).demand.l)||A8 [(c.buses.l[j]).shed])=(bad||cY c.buses.l[j]):=by unfold cY;simp[A8,Avr]
   rw[eB]
   refine Axg ?_ ((x (bad||cY c.buses.l[j])).trans ?_)
   ·refine congrArg (fun X=>Dh N K _ _ _ _ fuel _ _ X _) ?_
    rw[D6]
    unfold GZ
    simp only[Aup,Hq,Aun]
    simp[Fo,Ea]
   ·simp only[Avr]
  ·simp only[Aua,Aub,Aud];omega
def Adf(hF:FI R N)(hx:Fh)(hN:1000000000<N)(h:Ready 1000000000 c)(d:Jj c=true):Im N c.av a [] false K=K (Wq c) (Rt c):=by
 rw[Z6];unfold Px
 have f:=h.cnt
 have n:=h.i.h
 have q:=Aha hx h
 rw[Ae5 (by simp) (by decide),ct,Ka]
 show Ag N [.int .i64 c.hours] 1 false true Be _ _=_
 refine Eu (l:=[c.hours]) rfl rfl hF hx (by simp[*]) (by simp) hN (by decide) ?_
 have s:(Fo ([c.hours].map tx)).length<=100:=by
  have:=Lv (l:=[c.hours]) hx (by simp[*])
  simp only[Aub,Aud]at this;omega
 have t:Be.length<=20:=by decide
 refine Db (ws:=[De]) rfl rfl (by decide) (by simp) hN (by simp only[Aua];omega) ?_
 have u:(Fo [De]).length<=20:=by decide
 rw[cV]
 refine Eu rfl rfl hF hx h.i.r.1 h.i.r.2 hN (by simp only[Aua];omega) ?_
 have v:(Fo (c.reserve.l.map tx)).length<=31*c.reserve.l.length:=Lv hx h.i.r.1
 have x:=h.i.r.2
 rw[show ∀ X:Lu,X.length<=140000000000000->ble (X.length+1) 140737488355328=true from fun X h=>by simp;omega,ct]
 ·have eB:((false||A8 [c.hours])||A8 c.reserve.l)=(BB c.hours||A8 c.reserve.l):=by simp[A8]
  have eW:(((Be++Fo ([c.hours].map tx))++Fo [De])++Fo (c.reserve.l.map tx))++[10]=D6 (HR c):=by
   rw[D6];unfold HR
   rw[Aup,Hq]
   simp[Fo]
  rw[Fa,eB,eW]
  refine(mG (a:=a) hF hx hN h d c.buses.l.length 0 N _ _ (by omega) (by omega) (by omega)).trans ?_
  rw[Au0]
  unfold Rt
  rw[Avr];rfl
 ·simp only[Aua];omega
end
end Gx.Ct
namespace Gx.Ct
open Go Go.Proofs Gx.Cf
section
variable{R:Type}{N:Nat}{c:CaseD}{b:Bool}
def mH{K:Lu->Int->O R}(d:c.outs.l.length<=1000):∀(m j fuel:Nat),j+m=c.outs.l.length->m<fuel ->
  Lp N K (c.outs.l.flatMap OutD.av) c.outs.l.length b c.av fuel (c.outs.l.length:Int) (j:Int) =
   cond ((c.outs.l.drop j).all uR) (Im N c.av b ([]:Lu) false fun r y=>cond y (K ([]:Lu) 3) (cond (decide (((r.length:Nat):Int)>1048576)) (K ([]:Lu) 8) (K r 0))) (K [] 16)
|0,j,fuel+1,f,_=>by
  rw[Lp];unfold Vz
  rw[Jr (by omega),cf,Ey (by omega),Awa,Hr,ct,Dn];rfl
| m+1,j,fuel+1,f,q=>by
  rw[Lp];unfold Vz
  have h:j<c.outs.l.length:=by omega
  have n:=mH (K:=K) d m (j+1) fuel (by omega) (by omega)
  rw[Ig h,ct,Ab h,ct,Sn (e:=OutD.av) (sz:=4) (fun _=>rfl) h,ct,Mi (e:=OutD.av) (sz:=4) (fun _=>rfl) h,show((beq 0 0)&&((beq ((OutD.av c.outs.l[j]).length) 4)&&(beq 4 4)))=true from rfl,ct,DJ (by omega),n,Dl h,Au5,
   show ∀ F:Bool->O R,HF (drop 2 (OutD.av c.outs.l[j])) F=F (c.outs.l[j]).corr from fun _=>rfl]
  have rm:∀ F:LA->Nat->O R,By 3 (drop 3 (OutD.av c.outs.l[j])) F=F ((c.outs.l[j]).moves.l.flatMap MoveD.av) (c.outs.l[j]).moves.l.length:=fun F=>by
   show By 3 ((c.outs.l[j]).moves.av 3 MoveD.av::_) F=_
   rw[Dw]
  rw[rm]
  unfold uR
  cases (c.outs.l[j]).corr with
  |true=>rfl
  |false =>
   show cond (cond true (decide ((((c.outs.l[j]).moves.l.length:Nat):Int)>0)) false) _ _=_
   cases s:(c.outs.l[j]).moves.l with
   |nil=>rfl
   |cons x r=>rw[decide_eq_true (by simp)];rfl
def Ahd(c:CaseD):((List.range' 1 6).all fun k=>(Pi c k).all A7)=(Cc c).all fun l=>l.all A7:=by simp[Pi,Cc,List.range']
def Ahe(c:CaseD):((List.range' 1 6).any fun k=>HU [] (Pi c k))=(Cc c).any (HU []):=by simp[Pi,Cc,List.range']
def Adg(c:CaseD):(List.range' 1 6).all (tI c)=Ok c:=by rw[Ag6];simp[List.range']
def xQ {K:Lu->Int->O R} (hF:FI R N) (hx:Fh) (hN:1000000000<N) (hI:CaseI 1000000000 c) (hL:ListsOk c):GF N c.av b K=K (Ajh c) (ZF c):=by
 have fin:∀ e:Int,ZF c=e->e≠0->K [] e=K (Ajh c) (ZF c):=fun e d f=>by unfold Ajh;rw[d,if_neg f]
 rw[UU];unfold IN
 refine(uU hN hL 6 1 N (by omega) (by omega) (by omega)).trans ?_
 rw[Adg]
 cases d:Ok c with
|false=>exact fin 8 (by unfold ZF;rw[if_pos d]) (by decide)
| true =>
  have y:=d
  unfold Ok at y
  simp only[Auh,decide_eq_true_eq]at y
  have E1:ZF c=if c.hours<1\/c.hours>24 then 3 else if HT c=false then 4 else if E' c≠0 then E' c else if Qr c=false then 12 else if Jj c=false then 16 else if Rt c then 3 else if (Wq c).length>1048576 then 8 else 0:=by
   unfold ZF;rw[if_neg (by rw[d];decide)]
  rw[ct,Ka]
  by_cases f:c.hours<1
  ·rw[decide_eq_true f];exact fin 3 (by rw[E1,if_pos (.inl f)]) (by decide)
  ·rw[decide_eq_false f,show((false:Bool)==false)=true from rfl,ct,Ka]
   show cond (decide (c.hours>24)) _ _=_
   by_cases q:c.hours>24
   ·rw[decide_eq_true q];exact fin 3 (by rw[E1,if_pos (.inr q)]) (by decide)
   ·have E2:ZF c=if HT c=false then 4 else if E' c≠0 then E' c else if Qr c=false then 12 else if Jj c=false then 16 else if Rt c then 3 else if (Wq c).length>1048576 then 8 else 0:=by
     rw[E1,if_neg (fun h=>h.elim f q)]
    rw[decide_eq_false q,cf]
    unfold Zb GD
    rw[Hr,ct,Dn,xP (by omega) (by omega) (by omega)]
    cases z:HT c with
    |false=>exact fin 4 (by rw[E2,if_pos z]) (by decide)
    | true =>
     have E3:ZF c=if E' c≠0 then E' c else if Qr c=false then 12 else if Jj c=false then 16 else if Rt c then 3 else if (Wq c).length>1048576 then 8 else 0:=by
      rw[E2,if_neg (by rw[z];decide)]
     rw[show(!true)=false from rfl,cf]
     have hs:∀ k,1<=k->k<=6->(Pi c k).length<=1000:=fun k d f=>by
      have:k=1\/k=2\/k=3\/k=4\/k=5\/k=6:=by omega
      rcases this with rfl|rfl|rfl|rfl|rfl|rfl<;>simp[Pi,Cc,Bt,Cb,Cl,cX,Ab1,sK]<;>omega
     refine(mC (F:=_) hN hL hs (fun _=>rfl) 6 1 N false (by omega) (by omega) (by omega)).trans ?_
     rw[Ahd,Ahe,Avw]
     have hE:E' c=if ((Cc c).all fun l=>l.all A7)then(if (Cc c).any (HU [])then 10 else 0)else 9:=rfl
     cases t:((Cc c).all fun l=>l.all A7)with
     |false =>
      rw[t]at hE
      exact fin 9 (by rw[E3,hE];rfl) (by decide)
     | true =>
      rw[t,if_pos rfl]at hE
      rw[ct]
      cases n:(Cc c).any (HU [])with
      |true =>
       rw[n]at hE
       exact fin 10 (by rw[E3,hE];rfl) (by decide)
      | false =>
       rw[n,if_neg (by decide)]at hE
       have E4:ZF c=if Qr c=false then 12 else if Jj c=false then 16 else if Rt c then 3 else if (Wq c).length>1048576 then 8 else 0:=by
        rw[E3,if_neg (fun h=>h hE)]
       rw[cf,Hr,ct,Dn,zl hN d hI.o]
       cases u:Qr c with
       |false=>exact fin 12 (by rw[E4,if_pos u]) (by decide)
       | true =>
        have E5:ZF c=if Jj c=false then 16 else if Rt c then 3 else if (Wq c).length>1048576 then 8 else 0:=by
         rw[E4,if_neg (by rw[u];decide)]
        rw[show(!true)=false from rfl,cf,Ni]
        refine(mH (by omega) c.outs.l.length 0 N (by omega) (by omega)).trans ?_
        rw[Au0,show c.outs.l.all uR=Jj c from rfl]
        cases v:Jj c with
        |false=>exact fin 16 (by rw[E5,if_pos v]) (by decide)
        | true =>
         have E6:ZF c=if Rt c then 3 else if (Wq c).length>1048576 then 8 else 0:=by
          rw[E5,if_neg (by rw[v];decide)]
         rw[ct]
         have x:∀ l∈Cc c,∀ s∈l,A7 s=true:=by
          simp only[Auv]at t
          exact t
         have rd:Ready 1000000000 c:=⟨hI,fun l D s hs=>by
          have:=x l D s hs
          unfold A7 at this
          simp only[Auh,decide_eq_true_eq]at this
          exact this.2.1,u,d⟩
         rw[Adf hF hx hN rd v]
         cases A:Rt c with
         |true=>exact fin 3 (by rw[E6,if_pos A]) (by decide)
         | false =>
          have E7:ZF c=if (Wq c).length>1048576 then 8 else 0:=by
           rw[E6,if_neg (by rw[A];decide)]
          rw[cf]
          by_cases C:(Wq c).length>1048576
          ·rw[decide_eq_true (show(((Wq c).length:Nat):Int)>1048576 by omega)]
           exact fin 8 (by rw[E7,if_pos C]) (by decide)
          ·have E8:ZF c=0:=by rw[E7,if_neg C]
           rw[decide_eq_false (show ¬ (((Wq c).length:Nat):Int)>1048576 by omega),cf]
           unfold Ajh;rw[E8,if_pos rfl]
end
end Gx.Ct
namespace Gx.Cf
open Go Go.Proofs
section
variable{R:Type}
def Akg{N:Nat}{v n:Int}(d:1<=n)(f:n<=4611686018427387904):∃ r:Int,0<=r/\r<n/\∀ K:Int->O R,ib N v n K=K r:=by
 obtain⟨a1,a2,a3⟩:=zi v n d f
 refine⟨_,a2,a3,fun K=>?_⟩
 rw[cK];unfold nk
 rw[a1,cf]
end
end Gx.Cf
namespace Gx
open Go Go.Proofs
section
variable{R:Type}
def U3(x y:Nat):Int:=if x<y then -1 else if y<x then 1 else 0
def MS(x:Nat):U3 x x=0:=by unfold U3;simp
def QJ{a b:Nat}(h:(Bb a).length<(Bb b).length):a<b:=Nat.lt_of_not_le fun d=>by have:=Lf d;omega
def nr{u w p q P:Nat}(d:u<P)(f:w<P)(h:p<q):u+P*p<w+P*q:=by
 have:P*(p+1)<=P*q:=Aw1 _ h
 rw[Avt]at this
 omega
def uW{N:Nat}{x y:List Nat}{t u:Bool}{K:Int->O R}(hx:Ax x)(l:Ax y)(hs:x.length<=1000000000000)(n:x.length=y.length):∀(i fuel:Nat),i<=x.length->i<fuel ->
  Gk N K (Au x) x.length t (Au y) y.length u fuel ((i:Int) - 1)=K (U3 (val (x.take i)) (val (y.take i)))
|0,fuel+1,_,_=>by
  rw[Gk];unfold Ps
  rw[show decide ((((0:Nat):Int) - 1)>=0)=false by simp,cf]
  simp[MS]
| i+1,fuel+1,hi,q=>by
  rw[Gk];unfold Ps
  rw[show(((i+1:Nat):Int) - 1)=(i:Int) by omega,show decide ((i:Int)>=0)=true by simp,ct,Ab (by omega),ct,wV (by omega),Ab (by omega),ct,wV (by omega),ct,wV (by omega),ct,wV (by omega),i64 (by omega),
   uW hx l hs n i fuel (by omega) (by omega),C2 (by omega),C2 (by omega)]
  have d:=Nl (Nk hx i)
  have f:=Nl (Nk l i)
  rw[Avd,Avo (by omega)]at d f
  by_cases c1:x[i]<y[i]
  ·have:=nr d f c1
   rw[show decide (((x[i]:Nat):Int)<((y[i]:Nat):Int))=true by simp;exact c1,ct]
   unfold U3;rw[if_pos this]
  ·by_cases c2:y[i]<x[i]
   ·have:=nr f d c2
    rw[show decide (((x[i]:Nat):Int)<((y[i]:Nat):Int))=false by simp;omega,cf,show decide (((x[i]:Nat):Int)>((y[i]:Nat):Int))=true by simp;exact c2,ct]
    unfold U3;rw[if_neg (by omega),if_pos this]
   ·have:x[i]=y[i]:=by omega
    rw[show decide (((x[i]:Nat):Int)<((y[i]:Nat):Int))=false by simp;omega,cf,show decide (((x[i]:Nat):Int)>((y[i]:Nat):Int))=false by simp;omega,cf,this]
    unfold U3
    congr 1
    by_cases a1:val (x.take i)<val (y.take i)
    ·rw[if_pos a1,if_pos (by omega)]
    ·by_cases a2:val (y.take i)<val (x.take i)
     ·rw[if_neg a1,if_pos a2,if_neg (by omega),if_pos (by omega)]
     ·rw[if_neg a1,if_neg a2,if_neg (by omega),if_neg (by omega)]
def uX{N:Nat}{a b:List Nat}{n m:Nat}{t o t' o':Bool}{K:Int->O R}(hn:n=a.length)(s:m=b.length)(f:Ax a)(l:Ax b)(d:fit (a.length+b.length) N):
  S4 N (Au a) n t o (Au b) m t' o' K=K (U3 (val a) (val b)):=by
 subst hn s
 have v:=d.1;have x:=d.2
 rw[IA];unfold Vl
 dsimp only
 rw[D7 rfl f (d.le (by omega)),D7 rfl l (d.le (by omega))]
 have la:=(Hi f).2
 have lb:=(Hi l).2
 by_cases q:(Bb (val a)).length=(Bb (val b)).length
 ·rw[show((((Bb (val a)).length:Nat):Int) != (((Bb (val b)).length:Nat):Int))=false by simp;omega,cf,i64 (by omega),uW (A2 _) (A2 _) (by omega) q _ N (Aui _) (by omega),Avl,q,Avl,A5,A5]
 ·rw[show((((Bb (val a)).length:Nat):Int) != (((Bb (val b)).length:Nat):Int))=true by simp;omega,ct]
  by_cases u:(Bb (val a)).length<(Bb (val b)).length
  ·have:=QJ u
   rw[show decide ((((Bb (val a)).length:Nat):Int)<(((Bb (val b)).length:Nat):Int))=true by simp;omega,ct]
   unfold U3;rw[if_pos this]
  ·have:=QJ (show(Bb (val b)).length<(Bb (val a)).length by omega)
   rw[show decide ((((Bb (val a)).length:Nat):Int)<(((Bb (val b)).length:Nat):Int))=false by simp;omega,cf]
   unfold U3;rw[if_neg (by omega),if_pos this]
def rQ{N:Nat}{a:List Nat}{n:Nat}{t o:Bool}{K:Int->O R}(hn:n=a.length)(l:Ax a)(d:fit a.length N):Xn N (Au a) n t o K=K (U3 (val a) 0):=by
 subst hn
 have q:=d.1;have s:=d.2
 rw[UK];unfold IB
 dsimp only
 rw[D7 rfl l d,Agq (by omega)]
 by_cases f:val a=0
 ·rw[f,Gd,MS]
  cases N with
  |zero=>omega
  |succ N =>
   rw[S5];unfold FL
   rw[i64 (by simp)];simp
 ·have u:(Bb (val a)).length≠0:=fun h=>f (Er.1 h)
  rw[show((((Bb (val a)).length:Nat):Int) != (0:Int))=true by simp;exact fun h=>f (pf.1 h),ct]
  rw[show decide ((((Bb (val a)).length:Nat):Int)<(0:Int))=false by simp,cf]
  unfold U3;rw[if_neg (by omega),if_pos (by omega)]
def nv:∀{S:List Nat}{d v:Nat}(h:d<S.length),val (S.set d v)+4294967296 ^ d*S[d]=val S+4294967296 ^ d*v
|x::r,0,v,_=>by simp[val];omega
|x::r,d+1,v,h=>by
  have f:=nv (S:=r) (d:=d) (v:=v) (by simpa using h)
  simp only[List.set_cons_succ,val,Axm,Au7]
  have e1:∀ y,4294967296 ^ d*4294967296*y=4294967296*(4294967296 ^ d*y):=fun y=>by rw[Av6 (4294967296 ^ d),Avu]
  rw[e1,e1]
  omega
def MT(b:List Nat)(d:Nat):val (b.take (d+1))=val (b.take d)+4294967296 ^ d*b.getD d 0:=by
 by_cases h:d<b.length
 ·rw[C2 h,Auo,Aug h];rfl
 ·rw[Aue (by omega),Aue (by omega),Auo,Av4 (by omega)];simp
def WG(P s:Nat):P*(s%4294967296)+P*4294967296*(s/4294967296)=P*s:=by rw[Avu,<-Avt,Axz,Awz]
def Al9(S:List Nat)(d:Nat):Prop:=∀ j (h:j<S.length),d<=j->S[j]=0
def YD{S:List Nat}{d v:Nat}(h:Al9 S d):Al9 (S.set d v) (d+1):=fun j f l=>by
 rw[List.getElem_set]
 rw[if_neg (by omega)]
 exact h j (by simpa using f) (by omega)
def Zf(n:Nat):Al9 (replicate n 0) 0:=fun j d _=>by simp
def YE{S:List Nat}{d v:Nat}(h:Al9 S d)(f:d<S.length):val (S.set d v)=val S+4294967296 ^ d*v:=by
 have:=nv (v:=v) f
 rw[h d f (Aui _)]at this;simpa using this
def At3{a:Nat}(h:a<=1000000000000):wrap .i64 ((a:Int)+(1:Int))=((a+1:Nat):Int):=wS h
def Ast{x:Nat}{m:List Nat}(h:x<m.length):((beq 1 1)&&((ble ((0+(x*1))+1) (List.length (Au m)))&&(!false)))=true:=by rw[Fc];simp;omega
def Aql{x v:Nat}{m:List Nat}:List.set (Au m) (0+(x*1)) (.int .u32 (v:Int))=Au (m.set x v):=by rw[Auz,Aux,ym]
def rR{N:Nat}{a b:List Nat}{t u:Bool}(A:Ax a)(C:Ax b)(n:fit (a.length+1) N)(q:b.length<=a.length):∀(m d fuel:Nat)(S:List Nat)(c:Nat),d+m=a.length->m<fuel->Ax S->S.length=a.length+1->Al9 S d->c<=1 ->
  val S+4294967296 ^ d*c=val (a.take d)+val (b.take d) ->
  ∃ S',Ax S'/\S'.length=a.length+1/\val S'=val a+val b/\∀ K:Nat->LA->O R,Xm N K (Au a) a.length t (Au b) b.length u fuel (a.length+1) (c:Int) (a.length:Int) (d:Int) (Au S)=K (Bb (val a+val b)).length (Au S')
| 0,d,fuel+1,S,c,V,_,hS,v,x,X,U=>by
  have Y:=n.1;have h2:=n.2
  have D:d=a.length:=by omega
  subst D
  have y:val (S.set a.length c)=val a+val b:=by
   rw[YE x (by omega),U,Avl,Aue q]
  have z:=O5 hS (show c<4294967296 by omega) a.length
  refine⟨S.set a.length c,z,by simpa using v,y,fun K=>?_⟩
  rw[Xm];unfold FJ
  rw[Jr (Aui _),cf,Ab (by omega),ct,Ast (by omega),ct,Aoa (by omega),Aql,qJ (by simp;omega) z (by simp only[List.length_set,v];exact n),y]
| m+1,d,fuel+1,S,c,V,hfu,hS,v,x,X,U=>by
  have Y:=n.1;have h2:=n.2
  have f:d<a.length:=by omega
  have ad:=Jw A f
  have step:∀ s:Nat,s<8589934592->s=c+a[d]+b.getD d 0->val (S.set d (s%4294967296))+4294967296 ^ (d+1)*(s/4294967296)=val (a.take (d+1))+val (b.take (d+1)):=by
   intro s _ hs
   rw[YE x (by omega),C2 f,MT b d,Au7]
   have e:=WG (4294967296 ^ d) s
   have e2:4294967296 ^ d*s=4294967296 ^ d*c+4294967296 ^ d*a[d]+4294967296 ^ d*b.getD d 0:=by rw[hs,Avt,Avt]
   omega
  by_cases l:d<b.length
  ·have bd:=Jw C l
   have F:b.getD d 0=b[d]:=by rw[Auo,Aug l];rfl
   obtain⟨S',G,I,M,T⟩:=rR (t:=t) (u:=u) A C n q m (d+1) fuel (S.set d ((c+a[d]+b[d])%4294967296)) ((c+a[d]+b[d])/4294967296) (by omega) (by omega) (O5 hS (by omega) d) (by simpa using v) (YD x) (by omega) (step _ (by omega) (by rw[F]))
   refine⟨S',G,I,M,fun K=>?_⟩
   rw[Xm];unfold FJ
   rw[Ig f,ct,Ab f,ct,wV f,Ig l,ct,Ab l,ct,wV l,Ab (by omega),ct,Aee (by omega),ct,JX (by omega),JX (by omega),vw,JX (by omega),vw,JX (by omega),Ab5,yn,qH,wS (by omega)]
   exact T K
  ·have F:b.getD d 0=0:=by rw[Auo,Av4 (by omega)];rfl
   obtain⟨S',G,I,M,T⟩:=rR (t:=t) (u:=u) A C n q m (d+1) fuel (S.set d ((c+a[d])%4294967296)) ((c+a[d])/4294967296) (by omega) (by omega) (O5 hS (by omega) d) (by simpa using v) (YD x) (by omega) (step _ (by omega) (by rw[F];rfl))
   refine⟨S',G,I,M,fun K=>?_⟩
   rw[Xm];unfold FJ
   rw[Ig f,ct,Ab f,ct,wV f,Jr (by omega),cf,Ab (by omega),ct,Aee (by omega),ct,JX (by omega),vw,JX (by omega),Ab5,yn,qH,wS (by omega)]
   exact T K
def Akh{N:Nat}{a b:List Nat}{t u:Bool}(l:Ax a)(n:Ax b)(d:fit (a.length+1) N)(f:b.length<=a.length):
  ∃ S',Ax S'/\val S'=val a+val b/\∀ K:Nat->LA->O R,LY N K (Au a) a.length t (Au b) b.length u=K (Bb (val a+val b)).length (Au S'):=by
 have x:=d.1;have y:=d.2
 obtain⟨S',q,_,s,v⟩:=rR (R:=R) (t:=t) (u:=u) l n d f a.length 0 N (replicate (a.length+1) 0) 0 (by omega) (by omega) (Jx _) (by simp) (Zf _) (by omega) (by rw[Le];simp[val])
 refine⟨S',q,s,fun K=>?_⟩
 unfold LY dC
 rw[At3 (by omega),Aox (by omega),ct,Auf,Mr]
 exact v K
def Aki{N:Nat}{a b:List Nat}{n m:Nat}{t o t' o':Bool}(hn:n=a.length)(x:m=b.length)(l:Ax a)(q:Ax b)(d:fit (a.length+b.length+1) N):
  ∃ S',Ax S'/\val S'=val a+val b/\∀ K:Nat->LA->O R,qE N (Au a) n t o (Au b) m t' o' K=K (Bb (val a+val b)).length (Au S'):=by
 subst hn x
 have la:=(Hi l).2
 have lb:=(Hi q).2
 by_cases y:(Bb (val a)).length<(Bb (val b)).length
 ·obtain⟨S',s,f,v⟩:=Akh (R:=R) (N:=N) (a:=Bb (val b)) (b:=Bb (val a)) (t:=o') (u:=o) (A2 _) (A2 _) (d.le (by omega)) (by omega)
  rw[A5,A5,Axz]at f
  refine⟨S',s,f,fun K=>?_⟩
  rw[dD];unfold f6
  rw[D7 rfl l (d.le (by omega)),D7 rfl q (d.le (by omega)),Ig y,ct,v,A5,A5,Axz (val b)]
 ·obtain⟨S',s,f,v⟩:=Akh (R:=R) (N:=N) (a:=Bb (val a)) (b:=Bb (val b)) (t:=o) (u:=o') (A2 _) (A2 _) (d.le (by omega)) (by omega)
  rw[A5,A5]at f
  refine⟨S',s,f,fun K=>?_⟩
  rw[dD];unfold f6
  rw[D7 rfl l (d.le (by omega)),D7 rfl q (d.le (by omega)),Jr (by omega),cf,v,A5,A5]
def uY{x y:Nat}(hx:x<4294967296)(f:y<=4294967296):∃ d c:Nat,d<4294967296/\c<=1/\x+4294967296*c=d+y/\wrap .u32 (wrap .u64 ((x:Int) - (y:Int)))=(d:Int)/\Int.fdiv (wrap .u64 ((x:Int) - (y:Int))) (2 ^ 63)=(c:Int):=by
 by_cases h:y<=x
 ·refine⟨x - y,0,by omega,by omega,by omega,?_,?_⟩
  ·rw[vz (by omega) h,Aoa (by omega)]
  ·rw[vz (by omega) h,Aqe,Awm (by omega)]
 ·refine⟨x+4294967296 - y,1,by omega,by omega,by omega,?_,?_⟩
  ·rw[Ajl (by omega) (by omega),yn];congr 1;omega
  ·rw[Ajl (by omega) (by omega),Aqe];congr 1;omega
def Am3{x c w:Nat}(hx:x<4294967296)(d:c<=1)(f:w<4294967296):wrap .u64 ((wrap .u64 ((x:Int) - (c:Int))) - (w:Int))=wrap .u64 ((x:Int) - ((c+w:Nat):Int)):=by rw[fP,fP,fP];omega
def rS{N:Nat}{a b:List Nat}{t u:Bool}(D:Ax a)(F:Ax b)(v:fit a.length N)(q:b.length<=a.length)(x:val b<=val a):∀(m d fuel:Nat)(S:List Nat)(c:Nat),d+m=a.length->m<fuel->Ax S->S.length=a.length->Al9 S d->c<=1 ->
  val S+val (b.take d)=val (a.take d)+4294967296 ^ d*c ->
  ∃ S',Ax S'/\val S'=val a - val b/\∀ K:Nat->Bool->LA->O R,Us N K (Au b) b.length t a.length (Au a) u fuel (c:Int) (a.length:Int) (d:Int) (Au S)=K (Bb (val a - val b)).length true (Au S')
| 0,d,fuel+1,S,c,hd,_,hS,s,C,hc,hv=>by
  have G:d=a.length:=by omega
  subst G
  rw[Avl,Aue q]at hv
  have I:=Nl hS
  rw[s]at I
  have M:c=0:=by
   rcases Ax0 0 c with h|h
   ·exfalso
    have:c=1:=by omega
    subst this
    omega
   ·omega
  subst M
  have z:val S=val a - val b:=by omega
  refine⟨S,hS,z,fun K=>?_⟩
  rw[Us];unfold FK
  rw[Jr (Aui _),cf,qJ s.symm hS (by rw[s];exact v),z]
| m+1,d,fuel+1,S,c,hd,hfu,hS,s,C,hc,hv=>by
  have h1:=v.1;have h2:=v.2
  have f:d<a.length:=by omega
  have ad:=Jw D f
  have step:∀ y g n:Nat,y=c+b.getD d 0->a[d]+4294967296*n=g+y->val (S.set d g)+val (b.take (d+1))=val (a.take (d+1))+4294967296 ^ (d+1)*n:=by
   intro y g n hy A
   rw[YE C (by omega),C2 f,MT b d,Au7,Avu]
   have e:4294967296 ^ d*(a[d]+4294967296*n)=4294967296 ^ d*(g+(c+b.getD d 0)):=by rw[A,hy]
   rw[Avt,Avt,Avt]at e
   omega
  by_cases l:d<b.length
  ·have bd:=Jw F l
   have A:b.getD d 0=b[d]:=by rw[Auo,Aug l];rfl
   obtain⟨g,n,T,U,V,X,Y⟩:=uY ad (show c+b[d]<=4294967296 by omega)
   obtain⟨S',q1,q3,q4⟩:=rS (t:=t) (u:=u) D F v q x m (d+1) fuel (S.set d g) n (by omega) (by omega) (O5 hS T d) (by simpa using s) (YD C) U (step _ _ _ (by rw[A]) V)
   refine⟨S',q1,q3,fun K=>?_⟩
   rw[Us];unfold FK
   rw[Ig f,ct,Ab f,ct,wV f,Ig l,ct,Ab l,ct,wV l,ct,Aee (by omega),ct,JX (show a[d]<18446744073709551616 by omega),JX (show b[d]<18446744073709551616 by omega),Am3 ad hc bd,X,Y,qH,wS (by omega)]
   exact q4 K
  ·have A:b.getD d 0=0:=by rw[Auo,Av4 (by omega)];rfl
   obtain⟨g,n,T,U,V,X,Y⟩:=uY ad (show c<=4294967296 by omega)
   obtain⟨S',q1,q3,q4⟩:=rS (t:=t) (u:=u) D F v q x m (d+1) fuel (S.set d g) n (by omega) (by omega) (O5 hS T d) (by simpa using s) (YD C) U (step _ _ _ (by rw[A];rfl) V)
   refine⟨S',q1,q3,fun K=>?_⟩
   rw[Us];unfold FK
   rw[Ig f,ct,Ab f,ct,wV f,Jr (by omega),cf,ct,Aee (by omega),ct,JX (show a[d]<18446744073709551616 by omega),X,Y,qH,wS (by omega)]
   exact q4 K
def zp{N:Nat}{a b:List Nat}{n m:Nat}{t o t' o':Bool}(hn:n=a.length)(x:m=b.length)(q:Ax a)(s:Ax b)(d:fit (a.length+b.length) N)(f:val b<=val a):
  ∃ S',Ax S'/\val S'=val a - val b/\∀ K:Nat->Bool->LA->O R,dE N (Au a) n t o (Au b) m t' o' K=K (Bb (val a - val b)).length true (Au S'):=by
 subst hn x
 have A:=d.1;have C:=d.2
 have la:=(Hi q).2
 have lb:=(Hi s).2
 have l:=Lf f
 obtain⟨S',y,v,z⟩:=rS (R:=R) (N:=N) (a:=Bb (val a)) (b:=Bb (val b)) (t:=o') (u:=o) (A2 _) (A2 _) (d.le (by omega)) l (by rw[A5,A5];exact f) (Bb (val a)).length 0 N (replicate (Bb (val a)).length 0) 0 (by omega) (by omega) (Jx _) (by simp) (Zf _) (by omega) (by rw[Le];simp[val])
 rw[A5,A5]at v
 refine⟨S',y,v,fun K=>?_⟩
 rw[dF];unfold f7
 dsimp only
 rw[D7 rfl q (d.le (by omega)),D7 rfl s (d.le (by omega)),uX rfl rfl (A2 _) (A2 _) (d.le (by omega)),A5,A5]
 have:decide (U3 (val a) (val b)<0)=false:=by unfold U3;split<;>(try split)<;>simp<;>omega
 rw[this,cf,Aox (by omega),ct,Mr]
 have:=z K
 rw[A5,A5]at this
 exact this
def Akj{N:Nat}{a b:List Nat}{n m:Nat}{t o t' o':Bool}{K:Nat->Bool->LA->O R}(hn:n=a.length)(s:m=b.length)(l:Ax a)(q:Ax b)(d:fit (a.length+b.length) N)(f:val a<val b):
  dE N (Au a) n t o (Au b) m t' o' K=K 0 false []:=by
 subst hn s
 have la:=(Hi l).2
 have lb:=(Hi q).2
 rw[dF];unfold f7
 dsimp only
 rw[D7 rfl l (d.le (by omega)),D7 rfl q (d.le (by omega)),uX rfl rfl (A2 _) (A2 _) (d.le (by omega)),A5,A5]
 have:decide (U3 (val a) (val b)<0)=true:=by unfold U3;rw[if_pos f];rfl
 rw[this,ct]
def Ahf{n:Nat}(h:n≠0):((n:Int)==(0:Int))=false:=by rw[beq_eq_false_iff_ne];omega
def Akk:∀{S:List Nat}{j:Nat}(h:j<S.length),4294967296 ^ j*S[j]<=val S
|x::r,0,_=>by simp[val]
|x::r,j+1,h=>by
  have:=Akk (S:=r) (j:=j) (by simpa using h)
  simp only[Axm,val,Au7]
  rw[Av6 (4294967296 ^ j),Avu]
  omega
def Apa{S:List Nat}{k:Nat}(h:val S<4294967296 ^ k):Al9 S k:=fun j f l=>by
 have n:=Akk f
 have q:4294967296 ^ k<=4294967296 ^ j:=Avb (by omega) l
 rcases Avv S[j]with d|d
 ·exact d
 ·have:=Ayj (4294967296 ^ j) d
  omega
def Akl{p q y s:Nat}(d:p<4294967296)(hq:q<4294967296)(f:y<4294967296)(hs:s<4294967296):p+(q*y+s)<18446744073709551616:=by
 have:q*y<=4294967295*4294967295:=Ay5 (by omega) (by omega)
 omega
def Akm{N:Nat}{x y:List Nat}{c d:Bool}{f q J:Nat}(I:Ax y)(hq:q<4294967296)(T:f<x.length)(hs:x.length+y.length<=1000000000000):∀(m l fuel:Nat)(S:List Nat)(p:Nat)(v:Nat),l+m=y.length->m<fuel->Ax S->S.length=x.length+y.length->Al9 S (f+y.length)->p<4294967296 ->
  val S+4294967296 ^ (f+l)*p=v+4294967296 ^ f*(q*val (y.take l)) ->
  ∃ S',Ax S'/\S'.length=x.length+y.length/\val S'=v+4294967296 ^ f*(q*val y)/\∀(u:Nat->Int->Int->LA->O R)(K:Nat->LA->O R),Xl N u K (Au y) y.length d (x.length+y.length) (f:Int) (q:Int) (Au x) x.length c (J:Int) fuel (p:Int) (y.length:Int) (l:Int) (Au S)=u (x.length+y.length) J ((f+1:Nat):Int) (Au S')
|0,l,fuel+1,S,p,v,U,_,hS,n,C,A,D=>by
  have F:l=y.length:=by omega
  subst F
  rw[Avl]at D
  refine⟨S.set (f+y.length) p,O5 hS A _,by simpa using n,by rw[YE C (by omega),D],fun u K=>?_⟩
  rw[Xl];unfold OP
  rw[Jr (Aui _),cf,wA (by omega),Ab (by omega),ct,Aee (by omega),ct,Aoa A,qH,wS (by omega)]
| m+1,l,fuel+1,S,p,v,U,V,hS,n,C,A,D=>by
  have t:l<y.length:=by omega
  have yl:=Jw I t
  have hi:f+l<S.length:=by omega
  have sl:=Jw hS hi
  have X:=Akl A hq yl sl
  have G:q*y[l]<18446744073709551616:=by omega
  generalize z:p+(q*y[l]+S[f+l])=s at *
  have M:=nv (v:=s%4294967296) hi
  have key:val (S.set (f+l) (s%4294967296))+4294967296 ^ (f+(l+1))*(s/4294967296)=v+4294967296 ^ f*(q*val (y.take (l+1))):=by
   rw[C2 t,<-Avj f l 1,Au7]
   have e:=WG (4294967296 ^ (f+l)) s
   have e2:4294967296 ^ (f+l)*s=4294967296 ^ (f+l)*p+(4294967296 ^ (f+l)*(q*y[l])+4294967296 ^ (f+l)*S[f+l]):=by rw[<-z,Avt,Avt]
   have e3:4294967296 ^ f*(q*(val (y.take l)+4294967296 ^ l*y[l]))=4294967296 ^ f*(q*val (y.take l))+4294967296 ^ (f+l)*(q*y[l]):=by
    rw[Avt,Avt,Aw5]
    congr 1
    rw[Avu];congr 1
    rw[<-Avu,<-Avu,Av6 q]
   omega
  obtain⟨S',Y,q2,q3,q4⟩:=Akm (N:=N) (x:=x) (c:=c) (d:=d) (J:=J) I hq T hs m (l+1) fuel (S.set (f+l) (s%4294967296)) (s/4294967296) v (by omega) (by omega) (O5 hS (by omega) _) (by simpa using n) (fun j hj hk=>by
   rw[List.getElem_set,if_neg (by omega)];exact C j (by simpa using hj) hk) (by omega) key
  refine⟨S',Y,q2,q3,fun u K=>?_⟩
  rw[Xl];unfold OP
  rw[Ig t,ct,Ab t,ct,wV t,wA (by omega),Ab (by omega),ct,jM hi,ct,Aee hi,ct,JX (show q<18446744073709551616 by omega),JX (show y[l]<18446744073709551616 by omega),JX (show S[f+l]<18446744073709551616 by omega),Aou,JX G,vw,JX (by omega),vw,z,JX X,Ab5,yn,qH,wS (by omega)]
  exact q4 u K
def xR{N:Nat}{x y:List Nat}{c d:Bool}(hx:Ax x)(z:Ax y)(n:fit (x.length+y.length) N):∀(m f fuel:Nat)(S:List Nat),f+m=x.length->m<fuel->Ax S->S.length=x.length+y.length ->
  val S=val (x.take f)*val y ->
  ∃ S',Ax S'/\val S'=val x*val y/\∀ K:Nat->LA->O R,Ru N K (Au y) y.length d (Au x) x.length c fuel (x.length+y.length) (x.length:Int) (f:Int) (Au S)=K (Bb (val x*val y)).length (Au S')
|0,f,fuel+1,S,M,_,hS,s,v=>by
  have A:f=x.length:=by omega
  subst A
  rw[Avl]at v
  refine⟨S,hS,v,fun K=>?_⟩
  rw[Ru];unfold FH
  rw[Jr (Aui _),cf,qJ s.symm hS (by rw[s];exact n),v]
| m+1,f,fuel+1,S,M,T,hS,s,v=>by
  have h1:=n.1;have h2:=n.2
  have l:f<x.length:=by omega
  have xf:=Jw hx l
  have I:=Nl (Nk hx f)
  rw[Avd,Avo (by omega)]at I
  have U:=Nl z
  have u:val S<4294967296 ^ (f+y.length):=by
   rw[v,Aw5];exact Ayk I U
  have t:val (x.take (f+1))*val y=val S+4294967296 ^ f*(x[f]*val y):=by
   rw[C2 l,Av5,v,Avu]
  by_cases C:x[f]=0
  ·obtain⟨S',D,F,G⟩:=xR (c:=c) (d:=d) hx z n m (f+1) fuel S (by omega) (by omega) hS s (by rw[t,C];simp)
   refine⟨S',D,F,fun K=>?_⟩
   rw[Ru];unfold FH
   rw[Ig l,ct,Ab l,ct,wV l,show(((x[f]:Nat):Int)==0)=true by simp[C],ct,wS (by omega)]
   exact G K
  ·obtain⟨S1,V,X,Y,p4⟩:=Akm (R:=R) (N:=N) (x:=x) (y:=y) (c:=c) (d:=d) (f:=f) (q:=x[f]) (J:=x.length) z xf l (by omega) y.length 0 N S 0 (val S) (by omega) (by omega) hS s (Apa u) (by omega) (by simp[val])
   obtain⟨S',D,F,G⟩:=xR (c:=c) (d:=d) hx z n m (f+1) fuel S1 (by omega) (by omega) V X (by rw[Y,t])
   refine⟨S',D,F,fun K=>?_⟩
   rw[Ru];unfold FH
   rw[Ig l,ct,Ab l,ct,wV l,show(((x[f]:Nat):Int)==0)=false by simp;exact C,cf]
   have:=p4 (Ru N K (Au y) y.length d (Au x) x.length c fuel) K
   simp only[Aws]at this
   dsimp only
   rw[this]
   exact G K
def Akn{N:Nat}{a b:List Nat}{n m:Nat}{t o t' o':Bool}(hn:n=a.length)(z:m=b.length)(s:Ax a)(u:Ax b)(f:fit (a.length+b.length) N):
  ∃ S',Ax S'/\val S'=val a*val b/\∀ K:Nat->LA->O R,qA N (Au a) n t o (Au b) m t' o' K=K (Bb (val a*val b)).length (Au S'):=by
 subst hn z
 have D:=f.1;have F:=f.2
 have la:=(Hi s).2
 have lb:=(Hi u).2
 by_cases l:val a=0
 ·refine⟨[],LR,by rw[l];simp[val],fun K=>?_⟩
  rw[OQ];unfold XT
  dsimp only
  rw[D7 rfl s (f.le (by omega)),D7 rfl u (f.le (by omega)),l,Aw6,Gd];rfl
 ·by_cases q:val b=0
  ·refine⟨[],LR,by rw[q];simp[val],fun K=>?_⟩
   rw[OQ];unfold XT
   dsimp only
   rw[D7 rfl s (f.le (by omega)),D7 rfl u (f.le (by omega)),q,Nat.mul_zero,Gd]
   cases ((((Bb (val a)).length:Nat):Int)==0)<;>rfl
  ·obtain⟨S',A,v,C⟩:=xR (R:=R) (N:=N) (x:=Bb (val a)) (y:=Bb (val b)) (c:=o) (d:=o') (A2 _) (A2 _) (f.le (by omega)) (Bb (val a)).length 0 N (replicate ((Bb (val a)).length+(Bb (val b)).length) 0) (by omega) (by omega) (Jx _) (by simp) (by rw[Le];simp[val])
   rw[A5,A5]at v
   refine⟨S',A,v,fun K=>?_⟩
   rw[OQ];unfold XT
   dsimp only
   have n1:(Bb (val a)).length≠0:=fun h=>l (Er.1 h)
   have n2:(Bb (val b)).length≠0:=fun h=>q (Er.1 h)
   rw[D7 rfl s (f.le (by omega)),D7 rfl u (f.le (by omega)),Ahf n1,show((false:Bool)==false)=true by rfl,ct,Atq,Ahf n2,cf]
   unfold XS dB
   rw[wA (by omega),Aox (by omega),ct,Auf,Mr]
   have:=C K
   rw[A5,A5]at this
   exact this
def Ae6{v:Nat}(h:(Bb v).length<=2):v<18446744073709551616:=by
 have:=Nl (A2 v)
 rw[A5]at this
 have d:4294967296 ^ (Bb v).length<=4294967296 ^ 2:=Avb (by omega) h
 omega
def YF{v:Nat}(h:v<18446744073709551616):(Bb v).length<=2:=FB (by simpa using h)
def Ahg{N:Nat}{l:List Nat}{n:Nat}{t o:Bool}{K:Int->O R}(hn:n=l.length)(d:Ax l)(f:l.length<=2)(hN:4<=N):gA N (Au l) n t o K=K (val l:Int):=by
 subst hn
 obtain⟨M,rfl⟩:∃ M,N=M+4:=⟨N - 4,by omega⟩
 rw[lP];unfold fy
 match l,d,f with
|[],_,_ =>
  rw[Ls];unfold M4
  simp[val]
|[x],d,_ =>
  have hx:=(Ft.1 d).1
  rw[Ls];unfold M4
  simp only[Aub,Aud,Int.toNat_zero,Aw6,Au0,XO,Cx]
  rw[show decide ((0:Int)<((0+1:Nat):Int))=true by decide,ct,show Ai 0 (0+1)=true by decide,ct,show wrap .i64 ((32:Int)*0)=0 by decide,show decide ((0:Int)<0)=false by decide,cf]
  rw[Ls];unfold M4
  rw[show wrap .i64 ((0:Int)+1)=1 by decide,show decide ((1:Int)<((0+1:Nat):Int))=false by decide,cf]
  have e:wrap .u64 ((wrap .u64 (x:Int))*2 ^ (min (Int.toNat 0) 64))=(x:Int):=by rw[JX (by omega)];simp;exact JX (by omega)
  rw[e,show(0:Int)=((0:Nat):Int) by rfl,Amo (by omega) (by omega)]
  simp[val]
| [x,y],d,_ =>
  have hx:=(Ft.1 d).1
  have s:=(Ft.1 (Ft.1 d).2).1
  rw[Ls];unfold M4
  simp only[Aub,Aud,Int.toNat_zero,Aw6,Au0,XO,Cx]
  rw[show decide ((0:Int)<((0+1+1:Nat):Int))=true by decide,ct,show Ai 0 (0+1+1)=true by decide,ct,show wrap .i64 ((32:Int)*0)=0 by decide,show decide ((0:Int)<0)=false by decide,cf]
  rw[Ls];unfold M4
  rw[show wrap .i64 ((0:Int)+1)=1 by decide,show decide ((1:Int)<((0+1+1:Nat):Int))=true by decide,ct,show Ai 1 (0+1+1)=true by decide,ct,show wrap .i64 ((32:Int)*1)=32 by decide,show decide ((32:Int)<0)=false by decide]
  simp only[show Int.toNat 1*1=1 by rfl,Avm,Au0,Cx,cf]
  rw[Ls];unfold M4
  rw[show wrap .i64 ((1:Int)+1)=2 by decide,show decide ((2:Int)<((0+1+1:Nat):Int))=false by decide,cf]
  have e:wrap .u64 ((wrap .u64 (x:Int))*2 ^ (min (Int.toNat 0) 64))=(x:Int):=by rw[JX (by omega)];simp;exact JX (by omega)
  have q:wrap .u64 ((wrap .u64 (y:Int))*2 ^ (min (Int.toNat 32) 64))=((y*2 ^ 32:Nat):Int):=by
   rw[JX (by omega),show(2:Int) ^ (min (Int.toNat 32) 64)=((2 ^ 32:Nat):Int) by rfl,Aou,JX (by omega)]
  rw[e,q,show(0:Int)=((0:Nat):Int) by rfl,Amo (by omega) (by omega),Amo (by simp;omega) (by omega),Nat.zero_or,Nat.or_comm,Ab6 (by omega)]
  congr 1;simp only[val];omega
def dY{N:Nat}{v:Nat}(n:v<18446744073709551616)(hN:4<=N):∃ S,Ax S/\val S=v/\∀ K:Nat->LA->O R,Lj N (v:Int) K=K (Bb v).length (Au S):=by
 have f:Ax [v%4294967296,v/4294967296]:=Ft.2 ⟨by omega,Ft.2 ⟨by omega,LR⟩⟩
 have d:val [v%4294967296,v/4294967296]=v:=by simp[val];omega
 refine⟨_,f,d,fun K=>?_⟩
 rw[H_];unfold FG
 rw[yn,Ab5,Aoa (show v/4294967296<4294967296 by omega)]
 have:=qI (R:=R) (N:=N) (l:=[v%4294967296,v/4294967296]) (K:=fun c=>K c (Au [v%4294967296,v/4294967296])) f (by simp) 2 N (by simp) (by omega)
 rw[show [v%4294967296,v/4294967296].take 2=[v%4294967296,v/4294967296] by rfl,d]at this
 rw[c_];unfold f5
 exact this
def mI{N:Nat}{l:List Nat}{n:Nat}{t o:Bool}{K:Int->Bool->O R}(hn:n=l.length)(f:Ax l)(d:fit l.length N):MG N (Au l) n t o K=if val l<18446744073709551616 then K (val l:Int) true else K 0 false:=by
 have s:=d.1
 rw[bD];unfold dP
 rw[D7 hn f d]
 by_cases h:val l<18446744073709551616
 ·have:=YF h
  rw[if_pos h,show decide ((((Bb (val l)).length:Nat):Int)>2)=false by simp;omega,cf,Ahg rfl (A2 _) this (by omega),A5]
 ·have:¬ (Bb (val l)).length<=2:=fun q=>h (Ae6 q)
  rw[if_neg h,show decide ((((Bb (val l)).length:Nat):Int)>2)=true by simp;omega,ct]
def Ahh{N:Nat}{l:List Nat}{n:Nat}{t o:Bool}{K:Nat->LA->O R}(hn:n=l.length)(f:Ax l)(d:fit l.length N):np N (Au l) n t o K=K (Bb (val l)).length (Au (Bb (val l))):=by
 have q:=d.1;have s:=d.2
 have:=(Hi f).2
 rw[lG];unfold qC
 rw[D7 hn f d,Aox (by omega),ct,HV,Aw2,ct]
 congr 1
 unfold Ga
 rw[Nat.min_self,Auz,Awp,Au3,Aue (by rw[Fc];exact Aui _),Av8 (by simp[Fc]),Auk]
def uZ{X:List Nat}{n:Nat}(h:X.length=n+1):val X=val (X.take n)+4294967296 ^ n*X[n]:=by
 have:=C2 (l:=X) (c:=n) (by omega)
 rwa [Aue (by omega)]at this
def zq(a b:Nat):Int.tdiv (a:Int) (b:Int)=((a/b:Nat):Int):=rfl
def zr(a b:Nat):Int.tmod (a:Int) (b:Int)=((a%b:Nat):Int):=rfl
def Asu{a b:Nat}(d:a<4294967296)(f:b<4294967296):kj .u64 (wrap .u64 ((a:Int)*2 ^ 32)) (b:Int)=((a*4294967296+b:Nat):Int):=by rw[show(2:Int) ^ 32=((2 ^ 32:Nat):Int) by rfl,Aou,JX (by omega),Amo (by omega) (by omega),Ab6 (by omega)]
def Ako{l:List Nat}{d:Nat}(h:d<l.length):val (l.drop d)=l[d]+4294967296*val (l.drop (d+1)):=by rw[Au6 h,val]
def Adh{S:List Nat}{n:Nat}(hS:Ax S)(h:S.length=n+1):val S<(S[n]+1)*4294967296 ^ n:=by
 have f:=uZ h
 have d:=Nl (Nk hS n)
 rw[Avd,Avo (by omega)]at d
 rw[Av5,Av6 S[n]];omega
def Akp{x y:Nat}(f:1<=y)(h:y<=x):2*(y*(x%y))<=x*y:=by
 have l:=Awz x y
 have n:=Aw0 x (show 0<y by omega)
 have hq:1<=x/y:=by rw[Nat.le_div_iff_mul_le (by omega)];omega
 have q:y*1<=y*(x/y):=Aw1 _ hq
 have d:2*(x%y)<=x:=by omega
 have:=Aw1 y d
 rw[Av6 x y,Ax8];exact this
def jm{a:List Nat}(d:Ax a)(i:Nat):a.getD i 0<4294967296:=by
 by_cases h:i<a.length
 ·rw[Auo,Aug h];exact Jw d h
 ·rw[Auo,Av4 (by omega)];simp
def Aqm{c:Nat}(h:c<=1000000000000):((ble (0+c) 140737488355328)&&(ble ((0+c)*4) 140737488355328))=true:=by simp;omega
def dZ{N:Nat}{l:List Nat}{t o:Bool}{K:Nat->LA->O R}(f:Ax l)(hs:l.length<=1000000000000):∀(c fuel:Nat),c<=l.length->c<fuel ->
  Qs N K (Au l) l.length t o fuel (c:Int)=K (Bb (val (l.take c))).length (Au (Bb (val (l.take c))))
|0,fuel+1,n,_=>by
  rw[Qs];unfold CZ
  rw[show decide (((0:Nat):Int)>0)=false by simp]
  rw[show((false:Bool)==true)=false by rfl,cf,Ap5 (by omega),ct,Auf,Auz,XP,HV,Aw2,ct,Aqm (by omega),ct];rfl
| c+1,fuel+1,n,q=>by
  rw[Qs];unfold CZ
  rw[Aow,ct,wP (by omega),Ab (by omega),ct,wV (by omega),Aov,Ap5 (by omega),ct,dZ f hs c fuel (by omega) (by omega),Auf,Auz,XP,HV,Aw2,ct,Aqm (by omega),ct,Aux]
  by_cases d:l[c]=0
  ·rw[C2 (by omega),d];simp
  ·rw[wW f (by omega) d,Avd,Avo n]
   rw[Ahf d,cf]
def Gu{N:Nat}{l:List Nat}{n:Nat}{t o:Bool}{K:Nat->LA->O R}(hn:n=l.length)(f:Ax l)(d:fit l.length N):Ha N (Au l) n t o K=K (Bb (val l)).length (Au (Bb (val l))):=by
 subst hn
 have q:=d.1;have s:=d.2
 rw[OJ];unfold LU
 rw[dZ f (by omega) l.length N (Aui _) (by omega),Avl]
def JH{N:Nat}{v:Nat}{K:Nat->LA->O R}(n:v<18446744073709551616)(hN:4<=N):I0 N (v:Int) K=K (Bb v).length (Au (Bb v)):=by
 have f:Ax [v%4294967296,v/4294967296]:=Ft.2 ⟨by omega,Ft.2 ⟨by omega,LR⟩⟩
 have d:val [v%4294967296,v/4294967296]=v:=by simp[val];omega
 rw[FC];unfold BC
 rw[yn,Ab5,Aoa (show v/4294967296<4294967296 by omega)]
 have:=dZ (R:=R) (N:=N) (l:=[v%4294967296,v/4294967296]) (t:=false) (o:=true) (K:=K) f (by simp) 2 N (by simp) (by omega)
 rw[show [v%4294967296,v/4294967296].take 2=[v%4294967296,v/4294967296] by rfl,d]at this
 rw[OJ];unfold LU
 exact this
def DL{N:Nat}{l:List Nat}{n:Nat}{t o:Bool}{K:Int->Bool->O R}(hn:n=l.length)(z:Ax l)(u:fit l.length N):Nm N (Au l) n t o K=if val l<18446744073709551616 then K (val l:Int) true else K 0 false:=by
 have D:=u.1
 rw[UB];unfold HW
 rw[Gu hn z u]
 by_cases h:val l<18446744073709551616
 ·have A:=YF h
  rw[if_pos h,show decide ((((Bb (val l)).length:Nat):Int)>2)=false by simp;omega,cf]
  have f:=A5 (val l)
  have s:=A2 (val l)
  obtain⟨M,hM⟩:∃ M,N=M+4:=⟨N - 4,by omega⟩
  rw[hM]
  generalize Bb (val l)=d at *
  match d,A,f,s with
  |[],_,f,_ =>
   dsimp only
   rw[Fp];unfold Hb
   rw[<-f,i64 (by simp)];rfl
  |[x],_,f,s =>
   have hx:=(Ft.1 s).1
   have q:val l=x:=by rw[<-f];simp[val]
   dsimp only
   rw[Fp];unfold Hb
   rw[i64 (by simp),show((([x]:List Nat).length:Nat):Int) - 1=((0:Nat):Int) by rfl,show decide (((0:Nat):Int)>=0)=true by rfl,ct,Ab (by simp),ct,jM (by simp)]
   rw[Fp];unfold Hb
   rw[i64 (by simp),show decide ((((0:Nat):Int) - 1)>=0)=false by rfl,cf]
   have:=Asu (a:=0) (b:=x) (by omega) hx
   simp only[Aym]
   rw[JX (show x<18446744073709551616 by omega),show(0:Int)=((0:Nat):Int) by rfl,this,q];simp
  |[x,y],_,f,s =>
   have hx:=(Ft.1 s).1
   have v:=(Ft.1 (Ft.1 s).2).1
   have q:val l=y*4294967296+x:=by rw[<-f];simp[val];omega
   dsimp only
   rw[Fp];unfold Hb
   rw[i64 (by simp),show((([x,y]:List Nat).length:Nat):Int) - 1=((1:Nat):Int) by rfl,show decide (((1:Nat):Int)>=0)=true by rfl,ct,Ab (by simp),ct,jM (by simp)]
   rw[Fp];unfold Hb
   rw[i64 (by simp),show(((1:Nat):Int) - 1)=((0:Nat):Int) by rfl,show decide (((0:Nat):Int)>=0)=true by rfl,ct,Ab (by simp),ct,jM (by simp)]
   rw[Fp];unfold Hb
   rw[i64 (by simp),show decide ((((0:Nat):Int) - 1)>=0)=false by rfl,cf]
   have o1:=Asu (a:=0) (b:=y) (by omega) v
   have o2:=Asu (a:=y) (b:=x) v hx
   simp only[Aym,Axm]
   rw[JX (show y<18446744073709551616 by omega),JX (show x<18446744073709551616 by omega),show(0:Int)=((0:Nat):Int) by rfl,o1,Aw6,Aux,o2,q]
 ·have:¬ (Bb (val l)).length<=2:=fun C=>h (Ae6 C)
  rw[if_neg h,show decide ((((Bb (val l)).length:Nat):Int)>2)=true by simp;omega,ct]
def u3{N:Nat}{x y:List Nat}{K:Int->O R}(hx:Ax x)(l:Ax y)(hs:x.length<=1000000000000)(n:x.length=y.length):∀(i fuel:Nat),i<=x.length->i<fuel ->
  I3 N K x.length y.length (Au x) (Au y) fuel ((i:Int) - 1)=K (U3 (val (x.take i)) (val (y.take i)))
|0,fuel+1,_,_=>by
  rw[I3];unfold Tp
  rw[show decide ((((0:Nat):Int) - 1)>=0)=false by simp,cf]
  simp[MS]
| i+1,fuel+1,hi,q=>by
  rw[I3];unfold Tp
  rw[show(((i+1:Nat):Int) - 1)=(i:Int) by omega,show decide ((i:Int)>=0)=true by simp,ct,Ab (by omega),ct,jM (by omega),Ab (by omega),ct,jM (by omega),ct,jM (by omega),ct,jM (by omega),i64 (by omega),
   u3 hx l hs n i fuel (by omega) (by omega),C2 (by omega),C2 (by omega)]
  have d:=Nl (Nk hx i)
  have f:=Nl (Nk l i)
  rw[Avd,Avo (by omega)]at d f
  by_cases c1:x[i]<y[i]
  ·have:=nr d f c1
   rw[show decide (((x[i]:Nat):Int)<((y[i]:Nat):Int))=true by simp;exact c1,ct]
   unfold U3;rw[if_pos this]
  ·by_cases c2:y[i]<x[i]
   ·have:=nr f d c2
    rw[show decide (((x[i]:Nat):Int)<((y[i]:Nat):Int))=false by simp;omega,cf,show decide (((x[i]:Nat):Int)>((y[i]:Nat):Int))=true by simp;exact c2,ct]
    unfold U3;rw[if_neg (by omega),if_pos this]
   ·have:x[i]=y[i]:=by omega
    rw[show decide (((x[i]:Nat):Int)<((y[i]:Nat):Int))=false by simp;omega,cf,show decide (((x[i]:Nat):Int)>((y[i]:Nat):Int))=false by simp;omega,cf,this]
    unfold U3
    congr 1
    by_cases a1:val (x.take i)<val (y.take i)
    ·rw[if_pos a1,if_pos (by omega)]
    ·by_cases a2:val (y.take i)<val (x.take i)
     ·rw[if_neg a1,if_pos a2,if_neg (by omega),if_pos (by omega)]
     ·rw[if_neg a1,if_neg a2,if_neg (by omega),if_neg (by omega)]
def Ahi{N:Nat}{a b:List Nat}{n m:Nat}{t o t' o':Bool}{K:Int->O R}(hn:n=a.length)(u:m=b.length)(f:Ax a)(l:Ax b)(d:fit (a.length+b.length) N):
  Zu N (Au a) n t o (Au b) m t' o' K=K (U3 (val a) (val b)):=by
 subst hn u
 have v:=d.1;have x:=d.2
 rw[RL];unfold C_
 dsimp only
 rw[Gu rfl f (d.le (by omega)),Gu rfl l (d.le (by omega))]
 have la:=(Hi f).2
 have lb:=(Hi l).2
 by_cases q:(Bb (val a)).length=(Bb (val b)).length
 ·rw[show((((Bb (val a)).length:Nat):Int) != (((Bb (val b)).length:Nat):Int))=false by simp;omega,cf,i64 (by omega),u3 (A2 _) (A2 _) (by omega) q _ N (Aui _) (by omega),Avl,q,Avl,A5,A5]
 ·rw[show((((Bb (val a)).length:Nat):Int) != (((Bb (val b)).length:Nat):Int))=true by simp;omega,ct]
  by_cases s:(Bb (val a)).length<(Bb (val b)).length
  ·have:=QJ s
   rw[Ig s,ct]
   unfold U3;rw[if_pos this]
  ·have:=QJ (show(Bb (val b)).length<(Bb (val a)).length by omega)
   rw[Jr (by omega),cf]
   unfold U3;rw[if_neg (by omega),if_pos this]
def Aqn(a b:Nat):mO (a:Int) (b:Int)=((max a b:Nat):Int):=by
 unfold mO
 by_cases h:(b:Int)>(a:Int)
 ·rw[decide_eq_true h];show(b:Int)=_;omega
 ·rw[decide_eq_false h];show(a:Int)=_;omega
def u4{N:Nat}{a b:List Nat}{t o t' o':Bool}{n:Nat}(x:Ax a)(y:Ax b)(z:a.length<n)(A:b.length<n)(hn:n<=max a.length b.length+1)(u:fit n N):∀(m d fuel:Nat)(S:List Nat)(c:Nat),d+m=n->m<fuel->Ax S->S.length=n->Al9 S d->c<=1 ->
  val S+4294967296 ^ d*c=val (a.take d)+val (b.take d) ->
  ∀ K:Nat->LA->O R,Lg N K (Au a) a.length t o (Au b) b.length t' o' fuel n (c:Int) (d:Int) (Au S)=K (Bb (val a+val b)).length (Au (Bb (val a+val b)))
| 0,d,fuel+1,S,c,U,_,hS,v,C,V,D=>by
  intro K
  have F:d=n:=by omega
  subst F
  rw[Aue (by omega),Aue (by omega)]at D
  have G:c=0:=by
   rcases Avv c with h|h
   ·exact h
   ·exfalso
    have I:c=1:=by omega
    subst I
    obtain⟨e,rfl⟩:∃ e,d=e+1:=⟨d - 1,by omega⟩
    have x1:=Nl x
    have x2:=Nl y
    have y1:4294967296 ^ a.length<=4294967296 ^ e:=Avb (by omega) (by omega)
    have y2:4294967296 ^ b.length<=4294967296 ^ e:=Avb (by omega) (by omega)
    rw[Au7]at D
    omega
  subst G
  have M:val S=val a+val b:=by omega
  rw[Lg];unfold HX
  rw[Jr (Aui _),cf,Auz,Aue (by rw[Fc];omega),Gu v.symm hS (by rw[v];exact u),M]
| m+1,d,fuel+1,S,c,U,X,hS,v,C,V,D=>by
  intro K
  have Y:=u.1;have h2:=u.2
  have ga:=jm x d
  have gb:=jm y d
  have step:∀ s:Nat,s=c+a.getD d 0+b.getD d 0->val (S.set d (s%4294967296))+4294967296 ^ (d+1)*(s/4294967296)=val (a.take (d+1))+val (b.take (d+1)):=by
   intro s hs
   rw[YE C (by omega),MT a d,MT b d,Au7]
   have e:=WG (4294967296 ^ d) s
   have e2:4294967296 ^ d*s=4294967296 ^ d*c+4294967296 ^ d*a.getD d 0+4294967296 ^ d*b.getD d 0:=by rw[hs,Avt,Avt]
   omega
  have next:∀ s:Nat,s=c+a.getD d 0+b.getD d 0->Lg N K (Au a) a.length t o (Au b) b.length t' o' fuel n ((s/4294967296:Nat):Int) ((d+1:Nat):Int) (Au (S.set d (s%4294967296)))=K (Bb (val a+val b)).length (Au (Bb (val a+val b))):=by
   intro s hs
   exact u4 x y z A hn u m (d+1) fuel (S.set d (s%4294967296)) (s/4294967296) (by omega) (by omega) (O5 hS (by omega) d) (by simpa using v) (YD C) (by omega) (step s hs) K
  have second:∀ w:Nat,w=c+a.getD d 0->FD N (Lg N K (Au a) a.length t o (Au b) b.length t' o' fuel) K (Au a) a.length t o (Au b) b.length t' o' n (Au S) (w:Int) (d:Int)=K (Bb (val a+val b)).length (Au (Bb (val a+val b))):=by
   intro w T
   unfold FD
   by_cases f:d<b.length
   ·have q:b.getD d 0=b[d]:=by rw[Auo,Aug f];rfl
    rw[Ig f,ct,Ab f,ct,wV f,Ab (by omega),ct,Aee (by omega),ct,JX (show b[d]<18446744073709551616 by omega),vw,JX (show w+b[d]<18446744073709551616 by omega),Ab5,yn,qH,wS (by omega)]
    exact next _ (by rw[T,q])
   ·have q:b.getD d 0=0:=by rw[Auo,Av4 (by omega)];rfl
    rw[Jr (by omega),cf,Ab (by omega),ct,Aee (by omega),ct,Ab5,yn,qH,wS (by omega)]
    exact next _ (by rw[T,q];rfl)
  rw[Lg];unfold HX
  rw[Ig (by omega),ct]
  by_cases l:d<a.length
  ·have q:a.getD d 0=a[d]:=by rw[Auo,Aug l];rfl
   rw[Ig l,ct,Ab l,ct,wV l,JX (show a[d]<18446744073709551616 by omega),vw,JX (show c+a[d]<18446744073709551616 by omega)]
   exact second _ (by rw[q])
  ·have q:a.getD d 0=0:=by rw[Auo,Av4 (by omega)];rfl
   rw[Jr (by omega),cf]
   exact second _ (by rw[q];rfl)
def u5{N:Nat}{a b:List Nat}{n m:Nat}{t o t' o':Bool}{K:Nat->LA->O R}(hn:n=a.length)(f:m=b.length)(l:Ax a)(q:Ax b)(d:fit (a.length+b.length+1) N):
  XQ N (Au a) n t o (Au b) m t' o' K=K (Bb (val a+val b)).length (Au (Bb (val a+val b))):=by
 subst hn f
 have s:=d.1;have u:=d.2
 rw[lD];unfold fV
 rw[Aqn,wS (by omega),Aox (by omega),ct,Auf,Mr]
 exact u4 l q (n:=max a.length b.length+1) (by omega) (by omega) (Aui _) (d.le (by omega)) (max a.length b.length+1) 0 N (replicate (max a.length b.length+1) 0) 0 (by omega) (by omega) (Jx _) (by simp) (Zf _) (by omega) (by rw[Le];simp[val]) K
def u6{N:Nat}{a b:List Nat}(I:Ax a)(M:Ax b)(x:fit a.length N)(u:b.length<=a.length)(z:val b<=val a):∀(m d fuel:Nat)(S:List Nat)(c:Nat),d+m=a.length->m<fuel->Ax S->S.length=a.length->Al9 S d->c<=1 ->
  val S+val (b.take d)=val (a.take d)+4294967296 ^ d*c ->
  ∀ K:Nat->Bool->LA->O R,Lh N K a.length b.length (Au a) (Au b) fuel (c:Int) (d:Int) (Au S)=K (Bb (val a - val b)).length true (Au (Bb (val a - val b)))
| 0,d,fuel+1,S,c,U,_,hS,v,A,V,T=>by
  intro K
  have C:d=a.length:=by omega
  subst C
  rw[Avl,Aue u]at T
  have q:=Nl hS
  rw[v]at q
  have D:c=0:=by
   rcases Ax0 0 c with h|h
   ·exfalso
    have:c=1:=by omega
    subst this
    omega
   ·omega
  subst D
  have F:val S=val a - val b:=by omega
  rw[Lh];unfold HY
  rw[Jr (Aui _),cf,Auz,Aue (by rw[Fc];omega),Gu v.symm hS (by rw[v];exact x),F]
| m+1,d,fuel+1,S,c,U,X,hS,v,A,V,T=>by
  intro K
  have h1:=x.1;have h2:=x.2
  have f:d<a.length:=by omega
  have ad:=Jw I f
  have gb:=jm M d
  have step:∀ y g l:Nat,y=c+b.getD d 0->a[d]+4294967296*l=g+y->val (S.set d g)+val (b.take (d+1))=val (a.take (d+1))+4294967296 ^ (d+1)*l:=by
   intro y g l t s
   rw[YE A (by omega),C2 f,MT b d,Au7,Avu]
   have e:4294967296 ^ d*(a[d]+4294967296*l)=4294967296 ^ d*(g+(c+b.getD d 0)):=by rw[s,t]
   rw[Avt,Avt,Avt]at e
   omega
  have next:∀ y g l:Nat,g<4294967296->l<=1->y=c+b.getD d 0->a[d]+4294967296*l=g+y->Lh N K a.length b.length (Au a) (Au b) fuel (l:Int) ((d+1:Nat):Int) (Au (S.set d g))=K (Bb (val a - val b)).length true (Au (Bb (val a - val b))):=by
   intro y g l s G t Y
   exact u6 I M x u z m (d+1) fuel (S.set d g) l (by omega) (by omega) (O5 hS s d) (by simpa using v) (YD A) G (step y g l t Y) K
  have second:∀ y:Nat,y=c+b.getD d 0->FE N (Lh N K a.length b.length (Au a) (Au b) fuel) K a.length b.length (Au a) (Au b) (Au S) (d:Int) (y:Int)=K (Bb (val a - val b)).length true (Au (Bb (val a - val b))):=by
   intro y t
   unfold FE
   rw[Ab f,ct,jM f,JX (show a[d]<18446744073709551616 by omega)]
   by_cases q:a[d]<y
   ·rw[Ig q,ct,ct,Aee (by omega),ct,show((a[d]:Nat):Int)+4294967296=((a[d]+4294967296:Nat):Int) by omega,JX (show a[d]+4294967296<18446744073709551616 by omega),vz (by omega) (by omega),Aoa (by omega),qH,wS (by omega)]
    exact next y (a[d]+4294967296 - y) 1 (by omega) (by omega) t (by omega)
   ·rw[Jr (by omega),cf,ct,Aee (by omega),ct,vz (by omega) (by omega),Aoa (by omega),qH,wS (by omega)]
    exact next y (a[d] - y) 0 (by omega) (by omega) t (by omega)
  rw[Lh];unfold HY
  rw[Ig f,ct]
  by_cases n:d<b.length
  ·have s:b.getD d 0=b[d]:=by rw[Auo,Aug n];rfl
   rw[Ig n,ct,Ab n,ct,jM n,JX (show b[d]<18446744073709551616 by omega),vw,JX (show c+b[d]<18446744073709551616 by omega)]
   exact second _ (by rw[s])
  ·have s:b.getD d 0=0:=by rw[Auo,Av4 (by omega)];rfl
   rw[Jr (by omega),cf]
   exact second _ (by rw[s];rfl)
def Ahj{N:Nat}{a b:List Nat}{n m:Nat}{t o t' o':Bool}{K:Nat->Bool->LA->O R}(hn:n=a.length)(u:m=b.length)(l:Ax a)(q:Ax b)(f:fit (a.length+b.length) N):
  fY N (Au a) n t o (Au b) m t' o' K=if val b<=val a then K (Bb (val a - val b)).length true (Au (Bb (val a - val b)))else K 0 false []:=by
 subst hn u
 have v:=f.1;have x:=f.2
 have la:=(Hi l).2
 have lb:=(Hi q).2
 rw[lF];unfold fX
 dsimp only
 rw[Ahi rfl rfl l q f]
 by_cases d:val b<=val a
 ·have s:=Lf d
  rw[if_pos d,show decide (U3 (val a) (val b)<0)=false by(unfold U3;rw[if_neg (by omega)];split<;>rfl),cf,Gu rfl l (f.le (by omega)),Gu rfl q (f.le (by omega)),Aox (by omega),ct,Mr]
  have:=u6 (R:=R) (N:=N) (a:=Bb (val a)) (b:=Bb (val b)) (A2 _) (A2 _) (f.le (by omega)) s (by rw[A5,A5];exact d) (Bb (val a)).length 0 N (replicate (Bb (val a)).length 0) 0 (by omega) (by omega) (Jx _) (by simp) (Zf _) (by omega) (by rw[Le];simp[val]) K
  rw[A5,A5]at this
  exact this
 ·rw[if_neg d,show decide (U3 (val a) (val b)<0)=true by(unfold U3;rw[if_pos (by omega)];rfl),ct]
end
end Gx
