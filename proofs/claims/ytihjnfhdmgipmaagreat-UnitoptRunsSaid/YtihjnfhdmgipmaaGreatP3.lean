/- A part of the proof; each theorem says what it holds. -/
import Derived.Test.YtihjnfhdmgipmaaGreatP2
set_option linter.unusedVariables false
set_option linter.defProp false
set_option linter.unusedSimpArgs false
open Nat (ble beq)
open List (take drop replicate)
open Go.IntKind (wrap)
namespace Gx
open Go Go.Proofs
set_option maxRecDepth 100000
noncomputable section
variable{R:Type}(N:Nat)
def Gp(N:Nat)(k1:Int->Int->Nat->Nat->Nat->Nat->Nat->Nat->Nat->LA->LA->LA->LA->LA->LA->LA->O R)(r0:Nat->Nat->Nat->Nat->Nat->Nat->Nat->Nat->LA->LA->LA->LA->LA->LA->LA->O R)(r1:Nat->Nat->Nat->Nat->Nat->Nat->Nat->Nat->LA->LA->LA->LA->LA->LA->LA->O R)(r2:Nat->Nat->Nat->Nat->Nat->Nat->Nat->Nat->LA->LA->LA->LA->LA->LA->LA->O R)(r3:Nat->Nat->Nat->Nat->Nat->Nat->Nat->Nat->LA->LA->LA->LA->LA->LA->LA->O R)(r4:Nat->Nat->Nat->Nat->Nat->Nat->Nat->Nat->LA->LA->LA->LA->LA->LA->LA->O R)(r5:Nat->Nat->Nat->Nat->Nat->Nat->Nat->Nat->LA->LA->LA->LA->LA->LA->LA->O R)(r6:Nat->Nat->Nat->Nat->Nat->Nat->Nat->Nat->LA->LA->LA->LA->LA->LA->LA->O R)(j:Int)(s:RB)(az ba:Int)(ap ar au av aw ax ay:Nat)(u bb bc bd be bf bg bh:LA):O R:=(cond (az==0) (cond (ble 2 u.length) (cond ((beq ((u.take 2).length) 2)&&(ble 2 2)) (cond ((ble (ap+1) 140737488355328)&&(ble ((ap+1)*48) 140737488355328)) (k1 0 (wrap .i64 (ba+1)) (ap+1) ar au av aw ax ay ((bb.take (ap*2))++((setCells [.nsl,.nsl] 0 (u.take 2)).take 2)) bc bd be bf bg bh) none) none) none) (cond (az==1) (cond (ble 2 u.length) (cond ((beq ((u.take 2).length) 2)&&(ble 2 2)) (cond ((ble (ar+1) 140737488355328)&&(ble ((ar+1)*48) 140737488355328)) (k1 1 (wrap .i64 (ba+1)) ap (ar+1) au av aw ax ay bb ((bc.take (ar*2))++((setCells [.nsl,.nsl] 0 (u.take 2)).take 2)) bd be bf bg bh) none) none) none) (cond (az==2) (cond (ble 2 u.length) (cond ((beq ((u.take 2).length) 2)&&(ble 2 2)) (cond ((ble (au+1) 140737488355328)&&(ble ((au+1)*48) 140737488355328)) (k1 2 (wrap .i64 (ba+1)) ap ar (au+1) av aw ax ay bb bc ((bd.take (au*2))++((setCells [.nsl,.nsl] 0 (u.take 2)).take 2)) be bf bg bh) none) none) none) (cond (az==3) (cond (ble 2 u.length) (cond ((beq ((u.take 2).length) 2)&&(ble 2 2)) (cond ((ble (av+1) 140737488355328)&&(ble ((av+1)*48) 140737488355328)) (k1 3 (wrap .i64 (ba+1)) ap ar au (av+1) aw ax ay bb bc bd ((be.take (av*2))++((setCells [.nsl,.nsl] 0 (u.take 2)).take 2)) bf bg bh) none) none) none) (cond (az==4) (cond (ble 2 u.length) (cond ((beq ((u.take 2).length) 2)&&(ble 2 2)) (cond ((ble (aw+1) 140737488355328)&&(ble ((aw+1)*48) 140737488355328)) (k1 4 (wrap .i64 (ba+1)) ap ar au av (aw+1) ax ay bb bc bd be ((bf.take (aw*2))++((setCells [.nsl,.nsl] 0 (u.take 2)).take 2)) bg bh) none) none) none) (cond (az==5) (cond (ble 2 u.length) (cond ((beq ((u.take 2).length) 2)&&(ble 2 2)) (cond ((ble (ax+1) 140737488355328)&&(ble ((ax+1)*48) 140737488355328)) (k1 5 (wrap .i64 (ba+1)) ap ar au av aw (ax+1) ay bb bc bd be bf ((bg.take (ax*2))++((setCells [.nsl,.nsl] 0 (u.take 2)).take 2)) bh) none) none) none) (cond (az==6) (cond (ble 2 u.length) (cond ((beq ((u.take 2).length) 2)&&(ble 2 2)) (cond ((ble (ay+1) 140737488355328)&&(ble ((ay+1)*48) 140737488355328)) (k1 6 (wrap .i64 (ba+1)) ap ar au av aw ax (ay+1) bb bc bd be bf bg ((bh.take (ay*2))++((setCells [.nsl,.nsl] 0 (u.take 2)).take 2))) none) none) none) none)))))))
def W8(r0:Nat->Nat->Nat->Nat->Nat->Nat->Nat->Nat->LA->LA->LA->LA->LA->LA->LA->O R)(r1:Nat->Nat->Nat->Nat->Nat->Nat->Nat->Nat->LA->LA->LA->LA->LA->LA->LA->O R)(r2:Nat->Nat->Nat->Nat->Nat->Nat->Nat->Nat->LA->LA->LA->LA->LA->LA->LA->O R)(r3:Nat->Nat->Nat->Nat->Nat->Nat->Nat->Nat->LA->LA->LA->LA->LA->LA->LA->O R)(r4:Nat->Nat->Nat->Nat->Nat->Nat->Nat->Nat->LA->LA->LA->LA->LA->LA->LA->O R)(r5:Nat->Nat->Nat->Nat->Nat->Nat->Nat->Nat->LA->LA->LA->LA->LA->LA->LA->O R)(r6:Nat->Nat->Nat->Nat->Nat->Nat->Nat->Nat->LA->LA->LA->LA->LA->LA->LA->O R)(j:Int)(s:RB)(k1:Int->Int->Nat->Nat->Nat->Nat->Nat->Nat->Nat->LA->LA->LA->LA->LA->LA->LA->O R)(q2:Int->Int->Nat->Nat->Nat->Nat->Nat->Nat->Nat->LA->LA->LA->LA->LA->LA->LA->LA->O R)(v a:Int)(b c d f g h i:Nat)(l m o p q r t:LA):O R:=(cond (decide (a<=j)) (cond (decide (a>v)) (cond (v==0) (cond (Ac (wrap .i64 ((wrap .i64 (a - 0)) - 1)) b) (cond (ble 2 ((l.drop (0+(((wrap .i64 ((wrap .i64 (a - 0)) - 1)).toNat)*2))).length)) (Bf N (YZ s (l.take (b*2)) b (m.take (c*2)) c (o.take (d*2)) d (p.take (f*2)) f (q.take (g*2)) g (r.take (h*2)) h (t.take (i*2)) i) true a ((l.drop (0+(((wrap .i64 ((wrap .i64 (a - 0)) - 1)).toNat)*2))).take 2) false fun bk bt=>cond (bt||false) none (cond ((beq 0 0)&&((beq bk.length 2)&&(beq 2 2))) (q2 0 a b c d f g h i bk l m o p q r t) none)) none) none) (cond (v==1) (cond (Ac (wrap .i64 ((wrap .i64 (a - 1)) - 1)) c) (cond (ble 2 ((m.drop (0+(((wrap .i64 ((wrap .i64 (a - 1)) - 1)).toNat)*2))).length)) (Bf N (YZ s (l.take (b*2)) b (m.take (c*2)) c (o.take (d*2)) d (p.take (f*2)) f (q.take (g*2)) g (r.take (h*2)) h (t.take (i*2)) i) true a ((m.drop (0+(((wrap .i64 ((wrap .i64 (a - 1)) - 1)).toNat)*2))).take 2) false fun bl bv=>cond (bv||false) none (cond ((beq 0 0)&&((beq bl.length 2)&&(beq 2 2))) (q2 1 a b c d f g h i bl l m o p q r t) none)) none) none) (cond (v==2) (cond (Ac (wrap .i64 ((wrap .i64 (a - 2)) - 1)) d) (cond (ble 2 ((o.drop (0+(((wrap .i64 ((wrap .i64 (a - 2)) - 1)).toNat)*2))).length)) (Bf N (YZ s (l.take (b*2)) b (m.take (c*2)) c (o.take (d*2)) d (p.take (f*2)) f (q.take (g*2)) g (r.take (h*2)) h (t.take (i*2)) i) true a ((o.drop (0+(((wrap .i64 ((wrap .i64 (a - 2)) - 1)).toNat)*2))).take 2) false fun bm bw=>cond (bw||false) none (cond ((beq 0 0)&&((beq bm.length 2)&&(beq 2 2))) (q2 2 a b c d f g h i bm l m o p q r t) none)) none) none) (cond (v==3) (cond (Ac (wrap .i64 ((wrap .i64 (a - 3)) - 1)) f) (cond (ble 2 ((p.drop (0+(((wrap .i64 ((wrap .i64 (a - 3)) - 1)).toNat)*2))).length)) (Bf N (YZ s (l.take (b*2)) b (m.take (c*2)) c (o.take (d*2)) d (p.take (f*2)) f (q.take (g*2)) g (r.take (h*2)) h (t.take (i*2)) i) true a ((p.drop (0+(((wrap .i64 ((wrap .i64 (a - 3)) - 1)).toNat)*2))).take 2) false fun bn bx=>cond (bx||false) none (cond ((beq 0 0)&&((beq bn.length 2)&&(beq 2 2))) (q2 3 a b c d f g h i bn l m o p q r t) none)) none) none) (cond (v==4) (cond (Ac (wrap .i64 ((wrap .i64 (a - 4)) - 1)) g) (cond (ble 2 ((q.drop (0+(((wrap .i64 ((wrap .i64 (a - 4)) - 1)).toNat)*2))).length)) (Bf N (YZ s (l.take (b*2)) b (m.take (c*2)) c (o.take (d*2)) d (p.take (f*2)) f (q.take (g*2)) g (r.take (h*2)) h (t.take (i*2)) i) true a ((q.drop (0+(((wrap .i64 ((wrap .i64 (a - 4)) - 1)).toNat)*2))).take 2) false fun bo bz=>cond (bz||false) none (cond ((beq 0 0)&&((beq bo.length 2)&&(beq 2 2))) (q2 4 a b c d f g h i bo l m o p q r t) none)) none) none) (cond (v==5) (cond (Ac (wrap .i64 ((wrap .i64 (a - 5)) - 1)) h) (cond (ble 2 ((r.drop (0+(((wrap .i64 ((wrap .i64 (a - 5)) - 1)).toNat)*2))).length)) (Bf N (YZ s (l.take (b*2)) b (m.take (c*2)) c (o.take (d*2)) d (p.take (f*2)) f (q.take (g*2)) g (r.take (h*2)) h (t.take (i*2)) i) true a ((r.drop (0+(((wrap .i64 ((wrap .i64 (a - 5)) - 1)).toNat)*2))).take 2) false fun bp ca=>cond (ca||false) none (cond ((beq 0 0)&&((beq bp.length 2)&&(beq 2 2))) (q2 5 a b c d f g h i bp l m o p q r t) none)) none) none) (cond (v==6) (cond (Ac (wrap .i64 ((wrap .i64 (a - 6)) - 1)) i) (cond (ble 2 ((t.drop (0+(((wrap .i64 ((wrap .i64 (a - 6)) - 1)).toNat)*2))).length)) (Bf N (YZ s (l.take (b*2)) b (m.take (c*2)) c (o.take (d*2)) d (p.take (f*2)) f (q.take (g*2)) g (r.take (h*2)) h (t.take (i*2)) i) true a ((t.drop (0+(((wrap .i64 ((wrap .i64 (a - 6)) - 1)).toNat)*2))).take 2) false fun bq cb=>cond (cb||false) none (cond ((beq 0 0)&&((beq bq.length 2)&&(beq 2 2))) (q2 6 a b c d f g h i bq l m o p q r t) none)) none) none) none))))))) (Di N (YZ s (l.take (b*2)) b (m.take (c*2)) c (o.take (d*2)) d (p.take (f*2)) f (q.take (g*2)) g (r.take (h*2)) h (t.take (i*2)) i) true v fun cd=>cond cd (Fl N (YZ s (l.take (b*2)) b (m.take (c*2)) c (o.take (d*2)) d (p.take (f*2)) f (q.take (g*2)) g (r.take (h*2)) h (t.take (i*2)) i) true fun ce=>Bf N (YZ s (l.take (b*2)) b (m.take (c*2)) c (o.take (d*2)) d (p.take (f*2)) f (q.take (g*2)) g (r.take (h*2)) h (t.take (i*2)) i) true a ce false fun br cf=>cond (cf||false) none (cond ((beq 0 0)&&((beq br.length 2)&&(beq 2 2))) (q2 v a b c d f g h i br l m o p q r t) none)) (Lx N (YZ s (l.take (b*2)) b (m.take (c*2)) c (o.take (d*2)) d (p.take (f*2)) f (q.take (g*2)) g (r.take (h*2)) h (t.take (i*2)) i) true a fun bs cg=>cond (cg||false) none (cond ((beq 0 0)&&((beq bs.length 2)&&(beq 2 2))) (q2 v a b c d f g h i bs l m o p q r t) none)))) (cond (v==0) (r0 b b c d f g h i l m o p q r t) (cond (v==1) (r1 c b c d f g h i m l o p q r t) (cond (v==2) (r2 d b c d f g h i o l m p q r t) (cond (v==3) (r3 f b c d f g h i p l m o q r t) (cond (v==4) (r4 g b c d f g h i q l m o p r t) (cond (v==5) (r5 h b c d f g h i r l m o p q t) (cond (v==6) (r6 i b c d f g h i t l m o p q r) none))))))))
def Ct(r0:Nat->Nat->Nat->Nat->Nat->Nat->Nat->Nat->LA->LA->LA->LA->LA->LA->LA->O R)(r1:Nat->Nat->Nat->Nat->Nat->Nat->Nat->Nat->LA->LA->LA->LA->LA->LA->LA->O R)(r2:Nat->Nat->Nat->Nat->Nat->Nat->Nat->Nat->LA->LA->LA->LA->LA->LA->LA->O R)(r3:Nat->Nat->Nat->Nat->Nat->Nat->Nat->Nat->LA->LA->LA->LA->LA->LA->LA->O R)(r4:Nat->Nat->Nat->Nat->Nat->Nat->Nat->Nat->LA->LA->LA->LA->LA->LA->LA->O R)(r5:Nat->Nat->Nat->Nat->Nat->Nat->Nat->Nat->LA->LA->LA->LA->LA->LA->LA->O R)(r6:Nat->Nat->Nat->Nat->Nat->Nat->Nat->Nat->LA->LA->LA->LA->LA->LA->LA->O R)(j:Int)(s:RB):Nat->Int->Int->Nat->Nat->Nat->Nat->Nat->Nat->Nat->LA->LA->LA->LA->LA->LA->LA->O R
|0=>fun _ _ _ _ _ _ _ _ _ _ _ _ _ _ _ _=>none
|n+1=>W8 N r0 r1 r2 r3 r4 r5 r6 j s (Ct r0 r1 r2 r3 r4 r5 r6 j s n) (Gp N (Ct r0 r1 r2 r3 r4 r5 r6 j s n) r0 r1 r2 r3 r4 r5 r6 j s)
def W9(N:Nat)(r0:Nat->Nat->Nat->Nat->Nat->Nat->Nat->Nat->LA->LA->LA->LA->LA->LA->LA->O R)(r1:Nat->Nat->Nat->Nat->Nat->Nat->Nat->Nat->LA->LA->LA->LA->LA->LA->LA->O R)(r2:Nat->Nat->Nat->Nat->Nat->Nat->Nat->Nat->LA->LA->LA->LA->LA->LA->LA->O R)(r3:Nat->Nat->Nat->Nat->Nat->Nat->Nat->Nat->LA->LA->LA->LA->LA->LA->LA->O R)(r4:Nat->Nat->Nat->Nat->Nat->Nat->Nat->Nat->LA->LA->LA->LA->LA->LA->LA->O R)(r5:Nat->Nat->Nat->Nat->Nat->Nat->Nat->Nat->LA->LA->LA->LA->LA->LA->LA->O R)(r6:Nat->Nat->Nat->Nat->Nat->Nat->Nat->Nat->LA->LA->LA->LA->LA->LA->LA->O R)(j:Int)(s:RB)(q1:Int->Int->Nat->Nat->Nat->Nat->Nat->Nat->Nat->LA->LA->LA->LA->LA->LA->LA->O R)(bi bj:Int):O R:=(q1 bi bj s.na s.nb s.nc s.nd s.ne s.nf s.ng s.ka s.kb s.kc s.kd s.ke s.kf s.kg)
def Pn(r0:Nat->Nat->Nat->Nat->Nat->Nat->Nat->Nat->LA->LA->LA->LA->LA->LA->LA->O R)(r1:Nat->Nat->Nat->Nat->Nat->Nat->Nat->Nat->LA->LA->LA->LA->LA->LA->LA->O R)(r2:Nat->Nat->Nat->Nat->Nat->Nat->Nat->Nat->LA->LA->LA->LA->LA->LA->LA->O R)(r3:Nat->Nat->Nat->Nat->Nat->Nat->Nat->Nat->LA->LA->LA->LA->LA->LA->LA->O R)(r4:Nat->Nat->Nat->Nat->Nat->Nat->Nat->Nat->LA->LA->LA->LA->LA->LA->LA->O R)(r5:Nat->Nat->Nat->Nat->Nat->Nat->Nat->Nat->LA->LA->LA->LA->LA->LA->LA->O R)(r6:Nat->Nat->Nat->Nat->Nat->Nat->Nat->Nat->LA->LA->LA->LA->LA->LA->LA->O R)(j:Int)(s:RB)(bi bj:Int):O R:=W9 N r0 r1 r2 r3 r4 r5 r6 j s (Ct N r0 r1 r2 r3 r4 r5 r6 j s N) bi bj
def Th(N:Nat)(r0:Nat->Nat->Nat->Nat->Nat->Nat->Nat->Nat->LA->LA->LA->LA->LA->LA->LA->O R)(r1:Nat->Nat->Nat->Nat->Nat->Nat->Nat->Nat->LA->LA->LA->LA->LA->LA->LA->O R)(r2:Nat->Nat->Nat->Nat->Nat->Nat->Nat->Nat->LA->LA->LA->LA->LA->LA->LA->O R)(r3:Nat->Nat->Nat->Nat->Nat->Nat->Nat->Nat->LA->LA->LA->LA->LA->LA->LA->O R)(r4:Nat->Nat->Nat->Nat->Nat->Nat->Nat->Nat->LA->LA->LA->LA->LA->LA->LA->O R)(r5:Nat->Nat->Nat->Nat->Nat->Nat->Nat->Nat->LA->LA->LA->LA->LA->LA->LA->O R)(r6:Nat->Nat->Nat->Nat->Nat->Nat->Nat->Nat->LA->LA->LA->LA->LA->LA->LA->O R)(q0:Int->Int->O R)(w j:Int)(s:RB):O R:=(cond (w==0) (q0 0 (wrap .i64 (0+(s.na:Int)))) (cond (w==1) (q0 1 (wrap .i64 (1+(s.nb:Int)))) (cond (w==2) (q0 2 (wrap .i64 (2+(s.nc:Int)))) (cond (w==3) (q0 3 (wrap .i64 (3+(s.nd:Int)))) (cond (w==4) (q0 4 (wrap .i64 (4+(s.ne:Int)))) (cond (w==5) (q0 5 (wrap .i64 (5+(s.nf:Int)))) (cond (w==6) (q0 6 (wrap .i64 (6+(s.ng:Int)))) none)))))))
def Jx:=(Ai fun N w j s r0 r1 r2 r3 r4 r5 r6=>Th (R:=R) N r0 r1 r2 r3 r4 r5 r6 (Pn N r0 r1 r2 r3 r4 r5 r6 j s) w j s).1
def Xa(w j s r0 r1 r2 r3 r4 r5 r6):(@Jx R N w j s r0 r1 r2 r3 r4 r5 r6)=(Th N r0 r1 r2 r3 r4 r5 r6 (Pn N r0 r1 r2 r3 r4 r5 r6 j s) w j s):=by rw[Jx,(Ai _).2]
def Yq:Hints:={H:=hK 1 (hS (hJ [0,1,2,7] hL (hS (hP [0,1,2,7] (hK 1 (hS (hS (hK 1 (hJ [0,1,2,7,8] hL hL)) hL) hL))) hL)) hL),nils:=[(6,2)],modes:=[(2,2)],free:=[100001,100002,100003,100004,100005,100006,100007],cob:=[6000009,6000033,6000055,6000069]}
def CJ:Ru:=[aK N,Tv N,CH N,fC N]
def Po(F:KF R):=J7 Tryz.f195 Yq (CJ N) [100000,100001,100002,100003,100004,100005,100006,100007] N F
def Dj(s:RB)(F:KF R):Nat->Nat->Nat->Nat->Nat->Nat->Nat->Nat->LA->LA->LA->LA->LA->LA->LA->O R:=fun x y z aa ab ad ae af ag ah ai aj ak al am=>F (A6q 0 x) [(100000,bN 0 [.str s.nm,iv s.bu,iv s.mi,iv s.ma,.imm s.sc s.sn 2 s.st s.so,iv s.nl,iv s.ru,iv s.rd,iv s.sr,iv s.tr,iv s.ut,iv s.dt,iv s.sT,iv s.hc,iv s.cc,iv s.hh,iv s.rs,iv s.rp,.imm s.ac s.an 1 s.aq s.ao,iv s.us,iv s.uh,iv s.uo,iv s.hs,.imm s.ec s.en 3 s.et s.eo,.imm s.qc s.qn 3 s.qt s.qo,.imm s.pc s.pn 1 s.pt s.po,.imm s.vc s.vn 3 s.vt s.vo,A6q 0 y,A6q 1 z,A6q 2 aa,A6q 3 ab,A6q 4 ad,A6q 5 ae,A6q 6 af,.nsl,.nsl,.nsl,.nsl,.nsl,.nsl,.nsl,.nsl,.nsl,.nsl,.nsl,.nsl,.nsl,.nsl,.nsl,.nsl,.nsl]),(300000,bQ 2 ag),(300001,bQ 2 ah),(300002,bQ 2 ai),(300003,bQ 2 aj),(300004,bQ 2 ak),(300005,bQ 2 al),(300006,bQ 2 am)]
def Dk(s:RB)(F:KF R):Nat->Nat->Nat->Nat->Nat->Nat->Nat->Nat->LA->LA->LA->LA->LA->LA->LA->O R:=fun x y z aa ab ad ae af ag ah ai aj ak al am=>F (A6q 0 x) [(100000,bN 0 [.str s.nm,iv s.bu,iv s.mi,iv s.ma,.imm s.sc s.sn 2 s.st s.so,iv s.nl,iv s.ru,iv s.rd,iv s.sr,iv s.tr,iv s.ut,iv s.dt,iv s.sT,iv s.hc,iv s.cc,iv s.hh,iv s.rs,iv s.rp,.imm s.ac s.an 1 s.aq s.ao,iv s.us,iv s.uh,iv s.uo,iv s.hs,.imm s.ec s.en 3 s.et s.eo,.imm s.qc s.qn 3 s.qt s.qo,.imm s.pc s.pn 1 s.pt s.po,.imm s.vc s.vn 3 s.vt s.vo,A6q 1 y,A6q 0 z,A6q 2 aa,A6q 3 ab,A6q 4 ad,A6q 5 ae,A6q 6 af,.nsl,.nsl,.nsl,.nsl,.nsl,.nsl,.nsl,.nsl,.nsl,.nsl,.nsl,.nsl,.nsl,.nsl,.nsl,.nsl,.nsl]),(300000,bQ 2 ag),(300001,bQ 2 ah),(300002,bQ 2 ai),(300003,bQ 2 aj),(300004,bQ 2 ak),(300005,bQ 2 al),(300006,bQ 2 am)]
def Dl(s:RB)(F:KF R):Nat->Nat->Nat->Nat->Nat->Nat->Nat->Nat->LA->LA->LA->LA->LA->LA->LA->O R:=fun x y z aa ab ad ae af ag ah ai aj ak al am=>F (A6q 0 x) [(100000,bN 0 [.str s.nm,iv s.bu,iv s.mi,iv s.ma,.imm s.sc s.sn 2 s.st s.so,iv s.nl,iv s.ru,iv s.rd,iv s.sr,iv s.tr,iv s.ut,iv s.dt,iv s.sT,iv s.hc,iv s.cc,iv s.hh,iv s.rs,iv s.rp,.imm s.ac s.an 1 s.aq s.ao,iv s.us,iv s.uh,iv s.uo,iv s.hs,.imm s.ec s.en 3 s.et s.eo,.imm s.qc s.qn 3 s.qt s.qo,.imm s.pc s.pn 1 s.pt s.po,.imm s.vc s.vn 3 s.vt s.vo,A6q 1 y,A6q 2 z,A6q 0 aa,A6q 3 ab,A6q 4 ad,A6q 5 ae,A6q 6 af,.nsl,.nsl,.nsl,.nsl,.nsl,.nsl,.nsl,.nsl,.nsl,.nsl,.nsl,.nsl,.nsl,.nsl,.nsl,.nsl,.nsl]),(300000,bQ 2 ag),(300001,bQ 2 ah),(300002,bQ 2 ai),(300003,bQ 2 aj),(300004,bQ 2 ak),(300005,bQ 2 al),(300006,bQ 2 am)]
def Dm(s:RB)(F:KF R):Nat->Nat->Nat->Nat->Nat->Nat->Nat->Nat->LA->LA->LA->LA->LA->LA->LA->O R:=fun x y z aa ab ad ae af ag ah ai aj ak al am=>F (A6q 0 x) [(100000,bN 0 [.str s.nm,iv s.bu,iv s.mi,iv s.ma,.imm s.sc s.sn 2 s.st s.so,iv s.nl,iv s.ru,iv s.rd,iv s.sr,iv s.tr,iv s.ut,iv s.dt,iv s.sT,iv s.hc,iv s.cc,iv s.hh,iv s.rs,iv s.rp,.imm s.ac s.an 1 s.aq s.ao,iv s.us,iv s.uh,iv s.uo,iv s.hs,.imm s.ec s.en 3 s.et s.eo,.imm s.qc s.qn 3 s.qt s.qo,.imm s.pc s.pn 1 s.pt s.po,.imm s.vc s.vn 3 s.vt s.vo,A6q 1 y,A6q 2 z,A6q 3 aa,A6q 0 ab,A6q 4 ad,A6q 5 ae,A6q 6 af,.nsl,.nsl,.nsl,.nsl,.nsl,.nsl,.nsl,.nsl,.nsl,.nsl,.nsl,.nsl,.nsl,.nsl,.nsl,.nsl,.nsl]),(300000,bQ 2 ag),(300001,bQ 2 ah),(300002,bQ 2 ai),(300003,bQ 2 aj),(300004,bQ 2 ak),(300005,bQ 2 al),(300006,bQ 2 am)]
def Dn(s:RB)(F:KF R):Nat->Nat->Nat->Nat->Nat->Nat->Nat->Nat->LA->LA->LA->LA->LA->LA->LA->O R:=fun x y z aa ab ad ae af ag ah ai aj ak al am=>F (A6q 0 x) [(100000,bN 0 [.str s.nm,iv s.bu,iv s.mi,iv s.ma,.imm s.sc s.sn 2 s.st s.so,iv s.nl,iv s.ru,iv s.rd,iv s.sr,iv s.tr,iv s.ut,iv s.dt,iv s.sT,iv s.hc,iv s.cc,iv s.hh,iv s.rs,iv s.rp,.imm s.ac s.an 1 s.aq s.ao,iv s.us,iv s.uh,iv s.uo,iv s.hs,.imm s.ec s.en 3 s.et s.eo,.imm s.qc s.qn 3 s.qt s.qo,.imm s.pc s.pn 1 s.pt s.po,.imm s.vc s.vn 3 s.vt s.vo,A6q 1 y,A6q 2 z,A6q 3 aa,A6q 4 ab,A6q 0 ad,A6q 5 ae,A6q 6 af,.nsl,.nsl,.nsl,.nsl,.nsl,.nsl,.nsl,.nsl,.nsl,.nsl,.nsl,.nsl,.nsl,.nsl,.nsl,.nsl,.nsl]),(300000,bQ 2 ag),(300001,bQ 2 ah),(300002,bQ 2 ai),(300003,bQ 2 aj),(300004,bQ 2 ak),(300005,bQ 2 al),(300006,bQ 2 am)]
def Do(s:RB)(F:KF R):Nat->Nat->Nat->Nat->Nat->Nat->Nat->Nat->LA->LA->LA->LA->LA->LA->LA->O R:=fun x y z aa ab ad ae af ag ah ai aj ak al am=>F (A6q 0 x) [(100000,bN 0 [.str s.nm,iv s.bu,iv s.mi,iv s.ma,.imm s.sc s.sn 2 s.st s.so,iv s.nl,iv s.ru,iv s.rd,iv s.sr,iv s.tr,iv s.ut,iv s.dt,iv s.sT,iv s.hc,iv s.cc,iv s.hh,iv s.rs,iv s.rp,.imm s.ac s.an 1 s.aq s.ao,iv s.us,iv s.uh,iv s.uo,iv s.hs,.imm s.ec s.en 3 s.et s.eo,.imm s.qc s.qn 3 s.qt s.qo,.imm s.pc s.pn 1 s.pt s.po,.imm s.vc s.vn 3 s.vt s.vo,A6q 1 y,A6q 2 z,A6q 3 aa,A6q 4 ab,A6q 5 ad,A6q 0 ae,A6q 6 af,.nsl,.nsl,.nsl,.nsl,.nsl,.nsl,.nsl,.nsl,.nsl,.nsl,.nsl,.nsl,.nsl,.nsl,.nsl,.nsl,.nsl]),(300000,bQ 2 ag),(300001,bQ 2 ah),(300002,bQ 2 ai),(300003,bQ 2 aj),(300004,bQ 2 ak),(300005,bQ 2 al),(300006,bQ 2 am)]
def Dp(s:RB)(F:KF R):Nat->Nat->Nat->Nat->Nat->Nat->Nat->Nat->LA->LA->LA->LA->LA->LA->LA->O R:=fun x y z aa ab ad ae af ag ah ai aj ak al am=>F (A6q 0 x) [(100000,bN 0 [.str s.nm,iv s.bu,iv s.mi,iv s.ma,.imm s.sc s.sn 2 s.st s.so,iv s.nl,iv s.ru,iv s.rd,iv s.sr,iv s.tr,iv s.ut,iv s.dt,iv s.sT,iv s.hc,iv s.cc,iv s.hh,iv s.rs,iv s.rp,.imm s.ac s.an 1 s.aq s.ao,iv s.us,iv s.uh,iv s.uo,iv s.hs,.imm s.ec s.en 3 s.et s.eo,.imm s.qc s.qn 3 s.qt s.qo,.imm s.pc s.pn 1 s.pt s.po,.imm s.vc s.vn 3 s.vt s.vo,A6q 1 y,A6q 2 z,A6q 3 aa,A6q 4 ab,A6q 5 ad,A6q 6 ae,A6q 0 af,.nsl,.nsl,.nsl,.nsl,.nsl,.nsl,.nsl,.nsl,.nsl,.nsl,.nsl,.nsl,.nsl,.nsl,.nsl,.nsl,.nsl]),(300000,bQ 2 ag),(300001,bQ 2 ah),(300002,bQ 2 ai),(300003,bQ 2 aj),(300004,bQ 2 ak),(300005,bQ 2 al),(300006,bQ 2 am)]
def WL(j:Int)(s:RB)(K:St->O R):=fun az ba ap ar au av aw ax ay u bb bc bd be bf bg bh=>K ⟨[(0,.optr 100000 0),(1,iv az),(2,iv j),(7,iv ba),(8,op 0)],[(100000,bN 0 [.str s.nm,iv s.bu,iv s.mi,iv s.ma,.imm s.sc s.sn 2 s.st s.so,iv s.nl,iv s.ru,iv s.rd,iv s.sr,iv s.tr,iv s.ut,iv s.dt,iv s.sT,iv s.hc,iv s.cc,iv s.hh,iv s.rs,iv s.rp,.imm s.ac s.an 1 s.aq s.ao,iv s.us,iv s.uh,iv s.uo,iv s.hs,.imm s.ec s.en 3 s.et s.eo,.imm s.qc s.qn 3 s.qt s.qo,.imm s.pc s.pn 1 s.pt s.po,.imm s.vc s.vn 3 s.vt s.vo,A6q 1 ap,A6q 2 ar,A6q 3 au,A6q 4 av,A6q 5 aw,A6q 6 ax,A6q 7 ay,.nsl,.nsl,.nsl,.nsl,.nsl,.nsl,.nsl,.nsl,.nsl,.nsl,.nsl,.nsl,.nsl,.nsl,.nsl,.nsl,.nsl]),(300000,bQ 0 u),(300001,bQ 2 bb),(300002,bQ 2 bc),(300003,bQ 2 bd),(300004,bQ 2 be),(300005,bQ 2 bf),(300006,bQ 2 bg),(300007,bQ 2 bh)]⟩
def Yr(j:Int)(s:RB)(K:St->O R):=fun v a b c d f g h i l m o p q r t=>K ⟨[(0,.optr 100000 0),(1,iv v),(2,iv j),(7,iv a)],[(100000,bN 0 [.str s.nm,iv s.bu,iv s.mi,iv s.ma,.imm s.sc s.sn 2 s.st s.so,iv s.nl,iv s.ru,iv s.rd,iv s.sr,iv s.tr,iv s.ut,iv s.dt,iv s.sT,iv s.hc,iv s.cc,iv s.hh,iv s.rs,iv s.rp,.imm s.ac s.an 1 s.aq s.ao,iv s.us,iv s.uh,iv s.uo,iv s.hs,.imm s.ec s.en 3 s.et s.eo,.imm s.qc s.qn 3 s.qt s.qo,.imm s.pc s.pn 1 s.pt s.po,.imm s.vc s.vn 3 s.vt s.vo,A6q 0 b,A6q 1 c,A6q 2 d,A6q 3 f,A6q 4 g,A6q 5 h,A6q 6 i,.nsl,.nsl,.nsl,.nsl,.nsl,.nsl,.nsl,.nsl,.nsl,.nsl,.nsl,.nsl,.nsl,.nsl,.nsl,.nsl,.nsl]),(300000,bQ 2 l),(300001,bQ 2 m),(300002,bQ 2 o),(300003,bQ 2 p),(300004,bQ 2 q),(300005,bQ 2 r),(300006,bQ 2 t)]⟩
def WM(j:Int)(s:RB)(K:St->O R):=fun bi bj=>K ⟨[(0,.optr 100000 0),(1,iv bi),(2,iv j),(7,iv bj)],[(100000,bN 0 [.str s.nm,iv s.bu,iv s.mi,iv s.ma,.imm s.sc s.sn 2 s.st s.so,iv s.nl,iv s.ru,iv s.rd,iv s.sr,iv s.tr,iv s.ut,iv s.dt,iv s.sT,iv s.hc,iv s.cc,iv s.hh,iv s.rs,iv s.rp,.imm s.ac s.an 1 s.aq s.ao,iv s.us,iv s.uh,iv s.uo,iv s.hs,.imm s.ec s.en 3 s.et s.eo,.imm s.qc s.qn 3 s.qt s.qo,.imm s.pc s.pn 1 s.pt s.po,.imm s.vc s.vn 3 s.vt s.vo,A6q 0 s.na,A6q 1 s.nb,A6q 2 s.nc,A6q 3 s.nd,A6q 4 s.ne,A6q 5 s.nf,A6q 6 s.ng,.nsl,.nsl,.nsl,.nsl,.nsl,.nsl,.nsl,.nsl,.nsl,.nsl,.nsl,.nsl,.nsl,.nsl,.nsl,.nsl,.nsl]),(300000,bQ 2 s.ka),(300001,bQ 2 s.kb),(300002,bQ 2 s.kc),(300003,bQ 2 s.kd),(300004,bQ 2 s.ke),(300005,bQ 2 s.kf),(300006,bQ 2 s.kg)]⟩
def MP Q1 (F:KF R) (j s):WL j s (A2 (Po N F (pz 1327365) [Q1]))=(Gp N (Yr j s Q1) (Dj s F) (Dk s F) (Dl s F) (Dm s F) (Dn s F) (Do s F) (Dp s F) j s):=by kernel_rfl
def MQ(F:KF R)(j s):∀ n,Yr j s (Au (Po N F (pz 324) []) n)=(Ct N (Dj s F) (Dk s F) (Dl s F) (Dm s F) (Dn s F) (Do s F) (Dp s F) j s n):=Gn fun n e=>(KH (W8 N (Dj s F) (Dk s F) (Dl s F) (Dm s F) (Dn s F) (Do s F) (Dp s F) j s) e ((jW ..).trans ((MP ..).trans (ot (Gp _ · _ _ _ _ _ _ _ _ _) e))):_)
def MR(F:KF R)(j s):WM j s (A2 (Po N F (pz 81) []))=(Pn N (Dj s F) (Dk s F) (Dl s F) (Dm s F) (Dn s F) (Do s F) (Dp s F) j s):=(B5 (W9 N (Dj s F) (Dk s F) (Dl s F) (Dm s F) (Dn s F) (Do s F) (Dp s F) j s) ((lW ..).trans (MQ ..)):_)
def aL:=B9 N 195 (CJ N) Yq (Asv fun
|[.optr 100000 0,.int .i64 w,.int .i64 j],s=>some fun _ k=>Jx N w j s (Dj s k) (Dk s k) (Dl s k) (Dm s k) (Dn s k) (Do s k) (Dp s k)
| _,_=>none) (Auz fun _ s=>by split;rename_i w j;intro R F;exact(B5 (Th N (Dj s F) (Dk s F) (Dl s F) (Dm s F) (Dn s F) (Do s F) (Dp s F) · w j s) ((jW ..).trans (MR ..)):_).trans (Xa ..).symm;trivial)
def O7(r0:Int->Bool->Nat->Nat->Nat->Nat->Nat->Nat->Nat->LA->LA->LA->LA->LA->LA->LA->O R)(s:RB)(d e f g h i j:Nat)(c l m n o p q r:LA)(t:Int):O R:=(cond (ble 2 c.length) (Ju N (c.take 2) false fun ad=>cond (decide (t<ad)) (r0 0 false d e f g h i j l m n o p q r) (cond (ble 2 c.length) (Ba N 0 fun ae=>I7 N (c.take 2) false ae false fun af=>r0 (Ca af t) true d e f g h i j l m n o p q r) none)) none)
def Ti(r0:Int->Bool->Nat->Nat->Nat->Nat->Nat->Nat->Nat->LA->LA->LA->LA->LA->LA->LA->O R)(a:Int)(s:RB)(q1:Nat->Nat->Nat->Nat->Nat->Nat->Nat->LA->LA->LA->LA->LA->LA->LA->LA->Int->O R)(d e f g h i j:Nat)(c l m n o p q r:LA):O R:=(cond (ble 2 c.length) (Mg N (c.take 2) false fun ab=>cond (decide (a<(wrap .i64 (s.hs - 1)))) (q1 d e f g h i j c l m n o p q r (Ca ab s.tr)) (q1 d e f g h i j c l m n o p q r ab)) none)
def Jy(r0:Int->Bool->Nat->Nat->Nat->Nat->Nat->Nat->Nat->LA->LA->LA->LA->LA->LA->LA->O R)(a:Int)(s:RB)(d e f g h i j:Nat)(c l m n o p q r:LA):O R:=Ti N r0 a s (fun d e f g h i j c l m n o p q r=>O7 N r0 s d e f g h i j c l m n o p q r) d e f g h i j c l m n o p q r
def Tj(r0:Int->Bool->Nat->Nat->Nat->Nat->Nat->Nat->Nat->LA->LA->LA->LA->LA->LA->LA->O R)(q0:Nat->Nat->Nat->Nat->Nat->Nat->Nat->LA->LA->LA->LA->LA->LA->LA->LA->O R)(b a:Int)(s:RB):O R:=(Jx N b a s (fun ag ah ai aj ak al am ap u ar au av aw ax ay=>cond (Ac (wrap .i64 (a - b)) ag) (cond (ble 2 ((u.drop (0+(((wrap .i64 (a - b)).toNat)*2))).length)) (cond ((beq 0 0)&&((beq (((u.drop (0+(((wrap .i64 (a - b)).toNat)*2))).take 2).length) 2)&&(beq 2 2))) (q0 ah ai aj ak al am ap ((u.drop (0+(((wrap .i64 (a - b)).toNat)*2))).take 2) u ar au av aw ax ay) none) none) none) (fun az ba bb bc bd be bf bg v bh bi bj bk bl bm=>cond (Ac (wrap .i64 (a - b)) az) (cond (ble 2 ((v.drop (0+(((wrap .i64 (a - b)).toNat)*2))).length)) (cond ((beq 0 0)&&((beq (((v.drop (0+(((wrap .i64 (a - b)).toNat)*2))).take 2).length) 2)&&(beq 2 2))) (q0 ba bb bc bd be bf bg ((v.drop (0+(((wrap .i64 (a - b)).toNat)*2))).take 2) bh v bi bj bk bl bm) none) none) none) (fun bn bo bp bq br bs bt bv w bw bx bz ca cb cd=>cond (Ac (wrap .i64 (a - b)) bn) (cond (ble 2 ((w.drop (0+(((wrap .i64 (a - b)).toNat)*2))).length)) (cond ((beq 0 0)&&((beq (((w.drop (0+(((wrap .i64 (a - b)).toNat)*2))).take 2).length) 2)&&(beq 2 2))) (q0 bo bp bq br bs bt bv ((w.drop (0+(((wrap .i64 (a - b)).toNat)*2))).take 2) bw bx w bz ca cb cd) none) none) none) (fun ce cf cg ch ci cj ck cl x cm cn co cp cq cr=>cond (Ac (wrap .i64 (a - b)) ce) (cond (ble 2 ((x.drop (0+(((wrap .i64 (a - b)).toNat)*2))).length)) (cond ((beq 0 0)&&((beq (((x.drop (0+(((wrap .i64 (a - b)).toNat)*2))).take 2).length) 2)&&(beq 2 2))) (q0 cf cg ch ci cj ck cl ((x.drop (0+(((wrap .i64 (a - b)).toNat)*2))).take 2) cm cn co x cp cq cr) none) none) none) (fun cs ct cu cv cw cx cy cz y da db dc dd de df=>cond (Ac (wrap .i64 (a - b)) cs) (cond (ble 2 ((y.drop (0+(((wrap .i64 (a - b)).toNat)*2))).length)) (cond ((beq 0 0)&&((beq (((y.drop (0+(((wrap .i64 (a - b)).toNat)*2))).take 2).length) 2)&&(beq 2 2))) (q0 ct cu cv cw cx cy cz ((y.drop (0+(((wrap .i64 (a - b)).toNat)*2))).take 2) da db dc dd y de df) none) none) none) (fun dg dh di dj dk dl dm dn z dp dq dr ds du dv=>cond (Ac (wrap .i64 (a - b)) dg) (cond (ble 2 ((z.drop (0+(((wrap .i64 (a - b)).toNat)*2))).length)) (cond ((beq 0 0)&&((beq (((z.drop (0+(((wrap .i64 (a - b)).toNat)*2))).take 2).length) 2)&&(beq 2 2))) (q0 dh di dj dk dl dm dn ((z.drop (0+(((wrap .i64 (a - b)).toNat)*2))).take 2) dp dq dr ds du z dv) none) none) none) fun dw dx dy dz ea eb ed ee aa ef eg eh ei ej ek=>cond (Ac (wrap .i64 (a - b)) dw) (cond (ble 2 ((aa.drop (0+(((wrap .i64 (a - b)).toNat)*2))).length)) (cond ((beq 0 0)&&((beq (((aa.drop (0+(((wrap .i64 (a - b)).toNat)*2))).take 2).length) 2)&&(beq 2 2))) (q0 dx dy dz ea eb ed ee ((aa.drop (0+(((wrap .i64 (a - b)).toNat)*2))).take 2) ef eg eh ei ej ek aa) none) none) none)
def Mh:=(Ai fun N b a s r0=>Tj (R:=R) N r0 (Jy N r0 a s) b a s).1
def EW(b a s r0):(@Mh R N b a s r0)=(Tj N r0 (Jy N r0 a s) b a s):=by rw[Mh,(Ai _).2]
def IJ:Hints:={H:=hK 1 (hJ [0,2,8] hL (hK 1 (hJ [8,9] hL hL)))}
def O':Ru:=[aL N,Xt N,U9 N,C8 N,OS N]
def IK(F:KF R):=J7 Tryz.f144 IJ (O' N) [100000,100001,100002,100003,100004,100005,100006,100007] N F
def Jz(s:RB)(F:KF R):Int->Bool->Nat->Nat->Nat->Nat->Nat->Nat->Nat->LA->LA->LA->LA->LA->LA->LA->O R:=fun el em ep er es eu ev ew ex ey ez fa fb fc fd fe=>F (.tup [iv el,.bool em]) [(100000,bN 0 [.str s.nm,iv s.bu,iv s.mi,iv s.ma,.imm s.sc s.sn 2 s.st s.so,iv s.nl,iv s.ru,iv s.rd,iv s.sr,iv s.tr,iv s.ut,iv s.dt,iv s.sT,iv s.hc,iv s.cc,iv s.hh,iv s.rs,iv s.rp,.imm s.ac s.an 1 s.aq s.ao,iv s.us,iv s.uh,iv s.uo,iv s.hs,.imm s.ec s.en 3 s.et s.eo,.imm s.qc s.qn 3 s.qt s.qo,.imm s.pc s.pn 1 s.pt s.po,.imm s.vc s.vn 3 s.vt s.vo,A6q 0 ep,A6q 1 er,A6q 2 es,A6q 3 eu,A6q 4 ev,A6q 5 ew,A6q 6 ex,.nsl,.nsl,.nsl,.nsl,.nsl,.nsl,.nsl,.nsl,.nsl,.nsl,.nsl,.nsl,.nsl,.nsl,.nsl,.nsl,.nsl]),(300000,bQ 2 ey),(300001,bQ 2 ez),(300002,bQ 2 fa),(300003,bQ 2 fb),(300004,bQ 2 fc),(300005,bQ 2 fd),(300006,bQ 2 fe)]
def i9(s:RB)(d e f g h i j:Nat)(c l m n o p q r:LA)(K:St->O R):=fun t=>K ⟨[(8,op 0),(9,iv t)],[(100000,bN 0 [.str s.nm,iv s.bu,iv s.mi,iv s.ma,.imm s.sc s.sn 2 s.st s.so,iv s.nl,iv s.ru,iv s.rd,iv s.sr,iv s.tr,iv s.ut,iv s.dt,iv s.sT,iv s.hc,iv s.cc,iv s.hh,iv s.rs,iv s.rp,.imm s.ac s.an 1 s.aq s.ao,iv s.us,iv s.uh,iv s.uo,iv s.hs,.imm s.ec s.en 3 s.et s.eo,.imm s.qc s.qn 3 s.qt s.qo,.imm s.pc s.pn 1 s.pt s.po,.imm s.vc s.vn 3 s.vt s.vo,A6q 1 d,A6q 2 e,A6q 3 f,A6q 4 g,A6q 5 h,A6q 6 i,A6q 7 j,.nsl,.nsl,.nsl,.nsl,.nsl,.nsl,.nsl,.nsl,.nsl,.nsl,.nsl,.nsl,.nsl,.nsl,.nsl,.nsl,.nsl]),(300000,bQ 0 c),(300001,bQ 2 l),(300002,bQ 2 m),(300003,bQ 2 n),(300004,bQ 2 o),(300005,bQ 2 p),(300006,bQ 2 q),(300007,bQ 2 r)]⟩
def i_(a:Int)(s:RB)(K:St->O R):=fun d e f g h i j c l m n o p q r=>K ⟨[(0,.optr 100000 0),(2,iv a),(8,op 0)],[(100000,bN 0 [.str s.nm,iv s.bu,iv s.mi,iv s.ma,.imm s.sc s.sn 2 s.st s.so,iv s.nl,iv s.ru,iv s.rd,iv s.sr,iv s.tr,iv s.ut,iv s.dt,iv s.sT,iv s.hc,iv s.cc,iv s.hh,iv s.rs,iv s.rp,.imm s.ac s.an 1 s.aq s.ao,iv s.us,iv s.uh,iv s.uo,iv s.hs,.imm s.ec s.en 3 s.et s.eo,.imm s.qc s.qn 3 s.qt s.qo,.imm s.pc s.pn 1 s.pt s.po,.imm s.vc s.vn 3 s.vt s.vo,A6q 1 d,A6q 2 e,A6q 3 f,A6q 4 g,A6q 5 h,A6q 6 i,A6q 7 j,.nsl,.nsl,.nsl,.nsl,.nsl,.nsl,.nsl,.nsl,.nsl,.nsl,.nsl,.nsl,.nsl,.nsl,.nsl,.nsl,.nsl]),(300000,bQ 0 c),(300001,bQ 2 l),(300002,bQ 2 m),(300003,bQ 2 n),(300004,bQ 2 o),(300005,bQ 2 p),(300006,bQ 2 q),(300007,bQ 2 r)]⟩
def WN(F:KF R)(s d e f g h i j c l m n o p q r):i9 s d e f g h i j c l m n o p q r (A2 (IK N F (pz 341) []))=(O7 N (Jz s F) s d e f g h i j c l m n o p q r):=by kernel_rfl
def WO(F:KF R)(a s):i_ a s (A2 (IK N F (pz 21) []))=(Jy N (Jz s F) a s):=(B5 (Ti N (Jz s F) a s) (Aqx fun d e f=>An6 fun g h i j c l=>An6 fun m n o p q r=>(jW ..).trans (WN ..)):_)
def PA:=B9 N 144 (O' N) IJ (Asv fun
|[.optr 100000 0,.int .i64 b,.int .i64 a],s=>some fun _ k=>Mh N b a s (Jz s k)
| _,_=>none) (Auz fun _ s=>by split;rename_i b a;intro R F;exact(B5 (Tj N (Jz s F) · b a s) ((jW ..).trans (WO ..)):_).trans (EW ..).symm;trivial)
def Qy(b a:Int)(s:RB)(r0:LA->Bool->Bool->Nat->Nat->Nat->Nat->Nat->Nat->Nat->LA->LA->LA->LA->LA->LA->LA->O R):O R:=(Mh N b a s fun r aa j l m n o p q c d e f g h i=>cond (!aa) (r0 [.bool false,.nsl,.nsl] false false j l m n o p q c d e f g h i) (cond (b==0) (cond (Ac (wrap .i64 (a - 0)) j) (cond (ble 2 ((c.drop (0+(((wrap .i64 (a - 0)).toNat)*2))).length)) (Cp N ((c.drop (0+(((wrap .i64 (a - 0)).toNat)*2))).take 2) false r fun t ab=>cond ((beq 0 0)&&((beq t.length 3)&&(beq 3 3))) (cond (ble 3 t.length) (r0 (t.take 3) ab true j l m n o p q c d e f g h i) none) none) none) none) (cond (b==1) (cond (Ac (wrap .i64 (a - 1)) l) (cond (ble 2 ((d.drop (0+(((wrap .i64 (a - 1)).toNat)*2))).length)) (Cp N ((d.drop (0+(((wrap .i64 (a - 1)).toNat)*2))).take 2) false r fun u ad=>cond ((beq 0 0)&&((beq u.length 3)&&(beq 3 3))) (cond (ble 3 u.length) (r0 (u.take 3) ad true j l m n o p q c d e f g h i) none) none) none) none) (cond (b==2) (cond (Ac (wrap .i64 (a - 2)) m) (cond (ble 2 ((e.drop (0+(((wrap .i64 (a - 2)).toNat)*2))).length)) (Cp N ((e.drop (0+(((wrap .i64 (a - 2)).toNat)*2))).take 2) false r fun v ae=>cond ((beq 0 0)&&((beq v.length 3)&&(beq 3 3))) (cond (ble 3 v.length) (r0 (v.take 3) ae true j l m n o p q c d e f g h i) none) none) none) none) (cond (b==3) (cond (Ac (wrap .i64 (a - 3)) n) (cond (ble 2 ((f.drop (0+(((wrap .i64 (a - 3)).toNat)*2))).length)) (Cp N ((f.drop (0+(((wrap .i64 (a - 3)).toNat)*2))).take 2) false r fun w af=>cond ((beq 0 0)&&((beq w.length 3)&&(beq 3 3))) (cond (ble 3 w.length) (r0 (w.take 3) af true j l m n o p q c d e f g h i) none) none) none) none) (cond (b==4) (cond (Ac (wrap .i64 (a - 4)) o) (cond (ble 2 ((g.drop (0+(((wrap .i64 (a - 4)).toNat)*2))).length)) (Cp N ((g.drop (0+(((wrap .i64 (a - 4)).toNat)*2))).take 2) false r fun x ag=>cond ((beq 0 0)&&((beq x.length 3)&&(beq 3 3))) (cond (ble 3 x.length) (r0 (x.take 3) ag true j l m n o p q c d e f g h i) none) none) none) none) (cond (b==5) (cond (Ac (wrap .i64 (a - 5)) p) (cond (ble 2 ((h.drop (0+(((wrap .i64 (a - 5)).toNat)*2))).length)) (Cp N ((h.drop (0+(((wrap .i64 (a - 5)).toNat)*2))).take 2) false r fun y ah=>cond ((beq 0 0)&&((beq y.length 3)&&(beq 3 3))) (cond (ble 3 y.length) (r0 (y.take 3) ah true j l m n o p q c d e f g h i) none) none) none) none) (cond (b==6) (cond (Ac (wrap .i64 (a - 6)) q) (cond (ble 2 ((i.drop (0+(((wrap .i64 (a - 6)).toNat)*2))).length)) (Cp N ((i.drop (0+(((wrap .i64 (a - 6)).toNat)*2))).take 2) false r fun z ai=>cond ((beq 0 0)&&((beq z.length 3)&&(beq 3 3))) (cond (ble 3 z.length) (r0 (z.take 3) ai true j l m n o p q c d e f g h i) none) none) none) none) none))))))))
def Na:=(Ai (@Qy R)).1
def Tx:@Na R=@Qy R:=(Ai _).2
def SY(s:RB)(F:KF R):LA->Bool->Bool->Nat->Nat->Nat->Nat->Nat->Nat->Nat->LA->LA->LA->LA->LA->LA->LA->O R:=fun aj ak al am ap ar au av aw ax ay az ba bb bc bd be=>F (.tup [.pagg aj ak,.bool al]) [(100000,bN 0 [.str s.nm,iv s.bu,iv s.mi,iv s.ma,.imm s.sc s.sn 2 s.st s.so,iv s.nl,iv s.ru,iv s.rd,iv s.sr,iv s.tr,iv s.ut,iv s.dt,iv s.sT,iv s.hc,iv s.cc,iv s.hh,iv s.rs,iv s.rp,.imm s.ac s.an 1 s.aq s.ao,iv s.us,iv s.uh,iv s.uo,iv s.hs,.imm s.ec s.en 3 s.et s.eo,.imm s.qc s.qn 3 s.qt s.qo,.imm s.pc s.pn 1 s.pt s.po,.imm s.vc s.vn 3 s.vt s.vo,A6q 0 am,A6q 1 ap,A6q 2 ar,A6q 3 au,A6q 4 av,A6q 5 aw,A6q 6 ax,.nsl,.nsl,.nsl,.nsl,.nsl,.nsl,.nsl,.nsl,.nsl,.nsl,.nsl,.nsl,.nsl,.nsl,.nsl,.nsl,.nsl]),(300000,bQ 2 ay),(300001,bQ 2 az),(300002,bQ 2 ba),(300003,bQ 2 bb),(300004,bQ 2 bc),(300005,bQ 2 bd),(300006,bQ 2 be)]
def WP:=B9 N 85 [PA N,Xq N] { H:=hL,modes:=[(3,0),(0,0)],cob:=[6000021] } (Asv fun
|[.optr 100000 0,.int .i64 b,.int .i64 a],s=>some fun _ k=>Na N b a s (SY s k)
| _,_=>none) (Auz fun _ s=>by split;intro R F;dsimp only;rw[Tx];kernel_rfl;trivial)
def EX(r0:Nat->Nat->Nat->LA->LA->LA->O R)(a:Int)(k0:Int->Nat->Nat->Nat->LA->LA->LA->O R)(f:Int)(b c d:Nat)(g h i:LA):O R:=(cond (decide (f<a)) (cond ((ble (b+1) 140737488355328)&&(ble ((b+1)*8) 140737488355328)) (Ba N 0 fun j=>cond ((beq j.length 3)&&(ble 3 3)) (cond ((ble (c+1) 140737488355328)&&(ble ((c+1)*56) 140737488355328)) (Ba N 0 fun l=>cond ((beq l.length 3)&&(ble 3 3)) (cond ((ble (d+1) 140737488355328)&&(ble ((d+1)*56) 140737488355328)) (k0 (wrap .i64 (f+1)) (b+1) (c+1) (d+1) ((g.take (b*1))++[A6r]) ((h.take (c*3))++((setCells [.bool false,.nsl,.nsl] 0 j).take 3)) ((i.take (d*3))++((setCells [.bool false,.nsl,.nsl] 0 l).take 3))) none) none) none) none) none) (r0 b c d g h i))
def Qz(r0:Nat->Nat->Nat->LA->LA->LA->O R)(a:Int):Nat->Int->Nat->Nat->Nat->LA->LA->LA->O R
|0=>fun _ _ _ _ _ _ _=>none
|n+1=>EX N r0 a (Qz r0 a n)
def fD(N:Nat)(r0:Nat->Nat->Nat->LA->LA->LA->O R)(q0:Int->Nat->Nat->Nat->LA->LA->LA->O R)(a:Int):O R:=(q0 0 0 0 0 [] [] [])
def fE:=(Ai fun N a r0=>fD (R:=R) N r0 (Qz N r0 a N) a).1
def kv(a r0):(@fE R N a r0)=(fD N r0 (Qz N r0 a N) a):=by rw[fE,(Ai _).2]
def rM:Hints:={H:=hK 2 (hS (hK 1 (hS (hP [2,3,4,5] hL) hL)) hL),modes:=[(0,0)],cob:=[1000002,1000003]}
def vO:Ru:=[C8 N]
def Ae0(F:KF R):=J7 Tryz.f86 rM (vO N) [] N F
def MS(F:KF R):Nat->Nat->Nat->LA->LA->LA->O R:=fun m o p q r s=>F (.agg [A6q 0 m,A6q 1 o,A6q 2 p]) (hq [bQ 1 q,bQ 3 r,bQ 3 s])
def Ae1(a:Int)(K:St->O R):=fun f b c d g h i=>K ⟨[(2,op 0),(3,op 1),(4,iv a),(5,iv f)],hq [bN 0 [A6q 2 0,A6q 3 0,A6q 4 0],bN 0 [A6q 5 b,A6q 6 c,A6q 7 d],bQ 1 [],bQ 3 [],bQ 3 [],bQ 1 g,bQ 3 h,bQ 3 i]⟩
def td(F:KF R)a:∀ n,Ae1 a (Au (Ae0 N F (pz 1348) []) n)=(Qz N (MS F) a n):=Gn fun n e=>(B5 (EX N (MS F) a) e:_)
def Ai2:=B9 N 86 (vO N) rM (fun
|[.int .i64 a],[]=>some fun _ k=>fE N a (MS k)
| _,_=>none) fun _ _=>by split;intro R F;exact(B5 (fD N (MS F) · _) ((lW ..).trans (td ..)):_).trans (kv ..).symm;trivial
def Im(k0:Int->Int->Int->LA->LA->LA->O R)(r0:Nat->Nat->Nat->Nat->Nat->Nat->Nat->LA->LA->LA->LA->LA->LA->LA->LA->LA->LA->O R)(s:RB)(a b c d g i j x y z:Nat)(l m o r t u v aa ab ad:LA)(au av aj aw ax:Int)(am ap ar:LA):O R:=(cond (Ac aj x) (cond ((beq 1 1)&&((ble ((0+(aj.toNat*1))+1) am.length)&&(!false))) (Ba N av fun ay=>Ba N ax fun az=>cond (Ac aj y) (cond ((beq ay.length 3)&&((ble ((0+(aj.toNat*3))+3) ap.length)&&(!false))) (cond (Ac aj z) (cond ((beq az.length 3)&&((ble ((0+(aj.toNat*3))+3) ar.length)&&(!false))) (k0 au aw (wrap .i64 (aj - 1)) (am.set (0+(aj.toNat*1)) (.int .i64 2)) (setCells ap (0+(aj.toNat*3)) ay) (setCells ar (0+(aj.toNat*3)) az)) none) none) none) none) none) none)
def CK(r0:Nat->Nat->Nat->Nat->Nat->Nat->Nat->LA->LA->LA->LA->LA->LA->LA->LA->LA->LA->O R)(s:RB)(a b c d g i j x y z:Nat)(l m o r t u v aa ab ad:LA)(k0:Int->Int->Int->LA->LA->LA->O R)(q1:Int->Int->Int->Int->Int->LA->LA->LA->O R)(af ae w:Int)(ag ah ai:LA):O R:=(cond (decide (w>=af)) (cond (decide (w>af)) (cond (af==0) (cond (Ac (wrap .i64 ((wrap .i64 (w - 0)) - 1)) a) (cond (ble 2 ((l.drop (0+(((wrap .i64 ((wrap .i64 (w - 0)) - 1)).toNat)*2))).length)) (Bw N (YZ s (l.take (a*2)) a (m.take (b*2)) b (o.take (c*2)) c (r.take (d*2)) d (t.take (g*2)) g (u.take (i*2)) i (v.take (j*2)) j) true w ((l.drop (0+(((wrap .i64 ((wrap .i64 (w - 0)) - 1)).toNat)*2))).take 2) false fun ba bb=>cond (bb||false) none (Be N (YZ s (l.take (a*2)) a (m.take (b*2)) b (o.take (c*2)) c (r.take (d*2)) d (t.take (g*2)) g (u.take (i*2)) i (v.take (j*2)) j) true ba false ae fun bc bd=>q1 0 ae w bc bd ag ah ai)) none) none) (cond (af==1) (cond (Ac (wrap .i64 ((wrap .i64 (w - 1)) - 1)) b) (cond (ble 2 ((m.drop (0+(((wrap .i64 ((wrap .i64 (w - 1)) - 1)).toNat)*2))).length)) (Bw N (YZ s (l.take (a*2)) a (m.take (b*2)) b (o.take (c*2)) c (r.take (d*2)) d (t.take (g*2)) g (u.take (i*2)) i (v.take (j*2)) j) true w ((m.drop (0+(((wrap .i64 ((wrap .i64 (w - 1)) - 1)).toNat)*2))).take 2) false fun be bf=>cond (bf||false) none (Be N (YZ s (l.take (a*2)) a (m.take (b*2)) b (o.take (c*2)) c (r.take (d*2)) d (t.take (g*2)) g (u.take (i*2)) i (v.take (j*2)) j) true be false ae fun bg bh=>q1 1 ae w bg bh ag ah ai)) none) none) (cond (af==2) (cond (Ac (wrap .i64 ((wrap .i64 (w - 2)) - 1)) c) (cond (ble 2 ((o.drop (0+(((wrap .i64 ((wrap .i64 (w - 2)) - 1)).toNat)*2))).length)) (Bw N (YZ s (l.take (a*2)) a (m.take (b*2)) b (o.take (c*2)) c (r.take (d*2)) d (t.take (g*2)) g (u.take (i*2)) i (v.take (j*2)) j) true w ((o.drop (0+(((wrap .i64 ((wrap .i64 (w - 2)) - 1)).toNat)*2))).take 2) false fun bi bj=>cond (bj||false) none (Be N (YZ s (l.take (a*2)) a (m.take (b*2)) b (o.take (c*2)) c (r.take (d*2)) d (t.take (g*2)) g (u.take (i*2)) i (v.take (j*2)) j) true bi false ae fun bk bl=>q1 2 ae w bk bl ag ah ai)) none) none) (cond (af==3) (cond (Ac (wrap .i64 ((wrap .i64 (w - 3)) - 1)) d) (cond (ble 2 ((r.drop (0+(((wrap .i64 ((wrap .i64 (w - 3)) - 1)).toNat)*2))).length)) (Bw N (YZ s (l.take (a*2)) a (m.take (b*2)) b (o.take (c*2)) c (r.take (d*2)) d (t.take (g*2)) g (u.take (i*2)) i (v.take (j*2)) j) true w ((r.drop (0+(((wrap .i64 ((wrap .i64 (w - 3)) - 1)).toNat)*2))).take 2) false fun bm bn=>cond (bn||false) none (Be N (YZ s (l.take (a*2)) a (m.take (b*2)) b (o.take (c*2)) c (r.take (d*2)) d (t.take (g*2)) g (u.take (i*2)) i (v.take (j*2)) j) true bm false ae fun bo bp=>q1 3 ae w bo bp ag ah ai)) none) none) (cond (af==4) (cond (Ac (wrap .i64 ((wrap .i64 (w - 4)) - 1)) g) (cond (ble 2 ((t.drop (0+(((wrap .i64 ((wrap .i64 (w - 4)) - 1)).toNat)*2))).length)) (Bw N (YZ s (l.take (a*2)) a (m.take (b*2)) b (o.take (c*2)) c (r.take (d*2)) d (t.take (g*2)) g (u.take (i*2)) i (v.take (j*2)) j) true w ((t.drop (0+(((wrap .i64 ((wrap .i64 (w - 4)) - 1)).toNat)*2))).take 2) false fun bq br=>cond (br||false) none (Be N (YZ s (l.take (a*2)) a (m.take (b*2)) b (o.take (c*2)) c (r.take (d*2)) d (t.take (g*2)) g (u.take (i*2)) i (v.take (j*2)) j) true bq false ae fun bs bt=>q1 4 ae w bs bt ag ah ai)) none) none) (cond (af==5) (cond (Ac (wrap .i64 ((wrap .i64 (w - 5)) - 1)) i) (cond (ble 2 ((u.drop (0+(((wrap .i64 ((wrap .i64 (w - 5)) - 1)).toNat)*2))).length)) (Bw N (YZ s (l.take (a*2)) a (m.take (b*2)) b (o.take (c*2)) c (r.take (d*2)) d (t.take (g*2)) g (u.take (i*2)) i (v.take (j*2)) j) true w ((u.drop (0+(((wrap .i64 ((wrap .i64 (w - 5)) - 1)).toNat)*2))).take 2) false fun bv bw=>cond (bw||false) none (Be N (YZ s (l.take (a*2)) a (m.take (b*2)) b (o.take (c*2)) c (r.take (d*2)) d (t.take (g*2)) g (u.take (i*2)) i (v.take (j*2)) j) true bv false ae fun bx bz=>q1 5 ae w bx bz ag ah ai)) none) none) (cond (af==6) (cond (Ac (wrap .i64 ((wrap .i64 (w - 6)) - 1)) j) (cond (ble 2 ((v.drop (0+(((wrap .i64 ((wrap .i64 (w - 6)) - 1)).toNat)*2))).length)) (Bw N (YZ s (l.take (a*2)) a (m.take (b*2)) b (o.take (c*2)) c (r.take (d*2)) d (t.take (g*2)) g (u.take (i*2)) i (v.take (j*2)) j) true w ((v.drop (0+(((wrap .i64 ((wrap .i64 (w - 6)) - 1)).toNat)*2))).take 2) false fun ca cb=>cond (cb||false) none (Be N (YZ s (l.take (a*2)) a (m.take (b*2)) b (o.take (c*2)) c (r.take (d*2)) d (t.take (g*2)) g (u.take (i*2)) i (v.take (j*2)) j) true ca false ae fun cd ce=>q1 6 ae w cd ce ag ah ai)) none) none) none))))))) (Di N (YZ s (l.take (a*2)) a (m.take (b*2)) b (o.take (c*2)) c (r.take (d*2)) d (t.take (g*2)) g (u.take (i*2)) i (v.take (j*2)) j) true af fun cf=>cond cf (Fl N (YZ s (l.take (a*2)) a (m.take (b*2)) b (o.take (c*2)) c (r.take (d*2)) d (t.take (g*2)) g (u.take (i*2)) i (v.take (j*2)) j) true fun cg=>Bw N (YZ s (l.take (a*2)) a (m.take (b*2)) b (o.take (c*2)) c (r.take (d*2)) d (t.take (g*2)) g (u.take (i*2)) i (v.take (j*2)) j) true w cg false fun ch ci=>cond (ci||false) none (Be N (YZ s (l.take (a*2)) a (m.take (b*2)) b (o.take (c*2)) c (r.take (d*2)) d (t.take (g*2)) g (u.take (i*2)) i (v.take (j*2)) j) true ch false ae fun cj ck=>q1 af ae w cj ck ag ah ai)) (Gj N (YZ s (l.take (a*2)) a (m.take (b*2)) b (o.take (c*2)) c (r.take (d*2)) d (t.take (g*2)) g (u.take (i*2)) i (v.take (j*2)) j) true w fun cl=>Sw N cl false fun cm=>cond (decide (cm>0)) (q1 af ae w 0 (Ca s.rs (wrap .i64 (s.sr - ae))) ag ah ai) (q1 af ae w 0 0 ag ah ai)))) (r0 a b c d g i j ag ah ai l m o r t u v))
def Cx(r0:Nat->Nat->Nat->Nat->Nat->Nat->Nat->LA->LA->LA->LA->LA->LA->LA->LA->LA->LA->O R)(s:RB)(a b c d g i j x y z:Nat)(l m o r t u v aa ab ad:LA):Nat->Int->Int->Int->LA->LA->LA->O R
|0=>fun _ _ _ _ _ _=>none
|n+1=>CK N r0 s a b c d g i j x y z l m o r t u v aa ab ad (Cx r0 s a b c d g i j x y z l m o r t u v aa ab ad n) (Im N (Cx r0 s a b c d g i j x y z l m o r t u v aa ab ad n) r0 s a b c d g i j x y z l m o r t u v aa ab ad)
def Qj(r0:Nat->Nat->Nat->Nat->Nat->Nat->Nat->LA->LA->LA->LA->LA->LA->LA->LA->LA->LA->O R)(q0:Nat->Nat->Nat->Nat->Nat->Nat->Nat->LA->LA->LA->LA->LA->LA->LA->Int->Int->Int->LA->LA->LA->O R)(ak al:Int)(x y z:Nat)(aa ab ad:LA)(s:RB):O R:=(Mh N ak al s fun cn co a b c d g i j l m o r t u v=>cond (!co) (r0 a b c d g i j aa ab ad l m o r t u v) (q0 a b c d g i j l m o r t u v ak cn al aa ab ad))
def N7:=(Ai fun N ak al x y z aa ab ad s r0=>Qj (R:=R) N r0 (fun a b c d g i j l m o r t u v=>Cx N r0 s a b c d g i j x y z l m o r t u v aa ab ad N) ak al x y z aa ab ad s).1
def CL(ak al x y z aa ab ad s r0):(@N7 R N ak al x y z aa ab ad s r0)=(Qj N r0 (fun a b c d g i j l m o r t u v=>Cx N r0 s a b c d g i j x y z l m o r t u v aa ab ad N) ak al x y z aa ab ad s):=by rw[N7,(Ai _).2]
def EY:Hints:={H:=hK 3 (hS (hP [0,1,2,8,10] (hK 1 (hS (hS (hK 1 (hJ [0,1,2,8,10,11,12] hL hL)) hL) hL))) hL),cob:=[6000037]}
def IL:Ru:=[PA N,IH N,CD N,Tv N,CH N,Te N,HQ N,C8 N]
def EZ(F:KF R):=J7 Tryz.f87 EY (IL N) [100000,100001,100002,100003,100004,100005,100006,100007,100008,100009,100010,100011] N F
def In(x y z:Nat)(s:RB)(F:KF R):Nat->Nat->Nat->Nat->Nat->Nat->Nat->LA->LA->LA->LA->LA->LA->LA->LA->LA->LA->O R:=fun cp cq cr cs ct cu cv cw cx cy cz da db dc dd de df=>F (.tup []) [(100000,bN 0 [.str s.nm,iv s.bu,iv s.mi,iv s.ma,.imm s.sc s.sn 2 s.st s.so,iv s.nl,iv s.ru,iv s.rd,iv s.sr,iv s.tr,iv s.ut,iv s.dt,iv s.sT,iv s.hc,iv s.cc,iv s.hh,iv s.rs,iv s.rp,.imm s.ac s.an 1 s.aq s.ao,iv s.us,iv s.uh,iv s.uo,iv s.hs,.imm s.ec s.en 3 s.et s.eo,.imm s.qc s.qn 3 s.qt s.qo,.imm s.pc s.pn 1 s.pt s.po,.imm s.vc s.vn 3 s.vt s.vo,A6q 0 cp,A6q 1 cq,A6q 2 cr,A6q 3 cs,A6q 4 ct,A6q 5 cu,A6q 6 cv,.nsl,.nsl,.nsl,.nsl,.nsl,.nsl,.nsl,.nsl,.nsl,.nsl,.nsl,.nsl,.nsl,.nsl,.nsl,.nsl,.nsl]),(100001,bN 0 [.own 100009 0 x,.own 100010 0 y,.own 100011 0 z]),(100009,bQ 1 cw),(100010,bQ 3 cx),(100011,bQ 3 cy),(300000,bQ 2 cz),(300001,bQ 2 da),(300002,bQ 2 db),(300003,bQ 2 dc),(300004,bQ 2 dd),(300005,bQ 2 de),(300006,bQ 2 df)]
def fF(s:RB)(a b c d g i j x y z:Nat)(l m o r t u v aa ab ad:LA)(K:St->O R):=fun au av aj aw ax am ap ar=>K ⟨[(0,.optr 100000 0),(1,.optr 100001 0),(2,iv au),(8,iv av),(10,iv aj),(11,iv aw),(12,iv ax)],[(100000,bN 0 [.str s.nm,iv s.bu,iv s.mi,iv s.ma,.imm s.sc s.sn 2 s.st s.so,iv s.nl,iv s.ru,iv s.rd,iv s.sr,iv s.tr,iv s.ut,iv s.dt,iv s.sT,iv s.hc,iv s.cc,iv s.hh,iv s.rs,iv s.rp,.imm s.ac s.an 1 s.aq s.ao,iv s.us,iv s.uh,iv s.uo,iv s.hs,.imm s.ec s.en 3 s.et s.eo,.imm s.qc s.qn 3 s.qt s.qo,.imm s.pc s.pn 1 s.pt s.po,.imm s.vc s.vn 3 s.vt s.vo,A6q 0 a,A6q 1 b,A6q 2 c,A6q 3 d,A6q 4 g,A6q 5 i,A6q 6 j,.nsl,.nsl,.nsl,.nsl,.nsl,.nsl,.nsl,.nsl,.nsl,.nsl,.nsl,.nsl,.nsl,.nsl,.nsl,.nsl,.nsl]),(100001,bN 0 [.own 100009 0 x,.own 100010 0 y,.own 100011 0 z]),(100009,bQ 1 am),(100010,bQ 3 ap),(100011,bQ 3 ar),(300000,bQ 2 l),(300001,bQ 2 m),(300002,bQ 2 o),(300003,bQ 2 r),(300004,bQ 2 t),(300005,bQ 2 u),(300006,bQ 2 v)]⟩
def E_(s:RB)(a b c d g i j x y z:Nat)(l m o r t u v aa ab ad:LA)(K:St->O R):=fun af ae w ag ah ai=>K ⟨[(0,.optr 100000 0),(1,.optr 100001 0),(2,iv af),(8,iv ae),(10,iv w)],[(100000,bN 0 [.str s.nm,iv s.bu,iv s.mi,iv s.ma,.imm s.sc s.sn 2 s.st s.so,iv s.nl,iv s.ru,iv s.rd,iv s.sr,iv s.tr,iv s.ut,iv s.dt,iv s.sT,iv s.hc,iv s.cc,iv s.hh,iv s.rs,iv s.rp,.imm s.ac s.an 1 s.aq s.ao,iv s.us,iv s.uh,iv s.uo,iv s.hs,.imm s.ec s.en 3 s.et s.eo,.imm s.qc s.qn 3 s.qt s.qo,.imm s.pc s.pn 1 s.pt s.po,.imm s.vc s.vn 3 s.vt s.vo,A6q 0 a,A6q 1 b,A6q 2 c,A6q 3 d,A6q 4 g,A6q 5 i,A6q 6 j,.nsl,.nsl,.nsl,.nsl,.nsl,.nsl,.nsl,.nsl,.nsl,.nsl,.nsl,.nsl,.nsl,.nsl,.nsl,.nsl,.nsl]),(100001,bN 0 [.own 100009 0 x,.own 100010 0 y,.own 100011 0 z]),(100009,bQ 1 ag),(100010,bQ 3 ah),(100011,bQ 3 ai),(300000,bQ 2 l),(300001,bQ 2 m),(300002,bQ 2 o),(300003,bQ 2 r),(300004,bQ 2 t),(300005,bQ 2 u),(300006,bQ 2 v)]⟩
def SZ Q0 (F:KF R) (s a b c d g i j x y z l m o r t u v aa ab ad):fF s a b c d g i j x y z l m o r t u v aa ab ad (A2 (EZ N F (pz 1392901) [Q0]))=(Im N (E_ s a b c d g i j x y z l m o r t u v aa ab ad Q0) (In x y z s F) s a b c d g i j x y z l m o r t u v aa ab ad):=by kernel_rfl
def S_(F:KF R)(s a b c d g i j x y z l m o r t u v aa ab ad):∀ n,E_ s a b c d g i j x y z l m o r t u v aa ab ad (Au (EZ N F (pz 340) []) n)=(Cx N (In x y z s F) s a b c d g i j x y z l m o r t u v aa ab ad n):=Gn fun n e=>(KH (CK N (In x y z s F) s a b c d g i j x y z l m o r t u v aa ab ad) e ((jW ..).trans ((SZ ..).trans (ot (Im _ · _ _ _ _ _ _ _ _ _ _ _ _ _ _ _ _ _ _ _ _ _ _) e))):_)
def aM:RB×Nat×Nat×Nat×LA×LA×LA->Ay
|(s,x,y,z,aa,ab,ad)=>[(100000,Auv (Aue 100001 s)),(100001,⟨false,false,false,false,0,[.own 100009 0 x,.own 100010 0 y,.own 100011 0 z],false,none⟩),(100002,Ad4 2 s.ka),(100003,Ad4 2 s.kb),(100004,Ad4 2 s.kc),(100005,Ad4 2 s.kd),(100006,Ad4 2 s.ke),(100007,Ad4 2 s.kf),(100008,Ad4 2 s.kg),(100009,⟨false,false,true,false,1,aa,false,none⟩),(100010,⟨false,false,true,false,3,ab,false,none⟩),(100011,⟨false,false,true,false,3,ad,false,none⟩)]
def Tk:Ay->Option (RB×Nat×Nat×Nat×LA×LA×LA)
|dg::(100001,⟨false,false,false,false,0,[.own 100009 0 x,.own 100010 0 y,.own 100011 0 z],false,none⟩)::dh::di::dj::dk::dl::dm::dn::(100009,⟨false,false,true,false,1,aa,false,none⟩)::(100010,⟨false,false,true,false,3,ab,false,none⟩)::(100011,⟨false,false,true,false,3,ad,false,none⟩)::[]=>(Auf 100000 100001 dg).bind fun s=>(Ac3 100002 2 dh).bind fun dp=>(Ac3 100003 2 di).bind fun dq=>(Ac3 100004 2 dj).bind fun dr=>(Ac3 100005 2 dk).bind fun ds=>(Ac3 100006 2 dl).bind fun du=>(Ac3 100007 2 dm).bind fun dv=>(Ac3 100008 2 dn).bind fun dw=>some ({s with ka:=dp,kb:=dq,kc:=dr,kd:=ds,ke:=du,kf:=dv,kg:=dw},x,y,z,aa,ab,ad)
|_=>none
def aN{h:Ay}{p:RB×Nat×Nat×Nat×LA×LA×LA}(e:Tk h=some p):h=aM p:=by
 unfold Tk at e
 split at e
 ·obtain⟨s,q,f⟩:=ub e
  cases Ali q
  obtain⟨_,q,e0⟩:=ub f
  cases R5 q
  obtain⟨_,q,e1⟩:=ub e0
  cases R5 q
  obtain⟨_,q,e2⟩:=ub e1
  cases R5 q
  obtain⟨_,q,e3⟩:=ub e2
  cases R5 q
  obtain⟨_,q,e4⟩:=ub e3
  cases R5 q
  obtain⟨_,q,e5⟩:=ub e4
  cases R5 q
  obtain⟨_,q,e6⟩:=ub e5
  cases R5 q
  cases e6;rfl
 ·cases e
def ia:=B9 N 87 (IL N) EY (Au0 Tk fun
|[.optr 100000 0,.optr 100001 0,.int .i64 ak,.int .i64 al],p=>some fun _ k=>N7 N ak al p.2.1 p.2.2.1 p.2.2.2.1 p.2.2.2.2.1 p.2.2.2.2.2.1 p.2.2.2.2.2.2 p.1 (In p.2.1 p.2.2.1 p.2.2.2.1 p.1 k)
| _,_=>none) (Awq aN fun _ p=>by obtain⟨s,x,y,z,aa,ab,ad⟩:=p;split;rename_i ak al;intro R F;exact(B5 (Qj N (In x y z s F) · ak al x y z aa ab ad s) (ld fun a b=>An6 fun c d g i j l=>An6 fun m o r t u v=>(lW ..).trans (S_ ..)):_).trans (CL ..).symm;trivial)
def ig(r0:LA->LA->Int->O R)(a c d:Int)(h:LA)(e:Nat)(m i:Bool)(j:LA)(f:Nat)(n l b:Bool)(g:LA):O R:=(cond (ble 22 g.length) (Zl N (g.take 22) b a h e false i j f false l fun t u v w x y z aa ab ac ad ae af ag ah ai aj ak al am an ao ap aq ar au av aw ax ay az ba bb bc bd be bf=>Na N c d (RB.mk t u v w x y false b z aa ab ac ad ae af ag ah ai aj ak al am an false b ao ap aq a h e false i j f false l ar au false av aw ax false ay 0 0 0 0 0 0 0 az ba bb bc bd be bf) fun o bg bh bi bj bk bl bm bn bo bp bq br bs bt bu bv=>cond ((beq 0 0)&&((beq o.length 3)&&(beq 3 3))) (cond (!bh) (r0 [.nsl,.nsl,.nsl] [.bool false,.nsl,.nsl] 7) (fE N a fun p q r bw bx bz=>N7 N c d p q r bw bx bz (RB.mk t u v w x y false b z aa ab ac ad ae af ag ah ai aj ak al am an false b ao ap aq a h e false i j f false l ar au false av aw ax false ay bi bj bk bl bm bn bo bp bq br bs bt bu bv) fun ch ci cj ck cl cm cn ca cb cc co cp cq cr cs ct cu=>cond (ble 3 o.length) (Zb N (o.take 3) bg fun s=>cond ((beq 0 0)&&((beq s.length 3)&&(beq 3 3))) (cond (ble 3 s.length) (r0 [.imm (ca.take (p*1)) p 1 false false,.imm (cb.take (q*3)) q 3 false false,.imm (cc.take (r*3)) r 3 false false] (s.take 3) 0) none) none) none)) none) none)
def aO(N:Nat)(r0:LA->LA->Int->O R)(a c d:Int)(h:LA)(e:Nat)(m i:Bool)(j:LA)(f:Nat)(n l b:Bool)(g:LA)(q1:O R):O R:=(cond ((decide (c<0))==false) (cond ((cond false true (decide (c>d)))==false) (cond (cond false true (decide (d>=a))) (r0 [.nsl,.nsl,.nsl] [.bool false,.nsl,.nsl] 3) q1) (r0 [.nsl,.nsl,.nsl] [.bool false,.nsl,.nsl] 3)) (r0 [.nsl,.nsl,.nsl] [.bool false,.nsl,.nsl] 3))
def VF(r0:LA->LA->Int->O R)(a c d:Int)(h:LA)(e:Nat)(m i:Bool)(j:LA)(f:Nat)(n l b:Bool)(g:LA):O R:=aO N r0 a c d h e m i j f n l b g (ig N r0 a c d h e m i j f n l b g)
def n6(r0:LA->LA->Int->O R)(q0:O R)(g:LA)(b:Bool)(a c d:Int)(h:LA)(e:Nat)(m i:Bool)(j:LA)(f:Nat)(n l:Bool):O R:=(cond (ble 22 g.length) (SO N (g.take 22) b a fun cd=>cond (!cd) (r0 [.nsl,.nsl,.nsl] [.bool false,.nsl,.nsl] 1) (cond (((e:Int) != a)==false) (cond (cond false true ((f:Int) != a)) (r0 [.nsl,.nsl,.nsl] [.bool false,.nsl,.nsl] 4) q0) (r0 [.nsl,.nsl,.nsl] [.bool false,.nsl,.nsl] 4))) none)
def rN:=(Ai fun N g b a c d h e m i j f n l r0=>n6 (R:=R) N r0 (VF N r0 a c d h e m i j f n l b g) g b a c d h e m i j f n l).1
def rO(g b a c d h e m i j f n l r0):(@rN R N g b a c d h e m i j f n l r0)=(n6 N r0 (VF N r0 a c d h e m i j f n l b g) g b a c d h e m i j f n l):=by rw[rN,(Ai _).2]
def vP:Hints:={H:=hK 2 (hJ [1,2,3,4,5,6,12,13] hL (hJ [1,2,3,4,5,6,12,13] hL hL)),modes:=[(3,0),(3,0),(0,0)]}
def Abw:Ru:=[Aes N,rF N,WP N,Ai2 N,ia N,iK N]
def vQ(F:KF R):=J7 Tryz.f36 vP (Abw N) [] N F
def IM(F:KF R):LA->LA->Int->O R:=fun ce cf cg=>F (.tup [.pagg ce false,.pagg cf false,iv cg]) []
def Ai3(a c d:Int)(h:LA)(e:Nat)(m i:Bool)(j:LA)(f:Nat)(n l b:Bool)(g:LA)(K:St->O R):=K ⟨[(1,iv a),(2,iv c),(3,iv d),(4,.imm h e 3 m i),(5,.imm j f 3 n l),(6,op 0),(12,op 1),(13,op 2)],hq [bP b 0 g,bN 0 [.nsl,.nsl,.nsl],bN 0 [.bool false,.nsl,.nsl]]⟩
def Ai4(a c d:Int)(h:LA)(e:Nat)(m i:Bool)(j:LA)(f:Nat)(n l b:Bool)(g:LA)(K:St->O R):=K ⟨[(1,iv a),(2,iv c),(3,iv d),(4,.imm h e 3 m i),(5,.imm j f 3 n l),(6,op 0),(12,op 1),(13,op 2)],hq [bP b 0 g,bN 0 [.nsl,.nsl,.nsl],bN 0 [.bool false,.nsl,.nsl]]⟩
def y5(F:KF R)(a c d h e m i j f n l b g):Ai3 a c d h e m i j f n l b g (A2 (vQ N F (pz 341) []))=(ig N (IM F) a c d h e m i j f n l b g):=by kernel_rfl
def y7(F:KF R)(a c d h e m i j f n l b g):Ai4 a c d h e m i j f n l b g (A2 (vQ N F (pz 85) []))=(VF N (IM F) a c d h e m i j f n l b g):=(B5 (aO N (IM F) a c d h e m i j f n l b g) ((jW ..).trans (y5 ..)):_)
def Al2:=B9 N 36 (Abw N) vP (fun
|[.pagg g b,.int .i64 a,.int .i64 c,.int .i64 d,.imm h e 3 m i,.imm j f 3 n l],[]=>some fun _ k=>rN N g b a c d h e m i j f n l (IM k)
| _,_=>none) fun _ _=>by split;intro R F;exact(B5 (n6 N (IM F) · _ _ _ _ _ _ _ _ _ _ _ _ _) ((jW ..).trans (y7 ..)):_).trans (rO ..).symm;trivial
end
end Gx
namespace Gx
open Go Go.Proofs
inductive Sl(α:Type)where
|nil
|of (l:List α) (t o:Bool)
def Sl.l{α:Type}:Sl α->List α
|.nil=>[]
|.of l _ _=>l
def Sl.av{α:Type}(sz:Nat)(e:α->LA):Sl α->AV
|.nil=>.nsl
|.of l t o=>.imm (l.flatMap e) l.length sz t o
def CM(n:Int):LA:=[.int .i64 n]
def Aj(l:List Int):LA:=l.map fun n=>.int .i64 n
def Fm:∀ l:List Int,l.flatMap CM=Aj l
|[]=>rfl
|a::r=>by rw[Aye,Fm r];rfl
def Io(l:List Int):(Aj l).length=l.length:=by simp[Aj]
structure SegD where
 width:Int
 price:Int
structure UnitD where
 name:List UInt8
 bus:Int
 min:Int
 max:Int
 segs:Sl SegD
 noLoad:Int
 rampUp:Int
 rampDown:Int
 startRamp:Int
 stopRamp:Int
 upTime:Int
 downTime:Int
 startTime:Int
 hotCost:Int
 coldCost:Int
 hotHours:Int
 reserve:Int
 reservePrice:Int
 away:Sl Int
 state:Int
 hours:Int
 output:Int
def SegD.av(s:SegD):LA:=[.int .i64 s.width,.int .i64 s.price]
def UnitD.av(u:UnitD):LA:=[.str u.name,.int .i64 u.bus,.int .i64 u.min,.int .i64 u.max,u.segs.av 2 SegD.av,.int .i64 u.noLoad,.int .i64 u.rampUp,.int .i64 u.rampDown,.int .i64 u.startRamp,.int .i64 u.stopRamp,.int .i64 u.upTime,.int .i64 u.downTime,.int .i64 u.startTime,.int .i64 u.hotCost,.int .i64 u.coldCost,.int .i64 u.hotHours,.int .i64 u.reserve,.int .i64 u.reservePrice,u.away.av 1 CM,.int .i64 u.state,.int .i64 u.hours,.int .i64 u.output]
section
variable{R:Type}
def H0{α:Type}{sz:Nat}{e:α->LA}{s:Sl α}{r:LA}{f:LA->Nat->O R}:Bq sz (s.av sz e::r) f=f (s.l.flatMap e) s.l.length:=by cases s<;>simp[Bq,Sl.av,Sl.l,Aho]
def Bh{α:Type}{e:α->LA}{sz:Nat}(k:∀ a,(e a).length=sz):∀(l:List α)(j:Nat)(h:j<l.length),drop (j*sz) (l.flatMap e)=e l[j]++(l.drop (j+1)).flatMap e
|a::r,0,_=>by simp
|a::r,j+1,h=>by
  have:=Bh k r j (by simpa using h)
  rw[Aye,A3g,k,show(j+1)*sz - sz=j*sz by rw[Ax2];omega,Ayv (by rw[k,Ax2];omega)]
  simpa using this
def TA{l:List Int}{i:Nat}(h:i<l.length){f:Int->O R}:Aq .i64 (drop i (Aj l)) f=f l[i]:=by rw[Aj,Ayx (by simpa using h)];simp[Av]
def Et{l:List Int}{i:Nat}(h:i<l.length){f:Int->O R}:Aq .i64 (drop ((Int.toNat (i:Int))*1) (Aj l)) f=f l[i]:=by rw[Axm,Ax4,TA h]
def Fo{α:Type}{l:List α}{j:Nat}(h:j<l.length):l.drop j=l[j]::l.drop (j+1):=Ayx h
def Hw{α:Type}{l:List α}{j:Nat}(h:l.length<=j):l.drop j=[]:=Ayv h
def cK{α:Type}(K:α->O R)(c:Bool)(a b:α):cond c (K a) (K b)=K (cond c a b):=by cases c<;>rfl
def MT(u:UnitD):take 22 u.av=u.av:=rfl
def fG(u:UnitD):ble 22 (List.length u.av)=true:=rfl
def u2{u:UnitD}{f:Int->O R}:Aq .i64 (drop 2 u.av) f=f u.min:=Av
def u3{u:UnitD}{f:Int->O R}:Aq .i64 (drop 3 u.av) f=f u.max:=Av
def u5{u:UnitD}{f:Int->O R}:Aq .i64 (drop 5 u.av) f=f u.noLoad:=Av
def u6{u:UnitD}{f:Int->O R}:Aq .i64 (drop 6 u.av) f=f u.rampUp:=Av
def u7{u:UnitD}{f:Int->O R}:Aq .i64 (drop 7 u.av) f=f u.rampDown:=Av
def u8{u:UnitD}{f:Int->O R}:Aq .i64 (drop 8 u.av) f=f u.startRamp:=Av
def u9{u:UnitD}{f:Int->O R}:Aq .i64 (drop 9 u.av) f=f u.stopRamp:=Av
def Awa{u:UnitD}{f:Int->O R}:Aq .i64 (drop 10 u.av) f=f u.upTime:=Av
def Awb{u:UnitD}{f:Int->O R}:Aq .i64 (drop 11 u.av) f=f u.downTime:=Av
def Avc{u:UnitD}{f:Int->O R}:Aq .i64 (drop 12 u.av) f=f u.startTime:=Av
def Awc{u:UnitD}{f:Int->O R}:Aq .i64 (drop 13 u.av) f=f u.hotCost:=Av
def Awd{u:UnitD}{f:Int->O R}:Aq .i64 (drop 14 u.av) f=f u.coldCost:=Av
def Awe{u:UnitD}{f:Int->O R}:Aq .i64 (drop 15 u.av) f=f u.hotHours:=Av
def Asg{u:UnitD}{f:Int->O R}:Aq .i64 (drop 16 u.av) f=f u.reserve:=Av
def Avd{u:UnitD}{f:Int->O R}:Aq .i64 (drop 17 u.av) f=f u.reservePrice:=Av
def Aq6{u:UnitD}{f:Int->O R}:Aq .i64 (drop 19 u.av) f=f u.state:=Av
def Awf{u:UnitD}{f:Int->O R}:Aq .i64 (drop 20 u.av) f=f u.hours:=Av
def Ash{u:UnitD}{f:Int->O R}:Aq .i64 (drop 21 u.av) f=f u.output:=Av
def u4{u:UnitD}{f:LA->Nat->O R}:Bq 2 (drop 4 u.av) f=f (u.segs.l.flatMap SegD.av) u.segs.l.length:=H0
def Awg{u:UnitD}{f:LA->Nat->O R}:Bq 1 (drop 18 u.av) f=f (Aj u.away.l) u.away.l.length:=by rw[<-Fm];exact H0
def Hu(lo hi x:Int):Bool:=decide (lo<=x)&&decide (x<=hi)
def fH{N:Nat}{b c:Int}{e f:Bool}{K:Bool->O R}(l:List Int)(hs:l.length<=1000000000000):∀(m j fuel:Nat),j+m=l.length->m<fuel ->
  I3 N K b c (Aj l) l.length e f fuel (l.length:Int) (j:Int)=K ((l.drop j).all (Hu b c))
|0,j,fuel+1,k,_=>by
  rw[I3];unfold Sp
  rw[Ki (by omega),cf,Hw (by omega),A2m]
|m+1,j,fuel+1,k,C=>by
  rw[I3];unfold Sp
  have h:j<l.length:=by omega
  rw[Jo h,ct,Aa h,ct,Et h,wS (by omega),fH l hs m (j+1) fuel (by omega) (by omega),Fo h,Az3]
  simp only[cK];congr 1
  generalize (drop (j+1) l).all (Hu b c)=t
  rw[A0o];cases t<;>simp[Hu]<;>omega
def Zo{N:Nat}{b c:Int}{e f:Bool}{K:Bool->O R}(l:List Int)(n:Nat)(hn:n=l.length)(hN:l.length<N)(hs:l.length<=1000000000000):Dg N b c (Aj l) n e f K=K (l.all (Hu b c)):=by
 subst hn
 rw[RZ];unfold D_
 have:=fH (N:=N) (b:=b) (c:=c) (e:=e) (f:=f) (K:=K) l hs l.length 0 N (by omega) hN
 simpa using this
def ii(u:UnitD):Bool:=Hu 0 24 u.upTime&&(Hu 0 24 u.downTime&&(Hu 0 24 u.startTime&&(Hu 0 24 u.hotHours&&((u.state==0||(u.state==1||u.state==2))&&(Hu 1 48 u.hours&&(!(u.state==1)||decide (u.hours<=u.startTime)))))))
def ij{N:Nat}{u:UnitD}{b:Bool}{K:Bool->O R}:EE N K b u.av=K (Hu 1 48 u.hours&&(!(u.state==1)||decide (u.hours<=u.startTime))):=by
 unfold EE
 simp only[Awf,Aq6,Avc,cK];congr 1
 rw[A0o];simp[Hu];omega
def ik{N n:Nat}{u:UnitD}{d e f g:Int}{b:Bool}{K:Bool->O R}:Rj N K d e f g b u.av (n+5) 0 =
  K (Hu 0 24 d&&(Hu 0 24 e&&(Hu 0 24 f&&(Hu 0 24 g&&((u.state==0||(u.state==1||u.state==2))&&(Hu 1 48 u.hours&&(!(u.state==1)||decide (u.hours<=u.startTime)))))))):=by
 have a1:wrap .i64 ((0:Int)+1)=1:=by decide
 have a2:wrap .i64 ((1:Int)+1)=2:=by decide
 have a3:wrap .i64 ((2:Int)+1)=3:=by decide
 have a4:wrap .i64 ((3:Int)+1)=4:=by decide
 simp only[Rj,MC,ij,a1,a2,a3,a4,Aq6]
 simp[Ac,cK];congr 1
 generalize (decide (u.hours<=u.startTime))=t
 generalize Hu 1 48 u.hours=s
 by_cases k:u.state=0<;>by_cases C:u.state=1<;>by_cases D:u.state=2<;>first|omega|skip
 all_goals (rw[A0o];cases s<;>cases t<;>simp[Hu,k,C,D]<;>omega)
def te{N:Nat}{u:UnitD}{b:Bool}{K:Bool->O R}(hN:64<=N):SL N u.av b K=K (ii u):=by
 rw[dZ];unfold VC
 obtain⟨n,rfl⟩:∃ n,N=n+5:=⟨N - 5,by omega⟩
 simp only[Awa,Awb,Avc,Awe,ik];rfl
end
end Gx
namespace Gx
open Go Go.Proofs
section
variable{R:Type}
def Asx{N:Nat}{b c x:Int}{e f:Bool}{K:Bool->O R}(hN:64<=N):Dg N b c [.int .i64 x] 1 e f K=K (Hu b c x):=by
 have:=Zo (N:=N) (b:=b) (c:=c) (e:=e) (f:=f) (K:=K) [x] 1 rfl (by simp;omega) (by simp)
 simpa[Aj]using this
def Aw3{N:Nat}{b c x y:Int}{e f:Bool}{K:Bool->O R}(hN:64<=N):Dg N b c [.int .i64 x,.int .i64 y] 2 e f K=K (Hu b c x&&Hu b c y):=by
 have:=Zo (N:=N) (b:=b) (c:=c) (e:=e) (f:=f) (K:=K) [x,y] 2 rfl (by simp;omega) (by simp)
 simpa[Aj]using this
def Aw4{N:Nat}{b c x y z w:Int}{e f:Bool}{K:Bool->O R}(hN:64<=N):Dg N b c [.int .i64 x,.int .i64 y,.int .i64 z,.int .i64 w] 4 e f K=K (Hu b c x&&(Hu b c y&&(Hu b c z&&Hu b c w))):=by
 have:=Zo (N:=N) (b:=b) (c:=c) (e:=e) (f:=f) (K:=K) [x,y,z,w] 4 rfl (by simp;omega) (by simp)
 simpa[Aj]using this
def Aw5{N:Nat}{b c x y z w v:Int}{e f:Bool}{K:Bool->O R}(hN:64<=N):Dg N b c [.int .i64 x,.int .i64 y,.int .i64 z,.int .i64 w,.int .i64 v] 5 e f K=K (Hu b c x&&(Hu b c y&&(Hu b c z&&(Hu b c w&&Hu b c v)))):=by
 have:=Zo (N:=N) (b:=b) (c:=c) (e:=e) (f:=f) (K:=K) [x,y,z,w,v] 5 rfl (by simp;omega) (by simp)
 simpa[Aj]using this
def Ed(p:Int):List SegD->Bool
|[]=>true
|s::r=>Hu 1 1048576 s.width&&(Hu (-1048576) 1048576 s.price&&(decide (p<=s.price)&&Ed s.price r))
def Nd:List SegD->Int
|[]=>0
|s::r=>s.width+Nd r
def Abx(l:List SegD):Nat->Int
|0=>-1048576
|j+1=>((l[j]?).map (·.price)).getD 0
def rP{l:List SegD}{j:Nat}(h:j<l.length):Abx l (j+1)=l[j].price:=by simp[Abx,h]
def y9{l:List SegD}{j:Nat}(h:j<l.length):drop ((Int.toNat (j:Int))*2) (l.flatMap SegD.av)=(.int .i64 l[j].width)::(.int .i64 l[j].price)::(l.drop (j+1)).flatMap SegD.av:=by rw[Axm,Bh (e:=SegD.av) (sz:=2) (fun _=>rfl) _ _ h];rfl
def y_{x y:Int}{f:Int->O R}:Aq .i64 (setCells [A6r,A6r] 0 [.int .i64 x,.int .i64 y]) f=f x:=rfl
def ya{x y:Int}{f:Int->O R}:Aq .i64 (drop 1 (setCells [A6r,A6r] 0 [.int .i64 x,.int .i64 y])) f=f y:=rfl
def Agq{N:Nat}{u:UnitD}{b:Bool}{K:Bool->O R}(hN:64<=N)(G:0<=u.min/\u.min<=1048576)(I:0<=u.max/\u.max<=1048576)(L:u.segs.l.length<=8):∀(m j fuel:Nat)(g:Int),j+m=u.segs.l.length->m<fuel->(0<=g/\g<=1048576*(j:Int)) ->
  Cq N K (u.segs.l.flatMap SegD.av) u.segs.l.length b u.av fuel g (u.segs.l.length:Int) (j:Int)=K (Ed (Abx u.segs.l j) (u.segs.l.drop j)&&(g+Nd (u.segs.l.drop j)==u.max - u.min))
|0,j,fuel+1,g,T,_,_=>by
  rw[Cq];unfold Ii
  rw[Ki (by omega),cf,u3,u2,i64 (by omega),Hw (l:=u.segs.l) (by omega)]
  simp[Ed,Nd]
| m+1,j,fuel+1,g,T,hf,hg=>by
  rw[Cq];unfold Ii
  have h:j<u.segs.l.length:=by omega
  rw[Jo h,ct,Aa h,ct,y9 h]
  have p0:take 2 ((AV.int .i64 u.segs.l[j].width)::(AV.int .i64 u.segs.l[j].price)::(u.segs.l.drop (j+1)).flatMap SegD.av)=[.int .i64 u.segs.l[j].width,.int .i64 u.segs.l[j].price]:=rfl
  rw[p0,show ble 2 (List.length ((AV.int .i64 u.segs.l[j].width)::(AV.int .i64 u.segs.l[j].price)::(u.segs.l.drop (j+1)).flatMap SegD.av))=true by simp,ct]
  rw[show((!b)||A9 [AV.int .i64 u.segs.l[j].width,.int .i64 u.segs.l[j].price])=true by cases b<;>rfl,ct]
  rw[show((beq (List.length [AV.int .i64 u.segs.l[j].width,.int .i64 u.segs.l[j].price]) 2)&&((ble 2 2)&&(!false)))=true from rfl,ct,y_,ya,Asx hN]
  simp only[Asx hN]
  rw[Fo h,Ed,Nd]
  cases Y:Hu 1 1048576 u.segs.l[j].width with
  |false=>simp
  | true =>
   cases D:Hu (-1048576) 1048576 u.segs.l[j].price with
   |false=>simp
   | true =>
    simp only[Hu,Axr,decide_eq_true_eq]at Y D
    have step:=Agq (b:=b) (K:=K) hN G I L m (j+1) fuel (g+u.segs.l[j].width) (by omega) (by omega) (by omega)
    rw[rP h]at step
    have e1:wrap .i64 (g+u.segs.l[j].width)=g+u.segs.l[j].width:=i64 (by omega)
    have e2:wrap .i64 ((j:Int)+1)=((j+1:Nat):Int):=wS (by omega)
    unfold Ji
    simp only[u4,ya,y_,e1,e2,step]
    rcases j with _|j
    ·simp[Abx,D.1,Int.add_assoc]
    ·have k:j<u.segs.l.length:=by omega
     rw[wP (by omega),Aa k,ct,y9 k,Alm,ct]
     rw[show ∀ r:LA,drop 1 ((AV.int .i64 u.segs.l[j].width)::(AV.int .i64 u.segs.l[j].price)::r)=(AV.int .i64 u.segs.l[j].price)::r from fun _=>rfl,Av,rP k]
     simp only[A00,beq_self_eq_true,cK,Int.add_assoc,A3c]
     simp only[cond_true,cond_false]
     congr 1
     by_cases C:u.segs.l[j+1].price<u.segs.l[j].price
     ·simp[C,show ¬ u.segs.l[j].price<=u.segs.l[j+1].price by omega]
     ·simp[C,show u.segs.l[j].price<=u.segs.l[j+1].price by omega]
def rQ(u:UnitD):Bool:=decide (u.segs.l.length<=8)&&(Ed (-1048576) u.segs.l&&(Nd u.segs.l==u.max - u.min))
def Aog{N:Nat}{u:UnitD}{b:Bool}{K:Bool->O R}(hN:64<=N)(C:0<=u.min/\u.min<=1048576)(D:0<=u.max/\u.max<=1048576):G1 N u.av b K=K (rQ u):=by
 rw[W0];unfold M6
 rw[u4]
 by_cases k:u.segs.l.length<=8
 ·rw[show decide ((u.segs.l.length:Int)>8)=false by simp;omega,cf,u4]
  have:=Agq (b:=b) (K:=K) hN C D k u.segs.l.length 0 N 0 (by omega) (by omega) (by omega)
  simpa[rQ,k,Abx]using this
 ·rw[show decide ((u.segs.l.length:Int)>8)=true by simp;omega,ct]
  simp[rQ,k]
def MU(hi p:Int):List Int->Bool
|[]=>true
|x::r=>Hu 0 hi x&&(decide (p<x)&&MU hi x r)
def Aby(l:List Int):Nat->Int
|0=>-1
|j+1=>(l[j]?).getD 0
def rR{l:List Int}{j:Nat}(h:j<l.length):Aby l (j+1)=l[j]:=by simp[Aby,h]
def Agr{N:Nat}{l:List Int}{e e':Bool}{f hi:Int}{K:Bool->O R}(hN:64<=N)(G:l.length<=1000000000000)(D:wrap .i64 (f - 1)=hi):∀(m j fuel:Nat),j+m=l.length->m<fuel ->
  Gg N K (Aj l) l.length e e' f fuel (l.length:Int) (j:Int)=K (MU hi (Aby l j) (l.drop j))
|0,j,fuel+1,I,_=>by
  rw[Gg];unfold O2
  rw[Ki (by omega),cf,Hw (l:=l) (by omega),MU]
| m+1,j,fuel+1,I,L=>by
  rw[Gg];unfold O2
  have h:j<l.length:=by omega
  rw[Jo h,ct,Aa h,ct,Et h,Asx hN,D,wS (by omega),Agr hN G D m (j+1) fuel (by omega) (by omega),Fo h,MU,rR h]
  cases T:Hu 0 hi l[j]with
  |false=>simp
  | true =>
   simp only[Hu,Axr,decide_eq_true_eq]at T
   rcases j with _|j
   ·simp[Aby,show(-1:Int)<l[0] by omega]
   ·have k:j<l.length:=by omega
    rw[wP (by omega),Aa k,ct,Et k,Alm,ct,rR k]
    by_cases C:l[j]<l[j+1]
    ·simp[C,show ¬ l[j+1]<=l[j] by omega]
    ·simp[C,show l[j+1]<=l[j] by omega]
def Aoh{N:Nat}{l:List Int}{n:Nat}{e e':Bool}{f hi:Int}{K:Bool->O R}(hN:64<=N)(C:l.length<=1000000000000)(k:l.length<N)(hn:n=l.length)(D:wrap .i64 (f - 1)=hi):O3 N (Aj l) n e e' f K=K (MU hi (-1) l):=by
 subst hn
 rw[IA];unfold V9
 have:=Agr (N:=N) (e:=e) (e':=e') (K:=K) hN C D l.length 0 N (by omega) k
 simpa[Aby]using this
def Ai5(u:UnitD):Bool:=cond (u.state==2) (Hu u.min u.max u.output) (u.output==0)
def A8(u:UnitD)(hours:Int):Bool :=
 Hu 1 24 hours&&(ii u&&(Hu 0 1048576 u.min&&(Hu 0 1048576 u.max&&(Hu 0 1048576 u.rampUp&&(Hu 0 1048576 u.rampDown&&(Hu 0 1048576 u.reserve&&(decide (u.min<=u.max)&&(Hu u.min u.max u.startRamp&&(Hu u.min u.max u.stopRamp &&
 (Hu 0 1048576 u.noLoad&&(Hu 0 1048576 u.hotCost&&(Hu 0 1048576 u.coldCost&&(Hu 0 1048576 u.reservePrice&&(Ai5 u&&(rQ u&&MU (hours - 1) (-1) u.away.l)))))))))))))))
def th{N:Nat}{u:UnitD}{b:Bool}{k:Int}{K:Bool->O R}(hN:64<=N)(I:u.away.l.length<=1000000000000)(C:u.away.l.length<N):SO N u.av b k K=K (A8 u k):=by
 rw[d6];unfold VD
 rw[Asx hN]
 unfold A8
 cases L:Hu 1 24 k with
|false=>simp
| true =>
  have hh:1<=k/\k<=24:=by simpa[Hu]using L
  rw[MT,fG,ct,te hN]
  cases ii u with
  |false=>simp
  | true =>
   unfold EF MF
   simp only[u2,u3,u6,u7,Asg,Aw5 hN]
   cases D:Hu 0 1048576 u.min with
   |false=>simp
   | true =>
    cases G:Hu 0 1048576 u.max with
    |false=>simp
    |true =>
     unfold SN
     simp only[Hu,Axr,decide_eq_true_eq]at D G
     simp only[u2,u3,u5,u8,u9,Awc,Awd,Avd,Aq6,Ash,Awg,MT,fG,Aw3 hN,Aw4 hN,Asx hN,ct,Aog hN D G,Aoh hN I C rfl (i64 (a:=k - 1) (by omega))]
     simp[cK];congr 1
     unfold Ai5
     by_cases hs:u.state=2
     ·rw[A0o];simp[hs];grind
     ·rw[A0o];simp[hs];grind
def Ae2{v n:Int}(hn:0<n):Int.tmod (Int.tmod v n+n) n=v%n:=by
 have k:0<=Int.tmod v n+n:=by
  have:=A4h v hn;omega
 rw[A2x k,Int.tmod_def,show v - n*v.tdiv n+n=v+n*(1 - v.tdiv n) by rw[Int.mul_sub];omega,Int.add_mul_emod_self_left]
def Ai6{v n:Int}(hn:0<n)(k:n<=4611686018427387904):wrap .i64 (Int.tmod v n+n)=Int.tmod v n+n:=by
 have C:=A4h v hn
 have D:=A2y v hn
 exact i64 (by omega)
def Al3{N:Nat}{v n:Int}{K:Int->O R}(hn:0<n)(k:n<=4611686018427387904):Mb N v n K=K (v%n):=by
 rw[XP];unfold ZU
 rw[Ai6 hn k,Ae2 hn,show(n==0)=false by simp;omega,cf,cf]
def fI(v:Int){n:Int}(h:0<n):0<=v%n/\v%n<n:=⟨Int.emod_nonneg v (by omega),Int.emod_lt_of_pos v h⟩
def Hv(x y:Nat):Int:=if x<y then -1 else if y<x then 1 else 0
def Z9(x:Nat):Hv x x=0:=by unfold Hv;simp
def MV{a b:Nat}(h:(Ao a).length<(Ao b).length):a<b:=A2a fun k=>by have:=Br k;omega
def n7{u w p q P:Nat}(k:u<P)(C:w<P)(h:p<q):u+P*p<w+P*q:=by
 have:P*(p+1)<=P*q:=Aya _ h
 rw[Axx]at this
 omega
def vR{N:Nat}{x y:List Nat}{t u:Bool}{K:Int->O R}(D:Al x)(G:Al y)(hs:x.length<=1000000000000)(L:x.length=y.length):∀(i fuel:Nat),i<=x.length->i<fuel ->
  Fd N K (Ae x) x.length t (Ae y) y.length u fuel ((i:Int) - 1)=K (Hv (val (x.take i)) (val (y.take i)))
|0,fuel+1,_,_=>by
  rw[Fd];unfold Mq
  rw[show decide ((((0:Nat):Int) - 1)>=0)=false by simp,cf]
  simp[Z9]
| i+1,fuel+1,hi,T=>by
  rw[Fd];unfold Mq
  rw[show(((i+1:Nat):Int) - 1)=(i:Int) by omega,show decide ((i:Int)>=0)=true by simp,ct,Aa (by omega),ct,PO (by omega),Aa (by omega),ct,PO (by omega),ct,PO (by omega),ct,PO (by omega),i64 (by omega),
   vR D G hs L i fuel (by omega) (by omega),A0 (by omega),A0 (by omega)]
  have k:=Bc (Cg D i)
  have C:=Bc (Cg G i)
  rw[Ax6,Ayd (by omega)]at k C
  by_cases c1:x[i]<y[i]
  ·have:=n7 k C c1
   rw[show decide (((x[i]:Nat):Int)<((y[i]:Nat):Int))=true by simp;exact c1,ct]
   unfold Hv;rw[if_pos this]
  ·by_cases I:y[i]<x[i]
   ·have:=n7 C k I
    rw[show decide (((x[i]:Nat):Int)<((y[i]:Nat):Int))=false by simp;omega,cf,show decide (((x[i]:Nat):Int)>((y[i]:Nat):Int))=true by simp;exact I,ct]
    unfold Hv;rw[if_neg (by omega),if_pos this]
   ·have:x[i]=y[i]:=by omega
    rw[show decide (((x[i]:Nat):Int)<((y[i]:Nat):Int))=false by simp;omega,cf,show decide (((x[i]:Nat):Int)>((y[i]:Nat):Int))=false by simp;omega,cf,this]
    unfold Hv
    congr 1
    by_cases a1:val (x.take i)<val (y.take i)
    ·rw[if_pos a1,if_pos (by omega)]
    ·by_cases a2:val (y.take i)<val (x.take i)
     ·rw[if_neg a1,if_pos a2,if_neg (by omega),if_pos (by omega)]
     ·rw[if_neg a1,if_neg a2,if_neg (by omega),if_neg (by omega)]
def Rp{N:Nat}{a b:List Nat}{n m:Nat}{t o t' o':Bool}{K:Int->O R}(hn:n=a.length)(I:m=b.length)(C:Al a)(D:Al b)(k:fit (a.length+b.length) N):
  Ek N (Ae a) n t o (Ae b) m t' o' K=K (Hv (val a) (val b)):=by
 subst hn I
 have T:=k.1;have Y:=k.2
 rw[DK];unfold R9
 dsimp only
 rw[Bt rfl C (k.le (by omega)),Bt rfl D (k.le (by omega))]
 have la:=(Bi C).2
 have lb:=(Bi D).2
 by_cases G:(Ao (val a)).length=(Ao (val b)).length
 ·rw[show((((Ao (val a)).length:Nat):Int) != (((Ao (val b)).length:Nat):Int))=false by simp;omega,cf,i64 (by omega),vR (Ad _) (Ad _) (by omega) G _ N (Axo _) (by omega),Ayk,G,Ayk,Ak,Ak]
 ·rw[show((((Ao (val a)).length:Nat):Int) != (((Ao (val b)).length:Nat):Int))=true by simp;omega,ct]
  by_cases L:(Ao (val a)).length<(Ao (val b)).length
  ·have:=MV L
   rw[show decide ((((Ao (val a)).length:Nat):Int)<(((Ao (val b)).length:Nat):Int))=true by simp;omega,ct]
   unfold Hv;rw[if_pos this]
  ·have:=MV (show(Ao (val b)).length<(Ao (val a)).length by omega)
   rw[show decide ((((Ao (val a)).length:Nat):Int)<(((Ao (val b)).length:Nat):Int))=false by simp;omega,cf]
   unfold Hv;rw[if_neg (by omega),if_pos this]
def rS{N:Nat}{a:List Nat}{n:Nat}{t o:Bool}{K:Int->O R}(hn:n=a.length)(D:Al a)(k:fit a.length N):Uj N (Ae a) n t o K=K (Hv (val a) 0):=by
 subst hn
 have G:=k.1;have I:=k.2
 rw[RD];unfold DI
 dsimp only
 rw[Bt rfl D k,Aif (by omega)]
 by_cases C:val a=0
 ·rw[C,D8,Z9]
  cases N with
  |zero=>omega
  |succ N =>
   rw[Pu];unfold AW
   rw[i64 (by simp)];simp
 ·have L:(Ao (val a)).length≠0:=fun h=>C (Bl.1 h)
  rw[show((((Ao (val a)).length:Nat):Int) != (0:Int))=true by simp;exact fun h=>C (ow.1 h),ct]
  rw[show decide ((((Ao (val a)).length:Nat):Int)<(0:Int))=false by simp,cf]
  unfold Hv;rw[if_neg (by omega),if_pos (by omega)]
def fJ:∀{S:List Nat}{d v:Nat}(h:d<S.length),val (S.set d v)+4294967296 ^ d*S[d]=val S+4294967296 ^ d*v
|x::r,0,v,_=>by simp[val];omega
|x::r,d+1,v,h=>by
  have k:=fJ (S:=r) (d:=d) (v:=v) (by simpa using h)
  simp only[List.set_cons_succ,val,A10,Ax3]
  have e1:∀ y,4294967296 ^ d*4294967296*y=4294967296*(4294967296 ^ d*y):=fun y=>by rw[Axq (4294967296 ^ d),Axt]
  rw[e1,e1]
  omega
def Rq(b:List Nat)(d:Nat):val (b.take (d+1))=val (b.take d)+4294967296 ^ d*b.getD d 0:=by
 by_cases h:d<b.length
 ·rw[A0 h,Axu,Axn h];rfl
 ·rw[Axl (by omega),Axl (by omega),Axu,Ayz (by omega)];simp
def N8(P s:Nat):P*(s%4294967296)+P*4294967296*(s/4294967296)=P*s:=by rw[Axt,<-Axx,A0y,Ay6]
def Ai7(S:List Nat)(d:Nat):Prop:=∀ j (h:j<S.length),d<=j->S[j]=0
def E'{S:List Nat}{d v:Nat}(h:Ai7 S d):Ai7 (S.set d v) (d+1):=fun j k C=>by
 rw[A1k]
 rw[if_neg (by omega)]
 exact h j (by simpa using k) (by omega)
def Mi(n:Nat):Ai7 (replicate n 0) 0:=fun j k _=>by simp
def Wd{S:List Nat}{d v:Nat}(h:Ai7 S d)(k:d<S.length):val (S.set d v)=val S+4294967296 ^ d*v:=by
 have:=fJ (v:=v) k
 rw[h d k (Axo _)]at this;simpa using this
def Awh{a:Nat}(h:a<=1000000000000):wrap .i64 ((a:Int)+(1:Int))=((a+1:Nat):Int):=wS h
def Asy{x:Nat}{m:List Nat}(h:x<m.length):((beq 1 1)&&((ble ((0+(x*1))+1) (List.length (Ae m)))&&(!false)))=true:=by rw[Bp];simp;omega
def Aps{x v:Nat}{m:List Nat}:List.set (Ae m) (0+(x*1)) (.int .u32 (v:Int))=Ae (m.set x v):=by rw[Ax4,Ax0,cF]
def rT{N:Nat}{a b:List Nat}{t u:Bool}(ha:Al a)(hb:Al b)(D:fit (a.length+1) N)(G:b.length<=a.length):∀(m d fuel:Nat)(S:List Nat)(c:Nat),d+m=a.length->m<fuel->Al S->S.length=a.length+1->Ai7 S d->c<=1 ->
  val S+4294967296 ^ d*c=val (a.take d)+val (b.take d) ->
  ∃ S',Al S'/\S'.length=a.length+1/\val S'=val a+val b/\∀ K:Nat->LA->O R,Ux N K (Ae a) a.length t (Ae b) b.length u fuel (a.length+1) (c:Int) (a.length:Int) (d:Int) (Ae S)=K (Ao (val a+val b)).length (Ae S')
| 0,d,fuel+1,S,c,hd,_,hS,I,L,hc,hv=>by
  have h1:=D.1;have h2:=D.2
  have hd':d=a.length:=by omega
  subst hd'
  have T:val (S.set a.length c)=val a+val b:=by
   rw[Wd L (by omega),hv,Ayk,Axl G]
  have Y:=Cm hS (show c<4294967296 by omega) a.length
  refine⟨S.set a.length c,Y,by simpa using I,T,fun K=>?_⟩
  rw[Ux];unfold BP
  rw[Ki (Axo _),cf,Aa (by omega),ct,Asy (by omega),ct,Agn (by omega),Aps,HB (by simp;omega) Y (by simp only[List.length_set,I];exact D),T]
| m+1,d,fuel+1,S,c,hd,hfu,hS,I,L,hc,hv=>by
  have h1:=D.1;have h2:=D.2
  have k:d<a.length:=by omega
  have ad:=A3 ha k
  have step:∀ s:Nat,s<8589934592->s=c+a[d]+b.getD d 0->val (S.set d (s%4294967296))+4294967296 ^ (d+1)*(s/4294967296)=val (a.take (d+1))+val (b.take (d+1)):=by
   intro s _ hs
   rw[Wd L (by omega),A0 k,Rq b d,Ax3]
   have e:=N8 (4294967296 ^ d) s
   have e2:4294967296 ^ d*s=4294967296 ^ d*c+4294967296 ^ d*a[d]+4294967296 ^ d*b.getD d 0:=by rw[hs,Axx,Axx]
   omega
  by_cases C:d<b.length
  ·have bd:=A3 hb C
   have hg:b.getD d 0=b[d]:=by rw[Axu,Axn C];rfl
   obtain⟨S',q1,q2,q3,q4⟩:=rT (t:=t) (u:=u) ha hb D G m (d+1) fuel (S.set d ((c+a[d]+b[d])%4294967296)) ((c+a[d]+b[d])/4294967296) (by omega) (by omega) (Cm hS (by omega) d) (by simpa using I) (E' L) (by omega) (step _ (by omega) (by rw[hg]))
   refine⟨S',q1,q2,q3,fun K=>?_⟩
   rw[Ux];unfold BP
   rw[Jo k,ct,Aa k,ct,PO k,Jo C,ct,Aa C,ct,PO C,Aa (by omega),ct,uX (by omega),ct,Iu (by omega),Iu (by omega),GX,Iu (by omega),GX,Iu (by omega),gd,ZB,RH,wS (by omega)]
   exact q4 K
  ·have hg:b.getD d 0=0:=by rw[Axu,Ayz (by omega)];rfl
   obtain⟨S',q1,q2,q3,q4⟩:=rT (t:=t) (u:=u) ha hb D G m (d+1) fuel (S.set d ((c+a[d])%4294967296)) ((c+a[d])/4294967296) (by omega) (by omega) (Cm hS (by omega) d) (by simpa using I) (E' L) (by omega) (step _ (by omega) (by rw[hg];rfl))
   refine⟨S',q1,q2,q3,fun K=>?_⟩
   rw[Ux];unfold BP
   rw[Jo k,ct,Aa k,ct,PO k,Ki (by omega),cf,Aa (by omega),ct,uX (by omega),ct,Iu (by omega),GX,Iu (by omega),gd,ZB,RH,wS (by omega)]
   exact q4 K
def io{N:Nat}{a b:List Nat}{t u:Bool}(D:Al a)(G:Al b)(k:fit (a.length+1) N)(C:b.length<=a.length):
  ∃ S',Al S'/\val S'=val a+val b/\∀ K:Nat->LA->O R,HR N K (Ae a) a.length t (Ae b) b.length u=K (Ao (val a+val b)).length (Ae S'):=by
 have Y:=k.1;have h2:=k.2
 obtain⟨S',I,_,L,T⟩:=rT (R:=R) (t:=t) (u:=u) D G k C a.length 0 N (replicate (a.length+1) 0) 0 (by omega) (by omega) (Cj _) (by simp) (Mi _) (by omega) (by rw[Ej];simp[val])
 refine⟨S',I,L,fun K=>?_⟩
 unfold HR Z_
 rw[Awh (by omega),Akd (by omega),ct,Axm,C2]
 exact T K
def Al4{N:Nat}{a b:List Nat}{n m:Nat}{t o t' o':Bool}(hn:n=a.length)(T:m=b.length)(D:Al a)(G:Al b)(k:fit (a.length+b.length+1) N):
  ∃ S',Al S'/\val S'=val a+val b/\∀ K:Nat->LA->O R,pj N (Ae a) n t o (Ae b) m t' o' K=K (Ao (val a+val b)).length (Ae S'):=by
 subst hn T
 have la:=(Bi D).2
 have lb:=(Bi G).2
 by_cases Y:(Ao (val a)).length<(Ao (val b)).length
 ·obtain⟨S',I,C,L⟩:=io (R:=R) (N:=N) (a:=Ao (val b)) (b:=Ao (val a)) (t:=o') (u:=o) (Ad _) (Ad _) (k.le (by omega)) (by omega)
  rw[Ak,Ak,A0y]at C
  refine⟨S',I,C,fun K=>?_⟩
  rw[Z'];unfold dN
  rw[Bt rfl D (k.le (by omega)),Bt rfl G (k.le (by omega)),Jo Y,ct,L,Ak,Ak,A0y (val b)]
 ·obtain⟨S',I,C,L⟩:=io (R:=R) (N:=N) (a:=Ao (val a)) (b:=Ao (val b)) (t:=o) (u:=o') (Ad _) (Ad _) (k.le (by omega)) (by omega)
  rw[Ak,Ak]at C
  refine⟨S',I,C,fun K=>?_⟩
  rw[Z'];unfold dN
  rw[Bt rfl D (k.le (by omega)),Bt rfl G (k.le (by omega)),Ki (by omega),cf,L,Ak,Ak]
def VG{x y:Nat}(k:x<4294967296)(C:y<=4294967296):∃ d c:Nat,d<4294967296/\c<=1/\x+4294967296*c=d+y/\wrap .u32 (wrap .u64 ((x:Int) - (y:Int)))=(d:Int)/\Int.fdiv (wrap .u64 ((x:Int) - (y:Int))) (2 ^ 63)=(c:Int):=by
 by_cases h:y<=x
 ·refine⟨x - y,0,by omega,by omega,by omega,?_,?_⟩
  ·rw[gc (by omega) h,Agn (by omega)]
  ·rw[gc (by omega) h,Asw,Ay4 (by omega)]
 ·refine⟨x+4294967296 - y,1,by omega,by omega,by omega,?_,?_⟩
  ·rw[All (by omega) (by omega),ZB];congr 1;omega
  ·rw[All (by omega) (by omega),Asw];congr 1;omega
def Aoi{x c w:Nat}(k:x<4294967296)(hc:c<=1)(C:w<4294967296):wrap .u64 ((wrap .u64 ((x:Int) - (c:Int))) - (w:Int))=wrap .u64 ((x:Int) - ((c+w:Nat):Int)):=by rw[ZC,ZC,ZC];omega
def rU{N:Nat}{a b:List Nat}{t u:Bool}(ha:Al a)(hb:Al b)(I:fit a.length N)(D:b.length<=a.length)(L:val b<=val a):∀(m d fuel:Nat)(S:List Nat)(c:Nat),d+m=a.length->m<fuel->Al S->S.length=a.length->Ai7 S d->c<=1 ->
  val S+val (b.take d)=val (a.take d)+4294967296 ^ d*c ->
  ∃ S',Al S'/\val S'=val a - val b/\∀ K:Nat->Bool->LA->O R,Rf N K (Ae b) b.length t a.length (Ae a) u fuel (c:Int) (a.length:Int) (d:Int) (Ae S)=K (Ao (val a - val b)).length true (Ae S')
| 0,d,fuel+1,S,c,hd,_,hS,G,hz,hc,hv=>by
  have hd':d=a.length:=by omega
  subst hd'
  rw[Ayk,Axl D]at hv
  have hlt:=Bc hS
  rw[G]at hlt
  have hc0:c=0:=by
   rcases A2o 0 c with h|h
   ·exfalso
    have:c=1:=by omega
    subst this
    omega
   ·omega
  subst hc0
  have T:val S=val a - val b:=by omega
  refine⟨S,hS,T,fun K=>?_⟩
  rw[Rf];unfold BN
  rw[Ki (Axo _),cf,HB G.symm hS (by rw[G];exact I),T]
| m+1,d,fuel+1,S,c,hd,hfu,hS,G,hz,hc,hv=>by
  have h1:=I.1;have h2:=I.2
  have k:d<a.length:=by omega
  have ad:=A3 ha k
  have step:∀ y g c':Nat,y=c+b.getD d 0->a[d]+4294967296*c'=g+y->val (S.set d g)+val (b.take (d+1))=val (a.take (d+1))+4294967296 ^ (d+1)*c':=by
   intro y g c' hy Y
   rw[Wd hz (by omega),A0 k,Rq b d,Ax3,Axt]
   have e:4294967296 ^ d*(a[d]+4294967296*c')=4294967296 ^ d*(g+(c+b.getD d 0)):=by rw[Y,hy]
   rw[Axx,Axx,Axx]at e
   omega
  by_cases C:d<b.length
  ·have bd:=A3 hb C
   have Y:b.getD d 0=b[d]:=by rw[Axu,Axn C];rfl
   obtain⟨g,c',g1,g2,g3,g4,g5⟩:=VG ad (show c+b[d]<=4294967296 by omega)
   obtain⟨S',q1,q3,q4⟩:=rU (t:=t) (u:=u) ha hb I D L m (d+1) fuel (S.set d g) c' (by omega) (by omega) (Cm hS g1 d) (by simpa using G) (E' hz) g2 (step _ _ _ (by rw[Y]) g3)
   refine⟨S',q1,q3,fun K=>?_⟩
   rw[Rf];unfold BN
   rw[Jo k,ct,Aa k,ct,PO k,Jo C,ct,Aa C,ct,PO C,ct,uX (by omega),ct,Iu (show a[d]<18446744073709551616 by omega),Iu (show b[d]<18446744073709551616 by omega),Aoi ad hc bd,g4,g5,RH,wS (by omega)]
   exact q4 K
  ·have Y:b.getD d 0=0:=by rw[Axu,Ayz (by omega)];rfl
   obtain⟨g,c',g1,g2,g3,g4,g5⟩:=VG ad (show c<=4294967296 by omega)
   obtain⟨S',q1,q3,q4⟩:=rU (t:=t) (u:=u) ha hb I D L m (d+1) fuel (S.set d g) c' (by omega) (by omega) (Cm hS g1 d) (by simpa using G) (E' hz) g2 (step _ _ _ (by rw[Y];rfl) g3)
   refine⟨S',q1,q3,fun K=>?_⟩
   rw[Rf];unfold BN
   rw[Jo k,ct,Aa k,ct,PO k,Ki (by omega),cf,ct,uX (by omega),ct,Iu (show a[d]<18446744073709551616 by omega),g4,g5,RH,wS (by omega)]
   exact q4 K
def rV{N:Nat}{a b:List Nat}{n m:Nat}{t o t' o':Bool}(hn:n=a.length)(T:m=b.length)(G:Al a)(I:Al b)(k:fit (a.length+b.length) N)(C:val b<=val a):
  ∃ S',Al S'/\val S'=val a - val b/\∀ K:Nat->Bool->LA->O R,R_ N (Ae a) n t o (Ae b) m t' o' K=K (Ao (val a - val b)).length true (Ae S'):=by
 subst hn T
 have h1:=k.1;have h2:=k.2
 have la:=(Bi G).2
 have lb:=(Bi I).2
 have D:=Br C
 obtain⟨S',Y,L,q3⟩:=rU (R:=R) (N:=N) (a:=Ao (val a)) (b:=Ao (val b)) (t:=o') (u:=o) (Ad _) (Ad _) (k.le (by omega)) D (by rw[Ak,Ak];exact C) (Ao (val a)).length 0 N (replicate (Ao (val a)).length 0) 0 (by omega) (by omega) (Cj _) (by simp) (Mi _) (by omega) (by rw[Ej];simp[val])
 rw[Ak,Ak]at L
 refine⟨S',Y,L,fun K=>?_⟩
 rw[ZW];unfold dL
 dsimp only
 rw[Bt rfl G (k.le (by omega)),Bt rfl I (k.le (by omega)),Rp rfl rfl (Ad _) (Ad _) (k.le (by omega)),Ak,Ak]
 have:decide (Hv (val a) (val b)<0)=false:=by unfold Hv;split<;>(try split)<;>simp<;>omega
 rw[this,cf,Akd (by omega),ct,C2]
 have:=q3 K
 rw[Ak,Ak]at this
 exact this
def Al5{N:Nat}{a b:List Nat}{n m:Nat}{t o t' o':Bool}{K:Nat->Bool->LA->O R}(hn:n=a.length)(I:m=b.length)(D:Al a)(G:Al b)(k:fit (a.length+b.length) N)(C:val a<val b):
  R_ N (Ae a) n t o (Ae b) m t' o' K=K 0 false []:=by
 subst hn I
 have la:=(Bi D).2
 have lb:=(Bi G).2
 rw[ZW];unfold dL
 dsimp only
 rw[Bt rfl D (k.le (by omega)),Bt rfl G (k.le (by omega)),Rp rfl rfl (Ad _) (Ad _) (k.le (by omega)),Ak,Ak]
 have:decide (Hv (val a) (val b)<0)=true:=by unfold Hv;rw[if_pos C];rfl
 rw[this,ct]
def ti{n:Nat}(h:n≠0):((n:Int)==(0:Int))=false:=by rw[beq_eq_false_iff_ne];omega
def Awi{n:Nat}(h:n=0):((n:Int)==(0:Int))=true:=by subst h;rfl
def Ae3:∀{S:List Nat}{j:Nat}(h:j<S.length),4294967296 ^ j*S[j]<=val S
|x::r,0,_=>by simp[val]
|x::r,j+1,h=>by
  have:=Ae3 (S:=r) (j:=j) (by simpa using h)
  simp only[A10,val,Ax3]
  rw[Axq (4294967296 ^ j),Axt]
  omega
def Al6{S:List Nat}{k:Nat}(h:val S<4294967296 ^ k):Ai7 S k:=fun j D G=>by
 have I:=Ae3 D
 have L:4294967296 ^ k<=4294967296 ^ j:=Aym (by omega) G
 rcases Ayf S[j]with C|C
 ·exact C
 ·have:=A1z (4294967296 ^ j) C
  omega
def Abz{p q y s:Nat}(k:p<4294967296)(hq:q<4294967296)(C:y<4294967296)(hs:s<4294967296):p+(q*y+s)<18446744073709551616:=by
 have:q*y<=4294967295*4294967295:=Azk (by omega) (by omega)
 omega
def Al7{N:Nat}{x y:List Nat}{c d:Bool}{f q J:Nat}(hy:Al y)(hq:q<4294967296)(hf:f<x.length)(hs:x.length+y.length<=1000000000000):∀(m l fuel:Nat)(S:List Nat)(p:Nat)(v:Nat),l+m=y.length->m<fuel->Al S->S.length=x.length+y.length->Ai7 S (f+y.length)->p<4294967296 ->
  val S+4294967296 ^ (f+l)*p=v+4294967296 ^ f*(q*val (y.take l)) ->
  ∃ S',Al S'/\S'.length=x.length+y.length/\val S'=v+4294967296 ^ f*(q*val y)/\∀(D:Nat->Int->Int->LA->O R)(K:Nat->LA->O R),Uk N D K (Ae y) y.length d (x.length+y.length) (f:Int) (q:Int) (Ae x) x.length c (J:Int) fuel (p:Int) (y.length:Int) (l:Int) (Ae S)=D (x.length+y.length) J ((f+1:Nat):Int) (Ae S')
|0,l,fuel+1,S,p,v,hl,_,hS,k,L,I,T=>by
  have Y:l=y.length:=by omega
  subst Y
  rw[Ayk]at T
  refine⟨S.set (f+y.length) p,Cm hS I _,by simpa using k,by rw[Wd L (by omega),T],fun D K=>?_⟩
  rw[Uk];unfold KS
  rw[Ki (Axo _),cf,wA (by omega),Aa (by omega),ct,uX (by omega),ct,Agn I,RH,wS (by omega)]
| m+1,l,fuel+1,S,p,v,hl,hfu,hS,k,L,I,T=>by
  have C:l<y.length:=by omega
  have yl:=A3 hy C
  have hi:f+l<S.length:=by omega
  have sl:=A3 hS hi
  have hw:=Abz I hq yl sl
  have hqy:q*y[l]<18446744073709551616:=by omega
  generalize G:p+(q*y[l]+S[f+l])=s at *
  have hset:=fJ (v:=s%4294967296) hi
  have key:val (S.set (f+l) (s%4294967296))+4294967296 ^ (f+(l+1))*(s/4294967296)=v+4294967296 ^ f*(q*val (y.take (l+1))):=by
   rw[A0 C,<-Ay8 f l 1,Ax3]
   have e:=N8 (4294967296 ^ (f+l)) s
   have e2:4294967296 ^ (f+l)*s=4294967296 ^ (f+l)*p+(4294967296 ^ (f+l)*(q*y[l])+4294967296 ^ (f+l)*S[f+l]):=by rw[<-G,Axx,Axx]
   have e3:4294967296 ^ f*(q*(val (y.take l)+4294967296 ^ l*y[l]))=4294967296 ^ f*(q*val (y.take l))+4294967296 ^ (f+l)*(q*y[l]):=by
    rw[Axx,Axx,Ay0]
    congr 1
    rw[Axt];congr 1
    rw[<-Axt,<-Axt,Axq q]
   omega
  obtain⟨S',q1,q2,q3,q4⟩:=Al7 (N:=N) (x:=x) (c:=c) (d:=d) (J:=J) hy hq hf hs m (l+1) fuel (S.set (f+l) (s%4294967296)) (s/4294967296) v (by omega) (by omega) (Cm hS (by omega) _) (by simpa using k) (fun j hj hk=>by
   rw[A1k,if_neg (by omega)];exact L j (by simpa using hj) hk) (by omega) key
  refine⟨S',q1,q2,q3,fun D K=>?_⟩
  rw[Uk];unfold KS
  rw[Jo C,ct,Aa C,ct,PO C,wA (by omega),Aa (by omega),ct,cT hi,ct,uX hi,ct,Iu (show q<18446744073709551616 by omega),Iu (show y[l]<18446744073709551616 by omega),Iu (show S[f+l]<18446744073709551616 by omega),pA,Iu hqy,GX,Iu (by omega),GX,G,Iu hw,gd,ZB,RH,wS (by omega)]
  exact q4 D K
def yb{N:Nat}{x y:List Nat}{c d:Bool}(T:Al x)(Y:Al y)(C:fit (x.length+y.length) N):∀(m f fuel:Nat)(S:List Nat),f+m=x.length->m<fuel->Al S->S.length=x.length+y.length ->
  val S=val (x.take f)*val y ->
  ∃ S',Al S'/\val S'=val x*val y/\∀ K:Nat->LA->O R,Ou N K (Ae y) y.length d (Ae x) x.length c fuel (x.length+y.length) (x.length:Int) (f:Int) (Ae S)=K (Ao (val x*val y)).length (Ae S')
|0,f,fuel+1,S,hf,_,hS,D,L=>by
  have hf':f=x.length:=by omega
  subst hf'
  rw[Ayk]at L
  refine⟨S,hS,L,fun K=>?_⟩
  rw[Ou];unfold AY
  rw[Ki (Axo _),cf,HB D.symm hS (by rw[D];exact C),L]
| m+1,f,fuel+1,S,hf,hfu,hS,D,L=>by
  have h1:=C.1;have h2:=C.2
  have k:f<x.length:=by omega
  have xf:=A3 T k
  have b1:=Bc (Cg T f)
  rw[Ax6,Ayd (by omega)]at b1
  have b2:=Bc Y
  have I:val S<4294967296 ^ (f+y.length):=by
   rw[L,Ay0];exact Ay1 b1 b2
  have G:val (x.take (f+1))*val y=val S+4294967296 ^ f*(x[f]*val y):=by
   rw[A0 k,Ax2,L,Axt]
  by_cases h0:x[f]=0
  ·obtain⟨S',q1,q2,q3⟩:=yb (c:=c) (d:=d) T Y C m (f+1) fuel S (by omega) (by omega) hS D (by rw[G,h0];simp)
   refine⟨S',q1,q2,fun K=>?_⟩
   rw[Ou];unfold AY
   rw[Jo k,ct,Aa k,ct,PO k,show(((x[f]:Nat):Int)==0)=true by simp[h0],ct,wS (by omega)]
   exact q3 K
  ·obtain⟨S1,p1,p2,p3,p4⟩:=Al7 (R:=R) (N:=N) (x:=x) (y:=y) (c:=c) (d:=d) (f:=f) (q:=x[f]) (J:=x.length) Y xf k (by omega) y.length 0 N S 0 (val S) (by omega) (by omega) hS D (Al6 I) (by omega) (by simp[val])
   obtain⟨S',q1,q2,q3⟩:=yb (c:=c) (d:=d) T Y C m (f+1) fuel S1 (by omega) (by omega) p1 p2 (by rw[p3,G])
   refine⟨S',q1,q2,fun K=>?_⟩
   rw[Ou];unfold AY
   rw[Jo k,ct,Aa k,ct,PO k,show(((x[f]:Nat):Int)==0)=false by simp;exact h0,cf]
   have:=p4 (Ou N K (Ae y) y.length d (Ae x) x.length c fuel) K
   simp only[A0h]at this
   dsimp only
   rw[this]
   exact q3 K
def TB{N:Nat}{a b:List Nat}{n m:Nat}{t o t' o':Bool}(hn:n=a.length)(T:m=b.length)(G:Al a)(I:Al b)(k:fit (a.length+b.length) N):
  ∃ S',Al S'/\val S'=val a*val b/\∀ K:Nat->LA->O R,KT N (Ae a) n t o (Ae b) m t' o' K=K (Ao (val a*val b)).length (Ae S'):=by
 subst hn T
 have h1:=k.1;have h2:=k.2
 have la:=(Bi G).2
 have lb:=(Bi I).2
 by_cases C:val a=0
 ·refine⟨[],Ug,by rw[C];simp[val],fun K=>?_⟩
  rw[KU];unfold UU
  dsimp only
  rw[Bt rfl G (k.le (by omega)),Bt rfl I (k.le (by omega)),C,A2q,D8];rfl
 ·by_cases D:val b=0
  ·refine⟨[],Ug,by rw[D];simp[val],fun K=>?_⟩
   rw[KU];unfold UU
   dsimp only
   rw[Bt rfl G (k.le (by omega)),Bt rfl I (k.le (by omega)),D,Nat.mul_zero,D8]
   cases ((((Ao (val a)).length:Nat):Int)==0)<;>rfl
  ·obtain⟨S',Y,L,q3⟩:=yb (R:=R) (N:=N) (x:=Ao (val a)) (y:=Ao (val b)) (c:=o) (d:=o') (Ad _) (Ad _) (k.le (by omega)) (Ao (val a)).length 0 N (replicate ((Ao (val a)).length+(Ao (val b)).length) 0) (by omega) (by omega) (Cj _) (by simp) (by rw[Ej];simp[val])
   rw[Ak,Ak]at L
   refine⟨S',Y,L,fun K=>?_⟩
   rw[KU];unfold UU
   dsimp only
   have n1:(Ao (val a)).length≠0:=fun h=>C (Bl.1 h)
   have n2:(Ao (val b)).length≠0:=fun h=>D (Bl.1 h)
   rw[Bt rfl G (k.le (by omega)),Bt rfl I (k.le (by omega)),ti n1,show((false:Bool)==false)=true by rfl,ct,Av6,ti n2,cf]
   unfold UT ZG
   rw[wA (by omega),Akd (by omega),ct,Axm,C2]
   have:=q3 K
   rw[Ak,Ak]at this
   exact this
def fK{v:Nat}(h:(Ao v).length<=2):v<18446744073709551616:=by
 have:=Bc (Ad v)
 rw[Ak]at this
 have k:4294967296 ^ (Ao v).length<=4294967296 ^ 2:=Aym (by omega) h
 omega
def Zp{v:Nat}(h:v<18446744073709551616):(Ao v).length<=2:=C1 (by simpa using h)
def IN{N:Nat}{l:List Nat}{n:Nat}{t o:Bool}{K:Int->O R}(hn:n=l.length)(k:Al l)(C:l.length<=2)(hN:4<=N):R6 N (Ae l) n t o K=K (val l:Int):=by
 subst hn
 obtain⟨M,rfl⟩:∃ M,N=M+4:=⟨N - 4,by omega⟩
 rw[jv];unfold cI
 match l,k,C with
|[],_,_ =>
  rw[Ix];unfold J8
  simp[val]
|[x],k,_ =>
  have D:=(De.1 k).1
  rw[Ix];unfold J8
  simp only[Ayb,Az4,Int.toNat_zero,A2q,Ayh,Z5,Av]
  rw[show decide ((0:Int)<((0+1:Nat):Int))=true by decide,ct,show Ac 0 (0+1)=true by decide,ct,show wrap .i64 ((32:Int)*0)=0 by decide,show decide ((0:Int)<0)=false by decide,cf]
  rw[Ix];unfold J8
  rw[show wrap .i64 ((0:Int)+1)=1 by decide,show decide ((1:Int)<((0+1:Nat):Int))=false by decide,cf]
  have e:wrap .u64 ((wrap .u64 (x:Int))*2 ^ (min (Int.toNat 0) 64))=(x:Int):=by rw[Iu (by omega)];simp;exact Iu (by omega)
  rw[e,show(0:Int)=((0:Nat):Int) by rfl,Ad7 (by omega) (by omega)]
  simp[val]
| [x,y],k,_ =>
  have D:=(De.1 k).1
  have I:=(De.1 (De.1 k).2).1
  rw[Ix];unfold J8
  simp only[Ayb,Az4,Int.toNat_zero,A2q,Ayh,Z5,Av]
  rw[show decide ((0:Int)<((0+1+1:Nat):Int))=true by decide,ct,show Ac 0 (0+1+1)=true by decide,ct,show wrap .i64 ((32:Int)*0)=0 by decide,show decide ((0:Int)<0)=false by decide,cf]
  rw[Ix];unfold J8
  rw[show wrap .i64 ((0:Int)+1)=1 by decide,show decide ((1:Int)<((0+1+1:Nat):Int))=true by decide,ct,show Ac 1 (0+1+1)=true by decide,ct,show wrap .i64 ((32:Int)*1)=32 by decide,show decide ((32:Int)<0)=false by decide]
  simp only[show Int.toNat 1*1=1 by rfl,Ay2,Ayh,Av,cf]
  rw[Ix];unfold J8
  rw[show wrap .i64 ((1:Int)+1)=2 by decide,show decide ((2:Int)<((0+1+1:Nat):Int))=false by decide,cf]
  have e:wrap .u64 ((wrap .u64 (x:Int))*2 ^ (min (Int.toNat 0) 64))=(x:Int):=by rw[Iu (by omega)];simp;exact Iu (by omega)
  have G:wrap .u64 ((wrap .u64 (y:Int))*2 ^ (min (Int.toNat 32) 64))=((y*2 ^ 32:Nat):Int):=by
   rw[Iu (by omega),show(2:Int) ^ (min (Int.toNat 32) 64)=((2 ^ 32:Nat):Int) by rfl,pA,Iu (by omega)]
  rw[e,G,show(0:Int)=((0:Nat):Int) by rfl,Ad7 (by omega) (by omega),Ad7 (by simp;omega) (by omega),Nat.zero_or,A46,ge (by omega)]
  congr 1;simp only[val];omega
def Ld{N:Nat}{v:Nat}(D:v<18446744073709551616)(hN:4<=N):∃ S,Al S/\val S=v/\∀ K:Nat->LA->O R,Bx N (v:Int) K=K (Ao v).length (Ae S):=by
 have C:Al [v%4294967296,v/4294967296]:=De.2 ⟨by omega,De.2 ⟨by omega,Ug⟩⟩
 have k:val [v%4294967296,v/4294967296]=v:=by simp[val];omega
 refine⟨_,C,k,fun K=>?_⟩
 rw[DG];unfold AU
 rw[ZB,gd,Agn (show v/4294967296<4294967296 by omega)]
 have:=pM (R:=R) (N:=N) (l:=[v%4294967296,v/4294967296]) (K:=fun c=>K c (Ae [v%4294967296,v/4294967296])) C (by simp) 2 N (by simp) (by omega)
 rw[show [v%4294967296,v/4294967296].take 2=[v%4294967296,v/4294967296] by rfl,k]at this
 rw[ZD];unfold cG
 exact this
def N9{N:Nat}{l:List Nat}{n:Nat}{t o:Bool}{K:Int->Bool->O R}(hn:n=l.length)(C:Al l)(k:fit l.length N):GY N (Ae l) n t o K=if val l<18446744073709551616 then K (val l:Int) true else K 0 false:=by
 have G:=k.1
 rw[XC];unfold ZF
 rw[Bt hn C k]
 by_cases h:val l<18446744073709551616
 ·have:=Zp h
  rw[if_pos h,show decide ((((Ao (val l)).length:Nat):Int)>2)=false by simp;omega,cf,IN rfl (Ad _) this (by omega),Ak]
 ·have:¬ (Ao (val l)).length<=2:=fun D=>h (fK D)
  rw[if_neg h,show decide ((((Ao (val l)).length:Nat):Int)>2)=true by simp;omega,ct]
def VH{N:Nat}{l:List Nat}{n:Nat}{t o:Bool}{K:Nat->LA->O R}(hn:n=l.length)(C:Al l)(k:fit l.length N):DJ N (Ae l) n t o K=K (Ao (val l)).length (Ae (Ao (val l))):=by
 have D:=k.1;have G:=k.2
 have:=(Bi C).2
 rw[jx];unfold pJ
 rw[Bt hn C k,Akd (by omega),ct,DF,A0b,ct]
 congr 1
 unfold Dd
 rw[Nat.min_self,Ax4,A0k,A0e,Axl (by rw[Bp];exact Axo _),Ayv (by simp[Bp]),Ay5]
def Aw6:Lu:=[0,1,2,2,3,3,3,3,4,4,4,4,4,4,4,4,5,5,5,5,5,5,5,5,5,5,5,5,5,5,5,5,6,6,6,6,6,6,6,6,6,6,6,6,6,6,6,6,6,6,6,6,6,6,6,6,6,6,6,6,6,6,6,6,7,7,7,7,7,7,7,7,7,7,7,7,7,7,7,7,7,7,7,7,7,7,7,7,7,7,7,7,7,7,7,7,7,7,7,7,7,7,7,7,7,7,7,7,7,7,7,7,7,7,7,7,7,7,7,7,7,7,7,7,7,7,7,7,8,8,8,8,8,8,8,8,8,8,8,8,8,8,8,8,8,8,8,8,8,8,8,8,8,8,8,8,8,8,8,8,8,8,8,8,8,8,8,8,8,8,8,8,8,8,8,8,8,8,8,8,8,8,8,8,8,8,8,8,8,8,8,8,8,8,8,8,8,8,8,8,8,8,8,8,8,8,8,8,8,8,8,8,8,8,8,8,8,8,8,8,8,8,8,8,8,8,8,8,8,8,8,8,8,8,8,8,8,8,8,8,8,8,8,8,8,8,8,8,8,8,8,8,8,8,8,8]
def Aoj:∀ i:Fin 256,0<i.1->2 ^ (Aw6.getD i.1 0).toNat<=2*i.1/\i.1<2 ^ (Aw6.getD i.1 0).toNat:=by decide +kernel
def rW{k y x m:Nat}(h:2 ^ k<=2*y/\y<2 ^ k)(C:y=x/2 ^ m):2 ^ (k+m)<=2*x/\x<2 ^ (k+m):=by
 have D:0<2 ^ m:=Azf (by omega)
 have G:x<2 ^ m*(y+1):=by rw[C];have:=Ay6 x (2 ^ m);have:=Azo x D;rw[Axx];omega
 have I:2 ^ m*y<=x:=by rw[C];exact Nat.mul_div_le x _
 have L:2 ^ m*(y+1)<=2 ^ m*2 ^ k:=Aya _ h.2
 have T:2 ^ m*2 ^ k<=2 ^ m*(2*y):=Aya _ h.1
 rw[Ay0,Axq (2 ^ k)]
 have Y:2 ^ m*(2*y)=2*(2 ^ m*y):=by rw[Az0]
 omega
def Apt{a:Nat}(h:a<256):wrap .u8 (a:Int)=(a:Int):=by rw[wrap_u8];congr 1;omega
def Apu{N:Nat}{a b:Nat}{K:Int->O R}(L:0<a)(T:a<65536)(Y:b<=16):∃ k:Nat,2 ^ k<=2*a/\a<2 ^ k/\k<=16/\Fe N K (a:Int) (b:Int)=K ((b+k:Nat):Int):=by
 have small:∀ i:Nat,0<i->i<256->∃ k:Nat,(2 ^ k<=2*i/\i<2 ^ k)/\k<=8/\(Aw6.getD i 0).toNat=k:=by
  intro i hi C
  have:=Aoj ⟨i,C⟩ hi
  refine⟨_,this,?_,rfl⟩
  rcases A2o 8 (Aw6.getD i 0).toNat with h|h
  ·have I:=this.1
   have h4:2 ^ 9<=2 ^ (Aw6.getD i 0).toNat:=Aym (by omega) h
   simp only at I
   omega
  ·exact h
 by_cases h:a>=256
 ·obtain⟨k,p1,p2,D⟩:=small (a/256) (by omega) (by omega)
  have G:=rW (m:=8) p1 (show a/256=a/2 ^ 8 by rfl)
  refine⟨k+8,G.1,G.2,by omega,?_⟩
  unfold Fe
  rw[show decide ((a:Int)>=256)=true by simp;omega,ct,R4 a 8,show a/2 ^ 8=a/256 by rfl,Apt (by omega),Aa (by omega),ct,Axm]
  change K (wrap .i64 (wrap .i64 ((b:Int)+8)+wrap .i64 (((Aw6.getD (a/256) 0).toNat:Nat):Int)))=_
  rw[D,i64 (a:=(b:Int)+8) (by omega),i64 (a:=(k:Int)) (by omega),i64 (by omega)]
  congr 1;omega
 ·obtain⟨k,p1,p2,D⟩:=small a (by omega) (by omega)
  refine⟨k,p1.1,p1.2,by omega,?_⟩
  unfold Fe
  rw[show decide ((a:Int)>=256)=false by simp;omega,cf,Apt (by omega),Aa (by omega),ct,Axm]
  change K (wrap .i64 ((b:Int)+wrap .i64 (((Aw6.getD a 0).toNat:Nat):Int)))=_
  rw[D,i64 (a:=(k:Int)) (by omega),i64 (by omega)]
  congr 1
def Ae4{N:Nat}{c:Nat}{K:Int->O R}(I:0<c)(L:c<4294967296):∃ k:Nat,2 ^ k<=2*c/\c<2 ^ k/\k<=32/\Lo N (c:Int) K=K (k:Int):=by
 rw[X2];unfold Ov
 by_cases h:c>=65536
 ·obtain⟨k,p1,p2,G,C⟩:=Apu (R:=R) (N:=N) (a:=c/65536) (b:=16) (K:=K) (by omega) (by omega) (by omega)
  have D:=rW (m:=16) ⟨p1,p2⟩ (show c/65536=c/2 ^ 16 by rfl)
  refine⟨k+16,D.1,D.2,by omega,?_⟩
  rw[show decide ((c:Int)>=65536)=true by simp;omega,ct,R4 c 16,show c/2 ^ 16=c/65536 by rfl]
  rw[A0y k];exact C
 ·obtain⟨k,p1,p2,G,C⟩:=Apu (R:=R) (N:=N) (a:=c) (b:=0) (K:=K) (by omega) (by omega) (by omega)
  refine⟨k,p1,p2,by omega,?_⟩
  rw[show decide ((c:Int)>=65536)=false by simp;omega,cf]
  rw[Ax0]at C;exact C
def Ags{N:Nat}{c:Nat}(I:0<c)(L:c<4294967296):∃ s:Nat,s<=31/\2147483648<=c*2 ^ s/\c*2 ^ s<4294967296/\∀ K:Int->O R,Cn N (c:Int) K=K (s:Int):=by
 have key:∀ K:Int->O R,∃ s:Nat,(s<=31/\2147483648<=c*2 ^ s/\c*2 ^ s<4294967296)/\Cn N (c:Int) K=K (s:Int):=by
  intro K
  rw[Lp];unfold Hz
  obtain⟨k,p1,p2,p3,T⟩:=Ae4 (R:=R) (N:=N) (K:=fun c=>K (wrap .i64 ((32:Int) - c))) I L
  have e:2 ^ k*2 ^ (32 - k)=4294967296:=by rw[<-Ay0,show k+(32 - k)=32 by omega]
  have hk:1<=k:=by
   rcases Ayf k with h|h
   ·subst h;simp at p2;omega
   ·exact h
  refine⟨32 - k,⟨by omega,?_,?_⟩,?_⟩
  ·have:=Axs (2 ^ (32 - k)) p1
   rw[e,Axt]at this;omega
  ·have:=(A0m (show 0<2 ^ (32 - k)from Azf (by omega))).2 p2
   rw[e]at this;exact this
  ·rw[T,i64 (by omega)];congr 1;omega
 obtain⟨s,hs,_⟩:=key fun _=>none
 refine⟨s,hs.1,hs.2.1,hs.2.2,fun K=>?_⟩
 obtain⟨C,Y,e⟩:=key K
 have:C=s:=by
  rcases Nat.lt_trichotomy s C with h|h|h
  ·exfalso
   have D:2 ^ (s+1)<=2 ^ C:=Aym (by omega) h
   have G:=Aya c D
   rw[Ax3,<-Axt]at G
   omega
  ·exact h.symm
  ·exfalso
   have D:2 ^ (C+1)<=2 ^ s:=Aym (by omega) h
   have G:=Aya c D
   rw[Ax3,<-Axt]at G
   omega
 rw[e,this]
def yc{s:Nat}(h:s<=31):2 ^ s<=2147483648:=Aym (n:=2) (by omega) h
def Al8{x c s:Nat}(C:x<4294967296)(hc:c<2 ^ s)(hs:s<=31):Rb .u64 (c:Int) (wrap .u64 ((wrap .u64 (x:Int))*2 ^ (min (Int.toNat (s:Int)) 64)))=((x*2 ^ s+c:Nat):Int)/\x*2 ^ s+c<4294967296*2 ^ s:=by
 have D:=yc hs
 have G:x*2 ^ s<=4294967295*2 ^ s:=Axs _ (by omega)
 have k:(x+1)*2 ^ s<=4294967296*2 ^ s:=Axs _ (by omega)
 rw[Ax2]at k
 refine⟨?_,by omega⟩
 rw[Iu (by omega),Axm,Ayd (by omega),show(2:Int) ^ s=((2 ^ s:Nat):Int) by simp,pA,Iu (by omega),Ad7 (by omega) (by omega),A46,ge hc]
def fL{N:Nat}{a:List Nat}{t o:Bool}{s:Nat}(Y:Al a)(hs:s<=31)(D:a.length<=1000000000000):∀(m d fuel:Nat)(S:List Nat)(c:Nat),d+m=a.length->m<fuel->Al S->S.length=a.length+1->Ai7 S d->c<2 ^ s ->
  val S+4294967296 ^ d*c=val (a.take d)*2 ^ s ->
  ∃ S',Al S'/\S'.length=a.length+1/\val S'=val a*2 ^ s/\∀ K:Nat->LA->O R,Iy N K (Ae a) a.length t o (s:Int) fuel (a.length+1) (c:Int) (a.length:Int) (d:Int) (Ae S)=K (a.length+1) (Ae S')
|0,d,fuel+1,S,c,hd,_,hS,G,C,hc,I=>by
  have L:d=a.length:=by omega
  subst L
  have hp:=yc hs
  rw[Ayk]at I
  refine⟨S.set a.length c,Cm hS (by omega) _,by simpa using G,by rw[Wd C (by omega),I],fun K=>?_⟩
  rw[Iy];unfold Sa
  rw[Ki (Axo _),cf,Aa (by omega),ct,Asy (by omega),ct,Agn (by omega),Aps]
| m+1,d,fuel+1,S,c,hd,hfu,hS,G,C,hc,I=>by
  have k:d<a.length:=by omega
  have ad:=A3 Y k
  obtain⟨w1,w2⟩:=Al8 ad hc hs
  generalize T:a[d]*2 ^ s+c=w at *
  have hpos:0<2 ^ s:=Azf (by omega)
  have key:val (S.set d (w%4294967296))+4294967296 ^ (d+1)*(w/4294967296)=val (a.take (d+1))*2 ^ s:=by
   rw[Wd C (by omega),A0 k,Ax3,Ax2,Axt _ a[d]]
   have e:=N8 (4294967296 ^ d) w
   have e2:4294967296 ^ d*w=4294967296 ^ d*(a[d]*2 ^ s)+4294967296 ^ d*c:=by rw[<-T,Axx]
   omega
  obtain⟨S',q1,q2,q3,q4⟩:=fL (t:=t) (o:=o) Y hs D m (d+1) fuel (S.set d (w%4294967296)) (w/4294967296) (by omega) (by omega) (Cm hS (by omega) d) (by simpa using G) (E' C) (A0z w2) key
  refine⟨S',q1,q2,q3,fun K=>?_⟩
  rw[Iy];unfold Sa
  rw[Jo k,ct,Aa k,ct,PO k,show decide ((s:Int)<0)=false by simp,cf,Aa (by omega),ct,uX (by omega),ct,w1,gd,ZB,RH,wS (by omega)]
  exact q4 K
def fM{N:Nat}{a:List Nat}{n:Nat}{t o:Bool}{s:Nat}(hn:n=a.length)(C:Al a)(hs:s<=31)(k:fit a.length N):
  ∃ S',Al S'/\S'.length=a.length+1/\val S'=val a*2 ^ s/\∀ K:Nat->LA->O R,Ul N (Ae a) n t o (s:Int) K=K (a.length+1) (Ae S'):=by
 subst hn
 have T:=k.1;have Y:=k.2
 obtain⟨S',D,G,I,L⟩:=fL (R:=R) (N:=N) (t:=t) (o:=o) C hs (by omega) a.length 0 N (replicate (a.length+1) 0) 0 (by omega) (by omega) (Cj _) (by simp) (Mi _) (Azf (by omega)) (by rw[Ej];simp[val])
 refine⟨S',D,G,I,fun K=>?_⟩
 rw[RG];unfold DO
 rw[Awh (by omega),Akd (by omega),ct,Axm,C2]
 exact L K
def Apv{P U Q:List Nat}{i:Nat}(h:i<U.length){f:Int->O R}:Aq .u32 (drop (P.length+((Int.toNat (i:Int))*1)) (Ae (P++(U++Q)))) f=f (U[i]:Nat):=by
 rw[Axm,Ax4,Aav (by simp;omega)]
 congr 2
 rw[Azy (by omega)]
 simp only[A1y]
 rw[Ayj h]
def Asz{P U Q:List Nat}{i:Nat}(h:i<U.length):((beq 1 1)&&((ble ((P.length+((Int.toNat (i:Int))*1))+1) (List.length (Ae (P++(U++Q)))))&&(!false)))=true:=by rw[Bp,Axm];simp;omega
def Al9{P U Q:List Nat}{i v:Nat}(h:i<U.length):List.set (Ae (P++(U++Q))) (P.length+((Int.toNat (i:Int))*1)) (.int .u32 (v:Int))=Ae (P++(U.set i v++Q)):=by rw[Axm,Ax4,cF,A16 _ _ (by omega),A1y,List.set_append_left _ _ h]
def Ave{P U Q:List Nat}{i:Nat}(h:i<U.length){f:Int->O R}:Aq .u32 (drop (P.length+(i*1)) (Ae (P++(U++Q)))) f=f (U[i]:Nat):=by have:=Apv (R:=R) (P:=P) (Q:=Q) (f:=f) h;rw[Axm]at this;exact this
def fN{X:List Nat}{p g:Nat}(h:p<X.length):val ((X.set p g).take (p+1))=val (X.take p)+4294967296 ^ p*g:=by rw[A0 (by simpa using h),A3u,List.take_set_of_le (Axo _)]
def IP{X:List Nat}{n:Nat}(h:X.length=n+1):val X=val (X.take n)+4294967296 ^ n*X[n]:=by
 have:=A0 (l:=X) (c:=n) (by omega)
 rwa [Axl (by omega)]at this
def Agt{D:Nat}(h:1<=D)(k:D<18446744073709551616):wrap .u64 ((D:Int) - 1)=((D - 1:Nat):Int):=by rw[ZC];omega
def Aok{D y t:Nat}(hD:D<4294967296)(k:y<4294967296)(C:t<=4294967296):D*y+t<18446744073709551616/\(D*y+t)/4294967296+1<=4294967296:=by
 have:D*y<=4294967295*4294967295:=Azk (by omega) (by omega)
 omega
def Agu{N:Nat}{P Q X v:List Nat}{n D:Nat}{f g:Bool}(hv:Al v)(hn:v.length=n)(hX:Al X)(hXl:X.length=n+1)(hs:n<=1000000000000)(hD:D<4294967296)(hD1:1<=D){r:Nat}(hr:val X+val v=4294967296 ^ (n+1)+r)(T:r<4294967296 ^ n):
  ∀(m o fuel:Nat)(Y:List Nat)(c:Nat),o+m=n->m<fuel->Al Y->Y.length=n+1->(∀ j (h1:j<Y.length) (h2:j<X.length),o<=j->Y[j]=X[j])->c<=1->val (Y.take o)+4294967296 ^ o*c=val (X.take o)+val (v.take o) ->
  ∃ Y',Al Y'/\Y'.length=n+1/\val Y'=r/\∀ K:Int->LA->O R,H5 N K P.length (n+1) (n:Int) (D:Int) (Ae v) n f g fuel (c:Int) (n:Int) (o:Int) (Ae (P++(Y++Q)))=K ((D - 1:Nat):Int) (Ae (P++(Y'++Q)))
| 0,o,fuel+1,Y,c,ho,_,hY,hYl,C,hc,G=>by
  have ho':o=n:=by omega
  subst ho'
  rw[show v.take o=v by rw[<-hn];exact Ayk]at G
  have e1:=IP hXl
  have eq:val (Y.take o)+4294967296 ^ o*(X[o]+c)=4294967296 ^ o*4294967296+r:=by
   rw[Axx,<-Ax3];omega
  have yt:=Bc (Cg hY o)
  rw[Ax6,Ayd (by omega)]at yt
  have hP:0<4294967296 ^ o:=Azf (by omega)
  have hw:X[o]+c=4294967296:=by
   have h1:(val (Y.take o)+4294967296 ^ o*(X[o]+c))/4294967296 ^ o=X[o]+c:=by rw[A0l _ _ hP,Ay4 yt,Ax0]
   have h2:(4294967296 ^ o*4294967296+r)/4294967296 ^ o=4294967296:=by rw[A1s hP,Ay4 T,Ayq]
   rw[<-h1,eq,h2]
  have hyr:val (Y.take o)=r:=by rw[hw]at eq;omega
  have I:Y[o]=X[o]:=C o (by omega) (by omega) (Axo _)
  have hl2:(Y.set o 0).length=o+1:=by simpa using hYl
  refine⟨Y.set o 0,Cm hY (by omega) o,hl2,?_,fun K=>?_⟩
  ·have:=fN (X:=Y) (p:=o) (g:=0) (by omega)
   rw[Axl (by omega),hyr]at this;simpa using this
  ·rw[H5];unfold Ox
   have hXo:=A3 hX (show o<X.length by omega)
   rw[Ki (Axo _),cf,Aa (by omega),ct,Apv (by omega),ct,Asz (by omega),ct,I,Agn (show c<4294967296 by omega),GX,hw,ZB,Al9 (by omega),Agt hD1 (by omega),Agn (by omega)]
| m+1,o,fuel+1,Y,c,ho,hfu,hY,hYl,C,hc,G=>by
  have hon:o<n:=by omega
  have L:o<v.length:=by omega
  have vo:=A3 hv L
  have k:o<Y.length:=by omega
  have yo:=A3 hY k
  have I:Y[o]=X[o]:=C o (by omega) (by omega) (Axo _)
  have hs1:c+(Y[o]+v[o])<18446744073709551616:=by omega
  have hs2:(c+(Y[o]+v[o]))/4294967296<=1:=by omega
  generalize hsd:c+(Y[o]+v[o])=s at *
  have key:val ((Y.set o (s%4294967296)).take (o+1))+4294967296 ^ (o+1)*(s/4294967296)=val (X.take (o+1))+val (v.take (o+1)):=by
   rw[fN k,A0 (l:=X) (by omega),A0 L,Ax3]
   have e:=N8 (4294967296 ^ o) s
   have e2:4294967296 ^ o*s=4294967296 ^ o*c+(4294967296 ^ o*X[o]+4294967296 ^ o*v[o]):=by rw[<-hsd,Axx,Axx,I]
   omega
  obtain⟨Y',q1,q2,q3,q4⟩:=Agu (N:=N) (P:=P) (Q:=Q) (f:=f) (g:=g) hv hn hX hXl hs hD hD1 hr T m (o+1) fuel (Y.set o (s%4294967296)) (s/4294967296) (by omega) (by omega) (Cm hY (by omega) o) (by simpa using hYl) (fun j h1 h2 hj=>by rw[A1k,if_neg (by omega)];exact C j (by simpa using h1) h2 (by omega)) hs2 key
  refine⟨Y',q1,q2,q3,fun K=>?_⟩
  rw[H5];unfold Ox
  rw[Jo hon,ct,Aa hon,ct,PO L,Aa (by omega),ct,Apv k,ct,Asz k,ct,Iu (show v[o]<18446744073709551616 by omega),Iu (show Y[o]<18446744073709551616 by omega),GX,Iu (by omega),GX,hsd,Iu hs1,gd,ZB,Al9 k,wS (by omega)]
  exact q4 K
def Ama{N:Nat}{P Q U v:List Nat}{n D:Nat}{f g:Bool}(hv:Al v)(hn:v.length=n)(hU:Al U)(hUl:U.length=n+1)(hs:n<=1000000000000)(hN:n+2<N)(hD:D<4294967296)(L:0<val v)(hq1:val U/val v<=D)(hq2:D<=val U/val v+1):
  ∀(m p fuel:Nat)(X:List Nat)(t:Nat),p+m=n->m<fuel->Al X->X.length=n+1->(∀ j (h1:j<X.length) (h2:j<U.length),p<=j->X[j]=U[j])->t<=4294967296->val (X.take p)+D*val (v.take p)=val (U.take p)+4294967296 ^ p*t ->
  ∃ X',Al X'/\X'.length=n+1/\val X'=val U%val v/\∀ K:Int->LA->O R,Gf N K P.length (n+1) (Ae v) n f g (n:Int) (D:Int) fuel (t:Int) (n:Int) (p:Int) (Ae (P++(X++Q)))=K ((val U/val v:Nat):Int) (Ae (P++(X'++Q)))
| 0,p,fuel+1,X,t,hp,_,hX,hXl,k,ht,I=>by
  have hp':p=n:=by omega
  subst hp'
  rw[show v.take p=v by rw[<-hn];exact Ayk]at I
  have hXp:X[p]=U[p]:=k p (by omega) (by omega) (Axo _)
  have up:=A3 hU (show p<U.length by omega)
  obtain⟨d,c,g1,g2,g3,g4,g5⟩:=VG up ht
  have C:(X.set p d).length=p+1:=by simpa using hXl
  have hX2:=Cm hX g1 p
  have hv2:val (X.set p d)=val (X.take p)+4294967296 ^ p*d:=by
   have:=fN (X:=X) (p:=p) (g:=d) (by omega)
   rwa [Axl (by omega)]at this
  have eU:=IP hUl
  have main:val (X.set p d)+D*val v=val U+4294967296 ^ (p+1)*c:=by
   have e:4294967296 ^ p*(U[p]+4294967296*c)=4294967296 ^ p*(d+t):=by rw[g3]
   rw[Axx,Axx,<-Axt]at e
   rw[hv2,eU,Ax3];omega
  have hlt:=Bc hX2
  rw[C]at hlt
  have hdm:=Ay6 (val U) (val v)
  have hmod:=Azo (val U) L
  have vlt:=Bc hv
  rw[hn]at vlt
  by_cases hc:c=0
  ·subst hc
   have hDq:D=val U/val v:=by
    have:D<=val U/val v:=by rw[A1c L];omega
    omega
   refine⟨X.set p d,hX2,C,?_,fun K=>?_⟩
   ·rw[hDq,Axq]at main;omega
   ·rw[Gf];unfold Jn
    rw[Ki (Axo _),cf,Aa (by omega),ct,Apv (by omega),ct,Asz (by omega),ct,hXp,Iu (show U[p]<18446744073709551616 by omega),g4,g5,show(((0:Nat):Int)==0)=true by rfl,ct,Agn hD,Al9 (by omega),hDq]
  ·have hc1:c=1:=by omega
   subst hc1
   have hDq:D=val U/val v+1:=by
    have:¬ D<=val U/val v:=fun h=>by
     have:=Aya (val v) h
     rw[Axq]at this
     omega
    omega
   have hr:val (X.set p d)+val v=4294967296 ^ (p+1)+val U%val v:=by
    rw[hDq,Ax2,Axq (val U/val v)]at main;omega
   obtain⟨Y',q1,q2,q3,q4⟩:=Agu (R:=R) (N:=N) (P:=P) (Q:=Q) (f:=f) (g:=g) (X:=X.set p d) hv hn hX2 C hs hD (by rw[hDq];exact Nat.le_add_left 1 _) hr (by omega) p 0 N (X.set p d) 0 (by omega) (by omega) hX2 C (fun _ _ _ _=>rfl) (by omega) (by simp[val])
   refine⟨Y',q1,q2,q3,fun K=>?_⟩
   rw[Gf];unfold Jn
   rw[Ki (Axo _),cf,Aa (by omega),ct,Apv (by omega),ct,Asz (by omega),ct,hXp,Iu (show U[p]<18446744073709551616 by omega),g4,g5,show(((1:Nat):Int)==0)=false by rfl,cf,Al9 (by omega)]
   have:=q4 K
   rw[show D - 1=val U/val v by rw[hDq];rfl]at this
   exact this
| m+1,p,fuel+1,X,t,hp,hfu,hX,hXl,k,ht,I=>by
  have hpn:p<n:=by omega
  have T:p<v.length:=by omega
  have vp:=A3 hv T
  have G:p<X.length:=by omega
  have hXp:X[p]=U[p]:=k p (by omega) (by omega) (Axo _)
  have up:=A3 hU (show p<U.length by omega)
  obtain⟨hw1,hw2⟩:=Aok hD vp ht
  have hDv:D*v[p]<18446744073709551616:=by omega
  generalize hpp:D*v[p]+t=w at *
  obtain⟨d,c,g1,g2,g3,g4,g5⟩:=VG up (show w%4294967296<=4294967296 by omega)
  have key:val ((X.set p d).take (p+1))+D*val (v.take (p+1))=val (U.take (p+1))+4294967296 ^ (p+1)*(w/4294967296+c):=by
   rw[fN G,A0 T,A0 (l:=U) (by omega),Ax3]
   have e:=N8 (4294967296 ^ p) w
   have e2:4294967296 ^ p*w=4294967296 ^ p*(D*v[p])+4294967296 ^ p*t:=by rw[<-hpp,Axx]
   have e3:4294967296 ^ p*(U[p]+4294967296*c)=4294967296 ^ p*(d+w%4294967296):=by rw[g3]
   rw[Axx,Axx,<-Axt]at e3
   have e4:D*(val (v.take p)+4294967296 ^ p*v[p])=D*val (v.take p)+4294967296 ^ p*(D*v[p]):=by rw[Axx,Az0]
   rw[e4,Axx]
   omega
  obtain⟨X',q1,q2,q3,q4⟩:=Ama (N:=N) (P:=P) (Q:=Q) (f:=f) (g:=g) hv hn hU hUl hs hN hD L hq1 hq2 m (p+1) fuel (X.set p d) (w/4294967296+c) (by omega) (by omega) (Cm hX g1 p) (by simpa using hXl) (fun j h1 h2 hj=>by rw[A1k,if_neg (by omega)];exact k j (by simpa using h1) h2 (by omega)) (by omega) key
  refine⟨X',q1,q2,q3,fun K=>?_⟩
  rw[Gf];unfold Jn
  rw[Jo hpn,ct,Aa hpn,ct,PO T,Aa (by omega),ct,Apv G,ct,Asz G,ct,hXp,Iu (show v[p]<18446744073709551616 by omega),pA,Iu hDv,GX,hpp,Iu hw1,ZB,Iu (show w%4294967296<18446744073709551616 by omega),Iu (show U[p]<18446744073709551616 by omega),g4,g5,gd,GX,Iu (by omega),Al9 G,wS (by omega)]
  exact q4 K
def YB(a b:Nat):Int.tdiv (a:Int) (b:Int)=((a/b:Nat):Int):=rfl
def TC(a b:Nat):Int.tmod (a:Int) (b:Int)=((a%b:Nat):Int):=rfl
def Apw{l:Nat}(h:l<4294967296):((Int.fdiv (l:Int) (2 ^ 32)) != (0:Int))=false:=by rw[gd,Ay4 h];rfl
def Apx{l:Nat}(h:4294967296<=l):((Int.fdiv (l:Int) (2 ^ 32)) != (0:Int))=true:=by
 have k:l/4294967296≠0:=by omega
 rw[gd];rw[bne_iff_ne];omega
def Aq7{a b:Nat}(k:a<4294967296)(C:b<4294967296):Rb .u64 (wrap .u64 ((a:Int)*2 ^ 32)) (b:Int)=((a*4294967296+b:Nat):Int):=by rw[show(2:Int) ^ 32=((2 ^ 32:Nat):Int) by rfl,pA,Iu (by omega),Ad7 (by omega) (by omega),ge (by omega)]
def Aq8{B l v1 v2 m u2:Nat}(h:m*B+u2<l*v2):(l*v1+m)*B+u2<l*(v1*B+v2):=by rw[Ax2,Axx,<-Axt l v1];omega
def Aq9{B l v1 v2 m u2:Nat}(h:l*v2<=m*B+u2):l*(v1*B+v2)<=(l*v1+m)*B+u2:=by rw[Ax2,Axx,<-Axt l v1];omega
def Ara{B u0 u1 u2 v1 v2:Nat}(k:v2<B)(h:(u0*B+u1)*B+u2<(v1*B+v2+1)*B):u0*B+u1<v1*B+B:=by
 have:u0*B+u1<v1*B+v2+1:=A1i (Ayt (Nat.le_add_right _ u2) h)
 omega
def Asi(P x:Nat):P*4294967296*x=P*(x*4294967296):=by rw[Axt,Axq 4294967296]
def Amb{N:Nat}{P Q U v:List Nat}{n:Nat}{f g:Bool}{K:Int->LA->O R}(hn:v.length=n+2)(hv:Al v)(hU:Al U)(hUl:U.length=n+3)(hs:n<=1000000000000){v1 v2 u2 top:Nat}
  (e1:v[n+1]'(by omega)=v1) (e2:v[n]'(by omega)=v2) (e3:U[n]'(by omega)=u2) (hv1:2147483648<=v1) (htop:top<v1*4294967296+4294967296)
  (hV:(v1*4294967296+v2)*4294967296 ^ n<=val v) (hV':val v<(v1*4294967296+v2+1)*4294967296 ^ n) (hUU:(top*4294967296+u2)*4294967296 ^ n<=val U) (hUU':val U<(top*4294967296+u2+1)*4294967296 ^ n) (hq:val U/val v<4294967296) :
  ∀(k fuel l m:Nat),k<fuel->4294967296<=m+k*2147483648->m<4294967296->l*v1+m=top->val U/val v<=l->∃ D,D<4294967296/\val U/val v<=D/\D<=val U/val v+1 /\
   E1 N K P.length (n+3) (Ae v) (n+2) f g (Ae (P++(U++Q))) fuel ((n+2:Nat):Int) (l:Int) (m:Int)=Ez N K P.length (n+3) (Ae v) (n+2) f g ((n+2:Nat):Int) (Ae (P++(U++Q))) (D:Int):=by
 have b1:=A3 hv (show n+1<v.length by omega)
 have b2:=A3 hv (show n<v.length by omega)
 have b3:=A3 hU (show n<U.length by omega)
 rw[e1]at b1;rw[e2]at b2;rw[e3]at b3
 have hP:0<4294967296 ^ n:=Azf (by omega)
 have T:0<val v:=Ax9 (A29 (by omega) hP) hV
 intro k
 induction k with
|zero=>intro fuel l m _ h1 h2;omega
| succ k ih =>
  intro fuel l m hf hm hm2 htm hql
  obtain⟨fuel,rfl⟩:∃ F,fuel=F+1:=⟨fuel - 1,by omega⟩
  generalize Y:val U/val v=q at *
  have wi1:wrap .i64 (((n+2:Nat):Int) - 1)=((n+1:Nat):Int):=by rw[i64 (by omega)];omega
  have wi2:wrap .i64 (((n+2:Nat):Int) - 2)=(n:Int):=by rw[i64 (by omega)];omega
  have lower:q<l->l<18446744073709551616->∃ D,D<4294967296/\q<=D/\D<=q+1 /\
    Lq N (E1 N K P.length (n+3) (Ae v) (n+2) f g (Ae (P++(U++Q))) fuel) K P.length (n+3) (Ae v) (n+2) f g ((n+2:Nat):Int) (l:Int) (m:Int) (Ae (P++(U++Q)))=Ez N K P.length (n+3) (Ae v) (n+2) f g ((n+2:Nat):Int) (Ae (P++(U++Q))) (D:Int):=by
   intro hlt C
   have L:(l - 1)*v1+(m+v1)=top:=by
    have:l*v1=(l - 1)*v1+v1:=by
     obtain⟨l',rfl⟩:∃ l',l=l'+1:=⟨l - 1,by omega⟩
     rw[Ax2];simp
    omega
   unfold Lq Up
   rw[wi1,Aa (by omega),ct,PO (show n+1<v.length by omega),e1,Iu (show v1<18446744073709551616 by omega),GX,Iu (show m+v1<18446744073709551616 by omega),Agt (by omega) C]
   by_cases hbig:4294967296<=m+v1
   ·have hDB:l - 1<4294967296:=by
     apply A2a;intro hge
     have:=Axs v1 hge
     rw[Axq 4294967296]at this
     omega
    have G:(l - 1)*(v1*4294967296+v2)<=top*4294967296+u2:=by
     have x1:(l - 1)*v2<=4294967295*4294967295:=Azk (by omega) (by omega)
     rw[<-L,Ax2,Axx,<-Axt]
     omega
    have I:=uk hV' hUU G (by omega) T
    rw[Y]at I
    exact⟨l - 1,hDB,by omega,I,by rw[Apx hbig,ct]⟩
   ·obtain⟨D,d1,d2,d3,d4⟩:=ih fuel (l - 1) (m+v1) (by omega) (by omega) (by omega) L (by omega)
    exact⟨D,d1,d2,d3,by rw[Apw (by omega),cf,d4]⟩
  rw[E1];unfold Uq
  by_cases hlB:l<4294967296
  ·rw[Apw hlB,show((false:Bool)==false)=true by rfl,ct,wi2,Aa (by omega),ct,PO (show n<v.length by omega),Aa (by omega),ct,Apv (show n<U.length by omega),Av6,e2,e3,Iu (show v2<18446744073709551616 by omega),Iu (show u2<18446744073709551616 by omega),pA]
   have x1:l*v2<=4294967295*4294967295:=Azk (by omega) (by omega)
   rw[Iu (show l*v2<18446744073709551616 by omega),Aq7 hm2 b3]
   by_cases hgt:m*4294967296+u2<l*v2
   ·rw[show decide (((l*v2:Nat):Int)>((m*4294967296+u2:Nat):Int))=true by rw[decide_eq_true_eq];omega,ct]
    have hup:val U/val v<l:=uj hV hUU' (by rw[<-htm];exact Aq8 hgt) T
    rw[Y]at hup
    exact lower hup (by omega)
   ·rw[show decide (((l*v2:Nat):Int)>((m*4294967296+u2:Nat):Int))=false by rw[decide_eq_false_iff_not];omega,cf]
    have G:l*(v1*4294967296+v2)<=top*4294967296+u2:=by
     rw[<-htm];exact Aq9 (Az9 hgt)
    have I:=uk hV' hUU G (by omega) T
    rw[Y]at I
    exact⟨l,hlB,hql,I,rfl⟩
  ·rw[Apx (by omega),show((true:Bool)==false)=false by rfl,cf]
   have C:l<18446744073709551616:=by
    have:l*2147483648<=l*v1:=Aya _ hv1
    omega
   exact lower (by omega) C
def rX{N:Nat}{P Q U v:List Nat}{n:Nat}{f g:Bool}(hn:v.length=n+2)(T:Al v)(hU:Al U)(hUl:U.length=n+3)(hs:n<=1000000000)(hN:n+8<N)(hv1:2147483648<=v[n+1]'(by omega))(hlt:val U<val v*4294967296):
  ∃ U',Al U'/\U'.length=n+3/\val U'=val U%val v/\∀ K:Int->LA->O R,Oy N P.length (n+3) (Ae v) (n+2) f g (Ae (P++(U++Q))) K=K ((val U/val v:Nat):Int) (Ae (P++(U'++Q))):=by
 have b1:=A3 T (show n+1<v.length by omega)
 have b2:=A3 T (show n<v.length by omega)
 have b3:=A3 hU (show n<U.length by omega)
 have b4:=A3 hU (show n+1<U.length by omega)
 have b5:=A3 hU (show n+2<U.length by omega)
 have hP:0<4294967296 ^ n:=Azf (by omega)
 have vv:val v=val (v.take n)+4294967296 ^ n*(v[n+1]'(by omega)*4294967296+v[n]'(by omega)):=by
  have k:=A0 (l:=v) (c:=n+1) (by omega)
  have C:=A0 (l:=v) (c:=n) (by omega)
  rw[Axl (by omega)]at k
  rw[k,C,Ax3,Axx,Axt,Axq 4294967296 v[n+1]];omega
 have uu:val U=val (U.take n)+4294967296 ^ n*((U[n+2]'(by omega)*4294967296+U[n+1]'(by omega))*4294967296+U[n]'(by omega)):=by
  have h0:=A0 (l:=U) (c:=n+2) (by omega)
  have k:=A0 (l:=U) (c:=n+1) (by omega)
  have C:=A0 (l:=U) (c:=n) (by omega)
  rw[Axl (by omega)]at h0
  have x1:4294967296 ^ (n+2)*U[n+2]=4294967296 ^ n*(U[n+2]*4294967296*4294967296):=by rw[Ax3 (n:=4294967296) (m:=n+1),Ax3,Asi,Asi]
  have x2:4294967296 ^ (n+1)*U[n+1]=4294967296 ^ n*(U[n+1]*4294967296):=by rw[Ax3,Asi]
  rw[h0,k,C,x1,x2,Ax2,Axx,Axx];omega
 have tv:=Bc (Cg T n)
 have tu:=Bc (Cg hU n)
 rw[Ax6,Ayd (by omega)]at tv tu
 generalize e1:v[n+1]'(by omega)=v1 at *
 generalize e2:v[n]'(by omega)=v2 at *
 generalize e3:U[n]'(by omega)=u2 at *
 generalize e4:U[n+1]'(by omega)=u1 at *
 generalize e5:U[n+2]'(by omega)=u0 at *
 have Y:0<val v:=by
  have:0<4294967296 ^ n*(v1*4294967296+v2):=A29 hP (by omega)
  omega
 have hV:(v1*4294967296+v2)*4294967296 ^ n<=val v:=by rw[Axq];omega
 have hV':val v<(v1*4294967296+v2+1)*4294967296 ^ n:=by rw[Axq,Axx];omega
 have hUU:((u0*4294967296+u1)*4294967296+u2)*4294967296 ^ n<=val U:=by rw[Axq];omega
 have hUU':val U<((u0*4294967296+u1)*4294967296+u2+1)*4294967296 ^ n:=by rw[Axq,Axx];omega
 have hq:val U/val v<4294967296:=A0z hlt
 have I:u0*4294967296+u1<v1*4294967296+4294967296:=by
  have k:((u0*4294967296+u1)*4294967296+u2)*4294967296 ^ n<(v1*4294967296+v2+1)*4294967296 ^ n*4294967296:=by
   have:=(A0m (show 0<4294967296 by omega)).2 hV'
   omega
  rw[A1w]at k
  exact Ara b2 (A1i k)
 obtain⟨top,htp⟩:∃ top,u0*4294967296+u1=top:=⟨_,rfl⟩
 rw[htp]at hUU hUU' I
 have hdm:=Ay6 top v1
 have hmod:=Azo top (show 0<v1 by omega)
 have hq0:val U/val v<=top/v1:=by
  have k:val U/val v<top/v1+1:=by
   apply uj hV hUU' _ Y
   have C:top<v1*(top/v1+1):=by rw[Axx];omega
   have h3:(top+1)*4294967296<=v1*(top/v1+1)*4294967296:=Axs _ C
   rw[Axx,<-Axt,Axq _ v1]
   omega
  omega
 have key:∀ K:Int->LA->O R,∃ D,D<4294967296/\val U/val v<=D/\D<=val U/val v+1/\Oy N P.length (n+3) (Ae v) (n+2) f g (Ae (P++(U++Q))) K=Ez N K P.length (n+3) (Ae v) (n+2) f g ((n+2:Nat):Int) (Ae (P++(U++Q))) (D:Int):=by
  intro K
  obtain⟨D,d1,d2,d3,L⟩:=Amb (R:=R) (N:=N) (P:=P) (Q:=Q) (f:=f) (g:=g) (K:=K) hn T hU hUl (by omega) e1 e2 e3 hv1 I hV hV' hUU hUU' hq 2 N (top/v1) (top%v1) (by omega) (by omega) (by omega) (by rw[Axq];exact hdm) hq0
  refine⟨D,d1,d2,d3,?_⟩
  rw[<-L,G'];unfold Vn
  have wi1:wrap .i64 (((n+2:Nat):Int) - 1)=((n+1:Nat):Int):=by rw[i64 (by omega)];omega
  rw[Aa (by omega),ct,Ave (show n+2<U.length by omega),wi1,Aa (by omega),ct,Apv (show n+1<U.length by omega),Aa (by omega),ct,PO (show n+1<v.length by omega),e1,e4,e5,Iu (show v1<18446744073709551616 by omega),ti (by omega),cf,ct,PO (show n+1<v.length by omega),e1,Iu (show v1<18446744073709551616 by omega),ti (by omega),cf,Iu (show u0<18446744073709551616 by omega),Iu (show u1<18446744073709551616 by omega),Aq7 b5 b4,htp,YB,TC,Iu (show top/v1<18446744073709551616 from Ayt (Azp _ _) (by omega))]
 have fin:∀ D,D<4294967296->val U/val v<=D->D<=val U/val v+1->∃ U',Al U'/\U'.length=n+3/\val U'=val U%val v/\∀ K:Int->LA->O R,Ez N K P.length (n+3) (Ae v) (n+2) f g ((n+2:Nat):Int) (Ae (P++(U++Q))) (D:Int)=K ((val U/val v:Nat):Int) (Ae (P++(U'++Q))):=by
  intro D d1 d2 d3
  obtain⟨X',q1,q2,q3,q4⟩:=Ama (R:=R) (N:=N) (P:=P) (Q:=Q) (U:=U) (v:=v) (n:=n+2) (D:=D) (f:=f) (g:=g) T hn hU hUl (by omega) (by omega) d1 Y d2 d3 (n+2) 0 N U 0 (by omega) (by omega) hU hUl (fun _ _ _ _=>rfl) (by omega) (by simp[val])
  exact⟨X',q1,q2,q3,fun K=>by unfold Ez Um;exact q4 K⟩
 by_cases hz:val U/val v+1<4294967296
 ·obtain⟨U1,a1,a2,a3,a4⟩:=fin (val U/val v) hq (Axo _) (by omega)
  obtain⟨U2,c1,c2,c3,c4⟩:=fin (val U/val v+1) hz (by omega) (Axo _)
  have:U1=U2:=by
   have k:=(Bi a1).1;have C:=(Bi c1).1
   rw[a3]at k;rw[c3]at C;rw[k,C,a2,c2]
  subst this
  refine⟨U1,a1,a2,a3,fun K=>?_⟩
  obtain⟨D,d1,d2,d3,L⟩:=key K
  have:D=val U/val v\/D=val U/val v+1:=by
   generalize val U/val v=q at *;omega
  rcases this with rfl|rfl
  ·rw[L,a4 K]
  ·rw[L,c4 K]
 ·obtain⟨U1,a1,a2,a3,a4⟩:=fin (val U/val v) hq (Axo _) (by omega)
  refine⟨U1,a1,a2,a3,fun K=>?_⟩
  obtain⟨D,d1,d2,d3,L⟩:=key K
  have:D=val U/val v:=by
   generalize val U/val v=q at *;omega
  subst this
  rw[L,a4 K]
def TD{l:List Nat}{d:Nat}(h:d<l.length):val (l.drop d)=l[d]+4294967296*val (l.drop (d+1)):=by rw[Ayx h,val]
def Ab0{S:List Nat}{d v:Nat}(h:d<S.length):(S.set d v).drop d=v::S.drop (d+1):=by rw[Ayx (by simpa using h),A3u,A38 (by omega)]
def kw{N:Nat}{a:List Nat}{t o:Bool}{b:Nat}(Y:Al a)(C:0<b)(hb:b<4294967296)(D:fit a.length N):∀(c fuel:Nat)(S:List Nat)(r:Nat),c<fuel->c<=a.length->Al S->S.length=a.length->r<b->val (S.drop c)*b+r=val (a.drop c) ->
  ∃ S' S2,Al S'/\val S'=val a/b/\Al S2/\val S2=val a%b/\∀ K:Nat->Nat->LA->LA->O R,D4 N K (Ae a) a.length t o (b:Int) fuel (r:Int) ((c:Int) - 1) (Ae S)=K (Ao (val a/b)).length (Ao (val a%b)).length (Ae S') (Ae S2)
| 0,fuel+1,S,r,_,_,hS,L,hr,G=>by
  have h1:=D.1
  rw[Ayh,Ayh]at G
  have hq:val a/b=val S:=by
   rw[<-G,Axq,A1s C,Ay4 hr,Ayq]
  have hm:val a%b=r:=by rw[<-G,Axq,A2f,Ayl hr]
  obtain⟨S2,s1,s2,s3⟩:=Ld (R:=R) (N:=N) (v:=r) (by omega) (by omega)
  refine⟨S,S2,hS,hq.symm,s1,by rw[hm,s2],fun K=>?_⟩
  rw[D4];unfold Jd
  rw[show decide ((((0:Nat):Int) - 1)>=0)=false by simp,cf,HB L.symm hS (by rw[L];exact D),s3,hq,hm]
| c+1,fuel+1,S,r,hfu,hc,hS,L,hr,G=>by
  have h1:=D.1;have h2:=D.2
  have k:c<a.length:=by omega
  have ac:=A3 Y k
  have hrB:r<4294967296:=by omega
  have hw:r*4294967296+a[c]<b*4294967296:=by
   have:(r+1)*4294967296<=b*4294967296:=Axs _ hr
   rw[Ax2]at this;omega
  have T:r*4294967296+a[c]<18446744073709551616:=by omega
  obtain⟨w,I⟩:∃ w,r*4294967296+a[c]=w:=⟨_,rfl⟩
  rw[I]at hw T
  have hqB:w/b<4294967296:=A0z hw
  have hdm:=Ay6 w b
  obtain⟨S',S2,q1,q2,q3,q4,q5⟩:=kw (t:=t) (o:=o) Y C hb D c fuel (S.set c (w/b)) (w%b) (by omega) (by omega) (Cm hS hqB c) (by simpa using L) (Azo _ C) (by
   rw[Ab0 (by omega),val,TD k,Ax2,Axt,<-G,Axx,Axq (w/b)]
   omega)
  refine⟨S',S2,q1,q2,q3,q4,fun K=>?_⟩
  rw[D4];unfold Jd
  rw[show(((c+1:Nat):Int) - 1)=(c:Int) by omega,show decide ((c:Int)>=0)=true by simp,ct,Aa k,ct,PO k,Iu (show b<18446744073709551616 by omega),ti (by omega),cf,ct,uX (by omega),ct,cf,Iu (show a[c]<18446744073709551616 by omega),Aq7 hrB ac,I,YB,TC,Iu (show w/b<18446744073709551616 by omega),Agn hqB,RH,i64 (by omega)]
  exact q5 K
def Ab1{N:Nat}{a:List Nat}{n:Nat}{t o:Bool}{b:Nat}(hn:n=a.length)(D:Al a)(k:0<b)(G:b<4294967296)(C:fit a.length N):
  ∃ S' S2,Al S'/\val S'=val a/b/\Al S2/\val S2=val a%b/\∀ K:Nat->Nat->LA->LA->O R,H4 N (Ae a) n t o (b:Int) K=K (Ao (val a/b)).length (Ao (val a%b)).length (Ae S') (Ae S2):=by
 subst hn
 have h1:=C.1;have h2:=C.2
 obtain⟨S',S2,I,L,T,Y,q5⟩:=kw (R:=R) (t:=t) (o:=o) D k G C a.length N (replicate a.length 0) 0 (by omega) (Axo _) (Cj _) (by simp) k (by rw[Ayv (by simp),Ayv (by simp)];simp[val])
 refine⟨S',S2,I,L,T,Y,fun K=>?_⟩
 rw[X3];unfold Ow
 rw[Akd (by omega),ct,i64 (by omega),C2]
 exact q5 K
def Amc{x V s:Nat}(G:x<4294967296)(hs:s<=31):(x+4294967296*V)/2 ^ s=(x+4294967296*(V%4294967296))/2 ^ s%4294967296+4294967296*(V/2 ^ s):=by
 have k:0<2 ^ s:=Azf (by omega)
 have D:2 ^ s∣4294967296:=⟨2 ^ (32 - s),by rw[<-Ay0,show s+(32 - s)=32 by omega]⟩
 have key:∀ W,(x+4294967296*W)/2 ^ s=(x+4294967296*(W%2 ^ s))/2 ^ s+4294967296*(W/2 ^ s):=by
  intro W
  have e:x+4294967296*W=x+4294967296*(W%2 ^ s)+2 ^ s*(4294967296*(W/2 ^ s)):=by
   have h:=Ay6 W (2 ^ s)
   have:4294967296*W=4294967296*(2 ^ s*(W/2 ^ s)+W%2 ^ s):=by rw[h]
   rw[this,Axx,Az0];omega
  rw[e,A0l _ _ k]
 have C:(x+4294967296*(V%2 ^ s))/2 ^ s<4294967296:=by
  rw[A17 k]
  have:V%2 ^ s+1<=2 ^ s:=Azo _ k
  have:=Aya 4294967296 this
  rw[Axx]at this
  omega
 rw[key V,key (V%4294967296),Nat.mod_mod_of_dvd _ D,A24,Ayl C]
def Aol:∀{l:List Nat},Al l->val l%4294967296=l.getD 0 0
|[],_=>rfl
|x::r,h=>by
  have:=(De.1 h).1
  simp[val];omega
def Ab2{N:Nat}{a:List Nat}{o:Bool}{s:Nat}(G:Al a)(hs:s<=31)(I:fit a.length N):∀(m d fuel:Nat)(S:List Nat),d+m=a.length->m<fuel->Al S->S.length=a.length->Ai7 S d->val S+4294967296 ^ d*(val (a.drop d)/2 ^ s)=val a/2 ^ s ->
  ∃ S',Al S'/\val S'=val a/2 ^ s/\∀ K:Nat->Bool->LA->O R,C9 N K o fuel (Ae a) a.length (s:Int) a.length (Ae a) a.length (a.length:Int) (d:Int) (Ae S)=K (Ao (val a/2 ^ s)).length true (Ae S')
|0,d,fuel+1,S,hd,_,hS,L,T,D=>by
  have Y:d=a.length:=by omega
  subst Y
  rw[List.drop_length]at D
  simp[val]at D
  refine⟨S,hS,D,fun K=>?_⟩
  rw[C9];unfold Ib
  rw[Ki (Axo _),cf,HB L.symm hS (by rw[L];exact I),D]
| m+1,d,fuel+1,S,hd,hfu,hS,L,T,D=>by
  have h1:=I.1;have h2:=I.2
  have k:d<a.length:=by omega
  have ad:=A3 G k
  have step:=Amc (V:=val (a.drop (d+1))) ad hs
  rw[Aol (KJ G _),<-TD k]at step
  have hg:(a.drop (d+1)).getD 0 0=a.getD (d+1) 0:=by simp[Axu,Ayw]
  rw[hg]at step
  have go:∀ w,(a[d]+4294967296*a.getD (d+1) 0)/2 ^ s=w->∃ S',Al S'/\val S'=val a/2 ^ s/\∀ K:Nat->Bool->LA->O R,C9 N K o fuel (Ae a) a.length (s:Int) a.length (Ae a) a.length (a.length:Int) ((d+1:Nat):Int) (Ae (S.set d (w%4294967296)))=K (Ao (val a/2 ^ s)).length true (Ae S'):=by
   intro w hw
   refine Ab2 (o:=o) G hs I m (d+1) fuel (S.set d (w%4294967296)) (by omega) (by omega) (Cm hS (by omega) d) (by simpa using L) (E' T) ?_
   rw[Wd T (by omega),<-D,step,hw,Ax3,Axx,Axt];omega
  by_cases hn:d+1<a.length
  ·have an:=A3 G hn
   have C:a.getD (d+1) 0=a[d+1]:=by rw[Axu,Axn hn];rfl
   rw[C]at go
   obtain⟨S',q1,q2,q3⟩:=go _ rfl
   refine⟨S',q1,q2,fun K=>?_⟩
   rw[C9];unfold Ib
   have e:Rb .u64 ((a[d]:Nat):Int) (wrap .u64 (((a[d+1]:Nat):Int)*2 ^ 32))=((a[d]+4294967296*a[d+1]:Nat):Int):=by
    rw[show(2:Int) ^ 32=((2 ^ 32:Nat):Int) by rfl,pA,Iu (by omega),Ad7 (by omega) (by omega),A46,ge (by omega)]
    congr 1;omega
   rw[Jo k,ct,Aa k,ct,PO k,wS (by omega),Jo hn,ct,Aa hn,ct,PO hn,show decide ((s:Int)<0)=false by simp,cf,ct,uX (by omega),ct,Iu (show a[d]<18446744073709551616 by omega),Iu (show a[d+1]<18446744073709551616 by omega),e,Axm s,Ayd (by omega),R4,ZB,RH]
   exact q3 K
  ·have C:a.getD (d+1) 0=0:=by rw[Axu,Ayz (by omega)];rfl
   rw[C,Nat.mul_zero,Ayq]at go
   obtain⟨S',q1,q2,q3⟩:=go _ rfl
   refine⟨S',q1,q2,fun K=>?_⟩
   rw[C9];unfold Ib
   rw[Jo k,ct,Aa k,ct,PO k,wS (by omega),Ki (by omega),cf,show decide ((s:Int)<0)=false by simp,cf,ct,uX (by omega),ct,Iu (show a[d]<18446744073709551616 by omega),Axm s,Ayd (by omega),R4,ZB,RH]
   exact q3 K
def Amd{N:Nat}{a:List Nat}{n:Nat}{t o:Bool}{s:Nat}(hn:n=a.length)(C:Al a)(hs:s<=31)(k:fit a.length N):
  ∃ S',Al S'/\val S'=val a/2 ^ s/\∀ K:Nat->Bool->LA->O R,Pv N (Ae a) n t o (s:Int) K=K (Ao (val a/2 ^ s)).length true (Ae S'):=by
 have h1:=k.1;have h2:=k.2
 have la:=(Bi C).2
 have G:wrap .i64 (Int.tdiv (s:Int) 32)=((0:Nat):Int):=by
  rw[show(32:Int)=((32:Nat):Int) by rfl,YB,Ay4 (by omega)];decide
 have e1:Int.tmod (s:Int) 32=(s:Int):=by rw[show(32:Int)=((32:Nat):Int) by rfl,TC,Ayl (by omega)]
 by_cases D:val a=0
 ·refine⟨[],Ug,by rw[D];simp[val],fun K=>?_⟩
  rw[Sb];unfold Nm
  rw[show decide ((s:Int)<0)=false by simp,cf,Bt hn C k,D,G,Nat.zero_div,D8];rfl
 ·obtain⟨S',L,I,T⟩:=Ab2 (R:=R) (o:=o) (a:=Ao (val a)) (Ad _) hs (k.le la) (Ao (val a)).length 0 N (replicate (Ao (val a)).length 0) (by omega) (by omega) (Cj _) (by simp) (Mi _) (by rw[Ej];simp)
  rw[Ak]at I
  refine⟨S',L,I,fun K=>?_⟩
  rw[Sb];unfold Nm
  have Y:(Ao (val a)).length≠0:=fun h=>D (Bl.1 h)
  rw[show decide ((s:Int)<0)=false by simp,cf,Bt hn C k,G,e1,show decide (((0:Nat):Int)>=(((Ao (val a)).length:Nat):Int))=false by rw[decide_eq_false_iff_not];omega,cf]
  have c1:((decide ((0:Int)<=((0:Nat):Int)))&&((decide (((0:Nat):Int)<=(((Ao (val a)).length:Nat):Int)))&&((decide ((((Ao (val a)).length:Nat):Int)<=(((Ao (val a)).length:Nat):Int)))&&(decide ((((Ao (val a)).length:Nat):Int)<=(((Ao (val a)).length:Nat):Int))))))=true:=by simp
  rw[c1,ct,Axm,Nat.sub_zero,Akd (by omega),ct,A2q,Ayh,Ax4,Uh,Ayk,C2]
  have:=T K
  rw[Ak]at this
  exact this
def MW{S:List Nat}{k:Nat}(h:val S<4294967296 ^ k):val (S.take k)=val S:=by
 by_cases G:k<=S.length
 ·have C:=Qr (S.take k) (S.drop k)
  rw[A0g,Ax6,Ayd G]at C
  rcases Ayf (val (S.drop k))with D|D
  ·rw[D]at C;simpa using C.symm
  ·have:=A1z (4294967296 ^ k) D
   omega
 ·rw[Axl (by omega)]
def MX{S:List Nat}{n:Nat}(hS:Al S)(h:S.length=n+1):val S<(S[n]+1)*4294967296 ^ n:=by
 have C:=IP h
 have k:=Bc (Cg hS n)
 rw[Ax6,Ayd (by omega)]at k
 rw[Ax2,Axq S[n]];omega
def Aw7{a b c:Nat}(k:a<=b)(C:b<=c):((decide ((0:Int)<=(a:Int)))&&((decide ((a:Int)<=(b:Int)))&&((decide ((b:Int)<=(c:Int)))&&(decide ((c:Int)<=(c:Int))))))=true:=by simp;omega
def vS{N:Nat}{v u0 Sv:List Nat}{n D s:Nat}(hn:v.length=n+2)(hv:Al v)(hv1:2147483648<=v[n+1]'(by omega))(hSv:take ((n+2)*1) (Ae Sv)=Ae v)(hu:Al u0)(hul:u0.length=D+(n+2))(hs:s<=31)(L:fit (D+n+4) N):
  ∀(j fuel c:Nat)(W q:List Nat),j<fuel->c+j=D->Al W->W.length=u0.length->Al q->q.length=D->W.take j=u0.take j->val (W.drop j)<val v->val (q.drop j)*val v+val (W.drop j)=val (u0.drop j) ->
  ∃ Sq Sr,Al Sq/\val Sq=val u0/val v/\Al Sr/\val Sr=val u0%val v/2 ^ s/\∀ K:Nat->Nat->LA->LA->O R,Ea N K (s:Int) (n+2) u0.length (Ae Sv) fuel D ((n+2:Nat):Int) (D:Int) (D:Int) (c:Int) (Ae q) (Ae W)=K (Ao (val u0/val v)).length (Ao (val u0%val v/2 ^ s)).length (Ae Sq) (Ae Sr)
|0,fuel+1,c,W,q,_,hc,hW,hWl,hq,G,T,hr,C=>by
  have h1:=L.1;have h2:=L.2
  simp only[Ayh]at C hr
  have Y:0<val v:=by omega
  have vlt:=Bc hv
  rw[hn]at vlt
  have hq2:val u0/val v=val q:=by rw[<-C,Axq,A1s Y,Ay4 hr,Ayq]
  have hm:val u0%val v=val W:=by rw[<-C,Axq,A2f,Ayl hr]
  have ht:val (W.take (n+2))=val W:=MW (by omega)
  have htl:(W.take (n+2)).length=n+2:=by rw[Ax6];omega
  obtain⟨S',q1,q3,q4⟩:=Amd (R:=R) (N:=N) (a:=W.take (n+2)) (n:=n+2) (t:=false) (o:=true) (s:=s) htl.symm (Cg hW _) hs (L.le (by rw[htl];omega))
  rw[ht,<-hm]at q3 q4
  refine⟨q,S',hq,hq2.symm,q1,q3,fun K=>?_⟩
  have hcD:c=D:=by omega
  subst hcD
  rw[Ea];unfold M0
  rw[Ki (Axo _),cf,App (by omega),ct,Axm,Ax4,Uh,q4,HB G.symm hq (by rw[G];exact L.le (by omega)),<-hq2]
| j+1,fuel+1,c,W,q,hfu,hc,hW,hWl,hq,G,T,hr,C=>by
  have h1:=L.1;have h2:=L.2
  have vlt:=Bc hv
  rw[hn]at vlt
  have hjW:j<W.length:=by omega
  have hju:j<u0.length:=by omega
  have hjq:j<q.length:=by omega
  have hWj:W[j]=u0[j]:=by
   have:=congrArg (fun l=>l[j]?) T
   simp only[A3d (show j<j+1 by omega),Axn hjW,Axn hju]at this
   exact A3s this
  have wj:=A3 hW hjW
  have eW:=TD hjW
  have eu:=TD hju
  have hUl:((W.drop j).take (n+3)).length=n+3:=by rw[Ax6,A3i];omega
  have k:val (W.drop j)<val v*4294967296:=by rw[eW];omega
  have hB:val (W.drop j)<4294967296 ^ (n+3):=by
   have:=(A0m (show 0<4294967296 by omega)).2 vlt
   rw[<-Ax3]at this;exact Nat.lt_trans k this
  have hU:val ((W.drop j).take (n+3))=val (W.drop j):=MW hB
  have I:W=W.take j++((W.drop j).take (n+3)++(W.drop j).drop (n+3)):=by rw[A0g,A0g]
  have hPl:(W.take j).length=j:=by rw[Ax6];omega
  obtain⟨U',u1,u2,u3,u4⟩:=rX (R:=R) (N:=N) (P:=W.take j) (Q:=(W.drop j).drop (n+3)) (U:=(W.drop j).take (n+3)) (v:=v) (n:=n) (f:=false) (g:=true) hn hv (Cg (KJ hW _) _) hUl (by omega) (by omega) hv1 (by rw[hU];exact k)
  rw[hU]at u3 u4
  have hQ0:val ((W.drop j).drop (n+3))=0:=by
   have:=Qr ((W.drop j).take (n+3)) ((W.drop j).drop (n+3))
   rw[A0g,hU,hUl]at this
   have hp:0<4294967296 ^ (n+3):=Azf (by omega)
   rcases Ayf (val ((W.drop j).drop (n+3)))with h|h
   ·exact h
   ·have:=A1z (4294967296 ^ (n+3)) h;omega
  have Y:0<val v:=by omega
  have hqd:val (W.drop j)/val v<4294967296:=A0z k
  have hdm:=Ay6 (val (W.drop j)) (val v)
  have hmd:=Azo (val (W.drop j)) Y
  have hW':Al (W.take j++(U'++(W.drop j).drop (n+3))):=cE.2 ⟨Cg hW _,cE.2 ⟨u1,KJ (KJ hW _) _⟩⟩
  have hWl':(W.take j++(U'++(W.drop j).drop (n+3))).length=u0.length:=by
   rw[Ax1,Ax1,hPl,u2,A3i,A3i];omega
  have hWd:(W.take j++(U'++(W.drop j).drop (n+3))).drop j=U'++(W.drop j).drop (n+3):=by
   rw[A3g,hPl,A2p,Ayh,Ayv (by omega),A0e]
  have hWt:(W.take j++(U'++(W.drop j).drop (n+3))).take j=u0.take j:=by
   rw[List.take_append,hPl,A2p,A0k,Ay5,A35,Nat.min_self]
   have:=congrArg (take j) T
   rwa [A35,A35,Ayd (by omega)]at this
  have hWv:val (U'++(W.drop j).drop (n+3))=val (W.drop j)%val v:=by rw[Qr,hQ0,u3];simp
  obtain⟨Sq,Sr,a1,a2,a3,a4,a5⟩:=vS (N:=N) hn hv hv1 hSv hu hul hs L j fuel (c+1) (W.take j++(U'++(W.drop j).drop (n+3))) (q.set j (val (W.drop j)/val v)) (by omega) (by omega) hW' hWl' (Cm hq hqd j) (by simpa using G) hWt (by rw[hWd,hWv];exact hmd) (by
   rw[hWd,hWv,Ab0 hjq,val,eu,<-C,<-hWj,Ax2,Axt,Axx,Axq (val (W.drop j)/val v)]
   omega)
  refine⟨Sq,Sr,a1,a2,a3,a4,fun K=>?_⟩
  have w0:wrap .i64 (wrap .i64 ((D:Int) - 1) - (c:Int))=(j:Int):=by
   rw[i64 (a:=(D:Int) - 1) (by omega),i64 (by omega)];omega
  have w1:wrap .i64 (wrap .i64 ((j:Int)+((n+2:Nat):Int))+1)=((j+(n+3):Nat):Int):=by
   rw[i64 (a:=(j:Int)+((n+2:Nat):Int)) (by omega),i64 (by omega)];omega
  have:=u4 fun z aa=>cond (Ac (j:Int) D) (cond ((beq 1 1)&&((ble ((0+((Int.toNat (j:Int))*1))+1) (List.length (Ae q)))&&(!false))) (Ea N K (s:Int) (n+2) u0.length (Ae Sv) fuel D ((n+2:Nat):Int) (D:Int) (D:Int) (wrap .i64 ((c:Int)+1)) (List.set (Ae q) (0+((Int.toNat (j:Int))*1)) (.int .u32 z)) aa) none) none
  rw[<-I,hPl]at this
  rw[Ea];unfold M0
  rw[Jo (by omega),ct,w0,w1,Aw7 (by omega) (by omega),ct,hSv,Axm,Axm,Ax4,Ax0,show j+(n+3) - j=n+3 by omega]
  rw[Axm,Ax4,Ax0]at this
  rw[this,Aa (by omega),ct,show((beq 1 1)&&((ble (j+1) (List.length (Ae q)))&&(!false)))=true by(rw[Bp];simp;omega),ct,cF,wS (by omega)]
  exact a5 K
def Ai8{N:Nat}{a b:List Nat}{n m:Nat}{t o t' o':Bool}(hn:n=a.length)(hm:m=b.length)(ha:Al a)(hb:Al b)(Y:2<=b.length)(hlen:b.length<=a.length)(G:b.getLast (by intro h;rw[h]at Y;simp at Y)≠0)(hf:fit (a.length+b.length+4) N):
  ∃ Sq Sr,Al Sq/\val Sq=val a/val b/\Al Sr/\val Sr=val a%val b/\∀ K:Nat->Nat->LA->LA->O R,Mc N (Ae a) n t o (Ae b) m t' o' K=K (Ao (val a/val b)).length (Ao (val a%val b)).length (Ae Sq) (Ae Sr):=by
 subst hn hm
 have h1:=hf.1;have h2:=hf.2
 obtain⟨k,hk⟩:∃ k,b.length=k+2:=⟨b.length - 2,by omega⟩
 have hbl2:b[k+1]'(by omega)≠0:=by
  rw[A05]at G
  simp only[hk]at G
  exact G
 have bk:=A3 hb (show k+1<b.length by omega)
 obtain⟨s,s1,s2,s3,s4⟩:=Ags (R:=R) (N:=N) (c:=b[k+1]'(by omega)) (by omega) bk
 obtain⟨Sv,v1,v2,v3,v4⟩:=fM (R:=R) (N:=N) (a:=b) (t:=false) (o:=o') (s:=s) rfl hb s1 (hf.le (by omega))
 obtain⟨Su,p1,p2,p3,p4⟩:=fM (R:=R) (N:=N) (a:=a) (t:=false) (o:=o) (s:=s) rfl ha s1 (hf.le (by omega))
 have hp:0<2 ^ s:=Azf (by omega)
 have hP:0<4294967296 ^ (k+1):=Azf (by omega)
 have bt:=MX hb hk
 have bf:=IP hk
 have hVlt:val b*2 ^ s<4294967296 ^ (k+2):=by
  have x1:val b*2 ^ s<(b[k+1]+1)*4294967296 ^ (k+1)*2 ^ s:=(A0m hp).2 bt
  have hd:2 ^ s∣4294967296:=⟨2 ^ (32 - s),by rw[<-Ay0,show s+(32 - s)=32 by omega]⟩
  have x2:(b[k+1]+1)*2 ^ s<=4294967296:=by
   obtain⟨r,hr⟩:=hd
   have x3:b[k+1]<r:=by
    rw[hr,Axq]at s3
    exact A0f s3
   have x4:(b[k+1]+1)*2 ^ s<=r*2 ^ s:=Axs _ x3
   have x5:r*2 ^ s=4294967296:=by rw[Axq];exact hr.symm
   omega
  have x6:=Axs (4294967296 ^ (k+1)) x2
  rw[A1w]at x1
  rw[Ax3,Axq _ 4294967296]
  exact Ax9 x1 x6
 have hvl:(Sv.take (k+2)).length=k+2:=by rw[Ax6];omega
 have C:val (Sv.take (k+2))=val b*2 ^ s:=by rw[MW (by rw[v3];exact hVlt),v3]
 have I:2147483648*4294967296 ^ (k+1)<=val b*2 ^ s:=by
  have x1:4294967296 ^ (k+1)*b[k+1]<=val b:=by omega
  have x2:=Axs (2 ^ s) x1
  rw[Axt,Axq (4294967296 ^ (k+1))]at x2
  have x3:=Axs (4294967296 ^ (k+1)) s2
  omega
 have L:2147483648<=(Sv.take (k+2))[k+1]'(by omega):=by
  have x1:=MX (Cg v1 (k+2)) hvl
  rw[C]at x1
  have x2:=A1i (Ayt I x1)
  omega
 have hDl:Su.length=(a.length+1 - (k+2))+(k+2):=by omega
 have T:val (Su.drop (a.length+1 - (k+2)))<val (Sv.take (k+2)):=by
  have x1:=Qr (Su.take (a.length+1 - (k+2))) (Su.drop (a.length+1 - (k+2)))
  rw[A0g,p3,Ax6,Ayd (by omega)]at x1
  have x2:=Bc ha
  have x3:val a*2 ^ s<4294967296 ^ a.length*2 ^ s:=(A0m hp).2 x2
  have x4:a.length=(a.length+1 - (k+2))+(k+1):=by omega
  generalize hE:a.length+1 - (k+2)=E at *
  have x5:4294967296 ^ a.length=4294967296 ^ E*4294967296 ^ (k+1):=by rw[<-Ay0];congr 1
  rw[x5,Axt]at x3
  have x6:4294967296 ^ E*val (Su.drop E)<4294967296 ^ E*(4294967296 ^ (k+1)*2 ^ s):=by omega
  have x7:=A0f x6
  have x8:4294967296 ^ (k+1)*2 ^ s<=2147483648*4294967296 ^ (k+1):=by rw[Axq];exact Axs _ (yc s1)
  rw[C];omega
 obtain⟨Sq,Sr,a1,a2,a3,a4,a5⟩:=vS (R:=R) (N:=N) (v:=Sv.take (k+2)) (u0:=Su) (Sv:=Sv) (n:=k) (D:=a.length+1 - (k+2)) (s:=s) hvl (Cg v1 _) L (by rw[Ax4,Uh]) p1 hDl s1 (hf.le (by omega)) (a.length+1 - (k+2)) N 0 Su (replicate (a.length+1 - (k+2)) 0) (by omega) (by omega) p1 rfl (Cj _) (by simp) rfl T (by
  rw[Ayv (show(replicate (a.length+1 - (k+2)) 0).length<=a.length+1 - (k+2) by simp)];simp[val])
 have hq:val Su/val (Sv.take (k+2))=val a/val b:=by rw[p3,C,Nat.mul_div_mul_right _ _ hp]
 have hr:val Su%val (Sv.take (k+2))/2 ^ s=val a%val b:=by rw[p3,C,Nat.mul_mod_mul_right,Nat.mul_div_cancel _ hp]
 rw[hq]at a2;rw[hr]at a4
 refine⟨Sq,Sr,a1,a2,a3,a4,fun K=>?_⟩
 rw[EA];unfold Ss
 have w1:wrap .i64 ((b.length:Int) - 1)=((k+1:Nat):Int):=by rw[i64 (by omega)];omega
 have w2:wrap .i64 (((a.length+1:Nat):Int) - (b.length:Int))=((a.length+1 - (k+2):Nat):Int):=by rw[i64 (by omega)];omega
 rw[w1,Aa (by omega),ct,PO (by omega),s4,v4,App (by omega),ct,p4,w2,Akd (by omega),ct,Axm,C2]
 have:=a5 K
 rw[hq,hr,p2]at this
 rw[hk]
 exact this
def TE{N:Nat}{a b:List Nat}{n m:Nat}{t o t' o':Bool}(hn:n=a.length)(hm:m=b.length)(ha:Al a)(hb:Al b)(I:val b≠0)(D:fit (a.length+b.length+4) N):
  ∃ Sq Sr,Al Sq/\val Sq=val a/val b/\Al Sr/\val Sr=val a%val b/\∀ K:Nat->Nat->Bool->LA->LA->O R,F6 N (Ae a) n t o (Ae b) m t' o' K=K (Ao (val a/val b)).length (Ao (val a%val b)).length true (Ae Sq) (Ae Sr):=by
 have h1:=D.1;have h2:=D.2
 have la:=(Bi ha).2
 have lb:=(Bi hb).2
 have hbl:(Ao (val b)).length≠0:=fun h=>I (Bl.1 h)
 have start:∀ K:Nat->Nat->Bool->LA->LA->O R,F6 N (Ae a) n t o (Ae b) m t' o' K=cond (decide (Hv (val a) (val b)<0)) (DJ N (Ae (Ao (val a))) (Ao (val a)).length false o fun s t=>K 0 s true [] t) (cond (decide ((((Ao (val a)).length:Nat):Int)<=(2:Int))) (R6 N (Ae (Ao (val a))) (Ao (val a)).length false o fun p=>R6 N (Ae (Ao (val b))) (Ao (val b)).length false o' fun o=>cond (o==(0:Int)) none (Bx N (wrap .u64 (Int.tdiv p o)) fun u w=>cond (o==(0:Int)) none (Bx N (Int.tmod p o) fun x y=>K u x true w y))) (cond ((((Ao (val b)).length:Nat):Int)==(1:Int)) (cond (Ac (0:Int) (Ao (val b)).length) (Aq .u32 (Ae (Ao (val b))) fun z=>H4 N (Ae (Ao (val a))) (Ao (val a)).length false o z fun aa ab ac ad=>K aa ab true ac ad) none) (Mc N (Ae (Ao (val a))) (Ao (val a)).length false o (Ae (Ao (val b))) (Ao (val b)).length false o' fun ae af ag ah=>K ae af true ag ah))):=by
  intro K
  rw[XR];unfold ZV
  rw[Bt hn ha (D.le (by omega)),Bt hm hb (D.le (by omega)),ti hbl,cf,Rp rfl rfl (Ad _) (Ad _) (D.le (by omega)),Ak,Ak]
 by_cases k:val a<val b
 ·refine⟨[],Ao (val a),Ug,by rw[Ay4 k];rfl,Ad _,by rw[Ayl k,Ak],fun K=>?_⟩
  rw[start,show decide (Hv (val a) (val b)<0)=true by(unfold Hv;rw[if_pos k];rfl),ct,VH rfl (Ad _) (D.le (by omega)),Ak,Ay4 k,Ayl k,D8];rfl
 ·have C:decide (Hv (val a) (val b)<0)=false:=by unfold Hv;rw[if_neg k];split<;>rfl
  have L:=Br (Az9 k)
  by_cases G:(Ao (val a)).length<=2
  ·have av:=fK G
   have bv:=fK (Ay7 L G)
   have T:val a/val b<18446744073709551616:=Ayt (Azp _ _) av
   have r64:val a%val b<18446744073709551616:=Ayt (Nat.mod_le _ _) av
   obtain⟨Sq,a1,a2,a3⟩:=Ld (R:=R) (N:=N) T (by omega)
   obtain⟨Sr,b1,b2,b3⟩:=Ld (R:=R) (N:=N) r64 (by omega)
   refine⟨Sq,Sr,a1,a2,b1,b2,fun K=>?_⟩
   rw[start,C,cf,show decide ((((Ao (val a)).length:Nat):Int)<=2)=true by simp;omega,ct,IN rfl (Ad _) G (by omega),IN rfl (Ad _) (by omega) (by omega),Ak,Ak,ti I,cf,YB,Iu T,a3,cf,TC,b3]
  ·have Y:decide ((((Ao (val a)).length:Nat):Int)<=2)=false:=by simp;omega
   by_cases hb1:(Ao (val b)).length=1
   ·obtain⟨x,hx⟩:∃ x,Ao (val b)=[x]:=by
     match h:Ao (val b),hb1 with
     |[x],_=>exact⟨x,rfl⟩
    have hxv:x=val b:=by have:=Ak (val b);rw[hx]at this;simpa[val]using this
    have xl:x<4294967296:=by have:=Ad (val b);rw[hx]at this;exact(De.1 this).1
    obtain⟨Sq,Sr,a1,a2,a3,a4,a5⟩:=Ab1 (R:=R) (N:=N) (a:=Ao (val a)) (t:=false) (o:=o) (b:=x) rfl (Ad _) (by omega) xl (D.le (by omega))
    rw[Ak,hxv]at a2 a4 a5
    refine⟨Sq,Sr,a1,a2,a3,a4,fun K=>?_⟩
    rw[start,C,cf,Y,cf,hx]
    simp only[Ayb,Az4,Z5,Av]
    rw[show(((0+1:Nat):Int)==1)=true by rfl,ct,show Ac 0 (0+1)=true by decide,ct,hxv,a5]
   ·obtain⟨Sq,Sr,a1,a2,a3,a4,a5⟩:=Ai8 (R:=R) (N:=N) (a:=Ao (val a)) (b:=Ao (val b)) (t:=false) (o:=o) (t':=false) (o':=o') rfl rfl (Ad _) (Ad _) (by omega) L (oz _ _) (D.le (by omega))
    rw[Ak,Ak]at a2 a4 a5
    refine⟨Sq,Sr,a1,a2,a3,a4,fun K=>?_⟩
    rw[start,C,cf,Y,cf,show((((Ao (val b)).length:Nat):Int)==1)=false by rw[beq_eq_false_iff_ne];omega,cf,a5]
def Auj (A B u0 u1 v0 v1:Nat) (e:Bool):Prop:=v0=0\/(1<=u1/\1<=v1/\match e with
|true=>v0*B<=u0*A/\u1*A<=v1*B/\(v0+v1)*B<=(u0+u1)*A/\u0*v1=v0*u1+1
| false=>u0*A<=v0*B/\v1*B<=u1*A/\(u0+u1)*A<=(v0+v1)*B/\u1*v0=v1*u0+1)
structure Lead(X Y x y u1 u2 v1 v2:Nat)(e:Bool):Prop where
 le:y<=x
 idV:x*v2+y*v1=X
 idU:x*u2+y*u1=Y
 pos:1<=v2
 par:match e with
  |false=>x+v1*Y=u1*X/\y+u2*X=v2*Y/\u1*v2=v1*u2+1
  |true=>x+u1*X=v1*Y/\y+v2*Y=u2*X/\u2*v1=v2*u1+1
 small:(v1=0/\u1=1/\u2=0/\v2=1/\e=false)\/(1<=v1/\u1<=v1/\u2<=v2/\1<=u2)
def Lead.init{X Y:Nat}(h:Y<=X):Lead X Y X Y 1 0 0 1 false:=⟨h,by simp,by simp,by omega,by simp,.inl ⟨rfl,rfl,rfl,rfl,rfl⟩⟩
def Lead.step{X Y x y u1 u2 v1 v2:Nat}{e:Bool}(L:Lead X Y x y u1 u2 v1 v2 e)(hy:1<=y):Lead X Y y (x%y) u2 (u1+x/y*u2) v2 (v1+x/y*v2) (!e):=by
 have k:=Ay6 x y
 have T:=Azo x (show 0<y by omega)
 have hq:1<=x/y:=by rw[A1c (by omega)];have:=L.le;omega
 generalize x/y=q at *
 generalize x%y=r at *
 have C:=L.pos
 refine⟨by omega,?_,?_,?_,?_,?_⟩
 ·rw[<-L.idV,<-k,Axx,Ax2,Axt];omega
 ·rw[<-L.idU,<-k,Axx,Ax2,Axt];omega
 ·have:=Azk hq C;omega
 ·have p:=L.par
  cases e with
  | false =>
   obtain⟨p1,p2,G⟩:=p
   refine⟨p2,?_,?_⟩
   ·have e1:q*(y+u2*X)=q*(v2*Y):=by rw[p2]
    rw[Axx,<-Axt,<-Axt]at e1
    rw[Axq y q]at k
    rw[Ax2,Ax2];omega
   ·rw[Ax2,Ax2,A1w q u2,G];omega
  | true =>
   obtain⟨p1,p2,G⟩:=p
   refine⟨p2,?_,?_⟩
   ·have e1:q*(y+v2*Y)=q*(u2*X):=by rw[p2]
    rw[Axx,<-Axt,<-Axt]at e1
    rw[Axq y q]at k
    rw[Ax2,Ax2];omega
   ·rw[Axx,Axx,G,Az0 u2 q,Az0 v2 q,Axq u2 v2];omega
 ·right
  rcases L.small with⟨s1,s2,D,I,_⟩|⟨s1,s2,D,I⟩
  ·subst s1 s2 D I;exact⟨by omega,by omega,by omega,by omega⟩
  ·have h1:q*u2<=q*v2:=Aya _ D
   exact⟨C,D,by omega,by have:=Azk hq I;omega⟩
def Lead.cof{X Y x y u1 u2 v1 v2 A B P:Nat}{e:Bool}(L:Lead X Y x y u1 u2 v1 v2 e)(hA:X*P<=A)(hA':A<(X+1)*P)(hB:Y*P<=B)(hB':B<(Y+1)*P)(c1:v2<=y)(C:v1+v2<=x - y):Auj A B u1 u2 v1 v2 (!e):=by
 have p:=L.par
 have D:=L.le
 rcases L.small with⟨s1,_⟩|⟨s1,s2,I,G⟩
 ·exact .inl s1
 ·refine .inr ⟨G,L.pos,?_⟩
  cases e with
  |false =>
   obtain⟨p1,p2,k⟩:=p
   have n1:u2*A<=v2*B:=DE hB hA' (w:=y) (by omega) (by omega)
   have n2:(v1+v2)*B<=(u1+u2)*A:=DE hA hB' (w:=x - y) (by rw[Ax2,Ax2];omega) C
   refine⟨?_,n1,n2,k⟩
   rw[Ax2,Ax2]at n2;omega
  |true =>
   obtain⟨p1,p2,k⟩:=p
   have n1:v2*B<=u2*A:=DE hA hB' (w:=y) (by omega) (by omega)
   have n2:(u1+u2)*A<=(v1+v2)*B:=DE hB hA' (w:=x - y) (by rw[Ax2,Ax2];omega) (by omega)
   refine⟨?_,n1,n2,k⟩
   rw[Ax2,Ax2]at n2;omega
def TF{x y:Nat}(C:1<=y)(h:y<=x):2*(y*(x%y))<=x*y:=by
 have D:=Ay6 x y
 have G:=Azo x (show 0<y by omega)
 have hq:1<=x/y:=by rw[A1c (by omega)];omega
 have I:y*1<=y*(x/y):=Aya _ hq
 have k:2*(x%y)<=x:=by omega
 have:=Aya y k
 rw[Axq x y,Az0];exact this
def Agv(u0 u1 v0 v1:Nat)(e:Bool):LA:=[.int .u64 (u0:Int),.int .u64 (u1:Int),.int .u64 (v0:Int),.int .u64 (v1:Int),.bool e]
def Ai9{N:Nat}{X Y A B P:Nat}(hX:X<18446744073709551616)(hYX:Y<=X)(hA:X*P<=A)(hA':A<(X+1)*P)(hB:Y*P<=B)(hB':B<(Y+1)*P):∀(k fuel x y u0 u1 u2 v0 v1 v2:Nat)(e:Bool),k<fuel->x*y<2 ^ k->Lead X Y x y u1 u2 v1 v2 e->Auj A B u0 u1 v0 v1 e->u0<18446744073709551616->u1<18446744073709551616->v0<18446744073709551616->v1<18446744073709551616 ->
  ∃(a1 a2 b1 b2:Nat)(e':Bool),Auj A B a1 a2 b1 b2 e'/\a1<18446744073709551616/\a2<18446744073709551616/\b1<18446744073709551616/\b2<18446744073709551616/\∀ K:LA->O R,El N K fuel (x:Int) (y:Int) (u0:Int) (u1:Int) (u2:Int) (v0:Int) (v1:Int) (v2:Int) e=K (Agv a1 a2 b1 b2 e'):=by
 intro k
 induction k with
| zero =>
  intro fuel x y u0 u1 u2 v0 v1 v2 e hf G L C b1 b2 b3 b4
  obtain⟨fuel,rfl⟩:∃ F,fuel=F+1:=⟨fuel - 1,by omega⟩
  have T:y=0:=by
   rcases Ayf y with h|h
   ·exact h
   ·have h3:=Aya x (show 1<=y by omega)
    have h4:=L.le
    rw[A13]at G
    omega
  refine⟨u0,u1,v0,v1,e,C,b1,b2,b3,b4,fun K=>?_⟩
  rw[El];unfold Jm
  have:=L.pos
  rw[show decide ((y:Int)>=(v2:Int))=false by simp;omega];rfl
| succ k ih =>
  intro fuel x y u0 u1 u2 v0 v1 v2 e hf G L C b1 b2 b3 b4
  obtain⟨fuel,rfl⟩:∃ F,fuel=F+1:=⟨fuel - 1,by omega⟩
  have hv2:=L.pos
  have I:=L.le
  by_cases c1:v2<=y
  ·have T:1<=y:=by omega
   have hxX:x<=X:=by
    have:=Aya x hv2
    have:=L.idV;omega
   have hsum:v1+v2<=X:=by
    have h1:=Axs v2 (show 1<=x by omega)
    have h2:=Axs v1 T
    have:=L.idV;omega
   by_cases c2:v1+v2<=x - y
   ·have L':=L.step T
    have C':=L.cof hA hA' hB hB' c1 c2
    have i1:=L'.idV
    have i2:=L'.idU
    have w1:v1+x/y*v2<=X:=by
     have:=Axs (v1+x/y*v2) T;omega
    have w2:u1+x/y*u2<=Y:=by
     have:=Axs (u1+x/y*u2) T;omega
    have hu2:u2<18446744073709551616:=by
     have h1:=Axs u2 (show 1<=x by omega)
     have:=L.idU;omega
    have hv2':v2<18446744073709551616:=by omega
    have hlt:y*(x%y)<2 ^ k:=by
     have:=TF T I
     rw[Ax3]at G;omega
    obtain⟨a1,a2,d1,d2,e',r1,r2,r3,r4,r5,r6⟩:=ih fuel y (x%y) u1 u2 (u1+x/y*u2) v1 v2 (v1+x/y*v2) (!e) (by omega) hlt L' C' b2 hu2 b4 hv2'
    refine⟨a1,a2,d1,d2,e',r1,r2,r3,r4,r5,fun K=>?_⟩
    rw[El];unfold Jm
    have D:x<18446744073709551616:=by omega
    have hdiv:x/y<18446744073709551616:=Ayt (Azp _ _) D
    rw[show decide ((y:Int)>=(v2:Int))=true by simp;omega,show((true:Bool)==true)=true by rfl,ct,gc D I,GX,Iu (show v1+v2<18446744073709551616 by omega),show decide (((x - y:Nat):Int)>=((v1+v2:Nat):Int))=true by rw[decide_eq_true_eq];omega,Aa3,ct]
    unfold Vm
    rw[ti (by omega),cf,cf,YB,TC,Iu hdiv,pA,pA,Iu (show x/y*u2<18446744073709551616 by omega),Iu (show x/y*v2<18446744073709551616 by omega),GX,GX,Iu (show u1+x/y*u2<18446744073709551616 by omega),Iu (show v1+x/y*v2<18446744073709551616 by omega)]
    exact r6 K
   ·refine⟨u0,u1,v0,v1,e,C,b1,b2,b3,b4,fun K=>?_⟩
    rw[El];unfold Jm
    rw[show decide ((y:Int)>=(v2:Int))=true by simp;omega,show((true:Bool)==true)=true by rfl,ct,gc (by omega) I,GX,Iu (show v1+v2<18446744073709551616 by omega),show decide (((x - y:Nat):Int)>=((v1+v2:Nat):Int))=false by rw[decide_eq_false_iff_not];omega,Aa3,cf]
    rfl
  ·refine⟨u0,u1,v0,v1,e,C,b1,b2,b3,b4,fun K=>?_⟩
   rw[El];unfold Jm
   rw[show decide ((y:Int)>=(v2:Int))=false by simp;omega];rfl
def iq{N:Nat}{a:List Nat}{n:Nat}{t o:Bool}{i:Nat}{K:Int->O R}(hn:n=a.length)(k:Al a):L9 N (i:Int) (Ae a) n t o K=K ((a.getD i 0:Nat):Int):=by
 subst hn
 rw[DL];unfold A_
 by_cases h:i<a.length
 ·have:=A3 k h
  rw[Jo h,ct,Aa h,ct,PO h,Iu (by omega),Axu,Axn h];rfl
 ·rw[Ki (by omega),cf,Axu,Ayz (by omega)];rfl
def AA{a:List Nat}(k:Al a)(i:Nat):a.getD i 0<4294967296:=by
 by_cases h:i<a.length
 ·rw[Axu,Axn h];exact A3 k h
 ·rw[Axu,Ayz (by omega)];simp
def Ame{a:List Nat}{n:Nat}(G:a.length<=n+3):val a=val (a.take n)+4294967296 ^ n*((a.getD (n+2) 0*4294967296+a.getD (n+1) 0)*4294967296+a.getD n 0):=by
 have k:=Rq a (n+2)
 have C:=Rq a (n+1)
 have D:=Rq a n
 rw[Axl (by omega)]at k
 have x1:4294967296 ^ (n+2)*a.getD (n+2) 0=4294967296 ^ n*(a.getD (n+2) 0*4294967296*4294967296):=by rw[Ax3 (n:=4294967296) (m:=n+1),Ax3,Asi,Asi]
 have x2:4294967296 ^ (n+1)*a.getD (n+1) 0=4294967296 ^ n*(a.getD (n+1) 0*4294967296):=by rw[Ax3,Asi]
 rw[k,C,D,x1,x2,Ax2,Axx,Axx];omega
def ky{N:Nat}{a:List Nat}{m n s:Nat}{t o:Bool}{K:Int->O R}(L:m=a.length)(D:Al a)(hl:a.length<=n+3)(hs:s<=31)(C:a.getD (n+2) 0*2 ^ s<4294967296)(hn:n<=1000000000000):
  G_ N (Ae a) m t o ((n+3:Nat):Int) (s:Int) K=K ((val a/(4294967296 ^ n*2 ^ (32 - s)):Nat):Int)/\val a/(4294967296 ^ n*2 ^ (32 - s))<18446744073709551616:=by
 have hp:0<2 ^ s:=Azf (by omega)
 have G:0<2 ^ (32 - s):=Azf (by omega)
 have hP:0<4294967296 ^ n:=Azf (by omega)
 have k:2 ^ s*2 ^ (32 - s)=4294967296:=by rw[<-Ay0,show s+(32 - s)=32 by omega]
 have b0:=AA D (n+2)
 have b1:=AA D (n+1)
 have b2:=AA D n
 have tk:=Bc (Cg D n)
 have tj:val (a.take n)<4294967296 ^ n:=by
  refine Ax9 tk (Aym (by omega) ?_)
  rw[Ax6];omega
 have hv:=Ame hl
 generalize T:a.getD (n+2) 0=a0 at *
 generalize Y:a.getD (n+1) 0=a1 at *
 generalize ha2:a.getD n 0=a2 at *
 have hd0:a0<2 ^ (32 - s):=by
  rw[<-k,Axq]at C;exact A0f C
 have I:(a0*4294967296+a1)*2 ^ s<18446744073709551616:=by
  have x1:(a0+1)*4294967296<=2 ^ (32 - s)*4294967296:=Axs _ hd0
  have x2:a0*4294967296+a1<2 ^ (32 - s)*4294967296:=by rw[Ax2]at x1;omega
  have x3:=(A0m hp).2 x2
  rw[A1w,Axq (2 ^ (32 - s)),k]at x3
  exact x3
 have hsh:a2/2 ^ (32 - s)<2 ^ s:=by
  rw[A17 G,k];exact b2
 have hq:val a/(4294967296 ^ n*2 ^ (32 - s))=(a0*4294967296+a1)*2 ^ s+a2/2 ^ (32 - s):=by
  rw[<-A12,hv,A0l _ _ hP,Ay4 tj,Ax0]
  have:(a0*4294967296+a1)*4294967296+a2=a2+2 ^ (32 - s)*((a0*4294967296+a1)*2 ^ s):=by
   rw[Az0,Axq (2 ^ (32 - s)),k];omega
  rw[this,A0l _ _ G];omega
 have hb:(a0*4294967296+a1)*2 ^ s+a2/2 ^ (32 - s)<18446744073709551616:=by
  have hdv:2 ^ s*2 ^ (64 - s)=18446744073709551616:=by rw[<-Ay0,show s+(64 - s)=64 by omega]
  obtain⟨r,hr⟩:∃ r,18446744073709551616=2 ^ s*r:=⟨2 ^ (64 - s),hdv.symm⟩
  rw[hr,Axq]at I
  have x1:=A0f I
  have x2:(a0*4294967296+a1+1)*2 ^ s<=r*2 ^ s:=Axs _ x1
  rw[Ax2,Axq r,<-hr]at x2
  omega
 rw[hq]
 refine⟨?_,hb⟩
 rw[XG];unfold ZJ
 have w1:wrap .i64 (((n+3:Nat):Int) - 1)=((n+2:Nat):Int):=by rw[i64 (by omega)];omega
 have w2:wrap .i64 (((n+3:Nat):Int) - 2)=((n+1:Nat):Int):=by rw[i64 (by omega)];omega
 have w3:wrap .i64 (((n+3:Nat):Int) - 3)=(n:Int):=by rw[i64 (by omega)];omega
 have w4:wrap .i64 ((32:Int) - (s:Int))=((32 - s:Nat):Int):=by rw[i64 (by omega)];omega
 rw[w1,w2,w3,w4,iq L D,iq L D,show decide ((s:Int)<0)=false by simp,cf,iq L D,show decide (((32 - s:Nat):Int)<0)=false by simp,cf]
 rw[T,Y,ha2,Aq7 b0 b1,Axm,Axm,Ayd (by omega),Ayd (by omega),R4,show(2:Int) ^ s=((2 ^ s:Nat):Int) by simp,pA,Iu I,Ad7 I (by omega),ge hsh]
def Aom{k N:Nat}(h:fit k N):1000<=N:=by have:=h.1;omega
def yd{N:Nat}{a b:List Nat}{n m:Nat}{t o t' o':Bool}(hn:n=a.length)(hm:m=b.length)(T:Al a)(hb:Al b)(I:3<=a.length)(D:a.getLast (by intro h;rw[h]at I;simp at I)≠0)(hlb:b.length<=a.length)(hle:val b<=val a)(hf:fit a.length N):
  ∃(a1 a2 b1 b2:Nat)(e:Bool),Auj (val a) (val b) a1 a2 b1 b2 e/\a1<18446744073709551616/\a2<18446744073709551616/\b1<18446744073709551616/\b2<18446744073709551616/\∀ K:LA->O R,BA N (Ae a) n t o (Ae b) m t' o' K=K (Agv a1 a2 b1 b2 e):=by
 subst hn hm
 have h1:=hf.1;have h2:=hf.2
 obtain⟨k,hk⟩:∃ k,a.length=k+3:=⟨a.length - 3,by omega⟩
 have hla2:a[k+2]'(by omega)≠0:=by
  rw[A05]at D
  simp only[hk]at D
  exact D
 have ak:=A3 T (show k+2<a.length by omega)
 obtain⟨s,s1,s2,s3,s4⟩:=Ags (R:=R) (N:=N) (c:=a[k+2]'(by omega)) (by omega) ak
 have hag:a.getD (k+2) 0=a[k+2]'(by omega):=by rw[Axu,Axn (by omega)];rfl
 have G:b.getD (k+2) 0<=a[k+2]'(by omega):=by
  apply Az9;intro C
  have L:k+2<b.length:=by
   apply A2a;intro hge
   rw[Axu,Ayz hge]at C;simp at C
  have hbg:b.getD (k+2) 0=b[k+2]:=by rw[Axu,Axn L];rfl
  rw[hbg]at C
  have x1:=MX T (n:=k+2) (by omega)
  have x2:=Ae3 L
  have x3:(a[k+2]+1)*4294967296 ^ (k+2)<=b[k+2]*4294967296 ^ (k+2):=Axs _ C
  rw[Axq]at x2
  omega
 have hbt:b.getD (k+2) 0*2 ^ s<4294967296:=Ayt (Axs _ G) s3
 have hPP:0<4294967296 ^ k*2 ^ (32 - s):=A29 (Azf (by omega)) (Azf (by omega))
 have wa:=fun K=>ky (R:=R) (N:=N) (a:=a) (m:=a.length) (n:=k) (s:=s) (t:=false) (o:=o) (K:=K) rfl T (by omega) s1 (by rw[hag];exact s3) (by omega)
 have wb:=fun K=>ky (R:=R) (N:=N) (a:=b) (m:=b.length) (n:=k) (s:=s) (t:=false) (o:=o') (K:=K) rfl hb (by omega) s1 hbt (by omega)
 have hX:=(wa fun _=>none).2
 generalize hP:4294967296 ^ k*2 ^ (32 - s)=P at *
 have hYX:val b/P<=val a/P:=Nat.div_le_div_right hle
 have q1:∀ z,z/P*P<=z:=fun z=>Nat.div_mul_le_self z P
 have q2:∀ z,z<(z/P+1)*P:=fun z=>by
  have:=Ay6 z P;have:=Azo z hPP
  rw[Ax2,Axq];omega
 obtain⟨a1,a2,b1,b2,e,r1,r2,r3,r4,r5,r6⟩:=Ai9 (R:=R) (N:=N) (X:=val a/P) (Y:=val b/P) (A:=val a) (B:=val b) (P:=P) hX hYX (q1 _) (q2 _) (q1 _) (q2 _) 128 N (val a/P) (val b/P) 0 1 0 0 0 1 false (by omega) (by
  have:=Ay1 hX (Ayt hYX hX)
  exact this) (Lead.init hYX) (.inl rfl) (by omega) (by omega) (by omega) (by omega)
 refine⟨a1,a2,b1,b2,e,r1,r2,r3,r4,r5,fun K=>?_⟩
 rw[RF];unfold DM
 have w1:wrap .i64 ((a.length:Int) - 1)=((k+2:Nat):Int):=by rw[i64 (by omega)];omega
 rw[w1,Aa (by omega),ct,PO (by omega),s4,show(a.length:Int)=((k+3:Nat):Int) by rw[hk],(wa _).1,(wb _).1]
 exact r6 K
def Zq{N:Nat}{a b:List Nat}{n m:Nat}{x y:Nat}{t o t' o':Bool}(hn:n=a.length)(hm:m=b.length)(I:Al a)(L:Al b)(C:x<18446744073709551616)(D:y<18446744073709551616)(G:val b*y<=val a*x)(k:fit (a.length+b.length+4) N):
  ∃ S,Al S/\val S=val a*x - val b*y/\∀ K:Nat->LA->O R,Hj N (Ae a) n t o (x:Int) (Ae b) m t' o' (y:Int) K=K (Ao (val a*x - val b*y)).length (Ae S):=by
 subst hn hm
 have h1:=k.1;have h2:=k.2
 obtain⟨Sx,x1,x2,x3⟩:=Ld (R:=R) (N:=N) C (by omega)
 obtain⟨Sy,y1,y2,y3⟩:=Ld (R:=R) (N:=N) D (by omega)
 have lx:=Zp C
 have ly:=Zp D
 obtain⟨P1,p1,p2,T⟩:=TB (R:=R) (N:=N) (a:=a) (b:=Ao x) (t:=false) (o:=o) (t':=false) (o':=true) rfl rfl I (Ad _) (k.le (by omega))
 obtain⟨P2,q1,Y,q3⟩:=TB (R:=R) (N:=N) (a:=b) (b:=Ao y) (t:=false) (o:=o') (t':=false) (o':=true) rfl rfl L (Ad _) (k.le (by omega))
 rw[Ak]at p2 T Y q3
 have l1:(Ao (val a*x)).length<=a.length+2:=C1 (by
  have:=Ay1 (Bc I) C
  rw[Ay0];exact this)
 have l2:(Ao (val b*y)).length<=b.length+2:=C1 (by
  have:=Ay1 (Bc L) D
  rw[Ay0];exact this)
 obtain⟨S,s1,s2,s3⟩:=rV (R:=R) (N:=N) (a:=Ao (val a*x)) (b:=Ao (val b*y)) (t:=false) (o:=true) (t':=false) (o':=true) rfl rfl (Ad _) (Ad _) (k.le (by omega)) (by rw[Ak,Ak];exact G)
 rw[Ak,Ak]at s2 s3
 refine⟨S,s1,s2,fun K=>?_⟩
 rw[SB];unfold SA
 have tx:take ((Ao x).length*1) (Ae Sx)=Ae (Ao x):=by rw[<-x2,Ma x1]
 have ty:take ((Ao y).length*1) (Ae Sy)=Ae (Ao y):=by rw[<-y2,Ma y1]
 have t1:take ((Ao (val a*x)).length*1) (Ae P1)=Ae (Ao (val a*x)):=by rw[<-p2,Ma p1]
 have t2:take ((Ao (val b*y)).length*1) (Ae P2)=Ae (Ao (val b*y)):=by rw[<-Y,Ma q1]
 rw[x3,tx,T,y3,ty,q3,t1,t2,s3]
def Aja{N:Nat}(hN:4<=N):∀(k fuel x y:Nat),k<fuel->x*y<2 ^ k->y<=x->x<18446744073709551616->∃ S,Al S/\val S=Nat.gcd x y/\∀(D:LA->Nat->Bool->LA->Nat->Bool->O R)(K:Nat->LA->O R),Rg N D K fuel (x:Int) (y:Int)=K (Ao (Nat.gcd x y)).length (Ae S):=by
 have base:∀(fuel x:Nat),x<18446744073709551616->∃ S,Al S/\val S=Nat.gcd x 0/\∀(D:LA->Nat->Bool->LA->Nat->Bool->O R)(K:Nat->LA->O R),Rg N D K (fuel+1) (x:Int) ((0:Nat):Int)=K (Ao (Nat.gcd x 0)).length (Ae S):=by
  intro fuel x G
  obtain⟨S,s1,s2,L⟩:=Ld (R:=R) (N:=N) G hN
  refine⟨S,s1,by rw[s2,Az7],fun D K=>?_⟩
  rw[Rg];unfold LP
  rw[show(((0:Nat):Int) != 0)=false by rfl,cf,L,Az7]
 intro k
 induction k with
| zero =>
  intro fuel x y T C I G
  obtain⟨fuel,rfl⟩:∃ F,fuel=F+1:=⟨fuel - 1,by omega⟩
  have Y:y=0:=by
   rcases Ayf y with h|h
   ·exact h
   ·have h3:=Aya x (show 1<=y by omega)
    rw[A13]at C;omega
  subst Y
  exact base fuel x G
| succ k ih =>
  intro fuel x y T C I G
  obtain⟨fuel,rfl⟩:∃ F,fuel=F+1:=⟨fuel - 1,by omega⟩
  rcases Ayf y with h|h
  ·subst h;exact base fuel x G
  ·have hh:=TF (show 1<=y by omega) I
   have hm:=Azo x h
   obtain⟨S,s1,s2,L⟩:=ih fuel y (x%y) (by omega) (by rw[Ax3]at C;omega) (by omega) (by omega)
   have hg:Nat.gcd y (x%y)=Nat.gcd x y:=by rw[Azh,<-A28,Azh]
   rw[hg]at s2 L
   refine⟨S,s1,s2,fun D K=>?_⟩
   rw[Rg];unfold LP
   rw[show((y:Int) != 0)=true by rw[bne_iff_ne];omega,ct,ti (by omega),cf,TC]
   exact L D K
def vT{a b u v s t x y:Nat}(C:x+v*b=u*a)(D:y+s*a=t*b)(k:u*t=v*s+1):t*x+v*y=a/\s*x+u*y=b:=by
 constructor
 ·have G:t*x+t*v*b=t*u*a:=by rw[Axt,Axt,<-Axx,C]
  have I:v*y+v*s*a=v*t*b:=by rw[Axt,Axt,<-Axx,D]
  have L:t*u*a=v*s*a+a:=by rw[Axq t u,k,Ax2,A3a]
  have T:t*v*b=v*t*b:=by rw[Axq t v]
  omega
 ·have G:s*x+s*v*b=s*u*a:=by rw[Axt,Axt,<-Axx,C]
  have I:u*y+u*s*a=u*t*b:=by rw[Axt,Axt,<-Axx,D]
  have L:u*t*b=v*s*b+b:=by rw[k,Ax2,A3a]
  have T:s*u*a=u*s*a:=by rw[Axq s u]
  have Y:s*v*b=v*s*b:=by rw[Axq s v]
  omega
def vU{A B a b p q r s:Nat}(hA:p*a+q*b=A)(hB:r*a+s*b=B)(k:1<=p)(hq:1<=q)(hr:1<=r)(C:b<=a):2*(a*b)<=A*B/\a<=A:=by
 have I:=Axs a k
 have L:=Axs b hq
 have T:=Axs a hr
 have D:2*b<=A:=by omega
 have G:a<=B:=by omega
 have:=Azk D G
 refine⟨?_,by omega⟩
 rw[Axq a b,<-Axt];exact this
def Arb{u0 u1 v0 v1:Nat}{e:Bool}:setCells [.int .u64 0,.int .u64 0,.int .u64 0,.int .u64 0,.bool false] 0 (Agv u0 u1 v0 v1 e)=Agv u0 u1 v0 v1 e:=rfl
def Ab3{N:Nat}:∀(k fuel A B:Nat)(d f:Bool),k<fuel->A*B<2 ^ k->B<=A->fit (2*(Ao A).length+4) N->∃ S,Al S/\val S=Nat.gcd A B/\∀ K:Nat->LA->O R,Fj N K fuel (Ae (Ao A)) (Ao A).length d (Ae (Ao B)) (Ao B).length f=K (Ao (Nat.gcd A B)).length (Ae S):=by
 have base:∀(fuel A:Nat)(d f:Bool),fit (2*(Ao A).length+4) N->∃ S,Al S/\val S=Nat.gcd A 0/\∀ K:Nat->LA->O R,Fj N K (fuel+1) (Ae (Ao A)) (Ao A).length d (Ae (Ao 0)) (Ao 0).length f=K (Ao (Nat.gcd A 0)).length (Ae S):=by
  intro fuel A d f C
  refine⟨Ao A,Ad _,by rw[Ak,Az7],fun K=>?_⟩
  rw[Fj];unfold BO
  rw[D8,show decide (((([]:List Nat).length:Nat):Int)>0)=false by decide,cf,VH rfl (Ad _) (C.le (by omega)),Ak,Az7]
 intro k
 induction k with
| zero =>
  intro fuel A B d f hfu G D C
  obtain⟨fuel,rfl⟩:∃ F,fuel=F+1:=⟨fuel - 1,by omega⟩
  have hy:B=0:=by
   rcases Ayf B with h|h
   ·exact h
   ·have h3:=Aya A (show 1<=B by omega)
    rw[A13]at G;omega
  subst hy
  exact base fuel A d f C
| succ k ih =>
  intro fuel A B d f hfu G D C
  have h1:=C.1;have h2:=C.2
  obtain⟨fuel,rfl⟩:∃ F,fuel=F+1:=⟨fuel - 1,by omega⟩
  rcases Ayf B with h|h
  ·subst h;exact base fuel A d f C
  have hll:=Br D
  have hbl:(Ao B).length≠0:=fun h0=>by have:=Bl.1 h0;omega
  have hd0:decide ((((Ao B).length:Nat):Int)>0)=true:=by rw[decide_eq_true_eq];omega
  by_cases ha2:(Ao A).length<=2
  ·have av:=fK ha2
   obtain⟨S,s1,s2,L⟩:=Aja (R:=R) (N:=N) (by omega) 128 N A B (by omega) (by have:=Ay1 av (Ayt D av);exact this) D av
   refine⟨S,s1,s2,fun K=>?_⟩
   rw[Fj];unfold BO
   rw[hd0,ct,show decide ((((Ao A).length:Nat):Int)<=2)=true by rw[decide_eq_true_eq];omega,ct,IN rfl (Ad _) ha2 (by omega),IN rfl (Ad _) (by omega) (by omega),Ak,Ak]
   exact L _ K
  ·have hd2:decide ((((Ao A).length:Nat):Int)<=2)=false:=by rw[decide_eq_false_iff_not];omega
   obtain⟨a1,a2,b1,b2,e,r1,r2,r3,r4,r5,r6⟩:=yd (R:=R) (N:=N) (a:=Ao A) (b:=Ao B) (t:=false) (o:=d) (t':=false) (o':=f) rfl rfl (Ad _) (Ad _) (by omega) (oz _ _) hll (by rw[Ak,Ak];exact D) (C.le (by omega))
   rw[Ak,Ak]at r1
   have start:∀ K:Nat->LA->O R,Fj N K (fuel+1) (Ae (Ao A)) (Ao A).length d (Ae (Ao B)) (Ao B).length f=cond ((b1:Int)==0) (F6 N (Ae (Ao A)) (Ao A).length false d (Ae (Ao B)) (Ao B).length false f fun bm ag bn bo ar=>Fj N K fuel (Ae (Ao B)) (Ao B).length f (take (ag*1) ar) ag false) (cond e (Hj N (Ae (Ao A)) (Ao A).length false d (a1:Int) (Ae (Ao B)) (Ao B).length false f (b1:Int) fun ah ax=>Hj N (Ae (Ao B)) (Ao B).length false f (b2:Int) (Ae (Ao A)) (Ao A).length false d (a2:Int) fun ai ba=>Fj N K fuel (take (ah*1) ax) ah false (take (ai*1) ba) ai false) (Hj N (Ae (Ao B)) (Ao B).length false f (b1:Int) (Ae (Ao A)) (Ao A).length false d (a1:Int) fun aj bd=>Hj N (Ae (Ao A)) (Ao A).length false d (a2:Int) (Ae (Ao B)) (Ao B).length false f (b2:Int) fun ak bg=>Fj N K fuel (take (aj*1) bd) aj false (take (ak*1) bg) ak false)):=by
    intro K
    rw[Fj];unfold BO
    rw[hd0,ct,hd2,cf,r6,Arb]
    rfl
   by_cases T:b1=0
   ·obtain⟨Sq,Sr,q1,q2,q3,q4,q5⟩:=TE (R:=R) (N:=N) (a:=Ao A) (b:=Ao B) (t:=false) (o:=d) (t':=false) (o':=f) rfl rfl (Ad _) (Ad _) (by rw[Ak];omega) (C.le (by omega))
    rw[Ak,Ak]at q2 q4 q5
    have hm:=Azo A h
    have hh:=TF (show 1<=B by omega) D
    obtain⟨S,s1,s2,L⟩:=ih fuel B (A%B) f false (by omega) (by rw[Ax3]at G;omega) (by omega) (C.le (by omega))
    have Y:Nat.gcd B (A%B)=Nat.gcd A B:=by rw[Azh,<-A28,Azh]
    rw[Y]at s2 L
    refine⟨S,s1,s2,fun K=>?_⟩
    have tk:take ((Ao (A%B)).length*1) (Ae Sr)=Ae (Ao (A%B)):=by rw[<-q4,Ma q3]
    rw[start,Awi T,ct,q5,tk,L]
   ·rcases r1 with r1|⟨p1,p2,r1⟩
    ·exact absurd r1 T
    cases e with
    |true =>
     obtain⟨c1,c2,c3,c4⟩:=r1
     obtain⟨S1,t1,t2,t3⟩:=Zq (R:=R) (N:=N) (a:=Ao A) (b:=Ao B) (x:=a1) (y:=b1) (t:=false) (o:=d) (t':=false) (o':=f) rfl rfl (Ad _) (Ad _) r2 r4 (by rw[Ak,Ak,Axq,Axq A];exact c1) (C.le (by omega))
     obtain⟨S2,w1,w2,w3⟩:=Zq (R:=R) (N:=N) (a:=Ao B) (b:=Ao A) (x:=b2) (y:=a2) (t:=false) (o:=f) (t':=false) (o':=d) rfl rfl (Ad _) (Ad _) r5 r3 (by rw[Ak,Ak,Axq,Axq B];exact c2) (C.le (by omega))
     rw[Ak,Ak]at t2 t3 w2 w3
     have g1:(A*a1 - B*b1)+b1*B=a1*A:=by rw[Axq A,Axq B];omega
     have g2:(B*b2 - A*a2)+a2*A=b2*B:=by rw[Axq A,Axq B];omega
     have I:B*b2 - A*a2<=A*a1 - B*b1:=by rw[Ax2,Ax2]at c3;omega
     obtain⟨i1,i2⟩:=vT g1 g2 c4
     have Y:=Aau g1 g2 c4
     obtain⟨i3,i4⟩:=vU i1 i2 p2 (by omega) p1 I
     have hl:=Br i4
     obtain⟨S,s1,s2,L⟩:=ih fuel (A*a1 - B*b1) (B*b2 - A*a2) false false (by omega) (by rw[Ax3]at G;omega) I (C.le (by omega))
     rw[Y]at s2 L
     refine⟨S,s1,s2,fun K=>?_⟩
     have tk1:take ((Ao (A*a1 - B*b1)).length*1) (Ae S1)=Ae (Ao (A*a1 - B*b1)):=by rw[<-t2,Ma t1]
     have tj:take ((Ao (B*b2 - A*a2)).length*1) (Ae S2)=Ae (Ao (B*b2 - A*a2)):=by rw[<-w2,Ma w1]
     rw[start,ti T,cf,ct,t3,w3,tk1,tj,L]
    |false =>
     obtain⟨c1,c2,c3,c4⟩:=r1
     obtain⟨S1,t1,t2,t3⟩:=Zq (R:=R) (N:=N) (a:=Ao B) (b:=Ao A) (x:=b1) (y:=a1) (t:=false) (o:=f) (t':=false) (o':=d) rfl rfl (Ad _) (Ad _) r4 r2 (by rw[Ak,Ak,Axq,Axq B];exact c1) (C.le (by omega))
     obtain⟨S2,w1,w2,w3⟩:=Zq (R:=R) (N:=N) (a:=Ao A) (b:=Ao B) (x:=a2) (y:=b2) (t:=false) (o:=d) (t':=false) (o':=f) rfl rfl (Ad _) (Ad _) r3 r5 (by rw[Ak,Ak,Axq,Axq A];exact c2) (C.le (by omega))
     rw[Ak,Ak]at t2 t3 w2 w3
     have g1:(B*b1 - A*a1)+a1*A=b1*B:=by rw[Axq A,Axq B];omega
     have g2:(A*a2 - B*b2)+b2*B=a2*A:=by rw[Axq A,Axq B];omega
     have I:A*a2 - B*b2<=B*b1 - A*a1:=by rw[Ax2,Ax2]at c3;omega
     obtain⟨i1,i2⟩:=vT g2 g1 c4
     have Y:=Aau g2 g1 c4
     rw[Azh]at Y
     rw[A0y]at i1 i2
     obtain⟨i3,i4⟩:=vU i1 i2 p2 (by omega) p1 I
     have hl:=Br i4
     obtain⟨S,s1,s2,L⟩:=ih fuel (B*b1 - A*a1) (A*a2 - B*b2) false false (by omega) (by rw[Ax3]at G;omega) I (C.le (by omega))
     rw[Y]at s2 L
     refine⟨S,s1,s2,fun K=>?_⟩
     have tk1:take ((Ao (B*b1 - A*a1)).length*1) (Ae S1)=Ae (Ao (B*b1 - A*a1)):=by rw[<-t2,Ma t1]
     have tj:take ((Ao (A*a2 - B*b2)).length*1) (Ae S2)=Ae (Ao (A*a2 - B*b2)):=by rw[<-w2,Ma w1]
     rw[start,ti T,cf,cf,t3,w3,tk1,tj,L]
def Ab4(n m:Nat):4294967296 ^ n*4294967296 ^ m=2 ^ (32*(n+m)):=by rw[<-Ay0,show(4294967296:Nat)=2 ^ 32 by rfl,<-A47]
def Amf{N:Nat}{a b:List Nat}{n m:Nat}{t o t' o':Bool}(hn:n=a.length)(T:m=b.length)(G:Al a)(I:Al b)(C:fit (2*(a.length+b.length)+4) N):
  ∃ S,Al S/\val S=Nat.gcd (val a) (val b)/\∀ K:Nat->LA->O R,ZY N (Ae a) n t o (Ae b) m t' o' K=K (Ao (Nat.gcd (val a) (val b))).length (Ae S):=by
 have Y:=C.1;have h2:=C.2
 have la:=(Bi G).2
 have lb:=(Bi I).2
 have k:val a*val b<2 ^ (32*(a.length+b.length)):=by rw[<-Ab4];exact Ay1 (Bc G) (Bc I)
 have start:∀ K:Nat->LA->O R,ZY N (Ae a) n t o (Ae b) m t' o' K=cond (decide (Hv (val a) (val b)<0)) (Fj N K N (Ae (Ao (val b))) (Ao (val b)).length o' (Ae (Ao (val a))) (Ao (val a)).length o) (Fj N K N (Ae (Ao (val a))) (Ao (val a)).length o (Ae (Ao (val b))) (Ao (val b)).length o'):=by
  intro K
  rw[pg];unfold nW UY ZX
  rw[Bt hn G (C.le (by omega)),Bt T I (C.le (by omega)),Rp rfl rfl (Ad _) (Ad _) (C.le (by omega)),Ak,Ak]
 by_cases D:val a<val b
 ·obtain⟨S,s1,s2,L⟩:=Ab3 (R:=R) (N:=N) (32*(a.length+b.length)) N (val b) (val a) o' o (by omega) (by rw[Axq];exact k) (by omega) (C.le (by omega))
  rw[Azh]at s2
  refine⟨S,s1,s2,fun K=>?_⟩
  rw[start,show decide (Hv (val a) (val b)<0)=true by(unfold Hv;rw[if_pos D];rfl),ct,L,Azh]
 ·obtain⟨S,s1,s2,L⟩:=Ab3 (R:=R) (N:=N) (32*(a.length+b.length)) N (val a) (val b) o o' (by omega) k (by omega) (C.le (by omega))
  refine⟨S,s1,s2,fun K=>?_⟩
  rw[start,show decide (Hv (val a) (val b)<0)=false by(unfold Hv;rw[if_neg D];split<;>rfl),cf,L]
def As0{c:Nat}(h:c<=1000000000000):((ble (0+c) 140737488355328)&&(ble ((0+c)*4) 140737488355328))=true:=by simp;omega
def aP{N:Nat}{l:List Nat}{t o:Bool}{K:Nat->LA->O R}(C:Al l)(hs:l.length<=1000000000000):∀(c fuel:Nat),c<=l.length->c<fuel ->
  Nx N K (Ae l) l.length t o fuel (c:Int)=K (Ao (val (l.take c))).length (Ae (Ao (val (l.take c))))
|0,fuel+1,hc,_=>by
  rw[Nx];unfold Zd
  rw[show decide (((0:Nat):Int)>0)=false by simp]
  rw[show((false:Bool)==true)=false by rfl,cf,App (by omega),ct,Axm,Ax4,Uh,DF,A0b,ct,As0 (by omega),ct];rfl
| c+1,fuel+1,hc,D=>by
  rw[Nx];unfold Zd
  rw[Alm,ct,wP (by omega),Aa (by omega),ct,PO (by omega),Aa3,App (by omega),ct,aP C hs c fuel (by omega) (by omega),Axm,Ax4,Uh,DF,A0b,ct,As0 (by omega),ct,Ax0]
  by_cases k:l[c]=0
  ·rw[A0 (by omega),k];simp
  ·rw[xc C (by omega) k,Ax6,Ayd hc]
   rw[ti k,cf]
def Dq{N:Nat}{l:List Nat}{n:Nat}{t o:Bool}{K:Nat->LA->O R}(hn:n=l.length)(C:Al l)(k:fit l.length N):Eb N (Ae l) n t o K=K (Ao (val l)).length (Ae (Ao (val l))):=by
 subst hn
 have D:=k.1;have G:=k.2
 rw[LY];unfold HV
 rw[aP C (by omega) l.length N (Axo _) (by omega),Ayk]
def Ab5{N:Nat}{a b:List Nat}{t o t' o':Bool}{K:Bool->O R}(hs:a.length<=1000000000000)(D:a.length=b.length):∀(m j fuel:Nat),j+m=a.length->m<fuel ->
  K8 N K (Ae a) a.length t o (Ae b) b.length t' o' fuel (j:Int)=K (decide (a.drop j=b.drop j))
|0,j,fuel+1,G,_=>by
  rw[K8];unfold V8
  rw[Ki (by omega),cf,Ayv (by omega),Ayv (by omega)];simp
|m+1,j,fuel+1,G,I=>by
  have k:j<a.length:=by omega
  have C:j<b.length:=by omega
  rw[K8];unfold V8
  rw[Jo k,ct,Aa k,ct,PO k,Aa C,ct,PO C,wS (by omega),Ab5 hs D m (j+1) fuel (by omega) (by omega),Ayx k,Ayx C]
  by_cases h:a[j]=b[j]
  ·rw[show(((a[j]:Nat):Int) != ((b[j]:Nat):Int))=false by simp[h],cf];congr 1;rw[decide_eq_decide,List.cons.injEq];exact⟨fun hh=>⟨h,hh⟩,fun hh=>hh.2⟩
  ·rw[show(((a[j]:Nat):Int) != ((b[j]:Nat):Int))=true by rw[bne_iff_ne];omega,ct];congr 1;symm;rw[decide_eq_false_iff_not,List.cons.injEq];exact fun hh=>h hh.1
def Amg{N:Nat}{a b:List Nat}{n m:Nat}{t o t' o':Bool}{K:Bool->O R}(hn:n=a.length)(D:m=b.length)(C:fit a.length N):HZ N (Ae a) n t o (Ae b) m t' o' K=K (decide (a=b)):=by
 subst hn D
 have G:=C.1;have I:=C.2
 rw[XU];unfold L_
 by_cases k:a.length=b.length
 ·rw[show((a.length:Int) != (b.length:Int))=false by simp[k],cf]
  have:=Ab5 (R:=R) (N:=N) (t:=t) (o:=o) (t':=t') (o':=o') (K:=K) (by omega) k a.length 0 N (by omega) (by omega)
  simpa using this
 ·rw[show((a.length:Int) != (b.length:Int))=true by rw[bne_iff_ne];omega,ct]
  congr 1;symm;rw[decide_eq_false_iff_not];intro h;exact k (by rw[h])
def FA{N:Nat}{v:Nat}{K:Nat->LA->O R}(D:v<18446744073709551616)(hN:4<=N):Hl N (v:Int) K=K (Ao v).length (Ae (Ao v)):=by
 have C:Al [v%4294967296,v/4294967296]:=De.2 ⟨by omega,De.2 ⟨by omega,Ug⟩⟩
 have k:val [v%4294967296,v/4294967296]=v:=by simp[val];omega
 rw[BR];unfold Xp
 rw[ZB,gd,Agn (show v/4294967296<4294967296 by omega)]
 have:=aP (R:=R) (N:=N) (l:=[v%4294967296,v/4294967296]) (t:=false) (o:=true) (K:=K) C (by simp) 2 N (by simp) (by omega)
 rw[show [v%4294967296,v/4294967296].take 2=[v%4294967296,v/4294967296] by rfl,k]at this
 rw[LY];unfold HV
 exact this
def MY{N:Nat}{l:List Nat}{n:Nat}{t o:Bool}{K:Int->Bool->O R}(hn:n=l.length)(T:Al l)(I:fit l.length N):U0 N (Ae l) n t o K=if val l<18446744073709551616 then K (val l:Int) true else K 0 false:=by
 have h1:=I.1
 rw[SI];unfold EC
 rw[Dq hn T I]
 by_cases h:val l<18446744073709551616
 ·have Y:=Zp h
  rw[if_pos h,show decide ((((Ao (val l)).length:Nat):Int)>2)=false by simp;omega,cf]
  have k:=Ak (val l)
  have D:=Ad (val l)
  obtain⟨M,hM⟩:∃ M,N=M+4:=⟨N - 4,by omega⟩
  rw[hM]
  generalize Ao (val l)=d at *
  match d,Y,k,D with
  |[],_,k,_ =>
   dsimp only
   rw[Em];unfold Fy
   rw[<-k,i64 (by simp)];rfl
  |[x],_,k,D =>
   have G:=(De.1 D).1
   have C:val l=x:=by rw[<-k];simp[val]
   dsimp only
   rw[Em];unfold Fy
   rw[i64 (by simp),show((([x]:List Nat).length:Nat):Int) - 1=((0:Nat):Int) by rfl,show decide (((0:Nat):Int)>=0)=true by rfl,ct,Aa (by simp),ct,cT (by simp)]
   rw[Em];unfold Fy
   rw[i64 (by simp),show decide ((((0:Nat):Int) - 1)>=0)=false by rfl,cf]
   have:=Aq7 (a:=0) (b:=x) (by omega) G
   simp only[A08]
   rw[Iu (show x<18446744073709551616 by omega),show(0:Int)=((0:Nat):Int) by rfl,this,C];simp
  |[x,y],_,k,D =>
   have G:=(De.1 D).1
   have L:=(De.1 (De.1 D).2).1
   have C:val l=y*4294967296+x:=by rw[<-k];simp[val];omega
   dsimp only
   rw[Em];unfold Fy
   rw[i64 (by simp),show((([x,y]:List Nat).length:Nat):Int) - 1=((1:Nat):Int) by rfl,show decide (((1:Nat):Int)>=0)=true by rfl,ct,Aa (by simp),ct,cT (by simp)]
   rw[Em];unfold Fy
   rw[i64 (by simp),show(((1:Nat):Int) - 1)=((0:Nat):Int) by rfl,show decide (((0:Nat):Int)>=0)=true by rfl,ct,Aa (by simp),ct,cT (by simp)]
   rw[Em];unfold Fy
   rw[i64 (by simp),show decide ((((0:Nat):Int) - 1)>=0)=false by rfl,cf]
   have o1:=Aq7 (a:=0) (b:=y) (by omega) L
   have o2:=Aq7 (a:=y) (b:=x) L G
   simp only[A08,A10]
   rw[Iu (show y<18446744073709551616 by omega),Iu (show x<18446744073709551616 by omega),show(0:Int)=((0:Nat):Int) by rfl,o1,A2q,Ax0,o2,C]
 ·have:¬ (Ao (val l)).length<=2:=fun h2=>h (fK h2)
  rw[if_neg h,show decide ((((Ao (val l)).length:Nat):Int)>2)=true by simp;omega,ct]
def vV{N:Nat}{x y:List Nat}{K:Int->O R}(D:Al x)(G:Al y)(hs:x.length<=1000000000000)(L:x.length=y.length):∀(i fuel:Nat),i<=x.length->i<fuel ->
  Hm N K x.length y.length (Ae x) (Ae y) fuel ((i:Int) - 1)=K (Hv (val (x.take i)) (val (y.take i)))
|0,fuel+1,_,_=>by
  rw[Hm];unfold Qg
  rw[show decide ((((0:Nat):Int) - 1)>=0)=false by simp,cf]
  simp[Z9]
| i+1,fuel+1,hi,T=>by
  rw[Hm];unfold Qg
  rw[show(((i+1:Nat):Int) - 1)=(i:Int) by omega,show decide ((i:Int)>=0)=true by simp,ct,Aa (by omega),ct,cT (by omega),Aa (by omega),ct,cT (by omega),ct,cT (by omega),ct,cT (by omega),i64 (by omega),
   vV D G hs L i fuel (by omega) (by omega),A0 (by omega),A0 (by omega)]
  have k:=Bc (Cg D i)
  have C:=Bc (Cg G i)
  rw[Ax6,Ayd (by omega)]at k C
  by_cases c1:x[i]<y[i]
  ·have:=n7 k C c1
   rw[show decide (((x[i]:Nat):Int)<((y[i]:Nat):Int))=true by simp;exact c1,ct]
   unfold Hv;rw[if_pos this]
  ·by_cases I:y[i]<x[i]
   ·have:=n7 C k I
    rw[show decide (((x[i]:Nat):Int)<((y[i]:Nat):Int))=false by simp;omega,cf,show decide (((x[i]:Nat):Int)>((y[i]:Nat):Int))=true by simp;exact I,ct]
    unfold Hv;rw[if_neg (by omega),if_pos this]
   ·have:x[i]=y[i]:=by omega
    rw[show decide (((x[i]:Nat):Int)<((y[i]:Nat):Int))=false by simp;omega,cf,show decide (((x[i]:Nat):Int)>((y[i]:Nat):Int))=false by simp;omega,cf,this]
    unfold Hv
    congr 1
    by_cases a1:val (x.take i)<val (y.take i)
    ·rw[if_pos a1,if_pos (by omega)]
    ·by_cases a2:val (y.take i)<val (x.take i)
     ·rw[if_neg a1,if_pos a2,if_neg (by omega),if_pos (by omega)]
     ·rw[if_neg a1,if_neg a2,if_neg (by omega),if_neg (by omega)]
def Ajb{N:Nat}{a b:List Nat}{n m:Nat}{t o t' o':Bool}{K:Int->O R}(hn:n=a.length)(L:m=b.length)(C:Al a)(D:Al b)(k:fit (a.length+b.length) N):
  Wz N (Ae a) n t o (Ae b) m t' o' K=K (Hv (val a) (val b)):=by
 subst hn L
 have T:=k.1;have Y:=k.2
 rw[OL];unfold Ze
 dsimp only
 rw[Dq rfl C (k.le (by omega)),Dq rfl D (k.le (by omega))]
 have la:=(Bi C).2
 have lb:=(Bi D).2
 by_cases G:(Ao (val a)).length=(Ao (val b)).length
 ·rw[show((((Ao (val a)).length:Nat):Int) != (((Ao (val b)).length:Nat):Int))=false by simp;omega,cf,i64 (by omega),vV (Ad _) (Ad _) (by omega) G _ N (Axo _) (by omega),Ayk,G,Ayk,Ak,Ak]
 ·rw[show((((Ao (val a)).length:Nat):Int) != (((Ao (val b)).length:Nat):Int))=true by simp;omega,ct]
  by_cases I:(Ao (val a)).length<(Ao (val b)).length
  ·have:=MV I
   rw[Jo I,ct]
   unfold Hv;rw[if_pos this]
  ·have:=MV (show(Ao (val b)).length<(Ao (val a)).length by omega)
   rw[Ki (by omega),cf]
   unfold Hv;rw[if_neg (by omega),if_pos this]
def As1(a b:Nat):Mj (a:Int) (b:Int)=((max a b:Nat):Int):=by
 unfold Mj
 by_cases h:(b:Int)>(a:Int)
 ·rw[decide_eq_true h];show(b:Int)=_;omega
 ·rw[decide_eq_false h];show(a:Int)=_;omega
def vW{N:Nat}{a b:List Nat}{t o t' o':Bool}{n:Nat}(L:Al a)(T:Al b)(Y:a.length<n)(hlb:b.length<n)(hn:n<=max a.length b.length+1)(G:fit n N):∀(m d fuel:Nat)(S:List Nat)(c:Nat),d+m=n->m<fuel->Al S->S.length=n->Ai7 S d->c<=1 ->
  val S+4294967296 ^ d*c=val (a.take d)+val (b.take d) ->
  ∀ K:Nat->LA->O R,I5 N K (Ae a) a.length t o (Ae b) b.length t' o' fuel n (c:Int) (d:Int) (Ae S)=K (Ao (val a+val b)).length (Ae (Ao (val a+val b)))
| 0,d,fuel+1,S,c,hd,_,hS,I,hz,hc,hv=>by
  intro K
  have hd':d=n:=by omega
  subst hd'
  rw[Axl (by omega),Axl (by omega)]at hv
  have hc0:c=0:=by
   rcases Ayf c with h|h
   ·exact h
   ·exfalso
    have hc1:c=1:=by omega
    subst hc1
    obtain⟨e,rfl⟩:∃ e,d=e+1:=⟨d - 1,by omega⟩
    have x1:=Bc L
    have x2:=Bc T
    have y1:4294967296 ^ a.length<=4294967296 ^ e:=Aym (by omega) (by omega)
    have y2:4294967296 ^ b.length<=4294967296 ^ e:=Aym (by omega) (by omega)
    rw[Ax3]at hv
    omega
  subst hc0
  have hv2:val S=val a+val b:=by omega
  rw[I5];unfold ED
  rw[Ki (Axo _),cf,Ax4,Axl (by rw[Bp];omega),Dq I.symm hS (by rw[I];exact G),hv2]
| m+1,d,fuel+1,S,c,hd,hfu,hS,I,hz,hc,hv=>by
  intro K
  have h1:=G.1;have h2:=G.2
  have ga:=AA L d
  have gb:=AA T d
  have step:∀ s:Nat,s=c+a.getD d 0+b.getD d 0->val (S.set d (s%4294967296))+4294967296 ^ (d+1)*(s/4294967296)=val (a.take (d+1))+val (b.take (d+1)):=by
   intro s hs
   rw[Wd hz (by omega),Rq a d,Rq b d,Ax3]
   have e:=N8 (4294967296 ^ d) s
   have e2:4294967296 ^ d*s=4294967296 ^ d*c+4294967296 ^ d*a.getD d 0+4294967296 ^ d*b.getD d 0:=by rw[hs,Axx,Axx]
   omega
  have next:∀ s:Nat,s=c+a.getD d 0+b.getD d 0->I5 N K (Ae a) a.length t o (Ae b) b.length t' o' fuel n ((s/4294967296:Nat):Int) ((d+1:Nat):Int) (Ae (S.set d (s%4294967296)))=K (Ao (val a+val b)).length (Ae (Ao (val a+val b))):=by
   intro s hs
   exact vW L T Y hlb hn G m (d+1) fuel (S.set d (s%4294967296)) (s/4294967296) (by omega) (by omega) (Cm hS (by omega) d) (by simpa using I) (E' hz) (by omega) (step s hs) K
  have second:∀ w:Nat,w=c+a.getD d 0->BS N (I5 N K (Ae a) a.length t o (Ae b) b.length t' o' fuel) K (Ae a) a.length t o (Ae b) b.length t' o' n (Ae S) (w:Int) (d:Int)=K (Ao (val a+val b)).length (Ae (Ao (val a+val b))):=by
   intro w hw
   unfold BS
   by_cases k:d<b.length
   ·have D:b.getD d 0=b[d]:=by rw[Axu,Axn k];rfl
    rw[Jo k,ct,Aa k,ct,PO k,Aa (by omega),ct,uX (by omega),ct,Iu (show b[d]<18446744073709551616 by omega),GX,Iu (show w+b[d]<18446744073709551616 by omega),gd,ZB,RH,wS (by omega)]
    exact next _ (by rw[hw,D])
   ·have D:b.getD d 0=0:=by rw[Axu,Ayz (by omega)];rfl
    rw[Ki (by omega),cf,Aa (by omega),ct,uX (by omega),ct,gd,ZB,RH,wS (by omega)]
    exact next _ (by rw[hw,D];rfl)
  rw[I5];unfold ED
  rw[Jo (by omega),ct]
  by_cases C:d<a.length
  ·have D:a.getD d 0=a[d]:=by rw[Axu,Axn C];rfl
   rw[Jo C,ct,Aa C,ct,PO C,Iu (show a[d]<18446744073709551616 by omega),GX,Iu (show c+a[d]<18446744073709551616 by omega)]
   exact second _ (by rw[D])
  ·have D:a.getD d 0=0:=by rw[Axu,Ayz (by omega)];rfl
   rw[Ki (by omega),cf]
   exact second _ (by rw[D];rfl)
def iy{N:Nat}{a b:List Nat}{n m:Nat}{t o t' o':Bool}{K:Nat->LA->O R}(hn:n=a.length)(C:m=b.length)(D:Al a)(G:Al b)(k:fit (a.length+b.length+1) N):
  MB N (Ae a) n t o (Ae b) m t' o' K=K (Ao (val a+val b)).length (Ae (Ao (val a+val b))):=by
 subst hn C
 have I:=k.1;have L:=k.2
 rw[kN];unfold dX
 rw[As1,wS (by omega),Akd (by omega),ct,Axm,C2]
 exact vW D G (n:=max a.length b.length+1) (by omega) (by omega) (Axo _) (k.le (by omega)) (max a.length b.length+1) 0 N (replicate (max a.length b.length+1) 0) 0 (by omega) (by omega) (Cj _) (by simp) (Mi _) (by omega) (by rw[Ej];simp[val]) K
def vX{N:Nat}{a b:List Nat}(ha:Al a)(hb:Al b)(Y:fit a.length N)(L:b.length<=a.length)(hle:val b<=val a):∀(m d fuel:Nat)(S:List Nat)(c:Nat),d+m=a.length->m<fuel->Al S->S.length=a.length->Ai7 S d->c<=1 ->
  val S+val (b.take d)=val (a.take d)+4294967296 ^ d*c ->
  ∀ K:Nat->Bool->LA->O R,I6 N K a.length b.length (Ae a) (Ae b) fuel (c:Int) (d:Int) (Ae S)=K (Ao (val a - val b)).length true (Ae (Ao (val a - val b)))
| 0,d,fuel+1,S,c,hd,_,hS,T,hz,hc,hv=>by
  intro K
  have hd':d=a.length:=by omega
  subst hd'
  rw[Ayk,Axl L]at hv
  have D:=Bc hS
  rw[T]at D
  have hc0:c=0:=by
   rcases A2o 0 c with h|h
   ·exfalso
    have:c=1:=by omega
    subst this
    omega
   ·omega
  subst hc0
  have hv2:val S=val a - val b:=by omega
  rw[I6];unfold EK
  rw[Ki (Axo _),cf,Ax4,Axl (by rw[Bp];omega),Dq T.symm hS (by rw[T];exact Y),hv2]
| m+1,d,fuel+1,S,c,hd,hfu,hS,T,hz,hc,hv=>by
  intro K
  have h1:=Y.1;have h2:=Y.2
  have k:d<a.length:=by omega
  have ad:=A3 ha k
  have gb:=AA hb d
  have step:∀ y g c':Nat,y=c+b.getD d 0->a[d]+4294967296*c'=g+y->val (S.set d g)+val (b.take (d+1))=val (a.take (d+1))+4294967296 ^ (d+1)*c':=by
   intro y g c' I G
   rw[Wd hz (by omega),A0 k,Rq b d,Ax3,Axt]
   have e:4294967296 ^ d*(a[d]+4294967296*c')=4294967296 ^ d*(g+(c+b.getD d 0)):=by rw[G,I]
   rw[Axx,Axx,Axx]at e
   omega
  have next:∀ y g c':Nat,g<4294967296->c'<=1->y=c+b.getD d 0->a[d]+4294967296*c'=g+y->I6 N K a.length b.length (Ae a) (Ae b) fuel (c':Int) ((d+1:Nat):Int) (Ae (S.set d g))=K (Ao (val a - val b)).length true (Ae (Ao (val a - val b))):=by
   intro y g c' G hc' I he
   exact vX ha hb Y L hle m (d+1) fuel (S.set d g) c' (by omega) (by omega) (Cm hS G d) (by simpa using T) (E' hz) hc' (step y g c' I he) K
  have second:∀ y:Nat,y=c+b.getD d 0->BX N (I6 N K a.length b.length (Ae a) (Ae b) fuel) K a.length b.length (Ae a) (Ae b) (Ae S) (d:Int) (y:Int)=K (Ao (val a - val b)).length true (Ae (Ao (val a - val b))):=by
   intro y I
   unfold BX
   rw[Aa k,ct,cT k,Iu (show a[d]<18446744073709551616 by omega)]
   by_cases D:a[d]<y
   ·rw[Jo D,ct,ct,uX (by omega),ct,show((a[d]:Nat):Int)+4294967296=((a[d]+4294967296:Nat):Int) by omega,Iu (show a[d]+4294967296<18446744073709551616 by omega),gc (by omega) (by omega),Agn (by omega),RH,wS (by omega)]
    exact next y (a[d]+4294967296 - y) 1 (by omega) (by omega) I (by omega)
   ·rw[Ki (by omega),cf,ct,uX (by omega),ct,gc (by omega) (by omega),Agn (by omega),RH,wS (by omega)]
    exact next y (a[d] - y) 0 (by omega) (by omega) I (by omega)
  rw[I6];unfold EK
  rw[Jo k,ct]
  by_cases C:d<b.length
  ·have G:b.getD d 0=b[d]:=by rw[Axu,Axn C];rfl
   rw[Jo C,ct,Aa C,ct,cT C,Iu (show b[d]<18446744073709551616 by omega),GX,Iu (show c+b[d]<18446744073709551616 by omega)]
   exact second _ (by rw[G])
  ·have G:b.getD d 0=0:=by rw[Axu,Ayz (by omega)];rfl
   rw[Ki (by omega),cf]
   exact second _ (by rw[G];rfl)
def iz{N:Nat}{a b:List Nat}{n m:Nat}{t o t' o':Bool}{K:Nat->Bool->LA->O R}(hn:n=a.length)(L:m=b.length)(D:Al a)(G:Al b)(C:fit (a.length+b.length) N):
  MH N (Ae a) n t o (Ae b) m t' o' K=if val b<=val a then K (Ao (val a - val b)).length true (Ae (Ao (val a - val b)))else K 0 false []:=by
 subst hn L
 have T:=C.1;have Y:=C.2
 have la:=(Bi D).2
 have lb:=(Bi G).2
 rw[kT];unfold d8
 dsimp only
 rw[Ajb rfl rfl D G C]
 by_cases k:val b<=val a
 ·have I:=Br k
  rw[if_pos k,show decide (Hv (val a) (val b)<0)=false by(unfold Hv;rw[if_neg (by omega)];split<;>rfl),cf,Dq rfl D (C.le (by omega)),Dq rfl G (C.le (by omega)),Akd (by omega),ct,C2]
  have:=vX (R:=R) (N:=N) (a:=Ao (val a)) (b:=Ao (val b)) (Ad _) (Ad _) (C.le (by omega)) I (by rw[Ak,Ak];exact k) (Ao (val a)).length 0 N (replicate (Ao (val a)).length 0) 0 (by omega) (by omega) (Cj _) (by simp) (Mi _) (by omega) (by rw[Ej];simp[val]) K
  rw[Ak,Ak]at this
  exact this
 ·rw[if_neg k,show decide (Hv (val a) (val b)<0)=true by(unfold Hv;rw[if_pos (by omega)];rfl),ct]
def Agw{N:Nat}{x y:List Nat}{c d c' d':Bool}{f:Nat}(hx:Al x)(hy:Al y)(I:f<x.length)(hs:x.length+y.length<=1000000000000):∀(m l fuel:Nat)(S:List Nat)(p:Nat)(v:Nat),l+m=y.length->m<fuel->Al S->S.length=x.length+y.length->Ai7 S (f+y.length)->p<4294967296 ->
  val S+4294967296 ^ (f+l)*p=v+4294967296 ^ f*(x[f]*val (y.take l)) ->
  ∃ S',Al S'/\S'.length=x.length+y.length/\val S'=v+4294967296 ^ f*(x[f]*val y)/\∀(D:Nat->Int->LA->O R)(K:Nat->LA->O R),Qw N D K (Ae x) x.length c d (Ae y) y.length c' d' (x.length+y.length) fuel (f:Int) (p:Int) (l:Int) (Ae S)=D (x.length+y.length) ((f+1:Nat):Int) (Ae S')
|0,l,fuel+1,S,p,v,hl,_,hS,k,T,L,Y=>by
  have hl':l=y.length:=by omega
  subst hl'
  rw[Ayk]at Y
  refine⟨S.set (f+y.length) p,Cm hS L _,by simpa using k,by rw[Wd T (by omega),Y],fun D K=>?_⟩
  rw[Qw];unfold EP
  rw[Ki (Axo _),cf,wA (by omega),Aa (by omega),ct,uX (by omega),ct,Agn L,RH,wS (by omega)]
| m+1,l,fuel+1,S,p,v,hl,hfu,hS,k,T,L,Y=>by
  have C:l<y.length:=by omega
  have yl:=A3 hy C
  have hq:=A3 hx I
  have hi:f+l<S.length:=by omega
  have sl:=A3 hS hi
  have hw:=Abz L hq yl sl
  have hqy:x[f]*y[l]<18446744073709551616:=by omega
  generalize G:p+(x[f]*y[l]+S[f+l])=s at *
  have hset:=fJ (v:=s%4294967296) hi
  have key:val (S.set (f+l) (s%4294967296))+4294967296 ^ (f+(l+1))*(s/4294967296)=v+4294967296 ^ f*(x[f]*val (y.take (l+1))):=by
   rw[A0 C,<-Ay8 f l 1,Ax3]
   have e:=N8 (4294967296 ^ (f+l)) s
   have e2:4294967296 ^ (f+l)*s=4294967296 ^ (f+l)*p+(4294967296 ^ (f+l)*(x[f]*y[l])+4294967296 ^ (f+l)*S[f+l]):=by rw[<-G,Axx,Axx]
   have e3:4294967296 ^ f*(x[f]*(val (y.take l)+4294967296 ^ l*y[l]))=4294967296 ^ f*(x[f]*val (y.take l))+4294967296 ^ (f+l)*(x[f]*y[l]):=by
    rw[Axx,Axx,Ay0]
    congr 1
    rw[Axt];congr 1
    rw[<-Axt,<-Axt,Axq x[f]]
   omega
  obtain⟨S',q1,q2,q3,q4⟩:=Agw (N:=N) (c:=c) (d:=d) (c':=c') (d':=d') hx hy I hs m (l+1) fuel (S.set (f+l) (s%4294967296)) (s/4294967296) v (by omega) (by omega) (Cm hS (by omega) _) (by simpa using k) (fun j hj hk=>by
   rw[A1k,if_neg (by omega)];exact T j (by simpa using hj) hk) (by omega) key
  refine⟨S',q1,q2,q3,fun D K=>?_⟩
  rw[Qw];unfold EP
  rw[Jo C,ct,wA (by omega),Aa (by omega),ct,cT hi,Aa I,ct,PO I,Aa C,ct,PO C,ct,uX hi,ct,Iu (show x[f]<18446744073709551616 by omega),Iu (show y[l]<18446744073709551616 by omega),Iu (show S[f+l]<18446744073709551616 by omega),pA,Iu hqy,GX,A0y S[f+l],Iu (by omega),GX,G,Iu hw,gd,ZB,RH,wS (by omega)]
  exact q4 D K
def Ab6{N:Nat}{x y:List Nat}{c d c' d':Bool}(T:Al x)(Y:Al y)(k:fit (x.length+y.length) N):∀(m f fuel:Nat)(S:List Nat),f+m=x.length->m<fuel->Al S->S.length=x.length+y.length ->
  val S=val (x.take f)*val y ->
  ∀ K:Nat->LA->O R,Lb N K (Ae x) x.length c d (Ae y) y.length c' d' fuel (x.length+y.length) (f:Int) (Ae S)=K (Ao (val x*val y)).length (Ae (Ao (val x*val y)))
|0,f,fuel+1,S,hf,_,hS,C,L=>by
  intro K
  have hf':f=x.length:=by omega
  subst hf'
  rw[Ayk]at L
  rw[Lb];unfold EQ
  rw[Ki (Axo _),cf,Ax4,Axl (by rw[Bp];omega),Dq C.symm hS (by rw[C];exact k),L]
| m+1,f,fuel+1,S,hf,hfu,hS,C,L=>by
  intro K
  have h1:=k.1;have h2:=k.2
  have G:f<x.length:=by omega
  have b1:=Bc (Cg T f)
  rw[Ax6,Ayd (by omega)]at b1
  have b2:=Bc Y
  have D:val S<4294967296 ^ (f+y.length):=by
   rw[L,Ay0];exact Ay1 b1 b2
  have I:val (x.take (f+1))*val y=val S+4294967296 ^ f*(x[f]*val y):=by
   rw[A0 G,Ax2,L,Axt]
  obtain⟨S1,p1,p2,p3,p4⟩:=Agw (R:=R) (N:=N) (x:=x) (y:=y) (c:=c) (d:=d) (c':=c') (d':=d') (f:=f) T Y G (by omega) y.length 0 N S 0 (val S) (by omega) (by omega) hS C (Al6 D) (by omega) (by simp[val])
  rw[Lb];unfold EQ
  rw[Jo G,ct]
  have:=p4 (Lb N K (Ae x) x.length c d (Ae y) y.length c' d' fuel) K
  simp only[A0h]at this
  dsimp only
  rw[this]
  exact Ab6 T Y k m (f+1) fuel S1 (by omega) (by omega) p1 p2 (by rw[p3,I]) K
def Ajc{N:Nat}{a b:List Nat}{n m:Nat}{t o t' o':Bool}{K:Nat->LA->O R}(hn:n=a.length)(C:m=b.length)(D:Al a)(G:Al b)(k:fit (a.length+b.length) N):
  eJ N (Ae a) n t o (Ae b) m t' o' K=K (Ao (val a*val b)).length (Ae (Ao (val a*val b))):=by
 subst hn C
 have I:=k.1;have L:=k.2
 rw[kZ];unfold eI
 rw[wA (by omega),Akd (by omega),ct,Axm,C2]
 exact Ab6 D G k a.length 0 N (replicate (a.length+b.length) 0) (by omega) (by omega) (Cj _) (by simp) (by rw[Ej];simp[val]) K
def rY{N:Nat}:∀(k fuel n v:Nat),v<2 ^ k->k<fuel->n+k<=1000000000000->∃ b:Nat,b<=k/\v<2 ^ b/\(v≠0->2 ^ b<=2*v)/\(v=0->b=0)/\∀ K:Int->O R,Ka N K fuel (n:Int) (v:Int)=K ((n+b:Nat):Int)
|0,fuel+1,n,v,D,_,_=>by
  have C:v=0:=by simpa using D
  subst C
  refine⟨0,by omega,by simp,fun h=>absurd rfl h,fun _=>rfl,fun K=>?_⟩
  rw[Ka];unfold S7
  rw[show decide (((0:Nat):Int)>0)=false by rfl,cf];rfl
| k+1,fuel+1,n,v,D,L,hn=>by
  by_cases C:v=0
  ·subst C
   refine⟨0,by omega,by simp,fun h=>absurd rfl h,fun _=>rfl,fun K=>?_⟩
   rw[Ka];unfold S7
   rw[show decide (((0:Nat):Int)>0)=false by rfl,cf];rfl
  ·obtain⟨b,b1,b2,b3,b4,I⟩:=rY (N:=N) k fuel (n+1) (v/2) (by rw[Ax3]at D;omega) (by omega) (by omega)
   refine⟨b+1,by omega,by rw[Ax3];omega,fun _=>?_,fun h=>absurd h C,fun K=>?_⟩
   ·by_cases G:v/2=0
    ·rw[b4 G];simp;omega
    ·have:=b3 G;rw[Ax3];omega
   ·rw[Ka];unfold S7
    rw[show decide ((v:Int)>0)=true by rw[decide_eq_true_eq];omega,ct,wS (by omega),R4 v 1,show v/2 ^ 1=v/2 by rfl,I]
    congr 2;omega
def Ae5{N:Nat}{a:List Nat}{n:Nat}{t o:Bool}(hn:n=a.length)(I:Al a)(G:fit a.length N):∃ nb:Nat,nb<=32*a.length/\val a<2 ^ nb/\(val a≠0->2 ^ nb<=2*val a)/\(val a=0->nb=0)/\∀ K:Int->O R,SK N (Ae a) n t o K=K (nb:Int):=by
 have h1:=G.1;have h2:=G.2
 have la:=(Bi I).2
 by_cases D:val a=0
 ·refine⟨0,by omega,by rw[D];simp,fun h=>absurd D h,fun _=>rfl,fun K=>?_⟩
  rw[MA];unfold H'
  rw[Dq hn I G,D,D8];rfl
 ·have Y:(Ao (val a)).length≠0:=fun h=>D (Bl.1 h)
  obtain⟨k,L⟩:∃ k,(Ao (val a)).length=k+1:=⟨(Ao (val a)).length - 1,by omega⟩
  have top:=A3 (Ad (val a)) (show k<(Ao (val a)).length by omega)
  have C:(Ao (val a))[k]'(by omega)≠0:=by
   have:=oz (val a) (ZA D)
   rw[A05]at this
   simp only[L,A4k]at this
   exact this
  have tf:=IP L
  have tl:=MX (Ad (val a)) L
  rw[Ak]at tf tl
  obtain⟨b,b1,b2,b3,b4,b5⟩:=rY (R:=R) (N:=N) 32 N (32*k) ((Ao (val a))[k]'(by omega)) (by exact top) (by omega) (by omega)
  have T:(2:Nat) ^ (32*k+b)=4294967296 ^ k*2 ^ b:=by rw[Ay0,A47]
  refine⟨32*k+b,by omega,?_,fun _=>?_,fun h=>absurd h D,fun K=>?_⟩
  ·rw[T]
   have:((Ao (val a))[k]'(by omega)+1)*4294967296 ^ k<=2 ^ b*4294967296 ^ k:=Axs _ b2
   rw[Axq (2 ^ b)]at this;omega
  ·rw[T]
   have:=Aya (4294967296 ^ k) (b3 C)
   rw[Az0]at this
   omega
  ·rw[MA];unfold H'
   have w1:wrap .i64 ((((Ao (val a)).length:Nat):Int) - 1)=(k:Int):=by rw[i64 (by omega)];omega
   have w2:wrap .i64 ((32:Int)*(k:Int))=((32*k:Nat):Int):=by rw[i64 (by omega)];omega
   rw[Dq hn I G,ti Y,cf,w1,Aa (by omega),ct,cT (by omega),w2]
   exact b5 K
def Ab7{a:List Nat}{j:Nat}(h:j<a.length):val a=val (a.take j)+4294967296 ^ j*(a[j]+4294967296*val (a.drop (j+1))):=by
 have:=Qr (a.take j) (a.drop j)
 rw[A0g,Ax6,Ayd (by omega),TD h]at this
 exact this
def jA(j k:Nat):(2:Nat) ^ (32*j+k)=4294967296 ^ j*2 ^ k:=by rw[Ay0,A47]
def Aon{a:List Nat}{j k:Nat}(C:Al a)(h:j<a.length)(I:k<32):val a/2 ^ (32*j+k)%2=a[j]/2 ^ k%2:=by
 have tl:=Bc (Cg C j)
 rw[Ax6,Ayd (by omega)]at tl
 have hP:0<4294967296 ^ j:=Azf (by omega)
 have D:0<2 ^ k:=Azf (by omega)
 rw[jA,<-A12,Ab7 h,A0l _ _ hP,Ay4 tl,Ax0]
 have e:4294967296=2 ^ k*(2*2 ^ (31 - k)):=by rw[<-Nat.pow_succ',<-Ay0,show k+(31 - k+1)=32 by omega]
 have G:4294967296*val (a.drop (j+1))=2 ^ k*(2*(2 ^ (31 - k)*val (a.drop (j+1)))):=by
  rw[<-Axt 2,<-Axt,<-e]
 rw[G,A0l _ _ D,A24]
def Ajd{N:Nat}{a:List Nat}{n:Nat}{t o:Bool}{i:Nat}{K:Int->O R}(hn:n=a.length)(G:Al a)(hi:i<32*a.length)(hs:a.length<=1000000000):nX N (Ae a) n t o (i:Int) K=K ((val a/2 ^ i%2:Nat):Int):=by
 subst hn
 have C:i/32<a.length:=by omega
 have aj:=A3 G C
 rw[kO];unfold qH
 have I:wrap .i64 (Int.tdiv (i:Int) 32)=((i/32:Nat):Int):=by rw[show(32:Int)=((32:Nat):Int) by rfl,YB,i64 (by omega)]
 have L:wrap .u64 (Int.tmod (i:Int) 32)=((i%32:Nat):Int):=by rw[show(32:Int)=((32:Nat):Int) by rfl,TC,Iu (by omega)]
 rw[I,L,show decide (((i/32:Nat):Int)>=(a.length:Int))=false by rw[decide_eq_false_iff_not];omega,cf,Aa C,ct,PO C,show decide (((i%32:Nat):Int)<0)=false by rw[decide_eq_false_iff_not];omega,cf,Axm,Ayd (by omega),R4]
 have D:a[i/32]/2 ^ (i%32)<4294967296:=Ayt (Azp _ _) aj
 have e:=Ad2 (k:=.u32) rfl (a:=a[i/32]/2 ^ (i%32)) (b:=1) D (by decide)
 rw[show(1:Int)=((1:Nat):Int) by rfl,e,Nat.and_one_is_mod]
 have:=Aon G C (k:=i%32) (by omega)
 rw[Ay6]at this
 rw[this]
def Amh{Q:List Nat}{j k:Nat}(hQ:Al Q)(h:j<Q.length)(G:k<32)(C:2 ^ (32*j+k+1)∣val Q):2 ^ (k+1)∣Q[j]:=by
 have tl:=Bc (Cg hQ j)
 rw[Ax6,Ayd (by omega)]at tl
 have hP:0<4294967296 ^ j:=Azf (by omega)
 rw[Ay8,jA,Ab7 h]at C
 have D:val (Q.take j)=0:=by
  have x1:4294967296 ^ j∣val (Q.take j):=(A19 (A27 _ _)).1 (Nat.dvd_trans (A27 _ _) C)
  exact Nat.eq_zero_of_dvd_of_lt x1 tl
 rw[D,Ax0]at C
 have x2:=Nat.dvd_of_mul_dvd_mul_left hP C
 have x3:2 ^ (k+1)∣4294967296*val (Q.drop (j+1)):=Nat.dvd_trans ⟨2 ^ (31 - k),by rw[<-Ay0,show k+1+(31 - k)=32 by omega]⟩ (A27 _ _)
 exact(A19 x3).1 x2
def jB{N:Nat}{a b:List Nat}{t o:Bool}{B:Nat}(ha:Al a)(I:b=Ao B)(hB:0<B)(G:fit (a.length+2*b.length+4) N):∀(i fuel:Nat)(Q:List Nat)(r:Nat),i<fuel->i<=32*a.length->Al Q->Q.length=a.length->r=val a/2 ^ i%B->val Q=val a/2 ^ i/B*2 ^ i ->
  ∀ K:Nat->Nat->Bool->LA->LA->O R,Ft N K (Ae a) a.length t o b.length (Ae b) fuel (Ao r).length ((i:Int) - 1) (Ae Q) (Ae (Ao r))=K (Ao (val a/B)).length (Ao (val a%B)).length true (Ae (Ao (val a/B))) (Ae (Ao (val a%B)))
| 0,fuel+1,Q,r,_,_,hQ,hl,hr,L=>by
  intro K
  rw[A13,A45]at hr L
  rw[Ax4]at L
  have lr:(Ao r).length<=b.length:=by
   rw[I];apply Br;rw[hr];exact A3p (Azo _ hB)
  rw[Ft];unfold Ta
  rw[show decide ((((0:Nat):Int) - 1)>=0)=false by rfl,cf,Ax4,Axl (by rw[Bp];omega),Dq hl.symm hQ (by rw[hl];exact G.le (by omega)),Ax4,Axl (by rw[Bp];omega),Dq rfl (Ad _) (G.le (by omega)),Ak,L,hr]
| i+1,fuel+1,Q,r,hfu,hi,hQ,hl,hr,L=>by
  intro K
  have h1:=G.1;have h2:=G.2
  have hrB:r<B:=by rw[hr];exact Azo _ hB
  have lr:(Ao r).length<=b.length:=by rw[I];exact Br (A3p hrB)
  have D:val a/2 ^ i=2*(val a/2 ^ (i+1))+val a/2 ^ i%2:=by
   have:=Ay6 (val a/2 ^ i) 2
   rw[A12,<-Ax3]at this
   exact this.symm
  have hdm:=Ay6 (val a/2 ^ (i+1)) B
  have hb2:val a/2 ^ i%2<2:=Azo _ (by omega)
  generalize hH:val a/2 ^ (i+1)=H at *
  generalize hbit:val a/2 ^ i%2=bt at *
  have C:val a/2 ^ i=B*(2*(H/B))+(2*r+bt):=by
   rw[D,hr,Az0];omega
  clear hr hdm D
  have hj:i/32<Q.length:=by omega
  have qj:=A3 hQ hj
  have hdvd:2 ^ (32*(i/32)+i%32+1)∣val Q:=by rw[Ay6,L];exact Nat.dvd_mul_left _ _
  have T:=Amh hQ hj (Azo _ (by omega)) hdvd
  have hpw:2 ^ i=4294967296 ^ (i/32)*2 ^ (i%32):=by rw[<-jA,Ay6]
  have hpk:2 ^ (i%32+1)<=4294967296:=(Aym (by omega) (show i%32+1<=32 by omega):2 ^ (i%32+1)<=2 ^ 32)
  have hor:Rb .u32 ((Q[i/32]:Nat):Int) (wrap .u32 ((1:Int)*2 ^ (min (Int.toNat ((i%32:Nat):Int)) 32)))=((Q[i/32]+2 ^ (i%32):Nat):Int)/\Q[i/32]+2 ^ (i%32)<4294967296:=by
   obtain⟨c,hc⟩:=T
   have hpos:0<2 ^ (i%32):=Azf (by omega)
   have hlt:Q[i/32]+2 ^ (i%32)<4294967296:=by
    obtain⟨w,hw⟩:∃ w,4294967296=2 ^ (i%32+1)*w:=⟨2 ^ (31 - i%32),by rw[<-Ay0,show i%32+1+(31 - i%32)=32 by omega]⟩
    have x1:c<w:=by rw[hc,hw]at qj;exact A0f qj
    have x2:=Aya (2 ^ (i%32+1)) (show c+1<=w from x1)
    rw[Axx,<-hw,<-hc,Ax4,Ax3]at x2
    omega
   refine⟨?_,hlt⟩
   rw[Axm,Ayd (by omega),Int.one_mul,show(2:Int) ^ (i%32)=((2 ^ (i%32):Nat):Int) by simp,Agn (by rw[Ax3]at hpk;omega),uf (k:=.u32) rfl qj (by show 2 ^ (i%32)<4294967296;rw[Ax3]at hpk;omega)]
   congr 1
   have e:Q[i/32]=c*2 ^ (i%32+1):=by rw[hc,Axq]
   rw[e];exact ge (by rw[Ax3];omega)
  have w1:wrap .i64 (Int.tdiv (i:Int) 32)=((i/32:Nat):Int):=by rw[show(32:Int)=((32:Nat):Int) by rfl,YB,i64 (by omega)]
  have w2:wrap .u64 (Int.tmod (i:Int) 32)=((i%32:Nat):Int):=by rw[show(32:Int)=((32:Nat):Int) by rfl,TC,Iu (by omega)]
  have l2:(Ao (2*r+bt)).length<=b.length+1:=by
   apply C1
   have x1:=Bc (Ad B)
   rw[Ak,<-I]at x1
   rw[Ax3];omega
  have second:Me N (Ft N K (Ae a) a.length t o b.length (Ae b) fuel) K (Ae a) a.length t o b.length (i:Int) (Ae b) (Ae Q) (Ao (2*r+bt)).length (Ae (Ao (2*r+bt)))=K (Ao (val a/B)).length (Ao (val a%B)).length true (Ae (Ao (val a/B))) (Ae (Ao (val a%B))):=by
   unfold Me
   have lb:Al b:=by rw[I];exact Ad _
   have vb:val b=B:=by rw[I,Ak]
   rw[Ax4,Ax4,Axl (by rw[Bp];omega),Axl (by rw[Bp];omega),iz rfl rfl (Ad _) lb (G.le (by omega)),Ak,vb]
   by_cases hge:B<=2*r+bt
   ·have Y:val a/2 ^ i/B=2*(H/B)+1:=by
     rw[C,show B*(2*(H/B))+(2*r+bt)=B*(2*(H/B)+1)+(2*r+bt - B) by rw[Axx];omega,A1s hB,Ay4 (show 2*r+bt - B<B by omega),Ayq]
    have hm1:val a/2 ^ i%B=2*r+bt - B:=by
     rw[C,show B*(2*(H/B))+(2*r+bt)=B*(2*(H/B)+1)+(2*r+bt - B) by rw[Axx];omega,A2f,Ayl (by omega)]
    rw[if_pos hge,ct,w1,w2,Aa (by omega),ct,cT hj,show decide (((i%32:Nat):Int)<0)=false by rw[decide_eq_false_iff_not];omega,cf,ct,uX hj,ct,hor.1,RH,i64 (by omega)]
    refine jB ha I hB G i fuel (Q.set (i/32) (Q[i/32]+2 ^ (i%32))) (2*r+bt - B) (by omega) (by omega) (Cm hQ hor.2 _) (by simpa using hl) hm1.symm ?_ K
    have x1:=fJ (v:=Q[i/32]+2 ^ (i%32)) hj
    rw[Axx,<-hpw]at x1
    rw[Y,Ax2,A3a,Axq 2,Axt,Axq 2,<-Ax3,<-L]
    omega
   ·have Y:val a/2 ^ i/B=2*(H/B):=by rw[C,A1s hB,Ay4 (show 2*r+bt<B by omega),Ayq]
    have hm1:val a/2 ^ i%B=2*r+bt:=by rw[C,A2f,Ayl (by omega)]
    rw[if_neg hge,cf,i64 (by omega)]
    refine jB ha I hB G i fuel Q (2*r+bt) (by omega) (by omega) hQ hl hm1.symm ?_ K
    rw[Y,Axq 2,Axt,Axq 2,<-Ax3,<-L]
  rw[Ft];unfold Ta
  rw[show(((i+1:Nat):Int) - 1)=(i:Int) by omega,show decide ((i:Int)>=0)=true by rw[decide_eq_true_eq];omega,ct,Ax4,Axl (by rw[Bp];omega),iy rfl rfl (Ad _) (Ad _) (G.le (by omega)),Ak,Ajd rfl ha (by omega) (by omega),hbit]
  have l3:(Ao (r+r)).length<=b.length+1:=by
   apply C1
   have x1:=Bc (Ad B)
   rw[Ak,<-I]at x1
   rw[Ax3];omega
  rcases(show bt=0\/bt=1 by omega)with rfl|rfl
  ·rw[show(((0:Nat):Int)==1)=false by rfl,cf]
   rw[show 2*r+0=r+r by omega]at second
   exact second
  ·rw[show(((1:Nat):Int)==1)=true by rfl,ct,Ax4,Axl (by rw[Bp];omega)]
   have:=iy (R:=R) (N:=N) (a:=Ao (r+r)) (b:=[1]) (n:=(Ao (r+r)).length) (m:=1) (t:=false) (o:=true) (t':=false) (o':=true) (K:=fun af ag=>Me N (Ft N K (Ae a) a.length t o b.length (Ae b) fuel) K (Ae a) a.length t o b.length (i:Int) (Ae b) (Ae Q) af ag) rfl rfl (Ad _) (by intro x hx;simp at hx;omega) (G.le (by simp;omega))
   rw[Ak,show val [1]=1 by rfl,show r+r+1=2*r+1 by omega]at this
   exact this.trans second
def MZ{N:Nat}{a b:List Nat}{n m:Nat}{t o t' o':Bool}{K:Nat->Nat->Bool->LA->LA->O R}(hn:n=a.length)(hm:m=b.length)(L:Al a)(hb:Al b)(G:val b≠0)(D:fit (a.length+2*b.length+4) N):
  U5 N (Ae a) n t o (Ae b) m t' o' K=K (Ao (val a/val b)).length (Ao (val a%val b)).length true (Ae (Ao (val a/val b))) (Ae (Ao (val a%val b))):=by
 have h1:=D.1;have h2:=D.2
 have lb:=(Bi hb).2
 have T:(Ao (val b)).length≠0:=fun h=>G (Bl.1 h)
 rw[SP];unfold EL
 dsimp only
 have long:P3 N K (Ae a) n t o (Ao (val b)).length (Ae (Ao (val b)))=K (Ao (val a/val b)).length (Ao (val a%val b)).length true (Ae (Ao (val a/val b))) (Ae (Ao (val a%val b))):=by
  obtain⟨nb,n1,n2,n3,n4,n5⟩:=Ae5 (R:=R) (N:=N) (a:=a) (n:=n) (t:=false) (o:=o) hn L (D.le (by omega))
  unfold P3 BY
  rw[n5,hn,Akd (by omega),ct,C2,i64 (by omega)]
  have hz:val a/2 ^ nb=0:=Ay4 n2
  have:=jB (R:=R) (N:=N) (a:=a) (b:=Ao (val b)) (t:=t) (o:=o) (B:=val b) L rfl (by omega) (D.le (by omega)) nb N (replicate a.length 0) 0 (by omega) n1 (Cj _) (by simp) (by rw[hz];simp) (by rw[hz,Ej];simp) K
  exact this
 rw[Dq hm hb (D.le (by omega)),ti T,cf,MY hn L (D.le (by omega)),Ax4,Axl (by rw[Bp];exact Axo _)]
 by_cases C:val a<18446744073709551616
 ·rw[if_pos C,MY rfl (Ad _) (D.le (by omega)),Ak]
  by_cases k:val b<18446744073709551616
  ·have I:val a/val b<18446744073709551616:=Ayt (Azp _ _) C
   have Y:val a%val b<18446744073709551616:=Ayt (Nat.mod_le _ _) C
   rw[if_pos k,show((true:Bool)==true)=true by rfl,ct,Aa3,ct,ti G,cf,YB,Iu I,FA I (by omega),cf,TC,FA Y (by omega)]
  ·rw[if_neg k,show((true:Bool)==true)=true by rfl,ct,Aa3,cf,long]
 ·rw[if_neg C,MY rfl (Ad _) (D.le (by omega)),Ak]
  by_cases k:val b<18446744073709551616
  ·rw[if_pos k,show((false:Bool)==true)=false by rfl,cf,long]
  ·rw[if_neg k,show((false:Bool)==true)=false by rfl,cf,long]
def Aje{N:Nat}:∀(k fuel A B:Nat),k<fuel->A*B<2 ^ k->B<A->fit (3*(Ao A).length+4) N->∀ K:Nat->LA->O R,Es N K fuel (Ao A).length (Ao B).length (Ae (Ao A)) (Ae (Ao B))=K (Ao (Nat.gcd A B)).length (Ae (Ao (Nat.gcd A B))):=by
 have base:∀(fuel A:Nat)(K:Nat->LA->O R),Es N K (fuel+1) (Ao A).length (Ao 0).length (Ae (Ao A)) (Ae (Ao 0))=K (Ao (Nat.gcd A 0)).length (Ae (Ao (Nat.gcd A 0))):=by
  intro fuel A K
  rw[Es];unfold Rl
  rw[D8,show decide (((([]:List Nat).length:Nat):Int)>0)=false by decide,cf,Az7]
 intro k
 induction k with
| zero =>
  intro fuel A B I C D G K
  obtain⟨fuel,rfl⟩:∃ F,fuel=F+1:=⟨fuel - 1,by omega⟩
  have L:B=0:=by
   rcases Ayf B with h|h
   ·exact h
   ·have h3:=Aya A (show 1<=B by omega)
    rw[A13]at C;omega
  subst L
  exact base fuel A K
|succ k T =>
  intro fuel A B I C D G K
  have h1:=G.1;have h2:=G.2
  obtain⟨fuel,rfl⟩:∃ F,fuel=F+1:=⟨fuel - 1,by omega⟩
  rcases Ayf B with h|h
  ·subst h;exact base fuel A K
  have Y:=Br (A3p D)
  have hbl:(Ao B).length≠0:=fun h0=>by have:=Bl.1 h0;omega
  have hm:=Azo A h
  have hh:=TF (show 1<=B by omega) (A3p D)
  have:=T fuel B (A%B) (by omega) (by rw[Ax3]at C;omega) hm (G.le (by omega)) K
  have hg:Nat.gcd B (A%B)=Nat.gcd A B:=by rw[Azh,<-A28,Azh]
  rw[hg]at this
  rw[Es];unfold Rl
  rw[show decide ((((Ao B).length:Nat):Int)>0)=true by rw[decide_eq_true_eq];omega,ct,Ax4,Ax4,Axl (by rw[Bp];exact Axo _),Axl (by rw[Bp];exact Axo _),MZ rfl rfl (Ad _) (Ad _) (by rw[Ak];omega) (G.le (by omega)),Ak,Ak]
  exact this
def Ajf{N:Nat}{a b:List Nat}{n m:Nat}{t o t' o':Bool}{K:Nat->LA->O R}(hn:n=a.length)(T:m=b.length)(D:Al a)(G:Al b)(C:fit (3*(a.length+b.length)+4) N):
  eC N (Ae a) n t o (Ae b) m t' o' K=K (Ao (Nat.gcd (val a) (val b))).length (Ae (Ao (Nat.gcd (val a) (val b)))):=by
 have h1:=C.1;have h2:=C.2
 have la:=(Bi D).2
 have lb:=(Bi G).2
 have I:val a*val b<2 ^ (32*(a.length+b.length)):=by rw[<-Ab4];exact Ay1 (Bc D) (Bc G)
 rw[kU];unfold eB
 rw[Dq hn D (C.le (by omega)),Dq T G (C.le (by omega))]
 obtain⟨F,hF⟩:∃ F,N=F+1:=⟨N - 1,by omega⟩
 rcases Ayf (val b)with h|h
 ·rw[h,D8,Az7,hF,Es];unfold Rl
  rw[show decide (((([]:List Nat).length:Nat):Int)>0)=false by decide,cf]
 ·have L:=Azo (val a) h
  have Y:(Ao (val b)).length≠0:=fun h0=>by have:=Bl.1 h0;omega
  have k:val b*(val a%val b)<2 ^ (32*(a.length+b.length)):=by
   have:val b*(val a%val b)<=val b*val a:=Aya _ (Nat.mod_le _ _)
   rw[Axq (val b) (val a)]at this;omega
  have:=Aje (R:=R) (N:=N) (32*(a.length+b.length)) F (val b) (val a%val b) (by omega) k L (C.le (by omega)) K
  have hg:Nat.gcd (val b) (val a%val b)=Nat.gcd (val a) (val b):=by rw[Azh,<-A28,Azh]
  rw[hg]at this
  have e:Es N K (F+1) (Ao (val a)).length (Ao (val b)).length (Ae (Ao (val a))) (Ae (Ao (val b)))=Es N K F (Ao (val b)).length (Ao (val a%val b)).length (Ae (Ao (val b))) (Ae (Ao (val a%val b))):=by
   rw[Es];unfold Rl
   rw[show decide ((((Ao (val b)).length:Nat):Int)>0)=true by rw[decide_eq_true_eq];omega,ct,Ax4,Ax4,Axl (by rw[Bp];exact Axo _),Axl (by rw[Bp];exact Axo _),MZ rfl rfl (Ad _) (Ad _) (by rw[Ak];omega) (C.le (by omega)),Ak,Ak]
  conv=>lhs;rw[show(Es N K N)=Es N K (F+1) by rw[<-hF]]
  rw[e];exact this
inductive LS where
|nil
|of (l:List Nat) (t o:Bool)
def LS.l:LS->List Nat
|.nil=>[]
|.of l _ _=>l
def LS.av:LS->AV
|.nil=>.nsl
|.of l t o=>.imm (Ae l) l.length 1 t o
def Ae6{s:LS}{r:LA}{f:LA->Nat->O R}:Bq 1 (s.av::r) f=f (Ae s.l) s.l.length:=by cases s<;>simp[Bq,LS.av,LS.l,Aho,Ae]
def Apy{b:Bool}{r:LA}{f:Bool->O R}:DD (.bool b::r) f=f b:=by simp[DD,asBool]
def J5(neg:Bool)(s:LS):LA:=[.bool neg,s.av]
def Ax(neg:Bool)(s:LS):Int:=if neg then -(val s.l:Int)else(val s.l:Int)
def Cu(neg:Bool)(s:LS):(Ax neg s).natAbs=val s.l:=by unfold Ax;cases neg<;>simp
def Tl{neg:Bool}{s:LS}{f:Bool->O R}:DD (J5 neg s) f=f neg:=Apy
def Pp{neg:Bool}{s:LS}{f:LA->Nat->O R}:Bq 1 (drop 1 (J5 neg s)) f=f (Ae s.l) s.l.length:=by rw[J5,Ay2,Ayh,Ae6]
def Oa{N:Nat}{c:Bool}{a:Nat}{b:LA}{K:Bool->O R}:L8 N c a b K=K (c&&decide (0<a)):=by
 rw[XA];unfold ZE
 cases c<;>simp
def AB{z:Int}{c:Bool}{m:Nat}(h:z=if c then -(m:Int)else(m:Int)):(c&&decide (0<(Ao m).length))=decide (z<0)/\z.natAbs=m:=by
 have D:z.natAbs=m:=by rw[h];cases c<;>simp
 refine⟨?_,D⟩
 by_cases C:m=0
 ·subst C;rw[h,D8];cases c<;>simp
 ·have:0<(Ao m).length:=by
   rcases Ayf (Ao m).length with k|k
   ·exact absurd (Bl.1 k) C
   ·exact k
  rw[h];cases c<;>simp[this]<;>omega
def tn{N:Nat}{v:Int}(I:-9223372036854775808<=v/\v<=9223372036854775807)(hN:4<=N):∃ S,Al S/\val S=v.natAbs/\∀ K:Bool->Nat->LA->O R,KL N v K=K (decide (v<0)) (Ao v.natAbs).length (Ae S):=by
 have D:v.natAbs<18446744073709551616:=by omega
 obtain⟨S,s1,s2,C⟩:=Ld (R:=R) (N:=N) D hN
 refine⟨S,s1,s2,fun K=>?_⟩
 rw[QY];unfold QX
 by_cases h:v<0
 ·have e:wrap .u64 ((0:Int) - wrap .u64 v)=(v.natAbs:Int):=by rw[ZC,ZC];omega
  rw[decide_eq_true h,ct,e,C,Oa]
  have G:v.natAbs≠0:=by omega
  have:0<(Ao v.natAbs).length:=by
   rcases Ayf (Ao v.natAbs).length with k|k
   ·exact absurd (Bl.1 k) G
   ·exact k
  simp[this]
 ·have e:wrap .u64 v=(v.natAbs:Int):=by rw[ZC];omega
  rw[decide_eq_false h,cf,e,C,Oa];rfl
def aQ{N:Nat}{neg:Bool}{s:LS}{o:Bool}{K:Int->O R}(hs:Al s.l)(k:fit s.l.length N):U_ N (J5 neg s) o K=K (Ax neg s).sign:=by
 rw[kK];unfold ph
 rw[Pp,rS rfl hs k]
 unfold Ax
 by_cases h:val s.l=0
 ·rw[h,Z9,show((0:Int)==0)=true by rfl,ct];cases neg<;>rfl
 ·have:Hv (val s.l) 0=1:=by unfold Hv;rw[if_neg (by omega),if_pos (by omega)]
  rw[this,show((1:Int)==0)=false by rfl,cf,Tl]
  cases neg
  ·rw[cf];simp only[Azb,if_false]
   congr 1
   rw[Aze];omega
  ·rw[ct];simp only[if_true]
   congr 1
   rw[Ayn];omega
def IQ{N:Nat}{n1 n2:Bool}{s1 s2:LS}{o1 o2:Bool}(C:Al s1.l)(D:Al s2.l)(G:fit (s1.l.length+s2.l.length) N):∃ S,Al S/\val S=(Ax n1 s1*Ax n2 s2).natAbs/\∀ K:Bool->Nat->LA->O R,RE N (J5 n1 s1) o1 (J5 n2 s2) o2 K=K (decide (Ax n1 s1*Ax n2 s2<0)) (Ao (Ax n1 s1*Ax n2 s2).natAbs).length (Ae S):=by
 obtain⟨S,a1,a2,a3⟩:=TB (R:=R) (N:=N) (a:=s1.l) (b:=s2.l) (t:=false) (o:=o1) (t':=false) (o':=o2) rfl rfl C D G
 have I:Ax n1 s1*Ax n2 s2=if (!(n1==n2))then -((val s1.l*val s2.l:Nat):Int)else((val s1.l*val s2.l:Nat):Int):=by
  unfold Ax;cases n1<;>cases n2<;>simp[A44,Int.neg_mul]
 obtain⟨c1,k⟩:=AB I
 refine⟨S,a1,by rw[a2,k],fun K=>?_⟩
 rw[pH];unfold x_
 rw[Tl,Tl,Pp,Pp,a3,Oa,c1,k]
def vY{N:Nat}{n1 n2:Bool}{s1 s2:LS}{o1 o2:Bool}(G:Al s1.l)(I:Al s2.l)(L:fit (s1.l.length+s2.l.length+1) N):∃ S,Al S/\val S=(Ax n1 s1+Ax n2 s2).natAbs/\∀ K:Bool->Nat->LA->O R,pm N (J5 n1 s1) o1 (J5 n2 s2) o2 K=K (decide (Ax n1 s1+Ax n2 s2<0)) (Ao (Ax n1 s1+Ax n2 s2).natAbs).length (Ae S):=by
 by_cases hn:n1=n2
 ·subst hn
  obtain⟨S,a1,a2,a3⟩:=Al4 (R:=R) (N:=N) (a:=s1.l) (b:=s2.l) (t:=false) (o:=o1) (t':=false) (o':=o2) rfl rfl G I L
  have C:Ax n1 s1+Ax n1 s2=if n1 then -((val s1.l+val s2.l:Nat):Int)else((val s1.l+val s2.l:Nat):Int):=by
   unfold Ax;cases n1<;>simp;omega
  obtain⟨c1,k⟩:=AB C
  refine⟨S,a1,by rw[a2,k],fun K=>?_⟩
  rw[LR];unfold dO
  rw[Tl,Tl,show(n1==n1)=true by simp,ct,Tl,Pp,Pp,a3,Oa,c1,k]
 ·have D:(n1==n2)=false:=by simp[hn]
  by_cases T:val s2.l<=val s1.l
  ·obtain⟨S,a1,a2,a3⟩:=rV (R:=R) (N:=N) (a:=s1.l) (b:=s2.l) (t:=false) (o:=o1) (t':=false) (o':=o2) rfl rfl G I (L.le (by omega)) T
   have C:Ax n1 s1+Ax n2 s2=if n1 then -((val s1.l - val s2.l:Nat):Int)else((val s1.l - val s2.l:Nat):Int):=by
    unfold Ax;cases n1<;>cases n2<;>simp at hn ⊢<;>omega
   obtain⟨c1,k⟩:=AB C
   refine⟨S,a1,by rw[a2,k],fun K=>?_⟩
   rw[LR];unfold dO
   rw[Tl,Tl,D,cf,Pp,Pp,a3,ct,Tl,Oa,c1,k]
  ·obtain⟨S,a1,a2,a3⟩:=rV (R:=R) (N:=N) (a:=s2.l) (b:=s1.l) (t:=false) (o:=o2) (t':=false) (o':=o1) rfl rfl I G (L.le (by omega)) (by omega)
   have C:Ax n1 s1+Ax n2 s2=if n2 then -((val s2.l - val s1.l:Nat):Int)else((val s2.l - val s1.l:Nat):Int):=by
    unfold Ax;cases n1<;>cases n2<;>simp at hn ⊢<;>omega
   obtain⟨c1,k⟩:=AB C
   refine⟨S,a1,by rw[a2,k],fun K=>?_⟩
   rw[LR];unfold dO
   rw[Tl,Tl,D,cf,Pp,Pp,Al5 rfl rfl G I (L.le (by omega)) (by omega),cf,Pp,Pp,a3,Tl,Oa,c1,k]
def Ae7{N:Nat}{n1:Bool}{s1:LS}{o1:Bool}{K:Bool->Nat->LA->O R}(k:Al s1.l)(C:fit s1.l.length N):nT N (J5 n1 s1) o1 K=K (decide (Ax n1 s1<0)) (Ao (Ax n1 s1).natAbs).length (Ae (Ao (Ax n1 s1).natAbs)):=by
 obtain⟨c1,D⟩:=AB (z:=Ax n1 s1) (c:=n1) (m:=val s1.l) (by unfold Ax;cases n1<;>simp)
 rw[jy];unfold pK
 rw[Tl,Pp,VH rfl k C,Oa,c1,D]
def fO(x y:Int):Int:=if x<y then -1 else if y<x then 1 else 0
def Ami(x y:Nat):fO (x:Int) (y:Int)=Hv x y:=by unfold fO Hv;simp
def Amj(x y:Nat):fO (-(x:Int)) (-(y:Int))=Hv y x:=by
 unfold fO Hv
 by_cases h:y<x
 ·rw[if_pos (by omega),if_pos h]
 ·rw[if_neg (by omega),if_neg h]
  by_cases k:x<y
  ·rw[if_pos (by omega),if_pos k]
  ·rw[if_neg (by omega),if_neg k]
def tp{N:Nat}{n1 n2:Bool}{s1 s2:LS}{o1 o2:Bool}{K:Int->O R}(D:Al s1.l)(G:Al s2.l)(C:fit (s1.l.length+s2.l.length) N):LW N (J5 n1 s1) o1 (J5 n2 s2) o2 K=K (fO (Ax n1 s1) (Ax n2 s2)):=by
 rw[SG];unfold SF
 have l2:∀ n s,take 2 (J5 n s)=J5 n s:=fun n s=>rfl
 have l3:∀ n s,ble 2 (List.length (J5 n s))=true:=fun n s=>rfl
 rw[l2,l2,l3,l3,ct,aQ D (C.le (by omega)),ct,aQ G (C.le (by omega))]
 have sg:∀ z:Int,z.sign=if z<0 then -1 else if 0<z then 1 else 0:=by
  intro z
  rcases A1d z 0 with h|h|h
  ·rw[Ayn h,if_pos h]
  ·subst h;rfl
  ·rw[Aze h,if_neg (by omega),if_pos h]
 by_cases c1:(Ax n1 s1).sign<(Ax n2 s2).sign
 ·rw[decide_eq_true c1,ct]
  rw[sg,sg]at c1
  unfold fO;rw[if_pos]
  split at c1<;>split at c1<;>(try split at c1)<;>(try split at c1)<;>omega
 ·rw[decide_eq_false c1,cf]
  by_cases k:(Ax n1 s1).sign>(Ax n2 s2).sign
  ·rw[decide_eq_true k,ct]
   rw[sg,sg]at k
   unfold fO;rw[if_neg,if_pos]
   ·split at k<;>split at k<;>(try split at k)<;>(try split at k)<;>omega
   ·split at k<;>split at k<;>(try split at k)<;>(try split at k)<;>omega
  ·rw[decide_eq_false k,cf]
   have L:(Ax n1 s1).sign=(Ax n2 s2).sign:=by omega
   by_cases c3:(Ax n1 s1).sign<0
   ·rw[decide_eq_true c3,ct,Pp,Pp,Rp rfl rfl G D (C.le (by omega))]
    have p1:Ax n1 s1<0:=by rw[sg]at c3;split at c3;assumption;split at c3<;>omega
    have p2:Ax n2 s2<0:=by rw[L,sg]at c3;split at c3;assumption;split at c3<;>omega
    have e1:Ax n1 s1=-(val s1.l:Int):=by unfold Ax at p1 ⊢;cases n1<;>simp at p1 ⊢;omega
    have I:Ax n2 s2=-(val s2.l:Int):=by unfold Ax at p2 ⊢;cases n2<;>simp at p2 ⊢;omega
    rw[e1,I,Amj]
   ·rw[decide_eq_false c3,cf,Pp,Pp,Rp rfl rfl D G (C.le (by omega))]
    have p1:0<=Ax n1 s1:=by
     apply Int.not_lt.1;intro h;rw[Ayn h]at c3;omega
    have p2:0<=Ax n2 s2:=by
     apply Int.not_lt.1;intro h;rw[L,Ayn h]at c3;omega
    have e1:Ax n1 s1=(val s1.l:Int):=by have:=Cu n1 s1;omega
    have I:Ax n2 s2=(val s2.l:Int):=by have:=Cu n2 s2;omega
    rw[e1,I,Ami]
def rZ(z:Int)(d:Nat)(D:d≠0):(mkRat z d).num.natAbs=z.natAbs/Nat.gcd z.natAbs d/\((mkRat z d).num<0↔z<0)/\(mkRat z d).den=d/Nat.gcd z.natAbs d:=by
 have G:0<Nat.gcd z.natAbs d:=A02 _ (by omega)
 rw[A4g,A4e,if_neg D,if_neg D,Azh d]
 have k:((Nat.gcd z.natAbs d:Nat):Int)∣z:=Int.dvd_natAbs.1 (Int.natCast_dvd_natCast.2 (A0i _ _))
 obtain⟨c,hc⟩:=k
 have I:z.natAbs.gcd d=Nat.gcd z.natAbs d:=rfl
 generalize Nat.gcd z.natAbs d=g at *
 refine⟨?_,?_,rfl⟩
 ·rw[hc,A01 _ (by omega),A0c,Ax8,A3l _ G]
 ·rw[hc,A01 _ (by omega)]
  constructor
  ·intro h;exact Int.mul_neg_of_pos_of_neg (by omega) h
  ·intro h;rcases Int.lt_or_le c 0 with C|C
   ·exact C
   ·have:=A2w (show(0:Int)<=g by omega) C;omega
structure RatD where
 neg:Bool
 ns:LS
 ds:LS
def RatD.av(x:RatD):LA:=[.bool x.neg,x.ns.av,x.ds.av]
def RatD.ok(x:RatD):Prop:=Al x.ns.l/\Al x.ds.l
def RatD.m(x:RatD):Nat:=max x.ns.l.length x.ds.l.length
def RatD.q(x:RatD):Rat:=mkRat (Ax x.neg x.ns) (val x.ds.l)
def RatD.can(x:RatD)(q:Rat):Prop:=x.neg=decide (q.num<0)/\x.ns.l=Ao q.num.natAbs/\x.ds.l=Ao q.den
def qm(q:Rat):Nat:=max (Ao q.num.natAbs).length (Ao q.den).length
def RatD.can.ok{x:RatD}{q:Rat}(h:x.can q):x.ok:=⟨by rw[h.2.1];exact Ad _,by rw[h.2.2];exact Ad _⟩
def RatD.can.m{x:RatD}{q:Rat}(h:x.can q):x.m=qm q:=by unfold RatD.m qm;rw[h.2.1,h.2.2]
def RatD.can.q{x:RatD}{q:Rat}(h:x.can q):x.q=q:=by
 unfold RatD.q Ax
 rw[h.1,h.2.1,h.2.2,Ak,Ak]
 have:(if decide (q.num<0)=true then -(q.num.natAbs:Int)else(q.num.natAbs:Int))=q.num:=by
  by_cases k:q.num<0
  ·rw[if_pos (by simpa using k)];omega
  ·rw[if_neg (by simpa using k)];omega
 rw[this,Rat.mkRat_self]
def Arc{x:RatD}{f:Bool->O R}:DD x.av f=f x.neg:=Apy
def Ajg{x:RatD}{f:LA->Nat->O R}:Bq 1 (drop 1 x.av) f=f (Ae x.ns.l) x.ns.l.length:=by rw[RatD.av,Ay2,Ayh,Ae6]
def mj{x:RatD}{f:LA->Nat->O R}:Bq 1 (drop 2 x.av) f=f (Ae x.ds.l) x.ds.l.length:=by rw[RatD.av,Ay2,Ay2,Ayh,Ae6]
def J6(x:RatD):ble 3 (List.length x.av)=true:=rfl
def Ei(x:RatD):take 3 x.av=x.av:=rfl
def Apz(x:RatD):take 2 x.av=J5 x.neg x.ns:=rfl
def As2(x:RatD):beq (List.length x.av) 3=true:=rfl
def YC(n:Bool)(s:LS):((beq 0 0)&&((beq (List.length (J5 n s)) 2)&&(beq 2 2)))=true:=rfl
def aR(n:Bool)(s:LS):ble 2 (List.length (J5 n s))=true:=rfl
def tj(n:Bool)(s:LS):take 2 (J5 n s)=J5 n s:=rfl
def Amk:([.int .u32 1]:LA)=Ae [1]:=rfl
def Ajh:Al [1]:=by intro x k;simp at k;omega
def Zr:Ao 1=[1]:=by rw[KI (by omega)];simp[D8]
def Eu{v:Nat}{S:List Nat}(k:Al S)(C:val S=v):take ((Ao v).length*1) (Ae S)=Ae (Ao v):=by rw[<-C,Ma k]
def Aji(neg:Bool)(l:List Nat)(t o:Bool):([.bool neg,.imm (Ae l) l.length 1 t o]:LA)=J5 neg (.of l t o):=rfl
def Jk{z:Int}{t o:Bool}:Ax (decide (z<0)) (.of (Ao z.natAbs) t o)=z:=by
 unfold Ax LS.l;rw[Ak]
 by_cases h:z<0
 ·rw[if_pos (by simpa using h)];omega
 ·rw[if_neg (by simpa using h)];omega
def tq{N:Nat}{v:Int}(k:-9223372036854775808<=v/\v<=9223372036854775807)(hN:4<=N):∃ d:RatD,d.can (v:Rat)/\∀ K:LA->O R,Ba N v K=K d.av:=by
 obtain⟨S,s1,s2,C⟩:=tn (R:=R) (N:=N) k hN
 refine⟨⟨decide (v<0),.of (Ao v.natAbs) false false,.of (Ao 1) false false⟩,⟨rfl,rfl,rfl⟩,fun K=>?_⟩
 rw[Q_];unfold QZ
 rw[C,Eu s1 s2,Zr];rfl
def Ob{N:Nat}{x:RatD}{o:Bool}(C:x.ok)(I:fit x.m N):∃(neg:Bool)(s:LS)(l:List Nat)(o1 o2:Bool),Al s.l/\Al l/\val l≠0/\s.l.length<=x.m/\l.length<=max x.m 1/\mkRat (Ax neg s) (val l)=x.q/\∀ K:LA->Bool->LA->Nat->Bool->O R,Nk N x.av o K=K (J5 neg s) o1 (Ae l) l.length o2:=by
 have D:x.ns.l.length<=x.m:=A0v _ _
 have k:x.ds.l.length<=x.m:=A06 _ _
 by_cases G:val x.ds.l=0
 ·refine⟨false,.nil,[1],false,false,Ug,Ajh,by decide,by simp[LS.l],by simp;omega,?_,fun K=>?_⟩
  ·unfold RatD.q;rw[G];simp[Ax,LS.l,val]
  ·rw[KQ];unfold US
   rw[mj,rS rfl C.2 (I.le k),G,Z9];rfl
 ·refine⟨x.neg,x.ns,x.ds.l,o,o,C.1,C.2,G,D,by omega,rfl,fun K=>?_⟩
  have:Hv (val x.ds.l) 0=1:=by unfold Hv;rw[if_neg (by omega),if_pos (by omega)]
  rw[KQ];unfold US
  rw[mj,rS rfl C.2 (I.le k),this,show((1:Int)==0)=false by rfl,cf,show ble 2 (List.length x.av)=true by rfl,ct,mj,Apz,YC,ct,aR,ct,tj]
def As3(z:Int)(d:Nat)(k:d≠0):(mkRat z d).num.sign=z.sign:=by
 obtain⟨D,C,_⟩:=rZ z d k
 rcases A1d z 0 with h|h|h
 ·rw[Ayn h,Ayn (C.2 h)]
 ·subst h;simp
 ·have hn:¬ (mkRat z d).num<0:=fun hh=>by have:=C.1 hh;omega
  have G:(mkRat z d).num≠0:=fun hh=>by
   have:mkRat z d=0:=A1b.1 hh
   rw[Rat.mkRat_eq_zero k]at this;omega
  rw[Aze h,Aze (by omega)]
def I8{N:Nat}{x:RatD}{o:Bool}{K:Int->O R}(C:x.ok)(k:fit x.m N):Sw N x.av o K=K x.q.num.sign:=by
 obtain⟨neg,s,l,o1,o2,p1,p2,D,G,T,I,L⟩:=Ob (R:=R) (o:=o) C k
 rw[kL];unfold pi
 rw[J6,ct,Ei,L,YC,ct,aR,ct,tj,aQ p1 (k.le G),<-I,As3 _ _ D]
def I9{N:Nat}{x:RatD}{o:Bool}(C:x.ok)(D:fit x.m N):(∃(n:Int)(d:Nat),-2147483648<n/\n<2147483648/\0<d/\d<2147483648/\mkRat n d=x.q/\∀ K:Int->Int->Bool->O R,Hc N x.av o K=K n (d:Int) true)\/(∀ K:Int->Int->Bool->O R,Hc N x.av o K=K 0 0 false):=by
 have G:x.ns.l.length<=x.m:=A0v _ _
 have k:x.ds.l.length<=x.m:=A06 _ _
 by_cases h1:val x.ns.l<2147483648
 ·by_cases Y:val x.ds.l<2147483648
  ·left
   have e:∀ K:Int->Int->Bool->O R,Hc N x.av o K=Fx N K (val x.ns.l:Int) (val x.ds.l:Int) o x.av false:=by
    intro K
    rw[Y3];unfold Z6
    rw[Ajg,N9 rfl C.1 (D.le G),if_pos (by omega),mj,N9 rfl C.2 (D.le k),if_pos (by omega)]
    rw[show((!true)==false)=true by rfl,ct,show((cond false true (!true))==false)=true by rfl,ct,show decide (((val x.ns.l:Nat):Int)>=2147483648)=false by rw[decide_eq_false_iff_not];omega,show((cond false true false)==false)=true by rfl,ct,show decide (((val x.ds.l:Nat):Int)>=2147483648)=false by rw[decide_eq_false_iff_not];omega]
    rfl
   by_cases L:val x.ds.l=0
   ·refine⟨0,1,by omega,by omega,by omega,by omega,by unfold RatD.q;rw[L];simp,fun K=>?_⟩
    rw[e];unfold Fx
    rw[cf,Awi L,ct];rfl
   ·have hn:=Cu x.neg x.ns
    refine⟨Ax x.neg x.ns,val x.ds.l,by omega,by omega,by omega,Y,rfl,fun K=>?_⟩
    rw[e];unfold Fx
    rw[cf,ti L,cf,Arc,i64 (a:=((val x.ns.l:Nat):Int)) (by omega),i64 (a:=((val x.ds.l:Nat):Int)) (by omega)]
    unfold Ax
    cases x.neg
    ·rfl
    ·rw[ct,i64 (by omega),Int.zero_sub];rfl
  ·right
   intro K
   rw[Y3];unfold Z6
   rw[Ajg,N9 rfl C.1 (D.le G),if_pos (by omega),mj,N9 rfl C.2 (D.le k),show((!true)==false)=true by rfl]
   by_cases I:val x.ds.l<18446744073709551616
   ·rw[if_pos I,ct,show((cond false true (!true))==false)=true by rfl,ct,show decide (((val x.ns.l:Nat):Int)>=2147483648)=false by rw[decide_eq_false_iff_not];omega,show((cond false true false)==false)=true by rfl,ct,show decide (((val x.ds.l:Nat):Int)>=2147483648)=true by rw[decide_eq_true_eq];omega]
    unfold Fx;rfl
   ·rw[if_neg I,ct,show((cond false true (!false))==false)=false by rfl,cf]
    unfold Fx;rfl
 ·right
  intro K
  rw[Y3];unfold Z6
  rw[Ajg,N9 rfl C.1 (D.le G)]
  by_cases I:val x.ns.l<18446744073709551616
  ·rw[if_pos I,mj,N9 rfl C.2 (D.le k),show((!true)==false)=true by rfl,show decide (((val x.ns.l:Nat):Int)>=2147483648)=true by rw[decide_eq_true_eq];omega]
   by_cases T:val x.ds.l<18446744073709551616
   ·rw[if_pos T,ct,show((cond false true (!true))==false)=true by rfl,ct]
    unfold Fx;rfl
   ·rw[if_neg T,ct,show((cond false true (!false))==false)=false by rfl,cf]
    unfold Fx;rfl
  ·rw[if_neg I,mj,N9 rfl C.2 (D.le k),show((!false)==false)=false by rfl]
   split<;>(rw[cf];unfold Fx;rfl)
def vZ{N:Nat}{a b c:Nat}{s:Int}(hN:4<=N)(Y:a<18446744073709551616)(hb:b<9223372036854775808)(hg0:0<c)(hga:c∣a):∀(k fuel x y:Nat),k<fuel->x*y<2 ^ k->y<=x->Nat.gcd x y=c->∃ d:RatD,d.neg=decide (s<0)/\d.ns.l=Ao (a/c)/\d.ds.l=Ao (b/c)/\∀ K:LA->O R,C3 N K s (b:Int) (a:Int) fuel (x:Int) (y:Int)=K d.av:=by
 have base:∀(fuel:Nat),∃ d:RatD,d.neg=decide (s<0)/\d.ns.l=Ao (a/c)/\d.ds.l=Ao (b/c)/\∀ K:LA->O R,C3 N K s (b:Int) (a:Int) (fuel+1) (c:Int) ((0:Nat):Int)=K d.av:=by
  intro fuel
  have L:a/c<18446744073709551616:=Ayt (Azp _ _) Y
  have T:b/c<18446744073709551616:=Ayt (Azp _ _) (by omega)
  obtain⟨S1,s1,s2,s3⟩:=Ld (R:=R) (N:=N) L hN
  obtain⟨S2,t1,t2,t3⟩:=Ld (R:=R) (N:=N) T hN
  refine⟨⟨decide (s<0),.of (Ao (a/c)) false false,.of (Ao (b/c)) false false⟩,rfl,rfl,rfl,fun K=>?_⟩
  rw[C3];unfold Lm
  rw[show(((0:Nat):Int) != 0)=false by rfl,cf,ti (by omega),cf,YB,Iu L,s3,cf,Iu (show b<18446744073709551616 by omega),YB,Iu T,t3,Eu s1 s2,Eu t1 t2];rfl
 intro k
 induction k with
| zero =>
  intro fuel x y hf C G D
  obtain⟨fuel,rfl⟩:∃ F,fuel=F+1:=⟨fuel - 1,by omega⟩
  have hy:y=0:=by
   rcases Ayf y with h|h
   ·exact h
   ·have h3:=Aya x (show 1<=y by omega)
    rw[A13]at C;omega
  subst hy
  rw[Az7]at D;subst D
  exact base fuel
| succ k ih =>
  intro fuel x y hf C G D
  obtain⟨fuel,rfl⟩:∃ F,fuel=F+1:=⟨fuel - 1,by omega⟩
  rcases Ayf y with h|h
  ·subst h;rw[Az7]at D;subst D;exact base fuel
  ·have hh:=TF (show 1<=y by omega) G
   have hm:=Azo x h
   have I:Nat.gcd y (x%y)=Nat.gcd x y:=by rw[Azh,<-A28,Azh]
   obtain⟨d,d1,d2,d3,d4⟩:=ih fuel y (x%y) (by omega) (by rw[Ax3]at C;omega) (by omega) (by rw[I,D])
   refine⟨d,d1,d2,d3,fun K=>?_⟩
   rw[C3];unfold Lm
   rw[show((y:Int) != 0)=true by rw[bne_iff_ne];omega,ct,ti (by omega),cf,TC]
   exact d4 K
def F'{N:Nat}{s:Int}{b:Nat}(hs:-9223372036854775808<=s/\s<=9223372036854775807)(G:0<b)(hb:b<9223372036854775808)(hN:1000<=N):∃ d:RatD,d.can (mkRat s b)/\∀ K:LA->O R,J9 N s (b:Int) K=K d.av:=by
 obtain⟨m1,m2,m3⟩:=rZ s b (by omega)
 have k:∀ d:RatD,d.neg=decide (s<0)->d.ns.l=Ao (s.natAbs/Nat.gcd s.natAbs b)->d.ds.l=Ao (b/Nat.gcd s.natAbs b)->d.can (mkRat s b):=by
  intro d h1 h2 h3
  exact⟨by rw[h1];congr 1;exact propext m2.symm,by rw[h2,m1],by rw[h3,m3]⟩
 have D:s.natAbs<18446744073709551616:=by omega
 have start:∀ K:LA->O R,J9 N s (b:Int) K=C3 N K s (b:Int) (s.natAbs:Int) N (b:Int) (s.natAbs:Int):=by
  intro K
  rw[N_];unfold Y4 R7 Xn
  dsimp only
  by_cases h:s<0
  ·have e:wrap .u64 ((0:Int) - wrap .u64 s)=(s.natAbs:Int):=by rw[ZC,ZC];omega
   rw[decide_eq_true h,ct,e,Iu (by omega)]
  ·have e:wrap .u64 s=(s.natAbs:Int):=by rw[ZC];omega
   rw[decide_eq_false h,cf,e,Iu (by omega)]
 have C:0<Nat.gcd s.natAbs b:=A02 _ G
 by_cases I:s.natAbs<=b
 ·obtain⟨d,L,T,Y,d4⟩:=vZ (R:=R) (N:=N) (a:=s.natAbs) (b:=b) (c:=Nat.gcd s.natAbs b) (s:=s) (by omega) D hb C (A0i _ _) 128 N b s.natAbs (by omega) (by
   have:=Ay1 (show b<18446744073709551616 by omega) D;exact this) I (Azh _ _)
  exact⟨d,k d L T Y,fun K=>by rw[start,d4]⟩
 ·obtain⟨F,hF⟩:∃ F,N=F+1:=⟨N - 1,by omega⟩
  obtain⟨d,L,T,Y,d4⟩:=vZ (R:=R) (N:=N) (a:=s.natAbs) (b:=b) (c:=Nat.gcd s.natAbs b) (s:=s) (by omega) D hb C (A0i _ _) 128 F s.natAbs (b%s.natAbs) (by omega) (by
   rw[Ayl (by omega)]
   have:=Ay1 D (show b<18446744073709551616 by omega);exact this) (by rw[Ayl (by omega)];omega) (by rw[Ayl (by omega)])
  refine⟨d,k d L T Y,fun K=>?_⟩
  rw[start,<-d4 K]
  conv=>lhs;rw[show(C3 N K s (b:Int) (s.natAbs:Int) N)=C3 N K s (b:Int) (s.natAbs:Int) (F+1) by rw[<-hF]]
  rw[C3];unfold Lm
  rw[show((s.natAbs:Int) != 0)=true by rw[bne_iff_ne];omega,ct,ti (by omega),cf,TC]
def Aoo{S:List Nat}{g:Nat}(D:Al S)(G:val S=g)(C:(Ao g).length=1){f:Int->O R}:Aq .u32 (Ae S) f=f (g:Int):=by
 have I:=(Bi D).2
 rw[G,C]at I
 have k:=Aa4 D
 rw[G,C]at k
 obtain⟨a,L⟩:∃ a,Ao g=[a]:=by
  match h:Ao g,C with
  |[a],_=>exact⟨a,rfl⟩
 have T:a=g:=by have:=Ak g;rw[L]at this;simpa[val]using this
 rw[L,T]at k
 match S,I,k with
|x::r,_,k =>
  simp at k;subst k
  rw[Z5,Av]
def FB{N:Nat}{neg:Bool}{s:LS}{l:List Nat}{n:Nat}{o t o':Bool}(hn:n=l.length)(hs:Al s.l)(hl:Al l)(I:val l≠0)(C:fit (2*(s.l.length+l.length)+8) N):
  ∃ d:RatD,d.can (mkRat (Ax neg s) (val l))/\∀ K:LA->O R,Rh N (J5 neg s) o (Ae l) n t o' K=K d.av:=by
 obtain⟨m1,m2,m3⟩:=rZ (Ax neg s) (val l) I
 have L:=Cu neg s
 have ls:=(Bi hs).2
 have ll:=(Bi hl).2
 generalize hz:Ax neg s=z at *
 have start:∀ K:LA->O R,Rh N (J5 neg s) o (Ae l) n t o' K=cond ((((Ao z.natAbs).length:Nat):Int)==(0:Int)) (K [.bool false,.nsl,.imm [.int .u32 1] 1 1 false false]) (ZY N (Ae (Ao z.natAbs)) (Ao z.natAbs).length false true (Ae (Ao (val l))) (Ao (val l)).length false true fun f g=>cond (((f:Int) != (1:Int))==false) (cond (Ac (0:Int) f) (Aq .u32 g fun y=>cond (cond false true (y != (1:Int))) (F6 N (Ae (Ao z.natAbs)) (Ao z.natAbs).length false true (take (f*1) g) f false true fun p ae af z2 ag=>F6 N (Ae (Ao (val l))) (Ao (val l)).length false true (take (f*1) g) f false true fun q ah ai aa aj=>K [.bool (decide (z<0)),.imm (take (p*1) z2) p 1 false false,.imm (take (q*1) aa) q 1 false false]) (K [.bool (decide (z<0)),.imm (Ae (Ao z.natAbs)) (Ao z.natAbs).length 1 false false,.imm (Ae (Ao (val l))) (Ao (val l)).length 1 false false])) none) (F6 N (Ae (Ao z.natAbs)) (Ao z.natAbs).length false true (take (f*1) g) f false true fun r ak al ab am=>F6 N (Ae (Ao (val l))) (Ao (val l)).length false true (take (f*1) g) f false true fun s an ao ac ap=>K [.bool (decide (z<0)),.imm (take (r*1) ab) r 1 false false,.imm (take (s*1) ac) s 1 false false])):=by
  intro K
  rw[XS];unfold ZZ
  have tk:∀ v:Nat,take ((Ao v).length*1) (Ae (Ao v))=Ae (Ao v):=fun v=>Eu (Ad _) (Ak v)
  rw[Tl,Pp,show beq (List.length (J5 neg s)) 2=true by rfl,ct,Aji,Ae7 (s1:=.of s.l false o) hs (C.le (by simp[LS.l];omega)),show Ax neg (.of s.l false o)=z by rw[<-hz];rfl,VH hn hl (C.le (by omega)),tk,tk]
 by_cases h0:z=0
 ·refine⟨⟨false,.nil,.of [1] false false⟩,?_,fun K=>?_⟩
  ·rw[h0];simp only[Rat.zero_mkRat]
   exact⟨rfl,rfl,Zr.symm⟩
  ·rw[start,h0];rfl
 ·have T:z.natAbs≠0:=by omega
  have D:(Ao z.natAbs).length≠0:=fun h=>T (Bl.1 h)
  have hg0:0<Nat.gcd z.natAbs (val l):=A02 _ (by omega)
  have lz:(Ao z.natAbs).length<=s.l.length:=by rw[L];exact ls
  obtain⟨G,g1,Y,g3⟩:=Amf (R:=R) (N:=N) (a:=Ao z.natAbs) (b:=Ao (val l)) (t:=false) (o:=true) (t':=false) (o':=true) rfl rfl (Ad _) (Ad _) (C.le (by omega))
  rw[Ak,Ak]at Y g3
  have lg:(Ao (Nat.gcd z.natAbs (val l))).length<=l.length:=Ay7 (Br (Nat.gcd_le_right _ (by omega))) ll
  obtain⟨Q1,R1,a1,a2,a3,a4,a5⟩:=TE (R:=R) (N:=N) (a:=Ao z.natAbs) (b:=Ao (Nat.gcd z.natAbs (val l))) (t:=false) (o:=true) (t':=false) (o':=true) rfl rfl (Ad _) (Ad _) (by rw[Ak];omega) (C.le (by omega))
  obtain⟨Q2,R2,b1,b2,b3,b4,b5⟩:=TE (R:=R) (N:=N) (a:=Ao (val l)) (b:=Ao (Nat.gcd z.natAbs (val l))) (t:=false) (o:=true) (t':=false) (o':=true) rfl rfl (Ad _) (Ad _) (by rw[Ak];omega) (C.le (by omega))
  rw[Ak,Ak]at a2 a5 b2 b5
  have hn2:decide (z<0)=decide ((mkRat z (val l)).num<0):=by congr 1;exact propext m2.symm
  refine⟨⟨decide (z<0),.of (Ao (z.natAbs/Nat.gcd z.natAbs (val l))) false false,.of (Ao (val l/Nat.gcd z.natAbs (val l))) false false⟩,⟨hn2,by rw[m1];rfl,by rw[m3];rfl⟩,fun K=>?_⟩
  rw[start,ti D,cf,g3,Eu g1 Y]
  by_cases k:(Ao (Nat.gcd z.natAbs (val l))).length=1
  ·rw[show(((((Ao (Nat.gcd z.natAbs (val l))).length:Nat):Int) != (1:Int))==false)=true by rw[k];rfl,ct,show Ac 0 (Ao (Nat.gcd z.natAbs (val l))).length=true by rw[k];rfl,ct,Aoo g1 Y k]
   by_cases he:Nat.gcd z.natAbs (val l)=1
   ·rw[he,show(cond false true (((1:Nat):Int) != 1))=false by rfl,cf,A45,A45];rfl
   ·rw[show(cond false true (((Nat.gcd z.natAbs (val l):Nat):Int) != 1))=true by(show(((Nat.gcd z.natAbs (val l):Nat):Int) != 1)=true;rw[bne_iff_ne];omega),ct,a5,b5,Eu a1 a2,Eu b1 b2];rfl
  ·rw[show(((((Ao (Nat.gcd z.natAbs (val l))).length:Nat):Int) != (1:Int))==false)=false by(rw[show((((Ao (Nat.gcd z.natAbs (val l))).length:Nat):Int) != (1:Int))=true by rw[bne_iff_ne];omega];rfl),cf,a5,b5,Eu a1 a2,Eu b1 b2];rfl
def CN{N:Nat}{x:RatD}{o:Bool}(D:x.ok)(k:fit (4*x.m+10) N):∃ d:RatD,d.can x.q/\∀ K:LA->O R,Zb N x.av o K=K d.av:=by
 have Y:=k.1
 rcases I9 (R:=R) (N:=N) (o:=o) D (k.le (by omega))with⟨n,d,n1,n2,G,d2,e,hK⟩|hK
 ·obtain⟨c,c1,C⟩:=F' (R:=R) (N:=N) (s:=n) (b:=d) (by omega) G (by omega) (by omega)
  rw[e]at c1
  refine⟨c,c1,fun K=>?_⟩
  rw[SD];unfold dM
  rw[J6,ct,Ei,hK,ct,C];rfl
 ·obtain⟨neg,s,l,o1,o2,p1,p2,I,p4,p5,L,T⟩:=Ob (R:=R) (N:=N) (o:=o) D (k.le (by omega))
  obtain⟨c,c1,C⟩:=FB (R:=R) (N:=N) (neg:=neg) (s:=s) (l:=l) (n:=l.length) (o:=o1) (t:=false) (o':=o2) rfl p1 p2 I (k.le (by omega))
  rw[L]at c1
  refine⟨c,c1,fun K=>?_⟩
  rw[SD];unfold dM
  rw[J6,ct,Ei,hK,cf,ct,T,C];rfl
def Zs(x y:Rat):Int:=if x<y then -1 else if y<x then 1 else 0
def Agx{d:Nat}(h:0<d):(0:Rat)<(d:Rat):=A2i.2 h
def Agy{a c:Int}{b d:Nat}(k:0<b)(C:0<d):mkRat a b<mkRat c d↔a*d<c*b:=by
 rw[A2c,A2c,Rat.div_lt_iff (Agx k)]
 have e:(c:Rat)/(d:Rat)*(b:Rat)=(c*b:Rat)/(d:Rat):=by rw[A1j,A1j,A4f,A4f,Rat.mul_comm (d:Rat)⁻¹]
 rw[e,Rat.lt_div_iff (Agx C)]
 have e1:(a:Rat)*(d:Rat)=((a*d:Int):Rat):=by rw[A2h];rfl
 have D:(c:Rat)*(b:Rat)=((c*b:Int):Rat):=by rw[A2h];rfl
 rw[e1,D,A09]
def Agz{a c:Int}{b d:Nat}(k:0<b)(C:0<d):Zs (mkRat a b) (mkRat c d)=fO (a*d) (c*b):=by
 unfold Zs fO
 by_cases h:a*d<c*b
 ·rw[if_pos h,if_pos ((Agy k C).2 h)]
 ·rw[if_neg h,if_neg (fun hh=>h ((Agy k C).1 hh))]
  by_cases D:c*b<a*d
  ·rw[if_pos D,if_pos ((Agy C k).2 D)]
  ·rw[if_neg D,if_neg (fun hh=>D ((Agy C k).1 hh))]
def Ab8{N:Nat}{a b:Int}{K:Int->O R}:Qe N a b K=K (fO a b):=by
 rw[Yc];unfold Uy
 simp only[S6];unfold S5
 rw[show(a != a)=false by simp,show(b != b)=false by simp]
 dsimp only
 rw[cf,cf]
 unfold fO
 by_cases h:a<b
 ·rw[decide_eq_true h,ct,if_pos h]
 ·rw[decide_eq_false h,cf,if_neg h]
  by_cases k:b<a
  ·rw[decide_eq_true (show a>b from k),ct,if_pos k]
  ·rw[decide_eq_false (show ¬ a>b from k),cf,if_neg k]
def tt{N:Nat}{a b:Int}{K:Int->O R}:M5 N a b K=K (fO a b):=by
 rw[Tt];unfold Qv
 simp only[Yd];unfold Uz
 rw[show(a != a)=false by simp,show(b != b)=false by simp]
 dsimp only
 rw[cf,cf]
 unfold fO
 by_cases h:a<b
 ·rw[decide_eq_true h,ct,if_pos h]
 ·rw[decide_eq_false h,cf,if_neg h]
  by_cases k:b<a
  ·rw[decide_eq_true (show a>b from k),ct,if_pos k]
  ·rw[decide_eq_false (show ¬ a>b from k),cf,if_neg k]
def Aml{p q:Rat}(h:p.num.sign<q.num.sign):p<q:=by
 rw[Rat.lt_iff]
 have D:=p.den_pos;have hq:=q.den_pos
 rcases A1d p.num 0 with k|k|k
 ·rcases Int.lt_or_le q.num 0 with C|C
  ·rw[Ayn k,Ayn C]at h;omega
  ·have x1:p.num*q.den<0:=Int.mul_neg_of_neg_of_pos k (by omega)
   have x2:0<=q.num*p.den:=A2w C (by omega)
   omega
 ·rw[k]at h ⊢
  have:0<q.num:=by simpa using h
  have x2:0<q.num*p.den:=Int.mul_pos this (by omega)
  rw[Int.zero_mul];exact x2
 ·rw[Aze k]at h
  have:=Int.sign_trichotomy q.num
  omega
def M_{a b:Int}(C:-2147483648<a/\a<2147483648)(D:-2147483648<b/\b<2147483648):-4611686018427387904<a*b/\a*b<4611686018427387904:=by
 have k:a.natAbs*b.natAbs<=2147483647*2147483647:=Azk (by omega) (by omega)
 rw[<-A0c]at k
 omega
def YD{N:Nat}{x y:RatD}{o o':Bool}{K:Int->O R}(L:x.ok)(I:y.ok)(k:fit (4*(x.m+y.m)+10) N):Nw N x.av o y.av o' K=K (Zs x.q y.q):=by
 have h1:=k.1
 rw[SH];unfold EB
 rw[J6,ct,Ei,I8 L (k.le (by omega)),J6,ct,Ei,I8 I (k.le (by omega))]
 by_cases hs:x.q.num.sign=y.q.num.sign
 ·rw[show(x.q.num.sign != y.q.num.sign)=false by simp[hs],cf,ct]
  have gen:P0 N K o x.av o' y.av=K (Zs x.q y.q):=by
   obtain⟨n1,s1,l1,a1,b1,p1,p2,p3,p4,p5,p6,p7⟩:=Ob (R:=R) (N:=N) (o:=o) L (k.le (by omega))
   obtain⟨n2,s2,l2,a2,b2,Y,q2,q3,q4,q5,q6,q7⟩:=Ob (R:=R) (N:=N) (o:=o') I (k.le (by omega))
   obtain⟨S1,t1,t2,t3⟩:=IQ (R:=R) (N:=N) (n1:=n1) (n2:=false) (s1:=s1) (s2:=.of l2 false b2) (o1:=a1) (o2:=(b2||false)) p1 q2 (k.le (show s1.l.length+l2.length<=_ by omega))
   obtain⟨S2,u1,u2,u3⟩:=IQ (R:=R) (N:=N) (n1:=n2) (n2:=false) (s1:=s2) (s2:=.of l1 false b1) (o1:=a2) (o2:=(b1||false)) Y p2 (k.le (show s2.l.length+l1.length<=_ by omega))
   have v1:Ax false (.of l2 false b2)=(val l2:Int):=rfl
   have v2:Ax false (.of l1 false b1)=(val l1:Int):=rfl
   rw[v1]at t2 t3;rw[v2]at u2 u3
   have l1':(Ao (Ax n1 s1*(val l2:Int)).natAbs).length<=x.m+max y.m 1:=Ay7 (C1 (by
    rw[A0c,Cu,Ax8,Ay0]
    exact Ay1 (Ax9 (Bc p1) (Aym (by omega) p4)) (Ax9 (Bc q2) (Aym (by omega) q5)))) (Axo _)
   have l2':(Ao (Ax n2 s2*(val l1:Int)).natAbs).length<=y.m+max x.m 1:=Ay7 (C1 (by
    rw[A0c,Cu,Ax8,Ay0]
    exact Ay1 (Ax9 (Bc Y) (Aym (by omega) q4)) (Ax9 (Bc p2) (Aym (by omega) p5)))) (Axo _)
   unfold P0
   rw[J6,ct,Ei,p7,YC,ct,J6,ct,Ei,q7,YC,ct,aR,ct,tj,Aji,t3,aR,ct,tj,Aji,u3,Eu t1 t2,Eu u1 u2,Aji,Aji,tp (s1:=.of (Ao (Ax n1 s1*(val l2:Int)).natAbs) false true) (s2:=.of (Ao (Ax n2 s2*(val l1:Int)).natAbs) false true) (Ad _) (Ad _) (k.le (show(Ao (Ax n1 s1*(val l2:Int)).natAbs).length+(Ao (Ax n2 s2*(val l1:Int)).natAbs).length<=_ by omega)),Jk,Jk,<-p6,<-q6,Agz (by omega) (by omega)]
  rcases I9 (R:=R) (N:=N) (o:=o) L (k.le (by omega))with⟨n,d,n1,n2,d1,d2,e,hK⟩|hK
  ·rcases I9 (R:=R) (N:=N) (o:=o') I (k.le (by omega))with⟨n',d',C,D,G,T,e',hK'⟩|hK'
   ·have b1:=M_ (a:=n) (b:=(d':Int)) ⟨n1,n2⟩ (by omega)
    have b2:=M_ (a:=n') (b:=(d:Int)) ⟨C,D⟩ (by omega)
    rw[hK,ct,hK',show((true:Bool)==true)=true by rfl,ct,Aa3,ct,tt,i64 (by omega),i64 (by omega),<-e,<-e',Agz d1 G]
   ·rw[hK,ct,hK',show((true:Bool)==true)=true by rfl,ct,Aa3,cf,gen]
  ·rcases I9 (R:=R) (N:=N) (o:=o') I (k.le (by omega))with⟨n',d',C,D,G,T,e',hK'⟩|hK'
   ·rw[hK,ct,hK',show((false:Bool)==true)=false by rfl,cf,gen]
   ·rw[hK,ct,hK',show((false:Bool)==true)=false by rfl,cf,gen]
 ·rw[show(x.q.num.sign != y.q.num.sign)=true by simp[hs],ct,Ab8]
  congr 1
  unfold fO Zs
  by_cases h:x.q.num.sign<y.q.num.sign
  ·rw[if_pos h,if_pos (Aml h)]
  ·have h2:y.q.num.sign<x.q.num.sign:=by omega
   have:=Aml h2
   rw[if_neg h,if_pos h2,if_neg (fun hh=>absurd (A2r this) (A21.2 hh)),if_pos this]
def Ab9{q:Rat}(h:q.num.sign=0):q=0:=A1b.1 (A1l.1 h)
def J3{a b:Int}{k l:Nat}(C:a.natAbs<4294967296 ^ k)(D:b.natAbs<4294967296 ^ l):(a*b).natAbs<4294967296 ^ (k+l):=by rw[A0c,Ay0];exact Ay1 C D
def fQ{a b:Int}{k:Nat}(C:a.natAbs<4294967296 ^ k)(D:b.natAbs<4294967296 ^ k):(a+b).natAbs<4294967296 ^ (k+1):=by rw[Ax3];omega
def Hp{k l:Nat}(h:k<=l):4294967296 ^ k<=4294967296 ^ l:=Aym (by omega) h
def Amm{v k:Nat}(h:(Ao v).length<=k):v<4294967296 ^ k:=by
 have:=Bc (Ad v);rw[Ak]at this
 exact Ax9 this (Hp h)
def Aca(p r:Int)(d:Nat)(k:d≠0):mkRat (p+r) d=mkRat p d+mkRat r d:=by
 rw[A2l _ _ k k,<-Int.add_mul]
 exact(Rat.mkRat_mul_right k).symm
def Aop{N:Nat}{x y:RatD}{o o':Bool}(hx:x.ok)(hy:y.ok)(C:fit (8*(x.m+y.m)+40) N):∃ d:RatD,d.can (x.q+y.q)/\∀ K:LA->O R,HS N K o x.av o' y.av=K d.av:=by
 obtain⟨n1,s1,l1,a1,b1,p1,p2,G,p4,p5,T,Y⟩:=Ob (R:=R) (N:=N) (o:=o) hx (C.le (by omega))
 obtain⟨n2,s2,l2,a2,b2,I,D,q3,q4,q5,q6,q7⟩:=Ob (R:=R) (N:=N) (o:=o') hy (C.le (by omega))
 have zl1:(Ax n1 s1).natAbs<4294967296 ^ x.m:=by rw[Cu];exact Ax9 (Bc p1) (Hp p4)
 have zl2:(Ax n2 s2).natAbs<4294967296 ^ y.m:=by rw[Cu];exact Ax9 (Bc I) (Hp q4)
 have dl1:((val l1:Nat):Int).natAbs<4294967296 ^ (x.m+1):=by rw[Ax8];exact Ax9 (Bc p2) (Hp (by omega))
 have Asj:((val l2:Nat):Int).natAbs<4294967296 ^ (y.m+1):=by rw[Ax8];exact Ax9 (Bc D) (Hp (by omega))
 by_cases he:val l1=val l2
 ·obtain⟨S,t1,t2,t3⟩:=vY (R:=R) (N:=N) (n1:=n1) (n2:=n2) (s1:=s1) (s2:=s2) (o1:=a1) (o2:=a2) p1 I (C.le (by omega))
  have lz:(Ao (Ax n1 s1+Ax n2 s2).natAbs).length<=x.m+y.m+1:=C1 (fQ (k:=x.m+y.m) (Ax9 zl1 (Hp (by omega))) (Ax9 zl2 (Hp (by omega))))
  obtain⟨c,c1,L⟩:=FB (R:=R) (N:=N) (neg:=decide (Ax n1 s1+Ax n2 s2<0)) (s:=.of (Ao (Ax n1 s1+Ax n2 s2).natAbs) false true) (l:=l1) (n:=l1.length) (o:=true) (t:=false) (o':=b1) rfl (Ad _) p2 G (C.le (show 2*((Ao (Ax n1 s1+Ax n2 s2).natAbs).length+l1.length)+8<=_ by omega))
  rw[Jk,Aca _ _ _ G,T]at c1
  rw[show mkRat (Ax n2 s2) (val l1)=y.q by rw[he,q6]]at c1
  refine⟨c,c1,fun K=>?_⟩
  unfold HS
  rw[J6,ct,Ei,Y,YC,ct,J6,ct,Ei,q7,YC,ct,Rp rfl rfl p2 D (C.le (by omega)),he,Z9,show((0:Int)==0)=true by rfl,ct,aR,ct,aR,ct,tj,tj,t3,Eu t1 t2,Aji,L];rfl
 ·obtain⟨S1,t1,t2,t3⟩:=IQ (R:=R) (N:=N) (n1:=n1) (n2:=false) (s1:=s1) (s2:=.of l2 false b2) (o1:=a1) (o2:=(b2||false)) p1 D (C.le (show s1.l.length+l2.length<=_ by omega))
  obtain⟨S2,u1,u2,u3⟩:=IQ (R:=R) (N:=N) (n1:=n2) (n2:=false) (s1:=s2) (s2:=.of l1 false b1) (o1:=a2) (o2:=(b1||false)) I p2 (C.le (show s2.l.length+l1.length<=_ by omega))
  rw[show Ax false (.of l2 false b2)=(val l2:Int) by rfl]at t2 t3
  rw[show Ax false (.of l1 false b1)=(val l1:Int) by rfl]at u2 u3
  have z1:=J3 zl1 Asj
  have z2:=J3 zl2 dl1
  have L1:=C1 z1
  have L2:=C1 z2
  obtain⟨S3,w1,w2,w3⟩:=vY (R:=R) (N:=N) (n1:=decide (Ax n1 s1*(val l2:Int)<0)) (n2:=decide (Ax n2 s2*(val l1:Int)<0)) (s1:=.of (Ao (Ax n1 s1*(val l2:Int)).natAbs) false true) (s2:=.of (Ao (Ax n2 s2*(val l1:Int)).natAbs) false true) (o1:=true) (o2:=true) (Ad _) (Ad _) (C.le (show(Ao (Ax n1 s1*(val l2:Int)).natAbs).length+(Ao (Ax n2 s2*(val l1:Int)).natAbs).length+1<=_ by omega))
  rw[Jk,Jk]at w2 w3
  obtain⟨S4,v1,v2,v3⟩:=TB (R:=R) (N:=N) (a:=l1) (b:=l2) (t:=false) (o:=b1) (t':=false) (o':=b2) rfl rfl p2 D (C.le (by omega))
  have z3:=fQ (k:=x.m+y.m+1) (Ax9 z1 (Hp (by omega))) (Ax9 z2 (Hp (by omega)))
  have L3:=C1 z3
  have z4:val l1*val l2<4294967296 ^ (x.m+1+(y.m+1)):=by
   have:=J3 dl1 Asj;rw[A0c,Ax8,Ax8]at this;exact this
  have L4:=C1 z4
  obtain⟨c,c1,L⟩:=FB (R:=R) (N:=N) (neg:=decide (Ax n1 s1*(val l2:Int)+Ax n2 s2*(val l1:Int)<0)) (s:=.of (Ao (Ax n1 s1*(val l2:Int)+Ax n2 s2*(val l1:Int)).natAbs) false true) (l:=Ao (val l1*val l2)) (n:=(Ao (val l1*val l2)).length) (o:=true) (t:=false) (o':=true) rfl (Ad _) (Ad _) (by rw[Ak];exact A2g G q3) (C.le (show 2*((Ao (Ax n1 s1*(val l2:Int)+Ax n2 s2*(val l1:Int)).natAbs).length+(Ao (val l1*val l2)).length)+8<=_ by omega))
  rw[Jk,Ak,<-A2l _ _ G q3,T,q6]at c1
  refine⟨c,c1,fun K=>?_⟩
  unfold HS
  have hc:(Hv (val l1) (val l2)==0)=false:=by
   rw[beq_eq_false_iff_ne];unfold Hv;split
   ·omega
   ·rw[if_pos (by omega)];omega
  rw[J6,ct,Ei,Y,YC,ct,J6,ct,Ei,q7,YC,ct,Rp rfl rfl p2 D (C.le (by omega)),hc,cf,aR,ct,tj,Aji,t3,aR,ct,tj,Aji,u3,Eu t1 t2,Eu u1 u2,Aji,Aji,w3,v3,Eu w1 w2,Eu v1 v2,Aji,L];rfl
def v_{N:Nat}{x y:RatD}{o o':Bool}(D:x.ok)(G:y.ok)(k:fit (8*(x.m+y.m)+40) N):∃ d:RatD,d.can (x.q+y.q)/\∀ K:LA->O R,Sz N x.av o y.av o' K=K d.av:=by
 have h1:=k.1
 by_cases hz:x.q.num.sign=0
 ·obtain⟨c,c1,C⟩:=CN (R:=R) (N:=N) (o:=o') G (k.le (by omega))
  refine⟨c,by rw[Ab9 hz,A3r];exact c1,fun K=>?_⟩
  rw[LV];unfold VA
  rw[J6,ct,Ei,I8 D (k.le (by omega)),hz,show((0:Int)==0)=true by rfl,ct,J6,ct,Ei,C];rfl
 ·have I:(x.q.num.sign==0)=false:=by rw[beq_eq_false_iff_ne];exact hz
  by_cases hw:y.q.num.sign=0
  ·obtain⟨c,c1,C⟩:=CN (R:=R) (N:=N) (o:=o) D (k.le (by omega))
   refine⟨c,by rw[Ab9 hw,A3q];exact c1,fun K=>?_⟩
   rw[LV];unfold VA
   rw[J6,ct,Ei,I8 D (k.le (by omega)),I,cf,J6,ct,Ei,I8 G (k.le (by omega)),hw,show((0:Int)==0)=true by rfl,ct,ct,C];rfl
  ·have hwb:(y.q.num.sign==0)=false:=by rw[beq_eq_false_iff_ne];exact hw
   have start:∀ K:LA->O R,Sz N x.av o y.av o' K=Hc N x.av o (fun g e aw=>Hc N y.av o' fun i f ax=>cond (aw==true) (Ri N K g e i f o x.av o' y.av (cond true ax false)) (Ri N K g e i f o x.av o' y.av false)):=by
    intro K
    rw[LV];unfold VA
    rw[J6,ct,Ei,I8 D (k.le (by omega)),I,cf,J6,ct,Ei,I8 G (k.le (by omega)),hwb,cf,ct];rfl
   have gen:∃ d:RatD,d.can (x.q+y.q)/\∀(K:LA->O R)(g e i f:Int),Ri N K g e i f o x.av o' y.av false=K d.av:=by
    obtain⟨c,c1,C⟩:=Aop (R:=R) (N:=N) (o:=o) (o':=o') D G k
    exact⟨c,c1,fun K g e i f=>by unfold Ri LU;rw[cf,C]⟩
   rcases I9 (R:=R) (N:=N) (o:=o) D (k.le (by omega))with⟨n,d,n1,n2,d1,d2,e,hK⟩|hK
   ·rcases I9 (R:=R) (N:=N) (o:=o') G (k.le (by omega))with⟨n',d',L,T,Y,d2',e',hK'⟩|hK'
    ·have b1:=M_ (a:=n) (b:=(d':Int)) ⟨n1,n2⟩ (by omega)
     have b2:=M_ (a:=n') (b:=(d:Int)) ⟨L,T⟩ (by omega)
     have b3:=M_ (a:=(d:Int)) (b:=(d':Int)) (by omega) (by omega)
     have b4:((d*d':Nat):Int)=(d:Int)*(d':Int):=by simp
     obtain⟨c,c1,C⟩:=F' (R:=R) (N:=N) (s:=n*d'+n'*d) (b:=d*d') (by omega) (A29 d1 Y) (by omega) (by omega)
     rw[<-A2l _ _ (by omega) (by omega),e,e']at c1
     refine⟨c,c1,fun K=>?_⟩
     rw[start,hK,hK',show((true:Bool)==true)=true by rfl,ct,Aa3]
     unfold Ri LU
     rw[ct,i64 (a:=n*(d':Int)) (by omega),i64 (a:=n'*(d:Int)) (by omega),i64 (by omega),i64 (by omega),<-b4,C];rfl
    ·obtain⟨c,c1,C⟩:=gen
     refine⟨c,c1,fun K=>?_⟩
     rw[start,hK,hK',show((true:Bool)==true)=true by rfl,ct,Aa3,C]
   ·obtain⟨c,c1,C⟩:=gen
    refine⟨c,c1,fun K=>?_⟩
    rw[start,hK]
    rcases I9 (R:=R) (N:=N) (o:=o') G (k.le (by omega))with⟨n',d',L,T,Y,d2',e',hK'⟩|hK'
    ·rw[hK',show((false:Bool)==true)=false by rfl,cf,C]
    ·rw[hK',show((false:Bool)==true)=false by rfl,cf,C]
def Acb(n:Bool)(s:LS):Ax (!n) s=-Ax n s:=by unfold Ax;cases n<;>simp
def va{N:Nat}{x y:RatD}{o o':Bool}(k:x.ok)(C:y.ok)(D:fit (8*(x.m+y.m)+40) N):∃ d:RatD,d.can (x.q - y.q)/\∀ K:LA->O R,BQ N x.av o y.av o' K=K d.av:=by
 obtain⟨c,c1,G⟩:=v_ (R:=R) (N:=N) (x:=⟨x.neg,.of x.ns.l false o,.of x.ds.l false o⟩) (y:=⟨!y.neg,.of y.ns.l false o',.of y.ds.l false o'⟩) (o:=(o||(o||false))) (o':=(o'||(o'||false))) k C D
 have e1:RatD.q ⟨x.neg,.of x.ns.l false o,.of x.ds.l false o⟩=x.q:=rfl
 have I:RatD.q ⟨!y.neg,.of y.ns.l false o',.of y.ds.l false o'⟩=-y.q:=by
  show mkRat (Ax (!y.neg) (.of y.ns.l false o')) (val y.ds.l)=_
  rw[Acb,<-Rat.neg_mkRat];rfl
 rw[e1,I,<-A1a]at c1
 refine⟨c,c1,fun K=>?_⟩
 rw[pp];unfold yL
 rw[Arc,Ajg,mj,As2,ct,Arc,Ajg,mj,As2,ct]
 exact(G _).trans rfl
def Aoq{N:Nat}{x y:RatD}{o o':Bool}(G:x.ok)(I:y.ok)(k:fit (8*(x.m+y.m)+40) N):∃ d:RatD,d.can (x.q*y.q)/\∀ K:LA->O R,HP N K o x.av o' y.av=K d.av:=by
 obtain⟨n1,s1,l1,a1,b1,p1,p2,L,T,p5,Y,p7⟩:=Ob (R:=R) (N:=N) (o:=o) G (k.le (by omega))
 obtain⟨n2,s2,l2,a2,b2,C,D,q3,q4,q5,q6,q7⟩:=Ob (R:=R) (N:=N) (o:=o') I (k.le (by omega))
 have zl1:(Ax n1 s1).natAbs<4294967296 ^ x.m:=by rw[Cu];exact Ax9 (Bc p1) (Hp T)
 have zl2:(Ax n2 s2).natAbs<4294967296 ^ y.m:=by rw[Cu];exact Ax9 (Bc C) (Hp q4)
 have dl1:((val l1:Nat):Int).natAbs<4294967296 ^ (x.m+1):=by rw[Ax8];exact Ax9 (Bc p2) (Hp (by omega))
 have Asj:((val l2:Nat):Int).natAbs<4294967296 ^ (y.m+1):=by rw[Ax8];exact Ax9 (Bc D) (Hp (by omega))
 obtain⟨S1,t1,t2,t3⟩:=IQ (R:=R) (N:=N) (n1:=n1) (n2:=n2) (s1:=s1) (s2:=s2) (o1:=a1) (o2:=a2) p1 C (k.le (by omega))
 have L1:=C1 (J3 zl1 zl2)
 obtain⟨S4,v1,v2,v3⟩:=TB (R:=R) (N:=N) (a:=l1) (b:=l2) (t:=false) (o:=b1) (t':=false) (o':=b2) rfl rfl p2 D (k.le (by omega))
 have z4:val l1*val l2<4294967296 ^ (x.m+1+(y.m+1)):=by
  have:=J3 dl1 Asj;rw[A0c,Ax8,Ax8]at this;exact this
 have L4:=C1 z4
 obtain⟨c,c1,c2⟩:=FB (R:=R) (N:=N) (neg:=decide (Ax n1 s1*Ax n2 s2<0)) (s:=.of (Ao (Ax n1 s1*Ax n2 s2).natAbs) false true) (l:=Ao (val l1*val l2)) (n:=(Ao (val l1*val l2)).length) (o:=true) (t:=false) (o':=true) rfl (Ad _) (Ad _) (by rw[Ak];exact A2g L q3) (k.le (show 2*((Ao (Ax n1 s1*Ax n2 s2).natAbs).length+(Ao (val l1*val l2)).length)+8<=_ by omega))
 rw[Jk,Ak,<-A4a,Y,q6]at c1
 refine⟨c,c1,fun K=>?_⟩
 unfold HP
 rw[J6,ct,Ei,p7,YC,ct,J6,ct,Ei,q7,YC,ct,aR,ct,aR,ct,tj,tj,t3,v3,Eu t1 t2,Eu v1 v2,Aji,c2];rfl
def jC{N:Nat}{x y:RatD}{o o':Bool}(Y:x.ok)(I:y.ok)(k:fit (8*(x.m+y.m)+40) N):∃ d:RatD,d.can (x.q*y.q)/\∀ K:LA->O R,Pm N x.av o y.av o' K=K d.av:=by
 have h1:=k.1
 obtain⟨g,g1,L⟩:=Aoq (R:=R) (N:=N) (o:=o) (o':=o') Y I k
 rcases I9 (R:=R) (N:=N) (o:=o) Y (k.le (by omega))with⟨n,d,n1,n2,d1,d2,e,hK⟩|hK
 ·rcases I9 (R:=R) (N:=N) (o:=o') I (k.le (by omega))with⟨n',d',C,D,G,T,e',hK'⟩|hK'
  ·have b1:=M_ (a:=n) (b:=n') ⟨n1,n2⟩ ⟨C,D⟩
   have b3:=M_ (a:=(d:Int)) (b:=(d':Int)) (by omega) (by omega)
   have b4:((d*d':Nat):Int)=(d:Int)*(d':Int):=by simp
   obtain⟨c,c1,c2⟩:=F' (R:=R) (N:=N) (s:=n*n') (b:=d*d') (by omega) (A29 d1 G) (by omega) (by omega)
   rw[<-A4a,e,e']at c1
   refine⟨c,c1,fun K=>?_⟩
   rw[LQ];unfold UZ
   rw[J6,ct,Ei,hK,J6,ct,Ei,hK',show((true:Bool)==true)=true by rfl,ct,Aa3,ct,i64 (by omega),i64 (by omega),<-b4,c2];rfl
  ·refine⟨g,g1,fun K=>?_⟩
   rw[LQ];unfold UZ
   rw[J6,ct,Ei,hK,J6,ct,Ei,hK',show((true:Bool)==true)=true by rfl,ct,Aa3,cf,L]
 ·refine⟨g,g1,fun K=>?_⟩
  rw[LQ];unfold UZ
  rcases I9 (R:=R) (N:=N) (o:=o') I (k.le (by omega))with⟨n',d',C,D,G,T,e',hK'⟩|hK'
  ·rw[J6,ct,Ei,hK,J6,ct,Ei,hK',show((false:Bool)==true)=false by rfl,cf,L]
  ·rw[J6,ct,Ei,hK,J6,ct,Ei,hK',show((false:Bool)==true)=false by rfl,cf,L]
def ye{a b:Rat}:Zs a b<=0↔a<=b:=by
 unfold Zs
 by_cases h:a<b
 ·rw[if_pos h];exact⟨fun _=>A2r h,fun _=>by omega⟩
 ·rw[if_neg h]
  by_cases k:b<a
  ·rw[if_pos k];exact⟨fun hh=>by omega,fun hh=>absurd hh (A21.2 k)⟩
  ·rw[if_neg k];exact⟨fun _=>A4m.1 k,fun _=>by omega⟩
def Gu(z:Int):LA:=J5 (decide (z<0)) (.of (Ao z.natAbs) false false)
def fS(z:Int)(K:LA->O R):(cond ((beq 0 0)&&((beq (List.length (Gu z)) 2)&&(beq 2 2))) (cond (ble 2 (List.length (Gu z))) (K (take 2 (Gu z))) none) none)=K (Gu z):=rfl
def Aw8(z:Int):take 2 (Gu z)=Gu z:=rfl
def Avf(z:Int):beq (List.length (Gu z)) 2=true:=rfl
def Anx(v:Nat):take ((Ao v).length*1) (Ae (Ao v))=Ae (Ao v):=Eu (Ad _) (Ak v)
def Hq{N:Nat}{neg:Bool}{l:List Nat}{n:Nat}{t o:Bool}{K:LA->O R}(hn:n=l.length)(k:Al l)(C:fit l.length N):Hk N neg (Ae l) n t o K=K (Gu (if neg then -(val l:Int)else(val l:Int))):=by
 obtain⟨c1,D⟩:=AB (z:=if neg then -(val l:Int)else(val l:Int)) (c:=neg) (m:=val l) rfl
 rw[dS];unfold iM
 rw[Dq hn k C,Anx]
 unfold Gu
 rw[<-c1,D]
 cases neg
 ·rfl
 ·rw[show((true:Bool)==true)=true by rfl,ct,Aa3];simp[J5,LS.av]
def We{N:Nat}{v:Int}{K:LA->O R}(C:-9223372036854775808<=v/\v<=9223372036854775807)(hN:2000<=N):Ik N v K=K (Gu v):=by
 have k:v.natAbs<18446744073709551616:=by omega
 have D:=Zp k
 rw[ON];unfold MI
 by_cases h:v<0
 ·have e:wrap .u64 (wrap .u64 (wrap .i64 ((0:Int) - wrap .i64 (v+1)))+1)=(v.natAbs:Int):=by
   rw[i64 (a:=v+1) (by omega),i64 (by omega),ZC,ZC];omega
  rw[decide_eq_true h,ct,e,FA k (by omega),Anx,Hq rfl (Ad _) ⟨by omega,by omega⟩,Ak]
  have:(if true=true then -(v.natAbs:Int)else(v.natAbs:Int))=v:=by rw[if_pos rfl];omega
  rw[this];exact fS _ _
 ·have e:wrap .u64 v=(v.natAbs:Int):=by rw[ZC];omega
  rw[decide_eq_false h,cf,e,FA k (by omega),Anx,Hq rfl (Ad _) ⟨by omega,by omega⟩,Ak]
  have:(if false=true then -(v.natAbs:Int)else(v.natAbs:Int))=v:=by rw[if_neg (by decide)];omega
  rw[this];exact fS _ _
def aS{N:Nat}{n:Bool}{s:LS}{o:Bool}{K:LA->O R}(hs:Al s.l)(k:fit s.l.length N):HW N (J5 n s) o K=K (Gu (Ax n s)):=by
 rw[dT];unfold iN
 rw[Tl,Pp,Hq rfl hs k];exact fS _ _
def r7{N:Nat}{n:Bool}{s:LS}{o:Bool}{K:Int->O R}(hs:Al s.l)(k:fit s.l.length N):HX N (J5 n s) o K=K (Ax n s).sign:=by
 rw[dU];unfold iO
 rw[aR,ct,tj,aS hs k,Avf,show(true&&(true&&(!false)))=true by rfl,ct]
 have e:setCells (J5 n s) 0 (Gu (Ax n s))=Gu (Ax n s):=rfl
 rw[e]
 generalize Ax n s=z
 unfold Gu
 rw[Tl]
 rcases A1d z 0 with h|h|h
 ·rw[decide_eq_true h,ct,Ayn h]
 ·subst h;rfl
 ·rw[decide_eq_false (by omega),cf,Pp]
  have:(Ao z.natAbs).length≠0:=fun hh=>by have:=Bl.1 hh;omega
  simp only[LS.l]
  rw[ti this,cf,Aze h]
def Ajj{N:Nat}{n:Bool}{s:LS}{o:Bool}{K:LA->O R}(hs:Al s.l)(k:fit s.l.length N):EN N (J5 n s) o K=K (Gu (-Ax n s)):=by
 rw[kX];unfold qX
 rw[Tl,Pp,Hq rfl hs k,<-Acb];exact fS _ _
def Ae8{N:Nat}{n1 n2:Bool}{s1 s2:LS}{o1 o2:Bool}{K:LA->O R}(k:Al s1.l)(C:Al s2.l)(D:fit (s1.l.length+s2.l.length) N):Zi N (J5 n1 s1) o1 (J5 n2 s2) o2 K=K (Gu (Ax n1 s1*Ax n2 s2)):=by
 have G:(Ao (val s1.l*val s2.l)).length<=s1.l.length+s2.l.length:=C1 (by rw[Ay0];exact Ay1 (Bc k) (Bc C))
 rw[k8];unfold qk
 rw[Tl,Tl,Pp,Pp,Ajc rfl rfl k C D,Anx,Hq rfl (Ad _) (D.le G),Ak]
 have I:Ax n1 s1*Ax n2 s2=if (!(n1==n2))then -((val s1.l*val s2.l:Nat):Int)else((val s1.l*val s2.l:Nat):Int):=by
  unfold Ax;cases n1<;>cases n2<;>simp[A44,Int.neg_mul]
 rw[<-I];exact fS _ _
def Ae9{N:Nat}{n1 n2:Bool}{s1 s2:LS}{o1 o2:Bool}{K:LA->O R}(I:Al s1.l)(L:Al s2.l)(k:fit (s1.l.length+s2.l.length+1) N):EM N (J5 n1 s1) o1 (J5 n2 s2) o2 K=K (Gu (Ax n1 s1+Ax n2 s2)):=by
 have v1:=Bc I
 have v2:=Bc L
 have T:=Hp (show s1.l.length<=s1.l.length+s2.l.length by omega)
 have Y:=Hp (show s2.l.length<=s1.l.length+s2.l.length by omega)
 rw[kW];unfold qW
 rw[Tl,Tl]
 by_cases hn:n1=n2
 ·subst hn
  have C:(Ao (val s1.l+val s2.l)).length<=s1.l.length+s2.l.length+1:=C1 (by rw[Ax3];omega)
  have D:Ax n1 s1+Ax n1 s2=if n1 then -((val s1.l+val s2.l:Nat):Int)else((val s1.l+val s2.l:Nat):Int):=by
   unfold Ax;cases n1<;>simp;omega
  rw[show(n1==n1)=true by simp,ct,Tl,Pp,Pp,iy rfl rfl I L k,Anx,Hq rfl (Ad _) (k.le C),Ak,<-D];exact fS _ _
 ·rw[show(n1==n2)=false by simp[hn],cf,Pp,Pp,iz rfl rfl I L (k.le (by omega))]
  by_cases G:val s2.l<=val s1.l
  ·have C:(Ao (val s1.l - val s2.l)).length<=s1.l.length+s2.l.length+1:=C1 (by rw[Ax3];omega)
   have D:Ax n1 s1+Ax n2 s2=if n1 then -((val s1.l - val s2.l:Nat):Int)else((val s1.l - val s2.l:Nat):Int):=by
    unfold Ax;cases n1<;>cases n2<;>simp at hn ⊢<;>omega
   rw[if_pos G,ct,Tl,Anx,Hq rfl (Ad _) (k.le C),Ak,<-D];exact fS _ _
  ·have C:(Ao (val s2.l - val s1.l)).length<=s1.l.length+s2.l.length+1:=C1 (by rw[Ax3];omega)
   have D:Ax n1 s1+Ax n2 s2=if n2 then -((val s2.l - val s1.l:Nat):Int)else((val s2.l - val s1.l:Nat):Int):=by
    unfold Ax;cases n1<;>cases n2<;>simp at hn ⊢<;>omega
   rw[if_neg G,cf,Pp,Pp,iz rfl rfl L I (k.le (by omega)),if_pos (by omega),Tl,Anx,Hq rfl (Ad _) (k.le C),Ak,<-D];exact fS _ _
def Ajk{N:Nat}{n1 n2:Bool}{s1 s2:LS}{o1 o2:Bool}{K:LA->O R}(k:Al s1.l)(C:Al s2.l)(D:fit (3*(s1.l.length+s2.l.length)+4) N):nY N (J5 n1 s1) o1 (J5 n2 s2) o2 K=K (Gu ((Nat.gcd (Ax n1 s1).natAbs (Ax n2 s2).natAbs:Nat):Int)):=by
 have G:(Ao (Nat.gcd (val s1.l) (val s2.l))).length<=s1.l.length+s2.l.length:=by
  rcases Ayf (val s1.l)with h|h
  ·rw[h,Nat.gcd_zero_left];have:=(Bi C).2;omega
  ·have:=Br (Nat.gcd_le_left (val s2.l) h);have:=(Bi k).2;omega
 rw[kV];unfold qV
 rw[Pp,Pp,Ajf rfl rfl k C D,Anx,Hq rfl (Ad _) (D.le (by omega)),Ak,Cu,Cu];exact fS _ _
def TG{N:Nat}{n1:Bool}{s1:LS}{g:Nat}{o1 o2:Bool}{K:LA->LA->Bool->O R}(C:Al s1.l)(G:0<g)(D:g∣val s1.l)(k:fit (s1.l.length+2*(Ao g).length+4) N):BZ N (J5 n1 s1) o1 (Gu (g:Int)) o2 K=K (Gu (Ax n1 s1/(g:Int))) (Gu 0) true:=by
 have hc:Gu (g:Int)=J5 false (.of (Ao g) false false):=by
  unfold Gu;rw[decide_eq_false (by omega),Ax8]
 have hq:(Ao (val s1.l/g)).length<=s1.l.length:=Ay7 (Br (Azp _ _)) (Bi C).2
 rw[hc,SR];unfold SQ
 rw[Pp,Pp,show(LS.of (Ao g) false false).l=Ao g by rfl]
 rw[MZ rfl rfl C (Ad _) (by rw[Ak];omega) k,Ak,Nat.mod_eq_zero_of_dvd D,show(!true)=false by rfl,cf,Tl,Tl,Anx,Hq rfl (Ad _) (k.le (by omega)),Tl,Anx,Hq rfl (Ad _) (k.le (by simp[D8])),Ak,Ak]
 have I:(if n1=true then -((0:Nat):Int)else((0:Nat):Int))=0:=by cases n1<;>rfl
 have e1:(if (!(n1==false))=true then -((val s1.l/g:Nat):Int)else((val s1.l/g:Nat):Int))=Ax n1 s1/(g:Int):=by
  obtain⟨c,hc⟩:=D
  have L:val s1.l/g=c:=by rw[hc,A3l _ G]
  rw[L];unfold Ax;rw[hc]
  cases n1
  ·simp;rw[A01 _ (by omega)]
  ·simp only[Bool.true_beq,Az2,if_true]
   rw[show -((g*c:Nat):Int)=(g:Int)*(-(c:Int)) by rw[A44];simp,A01 _ (by omega)]
 rw[I,e1]
 generalize Ax n1 s1/(g:Int)=q
 have r0:∀(f:Bool->O R),DD (Gu 0) f=f false:=fun f=>Tl
 rw[show((beq 0 0)&&((beq (List.length (Gu q)) 2)&&(beq 2 2)))=true by rfl,ct,show((beq 0 0)&&((beq (List.length (Gu 0)) 2)&&(beq 2 2)))=true by rfl,ct,r0,cf]
 rfl
def bK(q:Rat):RatD:=⟨decide (q.num<0),.of (Ao q.num.natAbs) false false,.of (Ao q.den) false false⟩
def cq(q:Rat):LA:=(bK q).av
def n8(q:Rat):(bK q).can q:=⟨rfl,rfl,rfl⟩
def Ap0(q:Rat):(bK q).q=q:=(n8 q).q
def Amn(q:Rat):(bK q).ok:=(n8 q).ok
def Ap1(q:Rat):(bK q).m=qm q:=(n8 q).m
def YE(q:Rat)(K:LA->O R):(cond ((beq 0 0)&&((beq (List.length (cq q)) 3)&&(beq 3 3))) (cond (ble 3 (List.length (cq q))) (K (take 3 (cq q))) none) none)=K (cq q):=rfl
def vd(q:Rat):ble 2 (List.length (cq q))=true:=rfl
def jD(q:Rat):take 2 (cq q)=Gu q.num:=rfl
def Aor:cq 0=[.bool false,.imm [] 0 1 false false,.imm [.int .u32 1] 1 1 false false]:=by
 have e:cq 0=[.bool false,.imm (Ae (Ao 0)) (Ao 0).length 1 false false,.imm (Ae (Ao 1)) (Ao 1).length 1 false false]:=rfl
 rw[e,Zr];rfl
def r8{N:Nat}{K:LA->O R}:HY N K=K (cq 0):=by
 rw[LZ];unfold VB
 rw[Aor]
def Avg{N:Nat}{z:Int}{o:Bool}{K:LA->O R}(k:fit (Ao z.natAbs).length N):EN N (Gu z) o K=K (Gu (-z)):=by
 have:=Ajj (R:=R) (N:=N) (n:=decide (z<0)) (s:=.of (Ao z.natAbs) false false) (o:=o) (K:=K) (Ad _) k
 rw[Jk]at this;exact this
def As4{N:Nat}{z:Int}{o:Bool}{K:Int->O R}(k:fit (Ao z.natAbs).length N):HX N (Gu z) o K=K z.sign:=by
 have:=r7 (R:=R) (N:=N) (n:=decide (z<0)) (s:=.of (Ao z.natAbs) false false) (o:=o) (K:=K) (Ad _) k
 rw[Jk]at this;exact this
def Amo{N:Nat}{z w:Int}{o o':Bool}{K:LA->O R}(k:fit ((Ao z.natAbs).length+(Ao w.natAbs).length) N):Zi N (Gu z) o (Gu w) o' K=K (Gu (z*w)):=by
 have:=Ae8 (R:=R) (N:=N) (n1:=decide (z<0)) (s1:=.of (Ao z.natAbs) false false) (n2:=decide (w<0)) (s2:=.of (Ao w.natAbs) false false) (o1:=o) (o2:=o') (K:=K) (Ad _) (Ad _) k
 rw[Jk,Jk]at this;exact this
def Avh{N:Nat}{z w:Int}{o o':Bool}{K:LA->O R}(k:fit ((Ao z.natAbs).length+(Ao w.natAbs).length+1) N):EM N (Gu z) o (Gu w) o' K=K (Gu (z+w)):=by
 have:=Ae9 (R:=R) (N:=N) (n1:=decide (z<0)) (s1:=.of (Ao z.natAbs) false false) (n2:=decide (w<0)) (s2:=.of (Ao w.natAbs) false false) (o1:=o) (o2:=o') (K:=K) (Ad _) (Ad _) k
 rw[Jk,Jk]at this;exact this
def Amp(z:Int):mkRat z 1=(z:Rat):=by
 apply Rat.ext
 ·rw[A4g,if_neg (by decide),Nat.gcd_one_left];simp
 ·rw[A4e,if_neg (by decide),Nat.gcd_one_left];simp
def Aos(z:Int)(w:Nat)(k:w≠0):(mkRat z w).num=z/((Nat.gcd z.natAbs w:Nat):Int)/\(mkRat z w).den=w/Nat.gcd z.natAbs w:=by
 refine⟨?_,?_⟩
 ·rw[A4g,if_neg k,Azh w]
 ·rw[A4e,if_neg k,Azh w]
def kz{N:Nat}{n1 n2:Bool}{s1 s2:LS}{o1 o2:Bool}{K:LA->O R}(T:Al s1.l)(G:Al s2.l)(hpos:0<=Ax n2 s2)(C:fit (4*(s1.l.length+s2.l.length)+10) N):N0 N (J5 n1 s1) o1 (J5 n2 s2) o2 K=K (cq (mkRat (Ax n1 s1) (Ax n2 s2).natAbs)):=by
 have D:=Cu n2 s2
 have I:=Cu n1 s1
 rw[eD];unfold VE
 rw[aR,ct,tj,r7 G (C.le (by omega))]
 by_cases h0:Ax n2 s2=0
 ·rw[h0,show((0:Int).sign==0)=true by rfl,ct,r8]
  rw[show(0:Int).natAbs=0 by rfl,Rat.mkRat_zero];exact YE _ _
 ·have hw:(Ax n2 s2).natAbs≠0:=by omega
  have Y:((Ax n2 s2).sign==0)=false:=by rw[Aze (by omega)];rfl
  rw[Y,cf,ct,aS G (C.le (by omega)),show((beq 0 0)&&((beq (List.length (Gu (Ax n2 s2))) 2)&&(beq 2 2)))=true by rfl,ct]
  have rb:∀(z:Int)(f:Bool->O R),DD (Gu z) f=f (decide (z<0)):=fun z f=>Tl
  have rl:∀(z:Int)(f:LA->Nat->O R),Bq 1 (drop 1 (Gu z)) f=f (Ae (Ao z.natAbs)) (Ao z.natAbs).length:=fun z f=>Pp
  have l2:=(Bi G).2
  have l1:=(Bi T).2
  rw[rb,decide_eq_false (by omega),show((!false)==true)=true by rfl,ct,rl,Amk,Amg (a:=Ao (Ax n2 s2).natAbs) (b:=[1]) (m:=1) rfl rfl (C.le (by rw[D];omega)),Aa3]
  by_cases k:(Ax n2 s2).natAbs=1
  ·rw[k,Zr,show decide (([1]:List Nat)=[1])=true by decide,ct,aR,ct,tj,aS T (C.le (by omega)),rl,k,Zr]
   rw[Amp]
   have e2:cq ((Ax n1 s1:Int):Rat)=[.bool (decide (Ax n1 s1<0)),.imm (Ae (Ao (Ax n1 s1).natAbs)) (Ao (Ax n1 s1).natAbs).length 1 false false,.imm (Ae [1]) 1 1 false false]:=by
    unfold cq bK RatD.av LS.av
    rw[Rat.num_intCast,Rat.den_intCast,Zr];rfl
   rw[e2];rfl
  ·have hne:decide (Ao (Ax n2 s2).natAbs=[1])=false:=by
    rw[decide_eq_false_iff_not];intro hh
    have:=congrArg val hh
    rw[Ak]at this;simp[val]at this;omega
   rw[hne,cf]
   unfold EO
   have L:0<Nat.gcd (Ax n1 s1).natAbs (Ax n2 s2).natAbs:=A02 _ (by omega)
   have hgl:(Ao (Nat.gcd (Ax n1 s1).natAbs (Ax n2 s2).natAbs)).length<=s2.l.length:=Ay7 (Br (Nat.gcd_le_right _ (by omega))) (by rw[D];exact l2)
   have hd1:Nat.gcd (Ax n1 s1).natAbs (Ax n2 s2).natAbs∣val s1.l:=by rw[<-I];exact A0i _ _
   have hd2:Nat.gcd (Ax n1 s1).natAbs (Ax n2 s2).natAbs∣val s2.l:=by rw[<-D];exact A1e _ _
   obtain⟨q1,q2⟩:=Aos (Ax n1 s1) (Ax n2 s2).natAbs hw
   rw[aR,ct,aR,ct,tj,tj,Ajk T G (C.le (by omega))]
   generalize hgd:Nat.gcd (Ax n1 s1).natAbs (Ax n2 s2).natAbs=g at *
   rw[show((beq 0 0)&&((beq (List.length (Gu (g:Int))) 2)&&(beq 2 2)))=true by rfl,ct,ct,show ble 2 (List.length (Gu (g:Int)))=true by rfl,ct,Aw8,TG T L hd1 (C.le (by omega))]
   rw[show ∀ z:Int,((beq 0 0)&&((beq (List.length (Gu z)) 2)&&(beq 2 2)))=true from fun z=>rfl,ct,show((beq 0 0)&&((beq (List.length (Gu 0)) 2)&&(beq 2 2)))=true by rfl,ct,ct,TG G L hd2 (C.le (by omega))]
   have hwz:Ax n2 s2/(g:Int)=(((Ax n2 s2).natAbs/g:Nat):Int):=by
    rw[show Ax n2 s2=(((Ax n2 s2).natAbs:Nat):Int) by omega];rfl
   rw[show ∀ z:Int,((beq 0 0)&&((beq (List.length (Gu z)) 2)&&(beq 2 2)))=true from fun z=>rfl,ct,ct,rb,hwz,decide_eq_false (by omega),cf,show ∀ z:Int,ble 2 (List.length (Gu z))=true from fun z=>rfl,ct,rl,Ax8,<-q2]
   rw[<-q1];rfl
def Acc{N:Nat}{z w:Int}{o o':Bool}{K:LA->O R}(k:0<=w)(C:fit (4*((Ao z.natAbs).length+(Ao w.natAbs).length)+10) N):N0 N (Gu z) o (Gu w) o' K=K (cq (mkRat z w.natAbs)):=by
 have:=kz (R:=R) (N:=N) (n1:=decide (z<0)) (s1:=.of (Ao z.natAbs) false false) (n2:=decide (w<0)) (s2:=.of (Ao w.natAbs) false false) (o1:=o) (o2:=o') (K:=K) (Ad _) (Ad _) (by rw[Jk];exact k) C
 rw[Jk,Jk]at this;exact this
def Ip{N:Nat}{x:RatD}{o:Bool}{K:LA->O R}(k:x.ok)(C:fit (8*x.m+10) N):Lw N x.av o K=K (cq x.q):=by
 have m1:x.ns.l.length<=x.m:=A0v _ _
 have m2:x.ds.l.length<=x.m:=A06 _ _
 rw[eF];unfold iV
 rw[show ble 2 (List.length x.av)=true by rfl,ct,mj,Apz,Aji,kz (s2:=.of x.ds.l false o) k.1 k.2 (by unfold Ax;simp) (C.le (show 4*(x.ns.l.length+x.ds.l.length)+10<=_ by omega))]
 have:mkRat (Ax x.neg x.ns) (Ax false (.of x.ds.l false o)).natAbs=x.q:=by rw[Cu];rfl
 rw[this];exact YE _ _
def Vb{N:Nat}{x:RatD}{o:Bool}{K:LA->O R}(k:x.ok)(C:fit (8*x.m+10) N):Wa N x.av o K=K (Gu (x.q.den:Int)):=by
 rw[k_];unfold ql
 rw[J6,ct,Ei,Ip k C]
 have:=mj (R:=R) (x:=bK x.q) (f:=fun e f=>K [.bool false,.imm e f 1 false false])
 refine this.trans ?_
 unfold Gu;rw[decide_eq_false (by omega),Ax8];rfl
def YF(x:RatD)(k:x.ok):qm x.q<=x.m+1:=by
 have m1:x.ns.l.length<=x.m:=A0v _ _
 have m2:x.ds.l.length<=x.m:=A06 _ _
 unfold qm
 by_cases h:val x.ds.l=0
 ·have:x.q=0:=by unfold RatD.q;rw[h,Rat.mkRat_zero]
  rw[this,Rat.zero_num,Rat.zero_den,Zr];simp[D8]
 ·obtain⟨a1,_,a3⟩:=rZ (Ax x.neg x.ns) (val x.ds.l) h
  have b1:x.q.num.natAbs<=val x.ns.l:=by show(mkRat _ _).num.natAbs<=_;rw[a1,Cu];exact Azp _ _
  have b2:x.q.den<=val x.ds.l:=by show(mkRat _ _).den<=_;rw[a3];exact Azp _ _
  have c1:=Ay7 (Br b1) (Bi k.1).2
  have C:=Ay7 (Br b2) (Bi k.2).2
  omega
def Ag0(z:Int)(d:Nat)(k:Nat)(C:z.natAbs<4294967296 ^ k)(D:d<4294967296 ^ k)(G:d≠0):qm (mkRat z d)<=k:=by
 obtain⟨a1,_,a3⟩:=rZ z d G
 unfold qm
 have b1:(mkRat z d).num.natAbs<=z.natAbs:=by rw[a1];exact Azp _ _
 have b2:(mkRat z d).den<=d:=by rw[a3];exact Azp _ _
 have c1:=C1 (Ayt b1 C)
 have I:=C1 (Ayt b2 D)
 omega
def TH(q:Rat):q.num.natAbs<4294967296 ^ qm q:=Amm (A0v _ _)
def GA(q:Rat):q.den<4294967296 ^ qm q:=Amm (A06 _ _)
def Oc(a b:Rat):qm (a+b)<=qm a+qm b+1:=by
 rw[Rat.add_def']
 have da:(a.den:Int).natAbs<4294967296 ^ qm a:=by rw[Ax8];exact GA a
 have db:(b.den:Int).natAbs<4294967296 ^ qm b:=by rw[Ax8];exact GA b
 refine Ag0 _ _ _ ?_ ?_ (A2g a.den_nz b.den_nz)
 ·refine fQ (J3 (TH a) db) ?_
  have:=J3 (TH b) da
  rwa [A0y (qm b)]at this
 ·rw[Ax3,Ay0]
  have:=Ay1 (GA a) (GA b)
  omega
def J4(a b:Rat):qm (a*b)<=qm a+qm b:=by
 rw[Rat.mul_def']
 refine Ag0 _ _ _ (J3 (TH a) (TH b)) ?_ (A2g a.den_nz b.den_nz)
 rw[Ay0];exact Ay1 (GA a) (GA b)
def yf(a:Rat):qm (-a)=qm a:=by unfold qm;rw[Rat.neg_num,Rat.neg_den,Int.natAbs_neg]
def Od(a b:Rat):qm (a - b)<=qm a+qm b+1:=by rw[A1a,<-yf b];exact Oc _ _
def Ard{v:Int}(h:v.natAbs<18446744073709551616):qm (v:Rat)<=2:=by
 unfold qm;rw[Rat.num_intCast,Rat.den_intCast,Zr]
 have:=Zp h
 simp;omega
def Aw9{a:Int}{b:Nat}:mkRat a (b:Int).natAbs=mkRat a b:=by rw[Ax8]
def Afa{N:Nat}{x:RatD}{o:Bool}{K:LA->O R}(C:x.ok)(k:fit (16*x.m+40) N):nZ N x.av o K=K (cq (-x.q)):=by
 have hq:=YF x C
 have D:(Ao x.q.num.natAbs).length<=qm x.q:=A0v _ _
 have G:(Ao x.q.den).length<=qm x.q:=A06 _ _
 rw[kp];unfold qs
 rw[J6,ct,Ei,Ip C (k.le (by omega)),vd,ct,jD,Avg (k.le (show(Ao x.q.num.natAbs).length<=_ by omega)),ct,Vb C (k.le (by omega)),Acc (by omega) (k.le (show 4*((Ao (-x.q.num).natAbs).length+(Ao (x.q.den:Int).natAbs).length)+10<=_ by rw[Int.natAbs_neg,Ax8];omega)),Aw9]
 have:mkRat (-x.q.num) x.q.den=-x.q:=by rw[<-Rat.neg_mkRat,Rat.mkRat_self]
 rw[this];exact YE _ _
def r9{N:Nat}{x y:RatD}{o o':Bool}{K:LA->O R}(D:x.ok)(G:y.ok)(C:fit (16*(x.m+y.m)+80) N):Wb N x.av o y.av o' K=K (cq (x.q+y.q)):=by
 have I:=YF x D
 have L:=YF y G
 have x1:=TH x.q
 have x2:(x.q.den:Int).natAbs<4294967296 ^ qm x.q:=by rw[Ax8];exact GA _
 have y1:=TH y.q
 have y2:(y.q.den:Int).natAbs<4294967296 ^ qm y.q:=by rw[Ax8];exact GA _
 have L1:=C1 x1
 have L2:=C1 x2
 have L3:=C1 y1
 have L4:=C1 y2
 have z1:=J3 x1 y2
 have z2:=J3 y1 x2
 have z3:=fQ (k:=qm x.q+qm y.q) z1 (by rwa [A0y])
 have z4:=J3 x2 y2
 have M1:=C1 z1
 have M2:=C1 z2
 have M3:=C1 z3
 have M4:=C1 z4
 rw[kj];unfold qr
 rw[J6,ct,Ei,Ip D (C.le (by omega)),J6,ct,Ei,Ip G (C.le (by omega)),show ∀ q,((beq 0 0)&&((beq (List.length (cq q)) 3)&&(beq 3 3)))=true from fun q=>rfl,ct,show ∀ q,((beq 0 0)&&((beq (List.length (cq q)) 3)&&(beq 3 3)))=true from fun q=>rfl,ct,vd,ct,ct,Vb G (C.le (by omega)),jD,Amo (C.le (show(Ao x.q.num.natAbs).length+(Ao (y.q.den:Int).natAbs).length<=_ by omega)),vd,ct,ct,Vb D (C.le (by omega)),jD,Amo (C.le (show(Ao y.q.num.natAbs).length+(Ao (x.q.den:Int).natAbs).length<=_ by omega)),Avh (C.le (show(Ao (x.q.num*(y.q.den:Int)).natAbs).length+(Ao (y.q.num*(x.q.den:Int)).natAbs).length+1<=_ by omega)),ct,Vb D (C.le (by omega)),ct,Vb G (C.le (by omega)),Amo (C.le (show(Ao (x.q.den:Int).natAbs).length+(Ao (y.q.den:Int).natAbs).length<=_ by omega)),Acc (A2w (by omega) (by omega)) (C.le (show 4*((Ao (x.q.num*(y.q.den:Int)+y.q.num*(x.q.den:Int)).natAbs).length+(Ao ((x.q.den:Int)*(y.q.den:Int)).natAbs).length)+10<=_ by omega))]
 have:mkRat (x.q.num*(y.q.den:Int)+y.q.num*(x.q.den:Int)) ((x.q.den:Int)*(y.q.den:Int)).natAbs=x.q+y.q:=by
  rw[Rat.add_def',A0c,Ax8,Ax8]
 rw[this];exact YE _ _
def r_{N:Nat}{x y:RatD}{o o':Bool}{K:LA->O R}(D:x.ok)(k:y.ok)(C:fit (16*(x.m+y.m)+100) N):Tb N x.av o y.av o' K=K (cq (x.q - y.q)):=by
 have G:=YF y k
 rw[kq];unfold qu
 rw[J6,ct,J6,ct,Ei,Ei,Afa k (C.le (by omega))]
 have:=r9 (R:=R) (N:=N) (x:=x) (y:=bK (-y.q)) (o:=o) (o':=false) (K:=fun e=>cond ((beq 0 0)&&((beq (List.length e) 3)&&(beq 3 3))) (cond (ble 3 (List.length e)) (K (take 3 e)) none) none) D (Amn _) (C.le (by rw[Ap1,yf];omega))
 rw[Ap0,<-A1a]at this
 exact this.trans (YE _ _)
def lA{N:Nat}{x:RatD}{o:Bool}{K:Int->O R}(k:x.ok)(C:fit (8*x.m+10) N):B_ N x.av o K=K x.q.num.sign:=by
 have hq:=YF x k
 have D:(Ao x.q.num.natAbs).length<=qm x.q:=A0v _ _
 rw[eH];unfold iW
 rw[J6,ct,Ei,Ip k C,vd,ct,jD,As4 (C.le (show(Ao x.q.num.natAbs).length<=_ by omega))]
def Amq(a b:Rat):(a - b).num.sign=Zs a b:=by
 unfold Zs
 by_cases h:a<b
 ·rw[if_pos h]
  have k:a - b<0:=by grind
  have:(a - b).num<0:=by
   apply Int.not_le.1;intro C
   exact absurd (A36.1 C) (A21.2 k)
  exact Ayn this
 ·rw[if_neg h]
  by_cases C:b<a
  ·rw[if_pos C]
   have k:0<a - b:=by grind
   have D:0<=(a - b).num:=A36.2 (A2r k)
   have G:(a - b).num≠0:=fun hh=>by
    have:=A1b.1 hh
    rw[this]at k;exact absurd k A3f
   exact Aze (by omega)
  ·rw[if_neg C]
   have:a=b:=A1t (A4m.1 C) (A4m.1 h)
   rw[this,A14];rfl
def TI{N:Nat}{x y:RatD}{o o':Bool}{K:Int->O R}(k:x.ok)(C:y.ok)(D:fit (16*(x.m+y.m)+100) N):C6 N x.av o y.av o' K=K (Zs x.q y.q):=by
 have G:=YF x k
 have I:=YF y C
 have hs:=Od x.q y.q
 rw[OP];unfold MK
 rw[J6,ct,J6,ct,Ei,Ei,r_ k C D]
 have:=lA (R:=R) (N:=N) (x:=bK (x.q - y.q)) (o:=false) (K:=fun g=>K g) (Amn _) (D.le (by rw[Ap1];omega))
 rw[Ap0,Amq]at this
 exact this
def Afb{N:Nat}{x y:RatD}{o o':Bool}{K:LA->O R}(C:x.ok)(D:y.ok)(k:fit (16*(x.m+y.m)+80) N):ER N x.av o y.av o' K=K (cq (x.q*y.q)):=by
 have G:=YF x C
 have I:=YF y D
 have x1:=TH x.q
 have x2:(x.q.den:Int).natAbs<4294967296 ^ qm x.q:=by rw[Ax8];exact GA _
 have y1:=TH y.q
 have y2:(y.q.den:Int).natAbs<4294967296 ^ qm y.q:=by rw[Ax8];exact GA _
 have L1:=C1 x1
 have L2:=C1 x2
 have L3:=C1 y1
 have L4:=C1 y2
 have M1:=C1 (J3 x1 y1)
 have M4:=C1 (J3 x2 y2)
 rw[ki];unfold qq
 rw[J6,ct,Ei,Ip C (k.le (by omega)),vd,ct,J6,ct,Ei,Ip D (k.le (by omega)),vd,ct,jD,jD,Amo (k.le (show(Ao x.q.num.natAbs).length+(Ao y.q.num.natAbs).length<=_ by omega)),ct,Vb C (k.le (by omega)),ct,Vb D (k.le (by omega)),Amo (k.le (show(Ao (x.q.den:Int).natAbs).length+(Ao (y.q.den:Int).natAbs).length<=_ by omega)),Acc (A2w (by omega) (by omega)) (k.le (show 4*((Ao (x.q.num*y.q.num).natAbs).length+(Ao ((x.q.den:Int)*(y.q.den:Int)).natAbs).length)+10<=_ by omega))]
 have:mkRat (x.q.num*y.q.num) ((x.q.den:Int)*(y.q.den:Int)).natAbs=x.q*y.q:=by
  rw[Rat.mul_def',A0c,Ax8,Ax8]
 rw[this];exact YE _ _
def ra{N:Nat}{v:Int}{K:LA->O R}(k:-9223372036854775808<=v/\v<=9223372036854775807)(hN:4000<=N):Bg N v K=K (cq (v:Rat)):=by
 have C:=Zp (show v.natAbs<18446744073709551616 by omega)
 rw[OO];unfold MJ
 rw[We k (by omega),We (by omega) (by omega),Acc (by omega) ⟨show 100*(4*((Ao v.natAbs).length+(Ao (1:Int).natAbs).length)+10)+1000<=N by(rw[show(1:Int).natAbs=1 by rfl,Zr];simp;omega),show 4*((Ao v.natAbs).length+(Ao (1:Int).natAbs).length)+10<=1000000000 by(rw[show(1:Int).natAbs=1 by rfl,Zr];simp;omega)⟩]
 have:mkRat v (1:Int).natAbs=(v:Rat):=Amp v
 rw[this];exact YE _ _
def Amr{N:Nat}{v w:Int}{K:LA->O R}(k:-9223372036854775808<=v/\v<=9223372036854775807)(D:0<=w/\w<=9223372036854775807)(hN:4000<=N):iY N v w K=K (cq (mkRat v w.natAbs)):=by
 have G:=Zp (show v.natAbs<18446744073709551616 by omega)
 have C:=Zp (show w.natAbs<18446744073709551616 by omega)
 rw[rA];unfold yV
 rw[We k (by omega),We (by omega) (by omega),Acc (by omega) ⟨show 100*(4*((Ao v.natAbs).length+(Ao w.natAbs).length)+10)+1000<=N by omega,show 4*((Ao v.natAbs).length+(Ao w.natAbs).length)+10<=1000000000 by omega⟩]
 exact YE _ _
def Afc{N:Nat}{x y:RatD}{o o':Bool}{K:LA->O R}(C:x.ok)(D:y.ok)(k:fit (16*(x.m+y.m)+100) N):eK N x.av o y.av o' K=K (cq (if x.q<=y.q then x.q else y.q)):=by
 rw[ku];unfold qz
 rw[J6,ct,J6,ct,Ei,Ei,TI C D k]
 by_cases h:x.q<=y.q
 ·rw[decide_eq_true (ye.2 h),ct,ct,Ip C (k.le (by omega)),if_pos h];exact YE _ _
 ·rw[decide_eq_false (fun hh=>h (ye.1 hh)),cf,ct,Ip D (k.le (by omega)),if_neg h];exact YE _ _
end
end Gx
namespace Gx
open Go Go.Proofs
section
variable{R:Type}
def Ys(x:RatD):take 3 x.av=x.av:=rfl
def b3(x:RatD):ble 3 (List.length x.av)=true:=rfl
def c3(x:RatD):((beq 0 0)&&((beq (List.length x.av) 3)&&(beq 3 3)))=true:=rfl
def Auk(x:RatD):((beq (List.length x.av) 3)&&(true&&(!false)))=true:=rfl
def Afd(x y:RatD):setCells x.av 0 y.av=y.av:=rfl
section
variable{N:Nat}{X:O R}{K:LA->O R}{x y:RatD}{o o':Bool}{p q:Rat}
def aT(k:x.can p)(C:y.can q)(G:fit (8*(qm p+qm q)+40) N)(h:∀ d:RatD,d.can (p+q)->K d.av=X):Sz N x.av o y.av o' K=X:=by
 obtain⟨d,D,e⟩:=v_ (R:=R) (N:=N) (o:=o) (o':=o') k.ok C.ok (by rw[k.m,C.m];exact G)
 rw[e];exact h d (by rw[k.q,C.q]at D;exact D)
def rf(k:x.can p)(C:y.can q)(G:fit (8*(qm p+qm q)+40) N)(h:∀ d:RatD,d.can (p - q)->K d.av=X):BQ N x.av o y.av o' K=X:=by
 obtain⟨d,D,e⟩:=va (R:=R) (N:=N) (o:=o) (o':=o') k.ok C.ok (by rw[k.m,C.m];exact G)
 rw[e];exact h d (by rw[k.q,C.q]at D;exact D)
def TJ(k:x.can p)(C:y.can q)(G:fit (8*(qm p+qm q)+40) N)(h:∀ d:RatD,d.can (p*q)->K d.av=X):Pm N x.av o y.av o' K=X:=by
 obtain⟨d,D,e⟩:=jC (R:=R) (N:=N) (o:=o) (o':=o') k.ok C.ok (by rw[k.m,C.m];exact G)
 rw[e];exact h d (by rw[k.q,C.q]at D;exact D)
def Ev{v:Int}(k:-9223372036854775808<=v/\v<=9223372036854775807)(hN:4<=N)(h:∀ d:RatD,d.can (v:Rat)->K d.av=X):Ba N v K=X:=by
 obtain⟨d,C,e⟩:=tq (R:=R) (N:=N) k hN
 rw[e];exact h d C
end
def Aot{q:Rat}:decide (q.num.sign<=0)=decide (q<=0):=by
 have e:q<=0↔q.num<=0:=by
  rw[A3y,<-A36,A1a,A3r,Rat.neg_num];omega
 rw[decide_eq_decide,e]
 rcases A1d q.num 0 with h|h|h
 ·rw[Ayn h];omega
 ·rw[h];simp
 ·rw[Aze h];omega
def qi{v:Int}(h:-9223372036854775808<=v/\v<=9223372036854775807):qm (v:Rat)<=2:=Ard (by omega)
def Ew:Rat->List SegD->Rat
|_,[]=>0
|G0,s::r=>if G0<=0 then 0 else(s.price:Rat)*(if G0<=(s.width:Rat)then G0 else(s.width:Rat))+Ew (G0 - (if G0<=(s.width:Rat)then G0 else(s.width:Rat))) r
def Are(l:List SegD):Prop:=∀ s∈l,-1048576<=s.width/\s.width<=1048576/\-1048576<=s.price/\s.price<=1048576
def RatD.is(x:RatD)(q:Rat)(m:Nat):Prop:=x.ok/\x.q=q/\x.m<=m
def RatD.can.is{x:RatD}{q:Rat}{m:Nat}(h:x.can q)(k:qm q<=m):x.is q m:=⟨h.ok,h.q,by rw[h.m];exact k⟩
def Ajl:RatD:=⟨false,.nil,.nil⟩
def Aou{m:Nat}:Ajl.is 0 m:=by
 refine⟨⟨?_,?_⟩,?_,?_⟩
 ·intro x k;simp[Ajl,LS.l]at k
 ·intro x k;simp[Ajl,LS.l]at k
 ·simp[Ajl,RatD.q,LS.l,Ax,val]
 ·simp[Ajl,RatD.m,LS.l]
def RatD.is.qm{x:RatD}{q:Rat}{m:Nat}(h:x.is q m):qm q<=m+1:=by
 have:=YF x h.1
 rw[h.2.1]at this;have:=h.2.2;omega
section
variable{N:Nat}{X:O R}{K:LA->O R}{K':Int->O R}{x y:RatD}{o o':Bool}{p q:Rat}{m n:Nat}
def Aov(k:x.is p m)(C:y.is q n)(G:fit (8*(m+n)+40) N)(h:∀ d:RatD,d.can (p - q)->K d.av=X):BQ N x.av o y.av o' K=X:=by
 obtain⟨d,D,e⟩:=va (R:=R) (N:=N) (o:=o) (o':=o') k.1 C.1 (G.le (by have:=k.2.2;have:=C.2.2;omega))
 rw[e];exact h d (by rw[k.2.1,C.2.1]at D;exact D)
def As5(k:x.is p m)(C:y.is q n)(D:fit (4*(m+n)+10) N):Nw N x.av o y.av o' K'=K' (Zs p q):=by rw[YD k.1 C.1 (D.le (by have:=k.2.2;have:=C.2.2;omega)),k.2.1,C.2.1]
def tz(k:x.is p m)(C:y.is q n)(D:fit (16*(m+n)+100) N):C6 N x.av o y.av o' K'=K' (Zs p q):=by rw[TI k.1 C.1 (D.le (by have:=k.2.2;have:=C.2.2;omega)),k.2.1,C.2.1]
def Ajm(k:x.is p m)(C:y.is q n)(D:fit (16*(m+n)+100) N):Tb N x.av o y.av o' K=K (bK (p - q)).av:=by rw[r_ k.1 C.1 (D.le (by have:=k.2.2;have:=C.2.2;omega)),k.2.1,C.2.1];rfl
def Ams(k:x.is p m)(C:y.is q n)(D:fit (16*(m+n)+80) N):Wb N x.av o y.av o' K=K (bK (p+q)).av:=by rw[r9 k.1 C.1 (D.le (by have:=k.2.2;have:=C.2.2;omega)),k.2.1,C.2.1];rfl
def Aow(k:x.is p m)(C:y.is q n)(D:fit (16*(m+n)+80) N):ER N x.av o y.av o' K=K (bK (p*q)).av:=by rw[Afb k.1 C.1 (D.le (by have:=k.2.2;have:=C.2.2;omega)),k.2.1,C.2.1];rfl
def Avi(k:x.is p m)(C:y.is q n)(D:fit (16*(m+n)+100) N):eK N x.av o y.av o' K=K (bK (if p<=q then p else q)).av:=by rw[Afc k.1 C.1 (D.le (by have:=k.2.2;have:=C.2.2;omega)),k.2.1,C.2.1];rfl
def Yt{v:Int}(k:-9223372036854775808<=v/\v<=9223372036854775807)(hN:4000<=N):Bg N v K=K (bK (v:Rat)).av:=ra k hN
end
def Ly{q:Rat}{m:Nat}(h:qm q<=m):(bK q).is q m:=(n8 q).is h
def Ajn{v:Int}(h:-9223372036854775808<=v/\v<=9223372036854775807):(bK (v:Rat)).is v 2:=Ly (qi h)
def Amt{p q:Rat}:decide (Zs p q>=0)=decide (q<=p):=by
 rw[decide_eq_decide];unfold Zs
 by_cases h:p<q
 ·rw[if_pos h];simp[A21.2 h]
 ·rw[if_neg h];have:=A4m.1 h;simp only[this,iff_true];split<;>omega
def Afe{p q:Rat}:decide (Zs p q<=0)=decide (p<=q):=by rw[decide_eq_decide];exact ye
def As6(p:Rat)(lo hi:Int):Bool:=decide ((lo:Rat)<=p)&&decide (p<=(hi:Rat))
def Acd{N:Nat}{K:Bool->O R}{x:RatD}{p:Rat}{m:Nat}{o:Bool}{lo hi:Int}(k:x.is p m)(C:-9223372036854775808<=lo/\lo<=9223372036854775807)(D:-9223372036854775808<=hi/\hi<=9223372036854775807)(G:fit (16*(m+2)+100) N)(hN:4000<=N):ML N x.av o lo hi K=K (As6 p lo hi):=by
 rw[SX];unfold SW
 rw[b3,ct,Ys,Yt C hN,tz k (Ajn C) G,Amt,Yt D hN,tz k (Ajn D) G,Afe]
 unfold As6;cases decide ((lo:Rat)<=p)<;>rfl
end
end Gx
namespace Gx
open Go Go.Proofs
section
variable{R:Type}
def YG:Rat->List SegD->Rat
|_,[]=>0
|G0,s::r=>(if G0<=(s.width:Rat)then G0 else(s.width:Rat))*(s.price:Rat)+YG (G0 - (if G0<=(s.width:Rat)then G0 else(s.width:Rat))) r
def rg:∀{l:List SegD},(∀ s∈l,0<=s.width)->YG 0 l=0
|[],_=>rfl
| s::r,h=>by
  have k:(0:Rat)<=(s.width:Rat):=by
   have:=h s (by simp);exact_mod_cast this
  rw[YG,if_pos k,Rat.zero_mul,A14,rg fun s hs=>h s (by simp[hs]),A3q]
def Ace:∀{l:List SegD}{p:Rat},(∀ s∈l,0<=s.width)->0<=p->YG p l=Ew p l
|[],_,_,_=>rfl
| s::r,p,h,C=>by
  have D:(0:Rat)<=(s.width:Rat):=by
   have:=h s (by simp);exact_mod_cast this
  rw[Ew]
  by_cases k:p<=0
  ·have:p=0:=A1t k C
   subst this
   rw[if_pos Azr,rg h]
  ·rw[if_neg k,YG,Rat.mul_comm,Ace (fun s hs=>h s (by simp[hs]))]
   split
   ·rw[A14];exact Azr
   ·rename_i hn
    exact(A3y _ _).1 (A2r (A21.1 hn))
def Amu{N:Nat}{K:LA->O R}{u:UnitD}{d:Bool}{A:Nat}(hl:Are u.segs.l)(h8:u.segs.l.length<=8)(hA:2<=A)(G:fit (200*A+12000) N)(hN:4000<=N):∀(m j fuel:Nat)(p q:Rat),j+m=u.segs.l.length->m<fuel->qm p<=A+3*j->qm q<=2+j*(A+31) ->
  Ho N K d u.av fuel (j:Int) (bK p).av (bK q).av=K (bK (q+YG p (u.segs.l.drop j))).av:=by
 intro m
 induction m with
|zero =>
  intro j fuel p q hj I _ _
  obtain⟨fuel,rfl⟩:∃ k,fuel=k+1:=⟨fuel - 1,by omega⟩
  rw[Ho];unfold Qi
  rw[u4,Ki (by omega),cf,Hw (l:=u.segs.l) (by omega),YG,A3q];rfl
| succ m ih =>
  intro j fuel p q hj I hp hq
  obtain⟨fuel,rfl⟩:∃ k,fuel=k+1:=⟨fuel - 1,by omega⟩
  rw[Ho];unfold Qi
  have h:j<u.segs.l.length:=by omega
  have L:j<=8:=by omega
  have hr:=hl u.segs.l[j] (Axv h)
  have hjA:j*(A+31)<=8*(A+31):=Axs _ L
  rw[u4,Jo h,ct]
  simp only[b3,Ys,ct,u4]
  rw[Aa h,ct,y9 h,Av,Yt (by omega) hN]
  have T:=qi (v:=u.segs.l[j].width) (by omega)
  have Y:=qi (v:=u.segs.l[j].price) (by omega)
  rw[Avi (Ly hp) (Ly T) (G.le (by omega))]
  rw[Fo h,YG]
  generalize D:(if p<=(u.segs.l[j].width:Rat)then p else(u.segs.l[j].width:Rat))=part
  have C:qm part<=A+3*j:=by rw[<-D];split<;>omega
  simp only[b3,Ys,c3,ct]
  rw[show ∀ r:LA,drop 1 ((AV.int .i64 u.segs.l[j].width)::(AV.int .i64 u.segs.l[j].price)::r)=(AV.int .i64 u.segs.l[j].price)::r from fun _=>rfl,Av,Yt (by omega) hN]
  rw[Aow (Ly C) (Ly Y) (G.le (by omega))]
  have hqt:qm (part*(u.segs.l[j].price:Rat))<=2+(A+3*j):=by have:=J4 part (u.segs.l[j].price:Rat);omega
  rw[Ams (Ly hq) (Ly hqt) (G.le (by omega))]
  rw[Auk,ct,Ajm (Ly hp) (Ly C) (G.le (by omega)),Auk,ct,Afd,Afd,wS (by omega)]
  have hqa:qm (q+part*(u.segs.l[j].price:Rat))<=2+(j+1)*(A+31):=by
   have:=Oc q (part*(u.segs.l[j].price:Rat))
   rw[Ax2];omega
  have hqs:qm (p - part)<=A+3*(j+1):=by
   rw[<-D]
   split
   ·rw[A14]
    have:qm ((0:Int):Rat)<=2:=qi (by omega)
    have e:((0:Int):Rat)=0:=rfl
    rw[e]at this;omega
   ·have:=Od p (u.segs.l[j].width:Rat);omega
  rw[ih (j+1) fuel _ _ (by omega) (by omega) hqs hqa,Rat.add_assoc]
def yg{N:Nat}{K:LA->O R}{u:UnitD}{x:RatD}{o o':Bool}{p:Rat}{m:Nat}(C:x.is p m)(D:Are u.segs.l)(G:u.segs.l.length<=8)(I:-1048576<=u.min/\u.min<=1048576)(k:fit (200*(m+8)+12000) N)(hN:4000<=N):
  W3 N u.av o x.av o' K=K (bK (YG (p - (u.min:Rat)) u.segs.l)).av:=by
 rw[OT];unfold Zk
 rw[b3,ct,Ys,u2,Yt (by omega) hN,Ajm C (Ajn (by omega)) (k.le (by omega)),r8,c3,ct,show cq 0=(bK 0).av from rfl,c3,ct]
 have hq:qm (p - (u.min:Rat))<=m+4:=by have:=Od p (u.min:Rat);have:=C.qm;have:=qi (v:=u.min) (by omega);omega
 have L:qm (0:Rat)<=2:=qi (v:=0) (by omega)
 have:=Amu (K:=K) (d:=o) (A:=m+4) D G (by omega) (k.le (by omega)) hN u.segs.l.length 0 N (p - (u.min:Rat)) 0 (by omega) (by have:=k.1;omega) (by omega) (by omega)
 rw[Ayh,A3r]at this
 exact this
def Ce{u:UnitD}{h:Int}(k:A8 u h=true):(0<=u.min/\u.min<=1048576)/\(0<=u.max/\u.max<=1048576)/\u.min<=u.max:=by
 simp only[A8,Axr,Hu,decide_eq_true_eq]at k
 exact⟨k.2.2.1,k.2.2.2.1,k.2.2.2.2.2.2.2.1⟩
def Ja{u:UnitD}{h:Int}(k:A8 u h=true):u.segs.l.length<=8/\Ed (-1048576) u.segs.l=true/\Nd u.segs.l=u.max - u.min:=by
 simp only[A8,Axr]at k
 have:=k.2.2.2.2.2.2.2.2.2.2.2.2.2.2.2.1
 simpa[rQ]using this
def n9:∀{l:List SegD}{p:Int},Ed p l=true->(∀ s∈l,1<=s.width/\s.width<=1048576/\-1048576<=s.price/\s.price<=1048576)
|[],_,_,_,hs=>by simp at hs
|a::r,p,h,s,hs=>by
  simp only[Ed,Axr,Hu,decide_eq_true_eq]at h
  rcases Ax7.1 hs with rfl|hs
  ·omega
  ·exact n9 h.2.2.2 s hs
def IR{u:UnitD}{h:Int}(k:A8 u h=true):Are u.segs.l:=fun s hs=>by have:=n9 (Ja k).2.1 s hs;omega
def fT{A:Nat}:∀(l:List SegD)(p:Rat),Are l->2<=A->qm p<=A->qm (Ew p l)<=2+l.length*(A+3*l.length+31)
|[],p,_,_,_=>by
  have:qm (0:Rat)<=2:=qi (v:=0) (by omega)
  rw[Ew];simpa using this
| s::r,p,hs,hA,Y=>by
  have hr:=hs s (by simp)
  have I:=qi (v:=s.width) (by omega)
  have L:=qi (v:=s.price) (by omega)
  have h0:qm (0:Rat)<=2:=qi (v:=0) (by omega)
  rw[Ew]
  split
  ·omega
  ·generalize k:(if p<=(s.width:Rat)then p else(s.width:Rat))=part
   have D:qm part<=A:=by rw[<-k];split<;>omega
   have C:qm (p - part)<=A+3:=by
    rw[<-k];split
    ·rw[A14];omega
    ·have:=Od p (s.width:Rat);omega
   have T:=fT (A:=A+3) r (p - part) (fun s G=>hs s (by simp[G])) (by omega) C
   have h2:=J4 (s.price:Rat) part
   have h3:=Oc ((s.price:Rat)*part) (Ew (p - part) r)
   rw[Ayb]
   have:A+3+3*r.length+31=A+3*(r.length+1)+31:=by omega
   rw[this]at T
   rw[Ax2];omega
end
end Gx
